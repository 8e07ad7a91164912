/-
  DERIVED. GIVEN WITH THE SEED: THE CARDS: each row of YtfmabfhjccngbaaGreatDoorRows.lean that lists a variable, with what it lists TIED to the program's text (the seventh form; the later family's looks); each row that meets fmt, with fmt's text TOLD by the authors' own Lean function (tested against real Go, not proved from fmt's source: count such statements apart). THE CARD IS WHAT COUNTS. Prove the row's statement (the work); the ties are given (YtfmabfhjccngbaaGreatDoorTie.lean); close each card by the builder's one call (the guide's Derived/Test/ToyasCard.lean, 'card_holds'). Laid BY PROGRAM, IN A SANDBOX (cutbox-door.mjs). By AI agents, Wed Nov 11 2026. No macro, syntax, notation, axiom, sorry.
-/
import Derived.Test.YtfmabfhjccngbaaGreatDoorRows
import GoSem.ClaimSeven
namespace Go.Proofs.YtfmabfhjccngbaaGreatDoor
namespace Rows

/-- THE TIED CARD OF 'passkeylaw33.SigninVerifies'. -/
def signinVerifiesCard : Claim7 := { stood := { row := signinVerifiesRow, standIns := [], harness := (true, "de61249b3e8364ab033987adcfff9d2909e066e3ccc19762a1585f581b3a146d"), looks := false }, kinds := [], alts := [], laidByText := true, laidKinds := [.data, .pinned], laidTests := true, laidLooks := .later }
def SigninVerifiesCardSaid : Prop := Claim7.holds Tryz.pinned (.plain (OpenSpec.ofChange signinVerifiesSpec)) signinVerifiesCard

/-- THE SECOND FORM's CARD OF 'passkeylaw33.SigninVerifies'. -/
def signinVerifiesUptoCard : Claim7 := { stood := { row := signinVerifiesUptoRow, standIns := [], harness := (true, "de61249b3e8364ab033987adcfff9d2909e066e3ccc19762a1585f581b3a146d"), looks := false }, kinds := [], alts := [], laidByText := true, laidKinds := [.data, .pinned], laidTests := true, laidLooks := .later }
def SigninVerifiesUptoCardSaid : Prop := Claim7.holds Tryz.pinned (.plain (OpenSpec.upto signinVerifiesSpec)) signinVerifiesUptoCard
end Rows
end Go.Proofs.YtfmabfhjccngbaaGreatDoor
