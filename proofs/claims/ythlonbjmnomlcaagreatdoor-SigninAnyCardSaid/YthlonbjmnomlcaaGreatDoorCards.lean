/-
  DERIVED. GIVEN WITH THE SEED: THE CARDS: each row of YthlonbjmnomlcaaGreatDoorRows.lean that lists a variable, with what it lists TIED to the program's text (the seventh form; the later family's looks); each row that meets fmt, with fmt's text TOLD by the authors' own Lean function (tested against real Go, not proved from fmt's source: count such statements apart). THE CARD IS WHAT COUNTS. Prove the row's statement (the work); the ties are given (YthlonbjmnomlcaaGreatDoorTie.lean); close each card by the builder's one call (the guide's Derived/Test/ToyasCard.lean, 'card_holds'). Laid BY PROGRAM, IN A SANDBOX (cutbox-door.mjs). By AI agents, Wed Nov 11 2026. No macro, syntax, notation, axiom, sorry.
-/
import Derived.Test.YthlonbjmnomlcaaGreatDoorRows
import GoSem.ClaimSeven
namespace Go.Proofs.YthlonbjmnomlcaaGreatDoor
namespace Rows

/-- THE TIED CARD OF 'passkeylaw33.SigninAny'. -/
def signinAnyCard : Claim7 := { stood := { row := signinAnyRow, standIns := [], harness := (true, "5851c81d8065f3794634872f6869466eaab17d41eca429e413876313e6031da7"), looks := false }, kinds := [], alts := [], laidByText := true, laidKinds := [.data, .pinned], laidTests := true, laidLooks := .later }
def SigninAnyCardSaid : Prop := Claim7.holds Tryz.pinned (.plain (OpenSpec.ofChange signinAnySpec)) signinAnyCard

/-- THE SECOND FORM's CARD OF 'passkeylaw33.SigninAny'. -/
def signinAnyUptoCard : Claim7 := { stood := { row := signinAnyUptoRow, standIns := [], harness := (true, "5851c81d8065f3794634872f6869466eaab17d41eca429e413876313e6031da7"), looks := false }, kinds := [], alts := [], laidByText := true, laidKinds := [.data, .pinned], laidTests := true, laidLooks := .later }
def SigninAnyUptoCardSaid : Prop := Claim7.holds Tryz.pinned (.plain (OpenSpec.upto signinAnySpec)) signinAnyUptoCard
end Rows
end Go.Proofs.YthlonbjmnomlcaaGreatDoor
