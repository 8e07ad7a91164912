/-
  DERIVED. GIVEN WITH THE SEED: THE CARDS: each row of YtkopiepmdppifaaGreatDoorRows.lean that lists a variable, with what it lists TIED to the program's text (the seventh form; the later family's looks); each row that meets fmt, with fmt's text TOLD by the authors' own Lean function (tested against real Go, not proved from fmt's source: count such statements apart). THE CARD IS WHAT COUNTS. Prove the row's statement (the work); the ties are given (YtkopiepmdppifaaGreatDoorTie.lean); close each card by the builder's one call (the guide's Derived/Test/ToyasCard.lean, 'card_holds'). Laid BY PROGRAM, IN A SANDBOX (cutbox-door.mjs). By AI agents, Wed Nov 11 2026. No macro, syntax, notation, axiom, sorry.
-/
import Derived.Test.YtkopiepmdppifaaGreatDoorRows
import GoSem.ClaimSeven
namespace Go.Proofs.YtkopiepmdppifaaGreatDoor
namespace Rows

/-- THE TIED CARD OF 'passkeylaw25.DataParses'. -/
def dataParsesCard : Claim7 := { stood := { row := dataParsesRow, standIns := [], harness := (true, "f3f57a498330cd892dbfc104fb1d7442ab7767f3db6c1fc132edc1a8ebfdd6d0"), looks := false }, kinds := [], alts := [], laidByText := true, laidKinds := [.data, .pinned], laidTests := true, laidLooks := .later }
def DataParsesCardSaid : Prop := Claim7.holds Tryz.pinned (.plain (OpenSpec.ofChange dataParsesSpec)) dataParsesCard

/-- THE SECOND FORM's CARD OF 'passkeylaw25.DataParses'. -/
def dataParsesUptoCard : Claim7 := { stood := { row := dataParsesUptoRow, standIns := [], harness := (true, "f3f57a498330cd892dbfc104fb1d7442ab7767f3db6c1fc132edc1a8ebfdd6d0"), looks := false }, kinds := [], alts := [], laidByText := true, laidKinds := [.data, .pinned], laidTests := true, laidLooks := .later }
def DataParsesUptoCardSaid : Prop := Claim7.holds Tryz.pinned (.plain (OpenSpec.upto dataParsesSpec)) dataParsesUptoCard
end Rows
end Go.Proofs.YtkopiepmdppifaaGreatDoor
