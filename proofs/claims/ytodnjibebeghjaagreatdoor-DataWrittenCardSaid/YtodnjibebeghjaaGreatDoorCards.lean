/-
  DERIVED. GIVEN WITH THE SEED: THE CARDS: each row of YtodnjibebeghjaaGreatDoorRows.lean that lists a variable, with what it lists TIED to the program's text (the seventh form; the later family's looks); each row that meets fmt, with fmt's text TOLD by the authors' own Lean function (tested against real Go, not proved from fmt's source: count such statements apart). THE CARD IS WHAT COUNTS. Prove the row's statement (the work); the ties are given (YtodnjibebeghjaaGreatDoorTie.lean); close each card by the builder's one call (the guide's Derived/Test/ToyasCard.lean, 'card_holds'). Laid BY PROGRAM, IN A SANDBOX (cutbox-door.mjs). By AI agents, Wed Nov 11 2026. No macro, syntax, notation, axiom, sorry.
-/
import Derived.Test.YtodnjibebeghjaaGreatDoorRows
import GoSem.ClaimSeven
namespace Go.Proofs.YtodnjibebeghjaaGreatDoor
namespace Rows

/-- THE TIED CARD OF 'passkeylaw25.DataParses'. -/
def dataParsesCard : Claim7 := { stood := { row := dataParsesRow, standIns := [], harness := (true, "c1972c24076b3356755f8733af7d1228ed4bea45e27a7ce6ec5d68d3e5833813"), looks := false }, kinds := [], alts := [], laidByText := true, laidKinds := [.data, .pinned], laidTests := true, laidLooks := .later }
def DataParsesCardSaid : Prop := Claim7.holds Tryz.pinned (.plain (OpenSpec.ofChange dataParsesSpec)) dataParsesCard

/-- THE TIED CARD OF 'passkeylaw25.DataWritten'. -/
def dataWrittenCard : Claim7 := { stood := { row := dataWrittenRow, standIns := [], harness := (true, "c1972c24076b3356755f8733af7d1228ed4bea45e27a7ce6ec5d68d3e5833813"), looks := false }, kinds := [], alts := [], laidByText := true, laidKinds := [.data, .pinned], laidTests := true, laidLooks := .later }
def DataWrittenCardSaid : Prop := Claim7.holds Tryz.pinned (.plain (OpenSpec.ofChange dataWrittenSpec)) dataWrittenCard

/-- THE SECOND FORM's CARD OF 'passkeylaw25.DataParses'. -/
def dataParsesUptoCard : Claim7 := { stood := { row := dataParsesUptoRow, standIns := [], harness := (true, "c1972c24076b3356755f8733af7d1228ed4bea45e27a7ce6ec5d68d3e5833813"), looks := false }, kinds := [], alts := [], laidByText := true, laidKinds := [.data, .pinned], laidTests := true, laidLooks := .later }
def DataParsesUptoCardSaid : Prop := Claim7.holds Tryz.pinned (.plain (OpenSpec.upto dataParsesSpec)) dataParsesUptoCard

/-- THE SECOND FORM's CARD OF 'passkeylaw25.DataWritten'. -/
def dataWrittenUptoCard : Claim7 := { stood := { row := dataWrittenUptoRow, standIns := [], harness := (true, "c1972c24076b3356755f8733af7d1228ed4bea45e27a7ce6ec5d68d3e5833813"), looks := false }, kinds := [], alts := [], laidByText := true, laidKinds := [.data, .pinned], laidTests := true, laidLooks := .later }
def DataWrittenUptoCardSaid : Prop := Claim7.holds Tryz.pinned (.plain (OpenSpec.upto dataWrittenSpec)) dataWrittenUptoCard
end Rows
end Go.Proofs.YtodnjibebeghjaaGreatDoor
