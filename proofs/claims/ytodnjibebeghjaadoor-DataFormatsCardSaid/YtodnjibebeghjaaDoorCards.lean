/-
  DERIVED. GIVEN WITH THE SEED: THE CARDS: each row of YtodnjibebeghjaaDoorRows.lean that lists a variable, with what it lists TIED to the program's text (the seventh form; the later family's looks); each row that meets fmt, with fmt's text TOLD by the authors' own Lean function (tested against real Go, not proved from fmt's source: count such statements apart). THE CARD IS WHAT COUNTS. Prove the row's statement (the work); the ties are given (YtodnjibebeghjaaDoorTie.lean); close each card by the builder's one call (the guide's Derived/Test/ToyasCard.lean, 'card_holds'). Laid BY PROGRAM, IN A SANDBOX (cutbox-door.mjs). By AI agents, Wed Nov 11 2026. No macro, syntax, notation, axiom, sorry.
-/
import Derived.Test.YtodnjibebeghjaaDoorRows
import GoSem.ClaimSeven
namespace Go.Proofs.YtodnjibebeghjaaDoor
namespace Rows

/-- THE TIED CARD OF 'passkeylaw25.DataBase'. -/
def dataBaseCard : Claim7 := { stood := { row := dataBaseRow, standIns := [], harness := (true, "7921500ff3335a60c4ab60a55aaa79c6a73804c6c0cccff8e0609fb245180e1d"), looks := false }, kinds := [], alts := [], laidByText := true, laidKinds := [.data, .pinned], laidTests := true, laidLooks := .later }
def DataBaseCardSaid : Prop := Claim7.holds Tryd.pinned (.plain (OpenSpec.ofChange dataBaseSpec)) dataBaseCard

/-- THE TIED CARD OF 'passkeylaw25.DataBaseBack'. -/
def dataBaseBackCard : Claim7 := { stood := { row := dataBaseBackRow, standIns := [], harness := (true, "7921500ff3335a60c4ab60a55aaa79c6a73804c6c0cccff8e0609fb245180e1d"), looks := false }, kinds := [], alts := [], laidByText := true, laidKinds := [.data, .pinned], laidTests := true, laidLooks := .later }
def DataBaseBackCardSaid : Prop := Claim7.holds Tryd.pinned (.plain (OpenSpec.ofChange dataBaseBackSpec)) dataBaseBackCard

/-- THE TIED CARD OF 'passkeylaw25.DataFormats'. -/
def dataFormatsCard : Claim7 := { stood := { row := dataFormatsRow, standIns := [], harness := (true, "7921500ff3335a60c4ab60a55aaa79c6a73804c6c0cccff8e0609fb245180e1d"), looks := false }, kinds := [], alts := [], laidByText := true, laidKinds := [.data, .pinned], laidTests := true, laidLooks := .later }
def DataFormatsCardSaid : Prop := Claim7.holds Tryd.pinned (.plain (OpenSpec.ofChange dataFormatsSpec)) dataFormatsCard

/-- THE TIED CARD OF 'passkeylaw25.DataBack'. -/
def dataBackCard : Claim7 := { stood := { row := dataBackRow, standIns := [], harness := (true, "7921500ff3335a60c4ab60a55aaa79c6a73804c6c0cccff8e0609fb245180e1d"), looks := false }, kinds := [], alts := [], laidByText := true, laidKinds := [.data, .pinned], laidTests := true, laidLooks := .later }
def DataBackCardSaid : Prop := Claim7.holds Tryd.pinned (.plain (OpenSpec.ofChange dataBackSpec)) dataBackCard

/-- THE TIED CARD OF 'passkeylaw25.DataHashes'. -/
def dataHashesCard : Claim7 := { stood := { row := dataHashesRow, standIns := [], harness := (true, "7921500ff3335a60c4ab60a55aaa79c6a73804c6c0cccff8e0609fb245180e1d"), looks := false }, kinds := [], alts := [], laidByText := true, laidKinds := [.data, .pinned], laidTests := true, laidLooks := .later }
def DataHashesCardSaid : Prop := Claim7.holds Tryd.pinned (.plain (OpenSpec.ofChange dataHashesSpec)) dataHashesCard

/-- THE SECOND FORM's CARD OF 'passkeylaw25.DataBase'. -/
def dataBaseUptoCard : Claim7 := { stood := { row := dataBaseUptoRow, standIns := [], harness := (true, "7921500ff3335a60c4ab60a55aaa79c6a73804c6c0cccff8e0609fb245180e1d"), looks := false }, kinds := [], alts := [], laidByText := true, laidKinds := [.data, .pinned], laidTests := true, laidLooks := .later }
def DataBaseUptoCardSaid : Prop := Claim7.holds Tryd.pinned (.plain (OpenSpec.upto dataBaseSpec)) dataBaseUptoCard

/-- THE SECOND FORM's CARD OF 'passkeylaw25.DataBaseBack'. -/
def dataBaseBackUptoCard : Claim7 := { stood := { row := dataBaseBackUptoRow, standIns := [], harness := (true, "7921500ff3335a60c4ab60a55aaa79c6a73804c6c0cccff8e0609fb245180e1d"), looks := false }, kinds := [], alts := [], laidByText := true, laidKinds := [.data, .pinned], laidTests := true, laidLooks := .later }
def DataBaseBackUptoCardSaid : Prop := Claim7.holds Tryd.pinned (.plain (OpenSpec.upto dataBaseBackSpec)) dataBaseBackUptoCard

/-- THE SECOND FORM's CARD OF 'passkeylaw25.DataFormats'. -/
def dataFormatsUptoCard : Claim7 := { stood := { row := dataFormatsUptoRow, standIns := [], harness := (true, "7921500ff3335a60c4ab60a55aaa79c6a73804c6c0cccff8e0609fb245180e1d"), looks := false }, kinds := [], alts := [], laidByText := true, laidKinds := [.data, .pinned], laidTests := true, laidLooks := .later }
def DataFormatsUptoCardSaid : Prop := Claim7.holds Tryd.pinned (.plain (OpenSpec.upto dataFormatsSpec)) dataFormatsUptoCard

/-- THE SECOND FORM's CARD OF 'passkeylaw25.DataBack'. -/
def dataBackUptoCard : Claim7 := { stood := { row := dataBackUptoRow, standIns := [], harness := (true, "7921500ff3335a60c4ab60a55aaa79c6a73804c6c0cccff8e0609fb245180e1d"), looks := false }, kinds := [], alts := [], laidByText := true, laidKinds := [.data, .pinned], laidTests := true, laidLooks := .later }
def DataBackUptoCardSaid : Prop := Claim7.holds Tryd.pinned (.plain (OpenSpec.upto dataBackSpec)) dataBackUptoCard

/-- THE SECOND FORM's CARD OF 'passkeylaw25.DataHashes'. -/
def dataHashesUptoCard : Claim7 := { stood := { row := dataHashesUptoRow, standIns := [], harness := (true, "7921500ff3335a60c4ab60a55aaa79c6a73804c6c0cccff8e0609fb245180e1d"), looks := false }, kinds := [], alts := [], laidByText := true, laidKinds := [.data, .pinned], laidTests := true, laidLooks := .later }
def DataHashesUptoCardSaid : Prop := Claim7.holds Tryd.pinned (.plain (OpenSpec.upto dataHashesSpec)) dataHashesUptoCard
end Rows
end Go.Proofs.YtodnjibebeghjaaDoor
