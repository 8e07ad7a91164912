/-
  NARROWER THAN 'FOR EVERY INPUT', by the rows' own cells (each row's printed sentence says how): DataBase: laid · DataBaseBack: laid · DataFormats: laid · DataBack: laid · DataHashes: laid.
  DERIVED. THE GIVEN ROWS OF THIS SEAT. 5 by the template 'for every input the law returns true; each argument reads behind the call as it read before'; 0 by the template 'total and deterministic' (their statements: YtodnjibebeghjaaDoorTotals.lean).
  GIVEN WITH THE SEED: the statements are not yours to turn. If you find one false, say at which input.
  Laid BY PROGRAM, IN A SANDBOX (cutbox-rows.mjs): the forced cells as the released guide's own fill.sh prints them over the translation 51d96bd5e299a73d… (all of the seat's roots in one cut). By AI agents, Wed Nov 11 2026. No macro, syntax, notation, axiom, sorry.
-/
import Derived.Test.YtodnjibebeghjaaDoorChecked
import GoSem.PinnedTables
import GoSem.Claim
import GoSem.ClaimJoined
import GoSem.ClaimMapViews
import Derived.JoinedTies
import Derived.KernelRfl
namespace Go.Proofs.YtodnjibebeghjaaDoor
/- THE CELL 'sum', in the pinned program and in every row, IS THE sha256 OF THE DUMP (.gsa) THAT YtodnjibebeghjaaDoorProg.lean LOADS. Nothing in Lean hashes anything: it is a label: what it is worth is what the hold of that sum in a sandbox is worth. -/
noncomputable def Tryd.pinned : Pinned := { name := "ytodnjibebeghjaadoor", sum := "51d96bd5e299a73dbdbfe6489d125e07f0fb7a5b87ea7806509653b7abccf3f4", checked := Tryd.checked }
namespace Rows
def none {H : Type} : Left H := { results := [], args := [] }

/- WHAT THE LISTED PACKAGE-LEVEL VARIABLES READ AS WHEN THE CALL BEGINS. Each datum BY PROGRAM (the guide's laid-datum.mjs) off the statement by which the dump's own 'gosem.cut.vars' lays the variable. In a bare row this is a premise. The card (YtodnjibebeghjaaDoorCards.lean) ties it to the program's text. -/
def laid_unicode_utf8_acceptRanges {H : Type} : DataW H := .agg [.agg [.lit (.int .u8 128), .lit (.int .u8 191)], .agg [.lit (.int .u8 160), .lit (.int .u8 191)], .agg [.lit (.int .u8 128), .lit (.int .u8 159)], .agg [.lit (.int .u8 144), .lit (.int .u8 191)], .agg [.lit (.int .u8 128), .lit (.int .u8 143)], .agg [.lit (.int .u8 0), .lit (.int .u8 0)], .agg [.lit (.int .u8 0), .lit (.int .u8 0)], .agg [.lit (.int .u8 0), .lit (.int .u8 0)], .agg [.lit (.int .u8 0), .lit (.int .u8 0)], .agg [.lit (.int .u8 0), .lit (.int .u8 0)], .agg [.lit (.int .u8 0), .lit (.int .u8 0)], .agg [.lit (.int .u8 0), .lit (.int .u8 0)], .agg [.lit (.int .u8 0), .lit (.int .u8 0)], .agg [.lit (.int .u8 0), .lit (.int .u8 0)], .agg [.lit (.int .u8 0), .lit (.int .u8 0)], .agg [.lit (.int .u8 0), .lit (.int .u8 0)]]
/-- One of Go's own tables, pinned by name: the form's constant. -/
def laid_unicode_utf8_first : DataW Unit := Go.Pinned.utf8First

/-- 'passkeylaw25.DataBase': WHATEVER THE INPUT: true; the input reads as it did. -/
def dataBaseSpec : ChangeSpec := { name := "dataBase", fn := fun _ => fun
  | [d1, d2, d3] => { results := [.lit (.bool true)], args := [d1, d2, d3] }
  | _ => none }
def dataBaseRow : OpenClaim := { program := "ytodnjibebeghjaadoor", sum := "51d96bd5e299a73dbdbfe6489d125e07f0fb7a5b87ea7806509653b7abccf3f4", func := "passkey/passkeylaw25.DataBase", spec := "dataBase", inPlace := ["internal/bytealg.IndexByteString", "internal/bytealg.IndexString", "internal/bytealg.CountString", "internal/abi.NoEscape"], recurses := true, named := ["internal/bytealg.MaxLen", "unicode/utf8.first", "unicode/utf8.acceptRanges"], apart := false, laid := [("unicode/utf8.acceptRanges", laid_unicode_utf8_acceptRanges), ("unicode/utf8.first", laid_unicode_utf8_first)] }
def DataBaseSaid : Prop := dataBaseRow.holds Tryd.pinned (OpenSpec.ofChange dataBaseSpec)

/-- ITS FALSE NEIGHBOUR: 'it returns false'. Refute it at one input. -/
def dataBaseWrong : ChangeSpec := { name := "dataBase", fn := fun _ => fun
  | [d1, d2, d3] => { results := [.lit (.bool false)], args := [d1, d2, d3] }
  | _ => none }
def DataBaseWrongFalsely : Prop := dataBaseRow.holds Tryd.pinned (OpenSpec.ofChange dataBaseWrong)

/-- 'passkeylaw25.DataBaseBack': WHATEVER THE INPUT: true; the input reads as it did. -/
def dataBaseBackSpec : ChangeSpec := { name := "dataBaseBack", fn := fun _ => fun
  | [d1, d2] => { results := [.lit (.bool true)], args := [d1, d2] }
  | _ => none }
def dataBaseBackRow : OpenClaim := { program := "ytodnjibebeghjaadoor", sum := "51d96bd5e299a73dbdbfe6489d125e07f0fb7a5b87ea7806509653b7abccf3f4", func := "passkey/passkeylaw25.DataBaseBack", spec := "dataBaseBack", inPlace := ["internal/bytealg.IndexByteString", "internal/bytealg.IndexString", "internal/bytealg.CountString", "internal/abi.NoEscape"], recurses := true, named := ["internal/bytealg.MaxLen", "unicode/utf8.first", "unicode/utf8.acceptRanges"], apart := false, laid := [("unicode/utf8.acceptRanges", laid_unicode_utf8_acceptRanges), ("unicode/utf8.first", laid_unicode_utf8_first)] }
def DataBaseBackSaid : Prop := dataBaseBackRow.holds Tryd.pinned (OpenSpec.ofChange dataBaseBackSpec)

/-- ITS FALSE NEIGHBOUR: 'it returns false'. Refute it at one input. -/
def dataBaseBackWrong : ChangeSpec := { name := "dataBaseBack", fn := fun _ => fun
  | [d1, d2] => { results := [.lit (.bool false)], args := [d1, d2] }
  | _ => none }
def DataBaseBackWrongFalsely : Prop := dataBaseBackRow.holds Tryd.pinned (OpenSpec.ofChange dataBaseBackWrong)

/-- 'passkeylaw25.DataFormats': WHATEVER THE INPUT: true; the input reads as it did. -/
def dataFormatsSpec : ChangeSpec := { name := "dataFormats", fn := fun _ => fun
  | [d1, d2] => { results := [.lit (.bool true)], args := [d1, d2] }
  | _ => none }
def dataFormatsRow : OpenClaim := { program := "ytodnjibebeghjaadoor", sum := "51d96bd5e299a73dbdbfe6489d125e07f0fb7a5b87ea7806509653b7abccf3f4", func := "passkey/passkeylaw25.DataFormats", spec := "dataFormats", inPlace := ["internal/bytealg.IndexByteString", "internal/bytealg.IndexString", "internal/bytealg.CountString", "internal/abi.NoEscape"], recurses := true, named := ["internal/bytealg.MaxLen", "unicode/utf8.first", "unicode/utf8.acceptRanges"], apart := false, laid := [("unicode/utf8.acceptRanges", laid_unicode_utf8_acceptRanges), ("unicode/utf8.first", laid_unicode_utf8_first)] }
def DataFormatsSaid : Prop := dataFormatsRow.holds Tryd.pinned (OpenSpec.ofChange dataFormatsSpec)

/-- ITS FALSE NEIGHBOUR: 'it returns false'. Refute it at one input. -/
def dataFormatsWrong : ChangeSpec := { name := "dataFormats", fn := fun _ => fun
  | [d1, d2] => { results := [.lit (.bool false)], args := [d1, d2] }
  | _ => none }
def DataFormatsWrongFalsely : Prop := dataFormatsRow.holds Tryd.pinned (OpenSpec.ofChange dataFormatsWrong)

/-- 'passkeylaw25.DataBack': WHATEVER THE INPUT: true; the input reads as it did. -/
def dataBackSpec : ChangeSpec := { name := "dataBack", fn := fun _ => fun
  | [d1, d2] => { results := [.lit (.bool true)], args := [d1, d2] }
  | _ => none }
def dataBackRow : OpenClaim := { program := "ytodnjibebeghjaadoor", sum := "51d96bd5e299a73dbdbfe6489d125e07f0fb7a5b87ea7806509653b7abccf3f4", func := "passkey/passkeylaw25.DataBack", spec := "dataBack", inPlace := ["internal/bytealg.IndexByteString", "internal/bytealg.IndexString", "internal/bytealg.CountString", "internal/abi.NoEscape"], recurses := true, named := ["internal/bytealg.MaxLen", "unicode/utf8.first", "unicode/utf8.acceptRanges"], apart := false, laid := [("unicode/utf8.acceptRanges", laid_unicode_utf8_acceptRanges), ("unicode/utf8.first", laid_unicode_utf8_first)] }
def DataBackSaid : Prop := dataBackRow.holds Tryd.pinned (OpenSpec.ofChange dataBackSpec)

/-- ITS FALSE NEIGHBOUR: 'it returns false'. Refute it at one input. -/
def dataBackWrong : ChangeSpec := { name := "dataBack", fn := fun _ => fun
  | [d1, d2] => { results := [.lit (.bool false)], args := [d1, d2] }
  | _ => none }
def DataBackWrongFalsely : Prop := dataBackRow.holds Tryd.pinned (OpenSpec.ofChange dataBackWrong)

/-- 'passkeylaw25.DataHashes': WHATEVER THE INPUT: true; the input reads as it did. -/
def dataHashesSpec : ChangeSpec := { name := "dataHashes", fn := fun _ => fun
  | [d] => { results := [.lit (.bool true)], args := [d] }
  | _ => none }
def dataHashesRow : OpenClaim := { program := "ytodnjibebeghjaadoor", sum := "51d96bd5e299a73dbdbfe6489d125e07f0fb7a5b87ea7806509653b7abccf3f4", func := "passkey/passkeylaw25.DataHashes", spec := "dataHashes", inPlace := ["internal/bytealg.IndexByteString", "internal/bytealg.IndexString", "internal/bytealg.CountString", "internal/abi.NoEscape"], recurses := true, named := ["internal/bytealg.MaxLen", "unicode/utf8.first", "unicode/utf8.acceptRanges"], apart := false, laid := [("unicode/utf8.acceptRanges", laid_unicode_utf8_acceptRanges), ("unicode/utf8.first", laid_unicode_utf8_first)] }
def DataHashesSaid : Prop := dataHashesRow.holds Tryd.pinned (OpenSpec.ofChange dataHashesSpec)

/-- ITS FALSE NEIGHBOUR: 'it returns false'. Refute it at one input. -/
def dataHashesWrong : ChangeSpec := { name := "dataHashes", fn := fun _ => fun
  | [d] => { results := [.lit (.bool false)], args := [d] }
  | _ => none }
def DataHashesWrongFalsely : Prop := dataHashesRow.holds Tryd.pinned (OpenSpec.ofChange dataHashesWrong)

/- THE SECOND FORM. 'bulk': how many values and letters a reading holds, each counted each time it is reached (what is shared counts as often as it is met; a slice's spare places count too). A statement '..UptoSaid' is the law's where the arguments, and the package variables that the reading takes, are together of bulk at most 1048576: NARROWER than '..Said'. Prove '..Said' where nothing that the law and all that it calls make is longer than what came in: it says more and counts as full. Else prove '..UptoSaid'. A law counts once. -/
mutual
def uptoBulk {H : Type} : DataW H → Nat
  | .lit (.string bytes) => bytes.length + 1
  | .lit _ => 1
  | .nil => 1
  | .ptr d => uptoBulk d + 1
  | .slice elems spare => uptoBulkAll elems + uptoBulkAll spare + 1
  | .agg parts => uptoBulkAll parts + 1
  | .iface _ d => uptoBulk d + 1
  | .map entries => uptoBulkEntries entries + 1
  | .held _ => 1
def uptoBulkAll {H : Type} : List (DataW H) → Nat
  | [] => 0
  | d :: r => uptoBulk d + uptoBulkAll r
def uptoBulkEntries {H : Type} : List (Lit × DataW H) → Nat
  | [] => 0
  | x :: r => uptoBulkEntry x + uptoBulkEntries r
def uptoBulkEntry {H : Type} : Lit × DataW H → Nat
  | (.string bytes, d) => bytes.length + uptoBulk d + 1
  | (_, d) => uptoBulk d + 1
 end
def uptoSmall : (H : Type) → List (DataW H) → Bool := fun _ ds => decide (uptoBulkAll ds ≤ 1048576)
def OpenSpec.upto (s : _root_.Go.ChangeSpec) : _root_.Go.OpenSpec := { _root_.Go.OpenSpec.ofChange s with cond := some uptoSmall }

/-- 'passkeylaw25.DataBase', WHERE WHAT IT READS IS OF BULK AT MOST 1048576: true; the input reads as it did. -/
def dataBaseUptoRow : OpenClaim := { program := "ytodnjibebeghjaadoor", sum := "51d96bd5e299a73dbdbfe6489d125e07f0fb7a5b87ea7806509653b7abccf3f4", func := "passkey/passkeylaw25.DataBase", spec := "dataBase", inPlace := ["internal/bytealg.IndexByteString", "internal/bytealg.IndexString", "internal/bytealg.CountString", "internal/abi.NoEscape"], recurses := true, named := ["internal/bytealg.MaxLen", "unicode/utf8.first", "unicode/utf8.acceptRanges"], apart := false, laid := [("unicode/utf8.acceptRanges", laid_unicode_utf8_acceptRanges), ("unicode/utf8.first", laid_unicode_utf8_first)], narrowed := true }
def DataBaseUptoSaid : Prop := dataBaseUptoRow.holds Tryd.pinned (OpenSpec.upto dataBaseSpec)

/-- 'passkeylaw25.DataBaseBack', WHERE WHAT IT READS IS OF BULK AT MOST 1048576: true; the input reads as it did. -/
def dataBaseBackUptoRow : OpenClaim := { program := "ytodnjibebeghjaadoor", sum := "51d96bd5e299a73dbdbfe6489d125e07f0fb7a5b87ea7806509653b7abccf3f4", func := "passkey/passkeylaw25.DataBaseBack", spec := "dataBaseBack", inPlace := ["internal/bytealg.IndexByteString", "internal/bytealg.IndexString", "internal/bytealg.CountString", "internal/abi.NoEscape"], recurses := true, named := ["internal/bytealg.MaxLen", "unicode/utf8.first", "unicode/utf8.acceptRanges"], apart := false, laid := [("unicode/utf8.acceptRanges", laid_unicode_utf8_acceptRanges), ("unicode/utf8.first", laid_unicode_utf8_first)], narrowed := true }
def DataBaseBackUptoSaid : Prop := dataBaseBackUptoRow.holds Tryd.pinned (OpenSpec.upto dataBaseBackSpec)

/-- 'passkeylaw25.DataFormats', WHERE WHAT IT READS IS OF BULK AT MOST 1048576: true; the input reads as it did. -/
def dataFormatsUptoRow : OpenClaim := { program := "ytodnjibebeghjaadoor", sum := "51d96bd5e299a73dbdbfe6489d125e07f0fb7a5b87ea7806509653b7abccf3f4", func := "passkey/passkeylaw25.DataFormats", spec := "dataFormats", inPlace := ["internal/bytealg.IndexByteString", "internal/bytealg.IndexString", "internal/bytealg.CountString", "internal/abi.NoEscape"], recurses := true, named := ["internal/bytealg.MaxLen", "unicode/utf8.first", "unicode/utf8.acceptRanges"], apart := false, laid := [("unicode/utf8.acceptRanges", laid_unicode_utf8_acceptRanges), ("unicode/utf8.first", laid_unicode_utf8_first)], narrowed := true }
def DataFormatsUptoSaid : Prop := dataFormatsUptoRow.holds Tryd.pinned (OpenSpec.upto dataFormatsSpec)

/-- 'passkeylaw25.DataBack', WHERE WHAT IT READS IS OF BULK AT MOST 1048576: true; the input reads as it did. -/
def dataBackUptoRow : OpenClaim := { program := "ytodnjibebeghjaadoor", sum := "51d96bd5e299a73dbdbfe6489d125e07f0fb7a5b87ea7806509653b7abccf3f4", func := "passkey/passkeylaw25.DataBack", spec := "dataBack", inPlace := ["internal/bytealg.IndexByteString", "internal/bytealg.IndexString", "internal/bytealg.CountString", "internal/abi.NoEscape"], recurses := true, named := ["internal/bytealg.MaxLen", "unicode/utf8.first", "unicode/utf8.acceptRanges"], apart := false, laid := [("unicode/utf8.acceptRanges", laid_unicode_utf8_acceptRanges), ("unicode/utf8.first", laid_unicode_utf8_first)], narrowed := true }
def DataBackUptoSaid : Prop := dataBackUptoRow.holds Tryd.pinned (OpenSpec.upto dataBackSpec)

/-- 'passkeylaw25.DataHashes', WHERE WHAT IT READS IS OF BULK AT MOST 1048576: true; the input reads as it did. -/
def dataHashesUptoRow : OpenClaim := { program := "ytodnjibebeghjaadoor", sum := "51d96bd5e299a73dbdbfe6489d125e07f0fb7a5b87ea7806509653b7abccf3f4", func := "passkey/passkeylaw25.DataHashes", spec := "dataHashes", inPlace := ["internal/bytealg.IndexByteString", "internal/bytealg.IndexString", "internal/bytealg.CountString", "internal/abi.NoEscape"], recurses := true, named := ["internal/bytealg.MaxLen", "unicode/utf8.first", "unicode/utf8.acceptRanges"], apart := false, laid := [("unicode/utf8.acceptRanges", laid_unicode_utf8_acceptRanges), ("unicode/utf8.first", laid_unicode_utf8_first)], narrowed := true }
def DataHashesUptoSaid : Prop := dataHashesUptoRow.holds Tryd.pinned (OpenSpec.upto dataHashesSpec)

end Rows
end Go.Proofs.YtodnjibebeghjaaDoor
