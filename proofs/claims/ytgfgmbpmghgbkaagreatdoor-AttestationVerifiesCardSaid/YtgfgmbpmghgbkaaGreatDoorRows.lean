/-
  NARROWER THAN 'FOR EVERY INPUT', by the rows' own cells (each row's printed sentence says how): AttestationVerifies: laid · AttestationAny: laid · AttestationSelf: laid · AttestationModels: laid.
  DERIVED. THE GIVEN ROWS OF THIS SEAT. 4 by the template 'for every input the law returns true; each argument reads behind the call as it read before'; 0 by the template 'total and deterministic' (their statements: YtgfgmbpmghgbkaaGreatDoorTotals.lean).
  GIVEN WITH THE SEED: the statements are not yours to turn. If you find one false, say at which input.
  Laid BY PROGRAM, IN A SANDBOX (cutbox-rows.mjs): the forced cells as the released guide's own fill.sh prints them over the translation 16d8ddcb8e23fea6… (all of the seat's roots in one cut). By AI agents, Wed Nov 11 2026. No macro, syntax, notation, axiom, sorry.
-/
import Derived.Test.YtgfgmbpmghgbkaaGreatDoorChecked
import GoSem.PinnedTables
import GoSem.Claim
import GoSem.ClaimJoined
import GoSem.ClaimMapViews
import Derived.JoinedTies
import Derived.KernelRfl
namespace Go.Proofs.YtgfgmbpmghgbkaaGreatDoor
/- THE CELL 'sum', in the pinned program and in every row, IS THE sha256 OF THE DUMP (.gsa) THAT YtgfgmbpmghgbkaaGreatDoorProg.lean LOADS. Nothing in Lean hashes anything: it is a label: what it is worth is what the hold of that sum in a sandbox is worth. -/
noncomputable def Tryz.pinned : Pinned := { name := "ytgfgmbpmghgbkaagreatdoor", sum := "16d8ddcb8e23fea64e2965ee464f41e7811ced2821b31c84e1338cb1c5003ef0", checked := Tryz.checked }
namespace Rows
def none {H : Type} : Left H := { results := [], args := [] }

/- WHAT THE LISTED PACKAGE-LEVEL VARIABLES READ AS WHEN THE CALL BEGINS. Each datum BY PROGRAM (the guide's laid-datum.mjs) off the statement by which the dump's own 'gosem.cut.vars' lays the variable. In a bare row this is a premise. The card (YtgfgmbpmghgbkaaGreatDoorCards.lean) ties it to the program's text. -/
def laid_unicode_utf8_acceptRanges {H : Type} : DataW H := .agg [.agg [.lit (.int .u8 128), .lit (.int .u8 191)], .agg [.lit (.int .u8 160), .lit (.int .u8 191)], .agg [.lit (.int .u8 128), .lit (.int .u8 159)], .agg [.lit (.int .u8 144), .lit (.int .u8 191)], .agg [.lit (.int .u8 128), .lit (.int .u8 143)], .agg [.lit (.int .u8 0), .lit (.int .u8 0)], .agg [.lit (.int .u8 0), .lit (.int .u8 0)], .agg [.lit (.int .u8 0), .lit (.int .u8 0)], .agg [.lit (.int .u8 0), .lit (.int .u8 0)], .agg [.lit (.int .u8 0), .lit (.int .u8 0)], .agg [.lit (.int .u8 0), .lit (.int .u8 0)], .agg [.lit (.int .u8 0), .lit (.int .u8 0)], .agg [.lit (.int .u8 0), .lit (.int .u8 0)], .agg [.lit (.int .u8 0), .lit (.int .u8 0)], .agg [.lit (.int .u8 0), .lit (.int .u8 0)], .agg [.lit (.int .u8 0), .lit (.int .u8 0)]]
/-- One of Go's own tables, pinned by name: the form's constant. -/
def laid_unicode_utf8_first : DataW Unit := Go.Pinned.utf8First

/-- 'passkeylaw27.AttestationVerifies': WHATEVER THE INPUT: true; the input reads as it did. -/
def attestationVerifiesSpec : ChangeSpec := { name := "attestationVerifies", fn := fun _ => fun
  | [d1, d2, d3] => { results := [.lit (.bool true)], args := [d1, d2, d3] }
  | _ => none }
def attestationVerifiesRow : OpenClaim := { program := "ytgfgmbpmghgbkaagreatdoor", sum := "16d8ddcb8e23fea64e2965ee464f41e7811ced2821b31c84e1338cb1c5003ef0", func := "passkey/passkeylaw27.AttestationVerifies", spec := "attestationVerifies", inPlace := ["internal/bytealg.Compare"], recurses := true, named := ["unicode/utf8.first", "unicode/utf8.acceptRanges"], apart := false, laid := [("unicode/utf8.acceptRanges", laid_unicode_utf8_acceptRanges), ("unicode/utf8.first", laid_unicode_utf8_first)] }
def AttestationVerifiesSaid : Prop := attestationVerifiesRow.holds Tryz.pinned (OpenSpec.ofChange attestationVerifiesSpec)

/-- ITS FALSE NEIGHBOUR: 'it returns false'. Refute it at one input. -/
def attestationVerifiesWrong : ChangeSpec := { name := "attestationVerifies", fn := fun _ => fun
  | [d1, d2, d3] => { results := [.lit (.bool false)], args := [d1, d2, d3] }
  | _ => none }
def AttestationVerifiesWrongFalsely : Prop := attestationVerifiesRow.holds Tryz.pinned (OpenSpec.ofChange attestationVerifiesWrong)

/-- 'passkeylaw27.AttestationAny': WHATEVER THE INPUT: true; the input reads as it did. -/
def attestationAnySpec : ChangeSpec := { name := "attestationAny", fn := fun _ => fun
  | [d1, d2, d3, d4, d5, d6] => { results := [.lit (.bool true)], args := [d1, d2, d3, d4, d5, d6] }
  | _ => none }
def attestationAnyRow : OpenClaim := { program := "ytgfgmbpmghgbkaagreatdoor", sum := "16d8ddcb8e23fea64e2965ee464f41e7811ced2821b31c84e1338cb1c5003ef0", func := "passkey/passkeylaw27.AttestationAny", spec := "attestationAny", inPlace := ["internal/bytealg.Compare"], recurses := true, named := ["unicode/utf8.first", "unicode/utf8.acceptRanges"], apart := false, laid := [("unicode/utf8.acceptRanges", laid_unicode_utf8_acceptRanges), ("unicode/utf8.first", laid_unicode_utf8_first)] }
def AttestationAnySaid : Prop := attestationAnyRow.holds Tryz.pinned (OpenSpec.ofChange attestationAnySpec)

/-- ITS FALSE NEIGHBOUR: 'it returns false'. Refute it at one input. -/
def attestationAnyWrong : ChangeSpec := { name := "attestationAny", fn := fun _ => fun
  | [d1, d2, d3, d4, d5, d6] => { results := [.lit (.bool false)], args := [d1, d2, d3, d4, d5, d6] }
  | _ => none }
def AttestationAnyWrongFalsely : Prop := attestationAnyRow.holds Tryz.pinned (OpenSpec.ofChange attestationAnyWrong)

/-- 'passkeylaw27.AttestationSelf': WHATEVER THE INPUT: true; the input reads as it did. -/
def attestationSelfSpec : ChangeSpec := { name := "attestationSelf", fn := fun _ => fun
  | [d1, d2, d3, d4, d5] => { results := [.lit (.bool true)], args := [d1, d2, d3, d4, d5] }
  | _ => none }
def attestationSelfRow : OpenClaim := { program := "ytgfgmbpmghgbkaagreatdoor", sum := "16d8ddcb8e23fea64e2965ee464f41e7811ced2821b31c84e1338cb1c5003ef0", func := "passkey/passkeylaw27.AttestationSelf", spec := "attestationSelf", inPlace := ["internal/bytealg.Compare"], recurses := true, named := ["unicode/utf8.first", "unicode/utf8.acceptRanges"], apart := false, laid := [("unicode/utf8.acceptRanges", laid_unicode_utf8_acceptRanges), ("unicode/utf8.first", laid_unicode_utf8_first)] }
def AttestationSelfSaid : Prop := attestationSelfRow.holds Tryz.pinned (OpenSpec.ofChange attestationSelfSpec)

/-- ITS FALSE NEIGHBOUR: 'it returns false'. Refute it at one input. -/
def attestationSelfWrong : ChangeSpec := { name := "attestationSelf", fn := fun _ => fun
  | [d1, d2, d3, d4, d5] => { results := [.lit (.bool false)], args := [d1, d2, d3, d4, d5] }
  | _ => none }
def AttestationSelfWrongFalsely : Prop := attestationSelfRow.holds Tryz.pinned (OpenSpec.ofChange attestationSelfWrong)

/-- 'passkeylaw27.AttestationModels': WHATEVER THE INPUT: true; the input reads as it did. -/
def attestationModelsSpec : ChangeSpec := { name := "attestationModels", fn := fun _ => fun
  | [d1, d2, d3, d4, d5] => { results := [.lit (.bool true)], args := [d1, d2, d3, d4, d5] }
  | _ => none }
def attestationModelsRow : OpenClaim := { program := "ytgfgmbpmghgbkaagreatdoor", sum := "16d8ddcb8e23fea64e2965ee464f41e7811ced2821b31c84e1338cb1c5003ef0", func := "passkey/passkeylaw27.AttestationModels", spec := "attestationModels", inPlace := ["internal/bytealg.Compare"], recurses := true, named := ["unicode/utf8.first", "unicode/utf8.acceptRanges"], apart := false, laid := [("unicode/utf8.acceptRanges", laid_unicode_utf8_acceptRanges), ("unicode/utf8.first", laid_unicode_utf8_first)] }
def AttestationModelsSaid : Prop := attestationModelsRow.holds Tryz.pinned (OpenSpec.ofChange attestationModelsSpec)

/-- ITS FALSE NEIGHBOUR: 'it returns false'. Refute it at one input. -/
def attestationModelsWrong : ChangeSpec := { name := "attestationModels", fn := fun _ => fun
  | [d1, d2, d3, d4, d5] => { results := [.lit (.bool false)], args := [d1, d2, d3, d4, d5] }
  | _ => none }
def AttestationModelsWrongFalsely : Prop := attestationModelsRow.holds Tryz.pinned (OpenSpec.ofChange attestationModelsWrong)

/- THE SECOND FORM. 'bulk': how many values and letters a reading holds, each counted each time it is reached (what is shared counts as often as it is met; a slice's spare places count too). A statement '..UptoSaid' is the law's where the arguments, and the package variables that the reading takes, are together of bulk at most 1048576: NARROWER than '..Said'. Prove '..Said' where nothing that the law and all that it calls make is longer than what came in: it says more and counts as full. Else prove '..UptoSaid'. A law counts once. -/
mutual
def uptoBulk {H : Type} : DataW H → Nat
  | .lit (.string bytes) => bytes.length + 1
  | .lit _ => 1
  | .nil => 1
  | .ptr d => uptoBulk d + 1
  | .slice elems spare => uptoBulkAll elems + uptoBulkAll spare + 1
  | .agg parts => uptoBulkAll parts + 1
  | .iface _ d => uptoBulk d + 1
  | .map entries => uptoBulkEntries entries + 1
  | .held _ => 1
def uptoBulkAll {H : Type} : List (DataW H) → Nat
  | [] => 0
  | d :: r => uptoBulk d + uptoBulkAll r
def uptoBulkEntries {H : Type} : List (Lit × DataW H) → Nat
  | [] => 0
  | x :: r => uptoBulkEntry x + uptoBulkEntries r
def uptoBulkEntry {H : Type} : Lit × DataW H → Nat
  | (.string bytes, d) => bytes.length + uptoBulk d + 1
  | (_, d) => uptoBulk d + 1
 end
def uptoSmall : (H : Type) → List (DataW H) → Bool := fun _ ds => decide (uptoBulkAll ds ≤ 1048576)
def OpenSpec.upto (s : _root_.Go.ChangeSpec) : _root_.Go.OpenSpec := { _root_.Go.OpenSpec.ofChange s with cond := some uptoSmall }

/-- 'passkeylaw27.AttestationVerifies', WHERE WHAT IT READS IS OF BULK AT MOST 1048576: true; the input reads as it did. -/
def attestationVerifiesUptoRow : OpenClaim := { program := "ytgfgmbpmghgbkaagreatdoor", sum := "16d8ddcb8e23fea64e2965ee464f41e7811ced2821b31c84e1338cb1c5003ef0", func := "passkey/passkeylaw27.AttestationVerifies", spec := "attestationVerifies", inPlace := ["internal/bytealg.Compare"], recurses := true, named := ["unicode/utf8.first", "unicode/utf8.acceptRanges"], apart := false, laid := [("unicode/utf8.acceptRanges", laid_unicode_utf8_acceptRanges), ("unicode/utf8.first", laid_unicode_utf8_first)], narrowed := true }
def AttestationVerifiesUptoSaid : Prop := attestationVerifiesUptoRow.holds Tryz.pinned (OpenSpec.upto attestationVerifiesSpec)

/-- 'passkeylaw27.AttestationAny', WHERE WHAT IT READS IS OF BULK AT MOST 1048576: true; the input reads as it did. -/
def attestationAnyUptoRow : OpenClaim := { program := "ytgfgmbpmghgbkaagreatdoor", sum := "16d8ddcb8e23fea64e2965ee464f41e7811ced2821b31c84e1338cb1c5003ef0", func := "passkey/passkeylaw27.AttestationAny", spec := "attestationAny", inPlace := ["internal/bytealg.Compare"], recurses := true, named := ["unicode/utf8.first", "unicode/utf8.acceptRanges"], apart := false, laid := [("unicode/utf8.acceptRanges", laid_unicode_utf8_acceptRanges), ("unicode/utf8.first", laid_unicode_utf8_first)], narrowed := true }
def AttestationAnyUptoSaid : Prop := attestationAnyUptoRow.holds Tryz.pinned (OpenSpec.upto attestationAnySpec)

/-- 'passkeylaw27.AttestationSelf', WHERE WHAT IT READS IS OF BULK AT MOST 1048576: true; the input reads as it did. -/
def attestationSelfUptoRow : OpenClaim := { program := "ytgfgmbpmghgbkaagreatdoor", sum := "16d8ddcb8e23fea64e2965ee464f41e7811ced2821b31c84e1338cb1c5003ef0", func := "passkey/passkeylaw27.AttestationSelf", spec := "attestationSelf", inPlace := ["internal/bytealg.Compare"], recurses := true, named := ["unicode/utf8.first", "unicode/utf8.acceptRanges"], apart := false, laid := [("unicode/utf8.acceptRanges", laid_unicode_utf8_acceptRanges), ("unicode/utf8.first", laid_unicode_utf8_first)], narrowed := true }
def AttestationSelfUptoSaid : Prop := attestationSelfUptoRow.holds Tryz.pinned (OpenSpec.upto attestationSelfSpec)

/-- 'passkeylaw27.AttestationModels', WHERE WHAT IT READS IS OF BULK AT MOST 1048576: true; the input reads as it did. -/
def attestationModelsUptoRow : OpenClaim := { program := "ytgfgmbpmghgbkaagreatdoor", sum := "16d8ddcb8e23fea64e2965ee464f41e7811ced2821b31c84e1338cb1c5003ef0", func := "passkey/passkeylaw27.AttestationModels", spec := "attestationModels", inPlace := ["internal/bytealg.Compare"], recurses := true, named := ["unicode/utf8.first", "unicode/utf8.acceptRanges"], apart := false, laid := [("unicode/utf8.acceptRanges", laid_unicode_utf8_acceptRanges), ("unicode/utf8.first", laid_unicode_utf8_first)], narrowed := true }
def AttestationModelsUptoSaid : Prop := attestationModelsUptoRow.holds Tryz.pinned (OpenSpec.upto attestationModelsSpec)

end Rows
end Go.Proofs.YtgfgmbpmghgbkaaGreatDoor
