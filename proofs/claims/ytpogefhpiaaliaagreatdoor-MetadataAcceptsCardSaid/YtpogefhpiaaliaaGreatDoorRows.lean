/-
  NARROWER THAN 'FOR EVERY INPUT', by the rows' own cells (each row's printed sentence says how): MetadataBodies: laid · MetadataSigns: laid · MetadataDecodes: laid · MetadataBack: laid · MetadataAccepts: laid.
  DERIVED. THE GIVEN ROWS OF THIS SEAT. 5 by the template 'for every input the law returns true; each argument reads behind the call as it read before'; 0 by the template 'total and deterministic' (their statements: YtpogefhpiaaliaaGreatDoorTotals.lean).
  GIVEN WITH THE SEED: the statements are not yours to turn. If you find one false, say at which input.
  Laid BY PROGRAM, IN A SANDBOX (cutbox-rows.mjs): the forced cells as the released guide's own fill.sh prints them over the translation 0343451710f9bdf2… (all of the seat's roots in one cut). By AI agents, Wed Nov 11 2026. No macro, syntax, notation, axiom, sorry.
-/
import Derived.Test.YtpogefhpiaaliaaGreatDoorChecked
import GoSem.PinnedTables
import GoSem.Claim
import GoSem.ClaimJoined
import GoSem.ClaimMapViews
import Derived.JoinedTies
import Derived.KernelRfl
namespace Go.Proofs.YtpogefhpiaaliaaGreatDoor
/- THE CELL 'sum', in the pinned program and in every row, IS THE sha256 OF THE DUMP (.gsa) THAT YtpogefhpiaaliaaGreatDoorProg.lean LOADS. Nothing in Lean hashes anything: it is a label: what it is worth is what the hold of that sum in a sandbox is worth. -/
noncomputable def Tryz.pinned : Pinned := { name := "ytpogefhpiaaliaagreatdoor", sum := "0343451710f9bdf2a8bcbe262e9e005a078653749aac89ac7256bb82af171e08", checked := Tryz.checked }
namespace Rows
def none {H : Type} : Left H := { results := [], args := [] }

/- WHAT THE LISTED PACKAGE-LEVEL VARIABLES READ AS WHEN THE CALL BEGINS. Each datum BY PROGRAM (the guide's laid-datum.mjs) off the statement by which the dump's own 'gosem.cut.vars' lays the variable. In a bare row this is a premise. The card (YtpogefhpiaaliaaGreatDoorCards.lean) ties it to the program's text. -/
def laid_unicode_utf8_acceptRanges {H : Type} : DataW H := .agg [.agg [.lit (.int .u8 128), .lit (.int .u8 191)], .agg [.lit (.int .u8 160), .lit (.int .u8 191)], .agg [.lit (.int .u8 128), .lit (.int .u8 159)], .agg [.lit (.int .u8 144), .lit (.int .u8 191)], .agg [.lit (.int .u8 128), .lit (.int .u8 143)], .agg [.lit (.int .u8 0), .lit (.int .u8 0)], .agg [.lit (.int .u8 0), .lit (.int .u8 0)], .agg [.lit (.int .u8 0), .lit (.int .u8 0)], .agg [.lit (.int .u8 0), .lit (.int .u8 0)], .agg [.lit (.int .u8 0), .lit (.int .u8 0)], .agg [.lit (.int .u8 0), .lit (.int .u8 0)], .agg [.lit (.int .u8 0), .lit (.int .u8 0)], .agg [.lit (.int .u8 0), .lit (.int .u8 0)], .agg [.lit (.int .u8 0), .lit (.int .u8 0)], .agg [.lit (.int .u8 0), .lit (.int .u8 0)], .agg [.lit (.int .u8 0), .lit (.int .u8 0)]]
/-- One of Go's own tables, pinned by name: the form's constant. -/
def laid_unicode_utf8_first : DataW Unit := Go.Pinned.utf8First

/-- 'passkeylaw28.MetadataBodies': WHATEVER THE INPUT: true; the input reads as it did. -/
def metadataBodiesSpec : ChangeSpec := { name := "metadataBodies", fn := fun _ => fun
  | [d1, d2] => { results := [.lit (.bool true)], args := [d1, d2] }
  | _ => none }
def metadataBodiesRow : OpenClaim := { program := "ytpogefhpiaaliaagreatdoor", sum := "0343451710f9bdf2a8bcbe262e9e005a078653749aac89ac7256bb82af171e08", func := "passkey/passkeylaw28.MetadataBodies", spec := "metadataBodies", inPlace := ["internal/bytealg.Compare"], unfollowed := true, recurses := true, named := ["unicode/utf8.first", "unicode/utf8.acceptRanges"], apart := false, laid := [("unicode/utf8.acceptRanges", laid_unicode_utf8_acceptRanges), ("unicode/utf8.first", laid_unicode_utf8_first)] }
def MetadataBodiesSaid : Prop := metadataBodiesRow.holds Tryz.pinned (OpenSpec.ofChange metadataBodiesSpec)

/-- ITS FALSE NEIGHBOUR: 'it returns false'. Refute it at one input. -/
def metadataBodiesWrong : ChangeSpec := { name := "metadataBodies", fn := fun _ => fun
  | [d1, d2] => { results := [.lit (.bool false)], args := [d1, d2] }
  | _ => none }
def MetadataBodiesWrongFalsely : Prop := metadataBodiesRow.holds Tryz.pinned (OpenSpec.ofChange metadataBodiesWrong)

/-- 'passkeylaw28.MetadataSigns': WHATEVER THE INPUT: true; the input reads as it did. -/
def metadataSignsSpec : ChangeSpec := { name := "metadataSigns", fn := fun _ => fun
  | [d1, d2, d3, d4, d5] => { results := [.lit (.bool true)], args := [d1, d2, d3, d4, d5] }
  | _ => none }
def metadataSignsRow : OpenClaim := { program := "ytpogefhpiaaliaagreatdoor", sum := "0343451710f9bdf2a8bcbe262e9e005a078653749aac89ac7256bb82af171e08", func := "passkey/passkeylaw28.MetadataSigns", spec := "metadataSigns", inPlace := ["internal/bytealg.Compare"], unfollowed := true, recurses := true, named := ["unicode/utf8.first", "unicode/utf8.acceptRanges"], apart := false, laid := [("unicode/utf8.acceptRanges", laid_unicode_utf8_acceptRanges), ("unicode/utf8.first", laid_unicode_utf8_first)] }
def MetadataSignsSaid : Prop := metadataSignsRow.holds Tryz.pinned (OpenSpec.ofChange metadataSignsSpec)

/-- ITS FALSE NEIGHBOUR: 'it returns false'. Refute it at one input. -/
def metadataSignsWrong : ChangeSpec := { name := "metadataSigns", fn := fun _ => fun
  | [d1, d2, d3, d4, d5] => { results := [.lit (.bool false)], args := [d1, d2, d3, d4, d5] }
  | _ => none }
def MetadataSignsWrongFalsely : Prop := metadataSignsRow.holds Tryz.pinned (OpenSpec.ofChange metadataSignsWrong)

/-- 'passkeylaw28.MetadataDecodes': WHATEVER THE INPUT: true; the input reads as it did. -/
def metadataDecodesSpec : ChangeSpec := { name := "metadataDecodes", fn := fun _ => fun
  | [d1, d2] => { results := [.lit (.bool true)], args := [d1, d2] }
  | _ => none }
def metadataDecodesRow : OpenClaim := { program := "ytpogefhpiaaliaagreatdoor", sum := "0343451710f9bdf2a8bcbe262e9e005a078653749aac89ac7256bb82af171e08", func := "passkey/passkeylaw28.MetadataDecodes", spec := "metadataDecodes", inPlace := ["internal/bytealg.Compare"], unfollowed := true, recurses := true, named := ["unicode/utf8.first", "unicode/utf8.acceptRanges"], apart := false, laid := [("unicode/utf8.acceptRanges", laid_unicode_utf8_acceptRanges), ("unicode/utf8.first", laid_unicode_utf8_first)] }
def MetadataDecodesSaid : Prop := metadataDecodesRow.holds Tryz.pinned (OpenSpec.ofChange metadataDecodesSpec)

/-- ITS FALSE NEIGHBOUR: 'it returns false'. Refute it at one input. -/
def metadataDecodesWrong : ChangeSpec := { name := "metadataDecodes", fn := fun _ => fun
  | [d1, d2] => { results := [.lit (.bool false)], args := [d1, d2] }
  | _ => none }
def MetadataDecodesWrongFalsely : Prop := metadataDecodesRow.holds Tryz.pinned (OpenSpec.ofChange metadataDecodesWrong)

/-- 'passkeylaw28.MetadataBack': WHATEVER THE INPUT: true; the input reads as it did. -/
def metadataBackSpec : ChangeSpec := { name := "metadataBack", fn := fun _ => fun
  | [d1, d2] => { results := [.lit (.bool true)], args := [d1, d2] }
  | _ => none }
def metadataBackRow : OpenClaim := { program := "ytpogefhpiaaliaagreatdoor", sum := "0343451710f9bdf2a8bcbe262e9e005a078653749aac89ac7256bb82af171e08", func := "passkey/passkeylaw28.MetadataBack", spec := "metadataBack", inPlace := ["internal/bytealg.Compare"], unfollowed := true, recurses := true, named := ["unicode/utf8.first", "unicode/utf8.acceptRanges"], apart := false, laid := [("unicode/utf8.acceptRanges", laid_unicode_utf8_acceptRanges), ("unicode/utf8.first", laid_unicode_utf8_first)] }
def MetadataBackSaid : Prop := metadataBackRow.holds Tryz.pinned (OpenSpec.ofChange metadataBackSpec)

/-- ITS FALSE NEIGHBOUR: 'it returns false'. Refute it at one input. -/
def metadataBackWrong : ChangeSpec := { name := "metadataBack", fn := fun _ => fun
  | [d1, d2] => { results := [.lit (.bool false)], args := [d1, d2] }
  | _ => none }
def MetadataBackWrongFalsely : Prop := metadataBackRow.holds Tryz.pinned (OpenSpec.ofChange metadataBackWrong)

/-- 'passkeylaw28.MetadataAccepts': WHATEVER THE INPUT: true; the input reads as it did. -/
def metadataAcceptsSpec : ChangeSpec := { name := "metadataAccepts", fn := fun _ => fun
  | [d1, d2, d3] => { results := [.lit (.bool true)], args := [d1, d2, d3] }
  | _ => none }
def metadataAcceptsRow : OpenClaim := { program := "ytpogefhpiaaliaagreatdoor", sum := "0343451710f9bdf2a8bcbe262e9e005a078653749aac89ac7256bb82af171e08", func := "passkey/passkeylaw28.MetadataAccepts", spec := "metadataAccepts", inPlace := ["internal/bytealg.Compare"], unfollowed := true, recurses := true, named := ["unicode/utf8.first", "unicode/utf8.acceptRanges"], apart := false, laid := [("unicode/utf8.acceptRanges", laid_unicode_utf8_acceptRanges), ("unicode/utf8.first", laid_unicode_utf8_first)] }
def MetadataAcceptsSaid : Prop := metadataAcceptsRow.holds Tryz.pinned (OpenSpec.ofChange metadataAcceptsSpec)

/-- ITS FALSE NEIGHBOUR: 'it returns false'. Refute it at one input. -/
def metadataAcceptsWrong : ChangeSpec := { name := "metadataAccepts", fn := fun _ => fun
  | [d1, d2, d3] => { results := [.lit (.bool false)], args := [d1, d2, d3] }
  | _ => none }
def MetadataAcceptsWrongFalsely : Prop := metadataAcceptsRow.holds Tryz.pinned (OpenSpec.ofChange metadataAcceptsWrong)

/- THE SECOND FORM. 'bulk': how many values and letters a reading holds, each counted each time it is reached (what is shared counts as often as it is met; a slice's spare places count too). A statement '..UptoSaid' is the law's where the arguments, and the package variables that the reading takes, are together of bulk at most 1048576: NARROWER than '..Said'. Prove '..Said' where nothing that the law and all that it calls make is longer than what came in: it says more and counts as full. Else prove '..UptoSaid'. A law counts once. -/
mutual
def uptoBulk {H : Type} : DataW H → Nat
  | .lit (.string bytes) => bytes.length + 1
  | .lit _ => 1
  | .nil => 1
  | .ptr d => uptoBulk d + 1
  | .slice elems spare => uptoBulkAll elems + uptoBulkAll spare + 1
  | .agg parts => uptoBulkAll parts + 1
  | .iface _ d => uptoBulk d + 1
  | .map entries => uptoBulkEntries entries + 1
  | .held _ => 1
def uptoBulkAll {H : Type} : List (DataW H) → Nat
  | [] => 0
  | d :: r => uptoBulk d + uptoBulkAll r
def uptoBulkEntries {H : Type} : List (Lit × DataW H) → Nat
  | [] => 0
  | x :: r => uptoBulkEntry x + uptoBulkEntries r
def uptoBulkEntry {H : Type} : Lit × DataW H → Nat
  | (.string bytes, d) => bytes.length + uptoBulk d + 1
  | (_, d) => uptoBulk d + 1
 end
def uptoSmall : (H : Type) → List (DataW H) → Bool := fun _ ds => decide (uptoBulkAll ds ≤ 1048576)
def OpenSpec.upto (s : _root_.Go.ChangeSpec) : _root_.Go.OpenSpec := { _root_.Go.OpenSpec.ofChange s with cond := some uptoSmall }

/-- 'passkeylaw28.MetadataBodies', WHERE WHAT IT READS IS OF BULK AT MOST 1048576: true; the input reads as it did. -/
def metadataBodiesUptoRow : OpenClaim := { program := "ytpogefhpiaaliaagreatdoor", sum := "0343451710f9bdf2a8bcbe262e9e005a078653749aac89ac7256bb82af171e08", func := "passkey/passkeylaw28.MetadataBodies", spec := "metadataBodies", inPlace := ["internal/bytealg.Compare"], unfollowed := true, recurses := true, named := ["unicode/utf8.first", "unicode/utf8.acceptRanges"], apart := false, laid := [("unicode/utf8.acceptRanges", laid_unicode_utf8_acceptRanges), ("unicode/utf8.first", laid_unicode_utf8_first)], narrowed := true }
def MetadataBodiesUptoSaid : Prop := metadataBodiesUptoRow.holds Tryz.pinned (OpenSpec.upto metadataBodiesSpec)

/-- 'passkeylaw28.MetadataSigns', WHERE WHAT IT READS IS OF BULK AT MOST 1048576: true; the input reads as it did. -/
def metadataSignsUptoRow : OpenClaim := { program := "ytpogefhpiaaliaagreatdoor", sum := "0343451710f9bdf2a8bcbe262e9e005a078653749aac89ac7256bb82af171e08", func := "passkey/passkeylaw28.MetadataSigns", spec := "metadataSigns", inPlace := ["internal/bytealg.Compare"], unfollowed := true, recurses := true, named := ["unicode/utf8.first", "unicode/utf8.acceptRanges"], apart := false, laid := [("unicode/utf8.acceptRanges", laid_unicode_utf8_acceptRanges), ("unicode/utf8.first", laid_unicode_utf8_first)], narrowed := true }
def MetadataSignsUptoSaid : Prop := metadataSignsUptoRow.holds Tryz.pinned (OpenSpec.upto metadataSignsSpec)

/-- 'passkeylaw28.MetadataDecodes', WHERE WHAT IT READS IS OF BULK AT MOST 1048576: true; the input reads as it did. -/
def metadataDecodesUptoRow : OpenClaim := { program := "ytpogefhpiaaliaagreatdoor", sum := "0343451710f9bdf2a8bcbe262e9e005a078653749aac89ac7256bb82af171e08", func := "passkey/passkeylaw28.MetadataDecodes", spec := "metadataDecodes", inPlace := ["internal/bytealg.Compare"], unfollowed := true, recurses := true, named := ["unicode/utf8.first", "unicode/utf8.acceptRanges"], apart := false, laid := [("unicode/utf8.acceptRanges", laid_unicode_utf8_acceptRanges), ("unicode/utf8.first", laid_unicode_utf8_first)], narrowed := true }
def MetadataDecodesUptoSaid : Prop := metadataDecodesUptoRow.holds Tryz.pinned (OpenSpec.upto metadataDecodesSpec)

/-- 'passkeylaw28.MetadataBack', WHERE WHAT IT READS IS OF BULK AT MOST 1048576: true; the input reads as it did. -/
def metadataBackUptoRow : OpenClaim := { program := "ytpogefhpiaaliaagreatdoor", sum := "0343451710f9bdf2a8bcbe262e9e005a078653749aac89ac7256bb82af171e08", func := "passkey/passkeylaw28.MetadataBack", spec := "metadataBack", inPlace := ["internal/bytealg.Compare"], unfollowed := true, recurses := true, named := ["unicode/utf8.first", "unicode/utf8.acceptRanges"], apart := false, laid := [("unicode/utf8.acceptRanges", laid_unicode_utf8_acceptRanges), ("unicode/utf8.first", laid_unicode_utf8_first)], narrowed := true }
def MetadataBackUptoSaid : Prop := metadataBackUptoRow.holds Tryz.pinned (OpenSpec.upto metadataBackSpec)

/-- 'passkeylaw28.MetadataAccepts', WHERE WHAT IT READS IS OF BULK AT MOST 1048576: true; the input reads as it did. -/
def metadataAcceptsUptoRow : OpenClaim := { program := "ytpogefhpiaaliaagreatdoor", sum := "0343451710f9bdf2a8bcbe262e9e005a078653749aac89ac7256bb82af171e08", func := "passkey/passkeylaw28.MetadataAccepts", spec := "metadataAccepts", inPlace := ["internal/bytealg.Compare"], unfollowed := true, recurses := true, named := ["unicode/utf8.first", "unicode/utf8.acceptRanges"], apart := false, laid := [("unicode/utf8.acceptRanges", laid_unicode_utf8_acceptRanges), ("unicode/utf8.first", laid_unicode_utf8_first)], narrowed := true }
def MetadataAcceptsUptoSaid : Prop := metadataAcceptsUptoRow.holds Tryz.pinned (OpenSpec.upto metadataAcceptsSpec)

end Rows
end Go.Proofs.YtpogefhpiaaliaaGreatDoor
