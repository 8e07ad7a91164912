/-
  NARROWER THAN 'FOR EVERY INPUT', by the rows' own cells (each row's printed sentence says how): CertificateBodies: laid · CertificateSigns: laid · CertificateDecodes: laid · CertificatePaths: laid · CertificateLinks: laid · CertificateStrict: laid.
  DERIVED. THE GIVEN ROWS OF THIS SEAT. 6 by the template 'for every input the law returns true; each argument reads behind the call as it read before'; 0 by the template 'total and deterministic' (their statements: YtdjihiphpgkfmaaGreatDoorTotals.lean).
  GIVEN WITH THE SEED: the statements are not yours to turn. If you find one false, say at which input.
  Laid BY PROGRAM, IN A SANDBOX (cutbox-rows.mjs): the forced cells as the released guide's own fill.sh prints them over the translation 717b338a7930a17f… (all of the seat's roots in one cut). By AI agents, Wed Nov 11 2026. No macro, syntax, notation, axiom, sorry.
-/
import Derived.Test.YtdjihiphpgkfmaaGreatDoorChecked
import GoSem.PinnedTables
import GoSem.Claim
import GoSem.ClaimJoined
import GoSem.ClaimMapViews
import Derived.JoinedTies
import Derived.KernelRfl
namespace Go.Proofs.YtdjihiphpgkfmaaGreatDoor
/- THE CELL 'sum', in the pinned program and in every row, IS THE sha256 OF THE DUMP (.gsa) THAT YtdjihiphpgkfmaaGreatDoorProg.lean LOADS. Nothing in Lean hashes anything: it is a label: what it is worth is what the hold of that sum in a sandbox is worth. -/
noncomputable def Tryz.pinned : Pinned := { name := "ytdjihiphpgkfmaagreatdoor", sum := "717b338a7930a17fd8f727c287578b9990348aec27be832c51547285382f789d", checked := Tryz.checked }
namespace Rows
def none {H : Type} : Left H := { results := [], args := [] }

/- WHAT THE LISTED PACKAGE-LEVEL VARIABLES READ AS WHEN THE CALL BEGINS. Each datum BY PROGRAM (the guide's laid-datum.mjs) off the statement by which the dump's own 'gosem.cut.vars' lays the variable. In a bare row this is a premise. The card (YtdjihiphpgkfmaaGreatDoorCards.lean) ties it to the program's text. -/
def laid_unicode_utf8_acceptRanges {H : Type} : DataW H := .agg [.agg [.lit (.int .u8 128), .lit (.int .u8 191)], .agg [.lit (.int .u8 160), .lit (.int .u8 191)], .agg [.lit (.int .u8 128), .lit (.int .u8 159)], .agg [.lit (.int .u8 144), .lit (.int .u8 191)], .agg [.lit (.int .u8 128), .lit (.int .u8 143)], .agg [.lit (.int .u8 0), .lit (.int .u8 0)], .agg [.lit (.int .u8 0), .lit (.int .u8 0)], .agg [.lit (.int .u8 0), .lit (.int .u8 0)], .agg [.lit (.int .u8 0), .lit (.int .u8 0)], .agg [.lit (.int .u8 0), .lit (.int .u8 0)], .agg [.lit (.int .u8 0), .lit (.int .u8 0)], .agg [.lit (.int .u8 0), .lit (.int .u8 0)], .agg [.lit (.int .u8 0), .lit (.int .u8 0)], .agg [.lit (.int .u8 0), .lit (.int .u8 0)], .agg [.lit (.int .u8 0), .lit (.int .u8 0)], .agg [.lit (.int .u8 0), .lit (.int .u8 0)]]
/-- One of Go's own tables, pinned by name: the form's constant. -/
def laid_unicode_utf8_first : DataW Unit := Go.Pinned.utf8First

/-- 'passkeylaw26.CertificateBodies': WHATEVER THE INPUT: true; the input reads as it did. -/
def certificateBodiesSpec : ChangeSpec := { name := "certificateBodies", fn := fun _ => fun
  | [d1, d2] => { results := [.lit (.bool true)], args := [d1, d2] }
  | _ => none }
def certificateBodiesRow : OpenClaim := { program := "ytdjihiphpgkfmaagreatdoor", sum := "717b338a7930a17fd8f727c287578b9990348aec27be832c51547285382f789d", func := "passkey/passkeylaw26.CertificateBodies", spec := "certificateBodies", inPlace := ["internal/bytealg.Compare"], unfollowed := true, recurses := true, named := ["unicode/utf8.first", "unicode/utf8.acceptRanges"], apart := false, laid := [("unicode/utf8.acceptRanges", laid_unicode_utf8_acceptRanges), ("unicode/utf8.first", laid_unicode_utf8_first)] }
def CertificateBodiesSaid : Prop := certificateBodiesRow.holds Tryz.pinned (OpenSpec.ofChange certificateBodiesSpec)

/-- ITS FALSE NEIGHBOUR: 'it returns false'. Refute it at one input. -/
def certificateBodiesWrong : ChangeSpec := { name := "certificateBodies", fn := fun _ => fun
  | [d1, d2] => { results := [.lit (.bool false)], args := [d1, d2] }
  | _ => none }
def CertificateBodiesWrongFalsely : Prop := certificateBodiesRow.holds Tryz.pinned (OpenSpec.ofChange certificateBodiesWrong)

/-- 'passkeylaw26.CertificateSigns': WHATEVER THE INPUT: true; the input reads as it did. -/
def certificateSignsSpec : ChangeSpec := { name := "certificateSigns", fn := fun _ => fun
  | [d1, d2, d3, d4, d5, d6] => { results := [.lit (.bool true)], args := [d1, d2, d3, d4, d5, d6] }
  | _ => none }
def certificateSignsRow : OpenClaim := { program := "ytdjihiphpgkfmaagreatdoor", sum := "717b338a7930a17fd8f727c287578b9990348aec27be832c51547285382f789d", func := "passkey/passkeylaw26.CertificateSigns", spec := "certificateSigns", inPlace := ["internal/bytealg.Compare"], unfollowed := true, recurses := true, named := ["unicode/utf8.first", "unicode/utf8.acceptRanges"], apart := false, laid := [("unicode/utf8.acceptRanges", laid_unicode_utf8_acceptRanges), ("unicode/utf8.first", laid_unicode_utf8_first)] }
def CertificateSignsSaid : Prop := certificateSignsRow.holds Tryz.pinned (OpenSpec.ofChange certificateSignsSpec)

/-- ITS FALSE NEIGHBOUR: 'it returns false'. Refute it at one input. -/
def certificateSignsWrong : ChangeSpec := { name := "certificateSigns", fn := fun _ => fun
  | [d1, d2, d3, d4, d5, d6] => { results := [.lit (.bool false)], args := [d1, d2, d3, d4, d5, d6] }
  | _ => none }
def CertificateSignsWrongFalsely : Prop := certificateSignsRow.holds Tryz.pinned (OpenSpec.ofChange certificateSignsWrong)

/-- 'passkeylaw26.CertificateDecodes': WHATEVER THE INPUT: true; the input reads as it did. -/
def certificateDecodesSpec : ChangeSpec := { name := "certificateDecodes", fn := fun _ => fun
  | [d1, d2] => { results := [.lit (.bool true)], args := [d1, d2] }
  | _ => none }
def certificateDecodesRow : OpenClaim := { program := "ytdjihiphpgkfmaagreatdoor", sum := "717b338a7930a17fd8f727c287578b9990348aec27be832c51547285382f789d", func := "passkey/passkeylaw26.CertificateDecodes", spec := "certificateDecodes", inPlace := ["internal/bytealg.Compare"], unfollowed := true, recurses := true, named := ["unicode/utf8.first", "unicode/utf8.acceptRanges"], apart := false, laid := [("unicode/utf8.acceptRanges", laid_unicode_utf8_acceptRanges), ("unicode/utf8.first", laid_unicode_utf8_first)] }
def CertificateDecodesSaid : Prop := certificateDecodesRow.holds Tryz.pinned (OpenSpec.ofChange certificateDecodesSpec)

/-- ITS FALSE NEIGHBOUR: 'it returns false'. Refute it at one input. -/
def certificateDecodesWrong : ChangeSpec := { name := "certificateDecodes", fn := fun _ => fun
  | [d1, d2] => { results := [.lit (.bool false)], args := [d1, d2] }
  | _ => none }
def CertificateDecodesWrongFalsely : Prop := certificateDecodesRow.holds Tryz.pinned (OpenSpec.ofChange certificateDecodesWrong)

/-- 'passkeylaw26.CertificatePaths': WHATEVER THE INPUT: true; the input reads as it did. -/
def certificatePathsSpec : ChangeSpec := { name := "certificatePaths", fn := fun _ => fun
  | [d1, d2, d3, d4, d5] => { results := [.lit (.bool true)], args := [d1, d2, d3, d4, d5] }
  | _ => none }
def certificatePathsRow : OpenClaim := { program := "ytdjihiphpgkfmaagreatdoor", sum := "717b338a7930a17fd8f727c287578b9990348aec27be832c51547285382f789d", func := "passkey/passkeylaw26.CertificatePaths", spec := "certificatePaths", inPlace := ["internal/bytealg.Compare"], unfollowed := true, recurses := true, named := ["unicode/utf8.first", "unicode/utf8.acceptRanges"], apart := false, laid := [("unicode/utf8.acceptRanges", laid_unicode_utf8_acceptRanges), ("unicode/utf8.first", laid_unicode_utf8_first)] }
def CertificatePathsSaid : Prop := certificatePathsRow.holds Tryz.pinned (OpenSpec.ofChange certificatePathsSpec)

/-- ITS FALSE NEIGHBOUR: 'it returns false'. Refute it at one input. -/
def certificatePathsWrong : ChangeSpec := { name := "certificatePaths", fn := fun _ => fun
  | [d1, d2, d3, d4, d5] => { results := [.lit (.bool false)], args := [d1, d2, d3, d4, d5] }
  | _ => none }
def CertificatePathsWrongFalsely : Prop := certificatePathsRow.holds Tryz.pinned (OpenSpec.ofChange certificatePathsWrong)

/-- 'passkeylaw26.CertificateLinks': WHATEVER THE INPUT: true; the input reads as it did. -/
def certificateLinksSpec : ChangeSpec := { name := "certificateLinks", fn := fun _ => fun
  | [d1, d2] => { results := [.lit (.bool true)], args := [d1, d2] }
  | _ => none }
def certificateLinksRow : OpenClaim := { program := "ytdjihiphpgkfmaagreatdoor", sum := "717b338a7930a17fd8f727c287578b9990348aec27be832c51547285382f789d", func := "passkey/passkeylaw26.CertificateLinks", spec := "certificateLinks", inPlace := ["internal/bytealg.Compare"], unfollowed := true, recurses := true, named := ["unicode/utf8.first", "unicode/utf8.acceptRanges"], apart := false, laid := [("unicode/utf8.acceptRanges", laid_unicode_utf8_acceptRanges), ("unicode/utf8.first", laid_unicode_utf8_first)] }
def CertificateLinksSaid : Prop := certificateLinksRow.holds Tryz.pinned (OpenSpec.ofChange certificateLinksSpec)

/-- ITS FALSE NEIGHBOUR: 'it returns false'. Refute it at one input. -/
def certificateLinksWrong : ChangeSpec := { name := "certificateLinks", fn := fun _ => fun
  | [d1, d2] => { results := [.lit (.bool false)], args := [d1, d2] }
  | _ => none }
def CertificateLinksWrongFalsely : Prop := certificateLinksRow.holds Tryz.pinned (OpenSpec.ofChange certificateLinksWrong)

/-- 'passkeylaw26.CertificateStrict': WHATEVER THE INPUT: true; the input reads as it did. -/
def certificateStrictSpec : ChangeSpec := { name := "certificateStrict", fn := fun _ => fun
  | [d1, d2, d3, d4] => { results := [.lit (.bool true)], args := [d1, d2, d3, d4] }
  | _ => none }
def certificateStrictRow : OpenClaim := { program := "ytdjihiphpgkfmaagreatdoor", sum := "717b338a7930a17fd8f727c287578b9990348aec27be832c51547285382f789d", func := "passkey/passkeylaw26.CertificateStrict", spec := "certificateStrict", inPlace := ["internal/bytealg.Compare"], unfollowed := true, recurses := true, named := ["unicode/utf8.first", "unicode/utf8.acceptRanges"], apart := false, laid := [("unicode/utf8.acceptRanges", laid_unicode_utf8_acceptRanges), ("unicode/utf8.first", laid_unicode_utf8_first)] }
def CertificateStrictSaid : Prop := certificateStrictRow.holds Tryz.pinned (OpenSpec.ofChange certificateStrictSpec)

/-- ITS FALSE NEIGHBOUR: 'it returns false'. Refute it at one input. -/
def certificateStrictWrong : ChangeSpec := { name := "certificateStrict", fn := fun _ => fun
  | [d1, d2, d3, d4] => { results := [.lit (.bool false)], args := [d1, d2, d3, d4] }
  | _ => none }
def CertificateStrictWrongFalsely : Prop := certificateStrictRow.holds Tryz.pinned (OpenSpec.ofChange certificateStrictWrong)

/- THE SECOND FORM. 'bulk': how many values and letters a reading holds, each counted each time it is reached (what is shared counts as often as it is met; a slice's spare places count too). A statement '..UptoSaid' is the law's where the arguments, and the package variables that the reading takes, are together of bulk at most 1048576: NARROWER than '..Said'. Prove '..Said' where nothing that the law and all that it calls make is longer than what came in: it says more and counts as full. Else prove '..UptoSaid'. A law counts once. -/
mutual
def uptoBulk {H : Type} : DataW H → Nat
  | .lit (.string bytes) => bytes.length + 1
  | .lit _ => 1
  | .nil => 1
  | .ptr d => uptoBulk d + 1
  | .slice elems spare => uptoBulkAll elems + uptoBulkAll spare + 1
  | .agg parts => uptoBulkAll parts + 1
  | .iface _ d => uptoBulk d + 1
  | .map entries => uptoBulkEntries entries + 1
  | .held _ => 1
def uptoBulkAll {H : Type} : List (DataW H) → Nat
  | [] => 0
  | d :: r => uptoBulk d + uptoBulkAll r
def uptoBulkEntries {H : Type} : List (Lit × DataW H) → Nat
  | [] => 0
  | x :: r => uptoBulkEntry x + uptoBulkEntries r
def uptoBulkEntry {H : Type} : Lit × DataW H → Nat
  | (.string bytes, d) => bytes.length + uptoBulk d + 1
  | (_, d) => uptoBulk d + 1
 end
def uptoSmall : (H : Type) → List (DataW H) → Bool := fun _ ds => decide (uptoBulkAll ds ≤ 1048576)
def OpenSpec.upto (s : _root_.Go.ChangeSpec) : _root_.Go.OpenSpec := { _root_.Go.OpenSpec.ofChange s with cond := some uptoSmall }

/-- 'passkeylaw26.CertificateBodies', WHERE WHAT IT READS IS OF BULK AT MOST 1048576: true; the input reads as it did. -/
def certificateBodiesUptoRow : OpenClaim := { program := "ytdjihiphpgkfmaagreatdoor", sum := "717b338a7930a17fd8f727c287578b9990348aec27be832c51547285382f789d", func := "passkey/passkeylaw26.CertificateBodies", spec := "certificateBodies", inPlace := ["internal/bytealg.Compare"], unfollowed := true, recurses := true, named := ["unicode/utf8.first", "unicode/utf8.acceptRanges"], apart := false, laid := [("unicode/utf8.acceptRanges", laid_unicode_utf8_acceptRanges), ("unicode/utf8.first", laid_unicode_utf8_first)], narrowed := true }
def CertificateBodiesUptoSaid : Prop := certificateBodiesUptoRow.holds Tryz.pinned (OpenSpec.upto certificateBodiesSpec)

/-- 'passkeylaw26.CertificateSigns', WHERE WHAT IT READS IS OF BULK AT MOST 1048576: true; the input reads as it did. -/
def certificateSignsUptoRow : OpenClaim := { program := "ytdjihiphpgkfmaagreatdoor", sum := "717b338a7930a17fd8f727c287578b9990348aec27be832c51547285382f789d", func := "passkey/passkeylaw26.CertificateSigns", spec := "certificateSigns", inPlace := ["internal/bytealg.Compare"], unfollowed := true, recurses := true, named := ["unicode/utf8.first", "unicode/utf8.acceptRanges"], apart := false, laid := [("unicode/utf8.acceptRanges", laid_unicode_utf8_acceptRanges), ("unicode/utf8.first", laid_unicode_utf8_first)], narrowed := true }
def CertificateSignsUptoSaid : Prop := certificateSignsUptoRow.holds Tryz.pinned (OpenSpec.upto certificateSignsSpec)

/-- 'passkeylaw26.CertificateDecodes', WHERE WHAT IT READS IS OF BULK AT MOST 1048576: true; the input reads as it did. -/
def certificateDecodesUptoRow : OpenClaim := { program := "ytdjihiphpgkfmaagreatdoor", sum := "717b338a7930a17fd8f727c287578b9990348aec27be832c51547285382f789d", func := "passkey/passkeylaw26.CertificateDecodes", spec := "certificateDecodes", inPlace := ["internal/bytealg.Compare"], unfollowed := true, recurses := true, named := ["unicode/utf8.first", "unicode/utf8.acceptRanges"], apart := false, laid := [("unicode/utf8.acceptRanges", laid_unicode_utf8_acceptRanges), ("unicode/utf8.first", laid_unicode_utf8_first)], narrowed := true }
def CertificateDecodesUptoSaid : Prop := certificateDecodesUptoRow.holds Tryz.pinned (OpenSpec.upto certificateDecodesSpec)

/-- 'passkeylaw26.CertificatePaths', WHERE WHAT IT READS IS OF BULK AT MOST 1048576: true; the input reads as it did. -/
def certificatePathsUptoRow : OpenClaim := { program := "ytdjihiphpgkfmaagreatdoor", sum := "717b338a7930a17fd8f727c287578b9990348aec27be832c51547285382f789d", func := "passkey/passkeylaw26.CertificatePaths", spec := "certificatePaths", inPlace := ["internal/bytealg.Compare"], unfollowed := true, recurses := true, named := ["unicode/utf8.first", "unicode/utf8.acceptRanges"], apart := false, laid := [("unicode/utf8.acceptRanges", laid_unicode_utf8_acceptRanges), ("unicode/utf8.first", laid_unicode_utf8_first)], narrowed := true }
def CertificatePathsUptoSaid : Prop := certificatePathsUptoRow.holds Tryz.pinned (OpenSpec.upto certificatePathsSpec)

/-- 'passkeylaw26.CertificateLinks', WHERE WHAT IT READS IS OF BULK AT MOST 1048576: true; the input reads as it did. -/
def certificateLinksUptoRow : OpenClaim := { program := "ytdjihiphpgkfmaagreatdoor", sum := "717b338a7930a17fd8f727c287578b9990348aec27be832c51547285382f789d", func := "passkey/passkeylaw26.CertificateLinks", spec := "certificateLinks", inPlace := ["internal/bytealg.Compare"], unfollowed := true, recurses := true, named := ["unicode/utf8.first", "unicode/utf8.acceptRanges"], apart := false, laid := [("unicode/utf8.acceptRanges", laid_unicode_utf8_acceptRanges), ("unicode/utf8.first", laid_unicode_utf8_first)], narrowed := true }
def CertificateLinksUptoSaid : Prop := certificateLinksUptoRow.holds Tryz.pinned (OpenSpec.upto certificateLinksSpec)

/-- 'passkeylaw26.CertificateStrict', WHERE WHAT IT READS IS OF BULK AT MOST 1048576: true; the input reads as it did. -/
def certificateStrictUptoRow : OpenClaim := { program := "ytdjihiphpgkfmaagreatdoor", sum := "717b338a7930a17fd8f727c287578b9990348aec27be832c51547285382f789d", func := "passkey/passkeylaw26.CertificateStrict", spec := "certificateStrict", inPlace := ["internal/bytealg.Compare"], unfollowed := true, recurses := true, named := ["unicode/utf8.first", "unicode/utf8.acceptRanges"], apart := false, laid := [("unicode/utf8.acceptRanges", laid_unicode_utf8_acceptRanges), ("unicode/utf8.first", laid_unicode_utf8_first)], narrowed := true }
def CertificateStrictUptoSaid : Prop := certificateStrictUptoRow.holds Tryz.pinned (OpenSpec.upto certificateStrictSpec)

end Rows
end Go.Proofs.YtdjihiphpgkfmaaGreatDoor
