/-
  No cell of these rows narrows 'for every input' (looked for: loops, veiled, ifaces, maps, wideKeys, modest, calm, conditions, laid).
  DERIVED. THE GIVEN ROWS OF THIS SEAT. 6 by the template 'for every input the law returns true; each argument reads behind the call as it read before'; 0 by the template 'total and deterministic' (their statements: YtoidbofkmflocaaTotals.lean).
  GIVEN WITH THE SEED: the statements are not yours to turn. If you find one false, say at which input.
  Laid BY PROGRAM, IN A SANDBOX (cutbox-rows.mjs): the forced cells as the released guide's own fill.sh prints them over the translation f1855896ecd472b5… (all of the seat's roots in one cut). By AI agents, Wed Nov 11 2026. No macro, syntax, notation, axiom, sorry.
-/
import Derived.Test.YtoidbofkmflocaaChecked
import GoSem.Claim
import GoSem.ClaimJoined
import GoSem.ClaimMapViews
import Derived.JoinedTies
import Derived.KernelRfl
namespace Go.Proofs.Ytoidbofkmflocaa
/- THE CELL 'sum', in the pinned program and in every row, IS THE sha256 OF THE DUMP (.gsa) THAT YtoidbofkmflocaaProg.lean LOADS. Nothing in Lean hashes anything: it is a label: what it is worth is what the hold of that sum in a sandbox is worth. -/
noncomputable def Try.pinned : Pinned := { name := "ytoidbofkmflocaa", sum := "f1855896ecd472b58bd058cbfe86c7cd357e06f373375a1c111a7b67a734bb27", checked := Try.checked }
namespace Rows
def none {H : Type} : Left H := { results := [], args := [] }

/-- 'passkeylaw10.LeaseFinds': WHATEVER THE INPUT: true; the input reads as it did. -/
def leaseFindsSpec : ChangeSpec := { name := "leaseFinds", fn := fun _ => fun
  | [d1, d2, d3, d4] => { results := [.lit (.bool true)], args := [d1, d2, d3, d4] }
  | _ => none }
def leaseFindsRow : OpenClaim := { program := "ytoidbofkmflocaa", sum := "f1855896ecd472b58bd058cbfe86c7cd357e06f373375a1c111a7b67a734bb27", func := "passkey/passkeylaw10.LeaseFinds", spec := "leaseFinds", apart := false }
def LeaseFindsSaid : Prop := leaseFindsRow.holds Try.pinned (OpenSpec.ofChange leaseFindsSpec)

/-- ITS FALSE NEIGHBOUR: 'it returns false'. Refute it at one input. -/
def leaseFindsWrong : ChangeSpec := { name := "leaseFinds", fn := fun _ => fun
  | [d1, d2, d3, d4] => { results := [.lit (.bool false)], args := [d1, d2, d3, d4] }
  | _ => none }
def LeaseFindsWrongFalsely : Prop := leaseFindsRow.holds Try.pinned (OpenSpec.ofChange leaseFindsWrong)

/-- 'passkeylaw10.LeaseGrants': WHATEVER THE INPUT: true; the input reads as it did. -/
def leaseGrantsSpec : ChangeSpec := { name := "leaseGrants", fn := fun _ => fun
  | [d1, d2, d3] => { results := [.lit (.bool true)], args := [d1, d2, d3] }
  | _ => none }
def leaseGrantsRow : OpenClaim := { program := "ytoidbofkmflocaa", sum := "f1855896ecd472b58bd058cbfe86c7cd357e06f373375a1c111a7b67a734bb27", func := "passkey/passkeylaw10.LeaseGrants", spec := "leaseGrants", apart := false }
def LeaseGrantsSaid : Prop := leaseGrantsRow.holds Try.pinned (OpenSpec.ofChange leaseGrantsSpec)

/-- ITS FALSE NEIGHBOUR: 'it returns false'. Refute it at one input. -/
def leaseGrantsWrong : ChangeSpec := { name := "leaseGrants", fn := fun _ => fun
  | [d1, d2, d3] => { results := [.lit (.bool false)], args := [d1, d2, d3] }
  | _ => none }
def LeaseGrantsWrongFalsely : Prop := leaseGrantsRow.holds Try.pinned (OpenSpec.ofChange leaseGrantsWrong)

/-- 'passkeylaw10.LeaseParts': WHATEVER THE INPUT: true; the input reads as it did. -/
def leasePartsSpec : ChangeSpec := { name := "leaseParts", fn := fun _ => fun
  | [d1, d2, d3] => { results := [.lit (.bool true)], args := [d1, d2, d3] }
  | _ => none }
def leasePartsRow : OpenClaim := { program := "ytoidbofkmflocaa", sum := "f1855896ecd472b58bd058cbfe86c7cd357e06f373375a1c111a7b67a734bb27", func := "passkey/passkeylaw10.LeaseParts", spec := "leaseParts", apart := false }
def LeasePartsSaid : Prop := leasePartsRow.holds Try.pinned (OpenSpec.ofChange leasePartsSpec)

/-- ITS FALSE NEIGHBOUR: 'it returns false'. Refute it at one input. -/
def leasePartsWrong : ChangeSpec := { name := "leaseParts", fn := fun _ => fun
  | [d1, d2, d3] => { results := [.lit (.bool false)], args := [d1, d2, d3] }
  | _ => none }
def LeasePartsWrongFalsely : Prop := leasePartsRow.holds Try.pinned (OpenSpec.ofChange leasePartsWrong)

/-- 'passkeylaw10.LeaseDisjoint': WHATEVER THE INPUT: true; the input reads as it did. -/
def leaseDisjointSpec : ChangeSpec := { name := "leaseDisjoint", fn := fun _ => fun
  | [d] => { results := [.lit (.bool true)], args := [d] }
  | _ => none }
def leaseDisjointRow : OpenClaim := { program := "ytoidbofkmflocaa", sum := "f1855896ecd472b58bd058cbfe86c7cd357e06f373375a1c111a7b67a734bb27", func := "passkey/passkeylaw10.LeaseDisjoint", spec := "leaseDisjoint", apart := false }
def LeaseDisjointSaid : Prop := leaseDisjointRow.holds Try.pinned (OpenSpec.ofChange leaseDisjointSpec)

/-- ITS FALSE NEIGHBOUR: 'it returns false'. Refute it at one input. -/
def leaseDisjointWrong : ChangeSpec := { name := "leaseDisjoint", fn := fun _ => fun
  | [d] => { results := [.lit (.bool false)], args := [d] }
  | _ => none }
def LeaseDisjointWrongFalsely : Prop := leaseDisjointRow.holds Try.pinned (OpenSpec.ofChange leaseDisjointWrong)

/-- 'passkeylaw10.LeaseCodes': WHATEVER THE INPUT: true; the input reads as it did. -/
def leaseCodesSpec : ChangeSpec := { name := "leaseCodes", fn := fun _ => fun
  | [d1, d2, d3] => { results := [.lit (.bool true)], args := [d1, d2, d3] }
  | _ => none }
def leaseCodesRow : OpenClaim := { program := "ytoidbofkmflocaa", sum := "f1855896ecd472b58bd058cbfe86c7cd357e06f373375a1c111a7b67a734bb27", func := "passkey/passkeylaw10.LeaseCodes", spec := "leaseCodes", apart := false }
def LeaseCodesSaid : Prop := leaseCodesRow.holds Try.pinned (OpenSpec.ofChange leaseCodesSpec)

/-- ITS FALSE NEIGHBOUR: 'it returns false'. Refute it at one input. -/
def leaseCodesWrong : ChangeSpec := { name := "leaseCodes", fn := fun _ => fun
  | [d1, d2, d3] => { results := [.lit (.bool false)], args := [d1, d2, d3] }
  | _ => none }
def LeaseCodesWrongFalsely : Prop := leaseCodesRow.holds Try.pinned (OpenSpec.ofChange leaseCodesWrong)

/-- 'passkeylaw10.LeaseTakes': WHATEVER THE INPUT: true; the input reads as it did. -/
def leaseTakesSpec : ChangeSpec := { name := "leaseTakes", fn := fun _ => fun
  | [d1, d2] => { results := [.lit (.bool true)], args := [d1, d2] }
  | _ => none }
def leaseTakesRow : OpenClaim := { program := "ytoidbofkmflocaa", sum := "f1855896ecd472b58bd058cbfe86c7cd357e06f373375a1c111a7b67a734bb27", func := "passkey/passkeylaw10.LeaseTakes", spec := "leaseTakes", apart := false }
def LeaseTakesSaid : Prop := leaseTakesRow.holds Try.pinned (OpenSpec.ofChange leaseTakesSpec)

/-- ITS FALSE NEIGHBOUR: 'it returns false'. Refute it at one input. -/
def leaseTakesWrong : ChangeSpec := { name := "leaseTakes", fn := fun _ => fun
  | [d1, d2] => { results := [.lit (.bool false)], args := [d1, d2] }
  | _ => none }
def LeaseTakesWrongFalsely : Prop := leaseTakesRow.holds Try.pinned (OpenSpec.ofChange leaseTakesWrong)

/- THE SECOND FORM. 'bulk': how many values and letters a reading holds, each counted each time it is reached (what is shared counts as often as it is met; a slice's spare places count too). A statement '..UptoSaid' is the law's where the arguments, and the package variables that the reading takes, are together of bulk at most 1048576: NARROWER than '..Said'. Prove '..Said' where nothing that the law and all that it calls make is longer than what came in: it says more and counts as full. Else prove '..UptoSaid'. A law counts once. -/
mutual
def uptoBulk {H : Type} : DataW H → Nat
  | .lit (.string bytes) => bytes.length + 1
  | .lit _ => 1
  | .nil => 1
  | .ptr d => uptoBulk d + 1
  | .slice elems spare => uptoBulkAll elems + uptoBulkAll spare + 1
  | .agg parts => uptoBulkAll parts + 1
  | .iface _ d => uptoBulk d + 1
  | .map entries => uptoBulkEntries entries + 1
  | .held _ => 1
def uptoBulkAll {H : Type} : List (DataW H) → Nat
  | [] => 0
  | d :: r => uptoBulk d + uptoBulkAll r
def uptoBulkEntries {H : Type} : List (Lit × DataW H) → Nat
  | [] => 0
  | x :: r => uptoBulkEntry x + uptoBulkEntries r
def uptoBulkEntry {H : Type} : Lit × DataW H → Nat
  | (.string bytes, d) => bytes.length + uptoBulk d + 1
  | (_, d) => uptoBulk d + 1
 end
def uptoSmall : (H : Type) → List (DataW H) → Bool := fun _ ds => decide (uptoBulkAll ds ≤ 1048576)
def OpenSpec.upto (s : _root_.Go.ChangeSpec) : _root_.Go.OpenSpec := { _root_.Go.OpenSpec.ofChange s with cond := some uptoSmall }

/-- 'passkeylaw10.LeaseFinds', WHERE WHAT IT READS IS OF BULK AT MOST 1048576: true; the input reads as it did. -/
def leaseFindsUptoRow : OpenClaim := { program := "ytoidbofkmflocaa", sum := "f1855896ecd472b58bd058cbfe86c7cd357e06f373375a1c111a7b67a734bb27", func := "passkey/passkeylaw10.LeaseFinds", spec := "leaseFinds", apart := false, narrowed := true }
def LeaseFindsUptoSaid : Prop := leaseFindsUptoRow.holds Try.pinned (OpenSpec.upto leaseFindsSpec)

/-- 'passkeylaw10.LeaseGrants', WHERE WHAT IT READS IS OF BULK AT MOST 1048576: true; the input reads as it did. -/
def leaseGrantsUptoRow : OpenClaim := { program := "ytoidbofkmflocaa", sum := "f1855896ecd472b58bd058cbfe86c7cd357e06f373375a1c111a7b67a734bb27", func := "passkey/passkeylaw10.LeaseGrants", spec := "leaseGrants", apart := false, narrowed := true }
def LeaseGrantsUptoSaid : Prop := leaseGrantsUptoRow.holds Try.pinned (OpenSpec.upto leaseGrantsSpec)

/-- 'passkeylaw10.LeaseParts', WHERE WHAT IT READS IS OF BULK AT MOST 1048576: true; the input reads as it did. -/
def leasePartsUptoRow : OpenClaim := { program := "ytoidbofkmflocaa", sum := "f1855896ecd472b58bd058cbfe86c7cd357e06f373375a1c111a7b67a734bb27", func := "passkey/passkeylaw10.LeaseParts", spec := "leaseParts", apart := false, narrowed := true }
def LeasePartsUptoSaid : Prop := leasePartsUptoRow.holds Try.pinned (OpenSpec.upto leasePartsSpec)

/-- 'passkeylaw10.LeaseDisjoint', WHERE WHAT IT READS IS OF BULK AT MOST 1048576: true; the input reads as it did. -/
def leaseDisjointUptoRow : OpenClaim := { program := "ytoidbofkmflocaa", sum := "f1855896ecd472b58bd058cbfe86c7cd357e06f373375a1c111a7b67a734bb27", func := "passkey/passkeylaw10.LeaseDisjoint", spec := "leaseDisjoint", apart := false, narrowed := true }
def LeaseDisjointUptoSaid : Prop := leaseDisjointUptoRow.holds Try.pinned (OpenSpec.upto leaseDisjointSpec)

/-- 'passkeylaw10.LeaseCodes', WHERE WHAT IT READS IS OF BULK AT MOST 1048576: true; the input reads as it did. -/
def leaseCodesUptoRow : OpenClaim := { program := "ytoidbofkmflocaa", sum := "f1855896ecd472b58bd058cbfe86c7cd357e06f373375a1c111a7b67a734bb27", func := "passkey/passkeylaw10.LeaseCodes", spec := "leaseCodes", apart := false, narrowed := true }
def LeaseCodesUptoSaid : Prop := leaseCodesUptoRow.holds Try.pinned (OpenSpec.upto leaseCodesSpec)

/-- 'passkeylaw10.LeaseTakes', WHERE WHAT IT READS IS OF BULK AT MOST 1048576: true; the input reads as it did. -/
def leaseTakesUptoRow : OpenClaim := { program := "ytoidbofkmflocaa", sum := "f1855896ecd472b58bd058cbfe86c7cd357e06f373375a1c111a7b67a734bb27", func := "passkey/passkeylaw10.LeaseTakes", spec := "leaseTakes", apart := false, narrowed := true }
def LeaseTakesUptoSaid : Prop := leaseTakesUptoRow.holds Try.pinned (OpenSpec.upto leaseTakesSpec)

end Rows
end Go.Proofs.Ytoidbofkmflocaa
