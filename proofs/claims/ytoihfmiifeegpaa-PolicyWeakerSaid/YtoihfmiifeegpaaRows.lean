/-
  No cell of these rows narrows 'for every input' (looked for: loops, veiled, ifaces, maps, wideKeys, modest, calm, conditions, laid).
  DERIVED. THE GIVEN ROWS OF THIS SEAT. 4 by the template 'for every input the law returns true; each argument reads behind the call as it read before'; 0 by the template 'total and deterministic' (their statements: YtoihfmiifeegpaaTotals.lean).
  GIVEN WITH THE SEED: the statements are not yours to turn. If you find one false, say at which input.
  Laid BY PROGRAM, IN A SANDBOX (cutbox-rows.mjs): the forced cells as the released guide's own fill.sh prints them over the translation 8f98179c4c6865d7… (all of the seat's roots in one cut). By AI agents, Wed Nov 11 2026. No macro, syntax, notation, axiom, sorry.
-/
import Derived.Test.YtoihfmiifeegpaaChecked
import GoSem.Claim
import GoSem.ClaimJoined
import GoSem.ClaimMapViews
import Derived.JoinedTies
import Derived.KernelRfl
namespace Go.Proofs.Ytoihfmiifeegpaa
/- THE CELL 'sum', in the pinned program and in every row, IS THE sha256 OF THE DUMP (.gsa) THAT YtoihfmiifeegpaaProg.lean LOADS. Nothing in Lean hashes anything: it is a label: what it is worth is what the hold of that sum in a sandbox is worth. -/
noncomputable def Try.pinned : Pinned := { name := "ytoihfmiifeegpaa", sum := "8f98179c4c6865d70f3afdf6fcd88118141a2e96fd345612f0ee4df2640f23d0", checked := Try.checked }
namespace Rows
def none {H : Type} : Left H := { results := [], args := [] }

/-- 'passkeylaw31.PolicyValidates': WHATEVER THE INPUT: true; the input reads as it did. -/
def policyValidatesSpec : ChangeSpec := { name := "policyValidates", fn := fun _ => fun
  | [d1, d2] => { results := [.lit (.bool true)], args := [d1, d2] }
  | _ => none }
def policyValidatesRow : OpenClaim := { program := "ytoihfmiifeegpaa", sum := "8f98179c4c6865d70f3afdf6fcd88118141a2e96fd345612f0ee4df2640f23d0", func := "passkey/passkeylaw31.PolicyValidates", spec := "policyValidates", apart := false }
def PolicyValidatesSaid : Prop := policyValidatesRow.holds Try.pinned (OpenSpec.ofChange policyValidatesSpec)

/-- ITS FALSE NEIGHBOUR: 'it returns false'. Refute it at one input. -/
def policyValidatesWrong : ChangeSpec := { name := "policyValidates", fn := fun _ => fun
  | [d1, d2] => { results := [.lit (.bool false)], args := [d1, d2] }
  | _ => none }
def PolicyValidatesWrongFalsely : Prop := policyValidatesRow.holds Try.pinned (OpenSpec.ofChange policyValidatesWrong)

/-- 'passkeylaw31.PolicyDecides': WHATEVER THE INPUT: true; the input reads as it did. -/
def policyDecidesSpec : ChangeSpec := { name := "policyDecides", fn := fun _ => fun
  | [d1, d2, d3, d4, d5, d6] => { results := [.lit (.bool true)], args := [d1, d2, d3, d4, d5, d6] }
  | _ => none }
def policyDecidesRow : OpenClaim := { program := "ytoihfmiifeegpaa", sum := "8f98179c4c6865d70f3afdf6fcd88118141a2e96fd345612f0ee4df2640f23d0", func := "passkey/passkeylaw31.PolicyDecides", spec := "policyDecides", apart := false }
def PolicyDecidesSaid : Prop := policyDecidesRow.holds Try.pinned (OpenSpec.ofChange policyDecidesSpec)

/-- ITS FALSE NEIGHBOUR: 'it returns false'. Refute it at one input. -/
def policyDecidesWrong : ChangeSpec := { name := "policyDecides", fn := fun _ => fun
  | [d1, d2, d3, d4, d5, d6] => { results := [.lit (.bool false)], args := [d1, d2, d3, d4, d5, d6] }
  | _ => none }
def PolicyDecidesWrongFalsely : Prop := policyDecidesRow.holds Try.pinned (OpenSpec.ofChange policyDecidesWrong)

/-- 'passkeylaw31.PolicyWeaker': WHATEVER THE INPUT: true; the input reads as it did. -/
def policyWeakerSpec : ChangeSpec := { name := "policyWeaker", fn := fun _ => fun
  | [d1, d2, d3] => { results := [.lit (.bool true)], args := [d1, d2, d3] }
  | _ => none }
def policyWeakerRow : OpenClaim := { program := "ytoihfmiifeegpaa", sum := "8f98179c4c6865d70f3afdf6fcd88118141a2e96fd345612f0ee4df2640f23d0", func := "passkey/passkeylaw31.PolicyWeaker", spec := "policyWeaker", apart := false }
def PolicyWeakerSaid : Prop := policyWeakerRow.holds Try.pinned (OpenSpec.ofChange policyWeakerSpec)

/-- ITS FALSE NEIGHBOUR: 'it returns false'. Refute it at one input. -/
def policyWeakerWrong : ChangeSpec := { name := "policyWeaker", fn := fun _ => fun
  | [d1, d2, d3] => { results := [.lit (.bool false)], args := [d1, d2, d3] }
  | _ => none }
def PolicyWeakerWrongFalsely : Prop := policyWeakerRow.holds Try.pinned (OpenSpec.ofChange policyWeakerWrong)

/-- 'passkeylaw31.PolicyModels': WHATEVER THE INPUT: true; the input reads as it did. -/
def policyModelsSpec : ChangeSpec := { name := "policyModels", fn := fun _ => fun
  | [d1, d2, d3] => { results := [.lit (.bool true)], args := [d1, d2, d3] }
  | _ => none }
def policyModelsRow : OpenClaim := { program := "ytoihfmiifeegpaa", sum := "8f98179c4c6865d70f3afdf6fcd88118141a2e96fd345612f0ee4df2640f23d0", func := "passkey/passkeylaw31.PolicyModels", spec := "policyModels", apart := false }
def PolicyModelsSaid : Prop := policyModelsRow.holds Try.pinned (OpenSpec.ofChange policyModelsSpec)

/-- ITS FALSE NEIGHBOUR: 'it returns false'. Refute it at one input. -/
def policyModelsWrong : ChangeSpec := { name := "policyModels", fn := fun _ => fun
  | [d1, d2, d3] => { results := [.lit (.bool false)], args := [d1, d2, d3] }
  | _ => none }
def PolicyModelsWrongFalsely : Prop := policyModelsRow.holds Try.pinned (OpenSpec.ofChange policyModelsWrong)

/- THE SECOND FORM. 'bulk': how many values and letters a reading holds, each counted each time it is reached (what is shared counts as often as it is met; a slice's spare places count too). A statement '..UptoSaid' is the law's where the arguments, and the package variables that the reading takes, are together of bulk at most 1048576: NARROWER than '..Said'. Prove '..Said' where nothing that the law and all that it calls make is longer than what came in: it says more and counts as full. Else prove '..UptoSaid'. A law counts once. -/
mutual
def uptoBulk {H : Type} : DataW H → Nat
  | .lit (.string bytes) => bytes.length + 1
  | .lit _ => 1
  | .nil => 1
  | .ptr d => uptoBulk d + 1
  | .slice elems spare => uptoBulkAll elems + uptoBulkAll spare + 1
  | .agg parts => uptoBulkAll parts + 1
  | .iface _ d => uptoBulk d + 1
  | .map entries => uptoBulkEntries entries + 1
  | .held _ => 1
def uptoBulkAll {H : Type} : List (DataW H) → Nat
  | [] => 0
  | d :: r => uptoBulk d + uptoBulkAll r
def uptoBulkEntries {H : Type} : List (Lit × DataW H) → Nat
  | [] => 0
  | x :: r => uptoBulkEntry x + uptoBulkEntries r
def uptoBulkEntry {H : Type} : Lit × DataW H → Nat
  | (.string bytes, d) => bytes.length + uptoBulk d + 1
  | (_, d) => uptoBulk d + 1
 end
def uptoSmall : (H : Type) → List (DataW H) → Bool := fun _ ds => decide (uptoBulkAll ds ≤ 1048576)
def OpenSpec.upto (s : _root_.Go.ChangeSpec) : _root_.Go.OpenSpec := { _root_.Go.OpenSpec.ofChange s with cond := some uptoSmall }

/-- 'passkeylaw31.PolicyValidates', WHERE WHAT IT READS IS OF BULK AT MOST 1048576: true; the input reads as it did. -/
def policyValidatesUptoRow : OpenClaim := { program := "ytoihfmiifeegpaa", sum := "8f98179c4c6865d70f3afdf6fcd88118141a2e96fd345612f0ee4df2640f23d0", func := "passkey/passkeylaw31.PolicyValidates", spec := "policyValidates", apart := false, narrowed := true }
def PolicyValidatesUptoSaid : Prop := policyValidatesUptoRow.holds Try.pinned (OpenSpec.upto policyValidatesSpec)

/-- 'passkeylaw31.PolicyDecides', WHERE WHAT IT READS IS OF BULK AT MOST 1048576: true; the input reads as it did. -/
def policyDecidesUptoRow : OpenClaim := { program := "ytoihfmiifeegpaa", sum := "8f98179c4c6865d70f3afdf6fcd88118141a2e96fd345612f0ee4df2640f23d0", func := "passkey/passkeylaw31.PolicyDecides", spec := "policyDecides", apart := false, narrowed := true }
def PolicyDecidesUptoSaid : Prop := policyDecidesUptoRow.holds Try.pinned (OpenSpec.upto policyDecidesSpec)

/-- 'passkeylaw31.PolicyWeaker', WHERE WHAT IT READS IS OF BULK AT MOST 1048576: true; the input reads as it did. -/
def policyWeakerUptoRow : OpenClaim := { program := "ytoihfmiifeegpaa", sum := "8f98179c4c6865d70f3afdf6fcd88118141a2e96fd345612f0ee4df2640f23d0", func := "passkey/passkeylaw31.PolicyWeaker", spec := "policyWeaker", apart := false, narrowed := true }
def PolicyWeakerUptoSaid : Prop := policyWeakerUptoRow.holds Try.pinned (OpenSpec.upto policyWeakerSpec)

/-- 'passkeylaw31.PolicyModels', WHERE WHAT IT READS IS OF BULK AT MOST 1048576: true; the input reads as it did. -/
def policyModelsUptoRow : OpenClaim := { program := "ytoihfmiifeegpaa", sum := "8f98179c4c6865d70f3afdf6fcd88118141a2e96fd345612f0ee4df2640f23d0", func := "passkey/passkeylaw31.PolicyModels", spec := "policyModels", apart := false, narrowed := true }
def PolicyModelsUptoSaid : Prop := policyModelsUptoRow.holds Try.pinned (OpenSpec.upto policyModelsSpec)

end Rows
end Go.Proofs.Ytoihfmiifeegpaa
