/-
  Arguments of struct types, opened: written by a program (wip/tools/opens.py).
-/
import Derived.Test.YtaphhfehcbkfkaaPvO
set_option linter.unusedVariables false
namespace Go.Proofs.Ytaphhfehcbkfkaa.Pv

/-- The cells of api.Gesture. -/
theorem ka_api_Gesture {d : Nat} {ps : List PV} (h : WT Try.prog d 36 ps) : ∃ (v0 : Int) (v1 : Int), ps = [(.sc (.int .i64 v0)), (.sc (.int .i64 v1))] ∧ (Lit.int .i64 v0).wf = true ∧ (Lit.int .i64 v1).wf = true := by
  obtain ⟨rs, rfl, h1⟩ := ki_st (ts := [3, 3]) (by kernel_rfl) h
  obtain ⟨r0, _, rfl, g0, h1⟩ := h1.cons_inv
  obtain ⟨r1, _, rfl, g1, h1⟩ := h1.cons_inv
  obtain rfl := h1.nil_inv
  obtain ⟨v0, rfl, w0_0⟩ := ki_int (k := .i64) (by kernel_rfl) g0
  obtain ⟨v1, rfl, w1_0⟩ := ki_int (k := .i64) (by kernel_rfl) g1
  exact ⟨v0, v1, rfl, w0_0, w1_0⟩

end Go.Proofs.Ytaphhfehcbkfkaa.Pv
