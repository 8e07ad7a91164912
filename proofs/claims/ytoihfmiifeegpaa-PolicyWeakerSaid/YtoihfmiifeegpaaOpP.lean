/-
  Arguments of struct types, opened: written by a program (wip/tools/opens.py).
-/
import Derived.Test.YtoihfmiifeegpaaPvO
set_option linter.unusedVariables false
namespace Go.Proofs.Ytoihfmiifeegpaa.Pv

/-- The cells of api.Policy. -/
theorem ka_api_Policy {d : Nat} {ps : List PV} (h : WT Try.prog d 24 ps) : ∃ (v0 : Int) (v1 : Bool) (v2 : Int) (v3 : Int) (v4 : Bool) (v5 : Int) (v6 : Bool) (v7 : List Int) (v8 : Int), ps = [(.sc (.int .i64 v0)), (.sc (.bool v1)), (.sc (.int .i64 v2)), (.sc (.int .i64 v3)), (.sc (.bool v4)), (.sc (.int .i64 v5)), (.sc (.bool v6)), (.lst false 1 v7.length (encI .u64 v7)), (.sc (.int .i64 v8))] ∧ (Lit.int .i64 v0).wf = true ∧ (Lit.int .i64 v2).wf = true ∧ (Lit.int .i64 v3).wf = true ∧ (Lit.int .i64 v5).wf = true ∧ v7.length ≤ maxLen ∧ (∀ n ∈ v7, (Lit.int .u64 n).wf = true) ∧ (Lit.int .i64 v8).wf = true := by
  obtain ⟨rs, rfl, h1⟩ := ki_st (ts := [3, 4, 3, 3, 4, 3, 4, 22, 3]) (by kernel_rfl) h
  obtain ⟨r0, _, rfl, g0, h1⟩ := h1.cons_inv
  obtain ⟨r1, _, rfl, g1, h1⟩ := h1.cons_inv
  obtain ⟨r2, _, rfl, g2, h1⟩ := h1.cons_inv
  obtain ⟨r3, _, rfl, g3, h1⟩ := h1.cons_inv
  obtain ⟨r4, _, rfl, g4, h1⟩ := h1.cons_inv
  obtain ⟨r5, _, rfl, g5, h1⟩ := h1.cons_inv
  obtain ⟨r6, _, rfl, g6, h1⟩ := h1.cons_inv
  obtain ⟨r7, _, rfl, g7, h1⟩ := h1.cons_inv
  obtain ⟨r8, _, rfl, g8, h1⟩ := h1.cons_inv
  obtain rfl := h1.nil_inv
  obtain ⟨v0, rfl, w0_0⟩ := ki_int (k := .i64) (by kernel_rfl) g0
  obtain ⟨v1, rfl⟩ := ki_bool (by kernel_rfl) g1
  obtain ⟨v2, rfl, w2_0⟩ := ki_int (k := .i64) (by kernel_rfl) g2
  obtain ⟨v3, rfl, w3_0⟩ := ki_int (k := .i64) (by kernel_rfl) g3
  obtain ⟨v4, rfl⟩ := ki_bool (by kernel_rfl) g4
  obtain ⟨v5, rfl, w5_0⟩ := ki_int (k := .i64) (by kernel_rfl) g5
  obtain ⟨v6, rfl⟩ := ki_bool (by kernel_rfl) g6
  obtain ⟨v7, rfl, w7_0, w7_1⟩ := ki_ints (k := .u64) (e := 31) (by kernel_rfl) (by kernel_rfl) (by kernel_rfl) g7
  obtain ⟨v8, rfl, w8_0⟩ := ki_int (k := .i64) (by kernel_rfl) g8
  exact ⟨v0, v1, v2, v3, v4, v5, v6, v7, v8, rfl, w0_0, w2_0, w3_0, w5_0, w7_0, w7_1, w8_0⟩

/-- The cells of api.PublicKey. -/
theorem ka_api_PublicKey {d : Nat} {ps : List PV} (h : WT Try.prog d 37 ps) : ∃ (v0 : Int) (v1 : Int), ps = [(.sc (.int .i64 v0)), (.sc (.int .u64 v1))] ∧ (Lit.int .i64 v0).wf = true ∧ (Lit.int .u64 v1).wf = true := by
  obtain ⟨rs, rfl, h1⟩ := ki_st (ts := [3, 31]) (by kernel_rfl) h
  obtain ⟨r0, _, rfl, g0, h1⟩ := h1.cons_inv
  obtain ⟨r1, _, rfl, g1, h1⟩ := h1.cons_inv
  obtain rfl := h1.nil_inv
  obtain ⟨v0, rfl, w0_0⟩ := ki_int (k := .i64) (by kernel_rfl) g0
  obtain ⟨v1, rfl, w1_0⟩ := ki_int (k := .u64) (by kernel_rfl) g1
  exact ⟨v0, v1, rfl, w0_0, w1_0⟩

/-- The cells of api.AuthData. -/
theorem ka_api_AuthData {d : Nat} {ps : List PV} (h : WT Try.prog d 39 ps) : ∃ (v0 : Int) (v1 : Int) (v2 : Int) (v3 : Int) (v4 : Int) (v5 : List Int) (v6v0 : Int) (v6v1 : Int), ps = [(.sc (.int .u64 v0)), (.sc (.int .i64 v1)), (.sc (.int .i64 v2)), (.sc (.int .i64 v3)), (.sc (.int .u64 v4)), (.lst false 1 v5.length (encI .u8 v5)), (.sc (.int .i64 v6v0)), (.sc (.int .u64 v6v1))] ∧ (Lit.int .u64 v0).wf = true ∧ (Lit.int .i64 v1).wf = true ∧ (Lit.int .i64 v2).wf = true ∧ (Lit.int .i64 v3).wf = true ∧ (Lit.int .u64 v4).wf = true ∧ v5.length ≤ maxLen ∧ (∀ n ∈ v5, (Lit.int .u8 n).wf = true) ∧ (Lit.int .i64 v6v0).wf = true ∧ (Lit.int .u64 v6v1).wf = true := by
  obtain ⟨rs, rfl, h1⟩ := ki_st (ts := [31, 3, 3, 3, 31, 35, 37]) (by kernel_rfl) h
  obtain ⟨r0, _, rfl, g0, h1⟩ := h1.cons_inv
  obtain ⟨r1, _, rfl, g1, h1⟩ := h1.cons_inv
  obtain ⟨r2, _, rfl, g2, h1⟩ := h1.cons_inv
  obtain ⟨r3, _, rfl, g3, h1⟩ := h1.cons_inv
  obtain ⟨r4, _, rfl, g4, h1⟩ := h1.cons_inv
  obtain ⟨r5, _, rfl, g5, h1⟩ := h1.cons_inv
  obtain ⟨r6, _, rfl, g6, h1⟩ := h1.cons_inv
  obtain rfl := h1.nil_inv
  obtain ⟨v0, rfl, w0_0⟩ := ki_int (k := .u64) (by kernel_rfl) g0
  obtain ⟨v1, rfl, w1_0⟩ := ki_int (k := .i64) (by kernel_rfl) g1
  obtain ⟨v2, rfl, w2_0⟩ := ki_int (k := .i64) (by kernel_rfl) g2
  obtain ⟨v3, rfl, w3_0⟩ := ki_int (k := .i64) (by kernel_rfl) g3
  obtain ⟨v4, rfl, w4_0⟩ := ki_int (k := .u64) (by kernel_rfl) g4
  obtain ⟨v5, rfl, w5_0, w5_1⟩ := ki_ints (k := .u8) (e := 5) (by kernel_rfl) (by kernel_rfl) (by kernel_rfl) g5
  obtain ⟨v6v0, v6v1, rfl, w6_0, w6_1⟩ := ka_api_PublicKey g6
  exact ⟨v0, v1, v2, v3, v4, v5, v6v0, v6v1, rfl, w0_0, w1_0, w2_0, w3_0, w4_0, w5_0, w5_1, w6_0, w6_1⟩

/-- The cells of api.Attested. -/
theorem ka_api_Attested {d : Nat} {ps : List PV} (h : WT Try.prog d 41 ps) : ∃ (v0 : Int) (v1 : Int) (v2 : Int), ps = [(.sc (.int .i64 v0)), (.sc (.int .i64 v1)), (.sc (.int .i64 v2))] ∧ (Lit.int .i64 v0).wf = true ∧ (Lit.int .i64 v1).wf = true ∧ (Lit.int .i64 v2).wf = true := by
  obtain ⟨rs, rfl, h1⟩ := ki_st (ts := [3, 3, 3]) (by kernel_rfl) h
  obtain ⟨r0, _, rfl, g0, h1⟩ := h1.cons_inv
  obtain ⟨r1, _, rfl, g1, h1⟩ := h1.cons_inv
  obtain ⟨r2, _, rfl, g2, h1⟩ := h1.cons_inv
  obtain rfl := h1.nil_inv
  obtain ⟨v0, rfl, w0_0⟩ := ki_int (k := .i64) (by kernel_rfl) g0
  obtain ⟨v1, rfl, w1_0⟩ := ki_int (k := .i64) (by kernel_rfl) g1
  obtain ⟨v2, rfl, w2_0⟩ := ki_int (k := .i64) (by kernel_rfl) g2
  exact ⟨v0, v1, v2, rfl, w0_0, w1_0, w2_0⟩

/-- The cells of api.Stored. -/
theorem ka_api_Stored {d : Nat} {ps : List PV} (h : WT Try.prog d 44 ps) : ∃ (v0 : List Int) (v1v0 : Int) (v1v1 : Int) (v2 : Int) (v3 : Int) (v4 : Bool) (v5 : Int) (v6 : List (List PV)) (v7 : Bool) (v8 : Int) (v9 : Int), ps = [(.lst false 1 v0.length (encI .u8 v0)), (.sc (.int .i64 v1v0)), (.sc (.int .u64 v1v1)), (.sc (.int .u64 v2)), (.sc (.int .i64 v3)), (.sc (.bool v4)), (.sc (.int .u64 v5)), (.lst false 2 v6.length v6.flatten), (.sc (.bool v7)), (.sc (.int .i64 v8)), (.sc (.int .i64 v9))] ∧ v0.length ≤ maxLen ∧ (∀ n ∈ v0, (Lit.int .u8 n).wf = true) ∧ (Lit.int .i64 v1v0).wf = true ∧ (Lit.int .u64 v1v1).wf = true ∧ (Lit.int .u64 v2).wf = true ∧ (Lit.int .i64 v3).wf = true ∧ (Lit.int .u64 v5).wf = true ∧ v6.length ≤ maxLen ∧ (∀ r ∈ v6, r.length = 2 ∧ WT Try.prog (d - 2) 79 r) ∧ (Lit.int .i64 v8).wf = true ∧ (Lit.int .i64 v9).wf = true := by
  obtain ⟨rs, rfl, h1⟩ := ki_st (ts := [35, 37, 31, 3, 4, 31, 42, 4, 3, 3]) (by kernel_rfl) h
  obtain ⟨r0, _, rfl, g0, h1⟩ := h1.cons_inv
  obtain ⟨r1, _, rfl, g1, h1⟩ := h1.cons_inv
  obtain ⟨r2, _, rfl, g2, h1⟩ := h1.cons_inv
  obtain ⟨r3, _, rfl, g3, h1⟩ := h1.cons_inv
  obtain ⟨r4, _, rfl, g4, h1⟩ := h1.cons_inv
  obtain ⟨r5, _, rfl, g5, h1⟩ := h1.cons_inv
  obtain ⟨r6, _, rfl, g6, h1⟩ := h1.cons_inv
  obtain ⟨r7, _, rfl, g7, h1⟩ := h1.cons_inv
  obtain ⟨r8, _, rfl, g8, h1⟩ := h1.cons_inv
  obtain ⟨r9, _, rfl, g9, h1⟩ := h1.cons_inv
  obtain rfl := h1.nil_inv
  obtain ⟨v0, rfl, w0_0, w0_1⟩ := ki_ints (k := .u8) (e := 5) (by kernel_rfl) (by kernel_rfl) (by kernel_rfl) g0
  obtain ⟨v1v0, v1v1, rfl, w1_0, w1_1⟩ := ka_api_PublicKey g1
  obtain ⟨v2, rfl, w2_0⟩ := ki_int (k := .u64) (by kernel_rfl) g2
  obtain ⟨v3, rfl, w3_0⟩ := ki_int (k := .i64) (by kernel_rfl) g3
  obtain ⟨v4, rfl⟩ := ki_bool (by kernel_rfl) g4
  obtain ⟨v5, rfl, w5_0⟩ := ki_int (k := .u64) (by kernel_rfl) g5
  obtain ⟨v6, rfl, w6_0, w6_1⟩ := ki_slk (k := 2) (e := 79) (by kernel_rfl) (by kernel_rfl) g6
  obtain ⟨v7, rfl⟩ := ki_bool (by kernel_rfl) g7
  obtain ⟨v8, rfl, w8_0⟩ := ki_int (k := .i64) (by kernel_rfl) g8
  obtain ⟨v9, rfl, w9_0⟩ := ki_int (k := .i64) (by kernel_rfl) g9
  exact ⟨v0, v1v0, v1v1, v2, v3, v4, v5, v6, v7, v8, v9, rfl, w0_0, w0_1, w1_0, w1_1, w2_0, w3_0, w5_0, w6_0, w6_1, w8_0, w9_0⟩

end Go.Proofs.Ytoihfmiifeegpaa.Pv
