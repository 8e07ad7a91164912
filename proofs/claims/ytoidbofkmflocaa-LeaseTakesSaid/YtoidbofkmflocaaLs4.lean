/-
  The law LeaseFinds, as a plain equation.
-/
import Derived.Test.YtoidbofkmflocaaLs3
import Derived.Test.YtoidbofkmflocaaPvE
set_option linter.unusedSimpArgs false
set_option linter.unusedVariables false
namespace Go.Proofs.Ytoidbofkmflocaa.Pv

theorem kk_Lease : kindOf Try.prog 46 = .st [24, 3, 3, 3] := by kernel_rfl
theorem kk_u64 : kindOf Try.prog 24 = .int .u64 := by kernel_rfl
theorem kk_int : kindOf Try.prog 3 = .int .i64 := by kernel_rfl

/-- A list of leases among the arguments. -/
theorem arg_leases {p : PV} (h : WTv Try.prog 22 p) : ∃ l : List Ls, p = .lst false 4 l.length (encL l) ∧ l.length ≤ maxLen := by
  obtain ⟨rows, rfl, hl, hr⟩ := wtv_sl (e := 46) (by kernel_rfl) (by kernel_rfl) h
  have : ∀ r ∈ rows, ∃ x : Ls, r = x.cells ∧ True := by
    intro r hrr
    obtain ⟨rs, rfl, h1⟩ := ki_st kk_Lease (hr r hrr).2
    obtain ⟨r0, _, rfl, g0, h1⟩ := h1.cons_inv
    obtain ⟨r1, _, rfl, g1, h1⟩ := h1.cons_inv
    obtain ⟨r2, _, rfl, g2, h1⟩ := h1.cons_inv
    obtain ⟨r3, _, rfl, g3, h1⟩ := h1.cons_inv
    obtain rfl := h1.nil_inv
    obtain ⟨a, rfl, _⟩ := ki_int kk_u64 g0
    obtain ⟨b, rfl, _⟩ := ki_int kk_int g1
    obtain ⟨c, rfl, _⟩ := ki_int kk_int g2
    obtain ⟨e, rfl, _⟩ := ki_int kk_int g3
    exact ⟨⟨a, b, c, e⟩, rfl, trivial⟩
  obtain ⟨l, h1, h2, _⟩ := rows_native Ls.cells (fun _ => True) this
  refine ⟨l, ?_, by omega⟩
  rw [h1, h2]
  rfl

theorem arg_ints {p : PV} {k : IntKind} {t e : TypeId} (ha : isAggB Try.prog t = false) (hk : kindOf Try.prog t = .sl e) (hc : Try.prog.cellsOf e = 1) (he : kindOf Try.prog e = .int k) (h : WTv Try.prog t p) :
    ∃ l : List Int, p = .lst false 1 l.length (encI k l) ∧ l.length ≤ maxLen ∧ ∀ n ∈ l, (Lit.int k n).wf = true := by
  obtain ⟨rows, rfl, hl, hr⟩ := wtv_sl ha hk h
  obtain ⟨l, h1, h2, h3⟩ := rows_native (intC k) (fun n => (Lit.int k n).wf = true) fun r hrr => ki_int he (hr r hrr).2
  refine ⟨l, ?_, by omega, h3⟩
  rw [h1, h2, hc]

theorem leaseFinds_plain (qs : List PV) (h : All2 (WTv Try.prog) [22, 23, 24, 5] qs) : ∃ C fu d, pcall C Try.prog fu d F_passkeylaw10_LeaseFinds qs = some ⟨[.sc (.bool true)], []⟩ := by
  obtain ⟨q0, _, rfl, h0, g⟩ := h.cons_inv
  obtain ⟨q1, _, rfl, h1, g⟩ := g.cons_inv
  obtain ⟨q2, _, rfl, h2, g⟩ := g.cons_inv
  obtain ⟨q3, _, rfl, h3, g⟩ := g.cons_inv
  obtain rfl := g.nil_inv
  clear h
  · skip
    obtain ⟨l, rfl, hl⟩ := arg_leases h0
    obtain ⟨m, rfl, hm, _⟩ := arg_ints (k := .i64) (e := 3) (by kernel_rfl) (by kernel_rfl) (by kernel_rfl) (by kernel_rfl) h1
    obtain ⟨tag, rfl, _⟩ := wtv_int (k := .u64) (by kernel_rfl) (by kernel_rfl) h2
    obtain ⟨n, rfl, _⟩ := wtv_int (k := .u8) (by kernel_rfl) (by kernel_rfl) h3
    obtain ⟨fu, hfu⟩ : ∃ fu, fu = l.length + 100 := ⟨_, rfl⟩
    refine ⟨C0, fu, 6, ?_⟩
    have haw := awake_eq (fu := fu) (d := 0) (by omega)
    rw [passkeylaw10_LeaseFinds_e]
    by_cases h40 : 40 < l.length
    · simp (disch := omega) only [nd_call, nd_nil, nd_cons, nd_bool, nd_str, nd_int, nd_any, nd_ls, nd_ow, nd_agg, nd_opt, nd_share, nd_chk, nd_chkd, nd_chka, nd_brT, nd_brF, nd_brt, nd_brf, nd_both, Bool.not_true, Bool.not_false, Bool.false_eq_true, if_true, if_false, Bool.true_and, Bool.and_true, Bool.false_and, Bool.and_false, decide_true, decide_false, haw]
    · obtain ⟨x, hx, hmd⟩ := made_eq (fu := fu) (d := 4) (by omega) hm
      have hx4 := encL_len x
      have hx5 : List.take (x.length * 4) (List.drop 0 (encL x)) = encL x := by rw [List.drop_zero]; exact List.take_of_length_le (by omega)
      have hxl : x.length ≤ maxLen := by simp only [maxLen]; omega
      have f1 := find_eq (d := 4) hl (show l.length < fu by omega) tag
      have f2 := findR_eq (d := 4) hl (show l.length < fu by omega) tag
      have f3 := find_eq (fu := fu) (d := 4) hxl (by omega) (IntKind.wrap .u64 (Int.tmod n 20))
      have f4 := findR_eq (fu := fu) (d := 4) hxl (by omega) (IntKind.wrap .u64 (Int.tmod n 20))
      have v1 := vl_eq (d := 3) hl (show l.length < fu by omega)
      have v2 := vlR_eq (d := 3) hl (show l.length < fu by omega)
      have v3 := vl_eq (fu := fu) (d := 3) hxl (by omega)
      have v4 := vlR_eq (fu := fu) (d := 3) hxl (by omega)
      simp (disch := omega) only [nd_call, nd_nil, nd_cons, nd_bool, nd_str, nd_int, nd_any, nd_ls, nd_ow, nd_agg, nd_opt, nd_share, nd_chk, nd_chkd, nd_chka, nd_brT, nd_brF, nd_brt, nd_brf, nd_both, Bool.not_true, Bool.not_false, Bool.false_eq_true, if_true, if_false, Bool.true_and, Bool.and_true, Bool.false_and, Bool.and_false, decide_true, decide_false, hmd, f1, f2, f3, f4, v1, v2, v3, v4, haw, hx5, Nat.zero_add]
      simp [brK]

end Go.Proofs.Ytoidbofkmflocaa.Pv
