/-
  The laws LeaseGrants and LeaseParts, as plain equations.
-/
import Derived.Test.YtoidbofkmflocaaLs4
import Derived.Test.YtoidbofkmflocaaLs5
set_option linter.unusedSimpArgs false
set_option linter.unusedVariables false
namespace Go.Proofs.Ytoidbofkmflocaa.Pv

theorem grantL_len (l : List Ls) (x : Ls) : (grantL l x).1.length ≤ l.length + 1 := by
  unfold grantL
  repeat' split
  all_goals simp
theorem takeL_len (l : List Ls) (t : Int) : (takeL l t).1.length ≤ l.length := by
  unfold takeL
  split
  · simp
  · split
    · simp
    · split <;> simp
theorem partL_len (l : List Ls) (t n : Int) : (partL l t n).1.length ≤ l.length := by
  unfold partL
  split
  · simp
  · split
    · simp
    · split
      · simp
      · split <;> simp

theorem leaseGrants_plain (qs : List PV) (h : All2 (WTv Try.prog) [23, 24, 3] qs) : ∃ C fu d, pcall C Try.prog fu d F_passkeylaw10_LeaseGrants qs = some ⟨[.sc (.bool true)], []⟩ := by
  obtain ⟨q0, _, rfl, h0, g⟩ := h.cons_inv
  obtain ⟨q1, _, rfl, h1, g⟩ := g.cons_inv
  obtain ⟨q2, _, rfl, h2, g⟩ := g.cons_inv
  obtain rfl := g.nil_inv
  clear h
  obtain ⟨m, rfl, hm, _⟩ := arg_ints (k := .i64) (e := 3) (by kernel_rfl) (by kernel_rfl) (by kernel_rfl) (by kernel_rfl) h0
  obtain ⟨tag, rfl, _⟩ := wtv_int (k := .u64) (by kernel_rfl) (by kernel_rfl) h1
  obtain ⟨n, rfl, _⟩ := wtv_int (k := .i64) (by kernel_rfl) (by kernel_rfl) h2
  obtain ⟨fu, hfu⟩ : ∃ fu, fu = 1000 := ⟨_, rfl⟩
  refine ⟨C0, fu, 6, ?_⟩
  have haw := awake_eq (fu := fu) (d := 0) (by omega)
  obtain ⟨x, hx, hmd⟩ := made_eq (fu := fu) (d := 4) (by omega) hm
  have hxl : x.length ≤ maxLen := by simp only [maxLen]; omega
  have g1 : ∀ a b c e : Int, pcall C0 Try.prog fu 5 F_lease_Grant [.lst false 4 x.length (encL x), .sc (.int .u64 a), .sc (.int .i64 b), .sc (.int .i64 c), .sc (.int .i64 e)] = some ⟨[.own 4 (grantL x ⟨a, b, c, e⟩).1.length (encL (grantL x ⟨a, b, c, e⟩).1), .sc (.int .i64 (grantL x ⟨a, b, c, e⟩).2)], []⟩ :=
    fun a b c e => grant_eq (d := 2) hxl (by omega) ⟨a, b, c, e⟩
  have g2 : ∀ a b c e : Int, pcall C0 Try.prog fu 5 F_passkeyref10_Grant [.lst false 4 x.length (encL x), .sc (.int .u64 a), .sc (.int .i64 b), .sc (.int .i64 c), .sc (.int .i64 e)] = some ⟨[.own 4 (grantL x ⟨a, b, c, e⟩).1.length (encL (grantL x ⟨a, b, c, e⟩).1), .sc (.int .i64 (grantL x ⟨a, b, c, e⟩).2)], []⟩ :=
    fun a b c e => grantR_eq (d := 2) hxl (by omega) ⟨a, b, c, e⟩
  have g3 : ∀ y : Ls, pcall C0 Try.prog fu 5 F_passkeyref10_SameLeases [.lst false 4 (grantL x y).1.length (encL (grantL x y).1), .lst false 4 (grantL x y).1.length (encL (grantL x y).1)] = some ⟨[.sc (.bool true)], []⟩ := fun y => by
    have := grantL_len x y
    exact same_eq (d := 4) (by simp only [maxLen]; omega) (by omega)
  rw [passkeylaw10_LeaseGrants_e]
  simp (disch := omega) only [nd_call, nd_nil, nd_cons, nd_bool, nd_str, nd_int, nd_any, nd_ls, nd_ow, nd_agg, nd_opt, nd_share, nd_chk, nd_chkd, nd_chka, nd_brT, nd_brF, nd_brt, nd_brf, nd_both, Bool.not_true, Bool.not_false, Bool.false_eq_true, if_true, if_false, Bool.true_and, Bool.and_true, Bool.false_and, Bool.and_false, decide_true, decide_false, hmd, tk, encL_len, Nat.zero_add, g1, g2, g3, haw, beq_self_eq_true]

theorem leaseParts_plain (qs : List PV) (h : All2 (WTv Try.prog) [23, 5, 3] qs) : ∃ C fu d, pcall C Try.prog fu d F_passkeylaw10_LeaseParts qs = some ⟨[.sc (.bool true)], []⟩ := by
  obtain ⟨q0, _, rfl, h0, g⟩ := h.cons_inv
  obtain ⟨q1, _, rfl, h1, g⟩ := g.cons_inv
  obtain ⟨q2, _, rfl, h2, g⟩ := g.cons_inv
  obtain rfl := g.nil_inv
  clear h
  obtain ⟨m, rfl, hm, _⟩ := arg_ints (k := .i64) (e := 3) (by kernel_rfl) (by kernel_rfl) (by kernel_rfl) (by kernel_rfl) h0
  obtain ⟨n, rfl, _⟩ := wtv_int (k := .u8) (by kernel_rfl) (by kernel_rfl) h1
  obtain ⟨ct, rfl, _⟩ := wtv_int (k := .i64) (by kernel_rfl) (by kernel_rfl) h2
  obtain ⟨fu, hfu⟩ : ∃ fu, fu = 1000 := ⟨_, rfl⟩
  refine ⟨C0, fu, 6, ?_⟩
  have haw := awake_eq (fu := fu) (d := 0) (by omega)
  obtain ⟨x, hx, hmd⟩ := made_eq (fu := fu) (d := 4) (by omega) hm
  have hxl : x.length ≤ maxLen := by simp only [maxLen]; omega
  have g1 := fun a b : Int => part_eq (fu := fu) (d := 1) hxl (by omega) a b
  have g2 := fun a b : Int => partR_eq (fu := fu) (d := 1) hxl (by omega) a b
  have g3 : ∀ a b : Int, pcall C0 Try.prog fu 5 F_passkeyref10_SameLeases [.lst false 4 (partL x a b).1.length (encL (partL x a b).1), .lst false 4 (partL x a b).1.length (encL (partL x a b).1)] = some ⟨[.sc (.bool true)], []⟩ := fun a b => by
    have := partL_len x a b
    exact same_eq (d := 4) (by simp only [maxLen]; omega) (by omega)
  rw [passkeylaw10_LeaseParts_e]
  simp (disch := omega) only [nd_call, nd_nil, nd_cons, nd_bool, nd_str, nd_int, nd_any, nd_ls, nd_ow, nd_agg, nd_opt, nd_share, nd_chk, nd_chkd, nd_chka, nd_brT, nd_brF, nd_brt, nd_brf, nd_both, Bool.not_true, Bool.not_false, Bool.false_eq_true, if_true, if_false, Bool.true_and, Bool.and_true, Bool.false_and, Bool.and_false, decide_true, decide_false, hmd, tk, encL_len, Nat.zero_add, g1, g2, g3, haw, beq_self_eq_true]

end Go.Proofs.Ytoidbofkmflocaa.Pv
