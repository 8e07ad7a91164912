/-
  The law LeaseTakes, as a plain equation.
-/
import Derived.Test.YtoidbofkmflocaaLs6
import Derived.Test.YtoidbofkmflocaaGn5
set_option linter.unusedSimpArgs false
set_option linter.unusedVariables false
namespace Go.Proofs.Ytoidbofkmflocaa.Pv

section
variable {fu d : Nat} {l : List Ls}

theorem grow_eq {n : Nat} (hn : n ≤ 1000000) : pcall C0 Try.prog fu (d + 1) F_slices_Grow_Lease [.lst true 4 0 [], .sc (.int .i64 n)] = some ⟨[.own 4 0 []], []⟩ := by
  rw [slices_Grow_Lease_e]
  have hw : IntKind.wrap .i64 ((n : Int) - 0) = n := by rw [wrap_i64 (by omega) (by omega)]; omega
  by_cases h : 0 < n
  · simp (disch := omega) only [nd_call, nd_nil, nd_cons, nd_bool, nd_str, nd_int, nd_any, nd_ls, nd_ow, nd_agg, nd_opt, nd_share, nd_chk, nd_chkd, nd_chka, nd_brT, nd_brF, nd_brt, nd_brf, nd_both, Bool.not_true, Bool.not_false, Bool.false_eq_true, if_true, if_false, Bool.true_and, Bool.and_true, Bool.false_and, Bool.and_false, decide_true, decide_false, hw, Int.toNat_natCast]
  · simp (disch := omega) only [nd_call, nd_nil, nd_cons, nd_bool, nd_str, nd_int, nd_any, nd_ls, nd_ow, nd_agg, nd_opt, nd_share, nd_chk, nd_chkd, nd_chka, nd_brT, nd_brF, nd_brt, nd_brf, nd_both, Bool.not_true, Bool.not_false, Bool.false_eq_true, if_true, if_false, Bool.true_and, Bool.and_true, Bool.false_and, Bool.and_false, decide_true, decide_false, hw]

theorem concat_eq (hfu : 100 ≤ fu) {a b : List Ls} (ha : a.length ≤ 100) (hb : b.length ≤ 100) : pcall C0 Try.prog fu (d + 2) F_slices_Concat_Lease [.lst false 1 2 [.lst false 4 a.length (encL a), .lst false 4 b.length (encL b)]] = some ⟨[.own 4 (a ++ b).length (encL (a ++ b))], []⟩ := by
  obtain ⟨f, rfl⟩ : ∃ f, fu = f + 3 := ⟨fu - 3, by omega⟩
  have hg := grow_eq (fu := f + 3) (d := d) (n := a.length + b.length) (by omega)
  rw [slices_Concat_Lease_e]
  have c0 : ∀ x y : PV, List.getD [x, y] (Int.toNat 0 * 1) PV.top = x := fun _ _ => rfl
  have c1 : ∀ x y : PV, List.getD [x, y] (Int.toNat 1 * 1) PV.top = y := fun _ _ => rfl
  have w1 : IntKind.wrap .i64 (0 + 1) = 1 := by rw [wrap_i64 (by omega) (by omega)]; rfl
  have w2 : IntKind.wrap .i64 (1 + 1) = 2 := by rw [wrap_i64 (by omega) (by omega)]; rfl
  have w3 : IntKind.wrap .i64 (0 + (a.length : Int)) = a.length := by rw [wrap_i64 (by omega) (by omega)]; omega
  have w4 : IntKind.wrap .i64 ((a.length : Int) + (b.length : Int)) = ((a.length + b.length : Nat) : Int) := by rw [wrap_i64 (by omega) (by omega)]; omega
  have hab : encL a ++ encL b = encL (a ++ b) := by simp
  have hl : a.length + b.length = (a ++ b).length := by simp
  show slices_Concat_Lease_L0 (f + 3) (pcall C0 Try.prog (f + 3) (d + 1)) _ _ (f + 3) _ _ _ _ _ _ _ = _
  rw [slices_Concat_Lease_L0_s]
  simp (disch := omega) only [nd_call, nd_nil, nd_cons, nd_bool, nd_str, nd_int, nd_any, nd_ls, nd_ow, nd_agg, nd_opt, nd_share, nd_chk, nd_chkd, nd_chka, nd_brT, nd_brF, nd_brt, nd_brf, nd_both, Bool.not_true, Bool.not_false, Bool.false_eq_true, if_true, if_false, Bool.true_and, Bool.and_true, Bool.false_and, Bool.and_false, decide_true, decide_false, c0, w1, w3]
  rw [slices_Concat_Lease_L0_s]
  simp (disch := omega) only [nd_call, nd_nil, nd_cons, nd_bool, nd_str, nd_int, nd_any, nd_ls, nd_ow, nd_agg, nd_opt, nd_share, nd_chk, nd_chkd, nd_chka, nd_brT, nd_brF, nd_brt, nd_brf, nd_both, Bool.not_true, Bool.not_false, Bool.false_eq_true, if_true, if_false, Bool.true_and, Bool.and_true, Bool.false_and, Bool.and_false, decide_true, decide_false, c1, w2, w4]
  rw [slices_Concat_Lease_L0_s]
  simp (disch := omega) only [nd_call, nd_nil, nd_cons, nd_bool, nd_str, nd_int, nd_any, nd_ls, nd_ow, nd_agg, nd_opt, nd_share, nd_chk, nd_chkd, nd_chka, nd_brT, nd_brF, nd_brt, nd_brf, nd_both, Bool.not_true, Bool.not_false, Bool.false_eq_true, if_true, if_false, Bool.true_and, Bool.and_true, Bool.false_and, Bool.and_false, decide_true, decide_false, hg]
  rw [slices_Concat_Lease_L1_s]
  simp (disch := omega) only [nd_call, nd_nil, nd_cons, nd_bool, nd_str, nd_int, nd_any, nd_ls, nd_ow, nd_agg, nd_opt, nd_share, nd_chk, nd_chkd, nd_chka, nd_brT, nd_brF, nd_brt, nd_brf, nd_both, Bool.not_true, Bool.not_false, Bool.false_eq_true, if_true, if_false, Bool.true_and, Bool.and_true, Bool.false_and, Bool.and_false, decide_true, decide_false, c0, w1, Nat.zero_mul, Nat.zero_add, List.length_nil, Nat.zero_le, encL_len, List.take_nil, List.nil_append]
  rw [slices_Concat_Lease_L1_s]
  simp (disch := omega) only [nd_call, nd_nil, nd_cons, nd_bool, nd_str, nd_int, nd_any, nd_ls, nd_ow, nd_agg, nd_opt, nd_share, nd_chk, nd_chkd, nd_chka, nd_brT, nd_brF, nd_brt, nd_brf, nd_both, Bool.not_true, Bool.not_false, Bool.false_eq_true, if_true, if_false, Bool.true_and, Bool.and_true, Bool.false_and, Bool.and_false, decide_true, decide_false, c1, w2, encL_len, tk', hab, hl]
  rw [slices_Concat_Lease_L1_s]
  simp (disch := omega) only [nd_call, nd_nil, nd_cons, nd_bool, nd_str, nd_int, nd_any, nd_ls, nd_ow, nd_agg, nd_opt, nd_share, nd_chk, nd_chkd, nd_chka, nd_brT, nd_brF, nd_brt, nd_brf, nd_both, Bool.not_true, Bool.not_false, Bool.false_eq_true, if_true, if_false, Bool.true_and, Bool.and_true, Bool.false_and, Bool.and_false, decide_true, decide_false, encL_len, tk']

/-- The list after Drop, and the error. -/
def dropL (l : List Ls) (tag : Int) : List Ls × Int := if (locL l tag).2 ≠ 0 then ([], (locL l tag).2) else (l.take (locL l tag).1.toNat ++ l.drop ((locL l tag).1.toNat + 1), 0)

theorem dropL_len (l : List Ls) (t : Int) : (dropL l t).1.length ≤ l.length := by
  unfold dropL
  split
  · simp
  · simp; omega

theorem drop_eq (hl : l.length ≤ maxLen) (hfu : l.length < fu) (hf : 100 ≤ fu) (tag : Int) : pcall C0 Try.prog fu (d + 4) F_lease_Drop [.lst false 4 l.length (encL l), .sc (.int .u64 tag)] = some ⟨[.own 4 (dropL l tag).1.length (encL (dropL l tag).1), .sc (.int .i64 (dropL l tag).2)], []⟩ := by
  rw [lease_Drop_e]
  have hlo := locate_eq (d := d) hl hfu tag
  unfold dropL
  rcases loc_cases l tag with ⟨h1, h2⟩ | ⟨h1, h3, h2⟩ | ⟨i, x, h0, h1, hm, hok, h3, h2⟩
  · simp (disch := omega) only [nd_call, nd_nil, nd_cons, nd_bool, nd_str, nd_int, nd_any, nd_ls, nd_ow, nd_agg, nd_opt, nd_share, nd_chk, nd_chkd, nd_chka, nd_brT, nd_brF, nd_brt, nd_brf, nd_both, Bool.not_true, Bool.not_false, Bool.false_eq_true, if_true, if_false, Bool.true_and, Bool.and_true, Bool.false_and, Bool.and_false, decide_true, decide_false, hlo, h2, nd_brne, if_neg h1, if_pos h1, ne_eq, not_false_eq_true, List.length_nil, List.flatMap_nil]
  · simp (disch := omega) only [nd_call, nd_nil, nd_cons, nd_bool, nd_str, nd_int, nd_any, nd_ls, nd_ow, nd_agg, nd_opt, nd_share, nd_chk, nd_chkd, nd_chka, nd_brT, nd_brF, nd_brt, nd_brf, nd_both, Bool.not_true, Bool.not_false, Bool.false_eq_true, if_true, if_false, Bool.true_and, Bool.and_true, Bool.false_and, Bool.and_false, decide_true, decide_false, hlo, h1, h2, h3, nd_brne, ne_eq, not_false_eq_true, not_true_eq_false, List.length_nil, List.flatMap_nil]
    simp
  · have hi := get_lt h1
    have hlen := vld_len h0
    have t1 : List.take (i * 4) (List.drop 0 (encL l)) = encL (l.take i) := take_enc (by omega)
    have t2 : List.take ((l.length - (i + 1)) * 4) (List.drop ((i + 1) * 4) (encL l)) = encL (l.drop (i + 1)) := by
      rw [fm_drop cells_len, fm_take cells_len, List.take_of_length_le (by simp)]
    have hc := concat_eq (d := d + 1) hf (a := l.take i) (b := l.drop (i + 1)) (by simp; omega) (by simp; omega)
    rw [take_len (by omega), List.length_drop] at hc
    have hw : IntKind.wrap .i64 ((i : Int) + 1) = ((i + 1 : Nat) : Int) := by rw [wrap_i64 (by omega) (by omega)]; rfl
    simp (disch := omega) only [nd_call, nd_nil, nd_cons, nd_bool, nd_str, nd_int, nd_any, nd_ls, nd_ow, nd_agg, nd_opt, nd_share, nd_chk, nd_chkd, nd_chka, nd_brT, nd_brF, nd_brt, nd_brf, nd_both, Bool.not_true, Bool.not_false, Bool.false_eq_true, if_true, if_false, Bool.true_and, Bool.and_true, Bool.false_and, Bool.and_false, decide_true, decide_false, hlo, h2, nd_brne, ne_eq, not_true_eq_false, Int.toNat_natCast, Nat.sub_zero, t1, t2, hw, hc, encL_len, tk']
theorem dropR_eq (hl : l.length ≤ maxLen) (hfu : l.length < fu) (tag : Int) : pcall C0 Try.prog fu (d + 4) F_passkeyref10_Drop [.lst false 4 l.length (encL l), .sc (.int .u64 tag)] = some ⟨[.own 4 (dropL l tag).1.length (encL (dropL l tag).1), .sc (.int .i64 (dropL l tag).2)], []⟩ := by
  rw [passkeyref10_Drop_e]
  have hv := vlR_eq (d := d + 1) hl hfu
  have hf := findR_eq (d := d + 2) hl hfu tag
  unfold dropL
  rcases loc_cases l tag with ⟨h1, h2⟩ | ⟨h1, h3, h2⟩ | ⟨i, x, h0, h1, hm, hok, h3, h2⟩
  · simp (disch := omega) only [nd_call, nd_nil, nd_cons, nd_bool, nd_str, nd_int, nd_any, nd_ls, nd_ow, nd_agg, nd_opt, nd_share, nd_chk, nd_chkd, nd_chka, nd_brT, nd_brF, nd_brt, nd_brf, nd_both, Bool.not_true, Bool.not_false, Bool.false_eq_true, if_true, if_false, Bool.true_and, Bool.and_true, Bool.false_and, Bool.and_false, decide_true, decide_false, hv, hf, h2, nd_brne, if_neg h1, if_pos h1, ne_eq, not_false_eq_true, List.length_nil, List.flatMap_nil]
  · simp (disch := omega) only [nd_call, nd_nil, nd_cons, nd_bool, nd_str, nd_int, nd_any, nd_ls, nd_ow, nd_agg, nd_opt, nd_share, nd_chk, nd_chkd, nd_chka, nd_brT, nd_brF, nd_brt, nd_brf, nd_both, Bool.not_true, Bool.not_false, Bool.false_eq_true, if_true, if_false, Bool.true_and, Bool.and_true, Bool.false_and, Bool.and_false, decide_true, decide_false, hv, hf, h1, h2, h3, nd_brne, ne_eq, not_false_eq_true, not_true_eq_false, List.length_nil, List.flatMap_nil]
    simp
  · have hi := get_lt h1
    have hlen := vld_len h0
    have t1 : List.take (i * 4) (List.drop 0 (encL l)) = encL (l.take i) := take_enc (by omega)
    have t2 : List.take ((l.length - (i + 1)) * 4) (List.drop ((i + 1) * 4) (encL l)) = encL (l.drop (i + 1)) := by
      rw [fm_drop cells_len, fm_take cells_len, List.take_of_length_le (by simp)]
    have e1 : (encL (l.take i)).length = i * 4 := by rw [encL_len, take_len (by omega)]
    have e2 : (encL (l.drop (i + 1))).length = (l.length - (i + 1)) * 4 := by rw [encL_len, List.length_drop]
    have e3 : List.take (i * 4) (encL (l.take i)) = encL (l.take i) := List.take_of_length_le (by omega)
    have hab : encL (l.take i) ++ encL (l.drop (i + 1)) = encL (l.take i ++ l.drop (i + 1)) := by simp
    have hl2 : i + (l.length - (i + 1)) = (l.take i ++ l.drop (i + 1)).length := by simp; omega
    have hw : IntKind.wrap .i64 ((i : Int) + 1) = ((i + 1 : Nat) : Int) := by rw [wrap_i64 (by omega) (by omega)]; rfl
    simp (disch := omega) only [nd_call, nd_nil, nd_cons, nd_bool, nd_str, nd_int, nd_any, nd_ls, nd_ow, nd_agg, nd_opt, nd_share, nd_chk, nd_chkd, nd_chka, nd_brT, nd_brF, nd_brt, nd_brf, nd_both, Bool.not_true, Bool.not_false, Bool.false_eq_true, if_true, if_false, Bool.true_and, Bool.and_true, Bool.false_and, Bool.and_false, decide_true, decide_false, hv, hf, h0, h2, h3, nd_brne, ne_eq, not_true_eq_false, Int.toNat_natCast, Nat.sub_zero, t1, t2, hw, e1, e2, e3]
    rw [hab, hl2, tk', encL_len]
    simp (disch := omega) only [nd_call, nd_nil, nd_cons, nd_bool, nd_str, nd_int, nd_any, nd_ls, nd_ow, nd_agg, nd_opt, nd_share, nd_chk, nd_chkd, nd_chka, nd_brT, nd_brF, nd_brt, nd_brf, nd_both, Bool.not_true, Bool.not_false, Bool.false_eq_true, if_true, if_false, Bool.true_and, Bool.and_true, Bool.false_and, Bool.and_false, decide_true, decide_false]
end

theorem leaseTakes_plain (qs : List PV) (h : All2 (WTv Try.prog) [23, 5] qs) : ∃ C fu d, pcall C Try.prog fu d F_passkeylaw10_LeaseTakes qs = some ⟨[.sc (.bool true)], []⟩ := by
  obtain ⟨q0, _, rfl, h0, g⟩ := h.cons_inv
  obtain ⟨q1, _, rfl, h1, g⟩ := g.cons_inv
  obtain rfl := g.nil_inv
  clear h
  obtain ⟨m, rfl, hm, _⟩ := arg_ints (k := .i64) (e := 3) (by kernel_rfl) (by kernel_rfl) (by kernel_rfl) (by kernel_rfl) h0
  obtain ⟨n, rfl, _⟩ := wtv_int (k := .u8) (by kernel_rfl) (by kernel_rfl) h1
  obtain ⟨fu, hfu⟩ : ∃ fu, fu = 1000 := ⟨_, rfl⟩
  refine ⟨C0, fu, 6, ?_⟩
  have haw := awake_eq (fu := fu) (d := 0) (by omega)
  obtain ⟨x, hx, hmd⟩ := made_eq (fu := fu) (d := 4) (by omega) hm
  have hxl : x.length ≤ maxLen := by simp only [maxLen]; omega
  have g1 := fun a : Int => take_eq (fu := fu) (d := 1) hxl (by omega) a
  have g2 := fun a : Int => takeR_eq (fu := fu) (d := 1) hxl (by omega) a
  have g3 := fun a : Int => drop_eq (fu := fu) (d := 1) hxl (by omega) (by omega) a
  have g4 := fun a : Int => dropR_eq (fu := fu) (d := 1) hxl (by omega) a
  have s1 : ∀ a : Int, pcall C0 Try.prog fu 5 F_passkeyref10_SameLeases [.lst false 4 (takeL x a).1.length (encL (takeL x a).1), .lst false 4 (takeL x a).1.length (encL (takeL x a).1)] = some ⟨[.sc (.bool true)], []⟩ := fun a => by
    have := takeL_len x a
    exact same_eq (d := 4) (by simp only [maxLen]; omega) (by omega)
  have s2 : ∀ a : Int, pcall C0 Try.prog fu 5 F_passkeyref10_SameLeases [.lst false 4 (dropL x a).1.length (encL (dropL x a).1), .lst false 4 (dropL x a).1.length (encL (dropL x a).1)] = some ⟨[.sc (.bool true)], []⟩ := fun a => by
    have := dropL_len x a
    exact same_eq (d := 4) (by simp only [maxLen]; omega) (by omega)
  rw [passkeylaw10_LeaseTakes_e]
  simp (disch := omega) only [nd_call, nd_nil, nd_cons, nd_bool, nd_str, nd_int, nd_any, nd_ls, nd_ow, nd_agg, nd_opt, nd_share, nd_chk, nd_chkd, nd_chka, nd_brT, nd_brF, nd_brt, nd_brf, nd_both, Bool.not_true, Bool.not_false, Bool.false_eq_true, if_true, if_false, Bool.true_and, Bool.and_true, Bool.false_and, Bool.and_false, decide_true, decide_false, hmd, tk, encL_len, Nat.zero_add, g1, g2, g3, g4, s1, s2, haw, beq_self_eq_true]

end Go.Proofs.Ytoidbofkmflocaa.Pv
