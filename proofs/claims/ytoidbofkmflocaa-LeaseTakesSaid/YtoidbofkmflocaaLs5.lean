/-
  Leases: the reference's Grant, Take, Part; Part; comparing lists.
-/
import Derived.Test.YtoidbofkmflocaaLs3
set_option linter.unusedSimpArgs false
set_option linter.unusedVariables false
namespace Go.Proofs.Ytoidbofkmflocaa.Pv

section
variable {fu d : Nat} {l : List Ls} {i : Nat} {x : Ls}

theorem tk (l : List Ls) : List.take (l.length * 4) (List.drop 0 (encL l)) = encL l := by
  rw [List.drop_zero]
  exact List.take_of_length_le (by rw [encL_len]; omega)
theorem tk' (l : List Ls) : List.take (l.length * 4) (encL l) = encL l := List.take_of_length_le (by rw [encL_len]; omega)

theorem grantR_eq (hl : l.length ≤ maxLen) (hfu : l.length < fu) (x : Ls) : pcall C0 Try.prog fu (d + 3) F_passkeyref10_Grant [.lst false 4 l.length (encL l), .sc (.int .u64 x.tag), .sc (.int .i64 x.fr), .sc (.int .i64 x.to), .sc (.int .i64 x.nx)] =
    some ⟨[.own 4 (grantL l x).1.length (encL (grantL l x).1), .sc (.int .i64 (grantL l x).2)], []⟩ := by
  rw [passkeyref10_Grant_e]
  have hv := vlR_eq (d := d) hl hfu
  have ho := validR_eq (fu := fu) (d := d + 1) x
  have h7 : ([PV.sc (Value.int IntKind.u64 x.tag), PV.sc (Value.int IntKind.i64 x.fr), PV.sc (Value.int IntKind.i64 x.to), PV.sc (Value.int IntKind.i64 x.nx)] : List PV) = x.cells := rfl
  have hf := findR_eq (d := d + 1) hl hfu x.tag
  unfold grantL
  by_cases h1 : vld l = 0
  · have hlen := vld_len h1
    cases h2 : x.ok
    · simp (disch := omega) only [nd_call, nd_nil, nd_cons, nd_bool, nd_str, nd_int, nd_any, nd_ls, nd_ow, nd_agg, nd_opt, nd_share, nd_chk, nd_chkd, nd_chka, nd_brT, nd_brF, nd_brt, nd_brf, nd_both, Bool.not_true, Bool.not_false, Bool.false_eq_true, if_true, if_false, Bool.true_and, Bool.and_true, Bool.false_and, Bool.and_false, decide_true, decide_false, hv, h7, ho, hf, h1, h2, nd_brne, ne_eq, not_true_eq_false, List.length_nil, List.flatMap_nil]
    · cases h3 : (findL x.tag l 0).2
      · by_cases h4 : 16 ≤ l.length
        · simp (disch := omega) only [nd_call, nd_nil, nd_cons, nd_bool, nd_str, nd_int, nd_any, nd_ls, nd_ow, nd_agg, nd_opt, nd_share, nd_chk, nd_chkd, nd_chka, nd_brT, nd_brF, nd_brt, nd_brf, nd_both, Bool.not_true, Bool.not_false, Bool.false_eq_true, if_true, if_false, Bool.true_and, Bool.and_true, Bool.false_and, Bool.and_false, decide_true, decide_false, hv, h7, ho, hf, h1, h2, h3, nd_brne, ne_eq, not_true_eq_false, List.length_nil, List.flatMap_nil, if_pos h4, Bool.true_eq_false]
        · have h8 : encL l ++ x.cells = encL (l ++ [x]) := by simp
          have h10 : (l ++ [x]).length = l.length + 1 := by simp
          have h11 := tk' (l ++ [x])
          rw [h10] at h11
          simp (disch := omega) only [nd_call, nd_nil, nd_cons, nd_bool, nd_str, nd_int, nd_any, nd_ls, nd_ow, nd_agg, nd_opt, nd_share, nd_chk, nd_chkd, nd_chka, nd_brT, nd_brF, nd_brt, nd_brf, nd_both, Bool.not_true, Bool.not_false, Bool.false_eq_true, if_true, if_false, Bool.true_and, Bool.and_true, Bool.false_and, Bool.and_false, decide_true, decide_false, hv, h7, ho, hf, h1, h2, h3, nd_brne, ne_eq, not_true_eq_false, if_neg h4, Bool.true_eq_false, tk', encL_len, h8, h11, h10]
      · simp (disch := omega) only [nd_call, nd_nil, nd_cons, nd_bool, nd_str, nd_int, nd_any, nd_ls, nd_ow, nd_agg, nd_opt, nd_share, nd_chk, nd_chkd, nd_chka, nd_brT, nd_brF, nd_brt, nd_brf, nd_both, Bool.not_true, Bool.not_false, Bool.false_eq_true, if_true, if_false, Bool.true_and, Bool.and_true, Bool.false_and, Bool.and_false, decide_true, decide_false, hv, h7, ho, hf, h1, h2, h3, nd_brne, ne_eq, not_true_eq_false, List.length_nil, List.flatMap_nil, Bool.true_eq_false]
  · simp (disch := omega) only [nd_call, nd_nil, nd_cons, nd_bool, nd_str, nd_int, nd_any, nd_ls, nd_ow, nd_agg, nd_opt, nd_share, nd_chk, nd_chkd, nd_chka, nd_brT, nd_brF, nd_brt, nd_brf, nd_both, Bool.not_true, Bool.not_false, Bool.false_eq_true, if_true, if_false, Bool.true_and, Bool.and_true, Bool.false_and, Bool.and_false, decide_true, decide_false, hv, nd_brne, if_neg h1, if_pos h1, ne_eq, not_false_eq_true, List.length_nil, List.flatMap_nil]

theorem same_loop {call : Call'} {n n' : Nat} {c c' : List PV} (hl : l.length ≤ maxLen) : ∀ (r : List Ls) (i nn : Nat), l.drop i = r → r.length < nn →
    passkeyref10_SameLeases_L0 fu call n c n' c' nn l.length (encL l) l.length (encL l) i = some ⟨[.sc (.bool true)], []⟩
  | r, i, 0, _, h => by omega
  | [], i, nn + 1, h, _ => by
    have := drop_nil h
    rw [passkeyref10_SameLeases_L0_s]
    simp (disch := omega) only [nd_call, nd_nil, nd_cons, nd_bool, nd_str, nd_int, nd_any, nd_ls, nd_ow, nd_agg, nd_opt, nd_share, nd_chk, nd_chkd, nd_chka, nd_brT, nd_brF, nd_brt, nd_brf, nd_both, Bool.not_true, Bool.not_false, Bool.false_eq_true, if_true, if_false, Bool.true_and, Bool.and_true, Bool.false_and, Bool.and_false, decide_true, decide_false]
  | x :: r, i, nn + 1, h, hn => by
    obtain ⟨h1, h2, h3⟩ := drop_cons h
    have hl' := hl
    simp only [maxLen] at hl
    simp only [List.length_cons] at hn
    rw [passkeyref10_SameLeases_L0_s]
    simp (disch := omega) only [nd_call, nd_nil, nd_cons, nd_bool, nd_str, nd_int, nd_any, nd_ls, nd_ow, nd_agg, nd_opt, nd_share, nd_chk, nd_chkd, nd_chka, nd_brT, nd_brF, nd_brt, nd_brf, nd_both, Bool.not_true, Bool.not_false, Bool.false_eq_true, if_true, if_false, Bool.true_and, Bool.and_true, Bool.false_and, Bool.and_false, decide_true, decide_false, Int.toNat_natCast, Nat.add_assoc, Nat.reduceAdd, Nat.add_zero, at0 h2, at1 h2, at2 h2, at3 h2, wrap_i64, beq_self_eq_true]
    exact same_loop hl' r (i + 1) nn h3 (by omega)
theorem same_eq (hl : l.length ≤ maxLen) (hfu : l.length < fu) : pcall C0 Try.prog fu (d + 1) F_passkeyref10_SameLeases [.lst false 4 l.length (encL l), .lst false 4 l.length (encL l)] = some ⟨[.sc (.bool true)], []⟩ := by
  rw [passkeyref10_SameLeases_e]
  simp only [bne_self_eq_false, nd_brF]
  exact same_loop hl l 0 fu rfl hfu

theorem loc_cases (l : List Ls) (tag : Int) : (vld l ≠ 0 ∧ locL l tag = (0, vld l)) ∨ (vld l = 0 ∧ findL tag l 0 = (0, false) ∧ locL l tag = (0, 11)) ∨
    ∃ (i : Nat) (x : Ls), vld l = 0 ∧ l[i]? = some x ∧ x ∈ l ∧ x.ok = true ∧ findL tag l 0 = ((i : Int), true) ∧ locL l tag = ((i : Int), 0) := by
  unfold locL
  by_cases h1 : vld l = 0
  · rcases findL_spec tag l 0 with h2 | ⟨k, x, h2, h3⟩
    · exact .inr (.inl ⟨h1, h2, by simp [h1, h2]⟩)
    · rw [Nat.zero_add] at h3
      have hm := List.mem_of_getElem? h2
      exact .inr (.inr ⟨k, x, h1, h2, hm, vld_ok h1 x hm, h3, by simp [h1, h3]⟩)
  · exact .inl ⟨h1, by simp [h1]⟩

theorem set_at (h : l[i]? = some x) (y : Ls) : (l.set i y)[i]? = some y := by
  have := getElem_lt h
  simp [this]

/-- What a change of one lease's end leaves. -/
theorem splice_to (h : l[i]? = some x) (v : Int) : splice (encL l) [.sc (.int .i64 v)] (i * 4 + 2) = encL (l.set i { x with to := v }) := by
  have := getElem_lt h
  rw [splice_one (by rw [encL_len]; omega)]
  exact fm_set cells_len (by omega) h rfl
theorem splice_nx (h : l[i]? = some x) (v : Int) : splice (encL l) [.sc (.int .i64 v)] (i * 4 + 3) = encL (l.set i { x with nx := v }) := by
  have := getElem_lt h
  rw [splice_one (by rw [encL_len]; omega)]
  exact fm_set cells_len (by omega) h rfl
theorem tk_set (y : Ls) : List.take (l.length * 4) (encL (l.set i y)) = encL (l.set i y) := List.take_of_length_le (by rw [encL_len]; simp)

theorem takeR_eq (hl : l.length ≤ maxLen) (hfu : l.length < fu) (tag : Int) : pcall C0 Try.prog fu (d + 4) F_passkeyref10_Take [.lst false 4 l.length (encL l), .sc (.int .u64 tag)] =
    some ⟨[.own 4 (takeL l tag).1.length (encL (takeL l tag).1), .sc (.int .i64 (takeL l tag).2.1), .sc (.int .i64 (takeL l tag).2.2)], []⟩ := by
  rw [passkeyref10_Take_e]
  have hv := vlR_eq (d := d + 1) hl hfu
  have hf := findR_eq (d := d + 2) hl hfu tag
  unfold takeL
  rcases loc_cases l tag with ⟨h1, h2⟩ | ⟨h1, h3, h2⟩ | ⟨i, x, h0, h1, hm, hok, h3, h2⟩
  · simp (disch := omega) only [nd_call, nd_nil, nd_cons, nd_bool, nd_str, nd_int, nd_any, nd_ls, nd_ow, nd_agg, nd_opt, nd_share, nd_chk, nd_chkd, nd_chka, nd_brT, nd_brF, nd_brt, nd_brf, nd_both, Bool.not_true, Bool.not_false, Bool.false_eq_true, if_true, if_false, Bool.true_and, Bool.and_true, Bool.false_and, Bool.and_false, decide_true, decide_false, hv, hf, h2, nd_brne, if_neg h1, if_pos h1, ne_eq, not_false_eq_true, List.length_nil, List.flatMap_nil]
  · simp (disch := omega) only [nd_call, nd_nil, nd_cons, nd_bool, nd_str, nd_int, nd_any, nd_ls, nd_ow, nd_agg, nd_opt, nd_share, nd_chk, nd_chkd, nd_chka, nd_brT, nd_brF, nd_brt, nd_brf, nd_both, Bool.not_true, Bool.not_false, Bool.false_eq_true, if_true, if_false, Bool.true_and, Bool.and_true, Bool.false_and, Bool.and_false, decide_true, decide_false, hv, hf, h1, h2, h3, nd_brne, ne_eq, not_false_eq_true, not_true_eq_false, List.length_nil, List.flatMap_nil]
    simp
  · have hi := getElem_lt h1
    have hlen := vld_len h0
    have hb := ok_bounds hok
    by_cases h4 : x.nx = x.to
    · simp (disch := omega) only [nd_call, nd_nil, nd_cons, nd_bool, nd_str, nd_int, nd_any, nd_ls, nd_ow, nd_agg, nd_opt, nd_share, nd_chk, nd_chkd, nd_chka, nd_brT, nd_brF, nd_brt, nd_brf, nd_both, Bool.not_true, Bool.not_false, Bool.false_eq_true, if_true, if_false, Bool.true_and, Bool.and_true, Bool.false_and, Bool.and_false, decide_true, decide_false, hv, hf, h0, h2, h3, h1, nd_brne, nd_breq, if_pos h4, ne_eq, not_true_eq_false, Int.toNat_natCast, at2 h1, at3 h1, List.length_nil, List.flatMap_nil]
    · simp (disch := omega) only [nd_call, nd_nil, nd_cons, nd_bool, nd_str, nd_int, nd_any, nd_ls, nd_ow, nd_agg, nd_opt, nd_share, nd_chk, nd_chkd, nd_chka, nd_brT, nd_brF, nd_brt, nd_brf, nd_both, Bool.not_true, Bool.not_false, Bool.false_eq_true, if_true, if_false, Bool.true_and, Bool.and_true, Bool.false_and, Bool.and_false, decide_true, decide_false, hv, hf, h0, h2, h3, h1, nd_brne, nd_breq, if_neg h4, ne_eq, not_true_eq_false, Int.toNat_natCast, Nat.zero_add, at2 h1, at3 h1, wrap_i64, splice_nx h1, encL_len, tk_set, List.length_set]

/-- The list after Part, the leaves, and the error. -/
def partL (l : List Ls) (tag n : Int) : List Ls × Int × Int × Int :=
  if (locL l tag).2 ≠ 0 then ([], 0, 0, (locL l tag).2) else if n < 1 then ([], 0, 0, 9) else
  match l[(locL l tag).1.toNat]? with
  | none => ([], 0, 0, 0)
  | some x => if x.to - x.nx < n then ([], 0, 0, 13) else (l.set (locL l tag).1.toNat { x with to := x.to - n }, x.to - n, x.to, 0)

theorem part_eq (hl : l.length ≤ maxLen) (hfu : l.length < fu) (tag n : Int) : pcall C0 Try.prog fu (d + 4) F_lease_Part [.lst false 4 l.length (encL l), .sc (.int .u64 tag), .sc (.int .i64 n)] =
    some ⟨[.own 4 (partL l tag n).1.length (encL (partL l tag n).1), .sc (.int .i64 (partL l tag n).2.1), .sc (.int .i64 (partL l tag n).2.2.1), .sc (.int .i64 (partL l tag n).2.2.2)], []⟩ := by
  rw [lease_Part_e]
  have hlo := locate_eq (d := d) hl hfu tag
  unfold partL
  rcases loc_cases l tag with ⟨h1, h2⟩ | ⟨h1, h3, h2⟩ | ⟨i, x, h0, h1, hm, hok, h3, h2⟩
  · simp (disch := omega) only [nd_call, nd_nil, nd_cons, nd_bool, nd_str, nd_int, nd_any, nd_ls, nd_ow, nd_agg, nd_opt, nd_share, nd_chk, nd_chkd, nd_chka, nd_brT, nd_brF, nd_brt, nd_brf, nd_both, Bool.not_true, Bool.not_false, Bool.false_eq_true, if_true, if_false, Bool.true_and, Bool.and_true, Bool.false_and, Bool.and_false, decide_true, decide_false, hlo, h2, nd_brne, if_neg h1, if_pos h1, ne_eq, not_false_eq_true, List.length_nil, List.flatMap_nil]
  · simp (disch := omega) only [nd_call, nd_nil, nd_cons, nd_bool, nd_str, nd_int, nd_any, nd_ls, nd_ow, nd_agg, nd_opt, nd_share, nd_chk, nd_chkd, nd_chka, nd_brT, nd_brF, nd_brt, nd_brf, nd_both, Bool.not_true, Bool.not_false, Bool.false_eq_true, if_true, if_false, Bool.true_and, Bool.and_true, Bool.false_and, Bool.and_false, decide_true, decide_false, hlo, h1, h2, h3, nd_brne, ne_eq, not_false_eq_true, not_true_eq_false, List.length_nil, List.flatMap_nil]
    simp
  · have hi := getElem_lt h1
    have hlen := vld_len h0
    have hb := ok_bounds hok
    have hcl := clone_eq (fu := fu) (d := d + 2) (l := l) (by omega)
    by_cases h4 : n < 1
    · simp (disch := omega) only [nd_call, nd_nil, nd_cons, nd_bool, nd_str, nd_int, nd_any, nd_ls, nd_ow, nd_agg, nd_opt, nd_share, nd_chk, nd_chkd, nd_chka, nd_brT, nd_brF, nd_brt, nd_brf, nd_both, Bool.not_true, Bool.not_false, Bool.false_eq_true, if_true, if_false, Bool.true_and, Bool.and_true, Bool.false_and, Bool.and_false, decide_true, decide_false, hlo, h2, nd_brne, if_pos h4, ne_eq, not_true_eq_false, List.length_nil, List.flatMap_nil]
    · by_cases h5 : x.to - x.nx < n
      · simp (disch := omega) only [nd_call, nd_nil, nd_cons, nd_bool, nd_str, nd_int, nd_any, nd_ls, nd_ow, nd_agg, nd_opt, nd_share, nd_chk, nd_chkd, nd_chka, nd_brT, nd_brF, nd_brt, nd_brf, nd_both, Bool.not_true, Bool.not_false, Bool.false_eq_true, if_true, if_false, Bool.true_and, Bool.and_true, Bool.false_and, Bool.and_false, decide_true, decide_false, hlo, h2, h1, nd_brne, if_neg h4, if_pos h5, ne_eq, not_true_eq_false, Int.toNat_natCast, at2 h1, at3 h1, wrap_i64, List.length_nil, List.flatMap_nil]
      · simp (disch := omega) only [nd_call, nd_nil, nd_cons, nd_bool, nd_str, nd_int, nd_any, nd_ls, nd_ow, nd_agg, nd_opt, nd_share, nd_chk, nd_chkd, nd_chka, nd_brT, nd_brF, nd_brt, nd_brf, nd_both, Bool.not_true, Bool.not_false, Bool.false_eq_true, if_true, if_false, Bool.true_and, Bool.and_true, Bool.false_and, Bool.and_false, decide_true, decide_false, hlo, h2, h1, hcl, nd_brne, if_neg h4, if_neg h5, ne_eq, not_true_eq_false, Int.toNat_natCast, Nat.zero_add, at2 h1, at3 h1, wrap_i64, splice_to h1, encL_len, tk_set, List.length_set]
theorem partR_eq (hl : l.length ≤ maxLen) (hfu : l.length < fu) (tag n : Int) : pcall C0 Try.prog fu (d + 4) F_passkeyref10_Part [.lst false 4 l.length (encL l), .sc (.int .u64 tag), .sc (.int .i64 n)] =
    some ⟨[.own 4 (partL l tag n).1.length (encL (partL l tag n).1), .sc (.int .i64 (partL l tag n).2.1), .sc (.int .i64 (partL l tag n).2.2.1), .sc (.int .i64 (partL l tag n).2.2.2)], []⟩ := by
  rw [passkeyref10_Part_e]
  have hv := vlR_eq (d := d + 1) hl hfu
  have hf := findR_eq (d := d + 2) hl hfu tag
  unfold partL
  rcases loc_cases l tag with ⟨h1, h2⟩ | ⟨h1, h3, h2⟩ | ⟨i, x, h0, h1, hm, hok, h3, h2⟩
  · simp (disch := omega) only [nd_call, nd_nil, nd_cons, nd_bool, nd_str, nd_int, nd_any, nd_ls, nd_ow, nd_agg, nd_opt, nd_share, nd_chk, nd_chkd, nd_chka, nd_brT, nd_brF, nd_brt, nd_brf, nd_both, Bool.not_true, Bool.not_false, Bool.false_eq_true, if_true, if_false, Bool.true_and, Bool.and_true, Bool.false_and, Bool.and_false, decide_true, decide_false, hv, hf, h2, nd_brne, if_neg h1, if_pos h1, ne_eq, not_false_eq_true, List.length_nil, List.flatMap_nil]
  · simp (disch := omega) only [nd_call, nd_nil, nd_cons, nd_bool, nd_str, nd_int, nd_any, nd_ls, nd_ow, nd_agg, nd_opt, nd_share, nd_chk, nd_chkd, nd_chka, nd_brT, nd_brF, nd_brt, nd_brf, nd_both, Bool.not_true, Bool.not_false, Bool.false_eq_true, if_true, if_false, Bool.true_and, Bool.and_true, Bool.false_and, Bool.and_false, decide_true, decide_false, hv, hf, h1, h2, h3, nd_brne, ne_eq, not_false_eq_true, not_true_eq_false, List.length_nil, List.flatMap_nil]
    simp
  · have hi := getElem_lt h1
    have hlen := vld_len h0
    have hb := ok_bounds hok
    by_cases h4 : n < 1
    · simp (disch := omega) only [nd_call, nd_nil, nd_cons, nd_bool, nd_str, nd_int, nd_any, nd_ls, nd_ow, nd_agg, nd_opt, nd_share, nd_chk, nd_chkd, nd_chka, nd_brT, nd_brF, nd_brt, nd_brf, nd_both, Bool.not_true, Bool.not_false, Bool.false_eq_true, if_true, if_false, Bool.true_and, Bool.and_true, Bool.false_and, Bool.and_false, decide_true, decide_false, hv, hf, h0, h2, h3, nd_brne, if_pos h4, ne_eq, not_true_eq_false, List.length_nil, List.flatMap_nil]
    · by_cases h5 : x.to - x.nx < n
      · simp (disch := omega) only [nd_call, nd_nil, nd_cons, nd_bool, nd_str, nd_int, nd_any, nd_ls, nd_ow, nd_agg, nd_opt, nd_share, nd_chk, nd_chkd, nd_chka, nd_brT, nd_brF, nd_brt, nd_brf, nd_both, Bool.not_true, Bool.not_false, Bool.false_eq_true, if_true, if_false, Bool.true_and, Bool.and_true, Bool.false_and, Bool.and_false, decide_true, decide_false, hv, hf, h0, h2, h3, h1, nd_brne, if_neg h4, if_pos h5, ne_eq, not_true_eq_false, Int.toNat_natCast, at2 h1, at3 h1, wrap_i64, List.length_nil, List.flatMap_nil]
      · have h6 := set_at h1 { x with to := x.to - n }
        simp (disch := omega) only [nd_call, nd_nil, nd_cons, nd_bool, nd_str, nd_int, nd_any, nd_ls, nd_ow, nd_agg, nd_opt, nd_share, nd_chk, nd_chkd, nd_chka, nd_brT, nd_brF, nd_brt, nd_brf, nd_both, Bool.not_true, Bool.not_false, Bool.false_eq_true, if_true, if_false, Bool.true_and, Bool.and_true, Bool.false_and, Bool.and_false, decide_true, decide_false, hv, hf, h0, h2, h3, h1, nd_brne, if_neg h4, if_neg h5, ne_eq, not_true_eq_false, Int.toNat_natCast, Nat.zero_add, at2 h1, at3 h1, wrap_i64, splice_to h1, at2 h6, encL_len, tk_set, List.length_set]
end

end Go.Proofs.Ytoidbofkmflocaa.Pv
