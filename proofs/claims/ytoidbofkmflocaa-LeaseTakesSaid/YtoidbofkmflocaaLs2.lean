/-
  Leases: Clone, Grant, locate, Take; the lists that the laws make.
-/
import Derived.Test.YtoidbofkmflocaaLs1
set_option linter.unusedSimpArgs false
set_option linter.unusedVariables false
namespace Go.Proofs.Ytoidbofkmflocaa.Pv

section
variable {fu d : Nat} {l : List Ls} {i : Nat} {x : Ls}

theorem encL_len (l : List Ls) : (encL l).length = l.length * 4 := fm_len cells_len l

theorem clone_eq (hl : l.length ≤ 1000000) : pcall C0 Try.prog fu (d + 1) F_slices_Clone_Lease [.lst false 4 l.length (encL l)] = some ⟨[.own 4 l.length (encL l)], []⟩ := by
  rw [slices_Clone_Lease_e]
  have h4 := encL_len l
  have ht : (encL l).take (l.length * 4) = encL l := List.take_of_length_le (by omega)
  by_cases h0 : 0 < l.length
  · simp (disch := omega) only [nd_call, nd_nil, nd_cons, nd_bool, nd_str, nd_int, nd_any, nd_ls, nd_ow, nd_agg, nd_opt, nd_share, nd_chk, nd_chkd, nd_chka, nd_brT, nd_brF, nd_brt, nd_brf, nd_both, Bool.not_true, Bool.not_false, Bool.false_eq_true, if_true, if_false, Bool.true_and, Bool.and_true, Bool.false_and, Bool.and_false, decide_true, decide_false, List.nil_append, Nat.zero_add, h4, ht]
  · have hl0 : l = [] := List.eq_nil_of_length_eq_zero (by omega)
    subst hl0
    simp (disch := simp) only [nd_call, nd_nil, nd_cons, nd_bool, nd_str, nd_int, nd_any, nd_ls, nd_ow, nd_agg, nd_opt, nd_share, nd_chk, nd_chkd, nd_chka, nd_brT, nd_brF, nd_brt, nd_brf, nd_both, Bool.not_true, Bool.not_false, Bool.false_eq_true, if_true, if_false, Bool.true_and, Bool.and_true, Bool.false_and, Bool.and_false, decide_true, decide_false, List.nil_append, Nat.zero_add, List.flatMap_nil, List.length_nil, List.take_nil]

/-- The list after Grant, and the error. -/
def grantL (l : List Ls) (x : Ls) : List Ls × Int :=
  if vld l ≠ 0 then ([], vld l) else if x.ok = false then ([], 9) else if (findL x.tag l 0).2 = true then ([], 10) else if 16 ≤ l.length then ([], 12) else (l ++ [x], 0)

theorem vld_len (h : vld l = 0) : l.length ≤ 16 := by
  unfold vld at h
  split at h
  · cases h
  · omega

theorem vlL_ok : ∀ {r : List Ls} {i : Nat}, vlL l r i = 0 → ∀ x ∈ r, x.ok = true
  | [], _, _, x, hx => by cases hx
  | y :: r, i, h, x, hx => by
    unfold vlL at h
    split at h
    · rename_i hy
      split at h
      · cases h
      · rcases List.mem_cons.1 hx with rfl | hx
        · exact hy
        · exact vlL_ok h x hx
    · cases h
theorem vld_ok (h : vld l = 0) : ∀ x ∈ l, x.ok = true := by
  unfold vld at h
  split at h
  · cases h
  · exact vlL_ok h

theorem grant_eq (hl : l.length ≤ maxLen) (hfu : l.length < fu) (x : Ls) : pcall C0 Try.prog fu (d + 3) F_lease_Grant [.lst false 4 l.length (encL l), .sc (.int .u64 x.tag), .sc (.int .i64 x.fr), .sc (.int .i64 x.to), .sc (.int .i64 x.nx)] =
    some ⟨[.own 4 (grantL l x).1.length (encL (grantL l x).1), .sc (.int .i64 (grantL l x).2)], []⟩ := by
  rw [lease_Grant_e]
  have hv := vl_eq (d := d) hl hfu
  have ho := valid_eq (fu := fu) (d := d + 1) x
  unfold Ls.cells at ho
  have hf := find_eq (d := d + 1) hl hfu x.tag
  unfold grantL
  by_cases h1 : vld l = 0
  · have hlen := vld_len h1
    have hcl := clone_eq (fu := fu) (d := d + 1) (l := l) (by omega)
    cases h2 : x.ok
    · simp (disch := omega) only [nd_call, nd_nil, nd_cons, nd_bool, nd_str, nd_int, nd_any, nd_ls, nd_ow, nd_agg, nd_opt, nd_share, nd_chk, nd_chkd, nd_chka, nd_brT, nd_brF, nd_brt, nd_brf, nd_both, Bool.not_true, Bool.not_false, Bool.false_eq_true, if_true, if_false, Bool.true_and, Bool.and_true, Bool.false_and, Bool.and_false, decide_true, decide_false, hv, ho, hf, h1, h2, nd_brne, ne_eq, not_true_eq_false, List.length_nil, List.flatMap_nil]
    · cases h3 : (findL x.tag l 0).2
      · by_cases h4 : 16 ≤ l.length
        · simp (disch := omega) only [nd_call, nd_nil, nd_cons, nd_bool, nd_str, nd_int, nd_any, nd_ls, nd_ow, nd_agg, nd_opt, nd_share, nd_chk, nd_chkd, nd_chka, nd_brT, nd_brF, nd_brt, nd_brf, nd_both, Bool.not_true, Bool.not_false, Bool.false_eq_true, if_true, if_false, Bool.true_and, Bool.and_true, Bool.false_and, Bool.and_false, decide_true, decide_false, hv, ho, hf, h1, h2, h3, nd_brne, ne_eq, not_true_eq_false, List.length_nil, List.flatMap_nil, if_pos h4, Bool.true_eq_false]
        · have h5 := encL_len l
          have h6 : (encL l).take (l.length * 4) = encL l := List.take_of_length_le (by omega)
          have h7 : ([PV.sc (Value.int IntKind.u64 x.tag), PV.sc (Value.int IntKind.i64 x.fr), PV.sc (Value.int IntKind.i64 x.to), PV.sc (Value.int IntKind.i64 x.nx)] : List PV) = x.cells := rfl
          have h8 : encL l ++ x.cells = encL (l ++ [x]) := by simp
          have h9 := encL_len (l ++ [x])
          have h10 : (l ++ [x]).length = l.length + 1 := by simp
          rw [h10] at h9
          have h11 : (encL (l ++ [x])).take ((l.length + 1) * 4) = encL (l ++ [x]) := List.take_of_length_le (by omega)
          rw [h7] at ho
          simp (disch := omega) only [nd_call, nd_nil, nd_cons, nd_bool, nd_str, nd_int, nd_any, nd_ls, nd_ow, nd_agg, nd_opt, nd_share, nd_chk, nd_chkd, nd_chka, nd_brT, nd_brF, nd_brt, nd_brf, nd_both, Bool.not_true, Bool.not_false, Bool.false_eq_true, if_true, if_false, Bool.true_and, Bool.and_true, Bool.false_and, Bool.and_false, decide_true, decide_false, hv, ho, hf, hcl, h1, h2, h3, nd_brne, ne_eq, not_true_eq_false, if_neg h4, Bool.true_eq_false, h6, h7, h8, h11, h10]
      · simp (disch := omega) only [nd_call, nd_nil, nd_cons, nd_bool, nd_str, nd_int, nd_any, nd_ls, nd_ow, nd_agg, nd_opt, nd_share, nd_chk, nd_chkd, nd_chka, nd_brT, nd_brF, nd_brt, nd_brf, nd_both, Bool.not_true, Bool.not_false, Bool.false_eq_true, if_true, if_false, Bool.true_and, Bool.and_true, Bool.false_and, Bool.and_false, decide_true, decide_false, hv, ho, hf, h1, h2, h3, nd_brne, ne_eq, not_true_eq_false, List.length_nil, List.flatMap_nil, Bool.true_eq_false]
  · simp (disch := omega) only [nd_call, nd_nil, nd_cons, nd_bool, nd_str, nd_int, nd_any, nd_ls, nd_ow, nd_agg, nd_opt, nd_share, nd_chk, nd_chkd, nd_chka, nd_brT, nd_brF, nd_brt, nd_brf, nd_both, Bool.not_true, Bool.not_false, Bool.false_eq_true, if_true, if_false, Bool.true_and, Bool.and_true, Bool.false_and, Bool.and_false, decide_true, decide_false, hv, nd_brne, if_neg h1, if_pos h1, ne_eq, not_false_eq_true, List.length_nil, List.flatMap_nil]

/-- The place of a lease, and the error. -/
def locL (l : List Ls) (tag : Int) : Int × Int := if vld l ≠ 0 then (0, vld l) else if (findL tag l 0).2 = false then (0, 11) else ((findL tag l 0).1, 0)

theorem locate_eq (hl : l.length ≤ maxLen) (hfu : l.length < fu) (tag : Int) : pcall C0 Try.prog fu (d + 3) F_lease_locate [.lst false 4 l.length (encL l), .sc (.int .u64 tag)] =
    some ⟨[.sc (.int .i64 (locL l tag).1), .sc (.int .i64 (locL l tag).2)], []⟩ := by
  rw [lease_locate_e]
  have hv := vl_eq (d := d) hl hfu
  have hf := find_eq (d := d + 1) hl hfu tag
  unfold locL
  by_cases h1 : vld l = 0
  · cases h3 : (findL tag l 0).2
    · simp (disch := omega) only [nd_call, nd_nil, nd_cons, nd_bool, nd_str, nd_int, nd_any, nd_ls, nd_ow, nd_agg, nd_opt, nd_share, nd_chk, nd_chkd, nd_chka, nd_brT, nd_brF, nd_brt, nd_brf, nd_both, Bool.not_true, Bool.not_false, Bool.false_eq_true, if_true, if_false, Bool.true_and, Bool.and_true, Bool.false_and, Bool.and_false, decide_true, decide_false, hv, hf, h1, h3, nd_brne, ne_eq, not_true_eq_false]
    · simp (disch := omega) only [nd_call, nd_nil, nd_cons, nd_bool, nd_str, nd_int, nd_any, nd_ls, nd_ow, nd_agg, nd_opt, nd_share, nd_chk, nd_chkd, nd_chka, nd_brT, nd_brF, nd_brt, nd_brf, nd_both, Bool.not_true, Bool.not_false, Bool.false_eq_true, if_true, if_false, Bool.true_and, Bool.and_true, Bool.false_and, Bool.and_false, decide_true, decide_false, hv, hf, h1, h3, nd_brne, ne_eq, not_true_eq_false, Bool.true_eq_false]
  · simp (disch := omega) only [nd_call, nd_nil, nd_cons, nd_bool, nd_str, nd_int, nd_any, nd_ls, nd_ow, nd_agg, nd_opt, nd_share, nd_chk, nd_chkd, nd_chka, nd_brT, nd_brF, nd_brt, nd_brf, nd_both, Bool.not_true, Bool.not_false, Bool.false_eq_true, if_true, if_false, Bool.true_and, Bool.and_true, Bool.false_and, Bool.and_false, decide_true, decide_false, hv, nd_brne, if_neg h1, if_pos h1, ne_eq, not_false_eq_true]

theorem findL_spec (tag : Int) : ∀ (r : List Ls) (i : Nat), findL tag r i = (0, false) ∨ ∃ k x, r[k]? = some x ∧ findL tag r i = (((i + k : Nat) : Int), true)
  | [], i => .inl rfl
  | x :: r, i => by
    unfold findL
    by_cases h : x.tag = tag
    · right
      exact ⟨0, x, rfl, by simp [h]⟩
    · rw [if_neg h]
      rcases findL_spec tag r (i + 1) with h1 | ⟨k, y, h1, h2⟩
      · exact .inl h1
      · right
        refine ⟨k + 1, y, h1, ?_⟩
        rw [h2, show i + 1 + k = i + (k + 1) by omega]

theorem locL_spec (l : List Ls) (tag : Int) : (locL l tag).2 ≠ 0 ∨ ∃ (i : Nat) (x : Ls), vld l = 0 ∧ l[i]? = some x ∧ x ∈ l ∧ x.ok = true ∧ locL l tag = ((i : Int), 0) := by
  unfold locL
  by_cases h1 : vld l = 0
  · rcases findL_spec tag l 0 with h2 | ⟨k, x, h2, h3⟩
    · left
      simp [h1, h2]
    · right
      rw [Nat.zero_add] at h3
      have hm := List.mem_of_getElem? h2
      exact ⟨k, x, h1, h2, hm, vld_ok h1 x hm, by simp [h1, h3]⟩
  · left
    simp [h1]

/-- The list after Take, the leaf, and the error. -/
def takeL (l : List Ls) (tag : Int) : List Ls × Int × Int :=
  if (locL l tag).2 ≠ 0 then ([], 0, (locL l tag).2) else
  match l[(locL l tag).1.toNat]? with
  | none => ([], 0, 0)
  | some x => if x.nx = x.to then ([], 0, 13) else (l.set (locL l tag).1.toNat { x with nx := x.nx + 1 }, x.nx, 0)

theorem getElem_lt {α : Type} {l : List α} {i : Nat} {x : α} (h : l[i]? = some x) : i < l.length := by
  rcases Nat.lt_or_ge i l.length with h1 | h1
  · exact h1
  · rw [List.getElem?_eq_none h1] at h; cases h

theorem ok_bounds (h : x.ok = true) : 0 ≤ x.fr ∧ x.fr ≤ x.nx ∧ x.nx ≤ x.to ∧ x.to ≤ 16 := by
  unfold Ls.ok at h
  simp only [Bool.and_eq_true, decide_eq_true_eq] at h
  omega

theorem take_eq (hl : l.length ≤ maxLen) (hfu : l.length < fu) (tag : Int) : pcall C0 Try.prog fu (d + 4) F_lease_Take [.lst false 4 l.length (encL l), .sc (.int .u64 tag)] =
    some ⟨[.own 4 (takeL l tag).1.length (encL (takeL l tag).1), .sc (.int .i64 (takeL l tag).2.1), .sc (.int .i64 (takeL l tag).2.2)], []⟩ := by
  rw [lease_Take_e]
  have hlo := locate_eq (d := d) hl hfu tag
  unfold takeL
  rcases locL_spec l tag with h1 | ⟨i, x, h0, h1, hm, hok, h2⟩
  · simp (disch := omega) only [nd_call, nd_nil, nd_cons, nd_bool, nd_str, nd_int, nd_any, nd_ls, nd_ow, nd_agg, nd_opt, nd_share, nd_chk, nd_chkd, nd_chka, nd_brT, nd_brF, nd_brt, nd_brf, nd_both, Bool.not_true, Bool.not_false, Bool.false_eq_true, if_true, if_false, Bool.true_and, Bool.and_true, Bool.false_and, Bool.and_false, decide_true, decide_false, hlo, nd_brne, if_neg h1, if_pos h1, ne_eq, not_false_eq_true, List.length_nil, List.flatMap_nil]
  · have hi := getElem_lt h1
    have hlen := vld_len h0
    have hb := ok_bounds hok
    have hcl := clone_eq (fu := fu) (d := d + 2) (l := l) (by omega)
    have h5 := encL_len l
    have h6 : ∀ y : Ls, (encL (l.set i y)).take (l.length * 4) = encL (l.set i y) := fun y => List.take_of_length_le (by rw [encL_len]; simp)
    have h8 : ∀ y : Ls, (encL (l.set i y)).length = l.length * 4 := fun y => by rw [encL_len]; simp
    have h7 : splice (encL l) [.sc (.int .i64 (x.nx + 1))] (i * 4 + 3) = encL (l.set i { x with nx := x.nx + 1 }) := by
      rw [splice_one (by omega)]
      exact fm_set cells_len (by omega) h1 rfl
    by_cases h3 : x.nx = x.to
    · simp (disch := omega) only [nd_call, nd_nil, nd_cons, nd_bool, nd_str, nd_int, nd_any, nd_ls, nd_ow, nd_agg, nd_opt, nd_share, nd_chk, nd_chkd, nd_chka, nd_brT, nd_brF, nd_brt, nd_brf, nd_both, Bool.not_true, Bool.not_false, Bool.false_eq_true, if_true, if_false, Bool.true_and, Bool.and_true, Bool.false_and, Bool.and_false, decide_true, decide_false, hlo, h2, h1, nd_brne, nd_breq, if_pos h3, ne_eq, not_true_eq_false, Int.toNat_natCast, at2 h1, at3 h1, List.length_nil, List.flatMap_nil]
    · simp (disch := omega) only [nd_call, nd_nil, nd_cons, nd_bool, nd_str, nd_int, nd_any, nd_ls, nd_ow, nd_agg, nd_opt, nd_share, nd_chk, nd_chkd, nd_chka, nd_brT, nd_brF, nd_brt, nd_brf, nd_both, Bool.not_true, Bool.not_false, Bool.false_eq_true, if_true, if_false, Bool.true_and, Bool.and_true, Bool.false_and, Bool.and_false, decide_true, decide_false, hlo, h2, h1, hcl, nd_brne, nd_breq, if_neg h3, ne_eq, not_true_eq_false, Int.toNat_natCast, Nat.zero_add, at2 h1, at3 h1, wrap_i64, h7, h6, h8, List.length_set]
end

end Go.Proofs.Ytoidbofkmflocaa.Pv
