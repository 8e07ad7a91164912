/-
  Leases: what Find and Validate compute.
-/
import Derived.Test.YtoidbofkmflocaaPvN
import Derived.Test.YtoidbofkmflocaaGn1
import Derived.Test.YtoidbofkmflocaaGn2
set_option linter.unusedSimpArgs false
set_option linter.unusedVariables false
namespace Go.Proofs.Ytoidbofkmflocaa.Pv

structure Ls where
  tag : Int
  fr : Int
  to : Int
  nx : Int

def Ls.cells (x : Ls) : List PV := [.sc (.int .u64 x.tag), .sc (.int .i64 x.fr), .sc (.int .i64 x.to), .sc (.int .i64 x.nx)]
abbrev encL (l : List Ls) : List PV := l.flatMap Ls.cells
theorem cells_len (x : Ls) : x.cells.length = 4 := rfl

def Ls.ok (x : Ls) : Bool := decide (0 ≤ x.fr) && decide (x.fr ≤ x.nx) && decide (x.nx ≤ x.to) && decide (x.to ≤ 16)

section
variable {fu d : Nat}

theorem valid_eq (x : Ls) : pcall C0 Try.prog fu (d + 1) F_lease_valid [.agg x.cells] = some ⟨[.sc (.bool x.ok)], []⟩ := by
  unfold Ls.cells
  rw [lease_valid_e]
  simp only [nd_retand, Ls.ok, Bool.and_assoc]
theorem validR_eq (x : Ls) : pcall C0 Try.prog fu (d + 1) F_passkeyref10_Valid [.agg x.cells] = some ⟨[.sc (.bool x.ok)], []⟩ := by
  unfold Ls.cells
  rw [passkeyref10_Valid_e]
  simp only [nd_retand, Ls.ok, Bool.and_assoc, ge_iff_le]

variable {l : List Ls} {i : Nat} {x : Ls}
theorem at0 (h : l[i]? = some x) : (encL l).getD (i * 4) .top = .sc (.int .u64 x.tag) := fm_at cells_len h (j := 0) (by omega)
theorem at1 (h : l[i]? = some x) : (encL l).getD (i * 4 + 1) .top = .sc (.int .i64 x.fr) := fm_at cells_len h (j := 1) (by omega)
theorem at2 (h : l[i]? = some x) : (encL l).getD (i * 4 + 2) .top = .sc (.int .i64 x.to) := fm_at cells_len h (j := 2) (by omega)
theorem at3 (h : l[i]? = some x) : (encL l).getD (i * 4 + 3) .top = .sc (.int .i64 x.nx) := fm_at cells_len h (j := 3) (by omega)

def findL (tag : Int) : List Ls → Nat → Int × Bool
  | [], _ => (0, false)
  | x :: r, i => if x.tag = tag then (i, true) else findL tag r (i + 1)

theorem find_loop {call : Call'} {n : Nat} {c : List PV} {t tag : Int} (hl : l.length ≤ maxLen) : ∀ (r : List Ls) (i nn : Nat), l.drop i = r → r.length < nn →
    lease_Find_L0 fu call n c t nn tag l.length (encL l) l.length i = some ⟨[.sc (.int .i64 (findL tag r i).1), .sc (.bool (findL tag r i).2)], []⟩
  | r, i, 0, _, h => by omega
  | [], i, nn + 1, h, _ => by
    have := drop_nil h
    rw [lease_Find_L0_s]
    simp (disch := omega) only [nd_call, nd_nil, nd_cons, nd_bool, nd_str, nd_int, nd_any, nd_ls, nd_ow, nd_agg, nd_opt, nd_share, nd_chk, nd_chkd, nd_chka, nd_brT, nd_brF, nd_brt, nd_brf, nd_both, Bool.not_true, Bool.not_false, Bool.false_eq_true, if_true, if_false, Bool.true_and, Bool.and_true, Bool.false_and, Bool.and_false, decide_true, decide_false]
    rfl
  | x :: r, i, nn + 1, h, hn => by
    obtain ⟨h1, h2, h3⟩ := drop_cons h
    simp only [maxLen] at hl
    simp only [List.length_cons] at hn
    rw [lease_Find_L0_s]
    simp (disch := omega) only [nd_call, nd_nil, nd_cons, nd_bool, nd_str, nd_int, nd_any, nd_ls, nd_ow, nd_agg, nd_opt, nd_share, nd_chk, nd_chkd, nd_chka, nd_brT, nd_brF, nd_brt, nd_brf, nd_both, Bool.not_true, Bool.not_false, Bool.false_eq_true, if_true, if_false, Bool.true_and, Bool.and_true, Bool.false_and, Bool.and_false, decide_true, decide_false, Int.toNat_natCast, Nat.add_assoc, Nat.reduceAdd, at0 h2, at1 h2, at2 h2, at3 h2, nd_breq, findL]
    split
    · rfl
    · rw [wrap_i64 (by omega) (by omega)]
      exact find_loop hl r (i + 1) nn h3 (by omega)

theorem find_eq (hl : l.length ≤ maxLen) (hfu : l.length < fu) (tag : Int) : pcall C0 Try.prog fu (d + 1) F_lease_Find [.lst false 4 l.length (encL l), .sc (.int .u64 tag)] = some ⟨[.sc (.int .i64 (findL tag l 0).1), .sc (.bool (findL tag l 0).2)], []⟩ := by
  rw [lease_Find_e]
  exact find_loop hl l 0 fu rfl hfu

theorem findR_loop {call : Call'} {n : Nat} {c : List PV} {t tag : Int} (hl : l.length ≤ maxLen) : ∀ (r : List Ls) (i nn : Nat), l.drop i = r → r.length < nn →
    passkeyref10_FindLease_L0 fu call n c t nn l.length (encL l) tag i = some ⟨[.sc (.int .i64 (findL tag r i).1), .sc (.bool (findL tag r i).2)], []⟩
  | r, i, 0, _, h => by omega
  | [], i, nn + 1, h, _ => by
    have := drop_nil h
    rw [passkeyref10_FindLease_L0_s]
    simp (disch := omega) only [nd_call, nd_nil, nd_cons, nd_bool, nd_str, nd_int, nd_any, nd_ls, nd_ow, nd_agg, nd_opt, nd_share, nd_chk, nd_chkd, nd_chka, nd_brT, nd_brF, nd_brt, nd_brf, nd_both, Bool.not_true, Bool.not_false, Bool.false_eq_true, if_true, if_false, Bool.true_and, Bool.and_true, Bool.false_and, Bool.and_false, decide_true, decide_false]
    rfl
  | x :: r, i, nn + 1, h, hn => by
    obtain ⟨h1, h2, h3⟩ := drop_cons h
    simp only [maxLen] at hl
    simp only [List.length_cons] at hn
    rw [passkeyref10_FindLease_L0_s]
    simp (disch := omega) only [nd_call, nd_nil, nd_cons, nd_bool, nd_str, nd_int, nd_any, nd_ls, nd_ow, nd_agg, nd_opt, nd_share, nd_chk, nd_chkd, nd_chka, nd_brT, nd_brF, nd_brt, nd_brf, nd_both, Bool.not_true, Bool.not_false, Bool.false_eq_true, if_true, if_false, Bool.true_and, Bool.and_true, Bool.false_and, Bool.and_false, decide_true, decide_false, Int.toNat_natCast, Nat.add_assoc, Nat.reduceAdd, Nat.add_zero, at0 h2, at1 h2, at2 h2, at3 h2, nd_breq, findL]
    split
    · rfl
    · rw [wrap_i64 (by omega) (by omega)]
      exact findR_loop hl r (i + 1) nn h3 (by omega)

theorem findR_eq (hl : l.length ≤ maxLen) (hfu : l.length < fu) (tag : Int) : pcall C0 Try.prog fu (d + 1) F_passkeyref10_FindLease [.lst false 4 l.length (encL l), .sc (.int .u64 tag)] = some ⟨[.sc (.int .i64 (findL tag l 0).1), .sc (.bool (findL tag l 0).2)], []⟩ := by
  rw [passkeyref10_FindLease_e]
  exact findR_loop hl l 0 fu rfl hfu

def vlL (l : List Ls) : List Ls → Nat → Int
  | [], _ => 0
  | x :: r, i => if x.ok = true then (if (findL x.tag (l.take i) 0).2 = true then 10 else vlL l r (i + 1)) else 9

theorem take_enc (hi : i ≤ l.length) : List.take (i * 4) (List.drop 0 (encL l)) = encL (l.take i) := by
  rw [List.drop_zero, fm_take cells_len]
theorem take_len (hi : i ≤ l.length) : (l.take i).length = i := by simp [hi]

theorem vl_loop {n : Nat} {c : List PV} (hl : l.length ≤ maxLen) (hfu : l.length < fu) : ∀ (r : List Ls) (i nn : Nat), l.drop i = r → r.length < nn →
    lease_Validate_L0 fu (pcall C0 Try.prog fu (d + 1)) n c nn l.length (encL l) l.length (encL l) l.length i = some ⟨[.sc (.int .i64 (vlL l r i))], []⟩
  | r, i, 0, _, h => by omega
  | [], i, nn + 1, h, _ => by
    have := drop_nil h
    rw [lease_Validate_L0_s]
    simp (disch := omega) only [nd_call, nd_nil, nd_cons, nd_bool, nd_str, nd_int, nd_any, nd_ls, nd_ow, nd_agg, nd_opt, nd_share, nd_chk, nd_chkd, nd_chka, nd_brT, nd_brF, nd_brt, nd_brf, nd_both, Bool.not_true, Bool.not_false, Bool.false_eq_true, if_true, if_false, Bool.true_and, Bool.and_true, Bool.false_and, Bool.and_false, decide_true, decide_false]
    rfl
  | x :: r, i, nn + 1, h, hn => by
    obtain ⟨h1, h2, h3⟩ := drop_cons h
    have hl' := hl
    simp only [maxLen] at hl
    simp only [List.length_cons] at hn
    have hf := find_eq (fu := fu) (d := d) (l := l.take i) (by rw [take_len (by omega)]; simp only [maxLen]; omega) (by rw [take_len (by omega)]; omega) x.tag
    rw [take_len (by omega)] at hf
    have hv := valid_eq (fu := fu) (d := d) x
    unfold Ls.cells at hv
    rw [lease_Validate_L0_s]
    cases hok : x.ok
    · simp (disch := omega) only [nd_call, nd_nil, nd_cons, nd_bool, nd_str, nd_int, nd_any, nd_ls, nd_ow, nd_agg, nd_opt, nd_share, nd_chk, nd_chkd, nd_chka, nd_brT, nd_brF, nd_brt, nd_brf, nd_both, Bool.not_true, Bool.not_false, Bool.false_eq_true, if_true, if_false, Bool.true_and, Bool.and_true, Bool.false_and, Bool.and_false, decide_true, decide_false, Int.toNat_natCast, Nat.add_assoc, Nat.reduceAdd, Nat.add_zero, Nat.sub_zero, at0 h2, at1 h2, at2 h2, at3 h2, hv, hok, vlL]
    · cases hfd : (findL x.tag (l.take i) 0).2
      · simp (disch := omega) only [nd_call, nd_nil, nd_cons, nd_bool, nd_str, nd_int, nd_any, nd_ls, nd_ow, nd_agg, nd_opt, nd_share, nd_chk, nd_chkd, nd_chka, nd_brT, nd_brF, nd_brt, nd_brf, nd_both, Bool.not_true, Bool.not_false, Bool.false_eq_true, if_true, if_false, Bool.true_and, Bool.and_true, Bool.false_and, Bool.and_false, decide_true, decide_false, Int.toNat_natCast, Nat.add_assoc, Nat.reduceAdd, Nat.add_zero, Nat.sub_zero, at0 h2, at1 h2, at2 h2, at3 h2, hv, take_enc, hf, hok, hfd, vlL, wrap_i64]
        exact vl_loop hl' hfu r (i + 1) nn h3 (by omega)
      · simp (disch := omega) only [nd_call, nd_nil, nd_cons, nd_bool, nd_str, nd_int, nd_any, nd_ls, nd_ow, nd_agg, nd_opt, nd_share, nd_chk, nd_chkd, nd_chka, nd_brT, nd_brF, nd_brt, nd_brf, nd_both, Bool.not_true, Bool.not_false, Bool.false_eq_true, if_true, if_false, Bool.true_and, Bool.and_true, Bool.false_and, Bool.and_false, decide_true, decide_false, Int.toNat_natCast, Nat.add_assoc, Nat.reduceAdd, Nat.add_zero, Nat.sub_zero, at0 h2, at1 h2, at2 h2, at3 h2, hv, take_enc, hf, hok, hfd, vlL]
theorem vlR_loop {n : Nat} {c : List PV} (hl : l.length ≤ maxLen) (hfu : l.length < fu) : ∀ (r : List Ls) (i nn : Nat), l.drop i = r → r.length < nn →
    passkeyref10_ValidateLeases_L0 fu (pcall C0 Try.prog fu (d + 1)) n c nn l.length (encL l) i = some ⟨[.sc (.int .i64 (vlL l r i))], []⟩
  | r, i, 0, _, h => by omega
  | [], i, nn + 1, h, _ => by
    have := drop_nil h
    rw [passkeyref10_ValidateLeases_L0_s]
    simp (disch := omega) only [nd_call, nd_nil, nd_cons, nd_bool, nd_str, nd_int, nd_any, nd_ls, nd_ow, nd_agg, nd_opt, nd_share, nd_chk, nd_chkd, nd_chka, nd_brT, nd_brF, nd_brt, nd_brf, nd_both, Bool.not_true, Bool.not_false, Bool.false_eq_true, if_true, if_false, Bool.true_and, Bool.and_true, Bool.false_and, Bool.and_false, decide_true, decide_false]
    rfl
  | x :: r, i, nn + 1, h, hn => by
    obtain ⟨h1, h2, h3⟩ := drop_cons h
    have hl' := hl
    simp only [maxLen] at hl
    simp only [List.length_cons] at hn
    have hf := findR_eq (fu := fu) (d := d) (l := l.take i) (by rw [take_len (by omega)]; simp only [maxLen]; omega) (by rw [take_len (by omega)]; omega) x.tag
    rw [take_len (by omega)] at hf
    have hv := validR_eq (fu := fu) (d := d) x
    unfold Ls.cells at hv
    rw [passkeyref10_ValidateLeases_L0_s]
    cases hok : x.ok
    · simp (disch := omega) only [nd_call, nd_nil, nd_cons, nd_bool, nd_str, nd_int, nd_any, nd_ls, nd_ow, nd_agg, nd_opt, nd_share, nd_chk, nd_chkd, nd_chka, nd_brT, nd_brF, nd_brt, nd_brf, nd_both, Bool.not_true, Bool.not_false, Bool.false_eq_true, if_true, if_false, Bool.true_and, Bool.and_true, Bool.false_and, Bool.and_false, decide_true, decide_false, Int.toNat_natCast, Nat.add_assoc, Nat.reduceAdd, Nat.add_zero, Nat.sub_zero, at0 h2, at1 h2, at2 h2, at3 h2, hv, hok, vlL]
    · cases hfd : (findL x.tag (l.take i) 0).2
      · simp (disch := omega) only [nd_call, nd_nil, nd_cons, nd_bool, nd_str, nd_int, nd_any, nd_ls, nd_ow, nd_agg, nd_opt, nd_share, nd_chk, nd_chkd, nd_chka, nd_brT, nd_brF, nd_brt, nd_brf, nd_both, Bool.not_true, Bool.not_false, Bool.false_eq_true, if_true, if_false, Bool.true_and, Bool.and_true, Bool.false_and, Bool.and_false, decide_true, decide_false, Int.toNat_natCast, Nat.add_assoc, Nat.reduceAdd, Nat.add_zero, Nat.sub_zero, at0 h2, at1 h2, at2 h2, at3 h2, hv, take_enc, hf, hok, hfd, vlL, wrap_i64]
        exact vlR_loop hl' hfu r (i + 1) nn h3 (by omega)
      · simp (disch := omega) only [nd_call, nd_nil, nd_cons, nd_bool, nd_str, nd_int, nd_any, nd_ls, nd_ow, nd_agg, nd_opt, nd_share, nd_chk, nd_chkd, nd_chka, nd_brT, nd_brF, nd_brt, nd_brf, nd_both, Bool.not_true, Bool.not_false, Bool.false_eq_true, if_true, if_false, Bool.true_and, Bool.and_true, Bool.false_and, Bool.and_false, decide_true, decide_false, Int.toNat_natCast, Nat.add_assoc, Nat.reduceAdd, Nat.add_zero, Nat.sub_zero, at0 h2, at1 h2, at2 h2, at3 h2, hv, take_enc, hf, hok, hfd, vlL]

def vld (l : List Ls) : Int := if 16 < l.length then 8 else vlL l l 0

theorem vl_eq (hl : l.length ≤ maxLen) (hfu : l.length < fu) : pcall C0 Try.prog fu (d + 2) F_lease_Validate [.lst false 4 l.length (encL l)] = some ⟨[.sc (.int .i64 (vld l))], []⟩ := by
  rw [lease_Validate_e]
  have := vl_loop (d := d) (n := l.length) (c := encL l) hl hfu l 0 fu rfl hfu
  by_cases h : 16 < l.length
  · simp (disch := omega) only [nd_brt, vld, if_pos h]
  · simp (disch := omega) only [nd_brf, vld, if_neg h]
    exact this
theorem vlR_eq (hl : l.length ≤ maxLen) (hfu : l.length < fu) : pcall C0 Try.prog fu (d + 2) F_passkeyref10_ValidateLeases [.lst false 4 l.length (encL l)] = some ⟨[.sc (.int .i64 (vld l))], []⟩ := by
  rw [passkeyref10_ValidateLeases_e]
  have := vlR_loop (d := d) (n := l.length) (c := encL l) hl hfu l 0 fu rfl hfu
  by_cases h : 16 < l.length
  · simp (disch := omega) only [nd_brt, vld, if_pos h]
  · simp (disch := omega) only [nd_brf, vld, if_neg h]
    exact this
end

end Go.Proofs.Ytoidbofkmflocaa.Pv
