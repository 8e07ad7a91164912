/-
  Consent: Await of the reference; the law ConsentAwaits.
-/
import Derived.Test.YtaphhfehcbkfkaaCs1
import Derived.Test.YtaphhfehcbkfkaaOpC
set_option linter.unusedSimpArgs false
set_option linter.unusedVariables false
namespace Go.Proofs.Ytaphhfehcbkfkaa.Pv

theorem rowsG_le (k : Nat) (a : Int) (l : List Ge) : (rowsG a k l).length ≤ l.length := by
  have h : Ste (l.filter (fun g => decide (a ≤ g.tm) && decide (g.tm < a + k))) (rowsG a k l) := by
    intro z
    rw [rowsG_key, List.filter_filter]
    by_cases hz : a ≤ z ∧ z < a + (k : Int)
    · rw [if_pos hz]
      refine congrArg (fun p => List.filter p l) ?_
      funext g
      by_cases e : g.tm = z
      · simp [e, hz.1, hz.2]
      · simp [e]
    · rw [if_neg hz]
      refine (List.filter_eq_nil_iff.2 ?_).symm
      intro g _ hg
      simp only [Bool.and_eq_true, beq_iff_eq, decide_eq_true_eq] at hg
      omega
  rw [h.len]
  exact List.length_filter_le _ _

section
variable {fu d : Nat}

theorem await_eq (hfu : 1000 < fu) {l : List Ge} (hl : l.length ≤ 100) (now : Int) (fi vf : Bool) :
    pcall C0 Try.prog fu (d + 108) F_consent_Await [.sc (.int .i64 now), .sc (.bool fi), .sc (.bool vf), .lst false 2 l.length (encG l)] = some ⟨(awaitE now fi vf l).res, []⟩ := by
  rw [consent_Await_e]
  unfold awaitE
  by_cases h0 : now < 0
  · simp (disch := omega) only [nd_call, nd_nil, nd_cons, nd_bool, nd_str, nd_int, nd_any, nd_ls, nd_ow, nd_agg, nd_pbox, nd_opt, nd_share, nd_chk, nd_chkd, nd_chka, nd_brT, nd_brF, nd_brt, nd_brf, nd_both, Bool.not_true, Bool.not_false, Bool.false_eq_true, if_true, if_false, Bool.true_and, Bool.and_true, Bool.false_and, Bool.and_false, decide_true, decide_false, h0, Out4.res]
  by_cases h1 : 1099511627776 < now
  · simp (disch := omega) only [nd_call, nd_nil, nd_cons, nd_bool, nd_str, nd_int, nd_any, nd_ls, nd_ow, nd_agg, nd_pbox, nd_opt, nd_share, nd_chk, nd_chkd, nd_chka, nd_brT, nd_brF, nd_brt, nd_brf, nd_both, Bool.not_true, Bool.not_false, Bool.false_eq_true, if_true, if_false, Bool.true_and, Bool.and_true, Bool.false_and, Bool.and_false, decide_true, decide_false, h0, h1, gt_iff_lt, Out4.res]
  have ct := count_ex (fu := fu) (d := d) hfu hl now (by omega) (by omega)
  have hr := rowsG_le (endE now - now).toNat (now + 1) l
  cases fi <;> cases vf
  · have lp := await_loop (fu := fu) (d := d + 106) (a0 := now) (b1 := false) (b2 := false) (n := l.length) (c := encG l) (fi := false) (vf := false) (y5 := false) (y6 := false) (y7 := 0) (l := rowsG (now + 1) (endE now - now).toNat l) (by omega) _ fu 0 rfl (by simp only [List.drop_zero]; omega) (by omega)
    simp only [if_neg h0, if_neg h1, Bool.false_eq_true, false_and, if_false]
    simp (disch := omega) only [nd_call, nd_nil, nd_cons, nd_bool, nd_str, nd_int, nd_any, nd_ls, nd_ow, nd_agg, nd_pbox, nd_opt, nd_share, nd_chk, nd_chkd, nd_chka, nd_brT, nd_brF, nd_brt, nd_brf, nd_both, Bool.not_true, Bool.not_false, Bool.false_eq_true, if_true, if_false, Bool.true_and, Bool.and_true, Bool.false_and, Bool.and_false, decide_true, decide_false, gt_iff_lt, h0, h1, ct]
    exact lp
  · simp (disch := omega) only [nd_call, nd_nil, nd_cons, nd_bool, nd_str, nd_int, nd_any, nd_ls, nd_ow, nd_agg, nd_pbox, nd_opt, nd_share, nd_chk, nd_chkd, nd_chka, nd_brT, nd_brF, nd_brt, nd_brf, nd_both, Bool.not_true, Bool.not_false, Bool.false_eq_true, if_true, if_false, Bool.true_and, Bool.and_true, Bool.false_and, Bool.and_false, decide_true, decide_false, h0, h1, gt_iff_lt, Out4.res, and_self]
  · have lp := await_loop (fu := fu) (d := d + 106) (a0 := now) (b1 := true) (b2 := false) (n := l.length) (c := encG l) (fi := true) (vf := false) (y5 := false) (y6 := false) (y7 := 0) (l := rowsG (now + 1) (endE now - now).toNat l) (by omega) _ fu 0 rfl (by simp only [List.drop_zero]; omega) (by omega)
    simp only [if_neg h0, if_neg h1, Bool.false_eq_true, false_and, if_false]
    simp (disch := omega) only [nd_call, nd_nil, nd_cons, nd_bool, nd_str, nd_int, nd_any, nd_ls, nd_ow, nd_agg, nd_pbox, nd_opt, nd_share, nd_chk, nd_chkd, nd_chka, nd_brT, nd_brF, nd_brt, nd_brf, nd_both, Bool.not_true, Bool.not_false, Bool.false_eq_true, if_true, if_false, Bool.true_and, Bool.and_true, Bool.false_and, Bool.and_false, decide_true, decide_false, gt_iff_lt, h0, h1, ct]
    exact lp
  · have lp := await_loop (fu := fu) (d := d + 106) (a0 := now) (b1 := true) (b2 := true) (n := l.length) (c := encG l) (fi := true) (vf := true) (y5 := false) (y6 := false) (y7 := 0) (l := rowsG (now + 1) (endE now - now).toNat l) (by omega) _ fu 0 rfl (by simp only [List.drop_zero]; omega) (by omega)
    simp only [if_neg h0, if_neg h1, Bool.true_eq_false, and_false, if_false]
    simp (disch := omega) only [nd_call, nd_nil, nd_cons, nd_bool, nd_str, nd_int, nd_any, nd_ls, nd_ow, nd_agg, nd_pbox, nd_opt, nd_share, nd_chk, nd_chkd, nd_chka, nd_brT, nd_brF, nd_brt, nd_brf, nd_both, Bool.not_true, Bool.not_false, Bool.false_eq_true, if_true, if_false, Bool.true_and, Bool.and_true, Bool.false_and, Bool.and_false, decide_true, decide_false, gt_iff_lt, h0, h1, ct]
    exact lp

theorem ref_inner {call : Call'} {a0 now at' y9 : Int} {b1 b2 y7 y8 fi vf : Bool} {n m0 : Nat} {c : List PV} {l : List Ge} (hl : l.length ≤ 1000) (hat : 0 ≤ at') (hat' : at' ≤ 1099511627776) (hx : ¬ (vf = true ∧ fi = false)) : ∀ (r : List Ge) (nn i : Nat), l.drop i = r → r.length < nn → i ≤ l.length →
    passkeyref10_Await_L1 fu call a0 b1 b2 n c m0 nn now fi vf l.length (encG l) at' i y7 y8 y9 = match (r.filter (fun g => g.tm == at')).findSome? (decG fi vf) with
      | some o => some ⟨o.res, []⟩
      | none => passkeyref10_Await_L0 fu call a0 b1 b2 n c m0 now fi vf l.length (encG l) (at' + 1) y7 y8 y9
  | _, 0, _, _, h, _ => by omega
  | [], nn + 1, i, h, hn, hi => by
    have := drop_nil h
    have w : IntKind.wrap .i64 (at' + 1) = at' + 1 := wrap_i64 (by omega) (by omega)
    rw [passkeyref10_Await_L1_s, nd_brf _ _ _ (by omega)]
    simp only [nd_share, w, List.filter_nil, List.findSome?_nil]
  | ⟨tm, kd⟩ :: r, nn + 1, i, h, hn, hi => by
    obtain ⟨h1, h2, h3⟩ := drop_cons h
    simp only [List.length_cons] at hn
    have w : IntKind.wrap .i64 ((i : Int) + 1) = ((i + 1 : Nat) : Int) := by rw [wrap_i64 (by omega) (by omega)]; omega
    have ih := ref_inner (call := call) (a0 := a0) (now := now) (at' := at') (y9 := y9) (b1 := b1) (b2 := b2) (y7 := y7) (y8 := y8) (fi := fi) (vf := vf) (n := n) (m0 := m0) (c := c) hl hat hat' hx r nn (i + 1) h3 (by omega) (by omega)
    have g1 := gtm h2
    have g2 := gkd h2
    rw [Nat.zero_add] at g1 g2
    simp only at g1 g2
    by_cases ht : tm = at'
    · subst ht
      rw [List.filter_cons, if_pos (by simp), List.findSome?_cons]
      by_cases k1 : kd = 1
      · subst k1
        rw [passkeyref10_Await_L1_s]
        cases fi <;> cases vf
        · skip
          try unfold shareK
          repeat first
            | (with_reducible apply go_nil; · with_reducible rfl)
            | (with_reducible apply go_cons; · with_reducible rfl)
            | (with_reducible apply go_int; · first | with_reducible rfl | (simp (disch := omega) only [Int.toNat_natCast, Nat.add_zero, g1, g2, w]; done) | (simp (disch := omega) only [Int.toNat_natCast, Nat.add_zero, g1, g2, w]; with_reducible rfl))
            | (with_reducible apply go_bool; · first | with_reducible rfl | (simp (disch := omega) only [Int.toNat_natCast, Nat.add_zero, g1, g2, w]; done) | (simp (disch := omega) only [Int.toNat_natCast, Nat.add_zero, g1, g2, w]; with_reducible rfl))
            | (with_reducible apply go_str; · first | with_reducible rfl | (simp (disch := omega) only [Int.toNat_natCast, Nat.add_zero, g1, g2, w]; done) | (simp (disch := omega) only [Int.toNat_natCast, Nat.add_zero, g1, g2, w]; with_reducible rfl))
            | (with_reducible apply go_any; · first | with_reducible rfl | (simp (disch := omega) only [Int.toNat_natCast, Nat.add_zero, g1, g2, w]; done) | (simp (disch := omega) only [Int.toNat_natCast, Nat.add_zero, g1, g2, w]; with_reducible rfl))
            | (with_reducible apply go_ow; · first | with_reducible rfl | (simp (disch := omega) only [Int.toNat_natCast, Nat.add_zero, g1, g2, w]; done) | (simp (disch := omega) only [Int.toNat_natCast, Nat.add_zero, g1, g2, w]; with_reducible rfl))
            | (with_reducible apply go_ls; · first | with_reducible rfl | (simp (disch := omega) only [Int.toNat_natCast, Nat.add_zero, g1, g2, w]; done) | (simp (disch := omega) only [Int.toNat_natCast, Nat.add_zero, g1, g2, w]; with_reducible rfl))
            | (with_reducible apply go_agg; · first | with_reducible rfl | (simp (disch := omega) only [Int.toNat_natCast, Nat.add_zero, g1, g2, w]; done) | (simp (disch := omega) only [Int.toNat_natCast, Nat.add_zero, g1, g2, w]; with_reducible rfl))
            | (with_reducible apply go_pbox; · first | with_reducible rfl | (simp (disch := omega) only [Int.toNat_natCast, Nat.add_zero, g1, g2, w]; done) | (simp (disch := omega) only [Int.toNat_natCast, Nat.add_zero, g1, g2, w]; with_reducible rfl))
            | (with_reducible apply go_opt; · first | with_reducible rfl | (simp (disch := omega) only [Int.toNat_natCast, Nat.add_zero, g1, g2, w]; done) | (simp (disch := omega) only [Int.toNat_natCast, Nat.add_zero, g1, g2, w]; with_reducible rfl))
            | (with_reducible apply go_chk; · first | with_reducible rfl | omega | (simp (disch := omega) only [Bool.and_eq_true, decide_eq_true_eq, beq_iff_eq, bne_iff_ne, Bool.not_eq_true', true_and, and_true, Int.toNat_natCast, Nat.add_zero, g1, g2, w]; done) | (simp (disch := omega) only [Bool.and_eq_true, decide_eq_true_eq, beq_iff_eq, bne_iff_ne, ne_eq, Bool.not_eq_true', true_and, and_true, Int.toNat_natCast, Nat.add_zero, g1, g2, w] <;> omega))
            | (with_reducible apply go_call; · first | with_reducible rfl | (simp (disch := omega) only [Int.toNat_natCast, Nat.add_zero, g1, g2, w]; done) | (simp (disch := omega) only [Int.toNat_natCast, Nat.add_zero, g1, g2, w]; with_reducible rfl))
            | (with_reducible apply go_brT; · first | with_reducible rfl | omega | (simp (disch := omega) only [Bool.and_eq_true, decide_eq_true_eq, beq_iff_eq, bne_iff_ne, Bool.not_eq_true', true_and, and_true, Int.toNat_natCast, Nat.add_zero, g1, g2, w]; done) | (simp (disch := omega) only [Bool.and_eq_true, decide_eq_true_eq, beq_iff_eq, bne_iff_ne, ne_eq, Bool.not_eq_true', true_and, and_true, Int.toNat_natCast, Nat.add_zero, g1, g2, w] <;> omega))
            | (with_reducible apply go_brF; · first | with_reducible rfl | (simp (disch := omega) only [decide_eq_false_iff_not, beq_eq_false_iff_ne, bne_eq_false_iff_eq, Bool.not_eq_false', Int.toNat_natCast, Nat.add_zero, g1, g2, w]; done) | (simp (disch := omega) only [decide_eq_false_iff_not, beq_eq_false_iff_ne, bne_eq_false_iff_eq, ne_eq, Bool.not_eq_false', Int.toNat_natCast, Nat.add_zero, g1, g2, w] <;> omega))
          try simp (disch := omega) only [Int.toNat_natCast, Nat.add_zero, g1, g2, w]
          rfl
        · skip
          try unfold shareK
          repeat first
            | (with_reducible apply go_nil; · with_reducible rfl)
            | (with_reducible apply go_cons; · with_reducible rfl)
            | (with_reducible apply go_int; · first | with_reducible rfl | (simp (disch := omega) only [Int.toNat_natCast, Nat.add_zero, g1, g2, w]; done) | (simp (disch := omega) only [Int.toNat_natCast, Nat.add_zero, g1, g2, w]; with_reducible rfl))
            | (with_reducible apply go_bool; · first | with_reducible rfl | (simp (disch := omega) only [Int.toNat_natCast, Nat.add_zero, g1, g2, w]; done) | (simp (disch := omega) only [Int.toNat_natCast, Nat.add_zero, g1, g2, w]; with_reducible rfl))
            | (with_reducible apply go_str; · first | with_reducible rfl | (simp (disch := omega) only [Int.toNat_natCast, Nat.add_zero, g1, g2, w]; done) | (simp (disch := omega) only [Int.toNat_natCast, Nat.add_zero, g1, g2, w]; with_reducible rfl))
            | (with_reducible apply go_any; · first | with_reducible rfl | (simp (disch := omega) only [Int.toNat_natCast, Nat.add_zero, g1, g2, w]; done) | (simp (disch := omega) only [Int.toNat_natCast, Nat.add_zero, g1, g2, w]; with_reducible rfl))
            | (with_reducible apply go_ow; · first | with_reducible rfl | (simp (disch := omega) only [Int.toNat_natCast, Nat.add_zero, g1, g2, w]; done) | (simp (disch := omega) only [Int.toNat_natCast, Nat.add_zero, g1, g2, w]; with_reducible rfl))
            | (with_reducible apply go_ls; · first | with_reducible rfl | (simp (disch := omega) only [Int.toNat_natCast, Nat.add_zero, g1, g2, w]; done) | (simp (disch := omega) only [Int.toNat_natCast, Nat.add_zero, g1, g2, w]; with_reducible rfl))
            | (with_reducible apply go_agg; · first | with_reducible rfl | (simp (disch := omega) only [Int.toNat_natCast, Nat.add_zero, g1, g2, w]; done) | (simp (disch := omega) only [Int.toNat_natCast, Nat.add_zero, g1, g2, w]; with_reducible rfl))
            | (with_reducible apply go_pbox; · first | with_reducible rfl | (simp (disch := omega) only [Int.toNat_natCast, Nat.add_zero, g1, g2, w]; done) | (simp (disch := omega) only [Int.toNat_natCast, Nat.add_zero, g1, g2, w]; with_reducible rfl))
            | (with_reducible apply go_opt; · first | with_reducible rfl | (simp (disch := omega) only [Int.toNat_natCast, Nat.add_zero, g1, g2, w]; done) | (simp (disch := omega) only [Int.toNat_natCast, Nat.add_zero, g1, g2, w]; with_reducible rfl))
            | (with_reducible apply go_chk; · first | with_reducible rfl | omega | (simp (disch := omega) only [Bool.and_eq_true, decide_eq_true_eq, beq_iff_eq, bne_iff_ne, Bool.not_eq_true', true_and, and_true, Int.toNat_natCast, Nat.add_zero, g1, g2, w]; done) | (simp (disch := omega) only [Bool.and_eq_true, decide_eq_true_eq, beq_iff_eq, bne_iff_ne, ne_eq, Bool.not_eq_true', true_and, and_true, Int.toNat_natCast, Nat.add_zero, g1, g2, w] <;> omega))
            | (with_reducible apply go_call; · first | with_reducible rfl | (simp (disch := omega) only [Int.toNat_natCast, Nat.add_zero, g1, g2, w]; done) | (simp (disch := omega) only [Int.toNat_natCast, Nat.add_zero, g1, g2, w]; with_reducible rfl))
            | (with_reducible apply go_brT; · first | with_reducible rfl | omega | (simp (disch := omega) only [Bool.and_eq_true, decide_eq_true_eq, beq_iff_eq, bne_iff_ne, Bool.not_eq_true', true_and, and_true, Int.toNat_natCast, Nat.add_zero, g1, g2, w]; done) | (simp (disch := omega) only [Bool.and_eq_true, decide_eq_true_eq, beq_iff_eq, bne_iff_ne, ne_eq, Bool.not_eq_true', true_and, and_true, Int.toNat_natCast, Nat.add_zero, g1, g2, w] <;> omega))
            | (with_reducible apply go_brF; · first | with_reducible rfl | (simp (disch := omega) only [decide_eq_false_iff_not, beq_eq_false_iff_ne, bne_eq_false_iff_eq, Bool.not_eq_false', Int.toNat_natCast, Nat.add_zero, g1, g2, w]; done) | (simp (disch := omega) only [decide_eq_false_iff_not, beq_eq_false_iff_ne, bne_eq_false_iff_eq, ne_eq, Bool.not_eq_false', Int.toNat_natCast, Nat.add_zero, g1, g2, w] <;> omega))
          try simp (disch := omega) only [Int.toNat_natCast, Nat.add_zero, g1, g2, w]
          exact ih
        · skip
          try unfold shareK
          repeat first
            | (with_reducible apply go_nil; · with_reducible rfl)
            | (with_reducible apply go_cons; · with_reducible rfl)
            | (with_reducible apply go_int; · first | with_reducible rfl | (simp (disch := omega) only [Int.toNat_natCast, Nat.add_zero, g1, g2, w]; done) | (simp (disch := omega) only [Int.toNat_natCast, Nat.add_zero, g1, g2, w]; with_reducible rfl))
            | (with_reducible apply go_bool; · first | with_reducible rfl | (simp (disch := omega) only [Int.toNat_natCast, Nat.add_zero, g1, g2, w]; done) | (simp (disch := omega) only [Int.toNat_natCast, Nat.add_zero, g1, g2, w]; with_reducible rfl))
            | (with_reducible apply go_str; · first | with_reducible rfl | (simp (disch := omega) only [Int.toNat_natCast, Nat.add_zero, g1, g2, w]; done) | (simp (disch := omega) only [Int.toNat_natCast, Nat.add_zero, g1, g2, w]; with_reducible rfl))
            | (with_reducible apply go_any; · first | with_reducible rfl | (simp (disch := omega) only [Int.toNat_natCast, Nat.add_zero, g1, g2, w]; done) | (simp (disch := omega) only [Int.toNat_natCast, Nat.add_zero, g1, g2, w]; with_reducible rfl))
            | (with_reducible apply go_ow; · first | with_reducible rfl | (simp (disch := omega) only [Int.toNat_natCast, Nat.add_zero, g1, g2, w]; done) | (simp (disch := omega) only [Int.toNat_natCast, Nat.add_zero, g1, g2, w]; with_reducible rfl))
            | (with_reducible apply go_ls; · first | with_reducible rfl | (simp (disch := omega) only [Int.toNat_natCast, Nat.add_zero, g1, g2, w]; done) | (simp (disch := omega) only [Int.toNat_natCast, Nat.add_zero, g1, g2, w]; with_reducible rfl))
            | (with_reducible apply go_agg; · first | with_reducible rfl | (simp (disch := omega) only [Int.toNat_natCast, Nat.add_zero, g1, g2, w]; done) | (simp (disch := omega) only [Int.toNat_natCast, Nat.add_zero, g1, g2, w]; with_reducible rfl))
            | (with_reducible apply go_pbox; · first | with_reducible rfl | (simp (disch := omega) only [Int.toNat_natCast, Nat.add_zero, g1, g2, w]; done) | (simp (disch := omega) only [Int.toNat_natCast, Nat.add_zero, g1, g2, w]; with_reducible rfl))
            | (with_reducible apply go_opt; · first | with_reducible rfl | (simp (disch := omega) only [Int.toNat_natCast, Nat.add_zero, g1, g2, w]; done) | (simp (disch := omega) only [Int.toNat_natCast, Nat.add_zero, g1, g2, w]; with_reducible rfl))
            | (with_reducible apply go_chk; · first | with_reducible rfl | omega | (simp (disch := omega) only [Bool.and_eq_true, decide_eq_true_eq, beq_iff_eq, bne_iff_ne, Bool.not_eq_true', true_and, and_true, Int.toNat_natCast, Nat.add_zero, g1, g2, w]; done) | (simp (disch := omega) only [Bool.and_eq_true, decide_eq_true_eq, beq_iff_eq, bne_iff_ne, ne_eq, Bool.not_eq_true', true_and, and_true, Int.toNat_natCast, Nat.add_zero, g1, g2, w] <;> omega))
            | (with_reducible apply go_call; · first | with_reducible rfl | (simp (disch := omega) only [Int.toNat_natCast, Nat.add_zero, g1, g2, w]; done) | (simp (disch := omega) only [Int.toNat_natCast, Nat.add_zero, g1, g2, w]; with_reducible rfl))
            | (with_reducible apply go_brT; · first | with_reducible rfl | omega | (simp (disch := omega) only [Bool.and_eq_true, decide_eq_true_eq, beq_iff_eq, bne_iff_ne, Bool.not_eq_true', true_and, and_true, Int.toNat_natCast, Nat.add_zero, g1, g2, w]; done) | (simp (disch := omega) only [Bool.and_eq_true, decide_eq_true_eq, beq_iff_eq, bne_iff_ne, ne_eq, Bool.not_eq_true', true_and, and_true, Int.toNat_natCast, Nat.add_zero, g1, g2, w] <;> omega))
            | (with_reducible apply go_brF; · first | with_reducible rfl | (simp (disch := omega) only [decide_eq_false_iff_not, beq_eq_false_iff_ne, bne_eq_false_iff_eq, Bool.not_eq_false', Int.toNat_natCast, Nat.add_zero, g1, g2, w]; done) | (simp (disch := omega) only [decide_eq_false_iff_not, beq_eq_false_iff_ne, bne_eq_false_iff_eq, ne_eq, Bool.not_eq_false', Int.toNat_natCast, Nat.add_zero, g1, g2, w] <;> omega))
          try simp (disch := omega) only [Int.toNat_natCast, Nat.add_zero, g1, g2, w]
          rfl
        · skip
          try unfold shareK
          repeat first
            | (with_reducible apply go_nil; · with_reducible rfl)
            | (with_reducible apply go_cons; · with_reducible rfl)
            | (with_reducible apply go_int; · first | with_reducible rfl | (simp (disch := omega) only [Int.toNat_natCast, Nat.add_zero, g1, g2, w]; done) | (simp (disch := omega) only [Int.toNat_natCast, Nat.add_zero, g1, g2, w]; with_reducible rfl))
            | (with_reducible apply go_bool; · first | with_reducible rfl | (simp (disch := omega) only [Int.toNat_natCast, Nat.add_zero, g1, g2, w]; done) | (simp (disch := omega) only [Int.toNat_natCast, Nat.add_zero, g1, g2, w]; with_reducible rfl))
            | (with_reducible apply go_str; · first | with_reducible rfl | (simp (disch := omega) only [Int.toNat_natCast, Nat.add_zero, g1, g2, w]; done) | (simp (disch := omega) only [Int.toNat_natCast, Nat.add_zero, g1, g2, w]; with_reducible rfl))
            | (with_reducible apply go_any; · first | with_reducible rfl | (simp (disch := omega) only [Int.toNat_natCast, Nat.add_zero, g1, g2, w]; done) | (simp (disch := omega) only [Int.toNat_natCast, Nat.add_zero, g1, g2, w]; with_reducible rfl))
            | (with_reducible apply go_ow; · first | with_reducible rfl | (simp (disch := omega) only [Int.toNat_natCast, Nat.add_zero, g1, g2, w]; done) | (simp (disch := omega) only [Int.toNat_natCast, Nat.add_zero, g1, g2, w]; with_reducible rfl))
            | (with_reducible apply go_ls; · first | with_reducible rfl | (simp (disch := omega) only [Int.toNat_natCast, Nat.add_zero, g1, g2, w]; done) | (simp (disch := omega) only [Int.toNat_natCast, Nat.add_zero, g1, g2, w]; with_reducible rfl))
            | (with_reducible apply go_agg; · first | with_reducible rfl | (simp (disch := omega) only [Int.toNat_natCast, Nat.add_zero, g1, g2, w]; done) | (simp (disch := omega) only [Int.toNat_natCast, Nat.add_zero, g1, g2, w]; with_reducible rfl))
            | (with_reducible apply go_pbox; · first | with_reducible rfl | (simp (disch := omega) only [Int.toNat_natCast, Nat.add_zero, g1, g2, w]; done) | (simp (disch := omega) only [Int.toNat_natCast, Nat.add_zero, g1, g2, w]; with_reducible rfl))
            | (with_reducible apply go_opt; · first | with_reducible rfl | (simp (disch := omega) only [Int.toNat_natCast, Nat.add_zero, g1, g2, w]; done) | (simp (disch := omega) only [Int.toNat_natCast, Nat.add_zero, g1, g2, w]; with_reducible rfl))
            | (with_reducible apply go_chk; · first | with_reducible rfl | omega | (simp (disch := omega) only [Bool.and_eq_true, decide_eq_true_eq, beq_iff_eq, bne_iff_ne, Bool.not_eq_true', true_and, and_true, Int.toNat_natCast, Nat.add_zero, g1, g2, w]; done) | (simp (disch := omega) only [Bool.and_eq_true, decide_eq_true_eq, beq_iff_eq, bne_iff_ne, ne_eq, Bool.not_eq_true', true_and, and_true, Int.toNat_natCast, Nat.add_zero, g1, g2, w] <;> omega))
            | (with_reducible apply go_call; · first | with_reducible rfl | (simp (disch := omega) only [Int.toNat_natCast, Nat.add_zero, g1, g2, w]; done) | (simp (disch := omega) only [Int.toNat_natCast, Nat.add_zero, g1, g2, w]; with_reducible rfl))
            | (with_reducible apply go_brT; · first | with_reducible rfl | omega | (simp (disch := omega) only [Bool.and_eq_true, decide_eq_true_eq, beq_iff_eq, bne_iff_ne, Bool.not_eq_true', true_and, and_true, Int.toNat_natCast, Nat.add_zero, g1, g2, w]; done) | (simp (disch := omega) only [Bool.and_eq_true, decide_eq_true_eq, beq_iff_eq, bne_iff_ne, ne_eq, Bool.not_eq_true', true_and, and_true, Int.toNat_natCast, Nat.add_zero, g1, g2, w] <;> omega))
            | (with_reducible apply go_brF; · first | with_reducible rfl | (simp (disch := omega) only [decide_eq_false_iff_not, beq_eq_false_iff_ne, bne_eq_false_iff_eq, Bool.not_eq_false', Int.toNat_natCast, Nat.add_zero, g1, g2, w]; done) | (simp (disch := omega) only [decide_eq_false_iff_not, beq_eq_false_iff_ne, bne_eq_false_iff_eq, ne_eq, Bool.not_eq_false', Int.toNat_natCast, Nat.add_zero, g1, g2, w] <;> omega))
          try simp (disch := omega) only [Int.toNat_natCast, Nat.add_zero, g1, g2, w]
          exact ih
      by_cases k2 : kd = 2
      · subst k2
        rw [passkeyref10_Await_L1_s]
        cases fi <;> cases vf
        · skip
          try unfold shareK
          repeat first
            | (with_reducible apply go_nil; · with_reducible rfl)
            | (with_reducible apply go_cons; · with_reducible rfl)
            | (with_reducible apply go_int; · first | with_reducible rfl | (simp (disch := omega) only [Int.toNat_natCast, Nat.add_zero, g1, g2, w]; done) | (simp (disch := omega) only [Int.toNat_natCast, Nat.add_zero, g1, g2, w]; with_reducible rfl))
            | (with_reducible apply go_bool; · first | with_reducible rfl | (simp (disch := omega) only [Int.toNat_natCast, Nat.add_zero, g1, g2, w]; done) | (simp (disch := omega) only [Int.toNat_natCast, Nat.add_zero, g1, g2, w]; with_reducible rfl))
            | (with_reducible apply go_str; · first | with_reducible rfl | (simp (disch := omega) only [Int.toNat_natCast, Nat.add_zero, g1, g2, w]; done) | (simp (disch := omega) only [Int.toNat_natCast, Nat.add_zero, g1, g2, w]; with_reducible rfl))
            | (with_reducible apply go_any; · first | with_reducible rfl | (simp (disch := omega) only [Int.toNat_natCast, Nat.add_zero, g1, g2, w]; done) | (simp (disch := omega) only [Int.toNat_natCast, Nat.add_zero, g1, g2, w]; with_reducible rfl))
            | (with_reducible apply go_ow; · first | with_reducible rfl | (simp (disch := omega) only [Int.toNat_natCast, Nat.add_zero, g1, g2, w]; done) | (simp (disch := omega) only [Int.toNat_natCast, Nat.add_zero, g1, g2, w]; with_reducible rfl))
            | (with_reducible apply go_ls; · first | with_reducible rfl | (simp (disch := omega) only [Int.toNat_natCast, Nat.add_zero, g1, g2, w]; done) | (simp (disch := omega) only [Int.toNat_natCast, Nat.add_zero, g1, g2, w]; with_reducible rfl))
            | (with_reducible apply go_agg; · first | with_reducible rfl | (simp (disch := omega) only [Int.toNat_natCast, Nat.add_zero, g1, g2, w]; done) | (simp (disch := omega) only [Int.toNat_natCast, Nat.add_zero, g1, g2, w]; with_reducible rfl))
            | (with_reducible apply go_pbox; · first | with_reducible rfl | (simp (disch := omega) only [Int.toNat_natCast, Nat.add_zero, g1, g2, w]; done) | (simp (disch := omega) only [Int.toNat_natCast, Nat.add_zero, g1, g2, w]; with_reducible rfl))
            | (with_reducible apply go_opt; · first | with_reducible rfl | (simp (disch := omega) only [Int.toNat_natCast, Nat.add_zero, g1, g2, w]; done) | (simp (disch := omega) only [Int.toNat_natCast, Nat.add_zero, g1, g2, w]; with_reducible rfl))
            | (with_reducible apply go_chk; · first | with_reducible rfl | omega | (simp (disch := omega) only [Bool.and_eq_true, decide_eq_true_eq, beq_iff_eq, bne_iff_ne, Bool.not_eq_true', true_and, and_true, Int.toNat_natCast, Nat.add_zero, g1, g2, w]; done) | (simp (disch := omega) only [Bool.and_eq_true, decide_eq_true_eq, beq_iff_eq, bne_iff_ne, ne_eq, Bool.not_eq_true', true_and, and_true, Int.toNat_natCast, Nat.add_zero, g1, g2, w] <;> omega))
            | (with_reducible apply go_call; · first | with_reducible rfl | (simp (disch := omega) only [Int.toNat_natCast, Nat.add_zero, g1, g2, w]; done) | (simp (disch := omega) only [Int.toNat_natCast, Nat.add_zero, g1, g2, w]; with_reducible rfl))
            | (with_reducible apply go_brT; · first | with_reducible rfl | omega | (simp (disch := omega) only [Bool.and_eq_true, decide_eq_true_eq, beq_iff_eq, bne_iff_ne, Bool.not_eq_true', true_and, and_true, Int.toNat_natCast, Nat.add_zero, g1, g2, w]; done) | (simp (disch := omega) only [Bool.and_eq_true, decide_eq_true_eq, beq_iff_eq, bne_iff_ne, ne_eq, Bool.not_eq_true', true_and, and_true, Int.toNat_natCast, Nat.add_zero, g1, g2, w] <;> omega))
            | (with_reducible apply go_brF; · first | with_reducible rfl | (simp (disch := omega) only [decide_eq_false_iff_not, beq_eq_false_iff_ne, bne_eq_false_iff_eq, Bool.not_eq_false', Int.toNat_natCast, Nat.add_zero, g1, g2, w]; done) | (simp (disch := omega) only [decide_eq_false_iff_not, beq_eq_false_iff_ne, bne_eq_false_iff_eq, ne_eq, Bool.not_eq_false', Int.toNat_natCast, Nat.add_zero, g1, g2, w] <;> omega))
          try simp (disch := omega) only [Int.toNat_natCast, Nat.add_zero, g1, g2, w]
          rfl
        · exact absurd ⟨rfl, rfl⟩ hx
        · skip
          try unfold shareK
          repeat first
            | (with_reducible apply go_nil; · with_reducible rfl)
            | (with_reducible apply go_cons; · with_reducible rfl)
            | (with_reducible apply go_int; · first | with_reducible rfl | (simp (disch := omega) only [Int.toNat_natCast, Nat.add_zero, g1, g2, w]; done) | (simp (disch := omega) only [Int.toNat_natCast, Nat.add_zero, g1, g2, w]; with_reducible rfl))
            | (with_reducible apply go_bool; · first | with_reducible rfl | (simp (disch := omega) only [Int.toNat_natCast, Nat.add_zero, g1, g2, w]; done) | (simp (disch := omega) only [Int.toNat_natCast, Nat.add_zero, g1, g2, w]; with_reducible rfl))
            | (with_reducible apply go_str; · first | with_reducible rfl | (simp (disch := omega) only [Int.toNat_natCast, Nat.add_zero, g1, g2, w]; done) | (simp (disch := omega) only [Int.toNat_natCast, Nat.add_zero, g1, g2, w]; with_reducible rfl))
            | (with_reducible apply go_any; · first | with_reducible rfl | (simp (disch := omega) only [Int.toNat_natCast, Nat.add_zero, g1, g2, w]; done) | (simp (disch := omega) only [Int.toNat_natCast, Nat.add_zero, g1, g2, w]; with_reducible rfl))
            | (with_reducible apply go_ow; · first | with_reducible rfl | (simp (disch := omega) only [Int.toNat_natCast, Nat.add_zero, g1, g2, w]; done) | (simp (disch := omega) only [Int.toNat_natCast, Nat.add_zero, g1, g2, w]; with_reducible rfl))
            | (with_reducible apply go_ls; · first | with_reducible rfl | (simp (disch := omega) only [Int.toNat_natCast, Nat.add_zero, g1, g2, w]; done) | (simp (disch := omega) only [Int.toNat_natCast, Nat.add_zero, g1, g2, w]; with_reducible rfl))
            | (with_reducible apply go_agg; · first | with_reducible rfl | (simp (disch := omega) only [Int.toNat_natCast, Nat.add_zero, g1, g2, w]; done) | (simp (disch := omega) only [Int.toNat_natCast, Nat.add_zero, g1, g2, w]; with_reducible rfl))
            | (with_reducible apply go_pbox; · first | with_reducible rfl | (simp (disch := omega) only [Int.toNat_natCast, Nat.add_zero, g1, g2, w]; done) | (simp (disch := omega) only [Int.toNat_natCast, Nat.add_zero, g1, g2, w]; with_reducible rfl))
            | (with_reducible apply go_opt; · first | with_reducible rfl | (simp (disch := omega) only [Int.toNat_natCast, Nat.add_zero, g1, g2, w]; done) | (simp (disch := omega) only [Int.toNat_natCast, Nat.add_zero, g1, g2, w]; with_reducible rfl))
            | (with_reducible apply go_chk; · first | with_reducible rfl | omega | (simp (disch := omega) only [Bool.and_eq_true, decide_eq_true_eq, beq_iff_eq, bne_iff_ne, Bool.not_eq_true', true_and, and_true, Int.toNat_natCast, Nat.add_zero, g1, g2, w]; done) | (simp (disch := omega) only [Bool.and_eq_true, decide_eq_true_eq, beq_iff_eq, bne_iff_ne, ne_eq, Bool.not_eq_true', true_and, and_true, Int.toNat_natCast, Nat.add_zero, g1, g2, w] <;> omega))
            | (with_reducible apply go_call; · first | with_reducible rfl | (simp (disch := omega) only [Int.toNat_natCast, Nat.add_zero, g1, g2, w]; done) | (simp (disch := omega) only [Int.toNat_natCast, Nat.add_zero, g1, g2, w]; with_reducible rfl))
            | (with_reducible apply go_brT; · first | with_reducible rfl | omega | (simp (disch := omega) only [Bool.and_eq_true, decide_eq_true_eq, beq_iff_eq, bne_iff_ne, Bool.not_eq_true', true_and, and_true, Int.toNat_natCast, Nat.add_zero, g1, g2, w]; done) | (simp (disch := omega) only [Bool.and_eq_true, decide_eq_true_eq, beq_iff_eq, bne_iff_ne, ne_eq, Bool.not_eq_true', true_and, and_true, Int.toNat_natCast, Nat.add_zero, g1, g2, w] <;> omega))
            | (with_reducible apply go_brF; · first | with_reducible rfl | (simp (disch := omega) only [decide_eq_false_iff_not, beq_eq_false_iff_ne, bne_eq_false_iff_eq, Bool.not_eq_false', Int.toNat_natCast, Nat.add_zero, g1, g2, w]; done) | (simp (disch := omega) only [decide_eq_false_iff_not, beq_eq_false_iff_ne, bne_eq_false_iff_eq, ne_eq, Bool.not_eq_false', Int.toNat_natCast, Nat.add_zero, g1, g2, w] <;> omega))
          try simp (disch := omega) only [Int.toNat_natCast, Nat.add_zero, g1, g2, w]
          rfl
        · skip
          try unfold shareK
          repeat first
            | (with_reducible apply go_nil; · with_reducible rfl)
            | (with_reducible apply go_cons; · with_reducible rfl)
            | (with_reducible apply go_int; · first | with_reducible rfl | (simp (disch := omega) only [Int.toNat_natCast, Nat.add_zero, g1, g2, w]; done) | (simp (disch := omega) only [Int.toNat_natCast, Nat.add_zero, g1, g2, w]; with_reducible rfl))
            | (with_reducible apply go_bool; · first | with_reducible rfl | (simp (disch := omega) only [Int.toNat_natCast, Nat.add_zero, g1, g2, w]; done) | (simp (disch := omega) only [Int.toNat_natCast, Nat.add_zero, g1, g2, w]; with_reducible rfl))
            | (with_reducible apply go_str; · first | with_reducible rfl | (simp (disch := omega) only [Int.toNat_natCast, Nat.add_zero, g1, g2, w]; done) | (simp (disch := omega) only [Int.toNat_natCast, Nat.add_zero, g1, g2, w]; with_reducible rfl))
            | (with_reducible apply go_any; · first | with_reducible rfl | (simp (disch := omega) only [Int.toNat_natCast, Nat.add_zero, g1, g2, w]; done) | (simp (disch := omega) only [Int.toNat_natCast, Nat.add_zero, g1, g2, w]; with_reducible rfl))
            | (with_reducible apply go_ow; · first | with_reducible rfl | (simp (disch := omega) only [Int.toNat_natCast, Nat.add_zero, g1, g2, w]; done) | (simp (disch := omega) only [Int.toNat_natCast, Nat.add_zero, g1, g2, w]; with_reducible rfl))
            | (with_reducible apply go_ls; · first | with_reducible rfl | (simp (disch := omega) only [Int.toNat_natCast, Nat.add_zero, g1, g2, w]; done) | (simp (disch := omega) only [Int.toNat_natCast, Nat.add_zero, g1, g2, w]; with_reducible rfl))
            | (with_reducible apply go_agg; · first | with_reducible rfl | (simp (disch := omega) only [Int.toNat_natCast, Nat.add_zero, g1, g2, w]; done) | (simp (disch := omega) only [Int.toNat_natCast, Nat.add_zero, g1, g2, w]; with_reducible rfl))
            | (with_reducible apply go_pbox; · first | with_reducible rfl | (simp (disch := omega) only [Int.toNat_natCast, Nat.add_zero, g1, g2, w]; done) | (simp (disch := omega) only [Int.toNat_natCast, Nat.add_zero, g1, g2, w]; with_reducible rfl))
            | (with_reducible apply go_opt; · first | with_reducible rfl | (simp (disch := omega) only [Int.toNat_natCast, Nat.add_zero, g1, g2, w]; done) | (simp (disch := omega) only [Int.toNat_natCast, Nat.add_zero, g1, g2, w]; with_reducible rfl))
            | (with_reducible apply go_chk; · first | with_reducible rfl | omega | (simp (disch := omega) only [Bool.and_eq_true, decide_eq_true_eq, beq_iff_eq, bne_iff_ne, Bool.not_eq_true', true_and, and_true, Int.toNat_natCast, Nat.add_zero, g1, g2, w]; done) | (simp (disch := omega) only [Bool.and_eq_true, decide_eq_true_eq, beq_iff_eq, bne_iff_ne, ne_eq, Bool.not_eq_true', true_and, and_true, Int.toNat_natCast, Nat.add_zero, g1, g2, w] <;> omega))
            | (with_reducible apply go_call; · first | with_reducible rfl | (simp (disch := omega) only [Int.toNat_natCast, Nat.add_zero, g1, g2, w]; done) | (simp (disch := omega) only [Int.toNat_natCast, Nat.add_zero, g1, g2, w]; with_reducible rfl))
            | (with_reducible apply go_brT; · first | with_reducible rfl | omega | (simp (disch := omega) only [Bool.and_eq_true, decide_eq_true_eq, beq_iff_eq, bne_iff_ne, Bool.not_eq_true', true_and, and_true, Int.toNat_natCast, Nat.add_zero, g1, g2, w]; done) | (simp (disch := omega) only [Bool.and_eq_true, decide_eq_true_eq, beq_iff_eq, bne_iff_ne, ne_eq, Bool.not_eq_true', true_and, and_true, Int.toNat_natCast, Nat.add_zero, g1, g2, w] <;> omega))
            | (with_reducible apply go_brF; · first | with_reducible rfl | (simp (disch := omega) only [decide_eq_false_iff_not, beq_eq_false_iff_ne, bne_eq_false_iff_eq, Bool.not_eq_false', Int.toNat_natCast, Nat.add_zero, g1, g2, w]; done) | (simp (disch := omega) only [decide_eq_false_iff_not, beq_eq_false_iff_ne, bne_eq_false_iff_eq, ne_eq, Bool.not_eq_false', Int.toNat_natCast, Nat.add_zero, g1, g2, w] <;> omega))
          try simp (disch := omega) only [Int.toNat_natCast, Nat.add_zero, g1, g2, w]
          rfl
      by_cases k3 : kd = 3
      · subst k3
        rw [passkeyref10_Await_L1_s]
        cases fi <;> cases vf
        · skip
          try unfold shareK
          repeat first
            | (with_reducible apply go_nil; · with_reducible rfl)
            | (with_reducible apply go_cons; · with_reducible rfl)
            | (with_reducible apply go_int; · first | with_reducible rfl | (simp (disch := omega) only [Int.toNat_natCast, Nat.add_zero, g1, g2, w]; done) | (simp (disch := omega) only [Int.toNat_natCast, Nat.add_zero, g1, g2, w]; with_reducible rfl))
            | (with_reducible apply go_bool; · first | with_reducible rfl | (simp (disch := omega) only [Int.toNat_natCast, Nat.add_zero, g1, g2, w]; done) | (simp (disch := omega) only [Int.toNat_natCast, Nat.add_zero, g1, g2, w]; with_reducible rfl))
            | (with_reducible apply go_str; · first | with_reducible rfl | (simp (disch := omega) only [Int.toNat_natCast, Nat.add_zero, g1, g2, w]; done) | (simp (disch := omega) only [Int.toNat_natCast, Nat.add_zero, g1, g2, w]; with_reducible rfl))
            | (with_reducible apply go_any; · first | with_reducible rfl | (simp (disch := omega) only [Int.toNat_natCast, Nat.add_zero, g1, g2, w]; done) | (simp (disch := omega) only [Int.toNat_natCast, Nat.add_zero, g1, g2, w]; with_reducible rfl))
            | (with_reducible apply go_ow; · first | with_reducible rfl | (simp (disch := omega) only [Int.toNat_natCast, Nat.add_zero, g1, g2, w]; done) | (simp (disch := omega) only [Int.toNat_natCast, Nat.add_zero, g1, g2, w]; with_reducible rfl))
            | (with_reducible apply go_ls; · first | with_reducible rfl | (simp (disch := omega) only [Int.toNat_natCast, Nat.add_zero, g1, g2, w]; done) | (simp (disch := omega) only [Int.toNat_natCast, Nat.add_zero, g1, g2, w]; with_reducible rfl))
            | (with_reducible apply go_agg; · first | with_reducible rfl | (simp (disch := omega) only [Int.toNat_natCast, Nat.add_zero, g1, g2, w]; done) | (simp (disch := omega) only [Int.toNat_natCast, Nat.add_zero, g1, g2, w]; with_reducible rfl))
            | (with_reducible apply go_pbox; · first | with_reducible rfl | (simp (disch := omega) only [Int.toNat_natCast, Nat.add_zero, g1, g2, w]; done) | (simp (disch := omega) only [Int.toNat_natCast, Nat.add_zero, g1, g2, w]; with_reducible rfl))
            | (with_reducible apply go_opt; · first | with_reducible rfl | (simp (disch := omega) only [Int.toNat_natCast, Nat.add_zero, g1, g2, w]; done) | (simp (disch := omega) only [Int.toNat_natCast, Nat.add_zero, g1, g2, w]; with_reducible rfl))
            | (with_reducible apply go_chk; · first | with_reducible rfl | omega | (simp (disch := omega) only [Bool.and_eq_true, decide_eq_true_eq, beq_iff_eq, bne_iff_ne, Bool.not_eq_true', true_and, and_true, Int.toNat_natCast, Nat.add_zero, g1, g2, w]; done) | (simp (disch := omega) only [Bool.and_eq_true, decide_eq_true_eq, beq_iff_eq, bne_iff_ne, ne_eq, Bool.not_eq_true', true_and, and_true, Int.toNat_natCast, Nat.add_zero, g1, g2, w] <;> omega))
            | (with_reducible apply go_call; · first | with_reducible rfl | (simp (disch := omega) only [Int.toNat_natCast, Nat.add_zero, g1, g2, w]; done) | (simp (disch := omega) only [Int.toNat_natCast, Nat.add_zero, g1, g2, w]; with_reducible rfl))
            | (with_reducible apply go_brT; · first | with_reducible rfl | omega | (simp (disch := omega) only [Bool.and_eq_true, decide_eq_true_eq, beq_iff_eq, bne_iff_ne, Bool.not_eq_true', true_and, and_true, Int.toNat_natCast, Nat.add_zero, g1, g2, w]; done) | (simp (disch := omega) only [Bool.and_eq_true, decide_eq_true_eq, beq_iff_eq, bne_iff_ne, ne_eq, Bool.not_eq_true', true_and, and_true, Int.toNat_natCast, Nat.add_zero, g1, g2, w] <;> omega))
            | (with_reducible apply go_brF; · first | with_reducible rfl | (simp (disch := omega) only [decide_eq_false_iff_not, beq_eq_false_iff_ne, bne_eq_false_iff_eq, Bool.not_eq_false', Int.toNat_natCast, Nat.add_zero, g1, g2, w]; done) | (simp (disch := omega) only [decide_eq_false_iff_not, beq_eq_false_iff_ne, bne_eq_false_iff_eq, ne_eq, Bool.not_eq_false', Int.toNat_natCast, Nat.add_zero, g1, g2, w] <;> omega))
          try simp (disch := omega) only [Int.toNat_natCast, Nat.add_zero, g1, g2, w]
          rfl
        · skip
          try unfold shareK
          repeat first
            | (with_reducible apply go_nil; · with_reducible rfl)
            | (with_reducible apply go_cons; · with_reducible rfl)
            | (with_reducible apply go_int; · first | with_reducible rfl | (simp (disch := omega) only [Int.toNat_natCast, Nat.add_zero, g1, g2, w]; done) | (simp (disch := omega) only [Int.toNat_natCast, Nat.add_zero, g1, g2, w]; with_reducible rfl))
            | (with_reducible apply go_bool; · first | with_reducible rfl | (simp (disch := omega) only [Int.toNat_natCast, Nat.add_zero, g1, g2, w]; done) | (simp (disch := omega) only [Int.toNat_natCast, Nat.add_zero, g1, g2, w]; with_reducible rfl))
            | (with_reducible apply go_str; · first | with_reducible rfl | (simp (disch := omega) only [Int.toNat_natCast, Nat.add_zero, g1, g2, w]; done) | (simp (disch := omega) only [Int.toNat_natCast, Nat.add_zero, g1, g2, w]; with_reducible rfl))
            | (with_reducible apply go_any; · first | with_reducible rfl | (simp (disch := omega) only [Int.toNat_natCast, Nat.add_zero, g1, g2, w]; done) | (simp (disch := omega) only [Int.toNat_natCast, Nat.add_zero, g1, g2, w]; with_reducible rfl))
            | (with_reducible apply go_ow; · first | with_reducible rfl | (simp (disch := omega) only [Int.toNat_natCast, Nat.add_zero, g1, g2, w]; done) | (simp (disch := omega) only [Int.toNat_natCast, Nat.add_zero, g1, g2, w]; with_reducible rfl))
            | (with_reducible apply go_ls; · first | with_reducible rfl | (simp (disch := omega) only [Int.toNat_natCast, Nat.add_zero, g1, g2, w]; done) | (simp (disch := omega) only [Int.toNat_natCast, Nat.add_zero, g1, g2, w]; with_reducible rfl))
            | (with_reducible apply go_agg; · first | with_reducible rfl | (simp (disch := omega) only [Int.toNat_natCast, Nat.add_zero, g1, g2, w]; done) | (simp (disch := omega) only [Int.toNat_natCast, Nat.add_zero, g1, g2, w]; with_reducible rfl))
            | (with_reducible apply go_pbox; · first | with_reducible rfl | (simp (disch := omega) only [Int.toNat_natCast, Nat.add_zero, g1, g2, w]; done) | (simp (disch := omega) only [Int.toNat_natCast, Nat.add_zero, g1, g2, w]; with_reducible rfl))
            | (with_reducible apply go_opt; · first | with_reducible rfl | (simp (disch := omega) only [Int.toNat_natCast, Nat.add_zero, g1, g2, w]; done) | (simp (disch := omega) only [Int.toNat_natCast, Nat.add_zero, g1, g2, w]; with_reducible rfl))
            | (with_reducible apply go_chk; · first | with_reducible rfl | omega | (simp (disch := omega) only [Bool.and_eq_true, decide_eq_true_eq, beq_iff_eq, bne_iff_ne, Bool.not_eq_true', true_and, and_true, Int.toNat_natCast, Nat.add_zero, g1, g2, w]; done) | (simp (disch := omega) only [Bool.and_eq_true, decide_eq_true_eq, beq_iff_eq, bne_iff_ne, ne_eq, Bool.not_eq_true', true_and, and_true, Int.toNat_natCast, Nat.add_zero, g1, g2, w] <;> omega))
            | (with_reducible apply go_call; · first | with_reducible rfl | (simp (disch := omega) only [Int.toNat_natCast, Nat.add_zero, g1, g2, w]; done) | (simp (disch := omega) only [Int.toNat_natCast, Nat.add_zero, g1, g2, w]; with_reducible rfl))
            | (with_reducible apply go_brT; · first | with_reducible rfl | omega | (simp (disch := omega) only [Bool.and_eq_true, decide_eq_true_eq, beq_iff_eq, bne_iff_ne, Bool.not_eq_true', true_and, and_true, Int.toNat_natCast, Nat.add_zero, g1, g2, w]; done) | (simp (disch := omega) only [Bool.and_eq_true, decide_eq_true_eq, beq_iff_eq, bne_iff_ne, ne_eq, Bool.not_eq_true', true_and, and_true, Int.toNat_natCast, Nat.add_zero, g1, g2, w] <;> omega))
            | (with_reducible apply go_brF; · first | with_reducible rfl | (simp (disch := omega) only [decide_eq_false_iff_not, beq_eq_false_iff_ne, bne_eq_false_iff_eq, Bool.not_eq_false', Int.toNat_natCast, Nat.add_zero, g1, g2, w]; done) | (simp (disch := omega) only [decide_eq_false_iff_not, beq_eq_false_iff_ne, bne_eq_false_iff_eq, ne_eq, Bool.not_eq_false', Int.toNat_natCast, Nat.add_zero, g1, g2, w] <;> omega))
          try simp (disch := omega) only [Int.toNat_natCast, Nat.add_zero, g1, g2, w]
          rfl
        · skip
          try unfold shareK
          repeat first
            | (with_reducible apply go_nil; · with_reducible rfl)
            | (with_reducible apply go_cons; · with_reducible rfl)
            | (with_reducible apply go_int; · first | with_reducible rfl | (simp (disch := omega) only [Int.toNat_natCast, Nat.add_zero, g1, g2, w]; done) | (simp (disch := omega) only [Int.toNat_natCast, Nat.add_zero, g1, g2, w]; with_reducible rfl))
            | (with_reducible apply go_bool; · first | with_reducible rfl | (simp (disch := omega) only [Int.toNat_natCast, Nat.add_zero, g1, g2, w]; done) | (simp (disch := omega) only [Int.toNat_natCast, Nat.add_zero, g1, g2, w]; with_reducible rfl))
            | (with_reducible apply go_str; · first | with_reducible rfl | (simp (disch := omega) only [Int.toNat_natCast, Nat.add_zero, g1, g2, w]; done) | (simp (disch := omega) only [Int.toNat_natCast, Nat.add_zero, g1, g2, w]; with_reducible rfl))
            | (with_reducible apply go_any; · first | with_reducible rfl | (simp (disch := omega) only [Int.toNat_natCast, Nat.add_zero, g1, g2, w]; done) | (simp (disch := omega) only [Int.toNat_natCast, Nat.add_zero, g1, g2, w]; with_reducible rfl))
            | (with_reducible apply go_ow; · first | with_reducible rfl | (simp (disch := omega) only [Int.toNat_natCast, Nat.add_zero, g1, g2, w]; done) | (simp (disch := omega) only [Int.toNat_natCast, Nat.add_zero, g1, g2, w]; with_reducible rfl))
            | (with_reducible apply go_ls; · first | with_reducible rfl | (simp (disch := omega) only [Int.toNat_natCast, Nat.add_zero, g1, g2, w]; done) | (simp (disch := omega) only [Int.toNat_natCast, Nat.add_zero, g1, g2, w]; with_reducible rfl))
            | (with_reducible apply go_agg; · first | with_reducible rfl | (simp (disch := omega) only [Int.toNat_natCast, Nat.add_zero, g1, g2, w]; done) | (simp (disch := omega) only [Int.toNat_natCast, Nat.add_zero, g1, g2, w]; with_reducible rfl))
            | (with_reducible apply go_pbox; · first | with_reducible rfl | (simp (disch := omega) only [Int.toNat_natCast, Nat.add_zero, g1, g2, w]; done) | (simp (disch := omega) only [Int.toNat_natCast, Nat.add_zero, g1, g2, w]; with_reducible rfl))
            | (with_reducible apply go_opt; · first | with_reducible rfl | (simp (disch := omega) only [Int.toNat_natCast, Nat.add_zero, g1, g2, w]; done) | (simp (disch := omega) only [Int.toNat_natCast, Nat.add_zero, g1, g2, w]; with_reducible rfl))
            | (with_reducible apply go_chk; · first | with_reducible rfl | omega | (simp (disch := omega) only [Bool.and_eq_true, decide_eq_true_eq, beq_iff_eq, bne_iff_ne, Bool.not_eq_true', true_and, and_true, Int.toNat_natCast, Nat.add_zero, g1, g2, w]; done) | (simp (disch := omega) only [Bool.and_eq_true, decide_eq_true_eq, beq_iff_eq, bne_iff_ne, ne_eq, Bool.not_eq_true', true_and, and_true, Int.toNat_natCast, Nat.add_zero, g1, g2, w] <;> omega))
            | (with_reducible apply go_call; · first | with_reducible rfl | (simp (disch := omega) only [Int.toNat_natCast, Nat.add_zero, g1, g2, w]; done) | (simp (disch := omega) only [Int.toNat_natCast, Nat.add_zero, g1, g2, w]; with_reducible rfl))
            | (with_reducible apply go_brT; · first | with_reducible rfl | omega | (simp (disch := omega) only [Bool.and_eq_true, decide_eq_true_eq, beq_iff_eq, bne_iff_ne, Bool.not_eq_true', true_and, and_true, Int.toNat_natCast, Nat.add_zero, g1, g2, w]; done) | (simp (disch := omega) only [Bool.and_eq_true, decide_eq_true_eq, beq_iff_eq, bne_iff_ne, ne_eq, Bool.not_eq_true', true_and, and_true, Int.toNat_natCast, Nat.add_zero, g1, g2, w] <;> omega))
            | (with_reducible apply go_brF; · first | with_reducible rfl | (simp (disch := omega) only [decide_eq_false_iff_not, beq_eq_false_iff_ne, bne_eq_false_iff_eq, Bool.not_eq_false', Int.toNat_natCast, Nat.add_zero, g1, g2, w]; done) | (simp (disch := omega) only [decide_eq_false_iff_not, beq_eq_false_iff_ne, bne_eq_false_iff_eq, ne_eq, Bool.not_eq_false', Int.toNat_natCast, Nat.add_zero, g1, g2, w] <;> omega))
          try simp (disch := omega) only [Int.toNat_natCast, Nat.add_zero, g1, g2, w]
          rfl
        · skip
          try unfold shareK
          repeat first
            | (with_reducible apply go_nil; · with_reducible rfl)
            | (with_reducible apply go_cons; · with_reducible rfl)
            | (with_reducible apply go_int; · first | with_reducible rfl | (simp (disch := omega) only [Int.toNat_natCast, Nat.add_zero, g1, g2, w]; done) | (simp (disch := omega) only [Int.toNat_natCast, Nat.add_zero, g1, g2, w]; with_reducible rfl))
            | (with_reducible apply go_bool; · first | with_reducible rfl | (simp (disch := omega) only [Int.toNat_natCast, Nat.add_zero, g1, g2, w]; done) | (simp (disch := omega) only [Int.toNat_natCast, Nat.add_zero, g1, g2, w]; with_reducible rfl))
            | (with_reducible apply go_str; · first | with_reducible rfl | (simp (disch := omega) only [Int.toNat_natCast, Nat.add_zero, g1, g2, w]; done) | (simp (disch := omega) only [Int.toNat_natCast, Nat.add_zero, g1, g2, w]; with_reducible rfl))
            | (with_reducible apply go_any; · first | with_reducible rfl | (simp (disch := omega) only [Int.toNat_natCast, Nat.add_zero, g1, g2, w]; done) | (simp (disch := omega) only [Int.toNat_natCast, Nat.add_zero, g1, g2, w]; with_reducible rfl))
            | (with_reducible apply go_ow; · first | with_reducible rfl | (simp (disch := omega) only [Int.toNat_natCast, Nat.add_zero, g1, g2, w]; done) | (simp (disch := omega) only [Int.toNat_natCast, Nat.add_zero, g1, g2, w]; with_reducible rfl))
            | (with_reducible apply go_ls; · first | with_reducible rfl | (simp (disch := omega) only [Int.toNat_natCast, Nat.add_zero, g1, g2, w]; done) | (simp (disch := omega) only [Int.toNat_natCast, Nat.add_zero, g1, g2, w]; with_reducible rfl))
            | (with_reducible apply go_agg; · first | with_reducible rfl | (simp (disch := omega) only [Int.toNat_natCast, Nat.add_zero, g1, g2, w]; done) | (simp (disch := omega) only [Int.toNat_natCast, Nat.add_zero, g1, g2, w]; with_reducible rfl))
            | (with_reducible apply go_pbox; · first | with_reducible rfl | (simp (disch := omega) only [Int.toNat_natCast, Nat.add_zero, g1, g2, w]; done) | (simp (disch := omega) only [Int.toNat_natCast, Nat.add_zero, g1, g2, w]; with_reducible rfl))
            | (with_reducible apply go_opt; · first | with_reducible rfl | (simp (disch := omega) only [Int.toNat_natCast, Nat.add_zero, g1, g2, w]; done) | (simp (disch := omega) only [Int.toNat_natCast, Nat.add_zero, g1, g2, w]; with_reducible rfl))
            | (with_reducible apply go_chk; · first | with_reducible rfl | omega | (simp (disch := omega) only [Bool.and_eq_true, decide_eq_true_eq, beq_iff_eq, bne_iff_ne, Bool.not_eq_true', true_and, and_true, Int.toNat_natCast, Nat.add_zero, g1, g2, w]; done) | (simp (disch := omega) only [Bool.and_eq_true, decide_eq_true_eq, beq_iff_eq, bne_iff_ne, ne_eq, Bool.not_eq_true', true_and, and_true, Int.toNat_natCast, Nat.add_zero, g1, g2, w] <;> omega))
            | (with_reducible apply go_call; · first | with_reducible rfl | (simp (disch := omega) only [Int.toNat_natCast, Nat.add_zero, g1, g2, w]; done) | (simp (disch := omega) only [Int.toNat_natCast, Nat.add_zero, g1, g2, w]; with_reducible rfl))
            | (with_reducible apply go_brT; · first | with_reducible rfl | omega | (simp (disch := omega) only [Bool.and_eq_true, decide_eq_true_eq, beq_iff_eq, bne_iff_ne, Bool.not_eq_true', true_and, and_true, Int.toNat_natCast, Nat.add_zero, g1, g2, w]; done) | (simp (disch := omega) only [Bool.and_eq_true, decide_eq_true_eq, beq_iff_eq, bne_iff_ne, ne_eq, Bool.not_eq_true', true_and, and_true, Int.toNat_natCast, Nat.add_zero, g1, g2, w] <;> omega))
            | (with_reducible apply go_brF; · first | with_reducible rfl | (simp (disch := omega) only [decide_eq_false_iff_not, beq_eq_false_iff_ne, bne_eq_false_iff_eq, Bool.not_eq_false', Int.toNat_natCast, Nat.add_zero, g1, g2, w]; done) | (simp (disch := omega) only [decide_eq_false_iff_not, beq_eq_false_iff_ne, bne_eq_false_iff_eq, ne_eq, Bool.not_eq_false', Int.toNat_natCast, Nat.add_zero, g1, g2, w] <;> omega))
          try simp (disch := omega) only [Int.toNat_natCast, Nat.add_zero, g1, g2, w]
          rfl
      by_cases k4 : kd = 4
      · subst k4
        rw [passkeyref10_Await_L1_s]
        cases fi <;> cases vf
        · skip
          try unfold shareK
          repeat first
            | (with_reducible apply go_nil; · with_reducible rfl)
            | (with_reducible apply go_cons; · with_reducible rfl)
            | (with_reducible apply go_int; · first | with_reducible rfl | (simp (disch := omega) only [Int.toNat_natCast, Nat.add_zero, g1, g2, w]; done) | (simp (disch := omega) only [Int.toNat_natCast, Nat.add_zero, g1, g2, w]; with_reducible rfl))
            | (with_reducible apply go_bool; · first | with_reducible rfl | (simp (disch := omega) only [Int.toNat_natCast, Nat.add_zero, g1, g2, w]; done) | (simp (disch := omega) only [Int.toNat_natCast, Nat.add_zero, g1, g2, w]; with_reducible rfl))
            | (with_reducible apply go_str; · first | with_reducible rfl | (simp (disch := omega) only [Int.toNat_natCast, Nat.add_zero, g1, g2, w]; done) | (simp (disch := omega) only [Int.toNat_natCast, Nat.add_zero, g1, g2, w]; with_reducible rfl))
            | (with_reducible apply go_any; · first | with_reducible rfl | (simp (disch := omega) only [Int.toNat_natCast, Nat.add_zero, g1, g2, w]; done) | (simp (disch := omega) only [Int.toNat_natCast, Nat.add_zero, g1, g2, w]; with_reducible rfl))
            | (with_reducible apply go_ow; · first | with_reducible rfl | (simp (disch := omega) only [Int.toNat_natCast, Nat.add_zero, g1, g2, w]; done) | (simp (disch := omega) only [Int.toNat_natCast, Nat.add_zero, g1, g2, w]; with_reducible rfl))
            | (with_reducible apply go_ls; · first | with_reducible rfl | (simp (disch := omega) only [Int.toNat_natCast, Nat.add_zero, g1, g2, w]; done) | (simp (disch := omega) only [Int.toNat_natCast, Nat.add_zero, g1, g2, w]; with_reducible rfl))
            | (with_reducible apply go_agg; · first | with_reducible rfl | (simp (disch := omega) only [Int.toNat_natCast, Nat.add_zero, g1, g2, w]; done) | (simp (disch := omega) only [Int.toNat_natCast, Nat.add_zero, g1, g2, w]; with_reducible rfl))
            | (with_reducible apply go_pbox; · first | with_reducible rfl | (simp (disch := omega) only [Int.toNat_natCast, Nat.add_zero, g1, g2, w]; done) | (simp (disch := omega) only [Int.toNat_natCast, Nat.add_zero, g1, g2, w]; with_reducible rfl))
            | (with_reducible apply go_opt; · first | with_reducible rfl | (simp (disch := omega) only [Int.toNat_natCast, Nat.add_zero, g1, g2, w]; done) | (simp (disch := omega) only [Int.toNat_natCast, Nat.add_zero, g1, g2, w]; with_reducible rfl))
            | (with_reducible apply go_chk; · first | with_reducible rfl | omega | (simp (disch := omega) only [Bool.and_eq_true, decide_eq_true_eq, beq_iff_eq, bne_iff_ne, Bool.not_eq_true', true_and, and_true, Int.toNat_natCast, Nat.add_zero, g1, g2, w]; done) | (simp (disch := omega) only [Bool.and_eq_true, decide_eq_true_eq, beq_iff_eq, bne_iff_ne, ne_eq, Bool.not_eq_true', true_and, and_true, Int.toNat_natCast, Nat.add_zero, g1, g2, w] <;> omega))
            | (with_reducible apply go_call; · first | with_reducible rfl | (simp (disch := omega) only [Int.toNat_natCast, Nat.add_zero, g1, g2, w]; done) | (simp (disch := omega) only [Int.toNat_natCast, Nat.add_zero, g1, g2, w]; with_reducible rfl))
            | (with_reducible apply go_brT; · first | with_reducible rfl | omega | (simp (disch := omega) only [Bool.and_eq_true, decide_eq_true_eq, beq_iff_eq, bne_iff_ne, Bool.not_eq_true', true_and, and_true, Int.toNat_natCast, Nat.add_zero, g1, g2, w]; done) | (simp (disch := omega) only [Bool.and_eq_true, decide_eq_true_eq, beq_iff_eq, bne_iff_ne, ne_eq, Bool.not_eq_true', true_and, and_true, Int.toNat_natCast, Nat.add_zero, g1, g2, w] <;> omega))
            | (with_reducible apply go_brF; · first | with_reducible rfl | (simp (disch := omega) only [decide_eq_false_iff_not, beq_eq_false_iff_ne, bne_eq_false_iff_eq, Bool.not_eq_false', Int.toNat_natCast, Nat.add_zero, g1, g2, w]; done) | (simp (disch := omega) only [decide_eq_false_iff_not, beq_eq_false_iff_ne, bne_eq_false_iff_eq, ne_eq, Bool.not_eq_false', Int.toNat_natCast, Nat.add_zero, g1, g2, w] <;> omega))
          try simp (disch := omega) only [Int.toNat_natCast, Nat.add_zero, g1, g2, w]
          rfl
        · skip
          try unfold shareK
          repeat first
            | (with_reducible apply go_nil; · with_reducible rfl)
            | (with_reducible apply go_cons; · with_reducible rfl)
            | (with_reducible apply go_int; · first | with_reducible rfl | (simp (disch := omega) only [Int.toNat_natCast, Nat.add_zero, g1, g2, w]; done) | (simp (disch := omega) only [Int.toNat_natCast, Nat.add_zero, g1, g2, w]; with_reducible rfl))
            | (with_reducible apply go_bool; · first | with_reducible rfl | (simp (disch := omega) only [Int.toNat_natCast, Nat.add_zero, g1, g2, w]; done) | (simp (disch := omega) only [Int.toNat_natCast, Nat.add_zero, g1, g2, w]; with_reducible rfl))
            | (with_reducible apply go_str; · first | with_reducible rfl | (simp (disch := omega) only [Int.toNat_natCast, Nat.add_zero, g1, g2, w]; done) | (simp (disch := omega) only [Int.toNat_natCast, Nat.add_zero, g1, g2, w]; with_reducible rfl))
            | (with_reducible apply go_any; · first | with_reducible rfl | (simp (disch := omega) only [Int.toNat_natCast, Nat.add_zero, g1, g2, w]; done) | (simp (disch := omega) only [Int.toNat_natCast, Nat.add_zero, g1, g2, w]; with_reducible rfl))
            | (with_reducible apply go_ow; · first | with_reducible rfl | (simp (disch := omega) only [Int.toNat_natCast, Nat.add_zero, g1, g2, w]; done) | (simp (disch := omega) only [Int.toNat_natCast, Nat.add_zero, g1, g2, w]; with_reducible rfl))
            | (with_reducible apply go_ls; · first | with_reducible rfl | (simp (disch := omega) only [Int.toNat_natCast, Nat.add_zero, g1, g2, w]; done) | (simp (disch := omega) only [Int.toNat_natCast, Nat.add_zero, g1, g2, w]; with_reducible rfl))
            | (with_reducible apply go_agg; · first | with_reducible rfl | (simp (disch := omega) only [Int.toNat_natCast, Nat.add_zero, g1, g2, w]; done) | (simp (disch := omega) only [Int.toNat_natCast, Nat.add_zero, g1, g2, w]; with_reducible rfl))
            | (with_reducible apply go_pbox; · first | with_reducible rfl | (simp (disch := omega) only [Int.toNat_natCast, Nat.add_zero, g1, g2, w]; done) | (simp (disch := omega) only [Int.toNat_natCast, Nat.add_zero, g1, g2, w]; with_reducible rfl))
            | (with_reducible apply go_opt; · first | with_reducible rfl | (simp (disch := omega) only [Int.toNat_natCast, Nat.add_zero, g1, g2, w]; done) | (simp (disch := omega) only [Int.toNat_natCast, Nat.add_zero, g1, g2, w]; with_reducible rfl))
            | (with_reducible apply go_chk; · first | with_reducible rfl | omega | (simp (disch := omega) only [Bool.and_eq_true, decide_eq_true_eq, beq_iff_eq, bne_iff_ne, Bool.not_eq_true', true_and, and_true, Int.toNat_natCast, Nat.add_zero, g1, g2, w]; done) | (simp (disch := omega) only [Bool.and_eq_true, decide_eq_true_eq, beq_iff_eq, bne_iff_ne, ne_eq, Bool.not_eq_true', true_and, and_true, Int.toNat_natCast, Nat.add_zero, g1, g2, w] <;> omega))
            | (with_reducible apply go_call; · first | with_reducible rfl | (simp (disch := omega) only [Int.toNat_natCast, Nat.add_zero, g1, g2, w]; done) | (simp (disch := omega) only [Int.toNat_natCast, Nat.add_zero, g1, g2, w]; with_reducible rfl))
            | (with_reducible apply go_brT; · first | with_reducible rfl | omega | (simp (disch := omega) only [Bool.and_eq_true, decide_eq_true_eq, beq_iff_eq, bne_iff_ne, Bool.not_eq_true', true_and, and_true, Int.toNat_natCast, Nat.add_zero, g1, g2, w]; done) | (simp (disch := omega) only [Bool.and_eq_true, decide_eq_true_eq, beq_iff_eq, bne_iff_ne, ne_eq, Bool.not_eq_true', true_and, and_true, Int.toNat_natCast, Nat.add_zero, g1, g2, w] <;> omega))
            | (with_reducible apply go_brF; · first | with_reducible rfl | (simp (disch := omega) only [decide_eq_false_iff_not, beq_eq_false_iff_ne, bne_eq_false_iff_eq, Bool.not_eq_false', Int.toNat_natCast, Nat.add_zero, g1, g2, w]; done) | (simp (disch := omega) only [decide_eq_false_iff_not, beq_eq_false_iff_ne, bne_eq_false_iff_eq, ne_eq, Bool.not_eq_false', Int.toNat_natCast, Nat.add_zero, g1, g2, w] <;> omega))
          try simp (disch := omega) only [Int.toNat_natCast, Nat.add_zero, g1, g2, w]
          rfl
        · skip
          try unfold shareK
          repeat first
            | (with_reducible apply go_nil; · with_reducible rfl)
            | (with_reducible apply go_cons; · with_reducible rfl)
            | (with_reducible apply go_int; · first | with_reducible rfl | (simp (disch := omega) only [Int.toNat_natCast, Nat.add_zero, g1, g2, w]; done) | (simp (disch := omega) only [Int.toNat_natCast, Nat.add_zero, g1, g2, w]; with_reducible rfl))
            | (with_reducible apply go_bool; · first | with_reducible rfl | (simp (disch := omega) only [Int.toNat_natCast, Nat.add_zero, g1, g2, w]; done) | (simp (disch := omega) only [Int.toNat_natCast, Nat.add_zero, g1, g2, w]; with_reducible rfl))
            | (with_reducible apply go_str; · first | with_reducible rfl | (simp (disch := omega) only [Int.toNat_natCast, Nat.add_zero, g1, g2, w]; done) | (simp (disch := omega) only [Int.toNat_natCast, Nat.add_zero, g1, g2, w]; with_reducible rfl))
            | (with_reducible apply go_any; · first | with_reducible rfl | (simp (disch := omega) only [Int.toNat_natCast, Nat.add_zero, g1, g2, w]; done) | (simp (disch := omega) only [Int.toNat_natCast, Nat.add_zero, g1, g2, w]; with_reducible rfl))
            | (with_reducible apply go_ow; · first | with_reducible rfl | (simp (disch := omega) only [Int.toNat_natCast, Nat.add_zero, g1, g2, w]; done) | (simp (disch := omega) only [Int.toNat_natCast, Nat.add_zero, g1, g2, w]; with_reducible rfl))
            | (with_reducible apply go_ls; · first | with_reducible rfl | (simp (disch := omega) only [Int.toNat_natCast, Nat.add_zero, g1, g2, w]; done) | (simp (disch := omega) only [Int.toNat_natCast, Nat.add_zero, g1, g2, w]; with_reducible rfl))
            | (with_reducible apply go_agg; · first | with_reducible rfl | (simp (disch := omega) only [Int.toNat_natCast, Nat.add_zero, g1, g2, w]; done) | (simp (disch := omega) only [Int.toNat_natCast, Nat.add_zero, g1, g2, w]; with_reducible rfl))
            | (with_reducible apply go_pbox; · first | with_reducible rfl | (simp (disch := omega) only [Int.toNat_natCast, Nat.add_zero, g1, g2, w]; done) | (simp (disch := omega) only [Int.toNat_natCast, Nat.add_zero, g1, g2, w]; with_reducible rfl))
            | (with_reducible apply go_opt; · first | with_reducible rfl | (simp (disch := omega) only [Int.toNat_natCast, Nat.add_zero, g1, g2, w]; done) | (simp (disch := omega) only [Int.toNat_natCast, Nat.add_zero, g1, g2, w]; with_reducible rfl))
            | (with_reducible apply go_chk; · first | with_reducible rfl | omega | (simp (disch := omega) only [Bool.and_eq_true, decide_eq_true_eq, beq_iff_eq, bne_iff_ne, Bool.not_eq_true', true_and, and_true, Int.toNat_natCast, Nat.add_zero, g1, g2, w]; done) | (simp (disch := omega) only [Bool.and_eq_true, decide_eq_true_eq, beq_iff_eq, bne_iff_ne, ne_eq, Bool.not_eq_true', true_and, and_true, Int.toNat_natCast, Nat.add_zero, g1, g2, w] <;> omega))
            | (with_reducible apply go_call; · first | with_reducible rfl | (simp (disch := omega) only [Int.toNat_natCast, Nat.add_zero, g1, g2, w]; done) | (simp (disch := omega) only [Int.toNat_natCast, Nat.add_zero, g1, g2, w]; with_reducible rfl))
            | (with_reducible apply go_brT; · first | with_reducible rfl | omega | (simp (disch := omega) only [Bool.and_eq_true, decide_eq_true_eq, beq_iff_eq, bne_iff_ne, Bool.not_eq_true', true_and, and_true, Int.toNat_natCast, Nat.add_zero, g1, g2, w]; done) | (simp (disch := omega) only [Bool.and_eq_true, decide_eq_true_eq, beq_iff_eq, bne_iff_ne, ne_eq, Bool.not_eq_true', true_and, and_true, Int.toNat_natCast, Nat.add_zero, g1, g2, w] <;> omega))
            | (with_reducible apply go_brF; · first | with_reducible rfl | (simp (disch := omega) only [decide_eq_false_iff_not, beq_eq_false_iff_ne, bne_eq_false_iff_eq, Bool.not_eq_false', Int.toNat_natCast, Nat.add_zero, g1, g2, w]; done) | (simp (disch := omega) only [decide_eq_false_iff_not, beq_eq_false_iff_ne, bne_eq_false_iff_eq, ne_eq, Bool.not_eq_false', Int.toNat_natCast, Nat.add_zero, g1, g2, w] <;> omega))
          try simp (disch := omega) only [Int.toNat_natCast, Nat.add_zero, g1, g2, w]
          rfl
        · skip
          try unfold shareK
          repeat first
            | (with_reducible apply go_nil; · with_reducible rfl)
            | (with_reducible apply go_cons; · with_reducible rfl)
            | (with_reducible apply go_int; · first | with_reducible rfl | (simp (disch := omega) only [Int.toNat_natCast, Nat.add_zero, g1, g2, w]; done) | (simp (disch := omega) only [Int.toNat_natCast, Nat.add_zero, g1, g2, w]; with_reducible rfl))
            | (with_reducible apply go_bool; · first | with_reducible rfl | (simp (disch := omega) only [Int.toNat_natCast, Nat.add_zero, g1, g2, w]; done) | (simp (disch := omega) only [Int.toNat_natCast, Nat.add_zero, g1, g2, w]; with_reducible rfl))
            | (with_reducible apply go_str; · first | with_reducible rfl | (simp (disch := omega) only [Int.toNat_natCast, Nat.add_zero, g1, g2, w]; done) | (simp (disch := omega) only [Int.toNat_natCast, Nat.add_zero, g1, g2, w]; with_reducible rfl))
            | (with_reducible apply go_any; · first | with_reducible rfl | (simp (disch := omega) only [Int.toNat_natCast, Nat.add_zero, g1, g2, w]; done) | (simp (disch := omega) only [Int.toNat_natCast, Nat.add_zero, g1, g2, w]; with_reducible rfl))
            | (with_reducible apply go_ow; · first | with_reducible rfl | (simp (disch := omega) only [Int.toNat_natCast, Nat.add_zero, g1, g2, w]; done) | (simp (disch := omega) only [Int.toNat_natCast, Nat.add_zero, g1, g2, w]; with_reducible rfl))
            | (with_reducible apply go_ls; · first | with_reducible rfl | (simp (disch := omega) only [Int.toNat_natCast, Nat.add_zero, g1, g2, w]; done) | (simp (disch := omega) only [Int.toNat_natCast, Nat.add_zero, g1, g2, w]; with_reducible rfl))
            | (with_reducible apply go_agg; · first | with_reducible rfl | (simp (disch := omega) only [Int.toNat_natCast, Nat.add_zero, g1, g2, w]; done) | (simp (disch := omega) only [Int.toNat_natCast, Nat.add_zero, g1, g2, w]; with_reducible rfl))
            | (with_reducible apply go_pbox; · first | with_reducible rfl | (simp (disch := omega) only [Int.toNat_natCast, Nat.add_zero, g1, g2, w]; done) | (simp (disch := omega) only [Int.toNat_natCast, Nat.add_zero, g1, g2, w]; with_reducible rfl))
            | (with_reducible apply go_opt; · first | with_reducible rfl | (simp (disch := omega) only [Int.toNat_natCast, Nat.add_zero, g1, g2, w]; done) | (simp (disch := omega) only [Int.toNat_natCast, Nat.add_zero, g1, g2, w]; with_reducible rfl))
            | (with_reducible apply go_chk; · first | with_reducible rfl | omega | (simp (disch := omega) only [Bool.and_eq_true, decide_eq_true_eq, beq_iff_eq, bne_iff_ne, Bool.not_eq_true', true_and, and_true, Int.toNat_natCast, Nat.add_zero, g1, g2, w]; done) | (simp (disch := omega) only [Bool.and_eq_true, decide_eq_true_eq, beq_iff_eq, bne_iff_ne, ne_eq, Bool.not_eq_true', true_and, and_true, Int.toNat_natCast, Nat.add_zero, g1, g2, w] <;> omega))
            | (with_reducible apply go_call; · first | with_reducible rfl | (simp (disch := omega) only [Int.toNat_natCast, Nat.add_zero, g1, g2, w]; done) | (simp (disch := omega) only [Int.toNat_natCast, Nat.add_zero, g1, g2, w]; with_reducible rfl))
            | (with_reducible apply go_brT; · first | with_reducible rfl | omega | (simp (disch := omega) only [Bool.and_eq_true, decide_eq_true_eq, beq_iff_eq, bne_iff_ne, Bool.not_eq_true', true_and, and_true, Int.toNat_natCast, Nat.add_zero, g1, g2, w]; done) | (simp (disch := omega) only [Bool.and_eq_true, decide_eq_true_eq, beq_iff_eq, bne_iff_ne, ne_eq, Bool.not_eq_true', true_and, and_true, Int.toNat_natCast, Nat.add_zero, g1, g2, w] <;> omega))
            | (with_reducible apply go_brF; · first | with_reducible rfl | (simp (disch := omega) only [decide_eq_false_iff_not, beq_eq_false_iff_ne, bne_eq_false_iff_eq, Bool.not_eq_false', Int.toNat_natCast, Nat.add_zero, g1, g2, w]; done) | (simp (disch := omega) only [decide_eq_false_iff_not, beq_eq_false_iff_ne, bne_eq_false_iff_eq, ne_eq, Bool.not_eq_false', Int.toNat_natCast, Nat.add_zero, g1, g2, w] <;> omega))
          try simp (disch := omega) only [Int.toNat_natCast, Nat.add_zero, g1, g2, w]
          rfl
      by_cases k5 : kd = 5
      · subst k5
        rw [passkeyref10_Await_L1_s]
        cases fi <;> cases vf
        · skip
          try unfold shareK
          repeat first
            | (with_reducible apply go_nil; · with_reducible rfl)
            | (with_reducible apply go_cons; · with_reducible rfl)
            | (with_reducible apply go_int; · first | with_reducible rfl | (simp (disch := omega) only [Int.toNat_natCast, Nat.add_zero, g1, g2, w]; done) | (simp (disch := omega) only [Int.toNat_natCast, Nat.add_zero, g1, g2, w]; with_reducible rfl))
            | (with_reducible apply go_bool; · first | with_reducible rfl | (simp (disch := omega) only [Int.toNat_natCast, Nat.add_zero, g1, g2, w]; done) | (simp (disch := omega) only [Int.toNat_natCast, Nat.add_zero, g1, g2, w]; with_reducible rfl))
            | (with_reducible apply go_str; · first | with_reducible rfl | (simp (disch := omega) only [Int.toNat_natCast, Nat.add_zero, g1, g2, w]; done) | (simp (disch := omega) only [Int.toNat_natCast, Nat.add_zero, g1, g2, w]; with_reducible rfl))
            | (with_reducible apply go_any; · first | with_reducible rfl | (simp (disch := omega) only [Int.toNat_natCast, Nat.add_zero, g1, g2, w]; done) | (simp (disch := omega) only [Int.toNat_natCast, Nat.add_zero, g1, g2, w]; with_reducible rfl))
            | (with_reducible apply go_ow; · first | with_reducible rfl | (simp (disch := omega) only [Int.toNat_natCast, Nat.add_zero, g1, g2, w]; done) | (simp (disch := omega) only [Int.toNat_natCast, Nat.add_zero, g1, g2, w]; with_reducible rfl))
            | (with_reducible apply go_ls; · first | with_reducible rfl | (simp (disch := omega) only [Int.toNat_natCast, Nat.add_zero, g1, g2, w]; done) | (simp (disch := omega) only [Int.toNat_natCast, Nat.add_zero, g1, g2, w]; with_reducible rfl))
            | (with_reducible apply go_agg; · first | with_reducible rfl | (simp (disch := omega) only [Int.toNat_natCast, Nat.add_zero, g1, g2, w]; done) | (simp (disch := omega) only [Int.toNat_natCast, Nat.add_zero, g1, g2, w]; with_reducible rfl))
            | (with_reducible apply go_pbox; · first | with_reducible rfl | (simp (disch := omega) only [Int.toNat_natCast, Nat.add_zero, g1, g2, w]; done) | (simp (disch := omega) only [Int.toNat_natCast, Nat.add_zero, g1, g2, w]; with_reducible rfl))
            | (with_reducible apply go_opt; · first | with_reducible rfl | (simp (disch := omega) only [Int.toNat_natCast, Nat.add_zero, g1, g2, w]; done) | (simp (disch := omega) only [Int.toNat_natCast, Nat.add_zero, g1, g2, w]; with_reducible rfl))
            | (with_reducible apply go_chk; · first | with_reducible rfl | omega | (simp (disch := omega) only [Bool.and_eq_true, decide_eq_true_eq, beq_iff_eq, bne_iff_ne, Bool.not_eq_true', true_and, and_true, Int.toNat_natCast, Nat.add_zero, g1, g2, w]; done) | (simp (disch := omega) only [Bool.and_eq_true, decide_eq_true_eq, beq_iff_eq, bne_iff_ne, ne_eq, Bool.not_eq_true', true_and, and_true, Int.toNat_natCast, Nat.add_zero, g1, g2, w] <;> omega))
            | (with_reducible apply go_call; · first | with_reducible rfl | (simp (disch := omega) only [Int.toNat_natCast, Nat.add_zero, g1, g2, w]; done) | (simp (disch := omega) only [Int.toNat_natCast, Nat.add_zero, g1, g2, w]; with_reducible rfl))
            | (with_reducible apply go_brT; · first | with_reducible rfl | omega | (simp (disch := omega) only [Bool.and_eq_true, decide_eq_true_eq, beq_iff_eq, bne_iff_ne, Bool.not_eq_true', true_and, and_true, Int.toNat_natCast, Nat.add_zero, g1, g2, w]; done) | (simp (disch := omega) only [Bool.and_eq_true, decide_eq_true_eq, beq_iff_eq, bne_iff_ne, ne_eq, Bool.not_eq_true', true_and, and_true, Int.toNat_natCast, Nat.add_zero, g1, g2, w] <;> omega))
            | (with_reducible apply go_brF; · first | with_reducible rfl | (simp (disch := omega) only [decide_eq_false_iff_not, beq_eq_false_iff_ne, bne_eq_false_iff_eq, Bool.not_eq_false', Int.toNat_natCast, Nat.add_zero, g1, g2, w]; done) | (simp (disch := omega) only [decide_eq_false_iff_not, beq_eq_false_iff_ne, bne_eq_false_iff_eq, ne_eq, Bool.not_eq_false', Int.toNat_natCast, Nat.add_zero, g1, g2, w] <;> omega))
          try simp (disch := omega) only [Int.toNat_natCast, Nat.add_zero, g1, g2, w]
          rfl
        · skip
          try unfold shareK
          repeat first
            | (with_reducible apply go_nil; · with_reducible rfl)
            | (with_reducible apply go_cons; · with_reducible rfl)
            | (with_reducible apply go_int; · first | with_reducible rfl | (simp (disch := omega) only [Int.toNat_natCast, Nat.add_zero, g1, g2, w]; done) | (simp (disch := omega) only [Int.toNat_natCast, Nat.add_zero, g1, g2, w]; with_reducible rfl))
            | (with_reducible apply go_bool; · first | with_reducible rfl | (simp (disch := omega) only [Int.toNat_natCast, Nat.add_zero, g1, g2, w]; done) | (simp (disch := omega) only [Int.toNat_natCast, Nat.add_zero, g1, g2, w]; with_reducible rfl))
            | (with_reducible apply go_str; · first | with_reducible rfl | (simp (disch := omega) only [Int.toNat_natCast, Nat.add_zero, g1, g2, w]; done) | (simp (disch := omega) only [Int.toNat_natCast, Nat.add_zero, g1, g2, w]; with_reducible rfl))
            | (with_reducible apply go_any; · first | with_reducible rfl | (simp (disch := omega) only [Int.toNat_natCast, Nat.add_zero, g1, g2, w]; done) | (simp (disch := omega) only [Int.toNat_natCast, Nat.add_zero, g1, g2, w]; with_reducible rfl))
            | (with_reducible apply go_ow; · first | with_reducible rfl | (simp (disch := omega) only [Int.toNat_natCast, Nat.add_zero, g1, g2, w]; done) | (simp (disch := omega) only [Int.toNat_natCast, Nat.add_zero, g1, g2, w]; with_reducible rfl))
            | (with_reducible apply go_ls; · first | with_reducible rfl | (simp (disch := omega) only [Int.toNat_natCast, Nat.add_zero, g1, g2, w]; done) | (simp (disch := omega) only [Int.toNat_natCast, Nat.add_zero, g1, g2, w]; with_reducible rfl))
            | (with_reducible apply go_agg; · first | with_reducible rfl | (simp (disch := omega) only [Int.toNat_natCast, Nat.add_zero, g1, g2, w]; done) | (simp (disch := omega) only [Int.toNat_natCast, Nat.add_zero, g1, g2, w]; with_reducible rfl))
            | (with_reducible apply go_pbox; · first | with_reducible rfl | (simp (disch := omega) only [Int.toNat_natCast, Nat.add_zero, g1, g2, w]; done) | (simp (disch := omega) only [Int.toNat_natCast, Nat.add_zero, g1, g2, w]; with_reducible rfl))
            | (with_reducible apply go_opt; · first | with_reducible rfl | (simp (disch := omega) only [Int.toNat_natCast, Nat.add_zero, g1, g2, w]; done) | (simp (disch := omega) only [Int.toNat_natCast, Nat.add_zero, g1, g2, w]; with_reducible rfl))
            | (with_reducible apply go_chk; · first | with_reducible rfl | omega | (simp (disch := omega) only [Bool.and_eq_true, decide_eq_true_eq, beq_iff_eq, bne_iff_ne, Bool.not_eq_true', true_and, and_true, Int.toNat_natCast, Nat.add_zero, g1, g2, w]; done) | (simp (disch := omega) only [Bool.and_eq_true, decide_eq_true_eq, beq_iff_eq, bne_iff_ne, ne_eq, Bool.not_eq_true', true_and, and_true, Int.toNat_natCast, Nat.add_zero, g1, g2, w] <;> omega))
            | (with_reducible apply go_call; · first | with_reducible rfl | (simp (disch := omega) only [Int.toNat_natCast, Nat.add_zero, g1, g2, w]; done) | (simp (disch := omega) only [Int.toNat_natCast, Nat.add_zero, g1, g2, w]; with_reducible rfl))
            | (with_reducible apply go_brT; · first | with_reducible rfl | omega | (simp (disch := omega) only [Bool.and_eq_true, decide_eq_true_eq, beq_iff_eq, bne_iff_ne, Bool.not_eq_true', true_and, and_true, Int.toNat_natCast, Nat.add_zero, g1, g2, w]; done) | (simp (disch := omega) only [Bool.and_eq_true, decide_eq_true_eq, beq_iff_eq, bne_iff_ne, ne_eq, Bool.not_eq_true', true_and, and_true, Int.toNat_natCast, Nat.add_zero, g1, g2, w] <;> omega))
            | (with_reducible apply go_brF; · first | with_reducible rfl | (simp (disch := omega) only [decide_eq_false_iff_not, beq_eq_false_iff_ne, bne_eq_false_iff_eq, Bool.not_eq_false', Int.toNat_natCast, Nat.add_zero, g1, g2, w]; done) | (simp (disch := omega) only [decide_eq_false_iff_not, beq_eq_false_iff_ne, bne_eq_false_iff_eq, ne_eq, Bool.not_eq_false', Int.toNat_natCast, Nat.add_zero, g1, g2, w] <;> omega))
          try simp (disch := omega) only [Int.toNat_natCast, Nat.add_zero, g1, g2, w]
          rfl
        · skip
          try unfold shareK
          repeat first
            | (with_reducible apply go_nil; · with_reducible rfl)
            | (with_reducible apply go_cons; · with_reducible rfl)
            | (with_reducible apply go_int; · first | with_reducible rfl | (simp (disch := omega) only [Int.toNat_natCast, Nat.add_zero, g1, g2, w]; done) | (simp (disch := omega) only [Int.toNat_natCast, Nat.add_zero, g1, g2, w]; with_reducible rfl))
            | (with_reducible apply go_bool; · first | with_reducible rfl | (simp (disch := omega) only [Int.toNat_natCast, Nat.add_zero, g1, g2, w]; done) | (simp (disch := omega) only [Int.toNat_natCast, Nat.add_zero, g1, g2, w]; with_reducible rfl))
            | (with_reducible apply go_str; · first | with_reducible rfl | (simp (disch := omega) only [Int.toNat_natCast, Nat.add_zero, g1, g2, w]; done) | (simp (disch := omega) only [Int.toNat_natCast, Nat.add_zero, g1, g2, w]; with_reducible rfl))
            | (with_reducible apply go_any; · first | with_reducible rfl | (simp (disch := omega) only [Int.toNat_natCast, Nat.add_zero, g1, g2, w]; done) | (simp (disch := omega) only [Int.toNat_natCast, Nat.add_zero, g1, g2, w]; with_reducible rfl))
            | (with_reducible apply go_ow; · first | with_reducible rfl | (simp (disch := omega) only [Int.toNat_natCast, Nat.add_zero, g1, g2, w]; done) | (simp (disch := omega) only [Int.toNat_natCast, Nat.add_zero, g1, g2, w]; with_reducible rfl))
            | (with_reducible apply go_ls; · first | with_reducible rfl | (simp (disch := omega) only [Int.toNat_natCast, Nat.add_zero, g1, g2, w]; done) | (simp (disch := omega) only [Int.toNat_natCast, Nat.add_zero, g1, g2, w]; with_reducible rfl))
            | (with_reducible apply go_agg; · first | with_reducible rfl | (simp (disch := omega) only [Int.toNat_natCast, Nat.add_zero, g1, g2, w]; done) | (simp (disch := omega) only [Int.toNat_natCast, Nat.add_zero, g1, g2, w]; with_reducible rfl))
            | (with_reducible apply go_pbox; · first | with_reducible rfl | (simp (disch := omega) only [Int.toNat_natCast, Nat.add_zero, g1, g2, w]; done) | (simp (disch := omega) only [Int.toNat_natCast, Nat.add_zero, g1, g2, w]; with_reducible rfl))
            | (with_reducible apply go_opt; · first | with_reducible rfl | (simp (disch := omega) only [Int.toNat_natCast, Nat.add_zero, g1, g2, w]; done) | (simp (disch := omega) only [Int.toNat_natCast, Nat.add_zero, g1, g2, w]; with_reducible rfl))
            | (with_reducible apply go_chk; · first | with_reducible rfl | omega | (simp (disch := omega) only [Bool.and_eq_true, decide_eq_true_eq, beq_iff_eq, bne_iff_ne, Bool.not_eq_true', true_and, and_true, Int.toNat_natCast, Nat.add_zero, g1, g2, w]; done) | (simp (disch := omega) only [Bool.and_eq_true, decide_eq_true_eq, beq_iff_eq, bne_iff_ne, ne_eq, Bool.not_eq_true', true_and, and_true, Int.toNat_natCast, Nat.add_zero, g1, g2, w] <;> omega))
            | (with_reducible apply go_call; · first | with_reducible rfl | (simp (disch := omega) only [Int.toNat_natCast, Nat.add_zero, g1, g2, w]; done) | (simp (disch := omega) only [Int.toNat_natCast, Nat.add_zero, g1, g2, w]; with_reducible rfl))
            | (with_reducible apply go_brT; · first | with_reducible rfl | omega | (simp (disch := omega) only [Bool.and_eq_true, decide_eq_true_eq, beq_iff_eq, bne_iff_ne, Bool.not_eq_true', true_and, and_true, Int.toNat_natCast, Nat.add_zero, g1, g2, w]; done) | (simp (disch := omega) only [Bool.and_eq_true, decide_eq_true_eq, beq_iff_eq, bne_iff_ne, ne_eq, Bool.not_eq_true', true_and, and_true, Int.toNat_natCast, Nat.add_zero, g1, g2, w] <;> omega))
            | (with_reducible apply go_brF; · first | with_reducible rfl | (simp (disch := omega) only [decide_eq_false_iff_not, beq_eq_false_iff_ne, bne_eq_false_iff_eq, Bool.not_eq_false', Int.toNat_natCast, Nat.add_zero, g1, g2, w]; done) | (simp (disch := omega) only [decide_eq_false_iff_not, beq_eq_false_iff_ne, bne_eq_false_iff_eq, ne_eq, Bool.not_eq_false', Int.toNat_natCast, Nat.add_zero, g1, g2, w] <;> omega))
          try simp (disch := omega) only [Int.toNat_natCast, Nat.add_zero, g1, g2, w]
          rfl
        · skip
          try unfold shareK
          repeat first
            | (with_reducible apply go_nil; · with_reducible rfl)
            | (with_reducible apply go_cons; · with_reducible rfl)
            | (with_reducible apply go_int; · first | with_reducible rfl | (simp (disch := omega) only [Int.toNat_natCast, Nat.add_zero, g1, g2, w]; done) | (simp (disch := omega) only [Int.toNat_natCast, Nat.add_zero, g1, g2, w]; with_reducible rfl))
            | (with_reducible apply go_bool; · first | with_reducible rfl | (simp (disch := omega) only [Int.toNat_natCast, Nat.add_zero, g1, g2, w]; done) | (simp (disch := omega) only [Int.toNat_natCast, Nat.add_zero, g1, g2, w]; with_reducible rfl))
            | (with_reducible apply go_str; · first | with_reducible rfl | (simp (disch := omega) only [Int.toNat_natCast, Nat.add_zero, g1, g2, w]; done) | (simp (disch := omega) only [Int.toNat_natCast, Nat.add_zero, g1, g2, w]; with_reducible rfl))
            | (with_reducible apply go_any; · first | with_reducible rfl | (simp (disch := omega) only [Int.toNat_natCast, Nat.add_zero, g1, g2, w]; done) | (simp (disch := omega) only [Int.toNat_natCast, Nat.add_zero, g1, g2, w]; with_reducible rfl))
            | (with_reducible apply go_ow; · first | with_reducible rfl | (simp (disch := omega) only [Int.toNat_natCast, Nat.add_zero, g1, g2, w]; done) | (simp (disch := omega) only [Int.toNat_natCast, Nat.add_zero, g1, g2, w]; with_reducible rfl))
            | (with_reducible apply go_ls; · first | with_reducible rfl | (simp (disch := omega) only [Int.toNat_natCast, Nat.add_zero, g1, g2, w]; done) | (simp (disch := omega) only [Int.toNat_natCast, Nat.add_zero, g1, g2, w]; with_reducible rfl))
            | (with_reducible apply go_agg; · first | with_reducible rfl | (simp (disch := omega) only [Int.toNat_natCast, Nat.add_zero, g1, g2, w]; done) | (simp (disch := omega) only [Int.toNat_natCast, Nat.add_zero, g1, g2, w]; with_reducible rfl))
            | (with_reducible apply go_pbox; · first | with_reducible rfl | (simp (disch := omega) only [Int.toNat_natCast, Nat.add_zero, g1, g2, w]; done) | (simp (disch := omega) only [Int.toNat_natCast, Nat.add_zero, g1, g2, w]; with_reducible rfl))
            | (with_reducible apply go_opt; · first | with_reducible rfl | (simp (disch := omega) only [Int.toNat_natCast, Nat.add_zero, g1, g2, w]; done) | (simp (disch := omega) only [Int.toNat_natCast, Nat.add_zero, g1, g2, w]; with_reducible rfl))
            | (with_reducible apply go_chk; · first | with_reducible rfl | omega | (simp (disch := omega) only [Bool.and_eq_true, decide_eq_true_eq, beq_iff_eq, bne_iff_ne, Bool.not_eq_true', true_and, and_true, Int.toNat_natCast, Nat.add_zero, g1, g2, w]; done) | (simp (disch := omega) only [Bool.and_eq_true, decide_eq_true_eq, beq_iff_eq, bne_iff_ne, ne_eq, Bool.not_eq_true', true_and, and_true, Int.toNat_natCast, Nat.add_zero, g1, g2, w] <;> omega))
            | (with_reducible apply go_call; · first | with_reducible rfl | (simp (disch := omega) only [Int.toNat_natCast, Nat.add_zero, g1, g2, w]; done) | (simp (disch := omega) only [Int.toNat_natCast, Nat.add_zero, g1, g2, w]; with_reducible rfl))
            | (with_reducible apply go_brT; · first | with_reducible rfl | omega | (simp (disch := omega) only [Bool.and_eq_true, decide_eq_true_eq, beq_iff_eq, bne_iff_ne, Bool.not_eq_true', true_and, and_true, Int.toNat_natCast, Nat.add_zero, g1, g2, w]; done) | (simp (disch := omega) only [Bool.and_eq_true, decide_eq_true_eq, beq_iff_eq, bne_iff_ne, ne_eq, Bool.not_eq_true', true_and, and_true, Int.toNat_natCast, Nat.add_zero, g1, g2, w] <;> omega))
            | (with_reducible apply go_brF; · first | with_reducible rfl | (simp (disch := omega) only [decide_eq_false_iff_not, beq_eq_false_iff_ne, bne_eq_false_iff_eq, Bool.not_eq_false', Int.toNat_natCast, Nat.add_zero, g1, g2, w]; done) | (simp (disch := omega) only [decide_eq_false_iff_not, beq_eq_false_iff_ne, bne_eq_false_iff_eq, ne_eq, Bool.not_eq_false', Int.toNat_natCast, Nat.add_zero, g1, g2, w] <;> omega))
          try simp (disch := omega) only [Int.toNat_natCast, Nat.add_zero, g1, g2, w]
          rfl
      have hd : decG fi vf ⟨tm, kd⟩ = none := by simp [decG, k1, k2, k3, k4, k5]
      rw [hd, passkeyref10_Await_L1_s]
      cases fi <;> cases vf
      · skip
        try unfold shareK
        repeat first
          | (with_reducible apply go_nil; · with_reducible rfl)
          | (with_reducible apply go_cons; · with_reducible rfl)
          | (with_reducible apply go_int; · first | with_reducible rfl | (simp (disch := omega) only [Int.toNat_natCast, Nat.add_zero, g1, g2, w]; done) | (simp (disch := omega) only [Int.toNat_natCast, Nat.add_zero, g1, g2, w]; with_reducible rfl))
          | (with_reducible apply go_bool; · first | with_reducible rfl | (simp (disch := omega) only [Int.toNat_natCast, Nat.add_zero, g1, g2, w]; done) | (simp (disch := omega) only [Int.toNat_natCast, Nat.add_zero, g1, g2, w]; with_reducible rfl))
          | (with_reducible apply go_str; · first | with_reducible rfl | (simp (disch := omega) only [Int.toNat_natCast, Nat.add_zero, g1, g2, w]; done) | (simp (disch := omega) only [Int.toNat_natCast, Nat.add_zero, g1, g2, w]; with_reducible rfl))
          | (with_reducible apply go_any; · first | with_reducible rfl | (simp (disch := omega) only [Int.toNat_natCast, Nat.add_zero, g1, g2, w]; done) | (simp (disch := omega) only [Int.toNat_natCast, Nat.add_zero, g1, g2, w]; with_reducible rfl))
          | (with_reducible apply go_ow; · first | with_reducible rfl | (simp (disch := omega) only [Int.toNat_natCast, Nat.add_zero, g1, g2, w]; done) | (simp (disch := omega) only [Int.toNat_natCast, Nat.add_zero, g1, g2, w]; with_reducible rfl))
          | (with_reducible apply go_ls; · first | with_reducible rfl | (simp (disch := omega) only [Int.toNat_natCast, Nat.add_zero, g1, g2, w]; done) | (simp (disch := omega) only [Int.toNat_natCast, Nat.add_zero, g1, g2, w]; with_reducible rfl))
          | (with_reducible apply go_agg; · first | with_reducible rfl | (simp (disch := omega) only [Int.toNat_natCast, Nat.add_zero, g1, g2, w]; done) | (simp (disch := omega) only [Int.toNat_natCast, Nat.add_zero, g1, g2, w]; with_reducible rfl))
          | (with_reducible apply go_pbox; · first | with_reducible rfl | (simp (disch := omega) only [Int.toNat_natCast, Nat.add_zero, g1, g2, w]; done) | (simp (disch := omega) only [Int.toNat_natCast, Nat.add_zero, g1, g2, w]; with_reducible rfl))
          | (with_reducible apply go_opt; · first | with_reducible rfl | (simp (disch := omega) only [Int.toNat_natCast, Nat.add_zero, g1, g2, w]; done) | (simp (disch := omega) only [Int.toNat_natCast, Nat.add_zero, g1, g2, w]; with_reducible rfl))
          | (with_reducible apply go_chk; · first | with_reducible rfl | omega | (simp (disch := omega) only [Bool.and_eq_true, decide_eq_true_eq, beq_iff_eq, bne_iff_ne, Bool.not_eq_true', true_and, and_true, Int.toNat_natCast, Nat.add_zero, g1, g2, w]; done) | (simp (disch := omega) only [Bool.and_eq_true, decide_eq_true_eq, beq_iff_eq, bne_iff_ne, ne_eq, Bool.not_eq_true', true_and, and_true, Int.toNat_natCast, Nat.add_zero, g1, g2, w] <;> omega))
          | (with_reducible apply go_call; · first | with_reducible rfl | (simp (disch := omega) only [Int.toNat_natCast, Nat.add_zero, g1, g2, w]; done) | (simp (disch := omega) only [Int.toNat_natCast, Nat.add_zero, g1, g2, w]; with_reducible rfl))
          | (with_reducible apply go_brT; · first | with_reducible rfl | omega | (simp (disch := omega) only [Bool.and_eq_true, decide_eq_true_eq, beq_iff_eq, bne_iff_ne, Bool.not_eq_true', true_and, and_true, Int.toNat_natCast, Nat.add_zero, g1, g2, w]; done) | (simp (disch := omega) only [Bool.and_eq_true, decide_eq_true_eq, beq_iff_eq, bne_iff_ne, ne_eq, Bool.not_eq_true', true_and, and_true, Int.toNat_natCast, Nat.add_zero, g1, g2, w] <;> omega))
          | (with_reducible apply go_brF; · first | with_reducible rfl | (simp (disch := omega) only [decide_eq_false_iff_not, beq_eq_false_iff_ne, bne_eq_false_iff_eq, Bool.not_eq_false', Int.toNat_natCast, Nat.add_zero, g1, g2, w]; done) | (simp (disch := omega) only [decide_eq_false_iff_not, beq_eq_false_iff_ne, bne_eq_false_iff_eq, ne_eq, Bool.not_eq_false', Int.toNat_natCast, Nat.add_zero, g1, g2, w] <;> omega))
        try simp (disch := omega) only [Int.toNat_natCast, Nat.add_zero, g1, g2, w]
        exact ih
      · skip
        try unfold shareK
        repeat first
          | (with_reducible apply go_nil; · with_reducible rfl)
          | (with_reducible apply go_cons; · with_reducible rfl)
          | (with_reducible apply go_int; · first | with_reducible rfl | (simp (disch := omega) only [Int.toNat_natCast, Nat.add_zero, g1, g2, w]; done) | (simp (disch := omega) only [Int.toNat_natCast, Nat.add_zero, g1, g2, w]; with_reducible rfl))
          | (with_reducible apply go_bool; · first | with_reducible rfl | (simp (disch := omega) only [Int.toNat_natCast, Nat.add_zero, g1, g2, w]; done) | (simp (disch := omega) only [Int.toNat_natCast, Nat.add_zero, g1, g2, w]; with_reducible rfl))
          | (with_reducible apply go_str; · first | with_reducible rfl | (simp (disch := omega) only [Int.toNat_natCast, Nat.add_zero, g1, g2, w]; done) | (simp (disch := omega) only [Int.toNat_natCast, Nat.add_zero, g1, g2, w]; with_reducible rfl))
          | (with_reducible apply go_any; · first | with_reducible rfl | (simp (disch := omega) only [Int.toNat_natCast, Nat.add_zero, g1, g2, w]; done) | (simp (disch := omega) only [Int.toNat_natCast, Nat.add_zero, g1, g2, w]; with_reducible rfl))
          | (with_reducible apply go_ow; · first | with_reducible rfl | (simp (disch := omega) only [Int.toNat_natCast, Nat.add_zero, g1, g2, w]; done) | (simp (disch := omega) only [Int.toNat_natCast, Nat.add_zero, g1, g2, w]; with_reducible rfl))
          | (with_reducible apply go_ls; · first | with_reducible rfl | (simp (disch := omega) only [Int.toNat_natCast, Nat.add_zero, g1, g2, w]; done) | (simp (disch := omega) only [Int.toNat_natCast, Nat.add_zero, g1, g2, w]; with_reducible rfl))
          | (with_reducible apply go_agg; · first | with_reducible rfl | (simp (disch := omega) only [Int.toNat_natCast, Nat.add_zero, g1, g2, w]; done) | (simp (disch := omega) only [Int.toNat_natCast, Nat.add_zero, g1, g2, w]; with_reducible rfl))
          | (with_reducible apply go_pbox; · first | with_reducible rfl | (simp (disch := omega) only [Int.toNat_natCast, Nat.add_zero, g1, g2, w]; done) | (simp (disch := omega) only [Int.toNat_natCast, Nat.add_zero, g1, g2, w]; with_reducible rfl))
          | (with_reducible apply go_opt; · first | with_reducible rfl | (simp (disch := omega) only [Int.toNat_natCast, Nat.add_zero, g1, g2, w]; done) | (simp (disch := omega) only [Int.toNat_natCast, Nat.add_zero, g1, g2, w]; with_reducible rfl))
          | (with_reducible apply go_chk; · first | with_reducible rfl | omega | (simp (disch := omega) only [Bool.and_eq_true, decide_eq_true_eq, beq_iff_eq, bne_iff_ne, Bool.not_eq_true', true_and, and_true, Int.toNat_natCast, Nat.add_zero, g1, g2, w]; done) | (simp (disch := omega) only [Bool.and_eq_true, decide_eq_true_eq, beq_iff_eq, bne_iff_ne, ne_eq, Bool.not_eq_true', true_and, and_true, Int.toNat_natCast, Nat.add_zero, g1, g2, w] <;> omega))
          | (with_reducible apply go_call; · first | with_reducible rfl | (simp (disch := omega) only [Int.toNat_natCast, Nat.add_zero, g1, g2, w]; done) | (simp (disch := omega) only [Int.toNat_natCast, Nat.add_zero, g1, g2, w]; with_reducible rfl))
          | (with_reducible apply go_brT; · first | with_reducible rfl | omega | (simp (disch := omega) only [Bool.and_eq_true, decide_eq_true_eq, beq_iff_eq, bne_iff_ne, Bool.not_eq_true', true_and, and_true, Int.toNat_natCast, Nat.add_zero, g1, g2, w]; done) | (simp (disch := omega) only [Bool.and_eq_true, decide_eq_true_eq, beq_iff_eq, bne_iff_ne, ne_eq, Bool.not_eq_true', true_and, and_true, Int.toNat_natCast, Nat.add_zero, g1, g2, w] <;> omega))
          | (with_reducible apply go_brF; · first | with_reducible rfl | (simp (disch := omega) only [decide_eq_false_iff_not, beq_eq_false_iff_ne, bne_eq_false_iff_eq, Bool.not_eq_false', Int.toNat_natCast, Nat.add_zero, g1, g2, w]; done) | (simp (disch := omega) only [decide_eq_false_iff_not, beq_eq_false_iff_ne, bne_eq_false_iff_eq, ne_eq, Bool.not_eq_false', Int.toNat_natCast, Nat.add_zero, g1, g2, w] <;> omega))
        try simp (disch := omega) only [Int.toNat_natCast, Nat.add_zero, g1, g2, w]
        exact ih
      · skip
        try unfold shareK
        repeat first
          | (with_reducible apply go_nil; · with_reducible rfl)
          | (with_reducible apply go_cons; · with_reducible rfl)
          | (with_reducible apply go_int; · first | with_reducible rfl | (simp (disch := omega) only [Int.toNat_natCast, Nat.add_zero, g1, g2, w]; done) | (simp (disch := omega) only [Int.toNat_natCast, Nat.add_zero, g1, g2, w]; with_reducible rfl))
          | (with_reducible apply go_bool; · first | with_reducible rfl | (simp (disch := omega) only [Int.toNat_natCast, Nat.add_zero, g1, g2, w]; done) | (simp (disch := omega) only [Int.toNat_natCast, Nat.add_zero, g1, g2, w]; with_reducible rfl))
          | (with_reducible apply go_str; · first | with_reducible rfl | (simp (disch := omega) only [Int.toNat_natCast, Nat.add_zero, g1, g2, w]; done) | (simp (disch := omega) only [Int.toNat_natCast, Nat.add_zero, g1, g2, w]; with_reducible rfl))
          | (with_reducible apply go_any; · first | with_reducible rfl | (simp (disch := omega) only [Int.toNat_natCast, Nat.add_zero, g1, g2, w]; done) | (simp (disch := omega) only [Int.toNat_natCast, Nat.add_zero, g1, g2, w]; with_reducible rfl))
          | (with_reducible apply go_ow; · first | with_reducible rfl | (simp (disch := omega) only [Int.toNat_natCast, Nat.add_zero, g1, g2, w]; done) | (simp (disch := omega) only [Int.toNat_natCast, Nat.add_zero, g1, g2, w]; with_reducible rfl))
          | (with_reducible apply go_ls; · first | with_reducible rfl | (simp (disch := omega) only [Int.toNat_natCast, Nat.add_zero, g1, g2, w]; done) | (simp (disch := omega) only [Int.toNat_natCast, Nat.add_zero, g1, g2, w]; with_reducible rfl))
          | (with_reducible apply go_agg; · first | with_reducible rfl | (simp (disch := omega) only [Int.toNat_natCast, Nat.add_zero, g1, g2, w]; done) | (simp (disch := omega) only [Int.toNat_natCast, Nat.add_zero, g1, g2, w]; with_reducible rfl))
          | (with_reducible apply go_pbox; · first | with_reducible rfl | (simp (disch := omega) only [Int.toNat_natCast, Nat.add_zero, g1, g2, w]; done) | (simp (disch := omega) only [Int.toNat_natCast, Nat.add_zero, g1, g2, w]; with_reducible rfl))
          | (with_reducible apply go_opt; · first | with_reducible rfl | (simp (disch := omega) only [Int.toNat_natCast, Nat.add_zero, g1, g2, w]; done) | (simp (disch := omega) only [Int.toNat_natCast, Nat.add_zero, g1, g2, w]; with_reducible rfl))
          | (with_reducible apply go_chk; · first | with_reducible rfl | omega | (simp (disch := omega) only [Bool.and_eq_true, decide_eq_true_eq, beq_iff_eq, bne_iff_ne, Bool.not_eq_true', true_and, and_true, Int.toNat_natCast, Nat.add_zero, g1, g2, w]; done) | (simp (disch := omega) only [Bool.and_eq_true, decide_eq_true_eq, beq_iff_eq, bne_iff_ne, ne_eq, Bool.not_eq_true', true_and, and_true, Int.toNat_natCast, Nat.add_zero, g1, g2, w] <;> omega))
          | (with_reducible apply go_call; · first | with_reducible rfl | (simp (disch := omega) only [Int.toNat_natCast, Nat.add_zero, g1, g2, w]; done) | (simp (disch := omega) only [Int.toNat_natCast, Nat.add_zero, g1, g2, w]; with_reducible rfl))
          | (with_reducible apply go_brT; · first | with_reducible rfl | omega | (simp (disch := omega) only [Bool.and_eq_true, decide_eq_true_eq, beq_iff_eq, bne_iff_ne, Bool.not_eq_true', true_and, and_true, Int.toNat_natCast, Nat.add_zero, g1, g2, w]; done) | (simp (disch := omega) only [Bool.and_eq_true, decide_eq_true_eq, beq_iff_eq, bne_iff_ne, ne_eq, Bool.not_eq_true', true_and, and_true, Int.toNat_natCast, Nat.add_zero, g1, g2, w] <;> omega))
          | (with_reducible apply go_brF; · first | with_reducible rfl | (simp (disch := omega) only [decide_eq_false_iff_not, beq_eq_false_iff_ne, bne_eq_false_iff_eq, Bool.not_eq_false', Int.toNat_natCast, Nat.add_zero, g1, g2, w]; done) | (simp (disch := omega) only [decide_eq_false_iff_not, beq_eq_false_iff_ne, bne_eq_false_iff_eq, ne_eq, Bool.not_eq_false', Int.toNat_natCast, Nat.add_zero, g1, g2, w] <;> omega))
        try simp (disch := omega) only [Int.toNat_natCast, Nat.add_zero, g1, g2, w]
        exact ih
      · skip
        try unfold shareK
        repeat first
          | (with_reducible apply go_nil; · with_reducible rfl)
          | (with_reducible apply go_cons; · with_reducible rfl)
          | (with_reducible apply go_int; · first | with_reducible rfl | (simp (disch := omega) only [Int.toNat_natCast, Nat.add_zero, g1, g2, w]; done) | (simp (disch := omega) only [Int.toNat_natCast, Nat.add_zero, g1, g2, w]; with_reducible rfl))
          | (with_reducible apply go_bool; · first | with_reducible rfl | (simp (disch := omega) only [Int.toNat_natCast, Nat.add_zero, g1, g2, w]; done) | (simp (disch := omega) only [Int.toNat_natCast, Nat.add_zero, g1, g2, w]; with_reducible rfl))
          | (with_reducible apply go_str; · first | with_reducible rfl | (simp (disch := omega) only [Int.toNat_natCast, Nat.add_zero, g1, g2, w]; done) | (simp (disch := omega) only [Int.toNat_natCast, Nat.add_zero, g1, g2, w]; with_reducible rfl))
          | (with_reducible apply go_any; · first | with_reducible rfl | (simp (disch := omega) only [Int.toNat_natCast, Nat.add_zero, g1, g2, w]; done) | (simp (disch := omega) only [Int.toNat_natCast, Nat.add_zero, g1, g2, w]; with_reducible rfl))
          | (with_reducible apply go_ow; · first | with_reducible rfl | (simp (disch := omega) only [Int.toNat_natCast, Nat.add_zero, g1, g2, w]; done) | (simp (disch := omega) only [Int.toNat_natCast, Nat.add_zero, g1, g2, w]; with_reducible rfl))
          | (with_reducible apply go_ls; · first | with_reducible rfl | (simp (disch := omega) only [Int.toNat_natCast, Nat.add_zero, g1, g2, w]; done) | (simp (disch := omega) only [Int.toNat_natCast, Nat.add_zero, g1, g2, w]; with_reducible rfl))
          | (with_reducible apply go_agg; · first | with_reducible rfl | (simp (disch := omega) only [Int.toNat_natCast, Nat.add_zero, g1, g2, w]; done) | (simp (disch := omega) only [Int.toNat_natCast, Nat.add_zero, g1, g2, w]; with_reducible rfl))
          | (with_reducible apply go_pbox; · first | with_reducible rfl | (simp (disch := omega) only [Int.toNat_natCast, Nat.add_zero, g1, g2, w]; done) | (simp (disch := omega) only [Int.toNat_natCast, Nat.add_zero, g1, g2, w]; with_reducible rfl))
          | (with_reducible apply go_opt; · first | with_reducible rfl | (simp (disch := omega) only [Int.toNat_natCast, Nat.add_zero, g1, g2, w]; done) | (simp (disch := omega) only [Int.toNat_natCast, Nat.add_zero, g1, g2, w]; with_reducible rfl))
          | (with_reducible apply go_chk; · first | with_reducible rfl | omega | (simp (disch := omega) only [Bool.and_eq_true, decide_eq_true_eq, beq_iff_eq, bne_iff_ne, Bool.not_eq_true', true_and, and_true, Int.toNat_natCast, Nat.add_zero, g1, g2, w]; done) | (simp (disch := omega) only [Bool.and_eq_true, decide_eq_true_eq, beq_iff_eq, bne_iff_ne, ne_eq, Bool.not_eq_true', true_and, and_true, Int.toNat_natCast, Nat.add_zero, g1, g2, w] <;> omega))
          | (with_reducible apply go_call; · first | with_reducible rfl | (simp (disch := omega) only [Int.toNat_natCast, Nat.add_zero, g1, g2, w]; done) | (simp (disch := omega) only [Int.toNat_natCast, Nat.add_zero, g1, g2, w]; with_reducible rfl))
          | (with_reducible apply go_brT; · first | with_reducible rfl | omega | (simp (disch := omega) only [Bool.and_eq_true, decide_eq_true_eq, beq_iff_eq, bne_iff_ne, Bool.not_eq_true', true_and, and_true, Int.toNat_natCast, Nat.add_zero, g1, g2, w]; done) | (simp (disch := omega) only [Bool.and_eq_true, decide_eq_true_eq, beq_iff_eq, bne_iff_ne, ne_eq, Bool.not_eq_true', true_and, and_true, Int.toNat_natCast, Nat.add_zero, g1, g2, w] <;> omega))
          | (with_reducible apply go_brF; · first | with_reducible rfl | (simp (disch := omega) only [decide_eq_false_iff_not, beq_eq_false_iff_ne, bne_eq_false_iff_eq, Bool.not_eq_false', Int.toNat_natCast, Nat.add_zero, g1, g2, w]; done) | (simp (disch := omega) only [decide_eq_false_iff_not, beq_eq_false_iff_ne, bne_eq_false_iff_eq, ne_eq, Bool.not_eq_false', Int.toNat_natCast, Nat.add_zero, g1, g2, w] <;> omega))
        try simp (disch := omega) only [Int.toNat_natCast, Nat.add_zero, g1, g2, w]
        exact ih
    · rw [List.filter_cons, if_neg (by simpa using ht), passkeyref10_Await_L1_s]
      try unfold shareK
      repeat first
        | (with_reducible apply go_nil; · with_reducible rfl)
        | (with_reducible apply go_cons; · with_reducible rfl)
        | (with_reducible apply go_int; · first | with_reducible rfl | (simp (disch := omega) only [Int.toNat_natCast, Nat.add_zero, g1, g2, w]; done) | (simp (disch := omega) only [Int.toNat_natCast, Nat.add_zero, g1, g2, w]; with_reducible rfl))
        | (with_reducible apply go_bool; · first | with_reducible rfl | (simp (disch := omega) only [Int.toNat_natCast, Nat.add_zero, g1, g2, w]; done) | (simp (disch := omega) only [Int.toNat_natCast, Nat.add_zero, g1, g2, w]; with_reducible rfl))
        | (with_reducible apply go_str; · first | with_reducible rfl | (simp (disch := omega) only [Int.toNat_natCast, Nat.add_zero, g1, g2, w]; done) | (simp (disch := omega) only [Int.toNat_natCast, Nat.add_zero, g1, g2, w]; with_reducible rfl))
        | (with_reducible apply go_any; · first | with_reducible rfl | (simp (disch := omega) only [Int.toNat_natCast, Nat.add_zero, g1, g2, w]; done) | (simp (disch := omega) only [Int.toNat_natCast, Nat.add_zero, g1, g2, w]; with_reducible rfl))
        | (with_reducible apply go_ow; · first | with_reducible rfl | (simp (disch := omega) only [Int.toNat_natCast, Nat.add_zero, g1, g2, w]; done) | (simp (disch := omega) only [Int.toNat_natCast, Nat.add_zero, g1, g2, w]; with_reducible rfl))
        | (with_reducible apply go_ls; · first | with_reducible rfl | (simp (disch := omega) only [Int.toNat_natCast, Nat.add_zero, g1, g2, w]; done) | (simp (disch := omega) only [Int.toNat_natCast, Nat.add_zero, g1, g2, w]; with_reducible rfl))
        | (with_reducible apply go_agg; · first | with_reducible rfl | (simp (disch := omega) only [Int.toNat_natCast, Nat.add_zero, g1, g2, w]; done) | (simp (disch := omega) only [Int.toNat_natCast, Nat.add_zero, g1, g2, w]; with_reducible rfl))
        | (with_reducible apply go_pbox; · first | with_reducible rfl | (simp (disch := omega) only [Int.toNat_natCast, Nat.add_zero, g1, g2, w]; done) | (simp (disch := omega) only [Int.toNat_natCast, Nat.add_zero, g1, g2, w]; with_reducible rfl))
        | (with_reducible apply go_opt; · first | with_reducible rfl | (simp (disch := omega) only [Int.toNat_natCast, Nat.add_zero, g1, g2, w]; done) | (simp (disch := omega) only [Int.toNat_natCast, Nat.add_zero, g1, g2, w]; with_reducible rfl))
        | (with_reducible apply go_chk; · first | with_reducible rfl | omega | (simp (disch := omega) only [Bool.and_eq_true, decide_eq_true_eq, beq_iff_eq, bne_iff_ne, Bool.not_eq_true', true_and, and_true, Int.toNat_natCast, Nat.add_zero, g1, g2, w]; done) | (simp (disch := omega) only [Bool.and_eq_true, decide_eq_true_eq, beq_iff_eq, bne_iff_ne, ne_eq, Bool.not_eq_true', true_and, and_true, Int.toNat_natCast, Nat.add_zero, g1, g2, w] <;> omega))
        | (with_reducible apply go_call; · first | with_reducible rfl | (simp (disch := omega) only [Int.toNat_natCast, Nat.add_zero, g1, g2, w]; done) | (simp (disch := omega) only [Int.toNat_natCast, Nat.add_zero, g1, g2, w]; with_reducible rfl))
        | (with_reducible apply go_brT; · first | with_reducible rfl | omega | (simp (disch := omega) only [Bool.and_eq_true, decide_eq_true_eq, beq_iff_eq, bne_iff_ne, Bool.not_eq_true', true_and, and_true, Int.toNat_natCast, Nat.add_zero, g1, g2, w]; done) | (simp (disch := omega) only [Bool.and_eq_true, decide_eq_true_eq, beq_iff_eq, bne_iff_ne, ne_eq, Bool.not_eq_true', true_and, and_true, Int.toNat_natCast, Nat.add_zero, g1, g2, w] <;> omega))
        | (with_reducible apply go_brF; · first | with_reducible rfl | (simp (disch := omega) only [decide_eq_false_iff_not, beq_eq_false_iff_ne, bne_eq_false_iff_eq, Bool.not_eq_false', Int.toNat_natCast, Nat.add_zero, g1, g2, w]; done) | (simp (disch := omega) only [decide_eq_false_iff_not, beq_eq_false_iff_ne, bne_eq_false_iff_eq, ne_eq, Bool.not_eq_false', Int.toNat_natCast, Nat.add_zero, g1, g2, w] <;> omega))
      try simp (disch := omega) only [Int.toNat_natCast, Nat.add_zero, g1, g2, w]
      exact ih

theorem scanE_app (fi vf : Bool) (a b : List Ge) : scanE fi vf (a ++ b) = match a.findSome? (decG fi vf) with
    | some o => o
    | none => scanE fi vf b := by
  unfold scanE
  rw [List.findSome?_append]
  cases a.findSome? (decG fi vf) <;> rfl

theorem ref_outer {call : Call'} {a0 now y9 : Int} {b1 b2 y7 y8 fi vf : Bool} {n : Nat} {c : List PV} {l : List Ge} (hfu : 1000 < fu) (hl : l.length ≤ 100) (h0 : 0 ≤ now) (h1 : now ≤ 1099511627776) (hx : ¬ (vf = true ∧ fi = false)) : ∀ (k nn : Nat) (at' : Int), at' + k = endE now + 1 → now + 1 ≤ at' → k < nn →
    passkeyref10_Await_L0 fu call a0 b1 b2 n c nn now fi vf l.length (encG l) at' y7 y8 y9 = some ⟨(scanE fi vf (rowsG at' k l)).res, []⟩
  | _, 0, _, _, _, h => by omega
  | 0, nn + 1, at', h2, h3, h4 => by
    have w : IntKind.wrap .i64 (now + 30) = now + 30 := wrap_i64 (by omega) (by omega)
    have hen : (if (1099511627776 : Int) < now + 30 then (1099511627776 : Int) else now + 30) = endE now := rfl
    rw [passkeyref10_Await_L0_s]
    simp only [nd_share, w, hen]
    rw [nd_brf _ _ _ (by omega)]
    rfl
  | k + 1, nn + 1, at', h2, h3, h4 => by
    have w : IntKind.wrap .i64 (now + 30) = now + 30 := wrap_i64 (by omega) (by omega)
    have hen : (if (1099511627776 : Int) < now + 30 then (1099511627776 : Int) else now + 30) = endE now := rfl
    have hE : endE now ≤ 1099511627776 := by unfold endE; split <;> omega
    have ih := ref_outer (call := call) (a0 := a0) (y9 := y9) (b1 := b1) (b2 := b2) (y7 := y7) (y8 := y8) (n := n) (c := c) hfu hl h0 h1 hx k nn (at' + 1) (by omega) (by omega) (by omega)
    have hi := ref_inner (fu := fu) (call := call) (a0 := a0) (now := now) (at' := at') (y9 := y9) (b1 := b1) (b2 := b2) (y7 := y7) (y8 := y8) (fi := fi) (vf := vf) (n := n) (m0 := nn) (c := c) (l := l) (by omega) (by omega) (by omega) hx l fu 0 rfl (by omega) (by omega)
    rw [passkeyref10_Await_L0_s]
    simp only [nd_share, w, hen]
    rw [nd_brt _ _ _ (by omega), rowsG, scanE_app]
    refine Eq.trans hi ?_
    cases (l.filter (fun g => g.tm == at')).findSome? (decG fi vf) with
    | some o => rfl
    | none => exact ih

theorem ref_eq (hfu : 1000 < fu) {l : List Ge} (hl : l.length ≤ 100) (now : Int) (fi vf : Bool) :
    pcall C0 Try.prog fu (d + 1) F_passkeyref10_Await [.sc (.int .i64 now), .sc (.bool fi), .sc (.bool vf), .lst false 2 l.length (encG l)] = some ⟨(awaitE now fi vf l).res, []⟩ := by
  rw [passkeyref10_Await_e]
  unfold awaitE
  by_cases h0 : now < 0
  · simp (disch := omega) only [nd_call, nd_nil, nd_cons, nd_bool, nd_str, nd_int, nd_any, nd_ls, nd_ow, nd_agg, nd_pbox, nd_opt, nd_share, nd_chk, nd_chkd, nd_chka, nd_brT, nd_brF, nd_brt, nd_brf, nd_both, Bool.not_true, Bool.not_false, Bool.false_eq_true, if_true, if_false, Bool.true_and, Bool.and_true, Bool.false_and, Bool.and_false, decide_true, decide_false, h0, Out4.res]
  by_cases h1 : 1099511627776 < now
  · simp (disch := omega) only [nd_call, nd_nil, nd_cons, nd_bool, nd_str, nd_int, nd_any, nd_ls, nd_ow, nd_agg, nd_pbox, nd_opt, nd_share, nd_chk, nd_chkd, nd_chka, nd_brT, nd_brF, nd_brt, nd_brf, nd_both, Bool.not_true, Bool.not_false, Bool.false_eq_true, if_true, if_false, Bool.true_and, Bool.and_true, Bool.false_and, Bool.and_false, decide_true, decide_false, h0, h1, gt_iff_lt, Out4.res]
  have w : IntKind.wrap .i64 (now + 1) = now + 1 := wrap_i64 (by omega) (by omega)
  have hE : now ≤ endE now := by unfold endE; split <;> omega
  have hE2 : endE now ≤ now + 30 := by unfold endE; split <;> omega
  have lp := fun hx => ref_outer (fu := fu) (call := pcall C0 Try.prog fu d) (a0 := now) (now := now) (b1 := fi) (b2 := vf) (n := l.length) (c := encG l) (fi := fi) (vf := vf) (y7 := false) (y8 := false) (y9 := 0) (l := l) hfu hl (by omega) (by omega) hx (endE now - now).toNat fu (now + 1) (by omega) (by omega) (by omega)
  cases fi <;> cases vf
  · simp only [if_neg h0, if_neg h1, Bool.false_eq_true, false_and, if_false]
    simp (disch := omega) only [nd_call, nd_nil, nd_cons, nd_bool, nd_str, nd_int, nd_any, nd_ls, nd_ow, nd_agg, nd_pbox, nd_opt, nd_share, nd_chk, nd_chkd, nd_chka, nd_brT, nd_brF, nd_brt, nd_brf, nd_both, Bool.not_true, Bool.not_false, Bool.false_eq_true, if_true, if_false, Bool.true_and, Bool.and_true, Bool.false_and, Bool.and_false, decide_true, decide_false, gt_iff_lt, h0, h1, w]
    exact lp (by simp)
  · simp (disch := omega) only [nd_call, nd_nil, nd_cons, nd_bool, nd_str, nd_int, nd_any, nd_ls, nd_ow, nd_agg, nd_pbox, nd_opt, nd_share, nd_chk, nd_chkd, nd_chka, nd_brT, nd_brF, nd_brt, nd_brf, nd_both, Bool.not_true, Bool.not_false, Bool.false_eq_true, if_true, if_false, Bool.true_and, Bool.and_true, Bool.false_and, Bool.and_false, decide_true, decide_false, h0, h1, gt_iff_lt, Out4.res, and_self]
  · simp only [if_neg h0, if_neg h1, Bool.false_eq_true, false_and, if_false]
    simp (disch := omega) only [nd_call, nd_nil, nd_cons, nd_bool, nd_str, nd_int, nd_any, nd_ls, nd_ow, nd_agg, nd_pbox, nd_opt, nd_share, nd_chk, nd_chkd, nd_chka, nd_brT, nd_brF, nd_brt, nd_brf, nd_both, Bool.not_true, Bool.not_false, Bool.false_eq_true, if_true, if_false, Bool.true_and, Bool.and_true, Bool.false_and, Bool.and_false, decide_true, decide_false, gt_iff_lt, h0, h1, w]
    exact lp (by simp)
  · simp only [if_neg h0, if_neg h1, Bool.true_eq_false, and_false, if_false]
    simp (disch := omega) only [nd_call, nd_nil, nd_cons, nd_bool, nd_str, nd_int, nd_any, nd_ls, nd_ow, nd_agg, nd_pbox, nd_opt, nd_share, nd_chk, nd_chkd, nd_chka, nd_brT, nd_brF, nd_brt, nd_brf, nd_both, Bool.not_true, Bool.not_false, Bool.false_eq_true, if_true, if_false, Bool.true_and, Bool.and_true, Bool.false_and, Bool.and_false, decide_true, decide_false, gt_iff_lt, h0, h1, w]
    exact lp (by simp)

theorem awake_eq (hfu : 1000 < fu) : pcall C0 Try.prog fu (d + 109) F_passkeylaw13_awake [] = some ⟨[.sc (.bool true)], []⟩ := by
  have a1 := await_eq (fu := fu) (d := d) hfu (l := [⟨10, 1⟩]) (by simp) 10 false false
  have a2 := await_eq (fu := fu) (d := d) hfu (l := [⟨11, 1⟩]) (by simp) 10 false false
  have a3 := await_eq (fu := fu) (d := d) hfu (l := []) (by simp) 10 false true
  have e1 : awaitE 10 false false [⟨10, 1⟩] = ⟨false, false, 0, 19⟩ := by kernel_rfl
  have e2 : awaitE 10 false false [⟨11, 1⟩] = ⟨true, false, 11, 0⟩ := by kernel_rfl
  have e3 : awaitE 10 false true [] = ⟨false, false, 0, 23⟩ := by kernel_rfl
  rw [e1] at a1
  rw [e2] at a2
  rw [e3] at a3
  simp only [encG, List.flatMap_cons, List.flatMap_nil, Ge.cells, List.append_nil, List.length_cons, List.length_nil, Nat.zero_add, Out4.res] at a1 a2 a3
  rw [passkeylaw13_awake_e]
  simp (disch := omega) only [nd_call, nd_nil, nd_cons, nd_bool, nd_str, nd_int, nd_any, nd_ls, nd_ow, nd_agg, nd_pbox, nd_opt, nd_share, nd_chk, nd_chkd, nd_chka, nd_brT, nd_brF, nd_brt, nd_brf, nd_both, Bool.not_true, Bool.not_false, Bool.false_eq_true, if_true, if_false, Bool.true_and, Bool.and_true, Bool.false_and, Bool.and_false, decide_true, decide_false, a1, a2, a3, beq_self_eq_true]

theorem made_loop {call : Call'} {a0 now : Int} {n : Nat} {c : List PV} {m : List Int} : ∀ (k nn : Nat) (acc : List Ge), 8 - acc.length = k → k < nn → acc.length ≤ 8 → acc.length ≤ m.length →
    ∃ x : List Ge, x.length ≤ 8 ∧ passkeylaw13_made_L0 fu call a0 n c nn now m.length (encI .u16 m) acc.length acc.length (encG acc) = some ⟨[.own 2 x.length (encG x)], []⟩
  | _, 0, _, _, h, _, _ => by omega
  | k, nn + 1, acc, hk, hn, h8, hm => by
    have t1 : List.take (acc.length * 2) (encG acc) = encG acc := List.take_of_length_le (by rw [encG_len]; omega)
    have L := encG_len acc
    rw [passkeylaw13_made_L0_s]
    by_cases c1 : acc.length < m.length
    · by_cases c2 : acc.length < 8
      · obtain ⟨z, hz⟩ : ∃ z, m[acc.length]? = some z := ⟨_, List.getElem?_eq_getElem c1⟩
        have w : IntKind.wrap .i64 ((acc.length : Int) + 1) = ((acc.length + 1 : Nat) : Int) := by rw [wrap_i64 (by omega) (by omega)]; omega
        have t2 : ∀ a b : Int, encG acc ++ [PV.sc (.int .i64 a), PV.sc (.int .i64 b)] = encG (acc ++ [⟨a, b⟩]) := by intro a b; rw [encG_app]; rfl
        simp (disch := omega) only [nd_call, nd_nil, nd_cons, nd_bool, nd_str, nd_int, nd_any, nd_ls, nd_ow, nd_agg, nd_pbox, nd_opt, nd_share, nd_chk, nd_chkd, nd_chka, nd_brT, nd_brF, nd_brt, nd_brf, nd_both, Bool.not_true, Bool.not_false, Bool.false_eq_true, if_true, if_false, Bool.true_and, Bool.and_true, Bool.false_and, Bool.and_false, decide_true, decide_false, Int.toNat_natCast, Nat.mul_one, ati hz, t1, t2, w]
        have := fun g => made_loop (call := call) (a0 := a0) (now := now) (n := n) (c := c) (m := m) (k - 1) nn (acc ++ [g]) (by simp; omega) (by omega) (by simp; omega) (by simp; omega)
        simp only [List.length_append, List.length_cons, List.length_nil, Nat.zero_add] at this
        exact this _
      · refine ⟨acc, h8, ?_⟩
        simp (disch := omega) only [nd_call, nd_nil, nd_cons, nd_bool, nd_str, nd_int, nd_any, nd_ls, nd_ow, nd_agg, nd_pbox, nd_opt, nd_share, nd_chk, nd_chkd, nd_chka, nd_brT, nd_brF, nd_brt, nd_brf, nd_both, Bool.not_true, Bool.not_false, Bool.false_eq_true, if_true, if_false, Bool.true_and, Bool.and_true, Bool.false_and, Bool.and_false, decide_true, decide_false, t1]
    · refine ⟨acc, h8, ?_⟩
      simp (disch := omega) only [nd_call, nd_nil, nd_cons, nd_bool, nd_str, nd_int, nd_any, nd_ls, nd_ow, nd_agg, nd_pbox, nd_opt, nd_share, nd_chk, nd_chkd, nd_chka, nd_brT, nd_brF, nd_brt, nd_brf, nd_both, Bool.not_true, Bool.not_false, Bool.false_eq_true, if_true, if_false, Bool.true_and, Bool.and_true, Bool.false_and, Bool.and_false, decide_true, decide_false, t1]
theorem made_ex (hfu : 1000 < fu) (now : Int) (m : List Int) : ∃ x : List Ge, x.length ≤ 8 ∧ pcall C0 Try.prog fu (d + 1) F_passkeylaw13_made [.sc (.int .i64 now), .lst false 1 m.length (encI .u16 m)] = some ⟨[.own 2 x.length (encG x)], []⟩ := by
  rw [passkeylaw13_made_e]
  exact made_loop 8 fu [] (by simp) (by omega) (by simp) (by simp)
end

theorem iand3 (a : Int) : 0 ≤ iand .u16 a 3 ∧ iand .u16 a 3 ≤ 3 := by
  have hle : (BitVec.ofInt 16 a &&& BitVec.ofInt 16 3).toNat ≤ 3 := by
    rw [BitVec.toNat_and]
    exact Nat.le_trans Nat.and_le_right (by decide)
  have : iand .u16 a 3 = ((BitVec.ofInt 16 a &&& BitVec.ofInt 16 3).toNat : Int) := by
    show IntKind.wrap .u16 ((BitVec.ofInt 16 a &&& BitVec.ofInt 16 3).toNat : Int) = _
    generalize (BitVec.ofInt 16 a &&& BitVec.ofInt 16 3).toNat = z at hle
    simp only [IntKind.wrap, IntKind.signed, IntKind.bits]
    simp
    omega
  rw [this]
  omega

theorem wtv_ges {p : PV} (h : WTv Try.prog 22 p) : ∃ l : List Ge, p = .lst false 2 l.length (encG l) := by
  obtain ⟨rows, rfl, hl, hr⟩ := wtv_sl (e := 36) (by kernel_rfl) (by kernel_rfl) h
  obtain ⟨xs, h1, h2, _⟩ := rows_native Ge.cells (fun _ => True) (rows := rows) fun r hr' => by
    obtain ⟨v0, v1, rfl, _⟩ := ka_api_Gesture (hr r hr').2
    exact ⟨⟨v0, v1⟩, rfl, trivial⟩
  refine ⟨xs, ?_⟩
  rw [h1, h2]
  rfl

theorem consentAwaits_plain (qs : List PV) (h : All2 (WTv Try.prog) [3, 4, 4, 22, 23, 24] qs) : ∃ C fu d, pcall C Try.prog fu d F_passkeylaw13_ConsentAwaits qs = some ⟨[.sc (.bool true)], []⟩ := by
  obtain ⟨q0, _, rfl, h0, g⟩ := h.cons_inv
  obtain ⟨q1, _, rfl, h1, g⟩ := g.cons_inv
  obtain ⟨q2, _, rfl, h2, g⟩ := g.cons_inv
  obtain ⟨q3, _, rfl, h3, g⟩ := g.cons_inv
  obtain ⟨q4, _, rfl, h4, g⟩ := g.cons_inv
  obtain ⟨q5, _, rfl, h5, g⟩ := g.cons_inv
  obtain rfl := g.nil_inv
  clear h g
  obtain ⟨now, rfl, _⟩ := wtv_int (k := .i64) (by kernel_rfl) (by kernel_rfl) h0
  obtain ⟨fi, rfl⟩ := wtv_bool (by kernel_rfl) (by kernel_rfl) h1
  obtain ⟨vf, rfl⟩ := wtv_bool (by kernel_rfl) (by kernel_rfl) h2
  obtain ⟨l, rfl⟩ := wtv_ges h3
  obtain ⟨m, rfl, _, _⟩ := wtv_ints (k := .u16) (e := 24) (by kernel_rfl) (by kernel_rfl) (by kernel_rfl) (by kernel_rfl) h4
  obtain ⟨s, rfl, _⟩ := wtv_int (k := .u16) (by kernel_rfl) (by kernel_rfl) h5
  clear h0 h1 h2 h3 h4 h5
  obtain ⟨fu, hfu'⟩ : ∃ fu, fu = 2000 := ⟨_, rfl⟩
  have hfu : 1000 < fu := by omega
  refine ⟨C0, fu, 110, ?_⟩
  have aw := awake_eq (fu := fu) (d := 0) hfu
  rw [passkeylaw13_ConsentAwaits_e]
  by_cases hl : 50 < l.length
  · skip
    try unfold shareK
    repeat first
      | (with_reducible apply go_nil; · with_reducible rfl)
      | (with_reducible apply go_cons; · with_reducible rfl)
      | (with_reducible apply go_int; · first | with_reducible rfl | (simp (disch := omega) only [aw]; done) | (simp (disch := omega) only [aw]; with_reducible rfl))
      | (with_reducible apply go_bool; · first | with_reducible rfl | (simp (disch := omega) only [aw]; done) | (simp (disch := omega) only [aw]; with_reducible rfl))
      | (with_reducible apply go_str; · first | with_reducible rfl | (simp (disch := omega) only [aw]; done) | (simp (disch := omega) only [aw]; with_reducible rfl))
      | (with_reducible apply go_any; · first | with_reducible rfl | (simp (disch := omega) only [aw]; done) | (simp (disch := omega) only [aw]; with_reducible rfl))
      | (with_reducible apply go_ow; · first | with_reducible rfl | (simp (disch := omega) only [aw]; done) | (simp (disch := omega) only [aw]; with_reducible rfl))
      | (with_reducible apply go_ls; · first | with_reducible rfl | (simp (disch := omega) only [aw]; done) | (simp (disch := omega) only [aw]; with_reducible rfl))
      | (with_reducible apply go_agg; · first | with_reducible rfl | (simp (disch := omega) only [aw]; done) | (simp (disch := omega) only [aw]; with_reducible rfl))
      | (with_reducible apply go_pbox; · first | with_reducible rfl | (simp (disch := omega) only [aw]; done) | (simp (disch := omega) only [aw]; with_reducible rfl))
      | (with_reducible apply go_opt; · first | with_reducible rfl | (simp (disch := omega) only [aw]; done) | (simp (disch := omega) only [aw]; with_reducible rfl))
      | (with_reducible apply go_chk; · first | with_reducible rfl | omega | (simp (disch := omega) only [Bool.and_eq_true, decide_eq_true_eq, beq_iff_eq, bne_iff_ne, Bool.not_eq_true', true_and, and_true, aw]; done) | (simp (disch := omega) only [Bool.and_eq_true, decide_eq_true_eq, beq_iff_eq, bne_iff_ne, ne_eq, Bool.not_eq_true', true_and, and_true, aw] <;> omega))
      | (with_reducible apply go_call; · first | with_reducible rfl | (simp (disch := omega) only [aw]; done) | (simp (disch := omega) only [aw]; with_reducible rfl))
      | (with_reducible apply go_brT; · first | with_reducible rfl | omega | (simp (disch := omega) only [Bool.and_eq_true, decide_eq_true_eq, beq_iff_eq, bne_iff_ne, Bool.not_eq_true', true_and, and_true, aw]; done) | (simp (disch := omega) only [Bool.and_eq_true, decide_eq_true_eq, beq_iff_eq, bne_iff_ne, ne_eq, Bool.not_eq_true', true_and, and_true, aw] <;> omega))
      | (with_reducible apply go_brF; · first | with_reducible rfl | (simp (disch := omega) only [decide_eq_false_iff_not, beq_eq_false_iff_ne, bne_eq_false_iff_eq, Bool.not_eq_false', aw]; done) | (simp (disch := omega) only [decide_eq_false_iff_not, beq_eq_false_iff_ne, bne_eq_false_iff_eq, ne_eq, Bool.not_eq_false', aw] <;> omega))
    try simp (disch := omega) only [aw]
  · have b3 := iand3 (ishr .u16 s 12)
    obtain ⟨z, hz⟩ : ∃ z, List.getD [PV.sc (Value.int IntKind.i64 (IntKind.wrap .i64 s)), PV.sc (Value.int IntKind.i64 (0 : Int)), PV.sc (Value.int IntKind.i64 (1099511627776 : Int)), PV.sc (Value.int IntKind.i64 (1099511627771 : Int))] ((0 : Nat) + Int.toNat (iand IntKind.u16 (ishr IntKind.u16 s (12 : Int)) (3 : Int)) * (1 : Nat)) PV.top = .sc (.int .i64 z) := by
      generalize iand .u16 (ishr .u16 s 12) 3 = w at b3
      have : w = 0 ∨ w = 1 ∨ w = 2 ∨ w = 3 := by omega
      rcases this with e | e | e | e <;> subst e <;> exact ⟨_, rfl⟩
    have k1 := await_eq (fu := fu) (d := 1) hfu (l := l) (by omega) now fi vf
    have k2 := ref_eq (fu := fu) (d := 108) hfu (l := l) (by omega) now fi vf
    obtain ⟨x, hx, k3⟩ := made_ex (fu := fu) (d := 108) hfu z m
    have k4 := await_eq (fu := fu) (d := 1) hfu (l := x) (by omega) z fi vf
    have k5 := ref_eq (fu := fu) (d := 108) hfu (l := x) (by omega) z fi vf
    have t1 : List.take (x.length * 2) (List.drop 0 (encG x)) = encG x := List.take_of_length_le (by rw [List.drop_zero, encG_len]; omega)
    have L := encG_len x
    simp only [Out4.res] at k1 k2 k4 k5
    try unfold shareK
    repeat first
      | (with_reducible apply go_nil; · with_reducible rfl)
      | (with_reducible apply go_cons; · with_reducible rfl)
      | (with_reducible apply go_int; · first | with_reducible rfl | (simp (disch := omega) only [hz, k1, k2, k3, k4, k5, t1, aw, beq_self_eq_true, Bool.and_true]; done) | (simp (disch := omega) only [hz, k1, k2, k3, k4, k5, t1, aw, beq_self_eq_true, Bool.and_true]; with_reducible rfl))
      | (with_reducible apply go_bool; · first | with_reducible rfl | (simp (disch := omega) only [hz, k1, k2, k3, k4, k5, t1, aw, beq_self_eq_true, Bool.and_true]; done) | (simp (disch := omega) only [hz, k1, k2, k3, k4, k5, t1, aw, beq_self_eq_true, Bool.and_true]; with_reducible rfl))
      | (with_reducible apply go_str; · first | with_reducible rfl | (simp (disch := omega) only [hz, k1, k2, k3, k4, k5, t1, aw, beq_self_eq_true, Bool.and_true]; done) | (simp (disch := omega) only [hz, k1, k2, k3, k4, k5, t1, aw, beq_self_eq_true, Bool.and_true]; with_reducible rfl))
      | (with_reducible apply go_any; · first | with_reducible rfl | (simp (disch := omega) only [hz, k1, k2, k3, k4, k5, t1, aw, beq_self_eq_true, Bool.and_true]; done) | (simp (disch := omega) only [hz, k1, k2, k3, k4, k5, t1, aw, beq_self_eq_true, Bool.and_true]; with_reducible rfl))
      | (with_reducible apply go_ow; · first | with_reducible rfl | (simp (disch := omega) only [hz, k1, k2, k3, k4, k5, t1, aw, beq_self_eq_true, Bool.and_true]; done) | (simp (disch := omega) only [hz, k1, k2, k3, k4, k5, t1, aw, beq_self_eq_true, Bool.and_true]; with_reducible rfl))
      | (with_reducible apply go_ls; · first | with_reducible rfl | (simp (disch := omega) only [hz, k1, k2, k3, k4, k5, t1, aw, beq_self_eq_true, Bool.and_true]; done) | (simp (disch := omega) only [hz, k1, k2, k3, k4, k5, t1, aw, beq_self_eq_true, Bool.and_true]; with_reducible rfl))
      | (with_reducible apply go_agg; · first | with_reducible rfl | (simp (disch := omega) only [hz, k1, k2, k3, k4, k5, t1, aw, beq_self_eq_true, Bool.and_true]; done) | (simp (disch := omega) only [hz, k1, k2, k3, k4, k5, t1, aw, beq_self_eq_true, Bool.and_true]; with_reducible rfl))
      | (with_reducible apply go_pbox; · first | with_reducible rfl | (simp (disch := omega) only [hz, k1, k2, k3, k4, k5, t1, aw, beq_self_eq_true, Bool.and_true]; done) | (simp (disch := omega) only [hz, k1, k2, k3, k4, k5, t1, aw, beq_self_eq_true, Bool.and_true]; with_reducible rfl))
      | (with_reducible apply go_opt; · first | with_reducible rfl | (simp (disch := omega) only [hz, k1, k2, k3, k4, k5, t1, aw, beq_self_eq_true, Bool.and_true]; done) | (simp (disch := omega) only [hz, k1, k2, k3, k4, k5, t1, aw, beq_self_eq_true, Bool.and_true]; with_reducible rfl))
      | (with_reducible apply go_chk; · first | with_reducible rfl | omega | (simp (disch := omega) only [Bool.and_eq_true, decide_eq_true_eq, beq_iff_eq, bne_iff_ne, Bool.not_eq_true', true_and, and_true, hz, k1, k2, k3, k4, k5, t1, aw, beq_self_eq_true, Bool.and_true]; done) | (simp (disch := omega) only [Bool.and_eq_true, decide_eq_true_eq, beq_iff_eq, bne_iff_ne, ne_eq, Bool.not_eq_true', true_and, and_true, hz, k1, k2, k3, k4, k5, t1, aw, beq_self_eq_true, Bool.and_true] <;> omega))
      | (with_reducible apply go_call; · first | with_reducible rfl | (simp (disch := omega) only [hz, k1, k2, k3, k4, k5, t1, aw, beq_self_eq_true, Bool.and_true]; done) | (simp (disch := omega) only [hz, k1, k2, k3, k4, k5, t1, aw, beq_self_eq_true, Bool.and_true]; with_reducible rfl))
      | (with_reducible apply go_brT; · first | with_reducible rfl | omega | (simp (disch := omega) only [Bool.and_eq_true, decide_eq_true_eq, beq_iff_eq, bne_iff_ne, Bool.not_eq_true', true_and, and_true, hz, k1, k2, k3, k4, k5, t1, aw, beq_self_eq_true, Bool.and_true]; done) | (simp (disch := omega) only [Bool.and_eq_true, decide_eq_true_eq, beq_iff_eq, bne_iff_ne, ne_eq, Bool.not_eq_true', true_and, and_true, hz, k1, k2, k3, k4, k5, t1, aw, beq_self_eq_true, Bool.and_true] <;> omega))
      | (with_reducible apply go_brF; · first | with_reducible rfl | (simp (disch := omega) only [decide_eq_false_iff_not, beq_eq_false_iff_ne, bne_eq_false_iff_eq, Bool.not_eq_false', hz, k1, k2, k3, k4, k5, t1, aw, beq_self_eq_true, Bool.and_true]; done) | (simp (disch := omega) only [decide_eq_false_iff_not, beq_eq_false_iff_ne, bne_eq_false_iff_eq, ne_eq, Bool.not_eq_false', hz, k1, k2, k3, k4, k5, t1, aw, beq_self_eq_true, Bool.and_true] <;> omega))
    try simp (disch := omega) only [hz, k1, k2, k3, k4, k5, t1, aw, beq_self_eq_true, Bool.and_true]

end Go.Proofs.Ytaphhfehcbkfkaa.Pv
