/-
  Gestures sorted by time: exchange of ranges, rotation, sorting by insertion.
-/
import Derived.Test.YtaphhfehcbkfkaaSt1
import Derived.Test.YtaphhfehcbkfkaaGnC
set_option linter.unusedSimpArgs false
set_option linter.unusedVariables false
namespace Go.Proofs.Ytaphhfehcbkfkaa.Pv

structure Ge where
  tm : Int
  kd : Int

def Ge.cells (g : Ge) : List PV := [.sc (.int .i64 g.tm), .sc (.int .i64 g.kd)]
def encG (l : List Ge) : List PV := l.flatMap Ge.cells
theorem encG_len (l : List Ge) : (encG l).length = l.length * 2 := fm_len (f := Ge.cells) (k := 2) (fun _ => rfl) l
theorem encG_app (a b : List Ge) : encG (a ++ b) = encG a ++ encG b := List.flatMap_append
theorem encG_cons (x : Ge) (b : List Ge) : encG (x :: b) = .sc (.int .i64 x.tm) :: .sc (.int .i64 x.kd) :: encG b := rfl

section
variable {fu d : Nat} {l : List Ge} {i : Nat} {x y : Ge}
theorem gtm (h : l[i]? = some x) : List.getD (encG l) (0 + i * 2) PV.top = .sc (.int .i64 x.tm) := by
  have := fm_at (f := Ge.cells) (k := 2) (fun _ => rfl) h (j := 0) (by omega)
  rw [Nat.zero_add]
  exact this
theorem gkd (h : l[i]? = some x) : List.getD (encG l) (0 + i * 2 + 1) PV.top = .sc (.int .i64 x.kd) := by
  have := fm_at (f := Ge.cells) (k := 2) (fun _ => rfl) h (j := 1) (by omega)
  rw [Nat.zero_add]
  exact this
theorem gset (h : i < l.length) : splice (encG l) [.sc (.int .i64 x.tm), .sc (.int .i64 x.kd)] (0 + i * 2) = encG (l.set i x) := by
  rw [Nat.zero_add]
  unfold splice encG
  rw [fm_take (f := Ge.cells) (k := 2) (fun _ => rfl)]
  have : i * 2 + [PV.sc (.int .i64 x.tm), PV.sc (.int .i64 x.kd)].length = (i + 1) * 2 := by simp; omega
  rw [this, fm_drop (f := Ge.cells) (k := 2) (fun _ => rfl)]
  rw [List.set_eq_take_append_cons_drop, if_pos h, List.flatMap_append, List.flatMap_cons]
  simp [Ge.cells]
theorem at_mid (A R : List Ge) (x : Ge) : (A ++ x :: R)[A.length]? = some x := by simp
theorem set_mid (A R : List Ge) (x y : Ge) : (A ++ x :: R).set A.length y = A ++ y :: R := by
  rw [List.set_append_right _ _ (Nat.le_refl _), Nat.sub_self, List.set_cons_zero]

theorem cmp_eq (a0 a1 b0 b1 : Int) : pcall C0 Try.prog fu (d + 3) F_consent_counting_1 [.agg [.sc (.int .i64 a0), .sc (.int .i64 a1)], .agg [.sc (.int .i64 b0), .sc (.int .i64 b1)]] = some ⟨[.sc (.int .i64 (if a0 < b0 then -1 else if b0 < a0 then 1 else 0))], []⟩ := by
  have nan : ∀ a : Int, pcall C0 Try.prog fu (d + 1) F_cmp_isNaN_int [.sc (.int .i64 a)] = some ⟨[.sc (.bool false)], []⟩ := by
    intro a
    rw [cmp_isNaN_int_e]
    simp
  have cc : pcall C0 Try.prog fu (d + 2) F_cmp_Compare_int [.sc (.int .i64 a0), .sc (.int .i64 b0)] = some ⟨[.sc (.int .i64 (if a0 < b0 then -1 else if b0 < a0 then 1 else 0))], []⟩ := by
    rw [cmp_Compare_int_e]
    by_cases h1 : a0 < b0
    · simp (disch := omega) only [nd_call, nd_nil, nd_cons, nd_bool, nd_str, nd_int, nd_any, nd_ls, nd_ow, nd_agg, nd_pbox, nd_opt, nd_share, nd_chk, nd_chkd, nd_chka, nd_brT, nd_brF, nd_brt, nd_brf, nd_both, Bool.not_true, Bool.not_false, Bool.false_eq_true, if_true, if_false, Bool.true_and, Bool.and_true, Bool.false_and, Bool.and_false, decide_true, decide_false, nan, h1]
    · by_cases h2 : b0 < a0
      · simp (disch := omega) only [nd_call, nd_nil, nd_cons, nd_bool, nd_str, nd_int, nd_any, nd_ls, nd_ow, nd_agg, nd_pbox, nd_opt, nd_share, nd_chk, nd_chkd, nd_chka, nd_brT, nd_brF, nd_brt, nd_brf, nd_both, Bool.not_true, Bool.not_false, Bool.false_eq_true, if_true, if_false, Bool.true_and, Bool.and_true, Bool.false_and, Bool.and_false, decide_true, decide_false, nan, h1, h2, gt_iff_lt]
      · simp (disch := omega) only [nd_call, nd_nil, nd_cons, nd_bool, nd_str, nd_int, nd_any, nd_ls, nd_ow, nd_agg, nd_pbox, nd_opt, nd_share, nd_chk, nd_chkd, nd_chka, nd_brT, nd_brF, nd_brt, nd_brf, nd_both, Bool.not_true, Bool.not_false, Bool.false_eq_true, if_true, if_false, Bool.true_and, Bool.and_true, Bool.false_and, Bool.and_false, decide_true, decide_false, nan, h1, h2, gt_iff_lt]
  rw [consent_counting_1_e]
  simp (disch := omega) only [nd_call, nd_nil, nd_cons, nd_bool, nd_str, nd_int, nd_any, nd_ls, nd_ow, nd_agg, nd_pbox, nd_opt, nd_share, nd_chk, nd_chkd, nd_chka, nd_brT, nd_brF, nd_brt, nd_brf, nd_both, Bool.not_true, Bool.not_false, Bool.false_eq_true, if_true, if_false, Bool.true_and, Bool.and_true, Bool.false_and, Bool.and_false, decide_true, decide_false, cc]
theorem cmp_lt {a0 a1 b0 b1 : Int} : decide ((if a0 < b0 then (-1 : Int) else if b0 < a0 then 1 else 0) < 0) = decide (a0 < b0) := by
  by_cases h1 : a0 < b0
  · simp [h1]
  · by_cases h2 : b0 < a0 <;> simp [h1, h2]

abbrev Fcmp : PV := .sc (.func (.func 14) #[] #[])

theorem swap_loop {call : Call'} {n : Nat} {c : List PV} {a1 a2 a3 y1 y2 y3 : Int} : ∀ (X Y A M B : List Ge) (nn : Nat) (y4 : Int) (N : Nat), X.length = Y.length → X.length < nn → N = (A ++ X ++ M ++ Y ++ B).length → N ≤ 1000 → y1 + y4 = A.length → y2 + y4 = A.length + X.length + M.length → y3 = y4 + X.length → 0 ≤ y4 → y4 + X.length ≤ 1000 →
    slices_swapRangeCmpFunc_Gesture_L0 fu call n c a1 a2 a3 nn N y1 y2 y3 y4 (encG (A ++ X ++ M ++ Y ++ B)) = some ⟨[], [encG (A ++ Y ++ M ++ X ++ B)]⟩
  | X, Y, A, M, B, 0, _, _, _, h, _, _, _, _, _, _, _ => by omega
  | [], y :: Y, A, M, B, nn + 1, _, _, h, _, _, _, _, _, _, _, _ => by simp at h
  | x :: X, [], A, M, B, nn + 1, _, _, h, _, _, _, _, _, _, _, _ => by simp at h
  | [], [], A, M, B, nn + 1, y4, N, _, _, hN, _, h1, h2, h3, h4, h5 => by
    simp only [List.length_nil] at h3
    rw [slices_swapRangeCmpFunc_Gesture_L0_s, nd_brf _ _ _ (by omega)]
  | x :: X, y :: Y, A, M, B, nn + 1, y4, N, hl, hn, hN, hN', h1, h2, h3, h4, h5 => by
    simp only [List.length_cons, List.length_append, Nat.add_right_cancel_iff, Int.natCast_add, Int.natCast_one] at hl hn hN h2 h3 h5
    have e1 : A ++ x :: X ++ M ++ y :: Y ++ B = A ++ x :: (X ++ M ++ y :: Y ++ B) := by simp
    have e2 : A ++ x :: X ++ M ++ y :: Y ++ B = (A ++ x :: X ++ M) ++ y :: (Y ++ B) := by simp
    have e3 : A ++ y :: (X ++ M ++ y :: Y ++ B) = (A ++ y :: X ++ M) ++ y :: (Y ++ B) := by simp
    have g1 := at_mid A (X ++ M ++ y :: Y ++ B) x
    rw [← e1] at g1
    have g2 := at_mid (A ++ x :: X ++ M) (Y ++ B) y
    rw [← e2] at g2
    have s1 : (A ++ x :: X ++ M ++ y :: Y ++ B).set A.length y = A ++ y :: (X ++ M ++ y :: Y ++ B) := by rw [e1, set_mid]
    have s2 := set_mid (A ++ y :: X ++ M) (Y ++ B) y x
    rw [← e3] at s2
    have q : (A ++ x :: X ++ M).length = A.length + (X.length + 1) + M.length := by simp; omega
    have q' : (A ++ y :: X ++ M).length = A.length + (X.length + 1) + M.length := by simp; omega
    rw [q] at g2
    rw [q'] at s2
    have w1 : IntKind.wrap .i64 (y1 + y4) = (A.length : Int) := by rw [wrap_i64 (by omega) (by omega)]; exact h1
    have w2 : IntKind.wrap .i64 (y2 + y4) = ((A.length + (X.length + 1) + M.length : Nat) : Int) := by rw [wrap_i64 (by omega) (by omega)]; omega
    have w3 : IntKind.wrap .i64 (y4 + 1) = y4 + 1 := wrap_i64 (by omega) (by omega)
    have L1 : (A ++ x :: X ++ M ++ y :: Y ++ B).length = A.length + (X.length + 1) + M.length + (Y.length + 1) + B.length := by simp; omega
    have L2 : (A ++ y :: (X ++ M ++ y :: Y ++ B)).length = A.length + (X.length + 1) + M.length + (Y.length + 1) + B.length := by simp; omega
    have S1 := (gset (x := y) (l := A ++ x :: X ++ M ++ y :: Y ++ B) (i := A.length) (by omega)).trans (congrArg encG s1)
    have S2 := (gset (x := x) (l := A ++ y :: (X ++ M ++ y :: Y ++ B)) (i := A.length + (X.length + 1) + M.length) (by omega)).trans (congrArg encG s2)
    have ih := swap_loop (call := call) (n := n) (c := c) (a1 := a1) (a2 := a2) (a3 := a3) (y1 := y1) (y2 := y2) (y3 := y3) X Y (A ++ [y]) (M ++ [x]) B nn (y4 + 1) N hl
      (by omega)
      (by simp only [List.length_append, List.length_cons, List.length_nil]; omega)
      hN'
      (by simp only [List.length_append, List.length_cons, List.length_nil]; omega)
      (by simp only [List.length_append, List.length_cons, List.length_nil]; omega)
      (by omega) (by omega)
      (by omega)
    have e4 : A ++ [y] ++ X ++ (M ++ [x]) ++ Y ++ B = A ++ y :: X ++ M ++ x :: (Y ++ B) := by simp
    have e5 : A ++ [y] ++ Y ++ (M ++ [x]) ++ X ++ B = A ++ y :: Y ++ M ++ x :: X ++ B := by simp
    rw [e4, e5] at ih
    rw [slices_swapRangeCmpFunc_Gesture_L0_s]
    try unfold shareK
    repeat first
      | (with_reducible apply go_nil; · with_reducible rfl)
      | (with_reducible apply go_cons; · with_reducible rfl)
      | (with_reducible apply go_int; · first | with_reducible rfl | (simp (disch := omega) only [w1, w2, w3, Int.toNat_natCast, gtm g1, gkd g1, gtm g2, gkd g2, encG_len, S1, S2, L1, L2]; done) | (simp (disch := omega) only [w1, w2, w3, Int.toNat_natCast, gtm g1, gkd g1, gtm g2, gkd g2, encG_len, S1, S2, L1, L2]; with_reducible rfl))
      | (with_reducible apply go_bool; · first | with_reducible rfl | (simp (disch := omega) only [w1, w2, w3, Int.toNat_natCast, gtm g1, gkd g1, gtm g2, gkd g2, encG_len, S1, S2, L1, L2]; done) | (simp (disch := omega) only [w1, w2, w3, Int.toNat_natCast, gtm g1, gkd g1, gtm g2, gkd g2, encG_len, S1, S2, L1, L2]; with_reducible rfl))
      | (with_reducible apply go_str; · first | with_reducible rfl | (simp (disch := omega) only [w1, w2, w3, Int.toNat_natCast, gtm g1, gkd g1, gtm g2, gkd g2, encG_len, S1, S2, L1, L2]; done) | (simp (disch := omega) only [w1, w2, w3, Int.toNat_natCast, gtm g1, gkd g1, gtm g2, gkd g2, encG_len, S1, S2, L1, L2]; with_reducible rfl))
      | (with_reducible apply go_any; · first | with_reducible rfl | (simp (disch := omega) only [w1, w2, w3, Int.toNat_natCast, gtm g1, gkd g1, gtm g2, gkd g2, encG_len, S1, S2, L1, L2]; done) | (simp (disch := omega) only [w1, w2, w3, Int.toNat_natCast, gtm g1, gkd g1, gtm g2, gkd g2, encG_len, S1, S2, L1, L2]; with_reducible rfl))
      | (with_reducible apply go_ow; · first | with_reducible rfl | (simp (disch := omega) only [w1, w2, w3, Int.toNat_natCast, gtm g1, gkd g1, gtm g2, gkd g2, encG_len, S1, S2, L1, L2]; done) | (simp (disch := omega) only [w1, w2, w3, Int.toNat_natCast, gtm g1, gkd g1, gtm g2, gkd g2, encG_len, S1, S2, L1, L2]; with_reducible rfl))
      | (with_reducible apply go_ls; · first | with_reducible rfl | (simp (disch := omega) only [w1, w2, w3, Int.toNat_natCast, gtm g1, gkd g1, gtm g2, gkd g2, encG_len, S1, S2, L1, L2]; done) | (simp (disch := omega) only [w1, w2, w3, Int.toNat_natCast, gtm g1, gkd g1, gtm g2, gkd g2, encG_len, S1, S2, L1, L2]; with_reducible rfl))
      | (with_reducible apply go_agg; · first | with_reducible rfl | (simp (disch := omega) only [w1, w2, w3, Int.toNat_natCast, gtm g1, gkd g1, gtm g2, gkd g2, encG_len, S1, S2, L1, L2]; done) | (simp (disch := omega) only [w1, w2, w3, Int.toNat_natCast, gtm g1, gkd g1, gtm g2, gkd g2, encG_len, S1, S2, L1, L2]; with_reducible rfl))
      | (with_reducible apply go_pbox; · first | with_reducible rfl | (simp (disch := omega) only [w1, w2, w3, Int.toNat_natCast, gtm g1, gkd g1, gtm g2, gkd g2, encG_len, S1, S2, L1, L2]; done) | (simp (disch := omega) only [w1, w2, w3, Int.toNat_natCast, gtm g1, gkd g1, gtm g2, gkd g2, encG_len, S1, S2, L1, L2]; with_reducible rfl))
      | (with_reducible apply go_opt; · first | with_reducible rfl | (simp (disch := omega) only [w1, w2, w3, Int.toNat_natCast, gtm g1, gkd g1, gtm g2, gkd g2, encG_len, S1, S2, L1, L2]; done) | (simp (disch := omega) only [w1, w2, w3, Int.toNat_natCast, gtm g1, gkd g1, gtm g2, gkd g2, encG_len, S1, S2, L1, L2]; with_reducible rfl))
      | (with_reducible apply go_chk; · first | with_reducible rfl | omega | (simp (disch := omega) only [Bool.and_eq_true, decide_eq_true_eq, beq_iff_eq, bne_iff_ne, Bool.not_eq_true', true_and, and_true, w1, w2, w3, Int.toNat_natCast, gtm g1, gkd g1, gtm g2, gkd g2, encG_len, S1, S2, L1, L2]; done) | (simp (disch := omega) only [Bool.and_eq_true, decide_eq_true_eq, beq_iff_eq, bne_iff_ne, ne_eq, Bool.not_eq_true', true_and, and_true, w1, w2, w3, Int.toNat_natCast, gtm g1, gkd g1, gtm g2, gkd g2, encG_len, S1, S2, L1, L2] <;> omega))
      | (with_reducible apply go_call; · first | with_reducible rfl | (simp (disch := omega) only [w1, w2, w3, Int.toNat_natCast, gtm g1, gkd g1, gtm g2, gkd g2, encG_len, S1, S2, L1, L2]; done) | (simp (disch := omega) only [w1, w2, w3, Int.toNat_natCast, gtm g1, gkd g1, gtm g2, gkd g2, encG_len, S1, S2, L1, L2]; with_reducible rfl))
      | (with_reducible apply go_brT; · first | with_reducible rfl | omega | (simp (disch := omega) only [Bool.and_eq_true, decide_eq_true_eq, beq_iff_eq, bne_iff_ne, Bool.not_eq_true', true_and, and_true, w1, w2, w3, Int.toNat_natCast, gtm g1, gkd g1, gtm g2, gkd g2, encG_len, S1, S2, L1, L2]; done) | (simp (disch := omega) only [Bool.and_eq_true, decide_eq_true_eq, beq_iff_eq, bne_iff_ne, ne_eq, Bool.not_eq_true', true_and, and_true, w1, w2, w3, Int.toNat_natCast, gtm g1, gkd g1, gtm g2, gkd g2, encG_len, S1, S2, L1, L2] <;> omega))
      | (with_reducible apply go_brF; · first | with_reducible rfl | (simp (disch := omega) only [decide_eq_false_iff_not, beq_eq_false_iff_ne, bne_eq_false_iff_eq, Bool.not_eq_false', w1, w2, w3, Int.toNat_natCast, gtm g1, gkd g1, gtm g2, gkd g2, encG_len, S1, S2, L1, L2]; done) | (simp (disch := omega) only [decide_eq_false_iff_not, beq_eq_false_iff_ne, bne_eq_false_iff_eq, ne_eq, Bool.not_eq_false', w1, w2, w3, Int.toNat_natCast, gtm g1, gkd g1, gtm g2, gkd g2, encG_len, S1, S2, L1, L2] <;> omega))
    try simp (disch := omega) only [w1, w2, w3, Int.toNat_natCast, gtm g1, gkd g1, gtm g2, gkd g2, encG_len, S1, S2, L1, L2]
    exact ih
theorem swap_eq (hfu : 1000 < fu) {a1 a2 a3 : Int} {N : Nat} (A X M Y B : List Ge) (hl : X.length = Y.length) (hN : N = (A ++ X ++ M ++ Y ++ B).length) (hN' : N ≤ 1000) (h1 : a1 = A.length) (h2 : a2 = A.length + X.length + M.length) (h3 : a3 = X.length) :
    pcall C0 Try.prog fu (d + 1) F_slices_swapRangeCmpFunc_Gesture [.tup [.own 2 N (encG (A ++ X ++ M ++ Y ++ B))], .sc (.int .i64 a1), .sc (.int .i64 a2), .sc (.int .i64 a3), Fcmp] = some ⟨[], [encG (A ++ Y ++ M ++ X ++ B)]⟩ := by
  rw [slices_swapRangeCmpFunc_Gesture_e]
  have : X.length ≤ N := by rw [hN]; simp; omega
  exact swap_loop X Y A M B fu 0 N hl (by omega) hN hN' (by omega) (by omega) (by omega) (by omega) (by omega)

theorem rot_loop (hfu : 1000 < fu) {n : Nat} {c : List PV} {a1 a2 a3 m : Int} : ∀ (nn : Nat) (A U V B : List Ge) (i j : Int) (N : Nat), N = (A ++ U ++ V ++ B).length → N ≤ 1000 → m = A.length + U.length → i = U.length → j = V.length → 0 < i → 0 < j → U.length + V.length < nn →
    slices_rotateCmpFunc_Gesture_L0 fu (pcall C0 Try.prog fu (d + 1)) n c a1 a2 a3 nn N m i j (encG (A ++ U ++ V ++ B)) = some ⟨[], [encG (A ++ V ++ U ++ B)]⟩
  | 0, _, _, _, _, _, _, _, _, _, _, _, _, _, _, h => by omega
  | nn + 1, A, U, V, B, i, j, N, hN, hN', hm, hi, hj, hi', hj', hn => by
    simp only [List.length_append] at hN
    rw [slices_rotateCmpFunc_Gesture_L0_s]
    by_cases e : i = j
    · have hw : IntKind.wrap .i64 (m - i) = (A.length : Int) := by rw [wrap_i64 (by omega) (by omega)]; omega
      have sw := swap_eq (d := d) hfu (a1 := IntKind.wrap .i64 (m - i)) (a2 := m) (a3 := i) (N := N) A U [] V B (by omega) (by simp; omega) hN' hw (by simp; omega) hi
      rw [List.append_nil, List.append_nil] at sw
      rw [nd_brne, if_pos e]
      simp (disch := omega) only [nd_call, nd_nil, nd_cons, nd_bool, nd_str, nd_int, nd_any, nd_ls, nd_ow, nd_agg, nd_pbox, nd_opt, nd_share, nd_chk, nd_chkd, nd_chka, nd_brT, nd_brF, nd_brt, nd_brf, nd_both, Bool.not_true, Bool.not_false, Bool.false_eq_true, if_true, if_false, Bool.true_and, Bool.and_true, Bool.false_and, Bool.and_false, decide_true, decide_false, sw]
    · rw [nd_brne, if_neg e]
      have hw : IntKind.wrap .i64 (m - i) = (A.length : Int) := by rw [wrap_i64 (by omega) (by omega)]; omega
      by_cases g : i > j
      · obtain ⟨U1, U2, rfl, hU1⟩ : ∃ U1 U2, U = U1 ++ U2 ∧ U1.length = V.length := ⟨U.take V.length, U.drop V.length, by simp, by simp; omega⟩
        simp only [List.length_append, Int.natCast_add] at hN hm hi hn
        have sw := swap_eq (d := d) hfu (a1 := IntKind.wrap .i64 (m - i)) (a2 := m) (a3 := j) (N := N) A U1 U2 V B hU1 (by simp; omega) hN' hw (by omega) (by omega)
        have ih := rot_loop (n := n) (c := c) (a1 := a1) (a2 := a2) (a3 := a3) (m := m) hfu nn (A ++ V) U2 U1 B (i - j) j N (by simp; omega) hN' (by simp; omega) (by omega) (by omega) (by omega) (by omega) (by omega)
        have w2 : IntKind.wrap .i64 (i - j) = i - j := wrap_i64 (by omega) (by omega)
        have e1 : A ++ (U1 ++ U2) ++ V ++ B = A ++ U1 ++ U2 ++ V ++ B := by simp
        have e2 : A ++ V ++ (U1 ++ U2) ++ B = A ++ V ++ U1 ++ U2 ++ B := by simp
        rw [e1, e2]
        simp (disch := omega) only [nd_call, nd_nil, nd_cons, nd_bool, nd_str, nd_int, nd_any, nd_ls, nd_ow, nd_agg, nd_pbox, nd_opt, nd_share, nd_chk, nd_chkd, nd_chka, nd_brT, nd_brF, nd_brt, nd_brf, nd_both, Bool.not_true, Bool.not_false, Bool.false_eq_true, if_true, if_false, Bool.true_and, Bool.and_true, Bool.false_and, Bool.and_false, decide_true, decide_false, sw, w2]
        exact ih
      · obtain ⟨V1, V2, rfl, hV2⟩ : ∃ V1 V2, V = V1 ++ V2 ∧ V2.length = U.length := ⟨V.take (V.length - U.length), V.drop (V.length - U.length), by simp, by simp; omega⟩
        simp only [List.length_append, Int.natCast_add] at hN hj hn
        have w1 : IntKind.wrap .i64 (IntKind.wrap .i64 (m + j) - i) = m + j - i := by rw [wrap_i64 (x := m + j) (by omega) (by omega), wrap_i64 (by omega) (by omega)]
        have w3 : IntKind.wrap .i64 (m + j) = m + j := wrap_i64 (by omega) (by omega)
        have sw := swap_eq (d := d) hfu (a1 := IntKind.wrap .i64 (m - i)) (a2 := m + j - i) (a3 := i) (N := N) A U V1 V2 B hV2.symm (by simp; omega) hN' hw (by omega) (by omega)
        have ih := rot_loop (n := n) (c := c) (a1 := a1) (a2 := a2) (a3 := a3) (m := m) hfu nn A V2 V1 (U ++ B) i (j - i) N (by simp; omega) hN' (by omega) (by omega) (by omega) (by omega) (by omega) (by omega)
        have w2 : IntKind.wrap .i64 (j - i) = j - i := wrap_i64 (by omega) (by omega)
        have e1 : A ++ U ++ (V1 ++ V2) ++ B = A ++ U ++ V1 ++ V2 ++ B := by simp
        have e2 : A ++ (V1 ++ V2) ++ U ++ B = A ++ V1 ++ V2 ++ (U ++ B) := by simp
        have e3 : A ++ V2 ++ V1 ++ (U ++ B) = A ++ V2 ++ V1 ++ U ++ B := by simp
        rw [e3] at ih
        rw [e1, e2]
        simp (disch := omega) only [nd_call, nd_nil, nd_cons, nd_bool, nd_str, nd_int, nd_any, nd_ls, nd_ow, nd_agg, nd_pbox, nd_opt, nd_share, nd_chk, nd_chkd, nd_chka, nd_brT, nd_brF, nd_brt, nd_brf, nd_both, Bool.not_true, Bool.not_false, Bool.false_eq_true, if_true, if_false, Bool.true_and, Bool.and_true, Bool.false_and, Bool.and_false, decide_true, decide_false, w1, sw, w2]
        exact ih
theorem rot_eq (hfu : 1000 < fu) {a1 a2 a3 : Int} {N : Nat} (A U V B : List Ge) (hN : N = (A ++ U ++ V ++ B).length) (hN' : N ≤ 1000) (h1 : a1 = A.length) (h2 : a2 = A.length + U.length) (h3 : a3 = A.length + U.length + V.length) (hU : 0 < U.length) (hV : 0 < V.length) :
    pcall C0 Try.prog fu (d + 2) F_slices_rotateCmpFunc_Gesture [.tup [.own 2 N (encG (A ++ U ++ V ++ B))], .sc (.int .i64 a1), .sc (.int .i64 a2), .sc (.int .i64 a3), Fcmp] = some ⟨[], [encG (A ++ V ++ U ++ B)]⟩ := by
  rw [slices_rotateCmpFunc_Gesture_e]
  have : U.length + V.length ≤ N := by rw [hN]; simp; omega
  have w1 : IntKind.wrap .i64 (a2 - a1) = a2 - a1 := wrap_i64 (by omega) (by omega)
  have w2 : IntKind.wrap .i64 (a3 - a2) = a3 - a2 := wrap_i64 (by omega) (by omega)
  simp (disch := omega) only [nd_call, nd_nil, nd_cons, nd_bool, nd_str, nd_int, nd_any, nd_ls, nd_ow, nd_agg, nd_pbox, nd_opt, nd_share, nd_chk, nd_chkd, nd_chka, nd_brT, nd_brF, nd_brt, nd_brf, nd_both, Bool.not_true, Bool.not_false, Bool.false_eq_true, if_true, if_false, Bool.true_and, Bool.and_true, Bool.false_and, Bool.and_false, decide_true, decide_false, w1, w2]
  exact rot_loop hfu fu A U V B _ _ N hN hN' h2 (by omega) (by omega) (by omega) (by omega) (by omega)
end

end Go.Proofs.Ytaphhfehcbkfkaa.Pv
