/-
  Gestures sorted by time: two sorted rows merged in place.
-/
import Derived.Test.YtaphhfehcbkfkaaSt3
set_option linter.unusedSimpArgs false
set_option linter.unusedVariables false
namespace Go.Proofs.Ytaphhfehcbkfkaa.Pv

/-- Halving: the place where P turns from true to false. -/
theorem bsearch {R : Type} (L : Nat → Int → Int → R) (E : Nat → R) (P : Nat → Prop) [DecidablePred P] {lo hi : Nat}
    (step : ∀ (nn i j : Nat), lo ≤ i → i < j → j ≤ hi → L (nn + 1) i j = if P ((i + j) / 2) then L nn ((((i + j) / 2 + 1 : Nat)) : Int) j else L nn i ((((i + j) / 2 : Nat)) : Int))
    (stop : ∀ (nn i : Nat), lo ≤ i → i ≤ hi → L (nn + 1) i i = E i) : ∀ (nn i j : Nat), lo ≤ i → i ≤ j → j ≤ hi → j - i < nn → (i = lo ∨ P (i - 1)) → (j = hi ∨ ¬ P j) →
      ∃ s, lo ≤ s ∧ s ≤ hi ∧ (s = lo ∨ P (s - 1)) ∧ (s = hi ∨ ¬ P s) ∧ L nn i j = E s
  | 0, _, _, _, _, _, h, _, _ => by omega
  | nn + 1, i, j, h1, h2, h3, h4, h5, h6 => by
    by_cases e : i = j
    · subst e
      exact ⟨i, h1, h3, h5, h6, stop nn i h1 h3⟩
    · rw [step nn i j h1 (by omega) h3]
      by_cases hp : P ((i + j) / 2)
      · rw [if_pos hp]
        exact bsearch L E P step stop nn _ j (by omega) (by omega) h3 (by omega) (.inr (by simpa using hp)) h6
      · rw [if_neg hp]
        exact bsearch L E P step stop nn i _ h1 (by omega) (by omega) (by omega) h5 (.inr hp)

theorem half (i j : Nat) (h : i + j ≤ 4000) : IntKind.wrap .i64 (ishr .u64 (IntKind.wrap .u64 (IntKind.wrap .i64 ((i : Int) + (j : Int)))) 1) = (((i + j) / 2 : Nat) : Int) := by
  rw [wrap_i64 (x := (i : Int) + j) (by omega) (by omega), wrap_u64 (by omega) (by omega)]
  have : ishr .u64 ((i : Int) + (j : Int)) 1 = (((i + j) / 2 : Nat) : Int) := by
    show ((i : Int) + (j : Int)).fdiv 2 = _
    rw [Int.fdiv_eq_ediv_of_nonneg _ (by omega)]
    omega
  rw [this, wrap_i64 (by omega) (by omega)]

section
variable {fu d : Nat}
theorem nd_brand (p q : Prop) [Decidable p] [Decidable q] (X Y : Option Res) : brK (decide p) (brK (decide q) X Y) Y = if p ∧ q then X else Y := by
  by_cases hp : p <;> by_cases hq : q <;> simp [brK, hp, hq]

def gk (l : List Ge) (c : Nat) : Ge := l.getD c ⟨0, 0⟩
theorem gk_get {l : List Ge} {c : Nat} (h : c < l.length) : l[c]? = some (gk l c) := by
  unfold gk
  rw [List.getD_eq_getElem?_getD, List.getElem?_eq_getElem h]
  rfl
theorem gk_mid (A R : List Ge) (x : Ge) : gk (A ++ x :: R) A.length = x := by simp [gk]
theorem gk_at {l : List Ge} {c : Nat} (A R : List Ge) (x : Ge) (h : l = A ++ x :: R) (hc : c = A.length) : gk l c = x := by subst h; subst hc; exact gk_mid A R x

theorem fwd_loop {call : Call'} {n : Nat} {c : List PV} {a1 a2 a3 : Int} : ∀ (S1 : List Ge) (nn : Nat) (A R : List Ge) (x : Ge) (i k : Int) (N : Nat), N = (A ++ x :: S1 ++ R).length → N ≤ 1000 → k = A.length → i = A.length + 1 + S1.length → S1.length < nn →
    slices_symMergeCmpFunc_Gesture_L1 fu call n c a1 a2 a3 nn N i k (encG (A ++ x :: S1 ++ R)) = some ⟨[], [encG (A ++ S1 ++ x :: R)]⟩
  | _, 0, _, _, _, _, _, _, _, _, _, _, h => by omega
  | [], nn + 1, A, R, x, i, k, N, hN, hN', hk, hi, hn => by
    simp only [List.length_nil, List.length_append, List.length_cons] at hi hN
    have w : IntKind.wrap .i64 (i - 1) = i - 1 := wrap_i64 (by omega) (by omega)
    rw [slices_symMergeCmpFunc_Gesture_L1_s]
    simp only [nd_share, w]
    rw [nd_brf _ _ _ (by omega)]
    simp
  | y :: S1, nn + 1, A, R, x, i, k, N, hN, hN', hk, hi, hn => by
    simp only [List.length_append, List.length_cons, Int.natCast_add, Int.natCast_one] at hi hN hn
    have w : IntKind.wrap .i64 (i - 1) = i - 1 := wrap_i64 (by omega) (by omega)
    have w1 : IntKind.wrap .i64 ((A.length : Int) + 1) = ((A.length + 1 : Nat) : Int) := by rw [wrap_i64 (by omega) (by omega)]; omega
    have e1 : A ++ x :: y :: S1 ++ R = A ++ x :: y :: (S1 ++ R) := by simp
    have e2 : A ++ x :: y :: (S1 ++ R) = (A ++ [x]) ++ y :: (S1 ++ R) := by simp
    have g1 := at_mid A (y :: (S1 ++ R)) x
    have g2 := at_mid (A ++ [x]) (S1 ++ R) y
    rw [← e2, show (A ++ [x]).length = A.length + 1 by simp] at g2
    have L1 : (A ++ x :: y :: (S1 ++ R)).length = A.length + 2 + S1.length + R.length := by simp; omega
    have L2 : ((A ++ x :: y :: (S1 ++ R)).set A.length y).length = A.length + 2 + S1.length + R.length := by rw [List.length_set, L1]
    have T1 := gset (x := y) (l := A ++ x :: y :: (S1 ++ R)) (i := A.length) (by omega)
    have T2 := (gset (x := x) (l := (A ++ x :: y :: (S1 ++ R)).set A.length y) (i := A.length + 1) (by omega)).trans (congrArg encG (swap_adj A (S1 ++ R) x y))
    have ih := fwd_loop (call := call) (n := n) (c := c) (a1 := a1) (a2 := a2) (a3 := a3) S1 nn (A ++ [y]) R x i ((A.length + 1 : Nat) : Int) N (by simp; omega) hN' (by simp) (by simp; omega) (by omega)
    have e3 : A ++ [y] ++ x :: S1 ++ R = A ++ y :: x :: (S1 ++ R) := by simp
    have e4 : A ++ [y] ++ S1 ++ x :: R = A ++ y :: S1 ++ x :: R := by simp
    rw [e3, e4] at ih
    rw [slices_symMergeCmpFunc_Gesture_L1_s, e1, hk]
    try unfold shareK
    repeat first
      | (with_reducible apply go_nil; · with_reducible rfl)
      | (with_reducible apply go_cons; · with_reducible rfl)
      | (with_reducible apply go_int; · first | with_reducible rfl | (simp (disch := omega) only [w, w1, Int.toNat_natCast, gtm g1, gkd g1, gtm g2, gkd g2, encG_len, T1, T2, L1, L2]; done) | (simp (disch := omega) only [w, w1, Int.toNat_natCast, gtm g1, gkd g1, gtm g2, gkd g2, encG_len, T1, T2, L1, L2]; with_reducible rfl))
      | (with_reducible apply go_bool; · first | with_reducible rfl | (simp (disch := omega) only [w, w1, Int.toNat_natCast, gtm g1, gkd g1, gtm g2, gkd g2, encG_len, T1, T2, L1, L2]; done) | (simp (disch := omega) only [w, w1, Int.toNat_natCast, gtm g1, gkd g1, gtm g2, gkd g2, encG_len, T1, T2, L1, L2]; with_reducible rfl))
      | (with_reducible apply go_str; · first | with_reducible rfl | (simp (disch := omega) only [w, w1, Int.toNat_natCast, gtm g1, gkd g1, gtm g2, gkd g2, encG_len, T1, T2, L1, L2]; done) | (simp (disch := omega) only [w, w1, Int.toNat_natCast, gtm g1, gkd g1, gtm g2, gkd g2, encG_len, T1, T2, L1, L2]; with_reducible rfl))
      | (with_reducible apply go_any; · first | with_reducible rfl | (simp (disch := omega) only [w, w1, Int.toNat_natCast, gtm g1, gkd g1, gtm g2, gkd g2, encG_len, T1, T2, L1, L2]; done) | (simp (disch := omega) only [w, w1, Int.toNat_natCast, gtm g1, gkd g1, gtm g2, gkd g2, encG_len, T1, T2, L1, L2]; with_reducible rfl))
      | (with_reducible apply go_ow; · first | with_reducible rfl | (simp (disch := omega) only [w, w1, Int.toNat_natCast, gtm g1, gkd g1, gtm g2, gkd g2, encG_len, T1, T2, L1, L2]; done) | (simp (disch := omega) only [w, w1, Int.toNat_natCast, gtm g1, gkd g1, gtm g2, gkd g2, encG_len, T1, T2, L1, L2]; with_reducible rfl))
      | (with_reducible apply go_ls; · first | with_reducible rfl | (simp (disch := omega) only [w, w1, Int.toNat_natCast, gtm g1, gkd g1, gtm g2, gkd g2, encG_len, T1, T2, L1, L2]; done) | (simp (disch := omega) only [w, w1, Int.toNat_natCast, gtm g1, gkd g1, gtm g2, gkd g2, encG_len, T1, T2, L1, L2]; with_reducible rfl))
      | (with_reducible apply go_agg; · first | with_reducible rfl | (simp (disch := omega) only [w, w1, Int.toNat_natCast, gtm g1, gkd g1, gtm g2, gkd g2, encG_len, T1, T2, L1, L2]; done) | (simp (disch := omega) only [w, w1, Int.toNat_natCast, gtm g1, gkd g1, gtm g2, gkd g2, encG_len, T1, T2, L1, L2]; with_reducible rfl))
      | (with_reducible apply go_pbox; · first | with_reducible rfl | (simp (disch := omega) only [w, w1, Int.toNat_natCast, gtm g1, gkd g1, gtm g2, gkd g2, encG_len, T1, T2, L1, L2]; done) | (simp (disch := omega) only [w, w1, Int.toNat_natCast, gtm g1, gkd g1, gtm g2, gkd g2, encG_len, T1, T2, L1, L2]; with_reducible rfl))
      | (with_reducible apply go_opt; · first | with_reducible rfl | (simp (disch := omega) only [w, w1, Int.toNat_natCast, gtm g1, gkd g1, gtm g2, gkd g2, encG_len, T1, T2, L1, L2]; done) | (simp (disch := omega) only [w, w1, Int.toNat_natCast, gtm g1, gkd g1, gtm g2, gkd g2, encG_len, T1, T2, L1, L2]; with_reducible rfl))
      | (with_reducible apply go_chk; · first | with_reducible rfl | omega | (simp (disch := omega) only [Bool.and_eq_true, decide_eq_true_eq, beq_iff_eq, bne_iff_ne, Bool.not_eq_true', true_and, and_true, w, w1, Int.toNat_natCast, gtm g1, gkd g1, gtm g2, gkd g2, encG_len, T1, T2, L1, L2]; done) | (simp (disch := omega) only [Bool.and_eq_true, decide_eq_true_eq, beq_iff_eq, bne_iff_ne, ne_eq, Bool.not_eq_true', true_and, and_true, w, w1, Int.toNat_natCast, gtm g1, gkd g1, gtm g2, gkd g2, encG_len, T1, T2, L1, L2] <;> omega))
      | (with_reducible apply go_call; · first | with_reducible rfl | (simp (disch := omega) only [w, w1, Int.toNat_natCast, gtm g1, gkd g1, gtm g2, gkd g2, encG_len, T1, T2, L1, L2]; done) | (simp (disch := omega) only [w, w1, Int.toNat_natCast, gtm g1, gkd g1, gtm g2, gkd g2, encG_len, T1, T2, L1, L2]; with_reducible rfl))
      | (with_reducible apply go_brT; · first | with_reducible rfl | omega | (simp (disch := omega) only [Bool.and_eq_true, decide_eq_true_eq, beq_iff_eq, bne_iff_ne, Bool.not_eq_true', true_and, and_true, w, w1, Int.toNat_natCast, gtm g1, gkd g1, gtm g2, gkd g2, encG_len, T1, T2, L1, L2]; done) | (simp (disch := omega) only [Bool.and_eq_true, decide_eq_true_eq, beq_iff_eq, bne_iff_ne, ne_eq, Bool.not_eq_true', true_and, and_true, w, w1, Int.toNat_natCast, gtm g1, gkd g1, gtm g2, gkd g2, encG_len, T1, T2, L1, L2] <;> omega))
      | (with_reducible apply go_brF; · first | with_reducible rfl | (simp (disch := omega) only [decide_eq_false_iff_not, beq_eq_false_iff_ne, bne_eq_false_iff_eq, Bool.not_eq_false', w, w1, Int.toNat_natCast, gtm g1, gkd g1, gtm g2, gkd g2, encG_len, T1, T2, L1, L2]; done) | (simp (disch := omega) only [decide_eq_false_iff_not, beq_eq_false_iff_ne, bne_eq_false_iff_eq, ne_eq, Bool.not_eq_false', w, w1, Int.toNat_natCast, gtm g1, gkd g1, gtm g2, gkd g2, encG_len, T1, T2, L1, L2] <;> omega))
    try simp (disch := omega) only [w, w1, Int.toNat_natCast, gtm g1, gkd g1, gtm g2, gkd g2, encG_len, T1, T2, L1, L2]
    exact ih

theorem bwd_loop {call : Call'} {n : Nat} {c : List PV} {a1 a2 a3 : Int} : ∀ (nn : Nat) (S2 A R : List Ge) (x : Ge) (i k : Int) (N : Nat), N = (A ++ S2 ++ x :: R).length → N ≤ 1000 → i = A.length → k = A.length + S2.length → S2.length < nn →
    slices_symMergeCmpFunc_Gesture_L3 fu call n c a1 a2 a3 nn N i k (encG (A ++ S2 ++ x :: R)) = some ⟨[], [encG (A ++ x :: S2 ++ R)]⟩
  | 0, _, _, _, _, _, _, _, _, _, _, _, h => by omega
  | nn + 1, S2, A, R, x, i, k, N, hN, hN', hi, hk, hn => by
    rcases List.eq_nil_or_concat S2 with rfl | ⟨S', y, rfl⟩
    · simp only [List.length_nil] at hk
      rw [slices_symMergeCmpFunc_Gesture_L3_s, nd_brf _ _ _ (by omega)]
      simp
    · rw [List.concat_eq_append] at hN hk hn ⊢
      simp only [List.length_append, List.length_cons, List.length_nil, Int.natCast_add, Int.natCast_one] at hN hk hn
      have e1 : A ++ (S' ++ [y]) ++ x :: R = (A ++ S') ++ y :: x :: R := by simp
      have e2 : (A ++ S') ++ y :: x :: R = (A ++ S' ++ [y]) ++ x :: R := by simp
      have q1 : (A ++ S').length = A.length + S'.length := by simp
      have q2 : (A ++ S' ++ [y]).length = A.length + S'.length + 1 := by simp; omega
      have g1 := at_mid (A ++ S') (x :: R) y
      have g2 := at_mid (A ++ S' ++ [y]) R x
      rw [q1] at g1
      rw [← e2, q2] at g2
      have wk : k = ((A.length + S'.length + 1 : Nat) : Int) := by omega
      have w1 : IntKind.wrap .i64 (((A.length + S'.length + 1 : Nat) : Int) - 1) = ((A.length + S'.length : Nat) : Int) := by rw [wrap_i64 (by omega) (by omega)]; omega
      have L1 : ((A ++ S') ++ y :: x :: R).length = A.length + S'.length + 2 + R.length := by simp; omega
      have L2 : (((A ++ S') ++ y :: x :: R).set (A.length + S'.length + 1) y).length = A.length + S'.length + 2 + R.length := by rw [List.length_set, L1]
      have sw := swap_adj' (A ++ S') R y x
      rw [q1] at sw
      have T1 := gset (x := y) (l := (A ++ S') ++ y :: x :: R) (i := A.length + S'.length + 1) (by omega)
      have T2 := (gset (x := x) (l := ((A ++ S') ++ y :: x :: R).set (A.length + S'.length + 1) y) (i := A.length + S'.length) (by omega)).trans (congrArg encG sw)
      have ih := bwd_loop (call := call) (n := n) (c := c) (a1 := a1) (a2 := a2) (a3 := a3) nn S' A (y :: R) x i ((A.length + S'.length : Nat) : Int) N (by simp; omega) hN' hi (by omega) (by omega)
      have e4 : A ++ x :: S' ++ y :: R = A ++ x :: (S' ++ [y]) ++ R := by simp
      rw [e4] at ih
      rw [slices_symMergeCmpFunc_Gesture_L3_s, e1, wk]
      try unfold shareK
      repeat first
        | (with_reducible apply go_nil; · with_reducible rfl)
        | (with_reducible apply go_cons; · with_reducible rfl)
        | (with_reducible apply go_int; · first | with_reducible rfl | (simp (disch := omega) only [w1, Int.toNat_natCast, gtm g1, gkd g1, gtm g2, gkd g2, encG_len, T1, T2, L1, L2]; done) | (simp (disch := omega) only [w1, Int.toNat_natCast, gtm g1, gkd g1, gtm g2, gkd g2, encG_len, T1, T2, L1, L2]; with_reducible rfl))
        | (with_reducible apply go_bool; · first | with_reducible rfl | (simp (disch := omega) only [w1, Int.toNat_natCast, gtm g1, gkd g1, gtm g2, gkd g2, encG_len, T1, T2, L1, L2]; done) | (simp (disch := omega) only [w1, Int.toNat_natCast, gtm g1, gkd g1, gtm g2, gkd g2, encG_len, T1, T2, L1, L2]; with_reducible rfl))
        | (with_reducible apply go_str; · first | with_reducible rfl | (simp (disch := omega) only [w1, Int.toNat_natCast, gtm g1, gkd g1, gtm g2, gkd g2, encG_len, T1, T2, L1, L2]; done) | (simp (disch := omega) only [w1, Int.toNat_natCast, gtm g1, gkd g1, gtm g2, gkd g2, encG_len, T1, T2, L1, L2]; with_reducible rfl))
        | (with_reducible apply go_any; · first | with_reducible rfl | (simp (disch := omega) only [w1, Int.toNat_natCast, gtm g1, gkd g1, gtm g2, gkd g2, encG_len, T1, T2, L1, L2]; done) | (simp (disch := omega) only [w1, Int.toNat_natCast, gtm g1, gkd g1, gtm g2, gkd g2, encG_len, T1, T2, L1, L2]; with_reducible rfl))
        | (with_reducible apply go_ow; · first | with_reducible rfl | (simp (disch := omega) only [w1, Int.toNat_natCast, gtm g1, gkd g1, gtm g2, gkd g2, encG_len, T1, T2, L1, L2]; done) | (simp (disch := omega) only [w1, Int.toNat_natCast, gtm g1, gkd g1, gtm g2, gkd g2, encG_len, T1, T2, L1, L2]; with_reducible rfl))
        | (with_reducible apply go_ls; · first | with_reducible rfl | (simp (disch := omega) only [w1, Int.toNat_natCast, gtm g1, gkd g1, gtm g2, gkd g2, encG_len, T1, T2, L1, L2]; done) | (simp (disch := omega) only [w1, Int.toNat_natCast, gtm g1, gkd g1, gtm g2, gkd g2, encG_len, T1, T2, L1, L2]; with_reducible rfl))
        | (with_reducible apply go_agg; · first | with_reducible rfl | (simp (disch := omega) only [w1, Int.toNat_natCast, gtm g1, gkd g1, gtm g2, gkd g2, encG_len, T1, T2, L1, L2]; done) | (simp (disch := omega) only [w1, Int.toNat_natCast, gtm g1, gkd g1, gtm g2, gkd g2, encG_len, T1, T2, L1, L2]; with_reducible rfl))
        | (with_reducible apply go_pbox; · first | with_reducible rfl | (simp (disch := omega) only [w1, Int.toNat_natCast, gtm g1, gkd g1, gtm g2, gkd g2, encG_len, T1, T2, L1, L2]; done) | (simp (disch := omega) only [w1, Int.toNat_natCast, gtm g1, gkd g1, gtm g2, gkd g2, encG_len, T1, T2, L1, L2]; with_reducible rfl))
        | (with_reducible apply go_opt; · first | with_reducible rfl | (simp (disch := omega) only [w1, Int.toNat_natCast, gtm g1, gkd g1, gtm g2, gkd g2, encG_len, T1, T2, L1, L2]; done) | (simp (disch := omega) only [w1, Int.toNat_natCast, gtm g1, gkd g1, gtm g2, gkd g2, encG_len, T1, T2, L1, L2]; with_reducible rfl))
        | (with_reducible apply go_chk; · first | with_reducible rfl | omega | (simp (disch := omega) only [Bool.and_eq_true, decide_eq_true_eq, beq_iff_eq, bne_iff_ne, Bool.not_eq_true', true_and, and_true, w1, Int.toNat_natCast, gtm g1, gkd g1, gtm g2, gkd g2, encG_len, T1, T2, L1, L2]; done) | (simp (disch := omega) only [Bool.and_eq_true, decide_eq_true_eq, beq_iff_eq, bne_iff_ne, ne_eq, Bool.not_eq_true', true_and, and_true, w1, Int.toNat_natCast, gtm g1, gkd g1, gtm g2, gkd g2, encG_len, T1, T2, L1, L2] <;> omega))
        | (with_reducible apply go_call; · first | with_reducible rfl | (simp (disch := omega) only [w1, Int.toNat_natCast, gtm g1, gkd g1, gtm g2, gkd g2, encG_len, T1, T2, L1, L2]; done) | (simp (disch := omega) only [w1, Int.toNat_natCast, gtm g1, gkd g1, gtm g2, gkd g2, encG_len, T1, T2, L1, L2]; with_reducible rfl))
        | (with_reducible apply go_brT; · first | with_reducible rfl | omega | (simp (disch := omega) only [Bool.and_eq_true, decide_eq_true_eq, beq_iff_eq, bne_iff_ne, Bool.not_eq_true', true_and, and_true, w1, Int.toNat_natCast, gtm g1, gkd g1, gtm g2, gkd g2, encG_len, T1, T2, L1, L2]; done) | (simp (disch := omega) only [Bool.and_eq_true, decide_eq_true_eq, beq_iff_eq, bne_iff_ne, ne_eq, Bool.not_eq_true', true_and, and_true, w1, Int.toNat_natCast, gtm g1, gkd g1, gtm g2, gkd g2, encG_len, T1, T2, L1, L2] <;> omega))
        | (with_reducible apply go_brF; · first | with_reducible rfl | (simp (disch := omega) only [decide_eq_false_iff_not, beq_eq_false_iff_ne, bne_eq_false_iff_eq, Bool.not_eq_false', w1, Int.toNat_natCast, gtm g1, gkd g1, gtm g2, gkd g2, encG_len, T1, T2, L1, L2]; done) | (simp (disch := omega) only [decide_eq_false_iff_not, beq_eq_false_iff_ne, bne_eq_false_iff_eq, ne_eq, Bool.not_eq_false', w1, Int.toNat_natCast, gtm g1, gkd g1, gtm g2, gkd g2, encG_len, T1, T2, L1, L2] <;> omega))
      try simp (disch := omega) only [w1, Int.toNat_natCast, gtm g1, gkd g1, gtm g2, gkd g2, encG_len, T1, T2, L1, L2]
      exact ih

theorem fwd_search {n : Nat} {c : List PV} {a1 a2 a3 : Int} {l : List Ge} {a m b : Nat} (hl : l.length ≤ 1000) (ha : a < l.length) (hb : b ≤ l.length) (hmb : m ≤ b) (hfu : 1000 < fu) :
    ∃ s, m ≤ s ∧ s ≤ b ∧ (s = m ∨ (gk l (s - 1)).tm < (gk l a).tm) ∧ (s = b ∨ ¬ (gk l s).tm < (gk l a).tm) ∧ slices_symMergeCmpFunc_Gesture_L0 fu (pcall C0 Try.prog fu (d + 3)) n c a1 a2 a3 fu l.length a m b (encG l) = slices_symMergeCmpFunc_Gesture_L1 fu (pcall C0 Try.prog fu (d + 3)) n c a1 a2 a3 fu l.length s a (encG l) := by
  refine bsearch (fun nn i j => slices_symMergeCmpFunc_Gesture_L0 fu (pcall C0 Try.prog fu (d + 3)) n c a1 a2 a3 nn l.length a i j (encG l)) (fun s => slices_symMergeCmpFunc_Gesture_L1 fu (pcall C0 Try.prog fu (d + 3)) n c a1 a2 a3 fu l.length s a (encG l)) (fun c => (gk l c).tm < (gk l a).tm) ?_ ?_ fu m b (by omega) (by omega) (by omega) (by omega) (.inl rfl) (.inl rfl)
  · intro nn i j h1 h2 h3
    have g1 := gk_get (l := l) (c := (i + j) / 2) (by omega)
    have g2 := gk_get ha
    have w := half i j (by omega)
    have w1 : IntKind.wrap .i64 ((((i + j) / 2 : Nat) : Int) + 1) = (((i + j) / 2 + 1 : Nat) : Int) := by rw [wrap_i64 (by omega) (by omega)]; omega
    show slices_symMergeCmpFunc_Gesture_L0 fu (pcall C0 Try.prog fu (d + 3)) n c a1 a2 a3 (nn + 1) l.length a i j (encG l) = _
    rw [slices_symMergeCmpFunc_Gesture_L0_s]
    by_cases hp : (gk l ((i + j) / 2)).tm < (gk l a).tm
    · rw [if_pos hp]
      try unfold shareK
      repeat first
        | (with_reducible apply go_nil; · with_reducible rfl)
        | (with_reducible apply go_cons; · with_reducible rfl)
        | (with_reducible apply go_int; · first | with_reducible rfl | (simp (disch := omega) only [w, w1, Int.toNat_natCast, gtm g1, gkd g1, gtm g2, gkd g2, cmp_eq, cmp_lt (a1 := 0) (b1 := 0), decide_eq_true hp]; done) | (simp (disch := omega) only [w, w1, Int.toNat_natCast, gtm g1, gkd g1, gtm g2, gkd g2, cmp_eq, cmp_lt (a1 := 0) (b1 := 0), decide_eq_true hp]; with_reducible rfl))
        | (with_reducible apply go_bool; · first | with_reducible rfl | (simp (disch := omega) only [w, w1, Int.toNat_natCast, gtm g1, gkd g1, gtm g2, gkd g2, cmp_eq, cmp_lt (a1 := 0) (b1 := 0), decide_eq_true hp]; done) | (simp (disch := omega) only [w, w1, Int.toNat_natCast, gtm g1, gkd g1, gtm g2, gkd g2, cmp_eq, cmp_lt (a1 := 0) (b1 := 0), decide_eq_true hp]; with_reducible rfl))
        | (with_reducible apply go_str; · first | with_reducible rfl | (simp (disch := omega) only [w, w1, Int.toNat_natCast, gtm g1, gkd g1, gtm g2, gkd g2, cmp_eq, cmp_lt (a1 := 0) (b1 := 0), decide_eq_true hp]; done) | (simp (disch := omega) only [w, w1, Int.toNat_natCast, gtm g1, gkd g1, gtm g2, gkd g2, cmp_eq, cmp_lt (a1 := 0) (b1 := 0), decide_eq_true hp]; with_reducible rfl))
        | (with_reducible apply go_any; · first | with_reducible rfl | (simp (disch := omega) only [w, w1, Int.toNat_natCast, gtm g1, gkd g1, gtm g2, gkd g2, cmp_eq, cmp_lt (a1 := 0) (b1 := 0), decide_eq_true hp]; done) | (simp (disch := omega) only [w, w1, Int.toNat_natCast, gtm g1, gkd g1, gtm g2, gkd g2, cmp_eq, cmp_lt (a1 := 0) (b1 := 0), decide_eq_true hp]; with_reducible rfl))
        | (with_reducible apply go_ow; · first | with_reducible rfl | (simp (disch := omega) only [w, w1, Int.toNat_natCast, gtm g1, gkd g1, gtm g2, gkd g2, cmp_eq, cmp_lt (a1 := 0) (b1 := 0), decide_eq_true hp]; done) | (simp (disch := omega) only [w, w1, Int.toNat_natCast, gtm g1, gkd g1, gtm g2, gkd g2, cmp_eq, cmp_lt (a1 := 0) (b1 := 0), decide_eq_true hp]; with_reducible rfl))
        | (with_reducible apply go_ls; · first | with_reducible rfl | (simp (disch := omega) only [w, w1, Int.toNat_natCast, gtm g1, gkd g1, gtm g2, gkd g2, cmp_eq, cmp_lt (a1 := 0) (b1 := 0), decide_eq_true hp]; done) | (simp (disch := omega) only [w, w1, Int.toNat_natCast, gtm g1, gkd g1, gtm g2, gkd g2, cmp_eq, cmp_lt (a1 := 0) (b1 := 0), decide_eq_true hp]; with_reducible rfl))
        | (with_reducible apply go_agg; · first | with_reducible rfl | (simp (disch := omega) only [w, w1, Int.toNat_natCast, gtm g1, gkd g1, gtm g2, gkd g2, cmp_eq, cmp_lt (a1 := 0) (b1 := 0), decide_eq_true hp]; done) | (simp (disch := omega) only [w, w1, Int.toNat_natCast, gtm g1, gkd g1, gtm g2, gkd g2, cmp_eq, cmp_lt (a1 := 0) (b1 := 0), decide_eq_true hp]; with_reducible rfl))
        | (with_reducible apply go_pbox; · first | with_reducible rfl | (simp (disch := omega) only [w, w1, Int.toNat_natCast, gtm g1, gkd g1, gtm g2, gkd g2, cmp_eq, cmp_lt (a1 := 0) (b1 := 0), decide_eq_true hp]; done) | (simp (disch := omega) only [w, w1, Int.toNat_natCast, gtm g1, gkd g1, gtm g2, gkd g2, cmp_eq, cmp_lt (a1 := 0) (b1 := 0), decide_eq_true hp]; with_reducible rfl))
        | (with_reducible apply go_opt; · first | with_reducible rfl | (simp (disch := omega) only [w, w1, Int.toNat_natCast, gtm g1, gkd g1, gtm g2, gkd g2, cmp_eq, cmp_lt (a1 := 0) (b1 := 0), decide_eq_true hp]; done) | (simp (disch := omega) only [w, w1, Int.toNat_natCast, gtm g1, gkd g1, gtm g2, gkd g2, cmp_eq, cmp_lt (a1 := 0) (b1 := 0), decide_eq_true hp]; with_reducible rfl))
        | (with_reducible apply go_chk; · first | with_reducible rfl | omega | (simp (disch := omega) only [Bool.and_eq_true, decide_eq_true_eq, beq_iff_eq, bne_iff_ne, Bool.not_eq_true', true_and, and_true, w, w1, Int.toNat_natCast, gtm g1, gkd g1, gtm g2, gkd g2, cmp_eq, cmp_lt (a1 := 0) (b1 := 0), decide_eq_true hp]; done) | (simp (disch := omega) only [Bool.and_eq_true, decide_eq_true_eq, beq_iff_eq, bne_iff_ne, ne_eq, Bool.not_eq_true', true_and, and_true, w, w1, Int.toNat_natCast, gtm g1, gkd g1, gtm g2, gkd g2, cmp_eq, cmp_lt (a1 := 0) (b1 := 0), decide_eq_true hp] <;> omega))
        | (with_reducible apply go_call; · first | with_reducible rfl | (simp (disch := omega) only [w, w1, Int.toNat_natCast, gtm g1, gkd g1, gtm g2, gkd g2, cmp_eq, cmp_lt (a1 := 0) (b1 := 0), decide_eq_true hp]; done) | (simp (disch := omega) only [w, w1, Int.toNat_natCast, gtm g1, gkd g1, gtm g2, gkd g2, cmp_eq, cmp_lt (a1 := 0) (b1 := 0), decide_eq_true hp]; with_reducible rfl))
        | (with_reducible apply go_brT; · first | with_reducible rfl | omega | (simp (disch := omega) only [Bool.and_eq_true, decide_eq_true_eq, beq_iff_eq, bne_iff_ne, Bool.not_eq_true', true_and, and_true, w, w1, Int.toNat_natCast, gtm g1, gkd g1, gtm g2, gkd g2, cmp_eq, cmp_lt (a1 := 0) (b1 := 0), decide_eq_true hp]; done) | (simp (disch := omega) only [Bool.and_eq_true, decide_eq_true_eq, beq_iff_eq, bne_iff_ne, ne_eq, Bool.not_eq_true', true_and, and_true, w, w1, Int.toNat_natCast, gtm g1, gkd g1, gtm g2, gkd g2, cmp_eq, cmp_lt (a1 := 0) (b1 := 0), decide_eq_true hp] <;> omega))
        | (with_reducible apply go_brF; · first | with_reducible rfl | (simp (disch := omega) only [decide_eq_false_iff_not, beq_eq_false_iff_ne, bne_eq_false_iff_eq, Bool.not_eq_false', w, w1, Int.toNat_natCast, gtm g1, gkd g1, gtm g2, gkd g2, cmp_eq, cmp_lt (a1 := 0) (b1 := 0), decide_eq_true hp]; done) | (simp (disch := omega) only [decide_eq_false_iff_not, beq_eq_false_iff_ne, bne_eq_false_iff_eq, ne_eq, Bool.not_eq_false', w, w1, Int.toNat_natCast, gtm g1, gkd g1, gtm g2, gkd g2, cmp_eq, cmp_lt (a1 := 0) (b1 := 0), decide_eq_true hp] <;> omega))
      try simp (disch := omega) only [w, w1, Int.toNat_natCast, gtm g1, gkd g1, gtm g2, gkd g2, cmp_eq, cmp_lt (a1 := 0) (b1 := 0), decide_eq_true hp]
    · rw [if_neg hp]
      try unfold shareK
      repeat first
        | (with_reducible apply go_nil; · with_reducible rfl)
        | (with_reducible apply go_cons; · with_reducible rfl)
        | (with_reducible apply go_int; · first | with_reducible rfl | (simp (disch := omega) only [w, w1, Int.toNat_natCast, gtm g1, gkd g1, gtm g2, gkd g2, cmp_eq, cmp_lt (a1 := 0) (b1 := 0), decide_eq_false hp]; done) | (simp (disch := omega) only [w, w1, Int.toNat_natCast, gtm g1, gkd g1, gtm g2, gkd g2, cmp_eq, cmp_lt (a1 := 0) (b1 := 0), decide_eq_false hp]; with_reducible rfl))
        | (with_reducible apply go_bool; · first | with_reducible rfl | (simp (disch := omega) only [w, w1, Int.toNat_natCast, gtm g1, gkd g1, gtm g2, gkd g2, cmp_eq, cmp_lt (a1 := 0) (b1 := 0), decide_eq_false hp]; done) | (simp (disch := omega) only [w, w1, Int.toNat_natCast, gtm g1, gkd g1, gtm g2, gkd g2, cmp_eq, cmp_lt (a1 := 0) (b1 := 0), decide_eq_false hp]; with_reducible rfl))
        | (with_reducible apply go_str; · first | with_reducible rfl | (simp (disch := omega) only [w, w1, Int.toNat_natCast, gtm g1, gkd g1, gtm g2, gkd g2, cmp_eq, cmp_lt (a1 := 0) (b1 := 0), decide_eq_false hp]; done) | (simp (disch := omega) only [w, w1, Int.toNat_natCast, gtm g1, gkd g1, gtm g2, gkd g2, cmp_eq, cmp_lt (a1 := 0) (b1 := 0), decide_eq_false hp]; with_reducible rfl))
        | (with_reducible apply go_any; · first | with_reducible rfl | (simp (disch := omega) only [w, w1, Int.toNat_natCast, gtm g1, gkd g1, gtm g2, gkd g2, cmp_eq, cmp_lt (a1 := 0) (b1 := 0), decide_eq_false hp]; done) | (simp (disch := omega) only [w, w1, Int.toNat_natCast, gtm g1, gkd g1, gtm g2, gkd g2, cmp_eq, cmp_lt (a1 := 0) (b1 := 0), decide_eq_false hp]; with_reducible rfl))
        | (with_reducible apply go_ow; · first | with_reducible rfl | (simp (disch := omega) only [w, w1, Int.toNat_natCast, gtm g1, gkd g1, gtm g2, gkd g2, cmp_eq, cmp_lt (a1 := 0) (b1 := 0), decide_eq_false hp]; done) | (simp (disch := omega) only [w, w1, Int.toNat_natCast, gtm g1, gkd g1, gtm g2, gkd g2, cmp_eq, cmp_lt (a1 := 0) (b1 := 0), decide_eq_false hp]; with_reducible rfl))
        | (with_reducible apply go_ls; · first | with_reducible rfl | (simp (disch := omega) only [w, w1, Int.toNat_natCast, gtm g1, gkd g1, gtm g2, gkd g2, cmp_eq, cmp_lt (a1 := 0) (b1 := 0), decide_eq_false hp]; done) | (simp (disch := omega) only [w, w1, Int.toNat_natCast, gtm g1, gkd g1, gtm g2, gkd g2, cmp_eq, cmp_lt (a1 := 0) (b1 := 0), decide_eq_false hp]; with_reducible rfl))
        | (with_reducible apply go_agg; · first | with_reducible rfl | (simp (disch := omega) only [w, w1, Int.toNat_natCast, gtm g1, gkd g1, gtm g2, gkd g2, cmp_eq, cmp_lt (a1 := 0) (b1 := 0), decide_eq_false hp]; done) | (simp (disch := omega) only [w, w1, Int.toNat_natCast, gtm g1, gkd g1, gtm g2, gkd g2, cmp_eq, cmp_lt (a1 := 0) (b1 := 0), decide_eq_false hp]; with_reducible rfl))
        | (with_reducible apply go_pbox; · first | with_reducible rfl | (simp (disch := omega) only [w, w1, Int.toNat_natCast, gtm g1, gkd g1, gtm g2, gkd g2, cmp_eq, cmp_lt (a1 := 0) (b1 := 0), decide_eq_false hp]; done) | (simp (disch := omega) only [w, w1, Int.toNat_natCast, gtm g1, gkd g1, gtm g2, gkd g2, cmp_eq, cmp_lt (a1 := 0) (b1 := 0), decide_eq_false hp]; with_reducible rfl))
        | (with_reducible apply go_opt; · first | with_reducible rfl | (simp (disch := omega) only [w, w1, Int.toNat_natCast, gtm g1, gkd g1, gtm g2, gkd g2, cmp_eq, cmp_lt (a1 := 0) (b1 := 0), decide_eq_false hp]; done) | (simp (disch := omega) only [w, w1, Int.toNat_natCast, gtm g1, gkd g1, gtm g2, gkd g2, cmp_eq, cmp_lt (a1 := 0) (b1 := 0), decide_eq_false hp]; with_reducible rfl))
        | (with_reducible apply go_chk; · first | with_reducible rfl | omega | (simp (disch := omega) only [Bool.and_eq_true, decide_eq_true_eq, beq_iff_eq, bne_iff_ne, Bool.not_eq_true', true_and, and_true, w, w1, Int.toNat_natCast, gtm g1, gkd g1, gtm g2, gkd g2, cmp_eq, cmp_lt (a1 := 0) (b1 := 0), decide_eq_false hp]; done) | (simp (disch := omega) only [Bool.and_eq_true, decide_eq_true_eq, beq_iff_eq, bne_iff_ne, ne_eq, Bool.not_eq_true', true_and, and_true, w, w1, Int.toNat_natCast, gtm g1, gkd g1, gtm g2, gkd g2, cmp_eq, cmp_lt (a1 := 0) (b1 := 0), decide_eq_false hp] <;> omega))
        | (with_reducible apply go_call; · first | with_reducible rfl | (simp (disch := omega) only [w, w1, Int.toNat_natCast, gtm g1, gkd g1, gtm g2, gkd g2, cmp_eq, cmp_lt (a1 := 0) (b1 := 0), decide_eq_false hp]; done) | (simp (disch := omega) only [w, w1, Int.toNat_natCast, gtm g1, gkd g1, gtm g2, gkd g2, cmp_eq, cmp_lt (a1 := 0) (b1 := 0), decide_eq_false hp]; with_reducible rfl))
        | (with_reducible apply go_brT; · first | with_reducible rfl | omega | (simp (disch := omega) only [Bool.and_eq_true, decide_eq_true_eq, beq_iff_eq, bne_iff_ne, Bool.not_eq_true', true_and, and_true, w, w1, Int.toNat_natCast, gtm g1, gkd g1, gtm g2, gkd g2, cmp_eq, cmp_lt (a1 := 0) (b1 := 0), decide_eq_false hp]; done) | (simp (disch := omega) only [Bool.and_eq_true, decide_eq_true_eq, beq_iff_eq, bne_iff_ne, ne_eq, Bool.not_eq_true', true_and, and_true, w, w1, Int.toNat_natCast, gtm g1, gkd g1, gtm g2, gkd g2, cmp_eq, cmp_lt (a1 := 0) (b1 := 0), decide_eq_false hp] <;> omega))
        | (with_reducible apply go_brF; · first | with_reducible rfl | (simp (disch := omega) only [decide_eq_false_iff_not, beq_eq_false_iff_ne, bne_eq_false_iff_eq, Bool.not_eq_false', w, w1, Int.toNat_natCast, gtm g1, gkd g1, gtm g2, gkd g2, cmp_eq, cmp_lt (a1 := 0) (b1 := 0), decide_eq_false hp]; done) | (simp (disch := omega) only [decide_eq_false_iff_not, beq_eq_false_iff_ne, bne_eq_false_iff_eq, ne_eq, Bool.not_eq_false', w, w1, Int.toNat_natCast, gtm g1, gkd g1, gtm g2, gkd g2, cmp_eq, cmp_lt (a1 := 0) (b1 := 0), decide_eq_false hp] <;> omega))
      try simp (disch := omega) only [w, w1, Int.toNat_natCast, gtm g1, gkd g1, gtm g2, gkd g2, cmp_eq, cmp_lt (a1 := 0) (b1 := 0), decide_eq_false hp]
  · intro nn i h1 h2
    show slices_symMergeCmpFunc_Gesture_L0 fu (pcall C0 Try.prog fu (d + 3)) n c a1 a2 a3 (nn + 1) l.length a i i (encG l) = _
    rw [slices_symMergeCmpFunc_Gesture_L0_s, nd_brf _ _ _ (by omega)]

theorem bwd_search {n : Nat} {c : List PV} {a1 a2 a3 : Int} {l : List Ge} {a m : Nat} (hl : l.length ≤ 1000) (hm : m < l.length) (ham : a ≤ m) (hfu : 1000 < fu) :
    ∃ s, a ≤ s ∧ s ≤ m ∧ (s = a ∨ ¬ (gk l m).tm < (gk l (s - 1)).tm) ∧ (s = m ∨ ¬ ¬ (gk l m).tm < (gk l s).tm) ∧ slices_symMergeCmpFunc_Gesture_L2 fu (pcall C0 Try.prog fu (d + 3)) n c a1 a2 a3 fu l.length m a m (encG l) = slices_symMergeCmpFunc_Gesture_L3 fu (pcall C0 Try.prog fu (d + 3)) n c a1 a2 a3 fu l.length s m (encG l) := by
  refine bsearch (fun nn i j => slices_symMergeCmpFunc_Gesture_L2 fu (pcall C0 Try.prog fu (d + 3)) n c a1 a2 a3 nn l.length m i j (encG l)) (fun s => slices_symMergeCmpFunc_Gesture_L3 fu (pcall C0 Try.prog fu (d + 3)) n c a1 a2 a3 fu l.length s m (encG l)) (fun c => ¬ (gk l m).tm < (gk l c).tm) ?_ ?_ fu a m (by omega) (by omega) (by omega) (by omega) (.inl rfl) (.inl rfl)
  · intro nn i j h1 h2 h3
    have g1 := gk_get (l := l) (c := (i + j) / 2) (by omega)
    have g2 := gk_get hm
    have w := half i j (by omega)
    have w1 : IntKind.wrap .i64 ((((i + j) / 2 : Nat) : Int) + 1) = (((i + j) / 2 + 1 : Nat) : Int) := by rw [wrap_i64 (by omega) (by omega)]; omega
    show slices_symMergeCmpFunc_Gesture_L2 fu (pcall C0 Try.prog fu (d + 3)) n c a1 a2 a3 (nn + 1) l.length m i j (encG l) = _
    rw [slices_symMergeCmpFunc_Gesture_L2_s]
    by_cases hp : (gk l m).tm < (gk l ((i + j) / 2)).tm
    · rw [if_neg (by simpa using hp)]
      try unfold shareK
      repeat first
        | (with_reducible apply go_nil; · with_reducible rfl)
        | (with_reducible apply go_cons; · with_reducible rfl)
        | (with_reducible apply go_int; · first | with_reducible rfl | (simp (disch := omega) only [w, w1, Int.toNat_natCast, gtm g1, gkd g1, gtm g2, gkd g2, cmp_eq, cmp_lt (a1 := 0) (b1 := 0), decide_eq_true hp, Bool.not_true]; done) | (simp (disch := omega) only [w, w1, Int.toNat_natCast, gtm g1, gkd g1, gtm g2, gkd g2, cmp_eq, cmp_lt (a1 := 0) (b1 := 0), decide_eq_true hp, Bool.not_true]; with_reducible rfl))
        | (with_reducible apply go_bool; · first | with_reducible rfl | (simp (disch := omega) only [w, w1, Int.toNat_natCast, gtm g1, gkd g1, gtm g2, gkd g2, cmp_eq, cmp_lt (a1 := 0) (b1 := 0), decide_eq_true hp, Bool.not_true]; done) | (simp (disch := omega) only [w, w1, Int.toNat_natCast, gtm g1, gkd g1, gtm g2, gkd g2, cmp_eq, cmp_lt (a1 := 0) (b1 := 0), decide_eq_true hp, Bool.not_true]; with_reducible rfl))
        | (with_reducible apply go_str; · first | with_reducible rfl | (simp (disch := omega) only [w, w1, Int.toNat_natCast, gtm g1, gkd g1, gtm g2, gkd g2, cmp_eq, cmp_lt (a1 := 0) (b1 := 0), decide_eq_true hp, Bool.not_true]; done) | (simp (disch := omega) only [w, w1, Int.toNat_natCast, gtm g1, gkd g1, gtm g2, gkd g2, cmp_eq, cmp_lt (a1 := 0) (b1 := 0), decide_eq_true hp, Bool.not_true]; with_reducible rfl))
        | (with_reducible apply go_any; · first | with_reducible rfl | (simp (disch := omega) only [w, w1, Int.toNat_natCast, gtm g1, gkd g1, gtm g2, gkd g2, cmp_eq, cmp_lt (a1 := 0) (b1 := 0), decide_eq_true hp, Bool.not_true]; done) | (simp (disch := omega) only [w, w1, Int.toNat_natCast, gtm g1, gkd g1, gtm g2, gkd g2, cmp_eq, cmp_lt (a1 := 0) (b1 := 0), decide_eq_true hp, Bool.not_true]; with_reducible rfl))
        | (with_reducible apply go_ow; · first | with_reducible rfl | (simp (disch := omega) only [w, w1, Int.toNat_natCast, gtm g1, gkd g1, gtm g2, gkd g2, cmp_eq, cmp_lt (a1 := 0) (b1 := 0), decide_eq_true hp, Bool.not_true]; done) | (simp (disch := omega) only [w, w1, Int.toNat_natCast, gtm g1, gkd g1, gtm g2, gkd g2, cmp_eq, cmp_lt (a1 := 0) (b1 := 0), decide_eq_true hp, Bool.not_true]; with_reducible rfl))
        | (with_reducible apply go_ls; · first | with_reducible rfl | (simp (disch := omega) only [w, w1, Int.toNat_natCast, gtm g1, gkd g1, gtm g2, gkd g2, cmp_eq, cmp_lt (a1 := 0) (b1 := 0), decide_eq_true hp, Bool.not_true]; done) | (simp (disch := omega) only [w, w1, Int.toNat_natCast, gtm g1, gkd g1, gtm g2, gkd g2, cmp_eq, cmp_lt (a1 := 0) (b1 := 0), decide_eq_true hp, Bool.not_true]; with_reducible rfl))
        | (with_reducible apply go_agg; · first | with_reducible rfl | (simp (disch := omega) only [w, w1, Int.toNat_natCast, gtm g1, gkd g1, gtm g2, gkd g2, cmp_eq, cmp_lt (a1 := 0) (b1 := 0), decide_eq_true hp, Bool.not_true]; done) | (simp (disch := omega) only [w, w1, Int.toNat_natCast, gtm g1, gkd g1, gtm g2, gkd g2, cmp_eq, cmp_lt (a1 := 0) (b1 := 0), decide_eq_true hp, Bool.not_true]; with_reducible rfl))
        | (with_reducible apply go_pbox; · first | with_reducible rfl | (simp (disch := omega) only [w, w1, Int.toNat_natCast, gtm g1, gkd g1, gtm g2, gkd g2, cmp_eq, cmp_lt (a1 := 0) (b1 := 0), decide_eq_true hp, Bool.not_true]; done) | (simp (disch := omega) only [w, w1, Int.toNat_natCast, gtm g1, gkd g1, gtm g2, gkd g2, cmp_eq, cmp_lt (a1 := 0) (b1 := 0), decide_eq_true hp, Bool.not_true]; with_reducible rfl))
        | (with_reducible apply go_opt; · first | with_reducible rfl | (simp (disch := omega) only [w, w1, Int.toNat_natCast, gtm g1, gkd g1, gtm g2, gkd g2, cmp_eq, cmp_lt (a1 := 0) (b1 := 0), decide_eq_true hp, Bool.not_true]; done) | (simp (disch := omega) only [w, w1, Int.toNat_natCast, gtm g1, gkd g1, gtm g2, gkd g2, cmp_eq, cmp_lt (a1 := 0) (b1 := 0), decide_eq_true hp, Bool.not_true]; with_reducible rfl))
        | (with_reducible apply go_chk; · first | with_reducible rfl | omega | (simp (disch := omega) only [Bool.and_eq_true, decide_eq_true_eq, beq_iff_eq, bne_iff_ne, Bool.not_eq_true', true_and, and_true, w, w1, Int.toNat_natCast, gtm g1, gkd g1, gtm g2, gkd g2, cmp_eq, cmp_lt (a1 := 0) (b1 := 0), decide_eq_true hp, Bool.not_true]; done) | (simp (disch := omega) only [Bool.and_eq_true, decide_eq_true_eq, beq_iff_eq, bne_iff_ne, ne_eq, Bool.not_eq_true', true_and, and_true, w, w1, Int.toNat_natCast, gtm g1, gkd g1, gtm g2, gkd g2, cmp_eq, cmp_lt (a1 := 0) (b1 := 0), decide_eq_true hp, Bool.not_true] <;> omega))
        | (with_reducible apply go_call; · first | with_reducible rfl | (simp (disch := omega) only [w, w1, Int.toNat_natCast, gtm g1, gkd g1, gtm g2, gkd g2, cmp_eq, cmp_lt (a1 := 0) (b1 := 0), decide_eq_true hp, Bool.not_true]; done) | (simp (disch := omega) only [w, w1, Int.toNat_natCast, gtm g1, gkd g1, gtm g2, gkd g2, cmp_eq, cmp_lt (a1 := 0) (b1 := 0), decide_eq_true hp, Bool.not_true]; with_reducible rfl))
        | (with_reducible apply go_brT; · first | with_reducible rfl | omega | (simp (disch := omega) only [Bool.and_eq_true, decide_eq_true_eq, beq_iff_eq, bne_iff_ne, Bool.not_eq_true', true_and, and_true, w, w1, Int.toNat_natCast, gtm g1, gkd g1, gtm g2, gkd g2, cmp_eq, cmp_lt (a1 := 0) (b1 := 0), decide_eq_true hp, Bool.not_true]; done) | (simp (disch := omega) only [Bool.and_eq_true, decide_eq_true_eq, beq_iff_eq, bne_iff_ne, ne_eq, Bool.not_eq_true', true_and, and_true, w, w1, Int.toNat_natCast, gtm g1, gkd g1, gtm g2, gkd g2, cmp_eq, cmp_lt (a1 := 0) (b1 := 0), decide_eq_true hp, Bool.not_true] <;> omega))
        | (with_reducible apply go_brF; · first | with_reducible rfl | (simp (disch := omega) only [decide_eq_false_iff_not, beq_eq_false_iff_ne, bne_eq_false_iff_eq, Bool.not_eq_false', w, w1, Int.toNat_natCast, gtm g1, gkd g1, gtm g2, gkd g2, cmp_eq, cmp_lt (a1 := 0) (b1 := 0), decide_eq_true hp, Bool.not_true]; done) | (simp (disch := omega) only [decide_eq_false_iff_not, beq_eq_false_iff_ne, bne_eq_false_iff_eq, ne_eq, Bool.not_eq_false', w, w1, Int.toNat_natCast, gtm g1, gkd g1, gtm g2, gkd g2, cmp_eq, cmp_lt (a1 := 0) (b1 := 0), decide_eq_true hp, Bool.not_true] <;> omega))
      try simp (disch := omega) only [w, w1, Int.toNat_natCast, gtm g1, gkd g1, gtm g2, gkd g2, cmp_eq, cmp_lt (a1 := 0) (b1 := 0), decide_eq_true hp, Bool.not_true]
    · rw [if_pos hp]
      try unfold shareK
      repeat first
        | (with_reducible apply go_nil; · with_reducible rfl)
        | (with_reducible apply go_cons; · with_reducible rfl)
        | (with_reducible apply go_int; · first | with_reducible rfl | (simp (disch := omega) only [w, w1, Int.toNat_natCast, gtm g1, gkd g1, gtm g2, gkd g2, cmp_eq, cmp_lt (a1 := 0) (b1 := 0), decide_eq_false hp, Bool.not_false]; done) | (simp (disch := omega) only [w, w1, Int.toNat_natCast, gtm g1, gkd g1, gtm g2, gkd g2, cmp_eq, cmp_lt (a1 := 0) (b1 := 0), decide_eq_false hp, Bool.not_false]; with_reducible rfl))
        | (with_reducible apply go_bool; · first | with_reducible rfl | (simp (disch := omega) only [w, w1, Int.toNat_natCast, gtm g1, gkd g1, gtm g2, gkd g2, cmp_eq, cmp_lt (a1 := 0) (b1 := 0), decide_eq_false hp, Bool.not_false]; done) | (simp (disch := omega) only [w, w1, Int.toNat_natCast, gtm g1, gkd g1, gtm g2, gkd g2, cmp_eq, cmp_lt (a1 := 0) (b1 := 0), decide_eq_false hp, Bool.not_false]; with_reducible rfl))
        | (with_reducible apply go_str; · first | with_reducible rfl | (simp (disch := omega) only [w, w1, Int.toNat_natCast, gtm g1, gkd g1, gtm g2, gkd g2, cmp_eq, cmp_lt (a1 := 0) (b1 := 0), decide_eq_false hp, Bool.not_false]; done) | (simp (disch := omega) only [w, w1, Int.toNat_natCast, gtm g1, gkd g1, gtm g2, gkd g2, cmp_eq, cmp_lt (a1 := 0) (b1 := 0), decide_eq_false hp, Bool.not_false]; with_reducible rfl))
        | (with_reducible apply go_any; · first | with_reducible rfl | (simp (disch := omega) only [w, w1, Int.toNat_natCast, gtm g1, gkd g1, gtm g2, gkd g2, cmp_eq, cmp_lt (a1 := 0) (b1 := 0), decide_eq_false hp, Bool.not_false]; done) | (simp (disch := omega) only [w, w1, Int.toNat_natCast, gtm g1, gkd g1, gtm g2, gkd g2, cmp_eq, cmp_lt (a1 := 0) (b1 := 0), decide_eq_false hp, Bool.not_false]; with_reducible rfl))
        | (with_reducible apply go_ow; · first | with_reducible rfl | (simp (disch := omega) only [w, w1, Int.toNat_natCast, gtm g1, gkd g1, gtm g2, gkd g2, cmp_eq, cmp_lt (a1 := 0) (b1 := 0), decide_eq_false hp, Bool.not_false]; done) | (simp (disch := omega) only [w, w1, Int.toNat_natCast, gtm g1, gkd g1, gtm g2, gkd g2, cmp_eq, cmp_lt (a1 := 0) (b1 := 0), decide_eq_false hp, Bool.not_false]; with_reducible rfl))
        | (with_reducible apply go_ls; · first | with_reducible rfl | (simp (disch := omega) only [w, w1, Int.toNat_natCast, gtm g1, gkd g1, gtm g2, gkd g2, cmp_eq, cmp_lt (a1 := 0) (b1 := 0), decide_eq_false hp, Bool.not_false]; done) | (simp (disch := omega) only [w, w1, Int.toNat_natCast, gtm g1, gkd g1, gtm g2, gkd g2, cmp_eq, cmp_lt (a1 := 0) (b1 := 0), decide_eq_false hp, Bool.not_false]; with_reducible rfl))
        | (with_reducible apply go_agg; · first | with_reducible rfl | (simp (disch := omega) only [w, w1, Int.toNat_natCast, gtm g1, gkd g1, gtm g2, gkd g2, cmp_eq, cmp_lt (a1 := 0) (b1 := 0), decide_eq_false hp, Bool.not_false]; done) | (simp (disch := omega) only [w, w1, Int.toNat_natCast, gtm g1, gkd g1, gtm g2, gkd g2, cmp_eq, cmp_lt (a1 := 0) (b1 := 0), decide_eq_false hp, Bool.not_false]; with_reducible rfl))
        | (with_reducible apply go_pbox; · first | with_reducible rfl | (simp (disch := omega) only [w, w1, Int.toNat_natCast, gtm g1, gkd g1, gtm g2, gkd g2, cmp_eq, cmp_lt (a1 := 0) (b1 := 0), decide_eq_false hp, Bool.not_false]; done) | (simp (disch := omega) only [w, w1, Int.toNat_natCast, gtm g1, gkd g1, gtm g2, gkd g2, cmp_eq, cmp_lt (a1 := 0) (b1 := 0), decide_eq_false hp, Bool.not_false]; with_reducible rfl))
        | (with_reducible apply go_opt; · first | with_reducible rfl | (simp (disch := omega) only [w, w1, Int.toNat_natCast, gtm g1, gkd g1, gtm g2, gkd g2, cmp_eq, cmp_lt (a1 := 0) (b1 := 0), decide_eq_false hp, Bool.not_false]; done) | (simp (disch := omega) only [w, w1, Int.toNat_natCast, gtm g1, gkd g1, gtm g2, gkd g2, cmp_eq, cmp_lt (a1 := 0) (b1 := 0), decide_eq_false hp, Bool.not_false]; with_reducible rfl))
        | (with_reducible apply go_chk; · first | with_reducible rfl | omega | (simp (disch := omega) only [Bool.and_eq_true, decide_eq_true_eq, beq_iff_eq, bne_iff_ne, Bool.not_eq_true', true_and, and_true, w, w1, Int.toNat_natCast, gtm g1, gkd g1, gtm g2, gkd g2, cmp_eq, cmp_lt (a1 := 0) (b1 := 0), decide_eq_false hp, Bool.not_false]; done) | (simp (disch := omega) only [Bool.and_eq_true, decide_eq_true_eq, beq_iff_eq, bne_iff_ne, ne_eq, Bool.not_eq_true', true_and, and_true, w, w1, Int.toNat_natCast, gtm g1, gkd g1, gtm g2, gkd g2, cmp_eq, cmp_lt (a1 := 0) (b1 := 0), decide_eq_false hp, Bool.not_false] <;> omega))
        | (with_reducible apply go_call; · first | with_reducible rfl | (simp (disch := omega) only [w, w1, Int.toNat_natCast, gtm g1, gkd g1, gtm g2, gkd g2, cmp_eq, cmp_lt (a1 := 0) (b1 := 0), decide_eq_false hp, Bool.not_false]; done) | (simp (disch := omega) only [w, w1, Int.toNat_natCast, gtm g1, gkd g1, gtm g2, gkd g2, cmp_eq, cmp_lt (a1 := 0) (b1 := 0), decide_eq_false hp, Bool.not_false]; with_reducible rfl))
        | (with_reducible apply go_brT; · first | with_reducible rfl | omega | (simp (disch := omega) only [Bool.and_eq_true, decide_eq_true_eq, beq_iff_eq, bne_iff_ne, Bool.not_eq_true', true_and, and_true, w, w1, Int.toNat_natCast, gtm g1, gkd g1, gtm g2, gkd g2, cmp_eq, cmp_lt (a1 := 0) (b1 := 0), decide_eq_false hp, Bool.not_false]; done) | (simp (disch := omega) only [Bool.and_eq_true, decide_eq_true_eq, beq_iff_eq, bne_iff_ne, ne_eq, Bool.not_eq_true', true_and, and_true, w, w1, Int.toNat_natCast, gtm g1, gkd g1, gtm g2, gkd g2, cmp_eq, cmp_lt (a1 := 0) (b1 := 0), decide_eq_false hp, Bool.not_false] <;> omega))
        | (with_reducible apply go_brF; · first | with_reducible rfl | (simp (disch := omega) only [decide_eq_false_iff_not, beq_eq_false_iff_ne, bne_eq_false_iff_eq, Bool.not_eq_false', w, w1, Int.toNat_natCast, gtm g1, gkd g1, gtm g2, gkd g2, cmp_eq, cmp_lt (a1 := 0) (b1 := 0), decide_eq_false hp, Bool.not_false]; done) | (simp (disch := omega) only [decide_eq_false_iff_not, beq_eq_false_iff_ne, bne_eq_false_iff_eq, ne_eq, Bool.not_eq_false', w, w1, Int.toNat_natCast, gtm g1, gkd g1, gtm g2, gkd g2, cmp_eq, cmp_lt (a1 := 0) (b1 := 0), decide_eq_false hp, Bool.not_false] <;> omega))
      try simp (disch := omega) only [w, w1, Int.toNat_natCast, gtm g1, gkd g1, gtm g2, gkd g2, cmp_eq, cmp_lt (a1 := 0) (b1 := 0), decide_eq_false hp, Bool.not_false]
  · intro nn i h1 h2
    show slices_symMergeCmpFunc_Gesture_L2 fu (pcall C0 Try.prog fu (d + 3)) n c a1 a2 a3 (nn + 1) l.length m i i (encG l) = _
    rw [slices_symMergeCmpFunc_Gesture_L2_s, nd_brf _ _ _ (by omega)]

theorem sym_search {n : Nat} {c : List PV} {a1 a2 a3 y1 y2 y3 y4 y5 : Int} {l : List Ge} {lo hi p : Nat} (hl : l.length ≤ 1000) (hlo : lo ≤ hi) (hhi : hi ≤ l.length) (hp : hi ≤ p + 1) (hp' : p < l.length + lo) (hfu : 1000 < fu) :
    ∃ s, lo ≤ s ∧ s ≤ hi ∧ (s = lo ∨ ¬ (gk l (p - (s - 1))).tm < (gk l (s - 1)).tm) ∧ (s = hi ∨ ¬ ¬ (gk l (p - s)).tm < (gk l s).tm) ∧ slices_symMergeCmpFunc_Gesture_L4 fu (pcall C0 Try.prog fu (d + 3)) n c a1 a2 a3 fu l.length y1 y2 y3 y4 y5 lo hi p (encG l) = slices_symMergeCmpFunc_Gesture_L4 fu (pcall C0 Try.prog fu (d + 3)) n c a1 a2 a3 1 l.length y1 y2 y3 y4 y5 s s p (encG l) := by
  refine bsearch (fun nn i j => slices_symMergeCmpFunc_Gesture_L4 fu (pcall C0 Try.prog fu (d + 3)) n c a1 a2 a3 nn l.length y1 y2 y3 y4 y5 i j p (encG l)) (fun s => slices_symMergeCmpFunc_Gesture_L4 fu (pcall C0 Try.prog fu (d + 3)) n c a1 a2 a3 1 l.length y1 y2 y3 y4 y5 s s p (encG l)) (fun c => ¬ (gk l (p - c)).tm < (gk l c).tm) ?_ ?_ fu lo hi (by omega) (by omega) (by omega) (by omega) (.inl rfl) (.inl rfl)
  · intro nn i j h1 h2 h3
    have g1 := gk_get (l := l) (c := (i + j) / 2) (by omega)
    have g2 := gk_get (l := l) (c := p - (i + j) / 2) (by omega)
    have w := half i j (by omega)
    have w1 : IntKind.wrap .i64 ((((i + j) / 2 : Nat) : Int) + 1) = (((i + j) / 2 + 1 : Nat) : Int) := by rw [wrap_i64 (by omega) (by omega)]; omega
    have w2 : IntKind.wrap .i64 ((p : Int) - (((i + j) / 2 : Nat) : Int)) = ((p - (i + j) / 2 : Nat) : Int) := by rw [wrap_i64 (by omega) (by omega)]; omega
    show slices_symMergeCmpFunc_Gesture_L4 fu (pcall C0 Try.prog fu (d + 3)) n c a1 a2 a3 (nn + 1) l.length y1 y2 y3 y4 y5 i j p (encG l) = _
    rw [slices_symMergeCmpFunc_Gesture_L4_s, nd_brt _ _ _ (by omega)]
    by_cases hp : (gk l (p - (i + j) / 2)).tm < (gk l ((i + j) / 2)).tm
    · rw [if_neg (by simpa using hp)]
      try unfold shareK
      repeat first
        | (with_reducible apply go_nil; · with_reducible rfl)
        | (with_reducible apply go_cons; · with_reducible rfl)
        | (with_reducible apply go_int; · first | with_reducible rfl | (simp (disch := omega) only [w, w1, w2, Int.toNat_natCast, gtm g1, gkd g1, gtm g2, gkd g2, cmp_eq, cmp_lt (a1 := 0) (b1 := 0), decide_eq_true hp, Bool.not_true]; done) | (simp (disch := omega) only [w, w1, w2, Int.toNat_natCast, gtm g1, gkd g1, gtm g2, gkd g2, cmp_eq, cmp_lt (a1 := 0) (b1 := 0), decide_eq_true hp, Bool.not_true]; with_reducible rfl))
        | (with_reducible apply go_bool; · first | with_reducible rfl | (simp (disch := omega) only [w, w1, w2, Int.toNat_natCast, gtm g1, gkd g1, gtm g2, gkd g2, cmp_eq, cmp_lt (a1 := 0) (b1 := 0), decide_eq_true hp, Bool.not_true]; done) | (simp (disch := omega) only [w, w1, w2, Int.toNat_natCast, gtm g1, gkd g1, gtm g2, gkd g2, cmp_eq, cmp_lt (a1 := 0) (b1 := 0), decide_eq_true hp, Bool.not_true]; with_reducible rfl))
        | (with_reducible apply go_str; · first | with_reducible rfl | (simp (disch := omega) only [w, w1, w2, Int.toNat_natCast, gtm g1, gkd g1, gtm g2, gkd g2, cmp_eq, cmp_lt (a1 := 0) (b1 := 0), decide_eq_true hp, Bool.not_true]; done) | (simp (disch := omega) only [w, w1, w2, Int.toNat_natCast, gtm g1, gkd g1, gtm g2, gkd g2, cmp_eq, cmp_lt (a1 := 0) (b1 := 0), decide_eq_true hp, Bool.not_true]; with_reducible rfl))
        | (with_reducible apply go_any; · first | with_reducible rfl | (simp (disch := omega) only [w, w1, w2, Int.toNat_natCast, gtm g1, gkd g1, gtm g2, gkd g2, cmp_eq, cmp_lt (a1 := 0) (b1 := 0), decide_eq_true hp, Bool.not_true]; done) | (simp (disch := omega) only [w, w1, w2, Int.toNat_natCast, gtm g1, gkd g1, gtm g2, gkd g2, cmp_eq, cmp_lt (a1 := 0) (b1 := 0), decide_eq_true hp, Bool.not_true]; with_reducible rfl))
        | (with_reducible apply go_ow; · first | with_reducible rfl | (simp (disch := omega) only [w, w1, w2, Int.toNat_natCast, gtm g1, gkd g1, gtm g2, gkd g2, cmp_eq, cmp_lt (a1 := 0) (b1 := 0), decide_eq_true hp, Bool.not_true]; done) | (simp (disch := omega) only [w, w1, w2, Int.toNat_natCast, gtm g1, gkd g1, gtm g2, gkd g2, cmp_eq, cmp_lt (a1 := 0) (b1 := 0), decide_eq_true hp, Bool.not_true]; with_reducible rfl))
        | (with_reducible apply go_ls; · first | with_reducible rfl | (simp (disch := omega) only [w, w1, w2, Int.toNat_natCast, gtm g1, gkd g1, gtm g2, gkd g2, cmp_eq, cmp_lt (a1 := 0) (b1 := 0), decide_eq_true hp, Bool.not_true]; done) | (simp (disch := omega) only [w, w1, w2, Int.toNat_natCast, gtm g1, gkd g1, gtm g2, gkd g2, cmp_eq, cmp_lt (a1 := 0) (b1 := 0), decide_eq_true hp, Bool.not_true]; with_reducible rfl))
        | (with_reducible apply go_agg; · first | with_reducible rfl | (simp (disch := omega) only [w, w1, w2, Int.toNat_natCast, gtm g1, gkd g1, gtm g2, gkd g2, cmp_eq, cmp_lt (a1 := 0) (b1 := 0), decide_eq_true hp, Bool.not_true]; done) | (simp (disch := omega) only [w, w1, w2, Int.toNat_natCast, gtm g1, gkd g1, gtm g2, gkd g2, cmp_eq, cmp_lt (a1 := 0) (b1 := 0), decide_eq_true hp, Bool.not_true]; with_reducible rfl))
        | (with_reducible apply go_pbox; · first | with_reducible rfl | (simp (disch := omega) only [w, w1, w2, Int.toNat_natCast, gtm g1, gkd g1, gtm g2, gkd g2, cmp_eq, cmp_lt (a1 := 0) (b1 := 0), decide_eq_true hp, Bool.not_true]; done) | (simp (disch := omega) only [w, w1, w2, Int.toNat_natCast, gtm g1, gkd g1, gtm g2, gkd g2, cmp_eq, cmp_lt (a1 := 0) (b1 := 0), decide_eq_true hp, Bool.not_true]; with_reducible rfl))
        | (with_reducible apply go_opt; · first | with_reducible rfl | (simp (disch := omega) only [w, w1, w2, Int.toNat_natCast, gtm g1, gkd g1, gtm g2, gkd g2, cmp_eq, cmp_lt (a1 := 0) (b1 := 0), decide_eq_true hp, Bool.not_true]; done) | (simp (disch := omega) only [w, w1, w2, Int.toNat_natCast, gtm g1, gkd g1, gtm g2, gkd g2, cmp_eq, cmp_lt (a1 := 0) (b1 := 0), decide_eq_true hp, Bool.not_true]; with_reducible rfl))
        | (with_reducible apply go_chk; · first | with_reducible rfl | omega | (simp (disch := omega) only [Bool.and_eq_true, decide_eq_true_eq, beq_iff_eq, bne_iff_ne, Bool.not_eq_true', true_and, and_true, w, w1, w2, Int.toNat_natCast, gtm g1, gkd g1, gtm g2, gkd g2, cmp_eq, cmp_lt (a1 := 0) (b1 := 0), decide_eq_true hp, Bool.not_true]; done) | (simp (disch := omega) only [Bool.and_eq_true, decide_eq_true_eq, beq_iff_eq, bne_iff_ne, ne_eq, Bool.not_eq_true', true_and, and_true, w, w1, w2, Int.toNat_natCast, gtm g1, gkd g1, gtm g2, gkd g2, cmp_eq, cmp_lt (a1 := 0) (b1 := 0), decide_eq_true hp, Bool.not_true] <;> omega))
        | (with_reducible apply go_call; · first | with_reducible rfl | (simp (disch := omega) only [w, w1, w2, Int.toNat_natCast, gtm g1, gkd g1, gtm g2, gkd g2, cmp_eq, cmp_lt (a1 := 0) (b1 := 0), decide_eq_true hp, Bool.not_true]; done) | (simp (disch := omega) only [w, w1, w2, Int.toNat_natCast, gtm g1, gkd g1, gtm g2, gkd g2, cmp_eq, cmp_lt (a1 := 0) (b1 := 0), decide_eq_true hp, Bool.not_true]; with_reducible rfl))
        | (with_reducible apply go_brT; · first | with_reducible rfl | omega | (simp (disch := omega) only [Bool.and_eq_true, decide_eq_true_eq, beq_iff_eq, bne_iff_ne, Bool.not_eq_true', true_and, and_true, w, w1, w2, Int.toNat_natCast, gtm g1, gkd g1, gtm g2, gkd g2, cmp_eq, cmp_lt (a1 := 0) (b1 := 0), decide_eq_true hp, Bool.not_true]; done) | (simp (disch := omega) only [Bool.and_eq_true, decide_eq_true_eq, beq_iff_eq, bne_iff_ne, ne_eq, Bool.not_eq_true', true_and, and_true, w, w1, w2, Int.toNat_natCast, gtm g1, gkd g1, gtm g2, gkd g2, cmp_eq, cmp_lt (a1 := 0) (b1 := 0), decide_eq_true hp, Bool.not_true] <;> omega))
        | (with_reducible apply go_brF; · first | with_reducible rfl | (simp (disch := omega) only [decide_eq_false_iff_not, beq_eq_false_iff_ne, bne_eq_false_iff_eq, Bool.not_eq_false', w, w1, w2, Int.toNat_natCast, gtm g1, gkd g1, gtm g2, gkd g2, cmp_eq, cmp_lt (a1 := 0) (b1 := 0), decide_eq_true hp, Bool.not_true]; done) | (simp (disch := omega) only [decide_eq_false_iff_not, beq_eq_false_iff_ne, bne_eq_false_iff_eq, ne_eq, Bool.not_eq_false', w, w1, w2, Int.toNat_natCast, gtm g1, gkd g1, gtm g2, gkd g2, cmp_eq, cmp_lt (a1 := 0) (b1 := 0), decide_eq_true hp, Bool.not_true] <;> omega))
      try simp (disch := omega) only [w, w1, w2, Int.toNat_natCast, gtm g1, gkd g1, gtm g2, gkd g2, cmp_eq, cmp_lt (a1 := 0) (b1 := 0), decide_eq_true hp, Bool.not_true]
    · rw [if_pos hp]
      try unfold shareK
      repeat first
        | (with_reducible apply go_nil; · with_reducible rfl)
        | (with_reducible apply go_cons; · with_reducible rfl)
        | (with_reducible apply go_int; · first | with_reducible rfl | (simp (disch := omega) only [w, w1, w2, Int.toNat_natCast, gtm g1, gkd g1, gtm g2, gkd g2, cmp_eq, cmp_lt (a1 := 0) (b1 := 0), decide_eq_false hp, Bool.not_false]; done) | (simp (disch := omega) only [w, w1, w2, Int.toNat_natCast, gtm g1, gkd g1, gtm g2, gkd g2, cmp_eq, cmp_lt (a1 := 0) (b1 := 0), decide_eq_false hp, Bool.not_false]; with_reducible rfl))
        | (with_reducible apply go_bool; · first | with_reducible rfl | (simp (disch := omega) only [w, w1, w2, Int.toNat_natCast, gtm g1, gkd g1, gtm g2, gkd g2, cmp_eq, cmp_lt (a1 := 0) (b1 := 0), decide_eq_false hp, Bool.not_false]; done) | (simp (disch := omega) only [w, w1, w2, Int.toNat_natCast, gtm g1, gkd g1, gtm g2, gkd g2, cmp_eq, cmp_lt (a1 := 0) (b1 := 0), decide_eq_false hp, Bool.not_false]; with_reducible rfl))
        | (with_reducible apply go_str; · first | with_reducible rfl | (simp (disch := omega) only [w, w1, w2, Int.toNat_natCast, gtm g1, gkd g1, gtm g2, gkd g2, cmp_eq, cmp_lt (a1 := 0) (b1 := 0), decide_eq_false hp, Bool.not_false]; done) | (simp (disch := omega) only [w, w1, w2, Int.toNat_natCast, gtm g1, gkd g1, gtm g2, gkd g2, cmp_eq, cmp_lt (a1 := 0) (b1 := 0), decide_eq_false hp, Bool.not_false]; with_reducible rfl))
        | (with_reducible apply go_any; · first | with_reducible rfl | (simp (disch := omega) only [w, w1, w2, Int.toNat_natCast, gtm g1, gkd g1, gtm g2, gkd g2, cmp_eq, cmp_lt (a1 := 0) (b1 := 0), decide_eq_false hp, Bool.not_false]; done) | (simp (disch := omega) only [w, w1, w2, Int.toNat_natCast, gtm g1, gkd g1, gtm g2, gkd g2, cmp_eq, cmp_lt (a1 := 0) (b1 := 0), decide_eq_false hp, Bool.not_false]; with_reducible rfl))
        | (with_reducible apply go_ow; · first | with_reducible rfl | (simp (disch := omega) only [w, w1, w2, Int.toNat_natCast, gtm g1, gkd g1, gtm g2, gkd g2, cmp_eq, cmp_lt (a1 := 0) (b1 := 0), decide_eq_false hp, Bool.not_false]; done) | (simp (disch := omega) only [w, w1, w2, Int.toNat_natCast, gtm g1, gkd g1, gtm g2, gkd g2, cmp_eq, cmp_lt (a1 := 0) (b1 := 0), decide_eq_false hp, Bool.not_false]; with_reducible rfl))
        | (with_reducible apply go_ls; · first | with_reducible rfl | (simp (disch := omega) only [w, w1, w2, Int.toNat_natCast, gtm g1, gkd g1, gtm g2, gkd g2, cmp_eq, cmp_lt (a1 := 0) (b1 := 0), decide_eq_false hp, Bool.not_false]; done) | (simp (disch := omega) only [w, w1, w2, Int.toNat_natCast, gtm g1, gkd g1, gtm g2, gkd g2, cmp_eq, cmp_lt (a1 := 0) (b1 := 0), decide_eq_false hp, Bool.not_false]; with_reducible rfl))
        | (with_reducible apply go_agg; · first | with_reducible rfl | (simp (disch := omega) only [w, w1, w2, Int.toNat_natCast, gtm g1, gkd g1, gtm g2, gkd g2, cmp_eq, cmp_lt (a1 := 0) (b1 := 0), decide_eq_false hp, Bool.not_false]; done) | (simp (disch := omega) only [w, w1, w2, Int.toNat_natCast, gtm g1, gkd g1, gtm g2, gkd g2, cmp_eq, cmp_lt (a1 := 0) (b1 := 0), decide_eq_false hp, Bool.not_false]; with_reducible rfl))
        | (with_reducible apply go_pbox; · first | with_reducible rfl | (simp (disch := omega) only [w, w1, w2, Int.toNat_natCast, gtm g1, gkd g1, gtm g2, gkd g2, cmp_eq, cmp_lt (a1 := 0) (b1 := 0), decide_eq_false hp, Bool.not_false]; done) | (simp (disch := omega) only [w, w1, w2, Int.toNat_natCast, gtm g1, gkd g1, gtm g2, gkd g2, cmp_eq, cmp_lt (a1 := 0) (b1 := 0), decide_eq_false hp, Bool.not_false]; with_reducible rfl))
        | (with_reducible apply go_opt; · first | with_reducible rfl | (simp (disch := omega) only [w, w1, w2, Int.toNat_natCast, gtm g1, gkd g1, gtm g2, gkd g2, cmp_eq, cmp_lt (a1 := 0) (b1 := 0), decide_eq_false hp, Bool.not_false]; done) | (simp (disch := omega) only [w, w1, w2, Int.toNat_natCast, gtm g1, gkd g1, gtm g2, gkd g2, cmp_eq, cmp_lt (a1 := 0) (b1 := 0), decide_eq_false hp, Bool.not_false]; with_reducible rfl))
        | (with_reducible apply go_chk; · first | with_reducible rfl | omega | (simp (disch := omega) only [Bool.and_eq_true, decide_eq_true_eq, beq_iff_eq, bne_iff_ne, Bool.not_eq_true', true_and, and_true, w, w1, w2, Int.toNat_natCast, gtm g1, gkd g1, gtm g2, gkd g2, cmp_eq, cmp_lt (a1 := 0) (b1 := 0), decide_eq_false hp, Bool.not_false]; done) | (simp (disch := omega) only [Bool.and_eq_true, decide_eq_true_eq, beq_iff_eq, bne_iff_ne, ne_eq, Bool.not_eq_true', true_and, and_true, w, w1, w2, Int.toNat_natCast, gtm g1, gkd g1, gtm g2, gkd g2, cmp_eq, cmp_lt (a1 := 0) (b1 := 0), decide_eq_false hp, Bool.not_false] <;> omega))
        | (with_reducible apply go_call; · first | with_reducible rfl | (simp (disch := omega) only [w, w1, w2, Int.toNat_natCast, gtm g1, gkd g1, gtm g2, gkd g2, cmp_eq, cmp_lt (a1 := 0) (b1 := 0), decide_eq_false hp, Bool.not_false]; done) | (simp (disch := omega) only [w, w1, w2, Int.toNat_natCast, gtm g1, gkd g1, gtm g2, gkd g2, cmp_eq, cmp_lt (a1 := 0) (b1 := 0), decide_eq_false hp, Bool.not_false]; with_reducible rfl))
        | (with_reducible apply go_brT; · first | with_reducible rfl | omega | (simp (disch := omega) only [Bool.and_eq_true, decide_eq_true_eq, beq_iff_eq, bne_iff_ne, Bool.not_eq_true', true_and, and_true, w, w1, w2, Int.toNat_natCast, gtm g1, gkd g1, gtm g2, gkd g2, cmp_eq, cmp_lt (a1 := 0) (b1 := 0), decide_eq_false hp, Bool.not_false]; done) | (simp (disch := omega) only [Bool.and_eq_true, decide_eq_true_eq, beq_iff_eq, bne_iff_ne, ne_eq, Bool.not_eq_true', true_and, and_true, w, w1, w2, Int.toNat_natCast, gtm g1, gkd g1, gtm g2, gkd g2, cmp_eq, cmp_lt (a1 := 0) (b1 := 0), decide_eq_false hp, Bool.not_false] <;> omega))
        | (with_reducible apply go_brF; · first | with_reducible rfl | (simp (disch := omega) only [decide_eq_false_iff_not, beq_eq_false_iff_ne, bne_eq_false_iff_eq, Bool.not_eq_false', w, w1, w2, Int.toNat_natCast, gtm g1, gkd g1, gtm g2, gkd g2, cmp_eq, cmp_lt (a1 := 0) (b1 := 0), decide_eq_false hp, Bool.not_false]; done) | (simp (disch := omega) only [decide_eq_false_iff_not, beq_eq_false_iff_ne, bne_eq_false_iff_eq, ne_eq, Bool.not_eq_false', w, w1, w2, Int.toNat_natCast, gtm g1, gkd g1, gtm g2, gkd g2, cmp_eq, cmp_lt (a1 := 0) (b1 := 0), decide_eq_false hp, Bool.not_false] <;> omega))
      try simp (disch := omega) only [w, w1, w2, Int.toNat_natCast, gtm g1, gkd g1, gtm g2, gkd g2, cmp_eq, cmp_lt (a1 := 0) (b1 := 0), decide_eq_false hp, Bool.not_false]
  · intro nn i h1 h2
    show slices_symMergeCmpFunc_Gesture_L4 fu (pcall C0 Try.prog fu (d + 3)) n c a1 a2 a3 (nn + 1) l.length y1 y2 y3 y4 y5 i i p (encG l) = slices_symMergeCmpFunc_Gesture_L4 fu (pcall C0 Try.prog fu (d + 3)) n c a1 a2 a3 (0 + 1) l.length y1 y2 y3 y4 y5 i i p (encG l)
    rw [slices_symMergeCmpFunc_Gesture_L4_s, slices_symMergeCmpFunc_Gesture_L4_s (nn := 0), nd_brf _ _ _ (by omega), nd_brf _ _ _ (by omega)]
end

end Go.Proofs.Ytaphhfehcbkfkaa.Pv
