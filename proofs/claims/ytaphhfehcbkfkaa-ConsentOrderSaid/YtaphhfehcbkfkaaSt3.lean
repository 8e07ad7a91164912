/-
  Gestures sorted by time: sorting by insertion.
-/
import Derived.Test.YtaphhfehcbkfkaaSt2
set_option linter.unusedSimpArgs false
set_option linter.unusedVariables false
namespace Go.Proofs.Ytaphhfehcbkfkaa.Pv

section
variable {fu d : Nat}

abbrev Srt (l : List Ge) : Prop := SortedK Ge.tm l
abbrev Ste (l l' : List Ge) : Prop := StEq Ge.tm l l'

theorem ins_inner {n m0 : Nat} {c : List PV} {a1 a2 a b i : Int} : ∀ (nn : Nat) (A S1 S2 R : List Ge) (x : Ge) (j : Int) (N : Nat), N = (A ++ S1 ++ x :: S2 ++ R).length → N ≤ 1000 → a = A.length → j = A.length + S1.length → S1.length < nn → 0 ≤ i → i ≤ 1000 → Srt (S1 ++ S2) → (∀ y ∈ S2, x.tm < y.tm) →
    ∃ S', Srt S' ∧ Ste ((S1 ++ S2) ++ [x]) S' ∧ slices_insertionSortCmpFunc_Gesture_L1 fu (pcall C0 Try.prog fu (d + 3)) n c a1 a2 m0 nn N a b i j (encG (A ++ S1 ++ x :: S2 ++ R)) = slices_insertionSortCmpFunc_Gesture_L0 fu (pcall C0 Try.prog fu (d + 3)) n c a1 a2 m0 N a b (i + 1) (encG (A ++ S' ++ R))
  | 0, _, _, _, _, _, _, _, _, _, _, _, h, _, _, _, _ => by omega
  | nn + 1, A, S1, S2, R, x, j, N, hN, hN', ha, hj, hn, hi, hi', hs, hx => by
    have w0 : IntKind.wrap .i64 (i + 1) = i + 1 := wrap_i64 (by omega) (by omega)
    rcases List.eq_nil_or_concat S1 with rfl | ⟨S1', y, rfl⟩
    · refine ⟨x :: S2, ?_, ?_, ?_⟩
      · exact (insert_parts (S1 := []) hs (by simp) hx).1
      · exact (insert_parts (S1 := []) hs (by simp) hx).2
      · rw [slices_insertionSortCmpFunc_Gesture_L1_s]
        simp only [List.length_nil] at hj
        rw [List.append_nil]
        try unfold shareK
        repeat first
          | (with_reducible apply go_nil; · with_reducible rfl)
          | (with_reducible apply go_cons; · with_reducible rfl)
          | (with_reducible apply go_int; · first | with_reducible rfl | (simp (disch := omega) only [w0]; done) | (simp (disch := omega) only [w0]; with_reducible rfl))
          | (with_reducible apply go_bool; · first | with_reducible rfl | (simp (disch := omega) only [w0]; done) | (simp (disch := omega) only [w0]; with_reducible rfl))
          | (with_reducible apply go_str; · first | with_reducible rfl | (simp (disch := omega) only [w0]; done) | (simp (disch := omega) only [w0]; with_reducible rfl))
          | (with_reducible apply go_any; · first | with_reducible rfl | (simp (disch := omega) only [w0]; done) | (simp (disch := omega) only [w0]; with_reducible rfl))
          | (with_reducible apply go_ow; · first | with_reducible rfl | (simp (disch := omega) only [w0]; done) | (simp (disch := omega) only [w0]; with_reducible rfl))
          | (with_reducible apply go_ls; · first | with_reducible rfl | (simp (disch := omega) only [w0]; done) | (simp (disch := omega) only [w0]; with_reducible rfl))
          | (with_reducible apply go_agg; · first | with_reducible rfl | (simp (disch := omega) only [w0]; done) | (simp (disch := omega) only [w0]; with_reducible rfl))
          | (with_reducible apply go_pbox; · first | with_reducible rfl | (simp (disch := omega) only [w0]; done) | (simp (disch := omega) only [w0]; with_reducible rfl))
          | (with_reducible apply go_opt; · first | with_reducible rfl | (simp (disch := omega) only [w0]; done) | (simp (disch := omega) only [w0]; with_reducible rfl))
          | (with_reducible apply go_chk; · first | with_reducible rfl | omega | (simp (disch := omega) only [Bool.and_eq_true, decide_eq_true_eq, beq_iff_eq, bne_iff_ne, Bool.not_eq_true', true_and, and_true, w0]; done) | (simp (disch := omega) only [Bool.and_eq_true, decide_eq_true_eq, beq_iff_eq, bne_iff_ne, ne_eq, Bool.not_eq_true', true_and, and_true, w0] <;> omega))
          | (with_reducible apply go_call; · first | with_reducible rfl | (simp (disch := omega) only [w0]; done) | (simp (disch := omega) only [w0]; with_reducible rfl))
          | (with_reducible apply go_brT; · first | with_reducible rfl | omega | (simp (disch := omega) only [Bool.and_eq_true, decide_eq_true_eq, beq_iff_eq, bne_iff_ne, Bool.not_eq_true', true_and, and_true, w0]; done) | (simp (disch := omega) only [Bool.and_eq_true, decide_eq_true_eq, beq_iff_eq, bne_iff_ne, ne_eq, Bool.not_eq_true', true_and, and_true, w0] <;> omega))
          | (with_reducible apply go_brF; · first | with_reducible rfl | (simp (disch := omega) only [decide_eq_false_iff_not, beq_eq_false_iff_ne, bne_eq_false_iff_eq, Bool.not_eq_false', w0]; done) | (simp (disch := omega) only [decide_eq_false_iff_not, beq_eq_false_iff_ne, bne_eq_false_iff_eq, ne_eq, Bool.not_eq_false', w0] <;> omega))
        try simp (disch := omega) only [w0]
    · rw [List.concat_eq_append] at hN hj hn hs ⊢
      simp only [List.length_append, List.length_cons, List.length_nil, Int.natCast_add, Int.natCast_one] at hN hj hn
      have e1 : A ++ (S1' ++ [y]) ++ x :: S2 ++ R = (A ++ S1') ++ y :: x :: (S2 ++ R) := by simp
      have e2 : A ++ (S1' ++ [y]) ++ x :: S2 ++ R = (A ++ S1' ++ [y]) ++ x :: (S2 ++ R) := by simp
      have g1 := at_mid (A ++ S1') (x :: (S2 ++ R)) y
      have g2 := at_mid (A ++ S1' ++ [y]) (S2 ++ R) x
      have q1 : (A ++ S1').length = A.length + S1'.length := by simp
      have q2 : (A ++ S1' ++ [y]).length = A.length + S1'.length + 1 := by simp; omega
      rw [q1] at g1
      rw [← e2, e1, q2] at g2
      have wj : j = ((A.length + S1'.length + 1 : Nat) : Int) := by omega
      have w1 : IntKind.wrap .i64 (j - 1) = ((A.length + S1'.length : Nat) : Int) := by rw [wrap_i64 (by omega) (by omega)]; omega
      have L1 : ((A ++ S1') ++ y :: x :: (S2 ++ R)).length = A.length + S1'.length + (S2.length + 2) + R.length := by simp; omega
      rw [wj] at w1
      rw [slices_insertionSortCmpFunc_Gesture_L1_s, e1, wj]
      by_cases hlt : x.tm < y.tm
      · have sw := swap_adj' (A ++ S1') (S2 ++ R) y x
        rw [q1] at sw
        have L2 : (((A ++ S1') ++ y :: x :: (S2 ++ R)).set (A.length + S1'.length + 1) y).length = A.length + S1'.length + (S2.length + 2) + R.length := by rw [List.length_set, L1]
        have T1 := gset (x := y) (l := (A ++ S1') ++ y :: x :: (S2 ++ R)) (i := A.length + S1'.length + 1) (by omega)
        have T2 := (gset (x := x) (l := ((A ++ S1') ++ y :: x :: (S2 ++ R)).set (A.length + S1'.length + 1) y) (i := A.length + S1'.length) (by omega)).trans (congrArg encG sw)
        obtain ⟨S', h1, h2, h3⟩ := ins_inner (n := n) (m0 := m0) (c := c) (a1 := a1) (a2 := a2) (a := a) (b := b) (i := i) nn A S1' (y :: S2) R x ((A.length + S1'.length : Nat) : Int) N (by simp; omega) hN' ha (by simp) (by omega) hi hi' (by simpa using hs) (by
          intro z hz
          rcases List.mem_cons.1 hz with rfl | hz
          · exact hlt
          · exact hx z hz)
        refine ⟨S', h1, by simpa using h2, ?_⟩
        have e3 : A ++ S1' ++ x :: y :: (S2 ++ R) = A ++ S1' ++ x :: (y :: S2) ++ R := by simp
        try unfold shareK
        repeat first
          | (with_reducible apply go_nil; · with_reducible rfl)
          | (with_reducible apply go_cons; · with_reducible rfl)
          | (with_reducible apply go_int; · first | with_reducible rfl | (simp (disch := omega) only [w1, Int.toNat_natCast, gtm g1, gkd g1, gtm g2, gkd g2, encG_len, T1, T2, L1, L2, cmp_eq, cmp_lt (a1 := 0) (b1 := 0), decide_eq_true hlt, e3]; done) | (simp (disch := omega) only [w1, Int.toNat_natCast, gtm g1, gkd g1, gtm g2, gkd g2, encG_len, T1, T2, L1, L2, cmp_eq, cmp_lt (a1 := 0) (b1 := 0), decide_eq_true hlt, e3]; with_reducible rfl))
          | (with_reducible apply go_bool; · first | with_reducible rfl | (simp (disch := omega) only [w1, Int.toNat_natCast, gtm g1, gkd g1, gtm g2, gkd g2, encG_len, T1, T2, L1, L2, cmp_eq, cmp_lt (a1 := 0) (b1 := 0), decide_eq_true hlt, e3]; done) | (simp (disch := omega) only [w1, Int.toNat_natCast, gtm g1, gkd g1, gtm g2, gkd g2, encG_len, T1, T2, L1, L2, cmp_eq, cmp_lt (a1 := 0) (b1 := 0), decide_eq_true hlt, e3]; with_reducible rfl))
          | (with_reducible apply go_str; · first | with_reducible rfl | (simp (disch := omega) only [w1, Int.toNat_natCast, gtm g1, gkd g1, gtm g2, gkd g2, encG_len, T1, T2, L1, L2, cmp_eq, cmp_lt (a1 := 0) (b1 := 0), decide_eq_true hlt, e3]; done) | (simp (disch := omega) only [w1, Int.toNat_natCast, gtm g1, gkd g1, gtm g2, gkd g2, encG_len, T1, T2, L1, L2, cmp_eq, cmp_lt (a1 := 0) (b1 := 0), decide_eq_true hlt, e3]; with_reducible rfl))
          | (with_reducible apply go_any; · first | with_reducible rfl | (simp (disch := omega) only [w1, Int.toNat_natCast, gtm g1, gkd g1, gtm g2, gkd g2, encG_len, T1, T2, L1, L2, cmp_eq, cmp_lt (a1 := 0) (b1 := 0), decide_eq_true hlt, e3]; done) | (simp (disch := omega) only [w1, Int.toNat_natCast, gtm g1, gkd g1, gtm g2, gkd g2, encG_len, T1, T2, L1, L2, cmp_eq, cmp_lt (a1 := 0) (b1 := 0), decide_eq_true hlt, e3]; with_reducible rfl))
          | (with_reducible apply go_ow; · first | with_reducible rfl | (simp (disch := omega) only [w1, Int.toNat_natCast, gtm g1, gkd g1, gtm g2, gkd g2, encG_len, T1, T2, L1, L2, cmp_eq, cmp_lt (a1 := 0) (b1 := 0), decide_eq_true hlt, e3]; done) | (simp (disch := omega) only [w1, Int.toNat_natCast, gtm g1, gkd g1, gtm g2, gkd g2, encG_len, T1, T2, L1, L2, cmp_eq, cmp_lt (a1 := 0) (b1 := 0), decide_eq_true hlt, e3]; with_reducible rfl))
          | (with_reducible apply go_ls; · first | with_reducible rfl | (simp (disch := omega) only [w1, Int.toNat_natCast, gtm g1, gkd g1, gtm g2, gkd g2, encG_len, T1, T2, L1, L2, cmp_eq, cmp_lt (a1 := 0) (b1 := 0), decide_eq_true hlt, e3]; done) | (simp (disch := omega) only [w1, Int.toNat_natCast, gtm g1, gkd g1, gtm g2, gkd g2, encG_len, T1, T2, L1, L2, cmp_eq, cmp_lt (a1 := 0) (b1 := 0), decide_eq_true hlt, e3]; with_reducible rfl))
          | (with_reducible apply go_agg; · first | with_reducible rfl | (simp (disch := omega) only [w1, Int.toNat_natCast, gtm g1, gkd g1, gtm g2, gkd g2, encG_len, T1, T2, L1, L2, cmp_eq, cmp_lt (a1 := 0) (b1 := 0), decide_eq_true hlt, e3]; done) | (simp (disch := omega) only [w1, Int.toNat_natCast, gtm g1, gkd g1, gtm g2, gkd g2, encG_len, T1, T2, L1, L2, cmp_eq, cmp_lt (a1 := 0) (b1 := 0), decide_eq_true hlt, e3]; with_reducible rfl))
          | (with_reducible apply go_pbox; · first | with_reducible rfl | (simp (disch := omega) only [w1, Int.toNat_natCast, gtm g1, gkd g1, gtm g2, gkd g2, encG_len, T1, T2, L1, L2, cmp_eq, cmp_lt (a1 := 0) (b1 := 0), decide_eq_true hlt, e3]; done) | (simp (disch := omega) only [w1, Int.toNat_natCast, gtm g1, gkd g1, gtm g2, gkd g2, encG_len, T1, T2, L1, L2, cmp_eq, cmp_lt (a1 := 0) (b1 := 0), decide_eq_true hlt, e3]; with_reducible rfl))
          | (with_reducible apply go_opt; · first | with_reducible rfl | (simp (disch := omega) only [w1, Int.toNat_natCast, gtm g1, gkd g1, gtm g2, gkd g2, encG_len, T1, T2, L1, L2, cmp_eq, cmp_lt (a1 := 0) (b1 := 0), decide_eq_true hlt, e3]; done) | (simp (disch := omega) only [w1, Int.toNat_natCast, gtm g1, gkd g1, gtm g2, gkd g2, encG_len, T1, T2, L1, L2, cmp_eq, cmp_lt (a1 := 0) (b1 := 0), decide_eq_true hlt, e3]; with_reducible rfl))
          | (with_reducible apply go_chk; · first | with_reducible rfl | omega | (simp (disch := omega) only [Bool.and_eq_true, decide_eq_true_eq, beq_iff_eq, bne_iff_ne, Bool.not_eq_true', true_and, and_true, w1, Int.toNat_natCast, gtm g1, gkd g1, gtm g2, gkd g2, encG_len, T1, T2, L1, L2, cmp_eq, cmp_lt (a1 := 0) (b1 := 0), decide_eq_true hlt, e3]; done) | (simp (disch := omega) only [Bool.and_eq_true, decide_eq_true_eq, beq_iff_eq, bne_iff_ne, ne_eq, Bool.not_eq_true', true_and, and_true, w1, Int.toNat_natCast, gtm g1, gkd g1, gtm g2, gkd g2, encG_len, T1, T2, L1, L2, cmp_eq, cmp_lt (a1 := 0) (b1 := 0), decide_eq_true hlt, e3] <;> omega))
          | (with_reducible apply go_call; · first | with_reducible rfl | (simp (disch := omega) only [w1, Int.toNat_natCast, gtm g1, gkd g1, gtm g2, gkd g2, encG_len, T1, T2, L1, L2, cmp_eq, cmp_lt (a1 := 0) (b1 := 0), decide_eq_true hlt, e3]; done) | (simp (disch := omega) only [w1, Int.toNat_natCast, gtm g1, gkd g1, gtm g2, gkd g2, encG_len, T1, T2, L1, L2, cmp_eq, cmp_lt (a1 := 0) (b1 := 0), decide_eq_true hlt, e3]; with_reducible rfl))
          | (with_reducible apply go_brT; · first | with_reducible rfl | omega | (simp (disch := omega) only [Bool.and_eq_true, decide_eq_true_eq, beq_iff_eq, bne_iff_ne, Bool.not_eq_true', true_and, and_true, w1, Int.toNat_natCast, gtm g1, gkd g1, gtm g2, gkd g2, encG_len, T1, T2, L1, L2, cmp_eq, cmp_lt (a1 := 0) (b1 := 0), decide_eq_true hlt, e3]; done) | (simp (disch := omega) only [Bool.and_eq_true, decide_eq_true_eq, beq_iff_eq, bne_iff_ne, ne_eq, Bool.not_eq_true', true_and, and_true, w1, Int.toNat_natCast, gtm g1, gkd g1, gtm g2, gkd g2, encG_len, T1, T2, L1, L2, cmp_eq, cmp_lt (a1 := 0) (b1 := 0), decide_eq_true hlt, e3] <;> omega))
          | (with_reducible apply go_brF; · first | with_reducible rfl | (simp (disch := omega) only [decide_eq_false_iff_not, beq_eq_false_iff_ne, bne_eq_false_iff_eq, Bool.not_eq_false', w1, Int.toNat_natCast, gtm g1, gkd g1, gtm g2, gkd g2, encG_len, T1, T2, L1, L2, cmp_eq, cmp_lt (a1 := 0) (b1 := 0), decide_eq_true hlt, e3]; done) | (simp (disch := omega) only [decide_eq_false_iff_not, beq_eq_false_iff_ne, bne_eq_false_iff_eq, ne_eq, Bool.not_eq_false', w1, Int.toNat_natCast, gtm g1, gkd g1, gtm g2, gkd g2, encG_len, T1, T2, L1, L2, cmp_eq, cmp_lt (a1 := 0) (b1 := 0), decide_eq_true hlt, e3] <;> omega))
        try simp (disch := omega) only [w1, Int.toNat_natCast, gtm g1, gkd g1, gtm g2, gkd g2, encG_len, T1, T2, L1, L2, cmp_eq, cmp_lt (a1 := 0) (b1 := 0), decide_eq_true hlt, e3]
        exact h3
      · have h' := insert_parts (x := x) hs (by
          intro z hz
          rcases List.mem_append.1 hz with hz | hz
          · have := hs.left.le z hz y (by simp)
            omega
          · rw [List.mem_singleton.1 hz]; omega) hx
        refine ⟨_, h'.1, h'.2, ?_⟩
        have e3 : A ++ S1' ++ y :: x :: (S2 ++ R) = A ++ (S1' ++ [y] ++ x :: S2) ++ R := by simp
        rw [← e3]
        try unfold shareK
        repeat first
          | (with_reducible apply go_nil; · with_reducible rfl)
          | (with_reducible apply go_cons; · with_reducible rfl)
          | (with_reducible apply go_int; · first | with_reducible rfl | (simp (disch := omega) only [w0, w1, Int.toNat_natCast, gtm g1, gkd g1, gtm g2, gkd g2, encG_len, L1, cmp_eq, cmp_lt (a1 := 0) (b1 := 0), decide_eq_false hlt]; done) | (simp (disch := omega) only [w0, w1, Int.toNat_natCast, gtm g1, gkd g1, gtm g2, gkd g2, encG_len, L1, cmp_eq, cmp_lt (a1 := 0) (b1 := 0), decide_eq_false hlt]; with_reducible rfl))
          | (with_reducible apply go_bool; · first | with_reducible rfl | (simp (disch := omega) only [w0, w1, Int.toNat_natCast, gtm g1, gkd g1, gtm g2, gkd g2, encG_len, L1, cmp_eq, cmp_lt (a1 := 0) (b1 := 0), decide_eq_false hlt]; done) | (simp (disch := omega) only [w0, w1, Int.toNat_natCast, gtm g1, gkd g1, gtm g2, gkd g2, encG_len, L1, cmp_eq, cmp_lt (a1 := 0) (b1 := 0), decide_eq_false hlt]; with_reducible rfl))
          | (with_reducible apply go_str; · first | with_reducible rfl | (simp (disch := omega) only [w0, w1, Int.toNat_natCast, gtm g1, gkd g1, gtm g2, gkd g2, encG_len, L1, cmp_eq, cmp_lt (a1 := 0) (b1 := 0), decide_eq_false hlt]; done) | (simp (disch := omega) only [w0, w1, Int.toNat_natCast, gtm g1, gkd g1, gtm g2, gkd g2, encG_len, L1, cmp_eq, cmp_lt (a1 := 0) (b1 := 0), decide_eq_false hlt]; with_reducible rfl))
          | (with_reducible apply go_any; · first | with_reducible rfl | (simp (disch := omega) only [w0, w1, Int.toNat_natCast, gtm g1, gkd g1, gtm g2, gkd g2, encG_len, L1, cmp_eq, cmp_lt (a1 := 0) (b1 := 0), decide_eq_false hlt]; done) | (simp (disch := omega) only [w0, w1, Int.toNat_natCast, gtm g1, gkd g1, gtm g2, gkd g2, encG_len, L1, cmp_eq, cmp_lt (a1 := 0) (b1 := 0), decide_eq_false hlt]; with_reducible rfl))
          | (with_reducible apply go_ow; · first | with_reducible rfl | (simp (disch := omega) only [w0, w1, Int.toNat_natCast, gtm g1, gkd g1, gtm g2, gkd g2, encG_len, L1, cmp_eq, cmp_lt (a1 := 0) (b1 := 0), decide_eq_false hlt]; done) | (simp (disch := omega) only [w0, w1, Int.toNat_natCast, gtm g1, gkd g1, gtm g2, gkd g2, encG_len, L1, cmp_eq, cmp_lt (a1 := 0) (b1 := 0), decide_eq_false hlt]; with_reducible rfl))
          | (with_reducible apply go_ls; · first | with_reducible rfl | (simp (disch := omega) only [w0, w1, Int.toNat_natCast, gtm g1, gkd g1, gtm g2, gkd g2, encG_len, L1, cmp_eq, cmp_lt (a1 := 0) (b1 := 0), decide_eq_false hlt]; done) | (simp (disch := omega) only [w0, w1, Int.toNat_natCast, gtm g1, gkd g1, gtm g2, gkd g2, encG_len, L1, cmp_eq, cmp_lt (a1 := 0) (b1 := 0), decide_eq_false hlt]; with_reducible rfl))
          | (with_reducible apply go_agg; · first | with_reducible rfl | (simp (disch := omega) only [w0, w1, Int.toNat_natCast, gtm g1, gkd g1, gtm g2, gkd g2, encG_len, L1, cmp_eq, cmp_lt (a1 := 0) (b1 := 0), decide_eq_false hlt]; done) | (simp (disch := omega) only [w0, w1, Int.toNat_natCast, gtm g1, gkd g1, gtm g2, gkd g2, encG_len, L1, cmp_eq, cmp_lt (a1 := 0) (b1 := 0), decide_eq_false hlt]; with_reducible rfl))
          | (with_reducible apply go_pbox; · first | with_reducible rfl | (simp (disch := omega) only [w0, w1, Int.toNat_natCast, gtm g1, gkd g1, gtm g2, gkd g2, encG_len, L1, cmp_eq, cmp_lt (a1 := 0) (b1 := 0), decide_eq_false hlt]; done) | (simp (disch := omega) only [w0, w1, Int.toNat_natCast, gtm g1, gkd g1, gtm g2, gkd g2, encG_len, L1, cmp_eq, cmp_lt (a1 := 0) (b1 := 0), decide_eq_false hlt]; with_reducible rfl))
          | (with_reducible apply go_opt; · first | with_reducible rfl | (simp (disch := omega) only [w0, w1, Int.toNat_natCast, gtm g1, gkd g1, gtm g2, gkd g2, encG_len, L1, cmp_eq, cmp_lt (a1 := 0) (b1 := 0), decide_eq_false hlt]; done) | (simp (disch := omega) only [w0, w1, Int.toNat_natCast, gtm g1, gkd g1, gtm g2, gkd g2, encG_len, L1, cmp_eq, cmp_lt (a1 := 0) (b1 := 0), decide_eq_false hlt]; with_reducible rfl))
          | (with_reducible apply go_chk; · first | with_reducible rfl | omega | (simp (disch := omega) only [Bool.and_eq_true, decide_eq_true_eq, beq_iff_eq, bne_iff_ne, Bool.not_eq_true', true_and, and_true, w0, w1, Int.toNat_natCast, gtm g1, gkd g1, gtm g2, gkd g2, encG_len, L1, cmp_eq, cmp_lt (a1 := 0) (b1 := 0), decide_eq_false hlt]; done) | (simp (disch := omega) only [Bool.and_eq_true, decide_eq_true_eq, beq_iff_eq, bne_iff_ne, ne_eq, Bool.not_eq_true', true_and, and_true, w0, w1, Int.toNat_natCast, gtm g1, gkd g1, gtm g2, gkd g2, encG_len, L1, cmp_eq, cmp_lt (a1 := 0) (b1 := 0), decide_eq_false hlt] <;> omega))
          | (with_reducible apply go_call; · first | with_reducible rfl | (simp (disch := omega) only [w0, w1, Int.toNat_natCast, gtm g1, gkd g1, gtm g2, gkd g2, encG_len, L1, cmp_eq, cmp_lt (a1 := 0) (b1 := 0), decide_eq_false hlt]; done) | (simp (disch := omega) only [w0, w1, Int.toNat_natCast, gtm g1, gkd g1, gtm g2, gkd g2, encG_len, L1, cmp_eq, cmp_lt (a1 := 0) (b1 := 0), decide_eq_false hlt]; with_reducible rfl))
          | (with_reducible apply go_brT; · first | with_reducible rfl | omega | (simp (disch := omega) only [Bool.and_eq_true, decide_eq_true_eq, beq_iff_eq, bne_iff_ne, Bool.not_eq_true', true_and, and_true, w0, w1, Int.toNat_natCast, gtm g1, gkd g1, gtm g2, gkd g2, encG_len, L1, cmp_eq, cmp_lt (a1 := 0) (b1 := 0), decide_eq_false hlt]; done) | (simp (disch := omega) only [Bool.and_eq_true, decide_eq_true_eq, beq_iff_eq, bne_iff_ne, ne_eq, Bool.not_eq_true', true_and, and_true, w0, w1, Int.toNat_natCast, gtm g1, gkd g1, gtm g2, gkd g2, encG_len, L1, cmp_eq, cmp_lt (a1 := 0) (b1 := 0), decide_eq_false hlt] <;> omega))
          | (with_reducible apply go_brF; · first | with_reducible rfl | (simp (disch := omega) only [decide_eq_false_iff_not, beq_eq_false_iff_ne, bne_eq_false_iff_eq, Bool.not_eq_false', w0, w1, Int.toNat_natCast, gtm g1, gkd g1, gtm g2, gkd g2, encG_len, L1, cmp_eq, cmp_lt (a1 := 0) (b1 := 0), decide_eq_false hlt]; done) | (simp (disch := omega) only [decide_eq_false_iff_not, beq_eq_false_iff_ne, bne_eq_false_iff_eq, ne_eq, Bool.not_eq_false', w0, w1, Int.toNat_natCast, gtm g1, gkd g1, gtm g2, gkd g2, encG_len, L1, cmp_eq, cmp_lt (a1 := 0) (b1 := 0), decide_eq_false hlt] <;> omega))
        try simp (disch := omega) only [w0, w1, Int.toNat_natCast, gtm g1, gkd g1, gtm g2, gkd g2, encG_len, L1, cmp_eq, cmp_lt (a1 := 0) (b1 := 0), decide_eq_false hlt]

theorem ins_loop (hfu : 1000 < fu) {n : Nat} {c : List PV} {a1 a2 a b : Int} : ∀ (nn : Nat) (A S T B : List Ge) (i : Int) (N : Nat), N = (A ++ S ++ T ++ B).length → N ≤ 1000 → a = A.length → i = A.length + S.length → b = A.length + S.length + T.length → T.length < nn → Srt S →
    ∃ S', Srt S' ∧ Ste (S ++ T) S' ∧ slices_insertionSortCmpFunc_Gesture_L0 fu (pcall C0 Try.prog fu (d + 3)) n c a1 a2 nn N a b i (encG (A ++ S ++ T ++ B)) = some ⟨[], [encG (A ++ S' ++ B)]⟩
  | 0, _, _, _, _, _, _, _, _, _, _, _, h, _ => by omega
  | nn + 1, A, S, [], B, i, N, hN, hN', ha, hi, hb, hn, hs => by
    refine ⟨S, hs, by rw [List.append_nil]; exact StEq.refl _, ?_⟩
    simp only [List.length_nil] at hb
    rw [slices_insertionSortCmpFunc_Gesture_L0_s, nd_brf _ _ _ (by omega), List.append_nil]
  | nn + 1, A, S, x :: T, B, i, N, hN, hN', ha, hi, hb, hn, hs => by
    simp only [List.length_append, List.length_cons, Int.natCast_add, Int.natCast_one] at hN hb hn
    obtain ⟨S1, h1, h2, h3⟩ := ins_inner (fu := fu) (d := d) (n := n) (m0 := nn) (c := c) (a1 := a1) (a2 := a2) (a := a) (b := b) (i := i) fu A S [] (T ++ B) x i N (by simp; omega) hN' ha hi (by omega) (by omega) (by omega) (by simpa using hs) (by simp)
    rw [List.append_nil] at h2
    have hl := h2.len
    simp only [List.length_append, List.length_cons, List.length_nil] at hl
    obtain ⟨S', g1, g2, g3⟩ := ins_loop (n := n) (c := c) (a1 := a1) (a2 := a2) (a := a) (b := b) hfu nn A S1 T B (i + 1) N (by simp; omega) hN' ha (by omega) (by omega) (by omega) h1
    refine ⟨S', g1, ?_, ?_⟩
    · have := (h2.app (StEq.refl T)).trans g2
      simpa using this
    · rw [slices_insertionSortCmpFunc_Gesture_L0_s, nd_brt _ _ _ (by omega)]
      have e1 : A ++ S ++ x :: T ++ B = A ++ S ++ x :: [] ++ (T ++ B) := by simp
      have e2 : A ++ S1 ++ (T ++ B) = A ++ S1 ++ T ++ B := by simp
      rw [e1, h3, e2]
      exact g3
theorem ins_eq (hfu : 1000 < fu) {a b : Int} {N : Nat} (A X B : List Ge) (hN : N = (A ++ X ++ B).length) (hN' : N ≤ 1000) (ha : a = A.length) (hb : b = A.length + X.length) :
    ∃ S', Srt S' ∧ Ste X S' ∧ pcall C0 Try.prog fu (d + 4) F_slices_insertionSortCmpFunc_Gesture [.tup [.own 2 N (encG (A ++ X ++ B))], .sc (.int .i64 a), .sc (.int .i64 b), Fcmp] = some ⟨[], [encG (A ++ S' ++ B)]⟩ := by
  rw [slices_insertionSortCmpFunc_Gesture_e]
  simp only [List.length_append] at hN
  have w0 : IntKind.wrap .i64 (a + 1) = a + 1 := wrap_i64 (by omega) (by omega)
  obtain ⟨f', rfl⟩ : ∃ f', fu = f' + 1 := ⟨fu - 1, by omega⟩
  cases X with
  | nil =>
    refine ⟨[], by simp [SortedK], StEq.refl _, ?_⟩
    simp only [List.length_nil] at hb
    simp only [nd_share, w0]
    rw [slices_insertionSortCmpFunc_Gesture_L0_s, nd_brf _ _ _ (by omega)]
  | cons x T =>
    simp only [List.length_cons, Int.natCast_add, Int.natCast_one] at hN hb
    obtain ⟨S', h1, h2, h3⟩ := ins_loop (d := d) (n := N) (c := encG (A ++ x :: T ++ B)) (a1 := a) (a2 := b) (a := a) (b := b) hfu (f' + 1) A [x] T B (a + 1) N (by simp; omega) hN' ha (by simp; omega) (by simp; omega) (by omega) (by simp [SortedK])
    refine ⟨S', h1, h2, ?_⟩
    simp only [nd_share, w0]
    have e1 : A ++ [x] ++ T ++ B = A ++ x :: T ++ B := by simp
    rw [e1] at h3
    exact h3
end

end Go.Proofs.Ytaphhfehcbkfkaa.Pv
