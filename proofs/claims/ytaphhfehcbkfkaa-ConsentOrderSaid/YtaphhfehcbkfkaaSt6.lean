/-
  Gestures sorted by time: SortStableFunc.
-/
import Derived.Test.YtaphhfehcbkfkaaSt5
set_option linter.unusedSimpArgs false
set_option linter.unusedVariables false
namespace Go.Proofs.Ytaphhfehcbkfkaa.Pv

/-- Sorted blocks of one size. -/
def Blk (bs : Nat) (D : List (List Ge)) : Prop := ∀ X ∈ D, Srt X ∧ X.length = bs
theorem blk_len {bs : Nat} : ∀ {D : List (List Ge)}, Blk bs D → D.flatten.length = D.length * bs
  | [], _ => by simp
  | X :: D, h => by
    rw [List.flatten_cons, List.length_append, (h X (by simp)).2, blk_len (fun Y hY => h Y (by simp [hY])), List.length_cons, Nat.succ_mul]
    omega

section
variable {fu d : Nat}

theorem st_blocks (hfu : 1000 < fu) {n : Nat} {c : List PV} {a1 : Int} : ∀ (nn : Nat) (D : List (List Ge)) (X : List Ge) (a b : Int) (N : Nat), Blk 20 D → N = (D.flatten ++ X).length → N ≤ 100 → a = D.flatten.length → b = a + 20 → X.length < nn →
    ∃ D' T, Blk 20 D' ∧ Srt T ∧ T.length < 20 ∧ Ste (D.flatten ++ X) (D'.flatten ++ T) ∧ slices_stableCmpFunc_Gesture_L0 fu (pcall C0 Try.prog fu (d + 104)) n c a1 nn N N 20 a b (encG (D.flatten ++ X)) = slices_stableCmpFunc_Gesture_L1 fu (pcall C0 Try.prog fu (d + 104)) n c a1 fu N N 20 (encG (D'.flatten ++ T))
  | 0, _, _, _, _, _, _, _, _, _, _, h => by omega
  | nn + 1, D, X, a, b, N, hD, hN, hN', ha, hb, hn => by
    have hN2 : N = D.flatten.length + X.length := by rw [hN, List.length_append]
    rw [slices_stableCmpFunc_Gesture_L0_s]
    by_cases c1 : b ≤ N
    · obtain ⟨X1, X2, rfl, q1, q2⟩ := cut X 20 (by omega)
      simp only [List.length_append] at hN2 hn q2
      obtain ⟨S', h1, h2, h3⟩ := ins_eq (fu := fu) (d := d + 100) hfu (a := a) (b := b) (N := N) D.flatten X1 X2 (by simp only [List.length_append]; omega) (by omega) ha (by omega)
      have hl := h2.len
      obtain ⟨D', T, g1, g2, g3, g4, g5⟩ := st_blocks (n := n) (c := c) (a1 := a1) hfu nn (D ++ [S']) X2 b (b + 20) N (by
        intro Y hY
        rcases List.mem_append.1 hY with hY | hY
        · exact hD Y hY
        · rw [List.mem_singleton.1 hY]; exact ⟨h1, by omega⟩) (by simp only [List.length_append, List.flatten_append, List.flatten_cons, List.flatten_nil, List.append_nil]; omega) hN' (by simp only [List.length_append, List.flatten_append, List.flatten_cons, List.flatten_nil, List.append_nil]; omega) rfl (by omega)
      have w : IntKind.wrap .i64 (b + 20) = b + 20 := wrap_i64 (by omega) (by omega)
      have e : D.flatten ++ (X1 ++ X2) = D.flatten ++ X1 ++ X2 := by simp
      have e2 : (D ++ [S']).flatten ++ X2 = D.flatten ++ S' ++ X2 := by simp
      rw [e2] at g4 g5
      refine ⟨D', T, g1, g2, g3, ?_, ?_⟩
      · rw [e]
        exact (((StEq.refl D.flatten).app h2).app (StEq.refl X2)).trans g4
      · rw [nd_brt _ _ _ c1, e]
        simp only [h3, nd_call, nd_nil, nd_cons, nd_share, w]
        exact g5
    · obtain ⟨S', h1, h2, h3⟩ := ins_eq (fu := fu) (d := d + 100) hfu (a := a) (b := N) (N := N) D.flatten X [] (by simp only [List.length_append, List.length_nil]; omega) (by omega) ha (by omega)
      rw [List.append_nil, List.append_nil] at h3
      have hl := h2.len
      refine ⟨D, S', hD, h1, by omega, (StEq.refl _).app h2, ?_⟩
      rw [nd_brf _ _ _ c1]
      simp only [h3, nd_call, nd_nil, nd_cons, nd_share]

theorem st_round (hfu : 1000 < fu) {n m0 : Nat} {c : List PV} {a1 : Int} {bs : Nat} (hbs : 0 < bs) (hbs' : bs ≤ 100) : ∀ (nn : Nat) (D Bs : List (List Ge)) (T : List Ge) (a b : Int) (N : Nat), Blk (2 * bs) D → Blk bs Bs → Srt T → T.length < bs → N = (D.flatten ++ Bs.flatten ++ T).length → N ≤ 100 → a = D.flatten.length → b = a + 2 * bs → Bs.length < nn →
    ∃ D' T', Blk (2 * bs) D' ∧ Srt T' ∧ T'.length < 2 * bs ∧ Ste (D.flatten ++ Bs.flatten ++ T) (D'.flatten ++ T') ∧ slices_stableCmpFunc_Gesture_L2 fu (pcall C0 Try.prog fu (d + 104)) n c a1 m0 nn N N bs a b (encG (D.flatten ++ Bs.flatten ++ T)) = slices_stableCmpFunc_Gesture_L1 fu (pcall C0 Try.prog fu (d + 104)) n c a1 m0 N N ((2 * bs : Nat) : Int) (encG (D'.flatten ++ T'))
  | 0, _, _, _, _, _, _, _, _, _, _, _, _, _, _, h => by omega
  | nn + 1, D, [], T, a, b, N, hD, hB, hT, hT', hN, hN', ha, hb, hn => by
    have hN2 : N = D.flatten.length + T.length := by rw [hN]; simp
    have w1 : IntKind.wrap .i64 (a + (bs : Int)) = a + bs := wrap_i64 (by omega) (by omega)
    have w2 : IntKind.wrap .i64 ((bs : Int) * 2) = ((2 * bs : Nat) : Int) := by rw [wrap_i64 (by omega) (by omega)]; omega
    refine ⟨D, T, hD, hT, by omega, by simpa using StEq.refl _, ?_⟩
    rw [slices_stableCmpFunc_Gesture_L2_s, nd_brf _ _ _ (by omega)]
    simp only [nd_share, w1, w2]
    rw [nd_brf _ _ _ (by omega)]
    simp
  | nn + 1, D, [X], T, a, b, N, hD, hB, hT, hT', hN, hN', ha, hb, hn => by
    obtain ⟨hX, hX'⟩ := hB X (by simp)
    have hN2 : N = D.flatten.length + X.length + T.length := by rw [hN]; simp only [List.length_append, List.flatten_cons, List.flatten_nil, List.append_nil]
    have w1 : IntKind.wrap .i64 (a + (bs : Int)) = ((D.flatten.length + bs : Nat) : Int) := by rw [wrap_i64 (by omega) (by omega)]; omega
    have w2 : IntKind.wrap .i64 ((bs : Int) * 2) = ((2 * bs : Nat) : Int) := by rw [wrap_i64 (by omega) (by omega)]; omega
    have e : D.flatten ++ [X].flatten ++ T = D.flatten ++ X ++ T := by simp
    rw [e]
    by_cases c1 : T.length = 0
    · have c2 := List.eq_nil_of_length_eq_zero c1
      subst c2
      refine ⟨D, X, hD, hX, by omega, by simpa using StEq.refl _, ?_⟩
      rw [slices_stableCmpFunc_Gesture_L2_s, nd_brf _ _ _ (by omega)]
      simp only [nd_share, w1, w2]
      rw [nd_brf _ _ _ (by omega), List.append_nil]
    · obtain ⟨S', h1, h2, h3⟩ := sym_ex (fu := fu) hfu 100 (d + 100) D.flatten X T [] D.flatten.length (D.flatten.length + bs) N N (by omega) (by omega) (by omega) (by omega) (by simp only [List.length_append, List.length_nil]; omega) (by omega) rfl (by omega) (by omega) hX hT
      rw [List.append_nil, List.append_nil] at h3
      have hl := h2.len
      simp only [List.length_append] at hl
      have e2 : D.flatten ++ X ++ T = D.flatten ++ (X ++ T) := by simp
      refine ⟨D, S', hD, h1, by omega, by rw [e2]; exact (StEq.refl _).app h2, ?_⟩
      rw [slices_stableCmpFunc_Gesture_L2_s, nd_brf _ _ _ (by omega)]
      simp only [nd_share, w1, w2]
      rw [nd_brt _ _ _ (by omega), ha]
      simp only [h3, nd_call, nd_nil, nd_cons, nd_share]
  | nn + 1, D, X :: Y :: Bs, T, a, b, N, hD, hB, hT, hT', hN, hN', ha, hb, hn => by
    obtain ⟨hX, hX'⟩ := hB X (by simp)
    obtain ⟨hY, hY'⟩ := hB Y (by simp)
    have hN2 : N = D.flatten.length + X.length + Y.length + Bs.flatten.length + T.length := by rw [hN]; simp only [List.length_append, List.flatten_cons]; omega
    have w1 : IntKind.wrap .i64 (a + (bs : Int)) = ((D.flatten.length + bs : Nat) : Int) := by rw [wrap_i64 (by omega) (by omega)]; omega
    have w3 : IntKind.wrap .i64 (2 * (bs : Int)) = 2 * (bs : Int) := wrap_i64 (by omega) (by omega)
    have w4 : IntKind.wrap .i64 (b + 2 * (bs : Int)) = b + 2 * (bs : Int) := wrap_i64 (by omega) (by omega)
    have hb' : b = ((D.flatten.length + 2 * bs : Nat) : Int) := by omega
    have e : D.flatten ++ (X :: Y :: Bs).flatten ++ T = D.flatten ++ X ++ Y ++ (Bs.flatten ++ T) := by simp
    obtain ⟨S', h1, h2, h3⟩ := sym_ex (fu := fu) hfu 100 (d + 100) D.flatten X Y (Bs.flatten ++ T) D.flatten.length (D.flatten.length + bs) (D.flatten.length + 2 * bs) N (by omega) (by omega) (by omega) (by omega) (by simp only [List.length_append]; omega) (by omega) rfl (by omega) (by omega) hX hY
    have hl := h2.len
    simp only [List.length_append] at hl
    simp only [List.length_cons] at hn
    obtain ⟨D', T', g1, g2, g3, g4, g5⟩ := st_round (n := n) (m0 := m0) (c := c) (a1 := a1) hfu hbs hbs' nn (D ++ [S']) Bs T b (b + 2 * bs) N (by
      intro Z hZ
      rcases List.mem_append.1 hZ with hZ | hZ
      · exact hD Z hZ
      · rw [List.mem_singleton.1 hZ]; exact ⟨h1, by omega⟩) (fun Z hZ => hB Z (by simp [hZ])) hT hT' (by simp only [List.length_append, List.flatten_append, List.flatten_cons, List.flatten_nil, List.append_nil]; omega) hN' (by simp only [List.length_append, List.flatten_append, List.flatten_cons, List.flatten_nil, List.append_nil]; omega) rfl (by omega)
    have e2 : (D ++ [S']).flatten ++ Bs.flatten ++ T = D.flatten ++ S' ++ (Bs.flatten ++ T) := by simp
    rw [e2] at g4 g5
    refine ⟨D', T', g1, g2, g3, ?_, ?_⟩
    · rw [e]
      have e3 : D.flatten ++ X ++ Y ++ (Bs.flatten ++ T) = D.flatten ++ (X ++ Y) ++ (Bs.flatten ++ T) := by simp
      rw [e3]
      exact (((StEq.refl D.flatten).app h2).app (StEq.refl _)).trans g4
    · rw [e, slices_stableCmpFunc_Gesture_L2_s, nd_brt _ _ _ (by omega)]
      rw [← hb', ← ha] at h3
      simp only [nd_share, w1, w3, w4, h3, nd_call, nd_nil, nd_cons]
      exact g5

theorem st_rounds (hfu : 1000 < fu) {n : Nat} {c : List PV} {a1 : Int} : ∀ (nn bs : Nat) (D : List (List Ge)) (T : List Ge) (N : Nat), 0 < bs → bs ≤ 200 → Blk bs D → Srt T → T.length < bs → N = (D.flatten ++ T).length → N ≤ 100 → N - bs < nn →
    ∃ S', Srt S' ∧ Ste (D.flatten ++ T) S' ∧ slices_stableCmpFunc_Gesture_L1 fu (pcall C0 Try.prog fu (d + 104)) n c a1 nn N N bs (encG (D.flatten ++ T)) = some ⟨[], [encG S']⟩
  | 0, _, _, _, _, _, _, _, _, _, _, _, h => by omega
  | nn + 1, bs, D, T, N, hbs, hbs2, hD, hT, hT', hN, hN', hn => by
    have hl := blk_len hD
    have hN2 : N = D.flatten.length + T.length := by rw [hN, List.length_append]
    rw [slices_stableCmpFunc_Gesture_L1_s]
    by_cases c1 : bs < N
    · have hBl : D.length ≤ D.length * bs := Nat.le_mul_of_pos_right _ hbs
      have w : IntKind.wrap .i64 (2 * (bs : Int)) = 0 + 2 * (bs : Int) := by rw [wrap_i64 (by omega) (by omega)]; omega
      obtain ⟨D', T', g1, g2, g3, g4, g5⟩ := st_round (fu := fu) (d := d) (n := n) (m0 := nn) (c := c) (a1 := a1) hfu hbs (by omega) fu [] D T 0 (0 + 2 * bs) N (by intro X hX; cases hX) hD hT hT' (by simpa using hN) hN' (by simp) rfl (by omega)
      rw [List.flatten_nil, List.nil_append] at g4 g5
      have hl2 := g4.len
      obtain ⟨S', k1, k2, k3⟩ := st_rounds (n := n) (c := c) (a1 := a1) hfu nn (2 * bs) D' T' N (by omega) (by omega) g1 g2 g3 (by omega) hN' (by omega)
      refine ⟨S', k1, g4.trans k2, ?_⟩
      rw [nd_brt _ _ _ (by omega)]
      simp only [nd_share, w]
      exact g5.trans k3
    · refine ⟨D.flatten ++ T, ?_, StEq.refl _, ?_⟩
      · match D, hD, hl, hN2 with
        | [], _, _, _ => simpa using hT
        | [X], hD, hl, hN2 =>
          have : T.length = 0 := by simp only [List.length_cons, List.length_nil] at hl; omega
          rw [List.eq_nil_of_length_eq_zero this]
          simpa using (hD X (by simp)).1
        | X :: Y :: D, hD, hl, hN2 =>
          exfalso
          simp only [List.length_cons] at hl
          have : (D.length + 1 + 1) * bs = D.length * bs + bs + bs := by rw [Nat.succ_mul, Nat.succ_mul]
          omega
      · rw [nd_brf _ _ _ (by omega)]

theorem sort_ex (hfu : 1000 < fu) (l : List Ge) (hl : l.length ≤ 100) : ∃ S', Srt S' ∧ Ste l S' ∧ pcall C0 Try.prog fu (d + 106) F_slices_SortStableFunc_Gesture [.tup [.own 2 l.length (encG l)], Fcmp] = some ⟨[], [encG S']⟩ := by
  obtain ⟨D, T, h1, h2, h3, h4, h5⟩ := st_blocks (fu := fu) (d := d) (n := l.length) (c := encG l) (a1 := l.length) hfu fu [] l 0 20 l.length (by intro X hX; cases hX) (by simp) hl (by simp) (by simp) (by omega)
  rw [List.flatten_nil, List.nil_append] at h4 h5
  have hlen := h4.len
  obtain ⟨S', k1, k2, k3⟩ := st_rounds (fu := fu) (d := d) (n := l.length) (c := encG l) (a1 := l.length) hfu fu 20 D T l.length (by omega) (by omega) h1 h2 h3 hlen.symm hl (by omega)
  refine ⟨S', k1, h4.trans k2, ?_⟩
  have st : pcall C0 Try.prog fu (d + 105) F_slices_stableCmpFunc_Gesture [.tup [.own 2 l.length (encG l)], .sc (.int .i64 l.length), Fcmp] = some ⟨[], [encG S']⟩ := by
    rw [slices_stableCmpFunc_Gesture_e]
    exact h5.trans k3
  rw [slices_SortStableFunc_Gesture_e]
  simp only [st, nd_call, nd_nil, nd_cons]
end

end Go.Proofs.Ytaphhfehcbkfkaa.Pv
