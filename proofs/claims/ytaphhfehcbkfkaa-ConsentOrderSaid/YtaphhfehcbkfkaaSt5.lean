/-
  Gestures sorted by time: symMerge.
-/
import Derived.Test.YtaphhfehcbkfkaaSt4
set_option linter.unusedSimpArgs false
set_option linter.unusedVariables false
namespace Go.Proofs.Ytaphhfehcbkfkaa.Pv

theorem srt_last {X : List Ge} {u : Ge} (h : Srt (X ++ [u])) : ∀ x ∈ X ++ [u], x.tm ≤ u.tm := by
  intro x hx
  rcases List.mem_append.1 hx with hx | hx
  · exact h.le x hx u (by simp)
  · rw [List.mem_singleton.1 hx]; exact Int.le_refl _
theorem srt_first {X : List Ge} {u : Ge} (h : Srt (u :: X)) : ∀ x ∈ u :: X, u.tm ≤ x.tm := by
  intro x hx
  rcases List.mem_cons.1 hx with rfl | hx
  · exact Int.le_refl _
  · exact (List.pairwise_cons.1 h).1 x hx
theorem cut {α : Type} (l : List α) (k : Nat) (h : k ≤ l.length) : ∃ x y, l = x ++ y ∧ x.length = k ∧ y.length = l.length - k := ⟨l.take k, l.drop k, by simp, by simp; omega, by simp⟩

section
variable {fu d : Nat}

theorem sym_one (hfu : 1000 < fu) (A S B : List Ge) (x : Ge) (a m b N : Nat) (hN : N = (A ++ [x] ++ S ++ B).length) (hN' : N ≤ 1000) (ha : a = A.length) (hm : m = A.length + 1) (hb : b = A.length + 1 + S.length) (hS : Srt S) :
    ∃ S', Srt S' ∧ Ste ([x] ++ S) S' ∧ pcall C0 Try.prog fu (d + 4) F_slices_symMergeCmpFunc_Gesture [.tup [.own 2 N (encG (A ++ [x] ++ S ++ B))], .sc (.int .i64 a), .sc (.int .i64 m), .sc (.int .i64 b), Fcmp] = some ⟨[], [encG (A ++ S' ++ B)]⟩ := by
  have hN2 : N = A.length + 1 + S.length + B.length := by rw [hN]; simp; omega
  obtain ⟨s, h1, h2, h3, h4, h5⟩ := fwd_search (fu := fu) (d := d) (n := N) (c := encG (A ++ [x] ++ S ++ B)) (a1 := a) (a2 := m) (a3 := b) (l := A ++ [x] ++ S ++ B) (a := a) (m := m) (b := b) (by omega) (by omega) (by omega) (by omega) hfu
  obtain ⟨S1, S2, rfl, q1, q2⟩ := cut S (s - m) (by omega)
  simp only [List.length_append] at hb hN2 q2
  have ga : gk (A ++ [x] ++ (S1 ++ S2) ++ B) a = x := gk_at A (S1 ++ S2 ++ B) x (by simp) ha
  have r := ahead_parts (x := x) hS (by
    rcases List.eq_nil_or_concat S1 with rfl | ⟨S', y, rfl⟩
    · simp
    · rw [List.concat_eq_append] at *
      simp only [List.length_append, List.length_cons, List.length_nil] at *
      have g := gk_at (l := A ++ [x] ++ (S' ++ [y] ++ S2) ++ B) (c := s - 1) (A ++ [x] ++ S') (S2 ++ B) y (by simp) (by simp; omega)
      rw [ga, g] at h3
      intro z hz
      have := srt_last hS.left z hz
      rcases h3 with h3 | h3 <;> omega) (by
    cases S2 with
    | nil => simp
    | cons y S2 =>
      simp only [List.length_cons] at *
      have g := gk_at (l := A ++ [x] ++ (S1 ++ y :: S2) ++ B) (c := s) (A ++ [x] ++ S1) (S2 ++ B) y (by simp) (by simp; omega)
      rw [ga, g] at h4
      intro z hz
      have := srt_first hS.right z hz
      rcases h4 with h4 | h4 <;> omega)
  refine ⟨_, r.1, r.2, ?_⟩
  have w1 : IntKind.wrap .i64 ((m : Int) - (a : Int)) = 1 := by rw [wrap_i64 (by omega) (by omega)]; omega
  rw [slices_symMergeCmpFunc_Gesture_e]
  simp only [nd_share, w1, nd_breq, if_true]
  have e : A ++ [x] ++ (S1 ++ S2) ++ B = A ++ x :: S1 ++ (S2 ++ B) := by simp
  have e' : A ++ (S1 ++ x :: S2) ++ B = A ++ S1 ++ x :: (S2 ++ B) := by simp
  rw [← hN] at h5
  refine h5.trans ?_
  rw [e, e']
  exact fwd_loop S1 fu A (S2 ++ B) x s a N (by rw [hN, e]) hN' (by omega) (by omega) (by omega)

theorem sym_back (hfu : 1000 < fu) (A F B : List Ge) (x : Ge) (a m b N : Nat) (hN : N = (A ++ F ++ [x] ++ B).length) (hN' : N ≤ 1000) (ha : a = A.length) (hm : m = A.length + F.length) (hb : b = A.length + F.length + 1) (hF : Srt F) (h1' : F.length ≠ 1) :
    ∃ S', Srt S' ∧ Ste (F ++ [x]) S' ∧ pcall C0 Try.prog fu (d + 4) F_slices_symMergeCmpFunc_Gesture [.tup [.own 2 N (encG (A ++ F ++ [x] ++ B))], .sc (.int .i64 a), .sc (.int .i64 m), .sc (.int .i64 b), Fcmp] = some ⟨[], [encG (A ++ S' ++ B)]⟩ := by
  have hN2 : N = A.length + F.length + 1 + B.length := by rw [hN]; simp; omega
  obtain ⟨s, h1, h2, h3, h4, h5⟩ := bwd_search (fu := fu) (d := d) (n := N) (c := encG (A ++ F ++ [x] ++ B)) (a1 := a) (a2 := m) (a3 := b) (l := A ++ F ++ [x] ++ B) (a := a) (m := m) (by omega) (by omega) (by omega) hfu
  have w1 : IntKind.wrap .i64 ((m : Int) - (a : Int)) ≠ 1 := by rw [wrap_i64 (by omega) (by omega)]; omega
  have w2 : IntKind.wrap .i64 ((b : Int) - (m : Int)) = 1 := by rw [wrap_i64 (by omega) (by omega)]; omega
  obtain ⟨F1, F2, rfl, q1, q2⟩ := cut F (s - a) (by omega)
  simp only [List.length_append] at hb hN2 q2 hm
  have ga : gk (A ++ (F1 ++ F2) ++ [x] ++ B) m = x := gk_at (A ++ (F1 ++ F2)) B x (by simp) (by simp; omega)
  have r := insert_parts (x := x) hF (by
    rcases List.eq_nil_or_concat F1 with rfl | ⟨S', y, rfl⟩
    · simp
    · rw [List.concat_eq_append] at *
      simp only [List.length_append, List.length_cons, List.length_nil] at *
      have g := gk_at (l := A ++ (S' ++ [y] ++ F2) ++ [x] ++ B) (c := s - 1) (A ++ S') (F2 ++ [x] ++ B) y (by simp) (by simp; omega)
      rw [ga, g] at h3
      intro z hz
      have := srt_last hF.left z hz
      rcases h3 with h3 | h3 <;> omega) (by
    cases F2 with
    | nil => simp
    | cons y S2 =>
      simp only [List.length_cons] at *
      have g := gk_at (l := A ++ (F1 ++ y :: S2) ++ [x] ++ B) (c := s) (A ++ F1) (S2 ++ [x] ++ B) y (by simp) (by simp; omega)
      rw [ga, g] at h4
      intro z hz
      have := srt_first hF.right z hz
      rcases h4 with h4 | h4 <;> omega)
  refine ⟨_, r.1, r.2, ?_⟩
  rw [slices_symMergeCmpFunc_Gesture_e]
  simp only [nd_share, w2, nd_breq, if_true, if_neg w1]
  have e : A ++ (F1 ++ F2) ++ [x] ++ B = (A ++ F1) ++ F2 ++ x :: B := by simp
  have e' : A ++ (F1 ++ x :: F2) ++ B = (A ++ F1) ++ x :: F2 ++ B := by simp
  rw [← hN] at h5
  refine h5.trans ?_
  rw [e, e']
  exact bwd_loop fu F2 (A ++ F1) B x s m N (by rw [hN, e]) hN' (by simp; omega) (by simp; omega) (by omega)

set_option maxHeartbeats 1000000 in
theorem sym_ex (hfu : 1000 < fu) : ∀ (k d : Nat) (A F S B : List Ge) (a m b N : Nat), k ≤ d → F.length + S.length ≤ k + 1 → 0 < F.length → 0 < S.length → N = (A ++ F ++ S ++ B).length → N ≤ 1000 → a = A.length → m = A.length + F.length → b = A.length + F.length + S.length → Srt F → Srt S →
    ∃ S', Srt S' ∧ Ste (F ++ S) S' ∧ pcall C0 Try.prog fu (d + 4) F_slices_symMergeCmpFunc_Gesture [.tup [.own 2 N (encG (A ++ F ++ S ++ B))], .sc (.int .i64 a), .sc (.int .i64 m), .sc (.int .i64 b), Fcmp] = some ⟨[], [encG (A ++ S' ++ B)]⟩
  | 0, _, _, _, _, _, _, _, _, _, _, h, h1, h2, _, _, _, _, _, _, _ => by omega
  | k + 1, 0, _, _, _, _, _, _, _, _, h, _, _, _, _, _, _, _, _, _, _ => by omega
  | k + 1, d + 1, A, F, S, B, a, m, b, N, hkd, hk, hF0, hS0, hN, hN', ha, hm, hb, hF, hS => by
    have hN2 : N = A.length + F.length + S.length + B.length := by rw [hN]; simp; omega
    by_cases c1 : F.length = 1
    · match F, c1 with
      | [x], _ => exact sym_one hfu A S B x a m b N hN hN' ha hm hb hS
    by_cases c2 : S.length = 1
    · match S, c2 with
      | [x], _ => exact sym_back hfu A F B x a m b N hN hN' ha hm hb hF c1
    obtain ⟨mid, hmid⟩ : ∃ mid, mid = (a + b) / 2 := ⟨_, rfl⟩
    have w1 : IntKind.wrap .i64 ((m : Int) - (a : Int)) ≠ 1 := by rw [wrap_i64 (by omega) (by omega)]; omega
    have w2 : IntKind.wrap .i64 ((b : Int) - (m : Int)) ≠ 1 := by rw [wrap_i64 (by omega) (by omega)]; omega
    have w3 := half a b (by omega)
    rw [← hmid] at w3
    have w4 : IntKind.wrap .i64 ((mid : Int) + (m : Int)) = ((mid + m : Nat) : Int) := by rw [wrap_i64 (by omega) (by omega)]; omega
    have w5 : IntKind.wrap .i64 (((mid + m : Nat) : Int) - 1) = ((mid + m - 1 : Nat) : Int) := by rw [wrap_i64 (by omega) (by omega)]; omega
    obtain ⟨lo, hi, hlo1, hlo2, hlo3, hlo4, hlo5, hlo6, hlo7, hlo8⟩ : ∃ lo hi : Nat, lo ≤ hi ∧ hi ≤ m ∧ a ≤ lo ∧ (lo = a ∨ mid + m = b + lo) ∧ (hi = m ∨ mid = hi) ∧ mid + m ≤ b + lo ∧ hi ≤ mid ∧
        pcall C0 Try.prog fu (d + 1 + 4) F_slices_symMergeCmpFunc_Gesture [.tup [.own 2 N (encG (A ++ F ++ S ++ B))], .sc (.int .i64 a), .sc (.int .i64 m), .sc (.int .i64 b), Fcmp]
          = slices_symMergeCmpFunc_Gesture_L4 fu (pcall C0 Try.prog fu (d + 1 + 3)) N (encG (A ++ F ++ S ++ B)) a m b fu N a m b mid ((mid + m : Nat) : Int) lo hi ((mid + m - 1 : Nat) : Int) (encG (A ++ F ++ S ++ B)) := by
      by_cases c3 : m > mid
      · refine ⟨mid + m - b, mid, by omega, by omega, by omega, by omega, by omega, by omega, by omega, ?_⟩
        have w6 : IntKind.wrap .i64 (((mid + m : Nat) : Int) - (b : Int)) = ((mid + m - b : Nat) : Int) := by rw [wrap_i64 (by omega) (by omega)]; omega
        rw [slices_symMergeCmpFunc_Gesture_e]
        simp only [nd_share, w3, w4, w5, w6, nd_breq, if_neg w1, if_neg w2]
        rw [nd_brt _ _ _ (by omega)]
      · refine ⟨a, m, by omega, by omega, by omega, by omega, by omega, by omega, by omega, ?_⟩
        rw [slices_symMergeCmpFunc_Gesture_e]
        simp only [nd_share, w3, w4, w5, nd_breq, if_neg w1, if_neg w2]
        rw [nd_brf _ _ _ (by omega)]
    rw [hlo8]
    clear hlo8 w1 w2 w3 w4 w5
    obtain ⟨s, h1, h2, h3, h4, h5⟩ := sym_search (fu := fu) (d := d + 1) (n := N) (c := encG (A ++ F ++ S ++ B)) (a1 := a) (a2 := m) (a3 := b) (y1 := a) (y2 := m) (y3 := b) (y4 := mid) (y5 := ((mid + m : Nat) : Int)) (l := A ++ F ++ S ++ B) (lo := lo) (hi := hi) (p := mid + m - 1) (by omega) hlo1 (by omega) (by omega) (by omega) hfu
    rw [← hN] at h5
    rw [h5]
    clear h5
    obtain ⟨e, he⟩ : ∃ e, e = mid + m - s := ⟨_, rfl⟩
    obtain ⟨F1, F2, rfl, q1, q2⟩ := cut F (s - a) (by omega)
    obtain ⟨S1, S2, rfl, q3, q4⟩ := cut S (e - m) (by omega)
    simp only [List.length_append] at hN2 hm hb hk hF0 hS0 q2 q4
    have f1 : a ≤ s := by omega
    have f2 : s ≤ m := by omega
    have f3 : m ≤ e := by omega
    have f4 : e ≤ b := by omega
    have f5 : a < mid := by omega
    have f6 : mid < b := by omega
    have f7 : F1.length + S1.length ≤ k + 1 := by omega
    have f8 : F2.length + S2.length ≤ k + 1 := by omega
    have f9 : s ≤ mid := by omega
    have o1 : ∀ x ∈ F1, ∀ y ∈ S2, x.tm ≤ y.tm := by
      rcases List.eq_nil_or_concat F1 with rfl | ⟨F', u, rfl⟩
      · simp
      · rw [List.concat_eq_append] at *
        cases S2 with
        | nil => simp
        | cons v S2 =>
          simp only [List.length_append, List.length_cons, List.length_nil] at *
          have g := gk_at (l := A ++ (F' ++ [u] ++ F2) ++ (S1 ++ v :: S2) ++ B) (c := s - 1) (A ++ F') (F2 ++ (S1 ++ v :: S2) ++ B) u (by simp) (by simp; omega)
          have g' := gk_at (l := A ++ (F' ++ [u] ++ F2) ++ (S1 ++ v :: S2) ++ B) (c := mid + m - 1 - (s - 1)) (A ++ (F' ++ [u] ++ F2) ++ S1) (S2 ++ B) v (by simp) (by simp; omega)
          rw [g, g'] at h3
          intro x hx y hy
          have := srt_last hF.left x hx
          have := srt_first hS.right y hy
          rcases h3 with h3 | h3 <;> omega
    have o2 : ∀ x ∈ S1, ∀ y ∈ F2, x.tm < y.tm := by
      rcases List.eq_nil_or_concat S1 with rfl | ⟨S', u, rfl⟩
      · simp
      · rw [List.concat_eq_append] at *
        cases F2 with
        | nil => simp
        | cons v F2 =>
          simp only [List.length_append, List.length_cons, List.length_nil] at *
          have g := gk_at (l := A ++ (F1 ++ v :: F2) ++ (S' ++ [u] ++ S2) ++ B) (c := s) (A ++ F1) (F2 ++ (S' ++ [u] ++ S2) ++ B) v (by simp) (by simp; omega)
          have g' := gk_at (l := A ++ (F1 ++ v :: F2) ++ (S' ++ [u] ++ S2) ++ B) (c := mid + m - 1 - s) (A ++ (F1 ++ v :: F2) ++ S') (S2 ++ B) u (by simp) (by simp; omega)
          rw [g, g'] at h4
          intro x hx y hy
          have := srt_last hS.left x hx
          have := srt_first hF.right y hy
          rcases h4 with h4 | h4 <;> omega
    clear h3 h4 hlo4 hlo5 hlo1 hlo2 hlo3 hlo6 hlo7 h1 h2 c1 c2
    obtain ⟨l', hl'⟩ : ∃ l', l' = A ++ F1 ++ S1 ++ (F2 ++ S2 ++ B) := ⟨_, rfl⟩
    have hl'N : N = l'.length := by rw [hl']; simp; omega
    have rot : s < m ∧ m < e → pcall C0 Try.prog fu (d + 1 + 3) F_slices_rotateCmpFunc_Gesture [.tup [.own 2 N (encG (A ++ (F1 ++ F2) ++ (S1 ++ S2) ++ B))], .sc (.int .i64 s), .sc (.int .i64 m), .sc (.int .i64 e), Fcmp] = some ⟨[], [encG l']⟩ := by
      intro hh
      have := rot_eq (fu := fu) (d := d + 2) hfu (a1 := s) (a2 := m) (a3 := e) (N := N) (A ++ F1) F2 S1 (S2 ++ B) (by simp; omega) hN' (by simp; omega) (by simp; omega) (by simp; omega) (by omega) (by omega)
      have e1 : A ++ F1 ++ F2 ++ S1 ++ (S2 ++ B) = A ++ (F1 ++ F2) ++ (S1 ++ S2) ++ B := by simp
      have e2 : A ++ F1 ++ S1 ++ F2 ++ (S2 ++ B) = l' := by rw [hl']; simp
      rw [e1, e2] at this
      exact this
    have rot' : ¬ (s < m ∧ m < e) → A ++ (F1 ++ F2) ++ (S1 ++ S2) ++ B = l' := by
      intro hh
      have : F2.length = 0 ∨ S1.length = 0 := by omega
      rcases this with h | h
      · rw [List.eq_nil_of_length_eq_zero h] at hl' ⊢; rw [hl']; simp
      · rw [List.eq_nil_of_length_eq_zero h] at hl' ⊢; rw [hl']; simp
    obtain ⟨L, hL, hL', M1, M1'⟩ : ∃ L, Srt L ∧ Ste (F1 ++ S1) L ∧ (a < s ∧ s < mid → pcall C0 Try.prog fu (d + 4) F_slices_symMergeCmpFunc_Gesture [.tup [.own 2 N (encG l')], .sc (.int .i64 a), .sc (.int .i64 s), .sc (.int .i64 mid), Fcmp] = some ⟨[], [encG (A ++ L ++ (F2 ++ S2 ++ B))]⟩) ∧ (¬ (a < s ∧ s < mid) → l' = A ++ L ++ (F2 ++ S2 ++ B)) := by
      by_cases hh : a < s ∧ s < mid
      · obtain ⟨L, r1, r2, r3⟩ := sym_ex hfu k d A F1 S1 (F2 ++ S2 ++ B) a s mid N (by omega) (by omega) (by omega) (by omega) (by rw [hl'N, hl']) hN' ha (by omega) (by omega) hF.left hS.left
        rw [← hl'] at r3
        exact ⟨L, r1, r2, fun _ => r3, fun h => absurd hh h⟩
      · refine ⟨F1 ++ S1, ?_, StEq.refl _, fun h => absurd h hh, fun _ => by rw [hl']; simp⟩
        have : F1.length = 0 ∨ S1.length = 0 := by omega
        rcases this with h | h
        · rw [List.eq_nil_of_length_eq_zero h]; exact hS.left
        · rw [List.eq_nil_of_length_eq_zero h, List.append_nil]; exact hF.left
    have hLl := hL'.len
    simp only [List.length_append] at hLl
    obtain ⟨R, hR, hR', M2, M2'⟩ : ∃ R, Srt R ∧ Ste (F2 ++ S2) R ∧ (mid < e ∧ e < b → pcall C0 Try.prog fu (d + 4) F_slices_symMergeCmpFunc_Gesture [.tup [.own 2 N (encG (A ++ L ++ (F2 ++ S2 ++ B)))], .sc (.int .i64 mid), .sc (.int .i64 e), .sc (.int .i64 b), Fcmp] = some ⟨[], [encG (A ++ (L ++ R) ++ B)]⟩) ∧ (¬ (mid < e ∧ e < b) → A ++ L ++ (F2 ++ S2 ++ B) = A ++ (L ++ R) ++ B) := by
      by_cases hh : mid < e ∧ e < b
      · obtain ⟨R, r1, r2, r3⟩ := sym_ex hfu k d (A ++ L) F2 S2 B mid e b N (by omega) (by omega) (by omega) (by omega) (by simp; omega) hN' (by simp; omega) (by simp; omega) (by simp; omega) hF.right hS.right
        have e1 : A ++ L ++ F2 ++ S2 ++ B = A ++ L ++ (F2 ++ S2 ++ B) := by simp
        have e2 : A ++ L ++ R ++ B = A ++ (L ++ R) ++ B := by simp
        rw [e1, e2] at r3
        exact ⟨R, r1, r2, fun _ => r3, fun h => absurd hh h⟩
      · refine ⟨F2 ++ S2, ?_, StEq.refl _, fun h => absurd h hh, fun _ => by simp⟩
        have : F2.length = 0 ∨ S2.length = 0 := by omega
        rcases this with h | h
        · rw [List.eq_nil_of_length_eq_zero h]; exact hS.right
        · rw [List.eq_nil_of_length_eq_zero h, List.append_nil]; exact hF.right
    have mp := merge_parts hF hS o1 o2 hL hL' hR hR'
    refine ⟨L ++ R, mp.1, mp.2, ?_⟩
    have we : IntKind.wrap .i64 (((mid + m : Nat) : Int) - (s : Int)) = (e : Int) := by rw [wrap_i64 (by omega) (by omega)]; omega
    show slices_symMergeCmpFunc_Gesture_L4 fu (pcall C0 Try.prog fu (d + 1 + 3)) N _ a m b (0 + 1) N a m b mid ((mid + m : Nat) : Int) s s ((mid + m - 1 : Nat) : Int) _ = _
    rw [slices_symMergeCmpFunc_Gesture_L4_s, nd_brf _ _ _ (by omega)]
    simp only [nd_share, we, nd_brand]
    by_cases hr : (s : Int) < (m : Int) ∧ (m : Int) < (e : Int)
    · have rot2 := rot (by omega)
      by_cases h6 : (a : Int) < (s : Int) ∧ (s : Int) < (mid : Int)
      · have M3 := M1 (by omega)
        by_cases h7 : (mid : Int) < (e : Int) ∧ (e : Int) < (b : Int)
        · have M4 := M2 (by omega)
          simp only [if_pos hr, if_pos h6, if_pos h7, nd_call, nd_nil, nd_cons, rot2, M3, M4]
        · have M4 := M2' (by omega)
          simp only [if_pos hr, if_pos h6, if_neg h7, nd_call, nd_nil, nd_cons, rot2, M3, M4]
      · have M3 := M1' (by omega)
        rw [M3] at rot2
        by_cases h7 : (mid : Int) < (e : Int) ∧ (e : Int) < (b : Int)
        · have M4 := M2 (by omega)
          simp only [if_pos hr, if_neg h6, if_pos h7, nd_call, nd_nil, nd_cons, rot2, M4]
        · have M4 := M2' (by omega)
          simp only [if_pos hr, if_neg h6, if_neg h7, nd_call, nd_nil, nd_cons, rot2, M4]
    · rw [rot' (by omega)]
      by_cases h6 : (a : Int) < (s : Int) ∧ (s : Int) < (mid : Int)
      · have M3 := M1 (by omega)
        by_cases h7 : (mid : Int) < (e : Int) ∧ (e : Int) < (b : Int)
        · have M4 := M2 (by omega)
          simp only [if_neg hr, if_pos h6, if_pos h7, nd_call, nd_nil, nd_cons, M3, M4]
        · have M4 := M2' (by omega)
          simp only [if_neg hr, if_pos h6, if_neg h7, nd_call, nd_nil, nd_cons, M3, M4]
      · rw [M1' (by omega)]
        by_cases h7 : (mid : Int) < (e : Int) ∧ (e : Int) < (b : Int)
        · have M4 := M2 (by omega)
          simp only [if_neg hr, if_neg h6, if_pos h7, nd_call, nd_nil, nd_cons, M4]
        · have M4 := M2' (by omega)
          simp only [if_neg hr, if_neg h6, if_neg h7, nd_call, nd_nil, nd_cons, M4]
end

end Go.Proofs.Ytaphhfehcbkfkaa.Pv
