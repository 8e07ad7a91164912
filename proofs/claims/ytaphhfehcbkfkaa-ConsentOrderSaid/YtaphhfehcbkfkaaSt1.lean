/-
  Stable sorting, in plain lists.
-/
import Derived.Test.YtaphhfehcbkfkaaPvX1
set_option linter.unusedSimpArgs false
set_option linter.unusedVariables false
namespace Go.Proofs.Ytaphhfehcbkfkaa.Pv

section
variable {α : Type} {key : α → Int}

def SortedK (key : α → Int) (l : List α) : Prop := l.Pairwise fun x y => key x ≤ key y
def StEq (key : α → Int) (l l' : List α) : Prop := ∀ k, l'.filter (fun x => key x == k) = l.filter (fun x => key x == k)

theorem StEq.refl (l : List α) : StEq key l l := fun _ => rfl
theorem StEq.trans {a b c : List α} (h : StEq key a b) (h' : StEq key b c) : StEq key a c := fun k => (h' k).trans (h k)
theorem StEq.app {a b c d : List α} (h : StEq key a b) (h' : StEq key c d) : StEq key (a ++ c) (b ++ d) := fun k => by
  rw [List.filter_append, List.filter_append, h k, h' k]
theorem StEq.mem {l l' : List α} (h : StEq key l l') {x : α} : x ∈ l' ↔ x ∈ l := by
  have e := h (key x)
  have h1 : x ∈ l'.filter (fun y => key y == key x) ↔ x ∈ l' := by simp
  have h2 : x ∈ l.filter (fun y => key y == key x) ↔ x ∈ l := by simp
  rw [← h1, e, h2]
theorem StEq.len {l l' : List α} (h : StEq key l l') : l'.length = l.length := by
  suffices ∀ (n : Nat) (l l' : List α), l.length = n → StEq key l l' → l'.length = l.length from this _ l l' rfl h
  intro n
  induction n using Nat.strongRecOn with
  | _ n ih =>
    intro l l' hn h
    cases l with
    | nil =>
      cases l' with
      | nil => rfl
      | cons y r' => have := (h.mem (x := y)).1 (by simp); cases this
    | cons x r =>
      have part : ∀ (m : List α) (k : Int), m.length = (m.filter (fun y => key y == k)).length + (m.filter (fun y => !(key y == k))).length := by
        intro m k
        induction m with
        | nil => rfl
        | cons a m ihm =>
          by_cases hk : key a == k
          · simp [List.filter_cons, hk, ihm]; omega
          · simp [List.filter_cons, hk, ihm]; omega
      rw [part l' (key x), part (x :: r) (key x), h (key x)]
      have hlt : ((x :: r).filter (fun y => !(key y == key x))).length < n := by
        rw [← hn, part (x :: r) (key x)]
        simp [List.filter_cons]
      have := ih _ hlt ((x :: r).filter (fun y => !(key y == key x))) (l'.filter (fun y => !(key y == key x))) rfl (fun k => by
        rw [List.filter_filter, List.filter_filter]
        by_cases hk : k = key x
        · subst hk
          have e1 : (fun a => (key a == key x) && !(key a == key x)) = (fun _ : α => false) := by funext a; cases (key a == key x) <;> rfl
          rw [e1]
          rw [List.filter_eq_nil_iff.2 (by simp), List.filter_eq_nil_iff.2 (by simp)]
        · have e1 : (fun a => (key a == k) && !(key a == key x)) = (fun a : α => key a == k) := by
            funext a
            by_cases ha : key a = k
            · simp [ha, hk]
            · simp [ha]
          rw [e1]
          exact h k)
      omega

theorem SortedK.app {a b : List α} (ha : SortedK key a) (hb : SortedK key b) (h : ∀ x ∈ a, ∀ y ∈ b, key x ≤ key y) : SortedK key (a ++ b) := List.pairwise_append.2 ⟨ha, hb, h⟩
theorem SortedK.left {a b : List α} (h : SortedK key (a ++ b)) : SortedK key a := (List.pairwise_append.1 h).1
theorem SortedK.right {a b : List α} (h : SortedK key (a ++ b)) : SortedK key b := (List.pairwise_append.1 h).2.1
theorem SortedK.le {a b : List α} (h : SortedK key (a ++ b)) : ∀ x ∈ a, ∀ y ∈ b, key x ≤ key y := (List.pairwise_append.1 h).2.2

/-- Sorted lists that agree key by key are equal. -/
theorem sorted_unique : ∀ {l l' : List α}, SortedK key l → SortedK key l' → StEq key l l' → l' = l
  | [], [], _, _, _ => rfl
  | [], y :: r', _, _, h => by have := (h.mem (x := y)).1 (by simp); cases this
  | x :: r, [], _, _, h => by have := (h.mem (x := x)).2 (by simp); cases this
  | x :: r, y :: r', h1, h2, h => by
    have e1 : ∀ z ∈ x :: r, key x ≤ key z := by
      intro z hz
      rcases List.mem_cons.1 hz with rfl | hz
      · exact Int.le_refl _
      · exact (List.pairwise_cons.1 h1).1 z hz
    have e2 : ∀ z ∈ y :: r', key y ≤ key z := by
      intro z hz
      rcases List.mem_cons.1 hz with rfl | hz
      · exact Int.le_refl _
      · exact (List.pairwise_cons.1 h2).1 z hz
    have hk : key x = key y := Int.le_antisymm (e1 y (h.mem.1 (by simp))) (e2 x (h.mem.2 (by simp)))
    have h0 := h (key x)
    simp only [List.filter_cons, hk, beq_self_eq_true, if_true] at h0
    injection h0 with h3 h4
    subst h3
    have hr : StEq key r r' := by
      intro k
      have hk2 := h k
      simp only [List.filter_cons] at hk2
      by_cases e : key y == k
      · simp only [e, if_true] at hk2
        injection hk2
      · simp only [e, if_false, Bool.false_eq_true] at hk2
        exact hk2
    rw [sorted_unique (List.pairwise_cons.1 h1).2 (List.pairwise_cons.1 h2).2 hr]

/-- Two sorted rows cut so that the parts may be merged one by one. -/
theorem merge_parts {F1 F2 S1 S2 L R : List α} (hF : SortedK key (F1 ++ F2)) (hS : SortedK key (S1 ++ S2)) (h1 : ∀ x ∈ F1, ∀ y ∈ S2, key x ≤ key y) (h2 : ∀ x ∈ S1, ∀ y ∈ F2, key x < key y)
    (hL : SortedK key L) (hL' : StEq key (F1 ++ S1) L) (hR : SortedK key R) (hR' : StEq key (F2 ++ S2) R) : SortedK key (L ++ R) ∧ StEq key ((F1 ++ F2) ++ (S1 ++ S2)) (L ++ R) := by
  refine ⟨hL.app hR fun x hx y hy => ?_, fun k => ?_⟩
  · rw [hL'.mem] at hx
    rw [hR'.mem] at hy
    rcases List.mem_append.1 hx with hx | hx <;> rcases List.mem_append.1 hy with hy | hy
    · exact hF.le x hx y hy
    · exact h1 x hx y hy
    · exact Int.le_of_lt (h2 x hx y hy)
    · exact hS.le x hx y hy
  · rw [List.filter_append, hL' k, hR' k]
    simp only [List.filter_append, List.append_assoc]
    congr 1
    have : S1.filter (fun x => key x == k) = [] ∨ F2.filter (fun x => key x == k) = [] := by
      by_cases hs : S1.filter (fun x => key x == k) = []
      · exact .inl hs
      · right
        obtain ⟨x, hx⟩ := List.exists_mem_of_ne_nil _ hs
        rw [List.mem_filter] at hx
        rw [List.filter_eq_nil_iff]
        intro y hy e
        have h3 := h2 x hx.1 y hy
        have h4 : key x = k := by simpa using hx.2
        have h5 : key y = k := by simpa using e
        omega
    rcases this with e | e <;> simp [e]

/-- One element put into a sorted row, behind those that are not greater. -/
theorem insert_parts {S1 S2 : List α} {x : α} (hS : SortedK key (S1 ++ S2)) (h1 : ∀ y ∈ S1, key y ≤ key x) (h2 : ∀ y ∈ S2, key x < key y) : SortedK key (S1 ++ x :: S2) ∧ StEq key ((S1 ++ S2) ++ [x]) (S1 ++ x :: S2) := by
  have h := merge_parts (key := key) (F1 := S1) (F2 := S2) (S1 := [x]) (S2 := []) (L := S1 ++ [x]) (R := S2) hS (by simp [SortedK]) (by simp) (by simpa using h2)
    (hS.left.app (by simp [SortedK]) (by simpa using h1)) (StEq.refl _) hS.right (by rw [List.append_nil]; exact StEq.refl _)
  simpa using h

/-- One element put ahead into a sorted row, before those that are not smaller. -/
theorem ahead_parts {S1 S2 : List α} {x : α} (hS : SortedK key (S1 ++ S2)) (h1 : ∀ y ∈ S1, key y < key x) (h2 : ∀ y ∈ S2, key x ≤ key y) : SortedK key (S1 ++ x :: S2) ∧ StEq key (x :: (S1 ++ S2)) (S1 ++ x :: S2) := by
  have h := merge_parts (key := key) (F1 := []) (F2 := [x]) (S1 := S1) (S2 := S2) (L := S1) (R := x :: S2) (by simp [SortedK]) hS (by simp) (by simpa using h1)
    hS.left (by rw [List.nil_append]; exact StEq.refl _) (List.pairwise_cons.2 ⟨h2, hS.right⟩) (by simpa using StEq.refl (key := key) (x :: S2))
  simpa using h

theorem swap_adj (A B : List α) (x y : α) : ((A ++ x :: y :: B).set A.length y).set (A.length + 1) x = A ++ y :: x :: B := by
  rw [List.set_append_right _ _ (Nat.le_refl _), Nat.sub_self, List.set_cons_zero, List.set_append_right _ _ (by omega), show A.length + 1 - A.length = 1 by omega]
  rfl
theorem swap_adj' (A B : List α) (x y : α) : ((A ++ x :: y :: B).set (A.length + 1) x).set A.length y = A ++ y :: x :: B := by
  rw [List.set_append_right _ _ (by omega), show A.length + 1 - A.length = 1 by omega, List.set_cons_succ, List.set_cons_zero, List.set_append_right _ _ (Nat.le_refl _), Nat.sub_self, List.set_cons_zero]
end

end Go.Proofs.Ytaphhfehcbkfkaa.Pv
