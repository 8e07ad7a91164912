/-
  What pure values stand for in memory.
-/
import Derived.Test.YtoihfmiifeegpaaPvD
import Derived.WalkKit
namespace Go.Proofs.Ytoihfmiifeegpaa.Pv
open Go.RowKit

def All2 {α β : Type} (R : α → β → Prop) : List α → List β → Prop
  | [], [] => True
  | a :: as, b :: bs => R a b ∧ All2 R as bs
  | _, _ => False

section
variable {α β γ : Type} {R S : α → β → Prop}
theorem All2.len : ∀ {as : List α} {bs : List β}, All2 R as bs → as.length = bs.length
  | [], [], _ => rfl
  | _ :: _, _ :: _, h => by simp [All2.len h.2]
  | [], _ :: _, h => h.elim
  | _ :: _, [], h => h.elim
theorem All2.at_ : ∀ {as : List α} {bs : List β}, All2 R as bs → ∀ {i : Nat} {a b}, as[i]? = some a → bs[i]? = some b → R a b
  | [], [], _, i, a, b, h, _ => by simp at h
  | _ :: _, _ :: _, h, 0, a, b, ha, hb => by simp at ha hb; subst ha; subst hb; exact h.1
  | _ :: _, _ :: _, h, i + 1, a, b, ha, hb => by simp at ha hb; exact All2.at_ h.2 ha hb
  | [], _ :: _, h, _, _, _, _, _ => h.elim
  | _ :: _, [], h, _, _, _, _, _ => h.elim
theorem All2.of_at : ∀ {as : List α} {bs : List β}, as.length = bs.length → (∀ (i : Nat) a b, as[i]? = some a → bs[i]? = some b → R a b) → All2 R as bs
  | [], [], _, _ => trivial
  | a :: as, b :: bs, hl, h => ⟨h 0 a b rfl rfl, All2.of_at (by simpa using hl) fun i x y hx hy => h (i + 1) x y hx hy⟩
  | [], _ :: _, hl, _ => by simp at hl
  | _ :: _, [], hl, _ => by simp at hl
theorem All2.mono (hRS : ∀ a b, R a b → S a b) : ∀ {as : List α} {bs : List β}, All2 R as bs → All2 S as bs
  | [], [], _ => trivial
  | _ :: _, _ :: _, h => ⟨hRS _ _ h.1, All2.mono hRS h.2⟩
  | [], _ :: _, h => h.elim
  | _ :: _, [], h => h.elim
theorem All2.mono_mem : ∀ {as : List α} {bs : List β}, (∀ a ∈ as, ∀ b, R a b → S a b) → All2 R as bs → All2 S as bs
  | [], [], _, _ => trivial
  | a :: _, _ :: _, hRS, h => ⟨hRS a (by simp) _ h.1, All2.mono_mem (fun x hx => hRS x (by simp [hx])) h.2⟩
  | [], _ :: _, _, h => h.elim
  | _ :: _, [], _, h => h.elim
theorem All2.app : ∀ {as : List α} {bs : List β} {as' : List α} {bs' : List β}, All2 R as bs → All2 R as' bs' → All2 R (as ++ as') (bs ++ bs')
  | [], [], _, _, _, h' => h'
  | _ :: _, _ :: _, _, _, h, h' => ⟨h.1, All2.app h.2 h'⟩
  | [], _ :: _, _, _, h, _ => h.elim
  | _ :: _, [], _, _, h, _ => h.elim
theorem All2.take : ∀ (n : Nat) {as : List α} {bs : List β}, All2 R as bs → All2 R (as.take n) (bs.take n)
  | 0, _, _, _ => by simp [All2]
  | _ + 1, [], [], _ => trivial
  | n + 1, _ :: _, _ :: _, h => ⟨h.1, All2.take n h.2⟩
  | _ + 1, [], _ :: _, h => h.elim
  | _ + 1, _ :: _, [], h => h.elim
theorem All2.drop : ∀ (n : Nat) {as : List α} {bs : List β}, All2 R as bs → All2 R (as.drop n) (bs.drop n)
  | 0, _, _, h => h
  | _ + 1, [], [], _ => trivial
  | n + 1, _ :: _, _ :: _, h => All2.drop n h.2
  | _ + 1, [], _ :: _, h => h.elim
  | _ + 1, _ :: _, [], h => h.elim
end

/-- Trees. 'A': blocks that a tree may not lie in. -/
inductive TRep (w : World) (A : Nat → Prop) : PV → Value → Prop where
  | sc (v : Value) : TRep w A (.sc v) v
  | top (v : Value) : TRep w A .top v
  | ub (b : Bool) : TRep w A .ub (.bool b)
  | lnil (z : Bool) (es : Nat) : TRep w A (.lst z es 0 []) (.slice none 0 0)
  | lemp (es : Nat) (a : Addr) (cap : Nat) : TRep w A (.lst false es 0 []) (.slice (some a) 0 cap)
  | lst (es n : Nat) (cells : List PV) (a : Addr) (cap : Nat) (f : Nat → Value) (hs : a.spot = none) (hb : a.block < w.heap.size) (hA : ¬ A a.block) (hn : n ≤ cap)
      (hc : ∀ j c, cells[j]? = some c → w.cell? (a.add j) = some (f j)) (h1 : ∀ j c, cells[j]? = some c → (f j).oneCell' = true) (hr : ∀ j c, cells[j]? = some c → TRep w A c (f j)) : TRep w A (.lst false es n cells) (.slice (some a) n cap)

/-- How many cells a block has. -/
def bsz (w : World) (b : Nat) : Nat :=
  match w.heap[b]? with
  | some (.cells c _ _) => c.size
  | _ => 0

/-- Cells that lie somewhere and are trees. -/
def RdT (w : World) (A : Nat → Prop) (a : Addr) (cells : List PV) : Prop := ∀ j c, cells[j]? = some c → ∃ v, w.cell? (a.add j) = some v ∧ v.oneCell' = true ∧ TRep w A c v

/-- A cell of a frame. -/
def CRep (w : World) (A : Nat → Prop) (β : Nat → Option (Nat × Nat)) (p : PV) (v : Value) : Prop :=
  match p with
  | .view id es off n => (β id = none ∧ off = 0 ∧ n = 0 ∧ v = .slice none 0 0) ∨
      ∃ b o x cap, β id = some (b, o) ∧ v = .slice (some ⟨b, x, none⟩) n cap ∧ (x = o + off ∨ (n = 0 ∧ off ≠ 0)) ∧ n ≤ cap ∧ x + cap * es ≤ bsz w b ∧ b < w.heap.size
  | .ptr id off => ∃ b o, β id = some (b, o) ∧ v = .pointer (some ⟨b, o + off, none⟩)
  | .iptr c off => ∃ a : Addr, v = .pointer (some (a.add off)) ∧ a.spot = none ∧ a.block < w.heap.size ∧ ¬ A a.block ∧ RdT w A a c
  | p => TRep w A p v

def V1Rep (w : World) (A : Nat → Prop) (β : Nat → Option (Nat × Nat)) (p : PV) (v : Value) : Prop :=
  match p with
  | .agg cs => ∃ vs, v = .agg ⟨vs⟩ ∧ All2 (CRep w A β) cs vs
  | p => CRep w A β p v

def VRep (w : World) (A : Nat → Prop) (β : Nat → Option (Nat × Nat)) (p : PV) (v : Value) : Prop :=
  match p with
  | .tup ps => ∃ vs, v = .tuple ⟨vs⟩ ∧ All2 (V1Rep w A β) ps vs
  | p => V1Rep w A β p v

def refsC : PV → List Nat
  | .view id _ _ _ => [id]
  | .ptr id _ => [id]
  | _ => []

def refs1 : PV → List Nat
  | .agg cs => cs.flatMap refsC
  | p => refsC p

def refs : PV → List Nat
  | .tup ps => ps.flatMap refs1
  | p => refs1 p

/-- A step of the world: what is not in 'A' stays. -/
structure WStep (A : Nat → Prop) (w w' : World) : Prop where
  size : w.heap.size ≤ w'.heap.size
  keep : ∀ b, b < w.heap.size → ¬ A b → w'.heap[b]? = w.heap[b]?
  bs : ∀ b, b < w.heap.size → bsz w b ≤ bsz w' b

theorem add_block (a : Addr) (j : Nat) : (a.add j).block = a.block := by unfold Addr.add; split <;> rfl

theorem add_add (a : Addr) (i j : Nat) : (a.add i).add j = a.add (i + j) := by
  unfold Addr.add
  by_cases hi : i = 0 <;> by_cases hj : j = 0 <;> simp [hi, hj, Nat.add_assoc]

theorem add_mk (b o j : Nat) : (⟨b, o, none⟩ : Addr).add j = ⟨b, o + j, none⟩ := by
  unfold Addr.add
  by_cases hj : j = 0 <;> simp [hj]

theorem add_spot {a : Addr} (h : a.spot = none) (j : Nat) : (a.add j).spot = none := by unfold Addr.add; split <;> simp [h]

section
variable {w w' : World} {A A' : Nat → Prop} {β β' : Nat → Option (Nat × Nat)}

theorem WStep.cell (h : WStep A w w') {a : Addr} (hb : a.block < w.heap.size) (hA : ¬ A a.block) : w'.cell? a = w.cell? a :=
  World.cell?_of_block (h.keep a.block hb hA)

theorem TRep.step (h : WStep A w w') (hA : ∀ b, b < w.heap.size → A' b → A b) {p : PV} {v : Value} (t : TRep w A p v) : TRep w' A' p v := by
  induction t with
  | sc v => exact .sc v
  | top v => exact .top v
  | ub b => exact .ub b
  | lnil z es => exact .lnil z es
  | lemp es a cap => exact .lemp es a cap
  | lst es n cells a cap f hs hb hA1 hn hc h1 hr ih =>
    refine .lst es n cells a cap f hs (Nat.lt_of_lt_of_le hb h.size) (fun x => hA1 (hA _ hb x)) hn (fun j c hj => ?_) h1 (fun j c hj => ih j c hj)
    rw [h.cell (by rw [add_block]; exact hb) (by rw [add_block]; exact hA1)]
    exact hc j c hj

theorem RdT.step (h : WStep A w w') (hA : ∀ b, b < w.heap.size → A' b → A b) {a : Addr} (hb : a.block < w.heap.size) (hn : ¬ A a.block) {cells : List PV} (t : RdT w A a cells) : RdT w' A' a cells := by
  intro j c hj
  obtain ⟨v, hv, h1, ht⟩ := t j c hj
  exact ⟨v, by rw [h.cell (by rw [add_block]; exact hb) (by rw [add_block]; exact hn)]; exact hv, h1, ht.step h hA⟩

theorem CRep.step (h : WStep A w w') (hA : ∀ b, b < w.heap.size → A' b → A b) {p : PV} {v : Value} (hβ : ∀ id ∈ refsC p, β' id = β id) (t : CRep w A β p v) : CRep w' A' β' p v := by
  cases p with
  | view id es off n =>
    have e := hβ id (by simp [refsC])
    rcases t with ⟨h1, h2, h3, h4⟩ | ⟨b, o, x, cap, h1, h2, hx, h3, h4, h5⟩
    · exact .inl ⟨by rw [e]; exact h1, h2, h3, h4⟩
    · exact .inr ⟨b, o, x, cap, by rw [e]; exact h1, h2, hx, h3, Nat.le_trans h4 (h.bs b h5), Nat.lt_of_lt_of_le h5 h.size⟩
  | ptr id off =>
    have e := hβ id (by simp [refsC])
    obtain ⟨b, o, h1, h2⟩ := t
    exact ⟨b, o, by rw [e]; exact h1, h2⟩
  | iptr c off =>
    obtain ⟨a, h1, h2, h3, h4, h5⟩ := t
    exact ⟨a, h1, h2, Nat.lt_of_lt_of_le h3 h.size, fun x => h4 (hA _ h3 x), h5.step h hA h3 h4⟩
  | sc v => exact TRep.step h hA t
  | lst z es n c => exact TRep.step h hA t
  | own es n c => exact TRep.step h hA t
  | pbox c => exact TRep.step h hA t
  | agg c => exact TRep.step h hA t
  | tup c => exact TRep.step h hA t
  | top => exact TRep.step h hA t
  | ub => exact TRep.step h hA t

theorem V1Rep.step (h : WStep A w w') (hA : ∀ b, b < w.heap.size → A' b → A b) {p : PV} {v : Value} (hβ : ∀ id ∈ refs1 p, β' id = β id) (t : V1Rep w A β p v) : V1Rep w' A' β' p v := by
  cases p with
  | agg cs =>
    obtain ⟨vs, rfl, h2⟩ := t
    exact ⟨vs, rfl, h2.mono_mem fun c hc v hv => hv.step h hA fun id hid => hβ id (by simp only [refs1, List.mem_flatMap]; exact ⟨c, hc, hid⟩)⟩
  | sc x => exact CRep.step (p := .sc x) h hA hβ t
  | lst x y z u => exact CRep.step (p := .lst x y z u) h hA hβ t
  | own x y z => exact CRep.step (p := .own x y z) h hA hβ t
  | view x y z u => exact CRep.step (p := .view x y z u) h hA hβ t
  | ptr x y => exact CRep.step (p := .ptr x y) h hA hβ t
  | iptr x y => exact CRep.step (p := .iptr x y) h hA hβ t
  | pbox x => exact CRep.step (p := .pbox x) h hA hβ t
  | tup x => exact CRep.step (p := .tup x) h hA hβ t
  | top => exact CRep.step (p := .top) h hA hβ t
  | ub => exact CRep.step (p := .ub) h hA hβ t

theorem VRep.step (h : WStep A w w') (hA : ∀ b, b < w.heap.size → A' b → A b) {p : PV} {v : Value} (hβ : ∀ id ∈ refs p, β' id = β id) (t : VRep w A β p v) : VRep w' A' β' p v := by
  cases p with
  | tup cs =>
    obtain ⟨vs, rfl, h2⟩ := t
    exact ⟨vs, rfl, h2.mono_mem fun c hc v hv => hv.step h hA fun id hid => hβ id (by simp only [refs, List.mem_flatMap]; exact ⟨c, hc, hid⟩)⟩
  | sc x => exact V1Rep.step (p := .sc x) h hA hβ t
  | lst x y z u => exact V1Rep.step (p := .lst x y z u) h hA hβ t
  | own x y z => exact V1Rep.step (p := .own x y z) h hA hβ t
  | view x y z u => exact V1Rep.step (p := .view x y z u) h hA hβ t
  | ptr x y => exact V1Rep.step (p := .ptr x y) h hA hβ t
  | iptr x y => exact V1Rep.step (p := .iptr x y) h hA hβ t
  | pbox x => exact V1Rep.step (p := .pbox x) h hA hβ t
  | top => exact V1Rep.step (p := .top) h hA hβ t
  | ub => exact V1Rep.step (p := .ub) h hA hβ t
  | agg x => exact V1Rep.step (p := .agg x) h hA hβ t

theorem WStep.refl (A : Nat → Prop) (w : World) : WStep A w w := ⟨Nat.le_refl _, fun _ _ _ => rfl, fun _ _ => Nat.le_refl _⟩

theorem RdT.weak (hA : ∀ b, b < w.heap.size → A' b → A b) {a : Addr} {cells : List PV} (t : RdT w A a cells) : RdT w A' a cells := by
  intro j c hj
  obtain ⟨v, hv, h1, ht⟩ := t j c hj
  exact ⟨v, hv, h1, ht.step (WStep.refl A w) hA⟩

theorem WStep.trans {w'' : World} (h : WStep A w w') (h' : WStep A' w' w'') (hA : ∀ b, b < w.heap.size → A' b → A b) : WStep A w w'' :=
  ⟨Nat.le_trans h.size h'.size, fun b hb hn => (h'.keep b (Nat.lt_of_lt_of_le hb h.size) (fun x => hn (hA b hb x))).trans (h.keep b hb hn),
   fun b hb => Nat.le_trans (h.bs b hb) (h'.bs b (Nat.lt_of_lt_of_le hb h.size))⟩

theorem WStep.weaken (h : WStep A w w') (hA : ∀ b, b < w.heap.size → A b → A' b) : WStep A' w w' := ⟨h.size, fun b hb hn => h.keep b hb (fun x => hn (hA b hb x)), h.bs⟩
end

end Go.Proofs.Ytoihfmiifeegpaa.Pv
