/-
  A pure interpreter of the model's code and its soundness, part 2 (texts PvS1 PvS2 PvS3 PvS4 PvS5 PvS6 PvS7 PvS8 PvS9 PvS10 PvS11 PvS12 PvS13 PvS14).
-/
import Derived.Test.YtaphhfehcbkfkaaPvX1
import Derived.WalkKit
import Derived.WalkLawsBesides
import Derived.Laws.IdiomStrings
import Derived.Laws.MakeOwn
import Derived.Laws.Tables
set_option linter.unusedSimpArgs false
set_option linter.unusedVariables false
namespace Go.Proofs.Ytaphhfehcbkfkaa.Pv
open Go.RowKit

def All2 {α β : Type} (R : α → β → Prop) : List α → List β → Prop
  | [], [] => True
  | a :: as, b :: bs => R a b ∧ All2 R as bs
  | _, _ => False

section
variable {α β γ : Type} {R S : α → β → Prop}
theorem All2.len : ∀ {as : List α} {bs : List β}, All2 R as bs → as.length = bs.length
  | [], [], _ => rfl
  | _ :: _, _ :: _, h => by simp [All2.len h.2]
  | [], _ :: _, h => h.elim
  | _ :: _, [], h => h.elim
theorem All2.at_ : ∀ {as : List α} {bs : List β}, All2 R as bs → ∀ {i : Nat} {a b}, as[i]? = some a → bs[i]? = some b → R a b
  | [], [], _, i, a, b, h, _ => by simp at h
  | _ :: _, _ :: _, h, 0, a, b, ha, hb => by simp at ha hb; subst ha; subst hb; exact h.1
  | _ :: _, _ :: _, h, i + 1, a, b, ha, hb => by simp at ha hb; exact All2.at_ h.2 ha hb
  | [], _ :: _, h, _, _, _, _, _ => h.elim
  | _ :: _, [], h, _, _, _, _, _ => h.elim
theorem All2.of_at : ∀ {as : List α} {bs : List β}, as.length = bs.length → (∀ (i : Nat) a b, as[i]? = some a → bs[i]? = some b → R a b) → All2 R as bs
  | [], [], _, _ => trivial
  | a :: as, b :: bs, hl, h => ⟨h 0 a b rfl rfl, All2.of_at (by simpa using hl) fun i x y hx hy => h (i + 1) x y hx hy⟩
  | [], _ :: _, hl, _ => by simp at hl
  | _ :: _, [], hl, _ => by simp at hl
theorem All2.mono (hRS : ∀ a b, R a b → S a b) : ∀ {as : List α} {bs : List β}, All2 R as bs → All2 S as bs
  | [], [], _ => trivial
  | _ :: _, _ :: _, h => ⟨hRS _ _ h.1, All2.mono hRS h.2⟩
  | [], _ :: _, h => h.elim
  | _ :: _, [], h => h.elim
theorem All2.mono_mem : ∀ {as : List α} {bs : List β}, (∀ a ∈ as, ∀ b, R a b → S a b) → All2 R as bs → All2 S as bs
  | [], [], _, _ => trivial
  | a :: _, _ :: _, hRS, h => ⟨hRS a (by simp) _ h.1, All2.mono_mem (fun x hx => hRS x (by simp [hx])) h.2⟩
  | [], _ :: _, _, h => h.elim
  | _ :: _, [], _, h => h.elim
theorem All2.app : ∀ {as : List α} {bs : List β} {as' : List α} {bs' : List β}, All2 R as bs → All2 R as' bs' → All2 R (as ++ as') (bs ++ bs')
  | [], [], _, _, _, h' => h'
  | _ :: _, _ :: _, _, _, h, h' => ⟨h.1, All2.app h.2 h'⟩
  | [], _ :: _, _, _, h, _ => h.elim
  | _ :: _, [], _, _, h, _ => h.elim
theorem All2.take : ∀ (n : Nat) {as : List α} {bs : List β}, All2 R as bs → All2 R (as.take n) (bs.take n)
  | 0, _, _, _ => by simp [All2]
  | _ + 1, [], [], _ => trivial
  | n + 1, _ :: _, _ :: _, h => ⟨h.1, All2.take n h.2⟩
  | _ + 1, [], _ :: _, h => h.elim
  | _ + 1, _ :: _, [], h => h.elim
theorem All2.drop : ∀ (n : Nat) {as : List α} {bs : List β}, All2 R as bs → All2 R (as.drop n) (bs.drop n)
  | 0, _, _, h => h
  | _ + 1, [], [], _ => trivial
  | n + 1, _ :: _, _ :: _, h => All2.drop n h.2
  | _ + 1, [], _ :: _, h => h.elim
  | _ + 1, _ :: _, [], h => h.elim
end

/-- Trees. 'A': blocks that a tree may not lie in. -/
inductive TRep (w : World) (A : Nat → Prop) : PV → Value → Prop where
  | sc (v : Value) : TRep w A (.sc v) v
  | top (v : Value) : TRep w A .top v
  | ub (b : Bool) : TRep w A .ub (.bool b)
  | lnil (z : Bool) (es : Nat) : TRep w A (.lst z es 0 []) (.slice none 0 0)
  | lemp (es : Nat) (a : Addr) (cap : Nat) : TRep w A (.lst false es 0 []) (.slice (some a) 0 cap)
  | lst (es n : Nat) (cells : List PV) (a : Addr) (cap : Nat) (f : Nat → Value) (hs : a.spot = none) (hb : a.block < w.heap.size) (hA : ¬ A a.block) (hn : n ≤ cap)
      (hc : ∀ j c, cells[j]? = some c → w.cell? (a.add j) = some (f j)) (h1 : ∀ j c, cells[j]? = some c → (f j).oneCell' = true) (hr : ∀ j c, cells[j]? = some c → TRep w A c (f j)) : TRep w A (.lst false es n cells) (.slice (some a) n cap)

/-- How many cells a block has. -/
def bsz (w : World) (b : Nat) : Nat :=
  match w.heap[b]? with
  | some (.cells c _ _) => c.size
  | _ => 0

/-- Cells that lie somewhere and are trees. -/
def RdT (w : World) (A : Nat → Prop) (a : Addr) (cells : List PV) : Prop := ∀ j c, cells[j]? = some c → ∃ v, w.cell? (a.add j) = some v ∧ v.oneCell' = true ∧ TRep w A c v

/-- A cell of a frame. -/
def CRep (w : World) (A : Nat → Prop) (β : Nat → Option (Nat × Nat)) (p : PV) (v : Value) : Prop :=
  match p with
  | .view id es off n => (β id = none ∧ off = 0 ∧ n = 0 ∧ v = .slice none 0 0) ∨
      ∃ b o x cap, β id = some (b, o) ∧ v = .slice (some ⟨b, x, none⟩) n cap ∧ (x = o + off ∨ (n = 0 ∧ off ≠ 0)) ∧ n ≤ cap ∧ x + cap * es ≤ bsz w b ∧ b < w.heap.size
  | .ptr id off => ∃ b o, β id = some (b, o) ∧ v = .pointer (some ⟨b, o + off, none⟩)
  | .iptr c off => ∃ a : Addr, v = .pointer (some (a.add off)) ∧ a.spot = none ∧ a.block < w.heap.size ∧ ¬ A a.block ∧ RdT w A a c
  | p => TRep w A p v

def V1Rep (w : World) (A : Nat → Prop) (β : Nat → Option (Nat × Nat)) (p : PV) (v : Value) : Prop :=
  match p with
  | .agg cs => ∃ vs, v = .agg ⟨vs⟩ ∧ All2 (CRep w A β) cs vs
  | p => CRep w A β p v

def VRep (w : World) (A : Nat → Prop) (β : Nat → Option (Nat × Nat)) (p : PV) (v : Value) : Prop :=
  match p with
  | .tup ps => ∃ vs, v = .tuple ⟨vs⟩ ∧ All2 (V1Rep w A β) ps vs
  | p => V1Rep w A β p v

/-- A step of the world: what is not in 'A' stays. -/
structure WStep (A : Nat → Prop) (w w' : World) : Prop where
  size : w.heap.size ≤ w'.heap.size
  keep : ∀ b, b < w.heap.size → ¬ A b → w'.heap[b]? = w.heap[b]?
  bs : ∀ b, b < w.heap.size → bsz w b ≤ bsz w' b

theorem add_block (a : Addr) (j : Nat) : (a.add j).block = a.block := by unfold Addr.add; split <;> rfl

theorem add_add (a : Addr) (i j : Nat) : (a.add i).add j = a.add (i + j) := by
  unfold Addr.add
  by_cases hi : i = 0 <;> by_cases hj : j = 0 <;> simp [hi, hj, Nat.add_assoc]

theorem add_mk (b o j : Nat) : (⟨b, o, none⟩ : Addr).add j = ⟨b, o + j, none⟩ := by
  unfold Addr.add
  by_cases hj : j = 0 <;> simp [hj]

theorem add_spot {a : Addr} (h : a.spot = none) (j : Nat) : (a.add j).spot = none := by unfold Addr.add; split <;> simp [h]

section
variable {w w' : World} {A A' : Nat → Prop} {β β' : Nat → Option (Nat × Nat)}

theorem WStep.cell (h : WStep A w w') {a : Addr} (hb : a.block < w.heap.size) (hA : ¬ A a.block) : w'.cell? a = w.cell? a :=
  World.cell?_of_block (h.keep a.block hb hA)

theorem TRep.step (h : WStep A w w') (hA : ∀ b, b < w.heap.size → A' b → A b) {p : PV} {v : Value} (t : TRep w A p v) : TRep w' A' p v := by
  induction t with
  | sc v => exact .sc v
  | top v => exact .top v
  | ub b => exact .ub b
  | lnil z es => exact .lnil z es
  | lemp es a cap => exact .lemp es a cap
  | lst es n cells a cap f hs hb hA1 hn hc h1 hr ih =>
    refine .lst es n cells a cap f hs (Nat.lt_of_lt_of_le hb h.size) (fun x => hA1 (hA _ hb x)) hn (fun j c hj => ?_) h1 (fun j c hj => ih j c hj)
    rw [h.cell (by rw [add_block]; exact hb) (by rw [add_block]; exact hA1)]
    exact hc j c hj

theorem RdT.step (h : WStep A w w') (hA : ∀ b, b < w.heap.size → A' b → A b) {a : Addr} (hb : a.block < w.heap.size) (hn : ¬ A a.block) {cells : List PV} (t : RdT w A a cells) : RdT w' A' a cells := by
  intro j c hj
  obtain ⟨v, hv, h1, ht⟩ := t j c hj
  exact ⟨v, by rw [h.cell (by rw [add_block]; exact hb) (by rw [add_block]; exact hn)]; exact hv, h1, ht.step h hA⟩

theorem CRep.step (h : WStep A w w') (hA : ∀ b, b < w.heap.size → A' b → A b) {p : PV} {v : Value} (hβ : ∀ id ∈ refsC p, β' id = β id) (t : CRep w A β p v) : CRep w' A' β' p v := by
  cases p with
  | view id es off n =>
    have e := hβ id (by simp [refsC])
    rcases t with ⟨h1, h2, h3, h4⟩ | ⟨b, o, x, cap, h1, h2, hx, h3, h4, h5⟩
    · exact .inl ⟨by rw [e]; exact h1, h2, h3, h4⟩
    · exact .inr ⟨b, o, x, cap, by rw [e]; exact h1, h2, hx, h3, Nat.le_trans h4 (h.bs b h5), Nat.lt_of_lt_of_le h5 h.size⟩
  | ptr id off =>
    have e := hβ id (by simp [refsC])
    obtain ⟨b, o, h1, h2⟩ := t
    exact ⟨b, o, by rw [e]; exact h1, h2⟩
  | iptr c off =>
    obtain ⟨a, h1, h2, h3, h4, h5⟩ := t
    exact ⟨a, h1, h2, Nat.lt_of_lt_of_le h3 h.size, fun x => h4 (hA _ h3 x), h5.step h hA h3 h4⟩
  | sc v => exact TRep.step h hA t
  | lst z es n c => exact TRep.step h hA t
  | own es n c => exact TRep.step h hA t
  | pbox c => exact TRep.step h hA t
  | agg c => exact TRep.step h hA t
  | tup c => exact TRep.step h hA t
  | top => exact TRep.step h hA t
  | ub => exact TRep.step h hA t

theorem V1Rep.step (h : WStep A w w') (hA : ∀ b, b < w.heap.size → A' b → A b) {p : PV} {v : Value} (hβ : ∀ id ∈ refs1 p, β' id = β id) (t : V1Rep w A β p v) : V1Rep w' A' β' p v := by
  cases p with
  | agg cs =>
    obtain ⟨vs, rfl, h2⟩ := t
    exact ⟨vs, rfl, h2.mono_mem fun c hc v hv => hv.step h hA fun id hid => hβ id (by simp only [refs1, List.mem_flatMap]; exact ⟨c, hc, hid⟩)⟩
  | sc x => exact CRep.step (p := .sc x) h hA hβ t
  | lst x y z u => exact CRep.step (p := .lst x y z u) h hA hβ t
  | own x y z => exact CRep.step (p := .own x y z) h hA hβ t
  | view x y z u => exact CRep.step (p := .view x y z u) h hA hβ t
  | ptr x y => exact CRep.step (p := .ptr x y) h hA hβ t
  | iptr x y => exact CRep.step (p := .iptr x y) h hA hβ t
  | pbox x => exact CRep.step (p := .pbox x) h hA hβ t
  | tup x => exact CRep.step (p := .tup x) h hA hβ t
  | top => exact CRep.step (p := .top) h hA hβ t
  | ub => exact CRep.step (p := .ub) h hA hβ t

theorem VRep.step (h : WStep A w w') (hA : ∀ b, b < w.heap.size → A' b → A b) {p : PV} {v : Value} (hβ : ∀ id ∈ refs p, β' id = β id) (t : VRep w A β p v) : VRep w' A' β' p v := by
  cases p with
  | tup cs =>
    obtain ⟨vs, rfl, h2⟩ := t
    exact ⟨vs, rfl, h2.mono_mem fun c hc v hv => hv.step h hA fun id hid => hβ id (by simp only [refs, List.mem_flatMap]; exact ⟨c, hc, hid⟩)⟩
  | sc x => exact V1Rep.step (p := .sc x) h hA hβ t
  | lst x y z u => exact V1Rep.step (p := .lst x y z u) h hA hβ t
  | own x y z => exact V1Rep.step (p := .own x y z) h hA hβ t
  | view x y z u => exact V1Rep.step (p := .view x y z u) h hA hβ t
  | ptr x y => exact V1Rep.step (p := .ptr x y) h hA hβ t
  | iptr x y => exact V1Rep.step (p := .iptr x y) h hA hβ t
  | pbox x => exact V1Rep.step (p := .pbox x) h hA hβ t
  | top => exact V1Rep.step (p := .top) h hA hβ t
  | ub => exact V1Rep.step (p := .ub) h hA hβ t
  | agg x => exact V1Rep.step (p := .agg x) h hA hβ t

theorem WStep.refl (A : Nat → Prop) (w : World) : WStep A w w := ⟨Nat.le_refl _, fun _ _ _ => rfl, fun _ _ => Nat.le_refl _⟩

theorem RdT.weak (hA : ∀ b, b < w.heap.size → A' b → A b) {a : Addr} {cells : List PV} (t : RdT w A a cells) : RdT w A' a cells := by
  intro j c hj
  obtain ⟨v, hv, h1, ht⟩ := t j c hj
  exact ⟨v, hv, h1, ht.step (WStep.refl A w) hA⟩

theorem WStep.trans {w'' : World} (h : WStep A w w') (h' : WStep A' w' w'') (hA : ∀ b, b < w.heap.size → A' b → A b) : WStep A w w'' :=
  ⟨Nat.le_trans h.size h'.size, fun b hb hn => (h'.keep b (Nat.lt_of_lt_of_le hb h.size) (fun x => hn (hA b hb x))).trans (h.keep b hb hn),
   fun b hb => Nat.le_trans (h.bs b hb) (h'.bs b (Nat.lt_of_lt_of_le hb h.size))⟩

theorem WStep.weaken (h : WStep A w w') (hA : ∀ b, b < w.heap.size → A b → A' b) : WStep A' w w' := ⟨h.size, fun b hb hn => h.keep b hb (fun x => hn (hA b hb x)), h.bs⟩
end

end Go.Proofs.Ytaphhfehcbkfkaa.Pv

namespace Go.Proofs.Ytaphhfehcbkfkaa.Pv

section
variable {R : Type} {r : R}

theorem intK_inv {k : IntKind} {p : PV} {K : Int → Option R} (h : intK k p K = some r) : ∃ n, p = .sc (.int k n) ∧ K n = some r := by
  unfold intK at h
  split at h
  · split at h
    · rename_i hk; subst hk; exact ⟨_, rfl, h⟩
    · cases h
  · cases h
theorem boolK_inv {p : PV} {K : Bool → Option R} (h : boolK p K = some r) : ∃ b, p = .sc (.bool b) ∧ K b = some r := by
  unfold boolK at h
  split at h
  · exact ⟨_, rfl, h⟩
  · cases h
theorem strK_inv {p : PV} {K : ByteArray → Option R} (h : strK p K = some r) : ∃ b, p = .sc (.string b) ∧ K b = some r := by
  unfold strK at h
  split at h
  · exact ⟨_, rfl, h⟩
  · cases h
theorem anyIntK_inv {p : PV} {K : IntKind → Int → Option R} (h : anyIntK p K = some r) : ∃ k n, p = .sc (.int k n) ∧ K k n = some r := by
  unfold anyIntK at h
  split at h
  · exact ⟨_, _, rfl, h⟩
  · cases h
theorem chk_inv {b : Bool} {K : Option R} (h : chk b K = some r) : b = true ∧ K = some r := by
  unfold chk at h
  cases b
  · cases h
  · exact ⟨rfl, h⟩
theorem optK_inv {α : Type} {o : Option α} {K : α → Option R} (h : optK o K = some r) : ∃ a, o = some a ∧ K a = some r := by
  unfold optK at h
  split at h
  · exact ⟨_, rfl, h⟩
  · cases h
theorem consK_inv {α : Type} {l : List α} {K : α → List α → Option R} (h : consK l K = some r) : ∃ a t, l = a :: t ∧ K a t = some r := by
  unfold consK at h
  split at h
  · exact ⟨_, _, rfl, h⟩
  · cases h
theorem nilK_inv {α : Type} {l : List α} {K : Option R} (h : nilK l K = some r) : l = [] ∧ K = some r := by
  unfold nilK at h
  split at h
  · exact ⟨rfl, h⟩
  · cases h
theorem aggK_inv {p : PV} {K : List PV → Option R} (h : aggK p K = some r) : ∃ c, p = .agg c ∧ K c = some r := by
  unfold aggK at h
  split at h
  · exact ⟨_, rfl, h⟩
  · cases h
theorem pboxK_inv {p : PV} {K : List PV → Option R} (h : pboxK p K = some r) : ∃ c, p = .pbox c ∧ K c = some r := by
  unfold pboxK at h
  split at h
  · exact ⟨_, rfl, h⟩
  · cases h
theorem fnK_inv {p : PV} {K : Value → Option R} (h : fnK p K = some r) : ∃ f a b, p = .sc (.func f a b) ∧ K (.func f a b) = some r := by
  unfold fnK at h
  split at h
  · exact ⟨_, _, _, rfl, h⟩
  · cases h
theorem fvK_inv {p : PV} {K : FuncId → Option R} (h : fvK p K = some r) : ∃ f, p = .sc (.func (.func f) #[] #[]) ∧ K f = some r := by
  unfold fvK at h
  split at h
  · rename_i f a b
    cases hb : (a.isEmpty && b.isEmpty) <;> rw [hb] at h
    · cases h
    · simp only [Bool.and_eq_true, Array.isEmpty_iff] at hb
      rw [hb.1, hb.2]
      exact ⟨f, rfl, h⟩
  · cases h
theorem callK_inv {o : Option Res} {K : List PV → List (List PV) → Option R} (h : callK o K = some r) : ∃ v x, o = some ⟨v, x⟩ ∧ K v x = some r := by
  unfold callK at h
  split at h
  · exact ⟨_, _, rfl, h⟩
  · cases h
theorem brK_inv {b : Bool} {x y : Option R} (h : brK b x y = some r) : (b = true ∧ x = some r) ∨ (b = false ∧ y = some r) := by
  unfold brK at h
  cases b
  · exact .inr ⟨rfl, h⟩
  · exact .inl ⟨rfl, h⟩
theorem lsK_inv {es : Nat} {p : PV} {K : Bool → Nat → List PV → Option R} (h : lsK es p K = some r) :
    ∃ z n c, K z n c = some r ∧ (p = .lst z es n c ∨ (p = .sc (.slice none 0 0) ∧ z = true ∧ n = 0 ∧ c = [])) := by
  unfold lsK at h
  split at h
  · rename_i z es' n c
    cases hb : Nat.beq es' es
    · rw [hb] at h; cases h
    · rw [hb] at h
      have := Nat.eq_of_beq_eq_true hb
      subst this
      exact ⟨z, n, c, h, .inl rfl⟩
  · exact ⟨true, 0, [], h, .inr ⟨rfl, rfl, rfl, rfl⟩⟩
  · cases h

/-- A scalar or a list. -/
def isT : PV → Prop
  | .sc _ => True
  | .lst _ _ _ _ => True
  | _ => False

/-- A scalar, a list or a view. -/
def isF : PV → Prop
  | .sc _ => True
  | .lst _ _ _ _ => True
  | .view _ _ _ _ => True
  | _ => False

theorem isF_isT {c : PV} (h : isT c) : isF c := by
  cases c <;> first | trivial | exact h.elim

theorem refsC_isT {c : PV} (h : isT c) : refsC c = [] := by
  cases c <;> first | rfl | exact h.elim

variable {w : World} {A : Nat → Prop} {β : Nat → Option (Nat × Nat)}

theorem CRep_isT {c : PV} {v : Value} (h : isT c) : CRep w A β c v ↔ TRep w A c v := by
  cases c <;> first | exact Iff.rfl | exact h.elim

theorem V1Rep_C {c : PV} {v : Value} (h : ∀ cs, c ≠ .agg cs) : V1Rep w A β c v ↔ CRep w A β c v := by
  cases c <;> first | exact Iff.rfl | exact absurd rfl (h _)

theorem VRep_V1 {c : PV} {v : Value} (h : ∀ cs, c ≠ .tup cs) : VRep w A β c v ↔ V1Rep w A β c v := by
  cases c <;> first | exact Iff.rfl | exact absurd rfl (h _)

theorem isT_agg {c : PV} (h : isT c) (cs : List PV) : c ≠ .agg cs := by rintro rfl; exact h
theorem isT_tup {c : PV} (h : isT c) (cs : List PV) : c ≠ .tup cs := by rintro rfl; exact h

theorem TRep.val {v u : Value} (h : TRep w A (.sc v) u) : u = v := by cases h; rfl

theorem ls_rep {es n : Nat} {z : Bool} {c : List PV} {p : PV} {v : Value} (h : p = .lst z es n c ∨ (p = .sc (.slice none 0 0) ∧ z = true ∧ n = 0 ∧ c = [])) (hv : CRep w A β p v) : TRep w A (.lst z es n c) v := by
  rcases h with rfl | ⟨rfl, rfl, rfl, rfl⟩
  · exact hv
  · have := TRep.val (w := w) (A := A) hv
    subst this
    exact .lnil true es

theorem tcK_inv {t : CT} {p : PV} {K : PV → Option R} (h : tcK t p K = some r) :
    ∃ c, K c = some r ∧ isT c ∧ isT p ∧ ∀ (w : World) (A : Nat → Prop) (β : Nat → Option (Nat × Nat)) (v : Value), CRep w A β p v → TRep w A c v ∧ v.oneCell' = true := by
  cases t with
  | int k => obtain ⟨n, rfl, h2⟩ := intK_inv h; exact ⟨_, h2, trivial, trivial, fun w A β v hv => ⟨hv, by have := TRep.val (w := w) (A := A) hv; subst this; rfl⟩⟩
  | bool => obtain ⟨n, rfl, h⟩ := boolK_inv h; exact ⟨_, h, trivial, trivial, fun w A β v hv => ⟨hv, by have := TRep.val (w := w) (A := A) hv; subst this; rfl⟩⟩
  | str => obtain ⟨n, rfl, h⟩ := strK_inv h; exact ⟨_, h, trivial, trivial, fun w A β v hv => ⟨hv, by have := TRep.val (w := w) (A := A) hv; subst this; rfl⟩⟩
  | sl es =>
    obtain ⟨z, n, c, h, hp⟩ := lsK_inv h
    refine ⟨_, h, trivial, ?_, fun w A β v hv => ⟨ls_rep hp hv, ?_⟩⟩
    · rcases hp with rfl | ⟨rfl, _⟩ <;> trivial
    · have ht := ls_rep hp hv
      cases ht <;> rfl
  | any =>
    obtain ⟨f, a, b, rfl, h2⟩ := fnK_inv (show fnK p (fun v => K (.sc v)) = some r from h)
    exact ⟨_, h2, trivial, trivial, fun w A β v hv => ⟨hv, by have := TRep.val (w := w) (A := A) hv; subst this; rfl⟩⟩

theorem fcK_inv {t : CT} {p : PV} {K : PV → Option R} (h : fcK t p K = some r) :
    ∃ c, K c = some r ∧ (isT c ∨ c = p) ∧ isF p ∧ p ≠ .top ∧ (∀ cs, c ≠ .agg cs) ∧ (∀ cs, c ≠ .tup cs) ∧ (∀ id, id ∈ refsC c → id ∈ refsC p) ∧ ∀ (w : World) (A : Nat → Prop) (β : Nat → Option (Nat × Nat)) (v : Value), CRep w A β p v → CRep w A β c v ∧ v.oneCell' = true := by
  have tree : ∀ t', tcK t' p K = some r → ∃ c, K c = some r ∧ (isT c ∨ c = p) ∧ isF p ∧ p ≠ .top ∧ (∀ cs, c ≠ .agg cs) ∧ (∀ cs, c ≠ .tup cs) ∧ (∀ id, id ∈ refsC c → id ∈ refsC p) ∧ ∀ (w : World) (A : Nat → Prop) (β : Nat → Option (Nat × Nat)) (v : Value), CRep w A β p v → CRep w A β c v ∧ v.oneCell' = true := by
    intro t' h
    obtain ⟨c, h, hc, hp, hv⟩ := tcK_inv h
    exact ⟨c, h, .inl hc, isF_isT hp, by rintro rfl; exact hp, isT_agg hc, isT_tup hc, by rw [refsC_isT hc]; simp, fun w A β v h => ⟨(CRep_isT hc).2 (hv w A β v h).1, (hv w A β v h).2⟩⟩
  cases t with
  | sl es =>
    unfold fcK fsK at h
    dsimp only at h
    split at h
    · rename_i id es' off n
      cases hb : Nat.beq es' es
      · rw [hb] at h; cases h
      · rw [hb] at h
        have := Nat.eq_of_beq_eq_true hb
        subst this
        exact ⟨_, h, .inr rfl, trivial, by simp, by simp, by simp, fun _ h => h, fun _ _ _ _ h => ⟨h, by rcases h with ⟨_, _, _, rfl⟩ | ⟨_, _, _, _, _, rfl, _⟩ <;> rfl⟩⟩
    · exact tree (.sl es) h
  | int k => exact tree (.int k) h
  | bool => exact tree (.bool) h
  | str => exact tree (.str) h
  | any => exact tree (.any) h

theorem getD_ne_top {cells : List PV} {i : Nat} {p : PV} (h : cells.getD i .top = p) (hp : p ≠ .top) : cells[i]? = some p := by
  rw [List.getD_eq_getElem?_getD] at h
  cases hc : cells[i]? with
  | none => rw [hc] at h; exact absurd h.symm hp
  | some q => rw [hc] at h; simp at h; rw [h]

theorem tcsK_inv : ∀ {ts : List CT} {cells : List PV} {off : Nat} {K : List PV → Option R}, tcsK ts cells off K = some r →
    ∃ cs, K cs = some r ∧ cs.length = ts.length ∧ ∀ j c, cs[j]? = some c → isT c ∧ ∃ p, cells[off + j]? = some p ∧ isT p ∧
      ∀ (w : World) (A : Nat → Prop) (β : Nat → Option (Nat × Nat)) (v : Value), CRep w A β p v → TRep w A c v ∧ v.oneCell' = true
  | [], _, _, _, h => ⟨[], h, rfl, fun j c hj => by simp at hj⟩
  | t :: ts, cells, off, K, h => by
    unfold tcsK at h
    obtain ⟨c, h, hc, hp, hv⟩ := tcK_inv h
    obtain ⟨cs, h, hl, hcs⟩ := tcsK_inv h
    refine ⟨c :: cs, h, by simp [hl], fun j c' hj => ?_⟩
    cases j with
    | zero =>
      simp at hj; subst hj
      refine ⟨hc, cells.getD off .top, getD_ne_top rfl ?_, hp, hv⟩
      intro e
      rw [e] at hp
      exact hp
    | succ j =>
      simp at hj
      have := hcs j c' hj
      rwa [Nat.add_right_comm, Nat.add_assoc] at this

theorem fcsK_inv : ∀ {ts : List CT} {cells : List PV} {off : Nat} {K : List PV → Option R}, fcsK ts cells off K = some r →
    ∃ cs, K cs = some r ∧ cs.length = ts.length ∧ (∀ c ∈ cs, (∀ x, c ≠ .agg x) ∧ (∀ x, c ≠ .tup x)) ∧ ∀ j c, cs[j]? = some c → ∃ p, cells[off + j]? = some p ∧ isF p ∧ (∀ id, id ∈ refsC c → id ∈ refsC p) ∧
      ∀ (w : World) (A : Nat → Prop) (β : Nat → Option (Nat × Nat)) (v : Value), CRep w A β p v → CRep w A β c v ∧ v.oneCell' = true
  | [], _, _, _, h => ⟨[], h, rfl, by simp, fun j c hj => by simp at hj⟩
  | t :: ts, cells, off, K, h => by
    unfold fcsK at h
    obtain ⟨c, h, hc, hf, hp, ha, ht, hr, hv⟩ := fcK_inv h
    obtain ⟨cs, h, hl, hna, hcs⟩ := fcsK_inv h
    refine ⟨c :: cs, h, by simp [hl], ?_, fun j c' hj => ?_⟩
    · intro x hx
      rcases List.mem_cons.1 hx with rfl | hx
      · exact ⟨ha, ht⟩
      · exact hna x hx
    · cases j with
      | zero =>
        simp at hj; subst hj
        exact ⟨cells.getD off .top, getD_ne_top rfl hp, hf, hr, hv⟩
      | succ j =>
        simp at hj
        have := hcs j c' hj
        rwa [Nat.add_right_comm, Nat.add_assoc] at this

theorem mkV_inv {agg : Bool} {cells : List PV} {K : PV → Option R} (h : mkV agg cells K = some r) :
    (agg = true ∧ K (.agg cells) = some r) ∨ (agg = false ∧ ∃ c, cells = [c] ∧ K c = some r) := by
  unfold mkV at h
  cases agg
  · obtain ⟨c, t, rfl, h⟩ := consK_inv h
    obtain ⟨rfl, h⟩ := nilK_inv h
    exact .inr ⟨rfl, c, rfl, h⟩
  · exact .inl ⟨rfl, h⟩
end

end Go.Proofs.Ytaphhfehcbkfkaa.Pv

namespace Go.Proofs.Ytaphhfehcbkfkaa.Pv
open Go.RowKit

def liveB (b : Option Box) : Prop :=
  match b with
  | some (.st _) => True
  | some (.ar false _) => True
  | _ => False

abbrev Bt := Nat → Option (Nat × Nat)

def Xof (hp : Nat → Option Box) (β : Bt) (b : Nat) : Prop := ∃ id o, liveB (hp id) ∧ β id = some (b, o)
def Aof (hp : Nat → Option Box) (β : Bt) (Y : Nat → Prop) (b : Nat) : Prop := Xof hp β b ∨ Y b

def BRep (w : World) (A : Nat → Prop) (β : Bt) (id : Nat) (bx : Box) : Prop :=
  match bx with
  | .st cells => ∃ b o, β id = some (b, o) ∧ (∀ j c, cells[j]? = some c → ∃ v, w.cell? ⟨b, o + j, none⟩ = some v ∧ CRep w A β c v) ∧ ∀ j, j < cells.length → w.frozen? ⟨b, o + j, none⟩ = false
  | .ar fz cells => (β id = none ∧ cells = []) ∨ ∃ b o, β id = some (b, o) ∧ RdT w A ⟨b, o, none⟩ cells ∧ (fz = false → ∀ j, o ≤ j → j < bsz w b → w.frozen? ⟨b, j, none⟩ = false) ∧ (fz = true → ¬ A b)
  | .mv => True

/-- What a function may change: the blocks, and in them the cells; where what was lent lies. -/
structure Lend where
  X : Nat → Prop
  L : Nat → Nat → Prop
  pn : Nat → Prop
  pt : Nat → Option (Nat × Nat)
  p8 : ∀ i, pn i → i < 8

/-- The places of a box that lies at o. -/
def BR (bx : Box) (o j : Nat) : Prop :=
  match bx with
  | .st c => o ≤ j ∧ j < o + c.length
  | .ar _ _ => o ≤ j
  | .mv => False

structure Fr (X0 : Lend) (w0 w : World) : Prop where
  os : w.os = w0.os
  tape : w.tape = w0.tape
  output : w.output = w0.output
  step : WStep X0.X w0 w
  rng : ∀ b j, b < w0.heap.size → ¬ X0.L b j → w.cell? ⟨b, j, none⟩ = w0.cell? ⟨b, j, none⟩ ∧ w.frozen? ⟨b, j, none⟩ = w0.frozen? ⟨b, j, none⟩

structure Sim (N : Nat) (w0 : World) (X0 : Lend) (Y : Nat → Prop) (β : Bt) (s : St) (a : Act) (w : World) : Prop where
  dfr : a.defers = []
  tsz : a.tmps.size = N
  tmo : ∀ i, N ≤ i → s.tm i = .top
  tms : ∀ i, i < N → VRep w (Aof s.hp β Y) β (s.tm i) (a.tmps.getD i undef)
  box : ∀ id b, s.hp id = some b → BRep w (Aof s.hp β Y) β id b
  inj : ∀ id id' b o o', liveB (s.hp id) → liveB (s.hp id') → β id = some (b, o) → β id' = some (b, o') → id = id'
  blt : ∀ id b o, s.hp id ≠ none → β id = some (b, o) → b < w.heap.size
  wfT : ∀ i, i < N → ∀ id ∈ refs (s.tm i), s.hp id ≠ none
  wfB : ∀ id cells, s.hp id = some (.st cells) → ∀ c ∈ cells, ∀ id' ∈ refsC c, s.hp id' ≠ none
  ownd : ∀ b, Xof s.hp β b → X0.X b ∨ w0.heap.size ≤ b
  rngB : ∀ id bx b o, s.hp id = some bx → liveB (some bx) → β id = some (b, o) → b < w0.heap.size → ∀ j, BR bx o j → X0.L b j
  pin : ∀ i, X0.pn i → s.hp (pinId N i) ≠ none ∧ β (pinId N i) = X0.pt i
  stp : ∀ id c b o, s.hp id = some (.st c) → β id = some (b, o) → b < w0.heap.size → ∃ i, id = pinId N i ∧ X0.pn i
  Yx : ∀ b, Y b → ¬ Xof s.hp β b
  Ylt : ∀ b, Y b → b < w0.heap.size
  fr : Fr X0 w0 w

theorem liveB_some {b : Option Box} (h : liveB b) : b ≠ none := by rintro rfl; exact h

theorem upd_same {α : Type} (f : Nat → α) (i : Nat) (v : α) : upd f i v i = v := by simp [upd, Nat.beq_refl]
theorem upd_other {α : Type} (f : Nat → α) {i j : Nat} (v : α) (h : j ≠ i) : upd f i v j = f j := by
  have : Nat.beq j i = false := by
    cases hb : Nat.beq j i
    · rfl
    · exact absurd (Nat.eq_of_beq_eq_true hb) h
  simp [upd, this]
theorem upd_self {α : Type} (f : Nat → α) {i : Nat} {v : α} (h : f i = v) : upd f i v = f := by
  funext j
  by_cases e : j = i
  · subst e; rw [upd_same]; exact h.symm
  · exact upd_other f v e
theorem upd_comm {α : Type} (f : Nat → α) {i j : Nat} (u v : α) (h : i ≠ j) : upd (upd f i u) j v = upd (upd f j v) i u := by
  funext k
  by_cases e : k = j
  · subst e; rw [upd_same, upd_other _ _ (Ne.symm h), upd_same]
  · rw [upd_other _ _ e]
    by_cases e' : k = i
    · subst e'; rw [upd_same, upd_same]
    · rw [upd_other _ _ e', upd_other _ _ e', upd_other _ _ e]

theorem getD_put_same {a : Act} {d : Nat} {v : Value} (h : d < a.tmps.size) : (a.put (some d) v).tmps.getD d undef = v := by
  simp [Act.put, h]
theorem getD_put_other {a : Act} {d i : Nat} {v : Value} (h : i ≠ d) : (a.put (some d) v).tmps.getD i undef = a.tmps.getD i undef := by
  have h' : d ≠ i := fun e => h e.symm
  simp [Act.put, Array.getElem?_setIfInBounds_ne h']

section
variable {N : Nat} {w0 : World} {X0 : Lend} {Y : Nat → Prop} {β β' : Bt} {s : St} {a : Act} {w w' : World}

theorem put_size (d : Option Tmp) (v : Value) : (a.put d v).tmps.size = a.tmps.size := by cases d <;> simp [Act.put]
theorem put_defers (d : Option Tmp) (v : Value) : (a.put d v).defers = a.defers := by cases d <;> rfl

theorem dstOk_lt {d : Option Tmp} (h : dstOk N d = true) {i : Nat} (e : d = some i) : i < N := by
  subst e
  exact Nat.lt_of_succ_le (Nat.le_of_ble_eq_true h)

/-- Slots behind a new value. -/
theorem put_all {Q : Nat → PV → Value → Prop} {tm : Nat → PV} {d : Option Tmp} {v : PV} {val : Value} (hN : a.tmps.size = N) (hd : dstOk N d = true)
    (h : ∀ i, i < N → Q i (tm i) (a.tmps.getD i undef)) (hv : ∀ i, Q i v val) : ∀ i, i < N → Q i (putTm tm d v i) ((a.put d val).tmps.getD i undef) := by
  intro i hi
  cases d with
  | none => exact h i hi
  | some d =>
    have hlt := dstOk_lt hd rfl
    by_cases e : i = d
    · subst e
      show Q i (upd tm i v i) _
      rw [upd_same, getD_put_same (by omega)]
      exact hv i
    · show Q i (upd tm d v i) _
      rw [upd_other _ _ e, getD_put_other e]
      exact h i hi

theorem put_top {tm : Nat → PV} {d : Option Tmp} {v : PV} (hd : dstOk N d = true) (h : ∀ i, N ≤ i → tm i = .top) : ∀ i, N ≤ i → putTm tm d v i = .top := by
  intro i hi
  cases d with
  | none => exact h i hi
  | some d =>
    have := dstOk_lt hd rfl
    show upd tm d v i = _
    rw [upd_other _ _ (by omega)]
    exact h i hi

/-- A value laid into a slot. -/
theorem Sim.put (h : Sim N w0 X0 Y β s a w) {d : Option Tmp} {v : PV} {val : Value} (hd : dstOk N d = true) (hv : VRep w (Aof s.hp β Y) β v val) (hr : ∀ id ∈ refs v, s.hp id ≠ none) :
    Sim N w0 X0 Y β ⟨putTm s.tm d v, s.hp⟩ (a.put d val) w where
  dfr := by rw [put_defers]; exact h.dfr
  tsz := by rw [put_size]; exact h.tsz
  tmo := put_top hd h.tmo
  tms := put_all (Q := fun _ p u => VRep w (Aof s.hp β Y) β p u) h.tsz hd h.tms (fun _ => hv)
  box := h.box
  inj := h.inj
  blt := h.blt
  wfT := by
    have := put_all (Q := fun _ p _ => ∀ id ∈ refs p, s.hp id ≠ none) (val := val) h.tsz hd h.wfT (fun _ => hr)
    exact this
  wfB := h.wfB
  ownd := h.ownd
  rngB := h.rngB
  pin := h.pin
  stp := h.stp
  Yx := h.Yx
  Ylt := h.Ylt
  fr := h.fr

theorem freeze_get (hp : Nat → Option Box) (ids : List Nat) (i : Nat) : freezeIds hp ids i = if i ∈ ids then (hp i).map markF else hp i := by
  unfold freezeIds
  by_cases hi : i ∈ ids
  · have : ids.any (Nat.beq i) = true := List.any_eq_true.2 ⟨i, hi, Nat.beq_refl i⟩
    rw [this, if_pos hi]; rfl
  · have : ids.any (Nat.beq i) = false := by
      cases hb : ids.any (Nat.beq i)
      · rfl
      · obtain ⟨j, hj, e⟩ := List.any_eq_true.1 hb
        exact absurd (Nat.eq_of_beq_eq_true e ▸ hj) hi
    rw [this, if_neg hi]; rfl

theorem freeze_none {hp : Nat → Option Box} {ids : List Nat} {i : Nat} : freezeIds hp ids i = none ↔ hp i = none := by
  rw [freeze_get]
  split <;> simp

theorem freeze_live {hp : Nat → Option Box} {ids : List Nat} {i : Nat} (h : liveB (freezeIds hp ids i)) : liveB (hp i) := by
  rw [freeze_get] at h
  split at h
  · cases hb : hp i with
    | none => rw [hb] at h; exact h
    | some b => cases b with
      | st c => trivial
      | ar fz c => rw [hb] at h; exact h.elim
      | mv => rw [hb] at h; exact h
  · exact h

theorem freeze_same {hp : Nat → Option Box} {ids : List Nat} {i : Nat} {bx : Box} (h : freezeIds hp ids i = some bx) (hl : liveB (some bx)) : hp i = some bx := by
  rw [freeze_get] at h
  split at h
  · cases hb : hp i with
    | none => rw [hb] at h; cases h
    | some b =>
      rw [hb] at h
      cases b with
      | st c => exact h
      | ar fz c => simp only [Option.map_some, markF, Option.some.injEq] at h; subst h; exact hl.elim
      | mv => simp only [Option.map_some, markF, Option.some.injEq] at h; subst h; exact hl.elim
  · exact h

theorem freeze_X {hp : Nat → Option Box} {ids : List Nat} {b : Nat} (h : Xof (freezeIds hp ids) β b) : Xof hp β b := by
  obtain ⟨id, o, hl, hb⟩ := h
  exact ⟨id, o, freeze_live hl, hb⟩

theorem BRep.step' {A A' : Nat → Prop} {id : Nat} {bx : Box} (hA : ∀ b, A' b → A b) (h : BRep w A β id bx) : BRep w A' β id bx := by
  have hs := WStep.refl A w
  cases bx with
  | st c =>
    obtain ⟨b, o, h1, h2, h3⟩ := h
    exact ⟨b, o, h1, fun j c hj => let ⟨v, hv, hc⟩ := h2 j c hj; ⟨v, hv, hc.step hs (fun b _ => hA b) (fun _ _ => rfl)⟩, h3⟩
  | ar fz c =>
    rcases h with h | ⟨b, o, h1, h2, h3, h4⟩
    · exact .inl h
    · exact .inr ⟨b, o, h1, h2.weak (fun b _ => hA b), h3, fun e x => h4 e (hA b x)⟩
  | mv => trivial

/-- Boxes are shared from now on. -/
theorem Sim.freeze (h : Sim N w0 X0 Y β s a w) {fz : List Nat} (hfz : ∀ id ∈ fz, ∃ f c, s.hp id = some (.ar f c)) : Sim N w0 X0 Y β ⟨s.tm, freezeIds s.hp fz⟩ a w := by
  have hA : ∀ b, Aof (freezeIds s.hp fz) β Y b → Aof s.hp β Y b := fun b hb => hb.imp freeze_X id
  refine ⟨h.dfr, h.tsz, h.tmo, fun i hi => (h.tms i hi).step (WStep.refl _ _) (fun b _ => hA b) (fun _ _ => rfl), fun id b hb => ?_, fun id id' b o o' h1 h2 => h.inj id id' b o o' (freeze_live h1) (freeze_live h2),
    fun id b o hn => h.blt id b o (fun e => hn (freeze_none.2 e)), fun i hi id hid e => h.wfT i hi id hid (freeze_none.1 e), fun id cells hc c hcm id' hid e => ?_, fun b hb => h.ownd b (freeze_X hb),
    fun id bx b o hb hl => h.rngB id bx b o (freeze_same hb hl) hl, fun i hi => ⟨fun e => (h.pin i hi).1 (freeze_none.1 e), (h.pin i hi).2⟩, fun id c b o hc => h.stp id c b o (freeze_same hc trivial), fun b hb x => h.Yx b hb (freeze_X x), h.Ylt, h.fr⟩
  · simp only at hb
    rw [freeze_get] at hb
    split at hb
    · rename_i hm
      obtain ⟨f, c, hc⟩ := hfz id hm
      rw [hc] at hb
      simp only [Option.map_some, markF, Option.some.injEq] at hb
      subst hb
      have hbx := h.box id _ hc
      rcases hbx with hbx | ⟨b, o, h1, h2, h3, h4⟩
      · exact .inl hbx
      · refine .inr ⟨b, o, h1, h2.weak (fun b _ => hA b), (fun e => by cases e), fun _ hb => ?_⟩
        rcases hb with ⟨id', o', hl, hb⟩ | hY
        · have hl0 := freeze_live hl
          cases f with
          | true => exact h4 rfl (.inl ⟨id', o', hl0, hb⟩)
          | false =>
            have e := h.inj id' id b o' o hl0 (by rw [hc]; trivial) hb h1
            subst e
            simp only at hl
            rw [freeze_get, if_pos hm, hc] at hl
            exact hl
        · cases f with
          | true => exact h4 rfl (.inr hY)
          | false => exact h.Yx b hY ⟨id, o, by rw [hc]; trivial, h1⟩
    · exact (h.box id b hb).step' hA
  · simp only at hc
    rw [freeze_get] at hc
    refine h.wfB id cells ?_ c hcm id' hid (freeze_none.1 e)
    split at hc
    · rename_i hm
      obtain ⟨f, c, hc'⟩ := hfz id hm
      rw [hc'] at hc
      cases hc
    · exact hc

theorem absent_spec : ∀ {nw : List (Nat × Box)} {hp : Nat → Option Box}, absent hp nw = true →
    (∀ id bx, (id, bx) ∈ nw → hp id = none) ∧ (∀ id bx bx', (id, bx) ∈ nw → (id, bx') ∈ nw → bx = bx')
  | [], _, _ => ⟨by simp, by simp⟩
  | (i, b) :: r, hp, h => by
    simp only [absent, Bool.and_eq_true, Option.isNone_iff_eq_none, Bool.not_eq_true'] at h
    obtain ⟨⟨h1, h2⟩, h3⟩ := h
    obtain ⟨h4, h5⟩ := absent_spec h3
    have hne : ∀ bx, (i, bx) ∉ r := by
      intro bx hm
      have : r.any (fun q => Nat.beq q.1 i) = true := List.any_eq_true.2 ⟨_, hm, Nat.beq_refl i⟩
      rw [this] at h2; cases h2
    refine ⟨fun id bx hm => ?_, fun id bx bx' hm hm' => ?_⟩
    · rcases List.mem_cons.1 hm with e | hm
      · cases e; exact h1
      · exact h4 id bx hm
    · rcases List.mem_cons.1 hm with e | hm
      · cases e
        rcases List.mem_cons.1 hm' with e | hm'
        · cases e; rfl
        · exact absurd hm' (hne _)
      · rcases List.mem_cons.1 hm' with e | hm'
        · cases e; exact absurd hm (hne _)
        · exact h5 id bx bx' hm hm'

theorem addBoxes_get : ∀ {nw : List (Nat × Box)} {hp : Nat → Option Box}, (∀ id bx bx', (id, bx) ∈ nw → (id, bx') ∈ nw → bx = bx') →
    (∀ id bx, (id, bx) ∈ nw → addBoxes hp nw id = some bx) ∧ (∀ id, (∀ bx, (id, bx) ∉ nw) → addBoxes hp nw id = hp id)
  | [], _, _ => ⟨by simp, fun _ _ => rfl⟩
  | (i, b) :: r, hp, h => by
    obtain ⟨h1, h2⟩ := addBoxes_get (nw := r) (hp := upd hp i (some b)) (fun id bx bx' hm hm' => h id bx bx' (by simp [hm]) (by simp [hm']))
    refine ⟨fun id bx hm => ?_, fun id hn => ?_⟩
    · by_cases hr : ∃ bx', (id, bx') ∈ r
      · obtain ⟨bx', hr⟩ := hr
        have := h id bx bx' hm (by simp [hr])
        subst this
        exact h1 id bx hr
      · rcases List.mem_cons.1 hm with e | hm
        · cases e
          show addBoxes (upd hp i (some b)) r i = _
          rw [h2 i (fun bx' hb => hr ⟨bx', hb⟩), upd_same]
        · exact absurd ⟨bx, hm⟩ hr
    · show addBoxes (upd hp i (some b)) r id = _
      rw [h2 id (fun bx hb => hn bx (by simp [hb])), upd_other]
      rintro rfl
      exact hn b (by simp)

/-- What an operation of class R leaves, in the world. -/
structure StepR (Y : Nat → Prop) (β : Bt) (s : St) (w : World) (v : PV) (nw : List (Nat × Box)) (val : Value) (w' : World) (β' : Bt) : Prop where
  os : w'.os = w.os
  tape : w'.tape = w.tape
  output : w'.output = w.output
  ext : WStep (fun _ => False) w w'
  old : ∀ id, s.hp id ≠ none → β' id = β id
  nlive : ∀ id bx, (id, bx) ∈ nw → liveB (some bx)
  nbox : ∀ id bx, (id, bx) ∈ nw → BRep w' (Aof (addBoxes s.hp nw) β' Y) β' id bx
  nblk : ∀ id bx b o, (id, bx) ∈ nw → β' id = some (b, o) → w.heap.size ≤ b ∧ b < w'.heap.size
  ninj : ∀ id bx id' bx' b o o', (id, bx) ∈ nw → (id', bx') ∈ nw → β' id = some (b, o) → β' id' = some (b, o') → id = id'
  nwf : ∀ id cells, (id, .st cells) ∈ nw → ∀ c ∈ cells, ∀ id' ∈ refsC c, s.hp id' ≠ none ∨ ∃ bx, (id', bx) ∈ nw
  val : VRep w' (Aof (addBoxes s.hp nw) β' Y) β' v val
  vwf : ∀ id ∈ refs v, s.hp id ≠ none ∨ ∃ bx, (id, bx) ∈ nw

theorem Sim.stepR (h : Sim N w0 X0 Y β s a w) {d : Option Tmp} {v : PV} {nw : List (Nat × Box)} {val : Value} (hd : dstOk N d = true) (hab : absent s.hp nw = true)
    (st : StepR Y β s w v nw val w' β') : Sim N w0 X0 Y β' ⟨putTm s.tm d v, addBoxes s.hp nw⟩ (a.put d val) w' := by
  obtain ⟨ha1, ha2⟩ := absent_spec hab
  obtain ⟨hg1, hg2⟩ := addBoxes_get (hp := s.hp) ha2
  have hcase : ∀ id, (∃ bx, (id, bx) ∈ nw) ∨ addBoxes s.hp nw id = s.hp id := fun id => by
    by_cases hx : ∃ bx, (id, bx) ∈ nw
    · exact .inl hx
    · exact .inr (hg2 id fun bx hb => hx ⟨bx, hb⟩)
  have hpres : ∀ id, s.hp id ≠ none → addBoxes s.hp nw id = s.hp id := fun id hn => by
    rcases hcase id with ⟨bx, hx⟩ | e
    · exact absurd (ha1 id bx hx) hn
    · exact e
  have hnn : ∀ id, (s.hp id ≠ none ∨ ∃ bx, (id, bx) ∈ nw) → addBoxes s.hp nw id ≠ none := by
    rintro id (hn | ⟨bx, hx⟩)
    · rw [hpres id hn]; exact hn
    · rw [hg1 id bx hx]; simp
  have hXold : ∀ b, b < w.heap.size → Xof (addBoxes s.hp nw) β' b → Xof s.hp β b := by
    rintro b hb ⟨id, o, hl, hβ⟩
    rcases hcase id with ⟨bx, hx⟩ | e
    · have := (st.nblk id bx b o hx hβ).1; omega
    · rw [e] at hl
      exact ⟨id, o, hl, by rw [← st.old id (liveB_some hl)]; exact hβ⟩
  have hAold : ∀ b, b < w.heap.size → Aof (addBoxes s.hp nw) β' Y b → Aof s.hp β Y b := fun b hb hA => hA.imp (hXold b hb) id
  have hstep : WStep (Aof s.hp β Y) w w' := st.ext.weaken (fun _ _ x => x.elim)
  refine ⟨by rw [put_defers]; exact h.dfr, by rw [put_size]; exact h.tsz, put_top hd h.tmo, ?_, ?_, ?_, ?_, ?_, ?_, ?_, ?_, ?_, ?_, ?_, h.Ylt, ?_⟩
  · refine put_all (Q := fun _ p u => VRep w' (Aof (addBoxes s.hp nw) β' Y) β' p u) h.tsz hd (fun i hi => ?_) (fun _ => st.val)
    exact (h.tms i hi).step hstep hAold fun id hid => st.old id (h.wfT i hi id hid)
  · intro id b hb
    simp only at hb
    rcases hcase id with ⟨bx, hx⟩ | e
    · rw [hg1 id bx hx] at hb
      cases hb
      exact st.nbox id _ hx
    · rw [e] at hb
      have hβ := st.old id (by rw [hb]; simp)
      have hbx := h.box id b hb
      have hlt := h.blt id
      have hne : s.hp id ≠ none := by rw [hb]; simp
      cases b with
      | st c =>
        obtain ⟨b, o, h1, h2, h3⟩ := hbx
        have hb' := hlt b o hne h1
        have hbl := st.ext.keep b hb' (fun x => x)
        refine ⟨b, o, by rw [hβ]; exact h1, fun j c hj => ?_, fun j hj => ?_⟩
        · obtain ⟨v, hv, hc⟩ := h2 j c hj
          refine ⟨v, by rw [World.cell?_of_block (w := w) hbl]; exact hv, hc.step hstep hAold fun id' hid => st.old id' ?_⟩
          exact h.wfB id _ hb c (List.mem_of_getElem? hj) id' hid
        · rw [World.frozen?_of_block (w := w) hbl]; exact h3 j hj
      | ar fz c =>
        rcases hbx with ⟨h1, h2⟩ | ⟨b, o, h1, h2, h3, h4⟩
        · exact .inl ⟨by rw [hβ]; exact h1, h2⟩
        · have hb' := hlt b o hne h1
          have hbl := st.ext.keep b hb' (fun x => x)
          have hbs : bsz w' b = bsz w b := by unfold bsz; rw [hbl]
          refine .inr ⟨b, o, by rw [hβ]; exact h1, fun j c hj => ?_, fun e j hj hj' => ?_, fun e x => h4 e (hAold b hb' x)⟩
          · obtain ⟨v, hv, h5, hc⟩ := h2 j c hj
            exact ⟨v, by rw [World.cell?_of_block (w := w) (by rw [add_block]; exact hbl)]; exact hv, h5, hc.step hstep hAold⟩
          · rw [World.frozen?_of_block (w := w) hbl]; exact h3 e j hj (by rw [← hbs]; exact hj')
      | mv => trivial
  · intro id id' b o o' hl hl' hb hb'
    simp only at hl hl'
    rcases hcase id with ⟨bx, hx⟩ | e
    · rcases hcase id' with ⟨bx', hx'⟩ | e'
      · exact st.ninj id bx id' bx' b o o' hx hx' hb hb'
      · rw [e'] at hl'
        have h1 := (st.nblk id bx b o hx hb).1
        have h2 := h.blt id' b o' (liveB_some hl') (by rw [← st.old id' (liveB_some hl')]; exact hb')
        omega
    · rw [e] at hl
      rcases hcase id' with ⟨bx', hx'⟩ | e'
      · have h1 := (st.nblk id' bx' b o' hx' hb').1
        have h2 := h.blt id b o (liveB_some hl) (by rw [← st.old id (liveB_some hl)]; exact hb)
        omega
      · rw [e'] at hl'
        exact h.inj id id' b o o' hl hl' (by rw [← st.old id (liveB_some hl)]; exact hb) (by rw [← st.old id' (liveB_some hl')]; exact hb')
  · intro id b o hn hb
    simp only at hn
    rcases hcase id with ⟨bx, hx⟩ | e
    · exact (st.nblk id bx b o hx hb).2
    · rw [e] at hn
      exact Nat.lt_of_lt_of_le (h.blt id b o hn (by rw [← st.old id hn]; exact hb)) st.ext.size
  · have := put_all (Q := fun _ p _ => ∀ id ∈ refs p, addBoxes s.hp nw id ≠ none) (val := val) (d := d) (v := v) h.tsz hd (fun i hi id hid => hnn id (.inl (h.wfT i hi id hid))) (fun _ id hid => hnn id (st.vwf id hid))
    exact this
  · intro id cells hc c hcm id' hid
    simp only at hc
    rcases hcase id with ⟨bx, hx⟩ | e
    · rw [hg1 id bx hx] at hc
      cases hc
      exact hnn id' (st.nwf id _ hx c hcm id' hid)
    · rw [e] at hc
      exact hnn id' (.inl (h.wfB id cells hc c hcm id' hid))
  · rintro b ⟨id, o, hl, hb⟩
    simp only at hl
    rcases hcase id with ⟨bx, hx⟩ | e
    · exact .inr (Nat.le_trans h.fr.step.size (st.nblk id bx b o hx hb).1)
    · rw [e] at hl
      exact h.ownd b ⟨id, o, hl, by rw [← st.old id (liveB_some hl)]; exact hb⟩
  · intro id bx b o hb hl hβ hlt
    simp only at hb
    rcases hcase id with ⟨bx', hx⟩ | e
    · have := (st.nblk id bx' b o hx hβ).1
      have := h.fr.step.size
      omega
    · rw [e] at hb
      exact h.rngB id bx b o hb hl (by rw [← st.old id (by rw [hb]; simp)]; exact hβ) hlt
  · intro i hi
    obtain ⟨h1, h2⟩ := h.pin i hi
    exact ⟨hnn _ (.inl h1), by rw [st.old _ h1]; exact h2⟩
  · intro id c b o hb hβ hlt
    simp only at hb
    rcases hcase id with ⟨bx', hx⟩ | e
    · have := (st.nblk id bx' b o hx hβ).1
      have := h.fr.step.size
      omega
    · rw [e] at hb
      exact h.stp id c b o hb (by rw [← st.old id (by rw [hb]; simp)]; exact hβ) hlt
  · rintro b hY hX
    have hb : b < w.heap.size := Nat.lt_of_lt_of_le (h.Ylt b hY) h.fr.step.size
    exact h.Yx b hY (hXold b hb hX)
  · refine ⟨st.os.trans h.fr.os, st.tape.trans h.fr.tape, st.output.trans h.fr.output, h.fr.step.trans st.ext (fun _ _ x => x.elim), fun b j hb hL => ?_⟩
    have hbl := st.ext.keep b (Nat.lt_of_lt_of_le hb h.fr.step.size) (fun x => x)
    have hc : w'.cell? ⟨b, j, none⟩ = w.cell? ⟨b, j, none⟩ := World.cell?_of_block (w := w) hbl
    have hf : w'.frozen? ⟨b, j, none⟩ = w.frozen? ⟨b, j, none⟩ := World.frozen?_of_block (w := w) hbl
    rw [hc, hf]
    exact h.fr.rng b j hb hL
end

end Go.Proofs.Ytaphhfehcbkfkaa.Pv

namespace Go.Proofs.Ytaphhfehcbkfkaa.Pv
open Go.RowKit

section
variable {P : Program} {N : Nat} {w0 : World} {X0 : Lend} {Y : Nat → Prop} {β β' : Bt} {s : St} {a : Act} {w w' : World} {o : Oper}

theorem cells_const (cs : List Value) (A : Nat → Prop) : All2 (CRep w A β) (cs.map PV.sc) cs := by
  induction cs with
  | nil => trivial
  | cons v r ih => exact ⟨TRep.sc v, ih⟩

theorem refs_const (cs : List Value) : (cs.map PV.sc).flatMap refsC = [] := by
  induction cs with
  | nil => rfl
  | cons v r ih => exact ih

theorem opv_rep (h : Sim N w0 X0 Y β s a w) (x : Operand) : VRep w (Aof s.hp β Y) β (opv s.tm x) (a.eval x) := by
  cases x with
  | tmp t =>
    show VRep _ _ _ (s.tm t) (a.tmps.getD t undef)
    by_cases ht : t < N
    · exact h.tms t ht
    · rw [h.tmo t (Nat.le_of_not_lt ht)]; exact TRep.top _
  | const v =>
    cases v with
    | agg cs => exact ⟨cs.toList, by simp [Act.eval], cells_const cs.toList _⟩
    | _ => exact TRep.sc _
  | func f => exact TRep.sc _
  | global g => exact TRep.sc _

theorem opv_refs (h : Sim N w0 X0 Y β s a w) (x : Operand) : ∀ id ∈ refs (opv s.tm x), s.hp id ≠ none := by
  cases x with
  | tmp t =>
    show ∀ id ∈ refs (s.tm t), _
    by_cases ht : t < N
    · exact h.wfT t ht
    · rw [h.tmo t (Nat.le_of_not_lt ht)]; intro id hid; cases hid
  | const v =>
    cases v with
    | agg cs =>
      intro id hid
      have : refs (.agg (cs.toList.map .sc)) = [] := refs_const cs.toList
      simp only [opv] at hid
      rw [this] at hid; cases hid
    | _ => intro id hid; cases hid
  | func f => intro id hid; cases hid
  | global g => intro id hid; cases hid

theorem sc_val {A : Nat → Prop} {v u : Value} (h : VRep w A β (.sc v) u) : u = v := TRep.val h

theorem opv_sc (h : Sim N w0 X0 Y β s a w) {x : Operand} {v : Value} (e : opv s.tm x = .sc v) : a.eval x = v := by
  have := opv_rep h x
  rw [e] at this
  exact sc_val this

def Gives (P : Program) (a : Act) (w : World) (o : Oper) (Y : Nat → Prop) (β : Bt) (s : St) (v : PV) (fz : List Nat) (nw : List (Nat × Box)) : Prop :=
  (∀ id ∈ fz, ∃ f c, s.hp id = some (.ar f c)) ∧ ∃ val w', (execOp a.eval o).run P w = .ok (.value val) w' ∧ (absent s.hp nw = true → ∃ β', StepR Y β ⟨s.tm, freezeIds s.hp fz⟩ w v nw val w' β')

theorem stepR_pure {v : PV} {val : Value} (hv : VRep w (Aof s.hp β Y) β v val) (hr : ∀ id ∈ refs v, s.hp id ≠ none) : StepR Y β s w v [] val w β :=
  ⟨rfl, rfl, rfl, WStep.refl _ _, fun _ _ => rfl, by simp, by simp, by simp, by simp, by simp, hv, fun id hid => .inl (hr id hid)⟩

theorem gives_pure {v : PV} {val : Value} (hrun : (execOp a.eval o).run P w = .ok (.value val) w) (hv : VRep w (Aof s.hp β Y) β v val) (hr : ∀ id ∈ refs v, s.hp id ≠ none) : Gives P a w o Y β s v [] [] :=
  ⟨by simp, val, w, hrun, fun _ => ⟨β, stepR_pure (s := ⟨s.tm, freezeIds s.hp []⟩) hv hr⟩⟩

theorem gives_sc {v : Value} (hrun : (execOp a.eval o).run P w = .ok (.value v) w) : Gives P a w o Y β s (.sc v) [] [] := gives_pure hrun (TRep.sc v) (by intro id hid; cases hid)

/-- The world with one block more. -/
structure GrowB (w w' : World) (c : Array Value) (e : TypeId) : Prop where
  os : w'.os = w.os
  tape : w'.tape = w.tape
  output : w'.output = w.output
  old : ∀ b, b < w.heap.size → w'.heap[b]? = w.heap[b]?
  size : w'.heap.size = w.heap.size + 1
  new : ∃ fz : Nat × Nat, w'.heap[w.heap.size]? = some (.cells c e fz) ∧ (fz.1 = fz.2 ∨ c.size ≤ fz.1)

theorem GrowB.alloc (w : World) (c : Array Value) (e : TypeId) : GrowB w (w.alloc (.cells c e)) c e :=
  ⟨rfl, rfl, rfl, fun b hb => Below.heap_alloc w _ b hb, by show (w.heap.push _).size = _; simp, (0, 0), by show (w.heap.push _)[w.heap.size]? = _; simp, .inl rfl⟩

theorem GrowB.drew {c : Array Value} {e : TypeId} (h : GrowB w w' c e) : GrowB w w'.drew c e := ⟨h.os, h.tape, h.output, h.old, h.size, h.new⟩

section
variable {c : Array Value} {e : TypeId}
theorem GrowB.step (h : GrowB w w' c e) : WStep (fun _ => False) w w' :=
  ⟨by rw [h.size]; omega, fun b hb _ => h.old b hb, fun b hb => by unfold bsz; rw [h.old b hb]; exact Nat.le_refl _⟩
theorem GrowB.cell (h : GrowB w w' c e) (j : Nat) : w'.cell? ⟨w.heap.size, j, none⟩ = c[j]? := by
  obtain ⟨fz, hn, _⟩ := h.new
  simp [World.cell?, hn]
theorem GrowB.frozen (h : GrowB w w' c e) {j : Nat} (hj : j < c.size) : w'.frozen? ⟨w.heap.size, j, none⟩ = false := by
  obtain ⟨fz, hn, hf⟩ := h.new
  simp only [World.frozen?, hn]
  rcases hf with hf | hf <;> simp <;> omega
theorem GrowB.bsz (h : GrowB w w' c e) : bsz w' w.heap.size = c.size := by
  obtain ⟨fz, hn, _⟩ := h.new
  simp [Pv.bsz, hn]
end

theorem add1_get {hp : Nat → Option Box} {d : Nat} {bx : Box} : addBoxes hp [(d, bx)] = upd hp d (some bx) := rfl

/-- One new box in a new block. -/
theorem stepR_new {c : Array Value} {e : TypeId} {d : Nat} {bx : Box} {v : PV} {val : Value} (hg : GrowB w w' c e) (hd : s.hp d = none) (hl : liveB (some bx))
    (hbx : BRep w' (Aof (upd s.hp d (some bx)) (upd β d (some (w.heap.size, 0))) Y) (upd β d (some (w.heap.size, 0))) d bx)
    (hcw : ∀ cells, bx = .st cells → ∀ x ∈ cells, ∀ id' ∈ refsC x, s.hp id' ≠ none)
    (hv : VRep w' (Aof (upd s.hp d (some bx)) (upd β d (some (w.heap.size, 0))) Y) (upd β d (some (w.heap.size, 0))) v val)
    (hvr : ∀ id ∈ refs v, s.hp id ≠ none ∨ id = d) : StepR Y β s w v [(d, bx)] val w' (upd β d (some (w.heap.size, 0))) where
  os := hg.os
  tape := hg.tape
  output := hg.output
  ext := hg.step
  old := fun id hn => upd_other _ _ (by rintro rfl; exact hn hd)
  nlive := by intro id b hm; simp at hm; obtain ⟨rfl, rfl⟩ := hm; exact hl
  nbox := by intro id b hm; simp at hm; obtain ⟨rfl, rfl⟩ := hm; exact hbx
  nblk := by
    intro id b x y hm hb
    simp at hm; obtain ⟨rfl, rfl⟩ := hm
    rw [upd_same] at hb
    simp at hb
    have := hg.size
    omega
  ninj := by intro id b id' b' x y z hm hm' _ _; simp at hm hm'; rw [hm.1, hm'.1]
  nwf := by intro id cells hm x hx id' hid; simp at hm; exact .inl (hcw cells hm.2.symm x hx id' hid)
  val := hv
  vwf := by
    intro id hid
    rcases hvr id hid with h | rfl
    · exact .inl h
    · exact .inr ⟨bx, by simp⟩

/-- The cells of a new row of trees. -/
theorem rdT_new {c : Array Value} {e : TypeId} (hg : GrowB w w' c e) {A A' : Nat → Prop} (hA : ∀ b, b < w.heap.size → A' b → A b) {cells : List PV}
    (h : ∀ (j : Nat) p, cells[j]? = some p → ∃ v, c[j]? = some v ∧ v.oneCell' = true ∧ TRep w A p v) : RdT w' A' ⟨w.heap.size, 0, none⟩ cells := by
  intro j p hj
  obtain ⟨v, hv, h1, ht⟩ := h j p hj
  exact ⟨v, by rw [add_mk, Nat.zero_add, hg.cell]; exact hv, h1, ht.step (hg.step.weaken (fun _ _ x => x.elim)) hA⟩

theorem A_new {d : Nat} {bx : Box} (hwf : s.hp d = none) : ∀ b, b < w.heap.size → Aof (upd s.hp d (some bx)) (upd β d (some (w.heap.size, 0))) Y b → Aof s.hp β Y b := by
  intro b hb hA
  rcases hA with ⟨id, o, hl, hβ⟩ | hY
  · by_cases e : id = d
    · subst e
      rw [upd_same] at hβ
      simp at hβ
      omega
    · rw [upd_other _ _ e] at hl hβ
      exact .inl ⟨id, o, hl, hβ⟩
  · exact .inr hY

/-- A new row of trees, its value a slice or a pointer. -/
theorem gives_row {c : Array Value} {e : TypeId} {d : Nat} {cells : List PV} {fz : List Nat} {v : PV} {val : Value}
    (hfz : ∀ id ∈ fz, ∃ f c, s.hp id = some (.ar f c))
    (hrun : (execOp a.eval o).run P w = .ok (.value val) w') (hg : GrowB w w' c e)
    (hc : ∀ (j : Nat) p, cells[j]? = some p → ∃ u, c[j]? = some u ∧ u.oneCell' = true ∧ TRep w (Aof (freezeIds s.hp fz) β Y) p u)
    (hv : (v = .ptr d 0 ∧ val = .pointer (some ⟨w.heap.size, 0, none⟩)) ∨ ∃ es n cap, v = .view d es 0 n ∧ val = .slice (some ⟨w.heap.size, 0, none⟩) n cap ∧ n ≤ cap ∧ cap * es ≤ c.size) :
    Gives P a w o Y β s v fz [(d, .ar false cells)] := by
  refine ⟨hfz, val, w', hrun, fun hab => ⟨upd β d (some (w.heap.size, 0)), ?_⟩⟩
  have hd : s.hp d = none := (absent_spec hab).1 d (.ar false cells) (by simp)
  have hd' : freezeIds s.hp fz d = none := freeze_none.2 hd
  refine stepR_new (s := ⟨s.tm, freezeIds s.hp fz⟩) hg hd' trivial ?_ (fun cells hx => by cases hx) ?_ ?_
  · refine .inr ⟨w.heap.size, 0, upd_same _ _ _, ?_, fun _ j _ hj => ?_, (fun x => by cases x)⟩
    · exact rdT_new hg (A_new (s := ⟨s.tm, freezeIds s.hp fz⟩) hd') hc
    · rw [hg.bsz] at hj
      exact hg.frozen hj
  · rcases hv with ⟨rfl, rfl⟩ | ⟨es, n, cap, rfl, rfl, hn, hcap⟩
    · exact ⟨w.heap.size, 0, upd_same _ _ _, rfl⟩
    · exact .inr ⟨w.heap.size, 0, 0, cap, upd_same _ _ _, rfl, .inl rfl, hn, by rw [hg.bsz]; omega, by rw [hg.size]; omega⟩
  · intro id hid
    rcases hv with ⟨rfl, _⟩ | ⟨es, n, cap, rfl, _⟩ <;> (simp [refs, refs1, refsC] at hid; exact .inr hid)

/-- A new variable. -/
theorem gives_var {c : Array Value} {e : TypeId} {d : Nat} {cells : List PV}
    (hrun : (execOp a.eval o).run P w = .ok (.value (.pointer (some ⟨w.heap.size, 0, none⟩))) w') (hg : GrowB w w' c e)
    (hc : ∀ (j : Nat) p, cells[j]? = some p → ∃ u, c[j]? = some u ∧ CRep w (Aof s.hp β Y) β p u) (hr : ∀ x ∈ cells, ∀ id ∈ refsC x, s.hp id ≠ none) :
    Gives P a w o Y β s (.ptr d 0) [] [(d, .st cells)] := by
  refine ⟨by simp, _, w', hrun, fun hab => ⟨upd β d (some (w.heap.size, 0)), ?_⟩⟩
  have hd : s.hp d = none := (absent_spec hab).1 d (.st cells) (by simp)
  refine stepR_new (s := ⟨s.tm, freezeIds s.hp []⟩) hg hd trivial ?_ (fun cs hx x hxm id hid => ?_) ?_ ?_
  · refine ⟨w.heap.size, 0, upd_same _ _ _, fun j p hj => ?_, fun j hj => ?_⟩
    · obtain ⟨u, hu, hp⟩ := hc j p hj
      refine ⟨u, by rw [Nat.zero_add, hg.cell]; exact hu, hp.step (hg.step.weaken (fun _ _ x => x.elim)) (A_new (s := ⟨s.tm, freezeIds s.hp []⟩) hd) fun id hid => upd_other _ _ ?_⟩
      rintro rfl
      exact hr p (List.mem_of_getElem? hj) id hid hd
    · rw [Nat.zero_add]
      obtain ⟨u, hu, _⟩ := hc j _ (List.getElem?_eq_getElem hj)
      exact hg.frozen (by
        rcases Nat.lt_or_ge j c.size with h | h
        · exact h
        · rw [Array.getElem?_eq_none h] at hu; cases hu)
  · injection hx with hx
    subst hx
    exact hr x hxm id hid
  · exact ⟨w.heap.size, 0, upd_same _ _ _, rfl⟩
  · intro id hid
    simp [refs, refs1, refsC] at hid
    exact .inr hid
end

end Go.Proofs.Ytaphhfehcbkfkaa.Pv

namespace Go.Proofs.Ytaphhfehcbkfkaa.Pv
open Go.RowKit

section
variable {R : Type} {r : R} {P : Program} {N : Nat} {w0 : World} {X0 : Lend} {Y : Nat → Prop} {β β' : Bt} {s : St} {a : Act} {w w' : World} {o : Oper}

theorem run_sizeOf {t : TypeId} {n : Nat} (h : (P.info? t).map (·.size) = some n) (w : World) : (sizeOf t).run P w = .ok n w := by
  cases hi : P.info? t with
  | none => rw [hi] at h; cases h
  | some i => rw [hi] at h; simp at h; simp [sizeOf, typeInfo, hi, h]

theorem szOf_pos {t : TypeId} {n : Nat} (h : szOf P t = n) (hn : 0 < n) : (P.info? t).map (·.size) = some n := by
  unfold szOf at h
  cases hi : (P.info? t).map (·.size) with
  | none => rw [hi] at h; simp at h; omega
  | some i => rw [hi] at h; simp at h; rw [h]

theorem run_isAgg {t : TypeId} {d : TypeDesc} (h : P.underlying t = some d) (w : World) : (isAgg t).run P w = .ok (isAggB P t) w := by
  unfold isAgg isAggB
  rw [h]
  simp only [Sem.run_bind, run_underlying h, Result.andThen_ok]
  cases d <;> rfl

theorem cvK_inv {t : TypeId} {v : Value} {K : PV → Option R} (h : cvK P t v K = some r) : ∃ p, K p = some r ∧ refs p = [] ∧ ∀ (w : World) (A : Nat → Prop) (β : Bt), VRep w A β p v := by
  have sc : ∀ v : Value, K (.sc v) = some r → ∃ p, K p = some r ∧ refs p = [] ∧ ∀ (w : World) (A : Nat → Prop) (β : Bt), VRep w A β p v := fun v h => ⟨_, h, rfl, fun w A β => TRep.sc v⟩
  unfold cvK at h
  split at h
  · rename_i cs
    obtain ⟨hl, h⟩ := chk_inv h
    obtain ⟨xs, h, hxl, hx⟩ := tcsK_inv h
    have hl := Nat.eq_of_beq_eq_true hl
    refine ⟨_, h, ?_, fun w A β => ⟨cs.toList, by simp, ?_⟩⟩
    · show xs.flatMap refsC = []
      rw [List.flatMap_eq_nil_iff]
      intro c hc
      obtain ⟨j, hj⟩ := List.mem_iff_getElem?.1 hc
      exact refsC_isT (hx j c hj).1
    · refine All2.of_at (by rw [hxl, hl]) fun i c u hc hu => ?_
      obtain ⟨hT, p, hp, _, hpv⟩ := hx i c hc
      refine (CRep_isT hT).2 (hpv w A β u ?_).1
      rw [Nat.zero_add, List.getElem?_map, hu] at hp
      simp at hp
      subst hp
      exact TRep.sc u
  · split at h
    · exact ⟨_, h, rfl, fun w A β => TRep.lnil true _⟩
    · cases h
  · exact sc _ h

theorem constK_gives (h : Sim N w0 X0 Y β s a w) {x : Operand} (hrun : (execOp a.eval o).run P w = .ok (.value (a.eval x)) w) {K : PV → Option R} (hk : constK P o.type s.tm x K = some r) :
    ∃ v, K v = some r ∧ Gives P a w o Y β s v [] [] := by
  have dflt : K (opv s.tm x) = some r → ∃ v, K v = some r ∧ Gives P a w o Y β s v [] [] := fun hk => ⟨_, hk, gives_pure hrun (opv_rep h x) (opv_refs h x)⟩
  cases x with
  | const v =>
    obtain ⟨p, hk, hr, hv⟩ := cvK_inv hk
    exact ⟨p, hk, gives_pure hrun (hv _ _ _) (by rw [hr]; simp)⟩
  | tmp t => exact dflt hk
  | func f => exact dflt hk
  | global g => exact dflt hk

theorem run_move' {x : Operand} (ho : o.op = .move x) : (execOp a.eval o).run P w = .ok (.value (a.eval x)) w := by unfold execOp; rw [ho]; rfl
theorem run_assign' {x : Operand} (ho : o.op = .assign x) : (execOp a.eval o).run P w = .ok (.value (a.eval x)) w := by unfold execOp; rw [ho]; rfl

theorem pick_gives (h : Sim N w0 X0 Y β s a w) {c x y : Operand} (ho : o.op = .pick c x y) {K : PV → Option R} (hk : (boolK (opv s.tm c) fun t => brK t (K (opv s.tm x)) (K (opv s.tm y))) = some r) :
    ∃ v, K v = some r ∧ Gives P a w o Y β s v [] [] := by
  obtain ⟨b, hb, hk⟩ := boolK_inv hk
  have hc := opv_sc h hb
  rcases brK_inv hk with ⟨rfl, hk⟩ | ⟨rfl, hk⟩
  · exact ⟨_, hk, gives_pure (by unfold execOp; rw [ho]; simp [asBool, hc]) (opv_rep h x) (opv_refs h x)⟩
  · exact ⟨_, hk, gives_pure (by unfold execOp; rw [ho]; simp [asBool, hc]) (opv_rep h y) (opv_refs h y)⟩

theorem zcellsK_inv {t : TypeId} {K : List PV → Option R} (h : zcellsK P t K = some r) : ∃ (v : Value) (cs : List PV), K cs = some r ∧ zeroOf P t = some v ∧ cs.length = (cty P t).length ∧ cs.length = v.cells.toList.length ∧ cs.length = szOf P t ∧
    ∀ (j : Nat) c, cs[j]? = some c → isT c ∧ ∃ u, v.cells.toList[j]? = some u ∧ u.oneCell' = true ∧ ∀ (w : World) (A : Nat → Prop), TRep w A c u := by
  unfold zcellsK at h
  obtain ⟨v, hz, h⟩ := optK_inv h
  obtain ⟨hl, h⟩ := chk_inv h
  obtain ⟨cs, h, hcl, hc⟩ := tcsK_inv h
  simp only [Bool.and_eq_true] at hl
  have hl1 := Nat.eq_of_beq_eq_true hl.1
  have hl2 : (cty P t).length = szOf P t := by
    have := hl.2
    simp only [ctyOk, Bool.and_eq_true] at this
    exact Nat.eq_of_beq_eq_true this.2
  refine ⟨v, cs, h, hz, hcl, by rw [hcl, hl1], by rw [hcl, hl2], fun j c hj => ?_⟩
  obtain ⟨hT, p, hp, _, hpv⟩ := hc j c hj
  rw [Nat.zero_add, List.getElem?_map] at hp
  cases hu : v.cells.toList[j]? with
  | none => rw [hu] at hp; cases hp
  | some u =>
    rw [hu] at hp
    simp at hp
    subst hp
    exact ⟨hT, u, rfl, (hpv default (fun _ => False) (fun _ => none) u (TRep.sc u)).2, fun w A => (hpv w A (fun _ => none) u (TRep.sc u)).1⟩

theorem run_zeroValue {t : TypeId} {v : Value} (h : zeroOf P t = some v) (w : World) : (zeroValue t).run P w = .ok v w := by
  unfold zeroOf at h
  cases hi : P.info? t with
  | none => rw [hi] at h; cases h
  | some i => rw [hi] at h; simp at h; simp [zeroValue, typeInfo, hi, h]

theorem alloc_gives {t : TypeId} (ho : o.op = .alloc t) {d : Nat} {K : PV → List Nat → List (Nat × Box) → Option R}
    (hk : (zcellsK P t fun cs => K (.ptr d 0) [] [(d, mkBox P t cs)]) = some r) : ∃ v fz nw, K v fz nw = some r ∧ Gives P a w o Y β s v fz nw := by
  obtain ⟨z, cs, hk, hz, _, hl, _, hc⟩ := zcellsK_inv hk
  have hrun : (execOp a.eval o).run P w = .ok (.value (.pointer (some ⟨w.heap.size, 0, none⟩))) (w.alloc (.cells z.cells t)) := by
    unfold execOp
    rw [ho]
    simp [Instr.alloc, run_zeroValue hz, newVar, newRow]
  have hg := GrowB.alloc w z.cells t
  refine ⟨_, _, _, hk, ?_⟩
  unfold mkBox
  cases isArrB P t
  · refine gives_var hrun hg (fun j p hj => ?_) fun x hx id hid => ?_
    · obtain ⟨hT, u, hu, _, hv⟩ := hc j p hj
      exact ⟨u, by simpa using hu, (CRep_isT hT).2 (hv _ _)⟩
    · obtain ⟨j, hj⟩ := List.mem_iff_getElem?.1 hx
      rw [refsC_isT (hc j x hj).1] at hid; cases hid
  · refine gives_row (by simp) hrun hg (fun j p hj => ?_) (.inl ⟨rfl, rfl⟩)
    obtain ⟨hT, u, hu, h1, hv⟩ := hc j p hj
    exact ⟨u, by simpa using hu, h1, hv _ _⟩
end

end Go.Proofs.Ytaphhfehcbkfkaa.Pv

namespace Go.Proofs.Ytaphhfehcbkfkaa.Pv
open Go.RowKit

section
variable {R : Type} {r : R} {P : Program} {N : Nat} {w0 : World} {X0 : Lend} {Y : Nat → Prop} {β β' : Bt} {s : St} {a : Act} {w w' : World} {o : Oper} {A : Nat → Prop}

theorem ctyOk_inv {t : TypeId} (h : ctyOk P t = true) : (∃ d, P.underlying t = some d) ∧ (cty P t).length = szOf P t ∧ (P.info? t).map (·.size) = some (szOf P t) := by
  simp only [ctyOk, Bool.and_eq_true] at h
  refine ⟨Option.isSome_iff_exists.1 h.1, Nat.eq_of_beq_eq_true h.2, ?_⟩
  unfold szOf
  cases hi : P.info? t with
  | none => unfold Program.underlying at h; rw [hi] at h; cases h.1
  | some i => simp

theorem cells_one {v : Value} (h : v.oneCell' = true) : v.cells = #[v] := by cases v <;> first | rfl | cases h

/-- The cells of a value, read at their kinds. -/
theorem fcs_val {p : PV} {v : Value} {ts : List CT} {K : List PV → Option R} (hv : VRep w A β p v) (hl : (cellsOf p).length = ts.length) (h : fcsK ts (cellsOf p) 0 K = some r) :
    ∃ cs, K cs = some r ∧ cs.length = ts.length ∧ All2 (CRep w A β) cs v.cells.toList ∧ (∀ u ∈ v.cells.toList, u.oneCell' = true) ∧ (∀ c ∈ cs, ∀ id ∈ refsC c, id ∈ refs p) ∧ ∀ c ∈ cs, (∀ x, c ≠ .agg x) ∧ (∀ x, c ≠ .tup x) := by
  obtain ⟨cs, h, hcl, hna, hc⟩ := fcsK_inv h
  refine ⟨cs, h, hcl, ?_⟩
  have single : (∀ x, p ≠ .agg x) → cellsOf p = [p] := by
    intro hp
    cases p <;> first | rfl | exact absurd rfl (hp _)
  by_cases hagg : ∃ x, p = .agg x
  · obtain ⟨x, rfl⟩ := hagg
    obtain ⟨vs, rfl, h2⟩ := hv
    have hlen : cs.length = vs.length := by rw [hcl, ← hl]; exact h2.len
    have key : ∀ (i : Nat) c u, cs[i]? = some c → vs[i]? = some u → CRep w A β c u ∧ u.oneCell' = true := by
      intro i c u hc' hu
      obtain ⟨q, hq, _, _, hqv⟩ := hc i c hc'
      rw [Nat.zero_add] at hq
      exact hqv w A β u (h2.at_ hq hu)
    refine ⟨All2.of_at hlen fun i c u hc' hu => (key i c u hc' hu).1, ?_, ?_, hna⟩
    · intro u hu
      obtain ⟨i, hi⟩ := List.mem_iff_getElem?.1 (show u ∈ vs from hu)
      have hlt : i < vs.length := by
        rcases Nat.lt_or_ge i vs.length with h | h
        · exact h
        · rw [List.getElem?_eq_none h] at hi; cases hi
      exact (key i _ u (List.getElem?_eq_getElem (by omega)) hi).2
    · intro c hcm id hid
      obtain ⟨i, hi⟩ := List.mem_iff_getElem?.1 hcm
      obtain ⟨q, hq, _, hr, _⟩ := hc i c hi
      rw [Nat.zero_add] at hq
      show id ∈ x.flatMap refsC
      exact List.mem_flatMap.2 ⟨q, List.mem_of_getElem? hq, hr id hid⟩
  · have hp : ∀ x, p ≠ .agg x := fun x e => hagg ⟨x, e⟩
    rw [single hp] at hl hc
    have hl1 : cs.length = 1 := by rw [hcl, ← hl]; rfl
    match cs, hl1 with
    | [c], _ =>
      obtain ⟨q, hq, hf, hr, hqv⟩ := hc 0 c rfl
      simp at hq
      subst hq
      have htup : ∀ x, p ≠ .tup x := by rintro x rfl; exact hf
      have hv' : CRep w A β p v := (V1Rep_C hp).1 ((VRep_V1 htup).1 hv)
      obtain ⟨h5, h6⟩ := hqv w A β v hv'
      rw [cells_one h6]
      refine ⟨⟨h5, trivial⟩, ?_, ?_, hna⟩
      · intro u hu; simp at hu; subst hu; exact h6
      · intro c' hc' id hid
        simp at hc'; subst hc'
        have := hr id hid
        cases p <;> first | exact this | exact absurd rfl (hp _) | exact absurd rfl (htup _)
end

end Go.Proofs.Ytaphhfehcbkfkaa.Pv

namespace Go.Proofs.Ytaphhfehcbkfkaa.Pv
open Go.RowKit

section
variable {R : Type} {r : R} {P : Program} {N : Nat} {w0 : World} {X0 : Lend} {Y : Nat → Prop} {β β' : Bt} {s : St} {a : Act} {w w' : World} {o : Oper} {A : Nat → Prop}

theorem All2.get {α β' : Type} {R' : α → β' → Prop} {as : List α} {bs : List β'} (h : All2 R' as bs) {i : Nat} {x : α} (hx : as[i]? = some x) : ∃ y, bs[i]? = some y ∧ R' x y := by
  have hlt : i < as.length := by
    rcases Nat.lt_or_ge i as.length with h | h
    · exact h
    · rw [List.getElem?_eq_none h] at hx; cases hx
  have hb : bs[i]? = some (bs[i]'(by rw [← h.len]; exact hlt)) := List.getElem?_eq_getElem _
  exact ⟨_, hb, h.at_ hx hb⟩

/-- The cells of a value, read as trees. -/
theorem tcs_val {p : PV} {v : Value} {ts : List CT} {K : List PV → Option R} (hv : VRep w A β p v) (hl : (cellsOf p).length = ts.length) (h : tcsK ts (cellsOf p) 0 K = some r) :
    ∃ cs, K cs = some r ∧ cs.length = ts.length ∧ All2 (TRep w A) cs v.cells.toList ∧ ∀ u ∈ v.cells.toList, u.oneCell' = true := by
  obtain ⟨cs, h, hcl, hc⟩ := tcsK_inv h
  refine ⟨cs, h, hcl, ?_⟩
  by_cases hagg : ∃ x, p = .agg x
  · obtain ⟨x, rfl⟩ := hagg
    obtain ⟨vs, rfl, h2⟩ := hv
    have hlen : cs.length = vs.length := by rw [hcl, ← hl]; exact h2.len
    have key : ∀ (i : Nat) c u, cs[i]? = some c → vs[i]? = some u → TRep w A c u ∧ u.oneCell' = true := by
      intro i c u hc' hu
      obtain ⟨_, q, hq, _, hqv⟩ := hc i c hc'
      rw [Nat.zero_add] at hq
      exact hqv w A β u (h2.at_ hq hu)
    refine ⟨All2.of_at hlen fun i c u hc' hu => (key i c u hc' hu).1, ?_⟩
    intro u hu
    obtain ⟨i, hi⟩ := List.mem_iff_getElem?.1 (show u ∈ vs from hu)
    have hlt : i < vs.length := by
      rcases Nat.lt_or_ge i vs.length with h | h
      · exact h
      · rw [List.getElem?_eq_none h] at hi; cases hi
    exact (key i _ u (List.getElem?_eq_getElem (by omega)) hi).2
  · have hp : ∀ x, p ≠ .agg x := fun x e => hagg ⟨x, e⟩
    have single : cellsOf p = [p] := by cases p <;> first | rfl | exact absurd rfl (hp _)
    rw [single] at hl hc
    have hl1 : cs.length = 1 := by rw [hcl, ← hl]; rfl
    match cs, hl1 with
    | [c], _ =>
      obtain ⟨_, q, hq, hf, hqv⟩ := hc 0 c rfl
      simp at hq
      subst hq
      have htup : ∀ x, p ≠ .tup x := by rintro x rfl; exact hf
      have hv' : CRep w A β p v := (V1Rep_C hp).1 ((VRep_V1 htup).1 hv)
      obtain ⟨h5, h6⟩ := hqv w A β v hv'
      rw [cells_one h6]
      exact ⟨⟨h5, trivial⟩, fun u hu => by simp at hu; subst hu; exact h6⟩

theorem box_gives (h : Sim N w0 X0 Y β s a w) {t : TypeId} {x : Operand} (ho : o.op = .box t x) {d : Nat} {K : PV → List Nat → List (Nat × Box) → Option R}
    (hk : (chk (ctyOk P t && Nat.beq (cellsOf (opv s.tm x)).length (cty P t).length)
      (bif isArrB P t then tcsK (cty P t) (cellsOf (opv s.tm x)) 0 fun cs => K (.ptr d 0) [] [(d, .ar false cs)]
       else fcsK (cty P t) (cellsOf (opv s.tm x)) 0 fun cs => K (.ptr d 0) [] [(d, .st cs)])) = some r) : ∃ v fz nw, K v fz nw = some r ∧ Gives P a w o Y β s v fz nw := by
  obtain ⟨hl, hk⟩ := chk_inv hk
  simp only [Bool.and_eq_true] at hl
  have hl := Nat.eq_of_beq_eq_true hl.2
  have hrun : (execOp a.eval o).run P w = .ok (.value (.pointer (some ⟨w.heap.size, 0, none⟩))) (w.alloc (.cells (a.eval x).cells t)) := by
    unfold execOp
    rw [ho]
    simp [Instr.box, newVar, newRow]
  have hg := GrowB.alloc w (a.eval x).cells t
  cases ha : isArrB P t
  · rw [ha] at hk
    obtain ⟨cs, hk, _, h2, _, hr, _⟩ := fcs_val (opv_rep h x) hl hk
    refine ⟨_, _, _, hk, gives_var hrun hg (fun j p hj => ?_) fun c hc id hid => opv_refs h x id (hr c hc id hid)⟩
    obtain ⟨u, hu, hp⟩ := h2.get hj
    exact ⟨u, by simpa using hu, hp⟩
  · rw [ha] at hk
    obtain ⟨cs, hk, _, h2, h1⟩ := tcs_val (opv_rep h x) hl hk
    refine ⟨_, _, _, hk, gives_row (by simp) hrun hg (fun j p hj => ?_) (.inl ⟨rfl, rfl⟩)⟩
    obtain ⟨u, hu, hp⟩ := h2.get hj
    exact ⟨u, by simpa using hu, h1 u (List.mem_of_getElem? hu), hp⟩

theorem refs_C {c : PV} (h1 : ∀ x, c ≠ .agg x) (h2 : ∀ x, c ≠ .tup x) : refs c = refsC c := by
  cases c <;> first | rfl | exact absurd rfl (h1 _) | exact absurd rfl (h2 _)

/-- A variable loaded. -/
theorem load_run {t : TypeId} {ad : Addr} {cs : List PV} {p : PV} (hok : ctyOk P t = true) (hlen : cs.length = (cty P t).length)
    (hna : ∀ c ∈ cs, (∀ x, c ≠ .agg x) ∧ (∀ x, c ≠ .tup x))
    (hc : ∀ (j : Nat) c, cs[j]? = some c → ∃ v, w.cell? (ad.add j) = some v ∧ CRep w A β c v)
    (hp : (isAggB P t = true ∧ p = .agg cs) ∨ (isAggB P t = false ∧ cs = [p])) : ∃ val, (loadVar t ad).run P w = .ok val w ∧ VRep w A β p val := by
  obtain ⟨⟨d, hd⟩, hl, hi⟩ := ctyOk_inv hok
  rcases hp with ⟨hagg, rfl⟩ | ⟨hagg, rfl⟩
  · have hf : ∀ j, j < szOf P t → w.cell? (ad.add j) = some ((w.cell? (ad.add j)).getD undef) := by
      intro j hj
      obtain ⟨v, hv, _⟩ := hc j _ (List.getElem?_eq_getElem (by omega))
      rw [hv]; rfl
    refine ⟨_, ?_, (List.range (szOf P t)).map (fun j => (w.cell? (ad.add j)).getD undef), rfl, ?_⟩
    · simp only [loadVar, Sem.run_bind, run_isAgg hd, hagg, Result.andThen_ok, if_true, run_sizeOf hi, run_loadCells w ad (szOf P t) _ hf]
      simp
    · refine All2.of_at (by simp; omega) fun i c u hc' hu => ?_
      obtain ⟨v, hv, hcv⟩ := hc i c hc'
      have hlt : i < szOf P t := by
        rcases Nat.lt_or_ge i cs.length with h | h
        · omega
        · rw [List.getElem?_eq_none h] at hc'; cases hc'
      rw [List.getElem?_map, List.getElem?_range hlt] at hu
      simp [hv] at hu
      subst hu
      exact hcv
  · obtain ⟨v, hv, hcv⟩ := hc 0 p rfl
    have hn := hna p (by simp)
    have h0 : ad.add 0 = ad := by simp [Addr.add]
    rw [h0] at hv
    refine ⟨v, ?_, (VRep_V1 hn.2).2 ((V1Rep_C hn.1).2 hcv)⟩
    simp only [loadVar, Sem.run_bind, run_isAgg hd, hagg, Result.andThen_ok]
    simp [hv]

theorem rd_inv {hp : Nat → Option Box} {id : Nat} {c : List PV} (h : rd hp id = some c) : hp id = some (.st c) ∨ ∃ f, hp id = some (.ar f c) := by
  unfold rd at h
  split at h
  · rename_i e; simp at h; subst h; exact .inl e
  · rename_i f _ e; simp at h; subst h; exact .inr ⟨_, e⟩
  · cases h

theorem rda_inv {hp : Nat → Option Box} {id : Nat} {c : List PV} (h : rda hp id = some c) : ∃ f, hp id = some (.ar f c) := by
  unfold rda at h
  split at h
  · rename_i e; simp at h; subst h; exact ⟨_, e⟩
  · cases h

/-- A cell of a box. -/
theorem box_cell (h : Sim N w0 X0 Y β s a w) {id : Nat} {c : List PV} (hr : rd s.hp id = some c) {b ob : Nat} (hβ : β id = some (b, ob)) {j : Nat} {p : PV} (hj : c[j]? = some p) :
    ∃ v, w.cell? ⟨b, ob + j, none⟩ = some v ∧ CRep w (Aof s.hp β Y) β p v := by
  rcases rd_inv hr with hb | ⟨f, hb⟩
  · obtain ⟨b', o', h1, h2, _⟩ := h.box id _ hb
    rw [hβ] at h1; simp at h1; obtain ⟨rfl, rfl⟩ := h1
    exact h2 j p hj
  · rcases h.box id _ hb with ⟨h1, _⟩ | ⟨b', o', h1, h2, _⟩
    · rw [hβ] at h1; cases h1
    · rw [hβ] at h1; simp at h1; obtain ⟨rfl, rfl⟩ := h1
      obtain ⟨v, hv, _, ht⟩ := h2 j p hj
      rw [add_mk] at hv
      refine ⟨v, hv, ?_⟩
      cases ht with
      | sc => exact TRep.sc _
      | top => exact TRep.top _
      | ub => exact TRep.ub _
      | lnil => exact TRep.lnil _ _
      | lemp => exact TRep.lemp _ _ _
      | lst es n cells a cap f hs hb hA hn hc h1 hr => exact TRep.lst es n cells a cap f hs hb hA hn hc h1 hr

theorem tcsK_fcsK : ∀ {ts : List CT} {cells : List PV} {off : Nat} {K : List PV → Option R}, tcsK ts cells off K = some r → fcsK ts cells off K = some r
  | [], _, _, _, h => h
  | .int k :: ts, cells, off, K, h => by
    obtain ⟨n, hp, h⟩ := intK_inv (show intK k (cells.getD off .top) _ = some r from h)
    show intK k _ _ = _
    rw [hp]
    simp only [intK, if_true]
    exact tcsK_fcsK h
  | .bool :: ts, cells, off, K, h => by
    obtain ⟨n, hp, h⟩ := boolK_inv (show boolK (cells.getD off .top) _ = some r from h)
    show boolK _ _ = _
    rw [hp]
    exact tcsK_fcsK h
  | .str :: ts, cells, off, K, h => by
    obtain ⟨n, hp, h⟩ := strK_inv (show strK (cells.getD off .top) _ = some r from h)
    show strK _ _ = _
    rw [hp]
    exact tcsK_fcsK h
  | .sl es :: ts, cells, off, K, h => by
    obtain ⟨z, n, c, h, hp⟩ := lsK_inv (show lsK es (cells.getD off .top) _ = some r from h)
    change fcK (.sl es) (cells.getD off .top) (fun c => fcsK ts cells (off + 1) fun r => K (c :: r)) = some r
    unfold fcK
    dsimp only
    unfold fsK
    rcases hp with hp | ⟨hp, rfl, rfl, rfl⟩
    · rw [hp]
      simp only [lsK, Nat.beq_refl, cond_true]
      exact tcsK_fcsK h
    · rw [hp]
      exact tcsK_fcsK h
  | .any :: ts, cells, off, K, h => by
    obtain ⟨f, a, b, hp, h⟩ := fnK_inv (show fnK (cells.getD off .top) (fun v => tcsK ts cells (off + 1) fun r => K (.sc v :: r)) = some r from h)
    show fnK (cells.getD off .top) (fun v => fcsK ts cells (off + 1) fun r => K (.sc v :: r)) = some r
    rw [hp]
    exact tcsK_fcsK h
theorem loadK_0 {hp : Nat → Option Box} {t : TypeId} {x : PV} {K : PV → Option R} (h : loadK P (rd hp) (rda hp) t x K = some r) : loadK0 P (rd hp) t x K = some r := by
  unfold loadK at h
  unfold loadK0
  split at h
  · rename_i id off
    obtain ⟨hb, h⟩ := chk_inv h
    rw [hb]
    show optK _ _ = _
    split at h
    · rename_i c hc
      obtain ⟨f, hbx⟩ := rda_inv hc
      have : rd hp id = some c := by unfold rd; rw [hbx]
      rw [this]
      exact tcsK_fcsK h
    · exact h
  · exact h
  · cases h

/-- What a load gives. -/
theorem load_val (h : Sim N w0 X0 Y β s a w) {t : TypeId} {x : PV} {u : Value} (hx : VRep w (Aof s.hp β Y) β x u) {K : PV → Option R} (hk : loadK P (rd s.hp) (rda s.hp) t x K = some r) :
    ∃ v ad val, K v = some r ∧ u = .pointer (some ad) ∧ (loadVar t ad).run P w = .ok val w ∧ VRep w (Aof s.hp β Y) β v val ∧ ∀ i ∈ refs v, s.hp i ≠ none := by
  replace hk := loadK_0 hk
  unfold loadK0 at hk
  split at hk
  · rename_i id off
    obtain ⟨hok, hk⟩ := chk_inv hk
    obtain ⟨c, hr, hk⟩ := optK_inv hk
    obtain ⟨cs, hk, hl, hna, hc⟩ := fcsK_inv hk
    obtain ⟨b, ob, hβ, hax⟩ := hx
    have hcell : ∀ (j : Nat) q, cs[j]? = some q → ∃ v, w.cell? ((⟨b, ob + off, none⟩ : Addr).add j) = some v ∧ CRep w (Aof s.hp β Y) β q v := by
      intro j q hq
      obtain ⟨p, hp, _, _, hpv⟩ := hc j q hq
      obtain ⟨v, hv, hcv⟩ := box_cell h hr hβ hp
      exact ⟨v, by rw [add_mk, Nat.add_assoc]; exact hv, (hpv _ _ _ _ hcv).1⟩
    have hrefs : ∀ q ∈ cs, ∀ i ∈ refsC q, s.hp i ≠ none := by
      intro q hq i hi
      obtain ⟨j, hj⟩ := List.mem_iff_getElem?.1 hq
      obtain ⟨p, hp, _, hpr, _⟩ := hc j q hj
      rcases rd_inv hr with hb | ⟨f, hb⟩
      · exact h.wfB id c hb p (List.mem_of_getElem? hp) i (hpr i hi)
      · obtain ⟨v, hv, hcv⟩ := box_cell h hr hβ hp
        exfalso
        have hp' := hpr i hi
        rcases h.box id _ hb with ⟨_, rfl⟩ | ⟨b', o', h1, h2, _⟩
        · simp at hp
        · obtain ⟨v', _, _, ht⟩ := h2 _ p hp
          cases ht <;> cases hp'
    rcases mkV_inv hk with ⟨hagg, hk2⟩ | ⟨hagg, q, rfl, hk2⟩
    · obtain ⟨val, hlv, hv⟩ := load_run hok hl hna hcell (.inl ⟨hagg, rfl⟩)
      refine ⟨_, _, val, hk2, hax, hlv, hv, fun i hi => ?_⟩
      obtain ⟨q, hq, hi⟩ := List.mem_flatMap.1 (show i ∈ cs.flatMap refsC from hi)
      exact hrefs q hq i hi
    · obtain ⟨val, hlv, hv⟩ := load_run hok hl hna hcell (.inr ⟨hagg, rfl⟩)
      refine ⟨_, _, val, hk2, hax, hlv, hv, fun i hi => hrefs q (by simp) i ?_⟩
      have hn := hna q (by simp)
      rw [refs_C hn.1 hn.2] at hi
      exact hi
  · rename_i c off
    obtain ⟨hok, hk⟩ := chk_inv hk
    obtain ⟨cs, hk, hl, hc⟩ := tcsK_inv hk
    obtain ⟨ad, hax, hs, hb, hA, hrd⟩ := hx
    have hna : ∀ q ∈ cs, (∀ x, q ≠ .agg x) ∧ (∀ x, q ≠ .tup x) := by
      intro q hq
      obtain ⟨j, hj⟩ := List.mem_iff_getElem?.1 hq
      exact ⟨isT_agg (hc j q hj).1, isT_tup (hc j q hj).1⟩
    have hcell : ∀ (j : Nat) q, cs[j]? = some q → ∃ v, w.cell? ((ad.add off).add j) = some v ∧ CRep w (Aof s.hp β Y) β q v := by
      intro j q hq
      obtain ⟨hT, p, hp, hpT, hpv⟩ := hc j q hq
      obtain ⟨v, hv, _, ht⟩ := hrd (off + j) p hp
      exact ⟨v, by rw [add_add]; exact hv, (CRep_isT hT).2 (hpv w (Aof s.hp β Y) β v ((CRep_isT hpT).2 ht)).1⟩
    have hrefs : ∀ q ∈ cs, refsC q = [] := by
      intro q hq
      obtain ⟨j, hj⟩ := List.mem_iff_getElem?.1 hq
      exact refsC_isT (hc j q hj).1
    rcases mkV_inv hk with ⟨hagg, hk2⟩ | ⟨hagg, q, rfl, hk2⟩
    · obtain ⟨val, hlv, hv⟩ := load_run hok hl hna hcell (.inl ⟨hagg, rfl⟩)
      refine ⟨_, _, val, hk2, hax, hlv, hv, fun i hi => ?_⟩
      obtain ⟨q, hq, hi⟩ := List.mem_flatMap.1 (show i ∈ cs.flatMap refsC from hi)
      rw [hrefs q hq] at hi; cases hi
    · obtain ⟨val, hlv, hv⟩ := load_run hok hl hna hcell (.inr ⟨hagg, rfl⟩)
      refine ⟨_, _, val, hk2, hax, hlv, hv, fun i hi => ?_⟩
      have hn := hna q (by simp)
      rw [refs_C hn.1 hn.2, hrefs q (by simp)] at hi
      cases hi
  · cases hk

theorem load_gives (h : Sim N w0 X0 Y β s a w) {t : TypeId} {x : Operand} (ho : o.op = .load t x) {K : PV → Option R} (hk : loadK P (rd s.hp) (rda s.hp) t (opv s.tm x) K = some r) :
    ∃ v, K v = some r ∧ Gives P a w o Y β s v [] [] := by
  obtain ⟨v, ad, val, hk1, hax, hl, hv, hr⟩ := load_val h (opv_rep h x) hk
  refine ⟨v, hk1, gives_pure ?_ hv hr⟩
  unfold execOp
  rw [ho]
  simp [Instr.loadAt, Instr.sureAddr, hax, hl]

theorem addrK_inv {x : PV} {d : Nat} {K : PV → Option R} (h : addrK x d K = some r) : (∃ id off, x = .ptr id off ∧ K (.ptr id (off + d)) = some r) ∨ ∃ c off, x = .iptr c off ∧ K (.iptr c (off + d)) = some r := by
  unfold addrK at h
  split at h
  · exact .inl ⟨_, _, rfl, h⟩
  · exact .inr ⟨_, _, rfl, h⟩
  · cases h

/-- An address moved on. -/
theorem addr_gives (h : Sim N w0 X0 Y β s a w) {x : Operand} {d : Nat} {K : PV → Option R} (hk : addrK (opv s.tm x) d K = some r)
    (hrun : ∀ ad : Addr, a.eval x = .pointer (some ad) → (execOp a.eval o).run P w = .ok (.value (.pointer (some (ad.add d)))) w) : ∃ v, K v = some r ∧ Gives P a w o Y β s v [] [] := by
  have hx := opv_rep h x
  have hxr := opv_refs h x
  rcases addrK_inv hk with ⟨id, off, e, hk⟩ | ⟨c, off, e, hk⟩
  · rw [e] at hx hxr
    obtain ⟨b, ob, hβ, hax⟩ := hx
    refine ⟨_, hk, gives_pure (hrun _ hax) ⟨b, ob, hβ, by rw [add_mk, Nat.add_assoc]⟩ hxr⟩
  · rw [e] at hx
    obtain ⟨ad, hax, h1, h2, h3, h4⟩ := hx
    exact ⟨_, hk, gives_pure (hrun _ hax) ⟨ad, by rw [add_add], h1, h2, h3, h4⟩ (by intro i hi; cases hi)⟩

theorem nilCheck_gives (h : Sim N w0 X0 Y β s a w) {x : Operand} (ho : o.op = .nilCheck x) {K : PV → Option R} (hk : addrK (opv s.tm x) 0 K = some r) : ∃ v, K v = some r ∧ Gives P a w o Y β s v [] [] := by
  refine addr_gives h hk fun ad hax => ?_
  unfold execOp
  rw [ho]
  simp [hax, Addr.add]

theorem fieldOff_inv {t : TypeId} {f : Nat} {q : Nat × TypeId} (h : fieldOff P t f = some q) : ∃ fs g, P.underlying t = some (.struct fs) ∧ fs[f]? = some g ∧ q = (g.offset, g.type) := by
  unfold fieldOff at h
  split at h
  · rename_i fs e
    cases hg : fs[f]? with
    | none => rw [hg] at h; cases h
    | some g => rw [hg] at h; simp at h; exact ⟨fs, g, e, hg, h.symm⟩
  · cases h

theorem fieldAddr_gives (h : Sim N w0 X0 Y β s a w) {t : TypeId} {x : Operand} {f : Nat} (ho : o.op = .fieldAddr t x f) {K : PV → Option R}
    (hk : (optK (fieldOff P t f) fun q => chk (Nat.ble 1 (szOf P q.2)) (addrK (opv s.tm x) q.1 K)) = some r) : ∃ v, K v = some r ∧ Gives P a w o Y β s v [] [] := by
  obtain ⟨q, hq, hk⟩ := optK_inv hk
  obtain ⟨hs, hk⟩ := chk_inv hk
  obtain ⟨fs, g, hu, hg, rfl⟩ := fieldOff_inv hq
  have hs : 1 ≤ szOf P g.type := Nat.le_of_ble_eq_true hs
  have hsz := szOf_pos (P := P) (t := g.type) rfl (by omega)
  refine addr_gives h hk fun ad hax => ?_
  unfold execOp
  rw [ho]
  have hne : ¬ szOf P g.type = 0 := by omega
  simp [Instr.fieldAt, run_underlying hu, hg, Instr.sureAddr, hax, fieldPlace, run_sizeOf hsz, hne]
end

end Go.Proofs.Ytaphhfehcbkfkaa.Pv

namespace Go.Proofs.Ytaphhfehcbkfkaa.Pv
open Go.RowKit

section
variable {R : Type} {r : R} {P : Program} {N : Nat} {w0 : World} {X0 : Lend} {Y : Nat → Prop} {β β' : Bt} {s : St} {a : Act} {w w' : World} {o : Oper} {A : Nat → Prop}

/-- A part of a row of cells, as a value. -/
theorem part_gives (h : Sim N w0 X0 Y β s a w) {t : TypeId} {cs : List PV} {vs : List Value} {off : Nat} {K : PV → Option R} {x : Operand} (hx : opv s.tm x = .agg cs) (hv : All2 (CRep w (Aof s.hp β Y) β) cs vs)
    (hk : chk (ctyOk P t) (fcsK (cty P t) cs off fun c => mkV (isAggB P t) c K) = some r)
    (hrun : ∀ val, (part t ⟨vs⟩ off).run P w = .ok val w → (execOp a.eval o).run P w = .ok (.value val) w) : ∃ v, K v = some r ∧ Gives P a w o Y β s v [] [] := by
  obtain ⟨hok, hk⟩ := chk_inv hk
  obtain ⟨⟨d, hd⟩, hl, hi⟩ := ctyOk_inv hok
  obtain ⟨qs, hk, hql, hna, hq⟩ := fcsK_inv hk
  have hxr := opv_refs h x
  rw [hx] at hxr
  have hcell : ∀ (j : Nat) q, qs[j]? = some q → ∃ v, vs[off + j]? = some v ∧ CRep w (Aof s.hp β Y) β q v := by
    intro j q hj
    obtain ⟨p, hp, _, _, hpv⟩ := hq j q hj
    obtain ⟨v, hv', hc⟩ := hv.get hp
    exact ⟨v, hv', (hpv _ _ _ _ hc).1⟩
  have hrefs : ∀ q ∈ qs, ∀ i ∈ refsC q, s.hp i ≠ none := by
    intro q hqm i hi
    obtain ⟨j, hj⟩ := List.mem_iff_getElem?.1 hqm
    obtain ⟨p, hp, _, hpr, _⟩ := hq j q hj
    exact hxr i (List.mem_flatMap.2 ⟨p, List.mem_of_getElem? hp, hpr i hi⟩)
  rcases mkV_inv hk with ⟨hagg, hk2⟩ | ⟨hagg, q, rfl, hk2⟩
  · have hle : szOf P t = 0 ∨ off + szOf P t ≤ vs.length := by
      rcases Nat.eq_zero_or_pos (szOf P t) with h0 | h0
      · exact .inl h0
      · obtain ⟨v, hv', _⟩ := hcell (szOf P t - 1) _ (List.getElem?_eq_getElem (by omega))
        have : off + (szOf P t - 1) < vs.length := by
          rcases Nat.lt_or_ge (off + (szOf P t - 1)) vs.length with h | h
          · exact h
          · rw [List.getElem?_eq_none h] at hv'; cases hv'
        exact .inr (by omega)
    refine ⟨_, hk2, gives_pure (hrun (.agg ⟨(vs.drop off).take (szOf P t)⟩) ?_) ⟨(vs.drop off).take (szOf P t), rfl, ?_⟩ fun i hi => ?_⟩
    · simp only [part, Sem.run_bind, run_isAgg hd, hagg, Result.andThen_ok, if_true, run_sizeOf hi]
      simp [List.extract_eq_take_drop]
    · refine All2.of_at ?_ fun i c u hc hu => ?_
      · simp only [List.length_take, List.length_drop]
        omega
      · obtain ⟨v, hv', hcv⟩ := hcell i c hc
        have hlt : i < szOf P t := by
          rcases Nat.lt_or_ge i qs.length with h | h
          · omega
          · rw [List.getElem?_eq_none h] at hc; cases hc
        rw [List.getElem?_take_of_lt hlt, List.getElem?_drop, hv'] at hu
        cases hu
        exact hcv
    · obtain ⟨q, hqm, hi⟩ := List.mem_flatMap.1 (show i ∈ qs.flatMap refsC from hi)
      exact hrefs q hqm i hi
  · obtain ⟨v, hv', hcv⟩ := hcell 0 q rfl
    have hn := hna q (by simp)
    refine ⟨_, hk2, gives_pure (hrun v ?_) ((VRep_V1 hn.2).2 ((V1Rep_C hn.1).2 hcv)) fun i hi => ?_⟩
    · simp only [part, Sem.run_bind, run_isAgg hd, hagg, Result.andThen_ok]
      rw [Nat.add_zero] at hv'
      simp [hv']
    · rw [refs_C hn.1 hn.2] at hi
      exact hrefs q (by simp) i hi

theorem field_gives (h : Sim N w0 X0 Y β s a w) {t : TypeId} {x : Operand} {f : Nat} (ho : o.op = .field t x f) {K : PV → Option R}
    (hk : (optK (fieldOff P t f) fun q => chk (ctyOk P q.2) <| aggK (opv s.tm x) fun cs => fcsK (cty P q.2) cs q.1 fun c => mkV (isAggB P q.2) c K) = some r) : ∃ v, K v = some r ∧ Gives P a w o Y β s v [] [] := by
  obtain ⟨q, hq, hk⟩ := optK_inv hk
  obtain ⟨hok, hk⟩ := chk_inv hk
  obtain ⟨cs, hx, hk⟩ := aggK_inv hk
  obtain ⟨fs, g, hu, hg, rfl⟩ := fieldOff_inv hq
  have hxv := opv_rep h x
  rw [hx] at hxv
  obtain ⟨vs, hax, hv⟩ := hxv
  refine part_gives (t := g.type) (off := g.offset) h hx hv (by rw [show ctyOk P g.type = true from hok]; exact hk) fun val hp => ?_
  unfold execOp
  rw [ho]
  simp [Instr.field, run_underlying hu, hg, asAgg, hax, hp]

theorem extract_gives (h : Sim N w0 X0 Y β s a w) {x : Operand} {i : Nat} (ho : o.op = .extract x i) {K : PV → Option R}
    (hk : (match opv s.tm x with | .tup vs => optK vs[i]? K | _ => none) = some r) : ∃ v, K v = some r ∧ Gives P a w o Y β s v [] [] := by
  have hx := opv_rep h x
  have hxr := opv_refs h x
  split at hk
  · rename_i ps e
    rw [e] at hx hxr
    obtain ⟨p, hp, hk⟩ := optK_inv hk
    obtain ⟨vs, hax, hv⟩ := hx
    obtain ⟨v, hv', hpv⟩ := hv.get hp
    have hntup : ∀ y, p ≠ .tup y := by
      rintro y rfl
      have hpv' : TRep _ _ (.tup y) v := hpv
      cases hpv'
    refine ⟨p, hk, gives_pure (val := v) ?_ ((VRep_V1 hntup).2 hpv) fun id hid => hxr id ?_⟩
    · unfold execOp
      rw [ho]
      simp [Instr.extract, hax, hv']
    · refine List.mem_flatMap.2 ⟨p, List.mem_of_getElem? hp, ?_⟩
      cases p <;> first | exact hid | exact absurd rfl (hntup _)
  · cases hk

/-- What a slice value of a frame is, in memory. -/
theorem slice_form {es : Nat} {p : PV} {z : Bool} {n : Nat} {c : List PV} {v : Value} (hp : p = .lst z es n c ∨ (p = .sc (.slice none 0 0) ∧ z = true ∧ n = 0 ∧ c = [])) (hv : VRep w A β p v) :
    (v = .slice none 0 0 ∧ n = 0 ∧ c = []) ∨ (∃ ad cap, v = .slice (some ad) n cap ∧ z = false ∧ n ≤ cap ∧ ad.spot = none ∧ ad.block < w.heap.size ∧ ¬ A ad.block ∧ RdT w A ad c) ∨ ∃ ad cap, v = .slice (some ad) 0 cap ∧ z = false ∧ n = 0 ∧ c = [] := by
  have hv' : CRep w A β p v := by rcases hp with rfl | ⟨rfl, _⟩ <;> exact hv
  have ht := ls_rep hp hv'
  cases ht with
  | lnil => exact .inl ⟨rfl, rfl, rfl⟩
  | lst _ _ _ ad cap f hs hb hA hn hc h1 hr => exact .inr (.inl ⟨ad, cap, rfl, rfl, hn, hs, hb, hA, fun j q hj => ⟨f j, hc j q hj, h1 j q hj, hr j q hj⟩⟩)
  | lemp _ ad cap => exact .inr (.inr ⟨ad, cap, rfl, rfl, rfl, rfl⟩)

theorem indexAddr_gives (h : Sim N w0 X0 Y β s a w) {t : TypeId} {x i : Operand} (ho : o.op = .indexAddr t x i) {K : PV → Option R}
    (hk : (anyIntK (opv s.tm i) fun _ n => indexAddrK P t (opv s.tm x) n K) = some r) : ∃ v, K v = some r ∧ Gives P a w o Y β s v [] [] := by
  obtain ⟨ik, n, hi, hk⟩ := anyIntK_inv hk
  have hai := opv_sc h hi
  have hx := opv_rep h x
  have hxr := opv_refs h x
  unfold indexAddrK at hk
  split at hk
  · rename_i len e hu
    obtain ⟨hz, hk⟩ := chk_inv hk
    obtain ⟨hb, hk⟩ := chk_inv hk
    simp only [Bool.and_eq_true, decide_eq_true_eq] at hb
    obtain ⟨inf, hinf⟩ := Option.isSome_iff_exists.1 hz
    refine addr_gives h hk fun ad hax => ?_
    unfold execOp
    rw [ho]
    simp [Instr.indexAt, asIntOf, hai, hax, run_underlying hu, Instr.sureAddr, hb.1, hb.2, sizeOf, typeInfo, hinf, szOf]
  · rename_i e hu
    obtain ⟨hz, hk⟩ := chk_inv hk
    obtain ⟨inf, hinf⟩ := Option.isSome_iff_exists.1 hz
    have hsz : szOf P e = inf.size := by simp [szOf, hinf]
    split at hk
    · rename_i id es off n' e'
      rw [e'] at hx hxr
      obtain ⟨hes, hk⟩ := chk_inv hk
      have hes := Nat.eq_of_beq_eq_true hes
      subst hes
      obtain ⟨hb, hk⟩ := chk_inv hk
      simp only [Bool.and_eq_true, decide_eq_true_eq] at hb
      rcases hx with ⟨_, _, rfl, _⟩ | ⟨b, ob, y, cap, hβ, hax, hy, _⟩
      · omega
      · have hy : y = ob + off := by rcases hy with hy | ⟨rfl, _⟩ <;> omega
        subst hy
        refine ⟨_, hk, gives_pure (val := .pointer (some ⟨b, ob + (off + n.toNat * szOf P e), none⟩)) ?_ ⟨b, ob, hβ, rfl⟩ hxr⟩
        unfold execOp
        rw [ho]
        simp [Instr.indexAt, asIntOf, hai, hax, run_underlying hu, hb.1, hb.2, sizeOf, typeInfo, hinf, hsz, add_mk, Nat.add_assoc]
    · obtain ⟨z, n', c, hk, hp⟩ := lsK_inv hk
      obtain ⟨hb, hk⟩ := chk_inv hk
      simp only [Bool.and_eq_true, decide_eq_true_eq] at hb
      rcases slice_form hp hx with ⟨_, rfl, _⟩ | ⟨ad, cap, hax, _, _, h1, h2, h3, h4⟩ | ⟨_, _, _, _, rfl, _⟩
      · omega
      rotate_left
      · omega
      · refine ⟨_, hk, gives_pure (val := .pointer (some (ad.add (n.toNat * szOf P e)))) ?_ ⟨ad, rfl, h1, h2, h3, h4⟩ (by intro i hi; cases hi)⟩
        unfold execOp
        rw [ho]
        simp [Instr.indexAt, asIntOf, hai, hax, run_underlying hu, hb.1, hb.2, sizeOf, typeInfo, hinf, hsz]
  · cases hk

theorem index_gives (h : Sim N w0 X0 Y β s a w) {t : TypeId} {x i : Operand} (ho : o.op = .index t x i) {K : PV → Option R}
    (hk : (anyIntK (opv s.tm i) fun _ n =>
      match P.underlying t with
      | some .string => strK (opv s.tm x) fun s => chk (decide (0 ≤ n)) (optK (s.data.toList[n.toNat]?) fun b => K (.sc (.int .u8 b.toNat)))
      | some (.array len e) => aggK (opv s.tm x) fun cs => chk (decide (0 ≤ n) && decide (n < len) && ctyOk P e) (fcsK (cty P e) cs (n.toNat * szOf P e) fun c => mkV (isAggB P e) c K)
      | _ => none) = some r) : ∃ v, K v = some r ∧ Gives P a w o Y β s v [] [] := by
  obtain ⟨ik, n, hi, hk⟩ := anyIntK_inv hk
  have hai := opv_sc h hi
  split at hk
  · rename_i hu
    obtain ⟨sb, hx, hk⟩ := strK_inv hk
    have hax := opv_sc h hx
    obtain ⟨h0, hk⟩ := chk_inv hk
    obtain ⟨b, hb, hk⟩ := optK_inv hk
    have h0 := of_decide_eq_true h0
    refine ⟨_, hk, gives_sc ?_⟩
    have hlt : n.toNat < sb.size := by
      rcases Nat.lt_or_ge n.toNat sb.data.toList.length with h | h
      · simpa using h
      · rw [List.getElem?_eq_none h] at hb; cases hb
    have hb' : sb[n.toNat] = b := by
      have : sb.data.toList[n.toNat]? = some sb[n.toNat] := by
        rw [List.getElem?_eq_getElem (by simpa using hlt)]
        rfl
      rw [hb] at this
      injection this with this
      exact this.symm
    unfold execOp
    rw [ho]
    simp [Instr.index, asIntOf, hai, hax, run_underlying hu, h0, hlt, hb']
  · rename_i len e hu
    obtain ⟨cs, hx, hk⟩ := aggK_inv hk
    obtain ⟨hb, hk⟩ := chk_inv hk
    simp only [Bool.and_eq_true, decide_eq_true_eq] at hb
    have hxv := opv_rep h x
    rw [hx] at hxv
    obtain ⟨vs, hax, hv⟩ := hxv
    obtain ⟨_, _, hsz⟩ := ctyOk_inv hb.2
    refine part_gives (t := e) (off := n.toNat * szOf P e) h hx hv (by rw [hb.2]; exact hk) fun val hp => ?_
    unfold execOp
    rw [ho]
    simp [Instr.index, asIntOf, hai, hax, run_underlying hu, hb.1.1, hb.1.2, run_sizeOf hsz, hp]
  · cases hk
end

end Go.Proofs.Ytaphhfehcbkfkaa.Pv

namespace Go.Proofs.Ytaphhfehcbkfkaa.Pv
open Go.RowKit

section
variable {R : Type} {r : R} {P : Program} {N : Nat} {w0 : World} {X0 : Lend} {Y : Nat → Prop} {β β' : Bt} {s : St} {a : Act} {w w' : World} {o : Oper} {A : Nat → Prop}

theorem boundK_inv (h : Sim N w0 X0 Y β s a w) {x : Option Operand} {dflt : Nat} {K : Nat → Option R} (hk : boundK (x.map (opv s.tm)) dflt K = some r) :
    ∃ l, K l = some r ∧ ((x = none ∧ l = dflt) ∨ ∃ y k, x = some y ∧ a.eval y = .int k (l : Int)) := by
  cases x with
  | none => exact ⟨dflt, hk, .inl ⟨rfl, rfl⟩⟩
  | some y =>
    obtain ⟨k, i, hi, hk⟩ := anyIntK_inv (show anyIntK (opv s.tm y) _ = some r from hk)
    obtain ⟨h0, hk⟩ := chk_inv hk
    have h0 := of_decide_eq_true h0
    exact ⟨i.toNat, hk, .inr ⟨y, k, rfl, by rw [opv_sc h hi, Int.toNat_of_nonneg h0]⟩⟩

theorem bounds_run {lo hi : Option Operand} {isS : Bool} {len cap l u : Nat} (hl : (lo = none ∧ l = 0) ∨ ∃ y k, lo = some y ∧ a.eval y = .int k (l : Int))
    (hu : (hi = none ∧ u = len) ∨ ∃ y k, hi = some y ∧ a.eval y = .int k (u : Int)) (h1 : l ≤ u) (h2 : u ≤ cap) :
    (Instr.sliceBounds isS len cap (lo.map a.eval) (hi.map a.eval) none).run P w = .ok (l, u, cap) w := by
  rcases hl with ⟨rfl, rfl⟩ | ⟨y, k, rfl, hy⟩ <;> rcases hu with ⟨rfl, rfl⟩ | ⟨y', k', rfl, hy'⟩
  · simp [Instr.sliceBounds]
  · simp [Instr.sliceBounds, Instr.sliceBound, asIntOf, hy', h2]
  · simp [Instr.sliceBounds, Instr.sliceBound, asIntOf, hy, h1]
  · simp [Instr.sliceBounds, Instr.sliceBound, asIntOf, hy, hy', h1, h2]

theorem run_sizeOf_szOf {e : TypeId} (h : (P.info? e).isSome = true) (w : World) : (sizeOf e).run P w = .ok (szOf P e) w := by
  obtain ⟨i, hi⟩ := Option.isSome_iff_exists.1 h
  exact run_sizeOf (by simp [szOf, hi]) w

theorem cell_bsz {b j : Nat} {v : Value} (h : w.cell? ⟨b, j, none⟩ = some v) : j < bsz w b := by
  unfold World.cell? at h
  unfold bsz
  split at h
  · rename_i c e fz hb
    simp only at hb
    rw [hb]
    simp only [Option.isSome_none, Bool.false_eq_true, if_false] at h
    rcases Nat.lt_or_ge j c.size with hlt | hge
    · exact hlt
    · rw [Array.getElem?_eq_none hge] at h; cases h
  · cases h

theorem slice_gives (h : Sim N w0 X0 Y β s a w) {t : TypeId} {x : Operand} {lo hi : Option Operand} (ho : o.op = .slice t x lo hi none) {K : PV → Option R}
    (hk : sliceK P (rd s.hp) t (opv s.tm x) (lo.map (opv s.tm)) (hi.map (opv s.tm)) K = some r) : ∃ v, K v = some r ∧ Gives P a w o Y β s v [] [] := by
  have hx := opv_rep h x
  have hxr := opv_refs h x
  unfold sliceK at hk
  split at hk
  · rename_i hu
    obtain ⟨sb, hxs, hk⟩ := strK_inv hk
    have hax := opv_sc h hxs
    obtain ⟨l, hk, hl⟩ := boundK_inv h hk
    obtain ⟨u, hk, hu'⟩ := boundK_inv h hk
    obtain ⟨hb, hk⟩ := chk_inv hk
    simp only [Bool.and_eq_true, decide_eq_true_eq] at hb
    refine ⟨_, hk, gives_sc ?_⟩
    unfold execOp
    rw [ho]
    simp [Instr.sliceAt, Instr.slice, run_underlying hu, hax, bounds_run hl hu' hb.1 hb.2]
  · rename_i e hu
    obtain ⟨hinf, hk⟩ := chk_inv hk
    split at hk
    · rename_i id es off n e'
      rw [e'] at hx hxr
      obtain ⟨hes, hk⟩ := chk_inv hk
      have hes := Nat.eq_of_beq_eq_true hes
      subst hes
      obtain ⟨l, hk, hl⟩ := boundK_inv h hk
      obtain ⟨u, hk, hu'⟩ := boundK_inv h hk
      obtain ⟨hb, hk⟩ := chk_inv hk
      simp only [Bool.and_eq_true, decide_eq_true_eq] at hb
      rcases hx with ⟨hβ, rfl, rfl, hax⟩ | ⟨b, ob, y, cap, hβ, hax, hy, hn, hcap, hlt⟩
      · have hu0 : u = 0 := by omega
        have hl0 : l = 0 := by omega
        subst hu0 hl0
        refine ⟨_, hk, gives_pure (val := .slice none 0 0) ?_ (.inl ⟨hβ, by simp, rfl, rfl⟩) hxr⟩
        unfold execOp
        rw [ho]
        simp [Instr.sliceAt, Instr.slice, run_underlying hu, hax, bounds_run hl hu' (Nat.le_refl 0) (Nat.le_refl 0), run_sizeOf_szOf hinf]
      · have hrun : (execOp a.eval o).run P w = .ok (.value (.slice (some (if cap = l then ⟨b, y, none⟩ else ⟨b, y + l * szOf P e, none⟩)) (u - l) (cap - l))) w := by
          unfold execOp
          rw [ho]
          have hbr := bounds_run (P := P) (w := w) (isS := true) hl hu' hb.1 (Nat.le_trans hb.2 hn)
          simp [Instr.sliceAt, Instr.slice, run_underlying hu, hax, hbr, run_sizeOf_szOf hinf, add_mk]
          split <;> rfl
        refine ⟨_, hk, gives_pure hrun (.inr ?_) hxr⟩
        by_cases hc : cap = l
        · rw [if_pos hc]
          refine ⟨b, ob, y, cap - l, hβ, rfl, ?_, by omega, by rw [hc, Nat.sub_self]; omega, hlt⟩
          by_cases h0 : l * szOf P e = 0
          · rw [h0, Nat.add_zero]
            rcases hy with hy | ⟨hn0, hoff⟩
            · exact .inl hy
            · exact .inr ⟨by omega, hoff⟩
          · exact .inr ⟨by omega, by omega⟩
        · rw [if_neg hc]
          refine ⟨b, ob, y + l * szOf P e, cap - l, hβ, rfl, ?_, by omega, ?_, hlt⟩
          · rcases hy with hy | ⟨hn0, hoff⟩
            · exact .inl (by omega)
            · exact .inr ⟨by omega, by omega⟩
          · have : l * szOf P e + (cap - l) * szOf P e = cap * szOf P e := by
              rw [← Nat.add_mul]
              congr 1
              omega
            omega
    · obtain ⟨z, n, c, hk, hp⟩ := lsK_inv hk
      obtain ⟨l, hk, hl⟩ := boundK_inv h hk
      obtain ⟨u, hk, hu'⟩ := boundK_inv h hk
      obtain ⟨hb, hk⟩ := chk_inv hk
      simp only [Bool.and_eq_true, decide_eq_true_eq] at hb
      rcases slice_form hp hx with ⟨hax, rfl, rfl⟩ | ⟨ad, cap, hax, rfl, hn, h1, h2, h3, h4⟩ | ⟨ad, cap, hax, rfl, rfl, rfl⟩
      rotate_right
      · have hu0 : u = 0 := by omega
        have hl0 : l = 0 := by omega
        subst hu0 hl0
        refine ⟨_, hk, gives_pure (val := .slice (some (if cap = 0 then ad else ad.add (0 * szOf P e))) (0 - 0) (cap - 0)) ?_ ?_ (by intro i hi; cases hi)⟩
        · unfold execOp
          rw [ho]
          have hbr := bounds_run (P := P) (w := w) (isS := true) hl hu' (Nat.le_refl 0) (Nat.zero_le cap)
          simp [Instr.sliceAt, Instr.slice, run_underlying hu, hax, hbr, run_sizeOf_szOf hinf]
          split <;> rfl
        · have : ((([] : List PV).drop (0 * szOf P e)).take ((0 - 0) * szOf P e)) = [] := by simp
          rw [this]
          exact TRep.lemp _ _ _
      · have hu0 : u = 0 := by omega
        have hl0 : l = 0 := by omega
        subst hu0 hl0
        refine ⟨_, hk, gives_pure (val := .slice none 0 0) ?_ ?_ (by intro i hi; cases hi)⟩
        · unfold execOp
          rw [ho]
          simp [Instr.sliceAt, Instr.slice, run_underlying hu, hax, bounds_run hl hu' (Nat.le_refl 0) (Nat.le_refl 0), run_sizeOf_szOf hinf]
        · have : ((([] : List PV).drop (0 * szOf P e)).take ((0 - 0) * szOf P e)) = [] := by simp
          rw [this]
          exact TRep.lnil z _
      · have hrun : (execOp a.eval o).run P w = .ok (.value (.slice (some (if cap = l then ad else ad.add (l * szOf P e))) (u - l) (cap - l))) w := by
          unfold execOp
          rw [ho]
          have hbr := bounds_run (P := P) (w := w) (isS := true) hl hu' hb.1 (Nat.le_trans hb.2 hn)
          simp [Instr.sliceAt, Instr.slice, run_underlying hu, hax, hbr, run_sizeOf_szOf hinf]
          split <;> rfl
        refine ⟨_, hk, gives_pure hrun ?_ (by intro i hi; cases hi)⟩
        by_cases hc : cap = l
        · rw [if_pos hc]
          have : u - l = 0 := by omega
          rw [this]
          simp only [Nat.zero_mul, List.take_zero]
          exact TRep.lst _ _ [] ad _ (fun _ => undef) h1 h2 h3 (by omega) (by simp) (by simp) (by simp)
        · rw [if_neg hc]
          have hcell : ∀ (j : Nat) q, ((c.drop (l * szOf P e)).take ((u - l) * szOf P e))[j]? = some q → c[l * szOf P e + j]? = some q := by
            intro j q hq
            rw [List.getElem?_take] at hq
            split at hq
            · rw [List.getElem?_drop] at hq; exact hq
            · cases hq
          refine TRep.lst _ _ _ (ad.add (l * szOf P e)) _ (fun j => (w.cell? (ad.add (l * szOf P e + j))).getD undef) (add_spot h1 _) (by rw [add_block]; exact h2) (by rw [add_block]; exact h3) (by omega) (fun j q hq => ?_) (fun j q hq => ?_) (fun j q hq => ?_)
          · obtain ⟨v, hv, _⟩ := h4 _ q (hcell j q hq)
            rw [add_add, hv]; rfl
          · obtain ⟨v, hv, h5, _⟩ := h4 _ q (hcell j q hq)
            rw [hv]; exact h5
          · obtain ⟨v, hv, _, ht⟩ := h4 _ q (hcell j q hq)
            rw [hv]; exact ht
  · rename_i n e hu
    obtain ⟨hinf, hk⟩ := chk_inv hk
    split at hk
    · rename_i id off e'
      rw [e'] at hx hxr
      obtain ⟨c, hrc, hk⟩ := optK_inv hk
      obtain ⟨hlen, hk⟩ := chk_inv hk
      simp only [Bool.and_eq_true, decide_eq_true_eq] at hlen
      obtain ⟨l, hk, hl⟩ := boundK_inv h hk
      obtain ⟨u, hk, hu'⟩ := boundK_inv h hk
      obtain ⟨hb, hk⟩ := chk_inv hk
      simp only [Bool.and_eq_true, decide_eq_true_eq] at hb
      obtain ⟨b, ob, hβ, hax⟩ := hx
      have hbs : ob + off + n * szOf P e ≤ bsz w b := by
        obtain ⟨v, hv, _⟩ := box_cell h hrc hβ (j := off + n * szOf P e - 1) (List.getElem?_eq_getElem (by omega))
        have := cell_bsz hv
        omega
      have hlt : b < w.heap.size := h.blt id b ob (hxr id (by simp [refs, refs1, refsC])) hβ
      have hrun : (execOp a.eval o).run P w = .ok (.value (.slice (some (if n = l then ⟨b, ob + off, none⟩ else ⟨b, ob + off + l * szOf P e, none⟩)) (u - l) (n - l))) w := by
        unfold execOp
        rw [ho]
        have hbr := bounds_run (P := P) (w := w) (isS := false) hl hu' hb.1 hb.2
        simp [Instr.sliceAt, Instr.sureAddr, run_underlying hu, hax, hbr, run_sizeOf_szOf hinf, add_mk]
      refine ⟨_, hk, gives_pure hrun (.inr ?_) hxr⟩
      by_cases hc : n = l
      · rw [if_pos hc]
        refine ⟨b, ob, ob + off, n - l, hβ, rfl, ?_, by omega, by rw [hc, Nat.sub_self]; omega, hlt⟩
        by_cases h0 : l * szOf P e = 0
        · rw [h0, Nat.add_zero]
          exact .inl rfl
        · exact .inr ⟨by omega, by omega⟩
      · rw [if_neg hc]
        refine ⟨b, ob, ob + off + l * szOf P e, n - l, hβ, rfl, .inl (by omega), by omega, ?_, hlt⟩
        have : l * szOf P e + (n - l) * szOf P e = n * szOf P e := by
          rw [← Nat.add_mul]
          congr 1
          omega
        omega
    · cases hk
  · cases hk
end

end Go.Proofs.Ytaphhfehcbkfkaa.Pv

namespace Go.Proofs.Ytaphhfehcbkfkaa.Pv
open Go.RowKit

section
variable {R : Type} {r : R} {P : Program} {N : Nat} {w0 : World} {X0 : Lend} {Y : Nat → Prop} {β β' : Bt} {s : St} {a : Act} {w w' : World} {o : Oper} {A : Nat → Prop}

theorem len_gives (h : Sim N w0 X0 Y β s a w) {c : Call} (ho : o.op = .call c) (hc : c.callee = .builtin .len) {K : PV → Option R}
    (hk : (consK c.args.toList fun x _ => consK c.argTypes.toList fun t _ => lenK P t (opv s.tm x) fun n => K (.sc (.int .i64 n))) = some r) : ∃ v, K v = some r ∧ Gives P a w o Y β s v [] [] := by
  obtain ⟨x, xs, hxs, hk⟩ := consK_inv hk
  obtain ⟨t, ts, hts, hk⟩ := consK_inv hk
  have hx := opv_rep h x
  have hargs : c.args = (x :: xs).toArray := by rw [← hxs]
  have htys : c.argTypes = (t :: ts).toArray := by rw [← hts]
  have hrun : ∀ n : Nat, (Builtin.len_ c.argTypes o.type (c.args.map a.eval)).run P w = .ok (.int .i64 n) w → (execOp a.eval o).run P w = .ok (.value (.int .i64 n)) w := by
    intro n hl
    unfold execOp
    rw [ho]
    simp only [resolve, hc, invoke, builtin, Sem.run_bind, Sem.run_pure, Result.andThen_ok, hl]
  unfold lenK at hk
  split at hk
  · rename_i hu
    obtain ⟨sb, hxs', hk⟩ := strK_inv hk
    have hax := opv_sc h hxs'
    refine ⟨_, hk, gives_sc (hrun _ ?_)⟩
    simp [Builtin.len_, hargs, htys, run_underlying hu, hax, goInt]
  · rename_i n e hu
    refine ⟨_, hk, gives_sc (hrun _ ?_)⟩
    simp [Builtin.len_, hargs, htys, run_underlying hu, goInt]
  · rename_i e hu
    split at hk
    · rename_i id es off n e'
      rw [e'] at hx
      obtain ⟨_, hk⟩ := chk_inv hk
      refine ⟨_, hk, gives_sc (hrun _ ?_)⟩
      rcases hx with ⟨_, _, rfl, hax⟩ | ⟨b, ob, y, cap, _, hax, _⟩ <;> simp [Builtin.len_, hargs, htys, run_underlying hu, hax, goInt]
    · obtain ⟨z, n, cc, hk, hp⟩ := lsK_inv hk
      refine ⟨_, hk, gives_sc (hrun _ ?_)⟩
      rcases slice_form hp hx with ⟨hax, rfl, _⟩ | ⟨ad, cap, hax, _⟩ | ⟨ad, cap, hax, _, rfl, _⟩ <;> simp [Builtin.len_, hargs, htys, run_underlying hu, hax, goInt]
  · cases hk

theorem cap_gives (h : Sim N w0 X0 Y β s a w) {c : Call} (ho : o.op = .call c) (hc : c.callee = .builtin .cap) {K : PV → Option R}
    (hk : (consK c.args.toList fun x _ => consK c.argTypes.toList fun t _ => capK P t (opv s.tm x) fun n => K (.sc (.int .i64 n))) = some r) : ∃ v, K v = some r ∧ Gives P a w o Y β s v [] [] := by
  obtain ⟨x, xs, hxs, hk⟩ := consK_inv hk
  obtain ⟨t, ts, hts, hk⟩ := consK_inv hk
  have hx := opv_rep h x
  have hargs : c.args = (x :: xs).toArray := by rw [← hxs]
  have htys : c.argTypes = (t :: ts).toArray := by rw [← hts]
  have hrun : ∀ n : Nat, (Builtin.cap_ c.argTypes o.type (c.args.map a.eval)).run P w = .ok (.int .i64 n) w → (execOp a.eval o).run P w = .ok (.value (.int .i64 n)) w := by
    intro n hl
    unfold execOp
    rw [ho]
    simp only [resolve, hc, invoke, builtin, Sem.run_bind, Sem.run_pure, Result.andThen_ok, hl]
  unfold capK at hk
  split at hk
  · rename_i e hu
    obtain ⟨z, n, cc, hk, hp⟩ := lsK_inv hk
    obtain ⟨hz, hk⟩ := chk_inv hk
    refine ⟨_, hk, gives_sc (hrun _ ?_)⟩
    rcases slice_form hp hx with ⟨hax, rfl, _⟩ | ⟨ad, cap, hax, hzf, _⟩ | ⟨ad, cap, hax, hzf, _, _⟩
    · simp [Builtin.cap_, hargs, htys, run_underlying hu, hax, goInt]
    · rw [hz] at hzf; cases hzf
    · rw [hz] at hzf; cases hzf
  · cases hk

theorem min_gives (h : Sim N w0 X0 Y β s a w) {c : Call} (ho : o.op = .call c) (hc : c.callee = .builtin .min) {K : PV → Option R}
    (hk : (consK c.args.toList fun x r => consK r fun y r' => nilK r' (minK (opv s.tm x) (opv s.tm y) K)) = some r) : ∃ v, K v = some r ∧ Gives P a w o Y β s v [] [] := by
  obtain ⟨x, xs, hxs, hk⟩ := consK_inv hk
  obtain ⟨y, ys, rfl, hk⟩ := consK_inv hk
  obtain ⟨rfl, hk⟩ := nilK_inv hk
  obtain ⟨k, n, hx, hk⟩ := anyIntK_inv hk
  obtain ⟨m, hy, hk⟩ := intK_inv hk
  have hargs : c.args = #[x, y] := by
    have : c.args = ([x, y] : List Operand).toArray := by rw [← hxs]
    exact this
  refine ⟨_, hk, gives_sc ?_⟩
  unfold execOp
  rw [ho]
  simp [resolve, hc, invoke, builtin, hargs, Builtin.min_, Builtin.min2, opv_sc h hx, opv_sc h hy]

theorem max_gives (h : Sim N w0 X0 Y β s a w) {c : Call} (ho : o.op = .call c) (hc : c.callee = .builtin .max) {K : PV → Option R}
    (hk : (consK c.args.toList fun x r => consK r fun y r' => nilK r' (maxK (opv s.tm x) (opv s.tm y) K)) = some r) : ∃ v, K v = some r ∧ Gives P a w o Y β s v [] [] := by
  obtain ⟨x, xs, hxs, hk⟩ := consK_inv hk
  obtain ⟨y, ys, rfl, hk⟩ := consK_inv hk
  obtain ⟨rfl, hk⟩ := nilK_inv hk
  obtain ⟨k, n, hx, hk⟩ := anyIntK_inv hk
  obtain ⟨m, hy, hk⟩ := intK_inv hk
  have hargs : c.args = #[x, y] := by
    have : c.args = ([x, y] : List Operand).toArray := by rw [← hxs]
    exact this
  refine ⟨_, hk, gives_sc ?_⟩
  unfold execOp
  rw [ho]
  simp [resolve, hc, invoke, builtin, hargs, Builtin.max_, Builtin.max2, opv_sc h hx, opv_sc h hy]

theorem unOp_gives (h : Sim N w0 X0 Y β s a w) {op : UnOp} {t : TypeId} {x : Operand} (ho : o.op = .unOp op t x) {K : PV → Option R} (hk : unK op (opv s.tm x) K = some r) :
    ∃ v, K v = some r ∧ Gives P a w o Y β s v [] [] := by
  unfold unK at hk
  split at hk
  · obtain ⟨b, hb, hk⟩ := boolK_inv hk
    refine ⟨_, hk, gives_sc ?_⟩
    unfold execOp
    rw [ho]
    simp [Op.unary, opv_sc h hb]
  · obtain ⟨k, n, hb, hk⟩ := anyIntK_inv hk
    refine ⟨_, hk, gives_sc ?_⟩
    unfold execOp
    rw [ho]
    simp [Op.unary, Op.intArith, opv_sc h hb]
  · obtain ⟨k, n, hb, hk⟩ := anyIntK_inv hk
    refine ⟨_, hk, gives_sc ?_⟩
    unfold execOp
    rw [ho]
    simp [Op.unary, Op.intBits, opv_sc h hb, inot]
  · cases hk

theorem intOp_run {op : BinOp} {k : IntKind} {m n : Int} {t : TypeId} {x y : Operand} {K : PV → Option R} (hs1 : op ≠ .shl) (hs2 : op ≠ .shr) (hk : intOpK op k m n K = some r) :
    ∃ v, K (.sc v) = some r ∧ (do eqGuard op t x y (.int k m) (.int k n); binOp op t (.int k m) (.int k n)).run P w = .ok v w := by
  cases op <;> first
    | exact absurd rfl hs1
    | exact absurd rfl hs2
    | (obtain ⟨hb, hk⟩ := chk_inv hk; have hb := of_decide_eq_true hb; exact ⟨_, hk, by simp [eqGuard, binOp, Op.intDiv, hb]⟩)
    | exact ⟨_, hk, by simp [eqGuard, binOp, -BitVec.toNat_and, -BitVec.toNat_or, -BitVec.toNat_xor, -gt_iff_lt, -ge_iff_le] <;> rfl⟩

/-- Two rows of bytes. -/
theorem strOp_run {op : BinOp} {m n : ByteArray} {t : TypeId} {x y : Operand} {K : PV → Option R} (hk : strOpK op m n K = some r) :
    ∃ v, K (.sc v) = some r ∧ (do eqGuard op t x y (.string m) (.string n); binOp op t (.string m) (.string n)).run P w = .ok v w := by
  cases op <;> first
    | cases hk
    | (obtain ⟨hb, hk⟩ := chk_inv hk; have hb := of_decide_eq_true hb; exact ⟨_, hk, by
        have hb' : ¬ (((m.size + n.size : Nat) : Int) > IntKind.i64.max) := by
          have : IntKind.i64.max = 9223372036854775807 := rfl
          rw [this]; omega
        simp only [eqGuard, binOp, Op.stringOp, if_neg hb']
        rfl⟩)
    | exact ⟨_, hk, by simp only [eqGuard, binOp, Op.stringOp, ByteArray.toList_eq]; rfl⟩
end

end Go.Proofs.Ytaphhfehcbkfkaa.Pv

namespace Go.Proofs.Ytaphhfehcbkfkaa.Pv
open Go.RowKit

section
variable {R : Type} {r : R} {P : Program} {N : Nat} {w0 : World} {X0 : Lend} {Y : Nat → Prop} {β β' : Bt} {s : St} {a : Act} {w w' : World} {o : Oper} {A : Nat → Prop}

theorem equal_bool {t : TypeId} (hu : P.underlying t = some .bool) (x y : Bool) : (Op.equal t (.bool x) (.bool y)).run P w = .ok (x == y) w := by
  have h : ∀ d, (Op.equalIn (d + 1) t (.bool x) (.bool y)).run P w = .ok (x == y) w := fun d => by simp [Op.equalIn, run_underlying hu]
  exact h 9999

theorem equal_nil {t e : TypeId} (hu : P.underlying t = some (.slice e)) (x : Option Addr) (n c : Nat) : (Op.equal t (.slice x n c) (.slice none 0 0)).run P w = .ok x.isNone w := by
  have h : ∀ d, (Op.equalIn (d + 1) t (.slice x n c) (.slice none 0 0)).run P w = .ok x.isNone w := fun d => by
    cases x <;> simp [Op.equalIn, run_underlying hu]
  exact h 9999

/-- One plain field of two structs. -/
theorem equal_plain {t : TypeId} (d : Nat) {v u : Value} (hv : (∃ k m n, P.underlying t = some (.int k) ∧ v = .int k m ∧ u = .int k n) ∨ (∃ m n, P.underlying t = some .bool ∧ v = .bool m ∧ u = .bool n) ∨ ∃ m n, P.underlying t = some .string ∧ v = .string m ∧ u = .string n) {b : Bool}
    (hb : ∀ k m n, v = .int k m → u = .int k n → b = (m == n)) (hb' : ∀ m n, v = .bool m → u = .bool n → b = (m == n)) (hb'' : ∀ m n, v = .string m → u = .string n → b = (m == n)) : (Op.equalIn (d + 1) t v u).run P w = .ok b w := by
  rcases hv with ⟨k, m, n, hu, rfl, rfl⟩ | ⟨m, n, hu, rfl, rfl⟩ | ⟨m, n, hu, rfl, rfl⟩
  · rw [hb k m n rfl rfl]; simp [Op.equalIn, run_underlying hu]
  · rw [hb' m n rfl rfl]; simp [Op.equalIn, run_underlying hu]
  · rw [hb'' m n rfl rfl]; simp [Op.equalIn, run_underlying hu]

theorem part_plain {t : TypeId} {dsc : TypeDesc} (hu : P.underlying t = some dsc) (hd : isAggB P t = false) {xs : Array Value} {i : Nat} {v : Value} (hv : xs[i]? = some v) : (part t xs i).run P w = .ok v w := by
  simp only [part, Sem.run_bind, run_isAgg hu, hd, Result.andThen_ok]
  simp [hv]

theorem eq_loop (d : Nat) : ∀ (fs : List Field) (i : Nat) (xs ys : Array Value) (ps qs : List PV) (K : Bool → Option R), flatGo P fs i = true → eqsK (fs.map (fty P)) ps qs K = some r →
    (∀ (j : Nat) p, ps[j]? = some p → ∃ v, xs[i + j]? = some v ∧ CRep w A β p v) → (∀ (j : Nat) p, qs[j]? = some p → ∃ v, ys[i + j]? = some v ∧ CRep w A β p v) →
    ∃ b, K b = some r ∧ (forIn fs ((none, ()) : Option Bool × Unit) fun (f : Field) (_ : Option Bool × Unit) =>
            if f.name = "_" then pure (ForInStep.yield ((none, ()) : Option Bool × Unit))
            else do
              let x ← part f.type xs f.offset
              let y ← part f.type ys f.offset
              let e ← Op.equalIn (d + 1) f.type x y
              if e = false then pure (ForInStep.done ((some false, ()) : Option Bool × Unit)) else pure (ForInStep.yield ((none, ()) : Option Bool × Unit)) : Sem (Option Bool × Unit)).run P w = .ok (if b then (none, ()) else (some false, ())) w
  | [], i, xs, ys, ps, qs, K, _, hk, _, _ => by
    cases ps with
    | nil => cases qs with
      | nil => exact ⟨true, hk, by simp⟩
      | cons q qs => cases hk
    | cons p ps => cases hk
  | f :: fs, i, xs, ys, ps, qs, K, hfl, hk, hp, hq => by
    simp only [flatGo, Bool.and_eq_true] at hfl
    obtain ⟨⟨⟨hoff, hname⟩, hty⟩, hrest⟩ := hfl
    have hoff := Nat.eq_of_beq_eq_true hoff
    have hname' : f.name ≠ "_" := by simpa using hname
    -- the first cells
    cases ps with
    | nil =>
      simp only [List.map_cons] at hk
      cases hfty : fty P f <;> rw [hfty] at hk <;> cases hk
    | cons p ps =>
      cases qs with
      | nil =>
        simp only [List.map_cons] at hk
        cases hfty : fty P f <;> rw [hfty] at hk <;> cases hk
      | cons q qs =>
        obtain ⟨v, hv, hpv⟩ := hp 0 p rfl
        obtain ⟨u, hu, hqu⟩ := hq 0 q rfl
        rw [Nat.add_zero] at hv hu
        have main : ∃ b0 dsc, P.underlying f.type = some dsc ∧ isAggB P f.type = false ∧ (Op.equalIn (d + 1) f.type v u).run P w = .ok b0 w ∧ eqsK (fs.map (fty P)) ps qs (fun r => K (b0 && r)) = some r := by
          simp only [List.map_cons] at hk
          unfold fty at hk
          split at hk
          · rename_i k hun
            obtain ⟨m, hpm, hk1⟩ := intK_inv (show intK k p _ = some r from hk)
            obtain ⟨n, hqn, hk2⟩ := intK_inv hk1
            subst hpm hqn
            have hv' : v = .int k m := TRep.val (w := w) (A := A) hpv
            have hu' : u = .int k n := TRep.val (w := w) (A := A) hqu
            subst hv' hu'
            refine ⟨m == n, _, hun, by simp [isAggB, hun], equal_plain d (.inl ⟨k, m, n, hun, rfl, rfl⟩) ?_ ?_ ?_, hk2⟩
            · intro k' m' n' h1 h2; injection h1 with _ h1; injection h2 with _ h2; rw [h1, h2]
            · intro m' n' h1; cases h1
            · intro m' n' h1; cases h1
          · rename_i hun
            obtain ⟨m, hpm, hk1⟩ := boolK_inv (show boolK p _ = some r from hk)
            obtain ⟨n, hqn, hk2⟩ := boolK_inv hk1
            subst hpm hqn
            have hv' : v = .bool m := TRep.val (w := w) (A := A) hpv
            have hu' : u = .bool n := TRep.val (w := w) (A := A) hqu
            subst hv' hu'
            refine ⟨m == n, _, hun, by simp [isAggB, hun], equal_plain d (.inr (.inl ⟨m, n, hun, rfl, rfl⟩)) ?_ ?_ ?_, hk2⟩
            · intro k' m' n' h1; cases h1
            · intro m' n' h1 h2; injection h1 with h1; injection h2 with h2; rw [h1, h2]
            · intro m' n' h1; cases h1
          · rename_i hun
            obtain ⟨m, hpm, hk1⟩ := strK_inv (show strK p _ = some r from hk)
            obtain ⟨n, hqn, hk2⟩ := strK_inv hk1
            subst hpm hqn
            have hv' : v = .string m := TRep.val (w := w) (A := A) hpv
            have hu' : u = .string n := TRep.val (w := w) (A := A) hqu
            subst hv' hu'
            refine ⟨m == n, _, hun, by simp [isAggB, hun], equal_plain d (.inr (.inr ⟨m, n, hun, rfl, rfl⟩)) ?_ ?_ ?_, hk2⟩
            · intro k' m' n' h1; cases h1
            · intro m' n' h1; cases h1
            · intro m' n' h1 h2; injection h1 with h1; injection h2 with h2; rw [h1, h2]
          · cases hk
        obtain ⟨b0, dsc, hun, hagg, he, hk⟩ := main
        obtain ⟨b, hkb, hrun⟩ := eq_loop d fs (i + 1) xs ys ps qs _ hrest hk (fun j p' hj => by have := hp (j + 1) p' hj; rwa [Nat.add_assoc, Nat.add_comm 1 j]) (fun j p' hj => by have := hq (j + 1) p' hj; rwa [Nat.add_assoc, Nat.add_comm 1 j])
        refine ⟨b0 && b, hkb, ?_⟩
        have hpx : (part f.type xs f.offset).run P w = .ok v w := part_plain hun hagg (by rw [hoff]; exact hv)
        have hpy : (part f.type ys f.offset).run P w = .ok u w := part_plain hun hagg (by rw [hoff]; exact hu)
        cases b0
        · simp [List.forIn_cons, hname', hpx, hpy, he]
        · simp only [Bool.true_and]
          rw [← hrun]
          simp [List.forIn_cons, hname', hpx, hpy, he]

theorem struct_equalIn (d : Nat) {t : TypeId} {fs : Array Field} (hu : P.underlying t = some (.struct fs)) (hst : P.stoodInHeld t = false) (hfl : flatGo P fs.toList 0 = true) {xs ys : List PV} {vx vy : List Value}
    (hvx : All2 (CRep w A β) xs vx) (hvy : All2 (CRep w A β) ys vy) {K : Bool → Option R} (hk : eqsK (fs.toList.map (fty P)) xs ys K = some r) :
    ∃ b, K b = some r ∧ (Op.equalIn (d + 2) t (.agg ⟨vx⟩) (.agg ⟨vy⟩)).run P w = .ok b w := by
  obtain ⟨b, hkb, hrun⟩ := eq_loop (P := P) (w := w) (A := A) (β := β) d fs.toList 0 ⟨vx⟩ ⟨vy⟩ xs ys K hfl hk (fun j p hj => by
      obtain ⟨v, hv, hc⟩ := hvx.get hj
      exact ⟨v, by simpa using hv, hc⟩) (fun j p hj => by
      obtain ⟨v, hv, hc⟩ := hvy.get hj
      exact ⟨v, by simpa using hv, hc⟩)
  refine ⟨b, hkb, ?_⟩
  rw [Array.forIn_toList] at hrun
  rw [Op.equalIn]
  simp [run_underlying hu, hst]
  rw [hrun]
  cases b <;> simp

theorem struct_eq (h : Sim N w0 X0 Y β s a w) {t : TypeId} {fs : Array Field} {x y : Operand} {op : BinOp} (hop : op = .eql ∨ op = .neq) (hu : P.underlying t = some (.struct fs)) (hfl : flatOk P t fs = true) {xs ys : List PV}
    (hx : opv s.tm x = .agg xs) (hy : opv s.tm y = .agg ys) {K : Bool → Option R} (hk : eqsK (fs.toList.map (fty P)) xs ys K = some r) :
    ∃ b, K b = some r ∧ (do eqGuard op t x y (a.eval x) (a.eval y); binOp op t (a.eval x) (a.eval y)).run P w = .ok (.bool (if op = .eql then b else !b)) w := by
  have hxv := opv_rep h x
  have hyv := opv_rep h y
  rw [hx] at hxv
  rw [hy] at hyv
  obtain ⟨vx, hax, hvx⟩ := hxv
  obtain ⟨vy, hay, hvy⟩ := hyv
  simp only [flatOk, Bool.and_eq_true, Bool.not_eq_true'] at hfl
  obtain ⟨⟨hfl, hst⟩, heg⟩ := hfl
  obtain ⟨b, hkb, heq⟩ := struct_equalIn 9998 hu hst hfl hvx hvy hk
  have heq : (Op.equal t (.agg ⟨vx⟩) (.agg ⟨vy⟩)).run P w = .ok b w := heq
  refine ⟨b, hkb, ?_⟩
  rw [hax, hay]
  rcases hop with rfl | rfl
  · simp [eqGuard, binOp, heq, heg]
  · simp [eqGuard, binOp, heq, heg]

theorem binOp_gives (h : Sim N w0 X0 Y β s a w) {op : BinOp} {t ty : TypeId} {x y : Operand} (ho : o.op = .binOp op t x y ty) {K : PV → Option R}
    (hk : binAnyK P op t (opv s.tm x) (opv s.tm y) K = some r) : ∃ v, K v = some r ∧ Gives P a w o Y β s v [] [] := by
  have hrun : ∀ v, (do eqGuard op t x y (a.eval x) (a.eval y); binOp op t (a.eval x) (a.eval y)).run P w = .ok v w → (execOp a.eval o).run P w = .ok (.value v) w := by
    intro v hv
    unfold execOp
    rw [ho]
    simp only [Sem.run_bind] at hv ⊢
    rw [hv]
    rfl
  unfold binAnyK at hk
  split at hk
  · rename_i fs hu
    split at hk
    · obtain ⟨hfl, hk⟩ := chk_inv hk
      obtain ⟨xs, hx, hk⟩ := aggK_inv hk
      obtain ⟨ys, hy, hk⟩ := aggK_inv hk
      obtain ⟨b, hk, hr⟩ := struct_eq h (.inl rfl) hu hfl hx hy hk
      exact ⟨_, hk, gives_sc (hrun _ (by rw [hr]; rfl))⟩
    · obtain ⟨hfl, hk⟩ := chk_inv hk
      obtain ⟨xs, hx, hk⟩ := aggK_inv hk
      obtain ⟨ys, hy, hk⟩ := aggK_inv hk
      obtain ⟨b, hk, hr⟩ := struct_eq h (.inr rfl) hu hfl hx hy hk
      exact ⟨_, hk, gives_sc (hrun _ (by rw [hr]; rfl))⟩
    · cases hk
  · unfold binK at hk
    split at hk
    · rename_i k hu
      split at hk
      · obtain ⟨m, hx, hk⟩ := intK_inv hk
        obtain ⟨k2, n, hy, hk⟩ := anyIntK_inv hk
        obtain ⟨hb, hk⟩ := chk_inv hk
        have hb := of_decide_eq_true hb
        refine ⟨_, hk, gives_sc (hrun _ ?_)⟩
        have : ¬ n < 0 := by omega
        simp [eqGuard, binOp, Op.shift, opv_sc h hx, opv_sc h hy, this]
      · obtain ⟨m, hx, hk⟩ := intK_inv hk
        obtain ⟨k2, n, hy, hk⟩ := anyIntK_inv hk
        obtain ⟨hb, hk⟩ := chk_inv hk
        have hb := of_decide_eq_true hb
        refine ⟨_, hk, gives_sc (hrun _ ?_)⟩
        have : ¬ n < 0 := by omega
        simp [eqGuard, binOp, Op.shift, opv_sc h hx, opv_sc h hy, this]
      · rename_i hs1 hs2
        obtain ⟨m, hx, hk⟩ := intK_inv hk
        obtain ⟨n, hy, hk⟩ := intK_inv hk
        obtain ⟨v, hk, hr⟩ := intOp_run (P := P) (w := w) (t := t) (x := x) (y := y) hs1 hs2 hk
        exact ⟨_, hk, gives_sc (hrun _ (by rw [opv_sc h hx, opv_sc h hy]; exact hr))⟩
    · rename_i hu
      obtain ⟨m, hx, hk⟩ := strK_inv hk
      obtain ⟨n, hy, hk⟩ := strK_inv hk
      obtain ⟨v, hk, hr⟩ := strOp_run (P := P) (w := w) (t := t) (x := x) (y := y) hk
      exact ⟨_, hk, gives_sc (hrun _ (by rw [opv_sc h hx, opv_sc h hy]; exact hr))⟩
    · rename_i hu
      split at hk
      · obtain ⟨m, hx, hk⟩ := boolK_inv hk
        obtain ⟨n, hy, hk⟩ := boolK_inv hk
        refine ⟨_, hk, gives_sc (hrun _ ?_)⟩
        simp [eqGuard, binOp, opv_sc h hx, opv_sc h hy, equal_bool hu]
      · obtain ⟨m, hx, hk⟩ := boolK_inv hk
        obtain ⟨n, hy, hk⟩ := boolK_inv hk
        refine ⟨_, hk, gives_sc (hrun _ ?_)⟩
        simp [eqGuard, binOp, opv_sc h hx, opv_sc h hy, equal_bool hu]
      · cases hk
    · rename_i e hu
      have hx := opv_rep h x
      have nilQ : ∀ {e : Bool} {K' : PV → Option R}, nilQK e (opv s.tm x) K' = some r → ∃ q ad n c, K' q = some r ∧ a.eval x = .slice ad n c ∧ (q = .sc (.bool (if ad.isNone then e else !e)) ∨ q = .ub) := by
        intro e K' hq
        unfold nilQK at hq
        split at hq
        · rename_i e'
          exact ⟨_, none, 0, 0, hq, opv_sc h e', .inl rfl⟩
        · rename_i z es n c e'
          rcases slice_form (.inl e') hx with ⟨hax, rfl, _⟩ | ⟨ad, cap, hax, rfl, _⟩ | ⟨ad, cap, hax, rfl, rfl, _⟩
          · rcases brK_inv hq with ⟨_, hq⟩ | ⟨_, hq⟩
            · exact ⟨_, none, 0, 0, hq, hax, .inl rfl⟩
            · rcases brK_inv hq with ⟨hb, _⟩ | ⟨_, hq⟩
              · exact absurd (of_decide_eq_true hb) (by omega)
              · exact ⟨_, none, 0, 0, hq, hax, .inr rfl⟩
          · rcases brK_inv hq with ⟨hz, _⟩ | ⟨_, hq⟩
            · cases hz
            · rcases brK_inv hq with ⟨_, hq⟩ | ⟨_, hq⟩
              · exact ⟨_, some ad, n, cap, hq, hax, .inl rfl⟩
              · exact ⟨_, some ad, n, cap, hq, hax, .inr rfl⟩
          · rcases brK_inv hq with ⟨hz, _⟩ | ⟨_, hq⟩
            · cases hz
            · rcases brK_inv hq with ⟨hb, _⟩ | ⟨_, hq⟩
              · exact absurd (of_decide_eq_true hb) (by omega)
              · exact ⟨_, some ad, 0, cap, hq, hax, .inr rfl⟩
        · rename_i id es off n e'
          rw [e'] at hx
          rcases hx with ⟨_, _, rfl, hax⟩ | ⟨b, ob, y', cap, _, hax, _⟩
          · rcases brK_inv hq with ⟨hb, _⟩ | ⟨_, hq⟩
            · exact absurd (of_decide_eq_true hb) (by omega)
            · exact ⟨_, none, 0, 0, hq, hax, .inr rfl⟩
          · rcases brK_inv hq with ⟨_, hq⟩ | ⟨_, hq⟩
            · exact ⟨_, _, n, cap, hq, hax, .inl rfl⟩
            · exact ⟨_, _, n, cap, hq, hax, .inr rfl⟩
        · cases hq
      split at hk
      · rename_i hy
        obtain ⟨q, ad, n, c, hk, hax, hb⟩ := nilQ hk
        rcases hb with rfl | rfl
        · refine ⟨_, hk, gives_sc (hrun _ ?_)⟩
          cases ad <;> simp [eqGuard, binOp, hax, opv_sc h hy, equal_nil hu]
        · refine ⟨_, hk, gives_pure (val := .bool ad.isNone) (hrun _ ?_) (TRep.ub _) (by intro i hi; cases hi)⟩
          simp [eqGuard, binOp, hax, opv_sc h hy, equal_nil hu]
      · rename_i hy
        obtain ⟨q, ad, n, c, hk, hax, hb⟩ := nilQ hk
        rcases hb with rfl | rfl
        · refine ⟨_, hk, gives_sc (hrun _ ?_)⟩
          cases ad <;> simp [eqGuard, binOp, hax, opv_sc h hy, equal_nil hu]
        · refine ⟨_, hk, gives_pure (val := .bool !ad.isNone) (hrun _ ?_) (TRep.ub _) (by intro i hi; cases hi)⟩
          simp [eqGuard, binOp, hax, opv_sc h hy, equal_nil hu]
      · cases hk
    · cases hk
end

end Go.Proofs.Ytaphhfehcbkfkaa.Pv

namespace Go.Proofs.Ytaphhfehcbkfkaa.Pv
open Go.RowKit

section
variable {R : Type} {r : R} {P : Program} {N : Nat} {w0 : World} {X0 : Lend} {Y : Nat → Prop} {β β' : Bt} {s : St} {a : Act} {w w' : World} {o : Oper} {A : Nat → Prop}

theorem bytesOf_inv : ∀ {c : List PV} {l : List UInt8}, bytesOf c = some l → ∃ ns : List Int, c = ns.map (fun n => .sc (.int .u8 n)) ∧ l = ns.map fun n => n.toNat.toUInt8
  | [], l, h => ⟨[], rfl, by simp [bytesOf] at h; subst h; rfl⟩
  | p :: c, l, h => by
    unfold bytesOf at h
    split at h
    · rename_i e; cases e
    · rename_i n r e
      cases e
      cases hr : bytesOf c with
      | none => rw [hr] at h; cases h
      | some l' =>
        rw [hr] at h
        simp at h
        obtain ⟨ns, rfl, rfl⟩ := bytesOf_inv hr
        exact ⟨n :: ns, rfl, h.symm⟩
    · cases h

theorem foldl_push_ints : ∀ (ns : List Int) (b : ByteArray), ns.foldl (fun r n => r.push (UInt8.ofNat n.toNat)) b = ⟨b.data ++ (ns.map fun n => n.toNat.toUInt8).toArray⟩
  | [], b => by simp
  | n :: ns, b => by
    simp only [List.foldl_cons]
    rw [foldl_push_ints ns]
    simp [ByteArray.push]

theorem slcK_inv (h : Sim N w0 X0 Y β s a w) {es : Nat} {x : Operand} {K : Nat → List PV → Option R} (hk : slcK (rda s.hp) es (opv s.tm x) K = some r) :
    ∃ n c, K n c = some r ∧ ((a.eval x = .slice none 0 0 ∧ n = 0 ∧ c = []) ∨ ∃ ad cap, a.eval x = .slice (some ad) n cap ∧ n ≤ cap ∧ (c = [] ∨ ad.block < w.heap.size) ∧ RdT w (Aof s.hp β Y) ad c) := by
  have hx := opv_rep h x
  have hxr := opv_refs h x
  unfold slcK at hk
  split at hk
  · rename_i id es' off n e
    rw [e] at hx hxr
    cases hb : Nat.beq es' es
    · rw [hb] at hk; cases hk
    · rw [hb] at hk
      obtain ⟨c, hc, hk⟩ := optK_inv (show optK _ _ = some r from hk)
      obtain ⟨hl, hk⟩ := chk_inv hk
      have hl := of_decide_eq_true hl
      obtain ⟨f, hbox⟩ := rda_inv hc
      refine ⟨_, _, hk, ?_⟩
      rcases hx with ⟨_, rfl, rfl, hax⟩ | ⟨b, ob, y, cap, hβ, hax, hy, hn, _, hlt⟩
      · exact .inl ⟨hax, rfl, by simp⟩
      · refine .inr ⟨_, cap, hax, hn, .inr hlt, fun j p hj => ?_⟩
        have hpos : 0 < n * es := by
          rcases Nat.eq_zero_or_pos (n * es) with h0 | h0
          · rw [h0] at hj; simp at hj
          · exact h0
        have hn0 : n ≠ 0 := by rintro rfl; simp at hpos
        have hy : y = ob + off := by rcases hy with hy | ⟨h0, _⟩ <;> omega
        subst hy
        rw [List.getElem?_take] at hj
        split at hj
        · rw [List.getElem?_drop] at hj
          rcases h.box id _ hbox with ⟨h1, _⟩ | ⟨b', o', h1, h2, _⟩
          · rw [hβ] at h1; cases h1
          · rw [hβ] at h1; simp at h1; obtain ⟨rfl, rfl⟩ := h1
            obtain ⟨v, hv, h3, ht⟩ := h2 (off + j) p hj
            rw [add_mk] at hv
            exact ⟨v, by rw [add_mk, Nat.add_assoc]; exact hv, h3, ht⟩
        · cases hj
  · obtain ⟨z, n, c, hk, hp⟩ := lsK_inv hk
    refine ⟨n, c, hk, ?_⟩
    rcases slice_form hp hx with h1 | ⟨ad, cap, hax, _, hn, h1, h2, _, h4⟩ | ⟨ad, cap, hax, _, rfl, rfl⟩
    · exact .inl h1
    · exact .inr ⟨ad, cap, hax, hn, .inr h2, h4⟩
    · exact .inr ⟨ad, cap, hax, Nat.zero_le _, .inl rfl, fun j c hj => by simp at hj⟩

theorem str_cells (b : ByteArray) (j : Nat) (p : PV) (h : (strCells b)[j]? = some p) : ∃ x, b.data[j]? = some x ∧ p = .sc (.int .u8 x.toNat) := by
  unfold strCells at h
  rw [List.getElem?_map] at h
  cases hx : b.data.toList[j]? with
  | none => rw [hx] at h; cases h
  | some x =>
    rw [hx] at h
    simp at h
    exact ⟨x, by simpa using hx, h.symm⟩

theorem conv_gives (h : Sim N w0 X0 Y β s a w) {src dst : TypeId} {x : Operand} (ho : o.op = .convert src dst x) {d : Nat} {K : PV → List (Nat × Box) → Option R}
    (hk : convK P (rda s.hp) d src dst (opv s.tm x) K = some r) : ∃ v nw, K v nw = some r ∧ Gives P a w o Y β s v [] nw := by
  have hrun : ∀ v w', (convert src dst (a.eval x)).run P w = .ok v w' → (execOp a.eval o).run P w = .ok (.value v) w' := by
    intro v w' hv
    unfold execOp
    rw [ho]
    simp [hv]
  unfold convK at hk
  split at hk
  · rename_i k hu
    obtain ⟨hs, hk⟩ := chk_inv hk
    obtain ⟨k', n, hx, hk⟩ := anyIntK_inv hk
    exact ⟨_, _, hk, gives_sc (hrun _ _ (by rw [opv_sc h hx]; obtain ⟨ds, hds⟩ := Option.isSome_iff_exists.1 hs; cases ds <;> simp [convert, run_underlying hds, run_underlying hu, Conv.intToInt]))⟩
  · rename_i hu
    split at hk
    · rename_i hs
      obtain ⟨b, hx, hk⟩ := strK_inv hk
      exact ⟨_, _, hk, gives_sc (hrun _ _ (by rw [opv_sc h hx]; simp [convert, run_underlying hs, run_underlying hu]))⟩
    · rename_i e hs
      split at hk
      · rename_i he
        obtain ⟨n, c, hk, hc⟩ := slcK_inv h hk
        obtain ⟨hl, hk⟩ := chk_inv hk
        have hl := of_decide_eq_true hl
        obtain ⟨l, hb, hk⟩ := optK_inv hk
        obtain ⟨ns, rfl, rfl⟩ := bytesOf_inv hb
        refine ⟨_, _, hk, gives_sc (hrun _ _ ?_)⟩
        rcases hc with ⟨hax, rfl, hn⟩ | ⟨ad, cap, hax, _, _, hrd⟩
        · have : ns = [] := by simpa using hn
          subst this
          rw [hax, run_convert_bytes_string w src dst e none 0 0 hs he hu]
          rfl
        · rw [hax, run_convert_bytes_string w src dst e _ _ _ hs he hu]
          have hld : (loadCells ad n).run P w = .ok (ns.map (Value.int .u8)).toArray w := by
            have := run_loadCells_list (P := P) w ad (ns.map (Value.int .u8)) (fun j v hj => by
              rw [List.getElem?_map] at hj
              cases hn : ns[j]? with
              | none => rw [hn] at hj; cases hj
              | some m =>
                rw [hn] at hj
                simp at hj
                subst hj
                obtain ⟨v, hv, _, ht⟩ := hrd j (.sc (.int .u8 m)) (by rw [List.getElem?_map, hn]; rfl)
                rw [ht.val] at hv
                exact hv)
            simp only [List.length_map] at this hl
            rw [hl] at this
            exact this
          rw [run_bytesToString w ad n cap ns hld, foldl_push_ints]
          simp
      · cases hk
    · cases hk
  · rename_i e hu
    split at hk
    · rename_i he hs
      obtain ⟨b, hx, hk⟩ := strK_inv hk
      obtain ⟨hsz, hk⟩ := chk_inv hk
      have hr := run_bytes_of_string (P := P) w src dst e b hs hu he
      rw [← opv_sc h hx] at hr
      have hcap : b.size ≤ grownCap w b.size 0 e := by
        unfold grownCap
        simp [Question.cut]
      have hsize : (bytesRow b (grownCap w b.size 0 e)).size = grownCap w b.size 0 e := by
        simp only [bytesRow, Array.size_append, Array.size_map, Array.size_replicate]
        have : b.data.size = b.size := rfl
        omega
      refine ⟨_, _, hk, gives_row (c := bytesRow b (grownCap w b.size 0 e)) (e := e) (by simp) (hrun _ _ hr) ?_ (fun j p hj => ?_) (.inr ⟨1, b.size, grownCap w b.size 0 e, rfl, rfl, hcap, by rw [hsize]; omega⟩)⟩
      · exact ⟨rfl, rfl, rfl, fun i hi => Below.heap_alloc w.drew _ i hi, by show (w.heap.push _).size = _; simp, _, by show (w.heap.push _)[w.heap.size]? = _; simp; rfl, .inr (Nat.le_refl _)⟩
      · obtain ⟨y, hy, rfl⟩ := str_cells b j p hj
        refine ⟨.int .u8 y.toNat, ?_, rfl, TRep.sc _⟩
        have hlt : j < b.data.size := by
          rcases Nat.lt_or_ge j b.data.size with h | h
          · exact h
          · rw [Array.getElem?_eq_none h] at hy; cases hy
        simp only [bytesRow]
        rw [Array.getElem?_append_left (by simpa using hlt), Array.getElem?_map, hy]
        rfl
    · cases hk
  · cases hk
end

end Go.Proofs.Ytaphhfehcbkfkaa.Pv

namespace Go.Proofs.Ytaphhfehcbkfkaa.Pv
open Go.RowKit

section
variable {R : Type} {r : R} {P : Program} {N : Nat} {w0 : World} {X0 : Lend} {Y : Nat → Prop} {β β' : Bt} {s : St} {a : Act} {w w' : World} {o : Oper} {A : Nat → Prop}

theorem repl_get : ∀ {n : Nat} {l : List PV} {j : Nat} {c : PV}, (repl n l)[j]? = some c → j < n * l.length ∧ l[j % l.length]? = some c
  | 0, l, j, c, h => by simp [repl] at h
  | n + 1, l, j, c, h => by
    have e : repl (n + 1) l = l ++ repl n l := by simp [repl, List.replicate_succ]
    rw [e] at h
    by_cases hj : j < l.length
    · rw [List.getElem?_append_left hj] at h
      refine ⟨by rw [Nat.add_mul]; omega, ?_⟩
      rw [Nat.mod_eq_of_lt hj]; exact h
    · rw [List.getElem?_append_right (by omega)] at h
      obtain ⟨h1, h2⟩ := repl_get h
      refine ⟨by rw [Nat.add_mul]; omega, ?_⟩
      rw [Nat.mod_eq_sub_mod (by omega)]; exact h2

theorem repl_len (n : Nat) (l : List PV) : (repl n l).length = n * l.length := by
  induction n with
  | zero => simp [repl]
  | succ n ih =>
    have e : repl (n + 1) l = l ++ repl n l := by simp [repl, List.replicate_succ]
    rw [e, List.length_append, ih, Nat.add_mul]; omega

theorem made_get {z : Array Value} {n j : Nat} (hj : j < n) {v : Value} (hv : z[j % z.size]? = some v) : (madeCells z n)[j]? = some v := by
  unfold madeCells
  rw [Array.getElem?_map, Array.getElem?_range, if_pos hj]
  simp only [Option.map_some]
  rw [getElem!_def, hv]

theorem make_gives (h : Sim N w0 X0 Y β s a w) {t : TypeId} {x y : Operand} (ho : o.op = .makeSlice t x y) {d : Nat} {K : PV → List Nat → List (Nat × Box) → Option R}
    (hk : (match P.underlying t with
      | some (.slice e) => anyIntK (opv s.tm x) fun _ n => anyIntK (opv s.tm y) fun _ m =>
          chk (decide (0 ≤ n) && decide (n ≤ m) && decide (m * ((P.info? e).map (·.bytes)).getD 0 ≤ 1099511627776) && decide (m ≤ 1099511627776))
            (zcellsK P e fun z => K (.view d (szOf P e) 0 n.toNat) [] [(d, .ar false (repl n.toNat z))])
      | _ => none) = some r) : ∃ v fz nw, K v fz nw = some r ∧ Gives P a w o Y β s v fz nw := by
  split at hk
  · rename_i e hu
    obtain ⟨k1, n, hx, hk⟩ := anyIntK_inv hk
    obtain ⟨k2, m, hy, hk⟩ := anyIntK_inv hk
    obtain ⟨hb, hk⟩ := chk_inv hk
    simp only [Bool.and_eq_true, decide_eq_true_eq] at hb
    obtain ⟨⟨⟨h0, hnm⟩, hbytes⟩, hm⟩ := hb
    obtain ⟨z, cs, hk, hz, hct, hl, hsz, hc⟩ := zcellsK_inv hk
    have hzc : ∃ i, P.info? e = some i ∧ i.zero = some z := by
      unfold zeroOf at hz
      cases hi : P.info? e with
      | none => rw [hi] at hz; cases hz
      | some i => rw [hi] at hz; exact ⟨i, rfl, hz⟩
    obtain ⟨i, hi, hzi⟩ := hzc
    have hisz : szOf P e = i.size := by simp [szOf, hi]
    simp only [hi, Option.map_some, Option.getD_some] at hbytes
    have hr := run_make (P := P) w t e i z hu hi hzi k1 k2 n m h0 hnm (by rw [Int.mul_comm]; omega) (by omega)
    have hrun : (execOp a.eval o).run P w = .ok (.value (.slice (some ⟨w.heap.size, 0, none⟩) n.toNat m.toNat)) (w.alloc (.cells (madeCells z.cells (m.toNat * i.size)) e)) := by
      unfold execOp
      rw [ho]
      simp [opv_sc h hx, opv_sc h hy, hr]
    have hzl : z.cells.size = szOf P e := by
      have : z.cells.toList.length = z.cells.size := by simp
      omega
    refine ⟨_, _, _, hk, gives_row (c := madeCells z.cells (m.toNat * i.size)) (e := e) (by simp) hrun (GrowB.alloc w _ e) (fun j p hj => ?_) (.inr ⟨szOf P e, n.toNat, m.toNat, rfl, rfl, by omega, by rw [size_madeCells, hisz]; exact Nat.le_refl _⟩)⟩
    obtain ⟨h1, h2⟩ := repl_get hj
    obtain ⟨hT, u, hu', h1', hv⟩ := hc _ p h2
    refine ⟨u, made_get ?_ ?_, h1', hv _ _⟩
    · have : n.toNat * cs.length ≤ m.toNat * i.size := by
        rw [hsz, hisz]
        exact Nat.mul_le_mul_right _ (by omega)
      omega
    · rw [hzl, ← hsz]
      simpa using hu'
  · cases hk

theorem okP_cells {p : PV} {v : Value} (hp : okP p = true) (hv : VRep w A β p v) : All2 (CRep w A β) (cellsOf p) v.cells.toList := by
  have one : v.oneCell' = true → CRep w A β p v → (∀ x, p ≠ .agg x) → All2 (CRep w A β) (cellsOf p) v.cells.toList := by
    intro h1 h2 h3
    have : cellsOf p = [p] := by cases p <;> first | rfl | exact absurd rfl (h3 _)
    rw [this, cells_one h1]
    exact ⟨h2, trivial⟩
  unfold okP at hp
  split at hp
  · obtain ⟨vs, rfl, h2⟩ := hv
    exact h2
  · refine one ?_ hv (by simp)
    have hv' : TRep w A _ v := hv
    cases hv' <;> rfl
  · refine one ?_ hv (by simp)
    rcases hv with ⟨_, _, _, rfl⟩ | ⟨_, _, _, _, _, rfl, _⟩ <;> rfl
  · have := sc_val hv; subst this; exact one rfl hv (by simp)
  · have := sc_val hv; subst this; exact one rfl hv (by simp)
  · have := sc_val hv; subst this; exact one rfl hv (by simp)
  · have := sc_val hv; subst this; exact one rfl hv (by simp)
  · cases hp

theorem set_all : ∀ (vs : List Value) (k off : Nat) (cells : Array Value), off + k + vs.length ≤ cells.size →
    ((vs.zipIdx k).foldl (fun cs (q : Value × Nat) => cs.setIfInBounds (off + q.2) q.1) cells).toList = cells.toList.take (off + k) ++ vs ++ cells.toList.drop (off + k + vs.length)
  | [], k, off, cells, _ => by simp
  | v :: vs, k, off, cells, h => by
    simp only [List.zipIdx_cons, List.foldl_cons, List.length_cons] at h ⊢
    rw [set_all vs (k + 1) off _ (by simp; omega)]
    have hlt : off + k < cells.toList.length := by simp; omega
    simp only [Array.toList_setIfInBounds]
    rw [show off + (k + 1) = off + k + 1 from by omega, List.take_succ_eq_append_getElem (by simpa using hlt)]
    rw [List.getElem_set_self, List.take_set_of_le (Nat.le_refl _), List.drop_set_of_lt (by omega)]
    simp only [List.append_assoc, List.cons_append, List.nil_append]
    rw [show off + k + 1 + vs.length = off + k + (vs.length + 1) from by omega]

theorem fill_rel (h : Sim N w0 X0 Y β s a w) {place : Nat → Option (Nat × Nat)} : ∀ {parts : List (Nat × Operand)} {pc : List PV} {vc : Array Value} {K : List PV → Option R},
    fillK place (parts.map fun q => (q.1, opv s.tm q.2)) pc K = some r → All2 (CRep w (Aof s.hp β Y) β) pc vc.toList → (∀ c ∈ pc, ∀ id ∈ refsC c, s.hp id ≠ none) →
    ∃ pc' vc', K pc' = some r ∧ Instr.fill place vc (parts.map fun q => (q.1, a.eval q.2)) = some vc' ∧ All2 (CRep w (Aof s.hp β Y) β) pc' vc'.toList ∧ pc'.length = pc.length ∧ ∀ c ∈ pc', ∀ id ∈ refsC c, s.hp id ≠ none
  | [], pc, vc, K, hk, hv, hr => ⟨pc, vc, hk, rfl, hv, rfl, hr⟩
  | (i, x) :: parts, pc, vc, K, hk, hv, hr => by
    simp only [List.map_cons] at hk
    unfold fillK at hk
    obtain ⟨⟨off, size⟩, hpl, hk⟩ := optK_inv hk
    obtain ⟨hb, hk⟩ := chk_inv hk
    simp only [Bool.and_eq_true] at hb
    obtain ⟨⟨hok, hsz⟩, hle⟩ := hb
    have hsz : (cellsOf (opv s.tm x)).length = size := Nat.eq_of_beq_eq_true hsz
    have hle : off + size ≤ pc.length := Nat.le_of_ble_eq_true hle
    have hxc := okP_cells hok (opv_rep h x)
    have hxl := hxc.len
    have hvl := hv.len
    have hvs : vc.toList.length = vc.size := by simp
    have hcs : (a.eval x).cells.toList.length = (a.eval x).cells.size := by simp
    have hset := set_all (a.eval x).cells.toList 0 off vc (by omega)
    simp only [Nat.add_zero] at hset
    have hset' : ((a.eval x).cells.zipIdx.foldl (fun cs (q : Value × Nat) => cs.setIfInBounds (off + q.2) q.1) vc).toList = vc.toList.take off ++ (a.eval x).cells.toList ++ vc.toList.drop (off + (a.eval x).cells.toList.length) := by
      rw [← hset, ← Array.foldl_toList]
      simp
    obtain ⟨pc', vc', hk, hf, h2, hl, hr'⟩ := fill_rel h (pc := splice pc (cellsOf (opv s.tm x)) off) (vc := (a.eval x).cells.zipIdx.foldl (fun cs (q : Value × Nat) => cs.setIfInBounds (off + q.2) q.1) vc) hk (by
        rw [hset', ← hxl]
        exact (((hv.take off).app hxc).app (hv.drop _))) (by
        intro c hc id hid
        unfold splice at hc
        rcases List.mem_append.1 hc with hc | hc
        · rcases List.mem_append.1 hc with hc | hc
          · exact hr c (List.mem_of_mem_take hc) id hid
          · refine opv_refs h x id ?_
            cases hp : opv s.tm x with
            | agg cs => rw [hp] at hc; exact List.mem_flatMap.2 ⟨c, hc, hid⟩
            | tup cs => rw [hp] at hc; simp [cellsOf] at hc; subst hc; cases hid
            | _ => rw [hp] at hc; simp [cellsOf] at hc; subst hc; exact hid
        · exact hr c (List.mem_of_mem_drop hc) id hid)
    refine ⟨pc', vc', hk, ?_, h2, ?_, hr'⟩
    · simp only [List.map_cons, Instr.fill, hpl]
      rw [if_neg (by simp; omega)]
      exact hf
    · rw [hl]
      simp [splice]
      omega

theorem zero_rel {t : TypeId} {z : Value} {cs : List PV} (hl : cs.length = z.cells.toList.length) (hc : ∀ (j : Nat) c, cs[j]? = some c → isT c ∧ ∃ u, z.cells.toList[j]? = some u ∧ u.oneCell' = true ∧ ∀ (w : World) (A : Nat → Prop), TRep w A c u) (_ht : zeroOf P t = some z) :
    All2 (CRep w A β) cs z.cells.toList ∧ ∀ c ∈ cs, refsC c = [] := by
  refine ⟨All2.of_at hl fun i c u hci hu => ?_, fun c hcm => ?_⟩
  · obtain ⟨hT, u', hu', _, hv⟩ := hc i c hci
    rw [hu] at hu'
    cases hu'
    exact (CRep_isT hT).2 (hv _ _)
  · obtain ⟨j, hj⟩ := List.mem_iff_getElem?.1 hcm
    exact refsC_isT (hc j c hj).1

theorem places_all : ∀ {fs : List Field}, (fs.all fun f => infOk P f.type) = true → fs.mapM (fun f => (P.info? f.type).map fun i => (f.offset, i.size)) = some (fs.map fun f => (f.offset, szOf P f.type))
  | [], _ => rfl
  | f :: fs, h => by
    simp only [List.all_cons, Bool.and_eq_true] at h
    obtain ⟨i, hi⟩ := Option.isSome_iff_exists.1 h.1
    simp [List.mapM_cons, hi, places_all h.2, szOf]

theorem fill_congr {p q : Nat → Option (Nat × Nat)} (h : ∀ i, p i = q i) (cells : Array Value) (parts : List (Nat × Value)) : Instr.fill p cells parts = Instr.fill q cells parts := by
  have : p = q := funext h
  rw [this]

theorem build_gives (h : Sim N w0 X0 Y β s a w) {t : TypeId} {ps : Array (Nat × Operand)} (ho : o.op = .build t ps) {K : PV → Option R}
    (hk : (chk (placesOk P t && isAggB P t) <| zcellsK P t fun z => fillK (placeOf P t) (ps.toList.map fun q => (q.1, opv s.tm q.2)) z fun cs => fcsK (cty P t) cs 0 fun cs' => K (.agg cs')) = some r) : ∃ v, K v = some r ∧ Gives P a w o Y β s v [] [] := by
  obtain ⟨hpl, hk⟩ := chk_inv hk
  simp only [Bool.and_eq_true] at hpl
  obtain ⟨hpl, hagg⟩ := hpl
  obtain ⟨z, cs, hk, hz, hct, hl, hsz, hc⟩ := zcellsK_inv hk
  obtain ⟨hzr, hzf⟩ := zero_rel (w := w) (A := Aof s.hp β Y) (β := β) hl hc hz
  obtain ⟨pc', vc', hk, hf, h2, hl', hr'⟩ := fill_rel h hk hzr (fun c hcm id hid => by rw [hzf c hcm] at hid; cases hid)
  obtain ⟨qs, hk, hql, hna, hq⟩ := fcsK_inv hk
  have hbuilt : P.built t (ps.toList.map fun q => (q.1, a.eval q.2)) = some vc' := by
    have hzi : ∃ i, P.info? t = some i ∧ i.zero = some z := by
      unfold zeroOf at hz
      cases hi : P.info? t with
      | none => rw [hi] at hz; cases hz
      | some i => rw [hi] at hz; exact ⟨i, rfl, hz⟩
    obtain ⟨i, hi, hzi⟩ := hzi
    unfold placesOk at hpl
    unfold Program.built
    split at hpl
    · rename_i fs hu
      have hf' : Instr.fill (((fs.toList.map fun f => (f.offset, szOf P f.type)).toArray)[·]?) z.cells (ps.toList.map fun q => (q.1, a.eval q.2)) = some vc' := by
        rw [← hf]
        refine fill_congr (fun j => ?_) _ _
        simp [placeOf, hu]
      simp only [hi, hu, hzi, places_all hpl]
      exact hf'
    · rename_i n e hu
      obtain ⟨ie, hie⟩ := Option.isSome_iff_exists.1 hpl
      have hf' : Instr.fill (fun j => some (j * ie.size, ie.size)) z.cells (ps.toList.map fun q => (q.1, a.eval q.2)) = some vc' := by
        rw [← hf]
        refine fill_congr (fun j => ?_) _ _
        simp [placeOf, hu, szOf, hie]
      simp only [hi, hu, hzi, hie]
      exact hf'
    · rename_i e hu
      simp [isAggB, hu] at hagg
    · cases hpl
  refine ⟨_, hk, gives_pure (val := .agg vc') ?_ ⟨vc'.toList, rfl, ?_⟩ ?_⟩
  · unfold execOp
    rw [ho]
    have := run_build (P := P) w t (ps.map fun q => (q.1, a.eval q.2)) vc' (by simpa using hbuilt)
    simp [this]
  · refine All2.of_at (by have := h2.len; omega) fun j c u hcj hu => ?_
    obtain ⟨p, hp, _, _, hpv⟩ := hq j c hcj
    rw [Nat.zero_add] at hp
    exact (hpv _ _ _ _ (h2.at_ hp hu)).1
  · intro id hid
    obtain ⟨c, hcm, hid⟩ := List.mem_flatMap.1 (show id ∈ qs.flatMap refsC from hid)
    obtain ⟨j, hj⟩ := List.mem_iff_getElem?.1 hcm
    obtain ⟨p, hp, _, hpr, _⟩ := hq j c hj
    rw [Nat.zero_add] at hp
    exact hr' p (List.mem_of_getElem? hp) id (hpr id hid)
end

end Go.Proofs.Ytaphhfehcbkfkaa.Pv

namespace Go.Proofs.Ytaphhfehcbkfkaa.Pv
open Go.RowKit

section
variable {R : Type} {r : R} {P : Program} {N : Nat} {w0 : World} {X0 : Lend} {Y : Nat → Prop} {β β' : Bt} {s : St} {a : Act} {w w' : World} {o : Oper} {A : Nat → Prop}

/-- A row that is shared: it lies outside what may change. -/
theorem frozen_row (h : Sim N w0 X0 Y β s a w) {fz : List Nat} (hfz : ∀ id ∈ fz, ∃ f c, s.hp id = some (.ar f c)) {id : Nat} (hm : id ∈ fz) {f : Bool} {c : List PV} (hb : s.hp id = some (.ar f c)) {b ob : Nat} (hβ : β id = some (b, ob)) :
    ¬ Aof (freezeIds s.hp fz) β Y b ∧ RdT w (Aof (freezeIds s.hp fz) β Y) ⟨b, ob, none⟩ c ∧ b < w.heap.size := by
  have hf := h.freeze hfz
  have he : freezeIds s.hp fz id = some (.ar true c) := by rw [freeze_get, if_pos hm, hb]; rfl
  rcases hf.box id _ he with ⟨h1, _⟩ | ⟨b', o', h1, h2, _, h4⟩
  · rw [hβ] at h1; cases h1
  · rw [hβ] at h1
    simp at h1
    obtain ⟨rfl, rfl⟩ := h1
    exact ⟨h4 rfl, h2, h.blt id b ob (by rw [hb]; simp) hβ⟩

theorem view_tree (h : Sim N w0 X0 Y β s a w) {fz : List Nat} (hfz : ∀ id ∈ fz, ∃ f c, s.hp id = some (.ar f c)) {id es off n : Nat} (hm : id ∈ fz) {f : Bool} {c : List PV} (hb : s.hp id = some (.ar f c)) {v : Value}
    (hv : CRep w (Aof s.hp β Y) β (.view id es off n) v) : TRep w (Aof (freezeIds s.hp fz) β Y) (.lst false es n ((c.drop off).take (n * es))) v := by
  rcases hv with ⟨_, rfl, rfl, rfl⟩ | ⟨b, ob, y, cap, hβ, rfl, hy, hn, _, hlt⟩
  · simp only [Nat.zero_mul, List.take_zero]
    exact TRep.lnil false es
  · obtain ⟨h1, h2, _⟩ := frozen_row h hfz hm hb hβ
    by_cases hn0 : n * es = 0
    · rw [hn0, List.take_zero]
      exact TRep.lst es n [] ⟨b, y, none⟩ cap (fun _ => undef) rfl hlt h1 hn (by simp) (by simp) (by simp)
    · have hy : y = ob + off := by
        rcases hy with hy | ⟨h0, _⟩
        · exact hy
        · rw [h0] at hn0; simp at hn0
      subst hy
      have hcell : ∀ (j : Nat) q, ((c.drop off).take (n * es))[j]? = some q → c[off + j]? = some q := by
        intro j q hq
        rw [List.getElem?_take] at hq
        split at hq
        · rw [List.getElem?_drop] at hq; exact hq
        · cases hq
      refine TRep.lst es n _ ⟨b, ob + off, none⟩ cap (fun j => (w.cell? ⟨b, ob + off + j, none⟩).getD undef) rfl hlt h1 hn (fun j q hq => ?_) (fun j q hq => ?_) (fun j q hq => ?_)
      · obtain ⟨v, hv, _⟩ := h2 _ q (hcell j q hq)
        rw [add_mk, ← Nat.add_assoc] at hv
        rw [add_mk, hv]; rfl
      · obtain ⟨v, hv, h3, _⟩ := h2 _ q (hcell j q hq)
        rw [add_mk, ← Nat.add_assoc] at hv
        rw [hv]; exact h3
      · obtain ⟨v, hv, _, ht⟩ := h2 _ q (hcell j q hq)
        rw [add_mk, ← Nat.add_assoc] at hv
        rw [hv]; exact ht

theorem TRep.zf {A : Nat → Prop} {z : Bool} {es n : Nat} {c : List PV} {v : Value} (h : TRep w A (.lst z es n c) v) : TRep w A (.lst false es n c) v := by
  cases h with
  | lnil => exact .lnil _ _
  | lemp => exact .lemp _ _ _
  | lst _ _ _ a cap f hs hb hA hn hc h1 hr => exact .lst _ _ _ a cap f hs hb hA hn hc h1 hr

theorem frcK_inv (h : Sim N w0 X0 Y β s a w) {t : CT} {p : PV} {K : PV → List Nat → Option R} (hk : frcK (rda s.hp) t p K = some r) :
    ∃ c m, K c m = some r ∧ isT c ∧ isF p ∧ (∀ id ∈ m, ∃ f cc, s.hp id = some (.ar f cc)) ∧ ∀ fz : List Nat, (∀ id ∈ m, id ∈ fz) → (∀ id ∈ fz, ∃ f cc, s.hp id = some (.ar f cc)) → ∀ v, CRep w (Aof s.hp β Y) β p v → TRep w (Aof (freezeIds s.hp fz) β Y) c v ∧ v.oneCell' = true := by
  have tree : ∀ t', (tcK t' p fun c => K c []) = some r → ∃ c m, K c m = some r ∧ isT c ∧ isF p ∧ (∀ id ∈ m, ∃ f cc, s.hp id = some (.ar f cc)) ∧ ∀ fz : List Nat, (∀ id ∈ m, id ∈ fz) → (∀ id ∈ fz, ∃ f cc, s.hp id = some (.ar f cc)) → ∀ v, CRep w (Aof s.hp β Y) β p v → TRep w (Aof (freezeIds s.hp fz) β Y) c v ∧ v.oneCell' = true := by
    intro t' hk
    obtain ⟨c, hk, hT, hpT, hv⟩ := tcK_inv hk
    refine ⟨c, [], hk, hT, isF_isT hpT, by simp, fun fz _ hfz v hpv => ?_⟩
    obtain ⟨h1, h2⟩ := hv _ _ _ _ hpv
    exact ⟨h1.step (WStep.refl _ _) (fun b _ hb => hb.imp freeze_X id), h2⟩
  cases t with
  | sl es =>
    unfold frcK at hk
    dsimp only at hk
    split at hk
    · rename_i id es' off n
      cases hb : Nat.beq es' es
      · rw [hb] at hk; cases hk
      · rw [hb] at hk
        have := Nat.eq_of_beq_eq_true hb
        subst this
        obtain ⟨c, hc, hk⟩ := optK_inv (show optK _ _ = some r from hk)
        obtain ⟨_, hk⟩ := chk_inv hk
        obtain ⟨f, hbx⟩ := rda_inv hc
        refine ⟨_, [id], hk, trivial, trivial, ?_, fun fz hm hfz v hv => ⟨view_tree h hfz (hm id (by simp)) hbx hv, ?_⟩⟩
        · intro i hi; simp at hi; subst hi; exact ⟨f, c, hbx⟩
        · rcases hv with ⟨_, _, _, rfl⟩ | ⟨_, _, _, _, _, rfl, _⟩ <;> rfl
    · obtain ⟨z, n, c, hk, hp⟩ := lsK_inv hk
      refine ⟨_, [], hk, trivial, ?_, by simp, fun fz _ hfz v hpv => ?_⟩
      · rcases hp with rfl | ⟨rfl, _⟩ <;> trivial
      · have ht := ls_rep hp hpv
        refine ⟨TRep.zf (ht.step (WStep.refl _ _) (fun b _ hb => hb.imp freeze_X id)), ?_⟩
        cases ht <;> rfl
  | int k => exact tree (.int k) hk
  | bool => exact tree .bool hk
  | str => exact tree .str hk
  | any => exact tree .any hk

theorem frcsK_inv (h : Sim N w0 X0 Y β s a w) : ∀ {ts : List CT} {ps : List PV} {K : List PV → List Nat → Option R}, frcsK (rda s.hp) ts ps K = some r →
    ∃ cs m, K cs m = some r ∧ cs.length = ts.length ∧ ps.length = ts.length ∧ (∀ c ∈ cs, isT c) ∧ (∀ p ∈ ps, isF p) ∧ (∀ id ∈ m, ∃ f cc, s.hp id = some (.ar f cc)) ∧
      ∀ fz : List Nat, (∀ id ∈ m, id ∈ fz) → (∀ id ∈ fz, ∃ f cc, s.hp id = some (.ar f cc)) → ∀ vs, All2 (CRep w (Aof s.hp β Y) β) ps vs → All2 (TRep w (Aof (freezeIds s.hp fz) β Y)) cs vs ∧ ∀ v ∈ vs, v.oneCell' = true
  | [], [], K, hk => ⟨[], [], hk, rfl, rfl, by simp, by simp, by simp, fun fz _ _ vs hv => by
      cases vs with
      | nil => exact ⟨trivial, by simp⟩
      | cons v vs => exact hv.elim⟩
  | [], _ :: _, K, hk => by cases hk
  | _ :: _, [], K, hk => by cases hk
  | t :: ts, p :: ps, K, hk => by
    unfold frcsK at hk
    obtain ⟨c, m, hk, hT, hF, hm, hv⟩ := frcK_inv h hk
    obtain ⟨cs, ms, hk, hl, hl', hTs, hFs, hms, hvs⟩ := frcsK_inv h hk
    refine ⟨c :: cs, m ++ ms, hk, by simp [hl], by simp [hl'], ?_, ?_, ?_, fun fz hfm hfz vs h2 => ?_⟩
    · intro x hx
      rcases List.mem_cons.1 hx with rfl | hx
      · exact hT
      · exact hTs x hx
    · intro x hx
      rcases List.mem_cons.1 hx with rfl | hx
      · exact hF
      · exact hFs x hx
    · intro x hx
      rcases List.mem_append.1 hx with hx | hx
      · exact hm x hx
      · exact hms x hx
    · cases vs with
      | nil => exact h2.elim
      | cons v vs =>
        obtain ⟨h3, h4⟩ := hv fz (fun i hi => hfm i (by simp [hi])) hfz v h2.1
        obtain ⟨h5, h6⟩ := hvs fz (fun i hi => hfm i (by simp [hi])) hfz vs h2.2
        refine ⟨⟨h3, h5⟩, ?_⟩
        intro x hx
        rcases List.mem_cons.1 hx with rfl | hx
        · exact h4
        · exact h6 x hx

theorem All2_repl {R' : PV → Value → Prop} {cs : List PV} {z : Array Value} (h : All2 R' cs z.toList) (n : Nat) : All2 R' (repl n cs) (madeCells z (n * cs.length)).toList := by
  have hzl : z.size = cs.length := by have := h.len; simp at this; exact this.symm
  refine All2.of_at ?_ fun j c v hc hv => ?_
  · rw [repl_len]
    simp [size_madeCells]
  · obtain ⟨h1, h2⟩ := repl_get hc
    have hlt : j % cs.length < cs.length := by
      rcases Nat.lt_or_ge (j % cs.length) cs.length with h | h
      · exact h
      · rw [List.getElem?_eq_none h] at h2; cases h2
    obtain ⟨u, hu, hcu⟩ := h.get h2
    have : (madeCells z (n * cs.length))[j]? = some u := made_get h1 (by rw [hzl]; simpa using hu)
    have hv' : (madeCells z (n * cs.length))[j]? = some v := by simpa using hv
    rw [this] at hv'
    cases hv'
    exact hcu

theorem buildSlice_gives (h : Sim N w0 X0 Y β s a w) {t : TypeId} {n : Nat} {ps : Array (Nat × Operand)} (ho : o.op = .buildSlice t n ps) {d : Nat} {K : PV → List Nat → List (Nat × Box) → Option R}
    (hk : (match P.underlying t with
      | some (.slice e) => chk (placesOk P t && Nat.ble (n * szOf P e) 16777216) (zcellsK P e fun z => fillK (placeOf P t) (ps.toList.map fun q => (q.1, opv s.tm q.2)) (repl n z) fun cs =>
          frcsK (rda s.hp) (List.replicate n (cty P e)).flatten cs fun cs' m => K (.view d (szOf P e) 0 n) m [(d, .ar false cs')])
      | _ => none) = some r) : ∃ v fz nw, K v fz nw = some r ∧ Gives P a w o Y β s v fz nw := by
  split at hk
  · rename_i e hu
    obtain ⟨hb, hk⟩ := chk_inv hk
    simp only [Bool.and_eq_true] at hb
    have hle : n * szOf P e ≤ 16777216 := Nat.le_of_ble_eq_true hb.2
    have hinf : (P.info? e).isSome = true := by have := hb.1; unfold placesOk at this; rw [hu] at this; exact this
    obtain ⟨z, cs, hk, hz, hct, hl, hsz, hc⟩ := zcellsK_inv hk
    obtain ⟨hzr, hzf⟩ := zero_rel (w := w) (A := Aof s.hp β Y) (β := β) hl hc hz
    have hrep := All2_repl hzr n
    obtain ⟨pc', vc', hk, hf, h2, hl', hr'⟩ := fill_rel h hk hrep (fun c hcm id hid => by
      obtain ⟨j, hj⟩ := List.mem_iff_getElem?.1 hcm
      obtain ⟨_, hg⟩ := repl_get hj
      rw [hzf c (List.mem_of_getElem? hg)] at hid; cases hid)
    obtain ⟨qs, m, hk, hql, hpl, hqT, _, hm, hqv⟩ := frcsK_inv h hk
    obtain ⟨h3, h3'⟩ := hqv m (fun _ hi => hi) hm _ h2
    have hf' : Instr.fill (fun i => some (i * szOf P e, szOf P e)) (madeCells z.cells (n * cs.length)) (ps.toList.map fun q => (q.1, a.eval q.2)) = some vc' := by
      rw [← hf]
      refine fill_congr (fun i => ?_) _ _
      simp [placeOf, hu]
    have hvl : vc'.size = n * szOf P e := by
      have h4 := h2.len
      rw [hl', repl_len] at h4
      simp at h4
      rw [← h4, hsz]
    have hrun : (execOp a.eval o).run P w = .ok (.value (.slice (some ⟨w.heap.size, 0, none⟩) n n)) (w.alloc (.cells vc' e)) := by
      unfold execOp
      rw [ho]
      have hle' : ¬ (n * szOf P e > 2 ^ 24) := by omega
      rw [hsz] at hf'
      by_cases hn0 : n * szOf P e = 0
      · simp only [Instr.buildSlice, Sem.run_bind, run_underlying hu, Result.andThen_ok, run_sizeOf_szOf hinf, if_neg hle', hn0]
        rw [hn0] at hf'
        have e0 : madeCells z.cells 0 = (Array.range 0).map (fun _ => default) := by simp [madeCells]
        rw [e0] at hf'
        simp [hf', newRow]
      · simp only [Instr.buildSlice, Sem.run_bind, run_underlying hu, Result.andThen_ok, run_sizeOf_szOf hinf, if_neg hle', if_neg hn0, run_zeroValue hz]
        unfold madeCells at hf'
        simp [hf', newRow]
    refine ⟨_, _, _, hk, gives_row (c := vc') (e := e) hm hrun (GrowB.alloc w vc' e) (fun j p hj => ?_) (.inr ⟨szOf P e, n, n, rfl, rfl, Nat.le_refl _, by rw [hvl]; exact Nat.le_refl _⟩)⟩
    obtain ⟨u, hu', hp⟩ := h3.get hj
    exact ⟨u, by simpa using hu', h3' u (List.mem_of_getElem? hu'), hp⟩
  · cases hk
end

end Go.Proofs.Ytaphhfehcbkfkaa.Pv
