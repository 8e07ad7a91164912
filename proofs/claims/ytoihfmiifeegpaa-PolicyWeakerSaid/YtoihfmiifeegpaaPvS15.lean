/-
  Contracts of functions, and the operation that calls one.
-/
import Derived.Test.YtoihfmiifeegpaaPvS14
namespace Go.Proofs.Ytoihfmiifeegpaa.Pv
open Go.RowKit

/-- A cell that a call hands back; 'own': the block that goes along. -/
def OCell (w : World) (A : Nat → Prop) (own : Option (Nat × Nat)) (p : PV) (u : Value) : Prop :=
  match p with
  | .own es n c => (own = none ∧ n = 0 ∧ c = [] ∧ u = .slice none 0 0) ∨
      ∃ b o cap, own = some (b, o) ∧ u = .slice (some ⟨b, o, none⟩) n cap ∧ n ≤ cap ∧ o + cap * es ≤ bsz w b ∧ b < w.heap.size ∧ RdT w A ⟨b, o, none⟩ c ∧ ∀ j, o ≤ j → j < bsz w b → w.frozen? ⟨b, j, none⟩ = false
  | p => TRep w A p u

def OCells (w : World) (A : Nat → Prop) (own : Bt) : Nat → List PV → List Value → Prop
  | _, [], [] => True
  | j, p :: ps, u :: us => OCell w A (own j) p u ∧ OCells w A own (j + 1) ps us
  | _, _, _ => False

/-- Cells in memory, handed over or back. -/
def OBox (w : World) (A : Nat → Prop) (own : Bt) (j b o : Nat) (cs : List PV) : Prop :=
  ∃ vs, OCells w A own j cs vs ∧ (∀ (k : Nat) v, vs[k]? = some v → w.cell? ⟨b, o + k, none⟩ = some v) ∧ ∀ k, k < cs.length → w.frozen? ⟨b, o + k, none⟩ = false

def OVal (w : World) (A : Nat → Prop) (own : Bt) (z j : Nat) (p : PV) (u : Value) : Prop :=
  match p with
  | .agg cs => ∃ vs, u = .agg ⟨vs⟩ ∧ OCells w A own j cs vs
  | .pbox cs => ∃ b o, own j = some (b, o) ∧ z ≤ b ∧ u = .pointer (some ⟨b, o, none⟩) ∧ OBox w A own (j + 1) b o cs
  | p => OCell w A (own j) p u

/-- How many places a value has. -/
def plc : PV → Nat
  | .pbox cs => 1 + cs.length
  | p => (cellsOf p).length

def OVals (w : World) (A : Nat → Prop) (own : Bt) (z : Nat) : Nat → List PV → List Value → Prop
  | _, [], [] => True
  | j, p :: ps, u :: us => OVal w A own z j p u ∧ OVals w A own z (j + plc p) ps us
  | _, _, _ => False

/-- Where what is lent (0) and what is handed over (j + 1) lies, by arguments. -/
abbrev Bt2 := Nat → Nat → Option (Nat × Nat)

def BtX (bt : Bt2) (b : Nat) : Prop := ∃ i j o, bt i j = some (b, o)

/-- A tree or a row that is handed over. -/
def isA (p : PV) : Prop := isT p ∨ ∃ es n c, p = .own es n c

def isL (p : PV) : Bool :=
  match p with
  | .pbox _ => true
  | .tup _ => true
  | _ => false

theorem isL_isA {p : PV} (h : isA p) : isL p = false := by
  rcases h with h | ⟨_, _, _, rfl⟩
  · cases p <;> first | rfl | exact h.elim
  · rfl

/-- One argument. -/
def PArg (w : World) (A : Nat → Prop) (bt : Bt) (p : PV) (u : Value) : Prop :=
  match p with
  | .pbox ps => ∃ b o, bt 0 = some (b, o) ∧ u = .pointer (some ⟨b, o, none⟩) ∧ (∀ p ∈ ps, isA p) ∧ OBox w A bt 1 b o ps
  | .tup ps => ∃ es n c, ps = [.own es n c] ∧ OCell w A (bt 0) (.own es n c) u
  | .agg cs => ∃ vs, u = .agg ⟨vs⟩ ∧ (∀ p ∈ cs, isA p) ∧ OCells w A bt 1 cs vs
  | p => isA p ∧ OCell w A (bt 1) p u

def PArgs (w : World) (A : Nat → Prop) (bt : Bt2) : Nat → List PV → List Value → Prop
  | _, [], [] => True
  | i, p :: ps, u :: us => PArg w A (bt i) p u ∧ PArgs w A bt (i + 1) ps us
  | _, _, _ => False

/-- The cells that a call may change. -/
def ArgL (bt : Bt) (p : PV) (b j : Nat) : Prop :=
  (∃ k o, bt (k + 1) = some (b, o) ∧ o ≤ j) ∨ ∃ o ps, bt 0 = some (b, o) ∧ o ≤ j ∧ ((p = .pbox ps ∧ j < o + ps.length) ∨ p = .tup ps)

def CallL (bt : Bt2) (args : List PV) (b j : Nat) : Prop := ∃ i p, args[i]? = some p ∧ ArgL (bt i) p b j

/-- What was lent, after the call. -/
def OOuts (w : World) (A : Nat → Prop) (own : Bt) (bt : Bt2) : Nat → Nat → List PV → List (List PV) → Prop
  | _, _, [], r => r = []
  | j, i, p :: as, r =>
    match p with
    | .pbox ps =>
      match r with
      | [] => False
      | cs :: r => (∃ b o, bt i 0 = some (b, o) ∧ cs.length = ps.length ∧ OBox w A own j b o cs) ∧ OOuts w A own bt (j + cs.length) (i + 1) as r
    | .tup _ =>
      match r with
      | [] => False
      | cs :: r => ((bt i 0 = none ∧ cs = []) ∨ ∃ b o, bt i 0 = some (b, o) ∧ RdT w A ⟨b, o, none⟩ cs ∧ ∀ k, o ≤ k → k < bsz w b → w.frozen? ⟨b, k, none⟩ = false) ∧ OOuts w A own bt j (i + 1) as r
    | _ => OOuts w A own bt j (i + 1) as r

def OutA (bt : Bt2) (own : Bt) (Y : Nat → Prop) (b : Nat) : Prop := (∃ j o, own j = some (b, o)) ∨ (∃ i o, bt i 0 = some (b, o)) ∨ Y b

def plcSum (vals : List PV) : Nat := (vals.map plc).sum

/-- What a call leaves. -/
structure Out (w w' : World) (Y : Nat → Prop) (bt : Bt2) (args : List PV) (own : Bt) (r : Res) (vs : List Value) : Prop where
  os : w'.os = w.os
  tape : w'.tape = w.tape
  output : w'.output = w.output
  ext : WStep (BtX bt) w w'
  rng : ∀ b j, b < w.heap.size → ¬ CallL bt args b j → w'.cell? ⟨b, j, none⟩ = w.cell? ⟨b, j, none⟩ ∧ w'.frozen? ⟨b, j, none⟩ = w.frozen? ⟨b, j, none⟩
  vals : OVals w' (OutA bt own Y) own w.heap.size 0 r.vals vs
  outs : OOuts w' (OutA bt own Y) own bt (plcSum r.vals) 0 args r.outs
  fresh : ∀ j b o, own j = some (b, o) → b < w'.heap.size ∧ (b < w.heap.size → (∃ i k o', bt i (k + 1) = some (b, o')) ∧ ∀ x, o ≤ x → CallL bt args b x)
  inj : ∀ j j' b o o', own j = some (b, o) → own j' = some (b, o') → j = j'

def retVal (us : List Value) : Value := match us with | [u] => u | us => .tuple ⟨us⟩

/-- An argument that is a tree. -/
def ARep (w : World) (Y : Nat → Prop) (p : PV) (u : Value) : Prop :=
  match p with
  | .agg cs => ∃ vs, u = .agg ⟨vs⟩ ∧ All2 (fun c v => isT c ∧ TRep w Y c v) cs vs
  | p => isT p ∧ TRep w Y p u

/-- What the arguments of a call must be. -/
structure Ins (w : World) (Y : Nat → Prop) (bt : Bt2) (args : List PV) (us : List Value) : Prop where
  Ylt : ∀ b, Y b → b < w.heap.size
  Yx : ∀ b, Y b → ¬ BtX bt b
  lt : ∀ b, BtX bt b → b < w.heap.size
  inj : ∀ i j i' j' b o o', bt i j = some (b, o) → bt i' j' = some (b, o') → i = i' ∧ j = j'
  l0 : ∀ i q, bt i 0 = some q → ∃ p, args[i]? = some p ∧ isL p = true
  args : PArgs w (fun b => BtX bt b ∨ Y b) bt 0 args us

/-- The contract of a call. -/
def SoundC (P : Program) (f : FuncId) (args : List PV) (r : Res) : Prop :=
  (∃ fn, P.funcs[f]? = some fn ∧ fn.body.isSome = true) ∧ ∀ (w : World) (Y : Nat → Prop) (bt : Bt2) (us : List Value), Ins w Y bt args us →
    Calls P f us.toArray w fun e w' => ∃ vs own, e = .returned (retVal vs) ∧ Out w w' Y bt args own r vs

def noBt : Bt2 := fun _ _ => none

theorem noBtX (b : Nat) : ¬ BtX noBt b := by rintro ⟨_, _, _, h⟩; cases h

theorem OCell_tree {w : World} {A : Nat → Prop} {q : Option (Nat × Nat)} {p : PV} {u : Value} (hp : isT p) (h : TRep w A p u) : OCell w A q p u := by
  cases p <;> first | exact h | exact hp.elim

theorem OCells_tree {w : World} {A : Nat → Prop} {own : Bt} : ∀ {cs : List PV} {vs : List Value} {j : Nat}, All2 (fun c v => isT c ∧ TRep w A c v) cs vs → OCells w A own j cs vs
  | [], [], _, _ => trivial
  | _ :: _, _ :: _, _, h => ⟨OCell_tree h.1.1 h.1.2, OCells_tree h.2⟩
  | [], _ :: _, _, h => h.elim
  | _ :: _, [], _, h => h.elim

theorem PArg_tree {w : World} {A : Nat → Prop} {bt : Bt} {p : PV} {u : Value} (h : ARep w A p u) : PArg w A bt p u := by
  cases p with
  | agg cs =>
    obtain ⟨vs, h1, h2⟩ := h
    refine ⟨vs, h1, fun p hp => .inl ?_, OCells_tree h2⟩
    obtain ⟨j, hj⟩ := List.mem_iff_getElem?.1 hp
    obtain ⟨v, _, hv⟩ := h2.get hj
    exact hv.1
  | sc v => exact ⟨.inl trivial, h.2⟩
  | lst z es n c => exact ⟨.inl trivial, h.2⟩
  | _ => exact h.1.elim

theorem PArgs_tree {w : World} {A : Nat → Prop} {bt : Bt2} : ∀ {ps : List PV} {us : List Value} {i : Nat}, All2 (ARep w A) ps us → PArgs w A bt i ps us
  | [], [], _, _ => trivial
  | _ :: _, _ :: _, _, h => ⟨PArg_tree h.1, PArgs_tree h.2⟩
  | [], _ :: _, _, h => h.elim
  | _ :: _, [], _, h => h.elim

theorem ARep_weak {w : World} {A A' : Nat → Prop} (hA : ∀ b, b < w.heap.size → A' b → A b) {p : PV} {v : Value} (h : ARep w A p v) : ARep w A' p v := by
  cases p with
  | agg cs =>
    obtain ⟨vs, rfl, h2⟩ := h
    exact ⟨vs, rfl, h2.mono fun c v hc => ⟨hc.1, hc.2.step (WStep.refl _ _) hA⟩⟩
  | sc v => exact ⟨h.1, h.2.step (WStep.refl _ _) hA⟩
  | lst z es n c => exact ⟨h.1, h.2.step (WStep.refl _ _) hA⟩
  | _ => exact h.1.elim

/-- Arguments that are trees alone. -/
theorem Ins_tree {w : World} {Y : Nat → Prop} {args : List PV} {us : List Value} (hY : ∀ b, Y b → b < w.heap.size) (h : All2 (ARep w Y) args us) : Ins w Y noBt args us :=
  ⟨hY, fun b _ => noBtX b, fun b h => absurd h (noBtX b), (fun _ _ _ _ _ _ _ h => by cases h), (fun _ _ h => by cases h), PArgs_tree (h.mono fun _ _ hx => ARep_weak (fun b _ hb => hb.elim (fun q => absurd q (noBtX b)) id) hx)⟩

theorem noCallL {args : List PV} {b j : Nat} : ¬ CallL noBt args b j := by
  rintro ⟨_, _, _, ⟨_, _, h, _⟩ | ⟨_, _, h, _⟩⟩ <;> cases h

def NoNG (P : Program) : Prop := ∀ (f : FuncId) (fn : Func), P.funcs[f]? = some fn → (fn.name == "runtime.NumGoroutine") = false

section
variable {R : Type} {r : R} {P : Program} {N : Nat} {w0 : World} {X0 : Lend} {Y : Nat → Prop} {β β' : Bt} {s : St} {a : Act} {w w' : World} {o : Oper} {A : Nat → Prop}

def GivesW (P : Program) (a : Act) (w : World) (o : Oper) (Y : Nat → Prop) (β : Bt) (s : St) (v : PV) (fz : List Nat) (nw : List (Nat × Box)) : Prop :=
  (∀ id ∈ fz, ∃ f c, s.hp id = some (.ar f c)) ∧ ∀ (next : Act → World → Prop) (Q : Exit → Act → World → Prop),
    (∀ val w', (absent s.hp nw = true → ∃ β', StepR Y β ⟨s.tm, freezeIds s.hp fz⟩ w v nw val w' β') → next (a.put o.dst val) w') → o.wp P a w next Q

theorem givesW {v : PV} {fz : List Nat} {nw : List (Nat × Box)} (h : Gives P a w o Y β s v fz nw) : GivesW P a w o Y β s v fz nw := by
  obtain ⟨h1, val, w', hr, hs⟩ := h
  refine ⟨h1, fun next Q hn => ?_⟩
  unfold Oper.wp
  rw [hr]
  exact hn val w' hs

theorem tree_one {c : PV} {v : Value} (h : isT c) (hv : VRep w A β c v) : TRep w A c v := by
  cases c <;> first | exact hv | exact h.elim

/-- A value made a tree. -/
theorem frvK_val (h : Sim N w0 X0 Y β s a w) {t : TypeId} {x : PV} {u : Value} (hx : VRep w (Aof s.hp β Y) β x u) {K : PV → List Nat → Option R} (hk : frvK P (rda s.hp) t x K = some r) :
    ∃ p m, K p m = some r ∧ (∀ id ∈ m, ∃ f cc, s.hp id = some (.ar f cc)) ∧ (cellsOf p).length = (cty P t).length ∧ ∀ fz : List Nat, (∀ id ∈ m, id ∈ fz) → (∀ id ∈ fz, ∃ f cc, s.hp id = some (.ar f cc)) → ARep w (Aof (freezeIds s.hp fz) β Y) p u := by
  unfold frvK at hk
  cases hagg : isAggB P t
  · rw [hagg] at hk
    obtain ⟨cs, m, hk, hl, hl', hT, hF, hm, hv⟩ := frcsK_inv h (show frcsK _ _ _ _ = some r from hk)
    obtain ⟨c, t', rfl, hk⟩ := consK_inv hk
    obtain ⟨rfl, hk⟩ := nilK_inv hk
    have hcT := hT c (by simp)
    refine ⟨c, m, hk, hm, ?_, fun fz h1 h2 => ?_⟩
    · have : cellsOf c = [c] := by cases c <;> first | rfl | exact hcT.elim
      rw [this]; exact hl
    have hF' := hF _ (List.mem_singleton_self _)
    have hc : CRep w (Aof s.hp β Y) β x u := by
      cases x <;> first | exact hx | exact hF'.elim
    have h3 := (hv fz h1 h2 [u] ⟨hc, trivial⟩).1.1
    cases c <;> first | exact ⟨trivial, h3⟩ | exact hcT.elim
  · rw [hagg] at hk
    obtain ⟨ps, hp, hk⟩ := aggK_inv (show aggK _ _ = some r from hk)
    rw [hp] at hx
    obtain ⟨cs, m, hk, hl, hl', hT, hF, hm, hv⟩ := frcsK_inv h hk
    obtain ⟨vs, hax, h2⟩ := hx
    refine ⟨.agg cs, m, hk, hm, hl, fun fz h1 h3 => ⟨vs, hax, ?_⟩⟩
    exact (hv fz h1 h3 vs h2).1.mono_mem fun c hc v hcv => ⟨hT c hc, hcv⟩

/-- An argument made a tree. -/
theorem frvK_inv (h : Sim N w0 X0 Y β s a w) {t : TypeId} {x : Operand} {K : PV → List Nat → Option R} (hk : frvK P (rda s.hp) t (opv s.tm x) K = some r) :
    ∃ p m, K p m = some r ∧ (∀ id ∈ m, ∃ f cc, s.hp id = some (.ar f cc)) ∧ ∀ fz : List Nat, (∀ id ∈ m, id ∈ fz) → (∀ id ∈ fz, ∃ f cc, s.hp id = some (.ar f cc)) → ARep w (Aof (freezeIds s.hp fz) β Y) p (a.eval x) := by
  obtain ⟨p, m, h1, h2, _, h3⟩ := frvK_val h (opv_rep h x) hk
  exact ⟨p, m, h1, h2, h3⟩

theorem frvsK_inv (h : Sim N w0 X0 Y β s a w) : ∀ {ts : List TypeId} {xs : List Operand} {K : List PV → List Nat → Option R}, frvsK P (rda s.hp) ts (xs.map (opv s.tm)) K = some r →
    ∃ ps m, K ps m = some r ∧ (∀ id ∈ m, ∃ f cc, s.hp id = some (.ar f cc)) ∧ ∀ fz : List Nat, (∀ id ∈ m, id ∈ fz) → (∀ id ∈ fz, ∃ f cc, s.hp id = some (.ar f cc)) → All2 (ARep w (Aof (freezeIds s.hp fz) β Y)) ps (xs.map a.eval)
  | [], [], K, hk => ⟨[], [], hk, by simp, fun _ _ _ => trivial⟩
  | [], _ :: _, K, hk => by cases hk
  | _ :: _, [], K, hk => by cases hk
  | t :: ts, x :: xs, K, hk => by
    simp only [List.map_cons] at hk
    unfold frvsK at hk
    obtain ⟨p, m, hk, hm, hv⟩ := frvK_inv h hk
    obtain ⟨ps, ms, hk, hms, hvs⟩ := frvsK_inv h hk
    refine ⟨p :: ps, m ++ ms, hk, ?_, fun fz h1 h2 => ⟨hv fz (fun i hi => h1 i (by simp [hi])) h2, hvs fz (fun i hi => h1 i (by simp [hi])) h2⟩⟩
    intro i hi
    rcases List.mem_append.1 hi with hi | hi
    · exact hm i hi
    · exact hms i hi

theorem ARep.weaken {A' : Nat → Prop} (hA : ∀ b, b < w.heap.size → A' b → A b) {p : PV} {v : Value} (h : ARep w A p v) : ARep w A' p v := by
  have one : isT p → isT p ∧ TRep w A p v → ARep w A' p v := by
    intro hp h
    cases p <;> first | exact ⟨h.1, h.2.step (WStep.refl _ _) hA⟩ | exact hp.elim
  cases p with
  | agg cs =>
    obtain ⟨vs, rfl, h2⟩ := h
    exact ⟨vs, rfl, h2.mono fun c v hc => ⟨hc.1, hc.2.step (WStep.refl _ _) hA⟩⟩
  | _ => exact one h.1 h

theorem tcK_sc {t : CT} {p : PV} {K : PV → Option R} (h : tcK t p K = some r) :
    ∃ c, K c = some r ∧ isT c ∧ isT p ∧ (∀ (w : World) (A : Nat → Prop) (β : Nat → Option (Nat × Nat)) (v : Value), CRep w A β p v → TRep w A c v ∧ v.oneCell' = true) ∧ ((∀ es, t ≠ .sl es) → ∃ v, c = .sc v) := by
  obtain ⟨c, hk, hT, hpT, hv⟩ := tcK_inv h
  cases t with
  | sl es => exact ⟨c, hk, hT, hpT, hv, fun hne => absurd rfl (hne es)⟩
  | int k => obtain ⟨n, rfl, h2⟩ := intK_inv h; exact ⟨_, h2, trivial, trivial, fun w A β v hv => ⟨hv, by have := TRep.val (w := w) (A := A) hv; subst this; rfl⟩, fun _ => ⟨_, rfl⟩⟩
  | bool => obtain ⟨n, rfl, h2⟩ := boolK_inv h; exact ⟨_, h2, trivial, trivial, fun w A β v hv => ⟨hv, by have := TRep.val (w := w) (A := A) hv; subst this; rfl⟩, fun _ => ⟨_, rfl⟩⟩
  | str => obtain ⟨n, rfl, h2⟩ := strK_inv h; exact ⟨_, h2, trivial, trivial, fun w A β v hv => ⟨hv, by have := TRep.val (w := w) (A := A) hv; subst this; rfl⟩, fun _ => ⟨_, rfl⟩⟩
  | any => cases h

/-- Cells that a call hands back, laid into boxes. -/
theorem uncsK_inv (shr : Bool) (N : Nat) : ∀ {ts : List CT} {ps : List PV} {id : Nat} {K : List PV → List (Nat × Box) → Option R}, uncsK shr N id ts ps K = some r →
    ∃ cs bs, K cs bs = some r ∧ ps.length = ts.length ∧ (∀ p ∈ ps, ∀ x, p ≠ .agg x ∧ p ≠ .pbox x) ∧ (∀ c ∈ cs, isF c) ∧ ((∀ es, CT.sl es ∉ ts) → bs = [] ∧ ∀ c ∈ cs, ∃ v, c = .sc v) ∧
      (∀ i bx, (i, bx) ∈ bs → ∃ j es n c, ps[j]? = some (.own es n c) ∧ i = id + N * j ∧ bx = .ar false c) ∧
      (∀ c ∈ cs, ∀ i ∈ refsC c, ∃ bx, (i, bx) ∈ bs) ∧
      ∀ (w : World) (A : Nat → Prop) (own β' : Bt) (j0 : Nat) (us : List Value), (∀ j, (∃ bx, (id + N * j, bx) ∈ bs) → β' (id + N * j) = own (j0 + j)) → OCells w A own j0 ps us → All2 (CRep w A β') cs us
  | [], ps, id, K, hk => by
    obtain ⟨rfl, hk⟩ := nilK_inv hk
    refine ⟨[], [], hk, rfl, by simp, by simp, by simp, by simp, by simp, fun w A own β' j0 us _ h => ?_⟩
    cases us with
    | nil => trivial
    | cons u us => exact h.elim
  | t :: ts, ps, id, K, hk => by
    unfold uncsK at hk
    obtain ⟨p, ps', hps, hk1⟩ := consK_inv hk
    subst hps
    clear hk
    have main : ∃ c b, (uncsK shr N (id + N) ts ps' fun cs bs => K (c :: cs) (b ++ bs)) = some r ∧ (∀ x, p ≠ .agg x ∧ p ≠ .pbox x) ∧ isF c ∧ ((∀ es, t ≠ CT.sl es) → b = [] ∧ ∃ v, c = .sc v) ∧ (∀ i bx, (i, bx) ∈ b → ∃ es n cc, p = .own es n cc ∧ i = id ∧ bx = .ar false cc) ∧ (∀ i ∈ refsC c, ∃ bx, (i, bx) ∈ b) ∧
        ∀ (w : World) (A : Nat → Prop) (own : Option (Nat × Nat)) (β' : Bt) (u : Value), ((∃ bx, (id, bx) ∈ b) → β' id = own) → OCell w A own p u → CRep w A β' c u := by
      have tree : ∀ t', t' = t → (tcK t' p fun c => uncsK shr N (id + N) ts ps' fun cs bs => K (c :: cs) ([] ++ bs)) = some r → ∃ c b, (uncsK shr N (id + N) ts ps' fun cs bs => K (c :: cs) (b ++ bs)) = some r ∧ (∀ x, p ≠ .agg x ∧ p ≠ .pbox x) ∧ isF c ∧ ((∀ es, t ≠ CT.sl es) → b = [] ∧ ∃ v, c = .sc v) ∧ (∀ i bx, (i, bx) ∈ b → ∃ es n cc, p = .own es n cc ∧ i = id ∧ bx = .ar false cc) ∧ (∀ i ∈ refsC c, ∃ bx, (i, bx) ∈ b) ∧
          ∀ (w : World) (A : Nat → Prop) (own : Option (Nat × Nat)) (β' : Bt) (u : Value), ((∃ bx, (id, bx) ∈ b) → β' id = own) → OCell w A own p u → CRep w A β' c u := by
        intro t' ht' hk
        have hsc := tcK_sc hk
        obtain ⟨c, hk, hT, hpT, hv, hsc⟩ := hsc
        refine ⟨c, [], hk, fun x => ⟨isT_agg hpT x, by rintro rfl; exact hpT⟩, isF_isT hT, fun hne => ⟨rfl, hsc (fun es e => hne es (ht'.symm.trans e))⟩, by simp, by rw [refsC_isT hT]; simp, fun w A own β' u _ hc => ?_⟩
        have hc' : CRep w A β' p u := by cases p <;> first | exact hc | exact hpT.elim
        exact (CRep_isT hT).2 (hv w A β' u hc').1
      unfold uncK at hk1
      cases t with
      | sl es =>
        dsimp only at hk1
        cases shr
        · unfold owK at hk1
          simp only [cond_false] at hk1
          split at hk1
          · rename_i es' n c
            cases hb : Nat.beq es' es
            · rw [hb] at hk1; cases hk1
            · rw [hb] at hk1
              have := Nat.eq_of_beq_eq_true hb
              subst this
              refine ⟨_, _, hk1, by simp, trivial, fun hne => absurd rfl (hne _), ?_, ?_, fun w A own β' u hβ hc => ?_⟩
              · intro i bx hm; simp at hm; exact ⟨_, _, _, rfl, hm.1, hm.2⟩
              · intro i hi; simp [refsC] at hi; subst hi; exact ⟨.ar false c, by simp⟩
              · have hβ' := hβ ⟨.ar false c, by simp⟩
                clear hβ
                rcases hc with ⟨h1, rfl, rfl, h4⟩ | ⟨b, ob, cap, h1, h2, h3, h4, h5, _⟩
                · exact .inl ⟨hβ'.trans h1, rfl, rfl, h4⟩
                · exact .inr ⟨b, ob, ob, cap, hβ'.trans h1, h2, .inl rfl, h3, h4, h5⟩
          · cases hk1
        · exact tree (.sl es) rfl hk1
      | int k => exact tree (.int k) rfl hk1
      | bool => exact tree .bool rfl hk1
      | str => exact tree .str rfl hk1
      | any => exact tree .any rfl hk1
    obtain ⟨c, b, hk, hpa, hF, hsl, hb1, hb2, hcv⟩ := main
    obtain ⟨cs, bs, hk, hl, hpas, hFs, hsls, hbs1, hbs2, hcvs⟩ := uncsK_inv shr N hk
    refine ⟨c :: cs, b ++ bs, hk, by simp [hl], ?_, ?_, ?_, ?_, ?_, fun w A own β' j0 us hβ hoc => ?_⟩
    · intro x hx
      rcases List.mem_cons.1 hx with rfl | hx
      · exact hpa
      · exact hpas x hx
    · intro x hx
      rcases List.mem_cons.1 hx with rfl | hx
      · exact hF
      · exact hFs x hx
    · intro hne
      obtain ⟨h1, v, h2⟩ := hsl (fun es e => hne es (by rw [e]; simp))
      obtain ⟨h3, h4⟩ := hsls (fun es hm => hne es (by simp [hm]))
      refine ⟨by rw [h1, h3]; rfl, fun x hx => ?_⟩
      rcases List.mem_cons.1 hx with rfl | hx
      · exact ⟨v, h2⟩
      · exact h4 x hx
    · intro i bx hm
      rcases List.mem_append.1 hm with hm | hm
      · obtain ⟨es, n, cc, rfl, rfl, rfl⟩ := hb1 i bx hm
        exact ⟨0, es, n, cc, rfl, by simp, rfl⟩
      · obtain ⟨j, es, n, cc, h1, rfl, h3⟩ := hbs1 i bx hm
        exact ⟨j + 1, es, n, cc, by simpa using h1, by rw [Nat.mul_add]; omega, h3⟩
    · intro x hx i hi
      rcases List.mem_cons.1 hx with rfl | hx
      · obtain ⟨bx, hm⟩ := hb2 i hi; exact ⟨bx, by simp [hm]⟩
      · obtain ⟨bx, hm⟩ := hbs2 x hx i hi; exact ⟨bx, by simp [hm]⟩
    · cases us with
      | nil => exact hoc.elim
      | cons u us =>
        refine ⟨hcv w A (own j0) β' u (fun ⟨bx, hm⟩ => by have := hβ 0 ⟨bx, by simp [hm]⟩; simpa using this) hoc.1, ?_⟩
        refine hcvs w A own β' (j0 + 1) us (fun j ⟨bx, hm⟩ => ?_) hoc.2
        have e : id + N + N * j = id + N * (j + 1) := by rw [Nat.mul_add]; omega
        have := hβ (j + 1) ⟨bx, by rw [← e]; simp [hm]⟩
        rw [e, this]
        congr 1
        omega
end

end Go.Proofs.Ytoihfmiifeegpaa.Pv
