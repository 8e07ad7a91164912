/-
  How a state of the interpreter stands to a frame and a world; the moves that all operations share.
-/
import Derived.Test.YtoihfmiifeegpaaPvS2
namespace Go.Proofs.Ytoihfmiifeegpaa.Pv
open Go.RowKit

def liveB (b : Option Box) : Prop :=
  match b with
  | some (.st _) => True
  | some (.ar false _) => True
  | _ => False

abbrev Bt := Nat → Option (Nat × Nat)

def Xof (hp : Nat → Option Box) (β : Bt) (b : Nat) : Prop := ∃ id o, liveB (hp id) ∧ β id = some (b, o)
def Aof (hp : Nat → Option Box) (β : Bt) (Y : Nat → Prop) (b : Nat) : Prop := Xof hp β b ∨ Y b

def BRep (w : World) (A : Nat → Prop) (β : Bt) (id : Nat) (bx : Box) : Prop :=
  match bx with
  | .st cells => ∃ b o, β id = some (b, o) ∧ (∀ j c, cells[j]? = some c → ∃ v, w.cell? ⟨b, o + j, none⟩ = some v ∧ CRep w A β c v) ∧ ∀ j, j < cells.length → w.frozen? ⟨b, o + j, none⟩ = false
  | .ar fz cells => (β id = none ∧ cells = []) ∨ ∃ b o, β id = some (b, o) ∧ RdT w A ⟨b, o, none⟩ cells ∧ (fz = false → ∀ j, o ≤ j → j < bsz w b → w.frozen? ⟨b, j, none⟩ = false) ∧ (fz = true → ¬ A b)
  | .mv => True

/-- What a function may change: the blocks, and in them the cells; where what was lent lies. -/
structure Lend where
  X : Nat → Prop
  L : Nat → Nat → Prop
  pn : Nat → Prop
  pt : Nat → Option (Nat × Nat)
  p8 : ∀ i, pn i → i < 8

/-- The places of a box that lies at o. -/
def BR (bx : Box) (o j : Nat) : Prop :=
  match bx with
  | .st c => o ≤ j ∧ j < o + c.length
  | .ar _ _ => o ≤ j
  | .mv => False

structure Fr (X0 : Lend) (w0 w : World) : Prop where
  os : w.os = w0.os
  tape : w.tape = w0.tape
  output : w.output = w0.output
  step : WStep X0.X w0 w
  rng : ∀ b j, b < w0.heap.size → ¬ X0.L b j → w.cell? ⟨b, j, none⟩ = w0.cell? ⟨b, j, none⟩ ∧ w.frozen? ⟨b, j, none⟩ = w0.frozen? ⟨b, j, none⟩

structure Sim (N : Nat) (w0 : World) (X0 : Lend) (Y : Nat → Prop) (β : Bt) (s : St) (a : Act) (w : World) : Prop where
  dfr : a.defers = []
  tsz : a.tmps.size = N
  tmo : ∀ i, N ≤ i → s.tm i = .top
  tms : ∀ i, i < N → VRep w (Aof s.hp β Y) β (s.tm i) (a.tmps.getD i undef)
  box : ∀ id b, s.hp id = some b → BRep w (Aof s.hp β Y) β id b
  inj : ∀ id id' b o o', liveB (s.hp id) → liveB (s.hp id') → β id = some (b, o) → β id' = some (b, o') → id = id'
  blt : ∀ id b o, s.hp id ≠ none → β id = some (b, o) → b < w.heap.size
  wfT : ∀ i, i < N → ∀ id ∈ refs (s.tm i), s.hp id ≠ none
  wfB : ∀ id cells, s.hp id = some (.st cells) → ∀ c ∈ cells, ∀ id' ∈ refsC c, s.hp id' ≠ none
  ownd : ∀ b, Xof s.hp β b → X0.X b ∨ w0.heap.size ≤ b
  rngB : ∀ id bx b o, s.hp id = some bx → liveB (some bx) → β id = some (b, o) → b < w0.heap.size → ∀ j, BR bx o j → X0.L b j
  pin : ∀ i, X0.pn i → s.hp (pinId N i) ≠ none ∧ β (pinId N i) = X0.pt i
  stp : ∀ id c b o, s.hp id = some (.st c) → β id = some (b, o) → b < w0.heap.size → ∃ i, id = pinId N i ∧ X0.pn i
  Yx : ∀ b, Y b → ¬ Xof s.hp β b
  Ylt : ∀ b, Y b → b < w0.heap.size
  fr : Fr X0 w0 w

theorem liveB_some {b : Option Box} (h : liveB b) : b ≠ none := by rintro rfl; exact h

theorem upd_same {α : Type} (f : Nat → α) (i : Nat) (v : α) : upd f i v i = v := by simp [upd, Nat.beq_refl]
theorem upd_other {α : Type} (f : Nat → α) {i j : Nat} (v : α) (h : j ≠ i) : upd f i v j = f j := by
  have : Nat.beq j i = false := by
    cases hb : Nat.beq j i
    · rfl
    · exact absurd (Nat.eq_of_beq_eq_true hb) h
  simp [upd, this]
theorem upd_self {α : Type} (f : Nat → α) {i : Nat} {v : α} (h : f i = v) : upd f i v = f := by
  funext j
  by_cases e : j = i
  · subst e; rw [upd_same]; exact h.symm
  · exact upd_other f v e
theorem upd_comm {α : Type} (f : Nat → α) {i j : Nat} (u v : α) (h : i ≠ j) : upd (upd f i u) j v = upd (upd f j v) i u := by
  funext k
  by_cases e : k = j
  · subst e; rw [upd_same, upd_other _ _ (Ne.symm h), upd_same]
  · rw [upd_other _ _ e]
    by_cases e' : k = i
    · subst e'; rw [upd_same, upd_same]
    · rw [upd_other _ _ e', upd_other _ _ e', upd_other _ _ e]

theorem getD_put_same {a : Act} {d : Nat} {v : Value} (h : d < a.tmps.size) : (a.put (some d) v).tmps.getD d undef = v := by
  simp [Act.put, h]
theorem getD_put_other {a : Act} {d i : Nat} {v : Value} (h : i ≠ d) : (a.put (some d) v).tmps.getD i undef = a.tmps.getD i undef := by
  have h' : d ≠ i := fun e => h e.symm
  simp [Act.put, Array.getElem?_setIfInBounds_ne h']

section
variable {N : Nat} {w0 : World} {X0 : Lend} {Y : Nat → Prop} {β β' : Bt} {s : St} {a : Act} {w w' : World}

theorem put_size (d : Option Tmp) (v : Value) : (a.put d v).tmps.size = a.tmps.size := by cases d <;> simp [Act.put]
theorem put_defers (d : Option Tmp) (v : Value) : (a.put d v).defers = a.defers := by cases d <;> rfl

theorem dstOk_lt {d : Option Tmp} (h : dstOk N d = true) {i : Nat} (e : d = some i) : i < N := by
  subst e
  exact Nat.lt_of_succ_le (Nat.le_of_ble_eq_true h)

/-- Slots behind a new value. -/
theorem put_all {Q : Nat → PV → Value → Prop} {tm : Nat → PV} {d : Option Tmp} {v : PV} {val : Value} (hN : a.tmps.size = N) (hd : dstOk N d = true)
    (h : ∀ i, i < N → Q i (tm i) (a.tmps.getD i undef)) (hv : ∀ i, Q i v val) : ∀ i, i < N → Q i (putTm tm d v i) ((a.put d val).tmps.getD i undef) := by
  intro i hi
  cases d with
  | none => exact h i hi
  | some d =>
    have hlt := dstOk_lt hd rfl
    by_cases e : i = d
    · subst e
      show Q i (upd tm i v i) _
      rw [upd_same, getD_put_same (by omega)]
      exact hv i
    · show Q i (upd tm d v i) _
      rw [upd_other _ _ e, getD_put_other e]
      exact h i hi

theorem put_top {tm : Nat → PV} {d : Option Tmp} {v : PV} (hd : dstOk N d = true) (h : ∀ i, N ≤ i → tm i = .top) : ∀ i, N ≤ i → putTm tm d v i = .top := by
  intro i hi
  cases d with
  | none => exact h i hi
  | some d =>
    have := dstOk_lt hd rfl
    show upd tm d v i = _
    rw [upd_other _ _ (by omega)]
    exact h i hi

/-- A value laid into a slot. -/
theorem Sim.put (h : Sim N w0 X0 Y β s a w) {d : Option Tmp} {v : PV} {val : Value} (hd : dstOk N d = true) (hv : VRep w (Aof s.hp β Y) β v val) (hr : ∀ id ∈ refs v, s.hp id ≠ none) :
    Sim N w0 X0 Y β ⟨putTm s.tm d v, s.hp⟩ (a.put d val) w where
  dfr := by rw [put_defers]; exact h.dfr
  tsz := by rw [put_size]; exact h.tsz
  tmo := put_top hd h.tmo
  tms := put_all (Q := fun _ p u => VRep w (Aof s.hp β Y) β p u) h.tsz hd h.tms (fun _ => hv)
  box := h.box
  inj := h.inj
  blt := h.blt
  wfT := by
    have := put_all (Q := fun _ p _ => ∀ id ∈ refs p, s.hp id ≠ none) (val := val) h.tsz hd h.wfT (fun _ => hr)
    exact this
  wfB := h.wfB
  ownd := h.ownd
  rngB := h.rngB
  pin := h.pin
  stp := h.stp
  Yx := h.Yx
  Ylt := h.Ylt
  fr := h.fr

theorem freeze_get (hp : Nat → Option Box) (ids : List Nat) (i : Nat) : freezeIds hp ids i = if i ∈ ids then (hp i).map markF else hp i := by
  unfold freezeIds
  by_cases hi : i ∈ ids
  · have : ids.any (Nat.beq i) = true := List.any_eq_true.2 ⟨i, hi, Nat.beq_refl i⟩
    rw [this, if_pos hi]; rfl
  · have : ids.any (Nat.beq i) = false := by
      cases hb : ids.any (Nat.beq i)
      · rfl
      · obtain ⟨j, hj, e⟩ := List.any_eq_true.1 hb
        exact absurd (Nat.eq_of_beq_eq_true e ▸ hj) hi
    rw [this, if_neg hi]; rfl

theorem freeze_none {hp : Nat → Option Box} {ids : List Nat} {i : Nat} : freezeIds hp ids i = none ↔ hp i = none := by
  rw [freeze_get]
  split <;> simp

theorem freeze_live {hp : Nat → Option Box} {ids : List Nat} {i : Nat} (h : liveB (freezeIds hp ids i)) : liveB (hp i) := by
  rw [freeze_get] at h
  split at h
  · cases hb : hp i with
    | none => rw [hb] at h; exact h
    | some b => cases b with
      | st c => trivial
      | ar fz c => rw [hb] at h; exact h.elim
      | mv => rw [hb] at h; exact h
  · exact h

theorem freeze_same {hp : Nat → Option Box} {ids : List Nat} {i : Nat} {bx : Box} (h : freezeIds hp ids i = some bx) (hl : liveB (some bx)) : hp i = some bx := by
  rw [freeze_get] at h
  split at h
  · cases hb : hp i with
    | none => rw [hb] at h; cases h
    | some b =>
      rw [hb] at h
      cases b with
      | st c => exact h
      | ar fz c => simp only [Option.map_some, markF, Option.some.injEq] at h; subst h; exact hl.elim
      | mv => simp only [Option.map_some, markF, Option.some.injEq] at h; subst h; exact hl.elim
  · exact h

theorem freeze_X {hp : Nat → Option Box} {ids : List Nat} {b : Nat} (h : Xof (freezeIds hp ids) β b) : Xof hp β b := by
  obtain ⟨id, o, hl, hb⟩ := h
  exact ⟨id, o, freeze_live hl, hb⟩

theorem BRep.step' {A A' : Nat → Prop} {id : Nat} {bx : Box} (hA : ∀ b, A' b → A b) (h : BRep w A β id bx) : BRep w A' β id bx := by
  have hs := WStep.refl A w
  cases bx with
  | st c =>
    obtain ⟨b, o, h1, h2, h3⟩ := h
    exact ⟨b, o, h1, fun j c hj => let ⟨v, hv, hc⟩ := h2 j c hj; ⟨v, hv, hc.step hs (fun b _ => hA b) (fun _ _ => rfl)⟩, h3⟩
  | ar fz c =>
    rcases h with h | ⟨b, o, h1, h2, h3, h4⟩
    · exact .inl h
    · exact .inr ⟨b, o, h1, h2.weak (fun b _ => hA b), h3, fun e x => h4 e (hA b x)⟩
  | mv => trivial

/-- Boxes are shared from now on. -/
theorem Sim.freeze (h : Sim N w0 X0 Y β s a w) {fz : List Nat} (hfz : ∀ id ∈ fz, ∃ f c, s.hp id = some (.ar f c)) : Sim N w0 X0 Y β ⟨s.tm, freezeIds s.hp fz⟩ a w := by
  have hA : ∀ b, Aof (freezeIds s.hp fz) β Y b → Aof s.hp β Y b := fun b hb => hb.imp freeze_X id
  refine ⟨h.dfr, h.tsz, h.tmo, fun i hi => (h.tms i hi).step (WStep.refl _ _) (fun b _ => hA b) (fun _ _ => rfl), fun id b hb => ?_, fun id id' b o o' h1 h2 => h.inj id id' b o o' (freeze_live h1) (freeze_live h2),
    fun id b o hn => h.blt id b o (fun e => hn (freeze_none.2 e)), fun i hi id hid e => h.wfT i hi id hid (freeze_none.1 e), fun id cells hc c hcm id' hid e => ?_, fun b hb => h.ownd b (freeze_X hb),
    fun id bx b o hb hl => h.rngB id bx b o (freeze_same hb hl) hl, fun i hi => ⟨fun e => (h.pin i hi).1 (freeze_none.1 e), (h.pin i hi).2⟩, fun id c b o hc => h.stp id c b o (freeze_same hc trivial), fun b hb x => h.Yx b hb (freeze_X x), h.Ylt, h.fr⟩
  · simp only at hb
    rw [freeze_get] at hb
    split at hb
    · rename_i hm
      obtain ⟨f, c, hc⟩ := hfz id hm
      rw [hc] at hb
      simp only [Option.map_some, markF, Option.some.injEq] at hb
      subst hb
      have hbx := h.box id _ hc
      rcases hbx with hbx | ⟨b, o, h1, h2, h3, h4⟩
      · exact .inl hbx
      · refine .inr ⟨b, o, h1, h2.weak (fun b _ => hA b), (fun e => by cases e), fun _ hb => ?_⟩
        rcases hb with ⟨id', o', hl, hb⟩ | hY
        · have hl0 := freeze_live hl
          cases f with
          | true => exact h4 rfl (.inl ⟨id', o', hl0, hb⟩)
          | false =>
            have e := h.inj id' id b o' o hl0 (by rw [hc]; trivial) hb h1
            subst e
            simp only at hl
            rw [freeze_get, if_pos hm, hc] at hl
            exact hl
        · cases f with
          | true => exact h4 rfl (.inr hY)
          | false => exact h.Yx b hY ⟨id, o, by rw [hc]; trivial, h1⟩
    · exact (h.box id b hb).step' hA
  · simp only at hc
    rw [freeze_get] at hc
    refine h.wfB id cells ?_ c hcm id' hid (freeze_none.1 e)
    split at hc
    · rename_i hm
      obtain ⟨f, c, hc'⟩ := hfz id hm
      rw [hc'] at hc
      cases hc
    · exact hc

theorem absent_spec : ∀ {nw : List (Nat × Box)} {hp : Nat → Option Box}, absent hp nw = true →
    (∀ id bx, (id, bx) ∈ nw → hp id = none) ∧ (∀ id bx bx', (id, bx) ∈ nw → (id, bx') ∈ nw → bx = bx')
  | [], _, _ => ⟨by simp, by simp⟩
  | (i, b) :: r, hp, h => by
    simp only [absent, Bool.and_eq_true, Option.isNone_iff_eq_none, Bool.not_eq_true'] at h
    obtain ⟨⟨h1, h2⟩, h3⟩ := h
    obtain ⟨h4, h5⟩ := absent_spec h3
    have hne : ∀ bx, (i, bx) ∉ r := by
      intro bx hm
      have : r.any (fun q => Nat.beq q.1 i) = true := List.any_eq_true.2 ⟨_, hm, Nat.beq_refl i⟩
      rw [this] at h2; cases h2
    refine ⟨fun id bx hm => ?_, fun id bx bx' hm hm' => ?_⟩
    · rcases List.mem_cons.1 hm with e | hm
      · cases e; exact h1
      · exact h4 id bx hm
    · rcases List.mem_cons.1 hm with e | hm
      · cases e
        rcases List.mem_cons.1 hm' with e | hm'
        · cases e; rfl
        · exact absurd hm' (hne _)
      · rcases List.mem_cons.1 hm' with e | hm'
        · cases e; exact absurd hm (hne _)
        · exact h5 id bx bx' hm hm'

theorem addBoxes_get : ∀ {nw : List (Nat × Box)} {hp : Nat → Option Box}, (∀ id bx bx', (id, bx) ∈ nw → (id, bx') ∈ nw → bx = bx') →
    (∀ id bx, (id, bx) ∈ nw → addBoxes hp nw id = some bx) ∧ (∀ id, (∀ bx, (id, bx) ∉ nw) → addBoxes hp nw id = hp id)
  | [], _, _ => ⟨by simp, fun _ _ => rfl⟩
  | (i, b) :: r, hp, h => by
    obtain ⟨h1, h2⟩ := addBoxes_get (nw := r) (hp := upd hp i (some b)) (fun id bx bx' hm hm' => h id bx bx' (by simp [hm]) (by simp [hm']))
    refine ⟨fun id bx hm => ?_, fun id hn => ?_⟩
    · by_cases hr : ∃ bx', (id, bx') ∈ r
      · obtain ⟨bx', hr⟩ := hr
        have := h id bx bx' hm (by simp [hr])
        subst this
        exact h1 id bx hr
      · rcases List.mem_cons.1 hm with e | hm
        · cases e
          show addBoxes (upd hp i (some b)) r i = _
          rw [h2 i (fun bx' hb => hr ⟨bx', hb⟩), upd_same]
        · exact absurd ⟨bx, hm⟩ hr
    · show addBoxes (upd hp i (some b)) r id = _
      rw [h2 id (fun bx hb => hn bx (by simp [hb])), upd_other]
      rintro rfl
      exact hn b (by simp)

/-- What an operation of class R leaves, in the world. -/
structure StepR (Y : Nat → Prop) (β : Bt) (s : St) (w : World) (v : PV) (nw : List (Nat × Box)) (val : Value) (w' : World) (β' : Bt) : Prop where
  os : w'.os = w.os
  tape : w'.tape = w.tape
  output : w'.output = w.output
  ext : WStep (fun _ => False) w w'
  old : ∀ id, s.hp id ≠ none → β' id = β id
  nlive : ∀ id bx, (id, bx) ∈ nw → liveB (some bx)
  nbox : ∀ id bx, (id, bx) ∈ nw → BRep w' (Aof (addBoxes s.hp nw) β' Y) β' id bx
  nblk : ∀ id bx b o, (id, bx) ∈ nw → β' id = some (b, o) → w.heap.size ≤ b ∧ b < w'.heap.size
  ninj : ∀ id bx id' bx' b o o', (id, bx) ∈ nw → (id', bx') ∈ nw → β' id = some (b, o) → β' id' = some (b, o') → id = id'
  nwf : ∀ id cells, (id, .st cells) ∈ nw → ∀ c ∈ cells, ∀ id' ∈ refsC c, s.hp id' ≠ none ∨ ∃ bx, (id', bx) ∈ nw
  val : VRep w' (Aof (addBoxes s.hp nw) β' Y) β' v val
  vwf : ∀ id ∈ refs v, s.hp id ≠ none ∨ ∃ bx, (id, bx) ∈ nw

theorem Sim.stepR (h : Sim N w0 X0 Y β s a w) {d : Option Tmp} {v : PV} {nw : List (Nat × Box)} {val : Value} (hd : dstOk N d = true) (hab : absent s.hp nw = true)
    (st : StepR Y β s w v nw val w' β') : Sim N w0 X0 Y β' ⟨putTm s.tm d v, addBoxes s.hp nw⟩ (a.put d val) w' := by
  obtain ⟨ha1, ha2⟩ := absent_spec hab
  obtain ⟨hg1, hg2⟩ := addBoxes_get (hp := s.hp) ha2
  have hcase : ∀ id, (∃ bx, (id, bx) ∈ nw) ∨ addBoxes s.hp nw id = s.hp id := fun id => by
    by_cases hx : ∃ bx, (id, bx) ∈ nw
    · exact .inl hx
    · exact .inr (hg2 id fun bx hb => hx ⟨bx, hb⟩)
  have hpres : ∀ id, s.hp id ≠ none → addBoxes s.hp nw id = s.hp id := fun id hn => by
    rcases hcase id with ⟨bx, hx⟩ | e
    · exact absurd (ha1 id bx hx) hn
    · exact e
  have hnn : ∀ id, (s.hp id ≠ none ∨ ∃ bx, (id, bx) ∈ nw) → addBoxes s.hp nw id ≠ none := by
    rintro id (hn | ⟨bx, hx⟩)
    · rw [hpres id hn]; exact hn
    · rw [hg1 id bx hx]; simp
  have hXold : ∀ b, b < w.heap.size → Xof (addBoxes s.hp nw) β' b → Xof s.hp β b := by
    rintro b hb ⟨id, o, hl, hβ⟩
    rcases hcase id with ⟨bx, hx⟩ | e
    · have := (st.nblk id bx b o hx hβ).1; omega
    · rw [e] at hl
      exact ⟨id, o, hl, by rw [← st.old id (liveB_some hl)]; exact hβ⟩
  have hAold : ∀ b, b < w.heap.size → Aof (addBoxes s.hp nw) β' Y b → Aof s.hp β Y b := fun b hb hA => hA.imp (hXold b hb) id
  have hstep : WStep (Aof s.hp β Y) w w' := st.ext.weaken (fun _ _ x => x.elim)
  refine ⟨by rw [put_defers]; exact h.dfr, by rw [put_size]; exact h.tsz, put_top hd h.tmo, ?_, ?_, ?_, ?_, ?_, ?_, ?_, ?_, ?_, ?_, ?_, h.Ylt, ?_⟩
  · refine put_all (Q := fun _ p u => VRep w' (Aof (addBoxes s.hp nw) β' Y) β' p u) h.tsz hd (fun i hi => ?_) (fun _ => st.val)
    exact (h.tms i hi).step hstep hAold fun id hid => st.old id (h.wfT i hi id hid)
  · intro id b hb
    simp only at hb
    rcases hcase id with ⟨bx, hx⟩ | e
    · rw [hg1 id bx hx] at hb
      cases hb
      exact st.nbox id _ hx
    · rw [e] at hb
      have hβ := st.old id (by rw [hb]; simp)
      have hbx := h.box id b hb
      have hlt := h.blt id
      have hne : s.hp id ≠ none := by rw [hb]; simp
      cases b with
      | st c =>
        obtain ⟨b, o, h1, h2, h3⟩ := hbx
        have hb' := hlt b o hne h1
        have hbl := st.ext.keep b hb' (fun x => x)
        refine ⟨b, o, by rw [hβ]; exact h1, fun j c hj => ?_, fun j hj => ?_⟩
        · obtain ⟨v, hv, hc⟩ := h2 j c hj
          refine ⟨v, by rw [World.cell?_of_block (w := w) hbl]; exact hv, hc.step hstep hAold fun id' hid => st.old id' ?_⟩
          exact h.wfB id _ hb c (List.mem_of_getElem? hj) id' hid
        · rw [World.frozen?_of_block (w := w) hbl]; exact h3 j hj
      | ar fz c =>
        rcases hbx with ⟨h1, h2⟩ | ⟨b, o, h1, h2, h3, h4⟩
        · exact .inl ⟨by rw [hβ]; exact h1, h2⟩
        · have hb' := hlt b o hne h1
          have hbl := st.ext.keep b hb' (fun x => x)
          have hbs : bsz w' b = bsz w b := by unfold bsz; rw [hbl]
          refine .inr ⟨b, o, by rw [hβ]; exact h1, fun j c hj => ?_, fun e j hj hj' => ?_, fun e x => h4 e (hAold b hb' x)⟩
          · obtain ⟨v, hv, h5, hc⟩ := h2 j c hj
            exact ⟨v, by rw [World.cell?_of_block (w := w) (by rw [add_block]; exact hbl)]; exact hv, h5, hc.step hstep hAold⟩
          · rw [World.frozen?_of_block (w := w) hbl]; exact h3 e j hj (by rw [← hbs]; exact hj')
      | mv => trivial
  · intro id id' b o o' hl hl' hb hb'
    simp only at hl hl'
    rcases hcase id with ⟨bx, hx⟩ | e
    · rcases hcase id' with ⟨bx', hx'⟩ | e'
      · exact st.ninj id bx id' bx' b o o' hx hx' hb hb'
      · rw [e'] at hl'
        have h1 := (st.nblk id bx b o hx hb).1
        have h2 := h.blt id' b o' (liveB_some hl') (by rw [← st.old id' (liveB_some hl')]; exact hb')
        omega
    · rw [e] at hl
      rcases hcase id' with ⟨bx', hx'⟩ | e'
      · have h1 := (st.nblk id' bx' b o' hx' hb').1
        have h2 := h.blt id b o (liveB_some hl) (by rw [← st.old id (liveB_some hl)]; exact hb)
        omega
      · rw [e'] at hl'
        exact h.inj id id' b o o' hl hl' (by rw [← st.old id (liveB_some hl)]; exact hb) (by rw [← st.old id' (liveB_some hl')]; exact hb')
  · intro id b o hn hb
    simp only at hn
    rcases hcase id with ⟨bx, hx⟩ | e
    · exact (st.nblk id bx b o hx hb).2
    · rw [e] at hn
      exact Nat.lt_of_lt_of_le (h.blt id b o hn (by rw [← st.old id hn]; exact hb)) st.ext.size
  · have := put_all (Q := fun _ p _ => ∀ id ∈ refs p, addBoxes s.hp nw id ≠ none) (val := val) (d := d) (v := v) h.tsz hd (fun i hi id hid => hnn id (.inl (h.wfT i hi id hid))) (fun _ id hid => hnn id (st.vwf id hid))
    exact this
  · intro id cells hc c hcm id' hid
    simp only at hc
    rcases hcase id with ⟨bx, hx⟩ | e
    · rw [hg1 id bx hx] at hc
      cases hc
      exact hnn id' (st.nwf id _ hx c hcm id' hid)
    · rw [e] at hc
      exact hnn id' (.inl (h.wfB id cells hc c hcm id' hid))
  · rintro b ⟨id, o, hl, hb⟩
    simp only at hl
    rcases hcase id with ⟨bx, hx⟩ | e
    · exact .inr (Nat.le_trans h.fr.step.size (st.nblk id bx b o hx hb).1)
    · rw [e] at hl
      exact h.ownd b ⟨id, o, hl, by rw [← st.old id (liveB_some hl)]; exact hb⟩
  · intro id bx b o hb hl hβ hlt
    simp only at hb
    rcases hcase id with ⟨bx', hx⟩ | e
    · have := (st.nblk id bx' b o hx hβ).1
      have := h.fr.step.size
      omega
    · rw [e] at hb
      exact h.rngB id bx b o hb hl (by rw [← st.old id (by rw [hb]; simp)]; exact hβ) hlt
  · intro i hi
    obtain ⟨h1, h2⟩ := h.pin i hi
    exact ⟨hnn _ (.inl h1), by rw [st.old _ h1]; exact h2⟩
  · intro id c b o hb hβ hlt
    simp only at hb
    rcases hcase id with ⟨bx', hx⟩ | e
    · have := (st.nblk id bx' b o hx hβ).1
      have := h.fr.step.size
      omega
    · rw [e] at hb
      exact h.stp id c b o hb (by rw [← st.old id (by rw [hb]; simp)]; exact hβ) hlt
  · rintro b hY hX
    have hb : b < w.heap.size := Nat.lt_of_lt_of_le (h.Ylt b hY) h.fr.step.size
    exact h.Yx b hY (hXold b hb hX)
  · refine ⟨st.os.trans h.fr.os, st.tape.trans h.fr.tape, st.output.trans h.fr.output, h.fr.step.trans st.ext (fun _ _ x => x.elim), fun b j hb hL => ?_⟩
    have hbl := st.ext.keep b (Nat.lt_of_lt_of_le hb h.fr.step.size) (fun x => x)
    have hc : w'.cell? ⟨b, j, none⟩ = w.cell? ⟨b, j, none⟩ := World.cell?_of_block (w := w) hbl
    have hf : w'.frozen? ⟨b, j, none⟩ = w.frozen? ⟨b, j, none⟩ := World.frozen?_of_block (w := w) hbl
    rw [hc, hf]
    exact h.fr.rng b j hb hL
end

end Go.Proofs.Ytoihfmiifeegpaa.Pv
