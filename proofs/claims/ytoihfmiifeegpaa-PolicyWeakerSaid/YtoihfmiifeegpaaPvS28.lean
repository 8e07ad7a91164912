/-
  The canonical state at a loop's head.
-/
import Derived.Test.YtoihfmiifeegpaaPvS27
namespace Go.Proofs.Ytoihfmiifeegpaa.Pv
open Go.RowKit

section
variable {R : Type} {r : R} {N : Nat} {w0 : World} {X0 : Lend} {Y : Nat → Prop} {β β' : Bt} {s : St} {a : Act} {w w' : World}

theorem put_self {i : Nat} (hi : i < a.tmps.size) : a.put (some i) (a.tmps.getD i undef) = a := by
  obtain ⟨tmps, dfr⟩ := a
  change i < tmps.size at hi
  have : tmps.setIfInBounds i (tmps.getD i undef) = tmps := by
    apply Array.ext_getElem?
    intro k
    by_cases e : i = k
    · subst e
      simp [hi]
    · rw [Array.getElem?_setIfInBounds_ne e]
  simp only [Act.put, this]

theorem lst_nil {A : Nat → Prop} {es : Nat} {v : Value} (h : TRep w A (.lst true es 0 []) v) : v = .slice none 0 0 := by
  cases h; rfl

/-- A new box that is an empty row of nobody's. -/
theorem stepNil {id : Nat} (hid : s.hp id = none) {v : PV} {val : Value} (hv : VRep w (Aof (addBoxes s.hp [(id, .ar false [])]) (upd β id none) Y) (upd β id none) v val) (hr : ∀ i ∈ refs v, s.hp i ≠ none ∨ i = id) :
    StepR Y β s w v [(id, .ar false [])] val w (upd β id none) := by
  refine ⟨rfl, rfl, rfl, WStep.refl _ _, fun j hj => upd_other _ _ (by rintro rfl; exact hj hid), ?_, ?_, ?_, ?_, ?_, hv, ?_⟩
  · intro j bx hm; simp at hm; rw [hm.2]; trivial
  · intro j bx hm; simp at hm; obtain ⟨rfl, rfl⟩ := hm; exact .inl ⟨upd_same _ _ _, rfl⟩
  · intro j bx k q hm hq; simp at hm; obtain ⟨rfl, rfl⟩ := hm; rw [upd_same] at hq; cases hq
  · intro j bx j' bx' k q q' hm hm' _ _; simp at hm hm'; rw [hm.1, hm'.1]
  · intro j cells hm; simp at hm
  · intro j hj
    rcases hr j hj with h | rfl
    · exact .inl h
    · exact .inr ⟨.ar false [], by simp⟩

theorem nilSlot_sound (h : Sim N w0 X0 Y β s a w) (i : Nat) : ∃ β', Sim N w0 X0 Y β' (nilSlot s i) a w := by
  unfold nilSlot
  split
  · rename_i es ht
    cases hn : (s.hp i).isNone
    · exact ⟨β, h⟩
    · have hn : s.hp i = none := by simpa using hn
      have hlt : i < N := by
        rcases Nat.lt_or_ge i N with h' | h'
        · exact h'
        · rw [h.tmo i h'] at ht; cases ht
      have hv := h.tms i hlt
      rw [ht] at hv
      have hv := lst_nil hv
      have hd : dstOk N (some i) = true := by simp [dstOk, Nat.blt]; omega
      have := h.stepR (d := some i) hd (by simp [absent, hn]) (stepNil (v := .view i es 0 0) (val := .slice none 0 0) hn (.inl ⟨upd_same _ _ _, rfl, rfl, rfl⟩) (by simp [refs, refs1, refsC]))
      rw [← hv, put_self (by rw [h.tsz]; exact hlt)] at this
      exact ⟨_, this⟩
  · exact ⟨β, h⟩

/-- Cells of a variable, told otherwise. -/
theorem Sim.recell (h : Sim N w0 X0 Y β s a w) {id : Nat} {c c' : List PV} (h0 : s.hp id = some (.st c)) (hl : c'.length = c.length)
    (hc : ∀ (j : Nat) p, c'[j]? = some p → ∃ q, c[j]? = some q ∧ (∀ v, CRep w (Aof s.hp β Y) β q v → CRep w (Aof s.hp β Y) β p v) ∧ ∀ i ∈ refsC p, s.hp i ≠ none) :
    Sim N w0 X0 Y β ⟨s.tm, upd s.hp id (some (.st c'))⟩ a w := by
  have hlive : ∀ i, liveB (upd s.hp id (some (.st c')) i) ↔ liveB (s.hp i) := by
    intro i
    by_cases e : i = id
    · subst e; rw [upd_same, h0]; exact Iff.rfl
    · rw [upd_other _ _ e]
  have hX : Xof (upd s.hp id (some (.st c'))) β = Xof s.hp β := by
    funext b
    apply propext
    constructor
    · rintro ⟨i, o, hl, hb⟩; exact ⟨i, o, (hlive i).1 hl, hb⟩
    · rintro ⟨i, o, hl, hb⟩; exact ⟨i, o, (hlive i).2 hl, hb⟩
  have hA : Aof (upd s.hp id (some (.st c'))) β Y = Aof s.hp β Y := by
    funext b; unfold Aof; rw [hX]
  have hne : ∀ i, s.hp i ≠ none → upd s.hp id (some (.st c')) i ≠ none := by
    intro i hi
    by_cases e : i = id
    · subst e; rw [upd_same]; simp
    · rw [upd_other _ _ e]; exact hi
  have hne' : ∀ i, upd s.hp id (some (.st c')) i ≠ none → s.hp i ≠ none := by
    intro i hi
    by_cases e : i = id
    · subst e; rw [h0]; simp
    · rw [upd_other _ _ e] at hi; exact hi
  refine ⟨h.dfr, h.tsz, h.tmo, ?_, ?_, ?_, ?_, ?_, ?_, ?_, ?_, fun i hi => ⟨hne _ (h.pin i hi).1, (h.pin i hi).2⟩, ?_, ?_, h.Ylt, h.fr⟩
  · intro i hi
    show VRep w (Aof (upd s.hp id _) β Y) β _ _
    rw [hA]
    exact h.tms i hi
  · intro i b hb
    show BRep w (Aof (upd s.hp id _) β Y) β i b
    rw [hA]
    by_cases e : i = id
    · subst e
      change upd s.hp i (some (.st c')) i = some b at hb
      rw [upd_same] at hb
      cases hb
      obtain ⟨b, o, h1, h2, h3⟩ := h.box i _ h0
      refine ⟨b, o, h1, fun j p hj => ?_, fun j hj => h3 j (by rw [← hl]; exact hj)⟩
      obtain ⟨q, hq, hqp, _⟩ := hc j p hj
      obtain ⟨v, hv, hr⟩ := h2 j q hq
      exact ⟨v, hv, hqp v hr⟩
    · change upd s.hp id (some (.st c')) i = some b at hb
      rw [upd_other _ _ e] at hb
      exact h.box i b hb
  · intro i i' b o o' hl hl' hb hb'
    exact h.inj i i' b o o' ((hlive i).1 hl) ((hlive i').1 hl') hb hb'
  · intro i b o hn hb
    exact h.blt i b o (hne' i hn) hb
  · intro i hi j hj
    exact hne j (h.wfT i hi j hj)
  · intro i cells hb p hp j hj
    change upd s.hp id (some (.st c')) i = _ at hb
    by_cases e : i = id
    · subst e
      rw [upd_same] at hb
      cases hb
      obtain ⟨k, hk⟩ := List.mem_iff_getElem?.1 hp
      obtain ⟨_, _, _, hr⟩ := hc k p hk
      exact hne j (hr j hj)
    · rw [upd_other _ _ e] at hb
      exact hne j (h.wfB i cells hb p hp j hj)
  · intro b hb
    exact h.ownd b (by rw [← hX]; exact hb)
  · intro i bx b o hb hlb hβ hlt j hj
    change upd s.hp id (some (.st c')) i = some bx at hb
    by_cases e : i = id
    · subst e
      rw [upd_same] at hb
      cases hb
      exact h.rngB i _ b o h0 trivial hβ hlt j (by unfold BR at hj ⊢; simp only [hl] at hj; exact hj)
    · rw [upd_other _ _ e] at hb
      exact h.rngB i bx b o hb hlb hβ hlt j hj
  · intro i c1 b o hb hβ hlt
    change upd s.hp id (some (.st c')) i = _ at hb
    by_cases e : i = id
    · subst e
      exact h.stp i c b o h0 hβ hlt
    · rw [upd_other _ _ e] at hb
      exact h.stp i c1 b o hb hβ hlt
  · intro b hY hb
    exact h.Yx b hY (by rw [← hX]; exact hb)

theorem nilCell_sound (h : Sim N w0 X0 Y β s a w) (id j : Nat) : ∃ β', Sim N w0 X0 Y β' (nilCell N id s j) a w := by
  unfold nilCell
  split
  · rename_i c h0
    split
    · rename_i es hj
      cases hn : (s.hp (id + N * (j + 1))).isNone
      · exact ⟨β, h⟩
      · have hn : s.hp (id + N * (j + 1)) = none := by simpa using hn
        have hne : id ≠ id + N * (j + 1) := by
          intro e
          rw [← e, h0] at hn
          cases hn
        have h1 := h.stepR (d := none) (v := .top) (val := undef) rfl (by simp [absent, hn]) (stepNil hn (.top _) (by simp [refs, refs1, refsC]))
        change Sim N w0 X0 Y (upd β (id + N * (j + 1)) none) ⟨s.tm, upd s.hp (id + N * (j + 1)) (some (.ar false []))⟩ a w at h1
        have h2 := h1.recell (id := id) (c := c) (c' := c.set j (.view (id + N * (j + 1)) es 0 0)) (by show upd _ _ _ _ = _; rw [upd_other _ _ hne]; exact h0) (by simp) (by
          intro k p hp
          by_cases e : k = j
          · subst e
            have hlt : k < c.length := by
              rcases Nat.lt_or_ge k c.length with h' | h'
              · exact h'
              · rw [List.getElem?_eq_none h'] at hj; cases hj
            rw [List.getElem?_set_self hlt] at hp
            cases hp
            refine ⟨_, hj, fun v hv => .inl ⟨upd_same _ _ _, rfl, rfl, lst_nil hv⟩, fun i hi => ?_⟩
            simp [refsC] at hi
            subst hi
            show upd _ _ _ _ ≠ none
            rw [upd_same]
            simp
          · rw [List.getElem?_set_ne (fun h => e h.symm)] at hp
            refine ⟨p, hp, fun _ hv => hv, fun i hi => ?_⟩
            have := h.wfB id c h0 p (List.mem_of_getElem? hp) i hi
            show upd _ _ _ _ ≠ none
            by_cases e' : i = id + N * (j + 1)
            · subst e'; rw [upd_same]; simp
            · rw [upd_other _ _ e']; exact this)
        refine ⟨upd β (id + N * (j + 1)) none, ?_⟩
        have e3 : upd (upd s.hp (id + N * (j + 1)) (some (.ar false []))) id (some (.st (c.set j (.view (id + N * (j + 1)) es 0 0)))) = upd (upd s.hp id (some (.st (c.set j (.view (id + N * (j + 1)) es 0 0))))) (id + N * (j + 1)) (some (.ar false [])) := upd_comm _ _ _ (fun h => hne h.symm)
        change Sim N w0 X0 Y (upd β (id + N * (j + 1)) none) ⟨s.tm, upd (upd s.hp (id + N * (j + 1)) (some (.ar false []))) id (some (.st (c.set j (.view (id + N * (j + 1)) es 0 0))))⟩ a w at h2
        rw [e3] at h2
        exact h2
    · exact ⟨β, h⟩
  · exact ⟨β, h⟩

theorem foldl_sound {f : St → Nat → St} (hf : ∀ s β, Sim N w0 X0 Y β s a w → ∀ i, ∃ β', Sim N w0 X0 Y β' (f s i) a w) : ∀ (l : List Nat) {s : St} {β : Bt}, Sim N w0 X0 Y β s a w → ∃ β', Sim N w0 X0 Y β' (l.foldl f s) a w
  | [], _, β, h => ⟨β, h⟩
  | i :: l, s, β, h => by
    obtain ⟨β1, h1⟩ := hf s β h i
    exact foldl_sound hf l h1

theorem nilBox_sound (h : Sim N w0 X0 Y β s a w) (i : Nat) : ∃ β', Sim N w0 X0 Y β' (nilBox N s i) a w := by
  unfold nilBox
  split
  · split
    · exact foldl_sound (fun s β h i => nilCell_sound h _ i) _ h
    · exact ⟨β, h⟩
  · exact ⟨β, h⟩

/- New names. -/
theorem nodup_snd : ∀ {m : List (Nat × Nat)}, nodupB (m.map (·.2)) = true → ∀ {i i' j : Nat}, (i, j) ∈ m → (i', j) ∈ m → i = i'
  | [], _, _, _, _, h, _ => by simp at h
  | (x, y) :: m, hn, i, i', j, h, h' => by
    simp only [List.map_cons, nodupB, Bool.and_eq_true, Bool.not_eq_true'] at hn
    have hy : ∀ k, (k, y) ∉ m := by
      intro k hk
      exact any_beq hn.1 (List.mem_map.2 ⟨(k, y), hk, rfl⟩)
    rcases List.mem_cons.1 h with e | h
    · cases e
      rcases List.mem_cons.1 h' with e | h'
      · cases e; rfl
      · exact absurd h' (hy _)
    · rcases List.mem_cons.1 h' with e | h'
      · cases e; exact absurd h (hy _)
      · exact nodup_snd hn.2 h h'
theorem nodup_fst : ∀ {m : List (Nat × Nat)}, nodupB (m.map (·.1)) = true → ∀ {i j j' : Nat}, (i, j) ∈ m → (i, j') ∈ m → j = j'
  | [], _, _, _, _, h, _ => by simp at h
  | (x, y) :: m, hn, i, j, j', h, h' => by
    simp only [List.map_cons, nodupB, Bool.and_eq_true, Bool.not_eq_true'] at hn
    have hx : ∀ k, (x, k) ∉ m := by
      intro k hk
      exact any_beq hn.1 (List.mem_map.2 ⟨(x, k), hk, rfl⟩)
    rcases List.mem_cons.1 h with e | h
    · cases e
      rcases List.mem_cons.1 h' with e | h'
      · cases e; rfl
      · exact absurd h' (hx _)
    · rcases List.mem_cons.1 h' with e | h'
      · cases e; exact absurd h (hx _)
      · exact nodup_fst hn.2 h h'

theorem beq_false_ne {i j : Nat} (h : Nat.beq i j = false) : i ≠ j := by rintro rfl; rw [Nat.beq_refl] at h; cases h

theorem lkn_mem : ∀ {m : List (Nat × Nat)} {i j : Nat}, lkn m i = some j → (i, j) ∈ m
  | [], _, _, h => by cases h
  | (x, y) :: m, i, j, h => by
    unfold lkn at h
    cases hb : Nat.beq i x <;> rw [hb] at h
    · exact List.mem_cons_of_mem _ (lkn_mem h)
    · have := Nat.eq_of_beq_eq_true hb
      cases h
      rw [this]
      simp

theorem newHp_mem {m : List (Nat × Nat)} {hp : Nat → Option Box} : ∀ {l : List (Nat × Nat)} {j : Nat} {b : Box}, lkh (newHp m hp l) j = some b → ∃ i b0, (i, j) ∈ l ∧ hp i = some b0 ∧ b = renB m b0
  | [], _, _, h => by cases h
  | (x, y) :: l, j, b, h => by
    unfold newHp at h
    cases hx : hp x with
    | none =>
      rw [hx] at h
      obtain ⟨i, b0, h1, h2⟩ := newHp_mem h
      exact ⟨i, b0, List.mem_cons_of_mem _ h1, h2⟩
    | some bx =>
      rw [hx] at h
      simp only [lkh] at h
      cases hb : Nat.beq j y <;> rw [hb] at h
      · obtain ⟨i, b0, h1, h2⟩ := newHp_mem h
        exact ⟨i, b0, List.mem_cons_of_mem _ h1, h2⟩
      · have := Nat.eq_of_beq_eq_true hb
        subst this
        cases h
        exact ⟨x, bx, by simp, hx, rfl⟩

theorem newHp_some {m : List (Nat × Nat)} {hp : Nat → Option Box} : ∀ {l : List (Nat × Nat)} {i j : Nat}, (i, j) ∈ l → hp i ≠ none → lkh (newHp m hp l) j ≠ none
  | [], _, _, h, _ => by simp at h
  | (x, y) :: l, i, j, h, hi => by
    unfold newHp
    cases hx : hp x with
    | none =>
      rcases List.mem_cons.1 h with e | h
      · cases e; exact absurd hx hi
      · exact newHp_some h hi
    | some bx =>
      simp only [lkh]
      cases hb : Nat.beq j y
      · rcases List.mem_cons.1 h with e | h
        · cases e; exact absurd rfl (beq_false_ne hb)
        · exact newHp_some h hi
      · simp

def lkr (m : List (Nat × Nat)) (j : Nat) : Option Nat :=
  match m with
  | [] => none
  | (x, y) :: r => bif Nat.beq j y then some x else lkr r j

theorem lkr_mem : ∀ {m : List (Nat × Nat)} {i j : Nat}, lkr m j = some i → (i, j) ∈ m
  | [], _, _, h => by cases h
  | (x, y) :: m, i, j, h => by
    unfold lkr at h
    cases hb : Nat.beq j y <;> rw [hb] at h
    · exact List.mem_cons_of_mem _ (lkr_mem h)
    · have := Nat.eq_of_beq_eq_true hb
      cases h
      rw [this]
      simp
theorem lkr_some : ∀ {m : List (Nat × Nat)} {i j : Nat}, (i, j) ∈ m → ∃ k, lkr m j = some k
  | [], _, _, h => by simp at h
  | (x, y) :: m, i, j, h => by
    unfold lkr
    cases hb : Nat.beq j y
    · rcases List.mem_cons.1 h with e | h
      · cases e; exact absurd rfl (beq_false_ne hb)
      · exact lkr_some h
    · exact ⟨x, rfl⟩

theorem lk_map {f : Nat → PV} : ∀ {l : List Nat} {i : Nat}, lk (l.map fun i => (i, f i)) i = if i ∈ l then f i else .top
  | [], _ => rfl
  | x :: l, i => by
    simp only [List.map_cons, lk]
    cases hb : Nat.beq i x
    · have := beq_false_ne hb
      simp only [cond_false, lk_map, List.mem_cons, this, false_or]
    · have := Nat.eq_of_beq_eq_true hb
      subst this
      simp

theorem bitsOn_lt {m : Nat} : ∀ {n i : Nat}, i ∈ bitsOn m n → i < n
  | 0, _, h => by simp [bitsOn] at h
  | n + 1, i, h => by
    simp only [bitsOn, List.mem_append] at h
    rcases h with h | h
    · have := bitsOn_lt h; omega
    · cases hb : m.testBit n <;> rw [hb] at h
      · simp at h
      · simp at h; omega

theorem rename_sound (h : Sim N w0 X0 Y β s a w) {m : List (Nat × Nat)} (h1 : nodupB (m.map (·.1)) = true) (h2 : nodupB (m.map (·.2)) = true) {ls : List Nat} (hls : ∀ i ∈ ls, i < N) (hpn : ∀ i, X0.pn i → (pinId N i, pinId N i) ∈ m) :
    ∃ β', Sim N w0 X0 Y β' ⟨lk (ls.map fun i => (i, renV m (s.tm i))), lkh (newHp m s.hp m)⟩ a w := by
  refine ⟨fun j => (lkr m j).bind β, ?_⟩
  have hβ : ∀ {i j : Nat}, (i, j) ∈ m → (lkr m j).bind β = β i := by
    intro i j hm
    obtain ⟨k, hk⟩ := lkr_some hm
    rw [hk]
    have := nodup_snd h2 (lkr_mem hk) hm
    subst this
    rfl
  have hold : ∀ {j : Nat} {b : Box}, lkh (newHp m s.hp m) j = some b → ∃ i b0, (i, j) ∈ m ∧ s.hp i = some b0 ∧ b = renB m b0 ∧ (lkr m j).bind β = β i := by
    intro j b hb
    obtain ⟨i, b0, hm, h3, h4⟩ := newHp_mem hb
    exact ⟨i, b0, hm, h3, h4, hβ hm⟩
  have hlive : ∀ {j : Nat}, liveB (lkh (newHp m s.hp m) j) → ∃ i, (i, j) ∈ m ∧ liveB (s.hp i) ∧ (lkr m j).bind β = β i := by
    intro j hl
    cases hb : lkh (newHp m s.hp m) j with
    | none => rw [hb] at hl; exact hl.elim
    | some b =>
      obtain ⟨i, b0, hm, h3, rfl, h5⟩ := hold hb
      refine ⟨i, hm, ?_, h5⟩
      rw [hb] at hl
      rw [h3]
      cases b0 <;> exact hl
  have hX : ∀ b, Xof (lkh (newHp m s.hp m)) (fun j => (lkr m j).bind β) b → Xof s.hp β b := by
    rintro b ⟨j, o, hl, hb⟩
    obtain ⟨i, _, hl', e⟩ := hlive hl
    exact ⟨i, o, hl', by rw [← e]; exact hb⟩
  have hA : ∀ b, Aof (lkh (newHp m s.hp m)) (fun j => (lkr m j).bind β) Y b → Aof s.hp β Y b := fun b hb => hb.imp (hX b) id
  have hC : ∀ p v, CRep w (Aof s.hp β Y) β p v → CRep w (Aof (lkh (newHp m s.hp m)) (fun j => (lkr m j).bind β) Y) (fun j => (lkr m j).bind β) (renC m p) v := by
    intro p v hp
    cases p with
    | view id es off n =>
      show CRep _ _ _ (match lkn m id with | some j => .view j es off n | none => .top) v
      cases hj : lkn m id with
      | some j =>
        have e := hβ (lkn_mem hj)
        rcases hp with ⟨e1, e2⟩ | ⟨b, o, x, cap, e1, e2⟩
        · exact .inl ⟨by show (lkr m j).bind β = none; rw [e]; exact e1, e2⟩
        · exact .inr ⟨b, o, x, cap, by show (lkr m j).bind β = _; rw [e]; exact e1, e2⟩
      | none => exact TRep.top _
    | ptr id off =>
      show CRep _ _ _ (match lkn m id with | some j => .ptr j off | none => .top) v
      cases hj : lkn m id with
      | some j =>
        have e := hβ (lkn_mem hj)
        obtain ⟨b, o, e1, e2⟩ := hp
        exact ⟨b, o, by show (lkr m j).bind β = _; rw [e]; exact e1, e2⟩
      | none => exact TRep.top _
    | sc v => exact TRep.step (WStep.refl _ _) (fun b _ => hA b) hp
    | lst z es n c => exact TRep.step (WStep.refl _ _) (fun b _ => hA b) hp
    | iptr c off => exact CRep.step (p := .iptr c off) (WStep.refl _ _) (fun b _ => hA b) (by simp [refsC]) hp
    | _ => exact TRep.top _
  have hV : ∀ p v, VRep w (Aof s.hp β Y) β p v → VRep w (Aof (lkh (newHp m s.hp m)) (fun j => (lkr m j).bind β) Y) (fun j => (lkr m j).bind β) (renV m p) v := by
    intro p v hp
    cases p with
    | agg c =>
      obtain ⟨vs, e1, e2⟩ := hp
      refine ⟨vs, e1, All2.of_at (by simp; exact e2.len) fun i q u hq hu => ?_⟩
      rw [List.getElem?_map] at hq
      cases hc : c[i]? with
      | none => rw [hc] at hq; cases hq
      | some q0 =>
        rw [hc] at hq
        cases hq
        exact hC _ _ (e2.at_ hc hu)
    | view id es off n =>
      have := hC (.view id es off n) v hp
      change CRep _ _ _ (match lkn m id with | some j => .view j es off n | none => .top) v at this
      show VRep _ _ _ (match lkn m id with | some j => .view j es off n | none => .top) v
      cases hj : lkn m id <;> rw [hj] at this <;> exact this
    | ptr id off =>
      have := hC (.ptr id off) v hp
      change CRep _ _ _ (match lkn m id with | some j => .ptr j off | none => .top) v at this
      show VRep _ _ _ (match lkn m id with | some j => .ptr j off | none => .top) v
      cases hj : lkn m id <;> rw [hj] at this <;> exact this
    | sc v' => exact hC (.sc v') v hp
    | lst z es n c => exact hC (.lst z es n c) v hp
    | iptr c off => exact hC (.iptr c off) v hp
    | _ => exact TRep.top _
  have hrC : ∀ p i, i ∈ refsC (renC m p) → ∃ k ∈ refsC p, (k, i) ∈ m := by
    intro p i hi
    cases p with
    | view id es off n =>
      change i ∈ refsC (match lkn m id with | some j => .view j es off n | none => .top) at hi
      cases hj : lkn m id <;> rw [hj] at hi
      · simp [refsC] at hi
      · simp [refsC] at hi
        subst hi
        exact ⟨id, by simp [refsC], lkn_mem hj⟩
    | ptr id off =>
      change i ∈ refsC (match lkn m id with | some j => .ptr j off | none => .top) at hi
      cases hj : lkn m id <;> rw [hj] at hi
      · simp [refsC] at hi
      · simp [refsC] at hi
        subst hi
        exact ⟨id, by simp [refsC], lkn_mem hj⟩
    | _ => simp [renC, refsC] at hi
  have hrV : ∀ p i, i ∈ refs (renV m p) → ∃ k ∈ refs p, (k, i) ∈ m := by
    intro p i hi
    cases p with
    | agg c =>
      simp only [renV, refs, refs1, List.mem_flatMap, List.mem_map] at hi
      obtain ⟨_, ⟨q, hq, rfl⟩, hi⟩ := hi
      obtain ⟨k, hk, hm⟩ := hrC q i hi
      exact ⟨k, by simp only [refs, refs1, List.mem_flatMap]; exact ⟨q, hq, hk⟩, hm⟩
    | view id es off n =>
      refine (hrC (.view id es off n) i ?_).imp fun k hk => hk
      change i ∈ refs (match lkn m id with | some j => .view j es off n | none => .top) at hi
      show i ∈ refsC (match lkn m id with | some j => .view j es off n | none => .top)
      cases hj : lkn m id <;> rw [hj] at hi <;> exact hi
    | ptr id off =>
      refine (hrC (.ptr id off) i ?_).imp fun k hk => hk
      change i ∈ refs (match lkn m id with | some j => .ptr j off | none => .top) at hi
      show i ∈ refsC (match lkn m id with | some j => .ptr j off | none => .top)
      cases hj : lkn m id <;> rw [hj] at hi <;> exact hi
    | _ => simp [renV, renC, refs, refs1, refsC] at hi
  refine ⟨h.dfr, h.tsz, ?_, ?_, ?_, ?_, ?_, ?_, ?_, ?_, ?_, ?_, ?_, ?_, h.Ylt, h.fr⟩
  · intro i hi
    show lk _ i = _
    rw [lk_map, if_neg (fun hm => by have := hls i hm; omega)]
  · intro i hi
    show VRep w _ _ (lk _ i) _
    rw [lk_map]
    split
    · exact hV _ _ (h.tms i hi)
    · exact TRep.top _
  · intro j b hb
    obtain ⟨i, b0, hm, h3, rfl, e⟩ := hold hb
    have hbx := h.box i b0 h3
    cases b0 with
    | st c =>
      obtain ⟨b, o, e1, e2, e3⟩ := hbx
      refine ⟨b, o, by show (lkr m j).bind β = _; rw [e]; exact e1, fun k p hp => ?_, fun k hk => e3 k (by simpa using hk)⟩
      rw [List.getElem?_map] at hp
      cases hc : c[k]? with
      | none => rw [hc] at hp; cases hp
      | some q =>
        rw [hc] at hp
        cases hp
        obtain ⟨v, hv, hr⟩ := e2 k q hc
        exact ⟨v, hv, hC _ _ hr⟩
    | ar fz c =>
      have := BRep.step' hA hbx
      show BRep _ _ _ _ (.ar fz c)
      rcases this with ⟨e1, e2⟩ | ⟨b, o, e1, e2⟩
      · exact .inl ⟨by show (lkr m j).bind β = _; rw [e]; exact e1, e2⟩
      · exact .inr ⟨b, o, by show (lkr m j).bind β = _; rw [e]; exact e1, e2⟩
    | mv => exact trivial
  · intro j j' b o o' hl hl' hb hb'
    obtain ⟨i, hm, hl1, e⟩ := hlive hl
    obtain ⟨i', hm', hl1', e'⟩ := hlive hl'
    have := h.inj i i' b o o' hl1 hl1' (by rw [← e]; exact hb) (by rw [← e']; exact hb')
    subst this
    exact nodup_fst h1 hm hm'
  · intro j b o hn hb
    cases hj : lkh (newHp m s.hp m) j with
    | none => exact absurd hj hn
    | some bx =>
      obtain ⟨i, b0, _, h3, _, e⟩ := hold hj
      exact h.blt i b o (by rw [h3]; simp) (by rw [← e]; exact hb)
  · intro i hi j hj
    change j ∈ refs (lk _ i) at hj
    rw [lk_map] at hj
    split at hj
    · obtain ⟨k, hk, hm⟩ := hrV _ j hj
      exact newHp_some hm (h.wfT i hi k hk)
    · simp [refs, refs1, refsC] at hj
  · intro j cells hb p hp k hk
    obtain ⟨i, b0, _, h3, h4, _⟩ := hold hb
    cases b0 with
    | st c =>
      cases h4
      obtain ⟨q, hq, rfl⟩ := List.mem_map.1 hp
      obtain ⟨k', hk', hm⟩ := hrC q k hk
      exact newHp_some hm (h.wfB i c h3 q hq k' hk')
    | ar fz c => cases h4
    | mv => cases h4
  · intro b hb
    exact h.ownd b (hX b hb)
  · intro j bx b o hb hlb hβ1 hlt k hk
    obtain ⟨i, b0, _, h3, h4, e⟩ := hold hb
    subst h4
    refine h.rngB i b0 b o h3 ?_ (by rw [← e]; exact hβ1) hlt k ?_
    · cases b0 <;> exact hlb
    · cases b0 with
      | st c => simpa [BR, renB] using hk
      | ar fz c => exact hk
      | mv => exact hk
  · intro i hi
    exact ⟨newHp_some (hpn i hi) (h.pin i hi).1, (hβ (hpn i hi)).trans (h.pin i hi).2⟩
  · intro j c b o hb hβ1 hlt
    obtain ⟨i, b0, hm, h3, h4, e⟩ := hold hb
    cases b0 with
    | st c0 =>
      obtain ⟨k, rfl, hk⟩ := h.stp i c0 b o h3 (by rw [← e]; exact hβ1) hlt
      exact ⟨k, nodup_fst h1 hm (hpn k hk), hk⟩
    | ar fz c0 => cases h4
    | mv => cases h4
  · intro b hY hb
    exact h.Yx b hY (hX b hb)

theorem addId_mem {m : List (Nat × Nat)} {q : Nat × Nat} {o n : Nat} (h : q ∈ m) : q ∈ addId m o n := by
  unfold addId
  split
  · exact h
  · exact List.mem_append.2 (.inl h)

theorem cellIds_mem {q : Nat × Nat} {new : Nat} : ∀ {c : List PV} {j : Nat} {m : List (Nat × Nat)}, q ∈ m → q ∈ cellIds N new c j m
  | [], _, _, h => h
  | p :: c, j, m, h => by
    unfold cellIds
    split
    · rename_i e; cases e
    · rename_i e; cases e; exact cellIds_mem (addId_mem h)
    · rename_i e; cases e; exact cellIds_mem h

theorem namesOf_mem {q : Nat × Nat} {m : List (Nat × Nat)} {i : Nat} (h : q ∈ m) : q ∈ namesOf N s m i := by
  unfold namesOf
  split
  · exact addId_mem h
  · split
    · exact h
    · split
      · exact cellIds_mem (addId_mem h)
      · exact addId_mem h
  · exact cellIds_mem h
  · exact h

theorem namesOf_fold {q : Nat × Nat} : ∀ {l : List Nat} {m : List (Nat × Nat)}, q ∈ m → q ∈ l.foldl (namesOf N s) m
  | [], _, h => h
  | _ :: l, _, h => namesOf_fold (l := l) (namesOf_mem h)

theorem pinCells_mem {q : Nat × Nat} {m : List (Nat × Nat)} (h : q ∈ m) : ∀ k, q ∈ pinCells N s.hp k m
  | 0 => h
  | k + 1 => by
    unfold pinCells
    split
    · exact cellIds_mem (pinCells_mem h k)
    · exact pinCells_mem h k

theorem pins0_mem : ∀ {k i : Nat}, i < k → s.hp (pinId N i) ≠ none → (pinId N i, pinId N i) ∈ pins0 N s.hp k
  | 0, _, h, _ => by omega
  | k + 1, i, h, hn => by
    unfold pins0
    by_cases e : i = k
    · subst e
      have : (s.hp (pinId N i)).isSome = true := by
        cases hq : s.hp (pinId N i) with
        | none => exact absurd hq hn
        | some b => rfl
      rw [this]
      simp
    · have := pins0_mem (k := k) (i := i) (by omega) hn
      cases (s.hp (pinId N k)).isSome
      · exact this
      · exact List.mem_append.2 (.inl this)

theorem normK_sound (h : Sim N w0 X0 Y β s a w) {L : Nat} {K : St → Option R} (hk : normK N L s K = some r) : ∃ β' s', K s' = some r ∧ Sim N w0 X0 Y β' s' a w := by
  unfold normK normL at hk
  obtain ⟨hb, hk1⟩ := chk_inv hk
  simp only [Bool.and_eq_true] at hb
  obtain ⟨β1, h1⟩ := foldl_sound (fun s β h i => nilSlot_sound h i) (bitsOn L N) h
  obtain ⟨β2, h2⟩ := foldl_sound (fun s β h i => nilBox_sound h i) (bitsOn L N) h1
  obtain ⟨β3, h3⟩ := rename_sound h2 hb.1 hb.2 (ls := bitsOn L N) (fun i hi => bitsOn_lt hi) (fun i hi => namesOf_fold (pinCells_mem (pins0_mem (X0.p8 i hi) (h2.pin i hi).1) 8))
  exact ⟨β3, _, hk1, h3⟩
end

end Go.Proofs.Ytoihfmiifeegpaa.Pv
