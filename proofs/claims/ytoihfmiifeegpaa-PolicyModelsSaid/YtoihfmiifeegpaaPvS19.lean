/-
  Appends.
-/
import Derived.Test.YtoihfmiifeegpaaPvS16
import Derived.Laws.Append
namespace Go.Proofs.Ytoihfmiifeegpaa.Pv
open Go.RowKit

section
variable {R : Type} {r : R} {P : Program} {N : Nat} {w0 : World} {X0 : Lend} {Y : Nat → Prop} {β β' : Bt} {s : St} {a : Act} {w w' : World} {o : Oper} {A : Nat → Prop}

/-- A row goes over into a new box. -/
theorem Sim.move (h : Sim N w0 X0 Y β s a w) {id d : Nat} {c cells : List PV} {bo : Option (Nat × Nat)} {v : PV} {val : Value} (h0 : s.hp id = some (.ar false c)) (hd : s.hp d = none) (hdN : d < N)
    (hos : w'.os = w.os) (htp : w'.tape = w.tape) (hout : w'.output = w.output) (hsize : w.heap.size ≤ w'.heap.size)
    (hkeep : ∀ k, k < w.heap.size → (∀ x, β id ≠ some (k, x)) → w'.heap[k]? = w.heap[k]?) (hbs : ∀ k, k < w.heap.size → bsz w k ≤ bsz w' k)
    (hbo : ∀ k x, bo = some (k, x) → k < w'.heap.size ∧ (w.heap.size ≤ k ∨ ∃ y, β id = some (k, y)))
    (hbr : ∀ k x, bo = some (k, x) → k < w.heap.size → β id = some (k, x))
    (hO : ∀ k y, β id = some (k, y) → k < w.heap.size → ∀ j, j < y → w'.cell? ⟨k, j, none⟩ = w.cell? ⟨k, j, none⟩ ∧ w'.frozen? ⟨k, j, none⟩ = w.frozen? ⟨k, j, none⟩)
    (hbx : BRep w' (Aof (upd (upd s.hp id (some .mv)) d (some (.ar false cells))) (upd β d bo) Y) (upd β d bo) d (.ar false cells))
    (hv : VRep w' (Aof (upd (upd s.hp id (some .mv)) d (some (.ar false cells))) (upd β d bo) Y) (upd β d bo) v val) (hr : ∀ i ∈ refs v, i = d) :
    Sim N w0 X0 Y (upd β d bo) ⟨upd s.tm d v, upd (upd s.hp id (some .mv)) d (some (.ar false cells))⟩ (a.put (some d) val) w' := by
  have hne : id ≠ d := by rintro rfl; rw [h0] at hd; cases hd
  have hget : ∀ i, i ≠ id → i ≠ d → upd (upd s.hp id (some Box.mv)) d (some (.ar false cells)) i = s.hp i := fun i h1 h2 => by rw [upd_other _ _ h2, upd_other _ _ h1]
  have hgid : upd (upd s.hp id (some Box.mv)) d (some (.ar false cells)) id = some .mv := by rw [upd_other _ _ hne, upd_same]
  have hgd : upd (upd s.hp id (some Box.mv)) d (some (.ar false cells)) d = some (.ar false cells) := upd_same _ _ _
  have hnn : ∀ i, s.hp i ≠ none → upd (upd s.hp id (some Box.mv)) d (some (.ar false cells)) i ≠ none := by
    intro i hi
    by_cases e : i = id
    · subst e; rw [hgid]; simp
    · by_cases e' : i = d
      · subst e'; rw [hgd]; simp
      · rw [hget i e e']; exact hi
  have hβo : ∀ i, s.hp i ≠ none → upd β d bo i = β i := fun i hi => upd_other _ _ (by rintro rfl; exact hi hd)
  have hidl : liveB (s.hp id) := by rw [h0]; trivial
  have hlive : ∀ i, liveB (upd (upd s.hp id (some Box.mv)) d (some (.ar false cells)) i) → i = d ∨ (i ≠ id ∧ i ≠ d ∧ liveB (s.hp i)) := by
    intro i hi
    by_cases e' : i = d
    · exact .inl e'
    · by_cases e : i = id
      · subst e; rw [hgid] at hi; exact hi.elim
      · rw [hget i e e'] at hi; exact .inr ⟨e, e', hi⟩
  have hX : ∀ k, k < w.heap.size → Xof (upd (upd s.hp id (some .mv)) d (some (.ar false cells))) (upd β d bo) k → Xof s.hp β k := by
    rintro k hk ⟨i, x, hl, hβ⟩
    rcases hlive i hl with rfl | ⟨e, e', hl⟩
    · rw [upd_same] at hβ
      rcases (hbo k x hβ).2 with hk' | ⟨y, hy⟩
      · omega
      · exact ⟨id, y, hidl, hy⟩
    · rw [upd_other _ _ e'] at hβ
      exact ⟨i, x, hl, hβ⟩
  have hAo : ∀ k, k < w.heap.size → Aof (upd (upd s.hp id (some .mv)) d (some (.ar false cells))) (upd β d bo) Y k → Aof s.hp β Y k := fun k hk hx => hx.imp (hX k hk) (fun y => y)
  have hst : WStep (Aof s.hp β Y) w w' := ⟨hsize, fun k hk hn => hkeep k hk fun x hx => hn (.inl ⟨id, x, hidl, hx⟩), hbs⟩
  have hblk : ∀ i k x, i ≠ id → i ≠ d → (∃ b, s.hp i = some b ∧ b ≠ .mv) → β i = some (k, x) → k < w.heap.size ∧ w'.heap[k]? = w.heap[k]? := by
    rintro i k x e e' ⟨b, hb, hmv⟩ hβ
    have hk := h.blt i k x (by rw [hb]; simp) hβ
    refine ⟨hk, hkeep k hk fun y hy => ?_⟩
    have hbox := h.box i b hb
    cases b with
    | st cc => exact e (h.inj i id k x y (by rw [hb]; trivial) hidl hβ hy)
    | ar fz cc =>
      cases fz with
      | false => exact e (h.inj i id k x y (by rw [hb]; trivial) hidl hβ hy)
      | true =>
        rcases hbox with ⟨h1, _⟩ | ⟨k', x', h1, _, _, h4⟩
        · rw [hβ] at h1; cases h1
        · rw [hβ] at h1; simp at h1; obtain ⟨rfl, rfl⟩ := h1
          exact h4 rfl (.inl ⟨id, y, hidl, hy⟩)
    | mv => exact absurd rfl hmv
  refine ⟨by rw [put_defers]; exact h.dfr, by rw [put_size]; exact h.tsz, ?_, ?_, ?_, ?_, ?_, ?_, ?_, ?_, ?_, ?_, ?_, ?_, h.Ylt, ?_⟩
  · intro i hi
    show upd s.tm d v i = _
    rw [upd_other _ _ (by omega)]
    exact h.tmo i hi
  · refine put_all (d := some d) (Q := fun _ p u => VRep w' (Aof (upd (upd s.hp id (some .mv)) d (some (.ar false cells))) (upd β d bo) Y) (upd β d bo) p u) h.tsz (by simp [dstOk, Nat.blt]; omega) (fun i hi => ?_) (fun _ => hv)
    exact (h.tms i hi).step hst hAo fun j hj => hβo j (h.wfT i hi j hj)
  · intro i bi hb
    simp only at hb
    by_cases e' : i = d
    · subst e'
      rw [hgd] at hb
      cases hb
      exact hbx
    · by_cases e : i = id
      · subst e
        rw [hgid] at hb
        cases hb
        trivial
      · rw [hget i e e'] at hb
        have hβi := hβo i (by rw [hb]; simp)
        have hbi := h.box i bi hb
        cases bi with
        | st cc =>
          obtain ⟨k, x, h1, h2, h3⟩ := hbi
          obtain ⟨hk, hbl⟩ := hblk i k x e e' ⟨_, hb, by simp⟩ h1
          refine ⟨k, x, by rw [hβi]; exact h1, fun j p hj => ?_, fun j hj => ?_⟩
          · obtain ⟨u, hu, hc⟩ := h2 j p hj
            exact ⟨u, by rw [World.cell?_of_block (w := w) hbl]; exact hu, hc.step hst hAo fun q hq => hβo q (h.wfB i cc hb p (List.mem_of_getElem? hj) q hq)⟩
          · rw [World.frozen?_of_block (w := w) hbl]; exact h3 j hj
        | ar fz cc =>
          rcases hbi with ⟨h1, h2⟩ | ⟨k, x, h1, h2, h3, h4⟩
          · exact .inl ⟨by rw [hβi]; exact h1, h2⟩
          · obtain ⟨hk, hbl⟩ := hblk i k x e e' ⟨_, hb, by simp⟩ h1
            refine .inr ⟨k, x, by rw [hβi]; exact h1, fun j p hj => ?_, fun ef j hj hj' => ?_, fun ef hx => h4 ef (hAo k hk hx)⟩
            · obtain ⟨u, hu, h5, hc⟩ := h2 j p hj
              exact ⟨u, by rw [World.cell?_of_block (w := w) (by rw [add_block]; exact hbl)]; exact hu, h5, hc.step hst hAo⟩
            · rw [World.frozen?_of_block (w := w) hbl]
              refine h3 ef j hj ?_
              unfold bsz at hj' ⊢
              rw [hbl] at hj'
              exact hj'
        | mv => trivial
  · intro i i' k x y hl hl' hb hb'
    simp only at hl hl'
    have key : ∀ j z, j ≠ id → j ≠ d → liveB (s.hp j) → β j = some (k, z) → bo = some (k, y) ∨ bo = some (k, x) → False := by
      intro j z e e' hlj hβj hbk
      have hk := h.blt j k z (liveB_some hlj) hβj
      have : ∃ t, bo = some (k, t) := by rcases hbk with q | q <;> exact ⟨_, q⟩
      obtain ⟨t, ht⟩ := this
      rcases (hbo k t ht).2 with hk' | ⟨q, hq⟩
      · omega
      · exact e (h.inj j id k z q hlj hidl hβj hq)
    rcases hlive i hl with rfl | ⟨e, e', hl0⟩
    · rcases hlive i' hl' with rfl | ⟨e2, e2', hl0'⟩
      · rfl
      · rw [upd_same] at hb
        rw [upd_other _ _ e2'] at hb'
        exact (key i' y e2 e2' hl0' hb' (.inr hb)).elim
    · rcases hlive i' hl' with rfl | ⟨e2, e2', hl0'⟩
      · rw [upd_same] at hb'
        rw [upd_other _ _ e'] at hb
        exact (key i x e e' hl0 hb (.inl hb')).elim
      · rw [upd_other _ _ e'] at hb
        rw [upd_other _ _ e2'] at hb'
        exact h.inj i i' k x y hl0 hl0' hb hb'
  · intro i k x hi hb
    simp only at hi
    by_cases e' : i = d
    · subst e'
      rw [upd_same] at hb
      exact (hbo k x hb).1
    · rw [upd_other _ _ e'] at hb
      have hi' : s.hp i ≠ none := by
        by_cases e : i = id
        · subst e; rw [h0]; simp
        · rw [hget i e e'] at hi; exact hi
      exact Nat.lt_of_lt_of_le (h.blt i k x hi' hb) hsize
  · have := put_all (d := some d) (Q := fun _ p _ => ∀ j ∈ refs p, upd (upd s.hp id (some Box.mv)) d (some (.ar false cells)) j ≠ none) (val := val) (v := v) h.tsz (by simp [dstOk, Nat.blt]; omega) (fun i hi j hj => hnn j (h.wfT i hi j hj)) (fun _ j hj => by
      rw [hr j hj, hgd]; simp)
    exact this
  · intro i cc hc p hp j hj
    simp only at hc
    by_cases e' : i = d
    · subst e'; rw [hgd] at hc; cases hc
    · by_cases e : i = id
      · subst e; rw [hgid] at hc; cases hc
      · rw [hget i e e'] at hc
        exact hnn j (h.wfB i cc hc p hp j hj)
  · rintro k ⟨i, x, hl, hβ⟩
    rcases hlive i hl with rfl | ⟨e, e', hl⟩
    · rw [upd_same] at hβ
      rcases (hbo k x hβ).2 with hk' | ⟨y, hy⟩
      · exact .inr (Nat.le_trans h.fr.step.size hk')
      · exact h.ownd k ⟨id, y, hidl, hy⟩
    · rw [upd_other _ _ e'] at hβ
      exact h.ownd k ⟨i, x, hl, hβ⟩
  · intro i bi k x hbi hli hβ hlt j hj
    simp only at hbi
    rcases hlive i (by rw [hbi]; exact hli) with rfl | ⟨e, e', hl⟩
    · rw [upd_same] at hβ
      rw [hgd] at hbi
      cases hbi
      have := hbr k x hβ (Nat.lt_of_lt_of_le hlt h.fr.step.size)
      exact h.rngB id (.ar false c) k x h0 trivial this hlt j hj
    · rw [hget i e e'] at hbi
      rw [upd_other _ _ e'] at hβ
      exact h.rngB i bi k x hbi hli hβ hlt j hj
  · intro i hi
    exact ⟨hnn _ (h.pin i hi).1, by rw [hβo _ (h.pin i hi).1]; exact (h.pin i hi).2⟩
  · intro i cc k x hbi hβ hlt
    simp only at hbi
    rcases hlive i (by rw [hbi]; trivial) with rfl | ⟨e, e', hl⟩
    · rw [hgd] at hbi
      cases hbi
    · rw [hget i e e'] at hbi
      rw [upd_other _ _ e'] at hβ
      exact h.stp i cc k x hbi hβ hlt
  · intro k hY hx
    exact h.Yx k hY (hX k (Nat.lt_of_lt_of_le (h.Ylt k hY) h.fr.step.size) hx)
  · refine ⟨hos.trans h.fr.os, htp.trans h.fr.tape, hout.trans h.fr.output, ⟨Nat.le_trans h.fr.step.size hsize, fun k hk hnk => ?_, fun k hk => Nat.le_trans (h.fr.step.bs k hk) (hbs k (Nat.lt_of_lt_of_le hk h.fr.step.size))⟩, fun k j hk hL => ?_⟩
    · rw [hkeep k (Nat.lt_of_lt_of_le hk h.fr.step.size) ?_]
      · exact h.fr.step.keep k hk hnk
      · intro x hx
        rcases h.ownd k ⟨id, x, hidl, hx⟩ with hq | hq
        · exact hnk hq
        · omega
    · have hkw := Nat.lt_of_lt_of_le hk h.fr.step.size
      have hsame : w'.cell? ⟨k, j, none⟩ = w.cell? ⟨k, j, none⟩ ∧ w'.frozen? ⟨k, j, none⟩ = w.frozen? ⟨k, j, none⟩ := by
        by_cases e : ∃ y, β id = some (k, y)
        · obtain ⟨y, hy⟩ := e
          refine hO k y hy hkw j ?_
          rcases Nat.lt_or_ge j y with q | q
          · exact q
          · exact absurd (h.rngB id (.ar false c) k y h0 trivial hy hk j q) hL
        · have hbl := hkeep k hkw (fun x hx => e ⟨x, hx⟩)
          exact ⟨World.cell?_of_block (w := w) hbl, World.frozen?_of_block (w := w) hbl⟩
      rw [hsame.1, hsame.2]
      exact h.fr.rng k j hk hL
end

end Go.Proofs.Ytoihfmiifeegpaa.Pv
