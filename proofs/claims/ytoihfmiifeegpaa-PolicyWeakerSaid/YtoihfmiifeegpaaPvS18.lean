/-
  Stores.
-/
import Derived.Test.YtoihfmiifeegpaaPvS17
import Derived.Laws.IdiomCopy
namespace Go.Proofs.Ytoihfmiifeegpaa.Pv
open Go.RowKit

section
variable {R : Type} {r : R} {P : Program} {N : Nat} {w0 : World} {X0 : Lend} {Y : Nat → Prop} {β β' : Bt} {s : St} {a : Act} {w w' : World} {o : Oper} {A : Nat → Prop}

/-- A world in which one block was written. -/
structure WroteB (b : Nat) (w w' : World) : Prop where
  os : w'.os = w.os
  tape : w'.tape = w.tape
  output : w'.output = w.output
  size : w'.heap.size = w.heap.size
  other : ∀ k, k ≠ b → w'.heap[k]? = w.heap[k]?
  bs : bsz w' b = bsz w b
  frz : ∀ j, w'.frozen? ⟨b, j, none⟩ = w.frozen? ⟨b, j, none⟩

theorem WroteB.refl (b : Nat) (w : World) : WroteB b w w := ⟨rfl, rfl, rfl, rfl, fun _ _ => rfl, rfl, fun _ => rfl⟩

theorem WroteB.setCell (b j : Nat) (v : Value) (w : World) : WroteB b w (w.setCell ⟨b, j, none⟩ v) := by
  refine ⟨rfl, rfl, rfl, by simp [World.setCell], fun k hk => Below.heap_setCell w ⟨b, j, none⟩ v k hk, ?_, fun i => ?_⟩
  · simp only [bsz, World.setCell, Array.getElem?_modify]
    simp only [if_true]
    cases h : w.heap[b]? with
    | none => simp
    | some x => cases x <;> simp
  · simp only [World.frozen?, World.setCell, Array.getElem?_modify, if_true]
    cases h : w.heap[b]? with
    | none => simp
    | some x => cases x <;> simp

theorem WroteB.trans {b : Nat} {w'' : World} (h : WroteB b w w') (h' : WroteB b w' w'') : WroteB b w w'' :=
  ⟨h'.os.trans h.os, h'.tape.trans h.tape, h'.output.trans h.output, h'.size.trans h.size, fun k hk => (h'.other k hk).trans (h.other k hk), h'.bs.trans h.bs, fun j => (h'.frz j).trans (h.frz j)⟩

theorem WroteB.setCells (b : Nat) : ∀ (vs : List Value) (j : Nat) (w : World), WroteB b w (w.setCells b j vs)
  | [], _, w => WroteB.refl b w
  | v :: vs, j, w => (WroteB.setCell b j v w).trans (WroteB.setCells b vs (j + 1) _)

theorem X_upd {hp : Nat → Option Box} {id : Nat} {bx bx' : Box} (h0 : hp id = some bx) (hl : liveB (some bx)) (hl' : liveB (some bx')) (b : Nat) : Xof (upd hp id (some bx')) β b ↔ Xof hp β b := by
  constructor
  · rintro ⟨i, o, h1, h2⟩
    by_cases e : i = id
    · subst e; exact ⟨i, o, by rw [h0]; exact hl, h2⟩
    · rw [upd_other _ _ e] at h1; exact ⟨i, o, h1, h2⟩
  · rintro ⟨i, o, h1, h2⟩
    by_cases e : i = id
    · subst e; exact ⟨i, o, by rw [upd_same]; exact hl', h2⟩
    · exact ⟨i, o, by rw [upd_other _ _ e]; exact h1, h2⟩

/-- A box written. -/
theorem Sim.write (h : Sim N w0 X0 Y β s a w) {id b ob : Nat} {bx bx' : Box} (h0 : s.hp id = some bx) (hl : liveB (some bx)) (hl' : liveB (some bx')) (hβ : β id = some (b, ob)) (hw : WroteB b w w')
    (hbx : BRep w' (Aof s.hp β Y) β id bx') (hr : ∀ cells, bx' = .st cells → ∀ c ∈ cells, ∀ i ∈ refsC c, s.hp i ≠ none)
    (hK : ∀ c', bx' = .st c' → ∃ c, bx = .st c) (hR : ∀ j, BR bx' ob j → BR bx ob j) (hO : ∀ j, ¬ BR bx ob j → w'.cell? ⟨b, j, none⟩ = w.cell? ⟨b, j, none⟩) : Sim N w0 X0 Y β ⟨s.tm, upd s.hp id (some bx')⟩ a w' := by
  have hX := X_upd (β := β) h0 hl hl'
  have hA : ∀ k, Aof (upd s.hp id (some bx')) β Y k ↔ Aof s.hp β Y k := fun k => ⟨fun x => x.imp (hX k).1 (fun y => y), fun x => x.imp (hX k).2 (fun y => y)⟩
  have hAb : Aof s.hp β Y b := .inl ⟨id, ob, by rw [h0]; exact hl, hβ⟩
  have hst : WStep (Aof s.hp β Y) w w' := ⟨by rw [hw.size]; exact Nat.le_refl _, fun k _ hk => hw.other k (fun e => hk (e ▸ hAb)), fun k _ => by
    by_cases e : k = b
    · subst e; rw [hw.bs]; exact Nat.le_refl _
    · unfold bsz; rw [hw.other k e]; exact Nat.le_refl _⟩
  have hnn : ∀ i, upd s.hp id (some bx') i ≠ none ↔ s.hp i ≠ none := by
    intro i
    by_cases e : i = id
    · subst e; rw [upd_same, h0]; simp
    · rw [upd_other _ _ e]
  have hAe : Aof (upd s.hp id (some bx')) β Y = Aof s.hp β Y := funext fun k => propext (hA k)
  have hlv : ∀ i, liveB (upd s.hp id (some bx') i) → liveB (s.hp i) := by
    intro i hi
    by_cases e : i = id
    · subst e; rw [h0]; exact hl
    · rw [upd_other _ _ e] at hi; exact hi
  refine ⟨h.dfr, h.tsz, h.tmo, fun i hi => ?_, fun i bi hb => ?_, fun i i' k x y h1 h2 => h.inj i i' k x y (hlv i h1) (hlv i' h2), fun i k x hi hk => ?_, fun i hi j hj => (hnn j).2 (h.wfT i hi j hj),
    fun i cells hc c hcm j hj => (hnn j).2 ?_, fun k hk => h.ownd k ((hX k).1 hk), fun i bi k x hbi hli hk hlt j hj => ?_, fun i hi => ⟨(hnn _).2 (h.pin i hi).1, (h.pin i hi).2⟩, fun i c k x hc hk hlt => ?_, fun k hk x => h.Yx k hk ((hX k).1 x), h.Ylt, ?_⟩
  · rw [hAe]
    exact (h.tms i hi).step hst (fun _ _ x => x) (fun _ _ => rfl)
  · rw [hAe]
    simp only at hb
    by_cases e : i = id
    · subst e
      rw [upd_same] at hb
      cases hb
      exact hbx
    · rw [upd_other _ _ e] at hb
      have hbi := h.box i bi hb
      cases bi with
      | st c =>
        obtain ⟨k, x, h1, h2, h3⟩ := hbi
        have hk : k ≠ b := by
          rintro rfl
          exact e (h.inj i id k x ob (by rw [hb]; trivial) (by rw [h0]; exact hl) h1 hβ)
        refine ⟨k, x, h1, fun j c hj => ?_, fun j hj => ?_⟩
        · obtain ⟨v, hv, hc⟩ := h2 j c hj
          exact ⟨v, by rw [World.cell?_of_block (w := w) (hw.other k hk)]; exact hv, hc.step hst (fun _ _ x => x) (fun _ _ => rfl)⟩
        · rw [World.frozen?_of_block (w := w) (hw.other k hk)]; exact h3 j hj
      | ar fz c =>
        rcases hbi with hn | ⟨k, x, h1, h2, h3, h4⟩
        · exact .inl hn
        · have hk : k ≠ b := by
            rintro rfl
            cases fz with
            | true => exact h4 rfl hAb
            | false => exact e (h.inj i id k x ob (by rw [hb]; trivial) (by rw [h0]; exact hl) h1 hβ)
          refine .inr ⟨k, x, h1, fun j c hj => ?_, fun ef j hj hj' => ?_, h4⟩
          · obtain ⟨v, hv, h5, hc⟩ := h2 j c hj
            exact ⟨v, by rw [World.cell?_of_block (w := w) (by rw [add_block]; exact hw.other k hk)]; exact hv, h5, hc.step hst (fun _ _ x => x)⟩
          · rw [World.frozen?_of_block (w := w) (hw.other k hk)]
            refine h3 ef j hj ?_
            unfold bsz at hj' ⊢
            rw [hw.other k hk] at hj'
            exact hj'
      | mv => trivial
  · rw [hw.size]
    exact h.blt i k x ((hnn i).1 hi) hk
  · simp only at hc
    by_cases e : i = id
    · subst e
      rw [upd_same] at hc
      injection hc with hc
      exact hr cells hc c hcm j hj
    · rw [upd_other _ _ e] at hc
      exact h.wfB i cells hc c hcm j hj
  · simp only at hbi
    by_cases e : i = id
    · subst e
      rw [upd_same] at hbi
      cases hbi
      rw [hβ] at hk
      cases hk
      exact h.rngB i bx b ob h0 hl hβ hlt j (hR j hj)
    · rw [upd_other _ _ e] at hbi
      exact h.rngB i bi k x hbi hli hk hlt j hj
  · simp only at hc
    by_cases e : i = id
    · subst e
      rw [upd_same] at hc
      injection hc with hc
      obtain ⟨c0, rfl⟩ := hK c hc
      exact h.stp i c0 k x h0 hk hlt
    · rw [upd_other _ _ e] at hc
      exact h.stp i c k x hc hk hlt
  · refine ⟨hw.os.trans h.fr.os, hw.tape.trans h.fr.tape, hw.output.trans h.fr.output, ?_, fun k j hk hL => ?_⟩
    · refine ⟨by rw [hw.size]; exact h.fr.step.size, fun k hk hnk => ?_, fun k hk => Nat.le_trans (h.fr.step.bs k hk) (hst.bs k (Nat.lt_of_lt_of_le hk h.fr.step.size))⟩
      rw [hw.other k ?_]
      · exact h.fr.step.keep k hk hnk
      · rintro rfl
        rcases h.ownd k ⟨id, ob, by rw [h0]; exact hl, hβ⟩ with hx | hx
        · exact hnk hx
        · omega
    · by_cases e : k = b
      · subst e
        rw [hO j (fun hj => hL (h.rngB id bx k ob h0 hl hβ hk j hj)), hw.frz]
        exact h.fr.rng k j hk hL
      · have hc : w'.cell? ⟨k, j, none⟩ = w.cell? ⟨k, j, none⟩ := World.cell?_of_block (w := w) (hw.other k e)
        have hf : w'.frozen? ⟨k, j, none⟩ = w.frozen? ⟨k, j, none⟩ := World.frozen?_of_block (w := w) (hw.other k e)
        rw [hc, hf]
        exact h.fr.rng k j hk hL

theorem splice_get {c cs : List PV} {off j : Nat} {p : PV} (hle : off + cs.length ≤ c.length) (h : (splice c cs off)[j]? = some p) :
    (off ≤ j ∧ j < off + cs.length ∧ cs[j - off]? = some p) ∨ ((j < off ∨ off + cs.length ≤ j) ∧ c[j]? = some p) := by
  unfold splice at h
  by_cases h1 : j < off
  · rw [List.append_assoc, List.getElem?_append_left (by simp; omega), List.getElem?_take_of_lt h1] at h
    exact .inr ⟨.inl h1, h⟩
  · by_cases h2 : j < off + cs.length
    · rw [List.getElem?_append_left (by simp; omega), List.getElem?_append_right (by simp; omega)] at h
      simp only [List.length_take, Nat.min_eq_left (by omega : off ≤ c.length)] at h
      exact .inl ⟨by omega, h2, h⟩
    · rw [List.getElem?_append_right (by simp; omega)] at h
      simp only [List.length_append, List.length_take, Nat.min_eq_left (by omega : off ≤ c.length), List.getElem?_drop] at h
      rw [show off + cs.length + (j - (off + cs.length)) = j from by omega] at h
      exact .inr ⟨.inr (by omega), h⟩

theorem splice_len {c cs : List PV} {off : Nat} (hle : off + cs.length ≤ c.length) : (splice c cs off).length = c.length := by
  simp [splice]
  omega

theorem run_storeAt {t : TypeId} {b j : Nat} {v : Value} (hsz : (P.info? t).map (·.size) = some v.cells.size) (hc : ∀ i, i < v.cells.toList.length → (w.cell? ⟨b, j + i, none⟩).isSome = true)
    (hf : ∀ i, i < v.cells.toList.length → w.frozen? ⟨b, j + i, none⟩ = false) (h1 : ∀ u ∈ v.cells.toList, u.oneCell' = true) : (Instr.storeAt t (.pointer (some ⟨b, j, none⟩)) v).run P w = .ok () (w.setCells b j v.cells.toList) := by
  have := run_storeCells_cells (P := P) b j v.cells.toList 0 w (fun i hi => by simpa using hc i hi) (fun i hi => by simpa using hf i hi) h1
  simp only [Instr.storeAt, Instr.sureAddr, storeVar, Sem.run_bind, Sem.run_pure, Result.andThen_ok, run_sizeOf hsz]
  simpa using this

theorem store_sound (h : Sim N w0 X0 Y β s a w) {t : TypeId} {x y : Operand} (ho : o.op = .store t x y) (hd : o.dst = none) {K : St → Option R} (hk : storeK P s t (opv s.tm x) (opv s.tm y) K = some r) :
    ∃ s', K s' = some r ∧ ∀ (next : Act → World → Prop) (Q : Exit → Act → World → Prop), (∀ a' w' β', Sim N w0 X0 Y β' s' a' w' → next a' w') → o.wp P a w next Q := by
  have hx := opv_rep h x
  have hxr := opv_refs h x
  have run : ∀ {b j : Nat}, a.eval x = .pointer (some ⟨b, j, none⟩) → (Instr.storeAt t (.pointer (some ⟨b, j, none⟩)) (a.eval y)).run P w = .ok () (w.setCells b j (a.eval y).cells.toList) →
      ∀ (next : Act → World → Prop) (Q : Exit → Act → World → Prop), next a (w.setCells b j (a.eval y).cells.toList) → o.wp P a w next Q := by
    intro b j hax hr next Q hn
    unfold Oper.wp execOp
    rw [ho]
    simp only [Sem.run_bind, hax, hr, Result.andThen_ok, Sem.run_pure]
    show next (a.put o.dst undef) _
    rw [hd]
    exact hn
  unfold storeK at hk
  split at hk
  · rename_i id off e
    rw [e] at hx hxr
    obtain ⟨b, ob, hβ, hax⟩ := hx
    split at hk
    · rename_i c h0
      obtain ⟨hb, hk⟩ := chk_inv hk
      simp only [Bool.and_eq_true, decide_eq_true_eq] at hb
      obtain ⟨⟨hok, hl⟩, hle⟩ := hb
      have hl := Nat.eq_of_beq_eq_true hl
      obtain ⟨cs, hk, hcl, h2, h1, hr, _⟩ := fcs_val (opv_rep h y) hl hk
      obtain ⟨_, hcl2, hsz⟩ := ctyOk_inv hok
      have hvl := h2.len
      obtain ⟨b', o', hb1, hb2, hb3⟩ := h.box id _ h0
      rw [hβ] at hb1
      simp at hb1
      obtain ⟨rfl, rfl⟩ := hb1
      have hcell : ∀ i, i < (a.eval y).cells.toList.length → (w.cell? ⟨b, ob + off + i, none⟩).isSome = true := by
        intro i hi
        obtain ⟨v, hv, _⟩ := hb2 (off + i) _ (List.getElem?_eq_getElem (by omega))
        rw [Nat.add_assoc, hv]; rfl
      have hrun := run_storeAt (P := P) (t := t) (w := w) (b := b) (j := ob + off) (v := a.eval y) (by rw [hsz, ← hcl2, ← hcl, hvl]; simp) hcell (fun i hi => by rw [Nat.add_assoc]; exact hb3 _ (by omega)) h1
      refine ⟨_, hk, fun next Q hn => run hax hrun next Q (hn _ _ β ?_)⟩
      refine h.write h0 trivial trivial hβ (WroteB.setCells b _ _ w) ?_ ?_ (fun _ _ => ⟨_, rfl⟩) (fun j hj => by
        have hj : ob ≤ j ∧ j < ob + (splice c cs off).length := hj
        rw [splice_len (by omega)] at hj
        exact hj) (fun j hj => by
        refine World.cell?_setCells_out b _ _ w ⟨b, j, none⟩ (fun _ _ => ?_)
        have hj : ¬ (ob ≤ j ∧ j < ob + c.length) := hj
        show j < ob + off ∨ ob + off + _ ≤ j
        omega)
      · have hst : WStep (Aof s.hp β Y) w (w.setCells b (ob + off) (a.eval y).cells.toList) := by
          have hw := WroteB.setCells b (a.eval y).cells.toList (ob + off) w
          have hAb : Aof s.hp β Y b := .inl ⟨id, ob, by rw [h0]; trivial, hβ⟩
          exact ⟨by rw [hw.size]; exact Nat.le_refl _, fun k _ hk => hw.other k (fun e => hk (e ▸ hAb)), fun k _ => by
            by_cases e : k = b
            · subst e; rw [hw.bs]; exact Nat.le_refl _
            · unfold bsz; rw [hw.other k e]; exact Nat.le_refl _⟩
        refine ⟨b, ob, hβ, fun j p hj => ?_, fun j hj => ?_⟩
        · rcases splice_get (by omega) hj with ⟨h3, h4, h5⟩ | ⟨h3, h5⟩
          · obtain ⟨u, hu, hcu⟩ := h2.get h5
            have hlt : j - off < (a.eval y).cells.toList.length := by omega
            refine ⟨u, ?_, hcu.step hst (fun _ _ x => x) (fun _ _ => rfl)⟩
            have := World.cell?_setCells_in b (a.eval y).cells.toList (ob + off) w hcell (j - off) hlt
            rw [show ob + j = ob + off + (j - off) from by omega, this]
            rw [List.getElem?_eq_getElem hlt] at hu
            exact hu
          · obtain ⟨v, hv, hcv⟩ := hb2 j p h5
            refine ⟨v, ?_, hcv.step hst (fun _ _ x => x) (fun _ _ => rfl)⟩
            rw [World.cell?_setCells_out b _ _ w ⟨b, ob + j, none⟩ (fun _ _ => by show ob + j < ob + off ∨ ob + off + _ ≤ ob + j; omega)]
            exact hv
        · rw [splice_len (by omega)] at hj
          rw [(WroteB.setCells b _ _ w).frz]
          exact hb3 j hj
      · intro cells hx c' hc' i hi
        injection hx with hx
        subst hx
        unfold splice at hc'
        rcases List.mem_append.1 hc' with hc' | hc'
        · rcases List.mem_append.1 hc' with hc' | hc'
          · exact h.wfB id c h0 c' (List.mem_of_mem_take hc') i hi
          · exact opv_refs h y i (hr c' hc' i hi)
        · exact h.wfB id c h0 c' (List.mem_of_mem_drop hc') i hi
    · rename_i c h0
      obtain ⟨hb, hk⟩ := chk_inv hk
      simp only [Bool.and_eq_true, decide_eq_true_eq] at hb
      obtain ⟨hok, hle⟩ := hb
      obtain ⟨cs, m, hk, hcl, hpl, hT, hF, hm, hv⟩ := frcsK_inv h hk
      obtain ⟨hnm, hk⟩ := chk_inv hk
      have hnm : id ∉ m := by
        intro hi
        have : m.any (Nat.beq id) = true := List.any_eq_true.2 ⟨id, hi, Nat.beq_refl id⟩
        rw [this] at hnm
        cases hnm
      obtain ⟨_, hcl2, hsz⟩ := ctyOk_inv hok
      have hycells : All2 (CRep w (Aof s.hp β Y) β) (cellsOf (opv s.tm y)) (a.eval y).cells.toList := by
        have hyv := opv_rep h y
        cases hp : opv s.tm y with
        | agg ps =>
          rw [hp] at hyv
          obtain ⟨vs, hay, h2⟩ := hyv
          rw [hay]
          exact h2
        | sc v =>
          rw [hp] at hyv hF
          have hone : (a.eval y).oneCell' = true := by
            have := hv m (fun _ hi => hi) hm [a.eval y] (by rw [hp]; exact ⟨hyv, trivial⟩)
            exact this.2 _ (by simp)
          rw [cells_one hone]
          exact ⟨hyv, trivial⟩
        | lst z es n cc =>
          rw [hp] at hyv hF
          have hone : (a.eval y).oneCell' = true := by
            have := hv m (fun _ hi => hi) hm [a.eval y] (by rw [hp]; exact ⟨hyv, trivial⟩)
            exact this.2 _ (by simp)
          rw [cells_one hone]
          exact ⟨hyv, trivial⟩
        | view i es oo n =>
          rw [hp] at hyv hF
          have hone : (a.eval y).oneCell' = true := by
            have := hv m (fun _ hi => hi) hm [a.eval y] (by rw [hp]; exact ⟨hyv, trivial⟩)
            exact this.2 _ (by simp)
          rw [cells_one hone]
          exact ⟨hyv, trivial⟩
        | own es n cc =>
          have hx0 := hF (opv s.tm y) (by rw [hp]; exact List.mem_singleton_self _)
          rw [hp] at hx0
          exact hx0.elim
        | ptr i cc =>
          have hx0 := hF (opv s.tm y) (by rw [hp]; exact List.mem_singleton_self _)
          rw [hp] at hx0
          exact hx0.elim
        | iptr i cc =>
          have hx0 := hF (opv s.tm y) (by rw [hp]; exact List.mem_singleton_self _)
          rw [hp] at hx0
          exact hx0.elim
        | pbox cc =>
          have hx0 := hF (opv s.tm y) (by rw [hp]; exact List.mem_singleton_self _)
          rw [hp] at hx0
          exact hx0.elim
        | tup cc =>
          have hx0 := hF (opv s.tm y) (by rw [hp]; exact List.mem_singleton_self _)
          rw [hp] at hx0
          exact hx0.elim
        | ub =>
          have hx0 := hF (opv s.tm y) (by rw [hp]; exact List.mem_singleton_self _)
          rw [hp] at hx0
          exact hx0.elim
        | top =>
          have hx0 := hF (opv s.tm y) (by rw [hp]; exact List.mem_singleton_self _)
          rw [hp] at hx0
          exact hx0.elim
      obtain ⟨h2, h1⟩ := hv m (fun _ hi => hi) hm _ hycells
      have hvl := h2.len
      have hf := h.freeze hm
      have h0' : freezeIds s.hp m id = some (.ar false c) := by rw [freeze_get, if_neg hnm]; exact h0
      rcases hf.box id _ h0' with ⟨hn, _⟩ | ⟨b', o', hb1, hb2, hb3, _⟩
      · rw [hβ] at hn; cases hn
      rw [hβ] at hb1
      simp at hb1
      obtain ⟨rfl, rfl⟩ := hb1
      have hcell : ∀ i, i < (a.eval y).cells.toList.length → (w.cell? ⟨b, ob + off + i, none⟩).isSome = true := by
        intro i hi
        obtain ⟨v, hv, _⟩ := hb2 (off + i) _ (List.getElem?_eq_getElem (by omega))
        rw [add_mk] at hv
        rw [Nat.add_assoc, hv]; rfl
      have hrun := run_storeAt (P := P) (t := t) (w := w) (b := b) (j := ob + off) (v := a.eval y) (by rw [hsz, ← hcl2, ← hcl, hvl]; simp) hcell (fun i hi => by
        obtain ⟨u, hu⟩ := Option.isSome_iff_exists.1 (hcell i hi)
        exact hb3 rfl _ (by omega) (cell_bsz hu)) h1
      refine ⟨_, hk, fun next Q hn => run hax hrun next Q (hn _ _ β ?_)⟩
      refine hf.write h0' trivial trivial hβ (WroteB.setCells b _ _ w) ?_ (fun cells hx => by cases hx) (fun _ hx => by cases hx) (fun j hj => hj) (fun j hj => by
        refine World.cell?_setCells_out b _ _ w ⟨b, j, none⟩ (fun _ _ => ?_)
        have hj : ¬ (ob ≤ j) := hj
        show j < ob + off ∨ ob + off + _ ≤ j
        omega)
      have hst : WStep (Aof (freezeIds s.hp m) β Y) w (w.setCells b (ob + off) (a.eval y).cells.toList) := by
        have hw := WroteB.setCells b (a.eval y).cells.toList (ob + off) w
        have hAb : Aof (freezeIds s.hp m) β Y b := .inl ⟨id, ob, by rw [h0']; trivial, hβ⟩
        exact ⟨by rw [hw.size]; exact Nat.le_refl _, fun k _ hk => hw.other k (fun e => hk (e ▸ hAb)), fun k _ => by
          by_cases e : k = b
          · subst e; rw [hw.bs]; exact Nat.le_refl _
          · unfold bsz; rw [hw.other k e]; exact Nat.le_refl _⟩
      refine .inr ⟨b, ob, hβ, fun j p hj => ?_, fun _ j hj hj' => ?_, (fun x => by cases x)⟩
      · rw [add_mk]
        rcases splice_get (by omega) hj with ⟨h3, h4, h5⟩ | ⟨h3, h5⟩
        · obtain ⟨u, hu, hcu⟩ := h2.get h5
          have hlt : j - off < (a.eval y).cells.toList.length := by omega
          refine ⟨u, ?_, h1 u (List.mem_of_getElem? hu), hcu.step hst (fun _ _ x => x)⟩
          have := World.cell?_setCells_in b (a.eval y).cells.toList (ob + off) w hcell (j - off) hlt
          rw [show ob + j = ob + off + (j - off) from by omega, this]
          rw [List.getElem?_eq_getElem hlt] at hu
          exact hu
        · obtain ⟨v, hv, h6, hcv⟩ := hb2 j p h5
          rw [add_mk] at hv
          refine ⟨v, ?_, h6, hcv.step hst (fun _ _ x => x)⟩
          rw [World.cell?_setCells_out b _ _ w ⟨b, ob + j, none⟩ (fun _ _ => by show ob + j < ob + off ∨ ob + off + _ ≤ ob + j; omega)]
          exact hv
      · rw [(WroteB.setCells b _ _ w).bs] at hj'
        rw [(WroteB.setCells b _ _ w).frz]
        exact hb3 rfl j hj hj'
    · cases hk
  · cases hk
end

end Go.Proofs.Ytoihfmiifeegpaa.Pv
