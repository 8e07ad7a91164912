/-
  Operations of class R that make no call: first part.
-/
import Derived.Test.YtoihfmiifeegpaaPvS3
namespace Go.Proofs.Ytoihfmiifeegpaa.Pv
open Go.RowKit

section
variable {P : Program} {N : Nat} {w0 : World} {X0 : Lend} {Y : Nat → Prop} {β β' : Bt} {s : St} {a : Act} {w w' : World} {o : Oper}

theorem cells_const (cs : List Value) (A : Nat → Prop) : All2 (CRep w A β) (cs.map PV.sc) cs := by
  induction cs with
  | nil => trivial
  | cons v r ih => exact ⟨TRep.sc v, ih⟩

theorem refs_const (cs : List Value) : (cs.map PV.sc).flatMap refsC = [] := by
  induction cs with
  | nil => rfl
  | cons v r ih => exact ih

theorem opv_rep (h : Sim N w0 X0 Y β s a w) (x : Operand) : VRep w (Aof s.hp β Y) β (opv s.tm x) (a.eval x) := by
  cases x with
  | tmp t =>
    show VRep _ _ _ (s.tm t) (a.tmps.getD t undef)
    by_cases ht : t < N
    · exact h.tms t ht
    · rw [h.tmo t (Nat.le_of_not_lt ht)]; exact TRep.top _
  | const v =>
    cases v with
    | agg cs => exact ⟨cs.toList, by simp [Act.eval], cells_const cs.toList _⟩
    | _ => exact TRep.sc _
  | func f => exact TRep.sc _
  | global g => exact TRep.sc _

theorem opv_refs (h : Sim N w0 X0 Y β s a w) (x : Operand) : ∀ id ∈ refs (opv s.tm x), s.hp id ≠ none := by
  cases x with
  | tmp t =>
    show ∀ id ∈ refs (s.tm t), _
    by_cases ht : t < N
    · exact h.wfT t ht
    · rw [h.tmo t (Nat.le_of_not_lt ht)]; intro id hid; cases hid
  | const v =>
    cases v with
    | agg cs =>
      intro id hid
      have : refs (.agg (cs.toList.map .sc)) = [] := refs_const cs.toList
      simp only [opv] at hid
      rw [this] at hid; cases hid
    | _ => intro id hid; cases hid
  | func f => intro id hid; cases hid
  | global g => intro id hid; cases hid

theorem sc_val {A : Nat → Prop} {v u : Value} (h : VRep w A β (.sc v) u) : u = v := TRep.val h

theorem opv_sc (h : Sim N w0 X0 Y β s a w) {x : Operand} {v : Value} (e : opv s.tm x = .sc v) : a.eval x = v := by
  have := opv_rep h x
  rw [e] at this
  exact sc_val this

def Gives (P : Program) (a : Act) (w : World) (o : Oper) (Y : Nat → Prop) (β : Bt) (s : St) (v : PV) (fz : List Nat) (nw : List (Nat × Box)) : Prop :=
  (∀ id ∈ fz, ∃ f c, s.hp id = some (.ar f c)) ∧ ∃ val w', (execOp a.eval o).run P w = .ok (.value val) w' ∧ (absent s.hp nw = true → ∃ β', StepR Y β ⟨s.tm, freezeIds s.hp fz⟩ w v nw val w' β')

theorem stepR_pure {v : PV} {val : Value} (hv : VRep w (Aof s.hp β Y) β v val) (hr : ∀ id ∈ refs v, s.hp id ≠ none) : StepR Y β s w v [] val w β :=
  ⟨rfl, rfl, rfl, WStep.refl _ _, fun _ _ => rfl, by simp, by simp, by simp, by simp, by simp, hv, fun id hid => .inl (hr id hid)⟩

theorem gives_pure {v : PV} {val : Value} (hrun : (execOp a.eval o).run P w = .ok (.value val) w) (hv : VRep w (Aof s.hp β Y) β v val) (hr : ∀ id ∈ refs v, s.hp id ≠ none) : Gives P a w o Y β s v [] [] :=
  ⟨by simp, val, w, hrun, fun _ => ⟨β, stepR_pure (s := ⟨s.tm, freezeIds s.hp []⟩) hv hr⟩⟩

theorem gives_sc {v : Value} (hrun : (execOp a.eval o).run P w = .ok (.value v) w) : Gives P a w o Y β s (.sc v) [] [] := gives_pure hrun (TRep.sc v) (by intro id hid; cases hid)

/-- The world with one block more. -/
structure GrowB (w w' : World) (c : Array Value) (e : TypeId) : Prop where
  os : w'.os = w.os
  tape : w'.tape = w.tape
  output : w'.output = w.output
  old : ∀ b, b < w.heap.size → w'.heap[b]? = w.heap[b]?
  size : w'.heap.size = w.heap.size + 1
  new : ∃ fz : Nat × Nat, w'.heap[w.heap.size]? = some (.cells c e fz) ∧ (fz.1 = fz.2 ∨ c.size ≤ fz.1)

theorem GrowB.alloc (w : World) (c : Array Value) (e : TypeId) : GrowB w (w.alloc (.cells c e)) c e :=
  ⟨rfl, rfl, rfl, fun b hb => Below.heap_alloc w _ b hb, by show (w.heap.push _).size = _; simp, (0, 0), by show (w.heap.push _)[w.heap.size]? = _; simp, .inl rfl⟩

theorem GrowB.drew {c : Array Value} {e : TypeId} (h : GrowB w w' c e) : GrowB w w'.drew c e := ⟨h.os, h.tape, h.output, h.old, h.size, h.new⟩

section
variable {c : Array Value} {e : TypeId}
theorem GrowB.step (h : GrowB w w' c e) : WStep (fun _ => False) w w' :=
  ⟨by rw [h.size]; omega, fun b hb _ => h.old b hb, fun b hb => by unfold bsz; rw [h.old b hb]; exact Nat.le_refl _⟩
theorem GrowB.cell (h : GrowB w w' c e) (j : Nat) : w'.cell? ⟨w.heap.size, j, none⟩ = c[j]? := by
  obtain ⟨fz, hn, _⟩ := h.new
  simp [World.cell?, hn]
theorem GrowB.frozen (h : GrowB w w' c e) {j : Nat} (hj : j < c.size) : w'.frozen? ⟨w.heap.size, j, none⟩ = false := by
  obtain ⟨fz, hn, hf⟩ := h.new
  simp only [World.frozen?, hn]
  rcases hf with hf | hf <;> simp <;> omega
theorem GrowB.bsz (h : GrowB w w' c e) : bsz w' w.heap.size = c.size := by
  obtain ⟨fz, hn, _⟩ := h.new
  simp [Pv.bsz, hn]
end

theorem add1_get {hp : Nat → Option Box} {d : Nat} {bx : Box} : addBoxes hp [(d, bx)] = upd hp d (some bx) := rfl

/-- One new box in a new block. -/
theorem stepR_new {c : Array Value} {e : TypeId} {d : Nat} {bx : Box} {v : PV} {val : Value} (hg : GrowB w w' c e) (hd : s.hp d = none) (hl : liveB (some bx))
    (hbx : BRep w' (Aof (upd s.hp d (some bx)) (upd β d (some (w.heap.size, 0))) Y) (upd β d (some (w.heap.size, 0))) d bx)
    (hcw : ∀ cells, bx = .st cells → ∀ x ∈ cells, ∀ id' ∈ refsC x, s.hp id' ≠ none)
    (hv : VRep w' (Aof (upd s.hp d (some bx)) (upd β d (some (w.heap.size, 0))) Y) (upd β d (some (w.heap.size, 0))) v val)
    (hvr : ∀ id ∈ refs v, s.hp id ≠ none ∨ id = d) : StepR Y β s w v [(d, bx)] val w' (upd β d (some (w.heap.size, 0))) where
  os := hg.os
  tape := hg.tape
  output := hg.output
  ext := hg.step
  old := fun id hn => upd_other _ _ (by rintro rfl; exact hn hd)
  nlive := by intro id b hm; simp at hm; obtain ⟨rfl, rfl⟩ := hm; exact hl
  nbox := by intro id b hm; simp at hm; obtain ⟨rfl, rfl⟩ := hm; exact hbx
  nblk := by
    intro id b x y hm hb
    simp at hm; obtain ⟨rfl, rfl⟩ := hm
    rw [upd_same] at hb
    simp at hb
    have := hg.size
    omega
  ninj := by intro id b id' b' x y z hm hm' _ _; simp at hm hm'; rw [hm.1, hm'.1]
  nwf := by intro id cells hm x hx id' hid; simp at hm; exact .inl (hcw cells hm.2.symm x hx id' hid)
  val := hv
  vwf := by
    intro id hid
    rcases hvr id hid with h | rfl
    · exact .inl h
    · exact .inr ⟨bx, by simp⟩

/-- The cells of a new row of trees. -/
theorem rdT_new {c : Array Value} {e : TypeId} (hg : GrowB w w' c e) {A A' : Nat → Prop} (hA : ∀ b, b < w.heap.size → A' b → A b) {cells : List PV}
    (h : ∀ (j : Nat) p, cells[j]? = some p → ∃ v, c[j]? = some v ∧ v.oneCell' = true ∧ TRep w A p v) : RdT w' A' ⟨w.heap.size, 0, none⟩ cells := by
  intro j p hj
  obtain ⟨v, hv, h1, ht⟩ := h j p hj
  exact ⟨v, by rw [add_mk, Nat.zero_add, hg.cell]; exact hv, h1, ht.step (hg.step.weaken (fun _ _ x => x.elim)) hA⟩

theorem A_new {d : Nat} {bx : Box} (hwf : s.hp d = none) : ∀ b, b < w.heap.size → Aof (upd s.hp d (some bx)) (upd β d (some (w.heap.size, 0))) Y b → Aof s.hp β Y b := by
  intro b hb hA
  rcases hA with ⟨id, o, hl, hβ⟩ | hY
  · by_cases e : id = d
    · subst e
      rw [upd_same] at hβ
      simp at hβ
      omega
    · rw [upd_other _ _ e] at hl hβ
      exact .inl ⟨id, o, hl, hβ⟩
  · exact .inr hY

/-- A new row of trees, its value a slice or a pointer. -/
theorem gives_row {c : Array Value} {e : TypeId} {d : Nat} {cells : List PV} {fz : List Nat} {v : PV} {val : Value}
    (hfz : ∀ id ∈ fz, ∃ f c, s.hp id = some (.ar f c))
    (hrun : (execOp a.eval o).run P w = .ok (.value val) w') (hg : GrowB w w' c e)
    (hc : ∀ (j : Nat) p, cells[j]? = some p → ∃ u, c[j]? = some u ∧ u.oneCell' = true ∧ TRep w (Aof (freezeIds s.hp fz) β Y) p u)
    (hv : (v = .ptr d 0 ∧ val = .pointer (some ⟨w.heap.size, 0, none⟩)) ∨ ∃ es n cap, v = .view d es 0 n ∧ val = .slice (some ⟨w.heap.size, 0, none⟩) n cap ∧ n ≤ cap ∧ cap * es ≤ c.size) :
    Gives P a w o Y β s v fz [(d, .ar false cells)] := by
  refine ⟨hfz, val, w', hrun, fun hab => ⟨upd β d (some (w.heap.size, 0)), ?_⟩⟩
  have hd : s.hp d = none := (absent_spec hab).1 d (.ar false cells) (by simp)
  have hd' : freezeIds s.hp fz d = none := freeze_none.2 hd
  refine stepR_new (s := ⟨s.tm, freezeIds s.hp fz⟩) hg hd' trivial ?_ (fun cells hx => by cases hx) ?_ ?_
  · refine .inr ⟨w.heap.size, 0, upd_same _ _ _, ?_, fun _ j _ hj => ?_, (fun x => by cases x)⟩
    · exact rdT_new hg (A_new (s := ⟨s.tm, freezeIds s.hp fz⟩) hd') hc
    · rw [hg.bsz] at hj
      exact hg.frozen hj
  · rcases hv with ⟨rfl, rfl⟩ | ⟨es, n, cap, rfl, rfl, hn, hcap⟩
    · exact ⟨w.heap.size, 0, upd_same _ _ _, rfl⟩
    · exact .inr ⟨w.heap.size, 0, 0, cap, upd_same _ _ _, rfl, .inl rfl, hn, by rw [hg.bsz]; omega, by rw [hg.size]; omega⟩
  · intro id hid
    rcases hv with ⟨rfl, _⟩ | ⟨es, n, cap, rfl, _⟩ <;> (simp [refs, refs1, refsC] at hid; exact .inr hid)

/-- A new variable. -/
theorem gives_var {c : Array Value} {e : TypeId} {d : Nat} {cells : List PV}
    (hrun : (execOp a.eval o).run P w = .ok (.value (.pointer (some ⟨w.heap.size, 0, none⟩))) w') (hg : GrowB w w' c e)
    (hc : ∀ (j : Nat) p, cells[j]? = some p → ∃ u, c[j]? = some u ∧ CRep w (Aof s.hp β Y) β p u) (hr : ∀ x ∈ cells, ∀ id ∈ refsC x, s.hp id ≠ none) :
    Gives P a w o Y β s (.ptr d 0) [] [(d, .st cells)] := by
  refine ⟨by simp, _, w', hrun, fun hab => ⟨upd β d (some (w.heap.size, 0)), ?_⟩⟩
  have hd : s.hp d = none := (absent_spec hab).1 d (.st cells) (by simp)
  refine stepR_new (s := ⟨s.tm, freezeIds s.hp []⟩) hg hd trivial ?_ (fun cs hx x hxm id hid => ?_) ?_ ?_
  · refine ⟨w.heap.size, 0, upd_same _ _ _, fun j p hj => ?_, fun j hj => ?_⟩
    · obtain ⟨u, hu, hp⟩ := hc j p hj
      refine ⟨u, by rw [Nat.zero_add, hg.cell]; exact hu, hp.step (hg.step.weaken (fun _ _ x => x.elim)) (A_new (s := ⟨s.tm, freezeIds s.hp []⟩) hd) fun id hid => upd_other _ _ ?_⟩
      rintro rfl
      exact hr p (List.mem_of_getElem? hj) id hid hd
    · rw [Nat.zero_add]
      obtain ⟨u, hu, _⟩ := hc j _ (List.getElem?_eq_getElem hj)
      exact hg.frozen (by
        rcases Nat.lt_or_ge j c.size with h | h
        · exact h
        · rw [Array.getElem?_eq_none h] at hu; cases hu)
  · injection hx with hx
    subst hx
    exact hr x hxm id hid
  · exact ⟨w.heap.size, 0, upd_same _ _ _, rfl⟩
  · intro id hid
    simp [refs, refs1, refsC] at hid
    exact .inr hid
end

end Go.Proofs.Ytoihfmiifeegpaa.Pv
