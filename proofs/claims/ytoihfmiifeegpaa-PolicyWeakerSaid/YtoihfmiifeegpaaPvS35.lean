/-
  Calls to which something is lent or handed over.
-/
import Derived.Test.YtoihfmiifeegpaaPvS34
namespace Go.Proofs.Ytoihfmiifeegpaa.Pv
open Go.RowKit

theorem mvIds_get (hp : Nat → Option Box) (ids : List Nat) (i : Nat) : mvIds hp ids i = if i ∈ ids then (hp i).map (fun _ => Box.mv) else hp i := by
  unfold mvIds
  by_cases hi : i ∈ ids
  · have : ids.any (Nat.beq i) = true := List.any_eq_true.2 ⟨i, hi, Nat.beq_refl i⟩
    rw [this, if_pos hi]; rfl
  · have : ids.any (Nat.beq i) = false := by
      cases hb : ids.any (Nat.beq i)
      · rfl
      · obtain ⟨j, hj, e⟩ := List.any_eq_true.1 hb
        exact absurd (Nat.eq_of_beq_eq_true e ▸ hj) hi
    rw [this, if_neg hi]; rfl

theorem absent_nodup : ∀ {nw : List (Nat × Box)} {hp : Nat → Option Box}, absent hp nw = true → (nw.map (·.1)).Nodup
  | [], _, _ => List.nodup_nil
  | (i, b) :: r, hp, h => by
    simp only [absent, Bool.and_eq_true, Option.isNone_iff_eq_none, Bool.not_eq_true'] at h
    simp only [List.map_cons, List.nodup_cons]
    refine ⟨fun hm => ?_, absent_nodup h.2⟩
    obtain ⟨q, hq, e⟩ := List.mem_map.1 hm
    have : r.any (fun q => Nat.beq q.1 i) = true := List.any_eq_true.2 ⟨q, hq, by rw [e]; exact Nat.beq_refl i⟩
    rw [this] at h
    cases h.1.2

theorem lkn_of : ∀ {l : List (Nat × Nat)}, (l.map (·.1)).Nodup → ∀ q ∈ l, lkn l q.1 = some q.2
  | [], _, _, h => by cases h
  | (j, b) :: r, hn, q, hq => by
    simp only [List.map_cons, List.nodup_cons] at hn
    unfold lkn
    rcases List.mem_cons.1 hq with rfl | hq
    · simp only [Nat.beq_refl, cond_true]
    · have : Nat.beq q.1 j = false := by
        cases hb : Nat.beq q.1 j
        · rfl
        · exact absurd (Nat.eq_of_beq_eq_true hb ▸ List.mem_map_of_mem hq) hn.1
      simp only [this, cond_false]
      exact lkn_of hn.2 q hq

theorem lkn_none : ∀ {l : List (Nat × Nat)} {i : Nat}, i ∉ l.map (·.1) → lkn l i = none
  | [], _, _ => rfl
  | (j, b) :: r, i, h => by
    simp only [List.map_cons, List.mem_cons, not_or] at h
    unfold lkn
    have : Nat.beq i j = false := by
      cases hb : Nat.beq i j
      · rfl
      · exact absurd (Nat.eq_of_beq_eq_true hb) h.1
    simp only [this, cond_false]
    exact lkn_none h.2

section
variable {R : Type} {r : R} {P : Program} {N : Nat} {w0 : World} {X0 : Lend} {Y : Nat → Prop} {β β' : Bt} {s : St} {a : Act} {w w' : World} {o : Oper} {A A' : Nat → Prop}

theorem OCell.weak (hA : ∀ b, b < w.heap.size → A' b → A b) {q : Option (Nat × Nat)} {p : PV} {u : Value} (h : OCell w A q p u) : OCell w A' q p u := by
  have tr : ∀ {p : PV}, TRep w A p u → TRep w A' p u := fun h => h.step (WStep.refl _ _) hA
  cases p with
  | own es n c =>
    rcases h with h | ⟨b, ob, cap, h1, h2, h3, h4, h5, h6, h7⟩
    · exact .inl h
    · exact .inr ⟨b, ob, cap, h1, h2, h3, h4, h5, h6.weak hA, h7⟩
  | _ => exact tr h

theorem OCells.weak (hA : ∀ b, b < w.heap.size → A' b → A b) {own : Bt} : ∀ {ps : List PV} {us : List Value} {j : Nat}, OCells w A own j ps us → OCells w A' own j ps us
  | [], [], _, _ => trivial
  | [], _ :: _, _, h => h.elim
  | _ :: _, [], _, h => h.elim
  | _ :: _, _ :: _, _, h => ⟨h.1.weak hA, OCells.weak hA h.2⟩

theorem PArg.weak (hA : ∀ b, b < w.heap.size → A' b → A b) {bt : Bt} {p : PV} {u : Value} (h : PArg w A bt p u) : PArg w A' bt p u := by
  cases p with
  | pbox ps =>
    obtain ⟨b, ob, h1, h2, h3, vs, h4, h5⟩ := h
    exact ⟨b, ob, h1, h2, h3, vs, h4.weak hA, h5⟩
  | tup ps =>
    obtain ⟨es, n, c, h1, h2⟩ := h
    exact ⟨es, n, c, h1, h2.weak hA⟩
  | agg cs =>
    obtain ⟨vs, h1, h2, h3⟩ := h
    exact ⟨vs, h1, h2, h3.weak hA⟩
  | _ => exact ⟨h.1, h.2.weak hA⟩

theorem PArgs.weak (hA : ∀ b, b < w.heap.size → A' b → A b) {bt : Bt2} : ∀ {ps : List PV} {us : List Value} {i : Nat}, PArgs w A bt i ps us → PArgs w A' bt i ps us
  | [], [], _, _ => trivial
  | [], _ :: _, _, h => h.elim
  | _ :: _, [], _, h => h.elim
  | _ :: _, _ :: _, _, h => ⟨h.1.weak hA, PArgs.weak hA h.2⟩

theorem markNil_args {bt : Bt2} (k : Bool) : ∀ {xs : List Operand} {ps : List PV} {i : Nat}, PArgs w A bt i ps (xs.map a.eval) → PArgs w A bt i (markNil k xs ps) (xs.map a.eval)
  | [], [], _, h => h
  | [], _ :: _, _, h => h
  | _ :: _, [], _, h => h
  | x :: xs, p :: ps, i, h => by
    simp only [List.map_cons] at h ⊢
    refine ⟨?_, markNil_args k h.2⟩
    split
    · exact ⟨.inl trivial, TRep.lnil _ _⟩
    · exact h.1

theorem markNil_cons (k : Bool) (x : Operand) (xs : List Operand) (p : PV) (ps : List PV) : ∃ p', markNil k (x :: xs) (p :: ps) = p' :: markNil k xs ps ∧ isL p' = isL p ∧ (isL p = true → p' = p) := by
  refine ⟨_, rfl, ?_, fun h => ?_⟩
  · split
    · rfl
    · rfl
  · split
    · cases h
    · rfl

theorem markNil_LRel {hp : Nat → Option Box} {src : Nat → Nat → Option (Nat × Nat)} (k : Bool) : ∀ {xs : List Operand} {ps : List PV} {i : Nat} {l : List Lnt}, LRel hp src i ps l → LRel hp src i (markNil k xs ps) l
  | [], [], _, _, h => h
  | [], _ :: _, _, _, h => h
  | _ :: _, [], _, _, h => h
  | x :: xs, p :: ps, i, l, h => by
    obtain ⟨p', e, h1, h2⟩ := markNil_cons k x xs p ps
    rw [e]
    rcases h with ⟨h3, h4, h5⟩ | ⟨y, l', rfl, h4, h5⟩
    · exact .inl ⟨by rw [h1]; exact h3, h4, markNil_LRel k h5⟩
    · exact .inr ⟨y, l', rfl, by rw [h2 (LOk_isL h4)]; exact h4, markNil_LRel k h5⟩

theorem LRel_ids {hp : Nat → Option Box} {src : Nat → Nat → Option (Nat × Nat)} : ∀ {ps : List PV} {i : Nat} {l : List Lnt}, LRel hp src i ps l → ∀ id ∈ l.flatMap Lnt.ids, liveB (hp id) ∧ ∃ k off, src k 0 = some (id, off)
  | [], _, _, h, id, hid => by
    have h : _ = [] := h
    rw [h] at hid; cases hid
  | p :: ps, i, l, h, id, hid => by
    rcases h with ⟨_, _, h3⟩ | ⟨x, l', rfl, h2, h3⟩
    · exact LRel_ids h3 id hid
    · simp only [List.flatMap_cons, List.mem_append] at hid
      rcases hid with hid | hid
      · cases x with
        | var id' off cts ws =>
          simp only [Lnt.ids, List.mem_singleton] at hid
          subst hid
          obtain ⟨_, h4, _, c, h5, _⟩ := h2
          exact ⟨by rw [h5]; trivial, i, _, h4⟩
        | row id' =>
          simp only [Lnt.ids, List.mem_singleton] at hid
          subst hid
          obtain ⟨_, h4, c, h5⟩ := h2
          exact ⟨by rw [h5]; trivial, i, _, h4⟩
        | none => simp [Lnt.ids] at hid
      · exact LRel_ids h3 id hid

/-- The box of what is lent has room for what its argument says. -/
theorem LRel_L {hp : Nat → Option Box} {src : Nat → Nat → Option (Nat × Nat)} : ∀ {ps : List PV} {i : Nat} {l : List Lnt}, LRel hp src i ps l → ∀ k p id off, ps[k]? = some p → src (i + k) 0 = some (id, off) →
      (∃ c ws, hp id = some (.st c) ∧ p = .pbox ws ∧ off + ws.length ≤ c.length) ∨ ((∃ c, hp id = some (.ar false c)) ∧ off = 0 ∧ ∃ ws, p = .tup ws)
  | [], _, _, _, k, p, id, off, hp, _ => by simp at hp
  | p :: ps, i, l, h, k, p', id, off, hp', hs => by
    have hrest : ∃ l', LRel hp src (i + 1) ps l' := by
      rcases h with ⟨_, _, h3⟩ | ⟨x, l', _, _, h3⟩ <;> exact ⟨_, h3⟩
    cases k with
    | succ k =>
      obtain ⟨l', h'⟩ := hrest
      exact LRel_L h' k p' id off (by simpa using hp') (by rw [show i + 1 + k = i + (k + 1) by omega]; exact hs)
    | zero =>
      simp only [List.getElem?_cons_zero, Option.some.injEq] at hp'
      subst hp'
      rw [Nat.add_zero] at hs
      rcases h with ⟨_, h2, _⟩ | ⟨x, l', _, h2, _⟩
      · rw [hs] at h2; cases h2
      · cases x with
        | var id' off' cts ws =>
          obtain ⟨h3, h4, _, c, h5, h6⟩ := h2
          rw [hs] at h4
          cases h4
          exact .inl ⟨c, ws, h5, h3, h6⟩
        | row id' =>
          obtain ⟨h3, h4, c, h5⟩ := h2
          rw [hs] at h4
          cases h4
          exact .inr ⟨⟨c, h5⟩, rfl, h3⟩
        | none =>
          have := h2.2
          rw [hs] at this; cases this

theorem LRel_var {hp : Nat → Option Box} {src : Nat → Nat → Option (Nat × Nat)} {id off : Nat} {cts : List CT} {ws : List PV} : ∀ {ps : List PV} {i : Nat} {l : List Lnt}, LRel hp src i ps l → Lnt.var id off cts ws ∈ l →
      ∃ k, ps[k]? = some (.pbox ws) ∧ src (i + k) 0 = some (id, off)
  | [], _, _, h, hm => by
    have h : _ = [] := h
    rw [h] at hm; cases hm
  | p :: ps, i, l, h, hm => by
    have next : ∀ {l'}, LRel hp src (i + 1) ps l' → Lnt.var id off cts ws ∈ l' → ∃ k, (p :: ps)[k]? = some (.pbox ws) ∧ src (i + k) 0 = some (id, off) := by
      intro l' h' hm'
      obtain ⟨k, h1, h2⟩ := LRel_var h' hm'
      exact ⟨k + 1, by simpa using h1, by rw [show i + (k + 1) = i + 1 + k by omega]; exact h2⟩
    rcases h with ⟨_, _, h3⟩ | ⟨x, l', rfl, h2, h3⟩
    · exact next h3 hm
    · rcases List.mem_cons.1 hm with e | hm
      · subst e
        obtain ⟨h1, h4, _⟩ := h2
        subst h1
        exact ⟨0, rfl, h4⟩
      · exact next h3 hm

theorem LRel_src {hp : Nat → Option Box} {src : Nat → Nat → Option (Nat × Nat)} : ∀ {ps : List PV} {i : Nat} {l : List Lnt}, LRel hp src i ps l → ∀ k id off, i ≤ k → src k 0 = some (id, off) → k < i + ps.length → ∃ p, ps[k - i]? = some p ∧ isL p = true
  | [], i, _, _, k, id, off, h1, _, h3 => by simp at h3; omega
  | p :: ps, i, l, h, k, id, off, h1, h2, h3 => by
    by_cases e : k = i
    · subst e
      rcases h with ⟨_, h4, _⟩ | ⟨x, l', _, h4, _⟩
      · rw [h2] at h4; cases h4
      · exact ⟨p, by simp, LOk_isL h4⟩
    · have hrest : ∃ l', LRel hp src (i + 1) ps l' := by
        rcases h with ⟨_, _, h3⟩ | ⟨x, l', _, _, h3⟩ <;> exact ⟨_, h3⟩
      obtain ⟨l', h'⟩ := hrest
      obtain ⟨q, h5, h6⟩ := LRel_src h' k id off (by omega) h2 (by simp at h3; omega)
      refine ⟨q, ?_, h6⟩
      rw [show k - i = (k - (i + 1)) + 1 by omega]
      simpa using h5

theorem PArgs.len {bt : Bt2} : ∀ {ps : List PV} {us : List Value} {i : Nat}, PArgs w A bt i ps us → ps.length = us.length
  | [], [], _, _ => rfl
  | [], _ :: _, _, h => h.elim
  | _ :: _, [], _, h => h.elim
  | _ :: _, _ :: _, _, h => by simp [PArgs.len h.2]

theorem callM_sound (h : Sim N w0 X0 Y β s a w) (hNG : NoNG P) {C : Cfg} {call : Call'} (hcall : ∀ f args res, call f args = some res → SoundC P f args res) {c : Call} {f : FuncId} (ho : o.op = .call c) (hc : c.callee = .value (.func f))
    {K : St → Option R} (hk : callMK C P N call s o f c K = some r) :
    ∃ s', K s' = some r ∧ ∀ (next : Act → World → Prop) (Q : Exit → Act → World → Prop), (∀ a' w' β', Sim N w0 X0 Y β' s' a' w' → next a' w') → o.wp P a w next Q := by
  unfold callMK at hk
  obtain ⟨vs0, m, x, l, src, hk1, hm, hx, hS, hL, hargs⟩ := lendK_inv h hk
  obtain ⟨hb, hk2⟩ := chk_inv hk1
  simp only [Bool.and_eq_true] at hb
  obtain ⟨⟨⟨hnd, hdis⟩, hN⟩, hdst⟩ := hb
  have hN : 0 < N := Nat.lt_of_succ_le (Nat.le_of_ble_eq_true hN)
  obtain ⟨hnl, hnx, hlx⟩ := nodupB_app hnd
  have hml : ∀ i ∈ m, i ∉ l.flatMap Lnt.ids ∧ i ∉ x := by
    intro i hi
    have := List.all_eq_true.1 hdis i hi
    have hn : ∀ k ∈ l.flatMap Lnt.ids ++ x, i ≠ k := by
      rintro k hk rfl
      have h2 : (l.flatMap Lnt.ids ++ x).any (Nat.beq i) = true := List.any_eq_true.2 ⟨i, hk, Nat.beq_refl i⟩
      rw [h2] at this; cases this
    exact ⟨fun hq => hn i (by simp only [List.mem_append]; exact .inl hq) rfl, fun hq => hn i (by simp only [List.mem_append]; exact .inr hq) rfl⟩
  replace hL := markNil_LRel (C.kz f) (xs := c.args.toList) hL
  replace hargs := fun fz h1 h2 bt hbt => markNil_args (a := a) (C.kz f) (hargs fz h1 h2 bt hbt)
  generalize markNil (C.kz f) c.args.toList vs0 = vs at hk2 hargs hL
  obtain ⟨rv, ro, hcl, hk3⟩ := callK_inv hk2
  obtain ⟨ws, bs, hk4, hwl, hnt, hsl, hrs, hri, hws⟩ := unvsK_inv (C.shr f) N hk3
  obtain ⟨htup, hk5⟩ := chk_inv hk4
  obtain ⟨lids, hlid⟩ : ∃ lids, l.flatMap Lnt.ids = lids := ⟨_, rfl⟩
  rw [hlid] at hS hnl hlx hml
  have hgetM : ∀ i, i ∉ x → mvIds (freezeIds s.hp m) x i = freezeIds s.hp m i := fun i hi => by rw [mvIds_get, if_neg hi]
  have hgetL : ∀ i, i ∈ lids → mvIds (freezeIds s.hp m) x i = s.hp i := fun i hi => by
    rw [hgetM i (hlx i hi), freeze_get, if_neg (fun hq => (hml i hq).1 hi)]
  have hLM : LRel (mvIds (freezeIds s.hp m) x) src 0 vs l := LRel_hp (fun i hi => hgetL i (hlid ▸ hi)) hL
  obtain ⟨hp', bs', qs, hk6, hbq, hq1, hq2, hb1, hkeep, hsh, hsem⟩ := bksK_inv (β := β) (j := plcSum rv) hk5 hLM (by rw [hlid]; exact hnl)
  obtain ⟨hab, hk7⟩ := chk_inv hk6
  refine ⟨_, hk7, fun next Q hn => ?_⟩
  clear hk hk1 hk2 hk3 hk4 hk5 hk6 hk7
  rw [hlid] at hkeep
  obtain ⟨⟨fn, hfn, hfb⟩, hcs⟩ := hcall f vs _ hcl
  have hf := h.freeze hm
  -- where things lie
  have hids := LRel_ids hL
  rw [hlid] at hids
  have hgetF : ∀ i, i ∈ lids ∨ i ∈ x → freezeIds s.hp m i = s.hp i := by
    intro i hi
    rw [freeze_get, if_neg]
    intro hq
    rcases hi with hi | hi
    · exact (hml i hq).1 hi
    · exact (hml i hq).2 hi
  have hlv : ∀ i, i ∈ lids ∨ i ∈ x → liveB (s.hp i) := by
    intro i hi
    rcases hi with hi | hi
    · exact (hids i hi).1
    · obtain ⟨cc, hcc⟩ := hx i hi
      rw [hcc]; trivial
  have hsrcI : ∀ i j id off, src i j = some (id, off) → id ∈ lids ∨ id ∈ x := by
    intro i j id off hs
    cases j with
    | zero => exact .inl (hS.lent i id off hs)
    | succ j => exact .inr (hS.mvd i j id off hs).2
  obtain ⟨bt, hbt⟩ : ∃ bt : Bt2, ∀ i j, bt i j = (src i j).bind (place β) := ⟨_, fun _ _ => rfl⟩
  have btS : ∀ {i j b ob}, bt i j = some (b, ob) → ∃ id off o', src i j = some (id, off) ∧ β id = some (b, o') ∧ ob = o' + off ∧ (id ∈ lids ∨ id ∈ x) := by
    intro i j b ob hb
    rw [hbt] at hb
    cases hs : src i j with
    | none => rw [hs] at hb; cases hb
    | some q =>
      rw [hs] at hb
      obtain ⟨id, off⟩ := q
      simp only [Option.bind_some, place] at hb
      cases hβ : β id with
      | none => rw [hβ] at hb; cases hb
      | some p =>
        rw [hβ] at hb
        obtain ⟨b', o'⟩ := p
        simp only [Option.map_some, Option.some.injEq, Prod.mk.injEq] at hb
        obtain ⟨rfl, rfl⟩ := hb
        exact ⟨id, off, o', rfl, hβ, rfl, hsrcI i j id off hs⟩
  have btX : ∀ {b}, BtX bt b → ∃ id o', β id = some (b, o') ∧ (id ∈ lids ∨ id ∈ x) := by
    rintro b ⟨i, j, ob, hb⟩
    obtain ⟨id, off, o', _, h2, _, h4⟩ := btS hb
    exact ⟨id, o', h2, h4⟩
  have hBA : ∀ b, BtX bt b → Xof s.hp β b := fun b hb => by
    obtain ⟨id, o', h1, h2⟩ := btX hb
    exact ⟨id, o', hlv id h2, h1⟩
  obtain ⟨Yc, hYc⟩ : ∃ Yc : Nat → Prop, ∀ b, Yc b ↔ ((∃ id ob, liveB (freezeIds s.hp m id) ∧ β id = some (b, ob) ∧ id ∉ lids ∧ id ∉ x) ∨ Y b) := ⟨_, fun _ => Iff.rfl⟩
  have hlen : vs.length = c.args.toList.length := by
    have := (hargs m (fun _ hi => hi) hm bt hbt).len
    simpa using this
  have hins : Ins w Yc bt vs (c.args.toList.map a.eval) := by
    refine ⟨fun b hb => ?_, fun b hb hB => ?_, fun b hB => ?_, fun i j i' j' b ob ob' hb hb' => ?_, fun i q hq => ?_, ?_⟩
    · rcases (hYc b).1 hb with ⟨id, ob, hl, hβ, _⟩ | hY
      · exact hf.blt id b ob (liveB_some hl) hβ
      · exact Nat.lt_of_lt_of_le (h.Ylt b hY) h.fr.step.size
    · obtain ⟨id', o', h1, h2⟩ := btX hB
      rcases (hYc b).1 hb with ⟨id, ob, hl, hβ, h3, h4⟩ | hY
      · have := hf.inj id id' b ob o' hl (by show liveB (freezeIds s.hp m id'); rw [hgetF id' h2]; exact hlv id' h2) hβ h1
        subst this
        rcases h2 with h2 | h2
        · exact h3 h2
        · exact h4 h2
      · exact h.Yx b hY ⟨id', o', hlv id' h2, h1⟩
    · obtain ⟨id', o', h1, h2⟩ := btX hB
      exact h.blt id' b o' (liveB_some (hlv id' h2)) h1
    · obtain ⟨id, off, o1, h1, h2, _, h4⟩ := btS hb
      obtain ⟨id', off', o1', h1', h2', _, h4'⟩ := btS hb'
      have := h.inj id id' b o1 o1' (hlv id h4) (hlv id' h4') h2 h2'
      subst this
      cases j with
      | zero =>
        cases j' with
        | zero => exact ⟨hS.inj0 hnl i i' id off off' h1 h1', rfl⟩
        | succ j' => exact absurd (hS.mvd i' j' id off' h1').2 (hlx id (hS.lent i id off h1))
      | succ j =>
        cases j' with
        | zero => exact absurd (hS.mvd i j id off h1).2 (hlx id (hS.lent i' id off' h1'))
        | succ j' =>
          obtain ⟨h5, h6⟩ := hS.inj1 hnx i i' j j' id off off' h1 h1'
          exact ⟨h5, by rw [h6]⟩
    · obtain ⟨b, ob⟩ := q
      obtain ⟨id, off, o', h1, _⟩ := btS hq
      obtain ⟨p, hp, h2⟩ := LRel_src hL i id off (Nat.zero_le _) h1 (by have := hS.dom i 0 _ h1; rw [hlen]; exact this.2)
      exact ⟨p, by simpa using hp, h2⟩
    · refine (hargs m (fun _ hi => hi) hm bt hbt).weak fun b _ hb => ?_
      rcases hb with hb | hb
      · obtain ⟨id', o', h1, h2⟩ := btX hb
        exact .inl ⟨id', o', by rw [hgetF id' h2]; exact hlv id' h2, h1⟩
      · rcases (hYc b).1 hb with ⟨id, ob, hl, hβ, _⟩ | hY
        · exact .inl ⟨id, ob, hl, hβ⟩
        · exact .inr hY
  unfold Oper.wp
  rw [call_run ho hc hNG hfn hfb]
  show Calls P f _ w _
  have hca : c.args.map a.eval = (c.args.toList.map a.eval).toArray := by rw [← List.map_toArray, Array.toArray_toList]
  rw [hca]
  refine (hcs w Yc bt _ hins).mono ?_
  rintro e w' ⟨us, own, rfl, out⟩
  -- the new names
  obtain ⟨ha1, ha2⟩ := absent_spec hab
  obtain ⟨hg1, hg2⟩ := addBoxes_get (hp := hp') ha2
  have hnod := absent_nodup hab
  rw [List.map_append, List.nodup_append] at hnod
  obtain ⟨hnd1, hnd2, hnd3⟩ := hnod
  rw [hbq] at hnd2
  obtain ⟨β1, hβ1, hβ2⟩ : ∃ β1 : Bt, (∀ i, (∃ bx, (i, bx) ∈ bs) → β1 i = own ((i - o.dst.getD N) / N)) ∧ ∀ i, (¬ ∃ bx, (i, bx) ∈ bs) → β1 i = match lkn qs i with | some j => own j | none => β i := by
    refine ⟨fun i => if (bs.any fun q => Nat.beq q.1 i) = true then own ((i - o.dst.getD N) / N) else match lkn qs i with | some j => own j | none => β i, fun i hi => ?_, fun i hi => ?_⟩
    · show (if _ then _ else _) = _
      rw [if_pos (any_at.2 hi)]
    · show (if _ then _ else _) = _
      rw [if_neg (fun hq => hi (any_at.1 hq))]
  have hβbs : ∀ j, (∃ bx, (o.dst.getD N + N * j, bx) ∈ bs) → β1 (o.dst.getD N + N * j) = own (0 + j) := by
    intro j hj
    rw [hβ1 _ hj, Nat.add_sub_cancel_left, Nat.mul_div_cancel_left _ hN, Nat.zero_add]
  have hqb : ∀ q ∈ qs, ∃ bx, (q.1, bx) ∈ bs' := by
    intro q hq
    have : q.1 ∈ bs'.map (·.1) := by rw [hbq]; exact List.mem_map_of_mem hq
    obtain ⟨⟨i, bx⟩, hm, e⟩ := List.mem_map.1 this
    exact ⟨bx, e ▸ hm⟩
  have hbqm : ∀ i bx, (i, bx) ∈ bs' → ∃ j, (i, j) ∈ qs := by
    intro i bx hm
    have : i ∈ qs.map (·.1) := by rw [← hbq]; exact List.mem_map.2 ⟨_, hm, rfl⟩
    obtain ⟨⟨i', j⟩, hm, e⟩ := List.mem_map.1 this
    exact ⟨j, e ▸ hm⟩
  have hbb : ∀ i, (∃ bx, (i, bx) ∈ bs') → ¬ ∃ bx, (i, bx) ∈ bs := by
    rintro i ⟨bx, hm⟩ ⟨bx', hm'⟩
    exact hnd3 i (List.mem_map.2 ⟨_, hm', rfl⟩) i (List.mem_map.2 ⟨_, hm, rfl⟩) rfl
  have hβqs : ∀ q ∈ qs, β1 q.1 = own q.2 := by
    intro q hq
    rw [hβ2 q.1 (hbb q.1 (hqb q hq)), lkn_of hnd2 q hq]
  have hβold : ∀ i, hp' i ≠ none → β1 i = β i := by
    intro i hi
    have hn1 : ¬ ∃ bx, (i, bx) ∈ bs := by
      rintro ⟨bx, hm⟩
      exact hi (ha1 i bx (List.mem_append.2 (.inl hm)))
    rw [hβ2 i hn1, lkn_none]
    intro hm
    obtain ⟨q, hq, e⟩ := List.mem_map.1 hm
    obtain ⟨bx, hbx⟩ := hqb q hq
    exact hi (ha1 i bx (List.mem_append.2 (.inr (e ▸ hbx))))
  obtain ⟨hvs, hba⟩ := hws w' _ own β1 w.heap.size 0 us hβbs out.vals
  obtain ⟨hbr', hpost⟩ := hsem w' _ own β1 bt hβqs (fun i => hbt i 0) out.outs
  -- what became of the boxes
  have hlbox : ∀ id ∈ lids, ∃ y ∈ l, id ∈ y.ids := by
    intro id hid
    rw [← hlid] at hid
    exact List.mem_flatMap.1 hid
  have hlsh : ∀ id ∈ lids, (∃ off c cs, s.hp id = some (.st c) ∧ hp' id = some (.st (splice c cs off)) ∧ off + cs.length ≤ c.length ∧ (∀ p ∈ cs, ∀ i ∈ refsC p, ∃ bx, (i, bx) ∈ bs')) ∨ ∃ c cs, s.hp id = some (.ar false c) ∧ hp' id = some (.ar false cs) := by
    intro id hid
    obtain ⟨y, hy, hyi⟩ := hlbox id hid
    have h1 := hsh y hy
    cases y with
    | var id' off cts ws' =>
      simp only [Lnt.ids, List.mem_singleton] at hyi
      subst hyi
      obtain ⟨c1, cs, h2, h3, h4, h5, h6⟩ := h1
      rw [hgetL id hid] at h2
      exact .inl ⟨off, c1, cs, h2, h3, h5, h6⟩
    | row id' =>
      simp only [Lnt.ids, List.mem_singleton] at hyi
      subst hyi
      obtain ⟨c1, cs, h2, h3⟩ := h1
      rw [hgetL id hid] at h2
      exact .inr ⟨c1, cs, h2, h3⟩
    | none => simp [Lnt.ids] at hyi
  have hnnL : ∀ id ∈ lids, hp' id ≠ none := by
    intro id hid
    rcases hlsh id hid with ⟨_, _, _, _, h2, _⟩ | ⟨_, _, _, h2⟩ <;> rw [h2] <;> simp
  have hpK : ∀ id, id ∉ lids → hp' id = mvIds (freezeIds s.hp m) x id := fun id hid => hkeep id hid
  have hnn : ∀ i, s.hp i ≠ none → hp' i ≠ none := by
    intro i hi
    by_cases hl : i ∈ lids
    · exact hnnL i hl
    · rw [hpK i hl, mvIds_get]
      have h1 : freezeIds s.hp m i ≠ none := fun e => hi (freeze_none.1 e)
      split
      · cases hq : freezeIds s.hp m i with
        | none => exact absurd hq h1
        | some b => simp
      · exact h1
  have hnn4 : ∀ i, (s.hp i ≠ none ∨ ∃ bx, (i, bx) ∈ bs ++ bs') → addBoxes hp' (bs ++ bs') i ≠ none := by
    rintro i (hi | ⟨bx, hm⟩)
    · have h1 := hnn i hi
      rw [hg2 i (fun bx hm => h1 (ha1 i bx hm))]
      exact h1
    · rw [hg1 i bx hm]; simp
  have hcase : ∀ id, (∃ bx, (id, bx) ∈ bs ++ bs') ∨ addBoxes hp' (bs ++ bs') id = hp' id := fun id => by
    by_cases hx : ∃ bx, (id, bx) ∈ bs ++ bs'
    · exact .inl hx
    · exact .inr (hg2 id fun bx hb => hx ⟨bx, hb⟩)
  -- an old box that lives
  have hold : ∀ id bx, hp' id = some bx → liveB (some bx) → liveB (s.hp id) ∧ id ∉ x ∧ (id ∈ lids ∨ (id ∉ lids ∧ freezeIds s.hp m id = some bx)) := by
    intro id bx hb hl
    by_cases hid : id ∈ lids
    · exact ⟨hlv id (.inl hid), hlx id hid, .inl hid⟩
    · rw [hpK id hid, mvIds_get] at hb
      split at hb
      · cases hq : freezeIds s.hp m id with
        | none => rw [hq] at hb; cases hb
        | some b => rw [hq] at hb; simp at hb; subst hb; exact hl.elim
      · rename_i hxn
        exact ⟨by rw [freeze_same hb hl]; exact hl, hxn, .inr ⟨hid, hb⟩⟩
  -- a new box
  have hnew : ∀ i bx, (i, bx) ∈ bs ++ bs' → ∃ j, β1 i = own j ∧ ((i = o.dst.getD N + N * j ∧ j < plcSum rv) ∨ ((i, j) ∈ qs ∧ plcSum rv ≤ j)) := by
    intro i bx hm
    rcases List.mem_append.1 hm with hm | hm
    · obtain ⟨⟨j, rfl, hj⟩, _⟩ := hba i bx hm
      exact ⟨j, by rw [hβbs j ⟨bx, hm⟩, Nat.zero_add], .inl ⟨rfl, hj⟩⟩
    · obtain ⟨j, hj⟩ := hbqm i bx hm
      exact ⟨j, hβqs _ hj, .inr ⟨hj, (hq1 _ hj).2⟩⟩
  have hnewB : ∀ i bx, (i, bx) ∈ bs ++ bs' → liveB (some bx) ∧ BRep w' (OutA bt own Yc) β1 i bx ∧ ∀ cs, bx = .st cs → ∀ b ob, β1 i = some (b, ob) → w.heap.size ≤ b := by
    intro i bx hm
    rcases List.mem_append.1 hm with hm | hm
    · exact (hba i bx hm).2
    · obtain ⟨cc, rfl⟩ := hb1 i bx hm
      exact ⟨trivial, hbr' i _ hm, fun cs e => by cases e⟩
  have hmvd : ∀ b, (∃ i k o', bt i (k + 1) = some (b, o')) → ∃ id o', id ∈ x ∧ β id = some (b, o') := by
    rintro b ⟨i, k, o', hb⟩
    obtain ⟨id, off, o1, h1, h2, _, _⟩ := btS hb
    exact ⟨id, o1, (hS.mvd i k id off h1).2, h2⟩
  have hX : ∀ b, b < w.heap.size → Xof (addBoxes hp' (bs ++ bs')) β1 b → Xof s.hp β b := by
    rintro b hb ⟨id, ob, hl, hβ⟩
    rcases hcase id with ⟨bx, hm⟩ | e
    · obtain ⟨j, hj, _⟩ := hnew id bx hm
      rw [hj] at hβ
      obtain ⟨id', o', h1, h2⟩ := hmvd b ((out.fresh j b ob hβ).2 hb).1
      exact ⟨id', o', hlv id' (.inr h1), h2⟩
    · rw [e] at hl
      cases hq : hp' id with
      | none => rw [hq] at hl; exact hl.elim
      | some bx =>
        rw [hq] at hl
        exact ⟨id, ob, (hold id bx hq hl).1, by rw [← hβold id (by rw [hq]; simp)]; exact hβ⟩
  have hAo : ∀ b, b < w.heap.size → Aof (addBoxes hp' (bs ++ bs')) β1 Y b → Aof s.hp β Y b := fun b hb hA => hA.imp (hX b hb) id
  have hAO : ∀ b, Aof (addBoxes hp' (bs ++ bs')) β1 Y b → OutA bt own Yc b := by
    rintro b (⟨id, ob, hl, hβ⟩ | hY)
    · rcases hcase id with ⟨bx, hm⟩ | e
      · obtain ⟨j, hj, _⟩ := hnew id bx hm
        rw [hj] at hβ
        exact .inl ⟨j, ob, hβ⟩
      · rw [e] at hl
        cases hq : hp' id with
        | none => rw [hq] at hl; exact hl.elim
        | some bx =>
          rw [hq] at hl
          rw [hβold id (by rw [hq]; simp)] at hβ
          obtain ⟨h1, h2, h3⟩ := hold id bx hq hl
          rcases h3 with h3 | ⟨h3, h4⟩
          · obtain ⟨_, i, off, hs⟩ := hids id h3
            exact .inr (.inl ⟨i, ob + off, by rw [hbt, hs]; simp [place, hβ]⟩)
          · exact .inr (.inr ((hYc b).2 (.inl ⟨id, ob, by rw [h4]; exact hl, hβ, h3, h2⟩)))
    · exact .inr (.inr ((hYc b).2 (.inr hY)))
  have hst : WStep (Aof s.hp β Y) w w' := out.ext.weaken (fun b _ hb => .inl (hBA b hb))
  have hwf4 : ∀ i, s.hp i ≠ none → β1 i = β i := fun i hi => hβold i (hnn i hi)
  -- cells that the call may change belong to what was lent or handed over
  have hCL : ∀ b j, CallL bt vs b j → ∃ id o' bx, s.hp id = some bx ∧ liveB (some bx) ∧ β id = some (b, o') ∧ BR bx o' j := by
    rintro b j ⟨i, p, hp, ⟨k, ob, hb, hle⟩ | ⟨ob, ps, hb, hle, hpl⟩⟩
    · obtain ⟨id, off, o', h1, h2, h3, _⟩ := btS hb
      obtain ⟨h5, h6⟩ := hS.mvd i k id off h1
      obtain ⟨cc, hcc⟩ := hx id h6
      exact ⟨id, o', _, hcc, trivial, h2, show o' ≤ j by omega⟩
    · obtain ⟨id, off, o', h1, h2, h3, _⟩ := btS hb
      rcases LRel_L hL i p id off hp (by rw [Nat.zero_add]; exact h1) with ⟨c1, wz, h5, h6, h7⟩ | ⟨⟨c1, h5⟩, _⟩
      · rcases hpl with ⟨h8, h9⟩ | h8
        · rw [h6] at h8
          cases h8
          exact ⟨id, o', _, h5, trivial, h2, show o' ≤ j ∧ j < o' + c1.length by omega⟩
        · rw [h6] at h8; cases h8
      · exact ⟨id, o', _, h5, trivial, h2, show o' ≤ j by omega⟩
  have hnL : ∀ id off cts wz, Lnt.var id off cts wz ∈ l → id ∈ lids → ∀ b ob, β id = some (b, ob) → ∀ j, (j < off ∨ off + wz.length ≤ j) → (∃ c1, s.hp id = some (.st c1)) → ¬ CallL bt vs b (ob + j) := by
    rintro id off cts wz hy hid b ob hβ j hj ⟨c1, hc1⟩ ⟨i, p, hp, ⟨k, ob', hb, hle⟩ | ⟨ob', ps, hb, hle, hpl⟩⟩
    · obtain ⟨id', off', o', h1, h2, h3, h4⟩ := btS hb
      have := h.inj id id' b ob o' (hlv id (.inl hid)) (hlv id' h4) hβ h2
      subst this
      exact hlx id hid (hS.mvd i k id off' h1).2
    · obtain ⟨id', off', o', h1, h2, h3, h4⟩ := btS hb
      have := h.inj id id' b ob o' (hlv id (.inl hid)) (hlv id' h4) hβ h2
      subst this
      rw [hβ] at h2
      cases h2
      obtain ⟨k, hk1, hk2⟩ := LRel_var hL hy
      rw [Nat.zero_add] at hk2
      have hik := hS.inj0 hnl i k id off' off h1 hk2
      subst hik
      rw [h1] at hk2
      cases hk2
      rw [hp] at hk1
      cases hk1
      rcases hpl with ⟨h8, h9⟩ | h8
      · cases h8
        omega
      · cases h8
  have hval : VRep w' (Aof (addBoxes hp' (bs ++ bs')) β1 Y) β1 (packVals ws (isTup P o.type)) (retVal us) := by
    have hall : All2 (V1Rep w' (Aof (addBoxes hp' (bs ++ bs')) β1 Y) β1) ws us := hvs.mono fun v u hvu => hvu.step (WStep.refl _ _) (fun b _ => hAO b) (fun _ _ => rfl)
    have hlen := hall.len
    cases hT : isTup P o.type
    · rw [hT] at htup
      have h1 : ws.length = 1 := Nat.eq_of_beq_eq_true htup
      match ws, us, h1, hlen with
      | [v], [u], _, _ =>
        exact (VRep_V1 (hnt v (by simp))).2 hall.1
    · rw [hT] at htup
      have h1 : ¬ ws.length = 1 := by
        intro e
        rw [e] at htup
        cases htup
      have hr : retVal us = .tuple ⟨us⟩ := by
        unfold retVal
        split
        · simp at hlen; omega
        · rfl
      rw [hr]
      exact ⟨us, rfl, hall⟩
  have hvr : ∀ i ∈ refs (packVals ws (isTup P o.type)), ∃ bx, (i, bx) ∈ bs := by
    intro i hi
    cases hT : isTup P o.type
    · rw [hT] at htup hi
      have h1 : ws.length = 1 := Nat.eq_of_beq_eq_true htup
      match ws, h1 with
      | [v], _ =>
        refine hrs v (by simp) i ?_
        have : refs v = refs1 v := by
          have hn := hnt v (by simp)
          cases v <;> first | rfl | exact absurd rfl (hn _)
        rw [← this]
        exact hi
    · rw [hT] at hi
      obtain ⟨v, hv, hi⟩ := List.mem_flatMap.1 (show i ∈ ws.flatMap refs1 from hi)
      exact hrs v hv i hi
  refine hn _ w' β1 ?_
  refine ⟨by rw [put_defers]; exact h.dfr, by rw [put_size]; exact h.tsz, put_top hdst h.tmo, ?_, ?_, ?_, ?_, ?_, ?_, ?_, ?_, ?_, ?_, ?_, h.Ylt, ?_⟩
  · refine put_all (Q := fun _ p u => VRep w' (Aof (addBoxes hp' (bs ++ bs')) β1 Y) β1 p u) h.tsz hdst (fun i hi => ?_) (fun _ => hval)
    exact (h.tms i hi).step hst hAo fun id hid => hwf4 id (h.wfT i hi id hid)
  · intro id bx hb
    simp only at hb
    rcases hcase id with ⟨bx', hm'⟩ | e
    · rw [hg1 id bx' hm'] at hb
      cases hb
      exact (hnewB id _ hm').2.1.step' hAO
    · rw [e] at hb
      have hβ := hβold id (by rw [hb]; simp)
      by_cases hid : id ∈ lids
      · obtain ⟨y, hy, hyi⟩ := hlbox id hid
        have h1 := hpost y hy
        cases y with
        | var id' off cts wz =>
          simp only [Lnt.ids, List.mem_singleton] at hyi
          subst hyi
          obtain ⟨c1, cs, h2, h3, h4, h5, h6⟩ := h1
          rw [hgetL id hid] at h2
          rw [h3] at hb
          cases hb
          obtain ⟨b, ob, h7, h8, h9⟩ := h.box id _ h2
          obtain ⟨h10, h11⟩ := h6 b ob h7
          have hlt := h.blt id b ob (by rw [h2]; simp) h7
          have hsame : ∀ j, (j < off ∨ off + wz.length ≤ j) → w'.cell? ⟨b, ob + j, none⟩ = w.cell? ⟨b, ob + j, none⟩ ∧ w'.frozen? ⟨b, ob + j, none⟩ = w.frozen? ⟨b, ob + j, none⟩ :=
            fun j hj => out.rng b (ob + j) hlt (hnL id off cts wz hy hid b ob h7 j hj ⟨c1, h2⟩)
          refine ⟨b, ob, hβ.trans h7, fun j p hj => ?_, fun j hj => ?_⟩
          · rcases splice_get (by omega) hj with ⟨h12, h13, h14⟩ | ⟨h12, h14⟩
            · obtain ⟨v, hv, hcr⟩ := h10 _ _ h14
              refine ⟨v, ?_, hcr.step (WStep.refl _ _) (fun b _ => hAO b) (fun _ _ => rfl)⟩
              rw [show ob + j = ob + off + (j - off) by omega]
              exact hv
            · obtain ⟨v, hv, hcr⟩ := h8 _ _ h14
              refine ⟨v, by rw [(hsame j (by omega)).1]; exact hv, hcr.step hst hAo fun i hi => hwf4 i (h.wfB id c1 h2 p (List.mem_of_getElem? h14) i hi)⟩
          · rw [splice_len (by omega)] at hj
            by_cases hin : off ≤ j ∧ j < off + cs.length
            · have := h11 (j - off) (by omega)
              rw [show ob + off + (j - off) = ob + j by omega] at this
              exact this
            · rw [(hsame j (by omega)).2]
              exact h9 j hj
        | row id' =>
          simp only [Lnt.ids, List.mem_singleton] at hyi
          subst hyi
          obtain ⟨cs, h3, h4⟩ := h1
          rw [h3] at hb
          cases hb
          rcases h4 with ⟨h5, h6⟩ | ⟨b, ob, h5, h6, h7⟩
          · exact .inl ⟨hβ.trans h5, h6⟩
          · exact .inr ⟨b, ob, hβ.trans h5, h6.weak (fun b _ => hAO b), fun _ => h7, (fun q => by cases q)⟩
        | none => simp [Lnt.ids] at hyi
      · rw [hpK id hid, mvIds_get] at hb
        split at hb
        · cases hq : freezeIds s.hp m id with
          | none => rw [hq] at hb; cases hb
          | some b0 => rw [hq] at hb; simp at hb; subst hb; trivial
        · rename_i hxn
          have hbx := hf.box id bx hb
          have hblk : ∀ b ob, β id = some (b, ob) → bx ≠ .mv → b < w.heap.size ∧ w'.heap[b]? = w.heap[b]? := by
            intro b ob hb0 hmv
            have hlt := hf.blt id b ob (by show freezeIds s.hp m id ≠ none; rw [hb]; simp) hb0
            refine ⟨hlt, out.ext.keep b hlt fun hB => ?_⟩
            obtain ⟨id', o', h1, h2⟩ := btX hB
            have hl' : liveB (freezeIds s.hp m id') := by rw [hgetF id' h2]; exact hlv id' h2
            have hno : id ≠ id' := by
              rintro rfl
              rcases h2 with h2 | h2
              · exact hid h2
              · exact hxn h2
            cases bx with
            | st cc => exact hno (hf.inj id id' b ob o' (by show liveB (freezeIds s.hp m id); rw [hb]; trivial) hl' hb0 h1)
            | ar fz cc =>
              cases fz with
              | false => exact hno (hf.inj id id' b ob o' (by show liveB (freezeIds s.hp m id); rw [hb]; trivial) hl' hb0 h1)
              | true =>
                rcases hbx with ⟨h3, _⟩ | ⟨b2, o2, h3, _, _, h4⟩
                · rw [hb0] at h3; cases h3
                · rw [hb0] at h3
                  cases h3
                  exact h4 rfl (.inl ⟨id', o', hl', h1⟩)
            | mv => exact hmv rfl
          have hAoF : ∀ b, b < w.heap.size → Aof (addBoxes hp' (bs ++ bs')) β1 Y b → Aof (freezeIds s.hp m) β Y b := by
            intro b hb1 hA
            rcases hA with ⟨i, ob, hl, hβi⟩ | hY
            · rcases hcase i with ⟨bx1, hm1⟩ | e1
              · obtain ⟨j, hj, _⟩ := hnew i bx1 hm1
                rw [hj] at hβi
                obtain ⟨id', o', h1, h2⟩ := hmvd b ((out.fresh j b ob hβi).2 hb1).1
                exact .inl ⟨id', o', by rw [hgetF id' (.inr h1)]; exact hlv id' (.inr h1), h2⟩
              · rw [e1] at hl
                cases hq : hp' i with
                | none => rw [hq] at hl; exact hl.elim
                | some bx1 =>
                  rw [hq] at hl
                  rw [hβold i (by rw [hq]; simp)] at hβi
                  obtain ⟨h1, h2, h3⟩ := hold i bx1 hq hl
                  rcases h3 with h3 | ⟨h3, h4⟩
                  · exact .inl ⟨i, ob, by rw [hgetF i (.inl h3)]; exact h1, hβi⟩
                  · exact .inl ⟨i, ob, by rw [h4]; exact hl, hβi⟩
            · exact .inr hY
          have hstF : WStep (Aof (freezeIds s.hp m) β Y) w w' := out.ext.weaken (fun b _ hB => by
            obtain ⟨id', o', h1, h2⟩ := btX hB
            exact .inl ⟨id', o', by rw [hgetF id' h2]; exact hlv id' h2, h1⟩)
          cases bx with
          | st cc =>
            obtain ⟨b, ob, h1, h2, h3⟩ := hbx
            obtain ⟨hlt, hbl⟩ := hblk b ob h1 (by simp)
            refine ⟨b, ob, hβ.trans h1, fun j p hj => ?_, fun j hj => ?_⟩
            · obtain ⟨v, hv, hcr⟩ := h2 j p hj
              refine ⟨v, by rw [World.cell?_of_block (w := w) hbl]; exact hv, hcr.step hstF hAoF fun i hi => ?_⟩
              refine hwf4 i (fun e1 => ?_)
              exact hf.wfB id cc hb p (List.mem_of_getElem? hj) i hi (freeze_none.2 e1)
            · rw [World.frozen?_of_block (w := w) hbl]; exact h3 j hj
          | ar fz cc =>
            rcases hbx with ⟨h1, h2⟩ | ⟨b, ob, h1, h2, h3, h4⟩
            · exact .inl ⟨hβ.trans h1, h2⟩
            · obtain ⟨hlt, hbl⟩ := hblk b ob h1 (by simp)
              have hbs : bsz w' b = bsz w b := by unfold bsz; rw [hbl]
              refine .inr ⟨b, ob, hβ.trans h1, fun j p hj => ?_, fun e1 j hj hj' => ?_, fun e1 q => h4 e1 (hAoF b hlt q)⟩
              · obtain ⟨v, hv, h5, hc1⟩ := h2 j p hj
                exact ⟨v, by rw [World.cell?_of_block (w := w) (by rw [add_block]; exact hbl)]; exact hv, h5, hc1.step hstF hAoF⟩
              · rw [World.frozen?_of_block (w := w) hbl]; exact h3 e1 j hj (by rw [← hbs]; exact hj')
          | mv => trivial
  · intro id id' b ob ob' hl hl' hb hb'
    simp only at hl hl'
    have mixed : ∀ i bx i' k z, (i, bx) ∈ bs ++ bs' → β1 i = some (k, z) → hp' i' ≠ none → liveB (hp' i') → ∀ z', β1 i' = some (k, z') → False := by
      intro i bx i' k z hm1 hz hn1 hl1 z' hz'
      obtain ⟨j, hj, _⟩ := hnew i bx hm1
      rw [hj] at hz
      rw [hβold i' hn1] at hz'
      cases hq : hp' i' with
      | none => exact hn1 hq
      | some bx1 =>
        rw [hq] at hl1
        obtain ⟨h1, h2, h3⟩ := hold i' bx1 hq hl1
        have hlt := h.blt i' k z' (liveB_some h1) hz'
        obtain ⟨id2, o2, h4, h5⟩ := hmvd k ((out.fresh j k z hz).2 hlt).1
        have := h.inj i' id2 k z' o2 h1 (hlv id2 (.inr h4)) hz' h5
        subst this
        exact h2 h4
    rcases hcase id with ⟨bx, hm1⟩ | e1
    · rcases hcase id' with ⟨bx', hm2⟩ | e2
      · obtain ⟨j, hj, hpl⟩ := hnew id bx hm1
        obtain ⟨j', hj', hpl'⟩ := hnew id' bx' hm2
        rw [hj] at hb
        rw [hj'] at hb'
        have := out.inj j j' b ob ob' hb hb'
        subst this
        rcases hpl with ⟨h1, h2⟩ | ⟨h1, h2⟩
        · rcases hpl' with ⟨h3, _⟩ | ⟨_, h4⟩
          · rw [h1, h3]
          · omega
        · rcases hpl' with ⟨_, h4⟩ | ⟨h3, _⟩
          · omega
          · exact hq2 _ h1 _ h3 rfl
      · rw [e2] at hl'
        exact (mixed id bx id' b ob hm1 hb (liveB_some hl') hl' ob' hb').elim
    · rw [e1] at hl
      rcases hcase id' with ⟨bx', hm2⟩ | e2
      · exact (mixed id' bx' id b ob' hm2 hb' (liveB_some hl) hl ob hb).elim
      · rw [e2] at hl'
        have g : ∀ i, liveB (hp' i) → liveB (s.hp i) ∧ β1 i = β i := by
          intro i hli
          cases hq : hp' i with
          | none => rw [hq] at hli; exact hli.elim
          | some bx1 => exact ⟨(hold i bx1 hq (by rw [← hq]; exact hli)).1, hβold i (by rw [hq]; simp)⟩
        rw [(g id hl).2] at hb
        rw [(g id' hl').2] at hb'
        exact h.inj id id' b ob ob' (g id hl).1 (g id' hl').1 hb hb'
  · intro id b ob hn1 hb
    simp only at hn1
    rcases hcase id with ⟨bx, hm1⟩ | e1
    · obtain ⟨j, hj, _⟩ := hnew id bx hm1
      rw [hj] at hb
      exact (out.fresh j b ob hb).1
    · rw [e1] at hn1
      rw [hβold id hn1] at hb
      have hn2 : s.hp id ≠ none := by
        by_cases hid : id ∈ lids
        · exact liveB_some (hlv id (.inl hid))
        · rw [hpK id hid, mvIds_get] at hn1
          intro e2
          have h1 : freezeIds s.hp m id = none := freeze_none.2 e2
          rw [h1] at hn1
          split at hn1 <;> exact hn1 rfl
      exact Nat.lt_of_lt_of_le (h.blt id b ob hn2 hb) out.ext.size
  · have := put_all (Q := fun _ p _ => ∀ id ∈ refs p, addBoxes hp' (bs ++ bs') id ≠ none) (val := retVal us) (d := o.dst) (v := packVals ws (isTup P o.type)) h.tsz hdst (fun i hi id hid => hnn4 id (.inl (h.wfT i hi id hid))) (fun _ id hid => hnn4 id (.inr (by
      obtain ⟨bx, hb⟩ := hvr id hid
      exact ⟨bx, List.mem_append.2 (.inl hb)⟩)))
    exact this
  · intro id cells hcl1 p hp i hi
    simp only at hcl1
    refine hnn4 i ?_
    rcases hcase id with ⟨bx, hm1⟩ | e1
    · rw [hg1 id bx hm1] at hcl1
      cases hcl1
      rcases List.mem_append.1 hm1 with hm1 | hm1
      · obtain ⟨bx1, hb⟩ := hri id cells hm1 p hp i hi
        exact .inr ⟨bx1, List.mem_append.2 (.inl hb)⟩
      · obtain ⟨cc, e2⟩ := hb1 id _ hm1
        cases e2
    · rw [e1] at hcl1
      by_cases hid : id ∈ lids
      · rcases hlsh id hid with ⟨off, c1, cs, h1, h2, h3, h4⟩ | ⟨c1, cs, h1, h2⟩
        · rw [h2] at hcl1
          cases hcl1
          unfold splice at hp
          rcases List.mem_append.1 hp with hp | hp
          · rcases List.mem_append.1 hp with hp | hp
            · exact .inl (h.wfB id c1 h1 p (List.mem_of_mem_take hp) i hi)
            · obtain ⟨bx1, hb⟩ := h4 p hp i hi
              exact .inr ⟨bx1, List.mem_append.2 (.inr hb)⟩
          · exact .inl (h.wfB id c1 h1 p (List.mem_of_mem_drop hp) i hi)
        · rw [h2] at hcl1; cases hcl1
      · obtain ⟨_, _, h3⟩ := hold id _ hcl1 trivial
        rcases h3 with h3 | ⟨_, h3⟩
        · exact absurd h3 hid
        · exact .inl (h.wfB id cells (freeze_same h3 trivial) p hp i hi)
  · rintro b ⟨id, ob, hl, hβ⟩
    rcases Nat.lt_or_ge b w.heap.size with hlt | hge
    · exact h.ownd b (hX b hlt ⟨id, ob, hl, hβ⟩)
    · exact .inr (Nat.le_trans h.fr.step.size hge)
  · intro id bx b ob hb hl hβ hlt j hj
    simp only at hb
    have hlw := Nat.lt_of_lt_of_le hlt h.fr.step.size
    rcases hcase id with ⟨bx', hm1⟩ | e1
    · rw [hg1 id bx' hm1] at hb
      cases hb
      obtain ⟨k, hk, _⟩ := hnew id bx hm1
      rw [hk] at hβ
      have hle : ob ≤ j := by
        cases bx with
        | st cc => exact hj.1
        | ar fz cc => exact hj
        | mv => exact hl.elim
      obtain ⟨id2, o2, bx2, h1, h2, h3, h4⟩ := hCL b j (((out.fresh k b ob hβ).2 hlw).2 j hle)
      exact h.rngB id2 bx2 b o2 h1 h2 h3 hlt j h4
    · rw [e1] at hb
      rw [hβold id (by rw [hb]; simp)] at hβ
      obtain ⟨h1, h2, h3⟩ := hold id bx hb hl
      rcases h3 with h3 | ⟨h3, h4⟩
      · rcases hlsh id h3 with ⟨off, c1, cs, h5, h6, h7, _⟩ | ⟨c1, cs, h5, h6⟩
        · rw [h6] at hb
          cases hb
          have hj : ob ≤ j ∧ j < ob + (splice c1 cs off).length := hj
          rw [splice_len (by omega)] at hj
          exact h.rngB id _ b ob h5 trivial hβ hlt j hj
        · rw [h6] at hb
          cases hb
          exact h.rngB id _ b ob h5 trivial hβ hlt j hj
      · exact h.rngB id bx b ob (freeze_same h4 hl) hl hβ hlt j hj
  · intro i hi
    obtain ⟨h1, h2⟩ := h.pin i hi
    exact ⟨hnn4 _ (.inl h1), by rw [hwf4 _ h1]; exact h2⟩
  · intro id cc b ob hb hβ hlt
    simp only at hb
    have hlw := Nat.lt_of_lt_of_le hlt h.fr.step.size
    rcases hcase id with ⟨bx', hm1⟩ | e1
    · rw [hg1 id bx' hm1] at hb
      cases hb
      have := (hnewB id _ hm1).2.2 cc rfl b ob hβ
      omega
    · rw [e1] at hb
      rw [hβold id (by rw [hb]; simp)] at hβ
      obtain ⟨h1, h2, h3⟩ := hold id _ hb trivial
      rcases h3 with h3 | ⟨h3, h4⟩
      · rcases hlsh id h3 with ⟨off, c1, cs, h5, h6, h7, _⟩ | ⟨c1, cs, h5, h6⟩
        · exact h.stp id c1 b ob h5 hβ hlt
        · rw [h6] at hb; cases hb
      · exact h.stp id cc b ob (freeze_same h4 trivial) hβ hlt
  · intro b hY hXb
    exact h.Yx b hY (hX b (Nat.lt_of_lt_of_le (h.Ylt b hY) h.fr.step.size) hXb)
  · refine ⟨out.os.trans h.fr.os, out.tape.trans h.fr.tape, out.output.trans h.fr.output, ⟨Nat.le_trans h.fr.step.size out.ext.size, fun b hb hnX => ?_, fun b hb => Nat.le_trans (h.fr.step.bs b hb) (out.ext.bs b (Nat.lt_of_lt_of_le hb h.fr.step.size))⟩, fun b j hb hnL => ?_⟩
    · rw [out.ext.keep b (Nat.lt_of_lt_of_le hb h.fr.step.size) ?_]
      · exact h.fr.step.keep b hb hnX
      · intro hB
        rcases h.ownd b (hBA b hB) with hq | hq
        · exact hnX hq
        · omega
    · have hno : ¬ CallL bt vs b j := by
        intro hq
        obtain ⟨id2, o2, bx2, h1, h2, h3, h4⟩ := hCL b j hq
        exact hnL (h.rngB id2 bx2 b o2 h1 h2 h3 hb j h4)
      obtain ⟨h1, h2⟩ := out.rng b j (Nat.lt_of_lt_of_le hb h.fr.step.size) hno
      rw [h1, h2]
      exact h.fr.rng b j hb hnL
end

end Go.Proofs.Ytoihfmiifeegpaa.Pv
