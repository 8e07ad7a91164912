/-
  What comes back from a call, laid into the boxes.
-/
import Derived.Test.YtoihfmiifeegpaaPvS33
namespace Go.Proofs.Ytoihfmiifeegpaa.Pv
open Go.RowKit

section
variable {R : Type} {r : R} {P : Program} {N : Nat} {w0 : World} {X0 : Lend} {Y : Nat → Prop} {β β' : Bt} {s : St} {a : Act} {w w' : World} {o : Oper} {A : Nat → Prop}

theorem TRep_C {p : PV} {u : Value} (h : TRep w A p u) : CRep w A β p u := by
  have h0 := h
  cases h <;> exact h0

theorem bkcK_inv {t : Nat} {ct : CT} {was p : PV} {K : Nat → PV → List (Nat × Box) → Option R} (hk : bkcK N t ct was p K = some r) :
    (∃ c, K t c [] = some r ∧ isT c ∧ ∀ w A q u, OCell w A q p u → TRep w A c u) ∨ ∃ es n cc, p = .own es n cc ∧ K (t + 1) (.view (nid N t) es 0 n) [(nid N t, .ar false cc)] = some r := by
  have tree : ∀ t', (tcK t' p fun c => K t c []) = some r → ∃ c, K t c [] = some r ∧ isT c ∧ ∀ w A q u, OCell w A q p u → TRep w A c u := by
    intro t' hk
    obtain ⟨c, hk, hT, hpT, hv⟩ := tcK_inv hk
    refine ⟨c, hk, hT, fun w A q u h => (hv w A (fun _ => none) u ?_).1⟩
    cases p <;> first | exact h | exact hpT.elim
  unfold bkcK at hk
  cases ct with
  | sl es =>
    dsimp only at hk
    split at hk
    · unfold owK at hk
      split at hk
      · rename_i es' n c
        cases hb : Nat.beq es' es <;> rw [hb] at hk
        · cases hk
        · have := Nat.eq_of_beq_eq_true hb
          subst this
          exact .inr ⟨_, _, _, rfl, hk⟩
      · cases hk
    · exact .inl (tree (.sl es) hk)
  | int k => exact .inl (tree _ hk)
  | bool => exact .inl (tree _ hk)
  | str => exact .inl (tree _ hk)
  | any => exact .inl (tree _ hk)

theorem bkcsK_inv : ∀ {cts : List CT} {ws ps : List PV} {t : Nat} {K : Nat → List PV → List (Nat × Box) → Option R}, bkcsK N t cts ws ps K = some r →
    ∃ t' cs bs, ∃ qs : List (Nat × Nat), K t' cs bs = some r ∧ cs.length = ps.length ∧ ps.length = ws.length ∧ bs.map (·.1) = qs.map (·.1) ∧ (∀ q ∈ qs, (∃ k, q.1 = nid N k) ∧ q.2 < ps.length) ∧ (∀ q ∈ qs, ∀ q' ∈ qs, q.2 = q'.2 → q.1 = q'.1) ∧
      (∀ i bx, (i, bx) ∈ bs → ∃ c, bx = .ar false c) ∧ (∀ c ∈ cs, ∀ i ∈ refsC c, ∃ bx, (i, bx) ∈ bs) ∧
      ∀ (w : World) (A : Nat → Prop) (own β' : Bt) (j0 : Nat) (us : List Value), (∀ q ∈ qs, β' q.1 = own (j0 + q.2)) → OCells w A own j0 ps us → All2 (CRep w A β') cs us ∧ ∀ i bx, (i, bx) ∈ bs → BRep w A β' i bx
  | [], [], ps, t, K, hk => by
    obtain ⟨rfl, hk⟩ := nilK_inv hk
    refine ⟨t, [], [], [], hk, rfl, rfl, rfl, by simp, by simp, by simp, by simp, fun w A own β' j0 us _ h => ⟨?_, by simp⟩⟩
    cases us with
    | nil => trivial
    | cons u us => exact h.elim
  | [], _ :: _, _, _, _, hk => by cases hk
  | _ :: _, [], _, _, _, hk => by cases hk
  | ct :: cts, x :: ws, ps, t, K, hk => by
    unfold bkcsK at hk
    obtain ⟨p, ps', hps, hk1⟩ := consK_inv hk
    subst hps
    rcases bkcK_inv hk1 with ⟨c, hk2, hT, hv⟩ | ⟨es, n, cc, rfl, hk2⟩
    · obtain ⟨t', cs, bs, qs, hk3, hl, hl', hb, hq1, hq2, hb1, hb2, hvs⟩ := bkcsK_inv hk2
      refine ⟨t', c :: cs, bs, qs.map (fun q => (q.1, q.2 + 1)), hk3, by simp [hl], by simp [hl'], by rw [hb]; simp, ?_, ?_, hb1, ?_, fun w A own β' j0 us hβ ho => ?_⟩
      · intro q hq
        obtain ⟨q0, hq0, rfl⟩ := List.mem_map.1 hq
        exact ⟨(hq1 q0 hq0).1, by have := (hq1 q0 hq0).2; simp only [List.length_cons]; omega⟩
      · intro q hq q' hq' e
        obtain ⟨q0, hq0, rfl⟩ := List.mem_map.1 hq
        obtain ⟨q1, hq1', rfl⟩ := List.mem_map.1 hq'
        exact hq2 q0 hq0 q1 hq1' (by simp only at e; omega)
      · intro y hy i hi
        rcases List.mem_cons.1 hy with rfl | hy
        · rw [refsC_isT hT] at hi; cases hi
        · exact hb2 y hy i hi
      · cases us with
        | nil => exact ho.elim
        | cons u us =>
          obtain ⟨h1, h2⟩ := hvs w A own β' (j0 + 1) us (fun q hq => by rw [hβ _ (List.mem_map_of_mem hq)]; congr 1; simp only; omega) ho.2
          exact ⟨⟨TRep_C (hv w A _ u ho.1), h1⟩, h2⟩
    · obtain ⟨t', cs, bs, qs, hk3, hl, hl', hb, hq1, hq2, hb1, hb2, hvs⟩ := bkcsK_inv hk2
      refine ⟨t', _ :: cs, (nid N t, .ar false cc) :: bs, (nid N t, 0) :: qs.map (fun q => (q.1, q.2 + 1)), hk3, by simp [hl], by simp [hl'], by simp only [List.map_cons, hb]; simp, ?_, ?_, ?_, ?_, fun w A own β' j0 us hβ ho => ?_⟩
      · intro q hq
        rcases List.mem_cons.1 hq with rfl | hq
        · exact ⟨⟨t, rfl⟩, by simp⟩
        · obtain ⟨q0, hq0, rfl⟩ := List.mem_map.1 hq
          exact ⟨(hq1 q0 hq0).1, by have := (hq1 q0 hq0).2; simp only [List.length_cons]; omega⟩
      · intro q hq q' hq' e
        rcases List.mem_cons.1 hq with rfl | hq
        · rcases List.mem_cons.1 hq' with rfl | hq'
          · rfl
          · obtain ⟨q0, hq0, rfl⟩ := List.mem_map.1 hq'
            simp only at e; omega
        · obtain ⟨q0, hq0, rfl⟩ := List.mem_map.1 hq
          rcases List.mem_cons.1 hq' with rfl | hq'
          · simp only at e; omega
          · obtain ⟨q1, hq1', rfl⟩ := List.mem_map.1 hq'
            exact hq2 q0 hq0 q1 hq1' (by simp only at e; omega)
      · intro i bx hm
        rcases List.mem_cons.1 hm with e | hm
        · cases e; exact ⟨cc, rfl⟩
        · exact hb1 i bx hm
      · intro y hy i hi
        rcases List.mem_cons.1 hy with rfl | hy
        · simp only [refsC, List.mem_singleton] at hi
          subst hi
          exact ⟨_, List.mem_cons_self⟩
        · obtain ⟨bx, hbx⟩ := hb2 y hy i hi
          exact ⟨bx, List.mem_cons_of_mem _ hbx⟩
      · cases us with
        | nil => exact ho.elim
        | cons u us =>
          obtain ⟨h1, h2⟩ := hvs w A own β' (j0 + 1) us (fun q hq => by rw [hβ _ (List.mem_cons_of_mem _ (List.mem_map_of_mem hq))]; congr 1; simp only; omega) ho.2
          have h0 := hβ (nid N t, 0) List.mem_cons_self
          simp only [Nat.add_zero] at h0
          refine ⟨⟨?_, h1⟩, fun i bx hm => ?_⟩
          · rcases ho.1 with ⟨h3, rfl, _, h5⟩ | ⟨b, ob, cap, h3, h4, h5, h6, h7, _⟩
            · exact .inl ⟨h0.trans h3, rfl, rfl, h5⟩
            · exact .inr ⟨b, ob, ob, cap, h0.trans h3, h4, .inl rfl, h5, h6, h7⟩
          · rcases List.mem_cons.1 hm with e | hm
            · cases e; exact own_brep ho.1 h0
            · exact h2 i bx hm

/-- What the boxes of what was lent are, after the call. -/
def LShape (hp hp' : Nat → Option Box) (bs : List (Nat × Box)) (x : Lnt) : Prop :=
  match x with
  | .var id off _ ws => ∃ c cs, hp id = some (.st c) ∧ hp' id = some (.st (splice c cs off)) ∧ cs.length = ws.length ∧ off + cs.length ≤ c.length ∧ ∀ p ∈ cs, ∀ i ∈ refsC p, ∃ bx, (i, bx) ∈ bs
  | .row id => ∃ c cs, hp id = some (.ar false c) ∧ hp' id = some (.ar false cs)
  | .none => True

def LPost (β β' : Bt) (w' : World) (A : Nat → Prop) (hp hp' : Nat → Option Box) (x : Lnt) : Prop :=
  match x with
  | .var id off _ ws => ∃ c cs, hp id = some (.st c) ∧ hp' id = some (.st (splice c cs off)) ∧ cs.length = ws.length ∧ off + cs.length ≤ c.length ∧
      ∀ b o, β id = some (b, o) → (∀ (j : Nat) p, cs[j]? = some p → ∃ v, w'.cell? ⟨b, o + off + j, none⟩ = some v ∧ CRep w' A β' p v) ∧ ∀ j, j < cs.length → w'.frozen? ⟨b, o + off + j, none⟩ = false
  | .row id => ∃ cs, hp' id = some (.ar false cs) ∧ ((β id = none ∧ cs = []) ∨ ∃ b o, β id = some (b, o) ∧ RdT w' A ⟨b, o, none⟩ cs ∧ ∀ j, o ≤ j → j < bsz w' b → w'.frozen? ⟨b, j, none⟩ = false)
  | .none => True

theorem LShape_congr {hp hp1 hp' : Nat → Option Box} {bs bs1 : List (Nat × Box)} {x : Lnt} (h1 : ∀ i ∈ x.ids, hp1 i = hp i) (hb : ∀ q ∈ bs, q ∈ bs1) (h : LShape hp1 hp' bs x) : LShape hp hp' bs1 x := by
  cases x with
  | var id off cts ws =>
    obtain ⟨c, cs, h2, h3, h4, h5, h6⟩ := h
    refine ⟨c, cs, by rw [← h1 id (by simp [Lnt.ids])]; exact h2, h3, h4, h5, fun p hp i hi => ?_⟩
    obtain ⟨bx, hbx⟩ := h6 p hp i hi
    exact ⟨bx, hb _ hbx⟩
  | row id =>
    obtain ⟨c, cs, h2, h3⟩ := h
    exact ⟨c, cs, by rw [← h1 id (by simp [Lnt.ids])]; exact h2, h3⟩
  | none => trivial

theorem LPost_congr {hp hp1 hp' : Nat → Option Box} {x : Lnt} (h1 : ∀ i ∈ x.ids, hp1 i = hp i) (h : LPost β β' w' A hp1 hp' x) : LPost β β' w' A hp hp' x := by
  cases x with
  | var id off cts ws =>
    obtain ⟨c, cs, h2, h3⟩ := h
    exact ⟨c, cs, by rw [← h1 id (by simp [Lnt.ids])]; exact h2, h3⟩
  | row id => exact h
  | none => trivial

theorem LOk_congr {hp hp1 : Nat → Option Box} {q : Option (Nat × Nat)} {p : PV} {x : Lnt} (h1 : ∀ i ∈ x.ids, hp1 i = hp i) (h : LOk hp q p x) : LOk hp1 q p x := by
  cases x with
  | var id off cts ws' =>
    obtain ⟨h2, h3, h5, c, h6, h7⟩ := h
    exact ⟨h2, h3, h5, c, by rw [h1 id (by simp [Lnt.ids])]; exact h6, h7⟩
  | row id =>
    obtain ⟨h2, h3, c, h4⟩ := h
    exact ⟨h2, h3, c, by rw [h1 id (by simp [Lnt.ids])]; exact h4⟩
  | none => exact h

theorem LRel_hp {hp hp1 : Nat → Option Box} {src : Nat → Nat → Option (Nat × Nat)} : ∀ {ps : List PV} {i : Nat} {l : List Lnt}, (∀ i ∈ l.flatMap Lnt.ids, hp1 i = hp i) → LRel hp src i ps l → LRel hp1 src i ps l
  | [], _, _, _, h => h
  | p :: ps, i, l, hs, h => by
    rcases h with ⟨h1, h2, h3⟩ | ⟨x, l', rfl, h2, h3⟩
    · exact .inl ⟨h1, h2, LRel_hp hs h3⟩
    · exact .inr ⟨x, l', rfl, LOk_congr (fun k hk => hs k (by simp only [List.flatMap_cons, List.mem_append]; exact .inl hk)) h2, LRel_hp (fun k hk => hs k (by simp only [List.flatMap_cons, List.mem_append]; exact .inr hk)) h3⟩

theorem OOuts_skip {own : Bt} {bt : Bt2} {j i : Nat} {p : PV} {as : List PV} {r : List (List PV)} (hp : isL p = false) (h : OOuts w A own bt j i (p :: as) r) : OOuts w A own bt j (i + 1) as r := by
  cases p <;> first | exact h | cases hp

/-- What comes back, all of it. -/
theorem bksK_inv {src : Nat → Nat → Option (Nat × Nat)} {β : Bt} : ∀ {as : List PV} {l : List Lnt} {ro : List (List PV)} {i j t : Nat} {hp : Nat → Option Box} {K : (Nat → Option Box) → List (Nat × Box) → Option R},
    bksK N t l ro hp K = some r → LRel hp src i as l → nodupB (l.flatMap Lnt.ids) = true →
    ∃ hp' bs, ∃ qs : List (Nat × Nat), K hp' bs = some r ∧ bs.map (·.1) = qs.map (·.1) ∧ (∀ q ∈ qs, (∃ k, q.1 = nid N k) ∧ j ≤ q.2) ∧ (∀ q ∈ qs, ∀ q' ∈ qs, q.2 = q'.2 → q.1 = q'.1) ∧ (∀ i bx, (i, bx) ∈ bs → ∃ c, bx = .ar false c) ∧
      (∀ i, i ∉ l.flatMap Lnt.ids → hp' i = hp i) ∧ (∀ x ∈ l, LShape hp hp' bs x) ∧
      ∀ (w' : World) (A : Nat → Prop) (own β' : Bt) (bt : Bt2), (∀ q ∈ qs, β' q.1 = own q.2) → (∀ i, bt i 0 = (src i 0).bind (place β)) → OOuts w' A own bt j i as ro →
        (∀ i bx, (i, bx) ∈ bs → BRep w' A β' i bx) ∧ ∀ x ∈ l, LPost β β' w' A hp hp' x
  | [], l, ro, i, j, t, hp, K, hk, hL, hn => by
    have hL : l = [] := hL
    subst hL
    unfold bksK at hk
    obtain ⟨rfl, hk⟩ := nilK_inv hk
    exact ⟨hp, [], [], hk, rfl, by simp, by simp, by simp, fun _ _ => rfl, by simp, fun w' A own β' bt _ _ _ => ⟨by simp, by simp⟩⟩
  | p :: as, l0, ro, i, j, t, hp, K, hk, hL0, hn => by
    rcases hL0 with ⟨hpl, _, hL⟩ | ⟨x, l, rfl, hok, hL⟩
    rotate_left
    · · simp only [List.flatMap_cons] at hn
        obtain ⟨hn1, hn2, hn3⟩ := nodupB_app hn
        cases x with
        | var id off cts ws' =>
          obtain ⟨rfl, hsrc, hcl, c, hc, hle⟩ := hok
          unfold bksK at hk
          obtain ⟨cs, ro', hro, hk1⟩ := consK_inv hk
          subst hro
          obtain ⟨t', cs', bs, qs, hk2, hl1, hl2, hb, hq1, hq2, hb1, hb2, hv⟩ := bkcsK_inv hk1
          rw [hc] at hk2
          simp only at hk2
          change bksK N t' l ro' (upd hp id (some (.st (splice c cs' off)))) (fun hp' bs' => K hp' (bs ++ bs')) = some r at hk2
          have hidn : id ∉ l.flatMap Lnt.ids := hn3 id (by simp [Lnt.ids])
          have hL' : LRel (upd hp id (some (.st (splice c cs' off)))) src (i + 1) as l := LRel_hp (fun k hkm => upd_other _ _ (fun e => hidn (e ▸ hkm))) hL
          obtain ⟨hp', bs', qs', hk3, hb', hq1', hq2', hb1', hkeep, hsh, hsem⟩ := bksK_inv (β := β) (j := j + cs.length) hk2 hL' hn2
          have hid' : hp' id = some (.st (splice c cs' off)) := by rw [hkeep id hidn, upd_same]
          have hother : ∀ x ∈ l, ∀ k ∈ x.ids, upd hp id (some (.st (splice c cs' off))) k = hp k := fun x hx k hkm => upd_other _ _ (fun e => hidn (e ▸ List.mem_flatMap.2 ⟨x, hx, hkm⟩))
          refine ⟨hp', bs ++ bs', qs.map (fun q => (q.1, j + q.2)) ++ qs', hk3, by simp only [List.map_append, hb, hb']; simp, ?_, ?_, ?_, ?_, ?_, fun w' A own β' bt hβ hbt ho => ?_⟩
          · intro q hq
            rcases List.mem_append.1 hq with hq | hq
            · obtain ⟨q0, hq0, rfl⟩ := List.mem_map.1 hq
              exact ⟨(hq1 q0 hq0).1, by simp only; omega⟩
            · exact ⟨(hq1' q hq).1, by have := (hq1' q hq).2; omega⟩
          · intro q hq q' hq' e
            rcases List.mem_append.1 hq with hq | hq
            · obtain ⟨q0, hq0, rfl⟩ := List.mem_map.1 hq
              have := (hq1 q0 hq0).2
              rcases List.mem_append.1 hq' with hq' | hq'
              · obtain ⟨q1, hq1', rfl⟩ := List.mem_map.1 hq'
                exact hq2 q0 hq0 q1 hq1' (by simp only at e; omega)
              · have := (hq1' q' hq').2
                simp only at e; omega
            · have h5 := (hq1' q hq).2
              rcases List.mem_append.1 hq' with hq' | hq'
              · obtain ⟨q1, hq1'', rfl⟩ := List.mem_map.1 hq'
                have := (hq1 q1 hq1'').2
                simp only at e; omega
              · exact hq2' q hq q' hq' e
          · intro k bx hm
            rcases List.mem_append.1 hm with hm | hm
            · exact hb1 k bx hm
            · exact hb1' k bx hm
          · intro k hk
            simp only [List.flatMap_cons, List.mem_append, not_or] at hk
            rw [hkeep k hk.2]
            exact upd_other _ _ (by rintro rfl; exact hk.1 (by simp [Lnt.ids]))
          · intro x hx
            rcases List.mem_cons.1 hx with rfl | hx
            · refine ⟨c, cs', hc, hid', by omega, by omega, fun p hp k hk => ?_⟩
              obtain ⟨bx, hbx⟩ := hb2 p hp k hk
              exact ⟨bx, List.mem_append.2 (.inl hbx)⟩
            · exact LShape_congr (hother x hx) (fun q hq => List.mem_append.2 (.inr hq)) (hsh x hx)
          · obtain ⟨⟨b, ob, hb0, hlen, vs, hov, hcell, hfr⟩, ho⟩ := ho
            · obtain ⟨h1, h2⟩ := hv w' A own β' j vs (fun q hq => hβ _ (List.mem_append.2 (.inl (List.mem_map_of_mem hq)))) hov
              obtain ⟨h3, h4⟩ := hsem w' A own β' bt (fun q hq => hβ q (List.mem_append.2 (.inr hq))) hbt ho
              refine ⟨fun k bx hm => ?_, fun x hx => ?_⟩
              · rcases List.mem_append.1 hm with hm | hm
                · exact h2 k bx hm
                · exact h3 k bx hm
              · rcases List.mem_cons.1 hx with rfl | hx
                · refine ⟨c, cs', hc, hid', by omega, by omega, fun b1 o1 hβ1 => ?_⟩
                  have hb2 := hbt i
                  rw [hb0, hsrc] at hb2
                  simp only [Option.bind_some, place, hβ1, Option.map_some, Option.some.injEq, Prod.mk.injEq] at hb2
                  obtain ⟨rfl, rfl⟩ := hb2
                  refine ⟨fun k p hp => ?_, fun k hk => hfr k (by omega)⟩
                  obtain ⟨v, hv, hcr⟩ := h1.get hp
                  exact ⟨v, hcell k v hv, hcr⟩
                · exact LPost_congr (hother x hx) (h4 x hx)
        | row id =>
          obtain ⟨⟨pz, rfl⟩, hsrc, c, hc⟩ := hok
          unfold bksK at hk
          obtain ⟨cs, ro', hro, hk2⟩ := consK_inv hk
          subst hro
          have hidn : id ∉ l.flatMap Lnt.ids := hn3 id (by simp [Lnt.ids])
          have hL' : LRel (upd hp id (some (.ar false cs))) src (i + 1) as l := LRel_hp (fun k hkm => upd_other _ _ (fun e => hidn (e ▸ hkm))) hL
          obtain ⟨hp', bs', qs', hk3, hb', hq1', hq2', hb1', hkeep, hsh, hsem⟩ := bksK_inv (β := β) (j := j) hk2 hL' hn2
          have hid' : hp' id = some (.ar false cs) := by rw [hkeep id hidn, upd_same]
          have hother : ∀ x ∈ l, ∀ k ∈ x.ids, upd hp id (some (.ar false cs)) k = hp k := fun x hx k hkm => upd_other _ _ (fun e => hidn (e ▸ List.mem_flatMap.2 ⟨x, hx, hkm⟩))
          refine ⟨hp', bs', qs', hk3, hb', hq1', hq2', hb1', ?_, ?_, fun w' A own β' bt hβ hbt ho => ?_⟩
          · intro k hk
            simp only [List.flatMap_cons, List.mem_append, not_or] at hk
            rw [hkeep k hk.2]
            exact upd_other _ _ (by rintro rfl; exact hk.1 (by simp [Lnt.ids]))
          · intro x hx
            rcases List.mem_cons.1 hx with rfl | hx
            · exact ⟨c, cs, hc, hid'⟩
            · exact LShape_congr (hother x hx) (fun q hq => hq) (hsh x hx)
          · obtain ⟨hrow, ho⟩ := ho
            · obtain ⟨h3, h4⟩ := hsem w' A own β' bt hβ hbt ho
              refine ⟨h3, fun x hx => ?_⟩
              rcases List.mem_cons.1 hx with rfl | hx
              · refine ⟨cs, hid', ?_⟩
                have hb2 := hbt i
                rw [hsrc] at hb2
                simp only [Option.bind_some, place0] at hb2
                rw [hb2] at hrow
                exact hrow
              · exact LPost_congr (hother x hx) (h4 x hx)
        | none =>
          obtain ⟨⟨pz, rfl⟩, hsrc⟩ := hok
          unfold bksK at hk
          obtain ⟨cs, ro', hro, hk2⟩ := consK_inv hk
          subst hro
          obtain ⟨hp', bs', qs', hk3, hb', hq1', hq2', hb1', hkeep, hsh, hsem⟩ := bksK_inv (β := β) (j := j) hk2 hL hn2
          refine ⟨hp', bs', qs', hk3, hb', hq1', hq2', hb1', ?_, ?_, fun w' A own β' bt hβ hbt ho => ?_⟩
          · intro k hk
            simp only [List.flatMap_cons, List.mem_append, not_or] at hk
            exact hkeep k hk.2
          · intro x hx
            rcases List.mem_cons.1 hx with rfl | hx
            · trivial
            · exact hsh x hx
          · obtain ⟨hrow, ho⟩ := ho
            · obtain ⟨h3, h4⟩ := hsem w' A own β' bt hβ hbt ho
              refine ⟨h3, fun x hx => ?_⟩
              rcases List.mem_cons.1 hx with rfl | hx
              · trivial
              · exact h4 x hx
    · obtain ⟨hp', bs', qs', hk3, hb', hq1', hq2', hb1', hkeep, hsh, hsem⟩ := bksK_inv (β := β) (j := j) hk hL hn
      exact ⟨hp', bs', qs', hk3, hb', hq1', hq2', hb1', hkeep, hsh, fun w' A own β' bt hβ hbt ho => hsem w' A own β' bt hβ hbt (OOuts_skip hpl ho)⟩
end

end Go.Proofs.Ytoihfmiifeegpaa.Pv
