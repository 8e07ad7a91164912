/-
  Arguments that are lent or handed over.
-/
import Derived.Test.YtoihfmiifeegpaaPvS18
namespace Go.Proofs.Ytoihfmiifeegpaa.Pv
open Go.RowKit

theorem nodupB_app : ∀ {l l' : List Nat}, nodupB (l ++ l') = true → nodupB l = true ∧ nodupB l' = true ∧ ∀ i ∈ l, i ∉ l'
  | [], l', h => ⟨rfl, h, by simp⟩
  | a :: l, l', h => by
    simp only [List.cons_append, nodupB, Bool.and_eq_true, Bool.not_eq_true'] at h
    obtain ⟨h1, h2⟩ := h
    obtain ⟨h3, h4, h5⟩ := nodupB_app h2
    have hn : ∀ i ∈ l ++ l', a ≠ i := by
      rintro i hi rfl
      have : (l ++ l').any (Nat.beq a) = true := List.any_eq_true.2 ⟨a, hi, Nat.beq_refl a⟩
      rw [this] at h1; cases h1
    refine ⟨?_, h4, fun i hi => ?_⟩
    · simp only [nodupB, Bool.and_eq_true, Bool.not_eq_true', h3, and_true]
      rw [List.any_eq_false]
      intro i hi e
      exact hn i (by simp [hi]) (Nat.eq_of_beq_eq_true e)
    · rcases List.mem_cons.1 hi with rfl | hi
      · exact fun hm => hn i (by simp [hm]) rfl
      · exact h5 i hi

/-- Where a part of a box lies. -/
def place (β : Bt) (q : Nat × Nat) : Option (Nat × Nat) := (β q.1).map fun p => (p.1, p.2 + q.2)

theorem place0 (β : Bt) (id : Nat) : place β (id, 0) = β id := by
  unfold place
  cases β id <;> rfl

section
variable {R : Type} {r : R} {P : Program} {N : Nat} {w0 : World} {X0 : Lend} {Y : Nat → Prop} {β β' : Bt} {s : St} {a : Act} {w w' : World} {o : Oper} {A : Nat → Prop}

theorem freeze_A {fz : List Nat} {b : Nat} (h : Aof (freezeIds s.hp fz) β Y b) : Aof s.hp β Y b := h.imp freeze_X id

/-- One cell that is handed over. -/
theorem mvcK_inv (h : Sim N w0 X0 Y β s a w) {mv : Bool} {t : CT} {p : PV} {K : PV → List Nat → List Nat → Option R} (hk : mvcK mv s.hp t p K = some r) :
    ∃ c m q, K c m (Option.toList q) = some r ∧ isA c ∧ isF p ∧ (∀ id ∈ m, ∃ f cc, s.hp id = some (.ar f cc)) ∧ (∀ id, q = some id → ∃ cc, s.hp id = some (.ar false cc)) ∧
      ∀ fz : List Nat, (∀ id ∈ m, id ∈ fz) → (∀ id ∈ fz, ∃ f cc, s.hp id = some (.ar f cc)) → ∀ v, CRep w (Aof s.hp β Y) β p v → OCell w (Aof (freezeIds s.hp fz) β Y) (q.bind β) c v := by
  have frz : ∀ {t : CT} {p : PV} {K : PV → List Nat → List Nat → Option R}, (frcK (rda s.hp) t p fun c m => K c m []) = some r → ∃ c m q, K c m (Option.toList q) = some r ∧ isA c ∧ isF p ∧ (∀ id ∈ m, ∃ f cc, s.hp id = some (.ar f cc)) ∧ (∀ id, q = some id → ∃ cc, s.hp id = some (.ar false cc)) ∧
      ∀ fz : List Nat, (∀ id ∈ m, id ∈ fz) → (∀ id ∈ fz, ∃ f cc, s.hp id = some (.ar f cc)) → ∀ v, CRep w (Aof s.hp β Y) β p v → OCell w (Aof (freezeIds s.hp fz) β Y) (q.bind β) c v := by
    intro t p K hk
    obtain ⟨c, m, hk, hT, hF, hm, hv⟩ := frcK_inv h hk
    exact ⟨c, m, none, hk, .inl hT, hF, hm, by simp, fun fz h1 h2 v hc => OCell_tree hT (hv fz h1 h2 v hc).1⟩
  have tree : ∀ {t : CT} {p : PV} {K : PV → List Nat → List Nat → Option R}, (∀ es, t ≠ .sl es) → (tcK t p fun c => K c [] []) = some r → ∃ c m q, K c m (Option.toList q) = some r ∧ isA c ∧ isF p ∧ (∀ id ∈ m, ∃ f cc, s.hp id = some (.ar f cc)) ∧ (∀ id, q = some id → ∃ cc, s.hp id = some (.ar false cc)) ∧
      ∀ fz : List Nat, (∀ id ∈ m, id ∈ fz) → (∀ id ∈ fz, ∃ f cc, s.hp id = some (.ar f cc)) → ∀ v, CRep w (Aof s.hp β Y) β p v → OCell w (Aof (freezeIds s.hp fz) β Y) (q.bind β) c v := by
    intro t p K hne hk
    obtain ⟨c, hk, hT, hpT, hv⟩ := tcK_inv hk
    exact ⟨c, [], none, hk, .inl hT, isF_isT hpT, by simp, by simp, fun fz h1 h2 v hc => OCell_tree hT ((hv w _ β v hc).1.step (WStep.refl _ _) (fun b _ hb => freeze_A hb))⟩
  unfold mvcK at hk
  cases t with
  | sl es =>
    dsimp only at hk
    cases mv <;> simp only [cond_true, cond_false] at hk
    · exact frz hk
    · split at hk
      · rename_i id es' off n
        split at hk
        · rename_i c h0
          cases hb : (Nat.beq es' es && Nat.beq off 0) <;> rw [hb] at hk <;> simp only [cond_true, cond_false] at hk
          · exact frz hk
          · simp only [Bool.and_eq_true] at hb
            have he := Nat.eq_of_beq_eq_true hb.1
            have hof := Nat.eq_of_beq_eq_true hb.2
            subst he hof
            obtain ⟨hl, hk⟩ := chk_inv hk
            refine ⟨_, [], some id, hk, .inr ⟨_, _, _, rfl⟩, trivial, by simp, fun i hi => by cases hi; exact ⟨c, h0⟩, fun fz h1 h2 v hc => ?_⟩
            rcases hc with ⟨h3, _, rfl, h4⟩ | ⟨b, ob, x, cap, h3, h4, hx, h5, h6, h7⟩
            · exact .inl ⟨h3, rfl, by simp, h4⟩
            · have hx : x = ob := by rcases hx with e | ⟨_, e⟩ <;> omega
              subst hx
              rcases h.box id _ h0 with ⟨h8, _⟩ | ⟨b', o', h8, h9, h10, _⟩
              · rw [h3] at h8; cases h8
              · rw [h3] at h8
                cases h8
                refine .inr ⟨b, x, cap, h3, h4, h5, h6, h7, fun j p hj => ?_, h10 rfl⟩
                rw [List.getElem?_take] at hj
                split at hj
                · obtain ⟨u, hu, h11, ht⟩ := h9 j p hj
                  exact ⟨u, hu, h11, ht.step (WStep.refl _ _) (fun b _ hb => freeze_A hb)⟩
                · cases hj
        · exact frz hk
      · obtain ⟨z, n, c, hk, hp⟩ := lsK_inv hk
        have hpF : isF p := by rcases hp with e | ⟨e, _⟩ <;> (rw [e]; trivial)
        cases z <;> simp only [cond_true, cond_false] at hk
        · refine ⟨_, [], none, hk, .inl trivial, hpF, by simp, by simp, fun fz h1 h2 v hc => ?_⟩
          exact OCell_tree trivial ((ls_rep hp hc).step (WStep.refl _ _) (fun b _ hb => freeze_A hb))
        · refine ⟨_, [], none, hk, .inr ⟨_, _, _, rfl⟩, hpF, by simp, by simp, fun fz h1 h2 v hc => .inl ⟨rfl, rfl, rfl, ?_⟩⟩
          have := ls_rep hp hc
          cases this
          rfl
  | int k => exact tree (by simp) hk
  | bool => exact tree (by simp) hk
  | str => exact tree (by simp) hk
  | any => exact tree (by simp) hk

theorem mvcsK_inv (h : Sim N w0 X0 Y β s a w) {mv : Bool} : ∀ {ts : List CT} {ps : List PV} {K : List PV → List Nat → List Nat → Option R}, mvcsK mv s.hp ts ps K = some r →
    ∃ cs m x, ∃ q : Nat → Option Nat, K cs m x = some r ∧ cs.length = ts.length ∧ ps.length = ts.length ∧ (∀ c ∈ cs, isA c) ∧ (∀ p ∈ ps, isF p) ∧ (∀ id ∈ m, ∃ f cc, s.hp id = some (.ar f cc)) ∧ (∀ id ∈ x, ∃ cc, s.hp id = some (.ar false cc)) ∧
      (∀ j id, q j = some id → id ∈ x) ∧ (nodupB x = true → ∀ j j' id, q j = some id → q j' = some id → j = j') ∧
      ∀ fz : List Nat, (∀ id ∈ m, id ∈ fz) → (∀ id ∈ fz, ∃ f cc, s.hp id = some (.ar f cc)) → ∀ vs, All2 (CRep w (Aof s.hp β Y) β) ps vs → ∀ (own : Bt) j0, (∀ j, own (j0 + j) = (q j).bind β) → OCells w (Aof (freezeIds s.hp fz) β Y) own j0 cs vs
  | [], [], K, hk => ⟨[], [], [], fun _ => none, hk, rfl, rfl, by simp, by simp, by simp, by simp, by simp, by simp, fun fz _ _ vs hv own j0 _ => by
      cases vs with
      | nil => trivial
      | cons v vs => exact hv.elim⟩
  | [], _ :: _, K, hk => by cases hk
  | _ :: _, [], K, hk => by cases hk
  | t :: ts, p :: ps, K, hk => by
    unfold mvcsK at hk
    obtain ⟨c, m, q, hk, hA, hF, hm, hq, hv⟩ := mvcK_inv h hk
    obtain ⟨cs, ms, xs, qs, hk, hl, hl', hAs, hFs, hms, hxs, hqx, hqi, hvs⟩ := mvcsK_inv h hk
    refine ⟨c :: cs, m ++ ms, q.toList ++ xs, fun j => match j with | 0 => q | j + 1 => qs j, hk, by simp [hl], by simp [hl'], ?_, ?_, ?_, ?_, ?_, ?_, ?_⟩
    · intro x hx
      rcases List.mem_cons.1 hx with rfl | hx
      · exact hA
      · exact hAs x hx
    · intro x hx
      rcases List.mem_cons.1 hx with rfl | hx
      · exact hF
      · exact hFs x hx
    · intro i hi
      rcases List.mem_append.1 hi with hi | hi
      · exact hm i hi
      · exact hms i hi
    · intro i hi
      rcases List.mem_append.1 hi with hi | hi
      · exact hq i (by simpa using hi)
      · exact hxs i hi
    · intro j id hj
      cases j with
      | zero => exact List.mem_append.2 (.inl (by simpa using hj))
      | succ j => exact List.mem_append.2 (.inr (hqx j id hj))
    · intro hn j j' id hj hj'
      obtain ⟨_, h2, h3⟩ := nodupB_app hn
      cases j with
      | zero =>
        cases j' with
        | zero => rfl
        | succ j' => exact absurd (hqx j' id hj') (h3 id (by simpa using hj))
      | succ j =>
        cases j' with
        | zero => exact absurd (hqx j id hj) (h3 id (by simpa using hj'))
        | succ j' => rw [hqi h2 j j' id hj hj']
    · intro fz h1 h2 vs h3 own j0 hown
      cases vs with
      | nil => exact h3.elim
      | cons v vs =>
        refine ⟨?_, hvs fz (fun i hi => h1 i (by simp [hi])) h2 vs h3.2 own (j0 + 1) fun j => ?_⟩
        · have := hown 0
          rw [Nat.add_zero] at this
          rw [this]
          exact hv fz (fun i hi => h1 i (by simp [hi])) h2 v h3.1
        · have := hown (j + 1)
          rw [show j0 + 1 + j = j0 + (j + 1) by omega]
          exact this

/-- How what is lent stands to its argument. -/
def LOk (hp : Nat → Option Box) (q : Option (Nat × Nat)) (p : PV) (x : Lnt) : Prop :=
  match x with
  | .var id off cts ws => p = .pbox ws ∧ q = some (id, off) ∧ cts.length = ws.length ∧ ∃ c, hp id = some (.st c) ∧ off + ws.length ≤ c.length
  | .row id => (∃ ps, p = .tup ps) ∧ q = some (id, 0) ∧ ∃ c, hp id = some (.ar false c)
  | .none => (∃ ps, p = .tup ps) ∧ q = none

theorem LOk_isL {hp : Nat → Option Box} {q : Option (Nat × Nat)} {p : PV} {x : Lnt} (h : LOk hp q p x) : isL p = true := by
  cases x with
  | var id off cts ws => rw [h.1]; rfl
  | row id => obtain ⟨⟨_, e⟩, _⟩ := h; rw [e]; rfl
  | none => obtain ⟨⟨_, e⟩, _⟩ := h; rw [e]; rfl

def LRel (hp : Nat → Option Box) (src : Nat → Nat → Option (Nat × Nat)) : Nat → List PV → List Lnt → Prop
  | _, [], l => l = []
  | i, p :: ps, l => (isL p = false ∧ src i 0 = none ∧ LRel hp src (i + 1) ps l) ∨ ∃ x l', l = x :: l' ∧ LOk hp (src i 0) p x ∧ LRel hp src (i + 1) ps l'

/-- One argument. -/
theorem lend1K_inv (h : Sim N w0 X0 Y β s a w) {C : Cfg} {f : FuncId} {i : Nat} {t : TypeId} {x : Operand} {K : PV → List Nat → List Nat → List Lnt → Option R} (hk : lend1K C P f s.hp i t (opv s.tm x) K = some r) :
    ∃ v m y l, ∃ src : Nat → Option (Nat × Nat), K v m y l = some r ∧ (∀ id ∈ m, ∃ f cc, s.hp id = some (.ar f cc)) ∧ (∀ id ∈ y, ∃ cc, s.hp id = some (.ar false cc)) ∧
      (∀ j id off, src (j + 1) = some (id, off) → off = 0 ∧ id ∈ y) ∧ (nodupB y = true → ∀ j j' id off off', src (j + 1) = some (id, off) → src (j' + 1) = some (id, off') → j = j') ∧
      ((l = [] ∧ isL v = false ∧ src 0 = none) ∨ ∃ x', l = [x'] ∧ LOk s.hp (src 0) v x') ∧
      ∀ fz : List Nat, (∀ id ∈ m, id ∈ fz) → (∀ id ∈ fz, ∃ f cc, s.hp id = some (.ar f cc)) → ∀ bt : Bt, (∀ j, bt j = (src j).bind (place β)) → PArg w (Aof (freezeIds s.hp fz) β Y) bt v (a.eval x) := by
  have hx := opv_rep h x
  have hsrc : ∀ (q0 : Option (Nat × Nat)) (q : Nat → Option Nat), ∃ src : Nat → Option (Nat × Nat), src 0 = q0 ∧ (∀ j, src (j + 1) = (q j).map fun id => (id, 0)) :=
    fun q0 q => ⟨fun j => match j with | 0 => q0 | j + 1 => (q j).map fun id => (id, 0), rfl, fun _ => rfl⟩
  have hsrc1 : ∀ {src : Nat → Option (Nat × Nat)} {q : Nat → Option Nat} {y : List Nat}, (∀ j, src (j + 1) = (q j).map fun id => (id, 0)) → (∀ j id, q j = some id → id ∈ y) → ∀ j id off, src (j + 1) = some (id, off) → off = 0 ∧ id ∈ y := by
    intro src q y h1 h2 j id off hj
    rw [h1] at hj
    cases hq : q j with
    | none => rw [hq] at hj; cases hj
    | some k => rw [hq] at hj; cases hj; exact ⟨rfl, h2 j _ hq⟩
  have hsrc2 : ∀ {src : Nat → Option (Nat × Nat)} {q : Nat → Option Nat} {y : List Nat}, (∀ j, src (j + 1) = (q j).map fun id => (id, 0)) → (nodupB y = true → ∀ j j' id, q j = some id → q j' = some id → j = j') →
      nodupB y = true → ∀ j j' id off off', src (j + 1) = some (id, off) → src (j' + 1) = some (id, off') → j = j' := by
    intro src q y h1 h2 hn j j' id off off' hj hj'
    rw [h1] at hj hj'
    cases hq : q j with
    | none => rw [hq] at hj; cases hj
    | some k =>
      cases hq' : q j' with
      | none => rw [hq'] at hj'; cases hj'
      | some k' =>
        rw [hq] at hj; rw [hq'] at hj'
        cases hj; cases hj'
        exact h2 hn j j' _ hq hq'
  have hown : ∀ {src : Nat → Option (Nat × Nat)} {q : Nat → Option Nat} {bt : Bt}, (∀ j, src (j + 1) = (q j).map fun id => (id, 0)) → (∀ j, bt j = (src j).bind (place β)) → ∀ j, bt (1 + j) = (q j).bind β := by
    intro src q bt h1 h2 j
    rw [Nat.add_comm, h2, h1]
    cases q j with
    | none => rfl
    | some id => exact place0 β id
  unfold lend1K at hk
  split at hk
  · rename_i e he
    split at hk
    · rename_i id off ep
      rw [ep] at hx
      split at hk
      · rename_i c h0
        obtain ⟨hb, hk⟩ := chk_inv hk
        simp only [Bool.and_eq_true, decide_eq_true_eq] at hb
        obtain ⟨cs, m, y, q, hk, hl, hl', hA, hF, hm, hy, hq1, hq2, hv⟩ := mvcsK_inv h hk
        obtain ⟨src, hs0, hs⟩ := hsrc (some (id, off)) q
        obtain ⟨b, ob, hβ, hax⟩ := hx
        refine ⟨_, m, y, _, src, hk, hm, hy, hsrc1 hs hq1, hsrc2 hs hq2, .inr ⟨_, rfl, rfl, hs0, hl.symm, c, h0, by omega⟩, fun fz h1 h2 bt hbt => ?_⟩
        obtain ⟨b', o', hb1, hb2, hb3⟩ := h.box id _ h0
        rw [hβ] at hb1
        cases hb1
        have hlen : ((c.drop off).take (cty P e).length).length = (cty P e).length := by simp; omega
        have hcells : ∀ j p, ((c.drop off).take (cty P e).length)[j]? = some p → c[off + j]? = some p ∧ j < (cty P e).length := by
          intro j p hj
          rw [List.getElem?_take] at hj
          split at hj
          · rw [List.getElem?_drop] at hj; exact ⟨hj, by assumption⟩
          · cases hj
        refine ⟨b, ob + off, by rw [hbt, hs0]; simp [place, hβ], hax, hA, ((c.drop off).take (cty P e).length).mapIdx (fun j _ => (w.cell? ⟨b, ob + off + j, none⟩).getD undef), hv fz h1 h2 _ ?_ bt 1 (hown hs hbt), ?_, fun k hk => ?_⟩
        · refine All2.of_at (by simp) fun j p v hp hv => ?_
          obtain ⟨hc, _⟩ := hcells j p hp
          obtain ⟨u, hu, hcr⟩ := hb2 _ _ hc
          rw [List.getElem?_mapIdx, hp, Option.map_some, Nat.add_assoc, hu] at hv
          simp at hv
          subst hv
          exact hcr
        · intro k v hkv
          rw [List.getElem?_mapIdx] at hkv
          cases hp : ((c.drop off).take (cty P e).length)[k]? with
          | none => rw [hp] at hkv; cases hkv
          | some p =>
            obtain ⟨hc, _⟩ := hcells k p hp
            obtain ⟨u, hu, hcr⟩ := hb2 _ _ hc
            rw [hp, Option.map_some, Nat.add_assoc, hu] at hkv
            simp at hkv
            subst hkv
            rw [Nat.add_assoc]
            exact hu
        · rw [Nat.add_assoc]
          exact hb3 _ (by omega)
      · cases hk
    · cases hk
  · cases hln : C.lnd f i <;> rw [hln] at hk <;> simp only [cond_true, cond_false] at hk
    · cases hagg : isAggB P t <;> rw [hagg] at hk <;> simp only [cond_true, cond_false] at hk
      · obtain ⟨cs, m, y, q, hk, hl, hl', hA, hF, hm, hy, hq1, hq2, hv⟩ := mvcsK_inv h hk
        obtain ⟨c, t', rfl, hk⟩ := consK_inv hk
        obtain ⟨rfl, hk⟩ := nilK_inv hk
        obtain ⟨src, hs0, hs⟩ := hsrc none q
        have hAc := hA c (by simp)
        refine ⟨c, m, y, _, src, hk, hm, hy, hsrc1 hs hq1, hsrc2 hs hq2, .inl ⟨rfl, isL_isA hAc, hs0⟩, fun fz h1 h2 bt hbt => ?_⟩
        have hFx := hF _ (List.mem_singleton_self _)
        have hxc : CRep w (Aof s.hp β Y) β (opv s.tm x) (a.eval x) := by
          cases hp : opv s.tm x <;> rw [hp] at hx hFx <;> first | exact hx | exact hFx.elim
        have hoc := (hv fz h1 h2 [a.eval x] ⟨hxc, trivial⟩ bt 1 (hown hs hbt)).1
        rcases hAc with hT | ⟨es, n, cc, rfl⟩
        · cases c <;> first | exact ⟨.inl trivial, hoc⟩ | exact hT.elim
        · exact ⟨.inr ⟨_, _, _, rfl⟩, hoc⟩
      · obtain ⟨ps, ep, hk⟩ := aggK_inv hk
        rw [ep] at hx
        obtain ⟨vs, hax, h3⟩ := hx
        obtain ⟨cs, m, y, q, hk, hl, hl', hA, hF, hm, hy, hq1, hq2, hv⟩ := mvcsK_inv h hk
        obtain ⟨src, hs0, hs⟩ := hsrc none q
        refine ⟨_, m, y, _, src, hk, hm, hy, hsrc1 hs hq1, hsrc2 hs hq2, .inl ⟨rfl, rfl, hs0⟩, fun fz h1 h2 bt hbt => ?_⟩
        exact ⟨vs, hax, hA, hv fz h1 h2 vs h3 bt 1 (hown hs hbt)⟩
    · obtain ⟨e, he, hk⟩ := optK_inv hk
      unfold lrowK at hk
      split at hk
      · rename_i id es' off n ep
        rw [ep] at hx
        split at hk
        · rename_i c h0
          obtain ⟨hb, hk2⟩ := chk_inv hk
          simp only [Bool.and_eq_true] at hb
          have he := Nat.eq_of_beq_eq_true hb.1
          have hof := Nat.eq_of_beq_eq_true hb.2
          subst hof
          obtain ⟨src, hs0, hs⟩ := hsrc (some (id, 0)) (fun _ => none)
          refine ⟨_, [], [], _, src, hk2, by simp, by simp, hsrc1 hs (by simp), hsrc2 hs (by simp), .inr ⟨_, rfl, ⟨_, rfl⟩, hs0, c, h0⟩, fun fz h1 h2 bt hbt => ⟨_, _, _, rfl, ?_⟩⟩
          have hb0 : bt 0 = β id := by rw [hbt, hs0]; exact place0 β id
          rw [hb0]
          rcases hx with ⟨h3, _, h4, h5⟩ | ⟨b, ob, y, cap, h3, h4, hy, h5, h6, h7⟩
          · refine .inl ⟨h3, h4, ?_, h5⟩
            rcases h.box id _ h0 with ⟨_, h8⟩ | ⟨_, _, h8, _⟩
            · exact h8
            · rw [h3] at h8; cases h8
          · have hy : y = ob := by rcases hy with e | ⟨_, e⟩ <;> omega
            subst hy
            rcases h.box id _ h0 with ⟨h8, _⟩ | ⟨b', o', h8, h9, h10, _⟩
            · rw [h3] at h8; cases h8
            · rw [h3] at h8
              cases h8
              exact .inr ⟨b, y, cap, h3, h4, h5, by rw [← he]; exact h6, h7, h9.weak (fun b _ hb => freeze_A hb), h10 rfl⟩
        · cases hk
      · obtain ⟨z, n, c, hk, hp⟩ := lsK_inv hk
        obtain ⟨hz, hk⟩ := chk_inv hk
        subst hz
        obtain ⟨src, hs0, hs⟩ := hsrc none (fun _ => none)
        have hu : a.eval x = .slice none 0 0 := by
          have hF : CRep w (Aof s.hp β Y) β (opv s.tm x) (a.eval x) := by rcases hp with e | ⟨e, _⟩ <;> rw [e] at hx ⊢ <;> exact hx
          have := ls_rep hp hF
          generalize a.eval x = u at this
          cases this
          rfl
        refine ⟨_, [], [], _, src, hk, by simp, by simp, hsrc1 hs (by simp), hsrc2 hs (by simp), .inr ⟨_, rfl, ⟨_, rfl⟩, hs0⟩, fun fz h1 h2 bt hbt => ⟨_, _, _, rfl, .inl ⟨by rw [hbt, hs0]; rfl, rfl, rfl, hu⟩⟩⟩

/-- What the places of a row of arguments are. -/
structure Srcs (i0 n : Nat) (src : Nat → Nat → Option (Nat × Nat)) (ids x : List Nat) : Prop where
  dom : ∀ i j q, src i j = some q → i0 ≤ i ∧ i < i0 + n
  lent : ∀ i id off, src i 0 = some (id, off) → id ∈ ids
  mvd : ∀ i j id off, src i (j + 1) = some (id, off) → off = 0 ∧ id ∈ x
  inj0 : nodupB ids = true → ∀ i i' id off off', src i 0 = some (id, off) → src i' 0 = some (id, off') → i = i'
  inj1 : nodupB x = true → ∀ i i' j j' id off off', src i (j + 1) = some (id, off) → src i' (j' + 1) = some (id, off') → i = i' ∧ j = j'

theorem LRel_congr {hp : Nat → Option Box} {src src' : Nat → Nat → Option (Nat × Nat)} : ∀ {ps : List PV} {i : Nat} {l : List Lnt}, (∀ k, i ≤ k → src' k = src k) → LRel hp src i ps l → LRel hp src' i ps l
  | [], _, _, _, h => h
  | p :: ps, i, l, hs, h => by
    rcases h with ⟨h1, h2, h3⟩ | ⟨x, l', rfl, h2, h3⟩
    · exact .inl ⟨h1, by rw [hs i (Nat.le_refl _)]; exact h2, LRel_congr (fun k hk => hs k (by omega)) h3⟩
    · exact .inr ⟨x, l', rfl, by rw [hs i (Nat.le_refl _)]; exact h2, LRel_congr (fun k hk => hs k (by omega)) h3⟩

theorem PArgs_congr {bt bt' : Bt2} : ∀ {ps : List PV} {us : List Value} {i : Nat}, (∀ k, i ≤ k → ∀ j, bt' k j = bt k j) → PArgs w A bt i ps us → PArgs w A bt' i ps us
  | [], [], _, _, _ => trivial
  | [], _ :: _, _, _, h => h.elim
  | _ :: _, [], _, _, h => h.elim
  | _ :: _, _ :: _, i, hb, h => ⟨by rw [show bt' i = bt i from funext (hb i (Nat.le_refl _))]; exact h.1, PArgs_congr (fun k hk => hb k (by omega)) h.2⟩

theorem lendK_inv (h : Sim N w0 X0 Y β s a w) {C : Cfg} {f : FuncId} : ∀ {ts : List TypeId} {xs : List Operand} {i : Nat} {K : List PV → List Nat → List Nat → List Lnt → Option R}, lendK C P f s.hp i ts (xs.map (opv s.tm)) K = some r →
    ∃ vs m y l, ∃ src : Nat → Nat → Option (Nat × Nat), K vs m y l = some r ∧ (∀ id ∈ m, ∃ f cc, s.hp id = some (.ar f cc)) ∧ (∀ id ∈ y, ∃ cc, s.hp id = some (.ar false cc)) ∧
      Srcs i xs.length src (l.flatMap Lnt.ids) y ∧ LRel s.hp src i vs l ∧
      ∀ fz : List Nat, (∀ id ∈ m, id ∈ fz) → (∀ id ∈ fz, ∃ f cc, s.hp id = some (.ar f cc)) → ∀ bt : Bt2, (∀ i j, bt i j = (src i j).bind (place β)) → PArgs w (Aof (freezeIds s.hp fz) β Y) bt i vs (xs.map a.eval)
  | [], [], i, K, hk => ⟨[], [], [], [], fun _ _ => none, hk, by simp, by simp, ⟨by simp, by simp, by simp, by simp, by simp⟩, rfl, fun _ _ _ _ _ => trivial⟩
  | [], _ :: _, i, K, hk => by cases hk
  | _ :: _, [], i, K, hk => by cases hk
  | t :: ts, x :: xs, i, K, hk => by
    simp only [List.map_cons] at hk
    unfold lendK at hk
    obtain ⟨v, m, y, l, src, hk, hm, hy, hs1, hs2, hl, hv⟩ := lend1K_inv h hk
    obtain ⟨vs, ms, ys, ls, srcs, hk, hms, hys, hS, hL, hvs⟩ := lendK_inv h hk
    have hsrc : ∃ sr : Nat → Nat → Option (Nat × Nat), sr i = src ∧ ∀ k, k ≠ i → sr k = srcs k := ⟨fun k => if k = i then src else srcs k, by simp, fun k hk => by simp [hk]⟩
    obtain ⟨sr, hsi, hso⟩ := hsrc
    have hlid : ∀ id off, src 0 = some (id, off) → id ∈ l.flatMap Lnt.ids := by
      intro id off e
      rcases hl with ⟨_, _, h3⟩ | ⟨x', rfl, h3⟩
      · rw [h3] at e; cases e
      · cases x' with
        | var id' off' cts ws => rw [h3.2.1] at e; cases e; simp [Lnt.ids]
        | row id' => rw [h3.2.1] at e; cases e; simp [Lnt.ids]
        | none => rw [h3.2] at e; cases e
    refine ⟨v :: vs, m ++ ms, y ++ ys, l ++ ls, sr, hk, ?_, ?_, ⟨?_, ?_, ?_, ?_, ?_⟩, ?_, fun fz h1 h2 bt hbt => ⟨?_, ?_⟩⟩
    · intro i hi
      rcases List.mem_append.1 hi with hi | hi
      · exact hm i hi
      · exact hms i hi
    · intro i hi
      rcases List.mem_append.1 hi with hi | hi
      · exact hy i hi
      · exact hys i hi
    · intro k j q hq
      simp only [List.length_cons]
      by_cases e : k = i
      · subst e; omega
      · rw [hso k e] at hq
        have := hS.dom k j q hq
        omega
    · intro k id off hq
      rw [List.flatMap_append]
      by_cases e : k = i
      · subst e
        rw [hsi] at hq
        exact List.mem_append.2 (.inl (hlid id off hq))
      · rw [hso k e] at hq
        exact List.mem_append.2 (.inr (hS.lent k id off hq))
    · intro k j id off hq
      by_cases e : k = i
      · subst e
        rw [hsi] at hq
        exact ⟨(hs1 j id off hq).1, List.mem_append.2 (.inl (hs1 j id off hq).2)⟩
      · rw [hso k e] at hq
        exact ⟨(hS.mvd k j id off hq).1, List.mem_append.2 (.inr (hS.mvd k j id off hq).2)⟩
    · intro hn k k' id off off' hq hq'
      rw [List.flatMap_append] at hn
      obtain ⟨_, h4, h5⟩ := nodupB_app hn
      by_cases e : k = i
      · by_cases e' : k' = i
        · omega
        · rw [hso k' e'] at hq'
          subst e
          rw [hsi] at hq
          exact absurd (hS.lent k' id off' hq') (h5 id (hlid id off hq))
      · rw [hso k e] at hq
        by_cases e' : k' = i
        · subst e'
          rw [hsi] at hq'
          exact absurd (hS.lent k id off hq) (h5 id (hlid id off' hq'))
        · rw [hso k' e'] at hq'
          exact hS.inj0 h4 k k' id off off' hq hq'
    · intro hn k k' j j' id off off' hq hq'
      obtain ⟨h3, h4, h5⟩ := nodupB_app hn
      by_cases e : k = i
      · by_cases e' : k' = i
        · subst e
          subst e'
          rw [hsi] at hq hq'
          exact ⟨rfl, hs2 h3 j j' id off off' hq hq'⟩
        · rw [hso k' e'] at hq'
          subst e
          rw [hsi] at hq
          exact absurd (hS.mvd k' j' id off' hq').2 (h5 id (hs1 j id off hq).2)
      · rw [hso k e] at hq
        by_cases e' : k' = i
        · subst e'
          rw [hsi] at hq'
          exact absurd (hS.mvd k j id off hq).2 (h5 id (hs1 j' id off' hq').2)
        · rw [hso k' e'] at hq'
          exact hS.inj1 h4 k k' j j' id off off' hq hq'
    · have hrest : LRel s.hp sr (i + 1) vs ls := LRel_congr (fun k hk => hso k (by omega)) hL
      rcases hl with ⟨rfl, hnp, h3⟩ | ⟨x', rfl, h3⟩
      · exact .inl ⟨hnp, by rw [hsi]; exact h3, hrest⟩
      · exact .inr ⟨x', ls, rfl, by rw [hsi]; exact h3, hrest⟩
    · exact hv fz (fun i hi => h1 i (by simp [hi])) h2 (bt i) (fun j => by rw [hbt, hsi])
    · refine hvs fz (fun i hi => h1 i (by simp [hi])) h2 (fun k j => (srcs k j).bind (place β)) (fun _ _ => rfl) |> PArgs_congr fun k hk j => ?_
      rw [hbt, hso k (by omega)]
end

end Go.Proofs.Ytoihfmiifeegpaa.Pv
