/-
  Functions, second part: results out; calls.
-/
import Derived.Test.YtoidbofkmflocaaPvS30
namespace Go.Proofs.Ytoidbofkmflocaa.Pv
open Go.RowKit

/-- Which box goes along with a cell. -/
def ownOf (β : Bt) (l : List (Option Nat)) (j : Nat) : Option (Nat × Nat) := ((l[j]?).bind id).bind β

section
variable {R : Type} {r : R} {P : Program} {N : Nat} {w0 : World} {X0 Y : Nat → Prop} {β β' : Bt} {s : St} {a : Act} {w w' : World} {A : Nat → Prop}

def LiveId (s : St) (l : List (Option Nat)) : Prop := ∀ id, some id ∈ l → ∃ c, s.hp id = some (.ar false c)

theorem outcK_inv (h : Sim N w0 X0 Y β s a w) {t : CT} {p : PV} {K : PV → List Nat → Option R} (hk : outcK s.hp t p K = some r) :
    ∃ c q, K c (q.toList) = some r ∧ (∀ x, c ≠ .agg x) ∧ (∀ id, q = some id → ∃ c, s.hp id = some (.ar false c)) ∧
      ∀ A u, (∀ b, A b → Aof s.hp β Y b) → CRep w (Aof s.hp β Y) β p u → OCell w A (q.bind β) c u := by
  have tree : ∀ t', (∀ es, t' ≠ .sl es) → (tcK t' p fun c => K c []) = some r → ∃ c q, K c (q.toList) = some r ∧ (∀ x, c ≠ .agg x) ∧ (∀ id, q = some id → ∃ c, s.hp id = some (.ar false c)) ∧
      ∀ A u, (∀ b, A b → Aof s.hp β Y b) → CRep w (Aof s.hp β Y) β p u → OCell w A (q.bind β) c u := by
    intro t' hne hk
    obtain ⟨c, hk1, hT, _, hv, hsc⟩ := tcK_sc hk
    obtain ⟨v, rfl⟩ := hsc hne
    refine ⟨.sc v, none, hk1, by simp, by simp, fun A u hA hc => ?_⟩
    exact (hv w _ β u hc).1.step (WStep.refl _ _) (fun b _ hb => hA b hb)
  unfold outcK at hk
  cases t with
  | sl es =>
    dsimp only at hk
    split at hk
    · rename_i id es' off n
      cases hb : (Nat.beq es' es && Nat.beq off 0) <;> rw [hb] at hk
      · cases hk
      · simp only [Bool.and_eq_true] at hb
        have he := Nat.eq_of_beq_eq_true hb.1
        have ho := Nat.eq_of_beq_eq_true hb.2
        subst he ho
        simp only [cond_true] at hk
        split at hk
        · rename_i c h0
          obtain ⟨hl, hk1⟩ := chk_inv hk
          have hl : n * es' ≤ c.length := of_decide_eq_true hl
          refine ⟨_, some id, hk1, by simp, fun i hi => by cases hi; exact ⟨c, h0⟩, fun A u hA hc => ?_⟩
          rcases hc with ⟨h1, _, rfl, h4⟩ | ⟨b, o, x, cap, h1, h2, hx, h3, h4, h5⟩
          · exact .inl ⟨h1, rfl, by simp, h4⟩
          · have hx : x = o := by rcases hx with e | ⟨_, e⟩ <;> omega
            subst hx
            rcases h.box id _ h0 with ⟨h6, _⟩ | ⟨b', o', h6, h7, h8, _⟩
            · rw [h1] at h6; cases h6
            · rw [h1] at h6
              cases h6
              refine .inr ⟨b, x, cap, h1, h2, h3, h4, h5, fun j q hq => ?_, fun j hj hj' => h8 rfl j hj hj'⟩
              rw [List.getElem?_take] at hq
              split at hq
              · obtain ⟨v, hv, h9, ht⟩ := h7 j q hq
                exact ⟨v, hv, h9, ht.step (WStep.refl _ _) (fun b _ hb => hA b hb)⟩
              · cases hq
        · cases hk
    · rename_i hnv
      obtain ⟨z, n, c, hk1, hp⟩ := lsK_inv hk
      obtain ⟨hz, hk2⟩ := chk_inv hk1
      subst hz
      refine ⟨_, none, hk2, by simp, by simp, fun A u _ hc => ?_⟩
      have hu : u = .slice none 0 0 := by
        rcases hp with rfl | ⟨rfl, _⟩
        · cases hc; rfl
        · exact TRep.val hc
      exact .inl ⟨rfl, rfl, rfl, hu⟩
  | int k => exact tree _ (by simp) hk
  | bool => exact tree _ (by simp) hk
  | str => exact tree _ (by simp) hk
  | any => exact tree _ (by simp) hk

theorem outcsK_inv (h : Sim N w0 X0 Y β s a w) : ∀ {ts : List CT} {ps : List PV} {K : List PV → List Nat → Option R}, outcsK s.hp ts ps K = some r →
    ∃ cs l, K cs (l.filterMap id) = some r ∧ l.length = cs.length ∧ cs.length = ps.length ∧ (∀ c ∈ cs, ∀ x, c ≠ .agg x) ∧ LiveId s l ∧
      ∀ A us, (∀ b, A b → Aof s.hp β Y b) → All2 (CRep w (Aof s.hp β Y) β) ps us → ∀ own j0, (∀ j, j < l.length → own (j0 + j) = ownOf β l j) → OCells w A own j0 cs us
  | [], [], K, hk => ⟨[], [], hk, rfl, rfl, by simp, by intro id hid; simp at hid, fun A us _ hu own j0 _ => by
      cases us with
      | nil => trivial
      | cons u us => exact hu.elim⟩
  | [], _ :: _, K, hk => by cases hk
  | _ :: _, [], K, hk => by cases hk
  | t :: ts, p :: ps, K, hk => by
    unfold outcsK at hk
    obtain ⟨c, q, hk1, hna, hq, hv⟩ := outcK_inv h hk
    obtain ⟨cs, l, hk2, hl, hl2, hnas, hL, hvs⟩ := outcsK_inv h hk1
    refine ⟨c :: cs, q :: l, ?_, by simp [hl], by simp [hl2], ?_, ?_, fun A us hA hu own j0 hown => ?_⟩
    · cases q <;> exact hk2
    · intro x hx
      rcases List.mem_cons.1 hx with e | hx
      · rw [e]; exact hna
      · exact hnas x hx
    · intro id hid
      rcases List.mem_cons.1 hid with e | hid
      · exact hq id e.symm
      · exact hL id hid
    · cases us with
      | nil => exact hu.elim
      | cons u us =>
        have h0 := hown 0 (by simp)
        rw [Nat.add_zero] at h0
        refine ⟨?_, hvs A us hA hu.2 own (j0 + 1) fun j hj => ?_⟩
        · rw [h0]
          exact hv A u hA hu.1
        · have := hown (j + 1) (by simp; omega)
          rw [show j0 + 1 + j = j0 + (j + 1) by omega, this]
          simp [ownOf]

theorem OCells_one {own : Bt} {j : Nat} {p : PV} {u : Value} (hp : ∀ x, p ≠ .agg x) (h : OCells w A own j [p] [u]) : OVal w A own j p u := by
  cases p <;> first | exact h.1 | exact absurd rfl (hp _)

/-- One result. -/
theorem outvK_inv (h : Sim N w0 X0 Y β s a w) {shr : Bool} {t : TypeId} {p : PV} {u : Value} (hp : VRep w (Aof s.hp β Y) β p u) {K : PV → List Nat → Option R} (hk : outvK P shr s.hp t p K = some r) :
    ∃ v l, K v (l.filterMap id) = some r ∧ l.length = (cellsOf v).length ∧ LiveId s l ∧ (shr = true → ∀ q ∈ l, q = none) ∧
      ∀ A, (∀ b, A b → Aof s.hp β Y b) → (shr = true → ∀ b, A b → Y b) → ∀ own j0, (∀ j, j < l.length → own (j0 + j) = ownOf β l j) → OVal w A own j0 v u := by
  unfold outvK at hk
  cases shr
  · simp only [cond_false] at hk
    cases hagg : isAggB P t <;> rw [hagg] at hk
    · simp only [cond_false] at hk
      obtain ⟨cs, l, hk1, hl, hl2, hna, hL, hv⟩ := outcsK_inv h hk
      obtain ⟨c, cs', hcs, hk2⟩ := consK_inv hk1
      subst hcs
      obtain ⟨hnil, hk3⟩ := nilK_inv hk2
      subst hnil
      have hc1 : cellsOf c = [c] := by
        have := hna c (by simp)
        cases c <;> first | rfl | exact absurd rfl (this _)
      refine ⟨c, l, hk3, by rw [hc1]; exact hl, hL, by simp, fun A hA _ own j0 hown => OCells_one (hna c (by simp)) (hv A [u] hA ⟨?_, trivial⟩ own j0 hown)⟩
      cases p with
      | agg x =>
        exfalso
        cases hts : cty P t with
        | nil => rw [hts] at hk; cases hk
        | cons t' ts =>
          rw [hts] at hk
          unfold outcsK outcK at hk
          cases t' <;> simp [tcK, lsK, intK, boolK, strK] at hk
      | tup x =>
        exfalso
        cases hts : cty P t with
        | nil => rw [hts] at hk; cases hk
        | cons t' ts =>
          rw [hts] at hk
          unfold outcsK outcK at hk
          cases t' <;> simp [tcK, lsK, intK, boolK, strK] at hk
      | _ => exact hp
    · simp only [cond_true] at hk
      obtain ⟨ps, hps, hk1⟩ := aggK_inv hk
      subst hps
      obtain ⟨cs, l, hk2, hl, hl2, hna, hL, hv⟩ := outcsK_inv h hk1
      obtain ⟨vs, hu, hvs⟩ := hp
      exact ⟨.agg cs, l, hk2, hl, hL, by simp, fun A hA _ own j0 hown => ⟨vs, hu, hv A vs hA hvs own j0 hown⟩⟩
  · simp only [cond_true] at hk
    obtain ⟨v, m, hk1, hm, _, hv⟩ := frvK_val h hp hk
    have ha := hv m (fun _ hi => hi) hm
    refine ⟨v, List.replicate (cellsOf v).length none, ?_, by simp, ?_, fun _ q hq => (List.mem_replicate.1 hq).2, fun A _ hA own j0 hown => ?_⟩
    · have : (List.replicate (cellsOf v).length (none : Option Nat)).filterMap id = [] := by
        rw [List.filterMap_eq_nil_iff]
        intro x hx
        rw [(List.mem_replicate.1 hx).2]
        rfl
      rw [this]
      exact hk1
    · intro id hid
      have := (List.mem_replicate.1 hid).2
      cases this
    · have hA' : ∀ b, b < w.heap.size → A b → Aof (freezeIds s.hp m) β Y b := fun b _ hb => .inr (hA rfl b hb)
      have hcell : ∀ {c : PV} {x : Value} (o : Option (Nat × Nat)), isT c ∧ TRep w (Aof (freezeIds s.hp m) β Y) c x → OCell w A o c x := by
        intro c x o hc
        have := hc.2.step (WStep.refl _ _) hA'
        have hT := hc.1
        cases c <;> first | exact this | exact hT.elim
      have hcells : ∀ (cs : List PV) (vs : List Value) (j0 : Nat), All2 (fun c v => isT c ∧ TRep w (Aof (freezeIds s.hp m) β Y) c v) cs vs → OCells w A own j0 cs vs := by
        intro cs
        induction cs with
        | nil =>
          intro vs j0 h2
          cases vs with
          | nil => trivial
          | cons _ _ => exact h2.elim
        | cons c cs ih =>
          intro vs j0 h2
          cases vs with
          | nil => exact h2.elim
          | cons v vs => exact ⟨hcell _ h2.1, ih vs (j0 + 1) h2.2⟩
      cases v with
      | agg cs =>
        obtain ⟨vs, hu, h2⟩ := ha
        exact ⟨vs, hu, hcells cs vs j0 h2⟩
      | sc x => exact hcell (own j0) ha
      | lst z es n c => exact hcell (own j0) ha
      | _ => exact ha.1.elim

/-- What a result variable holds. -/
def resRun (P : Program) (tmps : Array Value) (w : World) (rv : ResultVar) (u : Value) : Prop :=
  (match rv with
   | .tmp t => (pure (tmps.getD t undef) : Sem Value)
   | .cell a t => do loadVar t (← asAddr (tmps.getD a undef))).run P w = .ok u w

theorem tm_rep (h : Sim N w0 X0 Y β s a w) (t : Nat) : VRep w (Aof s.hp β Y) β (s.tm t) (a.tmps.getD t undef) := by
  rcases Nat.lt_or_ge t N with h' | h'
  · exact h.tms t h'
  · rw [h.tmo t h']
    exact TRep.top _

theorem resvK_inv (h : Sim N w0 X0 Y β s a w) {rv : ResultVar} {K : PV → Option R} (hk : resvK P s rv K = some r) : ∃ p u, K p = some r ∧ resRun P a.tmps w rv u ∧ VRep w (Aof s.hp β Y) β p u := by
  unfold resvK at hk
  split at hk
  · rename_i t
    exact ⟨_, _, hk, rfl, tm_rep h t⟩
  · rename_i x t
    obtain ⟨v, ad, val, hk1, hax, hl, hv, _⟩ := load_val h (tm_rep h x) hk
    refine ⟨v, val, hk1, ?_, hv⟩
    unfold resRun
    simp [hax, asAddr, hl]

theorem ownOf_app1 {l l' : List (Option Nat)} {j : Nat} (h : j < l.length) : ownOf β (l ++ l') j = ownOf β l j := by
  unfold ownOf
  rw [List.getElem?_append_left h]
theorem ownOf_app2 {l l' : List (Option Nat)} {j : Nat} : ownOf β (l ++ l') (l.length + j) = ownOf β l' j := by
  unfold ownOf
  rw [List.getElem?_append_right (by omega), Nat.add_sub_cancel_left]

theorem outvsK_inv (h : Sim N w0 X0 Y β s a w) {shr : Bool} : ∀ {rs : List ResultVar} {ts : List TypeId} {K : List PV → List Nat → Option R}, outvsK P shr s rs ts K = some r →
    ∃ vs l us, K vs (l.filterMap id) = some r ∧ All2 (resRun P a.tmps w) rs us ∧ LiveId s l ∧ (shr = true → ∀ q ∈ l, q = none) ∧
      ∀ A, (∀ b, A b → Aof s.hp β Y b) → (shr = true → ∀ b, A b → Y b) → ∀ own j0, (∀ j, j < l.length → own (j0 + j) = ownOf β l j) → OVals w A own j0 vs us
  | [], [], K, hk => ⟨[], [], [], hk, trivial, by intro id hid; simp at hid, by simp, fun _ _ _ _ _ _ => trivial⟩
  | [], _ :: _, K, hk => by cases hk
  | _ :: _, [], K, hk => by cases hk
  | rv :: rs, t :: ts, K, hk => by
    unfold outvsK at hk
    obtain ⟨p, u, hk1, hu, hp⟩ := resvK_inv h hk
    obtain ⟨v, l, hk2, hl, hL, hs, hv⟩ := outvK_inv h hp hk1
    obtain ⟨vs, l', us, hk3, hus, hL', hs', hvs⟩ := outvsK_inv h hk2
    refine ⟨v :: vs, l ++ l', u :: us, ?_, ⟨hu, hus⟩, ?_, ?_, fun A hA hY own j0 hown => ⟨hv A hA hY own j0 fun j hj => ?_, hvs A hA hY own (j0 + (cellsOf v).length) fun j hj => ?_⟩⟩
    · rw [List.filterMap_append]; exact hk3
    · intro id hid
      rcases List.mem_append.1 hid with hid | hid
      · exact hL id hid
      · exact hL' id hid
    · intro hsh q hq
      rcases List.mem_append.1 hq with hq | hq
      · exact hs hsh q hq
      · exact hs' hsh q hq
    · rw [hown j (by simp; omega), ownOf_app1 hj]
    · rw [← hl, Nat.add_assoc, hown (l.length + j) (by simp; omega), ownOf_app2]

theorem backsK_inv : ∀ {ts : List TypeId} {hp : Nat → Option Box} {i : Nat} {ps : List PV} {K : List (List PV) → List Nat → Option R}, backsK P hp i ts ps K = some r → ∃ os m, K os m = some r ∧ (os = [] → m = [])
  | [], hp, i, ps, K, hk => ⟨[], [], hk, fun _ => rfl⟩
  | t :: ts, hp, i, ps, K, hk => by
    unfold backsK at hk
    obtain ⟨p, ps', _, hk1⟩ := consK_inv hk
    split at hk1
    · unfold pboxK at hk1
      split at hk1
      · obtain ⟨c, _, hk2⟩ := optK_inv hk1
        have : ∀ {cts : List CT} {ws cs : List PV} {K' : List PV → List Nat → Option R}, backcsK hp cts ws cs K' = some r → ∃ cs m, K' cs m = some r := by
          intro cts
          induction cts with
          | nil =>
            intro ws cs K' h
            cases ws <;> cases cs <;> first | exact ⟨_, _, h⟩ | cases h
          | cons ct cts ih =>
            intro ws cs K' h
            cases ws with
            | nil => cases h
            | cons x ws =>
              cases cs with
              | nil => cases h
              | cons c cs =>
                have one : ∀ {K1 : PV → List Nat → Option R}, backcK hp ct x c K1 = some r → ∃ c m, K1 c m = some r := by
                  intro K1 h1
                  have := frcK_rel (Rel := fun (a : Option R) (_ : Option R) => a = some r → ∃ c m, K1 c m = some r) (f := rda hp) (f' := rda hp) (t := ct) (p := c) (K := fun c _ => K1 c []) (K' := fun _ _ => none) (by intro h; cases h) (fun _ _ => .inl rfl) (fun c m _ h => ⟨c, [], h⟩)
                  unfold backcK at h1
                  split at h1
                  · exact this h1
                  · unfold outcK at h1
                    split at h1
                    · split at h1
                      · revert h1
                        cases (Nat.beq _ _ && Nat.beq _ 0)
                        · intro h1; cases h1
                        · intro h1
                          simp only [cond_true] at h1
                          split at h1
                          · exact ⟨_, _, (chk_inv h1).2⟩
                          · cases h1
                      · obtain ⟨z, n, c, h2, _⟩ := lsK_inv h1
                        exact ⟨_, _, (chk_inv h2).2⟩
                    · obtain ⟨c, h2, _⟩ := tcK_inv h1
                      exact ⟨_, _, h2⟩
                obtain ⟨c1, m1, h1⟩ := one h
                obtain ⟨cs1, m2, h2⟩ := ih h1
                exact ⟨_, _, h2⟩
        obtain ⟨cs, m, hk3⟩ := this hk2
        obtain ⟨os, m', hk4, _⟩ := backsK_inv hk3
        exact ⟨_, _, hk4, fun h => by cases h⟩
      · cases hk1
    · exact backsK_inv hk1

theorem mapM_run {f : ResultVar → Sem Value} : ∀ {rs : List ResultVar} {us : List Value}, All2 (fun rv u => (f rv).run P w = .ok u w) rs us → (rs.mapM f).run P w = .ok us w
  | [], [], _ => by simp
  | [], _ :: _, h => h.elim
  | _ :: _, [], h => h.elim
  | rv :: rs, u :: us, h => by
    rw [List.mapM_cons]
    simp [h.1, mapM_run h.2]

theorem results_run {fn : Func} {us : List Value} (h : All2 (resRun P a.tmps w) fn.results.toList us) : (results fn a.tmps).run P w = .ok (retVal us) w := by
  unfold results
  rw [Array.mapM_eq_mapM_toList]
  simp only [map_eq_pure_bind, bind_assoc, pure_bind, Sem.run_bind]
  refine Eq.trans (congrArg (fun x => Result.andThen x _) (mapM_run h)) ?_
  simp only [Result.andThen_ok, Sem.run_pure]
  congr 1
  clear h
  match us with
  | [] => rfl
  | [u] => rfl
  | u :: v :: us => exact dif_neg (by simp)

theorem nodup_at : ∀ {l : List (Option Nat)}, nodupB (l.filterMap id) = true → ∀ {j j' i : Nat}, l[j]? = some (some i) → l[j']? = some (some i) → j = j'
  | [], _, j, j', i, h, _ => by simp at h
  | q :: l, hn, j, j', i, h, h' => by
    have hn' : nodupB (l.filterMap id) = true := by
      cases q with
      | none => exact hn
      | some x =>
        simp only [List.filterMap_cons, id_eq, nodupB, Bool.and_eq_true] at hn
        exact hn.2
    have hq : ∀ (x k : Nat), q = some x → l[k]? ≠ some (some x) := by
      intro x k e hk
      subst e
      simp only [List.filterMap_cons, id_eq, nodupB, Bool.and_eq_true, Bool.not_eq_true'] at hn
      exact any_beq hn.1 (List.mem_filterMap.2 ⟨some x, List.mem_of_getElem? hk, rfl⟩)
    cases j with
    | zero =>
      cases j' with
      | zero => rfl
      | succ k' =>
        simp at h h'
        exact absurd h' (hq i k' h)
    | succ k =>
      cases j' with
      | zero =>
        simp at h h'
        exact absurd h (hq i k h')
      | succ k' =>
        simp at h h'
        rw [nodup_at hn' h h']

/-- A function keeps its contract. -/
theorem pfun_sound (hNG : NoNG P) (hm : P.follows .mixedOrders = true) {C : Cfg} {fu : Nat} {call : Call'} (hcall : ∀ f args res, call f args = some res → SoundC P f args res) {f : FuncId} {fn : Func} {c : Code} (hf : P.funcs[f]? = some fn) (hb : fn.body = some c)
    {args : List PV} {res : Res} (hk : pfun C P fu call f fn c args = some res) : SoundC P f args res := by
  refine ⟨⟨fn, hf, by rw [hb]; rfl⟩, fun hout w Y us hY hargs => ?_⟩
  unfold pfun at hk
  obtain ⟨tms, hk1, ht⟩ := insK_tree hargs hk
  obtain ⟨hb1, hk2⟩ := chk_inv hk1
  simp only [Bool.and_eq_true] at hb1
  have hlen : us.length ≤ fn.ntmps := by
    rw [← hargs.len]
    exact Nat.le_of_ble_eq_true hb1.1
  have hs := sim_start hY hlen ht
  refine calls_of_wp hf hb ?_
  have fin : ∀ (s' : St) (a' : Act) (w' : World) (β' : Bt), retK C P f fn args s' = some res → Sim fn.ntmps w (fun _ => False) Y β' s' a' w' →
      a'.defers = [] ∧ ∃ v, (results fn a'.tmps).run P w' = .ok v w' ∧ ∃ vs own, Ending.returned v = .returned (retVal vs) ∧ Out w w' Y own res.vals vs := by
    intro s' a' w' β' hr h
    unfold retK at hr
    obtain ⟨vs, l, us', hr1, hus, hL, hsh, hv⟩ := outvsK_inv h hr
    obtain ⟨os, m, hr2, hos⟩ := backsK_inv hr1
    obtain ⟨hnd, hr3⟩ := chk_inv hr2
    cases hr3
    have hm0 := hos hout
    subst hm0
    rw [List.append_nil] at hnd
    refine ⟨h.dfr, retVal us', results_run hus, us', ownOf β' l, rfl, ?_⟩
    have hown : ∀ j b o, ownOf β' l j = some (b, o) → ∃ id, l[j]? = some (some id) ∧ β' id = some (b, o) := by
      intro j b o hj
      unfold ownOf at hj
      cases hlj : l[j]? with
      | none => rw [hlj] at hj; cases hj
      | some q =>
        cases q with
        | none => rw [hlj] at hj; cases hj
        | some id =>
          rw [hlj] at hj
          exact ⟨id, rfl, hj⟩
    have hlive : ∀ (j id : Nat), l[j]? = some (some id) → liveB (s'.hp id) := by
      intro j id hj
      obtain ⟨c, hc⟩ := hL id (List.mem_of_getElem? hj)
      rw [hc]
      trivial
    refine ⟨h.fr.os, h.fr.tape, h.fr.output, h.fr.step, ?_, ?_, ?_⟩
    · refine hv _ ?_ ?_ (ownOf β' l) 0 (fun j _ => by rw [Nat.zero_add])
      · rintro b (⟨j, o, hj⟩ | hY)
        · obtain ⟨id, h1, h2⟩ := hown j b o hj
          exact .inl ⟨id, o, hlive j id h1, h2⟩
        · exact .inr hY
      · rintro hshr b (⟨j, o, hj⟩ | hY)
        · obtain ⟨id, h1, h2⟩ := hown j b o hj
          have := hsh hshr _ (List.mem_of_getElem? h1)
          cases this
        · exact hY
    · intro j b o hj
      obtain ⟨id, h1, h2⟩ := hown j b o hj
      refine ⟨?_, h.blt id b o (liveB_some (hlive j id h1)) h2⟩
      rcases h.ownd b ⟨id, o, hlive j id h1, h2⟩ with h3 | h3
      · exact h3.elim
      · exact h3
    · intro j j' b o o' hj hj'
      obtain ⟨id, h1, h2⟩ := hown j b o hj
      obtain ⟨id', h1', h2'⟩ := hown j' b o' hj'
      have := h.inj id id' b o o' (hlive j id h1) (hlive j' id' h1') h2 h2'
      subst this
      exact nodup_at hnd h1 h1'
  refine pevK_sound hNG hcall hm c hs hk2 (fun s' a' w' β' hr h => fin s' a' w' β' hr h) (fun id s' a' w' β' hr h => by cases hr) (fun s' a' w' β' hr h => fin s' a' w' β' hr h)

theorem pcall_sound (hNG : NoNG P) (hm : P.follows .mixedOrders = true) {C : Cfg} {fu : Nat} : ∀ (d : Nat) (f : FuncId) (args : List PV) (res : Res), pcall C P fu d f args = some res → SoundC P f args res
  | 0, _, _, _, h => by cases h
  | d + 1, f, args, res, h => by
    unfold pcall at h
    split at h
    · cases h
    · rename_i fn hf
      split at h
      · cases h
      · rename_i c hb
        exact pfun_sound hNG hm (pcall_sound hNG hm d) hf hb h
end

end Go.Proofs.Ytoidbofkmflocaa.Pv
