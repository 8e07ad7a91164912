/-
  Functions, second part: results out; calls.
-/
import Derived.Test.YtoihfmiifeegpaaPvS30
namespace Go.Proofs.Ytoihfmiifeegpaa.Pv
open Go.RowKit

/-- Which box goes along with a cell. -/
def ownOf (β : Bt) (l : List (Option Nat)) (j : Nat) : Option (Nat × Nat) := ((l[j]?).bind id).bind β

section
variable {R : Type} {r : R} {P : Program} {N : Nat} {w0 : World} {X0 : Lend} {Y : Nat → Prop} {β β' : Bt} {s : St} {a : Act} {w w' : World} {A : Nat → Prop}

def LiveId (s : St) (l : List (Option Nat)) : Prop := ∀ id, some id ∈ l → liveB (s.hp id)
def RowId (s : St) (z : List Nat) : Prop := ∀ id ∈ z, ∃ f c, s.hp id = some (.ar f c)

/-- A cell that goes back, shared or with its memory. -/
theorem outxK_inv (h : Sim N w0 X0 Y β s a w) {shr : Bool} {t : CT} {p : PV} {K : PV → List Nat → List Nat → Option R} (hk : outxK shr s.hp t p K = some r) :
    ∃ c q z, K c (Option.toList q) z = some r ∧ (∀ x, c ≠ .agg x ∧ c ≠ .pbox x) ∧ isF p ∧ (∀ id, q = some id → ∃ c, s.hp id = some (.ar false c)) ∧ RowId s z ∧
      ∀ (fz : List Nat) A u, (∀ i ∈ z, i ∈ fz) → RowId s fz → (∀ b, A b → Aof (freezeIds s.hp fz) β Y b) → CRep w (Aof s.hp β Y) β p u → OCell w A (q.bind β) c u := by
  have notree : ∀ {c : PV}, isT c → ∀ x, c ≠ .agg x ∧ c ≠ .pbox x := fun hT x => ⟨isT_agg hT x, by rintro rfl; exact hT⟩
  unfold outxK at hk
  cases shr <;> simp only [cond_true, cond_false] at hk
  · have tree : ∀ t', (∀ es, t' ≠ .sl es) → (tcK t' p fun c => K c [] []) = some r → ∃ c q z, K c (Option.toList q) z = some r ∧ (∀ x, c ≠ .agg x ∧ c ≠ .pbox x) ∧ isF p ∧ (∀ id, q = some id → ∃ c, s.hp id = some (.ar false c)) ∧ RowId s z ∧
        ∀ (fz : List Nat) A u, (∀ i ∈ z, i ∈ fz) → RowId s fz → (∀ b, A b → Aof (freezeIds s.hp fz) β Y b) → CRep w (Aof s.hp β Y) β p u → OCell w A (q.bind β) c u := by
      intro t' hne hk
      obtain ⟨c, hk1, hT, hpT, hv⟩ := tcK_inv hk
      refine ⟨c, none, [], hk1, notree hT, isF_isT hpT, by simp, (by intro i hi; cases hi), fun fz A u _ _ hA hc => OCell_tree hT ?_⟩
      exact (hv w _ β u hc).1.step (WStep.refl _ _) (fun b _ hb => freeze_A (hA b hb))
    unfold outcK at hk
    cases t with
    | sl es =>
      dsimp only at hk
      split at hk
      · rename_i id es' off n
        cases hb : (Nat.beq es' es && Nat.beq off 0) <;> rw [hb] at hk
        · cases hk
        · simp only [Bool.and_eq_true] at hb
          have he := Nat.eq_of_beq_eq_true hb.1
          have ho := Nat.eq_of_beq_eq_true hb.2
          subst he ho
          simp only [cond_true] at hk
          split at hk
          · rename_i c h0
            obtain ⟨hl, hk1⟩ := chk_inv hk
            refine ⟨_, some id, [], hk1, by simp, trivial, fun i hi => by cases hi; exact ⟨c, h0⟩, (by intro i hi; cases hi), fun fz A u _ _ hA hc => ?_⟩
            rcases hc with ⟨h1, _, rfl, h4⟩ | ⟨b, o, x, cap, h1, h2, hx, h3, h4, h5⟩
            · exact .inl ⟨h1, rfl, by simp, h4⟩
            · have hx : x = o := by rcases hx with e | ⟨_, e⟩ <;> omega
              subst hx
              rcases h.box id _ h0 with ⟨h6, _⟩ | ⟨b', o', h6, h7, h8, _⟩
              · rw [h1] at h6; cases h6
              · rw [h1] at h6
                cases h6
                refine .inr ⟨b, x, cap, h1, h2, h3, h4, h5, fun j q hq => ?_, fun j hj hj' => h8 rfl j hj hj'⟩
                rw [List.getElem?_take] at hq
                split at hq
                · obtain ⟨v, hv, h9, ht⟩ := h7 j q hq
                  exact ⟨v, hv, h9, ht.step (WStep.refl _ _) (fun b _ hb => freeze_A (hA b hb))⟩
                · cases hq
          · cases hk
      · obtain ⟨z, n, c, hk1, hp⟩ := lsK_inv hk
        obtain ⟨hz, hk2⟩ := chk_inv hk1
        subst hz
        have hpF : isF p := by rcases hp with e | ⟨e, _⟩ <;> (rw [e]; trivial)
        refine ⟨_, none, [], hk2, by simp, hpF, by simp, (by intro i hi; cases hi), fun fz A u _ _ _ hc => ?_⟩
        have hu : u = .slice none 0 0 := by
          rcases hp with rfl | ⟨rfl, _⟩
          · cases hc; rfl
          · exact TRep.val hc
        exact .inl ⟨rfl, rfl, rfl, hu⟩
    | int k => exact tree _ (by simp) hk
    | bool => exact tree _ (by simp) hk
    | str => exact tree _ (by simp) hk
    | any => exact tree _ (by simp) hk
  · obtain ⟨c, m, hk1, hT, hF, hm, hv⟩ := frcK_inv h hk
    exact ⟨c, none, m, hk1, notree hT, hF, by simp, hm, fun fz A u h1 h2 hA hc => OCell_tree hT ((hv fz h1 h2 u hc).1.step (WStep.refl _ _) (fun b _ hb => hA b hb))⟩

/-- What a row of cells that go back is. -/
structure OutL (s : St) (β : Bt) (Y : Nat → Prop) (w : World) (cs : List PV) (l : List (Option Nat)) (z : List Nat) (ps : List PV) : Prop where
  len : l.length = cs.length
  pl : cs.length = ps.length
  na : ∀ c ∈ cs, ∀ x, c ≠ .agg x ∧ c ≠ .pbox x
  fr : ∀ p ∈ ps, isF p
  own : ∀ id, some id ∈ l → ∃ c, s.hp id = some (.ar false c)
  row : RowId s z
  sem : ∀ (fz : List Nat) A us, (∀ i ∈ z, i ∈ fz) → RowId s fz → (∀ b, A b → Aof (freezeIds s.hp fz) β Y b) → All2 (CRep w (Aof s.hp β Y) β) ps us → ∀ own j0, (∀ j, j < l.length → own (j0 + j) = ownOf β l j) → OCells w A own j0 cs us

theorem OutL.nil : OutL s β Y w [] [] [] [] := ⟨rfl, rfl, by simp, by simp, by simp, (by intro i hi; cases hi), fun fz A us _ _ _ hu own j0 _ => by
  cases us with
  | nil => trivial
  | cons u us => exact hu.elim⟩

theorem OutL.cons {c p : PV} {q : Option Nat} {z zs : List Nat} {cs ps : List PV} {l : List (Option Nat)} (hna : ∀ x, c ≠ .agg x ∧ c ≠ .pbox x) (hF : isF p) (hq : ∀ id, q = some id → ∃ c, s.hp id = some (.ar false c)) (hz : RowId s z)
    (hv : ∀ (fz : List Nat) A u, (∀ i ∈ z, i ∈ fz) → RowId s fz → (∀ b, A b → Aof (freezeIds s.hp fz) β Y b) → CRep w (Aof s.hp β Y) β p u → OCell w A (q.bind β) c u) (H : OutL s β Y w cs l zs ps) : OutL s β Y w (c :: cs) (q :: l) (z ++ zs) (p :: ps) := by
  refine ⟨by simp [H.len], by simp [H.pl], ?_, ?_, ?_, ?_, fun fz A us hz1 hz2 hA hu own j0 hown => ?_⟩
  · intro x hx
    rcases List.mem_cons.1 hx with rfl | hx
    · exact hna
    · exact H.na x hx
  · intro x hx
    rcases List.mem_cons.1 hx with rfl | hx
    · exact hF
    · exact H.fr x hx
  · intro id hid
    rcases List.mem_cons.1 hid with e | hid
    · exact hq id e.symm
    · exact H.own id hid
  · intro i hi
    rcases List.mem_append.1 hi with hi | hi
    · exact hz i hi
    · exact H.row i hi
  · cases us with
    | nil => exact hu.elim
    | cons u us =>
      have h0 := hown 0 (by simp)
      rw [Nat.add_zero] at h0
      refine ⟨?_, H.sem fz A us (fun i hi => hz1 i (by simp [hi])) hz2 hA hu.2 own (j0 + 1) fun j hj => ?_⟩
      · rw [h0]
        exact hv fz A u (fun i hi => hz1 i (by simp [hi])) hz2 hA hu.1
      · have := hown (j + 1) (by simp; omega)
        rw [show j0 + 1 + j = j0 + (j + 1) by omega, this]
        simp [ownOf]

theorem outcsK_inv (h : Sim N w0 X0 Y β s a w) {shr : Bool} : ∀ {ts : List CT} {ps : List PV} {K : List PV → List Nat → List Nat → Option R}, outcsK shr s.hp ts ps K = some r →
    ∃ cs l z, K cs (l.filterMap id) z = some r ∧ OutL s β Y w cs l z ps
  | [], [], K, hk => ⟨[], [], [], hk, OutL.nil⟩
  | [], _ :: _, K, hk => by cases hk
  | _ :: _, [], K, hk => by cases hk
  | t :: ts, p :: ps, K, hk => by
    unfold outcsK at hk
    obtain ⟨c, q, z, hk1, hna, hF, hq, hz, hv⟩ := outxK_inv h hk
    obtain ⟨cs, l, zs, hk2, H⟩ := outcsK_inv h hk1
    refine ⟨c :: cs, q :: l, z ++ zs, ?_, OutL.cons hna hF hq hz hv H⟩
    cases q <;> exact hk2

theorem backcsK_inv (h : Sim N w0 X0 Y β s a w) : ∀ {ts : List CT} {ws ps : List PV} {K : List PV → List Nat → List Nat → Option R}, backcsK s.hp ts ws ps K = some r →
    ∃ cs l z, K cs (l.filterMap id) z = some r ∧ cs.length = ws.length ∧ OutL s β Y w cs l z ps
  | [], [], [], K, hk => ⟨[], [], [], hk, rfl, OutL.nil⟩
  | [], _ :: _, _, K, hk => by cases hk
  | [], [], _ :: _, K, hk => by cases hk
  | _ :: _, [], _, K, hk => by cases hk
  | _ :: _, _ :: _, [], K, hk => by cases hk
  | t :: ts, x :: ws, p :: ps, K, hk => by
    unfold backcsK at hk
    obtain ⟨c, q, z, hk1, hna, hF, hq, hz, hv⟩ := outxK_inv h hk
    obtain ⟨cs, l, zs, hk2, hl, H⟩ := backcsK_inv h hk1
    refine ⟨c :: cs, q :: l, z ++ zs, ?_, by simp [hl], OutL.cons hna hF hq hz hv H⟩
    cases q <;> exact hk2

theorem OCells_one {own : Bt} {zz j : Nat} {p : PV} {u : Value} (hp : ∀ x, p ≠ .agg x ∧ p ≠ .pbox x) (h : OCells w A own j [p] [u]) : OVal w A own zz j p u := by
  cases p <;> first | exact h.1 | exact absurd rfl (hp _).1 | exact absurd rfl (hp _).2

/-- The cells of a variable that goes back. -/
theorem obox_of (h : Sim N w0 X0 Y β s a w) {id b o : Nat} {c cs : List PV} {l : List (Option Nat)} {z : List Nat} (h0 : s.hp id = some (.st c)) (hβ : β id = some (b, o)) (H : OutL s β Y w cs l z c) {fz : List Nat} {A : Nat → Prop} (h1 : ∀ i ∈ z, i ∈ fz) (h2 : RowId s fz) (hA : ∀ b, A b → Aof (freezeIds s.hp fz) β Y b)
    {own : Bt} {j0 : Nat} (hown : ∀ j, j < l.length → own (j0 + j) = ownOf β l j) : OBox w A own j0 b o cs := by
  obtain ⟨b', o', hb1, hb2, hb3⟩ := h.box id _ h0
  rw [hβ] at hb1
  cases hb1
  refine ⟨c.mapIdx (fun j _ => (w.cell? ⟨b, o + j, none⟩).getD undef), H.sem fz A _ h1 h2 hA ?_ own j0 hown, ?_, fun k hk => hb3 k (by have := H.pl; omega)⟩
  · refine All2.of_at (by simp) fun j p v hp hv => ?_
    obtain ⟨u, hu, hcr⟩ := hb2 j p hp
    rw [List.getElem?_mapIdx, hp, Option.map_some, hu] at hv
    simp at hv
    subst hv
    exact hcr
  · intro k v hkv
    rw [List.getElem?_mapIdx] at hkv
    cases hp : c[k]? with
    | none => rw [hp] at hkv; cases hkv
    | some p =>
      obtain ⟨u, hu, hcr⟩ := hb2 k p hp
      rw [hp, Option.map_some, hu] at hkv
      simp at hkv
      subst hkv
      exact hu

/-- One result. -/
theorem outvK_inv (h : Sim N w0 X0 Y β s a w) {shr : Bool} {t : TypeId} {p : PV} {u : Value} (hp : VRep w (Aof s.hp β Y) β p u) {K : PV → List Nat → List Nat → Option R} (hk : outvK P shr s.hp t p K = some r) :
    ∃ v l z, K v (l.filterMap id) z = some r ∧ l.length = plc v ∧ LiveId s l ∧ RowId s z ∧
      ∀ (fz : List Nat) A zz, (∀ i ∈ z, i ∈ fz) → RowId s fz → (∀ b, A b → Aof (freezeIds s.hp fz) β Y b) → (∀ id c b o, some id ∈ l → s.hp id = some (.st c) → β id = some (b, o) → zz ≤ b) →
        ∀ own j0, (∀ j, j < l.length → own (j0 + j) = ownOf β l j) → OVal w A own zz j0 v u := by
  unfold outvK at hk
  split at hk
  · rename_i e he
    split at hk
    · rename_i id off
      split at hk
      · rename_i c h0
        obtain ⟨hof, hk1⟩ := chk_inv hk
        have hof := Nat.eq_of_beq_eq_true hof
        subst hof
        obtain ⟨cs, l, z, hk2, H⟩ := outcsK_inv h hk1
        obtain ⟨b, o, hβ, hu⟩ := hp
        refine ⟨.pbox cs, some id :: l, z, hk2, by simp only [plc, List.length_cons, H.len]; omega, ?_, H.row, fun fz A zz h1 h2 hA hz own j0 hown => ?_⟩
        · intro i hi
          rcases List.mem_cons.1 hi with e | hi
          · cases e; rw [h0]; trivial
          · obtain ⟨c', hc'⟩ := H.own i hi
            rw [hc']; trivial
        · have h3 := hown 0 (by simp)
          rw [Nat.add_zero] at h3
          refine ⟨b, o, by rw [h3]; exact hβ, hz id c b o (by simp) h0 hβ, by rw [hu, Nat.add_zero], obox_of h h0 hβ H h1 h2 hA fun j hj => ?_⟩
          have := hown (j + 1) (by simp; omega)
          rw [show j0 + 1 + j = j0 + (j + 1) by omega, this]
          simp [ownOf]
      · cases hk
    · cases hk
  · cases hagg : isAggB P t <;> rw [hagg] at hk <;> simp only [cond_true, cond_false] at hk
    · obtain ⟨cs, l, z, hk1, H⟩ := outcsK_inv h hk
      obtain ⟨c, cs', hcs, hk2⟩ := consK_inv hk1
      subst hcs
      obtain ⟨hnil, hk3⟩ := nilK_inv hk2
      subst hnil
      have hna := H.na c (by simp)
      have hc1 : plc c = 1 := by cases c <;> first | rfl | exact absurd rfl (hna _).1 | exact absurd rfl (hna _).2
      have hF := H.fr p (by simp)
      refine ⟨c, l, z, hk3, by rw [hc1]; exact H.len, fun i hi => ?_, H.row, fun fz A zz h1 h2 hA _ own j0 hown => OCells_one hna (H.sem fz A [u] h1 h2 hA ⟨?_, trivial⟩ own j0 hown)⟩
      · obtain ⟨c', hc'⟩ := H.own i hi
        rw [hc']; trivial
      · cases p <;> first | exact hp | exact hF.elim
    · obtain ⟨ps, hps, hk1⟩ := aggK_inv hk
      subst hps
      obtain ⟨cs, l, z, hk2, H⟩ := outcsK_inv h hk1
      obtain ⟨vs, hu, hvs⟩ := hp
      refine ⟨.agg cs, l, z, hk2, H.len, fun i hi => ?_, H.row, fun fz A zz h1 h2 hA _ own j0 hown => ⟨vs, hu, H.sem fz A vs h1 h2 hA hvs own j0 hown⟩⟩
      obtain ⟨c', hc'⟩ := H.own i hi
      rw [hc']; trivial

/-- What a result variable holds. -/
def resRun (P : Program) (tmps : Array Value) (w : World) (rv : ResultVar) (u : Value) : Prop :=
  (match rv with
   | .tmp t => (pure (tmps.getD t undef) : Sem Value)
   | .cell a t => do loadVar t (← asAddr (tmps.getD a undef))).run P w = .ok u w

theorem tm_rep (h : Sim N w0 X0 Y β s a w) (t : Nat) : VRep w (Aof s.hp β Y) β (s.tm t) (a.tmps.getD t undef) := by
  rcases Nat.lt_or_ge t N with h' | h'
  · exact h.tms t h'
  · rw [h.tmo t h']
    exact TRep.top _

theorem resvK_inv (h : Sim N w0 X0 Y β s a w) {rv : ResultVar} {K : PV → Option R} (hk : resvK P s rv K = some r) : ∃ p u, K p = some r ∧ resRun P a.tmps w rv u ∧ VRep w (Aof s.hp β Y) β p u := by
  unfold resvK at hk
  split at hk
  · rename_i t
    exact ⟨_, _, hk, rfl, tm_rep h t⟩
  · rename_i x t
    obtain ⟨v, ad, val, hk1, hax, hl, hv, _⟩ := load_val h (tm_rep h x) hk
    refine ⟨v, val, hk1, ?_, hv⟩
    unfold resRun
    simp [hax, asAddr, hl]

theorem ownOf_app1 {l l' : List (Option Nat)} {j : Nat} (h : j < l.length) : ownOf β (l ++ l') j = ownOf β l j := by
  unfold ownOf
  rw [List.getElem?_append_left h]
theorem ownOf_app2 {l l' : List (Option Nat)} {j : Nat} : ownOf β (l ++ l') (l.length + j) = ownOf β l' j := by
  unfold ownOf
  rw [List.getElem?_append_right (by omega), Nat.add_sub_cancel_left]

theorem outvsK_inv (h : Sim N w0 X0 Y β s a w) {shr : Bool} : ∀ {rs : List ResultVar} {ts : List TypeId} {K : List PV → List Nat → List Nat → Option R}, outvsK P shr s rs ts K = some r →
    ∃ vs l z us, K vs (l.filterMap id) z = some r ∧ All2 (resRun P a.tmps w) rs us ∧ l.length = plcSum vs ∧ LiveId s l ∧ RowId s z ∧
      ∀ (fz : List Nat) A zz, (∀ i ∈ z, i ∈ fz) → RowId s fz → (∀ b, A b → Aof (freezeIds s.hp fz) β Y b) → (∀ id c b o, some id ∈ l → s.hp id = some (.st c) → β id = some (b, o) → zz ≤ b) →
        ∀ own j0, (∀ j, j < l.length → own (j0 + j) = ownOf β l j) → OVals w A own zz j0 vs us
  | [], [], K, hk => ⟨[], [], [], [], hk, trivial, rfl, (by intro id hid; cases hid), (by intro id hid; cases hid), fun _ _ _ _ _ _ _ _ _ _ => trivial⟩
  | [], _ :: _, K, hk => by cases hk
  | _ :: _, [], K, hk => by cases hk
  | rv :: rs, t :: ts, K, hk => by
    unfold outvsK at hk
    obtain ⟨p, u, hk1, hu, hp⟩ := resvK_inv h hk
    obtain ⟨v, l, z, hk2, hl, hL, hz, hv⟩ := outvK_inv h hp hk1
    obtain ⟨vs, l', z', us, hk3, hus, hl', hL', hz', hvs⟩ := outvsK_inv h hk2
    refine ⟨v :: vs, l ++ l', z ++ z', u :: us, ?_, ⟨hu, hus⟩, by simp only [List.length_append, plcSum, List.map_cons, List.sum_cons, hl]; rw [hl']; rfl, ?_, ?_, fun fz A zz h1 h2 hA hst own j0 hown => ⟨?_, ?_⟩⟩
    · rw [List.filterMap_append]; exact hk3
    · intro id hid
      rcases List.mem_append.1 hid with hid | hid
      · exact hL id hid
      · exact hL' id hid
    · intro id hid
      rcases List.mem_append.1 hid with hid | hid
      · exact hz id hid
      · exact hz' id hid
    · exact hv fz A zz (fun i hi => h1 i (by simp [hi])) h2 hA (fun id c b o hi => hst id c b o (by simp [hi])) own j0 fun j hj => by rw [hown j (by simp; omega), ownOf_app1 hj]
    · refine hvs fz A zz (fun i hi => h1 i (by simp [hi])) h2 hA (fun id c b o hi => hst id c b o (by simp [hi])) own (j0 + plc v) fun j hj => ?_
      rw [← hl, Nat.add_assoc, hown (l.length + j) (by simp; omega), ownOf_app2]

/-- What was lent goes back. -/
theorem backsK_inv (h : Sim N w0 X0 Y β s a w) {bt : Bt2} (hpt : ∀ i, X0.pt i = bt i 0) : ∀ {ts : List TypeId} {i : Nat} {ps : List PV} {K : List (List PV) → List Nat → List Nat → List Nat → Option R}, backsK P N s.hp i ts ps K = some r →
    (∀ k p, ps[k]? = some p → isL p = true → X0.pn (i + k)) →
    ∃ os l z q, K os (l.filterMap id) z q = some r ∧ (∀ id, some id ∈ l → ∃ c, s.hp id = some (.ar false c)) ∧ RowId s z ∧ (∀ id ∈ q, liveB (s.hp id)) ∧ (∀ k p, ps[k]? = some p → isL p = true → pinId N (i + k) ∈ q) ∧
      ∀ (fz : List Nat) A, (∀ i ∈ z, i ∈ fz) → RowId s fz → (∀ i ∈ q, i ∉ fz) → (∀ b, A b → Aof (freezeIds s.hp fz) β Y b) →
        ∀ own j0, (∀ j, j < l.length → own (j0 + j) = ownOf β l j) → OOuts w A own bt j0 i ps os
  | [], i, ps, K, hk, _ => by
    obtain ⟨hps, hk⟩ := nilK_inv hk
    subst hps
    exact ⟨[], [], [], [], hk, by simp, (by intro id hid; cases hid), by simp, by simp, fun _ _ _ _ _ _ _ _ _ => rfl⟩
  | t :: ts, i, ps, K, hk, hpn => by
    unfold backsK at hk
    obtain ⟨p, ps', hps, hk1⟩ := consK_inv hk
    subst hps
    have hpn' : ∀ k p, ps'[k]? = some p → isL p = true → X0.pn (i + 1 + k) := fun k p' h1 h2 => by
      have := hpn (k + 1) p' (by simpa using h1) h2
      rw [show i + 1 + k = i + (k + 1) by omega]
      exact this
    have hpq : ∀ {q : List Nat}, (isL p = true → pinId N i ∈ q) → (∀ k p, ps'[k]? = some p → isL p = true → pinId N (i + 1 + k) ∈ q) → ∀ k p', (p :: ps')[k]? = some p' → isL p' = true → pinId N (i + k) ∈ q := by
      intro q h1 h2 k p' h3 h4
      cases k with
      | zero =>
        simp only [List.getElem?_cons_zero, Option.some.injEq] at h3
        subst h3
        exact h1 h4
      | succ k =>
        have := h2 k p' (by simpa using h3) h4
        rw [show i + 1 + k = i + (k + 1) by omega] at this
        exact this
    split at hk1
    · rename_i ws
      obtain ⟨e, he, hk2⟩ := optK_inv hk1
      split at hk2
      · rename_i c h0
        obtain ⟨cs, l, z, hk3, hcl, H⟩ := backcsK_inv h hk2
        obtain ⟨os, l', z', q, hk4, hL', hz', hq', hpi, hv⟩ := backsK_inv h hpt hk3 hpn'
        refine ⟨cs :: os, l ++ l', z ++ z', pinId N i :: q, by rw [List.filterMap_append]; exact hk4, ?_, ?_, ?_, hpq (fun _ => List.mem_cons_self) (fun k p h1 h2 => List.mem_cons_of_mem _ (hpi k p h1 h2)), fun fz A h1 h2 h3 hA own j0 hown => ?_⟩
        · intro id hid
          rcases List.mem_append.1 hid with hid | hid
          · exact H.own id hid
          · exact hL' id hid
        · intro id hid
          rcases List.mem_append.1 hid with hid | hid
          · exact H.row id hid
          · exact hz' id hid
        · intro id hid
          rcases List.mem_cons.1 hid with rfl | hid
          · rw [h0]; trivial
          · exact hq' id hid
        · have hpin := (h.pin i (by have := hpn 0 _ rfl rfl; rwa [Nat.add_zero] at this)).2
          obtain ⟨b, o, hb1, _, _⟩ := h.box _ _ h0
          rw [hb1, hpt] at hpin
          refine ⟨⟨b, o, hpin.symm, hcl, obox_of h h0 hb1 H (fun i hi => h1 i (by simp [hi])) h2 hA fun j hj => by rw [hown j (by simp; omega), ownOf_app1 hj]⟩, ?_⟩
          refine hv fz A (fun i hi => h1 i (by simp [hi])) h2 (fun i hi => h3 i (by simp [hi])) hA own (j0 + cs.length) fun j hj => ?_
          rw [← H.len, Nat.add_assoc, hown (l.length + j) (by simp; omega), ownOf_app2]
      · cases hk2
    · split at hk1
      · rename_i c h0
        obtain ⟨os, l', z', q, hk4, hL', hz', hq', hpi, hv⟩ := backsK_inv h hpt hk1 hpn'
        refine ⟨c :: os, l', z', pinId N i :: q, hk4, hL', hz', ?_, hpq (fun _ => List.mem_cons_self) (fun k p h1 h2 => List.mem_cons_of_mem _ (hpi k p h1 h2)), fun fz A h1 h2 h3 hA own j0 hown => ⟨?_, hv fz A h1 h2 (fun i hi => h3 i (by simp [hi])) hA own j0 hown⟩⟩
        · intro id hid
          rcases List.mem_cons.1 hid with rfl | hid
          · rw [h0]; trivial
          · exact hq' id hid
        · have hpin := (h.pin i (by have := hpn 0 _ rfl rfl; rwa [Nat.add_zero] at this)).2
          rw [hpt] at hpin
          rcases h.box _ _ h0 with ⟨h4, h5⟩ | ⟨b, o, h4, h5, h6, _⟩
          · exact .inl ⟨by rw [← hpin]; exact h4, h5⟩
          · exact .inr ⟨b, o, by rw [← hpin]; exact h4, h5.weak (fun b _ hb => freeze_A (hA b hb)), h6 rfl⟩
      · cases hk1
    · rename_i hn1 hn2
      have hnL : isL p = false := by cases p <;> first | rfl | exact absurd rfl (hn1 _) | exact absurd rfl (hn2 _)
      obtain ⟨os, l', z', q, hk4, hL', hz', hq', hpi, hv⟩ := backsK_inv h hpt hk1 hpn'
      refine ⟨os, l', z', q, hk4, hL', hz', hq', hpq (fun e => by rw [hnL] at e; cases e) hpi, fun fz A h1 h2 h3 hA own j0 hown => ?_⟩
      have := hv fz A h1 h2 h3 hA own j0 hown
      cases p <;> first | exact this | cases hnL

theorem mapM_run {f : ResultVar → Sem Value} : ∀ {rs : List ResultVar} {us : List Value}, All2 (fun rv u => (f rv).run P w = .ok u w) rs us → (rs.mapM f).run P w = .ok us w
  | [], [], _ => by simp
  | [], _ :: _, h => h.elim
  | _ :: _, [], h => h.elim
  | rv :: rs, u :: us, h => by
    rw [List.mapM_cons]
    simp [h.1, mapM_run h.2]

theorem results_run {fn : Func} {us : List Value} (h : All2 (resRun P a.tmps w) fn.results.toList us) : (results fn a.tmps).run P w = .ok (retVal us) w := by
  unfold results
  rw [Array.mapM_eq_mapM_toList]
  simp only [map_eq_pure_bind, bind_assoc, pure_bind, Sem.run_bind]
  refine Eq.trans (congrArg (fun x => Result.andThen x _) (mapM_run h)) ?_
  simp only [Result.andThen_ok, Sem.run_pure]
  congr 1
  clear h
  match us with
  | [] => rfl
  | [u] => rfl
  | u :: v :: us => exact dif_neg (by simp)

theorem nodup_at : ∀ {l : List (Option Nat)}, nodupB (l.filterMap id) = true → ∀ {j j' i : Nat}, l[j]? = some (some i) → l[j']? = some (some i) → j = j'
  | [], _, j, j', i, h, _ => by simp at h
  | q :: l, hn, j, j', i, h, h' => by
    have hn' : nodupB (l.filterMap id) = true := by
      cases q with
      | none => exact hn
      | some x =>
        simp only [List.filterMap_cons, id_eq, nodupB, Bool.and_eq_true] at hn
        exact hn.2
    have hq : ∀ (x k : Nat), q = some x → l[k]? ≠ some (some x) := by
      intro x k e hk
      subst e
      simp only [List.filterMap_cons, id_eq, nodupB, Bool.and_eq_true, Bool.not_eq_true'] at hn
      exact any_beq hn.1 (List.mem_filterMap.2 ⟨some x, List.mem_of_getElem? hk, rfl⟩)
    cases j with
    | zero =>
      cases j' with
      | zero => rfl
      | succ k' =>
        simp at h h'
        exact absurd h' (hq i k' h)
    | succ k =>
      cases j' with
      | zero =>
        simp at h h'
        exact absurd h (hq i k h')
      | succ k' =>
        simp at h h'
        rw [nodup_at hn' h h']

/-- A function keeps its contract. -/
theorem pfun_sound (hNG : NoNG P) (hm : P.follows .mixedOrders = true) {C : Cfg} {fu : Nat} {call : Call'} (hcall : ∀ f args res, call f args = some res → SoundC P f args res) {f : FuncId} {fn : Func} {c : Code} (hf : P.funcs[f]? = some fn) (hb : fn.body = some c)
    {args : List PV} {res : Res} (hk : pfun C P fu call f fn c args = some res) : SoundC P f args res := by
  refine ⟨⟨fn, hf, by rw [hb]; rfl⟩, fun w Y bt us hin => ?_⟩
  unfold pfun at hk
  obtain ⟨tms, bs, hk1, hst⟩ := sim_start hin hk
  obtain ⟨hb1, hk2⟩ := chk_inv hk1
  simp only [Bool.and_eq_true] at hb1
  have hlen : us.length ≤ fn.ntmps := by
    rw [← hin.args.len]
    exact Nat.le_of_ble_eq_true hb1.1
  obtain ⟨h8, β0, hs⟩ := hst hb1.2 hlen
  refine calls_of_wp hf hb ?_
  have fin : ∀ (s' : St) (a' : Act) (w' : World) (β' : Bt), retK C P f fn args s' = some res → Sim fn.ntmps w (lendOf bt args h8) Y β' s' a' w' →
      a'.defers = [] ∧ ∃ v, (results fn a'.tmps).run P w' = .ok v w' ∧ ∃ vs own, Ending.returned v = .returned (retVal vs) ∧ Out w w' Y bt args own res vs := by
    intro s' a' w' β' hr h
    unfold retK at hr
    obtain ⟨vs, l, z, us', hr1, hus, hll, hL, hz, hv⟩ := outvsK_inv h hr
    obtain ⟨os, l', z', q, hr2, hL', hz', hq, hpi, hv'⟩ := backsK_inv h (bt := bt) (fun _ => rfl) hr1 (fun k p h1 h2 => by rw [Nat.zero_add]; exact ⟨p, h1, h2⟩)
    obtain ⟨hnd, hr3⟩ := chk_inv hr2
    cases hr3
    simp only [Bool.and_eq_true] at hnd
    obtain ⟨hnd, hdis⟩ := hnd
    obtain ⟨hn1, hn2, hn3⟩ := nodupB_app hnd
    have hfz : ∀ i ∈ z ++ z', i ∉ (l.filterMap id ++ l'.filterMap id) ++ q := by
      intro i hi hm'
      have := List.all_eq_true.1 hdis i hi
      have h2 : ((l.filterMap id ++ l'.filterMap id) ++ q).any (Nat.beq i) = true := List.any_eq_true.2 ⟨i, hm', Nat.beq_refl i⟩
      rw [h2] at this
      cases this
    have hrow : RowId s' (z ++ z') := by
      intro i hi
      rcases List.mem_append.1 hi with hi | hi
      · exact hz i hi
      · exact hz' i hi
    refine ⟨h.dfr, retVal us', results_run hus, us', ownOf β' (l ++ l'), rfl, ?_⟩
    have hnd' : nodupB ((l ++ l').filterMap id) = true := by rw [List.filterMap_append]; exact hn1
    have hown : ∀ j b o, ownOf β' (l ++ l') j = some (b, o) → ∃ id, (l ++ l')[j]? = some (some id) ∧ β' id = some (b, o) := by
      intro j b o hj
      unfold ownOf at hj
      cases hlj : (l ++ l')[j]? with
      | none => rw [hlj] at hj; cases hj
      | some q =>
        cases q with
        | none => rw [hlj] at hj; cases hj
        | some id =>
          rw [hlj] at hj
          exact ⟨id, rfl, hj⟩
    have hmem : ∀ (j i : Nat), (l ++ l')[j]? = some (some i) → i ∈ l.filterMap id ++ l'.filterMap id := by
      intro j i hj
      rw [← List.filterMap_append]
      exact List.mem_filterMap.2 ⟨some i, List.mem_of_getElem? hj, rfl⟩
    have hlive : ∀ (j i : Nat), (l ++ l')[j]? = some (some i) → liveB (s'.hp i) := by
      intro j i hj
      rcases List.mem_append.1 (List.mem_of_getElem? hj) with hm' | hm'
      · exact hL i hm'
      · obtain ⟨c, hc⟩ := hL' i hm'
        rw [hc]; trivial
    have hunfz : ∀ i, i ∈ (l.filterMap id ++ l'.filterMap id) ++ q → freezeIds s'.hp (z ++ z') i = s'.hp i := by
      intro i hi
      rw [freeze_get, if_neg (fun hm' => hfz i hm' hi)]
    -- what was lent
    have hpinL : ∀ i b o, bt i 0 = some (b, o) → pinId fn.ntmps i ∈ q ∧ liveB (s'.hp (pinId fn.ntmps i)) ∧ β' (pinId fn.ntmps i) = some (b, o) := by
      intro i b o hb0
      obtain ⟨p, h1, h2⟩ := hin.l0 i _ hb0
      have h3 := hpi i p h1 h2
      rw [Nat.zero_add] at h3
      exact ⟨h3, hq _ h3, (h.pin i ⟨p, h1, h2⟩).2.trans hb0⟩
    have hAO : ∀ b, OutA bt (ownOf β' (l ++ l')) Y b → Aof (freezeIds s'.hp (z ++ z')) β' Y b := by
      rintro b (⟨j, o, hj⟩ | ⟨i, o, hb0⟩ | hY)
      · obtain ⟨id, h1, h2⟩ := hown j b o hj
        refine .inl ⟨id, o, ?_, h2⟩
        rw [hunfz id (List.mem_append.2 (.inl (hmem j id h1)))]
        exact hlive j id h1
      · obtain ⟨h1, h2, h3⟩ := hpinL i b o hb0
        refine .inl ⟨_, o, ?_, h3⟩
        rw [hunfz _ (List.mem_append.2 (.inr h1))]
        exact h2
      · exact .inr hY
    have hnew : ∀ (j id b o : Nat), (l ++ l')[j]? = some (some id) → β' id = some (b, o) → b < w.heap.size → ∃ i k o', bt i (k + 1) = some (b, o') := by
      intro j id b o hj hβ hlt
      rcases h.ownd b ⟨id, o, hlive j id hj, hβ⟩ with ⟨i, k, o', hb0⟩ | hge
      · cases k with
        | zero =>
          obtain ⟨h1, h2, h3⟩ := hpinL i b o' hb0
          have := h.inj id _ b o o' (hlive j id hj) h2 hβ h3
          subst this
          exact absurd h1 (hn3 _ (hmem j _ hj))
        | succ k => exact ⟨i, k, o', hb0⟩
      · omega
    refine ⟨h.fr.os, h.fr.tape, h.fr.output, h.fr.step, h.fr.rng, ?_, ?_, ?_, ?_⟩
    · refine hv (z ++ z') _ _ (fun i hi => List.mem_append.2 (.inl hi)) hrow hAO (fun id c b o hi hc hβ => ?_) _ 0 (fun j hj => by rw [Nat.zero_add, ownOf_app1 hj])
      rcases Nat.lt_or_ge b w.heap.size with hlt | hge
      · obtain ⟨k, hk', p, h1, h2⟩ := h.stp id c b o hc hβ hlt
        have h3 := hpi k p h1 h2
        rw [Nat.zero_add, ← hk'] at h3
        obtain ⟨j, hj⟩ := List.mem_iff_getElem?.1 hi
        refine absurd h3 (hn3 id ?_)
        exact List.mem_append.2 (.inl (List.mem_filterMap.2 ⟨some id, hi, rfl⟩))
      · exact hge
    · refine hv' (z ++ z') _ (fun i hi => List.mem_append.2 (.inr hi)) hrow (fun i hi hm' => hfz i hm' (List.mem_append.2 (.inr hi))) hAO _ _ (fun j hj => ?_)
      rw [← hll, ownOf_app2]
    · intro j b o hj
      obtain ⟨id, h1, h2⟩ := hown j b o hj
      refine ⟨h.blt id b o (liveB_some (hlive j id h1)) h2, fun hlt => ⟨hnew j id b o h1 h2 hlt, fun x hx => ?_⟩⟩
      cases hbx : s'.hp id with
      | none => have := hlive j id h1; rw [hbx] at this; exact this.elim
      | some bx =>
        have hl1 := hlive j id h1
        rw [hbx] at hl1
        cases bx with
        | st c =>
          obtain ⟨k, hk', p, h3, h4⟩ := h.stp id c b o hbx h2 hlt
          have h5 := hpi k p h3 h4
          rw [Nat.zero_add, ← hk'] at h5
          exact absurd h5 (hn3 _ (hmem j _ h1))
        | ar fz c => exact h.rngB id _ b o hbx hl1 h2 hlt x hx
        | mv => exact hl1.elim
    · intro j j' b o o' hj hj'
      obtain ⟨id, h1, h2⟩ := hown j b o hj
      obtain ⟨id', h1', h2'⟩ := hown j' b o' hj'
      have := h.inj id id' b o o' (hlive j id h1) (hlive j' id' h1') h2 h2'
      subst this
      exact nodup_at hnd' h1 h1'
  refine pevK_sound hNG hcall hm c hs hk2 (fun s' a' w' β' hr h => fin s' a' w' β' hr h) (fun id s' a' w' β' hr h => by cases hr) (fun s' a' w' β' hr h => fin s' a' w' β' hr h)

theorem pcall_sound (hNG : NoNG P) (hm : P.follows .mixedOrders = true) {C : Cfg} {fu : Nat} : ∀ (d : Nat) (f : FuncId) (args : List PV) (res : Res), pcall C P fu d f args = some res → SoundC P f args res
  | 0, _, _, _, h => by cases h
  | d + 1, f, args, res, h => by
    unfold pcall at h
    split at h
    · cases h
    · rename_i fn hf
      split at h
      · cases h
      · rename_i c hb
        exact pfun_sound hNG hm (pcall_sound hNG hm d) hf hb h
end

end Go.Proofs.Ytoihfmiifeegpaa.Pv
