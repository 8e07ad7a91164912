/-
  Functions: arguments in.
-/
import Derived.Test.YtoihfmiifeegpaaPvS29
namespace Go.Proofs.Ytoihfmiifeegpaa.Pv
open Go.RowKit

theorem lkh_mem : ∀ {l : List (Nat × Box)} {i : Nat} {b : Box}, lkh l i = some b → (i, b) ∈ l
  | [], _, _, h => by cases h
  | (j, c) :: l, i, b, h => by
    unfold lkh at h
    cases hb : Nat.beq i j <;> rw [hb] at h
    · exact List.mem_cons_of_mem _ (lkh_mem h)
    · have := Nat.eq_of_beq_eq_true hb
      cases h
      rw [this]
      simp

theorem lkh_of : ∀ {l : List (Nat × Box)}, (l.map (·.1)).Nodup → ∀ {i b}, (i, b) ∈ l → lkh l i = some b
  | [], _, _, _, h => by cases h
  | (j, c) :: l, hn, i, b, h => by
    simp only [List.map_cons, List.nodup_cons] at hn
    unfold lkh
    rcases List.mem_cons.1 h with e | h
    · cases e
      simp only [Nat.beq_refl, cond_true]
    · have : Nat.beq i j = false := by
        cases hb : Nat.beq i j
        · rfl
        · exact absurd (Nat.eq_of_beq_eq_true hb ▸ List.mem_map.2 ⟨_, h, rfl⟩) hn.1
      simp only [this, cond_false]
      exact lkh_of hn.2 h

section
variable {R : Type} {r : R} {P : Program} {N : Nat} {w0 : World} {X0 : Lend} {Y : Nat → Prop} {β β' : Bt} {s : St} {a : Act} {w w' : World} {A : Nat → Prop}

theorem incK_inv {id : Nat} {t : CT} {p : PV} {K : PV → List (Nat × Box) → Option R} (hk : incK id t p K = some r) :
    (∃ c, K c [] = some r ∧ isT c ∧ ∀ w A q u, OCell w A q p u → TRep w A c u) ∨ ∃ es n cc, p = .own es n cc ∧ K (.view id es 0 n) [(id, .ar false cc)] = some r := by
  have tree : ∀ t', (tcK t' p fun c => K c []) = some r → ∃ c, K c [] = some r ∧ isT c ∧ ∀ w A q u, OCell w A q p u → TRep w A c u := by
    intro t' hk
    obtain ⟨c, hk, hT, hpT, hv⟩ := tcK_inv hk
    refine ⟨c, hk, hT, fun w A q u h => (hv w A (fun _ => none) u ?_).1⟩
    cases p <;> first | exact h | exact hpT.elim
  unfold incK at hk
  cases t with
  | sl es =>
    dsimp only at hk
    split at hk
    · rename_i es' n c
      cases hb : Nat.beq es' es <;> rw [hb] at hk
      · cases hk
      · have := Nat.eq_of_beq_eq_true hb
        subst this
        exact .inr ⟨_, _, _, rfl, hk⟩
    · exact .inl (tree (.sl es) hk)
  | int k => exact .inl (tree _ hk)
  | bool => exact .inl (tree _ hk)
  | str => exact .inl (tree _ hk)
  | any => exact .inl (tree _ hk)

/-- Cells that come in. -/
theorem incsK_inv : ∀ {ts : List CT} {id : Nat} {ps : List PV} {K : List PV → List (Nat × Box) → Option R}, incsK N id ts ps K = some r →
    ∃ cs bs, ∃ qs : List (Nat × Nat), K cs bs = some r ∧ cs.length = ps.length ∧ ps.length = ts.length ∧ bs.map (·.1) = qs.map (·.1) ∧ (∀ q ∈ qs, ∀ q' ∈ qs, q.2 = q'.2 → q.1 = q'.1) ∧
      (∀ i bx, (i, bx) ∈ bs → ∃ c, bx = .ar false c) ∧ (∀ c ∈ cs, isF c) ∧ (∀ c ∈ cs, ∀ i ∈ refsC c, ∃ bx, (i, bx) ∈ bs) ∧
      ∀ (w : World) (A : Nat → Prop) (own β' : Bt) (j0 : Nat) (us : List Value), (∀ q ∈ qs, β' q.1 = own (j0 + q.2)) → OCells w A own j0 ps us → All2 (CRep w A β') cs us ∧ ∀ i bx, (i, bx) ∈ bs → BRep w A β' i bx
  | [], id, ps, K, hk => by
    obtain ⟨rfl, hk⟩ := nilK_inv hk
    refine ⟨[], [], [], hk, rfl, rfl, rfl, by simp, by simp, by simp, by simp, fun w A own β' j0 us _ h => ⟨?_, by simp⟩⟩
    cases us with
    | nil => trivial
    | cons u us => exact h.elim
  | t :: ts, id, ps, K, hk => by
    unfold incsK at hk
    obtain ⟨p, ps', hps, hk1⟩ := consK_inv hk
    subst hps
    rcases incK_inv hk1 with ⟨c, hk2, hT, hv⟩ | ⟨es, n, cc, rfl, hk2⟩
    · obtain ⟨cs, bs, qs, hk3, hl, hl2, hb, hq2, hb1, hF, hb2, hvs⟩ := incsK_inv hk2
      refine ⟨c :: cs, bs, qs.map (fun q => (q.1, q.2 + 1)), hk3, by simp [hl], by simp [hl2], by rw [hb]; simp, ?_, hb1, ?_, ?_, fun w A own β' j0 us hβ ho => ?_⟩
      · intro q hq q' hq' e
        obtain ⟨q0, hq0, rfl⟩ := List.mem_map.1 hq
        obtain ⟨q1, hq1', rfl⟩ := List.mem_map.1 hq'
        exact hq2 q0 hq0 q1 hq1' (by simp only at e; omega)
      · intro y hy
        rcases List.mem_cons.1 hy with rfl | hy
        · exact isF_isT hT
        · exact hF y hy
      · intro y hy i hi
        rcases List.mem_cons.1 hy with rfl | hy
        · rw [refsC_isT hT] at hi; cases hi
        · exact hb2 y hy i hi
      · cases us with
        | nil => exact ho.elim
        | cons u us =>
          obtain ⟨h1, h2⟩ := hvs w A own β' (j0 + 1) us (fun q hq => by rw [hβ _ (List.mem_map_of_mem hq)]; congr 1; simp only; omega) ho.2
          exact ⟨⟨TRep_C (hv w A _ u ho.1), h1⟩, h2⟩
    · obtain ⟨cs, bs, qs, hk3, hl, hl2, hb, hq2, hb1, hF, hb2, hvs⟩ := incsK_inv hk2
      refine ⟨_ :: cs, (id, .ar false cc) :: bs, (id, 0) :: qs.map (fun q => (q.1, q.2 + 1)), hk3, by simp [hl], by simp [hl2], by simp only [List.map_cons, hb]; simp, ?_, ?_, ?_, ?_, fun w A own β' j0 us hβ ho => ?_⟩
      · intro q hq q' hq' e
        rcases List.mem_cons.1 hq with rfl | hq
        · rcases List.mem_cons.1 hq' with rfl | hq'
          · rfl
          · obtain ⟨q0, hq0, rfl⟩ := List.mem_map.1 hq'
            simp only at e; omega
        · obtain ⟨q0, hq0, rfl⟩ := List.mem_map.1 hq
          rcases List.mem_cons.1 hq' with rfl | hq'
          · simp only at e; omega
          · obtain ⟨q1, hq1', rfl⟩ := List.mem_map.1 hq'
            exact hq2 q0 hq0 q1 hq1' (by simp only at e; omega)
      · intro i bx hm
        rcases List.mem_cons.1 hm with e | hm
        · cases e; exact ⟨cc, rfl⟩
        · exact hb1 i bx hm
      · intro y hy
        rcases List.mem_cons.1 hy with rfl | hy
        · trivial
        · exact hF y hy
      · intro y hy i hi
        rcases List.mem_cons.1 hy with rfl | hy
        · simp only [refsC, List.mem_singleton] at hi
          subst hi
          exact ⟨_, List.mem_cons_self⟩
        · obtain ⟨bx, hbx⟩ := hb2 y hy i hi
          exact ⟨bx, List.mem_cons_of_mem _ hbx⟩
      · cases us with
        | nil => exact ho.elim
        | cons u us =>
          obtain ⟨h1, h2⟩ := hvs w A own β' (j0 + 1) us (fun q hq => by rw [hβ _ (List.mem_cons_of_mem _ (List.mem_map_of_mem hq))]; congr 1; simp only; omega) ho.2
          have h0 := hβ (id, 0) List.mem_cons_self
          simp only [Nat.add_zero] at h0
          refine ⟨⟨?_, h1⟩, fun i bx hm => ?_⟩
          · rcases ho.1 with ⟨h3, rfl, _, h5⟩ | ⟨b, ob, cap, h3, h4, h5, h6, h7, _⟩
            · exact .inl ⟨h0.trans h3, rfl, rfl, h5⟩
            · exact .inr ⟨b, ob, ob, cap, h0.trans h3, h4, .inl rfl, h5, h6, h7⟩
          · rcases List.mem_cons.1 hm with e | hm
            · cases e; exact own_brep ho.1 h0
            · exact h2 i bx hm

/-- One argument that comes in. -/
theorem inK_inv {i : Nat} {t : TypeId} {p : PV} {K : PV → List (Nat × Box) → Option R} (hk : inK P N i t p K = some r) :
    ∃ v bs, ∃ qs : List (Nat × Nat), K v bs = some r ∧ bs.map (·.1) = qs.map (·.1) ∧ (∀ q ∈ qs, ∀ q' ∈ qs, q.2 = q'.2 → q.1 = q'.1) ∧ (isL p = true → (pinId N i, 0) ∈ qs ∧ i < 8) ∧
      (∀ id bx, (id, bx) ∈ bs → liveB (some bx) ∧ ∀ c, bx = .st c → id = pinId N i ∧ isL p = true) ∧ (∀ id ∈ refs v, ∃ bx, (id, bx) ∈ bs) ∧ RefsIn bs ∧
      ∀ (w : World) (A : Nat → Prop) (bt β' : Bt) (u : Value), (∀ q ∈ qs, β' q.1 = bt q.2) → PArg w A bt p u → VRep w A β' v u ∧ (∀ id bx, (id, bx) ∈ bs → BRep w A β' id bx) ∧
        ∀ id bx b o, (id, bx) ∈ bs → β' id = some (b, o) → ∀ j, BR bx o j → ArgL bt p b j := by
  -- own cells
  have owns : ∀ {bs : List (Nat × Box)} {qs : List (Nat × Nat)}, bs.map (·.1) = qs.map (·.1) → (∀ i bx, (i, bx) ∈ bs → ∃ c, bx = .ar false c) → ∀ {bt β' : Bt}, (∀ q ∈ qs, β' q.1 = bt (1 + q.2)) → ∀ id bx b o, (id, bx) ∈ bs → β' id = some (b, o) → ∀ j, BR bx o j → ∃ k o', bt (k + 1) = some (b, o') ∧ o' ≤ j := by
    intro bs qs hb hb1 bt β' hβ id bx b o hm hbo j hj
    have : id ∈ qs.map (·.1) := by rw [← hb]; exact List.mem_map.2 ⟨_, hm, rfl⟩
    obtain ⟨q, hq, rfl⟩ := List.mem_map.1 this
    obtain ⟨c, rfl⟩ := hb1 _ _ hm
    rw [hβ q hq, Nat.add_comm] at hbo
    exact ⟨q.2, o, hbo, hj⟩
  have nost : ∀ {bs : List (Nat × Box)}, (∀ i bx, (i, bx) ∈ bs → ∃ c, bx = .ar false c) → RefsIn bs := by
    intro bs hb1 id cells hm
    obtain ⟨c, e⟩ := hb1 id _ hm
    cases e
  unfold inK at hk
  split at hk
  · rename_i e he
    obtain ⟨ps, rfl, hk1⟩ := pboxK_inv hk
    obtain ⟨hi8, hk2⟩ := chk_inv hk1
    have hi8 : i < 8 := Nat.lt_of_succ_le (Nat.le_of_ble_eq_true hi8)
    obtain ⟨cs, bs, qs, hk3, hl, hl2, hb, hq2, hb1, hF, hb2, hv⟩ := incsK_inv hk2
    refine ⟨_, _, (pinId N i, 0) :: qs.map (fun q => (q.1, q.2 + 1)), hk3, by simp only [List.map_cons, hb]; simp, ?_, fun _ => ⟨List.mem_cons_self, hi8⟩, ?_, ?_, ?_, fun w A bt β' u hβ hp => ?_⟩
    · intro q hq q' hq' e
      rcases List.mem_cons.1 hq with rfl | hq
      · rcases List.mem_cons.1 hq' with rfl | hq'
        · rfl
        · obtain ⟨q0, hq0, rfl⟩ := List.mem_map.1 hq'
          simp only at e; omega
      · obtain ⟨q0, hq0, rfl⟩ := List.mem_map.1 hq
        rcases List.mem_cons.1 hq' with rfl | hq'
        · simp only at e; omega
        · obtain ⟨q1, hq1', rfl⟩ := List.mem_map.1 hq'
          exact hq2 q0 hq0 q1 hq1' (by simp only at e; omega)
    · intro id bx hm
      rcases List.mem_cons.1 hm with e | hm
      · cases e; exact ⟨trivial, fun _ _ => ⟨rfl, rfl⟩⟩
      · obtain ⟨c, rfl⟩ := hb1 id bx hm
        exact ⟨trivial, fun _ e => by cases e⟩
    · intro id hid
      simp only [refs, refs1, refsC, List.mem_singleton] at hid
      subst hid
      exact ⟨_, List.mem_cons_self⟩
    · intro id cells hm c hc k hk
      rcases List.mem_cons.1 hm with e | hm
      · cases e
        obtain ⟨bx, hbx⟩ := hb2 c hc k hk
        exact ⟨bx, List.mem_cons_of_mem _ hbx⟩
      · obtain ⟨c, e⟩ := hb1 id _ hm
        cases e
    · obtain ⟨b, o, h1, rfl, _, vs, h3, h4, h5⟩ := hp
      have h0 := hβ (pinId N i, 0) List.mem_cons_self
      simp only at h0
      have hβ1 : ∀ q ∈ qs, β' q.1 = bt (1 + q.2) := fun q hq => by rw [hβ _ (List.mem_cons_of_mem _ (List.mem_map_of_mem hq)), Nat.add_comm]
      obtain ⟨h6, h7⟩ := hv w A bt β' 1 vs hβ1 h3
      refine ⟨⟨b, o, h0.trans h1, by simp⟩, fun id bx hm => ?_, fun id bx b' o' hm hb' j hj => ?_⟩
      · rcases List.mem_cons.1 hm with e | hm
        · cases e
          refine ⟨b, o, h0.trans h1, fun k c hk => ?_, fun k hk => h5 k (by omega)⟩
          obtain ⟨v, hv, hcr⟩ := h6.get hk
          exact ⟨v, h4 k v hv, hcr⟩
        · exact h7 id bx hm
      · rcases List.mem_cons.1 hm with e | hm
        · cases e
          rw [h0] at hb'
          have hj : o' ≤ j ∧ j < o' + cs.length := hj
          exact .inr ⟨o', ps, hb', hj.1, .inl ⟨rfl, by omega⟩⟩
        · exact .inl (owns hb hb1 hβ1 id bx b' o' hm hb' j hj)
  · split at hk
    · rename_i ps
      obtain ⟨e, he, hk1⟩ := optK_inv hk
      obtain ⟨hi8, hk2⟩ := chk_inv hk1
      have hi8 : i < 8 := Nat.lt_of_succ_le (Nat.le_of_ble_eq_true hi8)
      obtain ⟨q, qr, hq, hk3⟩ := consK_inv hk2
      subst hq
      obtain ⟨hnil, hk4⟩ := nilK_inv hk3
      subst hnil
      unfold owK at hk4
      split at hk4
      · rename_i es' n c
        cases hb : Nat.beq es' (szOf P e) <;> rw [hb] at hk4
        · cases hk4
        · have hes := Nat.eq_of_beq_eq_true hb
          subst hes
          refine ⟨_, _, [(pinId N i, 0)], hk4, rfl, by simp, fun _ => ⟨by simp, hi8⟩, ?_, ?_, ?_, fun w A bt β' u hβ hp => ?_⟩
          · intro id bx hm
            simp only [List.mem_singleton] at hm
            cases hm
            exact ⟨trivial, fun _ e => by cases e⟩
          · intro id hid
            simp only [refs, refs1, refsC, List.mem_singleton] at hid
            subst hid
            exact ⟨_, List.mem_cons_self⟩
          · intro id cells hm
            simp only [List.mem_singleton] at hm
            cases hm
          · obtain ⟨es, n', c', h1, h2⟩ := hp
            cases h1
            have h0 := hβ (pinId N i, 0) List.mem_cons_self
            simp only at h0
            refine ⟨?_, fun id bx hm => ?_, fun id bx b' o' hm hb' j hj => ?_⟩
            · rcases h2 with ⟨h3, rfl, _, h5⟩ | ⟨b, ob, cap, h3, h4, h5, h6, h7, _⟩
              · exact .inl ⟨h0.trans h3, rfl, rfl, h5⟩
              · exact .inr ⟨b, ob, ob, cap, h0.trans h3, h4, .inl rfl, h5, h6, h7⟩
            · simp only [List.mem_singleton] at hm
              cases hm
              exact own_brep h2 h0
            · simp only [List.mem_singleton] at hm
              cases hm
              rw [h0] at hb'
              exact .inr ⟨o', _, hb', hj, .inr rfl⟩
      · cases hk4
    · rename_i hnt
      cases hagg : isAggB P t <;> rw [hagg] at hk
      · simp only [cond_false] at hk
        obtain ⟨cs, bs, qs, hk3, hl, hl2, hb, hq2, hb1, hF, hb2, hv⟩ := incsK_inv hk
        obtain ⟨c, cs', hcs, hk4⟩ := consK_inv hk3
        subst hcs
        obtain ⟨hnil, hk5⟩ := nilK_inv hk4
        subst hnil
        have hFc := hF c (by simp)
        have hnL : isL p = false ∨ ∃ ps, p = .pbox ps := by
          cases p <;> first | exact .inl rfl | exact .inr ⟨_, rfl⟩ | exact absurd rfl (hnt _)
        have hpb : ∀ ps, p ≠ .pbox ps := by
          rintro ps rfl
          cases hts : cty P t with
          | nil => rw [hts] at hl2; simp at hl2
          | cons t' ts =>
            rw [hts] at hk
            unfold incsK incK at hk
            obtain ⟨q, qs1, hq, hk1⟩ := consK_inv hk
            cases hq
            cases t' <;> simp [tcK, lsK, intK, boolK, strK] at hk1
        have hpa : ∀ ps, p ≠ .agg ps := by
          rintro ps rfl
          cases hts : cty P t with
          | nil => rw [hts] at hl2; simp at hl2
          | cons t' ts =>
            rw [hts] at hk
            unfold incsK incK at hk
            obtain ⟨q, qs1, hq, hk1⟩ := consK_inv hk
            cases hq
            cases t' <;> simp [tcK, lsK, intK, boolK, strK] at hk1
        have hnL : isL p = false := hnL.elim id (fun ⟨ps, e⟩ => absurd e (hpb ps))
        have hrefs : refs c = refsC c := by cases c <;> first | rfl | exact hFc.elim
        refine ⟨c, bs, qs.map (fun q => (q.1, q.2 + 1)), hk5, by rw [hb]; simp, ?_, (fun h => by rw [hnL] at h; cases h), ?_, fun id hid => hb2 c (by simp) id (by rw [← hrefs]; exact hid), nost hb1, fun w A bt β' u hβ hp => ?_⟩
        · intro q hq q' hq' e
          obtain ⟨q0, hq0, rfl⟩ := List.mem_map.1 hq
          obtain ⟨q1, hq1', rfl⟩ := List.mem_map.1 hq'
          exact hq2 q0 hq0 q1 hq1' (by simp only at e; omega)
        · intro id bx hm
          obtain ⟨c, rfl⟩ := hb1 id bx hm
          exact ⟨trivial, fun _ e => by cases e⟩
        · have hp' : OCell w A (bt 1) p u := by cases p <;> first | exact hp.2 | exact absurd rfl (hpa _) | exact absurd rfl (hpb _) | exact absurd rfl (hnt _)
          have hβ1 : ∀ q ∈ qs, β' q.1 = bt (1 + q.2) := fun q hq => by rw [hβ _ (List.mem_map_of_mem hq), Nat.add_comm]
          obtain ⟨h6, h7⟩ := hv w A bt β' 1 [u] hβ1 ⟨hp', trivial⟩
          refine ⟨?_, h7, fun id bx b' o' hm hb' j hj => .inl (owns hb hb1 hβ1 id bx b' o' hm hb' j hj)⟩
          have h8 := h6.1
          cases c <;> first | exact h8 | exact hFc.elim
      · simp only [cond_true] at hk
        obtain ⟨ps, hp0, hk1⟩ := aggK_inv hk
        subst hp0
        obtain ⟨cs, bs, qs, hk3, hl, hl2, hb, hq2, hb1, hF, hb2, hv⟩ := incsK_inv hk1
        refine ⟨_, bs, qs.map (fun q => (q.1, q.2 + 1)), hk3, by rw [hb]; simp, ?_, (fun h => by cases h), ?_, fun id hid => ?_, nost hb1, fun w A bt β' u hβ hp => ?_⟩
        · intro q hq q' hq' e
          obtain ⟨q0, hq0, rfl⟩ := List.mem_map.1 hq
          obtain ⟨q1, hq1', rfl⟩ := List.mem_map.1 hq'
          exact hq2 q0 hq0 q1 hq1' (by simp only at e; omega)
        · intro id bx hm
          obtain ⟨c, rfl⟩ := hb1 id bx hm
          exact ⟨trivial, fun _ e => by cases e⟩
        · obtain ⟨c, hc, hi⟩ := List.mem_flatMap.1 (show id ∈ cs.flatMap refsC from hid)
          exact hb2 c hc id hi
        · obtain ⟨vs, h1, _, h3⟩ := hp
          have hβ1 : ∀ q ∈ qs, β' q.1 = bt (1 + q.2) := fun q hq => by rw [hβ _ (List.mem_map_of_mem hq), Nat.add_comm]
          obtain ⟨h6, h7⟩ := hv w A bt β' 1 vs hβ1 h3
          exact ⟨⟨vs, h1, h6⟩, h7, fun id bx b' o' hm hb' j hj => .inl (owns hb hb1 hβ1 id bx b' o' hm hb' j hj)⟩

/-- All arguments. -/
theorem insK_inv : ∀ {ts : List TypeId} {i : Nat} {ps : List PV} {K : List (Nat × PV) → List (Nat × Box) → Option R}, insK P N i ts ps K = some r →
    ∃ tms bs, ∃ qs : List (Nat × Nat × Nat), K tms bs = some r ∧ bs.map (·.1) = qs.map (·.1) ∧ (∀ q ∈ qs, i ≤ q.2.1) ∧ (∀ q ∈ qs, ∀ q' ∈ qs, q.2 = q'.2 → q.1 = q'.1) ∧
      (∀ k p, ps[k]? = some p → isL p = true → (pinId N (i + k), i + k, 0) ∈ qs ∧ i + k < 8) ∧ (∀ id bx, (id, bx) ∈ bs → liveB (some bx) ∧ ∀ c, bx = .st c → ∃ k p, ps[k]? = some p ∧ isL p = true ∧ id = pinId N (i + k)) ∧
      (∀ j, ∀ id ∈ refs (lk tms j), ∃ bx, (id, bx) ∈ bs) ∧ RefsIn bs ∧
      ∀ (w : World) (A : Nat → Prop) (bt : Bt2) (β' : Bt) (us : List Value), (∀ q ∈ qs, β' q.1 = bt q.2.1 q.2.2) → PArgs w A bt i ps us →
        (∀ j, (∃ u, i ≤ j ∧ us[j - i]? = some u ∧ VRep w A β' (lk tms j) u) ∨ (lk tms j = .top ∧ (i ≤ j → us[j - i]? = none))) ∧ (∀ id bx, (id, bx) ∈ bs → BRep w A β' id bx) ∧
        ∀ id bx b o, (id, bx) ∈ bs → β' id = some (b, o) → ∀ j, BR bx o j → ∃ k p, ps[k]? = some p ∧ ArgL (bt (i + k)) p b j
  | [], i, ps, K, hk => by
    obtain ⟨hps, hk⟩ := nilK_inv hk
    subst hps
    refine ⟨[], [], [], hk, rfl, by simp, by simp, by simp, by simp, (fun j id hid => by cases hid), (by intro i cells hm; cases hm), fun w A bt β' us _ h => ?_⟩
    cases us with
    | nil => exact ⟨fun j => .inr ⟨rfl, fun _ => by simp⟩, by simp, by simp⟩
    | cons u us => exact h.elim
  | t :: ts, i, ps, K, hk => by
    unfold insK at hk
    obtain ⟨p, ps', hps, hk1⟩ := consK_inv hk
    subst hps
    obtain ⟨v, bs, qs, hk2, hb, hqi, hpin, hbx, hr, hri, hv⟩ := inK_inv hk1
    obtain ⟨tms, bs', qs', hk3, hb', hq0', hqi', hpin', hbx', hr', hri', hv'⟩ := insK_inv hk2
    refine ⟨(i, v) :: tms, bs ++ bs', qs.map (fun q => (q.1, i, q.2)) ++ qs', hk3, by simp only [List.map_append, hb, hb']; simp, ?_, ?_, ?_, ?_, ?_, ?_, fun w A bt β' us hβ hp => ?_⟩
    · intro q hq
      rcases List.mem_append.1 hq with hq | hq
      · obtain ⟨q0, hq0, rfl⟩ := List.mem_map.1 hq
        exact Nat.le_refl _
      · have := hq0' q hq
        omega
    · intro q hq q' hq' e
      rcases List.mem_append.1 hq with hq | hq
      · obtain ⟨q0, hq0, rfl⟩ := List.mem_map.1 hq
        rcases List.mem_append.1 hq' with hq' | hq'
        · obtain ⟨q1, hq1', rfl⟩ := List.mem_map.1 hq'
          simp only [Prod.mk.injEq, true_and] at e
          exact hqi q0 hq0 q1 hq1' e
        · have := hq0' q' hq'
          rw [← e] at this
          simp only at this
          omega
      · have h5 := hq0' q hq
        rcases List.mem_append.1 hq' with hq' | hq'
        · obtain ⟨q1, hq1', rfl⟩ := List.mem_map.1 hq'
          rw [e] at h5
          simp only at h5
          omega
        · exact hqi' q hq q' hq' e
    · intro k p' hk' hL
      cases k with
      | zero =>
        simp only [List.getElem?_cons_zero, Option.some.injEq] at hk'
        subst hk'
        obtain ⟨h1, h2⟩ := hpin hL
        exact ⟨List.mem_append.2 (.inl (List.mem_map.2 ⟨_, h1, rfl⟩)), h2⟩
      | succ k =>
        obtain ⟨h1, h2⟩ := hpin' k p' (by simpa using hk') hL
        rw [show i + 1 + k = i + (k + 1) by omega] at h1 h2
        exact ⟨List.mem_append.2 (.inr h1), h2⟩
    · intro id bx hm
      rcases List.mem_append.1 hm with hm | hm
      · obtain ⟨h1, h2⟩ := hbx id bx hm
        exact ⟨h1, fun c hc => ⟨0, p, rfl, (h2 c hc).2, (h2 c hc).1⟩⟩
      · obtain ⟨h1, h2⟩ := hbx' id bx hm
        refine ⟨h1, fun c hc => ?_⟩
        obtain ⟨k, p', h3, h4, h5⟩ := h2 c hc
        exact ⟨k + 1, p', by simpa using h3, h4, by rw [h5, show i + 1 + k = i + (k + 1) by omega]⟩
    · intro j id hid
      unfold lk at hid
      cases hbq : Nat.beq j i <;> rw [hbq] at hid
      · obtain ⟨bx, h1⟩ := hr' j id hid
        exact ⟨bx, List.mem_append.2 (.inr h1)⟩
      · obtain ⟨bx, h1⟩ := hr id hid
        exact ⟨bx, List.mem_append.2 (.inl h1)⟩
    · intro id cells hm c hc k hk
      rcases List.mem_append.1 hm with hm | hm
      · obtain ⟨bx, h1⟩ := hri id cells hm c hc k hk
        exact ⟨bx, List.mem_append.2 (.inl h1)⟩
      · obtain ⟨bx, h1⟩ := hri' id cells hm c hc k hk
        exact ⟨bx, List.mem_append.2 (.inr h1)⟩
    · cases us with
      | nil => exact hp.elim
      | cons u us =>
        obtain ⟨h1, h2, h3⟩ := hv w A (bt i) β' u (fun q hq => hβ _ (List.mem_append.2 (.inl (List.mem_map_of_mem hq)))) hp.1
        obtain ⟨h1', h2', h3'⟩ := hv' w A bt β' us (fun q hq => hβ q (List.mem_append.2 (.inr hq))) hp.2
        refine ⟨fun j => ?_, fun id bx hm => ?_, fun id bx b o hm hbo j hj => ?_⟩
        · unfold lk
          cases hbq : Nat.beq j i
          · have hne := beq_false_ne hbq
            simp only [cond_false]
            rcases h1' j with ⟨u', h4, h5, h6⟩ | ⟨h4, h5⟩
            · refine .inl ⟨u', by omega, ?_, h6⟩
              rw [show j - i = (j - (i + 1)) + 1 by omega]
              simpa using h5
            · refine .inr ⟨h4, fun hij => ?_⟩
              rw [show j - i = (j - (i + 1)) + 1 by omega]
              simpa using h5 (by omega)
          · have := Nat.eq_of_beq_eq_true hbq
            subst this
            exact .inl ⟨u, Nat.le_refl _, by simp, h1⟩
        · rcases List.mem_append.1 hm with hm | hm
          · exact h2 id bx hm
          · exact h2' id bx hm
        · rcases List.mem_append.1 hm with hm | hm
          · exact ⟨0, p, rfl, h3 id bx b o hm hbo j hj⟩
          · obtain ⟨k, p', h4, h5⟩ := h3' id bx b o hm hbo j hj
            exact ⟨k + 1, p', by simpa using h4, by rw [show i + (k + 1) = i + 1 + k by omega]; exact h5⟩

/-- What a function may change. -/
def lendOf (bt : Bt2) (args : List PV) (h8 : ∀ k p, args[k]? = some p → isL p = true → k < 8) : Lend :=
  ⟨BtX bt, CallL bt args, fun i => ∃ p, args[i]? = some p ∧ isL p = true, fun i => bt i 0, fun i ⟨p, h1, h2⟩ => h8 i p h1 h2⟩

/-- The state at a function's start. -/
theorem sim_start {ts : List TypeId} {args : List PV} {us : List Value} {bt : Bt2} {K : List (Nat × PV) → List (Nat × Box) → Option R} (hin : Ins w Y bt args us) (hk : insK P N 0 ts args K = some r) :
    ∃ tms bs, K tms bs = some r ∧ (absent (fun _ => none) bs = true → us.length ≤ N → ∃ (h8 : ∀ k p, args[k]? = some p → isL p = true → k < 8), ∃ β0,
      Sim N w (lendOf bt args h8) Y β0 ⟨lk tms, lkh bs⟩ { tmps := us.toArray ++ Array.replicate (N - us.toArray.size) undef, defers := [] } w) := by
  obtain ⟨tms, bs, qs, hk1, hb, hq0, hqi, hpin, hbx, hr, hri, hv⟩ := insK_inv hk
  refine ⟨tms, bs, hk1, fun hab hN => ?_⟩
  have hnod := absent_nodup hab
  have h8 : ∀ k p, args[k]? = some p → isL p = true → k < 8 := fun k p h1 h2 => by
    have := (hpin k p h1 h2).2
    omega
  have hqn : (qs.map (·.1)).Nodup := by rw [← hb]; exact hnod
  obtain ⟨β0, hβ0⟩ : ∃ β0 : Bt, ∀ q ∈ qs, β0 q.1 = bt q.2.1 q.2.2 := by
    have : ∀ (l : List (Nat × Nat × Nat)), (l.map (·.1)).Nodup → ∃ β0 : Bt, ∀ q ∈ l, β0 q.1 = bt q.2.1 q.2.2 := by
      intro l
      induction l with
      | nil => intro _; exact ⟨fun _ => none, by simp⟩
      | cons q l ih =>
        intro hn
        simp only [List.map_cons, List.nodup_cons] at hn
        obtain ⟨b1, h1⟩ := ih hn.2
        refine ⟨upd b1 q.1 (bt q.2.1 q.2.2), fun q' hq' => ?_⟩
        rcases List.mem_cons.1 hq' with rfl | hq'
        · exact upd_same _ _ _
        · have hne : q'.1 ≠ q.1 := fun e => hn.1 (by rw [← e]; exact List.mem_map.2 ⟨q', hq', rfl⟩)
          rw [upd_other _ _ hne]
          exact h1 q' hq'
    exact this qs hqn
  refine ⟨h8, β0, ?_⟩
  obtain ⟨hs, hbr, hL⟩ := hv w _ bt β0 us hβ0 hin.args
  have hqm : ∀ id bx, (id, bx) ∈ bs → ∃ ik, (id, ik) ∈ qs ∧ β0 id = bt ik.1 ik.2 := by
    intro id bx hm
    have : id ∈ qs.map (·.1) := by rw [← hb]; exact List.mem_map.2 ⟨_, hm, rfl⟩
    obtain ⟨q, hq, rfl⟩ := List.mem_map.1 this
    exact ⟨q.2, hq, hβ0 q hq⟩
  have hX : ∀ b, Xof (lkh bs) β0 b → BtX bt b := by
    rintro b ⟨id, o, hl, hβ⟩
    cases hq : lkh bs id with
    | none => rw [hq] at hl; exact hl.elim
    | some bx =>
      obtain ⟨ik, _, h2⟩ := hqm id bx (lkh_mem hq)
      rw [h2] at hβ
      exact ⟨_, _, _, hβ⟩
  have hA : ∀ b, Aof (lkh bs) β0 Y b → BtX bt b ∨ Y b := fun b hb => hb.imp (hX b) id
  have hput : ∀ {p : PV} {u : Value}, VRep w (fun b => BtX bt b ∨ Y b) β0 p u → VRep w (Aof (lkh bs) β0 Y) β0 p u := fun h => h.step (WStep.refl _ _) (fun b _ => hA b) (fun _ _ => rfl)
  refine ⟨rfl, by simp; omega, fun i hi => ?_, fun i hi => ?_, ?_, ?_, ?_, fun i hi id hid => ?_, ?_, fun b hb => .inl (hX b hb), ?_, ?_, ?_, fun b hY hXb => hin.Yx b hY (hX b hXb), hin.Ylt, ⟨rfl, rfl, rfl, WStep.refl _ _, fun _ _ _ _ => ⟨rfl, rfl⟩⟩⟩
  · rcases hs i with ⟨u, _, h, _⟩ | ⟨h, _⟩
    · rw [Nat.sub_zero, List.getElem?_eq_none (by omega)] at h; cases h
    · exact h
  · rcases hs i with ⟨u, _, h, hv⟩ | ⟨h, h'⟩
    · rw [Nat.sub_zero] at h
      have hlt : i < us.length := by
        rcases Nat.lt_or_ge i us.length with h' | h'
        · exact h'
        · rw [List.getElem?_eq_none h'] at h; cases h
      have : (us.toArray ++ Array.replicate (N - us.toArray.size) undef).getD i undef = u := by
        rw [Array.getD_eq_getD_getElem?, Array.getElem?_append_left (by simpa using hlt)]
        simp [h]
      show VRep w _ _ _ ((us.toArray ++ Array.replicate (N - us.toArray.size) undef).getD i undef)
      rw [this]
      exact hput hv
    · show VRep w _ _ (lk tms i) _
      rw [h]
      exact TRep.top _
  · intro id bx hq
    exact (hbr id bx (lkh_mem hq)).step' hA
  · intro id id' b o o' hl hl' hβ hβ'
    cases hq : lkh bs id with
    | none => change liveB (lkh bs id) at hl; rw [hq] at hl; exact hl.elim
    | some bx =>
      cases hq' : lkh bs id' with
      | none => change liveB (lkh bs id') at hl'; rw [hq'] at hl'; exact hl'.elim
      | some bx' =>
        obtain ⟨ik, h1, h2⟩ := hqm id bx (lkh_mem hq)
        obtain ⟨ik', h1', h2'⟩ := hqm id' bx' (lkh_mem hq')
        rw [h2] at hβ
        rw [h2'] at hβ'
        obtain ⟨h3, h4⟩ := hin.inj _ _ _ _ b o o' hβ hβ'
        exact hqi _ h1 _ h1' (Prod.ext h3 h4)
  · intro id b o hn hβ
    cases hq : lkh bs id with
    | none => exact absurd hq hn
    | some bx =>
      obtain ⟨ik, h1, h2⟩ := hqm id bx (lkh_mem hq)
      rw [h2] at hβ
      exact hin.lt b ⟨_, _, _, hβ⟩
  · obtain ⟨bx, hm⟩ := hr i id hid
    show lkh bs id ≠ none
    rw [lkh_of hnod hm]
    simp
  · intro id cells hq c hc k hk
    obtain ⟨bx, hm⟩ := hri id cells (lkh_mem hq) c hc k hk
    show lkh bs k ≠ none
    rw [lkh_of hnod hm]
    simp
  · intro id bx b o hq hl hβ _ j hj
    obtain ⟨k, p, h1, h2⟩ := hL id bx b o (lkh_mem hq) hβ j hj
    rw [Nat.zero_add] at h2
    exact ⟨k, p, h1, h2⟩
  · rintro i ⟨p, h1, h2⟩
    have h3 := (hpin i p h1 h2).1
    rw [Nat.zero_add] at h3
    refine ⟨?_, hβ0 _ h3⟩
    have : pinId N i ∈ bs.map (·.1) := by rw [hb]; exact List.mem_map.2 ⟨_, h3, rfl⟩
    obtain ⟨⟨id, bx⟩, hm, e⟩ := List.mem_map.1 this
    show lkh bs (pinId N i) ≠ none
    rw [← e, lkh_of hnod hm]
    simp
  · intro id c b o hq _ _
    obtain ⟨k, p, h1, h2, h3⟩ := (hbx id _ (lkh_mem hq)).2 c rfl
    rw [Nat.zero_add] at h3
    exact ⟨k, h3, p, h1, h2⟩
end

end Go.Proofs.Ytoihfmiifeegpaa.Pv
