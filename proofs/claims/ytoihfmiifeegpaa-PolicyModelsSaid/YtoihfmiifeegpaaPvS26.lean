/-
  Operations change places, third part; an operation taken ahead of its row.
-/
import Derived.Test.YtoihfmiifeegpaaPvS25
namespace Go.Proofs.Ytoihfmiifeegpaa.Pv
open Go.RowKit

theorem isM_memo {C : Cfg} {P : Program} {o : Op} (h : isM C P o = true) : memo P o = true := by
  unfold isM at h
  split at h
  · rfl
  · rename_i c
    unfold memo
    simp only
    split at h <;> rename_i hc
    · rw [hc]
    · rw [hc]
    · cases h
    · rw [hc]
    · cases h
  · cases h

/-- What a change of memory leaves, seen in two memories at once. -/
structure Tch (N : Nat) (S : Nat → Prop) (dst : Option Nat) (hp hp1 hp' hp1' : Nat → Option Box) : Prop where
  keep : ∀ i, hp i ≠ none → hp' i ≠ none
  off : ∀ i, i < N → dst ≠ some i → (¬ S i ∨ hp i = none) → hp' i = hp i ∧ hp1' i = hp1 i
  same : ∀ i, hp i = hp1 i → hp' i = hp1' i

section
variable {R R' : Type} {Rel : Option R → Option R' → Prop} {P : Program} {N : Nat} {tm tm' : Nat → PV} {hp hp1 : Nat → Option Box} {f f' : Nat → Option (List PV)} {o : Oper}

theorem frcK_relS (hn : Rel none none) {t : CT} {p : PV} {K : PV → List Nat → Option R} {K' : PV → List Nat → Option R'} (hf : Agr Rel f f' (refsC p)) (hK : ∀ c m, (∀ i ∈ m, f i ≠ none ∧ i ∈ refsC p) → Rel (K c m) (K' c m)) : Rel (frcK f t p K) (frcK f' t p K') := by
  unfold frcK; split
  · split
    · rename_i id es' off n
      cases Nat.beq es' _
      · exact hn
      · exact optf_rel hn hf (by simp [refsC]) fun c hc => chk_rel hn fun _ => hK _ _ (by simp [hc, refsC])
    · exact lsK_rel hn fun _ _ _ => hK _ _ (by simp)
  · exact tcK_rel hn fun _ => hK _ _ (by simp)
theorem frcsK_relS (hn : Rel none none) : ∀ {ts : List CT} {ps : List PV} {K : List PV → List Nat → Option R} {K' : List PV → List Nat → Option R'}, Agr Rel f f' (ps.flatMap refsC) → (∀ c m, (∀ i ∈ m, f i ≠ none ∧ i ∈ ps.flatMap refsC) → Rel (K c m) (K' c m)) → Rel (frcsK f ts ps K) (frcsK f' ts ps K')
  | [], [], _, _, _, hK => hK _ _ (by simp)
  | [], _ :: _, _, _, _, _ => hn
  | _ :: _, [], _, _, _, _ => hn
  | _ :: _, p :: ps, _, _, hf, hK => frcK_relS hn (fun i hi => hf i (by simp only [List.flatMap_cons, List.mem_append]; exact .inl hi)) fun _ m hm => frcsK_relS hn (fun i hi => hf i (by simp only [List.flatMap_cons, List.mem_append]; exact .inr hi)) fun _ ms hms => hK _ _ fun i hi => by
      simp only [List.flatMap_cons, List.mem_append]
      rcases List.mem_append.1 hi with h | h
      · exact ⟨(hm i h).1, .inl (hm i h).2⟩
      · exact ⟨(hms i h).1, .inr (hms i h).2⟩

theorem upd_two {S : Nat → Prop} {dst : Option Nat} {id : Nat} {b : Box} {h0 h1 : Nat → Option Box} (hS : S id) (hid : hp id ≠ none) (h : Tch N S dst hp hp1 h0 h1) : Tch N S dst hp hp1 (upd h0 id (some b)) (upd h1 id (some b)) := by
  refine ⟨fun i hi => ?_, fun i hN hd hi => ?_, fun i hi => ?_⟩
  · by_cases e : i = id
    · subst e; rw [upd_same]; simp
    · rw [upd_other _ _ e]; exact h.keep i hi
  · have e : i ≠ id := by
      rintro rfl
      rcases hi with hi | hi
      · exact hi hS
      · exact hid hi
    rw [upd_other _ _ e, upd_other _ _ e]
    exact h.off i hN hd hi
  · by_cases e : i = id
    · subst e; rw [upd_same, upd_same]
    · rw [upd_other _ _ e, upd_other _ _ e]; exact h.same i hi
theorem upd_dst {S : Nat → Prop} {d : Nat} {b : Box} {h0 h1 : Nat → Option Box} (h : Tch N S (some d) hp hp1 h0 h1) : Tch N S (some d) hp hp1 (upd h0 d (some b)) (upd h1 d (some b)) := by
  refine ⟨fun i hi => ?_, fun i hN hd hi => ?_, fun i hi => ?_⟩
  · by_cases e : i = d
    · subst e; rw [upd_same]; simp
    · rw [upd_other _ _ e]; exact h.keep i hi
  · have e : i ≠ d := by rintro rfl; exact hd rfl
    rw [upd_other _ _ e, upd_other _ _ e]
    exact h.off i hN hd hi
  · by_cases e : i = d
    · subst e; rw [upd_same, upd_same]
    · rw [upd_other _ _ e, upd_other _ _ e]; exact h.same i hi
theorem tch_refl (S : Nat → Prop) (dst : Option Nat) : Tch N S dst hp hp1 hp hp1 := ⟨fun _ h => h, fun _ _ _ _ => ⟨rfl, rfl⟩, fun _ h => h⟩
theorem tch_freeze {S : Nat → Prop} {dst : Option Nat} {m : List Nat} (hm : ∀ i ∈ m, hp i ≠ none ∧ S i) : Tch N S dst hp hp1 (freezeIds hp m) (freezeIds hp1 m) := by
  refine ⟨fun i hi => fun h => hi (freeze_none.1 h), fun i hN hd hi => ?_, fun i hi => ?_⟩
  · have e : i ∉ m := by
      intro h
      rcases hi with hi | hi
      · exact hi (hm i h).2
      · exact (hm i h).1 hi
    rw [freeze_get, freeze_get, if_neg e, if_neg e]
    exact ⟨rfl, rfl⟩
  · rw [freeze_get, freeze_get, hi]

theorem rda_agr {S : Nat → Prop} (h : ∀ i, S i → hp i = hp1 i ∨ (hp i = none ∧ ∀ b, Rel none b)) {l : List Nat} (hl : ∀ i ∈ l, S i) : Agr Rel (rda hp) (rda hp1) l := by
  intro i hi
  rcases h i (hl i hi) with h | ⟨h, h'⟩
  · left; unfold rda; rw [h]
  · exact .inr ⟨rda_none h, h'⟩

theorem storeK_relH (hn : Rel none none) {t : TypeId} {a x : PV} {K : St → Option R} {K' : St → Option R'} {S : Nat → Prop} (hS : ∀ i, S i → hp i = hp1 i ∨ (hp i = none ∧ ∀ b, Rel none b)) (ha : ∀ i ∈ refsC a, S i) (hx : ∀ i ∈ refs1 x, S i)
    (hK : ∀ hp' hp1', Tch N S none hp hp1 hp' hp1' → Rel (K ⟨tm, hp'⟩) (K' ⟨tm', hp1'⟩)) : Rel (storeK P ⟨tm, hp⟩ t a x K) (storeK P ⟨tm', hp1⟩ t a x K') := by
  unfold storeK; split
  · rename_i id off
    show Rel (match hp id with | some (.st c) => _ | some (.ar false c) => _ | _ => none) (match hp1 id with | some (.st c) => _ | some (.ar false c) => _ | _ => none)
    have hid : S id := ha id (by simp [refsC])
    rcases hS id hid with h | ⟨h, hb⟩
    · rw [← h]
      split
      · rename_i c hc
        exact chk_rel hn fun _ => fcsK_rel hn fun _ => hK _ _ (upd_two hid (by rw [hc]; simp) (tch_refl _ _))
      · rename_i c hc
        refine chk_rel hn fun _ => frcsK_relS hn (rda_agr hS fun i hi => hx i ?_) fun _ m hm => chk_rel hn fun _ => hK _ _ (upd_two hid (by rw [hc]; simp) (tch_freeze fun i hi => ⟨fun h => (hm i hi).1 (rda_none h), hx i ?_⟩))
        · obtain ⟨c, hc, hi⟩ := List.mem_flatMap.1 hi
          exact mem_cellsOf hc hi
        · obtain ⟨c, hc, hi⟩ := List.mem_flatMap.1 (hm i hi).2
          exact mem_cellsOf hc hi
      · exact hn
    · rw [h]
      exact hb _
  · exact hn
theorem srcK_relH (hn : Rel none none) {es : Nat} {t : TypeId} {x : PV} {K : Nat → List PV → Option R} {K' : Nat → List PV → Option R'} {S : Nat → Prop} (hS : ∀ i, S i → hp i = hp1 i ∨ (hp i = none ∧ ∀ b, Rel none b)) (hx : ∀ i ∈ refs1 x, S i) (hK : ∀ m c, Rel (K m c) (K' m c)) : Rel (srcK P ⟨tm, hp⟩ es t x K) (srcK P ⟨tm', hp1⟩ es t x K') := by
  unfold srcK srcR; split
  · exact chk_rel hn fun _ => strK_rel hn fun _ => hK _ _
  · exact slcK_rel hn (rda_agr hS fun i hi => hx i (refsC_refs1 hi)) hK
  · exact hn
theorem appendK_relH (hn : Rel none none) {d : Nat} {t tx : TypeId} {b x : PV} {K : St → Option R} {K' : St → Option R'} {S : Nat → Prop} (hS : ∀ i, S i → hp i = hp1 i ∨ (hp i = none ∧ ∀ b, Rel none b)) (hdd : hp d = hp1 d) (hb : ∀ i ∈ refs1 b, S i) (hx : ∀ i ∈ refs1 x, S i)
    (hK : ∀ v hp' hp1', Tch N S (some d) hp hp1 hp' hp1' → Rel (K ⟨upd tm d v, hp'⟩) (K' ⟨upd tm' d v, hp1'⟩)) : Rel (appendK P N ⟨tm, hp⟩ d t tx b x K) (appendK P N ⟨tm', hp1⟩ d t tx b x K') := by
  unfold appendK; split
  · refine chk_rel hn fun _ => ?_
    cases isIntTy P tx
    rotate_left
    · show Rel (appZeroK P N ⟨tm, hp⟩ d _ b x K) (appZeroK P N ⟨tm', hp1⟩ d _ b x K')
      refine anyIntK_rel hn fun _ n => lsK_rel hn fun z _ _ => ?_
      show Rel (chk (z && Nat.blt d N && (hp d).isNone && _ && _ && _) _) (chk (z && Nat.blt d N && (hp1 d).isNone && _ && _ && _) _)
      rw [← hdd]
      exact chk_rel hn fun _ => hK _ _ _ (upd_dst (tch_refl _ _))
    rw [cond_false, cond_false]
    refine srcK_relH hn hS hx fun m new => ?_
    split
    · rename_i id es off n
      show Rel (match hp id with | some (.ar false c) => chk (Nat.beq es _ && Nat.beq off 0 && Nat.blt d N && (hp d).isNone && _ && _ && _ && _) _ | _ => none) (match hp1 id with | some (.ar false c) => chk (Nat.beq es _ && Nat.beq off 0 && Nat.blt d N && (hp1 d).isNone && _ && _ && _ && _) _ | _ => none)
      have hid : S id := hb id (by simp [refs1, refsC])
      rw [← hdd]
      rcases hS id hid with h | ⟨h, hbb⟩
      · rw [← h]
        split
        · rename_i c hc
          exact chk_rel hn fun _ => hK _ _ _ (upd_dst (upd_two hid (by rw [hc]; simp) (tch_refl _ _)))
        · exact hn
      · rw [h]
        exact hbb _
    · refine lsK_rel hn fun z _ _ => ?_
      show Rel (chk (z && Nat.blt d N && (hp d).isNone && _ && _ && _) _) (chk (z && Nat.blt d N && (hp1 d).isNone && _ && _ && _) _)
      rw [← hdd]
      exact chk_rel hn fun _ => hK _ _ _ (upd_dst (tch_refl _ _))
  · exact hn

/-- What an operation's operands lead to; what lies in variables among that. -/
def Leads (o : Oper) (tm : Nat → PV) (i : Nat) : Prop := ∃ x ∈ o.op.operands.toList, i ∈ refs (opv tm x)
def Rch (o : Oper) (tm : Nat → PV) (hp : Nat → Option Box) (i : Nat) : Prop := Leads o tm i ∨ ∃ id c, Leads o tm id ∧ hp id = some (.st c) ∧ ∃ p ∈ c, i ∈ refsC p

theorem mvcK_relH (hn : Rel none none) {mv : Bool} {t : CT} {p : PV} {K : PV → List Nat → List Nat → Option R} {K' : PV → List Nat → List Nat → Option R'} {S : Nat → Prop} (hS : ∀ i, S i → hp i = hp1 i ∨ (hp i = none ∧ ∀ b, Rel none b)) (hp_ : ∀ i ∈ refsC p, S i)
    (hK : ∀ c m x, (∀ i ∈ m ++ x, hp i ≠ none ∧ S i) → Rel (K c m x) (K' c m x)) : Rel (mvcK mv hp t p K) (mvcK mv hp1 t p K') := by
  have frz : ∀ {t : CT} {p : PV}, (∀ i ∈ refsC p, S i) → Rel (frcK (rda hp) t p fun c m => K c m []) (frcK (rda hp1) t p fun c m => K' c m []) := fun h => frcK_relS hn (rda_agr hS h) fun c m hm => hK _ _ _ fun i hi => by
    rw [List.append_nil] at hi
    exact ⟨fun e => (hm i hi).1 (rda_none e), h i (hm i hi).2⟩
  unfold mvcK; split
  · rename_i es
    cases mv <;> simp only [cond_true, cond_false]
    · exact frz hp_
    · split
      · rename_i id es' off n
        rcases hS id (hp_ id (by simp [refsC])) with h | ⟨h, hb⟩
        · rw [← h]
          split
          · rename_i c hc
            cases (Nat.beq es' es && Nat.beq off 0) <;> simp only [cond_true, cond_false]
            · exact frz hp_
            · exact chk_rel hn fun _ => hK _ _ _ fun i hi => by
                simp only [List.nil_append, List.mem_singleton] at hi
                subst hi
                exact ⟨by rw [hc]; simp, hp_ i (by simp [refsC])⟩
          · exact frz hp_
        · rw [h]
          have : (frcK (rda hp) (.sl es) (.view id es' off n) fun c m => K c m []) = none := by
            unfold frcK
            simp only
            cases Nat.beq es' es
            · rfl
            · simp only [cond_true, rda_none h, optK]
          show Rel (frcK (rda hp) (.sl es) (.view id es' off n) fun c m => K c m []) _
          rw [this]
          exact hb _
      · refine lsK_rel hn fun z n c => ?_
        cases z
        · exact hK _ _ _ (by simp)
        · exact hK _ _ _ (by simp)
  · exact tcK_rel hn fun _ => hK _ _ _ (by simp)

theorem mvcsK_relH (hn : Rel none none) {mv : Bool} {S : Nat → Prop} (hS : ∀ i, S i → hp i = hp1 i ∨ (hp i = none ∧ ∀ b, Rel none b)) : ∀ {ts : List CT} {ps : List PV} {K : List PV → List Nat → List Nat → Option R} {K' : List PV → List Nat → List Nat → Option R'}, (∀ p ∈ ps, ∀ i ∈ refsC p, S i) →
    (∀ c m x, (∀ i ∈ m ++ x, hp i ≠ none ∧ S i) → Rel (K c m x) (K' c m x)) → Rel (mvcsK mv hp ts ps K) (mvcsK mv hp1 ts ps K')
  | [], [], _, _, _, hK => hK _ _ _ (by simp)
  | [], _ :: _, _, _, _, _ => hn
  | _ :: _, [], _, _, _, _ => hn
  | _ :: _, p :: ps, _, _, hp_, hK => mvcK_relH hn hS (hp_ p (by simp)) fun _ m x hm => mvcsK_relH hn hS (fun q hq => hp_ q (by simp [hq])) fun _ ms xs hms => hK _ _ _ fun i hi => by
      simp only [List.mem_append] at hi hm hms
      rcases hi with (hi | hi) | (hi | hi)
      · exact hm i (.inl hi)
      · exact hms i (.inl hi)
      · exact hm i (.inr hi)
      · exact hms i (.inr hi)

theorem lend1K_relH (hn : Rel none none) {C : Cfg} {f : FuncId} {i : Nat} {t : TypeId} {p : PV} {K : PV → List Nat → List Nat → List Lnt → Option R} {K' : PV → List Nat → List Nat → List Lnt → Option R'} {S : Nat → Prop} (hS : ∀ i, S i → hp i = hp1 i ∨ (hp i = none ∧ ∀ b, Rel none b))
    (hp_ : ∀ i ∈ refs p, S i) (hc : ∀ i ∈ refs p, ∀ c, hp1 i = some (.st c) → ∀ q ∈ c, ∀ k ∈ refsC q, S k)
    (hK : ∀ v m x l, (∀ i ∈ m ++ x ++ l.flatMap Lnt.ids, hp i ≠ none ∧ S i) → Rel (K v m x l) (K' v m x l)) : Rel (lend1K C P f hp i t p K) (lend1K C P f hp1 i t p K') := by
  unfold lend1K
  split
  · split
    · rename_i id off
      have hid : S id := hp_ id (by simp [refs, refs1, refsC])
      rcases hS id hid with h | ⟨h, hb⟩
      · rw [h]
        split
        · rename_i c hc1
          refine chk_rel hn fun _ => mvcsK_relH hn hS (fun q hq k hk => hc id (by simp [refs, refs1, refsC]) c hc1 q (List.mem_of_mem_drop (List.mem_of_mem_take hq)) k hk) fun cs m x hm => hK _ _ _ _ fun k hk => ?_
          rcases List.mem_append.1 hk with hk | hk
          · exact hm k hk
          · simp only [List.flatMap_cons, List.flatMap_nil, Lnt.ids, List.append_nil, List.mem_singleton] at hk
            subst hk
            exact ⟨by rw [h, hc1]; simp, hid⟩
        · exact hn
      · rw [h]; exact hb _
    · exact hn
  · cases C.lnd f i
    · cases isAggB P t
      · exact mvcsK_relH hn hS (fun q hq k hk => by
          simp at hq; subst hq; exact hp_ k (refsC_refs hk)) fun cs m x hm => consK_rel hn fun _ _ _ => nilK_rel hn (hK _ _ _ _ (by simpa using hm))
      · refine aggK_rel hn fun cs hcs => mvcsK_relH hn hS (fun q hq k hk => hp_ k ?_) fun cs m x hm => hK _ _ _ _ (by simpa using hm)
        subst hcs
        exact List.mem_flatMap.2 ⟨q, hq, hk⟩
    · refine optK_rel hn fun e he => ?_
      unfold lrowK
      split
      · rename_i id es' off n
        have hid : S id := hp_ id (by simp [refs, refs1, refsC])
        rcases hS id hid with h | ⟨h, hb⟩
        · rw [h]
          split
          · rename_i c hc1
            refine chk_rel hn fun _ => hK _ _ _ _ fun k hk => ?_
            simp only [List.nil_append, List.flatMap_cons, List.flatMap_nil, Lnt.ids, List.append_nil, List.mem_singleton] at hk
            subst hk
            exact ⟨by rw [h, hc1]; simp, hid⟩
          · exact hn
        · rw [h]; exact hb _
      · exact lsK_rel hn fun _ _ _ => chk_rel hn fun _ => hK _ _ _ _ (by simp [Lnt.ids])

theorem lendK_relH (hn : Rel none none) {C : Cfg} {f : FuncId} {S : Nat → Prop} (hS : ∀ i, S i → hp i = hp1 i ∨ (hp i = none ∧ ∀ b, Rel none b)) : ∀ {ts : List TypeId} {ps : List PV} {i : Nat} {K : List PV → List Nat → List Nat → List Lnt → Option R} {K' : List PV → List Nat → List Nat → List Lnt → Option R'},
    (∀ p ∈ ps, ∀ i ∈ refs p, S i) → (∀ p ∈ ps, ∀ i ∈ refs p, ∀ c, hp1 i = some (.st c) → ∀ q ∈ c, ∀ k ∈ refsC q, S k) →
    (∀ v m x l, (∀ i ∈ m ++ x ++ l.flatMap Lnt.ids, hp i ≠ none ∧ S i) → Rel (K v m x l) (K' v m x l)) → Rel (lendK C P f hp i ts ps K) (lendK C P f hp1 i ts ps K')
  | [], [], _, _, _, _, _, hK => hK _ _ _ _ (by simp)
  | [], _ :: _, _, _, _, _, _, _ => hn
  | _ :: _, [], _, _, _, _, _, _ => hn
  | _ :: _, p :: ps, _, _, _, hp_, hc, hK => lend1K_relH hn hS (hp_ p (by simp)) (hc p (by simp)) fun _ m x l hm => lendK_relH hn hS (fun q hq => hp_ q (by simp [hq])) (fun q hq => hc q (by simp [hq])) fun _ ms xs ls hms => hK _ _ _ _ fun i hi => by
      simp only [List.mem_append, List.flatMap_append] at hi hm hms
      rcases hi with ((hi | hi) | (hi | hi)) | (hi | hi)
      · exact hm i (.inl (.inl hi))
      · exact hms i (.inl (.inl hi))
      · exact hm i (.inl (.inr hi))
      · exact hms i (.inl (.inr hi))
      · exact hm i (.inr hi)
      · exact hms i (.inr hi)

theorem bkcK_rel (hn : Rel none none) {t : Nat} {ct : CT} {was p : PV} {K : Nat → PV → List (Nat × Box) → Option R} {K' : Nat → PV → List (Nat × Box) → Option R'} (hK : ∀ t c b, (∀ q ∈ b, ∃ k, q.1 = nid N k) → Rel (K t c b) (K' t c b)) : Rel (bkcK N t ct was p K) (bkcK N t ct was p K') := by
  unfold bkcK; split
  · split
    · exact owK_rel hn fun _ _ => hK _ _ _ (by intro q hq; simp only [List.mem_singleton] at hq; subst hq; exact ⟨t, rfl⟩)
    · exact lsK_rel hn fun _ _ _ => hK _ _ _ (by simp)
  · exact tcK_rel hn fun _ => hK _ _ _ (by simp)

theorem bkcsK_rel (hn : Rel none none) : ∀ {cts : List CT} {ws ps : List PV} {t : Nat} {K : Nat → List PV → List (Nat × Box) → Option R} {K' : Nat → List PV → List (Nat × Box) → Option R'}, (∀ t c b, (∀ q ∈ b, ∃ k, q.1 = nid N k) → Rel (K t c b) (K' t c b)) → Rel (bkcsK N t cts ws ps K) (bkcsK N t cts ws ps K')
  | [], [], _, _, _, _, hK => nilK_rel hn (hK _ _ _ (by simp))
  | [], _ :: _, _, _, _, _, _ => hn
  | _ :: _, [], _, _, _, _, _ => hn
  | _ :: _, _ :: _, _, _, _, _, hK => consK_rel hn fun _ _ _ => bkcK_rel hn fun _ _ b hb => bkcsK_rel hn fun _ _ bs hbs => hK _ _ _ fun q hq => by
      rcases List.mem_append.1 hq with h | h
      · exact hb q h
      · exact hbs q h

theorem bksK_relH (hn : Rel none none) {S : Nat → Prop} {dst : Option Nat} : ∀ {l : List Lnt} {ro : List (List PV)} {t : Nat} {h0 h1 : Nat → Option Box} {K : (Nat → Option Box) → List (Nat × Box) → Option R} {K' : (Nat → Option Box) → List (Nat × Box) → Option R'},
    Tch N S dst hp hp1 h0 h1 → (∀ i ∈ l.flatMap Lnt.ids, hp i ≠ none ∧ S i ∧ hp i = hp1 i) → (∀ h0' h1' b, Tch N S dst hp hp1 h0' h1' → (∀ q ∈ b, ∃ k, q.1 = nid N k) → Rel (K h0' b) (K' h1' b)) → Rel (bksK N t l ro h0 K) (bksK N t l ro h1 K')
  | [], _, _, _, _, _, _, hT, _, hK => nilK_rel hn (hK _ _ _ hT (by simp))
  | .var id off cts ws :: l, ro, t, h0, h1, K, K', hT, hl, hK => by
    unfold bksK
    refine consK_rel hn fun cs ro _ => bkcsK_rel hn fun t' cs' bs hbs => ?_
    have hid := hl id (by simp [Lnt.ids])
    rw [← hT.same id hid.2.2]
    split
    · exact bksK_relH hn (upd_two hid.2.1 hid.1 hT) (fun i hi => hl i (by simp only [List.flatMap_cons, List.mem_append]; exact .inr hi)) fun h0' h1' b hT' hb => hK _ _ _ hT' fun q hq => by
        rcases List.mem_append.1 hq with h | h
        · exact hbs q h
        · exact hb q h
    · exact hn
  | .row id :: l, ro, t, h0, h1, K, K', hT, hl, hK => by
    unfold bksK
    have hid := hl id (by simp [Lnt.ids])
    exact consK_rel hn fun cs ro _ => bksK_relH hn (upd_two hid.2.1 hid.1 hT) (fun i hi => hl i (by simp only [List.flatMap_cons, List.mem_append]; exact .inr hi)) hK
  | .none :: l, ro, t, h0, h1, K, K', hT, hl, hK => by
    unfold bksK
    exact consK_rel hn fun cs ro _ => bksK_relH hn hT (fun i hi => hl i (by simp only [List.flatMap_cons, List.mem_append]; exact .inr hi)) hK

theorem freeT_eq (h : ∀ i, N ≤ i → hp i = hp1 i) (hN : 0 < N) : ∀ k t, freeT N hp k t = freeT N hp1 k t
  | 0, _ => rfl
  | k + 1, t => by
    unfold freeT
    rw [h (nid N t) (by unfold nid; exact Nat.le_mul_of_pos_right _ (by omega)), freeT_eq h hN k (t + 1)]

theorem absent_eq {h0 h1 : Nat → Option Box} : ∀ {nw : List (Nat × Box)}, (∀ q ∈ nw, h0 q.1 = h1 q.1) → absent h0 nw = absent h1 nw
  | [], _ => rfl
  | (i, b) :: nw, h => by
    unfold absent
    rw [h (i, b) (by simp), absent_eq (fun q hq => h q (by simp [hq]))]

theorem addBoxes_T {S : Nat → Prop} {dst : Option Nat} {h0 h1 : Nat → Option Box} (hT : Tch N S dst hp hp1 h0 h1) : ∀ {nw : List (Nat × Box)} {g0 g1 : Nat → Option Box}, Tch N S dst hp hp1 g0 g1 → (∀ q ∈ nw, N ≤ q.1 ∨ dst = some q.1) → Tch N S dst hp hp1 (addBoxes g0 nw) (addBoxes g1 nw)
  | [], _, _, h, _ => h
  | (i, b) :: nw, g0, g1, h, hi => by
    refine addBoxes_T hT (nw := nw) ⟨fun k hk => ?_, fun k hN hd hk => ?_, fun k hk => ?_⟩ (fun q hq => hi q (by simp [hq]))
    · by_cases e : k = i
      · subst e; rw [upd_same]; simp
      · rw [upd_other _ _ e]; exact h.keep k hk
    · have e : k ≠ i := by
        rintro rfl
        rcases hi (k, b) (by simp) with q | q
        · simp only at q; omega
        · exact hd q
      rw [upd_other _ _ e, upd_other _ _ e]
      exact h.off k hN hd hk
    · by_cases e : k = i
      · subst e; rw [upd_same, upd_same]
      · rw [upd_other _ _ e, upd_other _ _ e]; exact h.same k hk

theorem tch_mv {S : Nat → Prop} {dst : Option Nat} {m x : List Nat} (hm : ∀ i ∈ m ++ x, hp i ≠ none ∧ S i) : Tch N S dst hp hp1 (mvIds (freezeIds hp m) x) (mvIds (freezeIds hp1 m) x) := by
  refine ⟨fun i hi h => ?_, fun i hN hd hi => ?_, fun i hi => ?_⟩
  · rw [mvIds_get] at h
    have h1 : freezeIds hp m i ≠ none := fun e => hi (freeze_none.1 e)
    split at h
    · cases hq : freezeIds hp m i with
      | none => exact h1 hq
      | some b => rw [hq] at h; cases h
    · exact h1 h
  · have e : i ∉ m ∧ i ∉ x := by
      refine ⟨fun h => ?_, fun h => ?_⟩ <;> (rcases hi with hi | hi)
      · exact hi (hm i (by simp [h])).2
      · exact (hm i (by simp [h])).1 hi
      · exact hi (hm i (by simp [h])).2
      · exact (hm i (by simp [h])).1 hi
    rw [mvIds_get, mvIds_get, if_neg e.2, if_neg e.2, freeze_get, freeze_get, if_neg e.1, if_neg e.1]
    exact ⟨rfl, rfl⟩
  · rw [mvIds_get, mvIds_get, freeze_get, freeze_get, hi]

theorem callMK_relH (hn : Rel none none) {C : Cfg} {call : Call'} {f : FuncId} {c : Call} {K : St → Option R} {K' : St → Option R'} {S : Nat → Prop} (htm : c.args.toList.map (opv tm) = c.args.toList.map (opv tm')) (hS : ∀ i, S i → hp i = hp1 i ∨ (hp i = none ∧ ∀ b, Rel none b))
    (hp_ : ∀ p ∈ c.args.toList.map (opv tm'), ∀ i ∈ refs p, S i) (hc : ∀ p ∈ c.args.toList.map (opv tm'), ∀ i ∈ refs p, ∀ c, hp1 i = some (.st c) → ∀ q ∈ c, ∀ k ∈ refsC q, S k)
    (hdd : ∀ d, o.dst = some d → hp d = hp1 d) (hNN : ∀ i, N ≤ i → hp i = hp1 i)
    (hK : ∀ v hp' hp1', Tch N S o.dst hp hp1 hp' hp1' → Rel (K ⟨putTm tm o.dst v, hp'⟩) (K' ⟨putTm tm' o.dst v, hp1'⟩)) : Rel (callMK C P N call ⟨tm, hp⟩ o f c K) (callMK C P N call ⟨tm', hp1⟩ o f c K') := by
  unfold callMK
  simp only [htm]
  refine lendK_relH hn hS hp_ hc fun vs m x l hm => chk_rel hn fun hb => callK_rel hn fun rv ro => unvsK_rel hn fun ws bs hbs => chk_rel hn fun _ => ?_
  simp only [Bool.and_eq_true] at hb
  have hN : 0 < N := Nat.lt_of_succ_le (Nat.le_of_ble_eq_true hb.1.2)
  rw [freeT_eq hNN hN]
  by_cases hbad : ∃ i ∈ l.flatMap Lnt.ids, hp i ≠ hp1 i
  · obtain ⟨i, hi, hne⟩ := hbad
    obtain ⟨h1, h2⟩ := hm i (List.mem_append.2 (.inr hi))
    rcases hS i h2 with h | ⟨h, _⟩
    · exact absurd h hne
    · exact absurd h h1
  have hl : ∀ i ∈ l.flatMap Lnt.ids, hp i ≠ none ∧ S i ∧ hp i = hp1 i := fun i hi => ⟨(hm i (List.mem_append.2 (.inr hi))).1, (hm i (List.mem_append.2 (.inr hi))).2, Classical.byContradiction fun h => hbad ⟨i, hi, h⟩⟩
  have hT0 : Tch N S o.dst hp hp1 (mvIds (freezeIds hp m) x) (mvIds (freezeIds hp1 m) x) := tch_mv fun i hi => hm i (List.mem_append.2 (.inl hi))
  refine bksK_relH hn hT0 hl fun h0 h1 bs' hT hbs' => ?_
  have hids : ∀ q ∈ bs ++ bs', N ≤ q.1 ∨ o.dst = some q.1 := by
    intro q hq
    rcases List.mem_append.1 hq with hq | hq
    · obtain ⟨j, hj⟩ := hbs q hq
      cases hd : o.dst with
      | none =>
        rw [hd] at hj
        left
        rw [hj]
        exact Nat.le_add_right _ _
      | some d =>
        rw [hd] at hj
        change q.1 = d + N * j at hj
        cases j with
        | zero => right; rw [hj]; simp
        | succ j => left; rw [hj, Nat.mul_add]; omega
    · obtain ⟨k, hk⟩ := hbs' q hq
      left
      rw [hk]
      unfold nid
      exact Nat.le_mul_of_pos_right _ (by omega)
  have hsame : ∀ q ∈ bs ++ bs', h0 q.1 = h1 q.1 := by
    intro q hq
    refine hT.same q.1 ?_
    rcases hids q hq with h | h
    · exact hNN _ h
    · exact hdd _ h
  rw [absent_eq hsame]
  exact chk_rel hn fun _ => hK _ _ _ (addBoxes_T hT hT hids)

theorem mutK_relH (hn : Rel none none) {C : Cfg} {call : Call'} {K : St → Option R} {K' : St → Option R'} (htm : ∀ x ∈ o.op.operands.toList, opv tm x = opv tm' x)
    (hS : ∀ i, Rch o tm' hp1 i → hp i = hp1 i ∨ (hp i = none ∧ ∀ b, Rel none b)) (hdd : ∀ d, o.dst = some d → hp d = hp1 d) (hNN : ∀ i, N ≤ i → hp i = hp1 i)
    (hK : ∀ v hp' hp1', Tch N (Rch o tm' hp1) o.dst hp hp1 hp' hp1' → Rel (K ⟨putTm tm o.dst v, hp'⟩) (K' ⟨putTm tm' o.dst v, hp1'⟩)) : Rel (mutK C P N call ⟨tm, hp⟩ o K) (mutK C P N call ⟨tm', hp1⟩ o K') := by
  unfold mutK
  have hl : ∀ x ∈ o.op.operands.toList, ∀ i ∈ refs (opv tm' x), Rch o tm' hp1 i := fun x hx i hi => .inl ⟨x, hx, hi⟩
  have hl2 : ∀ x ∈ o.op.operands.toList, ∀ i ∈ refs (opv tm' x), ∀ c, hp1 i = some (.st c) → ∀ q ∈ c, ∀ k ∈ refsC q, Rch o tm' hp1 k := fun x hx i hi c hc q hq k hk => .inr ⟨i, c, ⟨x, hx, hi⟩, hc, q, hq, hk⟩
  generalize hLd : Rch o tm' hp1 = S at *
  generalize hop : o.op = op at *
  split
  · rename_i t x y
    simp only [htm x (by simp [Op.operands]), htm y (by simp [Op.operands])]
    refine chk_rel hn fun hd => storeK_relH (N := N) hn hS (fun i hi => hl x (by simp [Op.operands]) i (refsC_refs hi)) (fun i hi => hl y (by simp [Op.operands]) i (refs1_refs hi)) fun hp' hp1' hh => ?_
    have hd' := Option.isNone_iff_eq_none.1 hd
    have := hK .top hp' hp1' (by rw [hd']; exact hh)
    rw [hd'] at this
    exact this
  · rename_i c
    have hmem : ∀ x ∈ c.args.toList, x ∈ (Op.call c).operands.toList := by
      intro x hx
      simp only [Op.operands, Call.operands, Array.toList_append, List.mem_append]
      exact .inr hx
    split
    · rename_i hc
      refine optK_rel hn fun d hd => consK_rel hn fun x _ hx => consK_rel hn fun y _ hy => nilK_rel hn (consK_rel hn fun _ _ _ => consK_rel hn fun _ _ _ => ?_)
      subst hy
      have hxm := hmem x (by rw [hx]; simp)
      have hym := hmem y (by rw [hx]; simp)
      simp only [htm x hxm, htm y hym]
      refine appendK_relH hn hS (hdd d hd) (fun i hi => hl x hxm i (refs1_refs hi)) (fun i hi => hl y hym i (refs1_refs hi)) fun v hp' hp1' hh => ?_
      have := hK v hp' hp1' (by rw [hd]; exact hh)
      rw [hd] at this
      exact this
    · refine callMK_relH hn (List.map_congr_left fun x hx => htm x (hmem x hx)) hS (fun p hp i hi => ?_) (fun p hp i hi => ?_) hdd hNN hK
      · obtain ⟨x, hx, rfl⟩ := List.mem_map.1 hp
        exact hl x (hmem x hx) i hi
      · obtain ⟨x, hx, rfl⟩ := List.mem_map.1 hp
        exact hl2 x (hmem x hx) i hi
    · exact hn
  · exact hn

theorem mutK_rel (hn : Rel none none) {C : Cfg} {call : Call'} {K : St → Option R} {K' : St → Option R'} (htm : ∀ x ∈ o.op.operands.toList, opv tm x = opv tm' x) (hK : ∀ v hp', (∀ i, hp i ≠ none → hp' i ≠ none) → Rel (K ⟨putTm tm o.dst v, hp'⟩) (K' ⟨putTm tm' o.dst v, hp'⟩)) : Rel (mutK C P N call ⟨tm, hp⟩ o K) (mutK C P N call ⟨tm', hp⟩ o K') :=
  mutK_relH hn htm (fun _ _ => .inl rfl) (fun _ _ => rfl) (fun _ _ => rfl) fun v hp' hp1' hT => by
    have : hp' = hp1' := funext fun i => hT.same i rfl
    subst this
    exact hK v hp' hT.keep
end

section
variable {R : Type} {r : R} {C : Cfg} {P : Program} {N : Nat} {call : Call'} {ops : Array Oper} {o x : Oper} {s : St} {K : St → Option R}

/-- An operation that does not look at memory. -/
theorem gE_free {tm : Nat → PV} {hp hp' : Nat → Option Box} {tm' : Nat → PV} {q : Eff3} (hm : memo P o.op = false) (ht : ∀ t ∈ looks ops o, tm t = tm' t) (h : gE C P N call ops o ⟨tm, hp⟩ = some q) : gE C P N call ops o ⟨tm', hp'⟩ = some q :=
  gE_more (s := ⟨tm, hp⟩) (s' := ⟨tm', hp'⟩) ht (fun h => by rw [hm] at h; cases h) h

theorem gopK_free {tm : Nat → PV} {hp : Nat → Option Box} (hm : memo P o.op = false) (h : gopK C P N call ops o ⟨tm, hp⟩ K = some r) :
    ∃ v nw, gE C P N call ops o ⟨tm, hp⟩ = some (v, [], nw) ∧ dstOk N o.dst = true ∧ absent hp nw = true ∧ (∀ p ∈ nw, o.dst = some p.1) ∧ K ⟨putTm tm o.dst v, addBoxes hp nw⟩ = some r := by
  have hM : isM C P o.op = false := by
    cases hh : isM C P o.op
    · rfl
    · rw [isM_memo hh] at hm; cases hm
  rw [gopK_R (by simp [actM, hM])] at h
  cases e : gE C P N call ops o ⟨tm, hp⟩ with
  | none => rw [e] at h; cases h
  | some q =>
    obtain ⟨v, fz, nw⟩ := q
    obtain ⟨h1, h2⟩ := (gE_facts e).1 hm
    simp only at h1 h2
    subst h1
    rw [e] at h
    obtain ⟨hb, h⟩ := chk_inv h
    simp only [Bool.and_eq_true] at hb
    exact ⟨v, nw, rfl, hb.1, hb.2, h2, h⟩

theorem gopK_free' {tm : Nat → PV} {hp : Nat → Option Box} {v : PV} {nw : List (Nat × Box)} (hm : memo P o.op = false) (e : gE C P N call ops o ⟨tm, hp⟩ = some (v, [], nw)) (hd : dstOk N o.dst = true) (ha : absent hp nw = true) (h : K ⟨putTm tm o.dst v, addBoxes hp nw⟩ = some r) : gopK C P N call ops o ⟨tm, hp⟩ K = some r := by
  have hM : isM C P o.op = false := by
    cases hh : isM C P o.op
    · rfl
    · rw [isM_memo hh] at hm; cases hm
  rw [gopK_R (by simp [actM, hM]), e]
  show chk _ _ = _
  have ha' : absent hp nw = true := ha
  rw [hd, ha']
  exact h

theorem add_get {hp : Nat → Option Box} {nw : List (Nat × Box)} (ha : absent hp nw = true) {i : Nat} (hi : ∀ p ∈ nw, p.1 ≠ i) : addBoxes hp nw i = hp i :=
  (addBoxes_get (absent_spec ha).2).2 i fun b hb => hi _ hb rfl

/-- New boxes of one slot, added to two memories that differ there alone. -/
theorem add_eq {hp hp' : Nat → Option Box} {nw : List (Nat × Box)} (ha : absent hp nw = true) {g : Nat → Option Box} (h1 : ∀ i, (∀ p ∈ nw, p.1 ≠ i) → g i = hp' i) (h2 : ∀ i, (∃ p ∈ nw, p.1 = i) → g i = addBoxes hp nw i) (ha' : absent hp' nw = true) : g = addBoxes hp' nw := by
  funext i
  by_cases h : ∃ p ∈ nw, p.1 = i
  · rw [h2 i h]
    obtain ⟨⟨j, b⟩, hp, rfl⟩ := h
    rw [(addBoxes_get (absent_spec ha).2).1 j b hp, (addBoxes_get (absent_spec ha').2).1 j b hp]
  · have h' : ∀ p ∈ nw, p.1 ≠ i := fun p hp e => h ⟨p, hp, e⟩
    rw [h1 i h', add_get ha' h']

theorem swap_Mx (ap : Apart C P ops x o) (hx : actM C P ops x s.tm = true)
    (h : gopK C P N call ops x s (fun s1 => gopK C P N call ops o s1 K) = some r) : gopK C P N call ops o s (fun s1 => gopK C P N call ops x s1 K) = some r := by
  have hm : memo P o.op = false := ap.mx (by unfold actM at hx; simp only [Bool.and_eq_true] at hx; exact hx.1)
  rw [gopK_M hx] at h
  obtain ⟨tm, hp⟩ := s
  have look : ∀ v, ∀ t ∈ looks ops o, putTm tm x.dst v t = tm t := fun v => putTm_look ap.xo
  have h1 := mutK_relH (P := P) (N := N) (o := x) (tm := tm) (tm' := tm) (hp := hp) (hp1 := hp) (K := fun s1 => gopK C P N call ops o s1 K) (K' := fun _ => none)
    (Rel := fun (a : Option R) (_ : Option R) => a = some r → ∃ v nw, gE C P N call ops o ⟨tm, hp⟩ = some (v, [], nw) ∧ dstOk N o.dst = true ∧ (∀ p ∈ nw, o.dst = some p.1) ∧ absent hp nw = true) (fun h => by cases h) (fun _ _ => rfl) (fun _ _ => .inl rfl) (fun _ _ => rfl) (fun _ _ => rfl) (fun v hp' _ hT h => by
      obtain ⟨u, nw, hu, hd, ha, hn, _⟩ := gopK_free hm h
      refine ⟨u, nw, gE_free hm (look v) hu, hd, hn, absent_of ha fun i b hi => ?_⟩
      cases hh : hp i with
      | none => rfl
      | some c => exact absurd ((absent_spec ha).1 i b hi) (hT.keep i (by rw [hh]; simp))) h
  obtain ⟨v, nw, hv, hd, hn, ha⟩ := h1
  refine gopK_free' hm hv hd ha ?_
  have t2 : ∀ t ∈ looks ops x, tm t = putTm tm o.dst v t := fun t ht => (putTm_look ap.ox t ht).symm
  rw [gopK_M (by rw [← actM_looks t2]; exact hx)]
  refine mutK_relH (P := P) (N := N) (o := x) (tm := tm) (tm' := putTm tm o.dst v) (hp := hp) (hp1 := addBoxes hp nw) (Rel := fun (a b : Option R) => a = some r → b = some r) (fun h => by cases h) (opv_looks t2) (fun i _ => ?_) (fun d hxd => ?_) (fun i hi => (add_get ha fun p hp e => by have := dstOk_lt hd (hn p hp); omega).symm) (fun u hp' hp1' hT h => ?_) h
  · by_cases hi : ∃ p ∈ nw, p.1 = i
    · obtain ⟨⟨j, b⟩, hp1, rfl⟩ := hi
      exact .inr ⟨(absent_spec ha).1 j b hp1, fun _ h => by cases h⟩
    · exact .inl (add_get ha fun p hp e => hi ⟨p, hp, e⟩).symm
  · refine (add_get ha fun p hp e => ?_).symm
    have := hn p hp
    rw [e] at this
    exact ap.ne d hxd this
  · obtain ⟨v', nw', hv', _, ha', _, h'⟩ := gopK_free hm h
    have he := gE_free (hp' := hp) hm (look u) hv'
    rw [hv] at he
    simp only [Option.some.injEq, Prod.mk.injEq, true_and] at he
    obtain ⟨rfl, rfl⟩ := he
    have hh : hp1' = addBoxes hp' nw := by
      refine add_eq ha (fun i hi => ?_) (fun i hi => ?_) ha'
      · exact (hT.same i (add_get ha hi).symm).symm
      · obtain ⟨⟨j, b⟩, hp1, rfl⟩ := hi
        refine (hT.off j (dstOk_lt hd (hn _ hp1)) (fun e => ap.ne j e (hn _ hp1)) (.inr ((absent_spec ha).1 j b hp1))).2
    rw [hh, ← putTm_comm ap.ne]
    exact h'

theorem swap_oM (hw : Has C P o s) (ap : Apart C P ops x o) (ho : actM C P ops o s.tm = true)
    (h : gopK C P N call ops x s (fun s1 => gopK C P N call ops o s1 K) = some r) : gopK C P N call ops o s (fun s1 => gopK C P N call ops x s1 K) = some r := by
  have hm : memo P x.op = false := ap.mo (by unfold actM at ho; simp only [Bool.and_eq_true] at ho; exact ho.1)
  obtain ⟨tm, hp⟩ := s
  obtain ⟨v, nw, hv, hd, ha, hn, h1⟩ := gopK_free hm h
  have t1 : ∀ t ∈ looks ops o, putTm tm x.dst v t = tm t := putTm_look ap.xo
  change gopK C P N call ops o ⟨putTm tm x.dst v, addBoxes hp nw⟩ K = some r at h1
  rw [gopK_M (by rw [actM_looks t1]; exact ho)] at h1
  rw [gopK_M ho]
  have hMo : isM C P o.op = true := by unfold actM at ho; simp only [Bool.and_eq_true] at ho; exact ho.1
  have hlead : ∀ i, Rch o tm hp i → hp i ≠ none := by
    rintro i (⟨y, hy, hi⟩ | ⟨id, c, ⟨y, hy, hi⟩, hc, p, hp1, hk⟩)
    · exact hw.1 y hy i hi
    · exact hw.2 hMo y hy id hi c hc p hp1 i hk
  refine mutK_relH (P := P) (N := N) (o := o) (tm := putTm tm x.dst v) (tm' := tm) (hp := addBoxes hp nw) (hp1 := hp) (Rel := fun (a b : Option R) => a = some r → b = some r) (fun h => by cases h) (opv_looks t1) (fun i hi => ?_) (fun d hod => ?_) (fun i hi => add_get ha fun p hp e => by have := dstOk_lt hd (hn p hp); omega) (fun u hp' hp1' hT h => ?_) h1
  · refine .inl (add_get ha fun p hp' e => hlead i hi ?_)
    rw [← e]
    exact (absent_spec ha).1 p.1 p.2 hp'
  · refine add_get ha fun p hp' e => ?_
    have := hn p hp'
    rw [e] at this
    exact ap.ne d this hod
  · have hoff : ∀ p ∈ nw, hp' p.1 = addBoxes hp nw p.1 ∧ hp1' p.1 = none := by
      intro p hp2
      have hno := (absent_spec ha).1 p.1 p.2 hp2
      have h3 := hT.off p.1 (dstOk_lt hd (hn p hp2)) (fun e => ap.ne p.1 (hn p hp2) e) (.inl fun hL => hlead _ hL hno)
      exact ⟨h3.1, h3.2.trans hno⟩
    have ha' : absent hp1' nw = true := absent_of ha fun i b hi => (hoff (i, b) hi).2
    refine gopK_free' hm (gE_free hm (fun t ht => (putTm_look ap.ox t ht).symm) hv) hd ha' ?_
    have hh : hp' = addBoxes hp1' nw := by
      refine add_eq ha (fun i hi => ?_) (fun i hi => ?_) ha'
      · exact hT.same i (add_get ha hi)
      · obtain ⟨p, hp2, rfl⟩ := hi
        exact (hoff p hp2).1
    rw [← putTm_comm ap.ne, ← hh]
    exact h

theorem swap (hw : Has C P o s) (ap : Apart C P ops x o)
    (h : gopK C P N call ops x s (fun s1 => gopK C P N call ops o s1 K) = some r) : gopK C P N call ops o s (fun s1 => gopK C P N call ops x s1 K) = some r := by
  cases hx : actM C P ops x s.tm
  · cases ho : actM C P ops o s.tm
    · exact swap_RR hw ap hx ho h
    · exact swap_oM hw ap ho h
  · exact swap_Mx ap hx h

/-- What an operation leaves of slots and boxes. -/
def Keeps (P : Program) (x : Oper) (s s1 : St) : Prop := (∀ t, x.dst ≠ some t → s1.tm t = s.tm t) ∧ (∀ i, s.hp i ≠ none → s1.hp i ≠ none) ∧ (memo P x.op = false → ∀ i, s.hp i ≠ none → s1.hp i = s.hp i)

theorem putTm_keeps {tm : Nat → PV} {d : Option Tmp} {v : PV} {t : Nat} (h : d ≠ some t) : putTm tm d v t = tm t := by
  cases d with
  | none => rfl
  | some d => exact upd_other _ _ (by rintro rfl; exact h rfl)

theorem gopK_keeps {K' : St → Option R} (h : gopK C P N call ops x s K = some r) (hK : ∀ s1, Keeps P x s s1 → K s1 = some r → K' s1 = some r) : gopK C P N call ops x s K' = some r := by
  cases hx : actM C P ops x s.tm
  · rw [gopK_R hx] at h ⊢
    cases ex : gE C P N call ops x s with
    | none => rw [ex] at h; cases h
    | some q =>
      rw [ex] at h
      obtain ⟨hb, h1⟩ := chk_inv h
      simp only [Bool.and_eq_true] at hb
      show chk _ _ = _
      rw [hb.1, hb.2]
      refine hK _ ⟨fun t ht => putTm_keeps ht, fun i hi => after_some hb.2 hi, fun hm i hi => ?_⟩ h1
      show addBoxes (freezeIds s.hp q.2.1) q.2.2 i = s.hp i
      rw [after_old hb.2 hi, ((gE_facts ex).1 hm).1]
      simp
  · rw [gopK_M hx] at h ⊢
    exact mutK_rel (P := P) (N := N) (o := x) (tm := s.tm) (tm' := s.tm) (hp := s.hp) (Rel := fun (a b : Option R) => a = some r → b = some r) (fun h => by cases h) (fun _ _ => rfl) (fun v hp' hh h => hK _ ⟨fun t ht => putTm_keeps ht, hh, fun hm => by
      have hM : isM C P x.op = true := by unfold actM at hx; simp only [Bool.and_eq_true] at hx; exact hx.1
      rw [isM_memo hM] at hm; cases hm⟩ h) h

theorem Has.keeps {s1 : St} (h : Has C P o s) (ap : Apart C P ops x o) (hk : Keeps P x s s1) : Has C P o s1 := by
  have hop : ∀ y ∈ o.op.operands.toList, opv s1.tm y = opv s.tm y := fun y hy => opv_looks (ops := ops) (o := o) (fun t ht => hk.1 t fun hd => ap.xo t hd ht) y hy
  refine ⟨fun y hy i hi => ?_, fun hM y hy i hi c hc p hp k hkk => ?_⟩
  · rw [hop y hy] at hi
    exact hk.2.1 i (h.1 y hy i hi)
  · rw [hop y hy] at hi
    have hi0 := h.1 y hy i hi
    rw [hk.2.2 (ap.mo hM) i hi0] at hc
    exact hk.2.1 k (h.2 hM y hy i hi c hc p hp k hkk)

/-- An operation that touches none of a row's may be taken first. -/
theorem gops_first : ∀ (l : List Oper) {s : St} {K : St → Option R}, Has C P o s → (∀ x ∈ l, Apart C P ops x o) → gopsK C P N call ops l s (fun s1 => gopK C P N call ops o s1 K) = some r → gopK C P N call ops o s (fun s1 => gopsK C P N call ops l s1 K) = some r
  | [], _, _, _, _, h => h
  | x :: l, s, K, hw, ap, h => by
    refine swap hw (ap x (by simp)) ?_
    refine gopK_keeps (K := fun s1 => gopsK C P N call ops l s1 (fun s2 => gopK C P N call ops o s2 K)) h fun s1 hk h1 => ?_
    exact gops_first l (hw.keeps (ap x (by simp)) hk) (fun y hy => ap y (List.mem_cons_of_mem _ hy)) h1

theorem gops_append : ∀ (l l' : List Oper) {s : St} {K : St → Option R}, gopsK C P N call ops (l ++ l') s K = gopsK C P N call ops l s (fun s1 => gopsK C P N call ops l' s1 K)
  | [], _, _, _ => rfl
  | x :: l, l', s, K => by
    show gopK C P N call ops x s (fun s1 => gopsK C P N call ops (l ++ l') s1 K) = gopK C P N call ops x s (fun s1 => gopsK C P N call ops l s1 _)
    congr 1
    funext s1
    exact gops_append l l'

theorem gops_take {l l' : List Oper} (hw : Has C P o s) (ap : ∀ x ∈ l, Apart C P ops x o) (h : gopsK C P N call ops (l ++ o :: l') s K = some r) : gopK C P N call ops o s (fun s1 => gopsK C P N call ops (l ++ l') s1 K) = some r := by
  rw [gops_append] at h
  have := gops_first l hw ap h
  refine gopK_keeps this fun s1 _ h1 => ?_
  rw [gops_append]
  exact h1
end

end Go.Proofs.Ytoihfmiifeegpaa.Pv
