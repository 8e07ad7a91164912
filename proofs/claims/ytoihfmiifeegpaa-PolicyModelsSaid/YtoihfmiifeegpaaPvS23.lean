/-
  Operations of class R: what they look at, what they make.
-/
import Derived.Test.YtoihfmiifeegpaaPvS22
namespace Go.Proofs.Ytoihfmiifeegpaa.Pv

theorem refsC_refs1 {p : PV} {i : Nat} (h : i ∈ refsC p) : i ∈ refs1 p := by cases p <;> first | exact h | simp [refsC] at h
theorem refs1_refs {p : PV} {i : Nat} (h : i ∈ refs1 p) : i ∈ refs p := by cases p <;> first | exact h | simp [refs1, refsC] at h
theorem refsC_refs {p : PV} {i : Nat} (h : i ∈ refsC p) : i ∈ refs p := refs1_refs (refsC_refs1 h)

section
variable {R R' : Type} {Rel : Option R → Option R' → Prop} {P : Program} {N : Nat} {tm tm' : Nat → PV} {f f' g g' : Nat → Option (List PV)} {o : Oper}

theorem constK_rel (hn : Rel none none) {t : TypeId} {x : Operand} {K : PV → Option R} {K' : PV → Option R'} (hx : opv tm x = opv tm' x) (hK : ∀ p, Rel (K p) (K' p)) : Rel (constK P t tm x K) (constK P t tm' x K') := by
  unfold constK; split
  · exact cvK_rel hn (fun _ _ => hK _) (fun _ => hK _)
  · rw [hx]; exact hK _

theorem tcK_rel0 (hn : Rel none none) {t : CT} {p : PV} {K : PV → Option R} {K' : PV → Option R'} (hK : ∀ p, refsC p = [] → Rel (K p) (K' p)) : Rel (tcK t p K) (tcK t p K') := by
  unfold tcK; split
  · exact intK_rel hn fun _ => hK _ rfl
  · exact boolK_rel hn fun _ => hK _ rfl
  · exact strK_rel hn fun _ => hK _ rfl
  · exact lsK_rel hn fun _ _ _ => hK _ rfl
  · exact hn
theorem tcsK_rel0 (hn : Rel none none) : ∀ {ts : List CT} {cells : List PV} {off : Nat} {K : List PV → Option R} {K' : List PV → Option R'}, (∀ c, (∀ p ∈ c, refsC p = []) → Rel (K c) (K' c)) → Rel (tcsK ts cells off K) (tcsK ts cells off K')
  | [], _, _, _, _, hK => hK _ (by simp)
  | _ :: _, _, _, _, _, hK => tcK_rel0 hn fun c hc => tcsK_rel0 hn fun cs hcs => hK _ (by
      intro p hp
      rcases List.mem_cons.1 hp with h | h
      · rw [h]; exact hc
      · exact hcs p h)
theorem zcellsK_rel0 (hn : Rel none none) {t : TypeId} {K : List PV → Option R} {K' : List PV → Option R'} (hK : ∀ c, (∀ p ∈ c, refsC p = []) → Rel (K c) (K' c)) : Rel (zcellsK P t K) (zcellsK P t K') :=
  optK_rel hn fun _ _ => chk_rel hn fun _ => tcsK_rel0 hn hK
theorem mem_cellsOf {p c : PV} (h : c ∈ cellsOf p) {i : Nat} (hi : i ∈ refsC c) : i ∈ refs1 p := by
  unfold cellsOf at h
  split at h
  · exact List.mem_flatMap.2 ⟨c, h, hi⟩
  · simp at h; subst h; exact refsC_refs1 hi
theorem mem_splice {cells new : List PV} {off : Nat} {c : PV} (h : c ∈ splice cells new off) : c ∈ cells ∨ c ∈ new := by
  unfold splice at h
  rcases List.mem_append.1 h with h | h
  · rcases List.mem_append.1 h with h | h
    · exact .inl (List.mem_of_mem_take h)
    · exact .inr h
  · exact .inl (List.mem_of_mem_drop h)
theorem fillK_relI (hn : Rel none none) {place : Nat → Option (Nat × Nat)} {S : Nat → Prop} : ∀ {ps : List (Nat × PV)} {cells : List PV} {K : List PV → Option R} {K' : List PV → Option R'}, (∀ c ∈ cells, ∀ i ∈ refsC c, S i) → (∀ q ∈ ps, ∀ i ∈ refs1 q.2, S i) →
    (∀ cs, (∀ c ∈ cs, ∀ i ∈ refsC c, S i) → Rel (K cs) (K' cs)) → Rel (fillK place ps cells K) (fillK place ps cells K')
  | [], _, _, _, h1, _, hK => hK _ h1
  | (_, p) :: _, _, _, _, h1, h2, hK => optK_rel hn fun _ _ => chk_rel hn fun _ => fillK_relI hn (fun c hc i hi => by
      rcases mem_splice hc with h | h
      · exact h1 c h i hi
      · exact h2 (_, p) List.mem_cons_self i (mem_cellsOf h hi)) (fun q hq => h2 q (List.mem_cons_of_mem _ hq)) hK

theorem frcsK_plain (hn : Rel none none) : ∀ {ts : List CT} {ps : List PV} {K : List PV → List Nat → Option R} {K' : List PV → List Nat → Option R'}, (∀ t ∈ ts, ∀ es, t ≠ .sl es) → (∀ c, Rel (K c []) (K' c [])) → Rel (frcsK g ts ps K) (frcsK g' ts ps K')
  | [], [], _, _, _, hK => hK _
  | [], _ :: _, _, _, _, _ => hn
  | _ :: _, [], _, _, _, _ => hn
  | t :: ts, p :: ps, K, K', ht, hK => by
    show Rel (frcK g t p _) (frcK g' t p _)
    have : ∀ {g : Nat → Option (List PV)} {S : Type} {L : PV → List Nat → Option S}, frcK g t p L = tcK t p fun c => L c [] := by
      intro g S L
      cases t with
      | sl es => exact absurd rfl (ht _ (by simp) es)
      | _ => rfl
    rw [this, this]
    exact tcK_rel hn fun c => frcsK_plain hn (fun t h => ht t (by simp [h])) fun cs => hK _

theorem srcR_rel (hn : Rel none none) {es : Nat} {t : TypeId} {x : PV} {K : Nat → List PV → Option R} {K' : Nat → List PV → Option R'} (hx : Agr Rel g g' (refsC x)) (hK : ∀ m c, Rel (K m c) (K' m c)) : Rel (srcR P g es t x K) (srcR P g' es t x K') := by
  unfold srcR; split
  · exact chk_rel hn fun _ => strK_rel hn fun _ => hK _ _
  · exact slcK_rel hn hx hK
  · exact hn
theorem capK_rel (hn : Rel none none) {t : TypeId} {x : PV} {K : Nat → Option R} {K' : Nat → Option R'} (hK : ∀ n, Rel (K n) (K' n)) : Rel (capK P t x K) (capK P t x K') := by
  unfold capK; split
  · exact lsK_rel hn fun _ _ _ => chk_rel hn fun _ => hK _
  · exact hn
theorem appNilK_rel (hn : Rel none none) {d : Nat} {t tx : TypeId} {x : PV} {K : PV → List (Nat × Box) → Option R} {K' : PV → List (Nat × Box) → Option R'} (hx : Agr Rel g g' (refsC x)) (hK : ∀ v nw, Rel (K v nw) (K' v nw)) : Rel (appNilK P g d t tx x K) (appNilK P g' d t tx x K') := by
  unfold appNilK; split
  · exact chk_rel hn fun _ => srcR_rel hn hx fun _ _ => chk_rel hn fun _ => hK _ _
  · exact hn

theorem effK_rel (hn : Rel none none) {C : Cfg} {call : Call'} {K : PV → List Nat → List (Nat × Box) → Option R} {K' : PV → List Nat → List (Nat × Box) → Option R'}
    (htm : ∀ x ∈ o.op.operands.toList, opv tm x = opv tm' x)
    (hfg : memo P o.op = true → ∀ x ∈ o.op.operands.toList, ∀ i ∈ refs (opv tm' x), (f i = f' i ∧ g i = g' i) ∨ (f i = none ∧ g i = none ∧ ∀ b, Rel none b))
    (hK : ∀ v fz nw, (memo P o.op = false → fz = [] ∧ ∀ q ∈ nw, o.dst = some q.1) → (∀ i ∈ fz, g i ≠ none) → Rel (K v fz nw) (K' v fz nw)) :
    Rel (effK C P N call tm f g o K) (effK C P N call tm' f' g' o K') := by
  have h0 : ∀ v, Rel (K v [] []) (K' v [] []) := fun v => hK v [] [] (fun _ => ⟨rfl, by simp⟩) (by simp)
  have hf : memo P o.op = true → ∀ x ∈ o.op.operands.toList, Agr Rel f f' (refs (opv tm' x)) := fun h x hx i hi => (hfg h x hx i hi).imp (·.1) fun h => ⟨h.1, h.2.2⟩
  have hg : memo P o.op = true → ∀ x ∈ o.op.operands.toList, Agr Rel g g' (refs (opv tm' x)) := fun h x hx i hi => (hfg h x hx i hi).imp (·.2) fun h => ⟨h.2.1, h.2.2⟩
  unfold effK
  generalize hop : o.op = op at *
  split
  · exact constK_rel hn (htm _ (by simp [Op.operands])) h0
  · exact constK_rel hn (htm _ (by simp [Op.operands])) h0
  · rename_i c x y
    rw [htm c (by simp [Op.operands]), htm x (by simp [Op.operands]), htm y (by simp [Op.operands])]
    exact boolK_rel hn fun _ => brK_rel (h0 _) (h0 _)
  · exact optK_rel hn fun d hd => zcellsK_rel hn fun _ => hK _ _ _ (fun _ => ⟨rfl, by simp [hd]⟩) (by simp)
  · rename_i t x
    rw [htm x (by simp [Op.operands])]
    refine optK_rel hn fun d hd => chk_rel hn fun _ => ?_
    cases isArrB P t
    · exact fcsK_rel hn fun _ => hK _ _ _ (fun _ => ⟨rfl, by simp [hd]⟩) (by simp)
    · exact tcsK_rel hn fun _ => hK _ _ _ (fun _ => ⟨rfl, by simp [hd]⟩) (by simp)
  · rename_i t ps
    have : (ps.toList.map fun q => (q.1, opv tm q.2)) = ps.toList.map fun q => (q.1, opv tm' q.2) := by
      apply List.map_congr_left
      intro q hq
      rw [htm q.2 (by simp only [Op.operands]; exact List.mem_map_of_mem hq)]
    rw [this]
    exact chk_rel hn fun _ => zcellsK_rel hn fun _ => fillK_rel hn fun _ => fcsK_rel hn fun _ => h0 _
  · rename_i t n ps
    have : (ps.toList.map fun q => (q.1, opv tm q.2)) = ps.toList.map fun q => (q.1, opv tm' q.2) := by
      apply List.map_congr_left
      intro q hq
      rw [htm q.2 (by simp only [Op.operands]; exact List.mem_map_of_mem hq)]
    rw [this]
    refine optK_rel hn fun d hd => ?_
    split
    · rename_i e hu
      cases hsl : hasSl P [e]
      · refine chk_rel hn fun _ => zcellsK_rel0 hn fun z hz => fillK_rel hn fun cs => frcsK_plain hn ?_ fun cs' => hK _ _ _ (fun _ => ⟨rfl, by simp [hd]⟩) (by simp)
        intro c hc es he
        obtain ⟨l, hl, hc⟩ := List.mem_flatten.1 hc
        rw [List.eq_of_mem_replicate hl] at hc
        subst he
        have : hasSl P [e] = true := by
          unfold hasSl
          simp only [List.any_cons, List.any_nil, Bool.or_false, Bool.or_eq_true]
          exact .inr (List.any_eq_true.2 ⟨_, hc, rfl⟩)
        rw [this] at hsl
        cases hsl
      refine chk_rel hn fun _ => zcellsK_rel0 hn fun z hz => fillK_relI (S := fun i => ∃ x ∈ (Op.buildSlice t n ps).operands.toList, i ∈ refs (opv tm' x)) hn ?_ ?_ fun cs hcs => ?_
      · intro c hc i hi
        obtain ⟨l, hl, hc⟩ := List.mem_flatten.1 hc
        rw [List.eq_of_mem_replicate hl] at hc
        rw [hz c hc] at hi
        simp at hi
      · intro q hq i hi
        obtain ⟨q', hq', rfl⟩ := List.mem_map.1 hq
        exact ⟨q'.2, by simp only [Op.operands]; exact List.mem_map_of_mem hq', refs1_refs hi⟩
      · refine frcsK_rel hn (fun i hi => ?_) fun cs' m hm => hK _ _ _ (fun h => by simp [memo, hu, hsl] at h) hm
        obtain ⟨c, hc, hi⟩ := List.mem_flatMap.1 hi
        obtain ⟨x, hx, hxi⟩ := hcs c hc i hi
        exact hg (by simp [memo, hu, hsl]) x hx i hxi
    · exact hn
  · rename_i t x
    rw [htm x (by simp [Op.operands])]
    exact loadK_rel hn (fun i hi => hfg (by simp [memo]) x (by simp [Op.operands]) i (refsC_refs hi)) h0
  · rename_i x
    rw [htm x (by simp [Op.operands])]
    exact addrK_rel hn h0
  · rename_i op' t x y _
    rw [htm x (by simp [Op.operands]), htm y (by simp [Op.operands])]
    exact binAnyK_rel hn h0
  · rename_i op' t x
    rw [htm x (by simp [Op.operands])]
    exact unK_rel hn h0
  · rename_i src dst x
    rw [htm x (by simp [Op.operands])]
    exact convK_rel hn (fun hds i hi => hg (by simp [memo, hds]) x (by simp [Op.operands]) i (refsC_refs hi)) fun v b hb => optK_rel hn fun d hd => hK _ _ _ (fun _ => ⟨rfl, fun q hq => by rw [hd, hb q hq, hd]; rfl⟩) (by simp)
  · rename_i t x y
    rw [htm x (by simp [Op.operands]), htm y (by simp [Op.operands])]
    refine optK_rel hn fun d hd => ?_
    split
    · exact anyIntK_rel hn fun _ _ => anyIntK_rel hn fun _ _ => chk_rel hn fun _ => zcellsK_rel hn fun _ => hK _ _ _ (fun _ => ⟨rfl, by simp [hd]⟩) (by simp)
    · exact hn
  · rename_i t x lo hi mx
    split
    · rw [htm x (by simp [Op.operands])]
      have h1 : lo.map (opv tm) = lo.map (opv tm') := by
        cases lo with
        | none => rfl
        | some y => simp only [Option.map_some]; rw [htm y (by simp [Op.operands])]
      have h2 : hi.map (opv tm) = hi.map (opv tm') := by
        cases hi with
        | none => rfl
        | some y => simp only [Option.map_some]; rw [htm y (by simp [Op.operands])]
      rw [h1, h2]
      exact sliceK_rel hn (fun ⟨n, e, he⟩ i hi => hf (by simp [memo, he]) x (by simp [Op.operands]) i (refsC_refs hi)) h0
    · exact hn
  · rename_i t x fl
    rw [htm x (by simp [Op.operands])]
    exact optK_rel hn fun _ _ => chk_rel hn fun _ => addrK_rel hn h0
  · rename_i t x fl
    rw [htm x (by simp [Op.operands])]
    exact optK_rel hn fun _ _ => chk_rel hn fun _ => aggK_rel hn fun _ _ => fcsK_rel hn fun _ => mkV_rel hn h0
  · rename_i t x i
    rw [htm x (by simp [Op.operands]), htm i (by simp [Op.operands])]
    exact anyIntK_rel hn fun _ _ => indexAddrK_rel hn h0
  · rename_i t x i
    rw [htm x (by simp [Op.operands]), htm i (by simp [Op.operands])]
    refine anyIntK_rel hn fun _ _ => ?_
    split
    · exact strK_rel hn fun _ => chk_rel hn fun _ => optK_rel hn fun _ _ => h0 _
    · exact aggK_rel hn fun _ _ => chk_rel hn fun _ => fcsK_rel hn fun _ => mkV_rel hn h0
    · exact hn
  · rename_i x i
    rw [htm x (by simp [Op.operands])]
    split
    · exact optK_rel hn fun _ _ => h0 _
    · exact hn
  · rename_i c
    have hmem : ∀ x ∈ c.args.toList, x ∈ (Op.call c).operands.toList := by
      intro x hx
      simp only [Op.operands, Call.operands, Array.toList_append, List.mem_append]
      exact .inr hx
    split
    · refine consK_rel hn fun x _ hx => consK_rel hn fun _ _ _ => ?_
      rw [htm x (hmem x (by rw [hx]; simp))]
      exact lenK_rel hn fun _ => h0 _
    · refine consK_rel hn fun x _ hx => consK_rel hn fun _ _ _ => ?_
      rw [htm x (hmem x (by rw [hx]; simp))]
      exact capK_rel hn fun _ => h0 _
    · refine consK_rel hn fun x _ hx => consK_rel hn fun y _ hy => nilK_rel hn ?_
      subst hy
      rw [htm x (hmem x (by rw [hx]; simp)), htm y (hmem y (by rw [hx]; simp))]
      exact minK_rel hn h0
    · refine consK_rel hn fun x _ hx => consK_rel hn fun y _ hy => nilK_rel hn ?_
      subst hy
      rw [htm x (hmem x (by rw [hx]; simp)), htm y (hmem y (by rw [hx]; simp))]
      exact maxK_rel hn h0
    · rename_i hc
      have hmm : memo P (.call c) = true := by simp [memo, hc]
      refine chk_rel hn fun _ => optK_rel hn fun d hd => consK_rel hn fun _ _ hb => consK_rel hn fun x _ hx => nilK_rel hn (consK_rel hn fun _ _ _ => consK_rel hn fun _ _ _ => ?_)
      have hxm : x ∈ c.args.toList := by rw [hb, hx]; simp
      rw [htm x (hmem x hxm)]
      exact appNilK_rel hn (fun i hi => hg hmm x (hmem x hxm) i (refsC_refs hi)) fun v nw => hK _ _ _ (fun h => by rw [hmm] at h; cases h) (by simp)
    · rename_i fn hc
      have hmm : memo P (.call c) = true := by simp [memo, hc]
      have : c.args.toList.map (opv tm) = c.args.toList.map (opv tm') := List.map_congr_left fun x hx => htm x (hmem x hx)
      rw [this]
      refine frvsK_rel hn (fun i hi => ?_) fun vs m hm => callK_rel hn fun rv ro => nilK_rel hn (chk_rel hn fun _ => unvsK_rel hn fun ws bs hbs => chk_rel hn fun _ => hK _ _ _ (fun h => by rw [hmm] at h; cases h) (fun i hi => ?_))
      · obtain ⟨p, hp, hi⟩ := List.mem_flatMap.1 hi
        obtain ⟨x, hx, rfl⟩ := List.mem_map.1 hp
        exact hg hmm x (hmem x hx) i (refs1_refs hi)
      · have hi' : i ∈ m := by
          cases hq : hasSl P (resTys P o.type) <;> rw [hq] at hi
          · simp at hi
          · exact hi
        exact hm i hi'
    · exact hn
  · exact hn

/- The operations of class M. -/
variable {hp : Nat → Option Box}

theorem upd_keeps {hp : Nat → Option Box} {id : Nat} {b : Box} {hp1 : Nat → Option Box} (h : ∀ i, hp i ≠ none → hp1 i ≠ none) : ∀ i, hp i ≠ none → upd hp1 id (some b) i ≠ none := by
  intro i hi
  by_cases e : i = id
  · subst e; rw [upd_same]; simp
  · rw [upd_other _ _ e]; exact h i hi

end

end Go.Proofs.Ytoihfmiifeegpaa.Pv
