/-
  Operations change places, third part; an operation taken ahead of its row.
-/
import Derived.Test.YtoidbofkmflocaaPvS25
namespace Go.Proofs.Ytoidbofkmflocaa.Pv
open Go.RowKit

theorem isM_memo {P : Program} {o : Op} (h : isM P o = true) : memo P o = true := by
  unfold isM at h
  split at h
  · rfl
  · rename_i c
    unfold memo
    simp only
    split at h <;> rename_i hc
    · rw [hc]
    · rw [hc]
    · cases h
    · split
      · rename_i h'; exact absurd h' (by intro h2; exact absurd h2 (hc _))
      · rename_i h'; exact absurd h' (by intro h2; exact absurd h2 (hc _))
      · rename_i h'; exact absurd h' (by intro h2; exact absurd h2 (hc _))
      · rfl
  · cases h

/-- What a change of memory leaves, seen in two memories at once. -/
structure Tch (S : Nat → Prop) (dst : Option Nat) (hp hp1 hp' hp1' : Nat → Option Box) : Prop where
  keep : ∀ i, hp i ≠ none → hp' i ≠ none
  off : ∀ i, dst ≠ some i → (¬ S i ∨ hp i = none) → hp' i = hp i ∧ hp1' i = hp1 i
  same : ∀ i, hp i = hp1 i → hp' i = hp1' i

section
variable {R R' : Type} {Rel : Option R → Option R' → Prop} {P : Program} {N : Nat} {tm tm' : Nat → PV} {hp hp1 : Nat → Option Box} {f f' : Nat → Option (List PV)} {o : Oper}

theorem frcK_relS (hn : Rel none none) {t : CT} {p : PV} {K : PV → List Nat → Option R} {K' : PV → List Nat → Option R'} (hf : Agr Rel f f' (refsC p)) (hK : ∀ c m, (∀ i ∈ m, f i ≠ none ∧ i ∈ refsC p) → Rel (K c m) (K' c m)) : Rel (frcK f t p K) (frcK f' t p K') := by
  unfold frcK; split
  · split
    · rename_i id es' off n
      cases Nat.beq es' _
      · exact hn
      · exact optf_rel hn hf (by simp [refsC]) fun c hc => chk_rel hn fun _ => hK _ _ (by simp [hc, refsC])
    · exact lsK_rel hn fun _ _ _ => hK _ _ (by simp)
  · exact tcK_rel hn fun _ => hK _ _ (by simp)
theorem frcsK_relS (hn : Rel none none) : ∀ {ts : List CT} {ps : List PV} {K : List PV → List Nat → Option R} {K' : List PV → List Nat → Option R'}, Agr Rel f f' (ps.flatMap refsC) → (∀ c m, (∀ i ∈ m, f i ≠ none ∧ i ∈ ps.flatMap refsC) → Rel (K c m) (K' c m)) → Rel (frcsK f ts ps K) (frcsK f' ts ps K')
  | [], [], _, _, _, hK => hK _ _ (by simp)
  | [], _ :: _, _, _, _, _ => hn
  | _ :: _, [], _, _, _, _ => hn
  | _ :: _, p :: ps, _, _, hf, hK => frcK_relS hn (fun i hi => hf i (by simp only [List.flatMap_cons, List.mem_append]; exact .inl hi)) fun _ m hm => frcsK_relS hn (fun i hi => hf i (by simp only [List.flatMap_cons, List.mem_append]; exact .inr hi)) fun _ ms hms => hK _ _ fun i hi => by
      simp only [List.flatMap_cons, List.mem_append]
      rcases List.mem_append.1 hi with h | h
      · exact ⟨(hm i h).1, .inl (hm i h).2⟩
      · exact ⟨(hms i h).1, .inr (hms i h).2⟩

theorem upd_two {S : Nat → Prop} {dst : Option Nat} {id : Nat} {b : Box} {h0 h1 : Nat → Option Box} (hS : S id) (hid : hp id ≠ none) (h : Tch S dst hp hp1 h0 h1) : Tch S dst hp hp1 (upd h0 id (some b)) (upd h1 id (some b)) := by
  refine ⟨fun i hi => ?_, fun i hd hi => ?_, fun i hi => ?_⟩
  · by_cases e : i = id
    · subst e; rw [upd_same]; simp
    · rw [upd_other _ _ e]; exact h.keep i hi
  · have e : i ≠ id := by
      rintro rfl
      rcases hi with hi | hi
      · exact hi hS
      · exact hid hi
    rw [upd_other _ _ e, upd_other _ _ e]
    exact h.off i hd hi
  · by_cases e : i = id
    · subst e; rw [upd_same, upd_same]
    · rw [upd_other _ _ e, upd_other _ _ e]; exact h.same i hi
theorem upd_dst {S : Nat → Prop} {d : Nat} {b : Box} {h0 h1 : Nat → Option Box} (h : Tch S (some d) hp hp1 h0 h1) : Tch S (some d) hp hp1 (upd h0 d (some b)) (upd h1 d (some b)) := by
  refine ⟨fun i hi => ?_, fun i hd hi => ?_, fun i hi => ?_⟩
  · by_cases e : i = d
    · subst e; rw [upd_same]; simp
    · rw [upd_other _ _ e]; exact h.keep i hi
  · have e : i ≠ d := by rintro rfl; exact hd rfl
    rw [upd_other _ _ e, upd_other _ _ e]
    exact h.off i hd hi
  · by_cases e : i = d
    · subst e; rw [upd_same, upd_same]
    · rw [upd_other _ _ e, upd_other _ _ e]; exact h.same i hi
theorem tch_refl (S : Nat → Prop) (dst : Option Nat) : Tch S dst hp hp1 hp hp1 := ⟨fun _ h => h, fun _ _ _ => ⟨rfl, rfl⟩, fun _ h => h⟩
theorem tch_freeze {S : Nat → Prop} {dst : Option Nat} {m : List Nat} (hm : ∀ i ∈ m, hp i ≠ none ∧ S i) : Tch S dst hp hp1 (freezeIds hp m) (freezeIds hp1 m) := by
  refine ⟨fun i hi => fun h => hi (freeze_none.1 h), fun i hd hi => ?_, fun i hi => ?_⟩
  · have e : i ∉ m := by
      intro h
      rcases hi with hi | hi
      · exact hi (hm i h).2
      · exact (hm i h).1 hi
    rw [freeze_get, freeze_get, if_neg e, if_neg e]
    exact ⟨rfl, rfl⟩
  · rw [freeze_get, freeze_get, hi]

theorem rda_agr {S : Nat → Prop} (h : ∀ i, S i → hp i = hp1 i ∨ (hp i = none ∧ ∀ b, Rel none b)) {l : List Nat} (hl : ∀ i ∈ l, S i) : Agr Rel (rda hp) (rda hp1) l := by
  intro i hi
  rcases h i (hl i hi) with h | ⟨h, h'⟩
  · left; unfold rda; rw [h]
  · exact .inr ⟨rda_none h, h'⟩

theorem storeK_relH (hn : Rel none none) {t : TypeId} {a x : PV} {K : St → Option R} {K' : St → Option R'} {S : Nat → Prop} (hS : ∀ i, S i → hp i = hp1 i ∨ (hp i = none ∧ ∀ b, Rel none b)) (ha : ∀ i ∈ refsC a, S i) (hx : ∀ i ∈ refs1 x, S i)
    (hK : ∀ hp' hp1', Tch S none hp hp1 hp' hp1' → Rel (K ⟨tm, hp'⟩) (K' ⟨tm', hp1'⟩)) : Rel (storeK P ⟨tm, hp⟩ t a x K) (storeK P ⟨tm', hp1⟩ t a x K') := by
  unfold storeK; split
  · rename_i id off
    show Rel (match hp id with | some (.st c) => _ | some (.ar false c) => _ | _ => none) (match hp1 id with | some (.st c) => _ | some (.ar false c) => _ | _ => none)
    have hid : S id := ha id (by simp [refsC])
    rcases hS id hid with h | ⟨h, hb⟩
    · rw [← h]
      split
      · rename_i c hc
        exact chk_rel hn fun _ => fcsK_rel hn fun _ => hK _ _ (upd_two hid (by rw [hc]; simp) (tch_refl _ _))
      · rename_i c hc
        refine chk_rel hn fun _ => frcsK_relS hn (rda_agr hS fun i hi => hx i ?_) fun _ m hm => chk_rel hn fun _ => hK _ _ (upd_two hid (by rw [hc]; simp) (tch_freeze fun i hi => ⟨fun h => (hm i hi).1 (rda_none h), hx i ?_⟩))
        · obtain ⟨c, hc, hi⟩ := List.mem_flatMap.1 hi
          exact mem_cellsOf hc hi
        · obtain ⟨c, hc, hi⟩ := List.mem_flatMap.1 (hm i hi).2
          exact mem_cellsOf hc hi
      · exact hn
    · rw [h]
      exact hb _
  · exact hn
theorem srcK_relH (hn : Rel none none) {es : Nat} {t : TypeId} {x : PV} {K : Nat → List PV → Option R} {K' : Nat → List PV → Option R'} {S : Nat → Prop} (hS : ∀ i, S i → hp i = hp1 i ∨ (hp i = none ∧ ∀ b, Rel none b)) (hx : ∀ i ∈ refs1 x, S i) (hK : ∀ m c, Rel (K m c) (K' m c)) : Rel (srcK P ⟨tm, hp⟩ es t x K) (srcK P ⟨tm', hp1⟩ es t x K') := by
  unfold srcK srcR; split
  · exact chk_rel hn fun _ => strK_rel hn fun _ => hK _ _
  · exact slcK_rel hn (rda_agr hS fun i hi => hx i (refsC_refs1 hi)) hK
  · exact hn
theorem appendK_relH (hn : Rel none none) {d : Nat} {t tx : TypeId} {b x : PV} {K : St → Option R} {K' : St → Option R'} {S : Nat → Prop} (hS : ∀ i, S i → hp i = hp1 i ∨ (hp i = none ∧ ∀ b, Rel none b)) (hdd : hp d = hp1 d) (hb : ∀ i ∈ refs1 b, S i) (hx : ∀ i ∈ refs1 x, S i)
    (hK : ∀ v hp' hp1', Tch S (some d) hp hp1 hp' hp1' → Rel (K ⟨upd tm d v, hp'⟩) (K' ⟨upd tm' d v, hp1'⟩)) : Rel (appendK P N ⟨tm, hp⟩ d t tx b x K) (appendK P N ⟨tm', hp1⟩ d t tx b x K') := by
  unfold appendK; split
  · refine chk_rel hn fun _ => ?_
    cases isIntTy P tx
    rotate_left
    · show Rel (appZeroK P N ⟨tm, hp⟩ d _ b x K) (appZeroK P N ⟨tm', hp1⟩ d _ b x K')
      refine anyIntK_rel hn fun _ n => lsK_rel hn fun z _ _ => ?_
      show Rel (chk (z && Nat.blt d N && (hp d).isNone && _ && _ && _) _) (chk (z && Nat.blt d N && (hp1 d).isNone && _ && _ && _) _)
      rw [← hdd]
      exact chk_rel hn fun _ => hK _ _ _ (upd_dst (tch_refl _ _))
    rw [cond_false, cond_false]
    refine srcK_relH hn hS hx fun m new => ?_
    split
    · rename_i id es off n
      show Rel (match hp id with | some (.ar false c) => chk (Nat.beq es _ && Nat.beq off 0 && Nat.blt d N && (hp d).isNone && _ && _ && _ && _) _ | _ => none) (match hp1 id with | some (.ar false c) => chk (Nat.beq es _ && Nat.beq off 0 && Nat.blt d N && (hp1 d).isNone && _ && _ && _ && _) _ | _ => none)
      have hid : S id := hb id (by simp [refs1, refsC])
      rw [← hdd]
      rcases hS id hid with h | ⟨h, hbb⟩
      · rw [← h]
        split
        · rename_i c hc
          exact chk_rel hn fun _ => hK _ _ _ (upd_dst (upd_two hid (by rw [hc]; simp) (tch_refl _ _)))
        · exact hn
      · rw [h]
        exact hbb _
    · refine lsK_rel hn fun z _ _ => ?_
      show Rel (chk (z && Nat.blt d N && (hp d).isNone && _ && _ && _) _) (chk (z && Nat.blt d N && (hp1 d).isNone && _ && _ && _) _)
      rw [← hdd]
      exact chk_rel hn fun _ => hK _ _ _ (upd_dst (tch_refl _ _))
  · exact hn

/-- What an operation's operands lead to. -/
def Leads (o : Oper) (tm : Nat → PV) (i : Nat) : Prop := ∃ x ∈ o.op.operands.toList, i ∈ refs (opv tm x)

theorem mutK_relH (hn : Rel none none) {K : St → Option R} {K' : St → Option R'} (htm : ∀ x ∈ o.op.operands.toList, opv tm x = opv tm' x)
    (hS : ∀ i, Leads o tm' i → hp i = hp1 i ∨ (hp i = none ∧ ∀ b, Rel none b)) (hdd : ∀ d, o.dst = some d → hp d = hp1 d)
    (hK : ∀ v hp' hp1', Tch (Leads o tm') o.dst hp hp1 hp' hp1' → Rel (K ⟨putTm tm o.dst v, hp'⟩) (K' ⟨putTm tm' o.dst v, hp1'⟩)) : Rel (mutK P N ⟨tm, hp⟩ o K) (mutK P N ⟨tm', hp1⟩ o K') := by
  unfold mutK
  have hl : ∀ x ∈ o.op.operands.toList, ∀ i ∈ refs (opv tm' x), Leads o tm' i := fun x hx i hi => ⟨x, hx, hi⟩
  generalize hLd : Leads o tm' = S at *
  generalize hop : o.op = op at *
  split
  · rename_i t x y
    simp only [htm x (by simp [Op.operands]), htm y (by simp [Op.operands])]
    refine chk_rel hn fun hd => storeK_relH hn hS (fun i hi => hl x (by simp [Op.operands]) i (refsC_refs hi)) (fun i hi => hl y (by simp [Op.operands]) i (refs1_refs hi)) fun hp' hp1' hh => ?_
    have hd' := Option.isNone_iff_eq_none.1 hd
    have := hK .top hp' hp1' (by rw [hd']; exact hh)
    rw [hd'] at this
    exact this
  · rename_i c
    split
    · rename_i hc
      have hmem : ∀ x ∈ c.args.toList, x ∈ (Op.call c).operands.toList := by
        intro x hx
        simp only [Op.operands, Call.operands, Array.toList_append, List.mem_append]
        exact .inr hx
      refine optK_rel hn fun d hd => consK_rel hn fun x _ hx => consK_rel hn fun y _ hy => nilK_rel hn (consK_rel hn fun _ _ _ => consK_rel hn fun _ _ _ => ?_)
      subst hy
      have hxm := hmem x (by rw [hx]; simp)
      have hym := hmem y (by rw [hx]; simp)
      simp only [htm x hxm, htm y hym]
      refine appendK_relH hn hS (hdd d hd) (fun i hi => hl x hxm i (refs1_refs hi)) (fun i hi => hl y hym i (refs1_refs hi)) fun v hp' hp1' hh => ?_
      have := hK v hp' hp1' (by rw [hd]; exact hh)
      rw [hd] at this
      exact this
    · exact hn
  · exact hn
end

section
variable {R : Type} {r : R} {C : Cfg} {P : Program} {N : Nat} {call : Call'} {ops : Array Oper} {o x : Oper} {s : St} {K : St → Option R}

/-- An operation that does not look at memory. -/
theorem gE_free {tm : Nat → PV} {hp hp' : Nat → Option Box} {tm' : Nat → PV} {q : Eff3} (hm : memo P o.op = false) (ht : ∀ t ∈ looks ops o, tm t = tm' t) (h : gE C P N call ops o ⟨tm, hp⟩ = some q) : gE C P N call ops o ⟨tm', hp'⟩ = some q :=
  gE_more (s := ⟨tm, hp⟩) (s' := ⟨tm', hp'⟩) ht (fun h => by rw [hm] at h; cases h) h

theorem gopK_free {tm : Nat → PV} {hp : Nat → Option Box} (hm : memo P o.op = false) (h : gopK C P N call ops o ⟨tm, hp⟩ K = some r) :
    ∃ v nw, gE C P N call ops o ⟨tm, hp⟩ = some (v, [], nw) ∧ dstOk N o.dst = true ∧ absent hp nw = true ∧ (∀ p ∈ nw, o.dst = some p.1) ∧ K ⟨putTm tm o.dst v, addBoxes hp nw⟩ = some r := by
  have hM : isM P o.op = false := by
    cases hh : isM P o.op
    · rfl
    · rw [isM_memo hh] at hm; cases hm
  rw [gopK_R (by simp [actM, hM])] at h
  cases e : gE C P N call ops o ⟨tm, hp⟩ with
  | none => rw [e] at h; cases h
  | some q =>
    obtain ⟨v, fz, nw⟩ := q
    obtain ⟨h1, h2⟩ := (gE_facts e).1 hm
    simp only at h1 h2
    subst h1
    rw [e] at h
    obtain ⟨hb, h⟩ := chk_inv h
    simp only [Bool.and_eq_true] at hb
    exact ⟨v, nw, rfl, hb.1, hb.2, h2, h⟩

theorem gopK_free' {tm : Nat → PV} {hp : Nat → Option Box} {v : PV} {nw : List (Nat × Box)} (hm : memo P o.op = false) (e : gE C P N call ops o ⟨tm, hp⟩ = some (v, [], nw)) (hd : dstOk N o.dst = true) (ha : absent hp nw = true) (h : K ⟨putTm tm o.dst v, addBoxes hp nw⟩ = some r) : gopK C P N call ops o ⟨tm, hp⟩ K = some r := by
  have hM : isM P o.op = false := by
    cases hh : isM P o.op
    · rfl
    · rw [isM_memo hh] at hm; cases hm
  rw [gopK_R (by simp [actM, hM]), e]
  show chk _ _ = _
  have ha' : absent hp nw = true := ha
  rw [hd, ha']
  exact h

theorem add_get {hp : Nat → Option Box} {nw : List (Nat × Box)} (ha : absent hp nw = true) {i : Nat} (hi : ∀ p ∈ nw, p.1 ≠ i) : addBoxes hp nw i = hp i :=
  (addBoxes_get (absent_spec ha).2).2 i fun b hb => hi _ hb rfl

/-- New boxes of one slot, added to two memories that differ there alone. -/
theorem add_eq {hp hp' : Nat → Option Box} {nw : List (Nat × Box)} (ha : absent hp nw = true) {g : Nat → Option Box} (h1 : ∀ i, (∀ p ∈ nw, p.1 ≠ i) → g i = hp' i) (h2 : ∀ i, (∃ p ∈ nw, p.1 = i) → g i = addBoxes hp nw i) (ha' : absent hp' nw = true) : g = addBoxes hp' nw := by
  funext i
  by_cases h : ∃ p ∈ nw, p.1 = i
  · rw [h2 i h]
    obtain ⟨⟨j, b⟩, hp, rfl⟩ := h
    rw [(addBoxes_get (absent_spec ha).2).1 j b hp, (addBoxes_get (absent_spec ha').2).1 j b hp]
  · have h' : ∀ p ∈ nw, p.1 ≠ i := fun p hp e => h ⟨p, hp, e⟩
    rw [h1 i h', add_get ha' h']

theorem swap_Mx (ap : Apart P ops x o) (hx : actM P ops x s.tm = true)
    (h : gopK C P N call ops x s (fun s1 => gopK C P N call ops o s1 K) = some r) : gopK C P N call ops o s (fun s1 => gopK C P N call ops x s1 K) = some r := by
  have hm : memo P o.op = false := ap.mx (by unfold actM at hx; simp only [Bool.and_eq_true] at hx; exact hx.1)
  rw [gopK_M hx] at h
  obtain ⟨tm, hp⟩ := s
  have look : ∀ v, ∀ t ∈ looks ops o, putTm tm x.dst v t = tm t := fun v => putTm_look ap.xo
  have h1 := mutK_relH (P := P) (N := N) (o := x) (tm := tm) (tm' := tm) (hp := hp) (hp1 := hp) (K := fun s1 => gopK C P N call ops o s1 K) (K' := fun _ => none)
    (Rel := fun (a : Option R) (_ : Option R) => a = some r → ∃ v nw, gE C P N call ops o ⟨tm, hp⟩ = some (v, [], nw) ∧ dstOk N o.dst = true ∧ (∀ p ∈ nw, o.dst = some p.1) ∧ absent hp nw = true) (fun h => by cases h) (fun _ _ => rfl) (fun _ _ => .inl rfl) (fun _ _ => rfl) (fun v hp' _ hT h => by
      obtain ⟨u, nw, hu, hd, ha, hn, _⟩ := gopK_free hm h
      refine ⟨u, nw, gE_free hm (look v) hu, hd, hn, absent_of ha fun i b hi => ?_⟩
      cases hh : hp i with
      | none => rfl
      | some c => exact absurd ((absent_spec ha).1 i b hi) (hT.keep i (by rw [hh]; simp))) h
  obtain ⟨v, nw, hv, hd, hn, ha⟩ := h1
  refine gopK_free' hm hv hd ha ?_
  have t2 : ∀ t ∈ looks ops x, tm t = putTm tm o.dst v t := fun t ht => (putTm_look ap.ox t ht).symm
  rw [gopK_M (by rw [← actM_looks t2]; exact hx)]
  refine mutK_relH (P := P) (N := N) (o := x) (tm := tm) (tm' := putTm tm o.dst v) (hp := hp) (hp1 := addBoxes hp nw) (Rel := fun (a b : Option R) => a = some r → b = some r) (fun h => by cases h) (opv_looks t2) (fun i _ => ?_) (fun d hxd => ?_) (fun u hp' hp1' hT h => ?_) h
  · by_cases hi : ∃ p ∈ nw, p.1 = i
    · obtain ⟨⟨j, b⟩, hp1, rfl⟩ := hi
      exact .inr ⟨(absent_spec ha).1 j b hp1, fun _ h => by cases h⟩
    · exact .inl (add_get ha fun p hp e => hi ⟨p, hp, e⟩).symm
  · refine (add_get ha fun p hp e => ?_).symm
    have := hn p hp
    rw [e] at this
    exact ap.ne d hxd this
  · obtain ⟨v', nw', hv', _, ha', _, h'⟩ := gopK_free hm h
    have he := gE_free (hp' := hp) hm (look u) hv'
    rw [hv] at he
    simp only [Option.some.injEq, Prod.mk.injEq, true_and] at he
    obtain ⟨rfl, rfl⟩ := he
    have hh : hp1' = addBoxes hp' nw := by
      refine add_eq ha (fun i hi => ?_) (fun i hi => ?_) ha'
      · exact (hT.same i (add_get ha hi).symm).symm
      · obtain ⟨⟨j, b⟩, hp1, rfl⟩ := hi
        refine (hT.off j (fun e => ap.ne j e (hn _ hp1)) (.inr ((absent_spec ha).1 j b hp1))).2
    rw [hh, ← putTm_comm ap.ne]
    exact h'

theorem swap_oM (hw : Has o s) (ap : Apart P ops x o) (ho : actM P ops o s.tm = true)
    (h : gopK C P N call ops x s (fun s1 => gopK C P N call ops o s1 K) = some r) : gopK C P N call ops o s (fun s1 => gopK C P N call ops x s1 K) = some r := by
  have hm : memo P x.op = false := ap.mo (by unfold actM at ho; simp only [Bool.and_eq_true] at ho; exact ho.1)
  obtain ⟨tm, hp⟩ := s
  obtain ⟨v, nw, hv, hd, ha, hn, h1⟩ := gopK_free hm h
  have t1 : ∀ t ∈ looks ops o, putTm tm x.dst v t = tm t := putTm_look ap.xo
  change gopK C P N call ops o ⟨putTm tm x.dst v, addBoxes hp nw⟩ K = some r at h1
  rw [gopK_M (by rw [actM_looks t1]; exact ho)] at h1
  rw [gopK_M ho]
  have hlead : ∀ i, Leads o tm i → hp i ≠ none := fun i ⟨y, hy, hi⟩ => hw y hy i hi
  refine mutK_relH (P := P) (N := N) (o := o) (tm := putTm tm x.dst v) (tm' := tm) (hp := addBoxes hp nw) (hp1 := hp) (Rel := fun (a b : Option R) => a = some r → b = some r) (fun h => by cases h) (opv_looks t1) (fun i hi => ?_) (fun d hod => ?_) (fun u hp' hp1' hT h => ?_) h1
  · refine .inl (add_get ha fun p hp' e => hlead i hi ?_)
    rw [← e]
    exact (absent_spec ha).1 p.1 p.2 hp'
  · refine add_get ha fun p hp' e => ?_
    have := hn p hp'
    rw [e] at this
    exact ap.ne d this hod
  · have hoff : ∀ p ∈ nw, hp' p.1 = addBoxes hp nw p.1 ∧ hp1' p.1 = none := by
      intro p hp2
      have hno := (absent_spec ha).1 p.1 p.2 hp2
      have h3 := hT.off p.1 (fun e => ap.ne p.1 (hn p hp2) e) (.inl fun hL => hlead _ hL hno)
      exact ⟨h3.1, h3.2.trans hno⟩
    have ha' : absent hp1' nw = true := absent_of ha fun i b hi => (hoff (i, b) hi).2
    refine gopK_free' hm (gE_free hm (fun t ht => (putTm_look ap.ox t ht).symm) hv) hd ha' ?_
    have hh : hp' = addBoxes hp1' nw := by
      refine add_eq ha (fun i hi => ?_) (fun i hi => ?_) ha'
      · exact hT.same i (add_get ha hi)
      · obtain ⟨p, hp2, rfl⟩ := hi
        exact (hoff p hp2).1
    rw [← putTm_comm ap.ne, ← hh]
    exact h

theorem swap (hw : Has o s) (ap : Apart P ops x o)
    (h : gopK C P N call ops x s (fun s1 => gopK C P N call ops o s1 K) = some r) : gopK C P N call ops o s (fun s1 => gopK C P N call ops x s1 K) = some r := by
  cases hx : actM P ops x s.tm
  · cases ho : actM P ops o s.tm
    · exact swap_RR hw ap hx ho h
    · exact swap_oM hw ap ho h
  · exact swap_Mx ap hx h

/-- What an operation leaves of slots and boxes. -/
def Keeps (x : Oper) (s s1 : St) : Prop := (∀ t, x.dst ≠ some t → s1.tm t = s.tm t) ∧ ∀ i, s.hp i ≠ none → s1.hp i ≠ none

theorem putTm_keeps {tm : Nat → PV} {d : Option Tmp} {v : PV} {t : Nat} (h : d ≠ some t) : putTm tm d v t = tm t := by
  cases d with
  | none => rfl
  | some d => exact upd_other _ _ (by rintro rfl; exact h rfl)

theorem gopK_keeps {K' : St → Option R} (h : gopK C P N call ops x s K = some r) (hK : ∀ s1, Keeps x s s1 → K s1 = some r → K' s1 = some r) : gopK C P N call ops x s K' = some r := by
  cases hx : actM P ops x s.tm
  · rw [gopK_R hx] at h ⊢
    cases ex : gE C P N call ops x s with
    | none => rw [ex] at h; cases h
    | some q =>
      rw [ex] at h
      obtain ⟨hb, h1⟩ := chk_inv h
      simp only [Bool.and_eq_true] at hb
      show chk _ _ = _
      rw [hb.1, hb.2]
      exact hK _ ⟨fun t ht => putTm_keeps ht, fun i hi => after_some hb.2 hi⟩ h1
  · rw [gopK_M hx] at h ⊢
    exact mutK_rel (P := P) (N := N) (o := x) (tm := s.tm) (tm' := s.tm) (hp := s.hp) (Rel := fun (a b : Option R) => a = some r → b = some r) (fun h => by cases h) (fun _ _ => rfl) (fun v hp' hh h => hK _ ⟨fun t ht => putTm_keeps ht, hh⟩ h) h

theorem Has.keeps {s1 : St} (h : Has o s) (ap : Apart P ops x o) (hk : Keeps x s s1) : Has o s1 := by
  intro y hy i hi
  have : opv s1.tm y = opv s.tm y := by
    refine opv_looks (ops := ops) (o := o) (fun t ht => hk.1 t fun hd => ap.xo t hd ht) y hy
  rw [this] at hi
  exact hk.2 i (h y hy i hi)

/-- An operation that touches none of a row's may be taken first. -/
theorem gops_first : ∀ (l : List Oper) {s : St} {K : St → Option R}, Has o s → (∀ x ∈ l, Apart P ops x o) → gopsK C P N call ops l s (fun s1 => gopK C P N call ops o s1 K) = some r → gopK C P N call ops o s (fun s1 => gopsK C P N call ops l s1 K) = some r
  | [], _, _, _, _, h => h
  | x :: l, s, K, hw, ap, h => by
    refine swap hw (ap x (by simp)) ?_
    refine gopK_keeps (K := fun s1 => gopsK C P N call ops l s1 (fun s2 => gopK C P N call ops o s2 K)) h fun s1 hk h1 => ?_
    exact gops_first l (hw.keeps (ap x (by simp)) hk) (fun y hy => ap y (List.mem_cons_of_mem _ hy)) h1

theorem gops_append : ∀ (l l' : List Oper) {s : St} {K : St → Option R}, gopsK C P N call ops (l ++ l') s K = gopsK C P N call ops l s (fun s1 => gopsK C P N call ops l' s1 K)
  | [], _, _, _ => rfl
  | x :: l, l', s, K => by
    show gopK C P N call ops x s (fun s1 => gopsK C P N call ops (l ++ l') s1 K) = gopK C P N call ops x s (fun s1 => gopsK C P N call ops l s1 _)
    congr 1
    funext s1
    exact gops_append l l'

theorem gops_take {l l' : List Oper} (hw : Has o s) (ap : ∀ x ∈ l, Apart P ops x o) (h : gopsK C P N call ops (l ++ o :: l') s K = some r) : gopK C P N call ops o s (fun s1 => gopsK C P N call ops (l ++ l') s1 K) = some r := by
  rw [gops_append] at h
  have := gops_first l hw ap h
  refine gopK_keeps this fun s1 _ h1 => ?_
  rw [gops_append]
  exact h1
end

end Go.Proofs.Ytoidbofkmflocaa.Pv
