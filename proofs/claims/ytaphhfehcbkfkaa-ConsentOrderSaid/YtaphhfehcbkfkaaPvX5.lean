/-
  A pure interpreter of the model's code and its soundness, part 5 (texts PvS36 PvS28 PvS29 PvS30 PvS31 PvE).
-/
import Derived.Test.YtaphhfehcbkfkaaPvX4
import Derived.WalkKit
import Derived.ProofKit
import Derived.OpenShut
import Derived.ShutString
import Derived.ChangeOld
import Derived.Below
import Derived.Deep.Slices
import Derived.ChangeSame
import Derived.WideKeyArgs
import Derived.Carry
set_option linter.unusedSimpArgs false
set_option linter.unusedVariables false
namespace Go.Proofs.Ytaphhfehcbkfkaa.Pv
open Go.RowKit

section
variable {R R' : Type} {Rel : Option R → Option R' → Prop} {P : Program} {N : Nat} {tm tm' : Nat → PV} {hp hp1 : Nat → Option Box} {o : Oper}

/-- An append touches what its operands lead to and its own new row, nothing else. -/
theorem mutK_relA (hn : Rel none none) {C : Cfg} {call : Call'} {K : St → Option R} {K' : St → Option R'} (hap : isAp o.op = true) (htm : ∀ x ∈ o.op.operands.toList, opv tm x = opv tm' x)
    (hS : ∀ i, Rch o tm' hp1 i → hp i = hp1 i ∨ (hp i = none ∧ ∀ b, Rel none b)) (hdd : ∀ d, o.dst = some d → hp d = hp1 d)
    (hK : ∀ v hp' hp1', (∀ M, Tch M (Rch o tm' hp1) o.dst hp hp1 hp' hp1') → Rel (K ⟨putTm tm o.dst v, hp'⟩) (K' ⟨putTm tm' o.dst v, hp1'⟩)) : Rel (mutK C P N call ⟨tm, hp⟩ o K) (mutK C P N call ⟨tm', hp1⟩ o K') := by
  unfold mutK
  have hl : ∀ x ∈ o.op.operands.toList, ∀ i ∈ refs (opv tm' x), Rch o tm' hp1 i := fun x hx i hi => .inl ⟨x, hx, hi⟩
  generalize hLd : Rch o tm' hp1 = S at *
  generalize hop : o.op = op at *
  unfold isAp at hap
  split at hap
  · rename_i c
    have hmem : ∀ x ∈ c.args.toList, x ∈ (Op.call c).operands.toList := by
      intro x hx
      simp only [Op.operands, Call.operands, Array.toList_append, List.mem_append]
      exact .inr hx
    split at hap
    · rename_i hc
      simp only [hc]
      refine optK_rel hn fun d hd => consK_rel hn fun x _ hx => consK_rel hn fun y _ hy => nilK_rel hn (consK_rel hn fun _ _ _ => consK_rel hn fun _ _ _ => ?_)
      subst hy
      have hxm := hmem x (by rw [hx]; simp)
      have hym := hmem y (by rw [hx]; simp)
      simp only [htm x hxm, htm y hym]
      refine appendK_relH hn hS (hdd d hd) (fun i hi => hl x hxm i (refs1_refs hi)) (fun i hi => hl y hym i (refs1_refs hi)) fun v hp' hp1' hh => ?_
      have := hK v hp' hp1' (by rw [hd]; exact hh)
      rw [hd] at this
      exact this
    · cases hap
  · cases hap

theorem mutA_two {C : Cfg} {call : Call'} (hap : isAp o.op = true) (htm : ∀ x ∈ o.op.operands.toList, opv tm x = opv tm' x) (hS : ∀ i, Rch o tm' hp1 i → hp i = hp1 i) (hdd : ∀ d, o.dst = some d → hp d = hp1 d) {s1 : St}
    (h : mutK C P N call ⟨tm, hp⟩ o some = some s1) : ∃ v hp' hp1', s1 = ⟨putTm tm o.dst v, hp'⟩ ∧ mutK C P N call ⟨tm', hp1⟩ o some = some ⟨putTm tm' o.dst v, hp1'⟩ ∧ ∀ M, Tch M (Rch o tm' hp1) o.dst hp hp1 hp' hp1' := by
  have := mutK_relA (P := P) (N := N) (C := C) (call := call) (o := o) (tm := tm) (tm' := tm') (hp := hp) (hp1 := hp1) (K := some) (K' := some)
    (Rel := fun (a b : Option St) => ∀ s1, a = some s1 → ∃ v hp' hp1', s1 = ⟨putTm tm o.dst v, hp'⟩ ∧ b = some ⟨putTm tm' o.dst v, hp1'⟩ ∧ ∀ M, Tch M (Rch o tm' hp1) o.dst hp hp1 hp' hp1') (fun _ h => by cases h) hap htm (fun i hi => .inl (hS i hi)) hdd
    (fun v hp' hp1' hT s1 h => by cases h; exact ⟨v, hp', hp1', rfl, rfl, hT⟩)
  exact this s1 h
end

section
variable {R R' : Type} {r : R} {r' : R'} {C : Cfg} {P : Program} {N : Nat} {call : Call'} {ops : Array Oper} {o x : Oper} {s s1 s2 : St} {K : St → Option R}

theorem actM_isM {tm : Nat → PV} (h : actM C P ops o tm = true) : isM C P o.op = true := by
  unfold actM at h
  simp only [Bool.and_eq_true] at h
  exact h.1

theorem isAp_M (h : isAp o.op = true) : isM C P o.op = true := by
  unfold isAp at h
  split at h
  · rename_i c hc
    rw [hc]
    split at h
    · rename_i hcc
      simp only [isM, hcc]
      exact h
    · cases h
  · cases h

theorem gopK_state (h : gopK C P N call ops x s K = some r) : ∃ s1, gopK C P N call ops x s some = some s1 ∧ Keeps P x s s1 ∧ (isLd x.op = true → s1.hp = s.hp) ∧ K s1 = some r := by
  cases hx : actM C P ops x s.tm
  · rw [gopK_R hx] at h ⊢
    cases ex : gE C P N call ops x s with
    | none => rw [ex] at h; cases h
    | some q =>
      rw [ex] at h
      obtain ⟨hb, h1⟩ := chk_inv h
      simp only [Bool.and_eq_true] at hb
      refine ⟨_, ?_, ⟨fun t ht => putTm_keeps ht, fun i hi => after_some hb.2 hi, fun hm i hi => ?_⟩, fun hl => ?_, h1⟩
      · show chk _ _ = _
        rw [hb.1, hb.2]
        rfl
      · show addBoxes (freezeIds s.hp q.2.1) q.2.2 i = s.hp i
        rw [after_old hb.2 hi, ((gE_facts ex).1 hm).1]
        simp
      · show addBoxes (freezeIds s.hp q.2.1) q.2.2 = s.hp
        obtain ⟨h1, h2⟩ := gE_load (.inl hl) ex
        rw [h1, h2]
        funext i
        show freezeIds s.hp [] i = _
        rw [freeze_get]
        simp
  · rw [gopK_M hx] at h ⊢
    exact mutK_rel (P := P) (N := N) (o := x) (tm := s.tm) (tm' := s.tm) (hp := s.hp) (K' := some) (Rel := fun (a : Option R) (b : Option St) => a = some r → ∃ s1, b = some s1 ∧ Keeps P x s s1 ∧ (isLd x.op = true → s1.hp = s.hp) ∧ K s1 = some r) (fun h => by cases h) (fun _ _ => rfl) (fun v hp' hh h => ⟨_, rfl, ⟨fun t ht => putTm_keeps ht, hh, fun hm => (by
      rw [isM_memo (actM_isM hx)] at hm; cases hm)⟩, fun hl => (by
      have := actM_isM hx
      rw [isLd_notM hl] at this
      cases this), h⟩) h

theorem gopK_back {K' : St → Option R'} (h : gopK C P N call ops x s some = some s1) (hk : K' s1 = some r') : gopK C P N call ops x s K' = some r' := by
  cases hx : actM C P ops x s.tm
  · rw [gopK_R hx] at h ⊢
    cases ex : gE C P N call ops x s with
    | none => rw [ex] at h; cases h
    | some q =>
      rw [ex] at h
      obtain ⟨hb, h1⟩ := chk_inv h
      show chk _ _ = _
      rw [hb]
      cases h1
      exact hk
  · rw [gopK_M hx] at h ⊢
    exact mutK_rel (P := P) (N := N) (o := x) (tm := s.tm) (tm' := s.tm) (hp := s.hp) (K := some) (Rel := fun (a : Option St) (b : Option R') => a = some s1 → b = some r') (fun h => by cases h) (fun _ _ => rfl) (fun v hp' hh h => by cases h; exact hk) h

theorem appendK_free {d : Nat} {t tx : TypeId} {b y : PV} (h : appendK P N s d t tx b y K = some r) : s.hp d = none := by
  unfold appendK at h
  split at h
  · obtain ⟨_, h⟩ := chk_inv h
    cases hI : isIntTy P tx
    · rw [hI, cond_false] at h
      refine srcK_relH (P := P) (tm := s.tm) (tm' := s.tm) (hp := s.hp) (hp1 := s.hp) (S := fun _ => True) (K' := fun _ _ => (none : Option R)) (Rel := fun (a : Option R) (_ : Option R) => a = some r → s.hp d = none) (fun h => by cases h) (fun _ _ => .inl rfl) (fun _ _ => trivial) (fun m new h => ?_) h
      split at h
      · split at h
        · obtain ⟨hb, _⟩ := chk_inv h
          simp only [Bool.and_eq_true, Option.isNone_iff_eq_none] at hb
          simp only [hb]
        · cases h
      · obtain ⟨_, _, _, h, _⟩ := lsK_inv h
        obtain ⟨hb, _⟩ := chk_inv h
        simp only [Bool.and_eq_true, Option.isNone_iff_eq_none] at hb
        simp only [hb]
    · rw [hI, cond_true] at h
      unfold appZeroK at h
      obtain ⟨_, _, _, h⟩ := anyIntK_inv h
      obtain ⟨_, _, _, h, _⟩ := lsK_inv h
      obtain ⟨hb, _⟩ := chk_inv h
      simp only [Bool.and_eq_true, Option.isNone_iff_eq_none] at hb
      simp only [hb]
  · cases h

/-- Two appends that reach nothing in common. -/
theorem swap_AA (hw : Has C P o s) (hwx : ∀ y ∈ x.op.operands.toList, ∀ i ∈ refs (opv s.tm y), s.hp i ≠ none) (xo : ∀ d, x.dst = some d → d ∉ looks ops o) (ne : ∀ d, x.dst = some d → o.dst ≠ some d) (ox : ∀ d, o.dst = some d → d ∉ looks ops x)
    (hax : isAp x.op = true) (hao : isAp o.op = true) (hfar : ∀ i, Rch x s.tm s.hp i → ¬ Rch o s.tm s.hp i) (hx : actM C P ops x s.tm = true) (ho : actM C P ops o s.tm = true)
    (h : gopK C P N call ops x s (fun s1 => gopK C P N call ops o s1 K) = some r) : gopK C P N call ops o s (fun s1 => gopK C P N call ops x s1 K) = some r := by
  obtain ⟨tm, hp⟩ := s
  obtain ⟨s1, e1, _, _, h⟩ := gopK_state h
  obtain ⟨s2, e2, _, _, h⟩ := gopK_state h
  rw [gopK_M hx] at e1
  have hSx : ∀ i, Rch x tm hp i → hp i ≠ none := by
    rintro i (⟨y, hy, hi⟩ | ⟨hap, _⟩)
    · exact hwx y hy i hi
    · rw [hax] at hap; cases hap
  have hSo : ∀ i, Rch o tm hp i → hp i ≠ none := by
    rintro i (⟨y, hy, hi⟩ | ⟨hap, _⟩)
    · exact hw.1 y hy i hi
    · rw [hao] at hap; cases hap
  obtain ⟨vx, hpx, hpx', rfl, e1', T1⟩ := mutA_two hax (fun _ _ => rfl) (fun _ _ => rfl) (fun _ _ => rfl) e1
  have : hpx' = hpx := by
    rw [e1] at e1'
    injection e1' with q
    injection q with _ q
    exact q.symm
  subst this
  have t1 : ∀ t ∈ looks ops o, putTm tm x.dst vx t = tm t := putTm_look xo
  have t1o := opv_looks (ops := ops) (o := o) t1
  rw [gopK_M (by rw [actM_looks t1]; exact ho)] at e2
  have hRo : ∀ i, Rch o (putTm tm x.dst vx) hpx' i ↔ Rch o tm hp i := by
    intro i
    constructor
    · rintro (⟨y, hy, hi⟩ | ⟨hap, _⟩)
      · exact .inl ⟨y, hy, by rw [← t1o y hy]; exact hi⟩
      · rw [hao] at hap; cases hap
    · rintro (⟨y, hy, hi⟩ | ⟨hap, _⟩)
      · exact .inl ⟨y, hy, by rw [t1o y hy]; exact hi⟩
      · rw [hao] at hap; cases hap
  -- the second one's place is free
  have hfree : ∀ {s : St} {o : Oper} {s2 : St}, isAp o.op = true → mutK C P N call s o some = some s2 → ∀ d, o.dst = some d → s.hp d = none := by
    intro s o s2 hao e d hd
    unfold mutK at e
    unfold isAp at hao
    split at hao
    · rename_i c hc
      rw [hc] at e
      simp only at e
      split at hao
      · rename_i hcc
        rw [hcc] at e
        simp only [hd, optK] at e
        obtain ⟨_, _, _, e⟩ := consK_inv e
        obtain ⟨_, _, _, e⟩ := consK_inv e
        obtain ⟨_, e⟩ := nilK_inv e
        obtain ⟨_, _, _, e⟩ := consK_inv e
        obtain ⟨_, _, _, e⟩ := consK_inv e
        exact appendK_free e
      · cases hao
    · cases hao
  have hpo0 : ∀ d, o.dst = some d → hp d = none := by
    intro d hd
    have h0 := hfree hao e2 d hd
    cases hh : hp d with
    | none => rfl
    | some b => exact absurd h0 ((T1 0).keep d (by rw [hh]; simp))
  have hpx0 := hfree hax e1
  simp only at hpx0
  have hoS : ∀ d, o.dst = some d → ¬ Rch x tm hp d := fun d hd hR => hSx d hR (hpo0 d hd)
  have hxS : ∀ d, x.dst = some d → ¬ Rch o tm hp d := fun d hd hR => hSo d hR (hpx0 d hd)
  obtain ⟨vo, hpxo, hpo, rfl, e3, T2⟩ := mutA_two (tm' := tm) (hp1 := hp) hao t1o (fun i hi => (T1 0).far i (fun hR => hfar i hR hi) (hSo i hi)) (fun d hd => ((T1 (d + 1)).off d (by omega) (fun e => ne d e hd) (.inl (hoS d hd))).1) e2
  obtain ⟨vo', hpo', hpo'', e3a, e3b, T3⟩ := mutA_two (tm' := tm) (hp1 := hp) hao (fun _ _ => rfl) (fun _ _ => rfl) (fun _ _ => rfl) e3
  rw [e3] at e3b
  have hpoe : hpo' = hpo ∧ hpo'' = hpo := by
    injection e3a with _ q1
    injection e3b with q2
    injection q2 with _ q3
    exact ⟨q1.symm, q3.symm⟩
  obtain ⟨rfl, rfl⟩ := hpoe
  have t2 : ∀ t ∈ looks ops x, tm t = putTm tm o.dst vo t := fun t ht => (putTm_look ox t ht).symm
  have t2x := opv_looks (ops := ops) (o := x) t2
  have hRx : ∀ i, Rch x (putTm tm o.dst vo) hpo'' i ↔ Rch x tm hp i := by
    intro i
    constructor
    · rintro (⟨y, hy, hi⟩ | ⟨hap, _⟩)
      · exact .inl ⟨y, hy, by rw [t2x y hy]; exact hi⟩
      · rw [hax] at hap; cases hap
    · rintro (⟨y, hy, hi⟩ | ⟨hap, _⟩)
      · exact .inl ⟨y, hy, by rw [← t2x y hy]; exact hi⟩
      · rw [hax] at hap; cases hap
  obtain ⟨vx2, hpx2, hpox, e4a, e4, T4⟩ := mutA_two (tm' := putTm tm o.dst vo) (hp1 := hpo'') hax t2x (fun i hi => ((T3 0).far i (hfar i ((hRx i).1 hi)) (hSx i ((hRx i).1 hi))).symm) (fun d hd => ((T3 (d + 1)).off d (by omega) (fun e => ne d hd e) (.inl (hxS d hd))).1.symm) e1
  have hvx : putTm tm x.dst vx = putTm tm x.dst vx2 ∧ hpx' = hpx2 := by
    injection e4a with q1 q2
    exact ⟨q1, q2⟩
  obtain ⟨hvx, rfl⟩ := hvx
  -- the first one again, behind the second
  obtain ⟨_, hq1, hq2, e5a, e5b, T5⟩ := mutA_two (tm' := putTm tm x.dst vx) (hp1 := hpx') hao (fun _ _ => rfl) (fun _ _ => rfl) (fun _ _ => rfl) e2
  have hq : hq1 = hpxo := by injection e5a with _ q1; exact q1.symm
  subst hq
  obtain ⟨_, hu1, hu2, e6a, e6b, T6⟩ := mutA_two (tm' := putTm tm o.dst vo) (hp1 := hpo'') hax (fun _ _ => rfl) (fun _ _ => rfl) (fun _ _ => rfl) e4
  have hu : hu1 = hpox := by injection e6a with _ q1; exact q1.symm
  subst hu
  have hmem : hq1 = hu1 := by
    funext i
    by_cases hi : Rch o tm hp i ∨ o.dst = some i
    · have hxi : ¬ Rch x tm hp i := by
        rcases hi with hi | hi
        · exact fun hR => hfar i hR hi
        · exact hoS i hi
      have hdi : x.dst ≠ some i := by
        rcases hi with hi | hi
        · exact fun e => hxS i e hi
        · exact fun e => ne i e hi
      rw [(T2 0).same i ((T1 (i + 1)).off i (by omega) hdi (.inl hxi)).1]
      exact ((T6 (i + 1)).off i (by omega) hdi (.inl fun hR => hxi ((hRx i).1 hR))).1.symm
    · have hoi : ¬ Rch o tm hp i := fun e => hi (.inl e)
      have hdi : o.dst ≠ some i := fun e => hi (.inr e)
      rw [((T5 (i + 1)).off i (by omega) hdi (.inl fun hR => hoi ((hRo i).1 hR))).1]
      exact (T4 0).same i ((T3 (i + 1)).off i (by omega) hdi (.inl hoi)).1.symm
  refine gopK_back (s1 := ⟨putTm tm o.dst vo, hpo''⟩) (by rw [gopK_M ho]; exact e3) ?_
  refine gopK_back (s1 := ⟨putTm (putTm tm o.dst vo) x.dst vx2, hu1⟩) (by rw [gopK_M (by rw [← actM_looks t2]; exact hx)]; exact e4) ?_
  rw [← putTm_comm ne, ← hvx, ← hmem]
  exact h

theorem reach_M (hM : isM C P o.op = true) {i : Nat} (h : Rch o s.tm s.hp i) : i ∈ reach C P s o := by
  unfold reach
  rw [hM]
  cases hA : isAp o.op
  · simp only [Bool.not_false, Bool.and_self, cond_true, List.mem_append]
    rcases h with ⟨y, hy, hi⟩ | ⟨_, id, c, ⟨y, hy, hi⟩, hc, p, hp, hk⟩
    · exact .inl (List.mem_flatMap.2 ⟨y, hy, hi⟩)
    · refine .inr (List.mem_flatMap.2 ⟨id, List.mem_flatMap.2 ⟨y, hy, hi⟩, ?_⟩)
      rw [hc]
      exact List.mem_flatMap.2 ⟨p, hp, hk⟩
  · simp only [Bool.not_true, Bool.and_false, cond_false, Bool.or_true, cond_true]
    rcases h with ⟨y, hy, hi⟩ | ⟨hn, _⟩
    · exact List.mem_flatMap.2 ⟨y, hy, hi⟩
    · rw [hA] at hn; cases hn

theorem reach_1 (hl : isM C P o.op = true ∨ isLd o.op = true) {y : Operand} (hy : y ∈ o.op.operands.toList) {i : Nat} (h : i ∈ refs (opv s.tm y)) : i ∈ reach C P s o := by
  rcases hl with hM | hl
  · exact reach_M hM (.inl ⟨y, hy, h⟩)
  · unfold reach
    rw [isLd_notM hl, hl]
    exact List.mem_flatMap.2 ⟨y, hy, h⟩

theorem reach_sub (hw : Has C P o s) {i : Nat} (h : i ∈ reach C P s o) : s.hp i ≠ none := by
  unfold reach at h
  have h1 : ∀ {i : Nat}, i ∈ (o.op.operands.toList.flatMap fun y => refs (opv s.tm y)) → s.hp i ≠ none := by
    intro i hi
    obtain ⟨y, hy, hi⟩ := List.mem_flatMap.1 hi
    exact hw.1 y hy i hi
  cases hc : (isM C P o.op && !isAp o.op)
  · rw [hc] at h
    simp only [cond_false] at h
    cases hd : (isLd o.op || isAp o.op)
    · rw [hd] at h; simp at h
    · rw [hd] at h
      exact h1 h
  · rw [hc] at h
    simp only [Bool.and_eq_true, Bool.not_eq_true'] at hc
    rcases List.mem_append.1 h with h | h
    · exact h1 h
    · obtain ⟨id, hid, hi⟩ := List.mem_flatMap.1 h
      obtain ⟨y, hy, hid⟩ := List.mem_flatMap.1 hid
      split at hi
      · rename_i c hcc
        obtain ⟨p, hp, hk⟩ := List.mem_flatMap.1 hi
        exact hw.2 hc.1 hc.2 y hy id hid c hcc p hp i hk
      · simp at hi

theorem reach_eq (ht : ∀ t ∈ looks ops o, s1.tm t = s.tm t) (hh : isM C P o.op = true → isAp o.op = false → ∀ y ∈ o.op.operands.toList, ∀ i ∈ refs (opv s.tm y), s1.hp i = s.hp i) : reach C P s1 o = reach C P s o := by
  have he := opv_looks (ops := ops) (o := o) ht
  have hl : (o.op.operands.toList.flatMap fun y => refs (opv s1.tm y)) = o.op.operands.toList.flatMap fun y => refs (opv s.tm y) := by
    have hgen : ∀ l : List Operand, (∀ y ∈ l, opv s1.tm y = opv s.tm y) → (l.flatMap fun y => refs (opv s1.tm y)) = l.flatMap fun y => refs (opv s.tm y) := by
      intro l
      induction l with
      | nil => intro _; rfl
      | cons a l ih => intro h; simp only [List.flatMap_cons]; rw [h a (by simp), ih fun y hy => h y (by simp [hy])]
    exact hgen _ he
  unfold reach
  simp only [hl]
  cases hM : (isM C P o.op && !isAp o.op)
  · rfl
  · simp only [cond_true]
    simp only [Bool.and_eq_true, Bool.not_eq_true'] at hM
    congr 1
    have hgen : ∀ l : List Nat, (∀ i ∈ l, s1.hp i = s.hp i) → (l.flatMap fun i => match s1.hp i with | some (.st c) => c.flatMap refsC | _ => []) = l.flatMap fun i => match s.hp i with | some (.st c) => c.flatMap refsC | _ => [] := by
      intro l
      induction l with
      | nil => intro _; rfl
      | cons a l ih => intro h; simp only [List.flatMap_cons]; rw [h a (by simp), ih fun y hy => h y (by simp [hy])]
    exact hgen _ fun i hi => by
      obtain ⟨y, hy, hi⟩ := List.mem_flatMap.1 hi
      exact hh hM.1 hM.2 y hy i hi

theorem disj_not {a b : List Nat} (h : disj a b = true) {i : Nat} (ha : i ∈ a) (hb : i ∈ b) : False := by
  have := List.all_eq_true.1 h i ha
  have h2 : b.any (Nat.beq i) = true := List.any_eq_true.2 ⟨i, hb, Nat.beq_refl i⟩
  rw [h2] at this
  cases this

theorem disj_symm {a b : List Nat} (h : disj a b = true) : disj b a = true := by
  refine List.all_eq_true.2 fun i hi => ?_
  cases hc : a.any (Nat.beq i)
  · rfl
  · obtain ⟨j, hj, e⟩ := List.any_eq_true.1 hc
    rw [Nat.eq_of_beq_eq_true e] at hi
    exact (disj_not h hj hi).elim

theorem softP_symm : softP C P x o = softP C P o x := by
  unfold softP
  cases isM C P x.op <;> cases isM C P o.op <;> cases isLd x.op <;> cases isLd o.op <;> cases isAp x.op <;> cases isAp o.op <;> rfl

/-- Two operations that may change places when what they reach is apart. -/
structure ApartS (C : Cfg) (P : Program) (ops : Array Oper) (x o : Oper) : Prop where
  xo : ∀ d, x.dst = some d → d ∉ looks ops o
  ne : ∀ d, x.dst = some d → o.dst ≠ some d
  ox : ∀ d, o.dst = some d → d ∉ looks ops x
  me : clashM C P x o = false ∨ softP C P x o = true

theorem apartS_of (h : hard C P ops x o = false) : ApartS C P ops x o := by
  unfold hard at h
  simp only [Bool.or_eq_false_iff] at h
  obtain ⟨h1, h2⟩ := h
  have hT := h1
  unfold clashT at h1
  simp only [Bool.or_eq_false_iff] at h1
  have a1 : clash C P ops x o = false ∨ clashM C P x o = true := by
    cases hc : clashM C P x o
    · left
      unfold clash
      unfold clashM at hc
      simp only [Bool.or_eq_false_iff] at hc ⊢
      exact ⟨⟨⟨h1.1, h1.2⟩, hc.1⟩, hc.2⟩
    · exact .inr rfl
  refine ⟨fun d hd => ?_, fun d hd he => ?_, fun d hd => ?_, ?_⟩
  · have := h1.1
    simp only [hd, Bool.or_eq_false_iff] at this
    exact any_beq this.1
  · have := h1.1
    simp only [hd, he, Bool.or_eq_false_iff] at this
    rw [Nat.beq_refl] at this
    cases this.2
  · have := h1.2
    simp only [hd] at this
    exact any_beq this
  · cases hc : clashM C P x o
    · exact .inl rfl
    · rw [hc] at h2
      right
      simpa using h2

theorem ApartS.apart (ap : ApartS C P ops x o) (h : clashM C P x o = false) : Apart C P ops x o := by
  unfold clashM at h
  simp only [Bool.or_eq_false_iff, Bool.and_eq_false_iff] at h
  refine ⟨ap.xo, ap.ne, ap.ox, fun hm => ?_, fun hm => ?_⟩
  · rcases h.1 with h | h
    · rw [hm] at h; cases h
    · exact h
  · rcases h.2 with h | h
    · rw [hm] at h; cases h
    · exact h

/-- What an operation that may change places leaves of what the other's variables hold. -/
theorem ApartS.same (ap : ApartS C P ops x o) (hk : Keeps P x s s1) (hl : isLd x.op = true → s1.hp = s.hp) (hM : isM C P o.op = true) (hA : isAp o.op = false) {i : Nat} (hi : s.hp i ≠ none) : s1.hp i = s.hp i := by
  rcases ap.me with h | h
  · exact hk.2.2 ((ap.apart h).mo hM) i hi
  · unfold softP at h
    rw [hA] at h
    simp only [Bool.and_false, Bool.or_false, Bool.or_eq_true, Bool.and_eq_true] at h
    rcases h with h | h
    · have := h.2
      rw [isLd_notM (C := C) (P := P) this] at hM
      cases hM
    · rw [hl h.2]

theorem Has.keepsS (h : Has C P o s) (ap : ApartS C P ops x o) (hk : Keeps P x s s1) (hl : isLd x.op = true → s1.hp = s.hp) : Has C P o s1 := by
  have hop : ∀ y ∈ o.op.operands.toList, opv s1.tm y = opv s.tm y := fun y hy => opv_looks (ops := ops) (o := o) (fun t ht => hk.1 t fun hd => ap.xo t hd ht) y hy
  refine ⟨fun y hy i hi => ?_, fun hM hA y hy i hi c hc p hp k hkk => ?_⟩
  · rw [hop y hy] at hi
    exact hk.2.1 i (h.1 y hy i hi)
  · rw [hop y hy] at hi
    rw [ap.same hk hl hM hA (h.1 y hy i hi)] at hc
    exact hk.2.1 k (h.2 hM hA y hy i hi c hc p hp k hkk)

theorem ApartS.symm (ap : ApartS C P ops x o) : ApartS C P ops o x := by
  refine ⟨ap.ox, fun d hd he => ap.ne d he hd, ap.xo, ?_⟩
  rcases ap.me with h | h
  · left
    unfold clashM at h ⊢
    rw [Bool.or_comm]
    exact h
  · right
    rw [softP_symm]
    exact h

theorem swapS (hw : Has C P o s) (hwx : softP C P x o = true → ∀ i ∈ reach C P s x, s.hp i ≠ none) (ap : ApartS C P ops x o) (hd : softP C P x o = true → disj (reach C P s x) (reach C P s o) = true)
    (h : gopK C P N call ops x s (fun s1 => gopK C P N call ops o s1 K) = some r) : gopK C P N call ops o s (fun s1 => gopK C P N call ops x s1 K) = some r := by
  rcases ap.me with hm | hm
  · exact swap hw (ap.apart hm) h
  · have hd := hd hm
    have hwx := hwx hm
    cases hx : actM C P ops x s.tm
    · cases ho : actM C P ops o s.tm
      · exact swap_RR hw ap.xo ap.ne ap.ox hx ho h
      · have hMo := actM_isM ho
        have hlx : Lite ops x s.tm := by
          cases hl : isLd x.op
          · right
            have hMx : isM C P x.op = true := by
              unfold softP at hm
              simp only [hl, Bool.and_false, Bool.or_false, Bool.or_eq_true, Bool.and_eq_true] at hm
              rcases hm with hm | hm
              · exact hm.1
              · exact isAp_M hm.1
            cases hv : verdict ops x s.tm with
            | none =>
              exfalso
              rw [gopK_R hx] at h
              unfold gE at h
              rw [hv] at h
              cases h
            | some b =>
              cases b
              · rfl
              · unfold actM at hx
                rw [hMx, hv] at hx
                cases hx
          · exact .inl hl
        refine swap_LM ap.xo ap.ne ap.ox hlx (fun y hy i hi hR => ?_) ho h
        refine disj_not hd (reach_1 ?_ hy hi) (reach_M hMo hR)
        unfold softP at hm
        simp only [Bool.or_eq_true, Bool.and_eq_true] at hm
        rcases hm with (hm | hm) | hm
        · exact .inl hm.1
        · exact .inr hm.2
        · exact .inl (isAp_M hm.1)
    · have hMx := actM_isM hx
      cases ho : actM C P ops o s.tm
      · have hlo : Lite ops o s.tm := by
          cases hl : isLd o.op
          · right
            have hMo : isM C P o.op = true := by
              unfold softP at hm
              simp only [hl, Bool.and_false, Bool.false_or, Bool.or_eq_true, Bool.and_eq_true] at hm
              rcases hm with hm | hm
              · exact hm.1
              · exact isAp_M hm.2
            cases hv : verdict ops o s.tm with
            | none =>
              exfalso
              obtain ⟨s1, _, hk, _, h⟩ := gopK_state h
              have hv1 : verdict ops o s1.tm = none := by rw [verdict_looks (fun t ht => hk.1 t fun hd => ap.xo t hd ht)]; exact hv
              rw [gopK_R (by unfold actM; rw [hv1]; cases isM C P o.op <;> rfl)] at h
              unfold gE at h
              rw [hv1] at h
              cases h
            | some b =>
              cases b
              · rfl
              · unfold actM at ho
                rw [hMo, hv] at ho
                cases ho
          · exact .inl hl
        refine swap_ML hw ap.xo ap.ne ap.ox hlo (fun y hy i hi hR => ?_) hx h
        refine disj_not hd (reach_M hMx hR) (reach_1 ?_ hy hi)
        unfold softP at hm
        simp only [Bool.or_eq_true, Bool.and_eq_true] at hm
        rcases hm with (hm | hm) | hm
        · exact .inr hm.2
        · exact .inl hm.1
        · exact .inl (isAp_M hm.2)
      · have hMo := actM_isM ho
        unfold softP at hm
        simp only [Bool.or_eq_true, Bool.and_eq_true] at hm
        rcases hm with (hm | hm) | hm
        · rw [isLd_notM (C := C) (P := P) hm.2] at hMo; cases hMo
        · rw [isLd_notM (C := C) (P := P) hm.2] at hMx; cases hMx
        · exact swap_AA hw (fun y hy i hi => hwx i (reach_1 (.inl hMx) hy hi)) ap.xo ap.ne ap.ox hm.1 hm.2 (fun i h1 h2 => disj_not hd (reach_M hMx h1) (reach_M hMo h2)) hx ho h

theorem all_swap {α : Type} (a b : α) (l : List α) (f : α → Bool) : (a :: b :: l).all f = (b :: a :: l).all f := by
  simp only [List.all_cons]
  cases f a <;> cases f b <;> rfl

theorem gopsDK_perm {bs : List (List Nat)} : ∀ (l : List Nat) {dn dn' : List (Nat × Oper × List Nat)} {s : St} {K : St → Option R}, (∀ f, dn.all f = dn'.all f) → gopsDK C P N call ops bs dn l s K = gopsDK C P N call ops bs dn' l s K
  | [], _, _, _, _, _ => rfl
  | i :: l, dn, dn', s, K, h => by
    unfold gopsDK
    cases ops[i]? with
    | none => rfl
    | some o =>
      simp only [optK, h]
      congr 2
      funext s'
      exact gopsDK_perm l fun f => by simp only [List.all_cons, h]

theorem softs_at {bs : List Nat} {i : Nat} (hi : ops[i]? = some o) : (softs C P ops bs).getD i [] = softWith C P ops bs i o := by
  unfold softs
  rw [List.getD_eq_getElem?_getD, List.getElem?_map, List.getElem?_zipIdx, Array.getElem?_toList, hi]
  simp

theorem mem_softWith {bs : List Nat} {i j : Nat} : j ∈ softWith C P ops bs i o ↔ ∃ x, ops[j]? = some x ∧ softP C P x o = true ∧ (Nat.blt j i && (bs.getD i 0).testBit j) = false ∧ (Nat.blt i j && (bs.getD j 0).testBit i) = false := by
  unfold softWith
  simp only [List.mem_map, List.mem_filter, Bool.and_eq_true, Bool.not_eq_true', Prod.exists]
  constructor
  · rintro ⟨x, k, ⟨hm, ⟨h1, h2⟩, h3⟩, rfl⟩
    rw [List.mem_zipIdx_iff_getElem?] at hm
    exact ⟨x, by simpa using hm, h1, h2, h3⟩
  · rintro ⟨x, hx, h1, h2, h3⟩
    refine ⟨x, j, ⟨?_, ⟨h1, h2⟩, h3⟩, rfl⟩
    rw [List.mem_zipIdx_iff_getElem?]
    simpa using hx

theorem rch_pos {sm : List (List Nat)} {i j : Nat} (h : j ∈ sm.getD i []) : rch C P sm s i o = reach C P s o := by
  unfold rch
  split
  · rename_i e; rw [e] at h; simp at h
  · rfl

theorem rch_eq {sm : List (List Nat)} {i : Nat} (h : sm.getD i [] ≠ [] → reach C P s1 o = reach C P s o) : rch C P sm s1 i o = rch C P sm s i o := by
  unfold rch
  split
  · rfl
  · rename_i e
    exact h (by rw [e]; simp)

theorem any_mem {l : List Nat} {j : Nat} : l.any (Nat.beq j) = true ↔ j ∈ l := by
  constructor
  · intro h
    obtain ⟨k, hk, e⟩ := List.any_eq_true.1 h
    rw [Nat.eq_of_beq_eq_true e]
    exact hk
  · intro h
    exact List.any_eq_true.2 ⟨j, h, Nat.beq_refl j⟩

theorem gopsDK_first {bs : List Nat} {sm : List (List Nat)} (hsm : sm = softs C P ops bs) {i : Nat} (hi : ops[i]? = some o) {l' : List Nat} : ∀ (l : List Nat) {dn : List (Nat × Oper × List Nat)} {s : St} {K : St → Option R}, Has C P o s →
    (∀ j ∈ l, j < i ∧ (bs.getD i 0).testBit j = false ∧ ∀ x, ops[j]? = some x → ApartS C P ops x o) → gopsDK C P N call ops sm dn (l ++ i :: l') s K = some r →
    dn.all (okDn C P sm s i o) = true ∧ gopK C P N call ops o s (fun s1 => gopsDK C P N call ops sm ((i, o, rch C P sm s i o) :: dn) (l ++ l') s1 K) = some r
  | [], dn, s, K, hw, _, h => by
    simp only [List.nil_append] at h ⊢
    unfold gopsDK at h
    rw [hi] at h
    simp only [optK] at h
    obtain ⟨hb, h⟩ := chk_inv h
    simp only [Bool.and_eq_true] at hb
    exact ⟨hb.1, h⟩
  | j :: l, dn, s, K, hw, hl, h => by
    simp only [List.cons_append] at h ⊢
    unfold gopsDK at h
    obtain ⟨hji, hbit, hap⟩ := hl j (by simp)
    cases hj : ops[j]? with
    | none => rw [hj] at h; cases h
    | some x =>
      rw [hj] at h
      simp only [optK] at h
      obtain ⟨hb, h⟩ := chk_inv h
      simp only [Bool.and_eq_true] at hb
      have ap := hap x hj
      have hex : ∀ k ∈ rch C P sm s j x, s.hp k ≠ none := fun k hk => by
        have := List.all_eq_true.1 hb.2 k hk
        intro e
        rw [e] at this
        cases this
      obtain ⟨s1, e1, hk1, hl1, h1⟩ := gopK_state h
      obtain ⟨ha, h2⟩ := gopsDK_first hsm hi l (hw.keepsS ap hk1 hl1) (fun k hk => hl k (by simp [hk])) h1
      have hr1' : reach C P s1 o = reach C P s o := reach_eq (ops := ops) (fun t ht => hk1.1 t fun hd => ap.xo t hd ht) fun hM hA y hy k hk => ap.same hk1 hl1 hM hA (hw.1 y hy k hk)
      have hr1 : rch C P sm s1 i o = rch C P sm s i o := rch_eq fun _ => hr1'
      rw [List.all_cons, Bool.and_eq_true] at ha
      have hji' : Nat.blt i j = false := by
        cases hh : Nat.blt i j
        · rfl
        · have := Nat.le_of_ble_eq_true hh
          omega
      have hmi : softP C P x o = true → j ∈ sm.getD i [] := fun hs => by
        rw [hsm, softs_at hi]
        exact mem_softWith.2 ⟨x, hj, hs, by rw [hbit, Bool.and_false], by rw [hji', Bool.false_and]⟩
      have hmj : softP C P x o = true → i ∈ sm.getD j [] := fun hs => by
        rw [hsm, softs_at hj]
        exact mem_softWith.2 ⟨o, hi, by rw [softP_symm]; exact hs, by rw [hji', Bool.false_and], by rw [hbit, Bool.and_false]⟩
      have hsoft : softP C P x o = true → disj (rch C P sm s j x) (rch C P sm s i o) = true := by
        intro hs
        have := ha.1
        unfold okDn at this
        rw [any_mem.2 (hmi hs), hr1] at this
        simpa using this
      have hok : ∀ q, okDn C P sm s1 i o q = okDn C P sm s i o q := fun q => by unfold okDn; rw [hr1]
      have hall : dn.all (okDn C P sm s i o) = true := by
        refine List.all_eq_true.2 fun q hq => ?_
        rw [← hok]
        exact List.all_eq_true.1 ha.2 q hq
      refine ⟨hall, ?_⟩
      rw [hr1] at h2
      have h3 := swapS hw (fun hs k hk => hex k (by rw [rch_pos (hmj hs)]; exact hk)) ap (fun hs => by have := hsoft hs; rw [rch_pos (hmj hs), rch_pos (hmi hs)] at this; exact this)
        (gopK_back (K' := fun s1 => gopK C P N call ops o s1 (fun s2 => gopsDK C P N call ops sm ((i, o, rch C P sm s i o) :: (j, x, rch C P sm s j x) :: dn) (l ++ l') s2 K)) e1 h2)
      obtain ⟨s2, e2, hk2, hl2, h4⟩ := gopK_state h3
      refine gopK_back e2 ?_
      have hr2 : rch C P sm s2 j x = rch C P sm s j x := rch_eq fun hne => by
        obtain ⟨q, hq⟩ := List.exists_mem_of_ne_nil _ hne
        refine reach_eq (ops := ops) (fun t ht => hk2.1 t fun hd => ap.ox t hd ht) fun hM hA y hy k hk => ap.symm.same hk2 hl2 hM hA (hex k ?_)
        rw [rch_pos hq]
        exact reach_1 (.inl hM) hy hk
      unfold gopsDK
      rw [hj]
      simp only [optK]
      have hc : (((i, o, rch C P sm s i o) :: dn).all (okDn C P sm s2 j x) && (rch C P sm s2 j x).all fun k => (s2.hp k).isSome) = true := by
        simp only [List.all_cons, Bool.and_eq_true]
        refine ⟨⟨?_, ?_⟩, ?_⟩
        · unfold okDn
          simp only [hr2]
          cases hs : (sm.getD j []).any (Nat.beq i)
          · rfl
          · have hm := any_mem.1 hs
            rw [hsm, softs_at hj] at hm
            obtain ⟨o', ho', hso, _⟩ := mem_softWith.1 hm
            rw [hi] at ho'
            cases ho'
            rw [softP_symm] at hso
            rw [disj_symm (hsoft hso)]
            rfl
        · refine List.all_eq_true.2 fun q hq => ?_
          have := List.all_eq_true.1 hb.1 q hq
          unfold okDn at this ⊢
          rw [hr2]
          exact this
        · rw [hr2]
          refine List.all_eq_true.2 fun k hk => ?_
          have := hk2.2.1 k (hex k hk)
          cases hh : s2.hp k with
          | none => exact absurd hh this
          | some _ => rfl
      rw [hc, hr2]
      show gopK C P N call ops x s2 _ = some r
      have : (fun s' => gopsDK C P N call ops sm ((j, x, rch C P sm s j x) :: (i, o, rch C P sm s i o) :: dn) (l ++ l') s' K) = fun s2 => gopsDK C P N call ops sm ((i, o, rch C P sm s i o) :: (j, x, rch C P sm s j x) :: dn) (l ++ l') s2 K := by
        funext s'
        exact gopsDK_perm _ fun f => all_swap _ _ _ f
      rw [this]
      exact h4
end

section
variable {R : Type} {r : R} {P : Program} {N : Nat} {w0 : World} {X0 : Lend} {Y : Nat → Prop} {β β' : Bt} {s : St} {a : Act} {w w' : World} {o : Oper} {ops : Array Oper} {C : Cfg} {call : Call'} {K : St → Option R}

theorem regOkGoS_spec {bs : List Nat} : ∀ (l : List Oper) (n : Nat), regOkGoS C P ops bs l n = true → ∀ (k : Nat) o, l[k]? = some o → ∀ (j : Nat) x, ops[j]? = some x → j < n + k → hard C P ops x o = true → (bs.getD (n + k) 0).testBit j = true
  | [], _, _, k, o, ho, _, _, _, _, _ => by simp at ho
  | o' :: l, n, h, k, o, ho, j, x, hx, hj, hcl => by
    simp only [regOkGoS, Bool.and_eq_true] at h
    cases k with
    | zero =>
      simp at ho
      subst ho
      have := List.all_eq_true.1 h.1 (x, j) (by
        rw [List.mem_zipIdx_iff_getElem?]
        simpa using hx)
      simp only [hcl, Bool.not_true, Bool.or_false, Bool.or_eq_true, Bool.not_eq_true'] at this
      rcases this with h' | h'
      · have : Nat.blt j n = true := Nat.ble_eq_true_of_le (by omega)
        rw [this] at h'; cases h'
      · exact h'
    | succ k =>
      have := regOkGoS_spec l (n + 1) h.2 k o (by simpa using ho) j x hx (by omega) hcl
      rwa [show n + (k + 1) = n + 1 + k by omega]

theorem wpAny_soundS {G : Glo} (hNG : Env P G w0 X0) (hcall : ∀ f args res, call f args = some res → SoundC G P f args res) (hok : regOkS C P ops = true) {Q : Exit → Act → World → Prop} (hQ : ∀ s' a' w' β', K s' = some r → Sim N w0 X0 Y β' s' a' w' → Q .normal a' w') :
    ∀ (fuel : Nat) {dn : List (Nat × Oper × List Nat)} {listed : Array Bool} {s : St} {a : Act} {w : World} {β : Bt}, HeadInv .any ops ops.size listed → (pend ops.size listed).length = fuel → Sim N w0 X0 Y β s a w → gopsDK C P N call ops (softs C P ops (befores ops.toList [])) dn (pend ops.size listed) s K = some r → wpAny P .any ops Q fuel listed a w := by
  unfold regOkS at hok
  simp only [Bool.and_eq_true] at hok
  obtain ⟨hok1, hok2⟩ := hok
  intro fuel
  induction fuel with
  | zero =>
    intro dn listed s a w β inv hf h hk
    have hp := List.eq_nil_of_length_eq_zero hf
    rw [hp] at hk
    refine ⟨?_, hQ s a w β hk h⟩
    cases hr : Region.ready .any ops listed with
    | nil => rfl
    | cons i l =>
      exfalso
      have hi : i ∈ Region.ready .any ops listed := by rw [hr]; simp
      obtain ⟨hun, o, ho, _⟩ := mem_ready.1 hi
      have : i ∈ pend ops.size listed := mem_pend.2 ⟨(Array.getElem?_eq_some_iff.1 ho).1, hun⟩
      rw [hp] at this
      simp at this
  | succ fuel ih =>
    intro dn listed s a w β inv hf h hk
    refine ⟨fun hr => ?_, fun i hi => ?_⟩
    · rw [pend_done hok1 inv hr] at hf
      cases hf
    · obtain ⟨hun, o, ho, hall⟩ := mem_ready.1 hi
      have hlt : i < ops.size := (Array.getElem?_eq_some_iff.1 ho).1
      obtain ⟨l1, l2, h1, h2, h3⟩ := pend_split (mem_pend.2 ⟨hlt, hun⟩) inv.size
      rw [h1] at hk
      have hnb : ∀ j ∈ l1, ((befores ops.toList []).getD i 0).testBit j = false := by
        intro j hj
        cases hbit : ((befores ops.toList []).getD i 0).testBit j with
        | false => rfl
        | true =>
          exfalso
          have hjl := befores_spec (listed := listed) (fun j oj hj hl => inv.closed j oj hj hl) ops.toList [] [] (by simp) rfl (by simp) i o ho hall j hbit
          have : j ∈ pend ops.size listed := by rw [h1]; simp [hj]
          have := getD_both (mem_pend.1 this).2
          rw [hjl] at this
          cases this
      have hap : ∀ j ∈ l1, j < i ∧ ((befores ops.toList []).getD i 0).testBit j = false ∧ ∀ x, ops[j]? = some x → ApartS C P ops x o := by
        intro j hj
        refine ⟨h3 j hj, hnb j hj, fun x hxj => apartS_of ?_⟩
        cases hcl : hard C P ops x o with
        | false => rfl
        | true =>
          exfalso
          have hbit := regOkGoS_spec ops.toList 0 hok2 i o (by simpa using ho) j x hxj (by have := h3 j hj; omega) hcl
          rw [Nat.zero_add, hnb j hj] at hbit
          cases hbit
      obtain ⟨s', hs', hn⟩ := gopK_sound h hNG hcall ho (gopsDK_first rfl ho l1 (has_of h o) hap hk).2
      refine hn _ _ fun a' w' β' h' => ih (dn := (i, o, rch C P (softs C P ops (befores ops.toList [])) s i o) :: dn) (inv.set hi hlt) ?_ h' ?_
      · rw [h2]; rw [h1] at hf; simp at hf ⊢; omega
      · rw [h2]; exact hs'

/-- A region that draws its order, with loads and appends whose places are told apart when they run. -/
theorem region_soft (h : Sim N w0 X0 Y β s a w) {G : Glo} (hNG : Env P G w0 X0) (hcall : ∀ f args res, call f args = some res → SoundC G P f args res) (hm : P.follows .mixedOrders = true) (hok : regOkS C P ops = true) {id : Nat} {Q : Exit → Act → World → Prop}
    (hk : gopsDK C P N call ops (softs C P ops (befores ops.toList [])) [] (List.range ops.size) s K = some r) (hQ : ∀ s' a' w' β', K s' = some r → Sim N w0 X0 Y β' s' a' w' → Q .normal a' w') : (Code.region id ops true).wp P Q a w := by
  have hp : pend ops.size (Array.replicate ops.size false) = List.range ops.size := by
    unfold pend
    refine List.filter_eq_self.2 fun i hi => ?_
    have := List.mem_range.1 hi
    simp [this]
  refine wp_region_any hm (wpAny_soundS (C := C) (dn := []) hNG hcall hok hQ ops.size ⟨by simp, fun j oj _ hl => (by rw [getD_replicate_false] at hl; cases hl), fun t ht ht' => by omega⟩ (by rw [hp]; simp) h.drew ?_)
  rw [hp]
  exact hk
end

end Go.Proofs.Ytaphhfehcbkfkaa.Pv

namespace Go.Proofs.Ytaphhfehcbkfkaa.Pv
open Go.RowKit

section
variable {R : Type} {r : R} {N : Nat} {w0 : World} {X0 : Lend} {Y : Nat → Prop} {β β' : Bt} {s : St} {a : Act} {w w' : World}

theorem put_self {i : Nat} (hi : i < a.tmps.size) : a.put (some i) (a.tmps.getD i undef) = a := by
  obtain ⟨tmps, dfr⟩ := a
  change i < tmps.size at hi
  have : tmps.setIfInBounds i (tmps.getD i undef) = tmps := by
    apply Array.ext_getElem?
    intro k
    by_cases e : i = k
    · subst e
      simp [hi]
    · rw [Array.getElem?_setIfInBounds_ne e]
  simp only [Act.put, this]

theorem lst_nil {A : Nat → Prop} {es : Nat} {v : Value} (h : TRep w A (.lst true es 0 []) v) : v = .slice none 0 0 := by
  cases h; rfl

/-- A new box that is an empty row of nobody's. -/
theorem stepNil {id : Nat} (hid : s.hp id = none) {v : PV} {val : Value} (hv : VRep w (Aof (addBoxes s.hp [(id, .ar false [])]) (upd β id none) Y) (upd β id none) v val) (hr : ∀ i ∈ refs v, s.hp i ≠ none ∨ i = id) :
    StepR Y β s w v [(id, .ar false [])] val w (upd β id none) := by
  refine ⟨rfl, rfl, rfl, WStep.refl _ _, fun j hj => upd_other _ _ (by rintro rfl; exact hj hid), ?_, ?_, ?_, ?_, ?_, hv, ?_⟩
  · intro j bx hm; simp at hm; rw [hm.2]; trivial
  · intro j bx hm; simp at hm; obtain ⟨rfl, rfl⟩ := hm; exact .inl ⟨upd_same _ _ _, rfl⟩
  · intro j bx k q hm hq; simp at hm; obtain ⟨rfl, rfl⟩ := hm; rw [upd_same] at hq; cases hq
  · intro j bx j' bx' k q q' hm hm' _ _; simp at hm hm'; rw [hm.1, hm'.1]
  · intro j cells hm; simp at hm
  · intro j hj
    rcases hr j hj with h | rfl
    · exact .inl h
    · exact .inr ⟨.ar false [], by simp⟩

theorem nilSlot_sound (h : Sim N w0 X0 Y β s a w) (i : Nat) : ∃ β', Sim N w0 X0 Y β' (nilSlot s i) a w := by
  unfold nilSlot
  split
  · rename_i es ht
    cases hn : (s.hp i).isNone
    · exact ⟨β, h⟩
    · have hn : s.hp i = none := by simpa using hn
      have hlt : i < N := by
        rcases Nat.lt_or_ge i N with h' | h'
        · exact h'
        · rw [h.tmo i h'] at ht; cases ht
      have hv := h.tms i hlt
      rw [ht] at hv
      have hv := lst_nil hv
      have hd : dstOk N (some i) = true := by simp [dstOk, Nat.blt]; omega
      have := h.stepR (d := some i) hd (by simp [absent, hn]) (stepNil (v := .view i es 0 0) (val := .slice none 0 0) hn (.inl ⟨upd_same _ _ _, rfl, rfl, rfl⟩) (by simp [refs, refs1, refsC]))
      rw [← hv, put_self (by rw [h.tsz]; exact hlt)] at this
      exact ⟨_, this⟩
  · exact ⟨β, h⟩

/-- Cells of a variable, told otherwise. -/
theorem Sim.recell (h : Sim N w0 X0 Y β s a w) {id : Nat} {c c' : List PV} (h0 : s.hp id = some (.st c)) (hl : c'.length = c.length)
    (hc : ∀ (j : Nat) p, c'[j]? = some p → ∃ q, c[j]? = some q ∧ (∀ v, CRep w (Aof s.hp β Y) β q v → CRep w (Aof s.hp β Y) β p v) ∧ ∀ i ∈ refsC p, s.hp i ≠ none) :
    Sim N w0 X0 Y β ⟨s.tm, upd s.hp id (some (.st c'))⟩ a w := by
  have hlive : ∀ i, liveB (upd s.hp id (some (.st c')) i) ↔ liveB (s.hp i) := by
    intro i
    by_cases e : i = id
    · subst e; rw [upd_same, h0]; exact Iff.rfl
    · rw [upd_other _ _ e]
  have hX : Xof (upd s.hp id (some (.st c'))) β = Xof s.hp β := by
    funext b
    apply propext
    constructor
    · rintro ⟨i, o, hl, hb⟩; exact ⟨i, o, (hlive i).1 hl, hb⟩
    · rintro ⟨i, o, hl, hb⟩; exact ⟨i, o, (hlive i).2 hl, hb⟩
  have hA : Aof (upd s.hp id (some (.st c'))) β Y = Aof s.hp β Y := by
    funext b; unfold Aof; rw [hX]
  have hne : ∀ i, s.hp i ≠ none → upd s.hp id (some (.st c')) i ≠ none := by
    intro i hi
    by_cases e : i = id
    · subst e; rw [upd_same]; simp
    · rw [upd_other _ _ e]; exact hi
  have hne' : ∀ i, upd s.hp id (some (.st c')) i ≠ none → s.hp i ≠ none := by
    intro i hi
    by_cases e : i = id
    · subst e; rw [h0]; simp
    · rw [upd_other _ _ e] at hi; exact hi
  refine ⟨h.dfr, h.tsz, h.tmo, ?_, ?_, ?_, ?_, ?_, ?_, ?_, ?_, fun i hi => ⟨hne _ (h.pin i hi).1, (h.pin i hi).2⟩, ?_, ?_, h.Ylt, h.fr⟩
  · intro i hi
    show VRep w (Aof (upd s.hp id _) β Y) β _ _
    rw [hA]
    exact h.tms i hi
  · intro i b hb
    show BRep w (Aof (upd s.hp id _) β Y) β i b
    rw [hA]
    by_cases e : i = id
    · subst e
      change upd s.hp i (some (.st c')) i = some b at hb
      rw [upd_same] at hb
      cases hb
      obtain ⟨b, o, h1, h2, h3⟩ := h.box i _ h0
      refine ⟨b, o, h1, fun j p hj => ?_, fun j hj => h3 j (by rw [← hl]; exact hj)⟩
      obtain ⟨q, hq, hqp, _⟩ := hc j p hj
      obtain ⟨v, hv, hr⟩ := h2 j q hq
      exact ⟨v, hv, hqp v hr⟩
    · change upd s.hp id (some (.st c')) i = some b at hb
      rw [upd_other _ _ e] at hb
      exact h.box i b hb
  · intro i i' b o o' hl hl' hb hb'
    exact h.inj i i' b o o' ((hlive i).1 hl) ((hlive i').1 hl') hb hb'
  · intro i b o hn hb
    exact h.blt i b o (hne' i hn) hb
  · intro i hi j hj
    exact hne j (h.wfT i hi j hj)
  · intro i cells hb p hp j hj
    change upd s.hp id (some (.st c')) i = _ at hb
    by_cases e : i = id
    · subst e
      rw [upd_same] at hb
      cases hb
      obtain ⟨k, hk⟩ := List.mem_iff_getElem?.1 hp
      obtain ⟨_, _, _, hr⟩ := hc k p hk
      exact hne j (hr j hj)
    · rw [upd_other _ _ e] at hb
      exact hne j (h.wfB i cells hb p hp j hj)
  · intro b hb
    exact h.ownd b (by rw [← hX]; exact hb)
  · intro i bx b o hb hlb hβ hlt j hj
    change upd s.hp id (some (.st c')) i = some bx at hb
    by_cases e : i = id
    · subst e
      rw [upd_same] at hb
      cases hb
      exact h.rngB i _ b o h0 trivial hβ hlt j (by unfold BR at hj ⊢; simp only [hl] at hj; exact hj)
    · rw [upd_other _ _ e] at hb
      exact h.rngB i bx b o hb hlb hβ hlt j hj
  · intro i c1 b o hb hβ hlt
    change upd s.hp id (some (.st c')) i = _ at hb
    by_cases e : i = id
    · subst e
      exact h.stp i c b o h0 hβ hlt
    · rw [upd_other _ _ e] at hb
      exact h.stp i c1 b o hb hβ hlt
  · intro b hY hb
    exact h.Yx b hY (by rw [← hX]; exact hb)

theorem nilCell_sound (h : Sim N w0 X0 Y β s a w) (id j : Nat) : ∃ β', Sim N w0 X0 Y β' (nilCell N id s j) a w := by
  unfold nilCell
  split
  · rename_i c h0
    split
    · rename_i es hj
      cases hn : (s.hp (id + N * (j + 1))).isNone
      · exact ⟨β, h⟩
      · have hn : s.hp (id + N * (j + 1)) = none := by simpa using hn
        have hne : id ≠ id + N * (j + 1) := by
          intro e
          rw [← e, h0] at hn
          cases hn
        have h1 := h.stepR (d := none) (v := .top) (val := undef) rfl (by simp [absent, hn]) (stepNil hn (.top _) (by simp [refs, refs1, refsC]))
        change Sim N w0 X0 Y (upd β (id + N * (j + 1)) none) ⟨s.tm, upd s.hp (id + N * (j + 1)) (some (.ar false []))⟩ a w at h1
        have h2 := h1.recell (id := id) (c := c) (c' := c.set j (.view (id + N * (j + 1)) es 0 0)) (by show upd _ _ _ _ = _; rw [upd_other _ _ hne]; exact h0) (by simp) (by
          intro k p hp
          by_cases e : k = j
          · subst e
            have hlt : k < c.length := by
              rcases Nat.lt_or_ge k c.length with h' | h'
              · exact h'
              · rw [List.getElem?_eq_none h'] at hj; cases hj
            rw [List.getElem?_set_self hlt] at hp
            cases hp
            refine ⟨_, hj, fun v hv => .inl ⟨upd_same _ _ _, rfl, rfl, lst_nil hv⟩, fun i hi => ?_⟩
            simp [refsC] at hi
            subst hi
            show upd _ _ _ _ ≠ none
            rw [upd_same]
            simp
          · rw [List.getElem?_set_ne (fun h => e h.symm)] at hp
            refine ⟨p, hp, fun _ hv => hv, fun i hi => ?_⟩
            have := h.wfB id c h0 p (List.mem_of_getElem? hp) i hi
            show upd _ _ _ _ ≠ none
            by_cases e' : i = id + N * (j + 1)
            · subst e'; rw [upd_same]; simp
            · rw [upd_other _ _ e']; exact this)
        refine ⟨upd β (id + N * (j + 1)) none, ?_⟩
        have e3 : upd (upd s.hp (id + N * (j + 1)) (some (.ar false []))) id (some (.st (c.set j (.view (id + N * (j + 1)) es 0 0)))) = upd (upd s.hp id (some (.st (c.set j (.view (id + N * (j + 1)) es 0 0))))) (id + N * (j + 1)) (some (.ar false [])) := upd_comm _ _ _ (fun h => hne h.symm)
        change Sim N w0 X0 Y (upd β (id + N * (j + 1)) none) ⟨s.tm, upd (upd s.hp (id + N * (j + 1)) (some (.ar false []))) id (some (.st (c.set j (.view (id + N * (j + 1)) es 0 0))))⟩ a w at h2
        rw [e3] at h2
        exact h2
    · exact ⟨β, h⟩
  · exact ⟨β, h⟩

theorem foldl_sound {f : St → Nat → St} (hf : ∀ s β, Sim N w0 X0 Y β s a w → ∀ i, ∃ β', Sim N w0 X0 Y β' (f s i) a w) : ∀ (l : List Nat) {s : St} {β : Bt}, Sim N w0 X0 Y β s a w → ∃ β', Sim N w0 X0 Y β' (l.foldl f s) a w
  | [], _, β, h => ⟨β, h⟩
  | i :: l, s, β, h => by
    obtain ⟨β1, h1⟩ := hf s β h i
    exact foldl_sound hf l h1

theorem nilBox_sound (h : Sim N w0 X0 Y β s a w) (i : Nat) : ∃ β', Sim N w0 X0 Y β' (nilBox N s i) a w := by
  unfold nilBox
  split
  · split
    · exact foldl_sound (fun s β h i => nilCell_sound h _ i) _ h
    · exact ⟨β, h⟩
  · exact ⟨β, h⟩

/- New names. -/
theorem nodup_snd : ∀ {m : List (Nat × Nat)}, nodupB (m.map (·.2)) = true → ∀ {i i' j : Nat}, (i, j) ∈ m → (i', j) ∈ m → i = i'
  | [], _, _, _, _, h, _ => by simp at h
  | (x, y) :: m, hn, i, i', j, h, h' => by
    simp only [List.map_cons, nodupB, Bool.and_eq_true, Bool.not_eq_true'] at hn
    have hy : ∀ k, (k, y) ∉ m := by
      intro k hk
      exact any_beq hn.1 (List.mem_map.2 ⟨(k, y), hk, rfl⟩)
    rcases List.mem_cons.1 h with e | h
    · cases e
      rcases List.mem_cons.1 h' with e | h'
      · cases e; rfl
      · exact absurd h' (hy _)
    · rcases List.mem_cons.1 h' with e | h'
      · cases e; exact absurd h (hy _)
      · exact nodup_snd hn.2 h h'
theorem nodup_fst : ∀ {m : List (Nat × Nat)}, nodupB (m.map (·.1)) = true → ∀ {i j j' : Nat}, (i, j) ∈ m → (i, j') ∈ m → j = j'
  | [], _, _, _, _, h, _ => by simp at h
  | (x, y) :: m, hn, i, j, j', h, h' => by
    simp only [List.map_cons, nodupB, Bool.and_eq_true, Bool.not_eq_true'] at hn
    have hx : ∀ k, (x, k) ∉ m := by
      intro k hk
      exact any_beq hn.1 (List.mem_map.2 ⟨(x, k), hk, rfl⟩)
    rcases List.mem_cons.1 h with e | h
    · cases e
      rcases List.mem_cons.1 h' with e | h'
      · cases e; rfl
      · exact absurd h' (hx _)
    · rcases List.mem_cons.1 h' with e | h'
      · cases e; exact absurd h (hx _)
      · exact nodup_fst hn.2 h h'

theorem beq_false_ne {i j : Nat} (h : Nat.beq i j = false) : i ≠ j := by rintro rfl; rw [Nat.beq_refl] at h; cases h

theorem lkn_mem : ∀ {m : List (Nat × Nat)} {i j : Nat}, lkn m i = some j → (i, j) ∈ m
  | [], _, _, h => by cases h
  | (x, y) :: m, i, j, h => by
    unfold lkn at h
    cases hb : Nat.beq i x <;> rw [hb] at h
    · exact List.mem_cons_of_mem _ (lkn_mem h)
    · have := Nat.eq_of_beq_eq_true hb
      cases h
      rw [this]
      simp

theorem newHp_mem {m : List (Nat × Nat)} {hp : Nat → Option Box} : ∀ {l : List (Nat × Nat)} {j : Nat} {b : Box}, lkh (newHp m hp l) j = some b → ∃ i b0, (i, j) ∈ l ∧ hp i = some b0 ∧ b = renB m b0
  | [], _, _, h => by cases h
  | (x, y) :: l, j, b, h => by
    unfold newHp at h
    cases hx : hp x with
    | none =>
      rw [hx] at h
      obtain ⟨i, b0, h1, h2⟩ := newHp_mem h
      exact ⟨i, b0, List.mem_cons_of_mem _ h1, h2⟩
    | some bx =>
      rw [hx] at h
      simp only [lkh] at h
      cases hb : Nat.beq j y <;> rw [hb] at h
      · obtain ⟨i, b0, h1, h2⟩ := newHp_mem h
        exact ⟨i, b0, List.mem_cons_of_mem _ h1, h2⟩
      · have := Nat.eq_of_beq_eq_true hb
        subst this
        cases h
        exact ⟨x, bx, by simp, hx, rfl⟩

theorem newHp_some {m : List (Nat × Nat)} {hp : Nat → Option Box} : ∀ {l : List (Nat × Nat)} {i j : Nat}, (i, j) ∈ l → hp i ≠ none → lkh (newHp m hp l) j ≠ none
  | [], _, _, h, _ => by simp at h
  | (x, y) :: l, i, j, h, hi => by
    unfold newHp
    cases hx : hp x with
    | none =>
      rcases List.mem_cons.1 h with e | h
      · cases e; exact absurd hx hi
      · exact newHp_some h hi
    | some bx =>
      simp only [lkh]
      cases hb : Nat.beq j y
      · rcases List.mem_cons.1 h with e | h
        · cases e; exact absurd rfl (beq_false_ne hb)
        · exact newHp_some h hi
      · simp

def lkr (m : List (Nat × Nat)) (j : Nat) : Option Nat :=
  match m with
  | [] => none
  | (x, y) :: r => bif Nat.beq j y then some x else lkr r j

theorem lkr_mem : ∀ {m : List (Nat × Nat)} {i j : Nat}, lkr m j = some i → (i, j) ∈ m
  | [], _, _, h => by cases h
  | (x, y) :: m, i, j, h => by
    unfold lkr at h
    cases hb : Nat.beq j y <;> rw [hb] at h
    · exact List.mem_cons_of_mem _ (lkr_mem h)
    · have := Nat.eq_of_beq_eq_true hb
      cases h
      rw [this]
      simp
theorem lkr_some : ∀ {m : List (Nat × Nat)} {i j : Nat}, (i, j) ∈ m → ∃ k, lkr m j = some k
  | [], _, _, h => by simp at h
  | (x, y) :: m, i, j, h => by
    unfold lkr
    cases hb : Nat.beq j y
    · rcases List.mem_cons.1 h with e | h
      · cases e; exact absurd rfl (beq_false_ne hb)
      · exact lkr_some h
    · exact ⟨x, rfl⟩

theorem lk_map {f : Nat → PV} : ∀ {l : List Nat} {i : Nat}, lk (l.map fun i => (i, f i)) i = if i ∈ l then f i else .top
  | [], _ => rfl
  | x :: l, i => by
    simp only [List.map_cons, lk]
    cases hb : Nat.beq i x
    · have := beq_false_ne hb
      simp only [cond_false, lk_map, List.mem_cons, this, false_or]
    · have := Nat.eq_of_beq_eq_true hb
      subst this
      simp

theorem bitsOn_lt {m : Nat} : ∀ {n i : Nat}, i ∈ bitsOn m n → i < n
  | 0, _, h => by simp [bitsOn] at h
  | n + 1, i, h => by
    simp only [bitsOn, List.mem_append] at h
    rcases h with h | h
    · have := bitsOn_lt h; omega
    · cases hb : m.testBit n <;> rw [hb] at h
      · simp at h
      · simp at h; omega

theorem rename_sound (h : Sim N w0 X0 Y β s a w) {m : List (Nat × Nat)} (h1 : nodupB (m.map (·.1)) = true) (h2 : nodupB (m.map (·.2)) = true) {ls : List Nat} (hls : ∀ i ∈ ls, i < N) (hpn : ∀ i, X0.pn i → (pinId N i, pinId N i) ∈ m) :
    ∃ β', Sim N w0 X0 Y β' ⟨lk (ls.map fun i => (i, renV m (s.tm i))), lkh (newHp m s.hp m)⟩ a w := by
  refine ⟨fun j => (lkr m j).bind β, ?_⟩
  have hβ : ∀ {i j : Nat}, (i, j) ∈ m → (lkr m j).bind β = β i := by
    intro i j hm
    obtain ⟨k, hk⟩ := lkr_some hm
    rw [hk]
    have := nodup_snd h2 (lkr_mem hk) hm
    subst this
    rfl
  have hold : ∀ {j : Nat} {b : Box}, lkh (newHp m s.hp m) j = some b → ∃ i b0, (i, j) ∈ m ∧ s.hp i = some b0 ∧ b = renB m b0 ∧ (lkr m j).bind β = β i := by
    intro j b hb
    obtain ⟨i, b0, hm, h3, h4⟩ := newHp_mem hb
    exact ⟨i, b0, hm, h3, h4, hβ hm⟩
  have hlive : ∀ {j : Nat}, liveB (lkh (newHp m s.hp m) j) → ∃ i, (i, j) ∈ m ∧ liveB (s.hp i) ∧ (lkr m j).bind β = β i := by
    intro j hl
    cases hb : lkh (newHp m s.hp m) j with
    | none => rw [hb] at hl; exact hl.elim
    | some b =>
      obtain ⟨i, b0, hm, h3, rfl, h5⟩ := hold hb
      refine ⟨i, hm, ?_, h5⟩
      rw [hb] at hl
      rw [h3]
      cases b0 <;> exact hl
  have hX : ∀ b, Xof (lkh (newHp m s.hp m)) (fun j => (lkr m j).bind β) b → Xof s.hp β b := by
    rintro b ⟨j, o, hl, hb⟩
    obtain ⟨i, _, hl', e⟩ := hlive hl
    exact ⟨i, o, hl', by rw [← e]; exact hb⟩
  have hA : ∀ b, Aof (lkh (newHp m s.hp m)) (fun j => (lkr m j).bind β) Y b → Aof s.hp β Y b := fun b hb => hb.imp (hX b) id
  have hC : ∀ p v, CRep w (Aof s.hp β Y) β p v → CRep w (Aof (lkh (newHp m s.hp m)) (fun j => (lkr m j).bind β) Y) (fun j => (lkr m j).bind β) (renC m p) v := by
    intro p v hp
    cases p with
    | view id es off n =>
      show CRep _ _ _ (match lkn m id with | some j => .view j es off n | none => .top) v
      cases hj : lkn m id with
      | some j =>
        have e := hβ (lkn_mem hj)
        rcases hp with ⟨e1, e2⟩ | ⟨b, o, x, cap, e1, e2⟩
        · exact .inl ⟨by show (lkr m j).bind β = none; rw [e]; exact e1, e2⟩
        · exact .inr ⟨b, o, x, cap, by show (lkr m j).bind β = _; rw [e]; exact e1, e2⟩
      | none => exact TRep.top _
    | ptr id off =>
      show CRep _ _ _ (match lkn m id with | some j => .ptr j off | none => .top) v
      cases hj : lkn m id with
      | some j =>
        have e := hβ (lkn_mem hj)
        obtain ⟨b, o, e1, e2⟩ := hp
        exact ⟨b, o, by show (lkr m j).bind β = _; rw [e]; exact e1, e2⟩
      | none => exact TRep.top _
    | sc v => exact TRep.step (WStep.refl _ _) (fun b _ => hA b) hp
    | lst z es n c => exact TRep.step (WStep.refl _ _) (fun b _ => hA b) hp
    | iptr c off => exact CRep.step (p := .iptr c off) (WStep.refl _ _) (fun b _ => hA b) (by simp [refsC]) hp
    | _ => exact TRep.top _
  have hV : ∀ p v, VRep w (Aof s.hp β Y) β p v → VRep w (Aof (lkh (newHp m s.hp m)) (fun j => (lkr m j).bind β) Y) (fun j => (lkr m j).bind β) (renV m p) v := by
    intro p v hp
    cases p with
    | agg c =>
      obtain ⟨vs, e1, e2⟩ := hp
      refine ⟨vs, e1, All2.of_at (by simp; exact e2.len) fun i q u hq hu => ?_⟩
      rw [List.getElem?_map] at hq
      cases hc : c[i]? with
      | none => rw [hc] at hq; cases hq
      | some q0 =>
        rw [hc] at hq
        cases hq
        exact hC _ _ (e2.at_ hc hu)
    | view id es off n =>
      have := hC (.view id es off n) v hp
      change CRep _ _ _ (match lkn m id with | some j => .view j es off n | none => .top) v at this
      show VRep _ _ _ (match lkn m id with | some j => .view j es off n | none => .top) v
      cases hj : lkn m id <;> rw [hj] at this <;> exact this
    | ptr id off =>
      have := hC (.ptr id off) v hp
      change CRep _ _ _ (match lkn m id with | some j => .ptr j off | none => .top) v at this
      show VRep _ _ _ (match lkn m id with | some j => .ptr j off | none => .top) v
      cases hj : lkn m id <;> rw [hj] at this <;> exact this
    | sc v' => exact hC (.sc v') v hp
    | lst z es n c => exact hC (.lst z es n c) v hp
    | iptr c off => exact hC (.iptr c off) v hp
    | _ => exact TRep.top _
  have hrC : ∀ p i, i ∈ refsC (renC m p) → ∃ k ∈ refsC p, (k, i) ∈ m := by
    intro p i hi
    cases p with
    | view id es off n =>
      change i ∈ refsC (match lkn m id with | some j => .view j es off n | none => .top) at hi
      cases hj : lkn m id <;> rw [hj] at hi
      · simp [refsC] at hi
      · simp [refsC] at hi
        subst hi
        exact ⟨id, by simp [refsC], lkn_mem hj⟩
    | ptr id off =>
      change i ∈ refsC (match lkn m id with | some j => .ptr j off | none => .top) at hi
      cases hj : lkn m id <;> rw [hj] at hi
      · simp [refsC] at hi
      · simp [refsC] at hi
        subst hi
        exact ⟨id, by simp [refsC], lkn_mem hj⟩
    | _ => simp [renC, refsC] at hi
  have hrV : ∀ p i, i ∈ refs (renV m p) → ∃ k ∈ refs p, (k, i) ∈ m := by
    intro p i hi
    cases p with
    | agg c =>
      simp only [renV, refs, refs1, List.mem_flatMap, List.mem_map] at hi
      obtain ⟨_, ⟨q, hq, rfl⟩, hi⟩ := hi
      obtain ⟨k, hk, hm⟩ := hrC q i hi
      exact ⟨k, by simp only [refs, refs1, List.mem_flatMap]; exact ⟨q, hq, hk⟩, hm⟩
    | view id es off n =>
      refine (hrC (.view id es off n) i ?_).imp fun k hk => hk
      change i ∈ refs (match lkn m id with | some j => .view j es off n | none => .top) at hi
      show i ∈ refsC (match lkn m id with | some j => .view j es off n | none => .top)
      cases hj : lkn m id <;> rw [hj] at hi <;> exact hi
    | ptr id off =>
      refine (hrC (.ptr id off) i ?_).imp fun k hk => hk
      change i ∈ refs (match lkn m id with | some j => .ptr j off | none => .top) at hi
      show i ∈ refsC (match lkn m id with | some j => .ptr j off | none => .top)
      cases hj : lkn m id <;> rw [hj] at hi <;> exact hi
    | _ => simp [renV, renC, refs, refs1, refsC] at hi
  refine ⟨h.dfr, h.tsz, ?_, ?_, ?_, ?_, ?_, ?_, ?_, ?_, ?_, ?_, ?_, ?_, h.Ylt, h.fr⟩
  · intro i hi
    show lk _ i = _
    rw [lk_map, if_neg (fun hm => by have := hls i hm; omega)]
  · intro i hi
    show VRep w _ _ (lk _ i) _
    rw [lk_map]
    split
    · exact hV _ _ (h.tms i hi)
    · exact TRep.top _
  · intro j b hb
    obtain ⟨i, b0, hm, h3, rfl, e⟩ := hold hb
    have hbx := h.box i b0 h3
    cases b0 with
    | st c =>
      obtain ⟨b, o, e1, e2, e3⟩ := hbx
      refine ⟨b, o, by show (lkr m j).bind β = _; rw [e]; exact e1, fun k p hp => ?_, fun k hk => e3 k (by simpa using hk)⟩
      rw [List.getElem?_map] at hp
      cases hc : c[k]? with
      | none => rw [hc] at hp; cases hp
      | some q =>
        rw [hc] at hp
        cases hp
        obtain ⟨v, hv, hr⟩ := e2 k q hc
        exact ⟨v, hv, hC _ _ hr⟩
    | ar fz c =>
      have := BRep.step' hA hbx
      show BRep _ _ _ _ (.ar fz c)
      rcases this with ⟨e1, e2⟩ | ⟨b, o, e1, e2⟩
      · exact .inl ⟨by show (lkr m j).bind β = _; rw [e]; exact e1, e2⟩
      · exact .inr ⟨b, o, by show (lkr m j).bind β = _; rw [e]; exact e1, e2⟩
    | mv => exact trivial
  · intro j j' b o o' hl hl' hb hb'
    obtain ⟨i, hm, hl1, e⟩ := hlive hl
    obtain ⟨i', hm', hl1', e'⟩ := hlive hl'
    have := h.inj i i' b o o' hl1 hl1' (by rw [← e]; exact hb) (by rw [← e']; exact hb')
    subst this
    exact nodup_fst h1 hm hm'
  · intro j b o hn hb
    cases hj : lkh (newHp m s.hp m) j with
    | none => exact absurd hj hn
    | some bx =>
      obtain ⟨i, b0, _, h3, _, e⟩ := hold hj
      exact h.blt i b o (by rw [h3]; simp) (by rw [← e]; exact hb)
  · intro i hi j hj
    change j ∈ refs (lk _ i) at hj
    rw [lk_map] at hj
    split at hj
    · obtain ⟨k, hk, hm⟩ := hrV _ j hj
      exact newHp_some hm (h.wfT i hi k hk)
    · simp [refs, refs1, refsC] at hj
  · intro j cells hb p hp k hk
    obtain ⟨i, b0, _, h3, h4, _⟩ := hold hb
    cases b0 with
    | st c =>
      cases h4
      obtain ⟨q, hq, rfl⟩ := List.mem_map.1 hp
      obtain ⟨k', hk', hm⟩ := hrC q k hk
      exact newHp_some hm (h.wfB i c h3 q hq k' hk')
    | ar fz c => cases h4
    | mv => cases h4
  · intro b hb
    exact h.ownd b (hX b hb)
  · intro j bx b o hb hlb hβ1 hlt k hk
    obtain ⟨i, b0, _, h3, h4, e⟩ := hold hb
    subst h4
    refine h.rngB i b0 b o h3 ?_ (by rw [← e]; exact hβ1) hlt k ?_
    · cases b0 <;> exact hlb
    · cases b0 with
      | st c => simpa [BR, renB] using hk
      | ar fz c => exact hk
      | mv => exact hk
  · intro i hi
    exact ⟨newHp_some (hpn i hi) (h.pin i hi).1, (hβ (hpn i hi)).trans (h.pin i hi).2⟩
  · intro j c b o hb hβ1 hlt
    obtain ⟨i, b0, hm, h3, h4, e⟩ := hold hb
    cases b0 with
    | st c0 =>
      obtain ⟨k, rfl, hk⟩ := h.stp i c0 b o h3 (by rw [← e]; exact hβ1) hlt
      exact ⟨k, nodup_fst h1 hm (hpn k hk), hk⟩
    | ar fz c0 => cases h4
    | mv => cases h4
  · intro b hY hb
    exact h.Yx b hY (hX b hb)

theorem addId_mem {m : List (Nat × Nat)} {q : Nat × Nat} {o n : Nat} (h : q ∈ m) : q ∈ addId m o n := by
  unfold addId
  split
  · exact h
  · exact List.mem_append.2 (.inl h)

theorem cellIds_mem {q : Nat × Nat} {new : Nat} : ∀ {c : List PV} {j : Nat} {m : List (Nat × Nat)}, q ∈ m → q ∈ cellIds N new c j m
  | [], _, _, h => h
  | p :: c, j, m, h => by
    unfold cellIds
    split
    · rename_i e; cases e
    · rename_i e; cases e; exact cellIds_mem (addId_mem h)
    · rename_i e; cases e; exact cellIds_mem h

theorem namesOf_mem {q : Nat × Nat} {m : List (Nat × Nat)} {i : Nat} (h : q ∈ m) : q ∈ namesOf N s m i := by
  unfold namesOf
  split
  · exact addId_mem h
  · split
    · exact h
    · split
      · exact cellIds_mem (addId_mem h)
      · exact addId_mem h
  · exact cellIds_mem h
  · exact h

theorem namesOf_fold {q : Nat × Nat} : ∀ {l : List Nat} {m : List (Nat × Nat)}, q ∈ m → q ∈ l.foldl (namesOf N s) m
  | [], _, h => h
  | _ :: l, _, h => namesOf_fold (l := l) (namesOf_mem h)

theorem pinCells_mem {q : Nat × Nat} {m : List (Nat × Nat)} (h : q ∈ m) : ∀ k, q ∈ pinCells N s.hp k m
  | 0 => h
  | k + 1 => by
    unfold pinCells
    split
    · exact cellIds_mem (pinCells_mem h k)
    · exact pinCells_mem h k

theorem pins0_mem : ∀ {k i : Nat}, i < k → s.hp (pinId N i) ≠ none → (pinId N i, pinId N i) ∈ pins0 N s.hp k
  | 0, _, h, _ => by omega
  | k + 1, i, h, hn => by
    unfold pins0
    by_cases e : i = k
    · subst e
      have : (s.hp (pinId N i)).isSome = true := by
        cases hq : s.hp (pinId N i) with
        | none => exact absurd hq hn
        | some b => rfl
      rw [this]
      simp
    · have := pins0_mem (k := k) (i := i) (by omega) hn
      cases (s.hp (pinId N k)).isSome
      · exact this
      · exact List.mem_append.2 (.inl this)

theorem normK_sound (h : Sim N w0 X0 Y β s a w) {L : Nat} {K : St → Option R} (hk : normK N L s K = some r) : ∃ β' s', K s' = some r ∧ Sim N w0 X0 Y β' s' a w := by
  unfold normK normL at hk
  obtain ⟨hb, hk1⟩ := chk_inv hk
  simp only [Bool.and_eq_true] at hb
  obtain ⟨β1, h1⟩ := foldl_sound (fun s β h i => nilSlot_sound h i) (bitsOn L N) h
  obtain ⟨β2, h2⟩ := foldl_sound (fun s β h i => nilBox_sound h i) (bitsOn L N) h1
  obtain ⟨β3, h3⟩ := rename_sound h2 hb.1 hb.2 (ls := bitsOn L N) (fun i hi => bitsOn_lt hi) (fun i hi => namesOf_fold (pinCells_mem (pins0_mem (X0.p8 i hi) (h2.pin i hi).1) 8))
  exact ⟨β3, _, hk1, h3⟩
end

end Go.Proofs.Ytaphhfehcbkfkaa.Pv

namespace Go.Proofs.Ytaphhfehcbkfkaa.Pv
open Go.RowKit

section
variable {R : Type} {r : R} {P : Program} {N : Nat} {w0 : World} {X0 : Lend} {Y : Nat → Prop} {C : Cfg} {call : Call'}

theorem bothK_inv {x y : Option R} (h : bothK x y = some r) : x = some r ∧ y = some r := by
  unfold bothK at h
  split at h
  · rename_i e; exact ⟨h, e ▸ h⟩
  · cases h

theorem condK_sound {β : Bt} {s : St} {a : Act} {w : World} (h : Sim N w0 X0 Y β s a w) {c : Operand} {kt kf : St → Option R} (hk : condK s c kt kf = some r) : (a.eval c = .bool true ∧ kt s = some r) ∨ (a.eval c = .bool false ∧ kf s = some r) := by
  unfold condK at hk
  split at hk
  · rename_i d
    split at hk
    · rename_i b ht
      have hv : a.eval (.tmp d) = .bool b := opv_sc h (x := .tmp d) ht
      cases b
      · change kf ⟨upd s.tm d (.sc (.bool false)), s.hp⟩ = some r at hk
        rw [upd_self s.tm ht] at hk
        exact .inr ⟨hv, hk⟩
      · change kt ⟨upd s.tm d (.sc (.bool true)), s.hp⟩ = some r at hk
        rw [upd_self s.tm ht] at hk
        exact .inl ⟨hv, hk⟩
    · rename_i ht
      have hu := opv_rep h (.tmp d)
      change VRep _ _ _ (s.tm d) _ at hu
      rw [ht] at hu
      have hu' : TRep w _ .ub (a.eval (.tmp d)) := hu
      obtain ⟨b, hv⟩ : ∃ b, a.eval (.tmp d) = .bool b := by
        generalize a.eval (.tmp d) = x at hu'
        cases hu' with
        | ub b => exact ⟨b, rfl⟩
      obtain ⟨h1, h2⟩ := bothK_inv hk
      cases b
      · exact .inr ⟨hv, h2⟩
      · exact .inl ⟨hv, h1⟩
    · cases hk
  · exact .inl ⟨rfl, hk⟩
  · exact .inr ⟨rfl, hk⟩
  · cases hk

theorem iter_sound {c : Code} {Q : Exit → Act → World → Prop} {F : (St → Option R) → St → Option R} {nm : St → (St → Option R) → Option R}
    (hnm : ∀ {β s a w} {K : St → Option R}, Sim N w0 X0 Y β s a w → nm s K = some r → ∃ β' s', K s' = some r ∧ Sim N w0 X0 Y β' s' a w)
    (hF : ∀ {β s a w} {K : St → Option R} {Q' : Act → World → Prop}, Sim N w0 X0 Y β s a w → F K s = some r → (∀ s' a' w' β', K s' = some r → Sim N w0 X0 Y β' s' a' w' → Q' a' w') → c.wp P (Exit.then Q' Q) a w) :
    ∀ (n : Nat) {β s a w}, Sim N w0 X0 Y β s a w → iter F nm n s = some r → Code.rounds P c Q n a w
  | 0, _, _, _, _, _, hk => by cases hk
  | n + 1, β, s, a, w, h, hk => by
    rw [rounds_succ]
    refine hF h hk fun s' a' w' β' hk' h' => ?_
    obtain ⟨β1, s1, hk1, h1⟩ := hnm h' hk'
    exact iter_sound hnm hF n h1 hk1

theorem pevK_sound {G : Glo} (hNG : Env P G w0 X0) (hcall : ∀ f args res, call f args = some res → SoundC G P f args res) (hm : P.follows .mixedOrders = true) {fu : Nat} :
    ∀ (c : Code) {ln : Nat} {lx : Nat → Nat} {lr : Nat} {kn : St → Option R} {kx : Nat → St → Option R} {kr : St → Option R} {β : Bt} {s : St} {a : Act} {w : World} {Q : Exit → Act → World → Prop}, Sim N w0 X0 Y β s a w →
      pevK C P fu N call c ln lx lr kn kx kr s = some r → (∀ s' a' w' β', kn s' = some r → Sim N w0 X0 Y β' s' a' w' → Q .normal a' w') →
      (∀ id s' a' w' β', kx id s' = some r → Sim N w0 X0 Y β' s' a' w' → Q (.exit id) a' w') → (∀ s' a' w' β', kr s' = some r → Sim N w0 X0 Y β' s' a' w' → Q .ret a' w') → c.wp P Q a w := by
  intro c
  induction c with
  | skip => intro ln lx lr kn kx kr β s a w Q h hk hn hx hr; exact wp_skip (hn s a w β hk h)
  | region id ops draw =>
    intro ln lx lr kn kx kr β s a w Q h hk hn hx hr
    unfold pevK at hk
    cases draw
    · unfold selK at hk
      exact region_plain h hNG hcall hk hn
    · unfold selK statK at hk
      cases hb : regOk C P ops <;> rw [hb] at hk
      · obtain ⟨hb', hk1⟩ := chk_inv (show chk _ _ = some r from hk)
        exact region_soft h hNG hcall hm hb' hk1 hn
      · exact region_drawn h hNG hcall hm hb hk hn
  | seq c1 c2 ih1 ih2 =>
    intro ln lx lr kn kx kr β s a w Q h hk hn hx hr
    unfold pevK at hk
    refine wp_seq (ih1 h hk (fun s' a' w' β' hk' h' => ih2 h' hk' hn hx hr) (fun id s' a' w' β' hk' h' => hx id s' a' w' β' hk' h') (fun s' a' w' β' hk' h' => hr s' a' w' β' hk' h'))
  | cond c c1 c2 ih1 ih2 =>
    intro ln lx lr kn kx kr β s a w Q h hk hn hx hr
    unfold pevK at hk
    rcases condK_sound h hk with ⟨hc, hk1⟩ | ⟨hc, hk1⟩
    · exact wp_cond_true hc (ih1 h hk1 hn hx hr)
    · exact wp_cond_false hc (ih2 h hk1 hn hx hr)
  | block id c ih =>
    intro ln lx lr kn kx kr β s a w Q h hk hn hx hr
    unfold pevK at hk
    refine wp_block (ih h hk (fun s' a' w' β' hk' h' => hn s' a' w' β' hk' h') (fun j s' a' w' β' hk' h' => ?_) (fun s' a' w' β' hk' h' => hr s' a' w' β' hk' h'))
    show (if j = id then _ else _)
    by_cases e : j = id
    · subst e
      rw [if_pos rfl]
      rw [Nat.beq_refl] at hk'
      exact hn s' a' w' β' hk' h'
    · rw [if_neg e]
      have : Nat.beq j id = false := by
        cases hb : Nat.beq j id
        · rfl
        · exact absurd (Nat.eq_of_beq_eq_true hb) e
      rw [this] at hk'
      exact hx j s' a' w' β' hk' h'
  | loop c ih =>
    intro ln lx lr kn kx kr β s a w Q h hk hn hx hr
    unfold pevK at hk
    obtain ⟨β1, s1, hk1, h1⟩ := normK_sound h hk
    refine wp_loop_rounds fu (iter_sound (fun h hk => normK_sound h hk) (fun h hk hQ => ?_) fu h1 hk1)
    exact ih h hk hQ (fun id s' a' w' β' hk' h' => hx id s' a' w' β' hk' h') (fun s' a' w' β' hk' h' => hr s' a' w' β' hk' h')
  | «exit» id => intro ln lx lr kn kx kr β s a w Q h hk hn hx hr; exact wp_exit (hx id s a w β hk h)
  | ret => intro ln lx lr kn kx kr β s a w Q h hk hn hx hr; exact wp_ret (hr s a w β hk h)
  | _ => intro ln lx lr kn kx kr β s a w Q h hk hn hx hr; cases hk
end

end Go.Proofs.Ytaphhfehcbkfkaa.Pv

namespace Go.Proofs.Ytaphhfehcbkfkaa.Pv
open Go.RowKit

theorem lkh_mem : ∀ {l : List (Nat × Box)} {i : Nat} {b : Box}, lkh l i = some b → (i, b) ∈ l
  | [], _, _, h => by cases h
  | (j, c) :: l, i, b, h => by
    unfold lkh at h
    cases hb : Nat.beq i j <;> rw [hb] at h
    · exact List.mem_cons_of_mem _ (lkh_mem h)
    · have := Nat.eq_of_beq_eq_true hb
      cases h
      rw [this]
      simp

theorem lkh_of : ∀ {l : List (Nat × Box)}, (l.map (·.1)).Nodup → ∀ {i b}, (i, b) ∈ l → lkh l i = some b
  | [], _, _, _, h => by cases h
  | (j, c) :: l, hn, i, b, h => by
    simp only [List.map_cons, List.nodup_cons] at hn
    unfold lkh
    rcases List.mem_cons.1 h with e | h
    · cases e
      simp only [Nat.beq_refl, cond_true]
    · have : Nat.beq i j = false := by
        cases hb : Nat.beq i j
        · rfl
        · exact absurd (Nat.eq_of_beq_eq_true hb ▸ List.mem_map.2 ⟨_, h, rfl⟩) hn.1
      simp only [this, cond_false]
      exact lkh_of hn.2 h

section
variable {R : Type} {r : R} {P : Program} {N : Nat} {w0 : World} {X0 : Lend} {Y : Nat → Prop} {β β' : Bt} {s : St} {a : Act} {w w' : World} {A : Nat → Prop}

theorem incK_inv {id : Nat} {t : CT} {p : PV} {K : PV → List (Nat × Box) → Option R} (hk : incK id t p K = some r) :
    (∃ c, K c [] = some r ∧ isT c ∧ ∀ w A q u, OCell w A q p u → TRep w A c u) ∨ ∃ es n cc, p = .own es n cc ∧ K (.view id es 0 n) [(id, .ar false cc)] = some r := by
  have tree : ∀ t', (tcK t' p fun c => K c []) = some r → ∃ c, K c [] = some r ∧ isT c ∧ ∀ w A q u, OCell w A q p u → TRep w A c u := by
    intro t' hk
    obtain ⟨c, hk, hT, hpT, hv⟩ := tcK_inv hk
    refine ⟨c, hk, hT, fun w A q u h => (hv w A (fun _ => none) u ?_).1⟩
    cases p <;> first | exact h | exact hpT.elim
  unfold incK at hk
  cases t with
  | sl es =>
    dsimp only at hk
    split at hk
    · rename_i es' n c
      cases hb : Nat.beq es' es <;> rw [hb] at hk
      · cases hk
      · have := Nat.eq_of_beq_eq_true hb
        subst this
        exact .inr ⟨_, _, _, rfl, hk⟩
    · exact .inl (tree (.sl es) hk)
  | int k => exact .inl (tree _ hk)
  | bool => exact .inl (tree _ hk)
  | str => exact .inl (tree _ hk)
  | any => exact .inl (tree _ hk)

/-- Cells that come in. -/
theorem incsK_inv : ∀ {ts : List CT} {id : Nat} {ps : List PV} {K : List PV → List (Nat × Box) → Option R}, incsK N id ts ps K = some r →
    ∃ cs bs, ∃ qs : List (Nat × Nat), K cs bs = some r ∧ cs.length = ps.length ∧ ps.length = ts.length ∧ bs.map (·.1) = qs.map (·.1) ∧ (∀ q ∈ qs, ∀ q' ∈ qs, q.2 = q'.2 → q.1 = q'.1) ∧
      (∀ i bx, (i, bx) ∈ bs → ∃ c, bx = .ar false c) ∧ (∀ c ∈ cs, isF c) ∧ (∀ c ∈ cs, ∀ i ∈ refsC c, ∃ bx, (i, bx) ∈ bs) ∧
      ∀ (w : World) (A : Nat → Prop) (own β' : Bt) (j0 : Nat) (us : List Value), (∀ q ∈ qs, β' q.1 = own (j0 + q.2)) → OCells w A own j0 ps us → All2 (CRep w A β') cs us ∧ ∀ i bx, (i, bx) ∈ bs → BRep w A β' i bx
  | [], id, ps, K, hk => by
    obtain ⟨rfl, hk⟩ := nilK_inv hk
    refine ⟨[], [], [], hk, rfl, rfl, rfl, by simp, by simp, by simp, by simp, fun w A own β' j0 us _ h => ⟨?_, by simp⟩⟩
    cases us with
    | nil => trivial
    | cons u us => exact h.elim
  | t :: ts, id, ps, K, hk => by
    unfold incsK at hk
    obtain ⟨p, ps', hps, hk1⟩ := consK_inv hk
    subst hps
    rcases incK_inv hk1 with ⟨c, hk2, hT, hv⟩ | ⟨es, n, cc, rfl, hk2⟩
    · obtain ⟨cs, bs, qs, hk3, hl, hl2, hb, hq2, hb1, hF, hb2, hvs⟩ := incsK_inv hk2
      refine ⟨c :: cs, bs, qs.map (fun q => (q.1, q.2 + 1)), hk3, by simp [hl], by simp [hl2], by rw [hb]; simp, ?_, hb1, ?_, ?_, fun w A own β' j0 us hβ ho => ?_⟩
      · intro q hq q' hq' e
        obtain ⟨q0, hq0, rfl⟩ := List.mem_map.1 hq
        obtain ⟨q1, hq1', rfl⟩ := List.mem_map.1 hq'
        exact hq2 q0 hq0 q1 hq1' (by simp only at e; omega)
      · intro y hy
        rcases List.mem_cons.1 hy with rfl | hy
        · exact isF_isT hT
        · exact hF y hy
      · intro y hy i hi
        rcases List.mem_cons.1 hy with rfl | hy
        · rw [refsC_isT hT] at hi; cases hi
        · exact hb2 y hy i hi
      · cases us with
        | nil => exact ho.elim
        | cons u us =>
          obtain ⟨h1, h2⟩ := hvs w A own β' (j0 + 1) us (fun q hq => by rw [hβ _ (List.mem_map_of_mem hq)]; congr 1; simp only; omega) ho.2
          exact ⟨⟨TRep_C (hv w A _ u ho.1), h1⟩, h2⟩
    · obtain ⟨cs, bs, qs, hk3, hl, hl2, hb, hq2, hb1, hF, hb2, hvs⟩ := incsK_inv hk2
      refine ⟨_ :: cs, (id, .ar false cc) :: bs, (id, 0) :: qs.map (fun q => (q.1, q.2 + 1)), hk3, by simp [hl], by simp [hl2], by simp only [List.map_cons, hb]; simp, ?_, ?_, ?_, ?_, fun w A own β' j0 us hβ ho => ?_⟩
      · intro q hq q' hq' e
        rcases List.mem_cons.1 hq with rfl | hq
        · rcases List.mem_cons.1 hq' with rfl | hq'
          · rfl
          · obtain ⟨q0, hq0, rfl⟩ := List.mem_map.1 hq'
            simp only at e; omega
        · obtain ⟨q0, hq0, rfl⟩ := List.mem_map.1 hq
          rcases List.mem_cons.1 hq' with rfl | hq'
          · simp only at e; omega
          · obtain ⟨q1, hq1', rfl⟩ := List.mem_map.1 hq'
            exact hq2 q0 hq0 q1 hq1' (by simp only at e; omega)
      · intro i bx hm
        rcases List.mem_cons.1 hm with e | hm
        · cases e; exact ⟨cc, rfl⟩
        · exact hb1 i bx hm
      · intro y hy
        rcases List.mem_cons.1 hy with rfl | hy
        · trivial
        · exact hF y hy
      · intro y hy i hi
        rcases List.mem_cons.1 hy with rfl | hy
        · simp only [refsC, List.mem_singleton] at hi
          subst hi
          exact ⟨_, List.mem_cons_self⟩
        · obtain ⟨bx, hbx⟩ := hb2 y hy i hi
          exact ⟨bx, List.mem_cons_of_mem _ hbx⟩
      · cases us with
        | nil => exact ho.elim
        | cons u us =>
          obtain ⟨h1, h2⟩ := hvs w A own β' (j0 + 1) us (fun q hq => by rw [hβ _ (List.mem_cons_of_mem _ (List.mem_map_of_mem hq))]; congr 1; simp only; omega) ho.2
          have h0 := hβ (id, 0) List.mem_cons_self
          simp only [Nat.add_zero] at h0
          refine ⟨⟨?_, h1⟩, fun i bx hm => ?_⟩
          · rcases ho.1 with ⟨h3, rfl, _, h5⟩ | ⟨b, ob, cap, h3, h4, h5, h6, h7, _⟩
            · exact .inl ⟨h0.trans h3, rfl, rfl, h5⟩
            · exact .inr ⟨b, ob, ob, cap, h0.trans h3, h4, .inl rfl, h5, h6, h7⟩
          · rcases List.mem_cons.1 hm with e | hm
            · cases e; exact own_brep ho.1 h0
            · exact h2 i bx hm

/-- One argument that comes in. -/
theorem inK_inv {i : Nat} {t : TypeId} {p : PV} {K : PV → List (Nat × Box) → Option R} (hk : inK P N i t p K = some r) :
    ∃ v bs, ∃ qs : List (Nat × Nat), K v bs = some r ∧ bs.map (·.1) = qs.map (·.1) ∧ (∀ q ∈ qs, ∀ q' ∈ qs, q.2 = q'.2 → q.1 = q'.1) ∧ (isL p = true → (pinId N i, 0) ∈ qs ∧ i < 8) ∧
      (∀ id bx, (id, bx) ∈ bs → liveB (some bx) ∧ ∀ c, bx = .st c → id = pinId N i ∧ isL p = true) ∧ (∀ id ∈ refs v, ∃ bx, (id, bx) ∈ bs) ∧ RefsIn bs ∧
      ∀ (w : World) (A : Nat → Prop) (bt β' : Bt) (u : Value), (∀ q ∈ qs, β' q.1 = bt q.2) → PArg w A bt p u → VRep w A β' v u ∧ (∀ id bx, (id, bx) ∈ bs → BRep w A β' id bx) ∧
        ∀ id bx b o, (id, bx) ∈ bs → β' id = some (b, o) → ∀ j, BR bx o j → ArgL bt p b j := by
  -- own cells
  have owns : ∀ {bs : List (Nat × Box)} {qs : List (Nat × Nat)}, bs.map (·.1) = qs.map (·.1) → (∀ i bx, (i, bx) ∈ bs → ∃ c, bx = .ar false c) → ∀ {bt β' : Bt}, (∀ q ∈ qs, β' q.1 = bt (1 + q.2)) → ∀ id bx b o, (id, bx) ∈ bs → β' id = some (b, o) → ∀ j, BR bx o j → ∃ k o', bt (k + 1) = some (b, o') ∧ o' ≤ j := by
    intro bs qs hb hb1 bt β' hβ id bx b o hm hbo j hj
    have : id ∈ qs.map (·.1) := by rw [← hb]; exact List.mem_map.2 ⟨_, hm, rfl⟩
    obtain ⟨q, hq, rfl⟩ := List.mem_map.1 this
    obtain ⟨c, rfl⟩ := hb1 _ _ hm
    rw [hβ q hq, Nat.add_comm] at hbo
    exact ⟨q.2, o, hbo, hj⟩
  have nost : ∀ {bs : List (Nat × Box)}, (∀ i bx, (i, bx) ∈ bs → ∃ c, bx = .ar false c) → RefsIn bs := by
    intro bs hb1 id cells hm
    obtain ⟨c, e⟩ := hb1 id _ hm
    cases e
  unfold inK at hk
  split at hk
  · rename_i e he
    obtain ⟨ps, rfl, hk1⟩ := pboxK_inv hk
    obtain ⟨hi8, hk2⟩ := chk_inv hk1
    have hi8 : i < 8 := Nat.lt_of_succ_le (Nat.le_of_ble_eq_true hi8)
    obtain ⟨cs, bs, qs, hk3, hl, hl2, hb, hq2, hb1, hF, hb2, hv⟩ := incsK_inv hk2
    refine ⟨_, _, (pinId N i, 0) :: qs.map (fun q => (q.1, q.2 + 1)), hk3, by simp only [List.map_cons, hb]; simp, ?_, fun _ => ⟨List.mem_cons_self, hi8⟩, ?_, ?_, ?_, fun w A bt β' u hβ hp => ?_⟩
    · intro q hq q' hq' e
      rcases List.mem_cons.1 hq with rfl | hq
      · rcases List.mem_cons.1 hq' with rfl | hq'
        · rfl
        · obtain ⟨q0, hq0, rfl⟩ := List.mem_map.1 hq'
          simp only at e; omega
      · obtain ⟨q0, hq0, rfl⟩ := List.mem_map.1 hq
        rcases List.mem_cons.1 hq' with rfl | hq'
        · simp only at e; omega
        · obtain ⟨q1, hq1', rfl⟩ := List.mem_map.1 hq'
          exact hq2 q0 hq0 q1 hq1' (by simp only at e; omega)
    · intro id bx hm
      rcases List.mem_cons.1 hm with e | hm
      · cases e; exact ⟨trivial, fun _ _ => ⟨rfl, rfl⟩⟩
      · obtain ⟨c, rfl⟩ := hb1 id bx hm
        exact ⟨trivial, fun _ e => by cases e⟩
    · intro id hid
      simp only [refs, refs1, refsC, List.mem_singleton] at hid
      subst hid
      exact ⟨_, List.mem_cons_self⟩
    · intro id cells hm c hc k hk
      rcases List.mem_cons.1 hm with e | hm
      · cases e
        obtain ⟨bx, hbx⟩ := hb2 c hc k hk
        exact ⟨bx, List.mem_cons_of_mem _ hbx⟩
      · obtain ⟨c, e⟩ := hb1 id _ hm
        cases e
    · obtain ⟨b, o, h1, rfl, _, vs, h3, h4, h5⟩ := hp
      have h0 := hβ (pinId N i, 0) List.mem_cons_self
      simp only at h0
      have hβ1 : ∀ q ∈ qs, β' q.1 = bt (1 + q.2) := fun q hq => by rw [hβ _ (List.mem_cons_of_mem _ (List.mem_map_of_mem hq)), Nat.add_comm]
      obtain ⟨h6, h7⟩ := hv w A bt β' 1 vs hβ1 h3
      refine ⟨⟨b, o, h0.trans h1, by simp⟩, fun id bx hm => ?_, fun id bx b' o' hm hb' j hj => ?_⟩
      · rcases List.mem_cons.1 hm with e | hm
        · cases e
          refine ⟨b, o, h0.trans h1, fun k c hk => ?_, fun k hk => h5 k (by omega)⟩
          obtain ⟨v, hv, hcr⟩ := h6.get hk
          exact ⟨v, h4 k v hv, hcr⟩
        · exact h7 id bx hm
      · rcases List.mem_cons.1 hm with e | hm
        · cases e
          rw [h0] at hb'
          have hj : o' ≤ j ∧ j < o' + cs.length := hj
          exact .inr ⟨o', ps, hb', hj.1, .inl ⟨rfl, by omega⟩⟩
        · exact .inl (owns hb hb1 hβ1 id bx b' o' hm hb' j hj)
  · split at hk
    · rename_i ps
      obtain ⟨e, he, hk1⟩ := optK_inv hk
      obtain ⟨hi8, hk2⟩ := chk_inv hk1
      have hi8 : i < 8 := Nat.lt_of_succ_le (Nat.le_of_ble_eq_true hi8)
      obtain ⟨q, qr, hq, hk3⟩ := consK_inv hk2
      subst hq
      obtain ⟨hnil, hk4⟩ := nilK_inv hk3
      subst hnil
      unfold owK at hk4
      split at hk4
      · rename_i es' n c
        cases hb : Nat.beq es' (szOf P e) <;> rw [hb] at hk4
        · cases hk4
        · have hes := Nat.eq_of_beq_eq_true hb
          subst hes
          refine ⟨_, _, [(pinId N i, 0)], hk4, rfl, by simp, fun _ => ⟨by simp, hi8⟩, ?_, ?_, ?_, fun w A bt β' u hβ hp => ?_⟩
          · intro id bx hm
            simp only [List.mem_singleton] at hm
            cases hm
            exact ⟨trivial, fun _ e => by cases e⟩
          · intro id hid
            simp only [refs, refs1, refsC, List.mem_singleton] at hid
            subst hid
            exact ⟨_, List.mem_cons_self⟩
          · intro id cells hm
            simp only [List.mem_singleton] at hm
            cases hm
          · obtain ⟨es, n', c', h1, h2⟩ := hp
            cases h1
            have h0 := hβ (pinId N i, 0) List.mem_cons_self
            simp only at h0
            refine ⟨?_, fun id bx hm => ?_, fun id bx b' o' hm hb' j hj => ?_⟩
            · rcases h2 with ⟨h3, rfl, _, h5⟩ | ⟨b, ob, cap, h3, h4, h5, h6, h7, _⟩
              · exact .inl ⟨h0.trans h3, rfl, rfl, h5⟩
              · exact .inr ⟨b, ob, ob, cap, h0.trans h3, h4, .inl rfl, h5, h6, h7⟩
            · simp only [List.mem_singleton] at hm
              cases hm
              exact own_brep h2 h0
            · simp only [List.mem_singleton] at hm
              cases hm
              rw [h0] at hb'
              exact .inr ⟨o', _, hb', hj, .inr rfl⟩
      · cases hk4
    · rename_i hnt
      cases hagg : isAggB P t <;> rw [hagg] at hk
      · simp only [cond_false] at hk
        obtain ⟨cs, bs, qs, hk3, hl, hl2, hb, hq2, hb1, hF, hb2, hv⟩ := incsK_inv hk
        obtain ⟨c, cs', hcs, hk4⟩ := consK_inv hk3
        subst hcs
        obtain ⟨hnil, hk5⟩ := nilK_inv hk4
        subst hnil
        have hFc := hF c (by simp)
        have hnL : isL p = false ∨ ∃ ps, p = .pbox ps := by
          cases p <;> first | exact .inl rfl | exact .inr ⟨_, rfl⟩ | exact absurd rfl (hnt _)
        have hpb : ∀ ps, p ≠ .pbox ps := by
          rintro ps rfl
          cases hts : cty P t with
          | nil => rw [hts] at hl2; simp at hl2
          | cons t' ts =>
            rw [hts] at hk
            unfold incsK incK at hk
            obtain ⟨q, qs1, hq, hk1⟩ := consK_inv hk
            cases hq
            cases t' <;> simp [tcK, lsK, intK, boolK, strK, fnK] at hk1
        have hpa : ∀ ps, p ≠ .agg ps := by
          rintro ps rfl
          cases hts : cty P t with
          | nil => rw [hts] at hl2; simp at hl2
          | cons t' ts =>
            rw [hts] at hk
            unfold incsK incK at hk
            obtain ⟨q, qs1, hq, hk1⟩ := consK_inv hk
            cases hq
            cases t' <;> simp [tcK, lsK, intK, boolK, strK, fnK] at hk1
        have hnL : isL p = false := hnL.elim id (fun ⟨ps, e⟩ => absurd e (hpb ps))
        have hrefs : refs c = refsC c := by cases c <;> first | rfl | exact hFc.elim
        refine ⟨c, bs, qs.map (fun q => (q.1, q.2 + 1)), hk5, by rw [hb]; simp, ?_, (fun h => by rw [hnL] at h; cases h), ?_, fun id hid => hb2 c (by simp) id (by rw [← hrefs]; exact hid), nost hb1, fun w A bt β' u hβ hp => ?_⟩
        · intro q hq q' hq' e
          obtain ⟨q0, hq0, rfl⟩ := List.mem_map.1 hq
          obtain ⟨q1, hq1', rfl⟩ := List.mem_map.1 hq'
          exact hq2 q0 hq0 q1 hq1' (by simp only at e; omega)
        · intro id bx hm
          obtain ⟨c, rfl⟩ := hb1 id bx hm
          exact ⟨trivial, fun _ e => by cases e⟩
        · have hp' : OCell w A (bt 1) p u := by cases p <;> first | exact hp.2 | exact absurd rfl (hpa _) | exact absurd rfl (hpb _) | exact absurd rfl (hnt _)
          have hβ1 : ∀ q ∈ qs, β' q.1 = bt (1 + q.2) := fun q hq => by rw [hβ _ (List.mem_map_of_mem hq), Nat.add_comm]
          obtain ⟨h6, h7⟩ := hv w A bt β' 1 [u] hβ1 ⟨hp', trivial⟩
          refine ⟨?_, h7, fun id bx b' o' hm hb' j hj => .inl (owns hb hb1 hβ1 id bx b' o' hm hb' j hj)⟩
          have h8 := h6.1
          cases c <;> first | exact h8 | exact hFc.elim
      · simp only [cond_true] at hk
        obtain ⟨ps, hp0, hk1⟩ := aggK_inv hk
        subst hp0
        obtain ⟨cs, bs, qs, hk3, hl, hl2, hb, hq2, hb1, hF, hb2, hv⟩ := incsK_inv hk1
        refine ⟨_, bs, qs.map (fun q => (q.1, q.2 + 1)), hk3, by rw [hb]; simp, ?_, (fun h => by cases h), ?_, fun id hid => ?_, nost hb1, fun w A bt β' u hβ hp => ?_⟩
        · intro q hq q' hq' e
          obtain ⟨q0, hq0, rfl⟩ := List.mem_map.1 hq
          obtain ⟨q1, hq1', rfl⟩ := List.mem_map.1 hq'
          exact hq2 q0 hq0 q1 hq1' (by simp only at e; omega)
        · intro id bx hm
          obtain ⟨c, rfl⟩ := hb1 id bx hm
          exact ⟨trivial, fun _ e => by cases e⟩
        · obtain ⟨c, hc, hi⟩ := List.mem_flatMap.1 (show id ∈ cs.flatMap refsC from hid)
          exact hb2 c hc id hi
        · obtain ⟨vs, h1, _, h3⟩ := hp
          have hβ1 : ∀ q ∈ qs, β' q.1 = bt (1 + q.2) := fun q hq => by rw [hβ _ (List.mem_map_of_mem hq), Nat.add_comm]
          obtain ⟨h6, h7⟩ := hv w A bt β' 1 vs hβ1 h3
          exact ⟨⟨vs, h1, h6⟩, h7, fun id bx b' o' hm hb' j hj => .inl (owns hb hb1 hβ1 id bx b' o' hm hb' j hj)⟩

/-- All arguments. -/
theorem insK_inv : ∀ {ts : List TypeId} {i : Nat} {ps : List PV} {K : List (Nat × PV) → List (Nat × Box) → Option R}, insK P N i ts ps K = some r →
    ∃ tms bs, ∃ qs : List (Nat × Nat × Nat), K tms bs = some r ∧ bs.map (·.1) = qs.map (·.1) ∧ (∀ q ∈ qs, i ≤ q.2.1) ∧ (∀ q ∈ qs, ∀ q' ∈ qs, q.2 = q'.2 → q.1 = q'.1) ∧
      (∀ k p, ps[k]? = some p → isL p = true → (pinId N (i + k), i + k, 0) ∈ qs ∧ i + k < 8) ∧ (∀ id bx, (id, bx) ∈ bs → liveB (some bx) ∧ ∀ c, bx = .st c → ∃ k p, ps[k]? = some p ∧ isL p = true ∧ id = pinId N (i + k)) ∧
      (∀ j, ∀ id ∈ refs (lk tms j), ∃ bx, (id, bx) ∈ bs) ∧ RefsIn bs ∧
      ∀ (w : World) (A : Nat → Prop) (bt : Bt2) (β' : Bt) (us : List Value), (∀ q ∈ qs, β' q.1 = bt q.2.1 q.2.2) → PArgs w A bt i ps us →
        (∀ j, (∃ u, i ≤ j ∧ us[j - i]? = some u ∧ VRep w A β' (lk tms j) u) ∨ (lk tms j = .top ∧ (i ≤ j → us[j - i]? = none))) ∧ (∀ id bx, (id, bx) ∈ bs → BRep w A β' id bx) ∧
        ∀ id bx b o, (id, bx) ∈ bs → β' id = some (b, o) → ∀ j, BR bx o j → ∃ k p, ps[k]? = some p ∧ ArgL (bt (i + k)) p b j
  | [], i, ps, K, hk => by
    obtain ⟨hps, hk⟩ := nilK_inv hk
    subst hps
    refine ⟨[], [], [], hk, rfl, by simp, by simp, by simp, by simp, (fun j id hid => by cases hid), (by intro i cells hm; cases hm), fun w A bt β' us _ h => ?_⟩
    cases us with
    | nil => exact ⟨fun j => .inr ⟨rfl, fun _ => by simp⟩, by simp, by simp⟩
    | cons u us => exact h.elim
  | t :: ts, i, ps, K, hk => by
    unfold insK at hk
    obtain ⟨p, ps', hps, hk1⟩ := consK_inv hk
    subst hps
    obtain ⟨v, bs, qs, hk2, hb, hqi, hpin, hbx, hr, hri, hv⟩ := inK_inv hk1
    obtain ⟨tms, bs', qs', hk3, hb', hq0', hqi', hpin', hbx', hr', hri', hv'⟩ := insK_inv hk2
    refine ⟨(i, v) :: tms, bs ++ bs', qs.map (fun q => (q.1, i, q.2)) ++ qs', hk3, by simp only [List.map_append, hb, hb']; simp, ?_, ?_, ?_, ?_, ?_, ?_, fun w A bt β' us hβ hp => ?_⟩
    · intro q hq
      rcases List.mem_append.1 hq with hq | hq
      · obtain ⟨q0, hq0, rfl⟩ := List.mem_map.1 hq
        exact Nat.le_refl _
      · have := hq0' q hq
        omega
    · intro q hq q' hq' e
      rcases List.mem_append.1 hq with hq | hq
      · obtain ⟨q0, hq0, rfl⟩ := List.mem_map.1 hq
        rcases List.mem_append.1 hq' with hq' | hq'
        · obtain ⟨q1, hq1', rfl⟩ := List.mem_map.1 hq'
          simp only [Prod.mk.injEq, true_and] at e
          exact hqi q0 hq0 q1 hq1' e
        · have := hq0' q' hq'
          rw [← e] at this
          simp only at this
          omega
      · have h5 := hq0' q hq
        rcases List.mem_append.1 hq' with hq' | hq'
        · obtain ⟨q1, hq1', rfl⟩ := List.mem_map.1 hq'
          rw [e] at h5
          simp only at h5
          omega
        · exact hqi' q hq q' hq' e
    · intro k p' hk' hL
      cases k with
      | zero =>
        simp only [List.getElem?_cons_zero, Option.some.injEq] at hk'
        subst hk'
        obtain ⟨h1, h2⟩ := hpin hL
        exact ⟨List.mem_append.2 (.inl (List.mem_map.2 ⟨_, h1, rfl⟩)), h2⟩
      | succ k =>
        obtain ⟨h1, h2⟩ := hpin' k p' (by simpa using hk') hL
        rw [show i + 1 + k = i + (k + 1) by omega] at h1 h2
        exact ⟨List.mem_append.2 (.inr h1), h2⟩
    · intro id bx hm
      rcases List.mem_append.1 hm with hm | hm
      · obtain ⟨h1, h2⟩ := hbx id bx hm
        exact ⟨h1, fun c hc => ⟨0, p, rfl, (h2 c hc).2, (h2 c hc).1⟩⟩
      · obtain ⟨h1, h2⟩ := hbx' id bx hm
        refine ⟨h1, fun c hc => ?_⟩
        obtain ⟨k, p', h3, h4, h5⟩ := h2 c hc
        exact ⟨k + 1, p', by simpa using h3, h4, by rw [h5, show i + 1 + k = i + (k + 1) by omega]⟩
    · intro j id hid
      unfold lk at hid
      cases hbq : Nat.beq j i <;> rw [hbq] at hid
      · obtain ⟨bx, h1⟩ := hr' j id hid
        exact ⟨bx, List.mem_append.2 (.inr h1)⟩
      · obtain ⟨bx, h1⟩ := hr id hid
        exact ⟨bx, List.mem_append.2 (.inl h1)⟩
    · intro id cells hm c hc k hk
      rcases List.mem_append.1 hm with hm | hm
      · obtain ⟨bx, h1⟩ := hri id cells hm c hc k hk
        exact ⟨bx, List.mem_append.2 (.inl h1)⟩
      · obtain ⟨bx, h1⟩ := hri' id cells hm c hc k hk
        exact ⟨bx, List.mem_append.2 (.inr h1)⟩
    · cases us with
      | nil => exact hp.elim
      | cons u us =>
        obtain ⟨h1, h2, h3⟩ := hv w A (bt i) β' u (fun q hq => hβ _ (List.mem_append.2 (.inl (List.mem_map_of_mem hq)))) hp.1
        obtain ⟨h1', h2', h3'⟩ := hv' w A bt β' us (fun q hq => hβ q (List.mem_append.2 (.inr hq))) hp.2
        refine ⟨fun j => ?_, fun id bx hm => ?_, fun id bx b o hm hbo j hj => ?_⟩
        · unfold lk
          cases hbq : Nat.beq j i
          · have hne := beq_false_ne hbq
            simp only [cond_false]
            rcases h1' j with ⟨u', h4, h5, h6⟩ | ⟨h4, h5⟩
            · refine .inl ⟨u', by omega, ?_, h6⟩
              rw [show j - i = (j - (i + 1)) + 1 by omega]
              simpa using h5
            · refine .inr ⟨h4, fun hij => ?_⟩
              rw [show j - i = (j - (i + 1)) + 1 by omega]
              simpa using h5 (by omega)
          · have := Nat.eq_of_beq_eq_true hbq
            subst this
            exact .inl ⟨u, Nat.le_refl _, by simp, h1⟩
        · rcases List.mem_append.1 hm with hm | hm
          · exact h2 id bx hm
          · exact h2' id bx hm
        · rcases List.mem_append.1 hm with hm | hm
          · exact ⟨0, p, rfl, h3 id bx b o hm hbo j hj⟩
          · obtain ⟨k, p', h4, h5⟩ := h3' id bx b o hm hbo j hj
            exact ⟨k + 1, p', by simpa using h4, by rw [show i + (k + 1) = i + 1 + k by omega]; exact h5⟩

/-- What a function may change. -/
def lendOf (bt : Bt2) (args : List PV) (h8 : ∀ k p, args[k]? = some p → isL p = true → k < 8) : Lend :=
  ⟨BtX bt, CallL bt args, fun i => ∃ p, args[i]? = some p ∧ isL p = true, fun i => bt i 0, fun i ⟨p, h1, h2⟩ => h8 i p h1 h2⟩

/-- The state at a function's start. -/
theorem sim_start {ts : List TypeId} {args : List PV} {us : List Value} {bt : Bt2} {K : List (Nat × PV) → List (Nat × Box) → Option R} (hin : Ins w Y bt args us) (hk : insK P N 0 ts args K = some r) :
    ∃ tms bs, K tms bs = some r ∧ (absent (fun _ => none) bs = true → us.length ≤ N → ∃ (h8 : ∀ k p, args[k]? = some p → isL p = true → k < 8), ∃ β0,
      Sim N w (lendOf bt args h8) Y β0 ⟨lk tms, lkh bs⟩ { tmps := us.toArray ++ Array.replicate (N - us.toArray.size) undef, defers := [] } w) := by
  obtain ⟨tms, bs, qs, hk1, hb, hq0, hqi, hpin, hbx, hr, hri, hv⟩ := insK_inv hk
  refine ⟨tms, bs, hk1, fun hab hN => ?_⟩
  have hnod := absent_nodup hab
  have h8 : ∀ k p, args[k]? = some p → isL p = true → k < 8 := fun k p h1 h2 => by
    have := (hpin k p h1 h2).2
    omega
  have hqn : (qs.map (·.1)).Nodup := by rw [← hb]; exact hnod
  obtain ⟨β0, hβ0⟩ : ∃ β0 : Bt, ∀ q ∈ qs, β0 q.1 = bt q.2.1 q.2.2 := by
    have : ∀ (l : List (Nat × Nat × Nat)), (l.map (·.1)).Nodup → ∃ β0 : Bt, ∀ q ∈ l, β0 q.1 = bt q.2.1 q.2.2 := by
      intro l
      induction l with
      | nil => intro _; exact ⟨fun _ => none, by simp⟩
      | cons q l ih =>
        intro hn
        simp only [List.map_cons, List.nodup_cons] at hn
        obtain ⟨b1, h1⟩ := ih hn.2
        refine ⟨upd b1 q.1 (bt q.2.1 q.2.2), fun q' hq' => ?_⟩
        rcases List.mem_cons.1 hq' with rfl | hq'
        · exact upd_same _ _ _
        · have hne : q'.1 ≠ q.1 := fun e => hn.1 (by rw [← e]; exact List.mem_map.2 ⟨q', hq', rfl⟩)
          rw [upd_other _ _ hne]
          exact h1 q' hq'
    exact this qs hqn
  refine ⟨h8, β0, ?_⟩
  obtain ⟨hs, hbr, hL⟩ := hv w _ bt β0 us hβ0 hin.args
  have hqm : ∀ id bx, (id, bx) ∈ bs → ∃ ik, (id, ik) ∈ qs ∧ β0 id = bt ik.1 ik.2 := by
    intro id bx hm
    have : id ∈ qs.map (·.1) := by rw [← hb]; exact List.mem_map.2 ⟨_, hm, rfl⟩
    obtain ⟨q, hq, rfl⟩ := List.mem_map.1 this
    exact ⟨q.2, hq, hβ0 q hq⟩
  have hX : ∀ b, Xof (lkh bs) β0 b → BtX bt b := by
    rintro b ⟨id, o, hl, hβ⟩
    cases hq : lkh bs id with
    | none => rw [hq] at hl; exact hl.elim
    | some bx =>
      obtain ⟨ik, _, h2⟩ := hqm id bx (lkh_mem hq)
      rw [h2] at hβ
      exact ⟨_, _, _, hβ⟩
  have hA : ∀ b, Aof (lkh bs) β0 Y b → BtX bt b ∨ Y b := fun b hb => hb.imp (hX b) id
  have hput : ∀ {p : PV} {u : Value}, VRep w (fun b => BtX bt b ∨ Y b) β0 p u → VRep w (Aof (lkh bs) β0 Y) β0 p u := fun h => h.step (WStep.refl _ _) (fun b _ => hA b) (fun _ _ => rfl)
  refine ⟨rfl, by simp; omega, fun i hi => ?_, fun i hi => ?_, ?_, ?_, ?_, fun i hi id hid => ?_, ?_, fun b hb => .inl (hX b hb), ?_, ?_, ?_, fun b hY hXb => hin.Yx b hY (hX b hXb), hin.Ylt, ⟨rfl, rfl, rfl, WStep.refl _ _, fun _ _ _ _ => ⟨rfl, rfl⟩⟩⟩
  · rcases hs i with ⟨u, _, h, _⟩ | ⟨h, _⟩
    · rw [Nat.sub_zero, List.getElem?_eq_none (by omega)] at h; cases h
    · exact h
  · rcases hs i with ⟨u, _, h, hv⟩ | ⟨h, h'⟩
    · rw [Nat.sub_zero] at h
      have hlt : i < us.length := by
        rcases Nat.lt_or_ge i us.length with h' | h'
        · exact h'
        · rw [List.getElem?_eq_none h'] at h; cases h
      have : (us.toArray ++ Array.replicate (N - us.toArray.size) undef).getD i undef = u := by
        rw [Array.getD_eq_getD_getElem?, Array.getElem?_append_left (by simpa using hlt)]
        simp [h]
      show VRep w _ _ _ ((us.toArray ++ Array.replicate (N - us.toArray.size) undef).getD i undef)
      rw [this]
      exact hput hv
    · show VRep w _ _ (lk tms i) _
      rw [h]
      exact TRep.top _
  · intro id bx hq
    exact (hbr id bx (lkh_mem hq)).step' hA
  · intro id id' b o o' hl hl' hβ hβ'
    cases hq : lkh bs id with
    | none => change liveB (lkh bs id) at hl; rw [hq] at hl; exact hl.elim
    | some bx =>
      cases hq' : lkh bs id' with
      | none => change liveB (lkh bs id') at hl'; rw [hq'] at hl'; exact hl'.elim
      | some bx' =>
        obtain ⟨ik, h1, h2⟩ := hqm id bx (lkh_mem hq)
        obtain ⟨ik', h1', h2'⟩ := hqm id' bx' (lkh_mem hq')
        rw [h2] at hβ
        rw [h2'] at hβ'
        obtain ⟨h3, h4⟩ := hin.inj _ _ _ _ b o o' hβ hβ'
        exact hqi _ h1 _ h1' (Prod.ext h3 h4)
  · intro id b o hn hβ
    cases hq : lkh bs id with
    | none => exact absurd hq hn
    | some bx =>
      obtain ⟨ik, h1, h2⟩ := hqm id bx (lkh_mem hq)
      rw [h2] at hβ
      exact hin.lt b ⟨_, _, _, hβ⟩
  · obtain ⟨bx, hm⟩ := hr i id hid
    show lkh bs id ≠ none
    rw [lkh_of hnod hm]
    simp
  · intro id cells hq c hc k hk
    obtain ⟨bx, hm⟩ := hri id cells (lkh_mem hq) c hc k hk
    show lkh bs k ≠ none
    rw [lkh_of hnod hm]
    simp
  · intro id bx b o hq hl hβ _ j hj
    obtain ⟨k, p, h1, h2⟩ := hL id bx b o (lkh_mem hq) hβ j hj
    rw [Nat.zero_add] at h2
    exact ⟨k, p, h1, h2⟩
  · rintro i ⟨p, h1, h2⟩
    have h3 := (hpin i p h1 h2).1
    rw [Nat.zero_add] at h3
    refine ⟨?_, hβ0 _ h3⟩
    have : pinId N i ∈ bs.map (·.1) := by rw [hb]; exact List.mem_map.2 ⟨_, h3, rfl⟩
    obtain ⟨⟨id, bx⟩, hm, e⟩ := List.mem_map.1 this
    show lkh bs (pinId N i) ≠ none
    rw [← e, lkh_of hnod hm]
    simp
  · intro id c b o hq _ _
    obtain ⟨k, p, h1, h2, h3⟩ := (hbx id _ (lkh_mem hq)).2 c rfl
    rw [Nat.zero_add] at h3
    exact ⟨k, h3, p, h1, h2⟩
end

end Go.Proofs.Ytaphhfehcbkfkaa.Pv

namespace Go.Proofs.Ytaphhfehcbkfkaa.Pv
open Go.RowKit

/-- Which box goes along with a cell. -/
def ownOf (β : Bt) (l : List (Option Nat)) (j : Nat) : Option (Nat × Nat) := ((l[j]?).bind id).bind β

section
variable {R : Type} {r : R} {P : Program} {N : Nat} {w0 : World} {X0 : Lend} {Y : Nat → Prop} {β β' : Bt} {s : St} {a : Act} {w w' : World} {A : Nat → Prop}

def LiveId (s : St) (l : List (Option Nat)) : Prop := ∀ id, some id ∈ l → liveB (s.hp id)
def RowId (s : St) (z : List Nat) : Prop := ∀ id ∈ z, ∃ f c, s.hp id = some (.ar f c)

/-- A cell that goes back, shared or with its memory. -/
theorem outxK_inv (h : Sim N w0 X0 Y β s a w) {shr : Bool} {t : CT} {p : PV} {K : PV → List Nat → List Nat → Option R} (hk : outxK shr s.hp t p K = some r) :
    ∃ c q z, K c (Option.toList q) z = some r ∧ (∀ x, c ≠ .agg x ∧ c ≠ .pbox x) ∧ isF p ∧ (∀ id, q = some id → ∃ c, s.hp id = some (.ar false c)) ∧ RowId s z ∧
      ∀ (fz : List Nat) A u, (∀ i ∈ z, i ∈ fz) → RowId s fz → (∀ b, A b → Aof (freezeIds s.hp fz) β Y b) → CRep w (Aof s.hp β Y) β p u → OCell w A (q.bind β) c u := by
  have notree : ∀ {c : PV}, isT c → ∀ x, c ≠ .agg x ∧ c ≠ .pbox x := fun hT x => ⟨isT_agg hT x, by rintro rfl; exact hT⟩
  unfold outxK at hk
  cases shr <;> simp only [cond_true, cond_false] at hk
  · have tree : ∀ t', (∀ es, t' ≠ .sl es) → (tcK t' p fun c => K c [] []) = some r → ∃ c q z, K c (Option.toList q) z = some r ∧ (∀ x, c ≠ .agg x ∧ c ≠ .pbox x) ∧ isF p ∧ (∀ id, q = some id → ∃ c, s.hp id = some (.ar false c)) ∧ RowId s z ∧
        ∀ (fz : List Nat) A u, (∀ i ∈ z, i ∈ fz) → RowId s fz → (∀ b, A b → Aof (freezeIds s.hp fz) β Y b) → CRep w (Aof s.hp β Y) β p u → OCell w A (q.bind β) c u := by
      intro t' hne hk
      obtain ⟨c, hk1, hT, hpT, hv⟩ := tcK_inv hk
      refine ⟨c, none, [], hk1, notree hT, isF_isT hpT, by simp, (by intro i hi; cases hi), fun fz A u _ _ hA hc => OCell_tree hT ?_⟩
      exact (hv w _ β u hc).1.step (WStep.refl _ _) (fun b _ hb => freeze_A (hA b hb))
    unfold outcK at hk
    cases t with
    | sl es =>
      dsimp only at hk
      split at hk
      · rename_i id es' off n
        cases hb : (Nat.beq es' es && Nat.beq off 0) <;> rw [hb] at hk
        · cases hk
        · simp only [Bool.and_eq_true] at hb
          have he := Nat.eq_of_beq_eq_true hb.1
          have ho := Nat.eq_of_beq_eq_true hb.2
          subst he ho
          simp only [cond_true] at hk
          split at hk
          · rename_i c h0
            obtain ⟨hl, hk1⟩ := chk_inv hk
            refine ⟨_, some id, [], hk1, by simp, trivial, fun i hi => by cases hi; exact ⟨c, h0⟩, (by intro i hi; cases hi), fun fz A u _ _ hA hc => ?_⟩
            rcases hc with ⟨h1, _, rfl, h4⟩ | ⟨b, o, x, cap, h1, h2, hx, h3, h4, h5⟩
            · exact .inl ⟨h1, rfl, by simp, h4⟩
            · have hx : x = o := by rcases hx with e | ⟨_, e⟩ <;> omega
              subst hx
              rcases h.box id _ h0 with ⟨h6, _⟩ | ⟨b', o', h6, h7, h8, _⟩
              · rw [h1] at h6; cases h6
              · rw [h1] at h6
                cases h6
                refine .inr ⟨b, x, cap, h1, h2, h3, h4, h5, fun j q hq => ?_, fun j hj hj' => h8 rfl j hj hj'⟩
                rw [List.getElem?_take] at hq
                split at hq
                · obtain ⟨v, hv, h9, ht⟩ := h7 j q hq
                  exact ⟨v, hv, h9, ht.step (WStep.refl _ _) (fun b _ hb => freeze_A (hA b hb))⟩
                · cases hq
          · cases hk
      · obtain ⟨z, n, c, hk1, hp⟩ := lsK_inv hk
        obtain ⟨hz, hk2⟩ := chk_inv hk1
        subst hz
        have hpF : isF p := by rcases hp with e | ⟨e, _⟩ <;> (rw [e]; trivial)
        refine ⟨_, none, [], hk2, by simp, hpF, by simp, (by intro i hi; cases hi), fun fz A u _ _ _ hc => ?_⟩
        have hu : u = .slice none 0 0 := by
          rcases hp with rfl | ⟨rfl, _⟩
          · cases hc; rfl
          · exact TRep.val hc
        exact .inl ⟨rfl, rfl, rfl, hu⟩
    | int k => exact tree _ (by simp) hk
    | bool => exact tree _ (by simp) hk
    | str => exact tree _ (by simp) hk
    | any => exact tree _ (by simp) hk
  · obtain ⟨c, m, hk1, hT, hF, hm, hv⟩ := frcK_inv h hk
    exact ⟨c, none, m, hk1, notree hT, hF, by simp, hm, fun fz A u h1 h2 hA hc => OCell_tree hT ((hv fz h1 h2 u hc).1.step (WStep.refl _ _) (fun b _ hb => hA b hb))⟩

/-- What a row of cells that go back is. -/
structure OutL (s : St) (β : Bt) (Y : Nat → Prop) (w : World) (cs : List PV) (l : List (Option Nat)) (z : List Nat) (ps : List PV) : Prop where
  len : l.length = cs.length
  pl : cs.length = ps.length
  na : ∀ c ∈ cs, ∀ x, c ≠ .agg x ∧ c ≠ .pbox x
  fr : ∀ p ∈ ps, isF p
  own : ∀ id, some id ∈ l → ∃ c, s.hp id = some (.ar false c)
  row : RowId s z
  sem : ∀ (fz : List Nat) A us, (∀ i ∈ z, i ∈ fz) → RowId s fz → (∀ b, A b → Aof (freezeIds s.hp fz) β Y b) → All2 (CRep w (Aof s.hp β Y) β) ps us → ∀ own j0, (∀ j, j < l.length → own (j0 + j) = ownOf β l j) → OCells w A own j0 cs us

theorem OutL.nil : OutL s β Y w [] [] [] [] := ⟨rfl, rfl, by simp, by simp, by simp, (by intro i hi; cases hi), fun fz A us _ _ _ hu own j0 _ => by
  cases us with
  | nil => trivial
  | cons u us => exact hu.elim⟩

theorem OutL.cons {c p : PV} {q : Option Nat} {z zs : List Nat} {cs ps : List PV} {l : List (Option Nat)} (hna : ∀ x, c ≠ .agg x ∧ c ≠ .pbox x) (hF : isF p) (hq : ∀ id, q = some id → ∃ c, s.hp id = some (.ar false c)) (hz : RowId s z)
    (hv : ∀ (fz : List Nat) A u, (∀ i ∈ z, i ∈ fz) → RowId s fz → (∀ b, A b → Aof (freezeIds s.hp fz) β Y b) → CRep w (Aof s.hp β Y) β p u → OCell w A (q.bind β) c u) (H : OutL s β Y w cs l zs ps) : OutL s β Y w (c :: cs) (q :: l) (z ++ zs) (p :: ps) := by
  refine ⟨by simp [H.len], by simp [H.pl], ?_, ?_, ?_, ?_, fun fz A us hz1 hz2 hA hu own j0 hown => ?_⟩
  · intro x hx
    rcases List.mem_cons.1 hx with rfl | hx
    · exact hna
    · exact H.na x hx
  · intro x hx
    rcases List.mem_cons.1 hx with rfl | hx
    · exact hF
    · exact H.fr x hx
  · intro id hid
    rcases List.mem_cons.1 hid with e | hid
    · exact hq id e.symm
    · exact H.own id hid
  · intro i hi
    rcases List.mem_append.1 hi with hi | hi
    · exact hz i hi
    · exact H.row i hi
  · cases us with
    | nil => exact hu.elim
    | cons u us =>
      have h0 := hown 0 (by simp)
      rw [Nat.add_zero] at h0
      refine ⟨?_, H.sem fz A us (fun i hi => hz1 i (by simp [hi])) hz2 hA hu.2 own (j0 + 1) fun j hj => ?_⟩
      · rw [h0]
        exact hv fz A u (fun i hi => hz1 i (by simp [hi])) hz2 hA hu.1
      · have := hown (j + 1) (by simp; omega)
        rw [show j0 + 1 + j = j0 + (j + 1) by omega, this]
        simp [ownOf]

theorem outcsK_inv (h : Sim N w0 X0 Y β s a w) {shr : Bool} : ∀ {ts : List CT} {ps : List PV} {K : List PV → List Nat → List Nat → Option R}, outcsK shr s.hp ts ps K = some r →
    ∃ cs l z, K cs (l.filterMap id) z = some r ∧ OutL s β Y w cs l z ps
  | [], [], K, hk => ⟨[], [], [], hk, OutL.nil⟩
  | [], _ :: _, K, hk => by cases hk
  | _ :: _, [], K, hk => by cases hk
  | t :: ts, p :: ps, K, hk => by
    unfold outcsK at hk
    obtain ⟨c, q, z, hk1, hna, hF, hq, hz, hv⟩ := outxK_inv h hk
    obtain ⟨cs, l, zs, hk2, H⟩ := outcsK_inv h hk1
    refine ⟨c :: cs, q :: l, z ++ zs, ?_, OutL.cons hna hF hq hz hv H⟩
    cases q <;> exact hk2

theorem backcsK_inv (h : Sim N w0 X0 Y β s a w) : ∀ {ts : List CT} {ws ps : List PV} {K : List PV → List Nat → List Nat → Option R}, backcsK s.hp ts ws ps K = some r →
    ∃ cs l z, K cs (l.filterMap id) z = some r ∧ cs.length = ws.length ∧ OutL s β Y w cs l z ps
  | [], [], [], K, hk => ⟨[], [], [], hk, rfl, OutL.nil⟩
  | [], _ :: _, _, K, hk => by cases hk
  | [], [], _ :: _, K, hk => by cases hk
  | _ :: _, [], _, K, hk => by cases hk
  | _ :: _, _ :: _, [], K, hk => by cases hk
  | t :: ts, x :: ws, p :: ps, K, hk => by
    unfold backcsK at hk
    obtain ⟨c, q, z, hk1, hna, hF, hq, hz, hv⟩ := outxK_inv h hk
    obtain ⟨cs, l, zs, hk2, hl, H⟩ := backcsK_inv h hk1
    refine ⟨c :: cs, q :: l, z ++ zs, ?_, by simp [hl], OutL.cons hna hF hq hz hv H⟩
    cases q <;> exact hk2

theorem OCells_one {own : Bt} {zz j : Nat} {p : PV} {u : Value} (hp : ∀ x, p ≠ .agg x ∧ p ≠ .pbox x) (h : OCells w A own j [p] [u]) : OVal w A own zz j p u := by
  cases p <;> first | exact h.1 | exact absurd rfl (hp _).1 | exact absurd rfl (hp _).2

/-- The cells of a variable that goes back. -/
theorem obox_of (h : Sim N w0 X0 Y β s a w) {id b o : Nat} {c cs : List PV} {l : List (Option Nat)} {z : List Nat} (h0 : s.hp id = some (.st c)) (hβ : β id = some (b, o)) (H : OutL s β Y w cs l z c) {fz : List Nat} {A : Nat → Prop} (h1 : ∀ i ∈ z, i ∈ fz) (h2 : RowId s fz) (hA : ∀ b, A b → Aof (freezeIds s.hp fz) β Y b)
    {own : Bt} {j0 : Nat} (hown : ∀ j, j < l.length → own (j0 + j) = ownOf β l j) : OBox w A own j0 b o cs := by
  obtain ⟨b', o', hb1, hb2, hb3⟩ := h.box id _ h0
  rw [hβ] at hb1
  cases hb1
  refine ⟨c.mapIdx (fun j _ => (w.cell? ⟨b, o + j, none⟩).getD undef), H.sem fz A _ h1 h2 hA ?_ own j0 hown, ?_, fun k hk => hb3 k (by have := H.pl; omega)⟩
  · refine All2.of_at (by simp) fun j p v hp hv => ?_
    obtain ⟨u, hu, hcr⟩ := hb2 j p hp
    rw [List.getElem?_mapIdx, hp, Option.map_some, hu] at hv
    simp at hv
    subst hv
    exact hcr
  · intro k v hkv
    rw [List.getElem?_mapIdx] at hkv
    cases hp : c[k]? with
    | none => rw [hp] at hkv; cases hkv
    | some p =>
      obtain ⟨u, hu, hcr⟩ := hb2 k p hp
      rw [hp, Option.map_some, hu] at hkv
      simp at hkv
      subst hkv
      exact hu

/-- One result. -/
theorem outvK_inv (h : Sim N w0 X0 Y β s a w) {shr : Bool} {t : TypeId} {p : PV} {u : Value} (hp : VRep w (Aof s.hp β Y) β p u) {K : PV → List Nat → List Nat → Option R} (hk : outvK P shr s.hp t p K = some r) :
    ∃ v l z, K v (l.filterMap id) z = some r ∧ l.length = plc v ∧ LiveId s l ∧ RowId s z ∧
      ∀ (fz : List Nat) A zz, (∀ i ∈ z, i ∈ fz) → RowId s fz → (∀ b, A b → Aof (freezeIds s.hp fz) β Y b) → (∀ id c b o, some id ∈ l → s.hp id = some (.st c) → β id = some (b, o) → zz ≤ b) →
        ∀ own j0, (∀ j, j < l.length → own (j0 + j) = ownOf β l j) → OVal w A own zz j0 v u := by
  unfold outvK at hk
  split at hk
  · rename_i e he
    split at hk
    · rename_i id off
      split at hk
      · rename_i c h0
        obtain ⟨hof, hk1⟩ := chk_inv hk
        have hof := Nat.eq_of_beq_eq_true hof
        subst hof
        obtain ⟨cs, l, z, hk2, H⟩ := outcsK_inv h hk1
        obtain ⟨b, o, hβ, hu⟩ := hp
        refine ⟨.pbox cs, some id :: l, z, hk2, by simp only [plc, List.length_cons, H.len]; omega, ?_, H.row, fun fz A zz h1 h2 hA hz own j0 hown => ?_⟩
        · intro i hi
          rcases List.mem_cons.1 hi with e | hi
          · cases e; rw [h0]; trivial
          · obtain ⟨c', hc'⟩ := H.own i hi
            rw [hc']; trivial
        · have h3 := hown 0 (by simp)
          rw [Nat.add_zero] at h3
          refine ⟨b, o, by rw [h3]; exact hβ, hz id c b o (by simp) h0 hβ, by rw [hu, Nat.add_zero], obox_of h h0 hβ H h1 h2 hA fun j hj => ?_⟩
          have := hown (j + 1) (by simp; omega)
          rw [show j0 + 1 + j = j0 + (j + 1) by omega, this]
          simp [ownOf]
      · cases hk
    · cases hk
  · cases hagg : isAggB P t <;> rw [hagg] at hk <;> simp only [cond_true, cond_false] at hk
    · obtain ⟨cs, l, z, hk1, H⟩ := outcsK_inv h hk
      obtain ⟨c, cs', hcs, hk2⟩ := consK_inv hk1
      subst hcs
      obtain ⟨hnil, hk3⟩ := nilK_inv hk2
      subst hnil
      have hna := H.na c (by simp)
      have hc1 : plc c = 1 := by cases c <;> first | rfl | exact absurd rfl (hna _).1 | exact absurd rfl (hna _).2
      have hF := H.fr p (by simp)
      refine ⟨c, l, z, hk3, by rw [hc1]; exact H.len, fun i hi => ?_, H.row, fun fz A zz h1 h2 hA _ own j0 hown => OCells_one hna (H.sem fz A [u] h1 h2 hA ⟨?_, trivial⟩ own j0 hown)⟩
      · obtain ⟨c', hc'⟩ := H.own i hi
        rw [hc']; trivial
      · cases p <;> first | exact hp | exact hF.elim
    · obtain ⟨ps, hps, hk1⟩ := aggK_inv hk
      subst hps
      obtain ⟨cs, l, z, hk2, H⟩ := outcsK_inv h hk1
      obtain ⟨vs, hu, hvs⟩ := hp
      refine ⟨.agg cs, l, z, hk2, H.len, fun i hi => ?_, H.row, fun fz A zz h1 h2 hA _ own j0 hown => ⟨vs, hu, H.sem fz A vs h1 h2 hA hvs own j0 hown⟩⟩
      obtain ⟨c', hc'⟩ := H.own i hi
      rw [hc']; trivial

/-- What a result variable holds. -/
def resRun (P : Program) (tmps : Array Value) (w : World) (rv : ResultVar) (u : Value) : Prop :=
  (match rv with
   | .tmp t => (pure (tmps.getD t undef) : Sem Value)
   | .cell a t => do loadVar t (← asAddr (tmps.getD a undef))).run P w = .ok u w

theorem tm_rep (h : Sim N w0 X0 Y β s a w) (t : Nat) : VRep w (Aof s.hp β Y) β (s.tm t) (a.tmps.getD t undef) := by
  rcases Nat.lt_or_ge t N with h' | h'
  · exact h.tms t h'
  · rw [h.tmo t h']
    exact TRep.top _

theorem resvK_inv (h : Sim N w0 X0 Y β s a w) {rv : ResultVar} {K : PV → Option R} (hk : resvK P s rv K = some r) : ∃ p u, K p = some r ∧ resRun P a.tmps w rv u ∧ VRep w (Aof s.hp β Y) β p u := by
  unfold resvK at hk
  split at hk
  · rename_i t
    exact ⟨_, _, hk, rfl, tm_rep h t⟩
  · rename_i x t
    obtain ⟨v, ad, val, hk1, hax, hl, hv, _⟩ := load_val h (tm_rep h x) hk
    refine ⟨v, val, hk1, ?_, hv⟩
    unfold resRun
    simp [hax, asAddr, hl]

theorem ownOf_app1 {l l' : List (Option Nat)} {j : Nat} (h : j < l.length) : ownOf β (l ++ l') j = ownOf β l j := by
  unfold ownOf
  rw [List.getElem?_append_left h]
theorem ownOf_app2 {l l' : List (Option Nat)} {j : Nat} : ownOf β (l ++ l') (l.length + j) = ownOf β l' j := by
  unfold ownOf
  rw [List.getElem?_append_right (by omega), Nat.add_sub_cancel_left]

theorem outvsK_inv (h : Sim N w0 X0 Y β s a w) {shr : Bool} : ∀ {rs : List ResultVar} {ts : List TypeId} {K : List PV → List Nat → List Nat → Option R}, outvsK P shr s rs ts K = some r →
    ∃ vs l z us, K vs (l.filterMap id) z = some r ∧ All2 (resRun P a.tmps w) rs us ∧ l.length = plcSum vs ∧ LiveId s l ∧ RowId s z ∧
      ∀ (fz : List Nat) A zz, (∀ i ∈ z, i ∈ fz) → RowId s fz → (∀ b, A b → Aof (freezeIds s.hp fz) β Y b) → (∀ id c b o, some id ∈ l → s.hp id = some (.st c) → β id = some (b, o) → zz ≤ b) →
        ∀ own j0, (∀ j, j < l.length → own (j0 + j) = ownOf β l j) → OVals w A own zz j0 vs us
  | [], [], K, hk => ⟨[], [], [], [], hk, trivial, rfl, (by intro id hid; cases hid), (by intro id hid; cases hid), fun _ _ _ _ _ _ _ _ _ _ => trivial⟩
  | [], _ :: _, K, hk => by cases hk
  | _ :: _, [], K, hk => by cases hk
  | rv :: rs, t :: ts, K, hk => by
    unfold outvsK at hk
    obtain ⟨p, u, hk1, hu, hp⟩ := resvK_inv h hk
    obtain ⟨v, l, z, hk2, hl, hL, hz, hv⟩ := outvK_inv h hp hk1
    obtain ⟨vs, l', z', us, hk3, hus, hl', hL', hz', hvs⟩ := outvsK_inv h hk2
    refine ⟨v :: vs, l ++ l', z ++ z', u :: us, ?_, ⟨hu, hus⟩, by simp only [List.length_append, plcSum, List.map_cons, List.sum_cons, hl]; rw [hl']; rfl, ?_, ?_, fun fz A zz h1 h2 hA hst own j0 hown => ⟨?_, ?_⟩⟩
    · rw [List.filterMap_append]; exact hk3
    · intro id hid
      rcases List.mem_append.1 hid with hid | hid
      · exact hL id hid
      · exact hL' id hid
    · intro id hid
      rcases List.mem_append.1 hid with hid | hid
      · exact hz id hid
      · exact hz' id hid
    · exact hv fz A zz (fun i hi => h1 i (by simp [hi])) h2 hA (fun id c b o hi => hst id c b o (by simp [hi])) own j0 fun j hj => by rw [hown j (by simp; omega), ownOf_app1 hj]
    · refine hvs fz A zz (fun i hi => h1 i (by simp [hi])) h2 hA (fun id c b o hi => hst id c b o (by simp [hi])) own (j0 + plc v) fun j hj => ?_
      rw [← hl, Nat.add_assoc, hown (l.length + j) (by simp; omega), ownOf_app2]

/-- What was lent goes back. -/
theorem backsK_inv (h : Sim N w0 X0 Y β s a w) {bt : Bt2} (hpt : ∀ i, X0.pt i = bt i 0) : ∀ {ts : List TypeId} {i : Nat} {ps : List PV} {K : List (List PV) → List Nat → List Nat → List Nat → Option R}, backsK P N s.hp i ts ps K = some r →
    (∀ k p, ps[k]? = some p → isL p = true → X0.pn (i + k)) →
    ∃ os l z q, K os (l.filterMap id) z q = some r ∧ (∀ id, some id ∈ l → ∃ c, s.hp id = some (.ar false c)) ∧ RowId s z ∧ (∀ id ∈ q, liveB (s.hp id)) ∧ (∀ k p, ps[k]? = some p → isL p = true → pinId N (i + k) ∈ q) ∧
      ∀ (fz : List Nat) A, (∀ i ∈ z, i ∈ fz) → RowId s fz → (∀ i ∈ q, i ∉ fz) → (∀ b, A b → Aof (freezeIds s.hp fz) β Y b) →
        ∀ own j0, (∀ j, j < l.length → own (j0 + j) = ownOf β l j) → OOuts w A own bt j0 i ps os
  | [], i, ps, K, hk, _ => by
    obtain ⟨hps, hk⟩ := nilK_inv hk
    subst hps
    exact ⟨[], [], [], [], hk, by simp, (by intro id hid; cases hid), by simp, by simp, fun _ _ _ _ _ _ _ _ _ => rfl⟩
  | t :: ts, i, ps, K, hk, hpn => by
    unfold backsK at hk
    obtain ⟨p, ps', hps, hk1⟩ := consK_inv hk
    subst hps
    have hpn' : ∀ k p, ps'[k]? = some p → isL p = true → X0.pn (i + 1 + k) := fun k p' h1 h2 => by
      have := hpn (k + 1) p' (by simpa using h1) h2
      rw [show i + 1 + k = i + (k + 1) by omega]
      exact this
    have hpq : ∀ {q : List Nat}, (isL p = true → pinId N i ∈ q) → (∀ k p, ps'[k]? = some p → isL p = true → pinId N (i + 1 + k) ∈ q) → ∀ k p', (p :: ps')[k]? = some p' → isL p' = true → pinId N (i + k) ∈ q := by
      intro q h1 h2 k p' h3 h4
      cases k with
      | zero =>
        simp only [List.getElem?_cons_zero, Option.some.injEq] at h3
        subst h3
        exact h1 h4
      | succ k =>
        have := h2 k p' (by simpa using h3) h4
        rw [show i + 1 + k = i + (k + 1) by omega] at this
        exact this
    split at hk1
    · rename_i ws
      obtain ⟨e, he, hk2⟩ := optK_inv hk1
      split at hk2
      · rename_i c h0
        obtain ⟨cs, l, z, hk3, hcl, H⟩ := backcsK_inv h hk2
        obtain ⟨os, l', z', q, hk4, hL', hz', hq', hpi, hv⟩ := backsK_inv h hpt hk3 hpn'
        refine ⟨cs :: os, l ++ l', z ++ z', pinId N i :: q, by rw [List.filterMap_append]; exact hk4, ?_, ?_, ?_, hpq (fun _ => List.mem_cons_self) (fun k p h1 h2 => List.mem_cons_of_mem _ (hpi k p h1 h2)), fun fz A h1 h2 h3 hA own j0 hown => ?_⟩
        · intro id hid
          rcases List.mem_append.1 hid with hid | hid
          · exact H.own id hid
          · exact hL' id hid
        · intro id hid
          rcases List.mem_append.1 hid with hid | hid
          · exact H.row id hid
          · exact hz' id hid
        · intro id hid
          rcases List.mem_cons.1 hid with rfl | hid
          · rw [h0]; trivial
          · exact hq' id hid
        · have hpin := (h.pin i (by have := hpn 0 _ rfl rfl; rwa [Nat.add_zero] at this)).2
          obtain ⟨b, o, hb1, _, _⟩ := h.box _ _ h0
          rw [hb1, hpt] at hpin
          refine ⟨⟨b, o, hpin.symm, hcl, obox_of h h0 hb1 H (fun i hi => h1 i (by simp [hi])) h2 hA fun j hj => by rw [hown j (by simp; omega), ownOf_app1 hj]⟩, ?_⟩
          refine hv fz A (fun i hi => h1 i (by simp [hi])) h2 (fun i hi => h3 i (by simp [hi])) hA own (j0 + cs.length) fun j hj => ?_
          rw [← H.len, Nat.add_assoc, hown (l.length + j) (by simp; omega), ownOf_app2]
      · cases hk2
    · split at hk1
      · rename_i c h0
        obtain ⟨os, l', z', q, hk4, hL', hz', hq', hpi, hv⟩ := backsK_inv h hpt hk1 hpn'
        refine ⟨c :: os, l', z', pinId N i :: q, hk4, hL', hz', ?_, hpq (fun _ => List.mem_cons_self) (fun k p h1 h2 => List.mem_cons_of_mem _ (hpi k p h1 h2)), fun fz A h1 h2 h3 hA own j0 hown => ⟨?_, hv fz A h1 h2 (fun i hi => h3 i (by simp [hi])) hA own j0 hown⟩⟩
        · intro id hid
          rcases List.mem_cons.1 hid with rfl | hid
          · rw [h0]; trivial
          · exact hq' id hid
        · have hpin := (h.pin i (by have := hpn 0 _ rfl rfl; rwa [Nat.add_zero] at this)).2
          rw [hpt] at hpin
          rcases h.box _ _ h0 with ⟨h4, h5⟩ | ⟨b, o, h4, h5, h6, _⟩
          · exact .inl ⟨by rw [← hpin]; exact h4, h5⟩
          · exact .inr ⟨b, o, by rw [← hpin]; exact h4, h5.weak (fun b _ hb => freeze_A (hA b hb)), h6 rfl⟩
      · cases hk1
    · rename_i hn1 hn2
      have hnL : isL p = false := by cases p <;> first | rfl | exact absurd rfl (hn1 _) | exact absurd rfl (hn2 _)
      obtain ⟨os, l', z', q, hk4, hL', hz', hq', hpi, hv⟩ := backsK_inv h hpt hk1 hpn'
      refine ⟨os, l', z', q, hk4, hL', hz', hq', hpq (fun e => by rw [hnL] at e; cases e) hpi, fun fz A h1 h2 h3 hA own j0 hown => ?_⟩
      have := hv fz A h1 h2 h3 hA own j0 hown
      cases p <;> first | exact this | cases hnL

theorem mapM_run {f : ResultVar → Sem Value} : ∀ {rs : List ResultVar} {us : List Value}, All2 (fun rv u => (f rv).run P w = .ok u w) rs us → (rs.mapM f).run P w = .ok us w
  | [], [], _ => by simp
  | [], _ :: _, h => h.elim
  | _ :: _, [], h => h.elim
  | rv :: rs, u :: us, h => by
    rw [List.mapM_cons]
    simp [h.1, mapM_run h.2]

theorem results_run {fn : Func} {us : List Value} (h : All2 (resRun P a.tmps w) fn.results.toList us) : (results fn a.tmps).run P w = .ok (retVal us) w := by
  unfold results
  rw [Array.mapM_eq_mapM_toList]
  simp only [map_eq_pure_bind, bind_assoc, pure_bind, Sem.run_bind]
  refine Eq.trans (congrArg (fun x => Result.andThen x _) (mapM_run h)) ?_
  simp only [Result.andThen_ok, Sem.run_pure]
  congr 1
  clear h
  match us with
  | [] => rfl
  | [u] => rfl
  | u :: v :: us => exact dif_neg (by simp)

theorem nodup_at : ∀ {l : List (Option Nat)}, nodupB (l.filterMap id) = true → ∀ {j j' i : Nat}, l[j]? = some (some i) → l[j']? = some (some i) → j = j'
  | [], _, j, j', i, h, _ => by simp at h
  | q :: l, hn, j, j', i, h, h' => by
    have hn' : nodupB (l.filterMap id) = true := by
      cases q with
      | none => exact hn
      | some x =>
        simp only [List.filterMap_cons, id_eq, nodupB, Bool.and_eq_true] at hn
        exact hn.2
    have hq : ∀ (x k : Nat), q = some x → l[k]? ≠ some (some x) := by
      intro x k e hk
      subst e
      simp only [List.filterMap_cons, id_eq, nodupB, Bool.and_eq_true, Bool.not_eq_true'] at hn
      exact any_beq hn.1 (List.mem_filterMap.2 ⟨some x, List.mem_of_getElem? hk, rfl⟩)
    cases j with
    | zero =>
      cases j' with
      | zero => rfl
      | succ k' =>
        simp at h h'
        exact absurd h' (hq i k' h)
    | succ k =>
      cases j' with
      | zero =>
        simp at h h'
        exact absurd h (hq i k h')
      | succ k' =>
        simp at h h'
        rw [nodup_at hn' h h']

/-- A function keeps its contract. -/
theorem pfun_sound {G : Glo} (hNG : NoNG P) (hm : P.follows .mixedOrders = true) {C : Cfg} {fu : Nat} {call : Call'} (hcall : ∀ f args res, call f args = some res → SoundC G P f args res) {f : FuncId} {fn : Func} {c : Code} (hf : P.funcs[f]? = some fn) (hb : fn.body = some c)
    {args : List PV} {res : Res} (hk : pfun C P fu call f fn c args = some res) : SoundC G P f args res := by
  refine ⟨⟨fn, hf, by rw [hb]; rfl⟩, fun w Y bt us hin hG hGY => ?_⟩
  unfold pfun at hk
  obtain ⟨tms, bs, hk1, hst⟩ := sim_start hin hk
  obtain ⟨hb1, hk2⟩ := chk_inv hk1
  simp only [Bool.and_eq_true] at hb1
  have hlen : us.length ≤ fn.ntmps := by
    rw [← hin.args.len]
    exact Nat.le_of_ble_eq_true hb1.1
  obtain ⟨h8, β0, hs⟩ := hst hb1.2 hlen
  refine calls_of_wp hf hb ?_
  have fin : ∀ (s' : St) (a' : Act) (w' : World) (β' : Bt), retK C P f fn args s' = some res → Sim fn.ntmps w (lendOf bt args h8) Y β' s' a' w' →
      a'.defers = [] ∧ ∃ v, (results fn a'.tmps).run P w' = .ok v w' ∧ ∃ vs own, Ending.returned v = .returned (retVal vs) ∧ Out w w' Y bt args own res vs := by
    intro s' a' w' β' hr h
    unfold retK at hr
    obtain ⟨vs, l, z, us', hr1, hus, hll, hL, hz, hv⟩ := outvsK_inv h hr
    obtain ⟨os, l', z', q, hr2, hL', hz', hq, hpi, hv'⟩ := backsK_inv h (bt := bt) (fun _ => rfl) hr1 (fun k p h1 h2 => by rw [Nat.zero_add]; exact ⟨p, h1, h2⟩)
    obtain ⟨hnd, hr3⟩ := chk_inv hr2
    cases hr3
    simp only [Bool.and_eq_true] at hnd
    obtain ⟨hnd, hdis⟩ := hnd
    obtain ⟨hn1, hn2, hn3⟩ := nodupB_app hnd
    have hfz : ∀ i ∈ z ++ z', i ∉ (l.filterMap id ++ l'.filterMap id) ++ q := by
      intro i hi hm'
      have := List.all_eq_true.1 hdis i hi
      have h2 : ((l.filterMap id ++ l'.filterMap id) ++ q).any (Nat.beq i) = true := List.any_eq_true.2 ⟨i, hm', Nat.beq_refl i⟩
      rw [h2] at this
      cases this
    have hrow : RowId s' (z ++ z') := by
      intro i hi
      rcases List.mem_append.1 hi with hi | hi
      · exact hz i hi
      · exact hz' i hi
    refine ⟨h.dfr, retVal us', results_run hus, us', ownOf β' (l ++ l'), rfl, ?_⟩
    have hnd' : nodupB ((l ++ l').filterMap id) = true := by rw [List.filterMap_append]; exact hn1
    have hown : ∀ j b o, ownOf β' (l ++ l') j = some (b, o) → ∃ id, (l ++ l')[j]? = some (some id) ∧ β' id = some (b, o) := by
      intro j b o hj
      unfold ownOf at hj
      cases hlj : (l ++ l')[j]? with
      | none => rw [hlj] at hj; cases hj
      | some q =>
        cases q with
        | none => rw [hlj] at hj; cases hj
        | some id =>
          rw [hlj] at hj
          exact ⟨id, rfl, hj⟩
    have hmem : ∀ (j i : Nat), (l ++ l')[j]? = some (some i) → i ∈ l.filterMap id ++ l'.filterMap id := by
      intro j i hj
      rw [← List.filterMap_append]
      exact List.mem_filterMap.2 ⟨some i, List.mem_of_getElem? hj, rfl⟩
    have hlive : ∀ (j i : Nat), (l ++ l')[j]? = some (some i) → liveB (s'.hp i) := by
      intro j i hj
      rcases List.mem_append.1 (List.mem_of_getElem? hj) with hm' | hm'
      · exact hL i hm'
      · obtain ⟨c, hc⟩ := hL' i hm'
        rw [hc]; trivial
    have hunfz : ∀ i, i ∈ (l.filterMap id ++ l'.filterMap id) ++ q → freezeIds s'.hp (z ++ z') i = s'.hp i := by
      intro i hi
      rw [freeze_get, if_neg (fun hm' => hfz i hm' hi)]
    -- what was lent
    have hpinL : ∀ i b o, bt i 0 = some (b, o) → pinId fn.ntmps i ∈ q ∧ liveB (s'.hp (pinId fn.ntmps i)) ∧ β' (pinId fn.ntmps i) = some (b, o) := by
      intro i b o hb0
      obtain ⟨p, h1, h2⟩ := hin.l0 i _ hb0
      have h3 := hpi i p h1 h2
      rw [Nat.zero_add] at h3
      exact ⟨h3, hq _ h3, (h.pin i ⟨p, h1, h2⟩).2.trans hb0⟩
    have hAO : ∀ b, OutA bt (ownOf β' (l ++ l')) Y b → Aof (freezeIds s'.hp (z ++ z')) β' Y b := by
      rintro b (⟨j, o, hj⟩ | ⟨i, o, hb0⟩ | hY)
      · obtain ⟨id, h1, h2⟩ := hown j b o hj
        refine .inl ⟨id, o, ?_, h2⟩
        rw [hunfz id (List.mem_append.2 (.inl (hmem j id h1)))]
        exact hlive j id h1
      · obtain ⟨h1, h2, h3⟩ := hpinL i b o hb0
        refine .inl ⟨_, o, ?_, h3⟩
        rw [hunfz _ (List.mem_append.2 (.inr h1))]
        exact h2
      · exact .inr hY
    have hnew : ∀ (j id b o : Nat), (l ++ l')[j]? = some (some id) → β' id = some (b, o) → b < w.heap.size → ∃ i k o', bt i (k + 1) = some (b, o') := by
      intro j id b o hj hβ hlt
      rcases h.ownd b ⟨id, o, hlive j id hj, hβ⟩ with ⟨i, k, o', hb0⟩ | hge
      · cases k with
        | zero =>
          obtain ⟨h1, h2, h3⟩ := hpinL i b o' hb0
          have := h.inj id _ b o o' (hlive j id hj) h2 hβ h3
          subst this
          exact absurd h1 (hn3 _ (hmem j _ hj))
        | succ k => exact ⟨i, k, o', hb0⟩
      · omega
    refine ⟨h.fr.os, h.fr.tape, h.fr.output, h.fr.step, h.fr.rng, ?_, ?_, ?_, ?_⟩
    · refine hv (z ++ z') _ _ (fun i hi => List.mem_append.2 (.inl hi)) hrow hAO (fun id c b o hi hc hβ => ?_) _ 0 (fun j hj => by rw [Nat.zero_add, ownOf_app1 hj])
      rcases Nat.lt_or_ge b w.heap.size with hlt | hge
      · obtain ⟨k, hk', p, h1, h2⟩ := h.stp id c b o hc hβ hlt
        have h3 := hpi k p h1 h2
        rw [Nat.zero_add, ← hk'] at h3
        obtain ⟨j, hj⟩ := List.mem_iff_getElem?.1 hi
        refine absurd h3 (hn3 id ?_)
        exact List.mem_append.2 (.inl (List.mem_filterMap.2 ⟨some id, hi, rfl⟩))
      · exact hge
    · refine hv' (z ++ z') _ (fun i hi => List.mem_append.2 (.inr hi)) hrow (fun i hi hm' => hfz i hm' (List.mem_append.2 (.inr hi))) hAO _ _ (fun j hj => ?_)
      rw [← hll, ownOf_app2]
    · intro j b o hj
      obtain ⟨id, h1, h2⟩ := hown j b o hj
      refine ⟨h.blt id b o (liveB_some (hlive j id h1)) h2, fun hlt => ⟨hnew j id b o h1 h2 hlt, fun x hx => ?_⟩⟩
      cases hbx : s'.hp id with
      | none => have := hlive j id h1; rw [hbx] at this; exact this.elim
      | some bx =>
        have hl1 := hlive j id h1
        rw [hbx] at hl1
        cases bx with
        | st c =>
          obtain ⟨k, hk', p, h3, h4⟩ := h.stp id c b o hbx h2 hlt
          have h5 := hpi k p h3 h4
          rw [Nat.zero_add, ← hk'] at h5
          exact absurd h5 (hn3 _ (hmem j _ h1))
        | ar fz c => exact h.rngB id _ b o hbx hl1 h2 hlt x hx
        | mv => exact hl1.elim
    · intro j j' b o o' hj hj'
      obtain ⟨id, h1, h2⟩ := hown j b o hj
      obtain ⟨id', h1', h2'⟩ := hown j' b o' hj'
      have := h.inj id id' b o o' (hlive j id h1) (hlive j' id' h1') h2 h2'
      subst this
      exact nodup_at hnd' h1 h1'
  have hE : Env P G w (lendOf bt args h8) := ⟨hNG, fun w' hfr => G.stable w w' (fun b hb hlt => hfr.step.keep b hlt (hGY b hb).2) hG, hGY⟩
  refine pevK_sound hE hcall hm c hs hk2 (fun s' a' w' β' hr h => fin s' a' w' β' hr h) (fun id s' a' w' β' hr h => by cases hr) (fun s' a' w' β' hr h => fin s' a' w' β' hr h)

/-- What is known of functions otherwise is so. -/
def ExtOk (G : Glo) (P : Program) (C : Cfg) : Prop := ∀ f g args res, C.ext f = some g → g args = some res → SoundC G P f args res

theorem pcall_sound {G : Glo} (hNG : NoNG P) (hm : P.follows .mixedOrders = true) {C : Cfg} (hx : ExtOk G P C) {fu : Nat} : ∀ (d : Nat) (f : FuncId) (args : List PV) (res : Res), pcall C P fu d f args = some res → SoundC G P f args res
  | 0, _, _, _, h => by cases h
  | d + 1, f, args, res, h => by
    unfold pcall at h
    split at h
    · rename_i g hg
      exact hx f g args res hg h
    · split at h
      · cases h
      · rename_i fn hf
        split at h
        · cases h
        · rename_i c hb
          exact pfun_sound hNG hm (pcall_sound hNG hm hx d) hf hb h
end

end Go.Proofs.Ytaphhfehcbkfkaa.Pv

namespace Go.Proofs.Ytaphhfehcbkfkaa.Pv
open Go.ChangeShapes Go.WideShapes Go.ChangeAt Go.RowKit Go.Deep

/- A type whose values are trees. -/
def offsOk (P : Program) : List Field → Nat → Nat → Bool
  | [], i, n => Nat.beq i n
  | f :: r, i, n => Nat.beq f.offset i && offsOk P r (i + P.cellsOf f.type) n

def plainTy (P : Program) : Nat → TypeId → Bool
  | 0, _ => false
  | d + 1, t =>
    match P.underlying t with
    | some .bool => true
    | some (.int _) => true
    | some .string => true
    | some (.slice e) => plainTy P d e && Nat.blt 0 (P.cellsOf e)
    | some (.struct fs) => offsOk P fs.toList 0 (P.cellsOf t) && fs.toList.all fun f => plainTy P d f.type
    | some (.array n e) => Nat.beq (P.cellsOf t) (n * P.cellsOf e) && plainTy P d e
    | _ => false

/-- A row of cells that is a tree of a type. -/
def WT (P : Program) : Nat → TypeId → List PV → Prop
  | 0, _, _ => False
  | d + 1, t, ps =>
    match P.underlying t with
    | some .bool => ∃ b, ps = [.sc (.bool b)]
    | some (.int k) => ∃ n, ps = [.sc (.int k n)] ∧ (Lit.int k n).wf = true
    | some .string => ∃ s : ByteArray, ps = [.sc (.string s)] ∧ s.size ≤ maxLen
    | some (.slice e) => ∃ rows : List (List PV), ps = [.lst false (P.cellsOf e) rows.length rows.flatten] ∧ rows.length ≤ maxLen ∧ ∀ r ∈ rows, r.length = P.cellsOf e ∧ WT P d e r
    | some (.struct fs) => ∃ rows : List (List PV), ps = rows.flatten ∧ All2 (fun f r => WT P d f.type r) fs.toList rows
    | some (.array n e) => ∃ rows : List (List PV), ps = rows.flatten ∧ rows.length = n ∧ ∀ r ∈ rows, r.length = P.cellsOf e ∧ WT P d e r
    | _ => False

def WTv (P : Program) (t : TypeId) (p : PV) : Prop :=
  match isAggB P t with
  | true => ∃ ps, p = .agg ps ∧ WT P 12 t ps
  | false => WT P 12 t [p]

section
variable {P : Program} {d : Nat} {t e : TypeId} {ps : List PV}
theorem WT_bool (hu : P.underlying t = some .bool) : WT P (d + 1) t ps ↔ ∃ b, ps = [.sc (.bool b)] := by
  show (match P.underlying t with | some .bool => _ | some (.int k) => _ | some .string => _ | some (.slice e) => _ | some (.struct fs) => _ | some (.array n e) => _ | _ => _) ↔ _
  rw [hu]
theorem WT_int {k : IntKind} (hu : P.underlying t = some (.int k)) : WT P (d + 1) t ps ↔ ∃ n, ps = [.sc (.int k n)] ∧ (Lit.int k n).wf = true := by
  show (match P.underlying t with | some .bool => _ | some (.int k) => _ | some .string => _ | some (.slice e) => _ | some (.struct fs) => _ | some (.array n e) => _ | _ => _) ↔ _
  rw [hu]
theorem WT_string (hu : P.underlying t = some .string) : WT P (d + 1) t ps ↔ ∃ s : ByteArray, ps = [.sc (.string s)] ∧ s.size ≤ maxLen := by
  show (match P.underlying t with | some .bool => _ | some (.int k) => _ | some .string => _ | some (.slice e) => _ | some (.struct fs) => _ | some (.array n e) => _ | _ => _) ↔ _
  rw [hu]
theorem WT_slice (hu : P.underlying t = some (.slice e)) : WT P (d + 1) t ps ↔ ∃ rows : List (List PV), ps = [.lst false (P.cellsOf e) rows.length rows.flatten] ∧ rows.length ≤ maxLen ∧ ∀ r ∈ rows, r.length = P.cellsOf e ∧ WT P d e r := by
  show (match P.underlying t with | some .bool => _ | some (.int k) => _ | some .string => _ | some (.slice e) => _ | some (.struct fs) => _ | some (.array n e) => _ | _ => _) ↔ _
  rw [hu]
theorem WT_struct {fs : Array Field} (hu : P.underlying t = some (.struct fs)) : WT P (d + 1) t ps ↔ ∃ rows : List (List PV), ps = rows.flatten ∧ All2 (fun f r => WT P d f.type r) fs.toList rows := by
  show (match P.underlying t with | some .bool => _ | some (.int k) => _ | some .string => _ | some (.slice e) => _ | some (.struct fs) => _ | some (.array n e) => _ | _ => _) ↔ _
  rw [hu]
theorem WT_array {n : Nat} (hu : P.underlying t = some (.array n e)) : WT P (d + 1) t ps ↔ ∃ rows : List (List PV), ps = rows.flatten ∧ rows.length = n ∧ ∀ r ∈ rows, r.length = P.cellsOf e ∧ WT P d e r := by
  show (match P.underlying t with | some .bool => _ | some (.int k) => _ | some .string => _ | some (.slice e) => _ | some (.struct fs) => _ | some (.array n e) => _ | _ => _) ↔ _
  rw [hu]
end

/- The same, by the kind of a type. -/
inductive Ki where
  | bool
  | int (k : IntKind)
  | str
  | sl (e : TypeId)
  | st (ts : List TypeId)
  | ar (n : Nat) (e : TypeId)
  | no

def kindOf (P : Program) (t : TypeId) : Ki :=
  match P.underlying t with
  | some .bool => .bool
  | some (.int k) => .int k
  | some .string => .str
  | some (.slice e) => .sl e
  | some (.struct fs) => .st (fs.toList.map (·.type))
  | some (.array n e) => .ar n e
  | _ => .no

section
variable {P : Program} {d : Nat} {t e : TypeId} {ps : List PV} {p : PV}
theorem All2.map_left {α β γ : Type} {g : α → γ} {R : γ → β → Prop} : ∀ {l : List α} {r : List β}, All2 (fun a b => R (g a) b) l r → All2 R (l.map g) r
  | [], [], _ => trivial
  | _ :: _, _ :: _, h => ⟨h.1, All2.map_left h.2⟩
  | [], _ :: _, h => h.elim
  | _ :: _, [], h => h.elim
theorem All2.cons_inv {α β : Type} {R : α → β → Prop} {a : α} {as : List α} : ∀ {rs : List β}, All2 R (a :: as) rs → ∃ r rs', rs = r :: rs' ∧ R a r ∧ All2 R as rs'
  | [], h => h.elim
  | r :: rs, h => ⟨r, rs, rfl, h.1, h.2⟩
theorem All2.nil_inv {α β : Type} {R : α → β → Prop} : ∀ {rs : List β}, All2 R ([] : List α) rs → rs = []
  | [], _ => rfl
  | _ :: _, h => h.elim
theorem ki_bool (hk : kindOf P t = .bool) (h : WT P d t ps) : ∃ b, ps = [.sc (.bool b)] := by
  cases d with
  | zero => exact h.elim
  | succ d =>
  unfold kindOf at hk
  split at hk <;> first | cases hk | skip
  rename_i hu
  exact (WT_bool hu).1 h
theorem ki_int {k : IntKind} (hk : kindOf P t = .int k) (h : WT P d t ps) : ∃ n, ps = [.sc (.int k n)] ∧ (Lit.int k n).wf = true := by
  cases d with
  | zero => exact h.elim
  | succ d =>
  unfold kindOf at hk
  split at hk <;> first | cases hk | skip
  rename_i hu
  exact (WT_int hu).1 h
theorem ki_str (hk : kindOf P t = .str) (h : WT P d t ps) : ∃ s : ByteArray, ps = [.sc (.string s)] ∧ s.size ≤ maxLen := by
  cases d with
  | zero => exact h.elim
  | succ d =>
  unfold kindOf at hk
  split at hk <;> first | cases hk | skip
  rename_i hu
  exact (WT_string hu).1 h
theorem ki_sl (hk : kindOf P t = .sl e) (h : WT P d t ps) : ∃ rows : List (List PV), ps = [.lst false (P.cellsOf e) rows.length rows.flatten] ∧ rows.length ≤ maxLen ∧ ∀ r ∈ rows, r.length = P.cellsOf e ∧ WT P (d - 1) e r := by
  cases d with
  | zero => exact h.elim
  | succ d =>
  rw [Nat.add_sub_cancel]
  unfold kindOf at hk
  split at hk <;> first | cases hk | skip
  rename_i hu
  exact (WT_slice hu).1 h
theorem ki_st {ts : List TypeId} (hk : kindOf P t = .st ts) (h : WT P d t ps) : ∃ rows : List (List PV), ps = rows.flatten ∧ All2 (WT P (d - 1)) ts rows := by
  cases d with
  | zero => exact h.elim
  | succ d =>
  rw [Nat.add_sub_cancel]
  unfold kindOf at hk
  split at hk <;> first | cases hk | skip
  rename_i fs hu
  obtain ⟨rows, h1, h2⟩ := (WT_struct hu).1 h
  exact ⟨rows, h1, All2.map_left h2⟩
theorem ki_ar {n : Nat} (hk : kindOf P t = .ar n e) (h : WT P d t ps) : ∃ rows : List (List PV), ps = rows.flatten ∧ rows.length = n ∧ ∀ r ∈ rows, r.length = P.cellsOf e ∧ WT P (d - 1) e r := by
  cases d with
  | zero => exact h.elim
  | succ d =>
  rw [Nat.add_sub_cancel]
  unfold kindOf at hk
  split at hk <;> first | cases hk | skip
  rename_i hu
  exact (WT_array hu).1 h

theorem wtv_agg (hk : isAggB P t = true) (h : WTv P t p) : ∃ ps, p = .agg ps ∧ WT P 12 t ps := by
  unfold WTv at h
  rw [hk] at h
  exact h
theorem wtv_one (hk : isAggB P t = false) (h : WTv P t p) : WT P 12 t [p] := by
  unfold WTv at h
  rw [hk] at h
  exact h
theorem wtv_bool (ha : isAggB P t = false) (hk : kindOf P t = .bool) (h : WTv P t p) : ∃ b, p = .sc (.bool b) := by
  obtain ⟨b, e⟩ := ki_bool hk (wtv_one ha h)
  exact ⟨b, by injection e⟩
theorem wtv_int {k : IntKind} (ha : isAggB P t = false) (hk : kindOf P t = .int k) (h : WTv P t p) : ∃ n, p = .sc (.int k n) ∧ (Lit.int k n).wf = true := by
  obtain ⟨b, e, h⟩ := ki_int hk (wtv_one ha h)
  exact ⟨b, by injection e, h⟩
theorem wtv_str (ha : isAggB P t = false) (hk : kindOf P t = .str) (h : WTv P t p) : ∃ s : ByteArray, p = .sc (.string s) ∧ s.size ≤ maxLen := by
  obtain ⟨b, e, h⟩ := ki_str hk (wtv_one ha h)
  exact ⟨b, by injection e, h⟩
theorem wtv_sl (ha : isAggB P t = false) (hk : kindOf P t = .sl e) (h : WTv P t p) : ∃ rows : List (List PV), p = .lst false (P.cellsOf e) rows.length rows.flatten ∧ rows.length ≤ maxLen ∧ ∀ r ∈ rows, r.length = P.cellsOf e ∧ WT P (12 - 1) e r := by
  obtain ⟨b, e, h⟩ := ki_sl hk (wtv_one ha h)
  exact ⟨b, by injection e, h⟩
theorem rows_native {α : Type} (f : α → List PV) (Q : α → Prop) : ∀ {rows : List (List PV)}, (∀ r ∈ rows, ∃ x, r = f x ∧ Q x) → ∃ xs : List α, rows.flatten = xs.flatMap f ∧ rows.length = xs.length ∧ ∀ x ∈ xs, Q x
  | [], _ => ⟨[], rfl, rfl, by simp⟩
  | r :: rows, h => by
    obtain ⟨x, h1, h2⟩ := h r (by simp)
    obtain ⟨xs, h3, h4, h5⟩ := rows_native (rows := rows) f Q fun r hr => h r (by simp [hr])
    refine ⟨x :: xs, by simp [h1, h3], by simp [h4], fun y hy => ?_⟩
    rcases List.mem_cons.1 hy with rfl | hy
    · exact h2
    · exact h5 y hy
end

abbrev No : Nat → Prop := fun _ => False

section
variable {H : Type} {enc : TypeId × Value → H} {P : Program} {w : World} {base : Nat} {held : Bool}

theorem All2.flat {α β : Type} {R : α → β → Prop} : ∀ {l : List Nat} {f : Nat → List α} {g : Nat → List β}, (∀ i ∈ l, All2 R (f i) (g i)) → All2 R (l.map f).flatten (l.map g).flatten
  | [], _, _, _ => trivial
  | i :: l, f, g, h => by
    simp only [List.map_cons, List.flatten_cons]
    exact (h i (by simp)).app (All2.flat fun j hj => h j (by simp [hj]))

theorem cell_some {a : Addr} {v : Value} (h : w.cell? a = some v) : a.spot = none ∧ a.block < w.heap.size := by
  unfold World.cell? at h
  split at h
  · rename_i c t f e
    refine ⟨?_, ?_⟩
    · cases hs : a.spot with
      | none => rfl
      | some x => rw [hs] at h; simp at h
    · rcases Nat.lt_or_ge a.block w.heap.size with h1 | h1
      · exact h1
      · rw [Array.getElem?_eq_none h1] at e; cases e
  · cases h

theorem flat_len {α : Type} {g : Nat → List α} {es : Nat} : ∀ {n : Nat}, (∀ i, i < n → (g i).length = es) → ((List.range n).map g).flatten.length = n * es
  | 0, _ => by simp
  | n + 1, h => by
    rw [List.range_succ, List.map_append, List.flatten_append, List.length_append, flat_len (fun i hi => h i (by omega))]
    simp [h n (by omega), Nat.succ_mul]

theorem cells_flat {a : Addr} {g : Nat → List Value} {es : Nat} : ∀ {n : Nat}, (∀ i, i < n → (g i).length = es) → (∀ i, i < n → ∀ k, k < es → w.cell? (a.add (i * es + k)) = (g i)[k]?) →
    ∀ j, j < n * es → w.cell? (a.add j) = (((List.range n).map g).flatten)[j]?
  | 0, _, _, j, hj => by omega
  | n + 1, hl, hc, j, hj => by
    have hfl := flat_len (fun i (hi : i < n) => hl i (by omega))
    rw [List.range_succ, List.map_append, List.flatten_append, List.getElem?_append, hfl]
    rw [Nat.succ_mul] at hj
    split
    · rename_i h1
      exact cells_flat (fun i hi => hl i (by omega)) (fun i hi => hc i (by omega)) j h1
    · rename_i h1
      have := hc n (by omega) (j - n * es) (by omega)
      rw [show n * es + (j - n * es) = j by omega] at this
      simpa using this

abbrev TR (w : World) (c : PV) (v : Value) : Prop := (isT c ∧ TRep w No c v) ∧ v.oneCell' = true

theorem fields_read {d : Nat} {cs : List Value} {n : Nat} (hn : cs.length = n) : ∀ (l : List Field) (i : Nat), offsOk P l i n = true →
    (∀ f ∈ l, ∃ ps, WT P d f.type ps ∧ All2 (TR w) ps ((cs.drop f.offset).take (P.cellsOf f.type))) → ∃ rows : List (List PV), All2 (fun f r => WT P d f.type r) l rows ∧ All2 (TR w) rows.flatten (cs.drop i)
  | [], i, ho, _ => by
    have := Nat.eq_of_beq_eq_true ho
    refine ⟨[], trivial, ?_⟩
    rw [List.drop_of_length_le (by omega)]
    trivial
  | f :: l, i, ho, h => by
    simp only [offsOk, Bool.and_eq_true] at ho
    have ho1 := Nat.eq_of_beq_eq_true ho.1
    obtain ⟨ps, h1, h2⟩ := h f (by simp)
    obtain ⟨rows, h3, h4⟩ := fields_read hn l _ ho.2 fun g hg => h g (by simp [hg])
    refine ⟨ps :: rows, ⟨h1, h3⟩, ?_⟩
    rw [ho1] at h2
    have : cs.drop i = (cs.drop i).take (P.cellsOf f.type) ++ cs.drop (i + P.cellsOf f.type) := by rw [← List.drop_drop]; exact (List.take_append_drop _ _).symm
    rw [this, List.flatten_cons]
    exact h2.app h4

theorem elems_read {d : Nat} {e : TypeId} {cs : List Value} {k : Nat} : ∀ (n : Nat), n * k ≤ cs.length →
    (∀ i, i < n → ∃ ps, (ps.length = k ∧ WT P d e ps) ∧ All2 (TR w) ps ((cs.drop (i * k)).take k)) → ∃ rows : List (List PV), rows.length = n ∧ (∀ r ∈ rows, r.length = k ∧ WT P d e r) ∧ All2 (TR w) rows.flatten (cs.take (n * k))
  | 0, _, _ => ⟨[], rfl, by simp, by simp [All2]⟩
  | n + 1, hl, h => by
    rw [Nat.succ_mul] at hl
    obtain ⟨rows, h1, h2, h3⟩ := elems_read n (by omega) fun i hi => h i (by omega)
    obtain ⟨ps, h4, h5⟩ := h n (by omega)
    refine ⟨rows ++ [ps], by simp [h1], ?_, ?_⟩
    · intro r hr
      rcases List.mem_append.1 hr with hr | hr
      · exact h2 r hr
      · rw [List.mem_singleton.1 hr]; exact h4
    · rw [List.flatten_append, Nat.succ_mul, List.take_add]
      refine h3.app ?_
      simpa using h5

/-- Cells that can be read as data of a plain type are a tree. -/
theorem read_tree : ∀ (d : Nat) (t : TypeId), plainTy P d t = true → ∀ (fuel : Nat) (cs : List Value) (x : DataW H × List MemPlace), DataW.trod enc P w base (fun _ => true) held fuel t cs = some x →
    ∃ ps, WT P d t ps ∧ All2 (TR w) ps cs
  | 0, _, h, _, _, _, _ => by cases h
  | d + 1, t, hp, fuel, cs, x, h => by
    unfold plainTy at hp
    split at hp
    · rename_i hu
      obtain ⟨b, rfl, _⟩ := DataW.trod_bool hu h
      simp only [WT_bool hu]
      exact ⟨[.sc (.bool b)], ⟨b, rfl⟩, ⟨⟨trivial, TRep.sc _⟩, rfl⟩, trivial⟩
    · rename_i k hu
      obtain ⟨n, rfl, _, hw⟩ := DataW.trod_int hu h
      simp only [WT_int hu]
      exact ⟨[.sc (.int k n)], ⟨n, rfl, hw⟩, ⟨⟨trivial, TRep.sc _⟩, rfl⟩, trivial⟩
    · rename_i hu
      obtain ⟨s, rfl, _, hw⟩ := DataW.trod_string hu h
      simp only [WT_string hu]
      exact ⟨[.sc (.string s)], ⟨s, rfl, hw⟩, ⟨⟨trivial, TRep.sc _⟩, rfl⟩, trivial⟩
    · rename_i e hu
      simp only [Bool.and_eq_true] at hp
      have hes : 0 < P.cellsOf e := Nat.lt_of_succ_le (Nat.le_of_ble_eq_true hp.2)
      simp only [WT_slice hu]
      rcases open_slice hu h with ⟨rfl, _⟩ | ⟨a, len, cap, m, n, D, Pl, rfl, _, hl, hm, hmm, _, hi⟩
      · exact ⟨[.lst false (P.cellsOf e) 0 []], ⟨[], by simp, by simp, by simp⟩, ⟨⟨trivial, TRep.lnil _ _⟩, rfl⟩, trivial⟩
      · simp only [if_true] at hmm
        subst hmm
        have hi' : ∀ i, i < len → ∃ q : List PV × List Value, (q.2.length = P.cellsOf e ∧ (∀ k, k < P.cellsOf e → w.cell? (a.add (i * P.cellsOf e + k)) = q.2[k]?)) ∧ WT P d e q.1 ∧ All2 (TR w) q.1 q.2 := by
          intro i hlt
          obtain ⟨cs', hc, ht⟩ := hi i (by omega)
          obtain ⟨_, hcl, hat⟩ := World.cells?_some hc
          obtain ⟨ps, h1, h2⟩ := read_tree d e hp.1 _ _ _ ht
          exact ⟨(ps, cs'), ⟨hcl, fun k hk => by rw [← Pv.add_add]; exact hat k hk⟩, h1, h2⟩
        obtain ⟨F, hF⟩ := choose_lt hi'
        refine ⟨[.lst false (P.cellsOf e) len ((List.range len).map fun i => (F i).1).flatten], ⟨(List.range len).map fun i => (F i).1, by simp, by simp; omega, ?_⟩, ⟨⟨trivial, ?_⟩, rfl⟩, trivial⟩
        · intro r hr
          obtain ⟨i, hi1, rfl⟩ := List.mem_map.1 hr
          have hi2 := List.mem_range.1 hi1
          exact ⟨by rw [(hF i hi2).2.2.len]; exact (hF i hi2).1.1, (hF i hi2).2.1⟩
        · rcases Nat.eq_zero_or_pos len with h0 | h0
          · subst h0
            exact TRep.lemp _ _ _
          · have hall : All2 (TR w) ((List.range len).map fun i => (F i).1).flatten ((List.range len).map fun i => (F i).2).flatten := All2.flat fun i hi => (hF i (List.mem_range.1 hi)).2.2
            have hcell := cells_flat (w := w) (a := a) (g := fun i => (F i).2) (fun i hi => (hF i hi).1.1) (fun i hi => (hF i hi).1.2)
            have hlen := flat_len (g := fun i => (F i).2) (fun i (hi : i < len) => (hF i hi).1.1)
            have h00 : w.cell? a ≠ none := by
              have := hcell 0 (Nat.mul_pos h0 hes)
              rw [show a.add 0 = a by unfold Addr.add; simp] at this
              rw [this, List.getElem?_eq_getElem (by rw [hlen]; exact Nat.mul_pos h0 hes)]
              simp
            obtain ⟨v0, hv0⟩ := Option.ne_none_iff_exists'.1 h00
            obtain ⟨hs, hb⟩ := cell_some hv0
            have key : ∀ j c, (((List.range len).map fun i => (F i).1).flatten)[j]? = some c → ∃ v, w.cell? (a.add j) = some v ∧ TR w c v := by
              intro j c hj
              have hlj : j < len * P.cellsOf e := by
                rw [← hlen, ← hall.len]
                rcases Nat.lt_or_ge j (((List.range len).map fun i => (F i).1).flatten).length with h1 | h1
                · exact h1
                · rw [List.getElem?_eq_none h1] at hj; cases hj
              have h1 := hcell j hlj
              rw [List.getElem?_eq_getElem (by rw [hlen]; exact hlj)] at h1
              exact ⟨_, h1, hall.at_ hj (List.getElem?_eq_getElem (by rw [hlen]; exact hlj))⟩
            refine TRep.lst _ _ _ a _ (fun j => (w.cell? (a.add j)).getD undef) hs hb (fun h => h) hl (fun j c hj => ?_) (fun j c hj => ?_) (fun j c hj => ?_)
            · obtain ⟨v, hv, _⟩ := key j c hj; rw [hv]; rfl
            · obtain ⟨v, hv, ht⟩ := key j c hj; rw [hv]; exact ht.2
            · obtain ⟨v, hv, ht⟩ := key j c hj; rw [hv]; exact ht.1.2
    · rename_i fs hu
      simp only [Bool.and_eq_true] at hp
      simp only [WT_struct hu]
      obtain ⟨xs, n, _, _, hlen, hxl, hf⟩ := DataW.trod_struct hu h
      obtain ⟨rows, h1, h2⟩ := fields_read (P := P) (w := w) (d := d) hlen fs.toList 0 hp.1 fun f hf' => by
        obtain ⟨i, hi⟩ := List.mem_iff_getElem?.1 hf'
        have hi' : fs[i]? = some f := by simpa using hi
        have hlt : i < fs.size := (Array.getElem?_eq_some_iff.1 hi').1
        have h3 := hf i f hi'
        rw [List.getElem?_eq_getElem (by omega)] at h3
        exact read_tree d f.type (List.all_eq_true.1 hp.2 f hf') _ _ _ h3
      exact ⟨_, ⟨rows, rfl, h1⟩, by simpa using h2⟩
    · rename_i n e hu
      simp only [Bool.and_eq_true] at hp
      simp only [WT_array hu]
      obtain ⟨xs, m, _, _, hlen, hxl, hf⟩ := DataW.trod_array hu h
      have hsz := Nat.eq_of_beq_eq_true hp.1
      obtain ⟨rows, h1, h2, h3⟩ := elems_read (P := P) (w := w) (d := d) (e := e) (cs := cs) (k := P.cellsOf e) n (by omega) fun i hi => by
        have h3 := hf i hi
        rw [List.getElem?_eq_getElem (by omega)] at h3
        obtain ⟨ps, h4, h5⟩ := read_tree d e hp.2 _ _ _ h3
        refine ⟨ps, ⟨?_, h4⟩, h5⟩
        rw [h5.len, List.length_take, List.length_drop, hlen, hsz]
        have : (i + 1) * P.cellsOf e ≤ n * P.cellsOf e := Nat.mul_le_mul_right _ hi
        rw [Nat.succ_mul] at this
        omega
      refine ⟨_, ⟨rows, rfl, h1, h2⟩, ?_⟩
      rw [List.take_of_length_le (by omega)] at h3
      exact h3
    · cases hp

theorem read_val {r : Reach} {b0 : Nat} {t : TypeId} {v : Value} {dd : DataW H} {p : List MemPlace} (hp : plainTy P 12 t = true) (hv : Value.okWide P w r b0 t v) (h : DataW.Trod enc P w base (fun _ => true) held t v dd p) :
    ∃ q, WTv P t q ∧ ARep w No q v := by
  obtain ⟨fuel, hf⟩ := h
  obtain ⟨ps, h1, h2⟩ := read_tree 12 t hp fuel _ _ hf
  unfold WTv isAggB
  have two : ∀ {cs : Array Value}, v = .agg cs → ∃ q, (∃ ps, q = .agg ps ∧ WT P 12 t ps) ∧ ARep w No q v := by
    intro cs e
    subst e
    exact ⟨.agg ps, ⟨ps, rfl, h1⟩, cs.toList, by simp, h2.mono fun c v h => h.1⟩
  have one : v.cells.toList = [v] → ∃ q, WT P 12 t [q] ∧ ARep w No q v := by
    intro e
    rw [e] at h2
    match ps, h2 with
    | [q], h2 =>
      refine ⟨q, h1, ?_⟩
      have h3 := h2.1.1
      cases q <;> first | exact h3 | exact h3.1.elim
    | [], h2 => exact h2.elim
    | _ :: _ :: _, h2 => exact h2.2.elim
  unfold plainTy at hp
  split at hp
  · rename_i hu
    simp only [hu]
    obtain ⟨b, rfl, _⟩ := open_bool hu hv ⟨fuel, hf⟩
    exact one rfl
  · rename_i k hu
    simp only [hu]
    obtain ⟨b, rfl, _⟩ := open_int hu hv ⟨fuel, hf⟩
    exact one rfl
  · rename_i hu
    simp only [hu]
    obtain ⟨b, rfl, _⟩ := ChangeMaps.open_string hu hv ⟨fuel, hf⟩
    exact one rfl
  · rename_i e hu
    simp only [hu]
    obtain ⟨a, len, cap, rfl⟩ := okWide_slice hu hv
    exact one rfl
  · rename_i fs hu
    simp only [hu]
    obtain ⟨cs, rfl, _⟩ := okWide_struct hu hv
    exact two rfl
  · rename_i n e hu
    simp only [hu]
    unfold Value.okWide at hv
    simp only [hu] at hv
    obtain ⟨cs, rfl, _⟩ := hv
    exact two rfl
  · cases hp

theorem read_args : ∀ {ts : List TypeId} {vs : List Value} {ds : List (DataW H)} {p : List MemPlace} {r : Reach} {b0 : Nat}, (ts.all fun t => plainTy P 12 t) = true → (∀ (j : Nat) t v, ts[j]? = some t → vs[j]? = some v → Value.okWide P w r b0 t v) →
    DataW.TrodAll enc P w base (fun _ => true) held ts vs ds p → ∃ qs, All2 (WTv P) ts qs ∧ All2 (ARep w No) qs vs
  | [], [], [], _, _, _, _, _, _ => ⟨[], trivial, trivial⟩
  | t :: ts, v :: vs, d :: ds, _, r, b0, hp, hv, ⟨p, q, h1, h2, _⟩ => by
    simp only [List.all_cons, Bool.and_eq_true] at hp
    obtain ⟨x, h3, h4⟩ := read_val hp.1 (hv 0 t v rfl rfl) h1
    obtain ⟨xs, h5, h6⟩ := read_args hp.2 (fun j t v ht hv' => hv (j + 1) t v ht hv') h2
    exact ⟨x :: xs, ⟨h3, h5⟩, h4, h6⟩
  | [], _ :: _, _, _, _, _, _, _, h => by cases h
  | [], [], _ :: _, _, _, _, _, _, h => by cases h
  | _ :: _, [], _, _, _, _, _, _, h => by cases h
  | _ :: _, _ :: _, [], _, _, _, _, _, h => by cases h

theorem trodAll_stays (hl : laidOutB P = true) {W W' : World} {sp : Nat → Bool} : ∀ {ts : List TypeId} {vs : List Value} {ds : List (DataW H)} {p : List MemPlace}, (ts.all fun t => P.readableRec t && Nat.blt t P.types.size) = true →
    DataW.TrodAll enc P W 0 (fun _ => true) true ts vs ds p → (∀ x ∈ p, W.sameAt W' x) → (∀ x ∈ p, sp x.block = true) → DataW.TrodAll enc P W' 0 sp true ts vs ds p
  | [], [], [], _, _, h, _, _ => h
  | t :: ts, v :: vs, d :: ds, _, hr, ⟨p, q, h1, h2, e⟩, hs, hsp => by
    simp only [List.all_cons, Bool.and_eq_true] at hr
    refine ⟨p, q, WideElems.Trod_stays hl hr.1.1 (Nat.lt_of_succ_le (Nat.le_of_ble_eq_true hr.1.2)) h1 (fun x hx => hs x ?_) (fun x hx => hsp x ?_), trodAll_stays hl hr.2 h2 (fun x hx => hs x ?_) (fun x hx => hsp x ?_), e⟩
    all_goals rw [e, List.mem_append]
    · exact .inl hx
    · exact .inl hx
    · exact .inr hx
    · exact .inr hx
  | [], _ :: _, _, _, _, h, _, _ => by cases h
  | [], [], _ :: _, _, _, h, _, _ => by cases h
  | _ :: _, [], _, _, _, h, _, _ => by cases h
  | _ :: _, _ :: _, [], _, _, h, _, _ => by cases h

theorem post_of_below {f : Func} {s : ChangeSpec} {apart fresh handsOn again : Bool} {W W' : World} {args : Array Value} {v : Value} {ds gs : List (DataW H)} {before pa pv : List MemPlace}
    (hW : DataW.Whole enc P f.params.toList s.vars apart W args.toList ds gs before)
    (hres : ∀ (b : Nat) (sp : Nat → Bool) (hd : Bool), DataW.TrodAll enc P W' b sp hd f.resultTypes.toList (v.resultList f.resultTypes.size) (s.fn H (ds ++ gs)).results [])
    (hargs : ∀ sp : Nat → Bool, (∀ p ∈ before, sp p.block = true) → DataW.TrodAll enc P W' 0 sp true f.params.toList args.toList (s.fn H (ds ++ gs)).args pa)
    (hvars : ∀ sp : Nat → Bool, (∀ p ∈ before, sp p.block = true) → DataW.TrodVars enc P W' sp s.vars (s.fn H (ds ++ gs)).vars pv)
    (hps : before = pa ++ pv) (hb : Below W.heap.size W W')
    (hok : ∀ (j : Nat) (t : TypeId) (r : Value), f.resultTypes[j]? = some t → (v.resultList f.resultTypes.size)[j]? = some r → Value.okWide P W' .any 0 t r) :
    s.post enc P f apart fresh handsOn again W args v W' := by
  have hlt : ∀ p ∈ before, p.block < W.heap.size := fun p hp => hW.lt p hp
  have hold : ∀ p ∈ before, (fun b => decide (b < W.heap.size)) p.block = true := fun p hp => by simpa using hlt p hp
  refine ⟨ds, gs, before, [], pa, pv, hW, hres _ _ _, hargs _ hold, hvars _ hold, World.keptBut_mono (fun p hp => ⟨hp, ?_⟩) (hb.frame (· ∈ before)), fun _ => ?_⟩
  · rw [hps, List.mem_append] at hp
    exact Or.inr hp
  · obtain ⟨_, _, _, _, _, hz, hn⟩ := hW
    refine ⟨hok, _, _, ([] ++ pa) ++ pv, ⟨[] ++ pa, pv, trodAll_append (hargs _ (fun _ _ => rfl)) (hres _ _ _), hvars _ (fun _ _ => rfl), rfl, ?_, ?_⟩, ?_⟩
    · intro b off hp
      have hin : MemPlace.cell b off ∈ before := by rw [hps]; simpa using hp
      rw [hb.frozen (hlt _ hin)]
      exact hz b off hin
    · intro ha
      have := hn ha
      rw [hps] at this
      simpa using this
    · intro p hp _
      rw [hps]
      simpa using hp

/-- What a law's plain equation gives: the contract of its row. -/
theorem law_contract {G : Glo} {C : Cfg} (hx : ExtOk G P C) (hNG : NoNG P) (hm : P.follows .mixedOrders = true) (hl : laidOutB P = true) {f : FuncId} {fn : Func} {s : ChangeSpec} {tb : TypeId} (hfn : P.funcs[f]? = some fn)
    (hvars : s.vars = []) (hspec : ∀ ds : List (DataW H), ds.length = fn.params.size → s.fn H ds = { results := [.lit (.bool true)], args := ds }) (hplain : (fn.params.toList.all fun t => plainTy P 12 t) = true)
    (hread : (fn.params.toList.all fun t => P.readableRec t && Nat.blt t P.types.size) = true) (hrt : fn.resultTypes = #[tb]) (hub : P.underlying tb = some .bool)
    {apart fresh handsOn again : Bool} (W : World) (base : Nat) (args : Array Value) (ds gs : List (DataW H)) (before : List MemPlace)
    (hval : ∀ (j : Nat) t v, fn.params[j]? = some t → args[j]? = some v → Value.okWide P W .any base t v)
    (hW : DataW.Whole enc P fn.params.toList s.vars apart W args.toList ds gs before)
    (hlaw : ∀ qs : List PV, All2 (WTv P) fn.params.toList qs → ∃ fu d, pcall C P fu d f qs = some ⟨[.sc (.bool true)], []⟩) (hG : G.ok W) (hGY : ∀ b, G.bl b → b < W.heap.size) :
    Calls P f args W fun e W' => ∃ v, e = .returned v ∧ s.post enc P fn apart fresh handsOn again W args v W' := by
  have hW' := hW
  obtain ⟨p, q, hA, hV, rfl, hfz, hnd⟩ := hW
  rw [hvars] at hV
  obtain ⟨rfl, rfl⟩ := trodVars_none hV
  obtain ⟨qs, h1, h2⟩ := read_args hplain (fun j t v ht hv => hval j t v (by simpa using ht) (by simpa using hv)) hA
  obtain ⟨fu, d, hc⟩ := hlaw qs h1
  have hS := (pcall_sound hNG hm hx d f qs _ hc).2 W No noBt args.toList (Ins_tree (fun b h => h.elim) h2) hG (fun b hb => ⟨hGY b hb, noBtX b⟩)
  rw [Array.toArray_toList] at hS
  refine hS.mono fun e W' ⟨vs, own, he, ho⟩ => ?_
  have hv := ho.vals
  have hvs : vs = [.bool true] := by
    match vs, hv with
    | [u], hv =>
      have : TRep W' _ (.sc (.bool true)) u := hv.1
      rw [this.val]
    | [], hv => exact hv.elim
    | _ :: _ :: _, hv => exact hv.2.elim
  subst hvs
  subst he
  have hb : Below W.heap.size W W' := ⟨ho.os, ho.tape, ho.output, ho.ext.size, fun k hk => ho.ext.keep k hk (noBtX k)⟩
  have hlt : ∀ x ∈ p, x.block < W.heap.size := fun x hx => hW'.lt x (by simpa using hx)
  have hlen : ds.length = fn.params.size := by
    have : ∀ {ts : List TypeId} {vs : List Value} {ds : List (DataW H)} {p : List MemPlace}, DataW.TrodAll enc P W 0 (fun _ => true) true ts vs ds p → ds.length = ts.length := by
      intro ts
      induction ts with
      | nil => intro vs ds p h; cases vs <;> cases ds <;> first | rfl | cases h
      | cons t ts ih =>
        intro vs ds p h
        cases vs with
        | nil => cases h
        | cons v vs =>
          cases ds with
          | nil => cases h
          | cons d ds => obtain ⟨_, _, _, h2, _⟩ := h; simp [ih h2]
    simpa using this hA
  have hsp := hspec (ds ++ []) (by simpa using hlen)
  refine ⟨_, rfl, post_of_below (pa := p) (pv := []) hW' ?_ ?_ ?_ rfl hb ?_⟩
  · intro b sp hd
    rw [hsp, hrt]
    exact trodAll_mk1 (shut_bool hub _)
  · intro sp hspb
    rw [hsp]
    simp only [List.append_nil]
    exact trodAll_stays hl hread hA (fun x hx => hb.same (hlt x hx)) (fun x hx => hspb x (by simpa using hx))
  · intro sp _
    rw [hsp, hvars]
    rfl
  · exact ok_one hrt rfl (okWide_bool_mk hub _)
end

end Go.Proofs.Ytaphhfehcbkfkaa.Pv
