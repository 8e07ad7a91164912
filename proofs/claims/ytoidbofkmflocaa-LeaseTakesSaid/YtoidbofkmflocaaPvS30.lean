/-
  Functions: arguments in, results out.
-/
import Derived.Test.YtoidbofkmflocaaPvS29
namespace Go.Proofs.Ytoidbofkmflocaa.Pv
open Go.RowKit

section
variable {R : Type} {r : R} {P : Program} {N : Nat} {w0 : World} {X0 Y : Nat → Prop} {β β' : Bt} {s : St} {a : Act} {w w' : World} {A : Nat → Prop}

theorem incK_tree {id : Nat} {t : CT} {p : PV} {K : PV → List (Nat × Box) → Option R} (hp : isT p) (hk : incK id t p K = some r) :
    ∃ c, K c [] = some r ∧ isT c ∧ ∀ w A v, TRep w A p v → TRep w A c v := by
  have tree : ∀ t', (tcK t' p fun c => K c []) = some r → ∃ c, K c [] = some r ∧ isT c ∧ ∀ w A v, TRep w A p v → TRep w A c v := by
    intro t' hk
    obtain ⟨c, hk, hT, _, hv⟩ := tcK_inv hk
    exact ⟨c, hk, hT, fun w A v h => (hv w A (fun _ => none) v ((CRep_isT hp).2 h)).1⟩
  unfold incK at hk
  cases t with
  | sl es =>
    dsimp only at hk
    split at hk
    · exact hp.elim
    · exact tree (.sl es) hk
  | int k => exact tree _ hk
  | bool => exact tree _ hk
  | str => exact tree _ hk
  | any => exact tree _ hk

theorem incsK_tree : ∀ {ts : List CT} {id : Nat} {ps : List PV} {K : List PV → List (Nat × Box) → Option R}, (∀ p ∈ ps, isT p) → incsK N id ts ps K = some r →
    ∃ cs, K cs [] = some r ∧ (∀ c ∈ cs, isT c) ∧ ∀ w A vs, All2 (TRep w A) ps vs → All2 (TRep w A) cs vs
  | [], id, ps, K, _, hk => by
    obtain ⟨hps, hk⟩ := nilK_inv hk
    subst hps
    exact ⟨[], hk, by simp, fun w A vs h => h⟩
  | t :: ts, id, ps, K, hp, hk => by
    unfold incsK at hk
    obtain ⟨p, ps', hps, hk1⟩ := consK_inv hk
    subst hps
    obtain ⟨c, hk2, hT, hv⟩ := incK_tree (hp p (by simp)) hk1
    obtain ⟨cs, hk3, hTs, hvs⟩ := incsK_tree (fun q hq => hp q (by simp [hq])) hk2
    refine ⟨c :: cs, hk3, fun q hq => ?_, fun w A vs h => ?_⟩
    · rcases List.mem_cons.1 hq with e | hq
      · rw [e]; exact hT
      · exact hTs q hq
    · cases vs with
      | nil => exact h.elim
      | cons v vs => exact ⟨hv w A v h.1, hvs w A vs h.2⟩

theorem inK_tree {i : Nat} {t : TypeId} {p : PV} {u : Value} {K : PV → List (Nat × Box) → Option R} (h : ARep w A p u) (hk : inK P N i t p K = some r) :
    ∃ v, K v [] = some r ∧ refs v = [] ∧ ∀ β, VRep w A β v u := by
  unfold inK at hk
  have notp : ∀ {Kp : List PV → Option R}, pboxK p Kp ≠ some r := by
    intro Kp hp
    unfold pboxK at hp
    split at hp
    · exact h.1.elim
    · cases hp
  split at hk
  · exact absurd hk notp
  · cases hagg : isAggB P t <;> rw [hagg] at hk
    · have hT : ∀ q ∈ [p], isT q := by
        intro q hq
        simp at hq
        subst hq
        cases q with
        | agg cs =>
          exfalso
          simp only [cond_false] at hk
          cases hts : cty P t with
          | nil => rw [hts] at hk; exact absurd (nilK_inv hk).1 (by simp)
          | cons t' ts =>
            rw [hts] at hk
            unfold incsK at hk
            obtain ⟨q, qs, hq, hk1⟩ := consK_inv hk
            cases hq
            unfold incK at hk1
            cases t' <;> simp [tcK, lsK, intK, boolK, strK] at hk1
        | _ => first | exact h.1 | exact h.1.elim
      obtain ⟨cs, hk1, hTs, hv⟩ := incsK_tree hT hk
      obtain ⟨c, cs', hcs, hk2⟩ := consK_inv hk1
      subst hcs
      obtain ⟨hnil, hk3⟩ := nilK_inv hk2
      subst hnil
      have hpT := hT p (by simp)
      have hpu : TRep w A p u := by cases p <;> first | exact h.2 | exact hpT.elim
      have hc := (hv w A [u] ⟨hpu, trivial⟩).1
      have hcT := hTs c (by simp)
      refine ⟨c, hk3, ?_, fun β => ?_⟩
      · cases c <;> first | rfl | exact hcT.elim
      · cases c <;> first | exact hc | exact hcT.elim
    · obtain ⟨ps, hp, hk1⟩ := aggK_inv hk
      subst hp
      obtain ⟨vs, hu, h2⟩ := h
      have hT : ∀ q ∈ ps, isT q := by
        intro q hq
        obtain ⟨j, hj⟩ := List.mem_iff_getElem?.1 hq
        obtain ⟨v, _, hv⟩ := h2.get hj
        exact hv.1
      obtain ⟨cs, hk2, hTs, hv⟩ := incsK_tree hT hk1
      refine ⟨.agg cs, hk2, ?_, fun β => ⟨vs, hu, ?_⟩⟩
      · show cs.flatMap refsC = []
        rw [List.flatMap_eq_nil_iff]
        exact fun c hc => refsC_isT (hTs c hc)
      · exact (hv w A vs (h2.mono fun _ _ hx => hx.2)).mono_mem fun c hc v hcv => (CRep_isT (hTs c hc)).2 hcv

theorem insK_tree : ∀ {ts : List TypeId} {i : Nat} {ps : List PV} {us : List Value} {K : List (Nat × PV) → List (Nat × Box) → Option R}, All2 (ARep w A) ps us → insK P N i ts ps K = some r →
    ∃ tms, K tms [] = some r ∧ ∀ j, (∃ u, i ≤ j ∧ us[j - i]? = some u ∧ refs (lk tms j) = [] ∧ ∀ β, VRep w A β (lk tms j) u) ∨ (lk tms j = .top ∧ (i ≤ j → us[j - i]? = none))
  | [], i, ps, us, K, h, hk => by
    obtain ⟨hps, hk⟩ := nilK_inv hk
    subst hps
    cases us with
    | nil => exact ⟨[], hk, fun j => .inr ⟨rfl, fun _ => by simp⟩⟩
    | cons u us => exact h.elim
  | t :: ts, i, ps, us, K, h, hk => by
    unfold insK at hk
    obtain ⟨p, ps', hps, hk1⟩ := consK_inv hk
    subst hps
    cases us with
    | nil => exact h.elim
    | cons u us =>
      obtain ⟨v, hk2, hr, hv⟩ := inK_tree h.1 hk1
      obtain ⟨tms, hk3, ht⟩ := insK_tree h.2 hk2
      refine ⟨(i, v) :: tms, hk3, fun j => ?_⟩
      unfold lk
      cases hb : Nat.beq j i
      · have hne := beq_false_ne hb
        simp only [cond_false]
        rcases ht j with ⟨u', h1, h2, h3⟩ | ⟨h1, h2⟩
        · refine .inl ⟨u', by omega, ?_, h3⟩
          rw [show j - i = (j - (i + 1)) + 1 by omega]
          simpa using h2
        · refine .inr ⟨h1, fun hij => ?_⟩
          rw [show j - i = (j - (i + 1)) + 1 by omega]
          simpa using h2 (by omega)
      · have := Nat.eq_of_beq_eq_true hb
        subst this
        exact .inl ⟨u, Nat.le_refl _, by simp, hr, hv⟩

/-- The state at a function's start. -/
theorem sim_start {tms : List (Nat × PV)} {us : List Value} (hY : ∀ b, Y b → b < w.heap.size) (hN : us.length ≤ N)
    (ht : ∀ j, (∃ u, 0 ≤ j ∧ us[j - 0]? = some u ∧ refs (lk tms j) = [] ∧ ∀ β, VRep w Y β (lk tms j) u) ∨ (lk tms j = .top ∧ (0 ≤ j → us[j - 0]? = none))) :
    Sim N w (fun _ => False) Y (fun _ => none) ⟨lk tms, lkh []⟩ { tmps := us.toArray ++ Array.replicate (N - us.toArray.size) undef, defers := [] } w := by
  have hX : ∀ b, ¬ Xof (lkh []) (fun _ => none) b := by rintro b ⟨_, _, _, h⟩; cases h
  have hA : ∀ b, Aof (lkh []) (fun _ => none) Y b → Y b := fun b hb => hb.elim (fun h => absurd h (hX b)) id
  refine ⟨rfl, by simp; omega, fun i hi => ?_, fun i hi => ?_, ?_, ?_, ?_, fun i hi id hid => ?_, ?_, fun b hb => absurd hb (hX b), fun b _ => hX b, hY, ⟨rfl, rfl, rfl, WStep.refl _ _⟩⟩
  · rcases ht i with ⟨u, _, h, _⟩ | ⟨h, _⟩
    · rw [Nat.sub_zero, List.getElem?_eq_none (by omega)] at h; cases h
    · exact h
  · rcases ht i with ⟨u, _, h, _, hv⟩ | ⟨h, h'⟩
    · rw [Nat.sub_zero] at h
      have hlt : i < us.length := by
        rcases Nat.lt_or_ge i us.length with h' | h'
        · exact h'
        · rw [List.getElem?_eq_none h'] at h; cases h
      have : (us.toArray ++ Array.replicate (N - us.toArray.size) undef).getD i undef = u := by
        rw [Array.getD_eq_getD_getElem?, Array.getElem?_append_left (by simpa using hlt)]
        simp [h]
      show VRep w _ _ _ ((us.toArray ++ Array.replicate (N - us.toArray.size) undef).getD i undef)
      rw [this]
      exact (hv _).step (WStep.refl _ _) (fun b _ => hA b) (fun _ _ => rfl)
    · show VRep w _ _ (lk tms i) _
      rw [h]
      exact TRep.top _
  · intro id b hb; cases hb
  · intro id id' b o o' _ _ hb; cases hb
  · intro id b o _ hb; cases hb
  · exfalso
    change id ∈ refs (lk tms i) at hid
    rcases ht i with ⟨u, _, _, h, _⟩ | ⟨h, _⟩
    · rw [h] at hid; cases hid
    · rw [h] at hid; cases hid
  · intro id cells hb; cases hb
end

end Go.Proofs.Ytoidbofkmflocaa.Pv
