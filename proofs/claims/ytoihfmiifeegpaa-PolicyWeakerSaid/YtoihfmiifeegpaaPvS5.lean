/-
  Operations of class R that make no call: second part.
-/
import Derived.Test.YtoihfmiifeegpaaPvS4
namespace Go.Proofs.Ytoihfmiifeegpaa.Pv
open Go.RowKit

section
variable {R : Type} {r : R} {P : Program} {N : Nat} {w0 : World} {X0 : Lend} {Y : Nat → Prop} {β β' : Bt} {s : St} {a : Act} {w w' : World} {o : Oper}

theorem run_sizeOf {t : TypeId} {n : Nat} (h : (P.info? t).map (·.size) = some n) (w : World) : (sizeOf t).run P w = .ok n w := by
  cases hi : P.info? t with
  | none => rw [hi] at h; cases h
  | some i => rw [hi] at h; simp at h; simp [sizeOf, typeInfo, hi, h]

theorem szOf_pos {t : TypeId} {n : Nat} (h : szOf P t = n) (hn : 0 < n) : (P.info? t).map (·.size) = some n := by
  unfold szOf at h
  cases hi : (P.info? t).map (·.size) with
  | none => rw [hi] at h; simp at h; omega
  | some i => rw [hi] at h; simp at h; rw [h]

theorem run_isAgg {t : TypeId} {d : TypeDesc} (h : P.underlying t = some d) (w : World) : (isAgg t).run P w = .ok (isAggB P t) w := by
  unfold isAgg isAggB
  rw [h]
  simp only [Sem.run_bind, run_underlying h, Result.andThen_ok]
  cases d <;> rfl

theorem cvK_inv {t : TypeId} {v : Value} {K : PV → Option R} (h : cvK P t v K = some r) : ∃ p, K p = some r ∧ refs p = [] ∧ ∀ (w : World) (A : Nat → Prop) (β : Bt), VRep w A β p v := by
  have sc : ∀ v : Value, K (.sc v) = some r → ∃ p, K p = some r ∧ refs p = [] ∧ ∀ (w : World) (A : Nat → Prop) (β : Bt), VRep w A β p v := fun v h => ⟨_, h, rfl, fun w A β => TRep.sc v⟩
  unfold cvK at h
  split at h
  · rename_i cs
    obtain ⟨hl, h⟩ := chk_inv h
    obtain ⟨xs, h, hxl, hx⟩ := tcsK_inv h
    have hl := Nat.eq_of_beq_eq_true hl
    refine ⟨_, h, ?_, fun w A β => ⟨cs.toList, by simp, ?_⟩⟩
    · show xs.flatMap refsC = []
      rw [List.flatMap_eq_nil_iff]
      intro c hc
      obtain ⟨j, hj⟩ := List.mem_iff_getElem?.1 hc
      exact refsC_isT (hx j c hj).1
    · refine All2.of_at (by rw [hxl, hl]) fun i c u hc hu => ?_
      obtain ⟨hT, p, hp, _, hpv⟩ := hx i c hc
      refine (CRep_isT hT).2 (hpv w A β u ?_).1
      rw [Nat.zero_add, List.getElem?_map, hu] at hp
      simp at hp
      subst hp
      exact TRep.sc u
  · split at h
    · exact ⟨_, h, rfl, fun w A β => TRep.lnil true _⟩
    · cases h
  · exact sc _ h

theorem constK_gives (h : Sim N w0 X0 Y β s a w) {x : Operand} (hrun : (execOp a.eval o).run P w = .ok (.value (a.eval x)) w) {K : PV → Option R} (hk : constK P o.type s.tm x K = some r) :
    ∃ v, K v = some r ∧ Gives P a w o Y β s v [] [] := by
  have dflt : K (opv s.tm x) = some r → ∃ v, K v = some r ∧ Gives P a w o Y β s v [] [] := fun hk => ⟨_, hk, gives_pure hrun (opv_rep h x) (opv_refs h x)⟩
  cases x with
  | const v =>
    obtain ⟨p, hk, hr, hv⟩ := cvK_inv hk
    exact ⟨p, hk, gives_pure hrun (hv _ _ _) (by rw [hr]; simp)⟩
  | tmp t => exact dflt hk
  | func f => exact dflt hk
  | global g => exact dflt hk

theorem run_move' {x : Operand} (ho : o.op = .move x) : (execOp a.eval o).run P w = .ok (.value (a.eval x)) w := by unfold execOp; rw [ho]; rfl
theorem run_assign' {x : Operand} (ho : o.op = .assign x) : (execOp a.eval o).run P w = .ok (.value (a.eval x)) w := by unfold execOp; rw [ho]; rfl

theorem pick_gives (h : Sim N w0 X0 Y β s a w) {c x y : Operand} (ho : o.op = .pick c x y) {K : PV → Option R} (hk : (boolK (opv s.tm c) fun t => brK t (K (opv s.tm x)) (K (opv s.tm y))) = some r) :
    ∃ v, K v = some r ∧ Gives P a w o Y β s v [] [] := by
  obtain ⟨b, hb, hk⟩ := boolK_inv hk
  have hc := opv_sc h hb
  rcases brK_inv hk with ⟨rfl, hk⟩ | ⟨rfl, hk⟩
  · exact ⟨_, hk, gives_pure (by unfold execOp; rw [ho]; simp [asBool, hc]) (opv_rep h x) (opv_refs h x)⟩
  · exact ⟨_, hk, gives_pure (by unfold execOp; rw [ho]; simp [asBool, hc]) (opv_rep h y) (opv_refs h y)⟩

theorem zcellsK_inv {t : TypeId} {K : List PV → Option R} (h : zcellsK P t K = some r) : ∃ (v : Value) (cs : List PV), K cs = some r ∧ zeroOf P t = some v ∧ cs.length = (cty P t).length ∧ cs.length = v.cells.toList.length ∧ cs.length = szOf P t ∧
    ∀ (j : Nat) c, cs[j]? = some c → isT c ∧ ∃ u, v.cells.toList[j]? = some u ∧ u.oneCell' = true ∧ ∀ (w : World) (A : Nat → Prop), TRep w A c u := by
  unfold zcellsK at h
  obtain ⟨v, hz, h⟩ := optK_inv h
  obtain ⟨hl, h⟩ := chk_inv h
  obtain ⟨cs, h, hcl, hc⟩ := tcsK_inv h
  simp only [Bool.and_eq_true] at hl
  have hl1 := Nat.eq_of_beq_eq_true hl.1
  have hl2 : (cty P t).length = szOf P t := by
    have := hl.2
    simp only [ctyOk, Bool.and_eq_true] at this
    exact Nat.eq_of_beq_eq_true this.2
  refine ⟨v, cs, h, hz, hcl, by rw [hcl, hl1], by rw [hcl, hl2], fun j c hj => ?_⟩
  obtain ⟨hT, p, hp, _, hpv⟩ := hc j c hj
  rw [Nat.zero_add, List.getElem?_map] at hp
  cases hu : v.cells.toList[j]? with
  | none => rw [hu] at hp; cases hp
  | some u =>
    rw [hu] at hp
    simp at hp
    subst hp
    exact ⟨hT, u, rfl, (hpv default (fun _ => False) (fun _ => none) u (TRep.sc u)).2, fun w A => (hpv w A (fun _ => none) u (TRep.sc u)).1⟩

theorem run_zeroValue {t : TypeId} {v : Value} (h : zeroOf P t = some v) (w : World) : (zeroValue t).run P w = .ok v w := by
  unfold zeroOf at h
  cases hi : P.info? t with
  | none => rw [hi] at h; cases h
  | some i => rw [hi] at h; simp at h; simp [zeroValue, typeInfo, hi, h]

theorem alloc_gives {t : TypeId} (ho : o.op = .alloc t) {d : Nat} {K : PV → List Nat → List (Nat × Box) → Option R}
    (hk : (zcellsK P t fun cs => K (.ptr d 0) [] [(d, mkBox P t cs)]) = some r) : ∃ v fz nw, K v fz nw = some r ∧ Gives P a w o Y β s v fz nw := by
  obtain ⟨z, cs, hk, hz, _, hl, _, hc⟩ := zcellsK_inv hk
  have hrun : (execOp a.eval o).run P w = .ok (.value (.pointer (some ⟨w.heap.size, 0, none⟩))) (w.alloc (.cells z.cells t)) := by
    unfold execOp
    rw [ho]
    simp [Instr.alloc, run_zeroValue hz, newVar, newRow]
  have hg := GrowB.alloc w z.cells t
  refine ⟨_, _, _, hk, ?_⟩
  unfold mkBox
  cases isArrB P t
  · refine gives_var hrun hg (fun j p hj => ?_) fun x hx id hid => ?_
    · obtain ⟨hT, u, hu, _, hv⟩ := hc j p hj
      exact ⟨u, by simpa using hu, (CRep_isT hT).2 (hv _ _)⟩
    · obtain ⟨j, hj⟩ := List.mem_iff_getElem?.1 hx
      rw [refsC_isT (hc j x hj).1] at hid; cases hid
  · refine gives_row (by simp) hrun hg (fun j p hj => ?_) (.inl ⟨rfl, rfl⟩)
    obtain ⟨hT, u, hu, h1, hv⟩ := hc j p hj
    exact ⟨u, by simpa using hu, h1, hv _ _⟩
end

end Go.Proofs.Ytoihfmiifeegpaa.Pv
