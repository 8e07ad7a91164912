/-
  Operations of class R that make no call: slice expressions, arithmetic, comparisons.
-/
import Derived.Test.YtoihfmiifeegpaaPvS8
namespace Go.Proofs.Ytoihfmiifeegpaa.Pv
open Go.RowKit

section
variable {R : Type} {r : R} {P : Program} {N : Nat} {w0 : World} {X0 : Lend} {Y : Nat → Prop} {β β' : Bt} {s : St} {a : Act} {w w' : World} {o : Oper} {A : Nat → Prop}

theorem boundK_inv (h : Sim N w0 X0 Y β s a w) {x : Option Operand} {dflt : Nat} {K : Nat → Option R} (hk : boundK (x.map (opv s.tm)) dflt K = some r) :
    ∃ l, K l = some r ∧ ((x = none ∧ l = dflt) ∨ ∃ y k, x = some y ∧ a.eval y = .int k (l : Int)) := by
  cases x with
  | none => exact ⟨dflt, hk, .inl ⟨rfl, rfl⟩⟩
  | some y =>
    obtain ⟨k, i, hi, hk⟩ := anyIntK_inv (show anyIntK (opv s.tm y) _ = some r from hk)
    obtain ⟨h0, hk⟩ := chk_inv hk
    have h0 := of_decide_eq_true h0
    exact ⟨i.toNat, hk, .inr ⟨y, k, rfl, by rw [opv_sc h hi, Int.toNat_of_nonneg h0]⟩⟩

theorem bounds_run {lo hi : Option Operand} {isS : Bool} {len cap l u : Nat} (hl : (lo = none ∧ l = 0) ∨ ∃ y k, lo = some y ∧ a.eval y = .int k (l : Int))
    (hu : (hi = none ∧ u = len) ∨ ∃ y k, hi = some y ∧ a.eval y = .int k (u : Int)) (h1 : l ≤ u) (h2 : u ≤ cap) :
    (Instr.sliceBounds isS len cap (lo.map a.eval) (hi.map a.eval) none).run P w = .ok (l, u, cap) w := by
  rcases hl with ⟨rfl, rfl⟩ | ⟨y, k, rfl, hy⟩ <;> rcases hu with ⟨rfl, rfl⟩ | ⟨y', k', rfl, hy'⟩
  · simp [Instr.sliceBounds]
  · simp [Instr.sliceBounds, Instr.sliceBound, asIntOf, hy', h2]
  · simp [Instr.sliceBounds, Instr.sliceBound, asIntOf, hy, h1]
  · simp [Instr.sliceBounds, Instr.sliceBound, asIntOf, hy, hy', h1, h2]

theorem run_sizeOf_szOf {e : TypeId} (h : (P.info? e).isSome = true) (w : World) : (sizeOf e).run P w = .ok (szOf P e) w := by
  obtain ⟨i, hi⟩ := Option.isSome_iff_exists.1 h
  exact run_sizeOf (by simp [szOf, hi]) w

theorem cell_bsz {b j : Nat} {v : Value} (h : w.cell? ⟨b, j, none⟩ = some v) : j < bsz w b := by
  unfold World.cell? at h
  unfold bsz
  split at h
  · rename_i c e fz hb
    simp only at hb
    rw [hb]
    simp only [Option.isSome_none, Bool.false_eq_true, if_false] at h
    rcases Nat.lt_or_ge j c.size with hlt | hge
    · exact hlt
    · rw [Array.getElem?_eq_none hge] at h; cases h
  · cases h

theorem slice_gives (h : Sim N w0 X0 Y β s a w) {t : TypeId} {x : Operand} {lo hi : Option Operand} (ho : o.op = .slice t x lo hi none) {K : PV → Option R}
    (hk : sliceK P (rd s.hp) t (opv s.tm x) (lo.map (opv s.tm)) (hi.map (opv s.tm)) K = some r) : ∃ v, K v = some r ∧ Gives P a w o Y β s v [] [] := by
  have hx := opv_rep h x
  have hxr := opv_refs h x
  unfold sliceK at hk
  split at hk
  · rename_i hu
    obtain ⟨sb, hxs, hk⟩ := strK_inv hk
    have hax := opv_sc h hxs
    obtain ⟨l, hk, hl⟩ := boundK_inv h hk
    obtain ⟨u, hk, hu'⟩ := boundK_inv h hk
    obtain ⟨hb, hk⟩ := chk_inv hk
    simp only [Bool.and_eq_true, decide_eq_true_eq] at hb
    refine ⟨_, hk, gives_sc ?_⟩
    unfold execOp
    rw [ho]
    simp [Instr.sliceAt, Instr.slice, run_underlying hu, hax, bounds_run hl hu' hb.1 hb.2]
  · rename_i e hu
    obtain ⟨hinf, hk⟩ := chk_inv hk
    split at hk
    · rename_i id es off n e'
      rw [e'] at hx hxr
      obtain ⟨hes, hk⟩ := chk_inv hk
      have hes := Nat.eq_of_beq_eq_true hes
      subst hes
      obtain ⟨l, hk, hl⟩ := boundK_inv h hk
      obtain ⟨u, hk, hu'⟩ := boundK_inv h hk
      obtain ⟨hb, hk⟩ := chk_inv hk
      simp only [Bool.and_eq_true, decide_eq_true_eq] at hb
      rcases hx with ⟨hβ, rfl, rfl, hax⟩ | ⟨b, ob, y, cap, hβ, hax, hy, hn, hcap, hlt⟩
      · have hu0 : u = 0 := by omega
        have hl0 : l = 0 := by omega
        subst hu0 hl0
        refine ⟨_, hk, gives_pure (val := .slice none 0 0) ?_ (.inl ⟨hβ, by simp, rfl, rfl⟩) hxr⟩
        unfold execOp
        rw [ho]
        simp [Instr.sliceAt, Instr.slice, run_underlying hu, hax, bounds_run hl hu' (Nat.le_refl 0) (Nat.le_refl 0), run_sizeOf_szOf hinf]
      · have hrun : (execOp a.eval o).run P w = .ok (.value (.slice (some (if cap = l then ⟨b, y, none⟩ else ⟨b, y + l * szOf P e, none⟩)) (u - l) (cap - l))) w := by
          unfold execOp
          rw [ho]
          have hbr := bounds_run (P := P) (w := w) (isS := true) hl hu' hb.1 (Nat.le_trans hb.2 hn)
          simp [Instr.sliceAt, Instr.slice, run_underlying hu, hax, hbr, run_sizeOf_szOf hinf, add_mk]
          split <;> rfl
        refine ⟨_, hk, gives_pure hrun (.inr ?_) hxr⟩
        by_cases hc : cap = l
        · rw [if_pos hc]
          refine ⟨b, ob, y, cap - l, hβ, rfl, ?_, by omega, by rw [hc, Nat.sub_self]; omega, hlt⟩
          by_cases h0 : l * szOf P e = 0
          · rw [h0, Nat.add_zero]
            rcases hy with hy | ⟨hn0, hoff⟩
            · exact .inl hy
            · exact .inr ⟨by omega, hoff⟩
          · exact .inr ⟨by omega, by omega⟩
        · rw [if_neg hc]
          refine ⟨b, ob, y + l * szOf P e, cap - l, hβ, rfl, ?_, by omega, ?_, hlt⟩
          · rcases hy with hy | ⟨hn0, hoff⟩
            · exact .inl (by omega)
            · exact .inr ⟨by omega, by omega⟩
          · have : l * szOf P e + (cap - l) * szOf P e = cap * szOf P e := by
              rw [← Nat.add_mul]
              congr 1
              omega
            omega
    · obtain ⟨z, n, c, hk, hp⟩ := lsK_inv hk
      obtain ⟨l, hk, hl⟩ := boundK_inv h hk
      obtain ⟨u, hk, hu'⟩ := boundK_inv h hk
      obtain ⟨hb, hk⟩ := chk_inv hk
      simp only [Bool.and_eq_true, decide_eq_true_eq] at hb
      rcases slice_form hp hx with ⟨hax, rfl, rfl⟩ | ⟨ad, cap, hax, rfl, hn, h1, h2, h3, h4⟩ | ⟨ad, cap, hax, rfl, rfl, rfl⟩
      rotate_right
      · have hu0 : u = 0 := by omega
        have hl0 : l = 0 := by omega
        subst hu0 hl0
        refine ⟨_, hk, gives_pure (val := .slice (some (if cap = 0 then ad else ad.add (0 * szOf P e))) (0 - 0) (cap - 0)) ?_ ?_ (by intro i hi; cases hi)⟩
        · unfold execOp
          rw [ho]
          have hbr := bounds_run (P := P) (w := w) (isS := true) hl hu' (Nat.le_refl 0) (Nat.zero_le cap)
          simp [Instr.sliceAt, Instr.slice, run_underlying hu, hax, hbr, run_sizeOf_szOf hinf]
          split <;> rfl
        · have : ((([] : List PV).drop (0 * szOf P e)).take ((0 - 0) * szOf P e)) = [] := by simp
          rw [this]
          exact TRep.lemp _ _ _
      · have hu0 : u = 0 := by omega
        have hl0 : l = 0 := by omega
        subst hu0 hl0
        refine ⟨_, hk, gives_pure (val := .slice none 0 0) ?_ ?_ (by intro i hi; cases hi)⟩
        · unfold execOp
          rw [ho]
          simp [Instr.sliceAt, Instr.slice, run_underlying hu, hax, bounds_run hl hu' (Nat.le_refl 0) (Nat.le_refl 0), run_sizeOf_szOf hinf]
        · have : ((([] : List PV).drop (0 * szOf P e)).take ((0 - 0) * szOf P e)) = [] := by simp
          rw [this]
          exact TRep.lnil z _
      · have hrun : (execOp a.eval o).run P w = .ok (.value (.slice (some (if cap = l then ad else ad.add (l * szOf P e))) (u - l) (cap - l))) w := by
          unfold execOp
          rw [ho]
          have hbr := bounds_run (P := P) (w := w) (isS := true) hl hu' hb.1 (Nat.le_trans hb.2 hn)
          simp [Instr.sliceAt, Instr.slice, run_underlying hu, hax, hbr, run_sizeOf_szOf hinf]
          split <;> rfl
        refine ⟨_, hk, gives_pure hrun ?_ (by intro i hi; cases hi)⟩
        by_cases hc : cap = l
        · rw [if_pos hc]
          have : u - l = 0 := by omega
          rw [this]
          simp only [Nat.zero_mul, List.take_zero]
          exact TRep.lst _ _ [] ad _ (fun _ => undef) h1 h2 h3 (by omega) (by simp) (by simp) (by simp)
        · rw [if_neg hc]
          have hcell : ∀ (j : Nat) q, ((c.drop (l * szOf P e)).take ((u - l) * szOf P e))[j]? = some q → c[l * szOf P e + j]? = some q := by
            intro j q hq
            rw [List.getElem?_take] at hq
            split at hq
            · rw [List.getElem?_drop] at hq; exact hq
            · cases hq
          refine TRep.lst _ _ _ (ad.add (l * szOf P e)) _ (fun j => (w.cell? (ad.add (l * szOf P e + j))).getD undef) (add_spot h1 _) (by rw [add_block]; exact h2) (by rw [add_block]; exact h3) (by omega) (fun j q hq => ?_) (fun j q hq => ?_) (fun j q hq => ?_)
          · obtain ⟨v, hv, _⟩ := h4 _ q (hcell j q hq)
            rw [add_add, hv]; rfl
          · obtain ⟨v, hv, h5, _⟩ := h4 _ q (hcell j q hq)
            rw [hv]; exact h5
          · obtain ⟨v, hv, _, ht⟩ := h4 _ q (hcell j q hq)
            rw [hv]; exact ht
  · rename_i n e hu
    obtain ⟨hinf, hk⟩ := chk_inv hk
    split at hk
    · rename_i id off e'
      rw [e'] at hx hxr
      obtain ⟨c, hrc, hk⟩ := optK_inv hk
      obtain ⟨hlen, hk⟩ := chk_inv hk
      simp only [Bool.and_eq_true, decide_eq_true_eq] at hlen
      obtain ⟨l, hk, hl⟩ := boundK_inv h hk
      obtain ⟨u, hk, hu'⟩ := boundK_inv h hk
      obtain ⟨hb, hk⟩ := chk_inv hk
      simp only [Bool.and_eq_true, decide_eq_true_eq] at hb
      obtain ⟨b, ob, hβ, hax⟩ := hx
      have hbs : ob + off + n * szOf P e ≤ bsz w b := by
        obtain ⟨v, hv, _⟩ := box_cell h hrc hβ (j := off + n * szOf P e - 1) (List.getElem?_eq_getElem (by omega))
        have := cell_bsz hv
        omega
      have hlt : b < w.heap.size := h.blt id b ob (hxr id (by simp [refs, refs1, refsC])) hβ
      have hrun : (execOp a.eval o).run P w = .ok (.value (.slice (some (if n = l then ⟨b, ob + off, none⟩ else ⟨b, ob + off + l * szOf P e, none⟩)) (u - l) (n - l))) w := by
        unfold execOp
        rw [ho]
        have hbr := bounds_run (P := P) (w := w) (isS := false) hl hu' hb.1 hb.2
        simp [Instr.sliceAt, Instr.sureAddr, run_underlying hu, hax, hbr, run_sizeOf_szOf hinf, add_mk]
      refine ⟨_, hk, gives_pure hrun (.inr ?_) hxr⟩
      by_cases hc : n = l
      · rw [if_pos hc]
        refine ⟨b, ob, ob + off, n - l, hβ, rfl, ?_, by omega, by rw [hc, Nat.sub_self]; omega, hlt⟩
        by_cases h0 : l * szOf P e = 0
        · rw [h0, Nat.add_zero]
          exact .inl rfl
        · exact .inr ⟨by omega, by omega⟩
      · rw [if_neg hc]
        refine ⟨b, ob, ob + off + l * szOf P e, n - l, hβ, rfl, .inl (by omega), by omega, ?_, hlt⟩
        have : l * szOf P e + (n - l) * szOf P e = n * szOf P e := by
          rw [← Nat.add_mul]
          congr 1
          omega
        omega
    · cases hk
  · cases hk
end

end Go.Proofs.Ytoihfmiifeegpaa.Pv
