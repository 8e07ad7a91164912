/-
  Operations of class R that make no call: third part.
-/
import Derived.Test.YtoihfmiifeegpaaPvS5
namespace Go.Proofs.Ytoihfmiifeegpaa.Pv
open Go.RowKit

section
variable {R : Type} {r : R} {P : Program} {N : Nat} {w0 : World} {X0 : Lend} {Y : Nat → Prop} {β β' : Bt} {s : St} {a : Act} {w w' : World} {o : Oper} {A : Nat → Prop}

theorem ctyOk_inv {t : TypeId} (h : ctyOk P t = true) : (∃ d, P.underlying t = some d) ∧ (cty P t).length = szOf P t ∧ (P.info? t).map (·.size) = some (szOf P t) := by
  simp only [ctyOk, Bool.and_eq_true] at h
  refine ⟨Option.isSome_iff_exists.1 h.1, Nat.eq_of_beq_eq_true h.2, ?_⟩
  unfold szOf
  cases hi : P.info? t with
  | none => unfold Program.underlying at h; rw [hi] at h; cases h.1
  | some i => simp

theorem cells_one {v : Value} (h : v.oneCell' = true) : v.cells = #[v] := by cases v <;> first | rfl | cases h

/-- The cells of a value, read at their kinds. -/
theorem fcs_val {p : PV} {v : Value} {ts : List CT} {K : List PV → Option R} (hv : VRep w A β p v) (hl : (cellsOf p).length = ts.length) (h : fcsK ts (cellsOf p) 0 K = some r) :
    ∃ cs, K cs = some r ∧ cs.length = ts.length ∧ All2 (CRep w A β) cs v.cells.toList ∧ (∀ u ∈ v.cells.toList, u.oneCell' = true) ∧ (∀ c ∈ cs, ∀ id ∈ refsC c, id ∈ refs p) ∧ ∀ c ∈ cs, (∀ x, c ≠ .agg x) ∧ (∀ x, c ≠ .tup x) := by
  obtain ⟨cs, h, hcl, hna, hc⟩ := fcsK_inv h
  refine ⟨cs, h, hcl, ?_⟩
  have single : (∀ x, p ≠ .agg x) → cellsOf p = [p] := by
    intro hp
    cases p <;> first | rfl | exact absurd rfl (hp _)
  by_cases hagg : ∃ x, p = .agg x
  · obtain ⟨x, rfl⟩ := hagg
    obtain ⟨vs, rfl, h2⟩ := hv
    have hlen : cs.length = vs.length := by rw [hcl, ← hl]; exact h2.len
    have key : ∀ (i : Nat) c u, cs[i]? = some c → vs[i]? = some u → CRep w A β c u ∧ u.oneCell' = true := by
      intro i c u hc' hu
      obtain ⟨q, hq, _, _, hqv⟩ := hc i c hc'
      rw [Nat.zero_add] at hq
      exact hqv w A β u (h2.at_ hq hu)
    refine ⟨All2.of_at hlen fun i c u hc' hu => (key i c u hc' hu).1, ?_, ?_, hna⟩
    · intro u hu
      obtain ⟨i, hi⟩ := List.mem_iff_getElem?.1 (show u ∈ vs from hu)
      have hlt : i < vs.length := by
        rcases Nat.lt_or_ge i vs.length with h | h
        · exact h
        · rw [List.getElem?_eq_none h] at hi; cases hi
      exact (key i _ u (List.getElem?_eq_getElem (by omega)) hi).2
    · intro c hcm id hid
      obtain ⟨i, hi⟩ := List.mem_iff_getElem?.1 hcm
      obtain ⟨q, hq, _, hr, _⟩ := hc i c hi
      rw [Nat.zero_add] at hq
      show id ∈ x.flatMap refsC
      exact List.mem_flatMap.2 ⟨q, List.mem_of_getElem? hq, hr id hid⟩
  · have hp : ∀ x, p ≠ .agg x := fun x e => hagg ⟨x, e⟩
    rw [single hp] at hl hc
    have hl1 : cs.length = 1 := by rw [hcl, ← hl]; rfl
    match cs, hl1 with
    | [c], _ =>
      obtain ⟨q, hq, hf, hr, hqv⟩ := hc 0 c rfl
      simp at hq
      subst hq
      have htup : ∀ x, p ≠ .tup x := by rintro x rfl; exact hf
      have hv' : CRep w A β p v := (V1Rep_C hp).1 ((VRep_V1 htup).1 hv)
      obtain ⟨h5, h6⟩ := hqv w A β v hv'
      rw [cells_one h6]
      refine ⟨⟨h5, trivial⟩, ?_, ?_, hna⟩
      · intro u hu; simp at hu; subst hu; exact h6
      · intro c' hc' id hid
        simp at hc'; subst hc'
        have := hr id hid
        cases p <;> first | exact this | exact absurd rfl (hp _) | exact absurd rfl (htup _)
end

end Go.Proofs.Ytoihfmiifeegpaa.Pv
