/-
  Operations of class R that make no call: indexes, slices, numbers.
-/
import Derived.Test.YtoihfmiifeegpaaPvS7
import Derived.WalkLawsBesides
namespace Go.Proofs.Ytoihfmiifeegpaa.Pv
open Go.RowKit

section
variable {R : Type} {r : R} {P : Program} {N : Nat} {w0 : World} {X0 : Lend} {Y : Nat → Prop} {β β' : Bt} {s : St} {a : Act} {w w' : World} {o : Oper} {A : Nat → Prop}

/-- A part of a row of cells, as a value. -/
theorem part_gives (h : Sim N w0 X0 Y β s a w) {t : TypeId} {cs : List PV} {vs : List Value} {off : Nat} {K : PV → Option R} {x : Operand} (hx : opv s.tm x = .agg cs) (hv : All2 (CRep w (Aof s.hp β Y) β) cs vs)
    (hk : chk (ctyOk P t) (fcsK (cty P t) cs off fun c => mkV (isAggB P t) c K) = some r)
    (hrun : ∀ val, (part t ⟨vs⟩ off).run P w = .ok val w → (execOp a.eval o).run P w = .ok (.value val) w) : ∃ v, K v = some r ∧ Gives P a w o Y β s v [] [] := by
  obtain ⟨hok, hk⟩ := chk_inv hk
  obtain ⟨⟨d, hd⟩, hl, hi⟩ := ctyOk_inv hok
  obtain ⟨qs, hk, hql, hna, hq⟩ := fcsK_inv hk
  have hxr := opv_refs h x
  rw [hx] at hxr
  have hcell : ∀ (j : Nat) q, qs[j]? = some q → ∃ v, vs[off + j]? = some v ∧ CRep w (Aof s.hp β Y) β q v := by
    intro j q hj
    obtain ⟨p, hp, _, _, hpv⟩ := hq j q hj
    obtain ⟨v, hv', hc⟩ := hv.get hp
    exact ⟨v, hv', (hpv _ _ _ _ hc).1⟩
  have hrefs : ∀ q ∈ qs, ∀ i ∈ refsC q, s.hp i ≠ none := by
    intro q hqm i hi
    obtain ⟨j, hj⟩ := List.mem_iff_getElem?.1 hqm
    obtain ⟨p, hp, _, hpr, _⟩ := hq j q hj
    exact hxr i (List.mem_flatMap.2 ⟨p, List.mem_of_getElem? hp, hpr i hi⟩)
  rcases mkV_inv hk with ⟨hagg, hk2⟩ | ⟨hagg, q, rfl, hk2⟩
  · have hle : szOf P t = 0 ∨ off + szOf P t ≤ vs.length := by
      rcases Nat.eq_zero_or_pos (szOf P t) with h0 | h0
      · exact .inl h0
      · obtain ⟨v, hv', _⟩ := hcell (szOf P t - 1) _ (List.getElem?_eq_getElem (by omega))
        have : off + (szOf P t - 1) < vs.length := by
          rcases Nat.lt_or_ge (off + (szOf P t - 1)) vs.length with h | h
          · exact h
          · rw [List.getElem?_eq_none h] at hv'; cases hv'
        exact .inr (by omega)
    refine ⟨_, hk2, gives_pure (hrun (.agg ⟨(vs.drop off).take (szOf P t)⟩) ?_) ⟨(vs.drop off).take (szOf P t), rfl, ?_⟩ fun i hi => ?_⟩
    · simp only [part, Sem.run_bind, run_isAgg hd, hagg, Result.andThen_ok, if_true, run_sizeOf hi]
      simp [List.extract_eq_take_drop]
    · refine All2.of_at ?_ fun i c u hc hu => ?_
      · simp only [List.length_take, List.length_drop]
        omega
      · obtain ⟨v, hv', hcv⟩ := hcell i c hc
        have hlt : i < szOf P t := by
          rcases Nat.lt_or_ge i qs.length with h | h
          · omega
          · rw [List.getElem?_eq_none h] at hc; cases hc
        rw [List.getElem?_take_of_lt hlt, List.getElem?_drop, hv'] at hu
        cases hu
        exact hcv
    · obtain ⟨q, hqm, hi⟩ := List.mem_flatMap.1 (show i ∈ qs.flatMap refsC from hi)
      exact hrefs q hqm i hi
  · obtain ⟨v, hv', hcv⟩ := hcell 0 q rfl
    have hn := hna q (by simp)
    refine ⟨_, hk2, gives_pure (hrun v ?_) ((VRep_V1 hn.2).2 ((V1Rep_C hn.1).2 hcv)) fun i hi => ?_⟩
    · simp only [part, Sem.run_bind, run_isAgg hd, hagg, Result.andThen_ok]
      rw [Nat.add_zero] at hv'
      simp [hv']
    · rw [refs_C hn.1 hn.2] at hi
      exact hrefs q (by simp) i hi

theorem field_gives (h : Sim N w0 X0 Y β s a w) {t : TypeId} {x : Operand} {f : Nat} (ho : o.op = .field t x f) {K : PV → Option R}
    (hk : (optK (fieldOff P t f) fun q => chk (ctyOk P q.2) <| aggK (opv s.tm x) fun cs => fcsK (cty P q.2) cs q.1 fun c => mkV (isAggB P q.2) c K) = some r) : ∃ v, K v = some r ∧ Gives P a w o Y β s v [] [] := by
  obtain ⟨q, hq, hk⟩ := optK_inv hk
  obtain ⟨hok, hk⟩ := chk_inv hk
  obtain ⟨cs, hx, hk⟩ := aggK_inv hk
  obtain ⟨fs, g, hu, hg, rfl⟩ := fieldOff_inv hq
  have hxv := opv_rep h x
  rw [hx] at hxv
  obtain ⟨vs, hax, hv⟩ := hxv
  refine part_gives (t := g.type) (off := g.offset) h hx hv (by rw [show ctyOk P g.type = true from hok]; exact hk) fun val hp => ?_
  unfold execOp
  rw [ho]
  simp [Instr.field, run_underlying hu, hg, asAgg, hax, hp]

theorem extract_gives (h : Sim N w0 X0 Y β s a w) {x : Operand} {i : Nat} (ho : o.op = .extract x i) {K : PV → Option R}
    (hk : (match opv s.tm x with | .tup vs => optK vs[i]? K | _ => none) = some r) : ∃ v, K v = some r ∧ Gives P a w o Y β s v [] [] := by
  have hx := opv_rep h x
  have hxr := opv_refs h x
  split at hk
  · rename_i ps e
    rw [e] at hx hxr
    obtain ⟨p, hp, hk⟩ := optK_inv hk
    obtain ⟨vs, hax, hv⟩ := hx
    obtain ⟨v, hv', hpv⟩ := hv.get hp
    have hntup : ∀ y, p ≠ .tup y := by
      rintro y rfl
      have hpv' : TRep _ _ (.tup y) v := hpv
      cases hpv'
    refine ⟨p, hk, gives_pure (val := v) ?_ ((VRep_V1 hntup).2 hpv) fun id hid => hxr id ?_⟩
    · unfold execOp
      rw [ho]
      simp [Instr.extract, hax, hv']
    · refine List.mem_flatMap.2 ⟨p, List.mem_of_getElem? hp, ?_⟩
      cases p <;> first | exact hid | exact absurd rfl (hntup _)
  · cases hk

/-- What a slice value of a frame is, in memory. -/
theorem slice_form {es : Nat} {p : PV} {z : Bool} {n : Nat} {c : List PV} {v : Value} (hp : p = .lst z es n c ∨ (p = .sc (.slice none 0 0) ∧ z = true ∧ n = 0 ∧ c = [])) (hv : VRep w A β p v) :
    (v = .slice none 0 0 ∧ n = 0 ∧ c = []) ∨ (∃ ad cap, v = .slice (some ad) n cap ∧ z = false ∧ n ≤ cap ∧ ad.spot = none ∧ ad.block < w.heap.size ∧ ¬ A ad.block ∧ RdT w A ad c) ∨ ∃ ad cap, v = .slice (some ad) 0 cap ∧ z = false ∧ n = 0 ∧ c = [] := by
  have hv' : CRep w A β p v := by rcases hp with rfl | ⟨rfl, _⟩ <;> exact hv
  have ht := ls_rep hp hv'
  cases ht with
  | lnil => exact .inl ⟨rfl, rfl, rfl⟩
  | lst _ _ _ ad cap f hs hb hA hn hc h1 hr => exact .inr (.inl ⟨ad, cap, rfl, rfl, hn, hs, hb, hA, fun j q hj => ⟨f j, hc j q hj, h1 j q hj, hr j q hj⟩⟩)
  | lemp _ ad cap => exact .inr (.inr ⟨ad, cap, rfl, rfl, rfl, rfl⟩)

theorem indexAddr_gives (h : Sim N w0 X0 Y β s a w) {t : TypeId} {x i : Operand} (ho : o.op = .indexAddr t x i) {K : PV → Option R}
    (hk : (anyIntK (opv s.tm i) fun _ n => indexAddrK P t (opv s.tm x) n K) = some r) : ∃ v, K v = some r ∧ Gives P a w o Y β s v [] [] := by
  obtain ⟨ik, n, hi, hk⟩ := anyIntK_inv hk
  have hai := opv_sc h hi
  have hx := opv_rep h x
  have hxr := opv_refs h x
  unfold indexAddrK at hk
  split at hk
  · rename_i len e hu
    obtain ⟨hz, hk⟩ := chk_inv hk
    obtain ⟨hb, hk⟩ := chk_inv hk
    simp only [Bool.and_eq_true, decide_eq_true_eq] at hb
    obtain ⟨inf, hinf⟩ := Option.isSome_iff_exists.1 hz
    refine addr_gives h hk fun ad hax => ?_
    unfold execOp
    rw [ho]
    simp [Instr.indexAt, asIntOf, hai, hax, run_underlying hu, Instr.sureAddr, hb.1, hb.2, sizeOf, typeInfo, hinf, szOf]
  · rename_i e hu
    obtain ⟨hz, hk⟩ := chk_inv hk
    obtain ⟨inf, hinf⟩ := Option.isSome_iff_exists.1 hz
    have hsz : szOf P e = inf.size := by simp [szOf, hinf]
    split at hk
    · rename_i id es off n' e'
      rw [e'] at hx hxr
      obtain ⟨hes, hk⟩ := chk_inv hk
      have hes := Nat.eq_of_beq_eq_true hes
      subst hes
      obtain ⟨hb, hk⟩ := chk_inv hk
      simp only [Bool.and_eq_true, decide_eq_true_eq] at hb
      rcases hx with ⟨_, _, rfl, _⟩ | ⟨b, ob, y, cap, hβ, hax, hy, _⟩
      · omega
      · have hy : y = ob + off := by rcases hy with hy | ⟨rfl, _⟩ <;> omega
        subst hy
        refine ⟨_, hk, gives_pure (val := .pointer (some ⟨b, ob + (off + n.toNat * szOf P e), none⟩)) ?_ ⟨b, ob, hβ, rfl⟩ hxr⟩
        unfold execOp
        rw [ho]
        simp [Instr.indexAt, asIntOf, hai, hax, run_underlying hu, hb.1, hb.2, sizeOf, typeInfo, hinf, hsz, add_mk, Nat.add_assoc]
    · obtain ⟨z, n', c, hk, hp⟩ := lsK_inv hk
      obtain ⟨hb, hk⟩ := chk_inv hk
      simp only [Bool.and_eq_true, decide_eq_true_eq] at hb
      rcases slice_form hp hx with ⟨_, rfl, _⟩ | ⟨ad, cap, hax, _, _, h1, h2, h3, h4⟩ | ⟨_, _, _, _, rfl, _⟩
      · omega
      rotate_left
      · omega
      · refine ⟨_, hk, gives_pure (val := .pointer (some (ad.add (n.toNat * szOf P e)))) ?_ ⟨ad, rfl, h1, h2, h3, h4⟩ (by intro i hi; cases hi)⟩
        unfold execOp
        rw [ho]
        simp [Instr.indexAt, asIntOf, hai, hax, run_underlying hu, hb.1, hb.2, sizeOf, typeInfo, hinf, hsz]
  · cases hk

theorem index_gives (h : Sim N w0 X0 Y β s a w) {t : TypeId} {x i : Operand} (ho : o.op = .index t x i) {K : PV → Option R}
    (hk : (anyIntK (opv s.tm i) fun _ n =>
      match P.underlying t with
      | some .string => strK (opv s.tm x) fun s => chk (decide (0 ≤ n)) (optK (s.data.toList[n.toNat]?) fun b => K (.sc (.int .u8 b.toNat)))
      | some (.array len e) => aggK (opv s.tm x) fun cs => chk (decide (0 ≤ n) && decide (n < len) && ctyOk P e) (fcsK (cty P e) cs (n.toNat * szOf P e) fun c => mkV (isAggB P e) c K)
      | _ => none) = some r) : ∃ v, K v = some r ∧ Gives P a w o Y β s v [] [] := by
  obtain ⟨ik, n, hi, hk⟩ := anyIntK_inv hk
  have hai := opv_sc h hi
  split at hk
  · rename_i hu
    obtain ⟨sb, hx, hk⟩ := strK_inv hk
    have hax := opv_sc h hx
    obtain ⟨h0, hk⟩ := chk_inv hk
    obtain ⟨b, hb, hk⟩ := optK_inv hk
    have h0 := of_decide_eq_true h0
    refine ⟨_, hk, gives_sc ?_⟩
    have hlt : n.toNat < sb.size := by
      rcases Nat.lt_or_ge n.toNat sb.data.toList.length with h | h
      · simpa using h
      · rw [List.getElem?_eq_none h] at hb; cases hb
    have hb' : sb[n.toNat] = b := by
      have : sb.data.toList[n.toNat]? = some sb[n.toNat] := by
        rw [List.getElem?_eq_getElem (by simpa using hlt)]
        rfl
      rw [hb] at this
      injection this with this
      exact this.symm
    unfold execOp
    rw [ho]
    simp [Instr.index, asIntOf, hai, hax, run_underlying hu, h0, hlt, hb']
  · rename_i len e hu
    obtain ⟨cs, hx, hk⟩ := aggK_inv hk
    obtain ⟨hb, hk⟩ := chk_inv hk
    simp only [Bool.and_eq_true, decide_eq_true_eq] at hb
    have hxv := opv_rep h x
    rw [hx] at hxv
    obtain ⟨vs, hax, hv⟩ := hxv
    obtain ⟨_, _, hsz⟩ := ctyOk_inv hb.2
    refine part_gives (t := e) (off := n.toNat * szOf P e) h hx hv (by rw [hb.2]; exact hk) fun val hp => ?_
    unfold execOp
    rw [ho]
    simp [Instr.index, asIntOf, hai, hax, run_underlying hu, hb.1.1, hb.1.2, run_sizeOf hsz, hp]
  · cases hk
end

end Go.Proofs.Ytoihfmiifeegpaa.Pv
