/-
  Operations of class R that make no call: loads, addresses, variables.
-/
import Derived.Test.YtoihfmiifeegpaaPvS6
namespace Go.Proofs.Ytoihfmiifeegpaa.Pv
open Go.RowKit

section
variable {R : Type} {r : R} {P : Program} {N : Nat} {w0 : World} {X0 : Lend} {Y : Nat → Prop} {β β' : Bt} {s : St} {a : Act} {w w' : World} {o : Oper} {A : Nat → Prop}

theorem All2.get {α β' : Type} {R' : α → β' → Prop} {as : List α} {bs : List β'} (h : All2 R' as bs) {i : Nat} {x : α} (hx : as[i]? = some x) : ∃ y, bs[i]? = some y ∧ R' x y := by
  have hlt : i < as.length := by
    rcases Nat.lt_or_ge i as.length with h | h
    · exact h
    · rw [List.getElem?_eq_none h] at hx; cases hx
  have hb : bs[i]? = some (bs[i]'(by rw [← h.len]; exact hlt)) := List.getElem?_eq_getElem _
  exact ⟨_, hb, h.at_ hx hb⟩

/-- The cells of a value, read as trees. -/
theorem tcs_val {p : PV} {v : Value} {ts : List CT} {K : List PV → Option R} (hv : VRep w A β p v) (hl : (cellsOf p).length = ts.length) (h : tcsK ts (cellsOf p) 0 K = some r) :
    ∃ cs, K cs = some r ∧ cs.length = ts.length ∧ All2 (TRep w A) cs v.cells.toList ∧ ∀ u ∈ v.cells.toList, u.oneCell' = true := by
  obtain ⟨cs, h, hcl, hc⟩ := tcsK_inv h
  refine ⟨cs, h, hcl, ?_⟩
  by_cases hagg : ∃ x, p = .agg x
  · obtain ⟨x, rfl⟩ := hagg
    obtain ⟨vs, rfl, h2⟩ := hv
    have hlen : cs.length = vs.length := by rw [hcl, ← hl]; exact h2.len
    have key : ∀ (i : Nat) c u, cs[i]? = some c → vs[i]? = some u → TRep w A c u ∧ u.oneCell' = true := by
      intro i c u hc' hu
      obtain ⟨_, q, hq, _, hqv⟩ := hc i c hc'
      rw [Nat.zero_add] at hq
      exact hqv w A β u (h2.at_ hq hu)
    refine ⟨All2.of_at hlen fun i c u hc' hu => (key i c u hc' hu).1, ?_⟩
    intro u hu
    obtain ⟨i, hi⟩ := List.mem_iff_getElem?.1 (show u ∈ vs from hu)
    have hlt : i < vs.length := by
      rcases Nat.lt_or_ge i vs.length with h | h
      · exact h
      · rw [List.getElem?_eq_none h] at hi; cases hi
    exact (key i _ u (List.getElem?_eq_getElem (by omega)) hi).2
  · have hp : ∀ x, p ≠ .agg x := fun x e => hagg ⟨x, e⟩
    have single : cellsOf p = [p] := by cases p <;> first | rfl | exact absurd rfl (hp _)
    rw [single] at hl hc
    have hl1 : cs.length = 1 := by rw [hcl, ← hl]; rfl
    match cs, hl1 with
    | [c], _ =>
      obtain ⟨_, q, hq, hf, hqv⟩ := hc 0 c rfl
      simp at hq
      subst hq
      have htup : ∀ x, p ≠ .tup x := by rintro x rfl; exact hf
      have hv' : CRep w A β p v := (V1Rep_C hp).1 ((VRep_V1 htup).1 hv)
      obtain ⟨h5, h6⟩ := hqv w A β v hv'
      rw [cells_one h6]
      exact ⟨⟨h5, trivial⟩, fun u hu => by simp at hu; subst hu; exact h6⟩

theorem box_gives (h : Sim N w0 X0 Y β s a w) {t : TypeId} {x : Operand} (ho : o.op = .box t x) {d : Nat} {K : PV → List Nat → List (Nat × Box) → Option R}
    (hk : (chk (ctyOk P t && Nat.beq (cellsOf (opv s.tm x)).length (cty P t).length)
      (bif isArrB P t then tcsK (cty P t) (cellsOf (opv s.tm x)) 0 fun cs => K (.ptr d 0) [] [(d, .ar false cs)]
       else fcsK (cty P t) (cellsOf (opv s.tm x)) 0 fun cs => K (.ptr d 0) [] [(d, .st cs)])) = some r) : ∃ v fz nw, K v fz nw = some r ∧ Gives P a w o Y β s v fz nw := by
  obtain ⟨hl, hk⟩ := chk_inv hk
  simp only [Bool.and_eq_true] at hl
  have hl := Nat.eq_of_beq_eq_true hl.2
  have hrun : (execOp a.eval o).run P w = .ok (.value (.pointer (some ⟨w.heap.size, 0, none⟩))) (w.alloc (.cells (a.eval x).cells t)) := by
    unfold execOp
    rw [ho]
    simp [Instr.box, newVar, newRow]
  have hg := GrowB.alloc w (a.eval x).cells t
  cases ha : isArrB P t
  · rw [ha] at hk
    obtain ⟨cs, hk, _, h2, _, hr, _⟩ := fcs_val (opv_rep h x) hl hk
    refine ⟨_, _, _, hk, gives_var hrun hg (fun j p hj => ?_) fun c hc id hid => opv_refs h x id (hr c hc id hid)⟩
    obtain ⟨u, hu, hp⟩ := h2.get hj
    exact ⟨u, by simpa using hu, hp⟩
  · rw [ha] at hk
    obtain ⟨cs, hk, _, h2, h1⟩ := tcs_val (opv_rep h x) hl hk
    refine ⟨_, _, _, hk, gives_row (by simp) hrun hg (fun j p hj => ?_) (.inl ⟨rfl, rfl⟩)⟩
    obtain ⟨u, hu, hp⟩ := h2.get hj
    exact ⟨u, by simpa using hu, h1 u (List.mem_of_getElem? hu), hp⟩

theorem refs_C {c : PV} (h1 : ∀ x, c ≠ .agg x) (h2 : ∀ x, c ≠ .tup x) : refs c = refsC c := by
  cases c <;> first | rfl | exact absurd rfl (h1 _) | exact absurd rfl (h2 _)

/-- A variable loaded. -/
theorem load_run {t : TypeId} {ad : Addr} {cs : List PV} {p : PV} (hok : ctyOk P t = true) (hlen : cs.length = (cty P t).length)
    (hna : ∀ c ∈ cs, (∀ x, c ≠ .agg x) ∧ (∀ x, c ≠ .tup x))
    (hc : ∀ (j : Nat) c, cs[j]? = some c → ∃ v, w.cell? (ad.add j) = some v ∧ CRep w A β c v)
    (hp : (isAggB P t = true ∧ p = .agg cs) ∨ (isAggB P t = false ∧ cs = [p])) : ∃ val, (loadVar t ad).run P w = .ok val w ∧ VRep w A β p val := by
  obtain ⟨⟨d, hd⟩, hl, hi⟩ := ctyOk_inv hok
  rcases hp with ⟨hagg, rfl⟩ | ⟨hagg, rfl⟩
  · have hf : ∀ j, j < szOf P t → w.cell? (ad.add j) = some ((w.cell? (ad.add j)).getD undef) := by
      intro j hj
      obtain ⟨v, hv, _⟩ := hc j _ (List.getElem?_eq_getElem (by omega))
      rw [hv]; rfl
    refine ⟨_, ?_, (List.range (szOf P t)).map (fun j => (w.cell? (ad.add j)).getD undef), rfl, ?_⟩
    · simp only [loadVar, Sem.run_bind, run_isAgg hd, hagg, Result.andThen_ok, if_true, run_sizeOf hi, run_loadCells w ad (szOf P t) _ hf]
      simp
    · refine All2.of_at (by simp; omega) fun i c u hc' hu => ?_
      obtain ⟨v, hv, hcv⟩ := hc i c hc'
      have hlt : i < szOf P t := by
        rcases Nat.lt_or_ge i cs.length with h | h
        · omega
        · rw [List.getElem?_eq_none h] at hc'; cases hc'
      rw [List.getElem?_map, List.getElem?_range hlt] at hu
      simp [hv] at hu
      subst hu
      exact hcv
  · obtain ⟨v, hv, hcv⟩ := hc 0 p rfl
    have hn := hna p (by simp)
    have h0 : ad.add 0 = ad := by simp [Addr.add]
    rw [h0] at hv
    refine ⟨v, ?_, (VRep_V1 hn.2).2 ((V1Rep_C hn.1).2 hcv)⟩
    simp only [loadVar, Sem.run_bind, run_isAgg hd, hagg, Result.andThen_ok]
    simp [hv]

theorem rd_inv {hp : Nat → Option Box} {id : Nat} {c : List PV} (h : rd hp id = some c) : hp id = some (.st c) ∨ ∃ f, hp id = some (.ar f c) := by
  unfold rd at h
  split at h
  · rename_i e; simp at h; subst h; exact .inl e
  · rename_i f _ e; simp at h; subst h; exact .inr ⟨_, e⟩
  · cases h

theorem rda_inv {hp : Nat → Option Box} {id : Nat} {c : List PV} (h : rda hp id = some c) : ∃ f, hp id = some (.ar f c) := by
  unfold rda at h
  split at h
  · rename_i e; simp at h; subst h; exact ⟨_, e⟩
  · cases h

/-- A cell of a box. -/
theorem box_cell (h : Sim N w0 X0 Y β s a w) {id : Nat} {c : List PV} (hr : rd s.hp id = some c) {b ob : Nat} (hβ : β id = some (b, ob)) {j : Nat} {p : PV} (hj : c[j]? = some p) :
    ∃ v, w.cell? ⟨b, ob + j, none⟩ = some v ∧ CRep w (Aof s.hp β Y) β p v := by
  rcases rd_inv hr with hb | ⟨f, hb⟩
  · obtain ⟨b', o', h1, h2, _⟩ := h.box id _ hb
    rw [hβ] at h1; simp at h1; obtain ⟨rfl, rfl⟩ := h1
    exact h2 j p hj
  · rcases h.box id _ hb with ⟨h1, _⟩ | ⟨b', o', h1, h2, _⟩
    · rw [hβ] at h1; cases h1
    · rw [hβ] at h1; simp at h1; obtain ⟨rfl, rfl⟩ := h1
      obtain ⟨v, hv, _, ht⟩ := h2 j p hj
      rw [add_mk] at hv
      refine ⟨v, hv, ?_⟩
      cases ht with
      | sc => exact TRep.sc _
      | top => exact TRep.top _
      | ub => exact TRep.ub _
      | lnil => exact TRep.lnil _ _
      | lemp => exact TRep.lemp _ _ _
      | lst es n cells a cap f hs hb hA hn hc h1 hr => exact TRep.lst es n cells a cap f hs hb hA hn hc h1 hr

theorem tcsK_fcsK : ∀ {ts : List CT} {cells : List PV} {off : Nat} {K : List PV → Option R}, tcsK ts cells off K = some r → fcsK ts cells off K = some r
  | [], _, _, _, h => h
  | .int k :: ts, cells, off, K, h => by
    obtain ⟨n, hp, h⟩ := intK_inv (show intK k (cells.getD off .top) _ = some r from h)
    show intK k _ _ = _
    rw [hp]
    simp only [intK, if_true]
    exact tcsK_fcsK h
  | .bool :: ts, cells, off, K, h => by
    obtain ⟨n, hp, h⟩ := boolK_inv (show boolK (cells.getD off .top) _ = some r from h)
    show boolK _ _ = _
    rw [hp]
    exact tcsK_fcsK h
  | .str :: ts, cells, off, K, h => by
    obtain ⟨n, hp, h⟩ := strK_inv (show strK (cells.getD off .top) _ = some r from h)
    show strK _ _ = _
    rw [hp]
    exact tcsK_fcsK h
  | .sl es :: ts, cells, off, K, h => by
    obtain ⟨z, n, c, h, hp⟩ := lsK_inv (show lsK es (cells.getD off .top) _ = some r from h)
    change fcK (.sl es) (cells.getD off .top) (fun c => fcsK ts cells (off + 1) fun r => K (c :: r)) = some r
    unfold fcK
    dsimp only
    unfold fsK
    rcases hp with hp | ⟨hp, rfl, rfl, rfl⟩
    · rw [hp]
      simp only [lsK, Nat.beq_refl, cond_true]
      exact tcsK_fcsK h
    · rw [hp]
      exact tcsK_fcsK h
  | .any :: _, _, _, _, h => by cases h
theorem loadK_0 {hp : Nat → Option Box} {t : TypeId} {x : PV} {K : PV → Option R} (h : loadK P (rd hp) (rda hp) t x K = some r) : loadK0 P (rd hp) t x K = some r := by
  unfold loadK at h
  unfold loadK0
  split at h
  · rename_i id off
    obtain ⟨hb, h⟩ := chk_inv h
    rw [hb]
    show optK _ _ = _
    split at h
    · rename_i c hc
      obtain ⟨f, hbx⟩ := rda_inv hc
      have : rd hp id = some c := by unfold rd; rw [hbx]
      rw [this]
      exact tcsK_fcsK h
    · exact h
  · exact h
  · cases h

/-- What a load gives. -/
theorem load_val (h : Sim N w0 X0 Y β s a w) {t : TypeId} {x : PV} {u : Value} (hx : VRep w (Aof s.hp β Y) β x u) {K : PV → Option R} (hk : loadK P (rd s.hp) (rda s.hp) t x K = some r) :
    ∃ v ad val, K v = some r ∧ u = .pointer (some ad) ∧ (loadVar t ad).run P w = .ok val w ∧ VRep w (Aof s.hp β Y) β v val ∧ ∀ i ∈ refs v, s.hp i ≠ none := by
  replace hk := loadK_0 hk
  unfold loadK0 at hk
  split at hk
  · rename_i id off
    obtain ⟨hok, hk⟩ := chk_inv hk
    obtain ⟨c, hr, hk⟩ := optK_inv hk
    obtain ⟨cs, hk, hl, hna, hc⟩ := fcsK_inv hk
    obtain ⟨b, ob, hβ, hax⟩ := hx
    have hcell : ∀ (j : Nat) q, cs[j]? = some q → ∃ v, w.cell? ((⟨b, ob + off, none⟩ : Addr).add j) = some v ∧ CRep w (Aof s.hp β Y) β q v := by
      intro j q hq
      obtain ⟨p, hp, _, _, hpv⟩ := hc j q hq
      obtain ⟨v, hv, hcv⟩ := box_cell h hr hβ hp
      exact ⟨v, by rw [add_mk, Nat.add_assoc]; exact hv, (hpv _ _ _ _ hcv).1⟩
    have hrefs : ∀ q ∈ cs, ∀ i ∈ refsC q, s.hp i ≠ none := by
      intro q hq i hi
      obtain ⟨j, hj⟩ := List.mem_iff_getElem?.1 hq
      obtain ⟨p, hp, _, hpr, _⟩ := hc j q hj
      rcases rd_inv hr with hb | ⟨f, hb⟩
      · exact h.wfB id c hb p (List.mem_of_getElem? hp) i (hpr i hi)
      · obtain ⟨v, hv, hcv⟩ := box_cell h hr hβ hp
        exfalso
        have hp' := hpr i hi
        rcases h.box id _ hb with ⟨_, rfl⟩ | ⟨b', o', h1, h2, _⟩
        · simp at hp
        · obtain ⟨v', _, _, ht⟩ := h2 _ p hp
          cases ht <;> cases hp'
    rcases mkV_inv hk with ⟨hagg, hk2⟩ | ⟨hagg, q, rfl, hk2⟩
    · obtain ⟨val, hlv, hv⟩ := load_run hok hl hna hcell (.inl ⟨hagg, rfl⟩)
      refine ⟨_, _, val, hk2, hax, hlv, hv, fun i hi => ?_⟩
      obtain ⟨q, hq, hi⟩ := List.mem_flatMap.1 (show i ∈ cs.flatMap refsC from hi)
      exact hrefs q hq i hi
    · obtain ⟨val, hlv, hv⟩ := load_run hok hl hna hcell (.inr ⟨hagg, rfl⟩)
      refine ⟨_, _, val, hk2, hax, hlv, hv, fun i hi => hrefs q (by simp) i ?_⟩
      have hn := hna q (by simp)
      rw [refs_C hn.1 hn.2] at hi
      exact hi
  · rename_i c off
    obtain ⟨hok, hk⟩ := chk_inv hk
    obtain ⟨cs, hk, hl, hc⟩ := tcsK_inv hk
    obtain ⟨ad, hax, hs, hb, hA, hrd⟩ := hx
    have hna : ∀ q ∈ cs, (∀ x, q ≠ .agg x) ∧ (∀ x, q ≠ .tup x) := by
      intro q hq
      obtain ⟨j, hj⟩ := List.mem_iff_getElem?.1 hq
      exact ⟨isT_agg (hc j q hj).1, isT_tup (hc j q hj).1⟩
    have hcell : ∀ (j : Nat) q, cs[j]? = some q → ∃ v, w.cell? ((ad.add off).add j) = some v ∧ CRep w (Aof s.hp β Y) β q v := by
      intro j q hq
      obtain ⟨hT, p, hp, hpT, hpv⟩ := hc j q hq
      obtain ⟨v, hv, _, ht⟩ := hrd (off + j) p hp
      exact ⟨v, by rw [add_add]; exact hv, (CRep_isT hT).2 (hpv w (Aof s.hp β Y) β v ((CRep_isT hpT).2 ht)).1⟩
    have hrefs : ∀ q ∈ cs, refsC q = [] := by
      intro q hq
      obtain ⟨j, hj⟩ := List.mem_iff_getElem?.1 hq
      exact refsC_isT (hc j q hj).1
    rcases mkV_inv hk with ⟨hagg, hk2⟩ | ⟨hagg, q, rfl, hk2⟩
    · obtain ⟨val, hlv, hv⟩ := load_run hok hl hna hcell (.inl ⟨hagg, rfl⟩)
      refine ⟨_, _, val, hk2, hax, hlv, hv, fun i hi => ?_⟩
      obtain ⟨q, hq, hi⟩ := List.mem_flatMap.1 (show i ∈ cs.flatMap refsC from hi)
      rw [hrefs q hq] at hi; cases hi
    · obtain ⟨val, hlv, hv⟩ := load_run hok hl hna hcell (.inr ⟨hagg, rfl⟩)
      refine ⟨_, _, val, hk2, hax, hlv, hv, fun i hi => ?_⟩
      have hn := hna q (by simp)
      rw [refs_C hn.1 hn.2, hrefs q (by simp)] at hi
      cases hi
  · cases hk

theorem load_gives (h : Sim N w0 X0 Y β s a w) {t : TypeId} {x : Operand} (ho : o.op = .load t x) {K : PV → Option R} (hk : loadK P (rd s.hp) (rda s.hp) t (opv s.tm x) K = some r) :
    ∃ v, K v = some r ∧ Gives P a w o Y β s v [] [] := by
  obtain ⟨v, ad, val, hk1, hax, hl, hv, hr⟩ := load_val h (opv_rep h x) hk
  refine ⟨v, hk1, gives_pure ?_ hv hr⟩
  unfold execOp
  rw [ho]
  simp [Instr.loadAt, Instr.sureAddr, hax, hl]

theorem addrK_inv {x : PV} {d : Nat} {K : PV → Option R} (h : addrK x d K = some r) : (∃ id off, x = .ptr id off ∧ K (.ptr id (off + d)) = some r) ∨ ∃ c off, x = .iptr c off ∧ K (.iptr c (off + d)) = some r := by
  unfold addrK at h
  split at h
  · exact .inl ⟨_, _, rfl, h⟩
  · exact .inr ⟨_, _, rfl, h⟩
  · cases h

/-- An address moved on. -/
theorem addr_gives (h : Sim N w0 X0 Y β s a w) {x : Operand} {d : Nat} {K : PV → Option R} (hk : addrK (opv s.tm x) d K = some r)
    (hrun : ∀ ad : Addr, a.eval x = .pointer (some ad) → (execOp a.eval o).run P w = .ok (.value (.pointer (some (ad.add d)))) w) : ∃ v, K v = some r ∧ Gives P a w o Y β s v [] [] := by
  have hx := opv_rep h x
  have hxr := opv_refs h x
  rcases addrK_inv hk with ⟨id, off, e, hk⟩ | ⟨c, off, e, hk⟩
  · rw [e] at hx hxr
    obtain ⟨b, ob, hβ, hax⟩ := hx
    refine ⟨_, hk, gives_pure (hrun _ hax) ⟨b, ob, hβ, by rw [add_mk, Nat.add_assoc]⟩ hxr⟩
  · rw [e] at hx
    obtain ⟨ad, hax, h1, h2, h3, h4⟩ := hx
    exact ⟨_, hk, gives_pure (hrun _ hax) ⟨ad, by rw [add_add], h1, h2, h3, h4⟩ (by intro i hi; cases hi)⟩

theorem nilCheck_gives (h : Sim N w0 X0 Y β s a w) {x : Operand} (ho : o.op = .nilCheck x) {K : PV → Option R} (hk : addrK (opv s.tm x) 0 K = some r) : ∃ v, K v = some r ∧ Gives P a w o Y β s v [] [] := by
  refine addr_gives h hk fun ad hax => ?_
  unfold execOp
  rw [ho]
  simp [hax, Addr.add]

theorem fieldOff_inv {t : TypeId} {f : Nat} {q : Nat × TypeId} (h : fieldOff P t f = some q) : ∃ fs g, P.underlying t = some (.struct fs) ∧ fs[f]? = some g ∧ q = (g.offset, g.type) := by
  unfold fieldOff at h
  split at h
  · rename_i fs e
    cases hg : fs[f]? with
    | none => rw [hg] at h; cases h
    | some g => rw [hg] at h; simp at h; exact ⟨fs, g, e, hg, h.symm⟩
  · cases h

theorem fieldAddr_gives (h : Sim N w0 X0 Y β s a w) {t : TypeId} {x : Operand} {f : Nat} (ho : o.op = .fieldAddr t x f) {K : PV → Option R}
    (hk : (optK (fieldOff P t f) fun q => chk (Nat.ble 1 (szOf P q.2)) (addrK (opv s.tm x) q.1 K)) = some r) : ∃ v, K v = some r ∧ Gives P a w o Y β s v [] [] := by
  obtain ⟨q, hq, hk⟩ := optK_inv hk
  obtain ⟨hs, hk⟩ := chk_inv hk
  obtain ⟨fs, g, hu, hg, rfl⟩ := fieldOff_inv hq
  have hs : 1 ≤ szOf P g.type := Nat.le_of_ble_eq_true hs
  have hsz := szOf_pos (P := P) (t := g.type) rfl (by omega)
  refine addr_gives h hk fun ad hax => ?_
  unfold execOp
  rw [ho]
  have hne : ¬ szOf P g.type = 0 := by omega
  simp [Instr.fieldAt, run_underlying hu, hg, Instr.sureAddr, hax, fieldPlace, run_sizeOf hsz, hne]
end

end Go.Proofs.Ytoihfmiifeegpaa.Pv
