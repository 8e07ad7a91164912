/-
  Operations of class R that make no call: make, composite literals.
-/
import Derived.Test.YtoihfmiifeegpaaPvS12
import Derived.Laws.Tables
namespace Go.Proofs.Ytoihfmiifeegpaa.Pv
open Go.RowKit

section
variable {R : Type} {r : R} {P : Program} {N : Nat} {w0 : World} {X0 : Lend} {Y : Nat → Prop} {β β' : Bt} {s : St} {a : Act} {w w' : World} {o : Oper} {A : Nat → Prop}

theorem repl_get : ∀ {n : Nat} {l : List PV} {j : Nat} {c : PV}, (repl n l)[j]? = some c → j < n * l.length ∧ l[j % l.length]? = some c
  | 0, l, j, c, h => by simp [repl] at h
  | n + 1, l, j, c, h => by
    have e : repl (n + 1) l = l ++ repl n l := by simp [repl, List.replicate_succ]
    rw [e] at h
    by_cases hj : j < l.length
    · rw [List.getElem?_append_left hj] at h
      refine ⟨by rw [Nat.add_mul]; omega, ?_⟩
      rw [Nat.mod_eq_of_lt hj]; exact h
    · rw [List.getElem?_append_right (by omega)] at h
      obtain ⟨h1, h2⟩ := repl_get h
      refine ⟨by rw [Nat.add_mul]; omega, ?_⟩
      rw [Nat.mod_eq_sub_mod (by omega)]; exact h2

theorem repl_len (n : Nat) (l : List PV) : (repl n l).length = n * l.length := by
  induction n with
  | zero => simp [repl]
  | succ n ih =>
    have e : repl (n + 1) l = l ++ repl n l := by simp [repl, List.replicate_succ]
    rw [e, List.length_append, ih, Nat.add_mul]; omega

theorem made_get {z : Array Value} {n j : Nat} (hj : j < n) {v : Value} (hv : z[j % z.size]? = some v) : (madeCells z n)[j]? = some v := by
  unfold madeCells
  rw [Array.getElem?_map, Array.getElem?_range, if_pos hj]
  simp only [Option.map_some]
  rw [getElem!_def, hv]

theorem make_gives (h : Sim N w0 X0 Y β s a w) {t : TypeId} {x y : Operand} (ho : o.op = .makeSlice t x y) {d : Nat} {K : PV → List Nat → List (Nat × Box) → Option R}
    (hk : (match P.underlying t with
      | some (.slice e) => anyIntK (opv s.tm x) fun _ n => anyIntK (opv s.tm y) fun _ m =>
          chk (decide (0 ≤ n) && decide (n ≤ m) && decide (m * ((P.info? e).map (·.bytes)).getD 0 ≤ 1099511627776) && decide (m ≤ 1099511627776))
            (zcellsK P e fun z => K (.view d (szOf P e) 0 n.toNat) [] [(d, .ar false (repl n.toNat z))])
      | _ => none) = some r) : ∃ v fz nw, K v fz nw = some r ∧ Gives P a w o Y β s v fz nw := by
  split at hk
  · rename_i e hu
    obtain ⟨k1, n, hx, hk⟩ := anyIntK_inv hk
    obtain ⟨k2, m, hy, hk⟩ := anyIntK_inv hk
    obtain ⟨hb, hk⟩ := chk_inv hk
    simp only [Bool.and_eq_true, decide_eq_true_eq] at hb
    obtain ⟨⟨⟨h0, hnm⟩, hbytes⟩, hm⟩ := hb
    obtain ⟨z, cs, hk, hz, hct, hl, hsz, hc⟩ := zcellsK_inv hk
    have hzc : ∃ i, P.info? e = some i ∧ i.zero = some z := by
      unfold zeroOf at hz
      cases hi : P.info? e with
      | none => rw [hi] at hz; cases hz
      | some i => rw [hi] at hz; exact ⟨i, rfl, hz⟩
    obtain ⟨i, hi, hzi⟩ := hzc
    have hisz : szOf P e = i.size := by simp [szOf, hi]
    simp only [hi, Option.map_some, Option.getD_some] at hbytes
    have hr := run_make (P := P) w t e i z hu hi hzi k1 k2 n m h0 hnm (by rw [Int.mul_comm]; omega) (by omega)
    have hrun : (execOp a.eval o).run P w = .ok (.value (.slice (some ⟨w.heap.size, 0, none⟩) n.toNat m.toNat)) (w.alloc (.cells (madeCells z.cells (m.toNat * i.size)) e)) := by
      unfold execOp
      rw [ho]
      simp [opv_sc h hx, opv_sc h hy, hr]
    have hzl : z.cells.size = szOf P e := by
      have : z.cells.toList.length = z.cells.size := by simp
      omega
    refine ⟨_, _, _, hk, gives_row (c := madeCells z.cells (m.toNat * i.size)) (e := e) (by simp) hrun (GrowB.alloc w _ e) (fun j p hj => ?_) (.inr ⟨szOf P e, n.toNat, m.toNat, rfl, rfl, by omega, by rw [size_madeCells, hisz]; exact Nat.le_refl _⟩)⟩
    obtain ⟨h1, h2⟩ := repl_get hj
    obtain ⟨hT, u, hu', h1', hv⟩ := hc _ p h2
    refine ⟨u, made_get ?_ ?_, h1', hv _ _⟩
    · have : n.toNat * cs.length ≤ m.toNat * i.size := by
        rw [hsz, hisz]
        exact Nat.mul_le_mul_right _ (by omega)
      omega
    · rw [hzl, ← hsz]
      simpa using hu'
  · cases hk

theorem okP_cells {p : PV} {v : Value} (hp : okP p = true) (hv : VRep w A β p v) : All2 (CRep w A β) (cellsOf p) v.cells.toList := by
  have one : v.oneCell' = true → CRep w A β p v → (∀ x, p ≠ .agg x) → All2 (CRep w A β) (cellsOf p) v.cells.toList := by
    intro h1 h2 h3
    have : cellsOf p = [p] := by cases p <;> first | rfl | exact absurd rfl (h3 _)
    rw [this, cells_one h1]
    exact ⟨h2, trivial⟩
  unfold okP at hp
  split at hp
  · obtain ⟨vs, rfl, h2⟩ := hv
    exact h2
  · refine one ?_ hv (by simp)
    have hv' : TRep w A _ v := hv
    cases hv' <;> rfl
  · refine one ?_ hv (by simp)
    rcases hv with ⟨_, _, _, rfl⟩ | ⟨_, _, _, _, _, rfl, _⟩ <;> rfl
  · have := sc_val hv; subst this; exact one rfl hv (by simp)
  · have := sc_val hv; subst this; exact one rfl hv (by simp)
  · have := sc_val hv; subst this; exact one rfl hv (by simp)
  · have := sc_val hv; subst this; exact one rfl hv (by simp)
  · cases hp

theorem set_all : ∀ (vs : List Value) (k off : Nat) (cells : Array Value), off + k + vs.length ≤ cells.size →
    ((vs.zipIdx k).foldl (fun cs (q : Value × Nat) => cs.setIfInBounds (off + q.2) q.1) cells).toList = cells.toList.take (off + k) ++ vs ++ cells.toList.drop (off + k + vs.length)
  | [], k, off, cells, _ => by simp
  | v :: vs, k, off, cells, h => by
    simp only [List.zipIdx_cons, List.foldl_cons, List.length_cons] at h ⊢
    rw [set_all vs (k + 1) off _ (by simp; omega)]
    have hlt : off + k < cells.toList.length := by simp; omega
    simp only [Array.toList_setIfInBounds]
    rw [show off + (k + 1) = off + k + 1 from by omega, List.take_succ_eq_append_getElem (by simpa using hlt)]
    rw [List.getElem_set_self, List.take_set_of_le (Nat.le_refl _), List.drop_set_of_lt (by omega)]
    simp only [List.append_assoc, List.cons_append, List.nil_append]
    rw [show off + k + 1 + vs.length = off + k + (vs.length + 1) from by omega]

theorem fill_rel (h : Sim N w0 X0 Y β s a w) {place : Nat → Option (Nat × Nat)} : ∀ {parts : List (Nat × Operand)} {pc : List PV} {vc : Array Value} {K : List PV → Option R},
    fillK place (parts.map fun q => (q.1, opv s.tm q.2)) pc K = some r → All2 (CRep w (Aof s.hp β Y) β) pc vc.toList → (∀ c ∈ pc, ∀ id ∈ refsC c, s.hp id ≠ none) →
    ∃ pc' vc', K pc' = some r ∧ Instr.fill place vc (parts.map fun q => (q.1, a.eval q.2)) = some vc' ∧ All2 (CRep w (Aof s.hp β Y) β) pc' vc'.toList ∧ pc'.length = pc.length ∧ ∀ c ∈ pc', ∀ id ∈ refsC c, s.hp id ≠ none
  | [], pc, vc, K, hk, hv, hr => ⟨pc, vc, hk, rfl, hv, rfl, hr⟩
  | (i, x) :: parts, pc, vc, K, hk, hv, hr => by
    simp only [List.map_cons] at hk
    unfold fillK at hk
    obtain ⟨⟨off, size⟩, hpl, hk⟩ := optK_inv hk
    obtain ⟨hb, hk⟩ := chk_inv hk
    simp only [Bool.and_eq_true] at hb
    obtain ⟨⟨hok, hsz⟩, hle⟩ := hb
    have hsz : (cellsOf (opv s.tm x)).length = size := Nat.eq_of_beq_eq_true hsz
    have hle : off + size ≤ pc.length := Nat.le_of_ble_eq_true hle
    have hxc := okP_cells hok (opv_rep h x)
    have hxl := hxc.len
    have hvl := hv.len
    have hvs : vc.toList.length = vc.size := by simp
    have hcs : (a.eval x).cells.toList.length = (a.eval x).cells.size := by simp
    have hset := set_all (a.eval x).cells.toList 0 off vc (by omega)
    simp only [Nat.add_zero] at hset
    have hset' : ((a.eval x).cells.zipIdx.foldl (fun cs (q : Value × Nat) => cs.setIfInBounds (off + q.2) q.1) vc).toList = vc.toList.take off ++ (a.eval x).cells.toList ++ vc.toList.drop (off + (a.eval x).cells.toList.length) := by
      rw [← hset, ← Array.foldl_toList]
      simp
    obtain ⟨pc', vc', hk, hf, h2, hl, hr'⟩ := fill_rel h (pc := splice pc (cellsOf (opv s.tm x)) off) (vc := (a.eval x).cells.zipIdx.foldl (fun cs (q : Value × Nat) => cs.setIfInBounds (off + q.2) q.1) vc) hk (by
        rw [hset', ← hxl]
        exact (((hv.take off).app hxc).app (hv.drop _))) (by
        intro c hc id hid
        unfold splice at hc
        rcases List.mem_append.1 hc with hc | hc
        · rcases List.mem_append.1 hc with hc | hc
          · exact hr c (List.mem_of_mem_take hc) id hid
          · refine opv_refs h x id ?_
            cases hp : opv s.tm x with
            | agg cs => rw [hp] at hc; exact List.mem_flatMap.2 ⟨c, hc, hid⟩
            | tup cs => rw [hp] at hc; simp [cellsOf] at hc; subst hc; cases hid
            | _ => rw [hp] at hc; simp [cellsOf] at hc; subst hc; exact hid
        · exact hr c (List.mem_of_mem_drop hc) id hid)
    refine ⟨pc', vc', hk, ?_, h2, ?_, hr'⟩
    · simp only [List.map_cons, Instr.fill, hpl]
      rw [if_neg (by simp; omega)]
      exact hf
    · rw [hl]
      simp [splice]
      omega

theorem zero_rel {t : TypeId} {z : Value} {cs : List PV} (hl : cs.length = z.cells.toList.length) (hc : ∀ (j : Nat) c, cs[j]? = some c → isT c ∧ ∃ u, z.cells.toList[j]? = some u ∧ u.oneCell' = true ∧ ∀ (w : World) (A : Nat → Prop), TRep w A c u) (_ht : zeroOf P t = some z) :
    All2 (CRep w A β) cs z.cells.toList ∧ ∀ c ∈ cs, refsC c = [] := by
  refine ⟨All2.of_at hl fun i c u hci hu => ?_, fun c hcm => ?_⟩
  · obtain ⟨hT, u', hu', _, hv⟩ := hc i c hci
    rw [hu] at hu'
    cases hu'
    exact (CRep_isT hT).2 (hv _ _)
  · obtain ⟨j, hj⟩ := List.mem_iff_getElem?.1 hcm
    exact refsC_isT (hc j c hj).1

theorem places_all : ∀ {fs : List Field}, (fs.all fun f => infOk P f.type) = true → fs.mapM (fun f => (P.info? f.type).map fun i => (f.offset, i.size)) = some (fs.map fun f => (f.offset, szOf P f.type))
  | [], _ => rfl
  | f :: fs, h => by
    simp only [List.all_cons, Bool.and_eq_true] at h
    obtain ⟨i, hi⟩ := Option.isSome_iff_exists.1 h.1
    simp [List.mapM_cons, hi, places_all h.2, szOf]

theorem fill_congr {p q : Nat → Option (Nat × Nat)} (h : ∀ i, p i = q i) (cells : Array Value) (parts : List (Nat × Value)) : Instr.fill p cells parts = Instr.fill q cells parts := by
  have : p = q := funext h
  rw [this]

theorem build_gives (h : Sim N w0 X0 Y β s a w) {t : TypeId} {ps : Array (Nat × Operand)} (ho : o.op = .build t ps) {K : PV → Option R}
    (hk : (chk (placesOk P t && isAggB P t) <| zcellsK P t fun z => fillK (placeOf P t) (ps.toList.map fun q => (q.1, opv s.tm q.2)) z fun cs => fcsK (cty P t) cs 0 fun cs' => K (.agg cs')) = some r) : ∃ v, K v = some r ∧ Gives P a w o Y β s v [] [] := by
  obtain ⟨hpl, hk⟩ := chk_inv hk
  simp only [Bool.and_eq_true] at hpl
  obtain ⟨hpl, hagg⟩ := hpl
  obtain ⟨z, cs, hk, hz, hct, hl, hsz, hc⟩ := zcellsK_inv hk
  obtain ⟨hzr, hzf⟩ := zero_rel (w := w) (A := Aof s.hp β Y) (β := β) hl hc hz
  obtain ⟨pc', vc', hk, hf, h2, hl', hr'⟩ := fill_rel h hk hzr (fun c hcm id hid => by rw [hzf c hcm] at hid; cases hid)
  obtain ⟨qs, hk, hql, hna, hq⟩ := fcsK_inv hk
  have hbuilt : P.built t (ps.toList.map fun q => (q.1, a.eval q.2)) = some vc' := by
    have hzi : ∃ i, P.info? t = some i ∧ i.zero = some z := by
      unfold zeroOf at hz
      cases hi : P.info? t with
      | none => rw [hi] at hz; cases hz
      | some i => rw [hi] at hz; exact ⟨i, rfl, hz⟩
    obtain ⟨i, hi, hzi⟩ := hzi
    unfold placesOk at hpl
    unfold Program.built
    split at hpl
    · rename_i fs hu
      have hf' : Instr.fill (((fs.toList.map fun f => (f.offset, szOf P f.type)).toArray)[·]?) z.cells (ps.toList.map fun q => (q.1, a.eval q.2)) = some vc' := by
        rw [← hf]
        refine fill_congr (fun j => ?_) _ _
        simp [placeOf, hu]
      simp only [hi, hu, hzi, places_all hpl]
      exact hf'
    · rename_i n e hu
      obtain ⟨ie, hie⟩ := Option.isSome_iff_exists.1 hpl
      have hf' : Instr.fill (fun j => some (j * ie.size, ie.size)) z.cells (ps.toList.map fun q => (q.1, a.eval q.2)) = some vc' := by
        rw [← hf]
        refine fill_congr (fun j => ?_) _ _
        simp [placeOf, hu, szOf, hie]
      simp only [hi, hu, hzi, hie]
      exact hf'
    · rename_i e hu
      simp [isAggB, hu] at hagg
    · cases hpl
  refine ⟨_, hk, gives_pure (val := .agg vc') ?_ ⟨vc'.toList, rfl, ?_⟩ ?_⟩
  · unfold execOp
    rw [ho]
    have := run_build (P := P) w t (ps.map fun q => (q.1, a.eval q.2)) vc' (by simpa using hbuilt)
    simp [this]
  · refine All2.of_at (by have := h2.len; omega) fun j c u hcj hu => ?_
    obtain ⟨p, hp, _, _, hpv⟩ := hq j c hcj
    rw [Nat.zero_add] at hp
    exact (hpv _ _ _ _ (h2.at_ hp hu)).1
  · intro id hid
    obtain ⟨c, hcm, hid⟩ := List.mem_flatMap.1 (show id ∈ qs.flatMap refsC from hid)
    obtain ⟨j, hj⟩ := List.mem_iff_getElem?.1 hcm
    obtain ⟨p, hp, _, hpr, _⟩ := hq j c hj
    rw [Nat.zero_add] at hp
    exact hr' p (List.mem_of_getElem? hp) id (hpr id hid)
end

end Go.Proofs.Ytoihfmiifeegpaa.Pv
