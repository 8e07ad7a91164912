/-
  Appends, third part; the operations of class M.
-/
import Derived.Test.YtoihfmiifeegpaaPvS35
import Derived.Laws.AppendOwn
namespace Go.Proofs.Ytoihfmiifeegpaa.Pv
open Go.RowKit

section
variable {R : Type} {r : R} {P : Program} {N : Nat} {w0 : World} {X0 : Lend} {Y : Nat → Prop} {β β' : Bt} {s : St} {a : Act} {w w' : World} {o : Oper} {A : Nat → Prop}

theorem append_sound (h : Sim N w0 X0 Y β s a w) {c : Call} (ho : o.op = .call c) (hc : c.callee = .builtin .append) {d : Nat} (hdst : o.dst = some d) {b x : Operand} (hargs : c.args.toList = [b, x]) {t tx : TypeId} {ts : List TypeId} (htys : c.argTypes.toList = t :: tx :: ts)
    {K : St → Option R} (hk : appendK P N s d t tx (opv s.tm b) (opv s.tm x) K = some r) :
    ∃ s', K s' = some r ∧ ∀ (next : Act → World → Prop) (Q : Exit → Act → World → Prop), (∀ a' w' β', Sim N w0 X0 Y β' s' a' w' → next a' w') → o.wp P a w next Q := by
  have hcargs : c.args = #[b, x] := by
    have : c.args = ([b, x] : List Operand).toArray := by rw [← hargs]
    exact this
  have hctys : c.argTypes = (t :: tx :: ts).toArray := by rw [← htys]
  have run : ∀ {v : Value} {w1 : World}, (Builtin.append_ (t :: tx :: ts).toArray o.type #[a.eval b, a.eval x]).run P w = .ok v w1 → ∀ (next : Act → World → Prop) (Q : Exit → Act → World → Prop), next (a.put (some d) v) w1 → o.wp P a w next Q := by
    intro v w1 hr next Q hn
    unfold Oper.wp execOp
    rw [ho]
    simp only [resolve, hc, invoke, builtin, Sem.run_bind, Sem.run_pure, Result.andThen_ok, hcargs, hctys]
    have : (#[b, x] : Array Operand).map a.eval = #[a.eval b, a.eval x] := by simp
    rw [this, hr]
    show next (a.put o.dst v) w1
    rw [hdst]
    exact hn
  have hbv := opv_rep h b
  have hbr := opv_refs h b
  unfold appendK at hk
  split at hk
  · rename_i e hu
    obtain ⟨hzi, hk⟩ := chk_inv hk
    obtain ⟨i, z, hi, hz, hzs, hsz⟩ := zinfOk_inv hzi
    cases hit : isIntTy P tx
    rotate_left
    · rw [hit] at hk
      simp only [cond_true] at hk
      obtain ⟨ki, htx⟩ : ∃ k, P.underlying tx = some (.int k) := by
        unfold isIntTy at hit
        split at hit
        · exact ⟨_, by assumption⟩
        · cases hit
      unfold appZeroK at hk
      obtain ⟨kx, n, hx, hk⟩ := anyIntK_inv hk
      obtain ⟨zz, n', c', hk, hp⟩ := lsK_inv hk
      obtain ⟨hb, hk⟩ := chk_inv hk
      simp only [Bool.and_eq_true, decide_eq_true_eq] at hb
      obtain ⟨⟨⟨⟨⟨hzz, hdN⟩, hdn⟩, hn0⟩, hby⟩, hnm⟩ := hb
      have hdN : d < N := Nat.lt_of_succ_le (Nat.le_of_ble_eq_true hdN)
      have hdn : s.hp d = none := by simpa using hdn
      have hdOk : dstOk N (some d) = true := by simp [dstOk, Nat.blt]; omega
      have hbytes : ((P.info? e).map (·.bytes)).getD 0 = i.bytes := by rw [hi]; rfl
      rw [hbytes] at hby
      rw [hsz] at hk
      have hax := opv_sc h hx
      rcases slice_form hp hbv with ⟨hab, _⟩ | ⟨_, _, _, hzf, _⟩ | ⟨_, _, _, hzf, _⟩
      · refine ⟨_, hk, fun next Q hn => ?_⟩
        by_cases hm0 : n = 0
        · subst hm0
          have hr := append_zero_none (P := P) (w := w) (t := t) (tx := tx) (ty := o.type) (ts := ts) (kx := kx) hu htx hi
          rw [← hab, ← hax] at hr
          refine run hr next Q (hn _ _ (upd β d none) ?_)
          rw [hab]
          refine h.stepR (d := some d) (nw := [(d, .ar false [])]) (β' := upd β d none) hdOk (by simp [absent, hdn]) ⟨rfl, rfl, rfl, WStep.refl _ _, fun j hj => upd_other _ _ (by rintro rfl; exact hj hdn), ?_, ?_, ?_, ?_, ?_, .inl ⟨upd_same _ _ _, rfl, rfl, rfl⟩, ?_⟩
          · intro j bx hm; simp at hm; rw [hm.2]; trivial
          · intro j bx hm; simp at hm; obtain ⟨rfl, rfl⟩ := hm; exact .inl ⟨upd_same _ _ _, rfl⟩
          · intro j bx k q hm hq; simp at hm; obtain ⟨rfl, rfl⟩ := hm; rw [upd_same] at hq; cases hq
          · intro j bx j' bx' k q q' hm hm' _ _; simp at hm hm'; rw [hm.1, hm'.1]
          · intro j cells hm; simp at hm
          · intro j hj; simp [refs, refs1, refsC] at hj; subst hj; exact .inr ⟨.ar false [], by simp⟩
        · have hr := append_zero_run (P := P) (w := w) (t := t) (tx := tx) (ty := o.type) (ts := ts) (kx := kx) hu htx hi hz (n := n) (by omega) hby hnm
          rw [← hab, ← hax] at hr
          refine run hr next Q (hn _ _ (upd β d (some (w.heap.size, 0))) ?_)
          have hge : n.toNat ≤ grownCap w n.toNat 0 e := grownCap_ge w n.toNat 0 e
          generalize hcs : ((if n.toNat * i.size = 0 then #[] else Builtin.zeroCells z.cells n.toNat) ++ Builtin.zeroCells z.cells (grownCap w n.toNat 0 e - n.toNat)) = cs
          have hgb : GrowB w (w.drew.alloc (.cells cs e)) cs e :=
            ⟨rfl, rfl, rfl, fun k hk => Below.heap_alloc w.drew _ k hk, by show (w.heap.push _).size = _; simp, (0, 0), by show (w.heap.push _)[w.heap.size]? = _; simp, .inl rfl⟩
          have hasz : cs.size = grownCap w n.toNat 0 e * i.size := by
            rw [← hcs]
            by_cases hs0 : n.toNat * i.size = 0
            · rw [if_pos hs0]
              have hi0 : i.size = 0 := by
                rcases Nat.mul_eq_zero.1 hs0 with h | h
                · omega
                · exact h
              simp [size_zeroCells, hzs, hi0]
            · rw [if_neg hs0]
              simp only [Array.size_append, size_zeroCells, hzs, ← Nat.add_mul]
              congr 1
              omega
          refine h.stepR (d := some d) (nw := [(d, .ar false [])]) hdOk (by simp [absent, hdn]) (stepR_new hgb hdn trivial ?_ (fun cells hx => by cases hx) ?_ (by intro j hj; simp [refs, refs1, refsC] at hj; exact .inr hj))
          · refine .inr ⟨w.heap.size, 0, upd_same _ _ _, fun j p hj => by simp at hj, fun _ j _ hj => ?_, (fun q => by cases q)⟩
            rw [hgb.bsz] at hj
            exact hgb.frozen hj
          · refine .inr ⟨w.heap.size, 0, 0, grownCap w n.toNat 0 e, upd_same _ _ _, rfl, .inl rfl, hge, ?_, by rw [hgb.size]; omega⟩
            rw [hgb.bsz, hasz]; omega
      · rw [hzf] at hzz; cases hzz
      · rw [hzf] at hzz; cases hzz
    rw [hit] at hk
    simp only [cond_false] at hk
    have hbytes : ((P.info? e).map (·.bytes)).getD 0 = i.bytes := by rw [hi]; rfl
    obtain ⟨⟨dx, hdx, hdxi⟩, m, new, news, hk, hs⟩ := srcK_inv h hk (by
      intro m new hk
      split at hk
      · split at hk
        · obtain ⟨hb, _⟩ := chk_inv hk
          simp only [Bool.and_eq_true, decide_eq_true_eq] at hb
          have he := Nat.eq_of_beq_eq_true hb.1.1.1.1.1.1.1
          rw [← he]
          exact hb.1.1.2
        · cases hk
      · obtain ⟨zz, n', c', hk, _⟩ := lsK_inv hk
        obtain ⟨hb, _⟩ := chk_inv hk
        simp only [Bool.and_eq_true, decide_eq_true_eq] at hb
        exact hb.1.1.2)
    rw [hsz] at hs
    have hnl : new.length = news.length := hs.rep.len
    split at hk
    · rename_i id es off n eb
      rw [eb] at hbv hbr
      split at hk
      · rename_i cc h0
        obtain ⟨hb, hk2⟩ := chk_inv hk
        simp only [Bool.and_eq_true, decide_eq_true_eq] at hb
        obtain ⟨⟨⟨⟨⟨⟨⟨hes, hoff⟩, hdN⟩, hdn⟩, hncl⟩, hnewl⟩, hby⟩, hnm⟩ := hb
        have hes := Nat.eq_of_beq_eq_true hes
        have hoff := Nat.eq_of_beq_eq_true hoff
        have hdN : d < N := Nat.lt_of_succ_le (Nat.le_of_ble_eq_true hdN)
        have hdn : s.hp d = none := by simpa using hdn
        subst hoff
        rw [hsz] at hes
        subst hes
        rw [hbytes] at hby
        have hnews : news.length = m * i.size := by omega
        have hidp : s.hp id ≠ none := by rw [h0]; simp
        have hbox := h.box id _ h0
        refine ⟨_, hk2, fun next Q hn => ?_⟩
        -- a new array
        have grow : ∀ (ad : Option Addr) (cap : Nat) (olds : List Value), a.eval b = .slice ad n cap → All2 (TRep w (Aof s.hp β Y)) (cc.take (n * i.size)) olds → (∀ u ∈ olds, u.oneCell' = true) → olds.length = n * i.size →
            ((ad = none ∧ olds = []) ∨ ∃ p, ad = some p ∧ olds.length = n * i.size ∧ ∀ (j : Nat) v, olds[j]? = some v → w.cell? (p.add j) = some v) → cap < n + m → o.wp P a w next Q := by
          intro ad cap olds hab holds h1 hol hold hcap
          have hr := append_grow_run (P := P) (w := w) (t := t) (tx := tx) (ty := o.type) (ts := ts) hu hdx hdxi hi hz hs hold hcap hby hnm
          rw [← hab] at hr
          refine run hr next Q (hn _ _ (upd β d (some (w.heap.size, 0))) ?_)
          have hge : n + m ≤ grownCap w (n + m) cap e := grownCap_ge w (n + m) cap e
          have hgb : GrowB w (w.drew.alloc (.cells (olds.toArray ++ news.toArray ++ Builtin.zeroCells z.cells (grownCap w (n + m) cap e - (n + m))) e)) (olds.toArray ++ news.toArray ++ Builtin.zeroCells z.cells (grownCap w (n + m) cap e - (n + m))) e :=
            ⟨rfl, rfl, rfl, fun k hk => Below.heap_alloc w.drew _ k hk, by show (w.heap.push _).size = _; simp, (0, 0), by show (w.heap.push _)[w.heap.size]? = _; simp, .inl rfl⟩
          have hasz : (olds.toArray ++ news.toArray ++ Builtin.zeroCells z.cells (grownCap w (n + m) cap e - (n + m))).size = grownCap w (n + m) cap e * i.size := by
            simp only [Array.size_append, List.size_toArray, size_zeroCells, hzs, hol, hnews, ← Nat.add_mul]
            congr 1
            omega
          have hbo : ∀ k y, some (w.heap.size, 0) = some (k, y) → w.heap.size ≤ k ∨ ∃ q, β id = some (k, q) := by
            intro k y hh
            simp at hh
            exact .inl (by omega)
          refine h.move h0 hdn hdN rfl rfl rfl (by rw [hgb.size]; omega) (fun k hk _ => hgb.old k hk) hgb.step.bs (fun k y hh => ⟨by simp at hh; rw [hgb.size]; omega, hbo k y hh⟩) (fun k y hh hlt => by simp at hh; omega)
            (fun k y _ hlt j _ => ⟨World.cell?_of_block (w := w) (hgb.old k hlt), World.frozen?_of_block (w := w) (hgb.old k hlt)⟩) ?_ ?_ (by intro j hj; simpa [refs, refs1, refsC] using hj)
          · refine .inr ⟨w.heap.size, 0, upd_same _ _ _, grown_rd hgb (A_move h0 hdn hbo) holds hs.rep h1 hs.one, fun _ j _ hj => ?_, (fun q => by cases q)⟩
            rw [hgb.bsz] at hj
            exact hgb.frozen hj
          · refine .inr ⟨w.heap.size, 0, 0, grownCap w (n + m) cap e, upd_same _ _ _, rfl, .inl rfl, hge, ?_, by rw [hgb.size]; omega⟩
            rw [hgb.bsz, hasz]; omega
        rcases hbv with ⟨hβ, _, rfl, hab⟩ | ⟨bb, ob, y, cap, hβ, hab, hy, hncap, hcap, hblt⟩
        · rcases hbox with ⟨_, rfl⟩ | ⟨b', o', hb1, _⟩
          · by_cases hm0 : m = 0
            · subst hm0
              have hr := append_none_run (P := P) (w := w) (t := t) (tx := tx) (ty := o.type) (ts := ts) hu hdx hdxi hi hs
              rw [← hab] at hr
              have hnew0 : new = [] := List.eq_nil_of_length_eq_zero (by omega)
              subst hnew0
              refine run hr next Q (hn _ _ (upd β d none) ?_)
              rw [hab]
              refine h.move h0 hdn hdN rfl rfl rfl (Nat.le_refl _) (fun _ _ _ => rfl) (fun _ _ => Nat.le_refl _) (fun k q hh => by cases hh) (fun k q hh => by cases hh) (fun _ _ _ _ _ _ => ⟨rfl, rfl⟩) ?_ ?_ (by intro j hj; simpa [refs, refs1, refsC] using hj)
              · exact .inl ⟨upd_same _ _ _, by simp⟩
              · exact .inl ⟨upd_same _ _ _, rfl, rfl, rfl⟩
            · exact grow none 0 [] hab (by simp [All2]) (by simp) (by simp) (.inl ⟨rfl, rfl⟩) (by omega)
          · rw [hβ] at hb1; cases hb1
        · rcases hbox with ⟨hb1, _⟩ | ⟨b', o', hb1, hb2, hb3, _⟩
          · rw [hβ] at hb1; cases hb1
          rw [hβ] at hb1
          simp at hb1
          obtain ⟨rfl, rfl⟩ := hb1
          have hy : y = ob := by rcases hy with hy | ⟨_, hq⟩ <;> omega
          subst hy
          by_cases hroom : n + m ≤ cap
          · have hfit : y + n * i.size + news.length ≤ bsz w bb := by
              have h5 : n * i.size + m * i.size ≤ cap * i.size := by rw [← Nat.add_mul]; exact Nat.mul_le_mul_right _ hroom
              omega
            have hcell : ∀ k, k < news.length → (w.cell? ⟨bb, y + n * i.size + k, none⟩).isSome = true := fun k hk => bsz_cell (by omega)
            have hr := append_room_run (P := P) (w := w) (t := t) (tx := tx) (ty := o.type) (ts := ts) (b := bb) (ob := y) (n := n) (cap := cap) hu hdx hdxi hi hs hnews hcell (fun k hk => hb3 rfl _ (by omega) (by omega)) hroom
            rw [← hab] at hr
            have hw := WroteB.setCells bb news (y + n * i.size) w
            have hbo : ∀ k q, some (bb, y) = some (k, q) → w.heap.size ≤ k ∨ ∃ q', β id = some (k, q') := by
              intro k q hh
              simp at hh
              obtain ⟨rfl, rfl⟩ := hh
              exact .inr ⟨_, hβ⟩
            refine run hr next Q (hn _ _ (upd β d (some (bb, y))) ?_)
            have hst : WStep (Aof s.hp β Y) w (w.setCells bb (y + n * i.size) news) := by
              have hAb : Aof s.hp β Y bb := .inl ⟨id, y, by rw [h0]; trivial, hβ⟩
              exact ⟨by rw [hw.size]; exact Nat.le_refl _, fun k _ hk => hw.other k (fun e => hk (e ▸ hAb)), fun k _ => by
                by_cases e : k = bb
                · subst e; rw [hw.bs]; exact Nat.le_refl _
                · unfold bsz; rw [hw.other k e]; exact Nat.le_refl _⟩
            refine h.move h0 hdn hdN hw.os hw.tape hw.output (by rw [hw.size]; exact Nat.le_refl _) (fun k _ hq => hw.other k (by rintro rfl; exact hq _ hβ)) hst.bs (fun k q hh => ⟨by simp at hh; rw [hw.size]; omega, hbo k q hh⟩) (fun k q hh _ => by rw [hβ]; exact hh)
              (fun k q hh _ j hj => by
                rw [hβ] at hh
                cases hh
                exact ⟨World.cell?_setCells_out bb _ _ w ⟨bb, j, none⟩ (fun _ _ => by show j < y + n * i.size ∨ y + n * i.size + _ ≤ j; omega), hw.frz j⟩) ?_ ?_ (by intro j hj; simpa [refs, refs1, refsC] using hj)
            · refine .inr ⟨bb, y, upd_same _ _ _, fun j p hj => ?_, fun _ j hj hj' => ?_, (fun q => by cases q)⟩
              · rw [add_mk]
                by_cases hjn : j < n * i.size
                · rw [List.getElem?_append_left (by rw [List.length_take]; omega), List.getElem?_take_of_lt hjn] at hj
                  obtain ⟨u, hu', h5, ht⟩ := hb2 j p hj
                  rw [add_mk] at hu'
                  refine ⟨u, ?_, h5, ht.step hst (A_move h0 hdn hbo)⟩
                  rw [World.cell?_setCells_out bb _ _ w ⟨bb, y + j, none⟩ (fun _ _ => by show y + j < y + n * i.size ∨ y + n * i.size + _ ≤ y + j; omega)]
                  exact hu'
                · rw [List.getElem?_append_right (by rw [List.length_take]; omega), List.length_take, Nat.min_eq_left hncl] at hj
                  obtain ⟨u, hu', ht⟩ := hs.rep.get hj
                  have hlt : j - n * i.size < news.length := by
                    rcases Nat.lt_or_ge (j - n * i.size) news.length with h | h
                    · exact h
                    · rw [List.getElem?_eq_none h] at hu'; cases hu'
                  refine ⟨u, ?_, hs.one u (List.mem_of_getElem? hu'), ht.step hst (A_move h0 hdn hbo)⟩
                  have := World.cell?_setCells_in bb news (y + n * i.size) w hcell (j - n * i.size) hlt
                  rw [show y + j = y + n * i.size + (j - n * i.size) from by omega, this]
                  rw [List.getElem?_eq_getElem hlt] at hu'
                  exact hu'
              · rw [hw.bs] at hj'
                rw [hw.frz]
                exact hb3 rfl j hj hj'
            · exact .inr ⟨bb, y, y, cap, upd_same _ _ _, rfl, .inl rfl, hroom, by rw [hw.bs]; omega, by rw [hw.size]; exact hblt⟩
          · -- the old cells
            have hob : ∀ (j : Nat) p, (cc.take (n * i.size))[j]? = some p → ∃ v, w.cell? ⟨bb, y + j, none⟩ = some v ∧ v.oneCell' = true ∧ TRep w (Aof s.hp β Y) p v := by
              intro j p hj
              rw [List.getElem?_take] at hj
              split at hj
              · obtain ⟨v, hv, h5, ht⟩ := hb2 j p hj
                rw [add_mk] at hv
                exact ⟨v, hv, h5, ht⟩
              · cases hj
            have hlen : (cc.take (n * i.size)).length = n * i.size := by rw [List.length_take]; omega
            refine grow _ cap ((cc.take (n * i.size)).mapIdx fun j _ => (w.cell? ⟨bb, y + j, none⟩).getD undef) hab ?_ ?_ (by simp only [List.length_mapIdx]; exact hlen) (.inr ⟨_, rfl, by simp only [List.length_mapIdx]; exact hlen, fun j v hj => ?_⟩) (by omega)
            · refine All2.of_at (by simp) fun j p v hp hv => ?_
              obtain ⟨u, hu', _, ht⟩ := hob j p hp
              rw [List.getElem?_mapIdx, hp, Option.map_some, hu'] at hv
              simp at hv
              subst hv
              exact ht
            · intro v hv
              obtain ⟨j, hj⟩ := List.mem_iff_getElem?.1 hv
              rw [List.getElem?_mapIdx] at hj
              cases hp : (cc.take (n * i.size))[j]? with
              | none => rw [hp] at hj; cases hj
              | some p =>
                obtain ⟨u, hu', h5, _⟩ := hob j p hp
                rw [hp, Option.map_some, hu'] at hj
                simp at hj
                subst hj
                exact h5
            · rw [List.getElem?_mapIdx] at hj
              cases hp : (cc.take (n * i.size))[j]? with
              | none => rw [hp] at hj; cases hj
              | some p =>
                obtain ⟨u, hu', h5, _⟩ := hob j p hp
                rw [hp, Option.map_some, hu'] at hj
                simp at hj
                subst hj
                rw [add_mk]
                exact hu'
      · cases hk
    · obtain ⟨zz, n', c', hk, hp⟩ := lsK_inv hk
      obtain ⟨hb, hk⟩ := chk_inv hk
      simp only [Bool.and_eq_true, decide_eq_true_eq] at hb
      obtain ⟨⟨⟨⟨⟨hzz, hdN⟩, hdn⟩, hnewl⟩, hby⟩, hnm⟩ := hb
      have hdN : d < N := Nat.lt_of_succ_le (Nat.le_of_ble_eq_true hdN)
      have hdn : s.hp d = none := by simpa using hdn
      have hdOk : dstOk N (some d) = true := by simp [dstOk, Nat.blt]; omega
      rw [hsz] at hnewl hk
      rw [hbytes] at hby
      have hnews : news.length = m * i.size := by omega
      rcases slice_form hp hbv with ⟨hab, _⟩ | ⟨_, _, _, hzf, _⟩ | ⟨_, _, _, hzf, _⟩
      · refine ⟨_, hk, fun next Q hn => ?_⟩
        by_cases hm0 : m = 0
        · subst hm0
          have hr := append_none_run (P := P) (w := w) (t := t) (tx := tx) (ty := o.type) (ts := ts) hu hdx hdxi hi hs
          rw [← hab] at hr
          have hnew0 : new = [] := List.eq_nil_of_length_eq_zero (by omega)
          subst hnew0
          refine run hr next Q (hn _ _ (upd β d none) ?_)
          rw [hab]
          refine h.stepR (d := some d) (nw := [(d, .ar false [])]) (β' := upd β d none) hdOk (by simp [absent, hdn]) ⟨rfl, rfl, rfl, WStep.refl _ _, fun j hj => upd_other _ _ (by rintro rfl; exact hj hdn), ?_, ?_, ?_, ?_, ?_, .inl ⟨upd_same _ _ _, rfl, rfl, rfl⟩, ?_⟩
          · intro j bx hm; simp at hm; rw [hm.2]; trivial
          · intro j bx hm; simp at hm; obtain ⟨rfl, rfl⟩ := hm; exact .inl ⟨upd_same _ _ _, rfl⟩
          · intro j bx k q hm hq; simp at hm; obtain ⟨rfl, rfl⟩ := hm; rw [upd_same] at hq; cases hq
          · intro j bx j' bx' k q q' hm hm' _ _; simp at hm hm'; rw [hm.1, hm'.1]
          · intro j cells hm; simp at hm
          · intro j hj; simp [refs, refs1, refsC] at hj; subst hj; exact .inr ⟨.ar false [], by simp⟩
        · have hr := append_grow_run (P := P) (w := w) (t := t) (tx := tx) (ty := o.type) (ts := ts) (ad := none) (n := 0) (cap := 0) (olds := []) hu hdx hdxi hi hz hs (.inl ⟨rfl, rfl⟩) (by omega) (by rw [Nat.zero_add]; exact hby) (by omega)
          rw [← hab] at hr
          refine run hr next Q (hn _ _ (upd β d (some (w.heap.size, 0))) ?_)
          have hge : 0 + m ≤ grownCap w (0 + m) 0 e := grownCap_ge w (0 + m) 0 e
          have hgb : GrowB w (w.drew.alloc (.cells (([] : List Value).toArray ++ news.toArray ++ Builtin.zeroCells z.cells (grownCap w (0 + m) 0 e - (0 + m))) e)) (([] : List Value).toArray ++ news.toArray ++ Builtin.zeroCells z.cells (grownCap w (0 + m) 0 e - (0 + m))) e :=
            ⟨rfl, rfl, rfl, fun k hk => Below.heap_alloc w.drew _ k hk, by show (w.heap.push _).size = _; simp, (0, 0), by show (w.heap.push _)[w.heap.size]? = _; simp, .inl rfl⟩
          have hasz : (([] : List Value).toArray ++ news.toArray ++ Builtin.zeroCells z.cells (grownCap w (0 + m) 0 e - (0 + m))).size = grownCap w (0 + m) 0 e * i.size := by
            simp only [Array.size_append, List.size_toArray, size_zeroCells, hzs, hnews, List.length_nil, ← Nat.add_mul]
            rw [Nat.zero_add (m * i.size), ← Nat.add_mul]
            congr 1
            omega
          refine h.stepR (d := some d) (nw := [(d, .ar false new)]) hdOk (by simp [absent, hdn]) (stepR_new hgb hdn trivial ?_ (fun cells hx => by cases hx) ?_ (by intro j hj; simp [refs, refs1, refsC] at hj; exact .inr hj))
          · refine .inr ⟨w.heap.size, 0, upd_same _ _ _, ?_, fun _ j _ hj => ?_, (fun q => by cases q)⟩
            · exact grown_rd (pre := []) hgb (A_new hdn) trivial hs.rep (by simp) hs.one
            · rw [hgb.bsz] at hj
              exact hgb.frozen hj
          · refine .inr ⟨w.heap.size, 0, 0, grownCap w (0 + m) 0 e, upd_same _ _ _, by rw [Nat.zero_add], .inl rfl, by omega, ?_, by rw [hgb.size]; omega⟩
            rw [hgb.bsz, hasz]; omega
      · rw [hzf] at hzz; cases hzz
      · rw [hzf] at hzz; cases hzz
  · cases hk

theorem mutK_sound (h : Sim N w0 X0 Y β s a w) (hNG : NoNG P) {C : Cfg} {call : Call'} (hcall : ∀ f args res, call f args = some res → SoundC P f args res) {K : St → Option R} (hk : mutK C P N call s o K = some r) :
    ∃ s', K s' = some r ∧ ∀ (next : Act → World → Prop) (Q : Exit → Act → World → Prop), (∀ a' w' β', Sim N w0 X0 Y β' s' a' w' → next a' w') → o.wp P a w next Q := by
  unfold mutK at hk
  split at hk
  · rename_i t x y ho
    obtain ⟨hd, hk⟩ := chk_inv hk
    exact store_sound h ho (by simpa using hd) hk
  · rename_i c ho
    split at hk
    · rename_i hc
      obtain ⟨d, hd, hk1⟩ := optK_inv hk
      obtain ⟨b, xs, hxs, hk2⟩ := consK_inv hk1
      obtain ⟨x, ys, hys, hk3⟩ := consK_inv hk2
      obtain ⟨hnil, hk4⟩ := nilK_inv hk3
      obtain ⟨t, us, hus, hk5⟩ := consK_inv hk4
      obtain ⟨tx, vs, hvs, hk6⟩ := consK_inv hk5
      rw [hys, hnil] at hxs
      rw [hvs] at hus
      exact append_sound h ho hc hd hxs hus hk6
    · rename_i f hc
      exact callM_sound h hNG hcall ho hc hk
    · cases hk
  · cases hk

/-- One operation. -/
theorem popK_sound (h : Sim N w0 X0 Y β s a w) (hNG : NoNG P) {C : Cfg} {call : Call'} (hcall : ∀ f args res, call f args = some res → SoundC P f args res) {K : St → Option R} (hk : popK C P N call o s K = some r) :
    ∃ s', K s' = some r ∧ ∀ (next : Act → World → Prop) (Q : Exit → Act → World → Prop), (∀ a' w' β', Sim N w0 X0 Y β' s' a' w' → next a' w') → o.wp P a w next Q := by
  unfold popK at hk
  cases hm : isM C P o.op
  · rw [hm] at hk
    exact popR_sound h hNG hcall hk
  · rw [hm] at hk
    exact mutK_sound h hNG hcall hk
end

end Go.Proofs.Ytoihfmiifeegpaa.Pv
