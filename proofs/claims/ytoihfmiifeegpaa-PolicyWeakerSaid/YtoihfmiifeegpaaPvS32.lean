/-
  An append to nil.
-/
import Derived.Test.YtoihfmiifeegpaaPvS20
import Derived.Laws.AppendOwn
namespace Go.Proofs.Ytoihfmiifeegpaa.Pv
open Go.RowKit

section
variable {R : Type} {r : R} {P : Program} {N : Nat} {w0 : World} {X0 : Lend} {Y : Nat → Prop} {β β' : Bt} {s : St} {a : Act} {w w' : World} {o : Oper} {A : Nat → Prop}

theorem bsz_cell {b j : Nat} (h : j < bsz w b) : (w.cell? ⟨b, j, none⟩).isSome = true := by
  unfold bsz at h
  unfold World.cell?
  split at h
  · rename_i c e fz hb
    simp [hb, h]
  · omega

theorem A_move {id d : Nat} {c cells : List PV} {bo : Option (Nat × Nat)} (h0 : s.hp id = some (.ar false c)) (hd : s.hp d = none)
    (hbo : ∀ k x, bo = some (k, x) → w.heap.size ≤ k ∨ ∃ y, β id = some (k, y)) :
    ∀ k, k < w.heap.size → Aof (upd (upd s.hp id (some .mv)) d (some (.ar false cells))) (upd β d bo) Y k → Aof s.hp β Y k := by
  rintro k hk (⟨i, x, hl, hβ⟩ | hY)
  · by_cases e' : i = d
    · subst e'
      rw [upd_same] at hβ
      rcases hbo k x hβ with h | ⟨y, hy⟩
      · omega
      · exact .inl ⟨id, y, by rw [h0]; trivial, hy⟩
    · rw [upd_other _ _ e'] at hl hβ
      by_cases e : i = id
      · subst e; rw [upd_same] at hl; exact hl.elim
      · rw [upd_other _ _ e] at hl
        exact .inl ⟨i, x, hl, hβ⟩
  · exact .inr hY

/-- The cells of a grown array. -/
theorem grown_rd {pre new : List PV} {olds news : List Value} {zs : Array Value} {e : TypeId} {A' : Nat → Prop} (hg : GrowB w w' (olds.toArray ++ news.toArray ++ zs) e) (hA : ∀ b, b < w.heap.size → A' b → A b)
    (h1 : All2 (TRep w A) pre olds) (h2 : All2 (TRep w A) new news) (ho : ∀ u ∈ olds, u.oneCell' = true) (hn : ∀ u ∈ news, u.oneCell' = true) : RdT w' A' ⟨w.heap.size, 0, none⟩ (pre ++ new) := by
  refine rdT_new hg hA fun j p hj => ?_
  obtain ⟨v, hv, ht⟩ := (h1.app h2).get hj
  refine ⟨v, ?_, ?_, ht⟩
  · have hlt : j < (olds ++ news).length := by
      rcases Nat.lt_or_ge j (olds ++ news).length with h | h
      · exact h
      · rw [List.getElem?_eq_none h] at hv; cases hv
    rw [Array.getElem?_append_left (by simpa using hlt)]
    simpa using hv
  · rcases List.mem_append.1 (List.mem_of_getElem? hv) with hm | hm
    · exact ho v hm
    · exact hn v hm


theorem appNil_gives (h : Sim N w0 X0 Y β s a w) {c : Call} (ho : o.op = .call c) (hc : c.callee = .builtin .append) (hnb : nilBase c = true) {d : Nat} (hdst : o.dst = some d) {b x : Operand} (hargs : c.args.toList = [b, x]) {t tx : TypeId} {ts : List TypeId} (htys : c.argTypes.toList = t :: tx :: ts)
    {K : PV → List (Nat × Box) → Option R} (hk : appNilK P (rda s.hp) d t tx (opv s.tm x) K = some r) : ∃ v nw, K v nw = some r ∧ Gives P a w o Y β s v [] nw := by
  have hb : b = .const (.slice none 0 0) := by
    unfold nilBase at hnb
    rw [hargs] at hnb
    split at hnb
    · rename_i e
      injection e
    · cases hnb
  have hcargs : c.args = #[b, x] := by
    have : c.args = ([b, x] : List Operand).toArray := by rw [← hargs]
    exact this
  have hctys : c.argTypes = (t :: tx :: ts).toArray := by rw [← htys]
  have hab : a.eval b = .slice none 0 0 := by rw [hb]; rfl
  have run : ∀ {v : Value} {w1 : World}, (Builtin.append_ (t :: tx :: ts).toArray o.type #[a.eval b, a.eval x]).run P w = .ok v w1 → (execOp a.eval o).run P w = .ok (.value v) w1 := by
    intro v w1 hr
    unfold execOp
    rw [ho]
    simp only [resolve, hc, invoke, builtin, Sem.run_bind, Sem.run_pure, Result.andThen_ok, hcargs, hctys]
    have : (#[b, x] : Array Operand).map a.eval = #[a.eval b, a.eval x] := by simp
    rw [this, hr]
    rfl
  unfold appNilK at hk
  split at hk
  · rename_i e hu
    obtain ⟨hzi, hk⟩ := chk_inv hk
    obtain ⟨i, z, hi, hz, hzs, hsz⟩ := zinfOk_inv hzi
    have hbytes : ((P.info? e).map (·.bytes)).getD 0 = i.bytes := by rw [hi]; rfl
    obtain ⟨⟨dx, hdx, hdxi⟩, m, new, news, hk, hs⟩ := srcK_inv (s := s) h hk (fun m new hk' => by
      obtain ⟨hb, _⟩ := chk_inv hk'
      simp only [Bool.and_eq_true, decide_eq_true_eq] at hb
      exact hb.1.1)
    obtain ⟨hb', hk⟩ := chk_inv hk
    simp only [Bool.and_eq_true, decide_eq_true_eq] at hb'
    obtain ⟨⟨hnewl, hby⟩, hnm⟩ := hb'
    have hnl : new.length = news.length := hs.rep.len
    rw [hsz] at hnewl hk hs
    rw [hbytes] at hby
    have hnews : news.length = m * i.size := by omega
    refine ⟨_, _, hk, by simp, ?_⟩
    by_cases hm0 : m = 0
    · subst hm0
      have hr := append_none_run (P := P) (w := w) (t := t) (tx := tx) (ty := o.type) (ts := ts) hu hdx hdxi hi hs
      rw [← hab] at hr
      have hnew0 : new = [] := List.eq_nil_of_length_eq_zero (by omega)
      subst hnew0
      refine ⟨_, _, run hr, fun habs => ⟨upd β d none, ?_⟩⟩
      have hdn : s.hp d = none := (absent_spec habs).1 d _ (List.mem_singleton_self _)
      rw [hab]
      refine ⟨rfl, rfl, rfl, WStep.refl _ _, fun j hj => upd_other _ _ (by rintro rfl; exact hj hdn), ?_, ?_, ?_, ?_, ?_, .inl ⟨upd_same _ _ _, rfl, rfl, rfl⟩, ?_⟩
      · intro j bx hm; simp at hm; rw [hm.2]; trivial
      · intro j bx hm; simp at hm; obtain ⟨rfl, rfl⟩ := hm; exact .inl ⟨upd_same _ _ _, rfl⟩
      · intro j bx k q hm hq; simp at hm; obtain ⟨rfl, rfl⟩ := hm; rw [upd_same] at hq; cases hq
      · intro j bx j' bx' k q q' hm hm' _ _; simp at hm hm'; rw [hm.1, hm'.1]
      · intro j cells hm; simp at hm
      · intro j hj; simp [refs, refs1, refsC] at hj; subst hj; exact .inr ⟨.ar false [], by simp⟩
    · have hr := append_grow_run (P := P) (w := w) (t := t) (tx := tx) (ty := o.type) (ts := ts) (ad := none) (n := 0) (cap := 0) (olds := []) hu hdx hdxi hi hz hs (.inl ⟨rfl, rfl⟩) (by omega) (by rw [Nat.zero_add]; exact hby) (by omega)
      rw [← hab] at hr
      refine ⟨_, _, run hr, fun habs => ⟨upd β d (some (w.heap.size, 0)), ?_⟩⟩
      have hdn : s.hp d = none := (absent_spec habs).1 d _ (List.mem_singleton_self _)
      have hge : 0 + m ≤ grownCap w (0 + m) 0 e := grownCap_ge w (0 + m) 0 e
      have hgb : GrowB w (w.drew.alloc (.cells (([] : List Value).toArray ++ news.toArray ++ Builtin.zeroCells z.cells (grownCap w (0 + m) 0 e - (0 + m))) e)) (([] : List Value).toArray ++ news.toArray ++ Builtin.zeroCells z.cells (grownCap w (0 + m) 0 e - (0 + m))) e :=
        ⟨rfl, rfl, rfl, fun k hk => Below.heap_alloc w.drew _ k hk, by show (w.heap.push _).size = _; simp, (0, 0), by show (w.heap.push _)[w.heap.size]? = _; simp, .inl rfl⟩
      have hasz : (([] : List Value).toArray ++ news.toArray ++ Builtin.zeroCells z.cells (grownCap w (0 + m) 0 e - (0 + m))).size = grownCap w (0 + m) 0 e * i.size := by
        simp only [Array.size_append, List.size_toArray, size_zeroCells, hzs, hnews, List.length_nil, ← Nat.add_mul]
        rw [Nat.zero_add (m * i.size), ← Nat.add_mul]
        congr 1
        omega
      refine stepR_new (s := ⟨s.tm, freezeIds s.hp []⟩) hgb hdn trivial ?_ (fun cells hx => by cases hx) ?_ (by intro j hj; simp [refs, refs1, refsC] at hj; exact .inr hj)
      · refine .inr ⟨w.heap.size, 0, upd_same _ _ _, ?_, fun _ j _ hj => ?_, (fun q => by cases q)⟩
        · exact grown_rd (pre := []) hgb (A_new (s := ⟨s.tm, freezeIds s.hp []⟩) hdn) trivial hs.rep (by simp) hs.one
        · rw [hgb.bsz] at hj
          exact hgb.frozen hj
      · refine .inr ⟨w.heap.size, 0, 0, grownCap w (0 + m) 0 e, upd_same _ _ _, by rw [Nat.zero_add], .inl rfl, by omega, ?_, by rw [hgb.size]; omega⟩
        rw [hgb.bsz, hasz]; omega
  · cases hk
end

end Go.Proofs.Ytoihfmiifeegpaa.Pv
