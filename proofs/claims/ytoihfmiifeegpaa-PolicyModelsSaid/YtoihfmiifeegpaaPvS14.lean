/-
  Values made trees; slices of literals.
-/
import Derived.Test.YtoihfmiifeegpaaPvS13
namespace Go.Proofs.Ytoihfmiifeegpaa.Pv
open Go.RowKit

section
variable {R : Type} {r : R} {P : Program} {N : Nat} {w0 : World} {X0 : Lend} {Y : Nat → Prop} {β β' : Bt} {s : St} {a : Act} {w w' : World} {o : Oper} {A : Nat → Prop}

/-- A row that is shared: it lies outside what may change. -/
theorem frozen_row (h : Sim N w0 X0 Y β s a w) {fz : List Nat} (hfz : ∀ id ∈ fz, ∃ f c, s.hp id = some (.ar f c)) {id : Nat} (hm : id ∈ fz) {f : Bool} {c : List PV} (hb : s.hp id = some (.ar f c)) {b ob : Nat} (hβ : β id = some (b, ob)) :
    ¬ Aof (freezeIds s.hp fz) β Y b ∧ RdT w (Aof (freezeIds s.hp fz) β Y) ⟨b, ob, none⟩ c ∧ b < w.heap.size := by
  have hf := h.freeze hfz
  have he : freezeIds s.hp fz id = some (.ar true c) := by rw [freeze_get, if_pos hm, hb]; rfl
  rcases hf.box id _ he with ⟨h1, _⟩ | ⟨b', o', h1, h2, _, h4⟩
  · rw [hβ] at h1; cases h1
  · rw [hβ] at h1
    simp at h1
    obtain ⟨rfl, rfl⟩ := h1
    exact ⟨h4 rfl, h2, h.blt id b ob (by rw [hb]; simp) hβ⟩

theorem view_tree (h : Sim N w0 X0 Y β s a w) {fz : List Nat} (hfz : ∀ id ∈ fz, ∃ f c, s.hp id = some (.ar f c)) {id es off n : Nat} (hm : id ∈ fz) {f : Bool} {c : List PV} (hb : s.hp id = some (.ar f c)) {v : Value}
    (hv : CRep w (Aof s.hp β Y) β (.view id es off n) v) : TRep w (Aof (freezeIds s.hp fz) β Y) (.lst false es n ((c.drop off).take (n * es))) v := by
  rcases hv with ⟨_, rfl, rfl, rfl⟩ | ⟨b, ob, y, cap, hβ, rfl, hy, hn, _, hlt⟩
  · simp only [Nat.zero_mul, List.take_zero]
    exact TRep.lnil false es
  · obtain ⟨h1, h2, _⟩ := frozen_row h hfz hm hb hβ
    by_cases hn0 : n * es = 0
    · rw [hn0, List.take_zero]
      exact TRep.lst es n [] ⟨b, y, none⟩ cap (fun _ => undef) rfl hlt h1 hn (by simp) (by simp) (by simp)
    · have hy : y = ob + off := by
        rcases hy with hy | ⟨h0, _⟩
        · exact hy
        · rw [h0] at hn0; simp at hn0
      subst hy
      have hcell : ∀ (j : Nat) q, ((c.drop off).take (n * es))[j]? = some q → c[off + j]? = some q := by
        intro j q hq
        rw [List.getElem?_take] at hq
        split at hq
        · rw [List.getElem?_drop] at hq; exact hq
        · cases hq
      refine TRep.lst es n _ ⟨b, ob + off, none⟩ cap (fun j => (w.cell? ⟨b, ob + off + j, none⟩).getD undef) rfl hlt h1 hn (fun j q hq => ?_) (fun j q hq => ?_) (fun j q hq => ?_)
      · obtain ⟨v, hv, _⟩ := h2 _ q (hcell j q hq)
        rw [add_mk, ← Nat.add_assoc] at hv
        rw [add_mk, hv]; rfl
      · obtain ⟨v, hv, h3, _⟩ := h2 _ q (hcell j q hq)
        rw [add_mk, ← Nat.add_assoc] at hv
        rw [hv]; exact h3
      · obtain ⟨v, hv, _, ht⟩ := h2 _ q (hcell j q hq)
        rw [add_mk, ← Nat.add_assoc] at hv
        rw [hv]; exact ht

theorem TRep.zf {A : Nat → Prop} {z : Bool} {es n : Nat} {c : List PV} {v : Value} (h : TRep w A (.lst z es n c) v) : TRep w A (.lst false es n c) v := by
  cases h with
  | lnil => exact .lnil _ _
  | lemp => exact .lemp _ _ _
  | lst _ _ _ a cap f hs hb hA hn hc h1 hr => exact .lst _ _ _ a cap f hs hb hA hn hc h1 hr

theorem frcK_inv (h : Sim N w0 X0 Y β s a w) {t : CT} {p : PV} {K : PV → List Nat → Option R} (hk : frcK (rda s.hp) t p K = some r) :
    ∃ c m, K c m = some r ∧ isT c ∧ isF p ∧ (∀ id ∈ m, ∃ f cc, s.hp id = some (.ar f cc)) ∧ ∀ fz : List Nat, (∀ id ∈ m, id ∈ fz) → (∀ id ∈ fz, ∃ f cc, s.hp id = some (.ar f cc)) → ∀ v, CRep w (Aof s.hp β Y) β p v → TRep w (Aof (freezeIds s.hp fz) β Y) c v ∧ v.oneCell' = true := by
  have tree : ∀ t', (tcK t' p fun c => K c []) = some r → ∃ c m, K c m = some r ∧ isT c ∧ isF p ∧ (∀ id ∈ m, ∃ f cc, s.hp id = some (.ar f cc)) ∧ ∀ fz : List Nat, (∀ id ∈ m, id ∈ fz) → (∀ id ∈ fz, ∃ f cc, s.hp id = some (.ar f cc)) → ∀ v, CRep w (Aof s.hp β Y) β p v → TRep w (Aof (freezeIds s.hp fz) β Y) c v ∧ v.oneCell' = true := by
    intro t' hk
    obtain ⟨c, hk, hT, hpT, hv⟩ := tcK_inv hk
    refine ⟨c, [], hk, hT, isF_isT hpT, by simp, fun fz _ hfz v hpv => ?_⟩
    obtain ⟨h1, h2⟩ := hv _ _ _ _ hpv
    exact ⟨h1.step (WStep.refl _ _) (fun b _ hb => hb.imp freeze_X id), h2⟩
  cases t with
  | sl es =>
    unfold frcK at hk
    dsimp only at hk
    split at hk
    · rename_i id es' off n
      cases hb : Nat.beq es' es
      · rw [hb] at hk; cases hk
      · rw [hb] at hk
        have := Nat.eq_of_beq_eq_true hb
        subst this
        obtain ⟨c, hc, hk⟩ := optK_inv (show optK _ _ = some r from hk)
        obtain ⟨_, hk⟩ := chk_inv hk
        obtain ⟨f, hbx⟩ := rda_inv hc
        refine ⟨_, [id], hk, trivial, trivial, ?_, fun fz hm hfz v hv => ⟨view_tree h hfz (hm id (by simp)) hbx hv, ?_⟩⟩
        · intro i hi; simp at hi; subst hi; exact ⟨f, c, hbx⟩
        · rcases hv with ⟨_, _, _, rfl⟩ | ⟨_, _, _, _, _, rfl, _⟩ <;> rfl
    · obtain ⟨z, n, c, hk, hp⟩ := lsK_inv hk
      refine ⟨_, [], hk, trivial, ?_, by simp, fun fz _ hfz v hpv => ?_⟩
      · rcases hp with rfl | ⟨rfl, _⟩ <;> trivial
      · have ht := ls_rep hp hpv
        refine ⟨TRep.zf (ht.step (WStep.refl _ _) (fun b _ hb => hb.imp freeze_X id)), ?_⟩
        cases ht <;> rfl
  | int k => exact tree (.int k) hk
  | bool => exact tree .bool hk
  | str => exact tree .str hk
  | any => exact tree .any hk

theorem frcsK_inv (h : Sim N w0 X0 Y β s a w) : ∀ {ts : List CT} {ps : List PV} {K : List PV → List Nat → Option R}, frcsK (rda s.hp) ts ps K = some r →
    ∃ cs m, K cs m = some r ∧ cs.length = ts.length ∧ ps.length = ts.length ∧ (∀ c ∈ cs, isT c) ∧ (∀ p ∈ ps, isF p) ∧ (∀ id ∈ m, ∃ f cc, s.hp id = some (.ar f cc)) ∧
      ∀ fz : List Nat, (∀ id ∈ m, id ∈ fz) → (∀ id ∈ fz, ∃ f cc, s.hp id = some (.ar f cc)) → ∀ vs, All2 (CRep w (Aof s.hp β Y) β) ps vs → All2 (TRep w (Aof (freezeIds s.hp fz) β Y)) cs vs ∧ ∀ v ∈ vs, v.oneCell' = true
  | [], [], K, hk => ⟨[], [], hk, rfl, rfl, by simp, by simp, by simp, fun fz _ _ vs hv => by
      cases vs with
      | nil => exact ⟨trivial, by simp⟩
      | cons v vs => exact hv.elim⟩
  | [], _ :: _, K, hk => by cases hk
  | _ :: _, [], K, hk => by cases hk
  | t :: ts, p :: ps, K, hk => by
    unfold frcsK at hk
    obtain ⟨c, m, hk, hT, hF, hm, hv⟩ := frcK_inv h hk
    obtain ⟨cs, ms, hk, hl, hl', hTs, hFs, hms, hvs⟩ := frcsK_inv h hk
    refine ⟨c :: cs, m ++ ms, hk, by simp [hl], by simp [hl'], ?_, ?_, ?_, fun fz hfm hfz vs h2 => ?_⟩
    · intro x hx
      rcases List.mem_cons.1 hx with rfl | hx
      · exact hT
      · exact hTs x hx
    · intro x hx
      rcases List.mem_cons.1 hx with rfl | hx
      · exact hF
      · exact hFs x hx
    · intro x hx
      rcases List.mem_append.1 hx with hx | hx
      · exact hm x hx
      · exact hms x hx
    · cases vs with
      | nil => exact h2.elim
      | cons v vs =>
        obtain ⟨h3, h4⟩ := hv fz (fun i hi => hfm i (by simp [hi])) hfz v h2.1
        obtain ⟨h5, h6⟩ := hvs fz (fun i hi => hfm i (by simp [hi])) hfz vs h2.2
        refine ⟨⟨h3, h5⟩, ?_⟩
        intro x hx
        rcases List.mem_cons.1 hx with rfl | hx
        · exact h4
        · exact h6 x hx

theorem All2_repl {R' : PV → Value → Prop} {cs : List PV} {z : Array Value} (h : All2 R' cs z.toList) (n : Nat) : All2 R' (repl n cs) (madeCells z (n * cs.length)).toList := by
  have hzl : z.size = cs.length := by have := h.len; simp at this; exact this.symm
  refine All2.of_at ?_ fun j c v hc hv => ?_
  · rw [repl_len]
    simp [size_madeCells]
  · obtain ⟨h1, h2⟩ := repl_get hc
    have hlt : j % cs.length < cs.length := by
      rcases Nat.lt_or_ge (j % cs.length) cs.length with h | h
      · exact h
      · rw [List.getElem?_eq_none h] at h2; cases h2
    obtain ⟨u, hu, hcu⟩ := h.get h2
    have : (madeCells z (n * cs.length))[j]? = some u := made_get h1 (by rw [hzl]; simpa using hu)
    have hv' : (madeCells z (n * cs.length))[j]? = some v := by simpa using hv
    rw [this] at hv'
    cases hv'
    exact hcu

theorem buildSlice_gives (h : Sim N w0 X0 Y β s a w) {t : TypeId} {n : Nat} {ps : Array (Nat × Operand)} (ho : o.op = .buildSlice t n ps) {d : Nat} {K : PV → List Nat → List (Nat × Box) → Option R}
    (hk : (match P.underlying t with
      | some (.slice e) => chk (placesOk P t && Nat.ble (n * szOf P e) 16777216) (zcellsK P e fun z => fillK (placeOf P t) (ps.toList.map fun q => (q.1, opv s.tm q.2)) (repl n z) fun cs =>
          frcsK (rda s.hp) (List.replicate n (cty P e)).flatten cs fun cs' m => K (.view d (szOf P e) 0 n) m [(d, .ar false cs')])
      | _ => none) = some r) : ∃ v fz nw, K v fz nw = some r ∧ Gives P a w o Y β s v fz nw := by
  split at hk
  · rename_i e hu
    obtain ⟨hb, hk⟩ := chk_inv hk
    simp only [Bool.and_eq_true] at hb
    have hle : n * szOf P e ≤ 16777216 := Nat.le_of_ble_eq_true hb.2
    have hinf : (P.info? e).isSome = true := by have := hb.1; unfold placesOk at this; rw [hu] at this; exact this
    obtain ⟨z, cs, hk, hz, hct, hl, hsz, hc⟩ := zcellsK_inv hk
    obtain ⟨hzr, hzf⟩ := zero_rel (w := w) (A := Aof s.hp β Y) (β := β) hl hc hz
    have hrep := All2_repl hzr n
    obtain ⟨pc', vc', hk, hf, h2, hl', hr'⟩ := fill_rel h hk hrep (fun c hcm id hid => by
      obtain ⟨j, hj⟩ := List.mem_iff_getElem?.1 hcm
      obtain ⟨_, hg⟩ := repl_get hj
      rw [hzf c (List.mem_of_getElem? hg)] at hid; cases hid)
    obtain ⟨qs, m, hk, hql, hpl, hqT, _, hm, hqv⟩ := frcsK_inv h hk
    obtain ⟨h3, h3'⟩ := hqv m (fun _ hi => hi) hm _ h2
    have hf' : Instr.fill (fun i => some (i * szOf P e, szOf P e)) (madeCells z.cells (n * cs.length)) (ps.toList.map fun q => (q.1, a.eval q.2)) = some vc' := by
      rw [← hf]
      refine fill_congr (fun i => ?_) _ _
      simp [placeOf, hu]
    have hvl : vc'.size = n * szOf P e := by
      have h4 := h2.len
      rw [hl', repl_len] at h4
      simp at h4
      rw [← h4, hsz]
    have hrun : (execOp a.eval o).run P w = .ok (.value (.slice (some ⟨w.heap.size, 0, none⟩) n n)) (w.alloc (.cells vc' e)) := by
      unfold execOp
      rw [ho]
      have hle' : ¬ (n * szOf P e > 2 ^ 24) := by omega
      rw [hsz] at hf'
      by_cases hn0 : n * szOf P e = 0
      · simp only [Instr.buildSlice, Sem.run_bind, run_underlying hu, Result.andThen_ok, run_sizeOf_szOf hinf, if_neg hle', hn0]
        rw [hn0] at hf'
        have e0 : madeCells z.cells 0 = (Array.range 0).map (fun _ => default) := by simp [madeCells]
        rw [e0] at hf'
        simp [hf', newRow]
      · simp only [Instr.buildSlice, Sem.run_bind, run_underlying hu, Result.andThen_ok, run_sizeOf_szOf hinf, if_neg hle', if_neg hn0, run_zeroValue hz]
        unfold madeCells at hf'
        simp [hf', newRow]
    refine ⟨_, _, _, hk, gives_row (c := vc') (e := e) hm hrun (GrowB.alloc w vc' e) (fun j p hj => ?_) (.inr ⟨szOf P e, n, n, rfl, rfl, Nat.le_refl _, by rw [hvl]; exact Nat.le_refl _⟩)⟩
    obtain ⟨u, hu', hp⟩ := h3.get hj
    exact ⟨u, by simpa using hu', h3' u (List.mem_of_getElem? hu'), hp⟩
  · cases hk
end

end Go.Proofs.Ytoihfmiifeegpaa.Pv
