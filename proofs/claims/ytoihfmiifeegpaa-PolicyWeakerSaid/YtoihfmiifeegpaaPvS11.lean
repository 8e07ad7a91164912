/-
  Operations of class R that make no call: comparisons.
-/
import Derived.Test.YtoihfmiifeegpaaPvS10
namespace Go.Proofs.Ytoihfmiifeegpaa.Pv
open Go.RowKit

section
variable {R : Type} {r : R} {P : Program} {N : Nat} {w0 : World} {X0 : Lend} {Y : Nat → Prop} {β β' : Bt} {s : St} {a : Act} {w w' : World} {o : Oper} {A : Nat → Prop}

theorem equal_bool {t : TypeId} (hu : P.underlying t = some .bool) (x y : Bool) : (Op.equal t (.bool x) (.bool y)).run P w = .ok (x == y) w := by
  have h : ∀ d, (Op.equalIn (d + 1) t (.bool x) (.bool y)).run P w = .ok (x == y) w := fun d => by simp [Op.equalIn, run_underlying hu]
  exact h 9999

theorem equal_nil {t e : TypeId} (hu : P.underlying t = some (.slice e)) (x : Option Addr) (n c : Nat) : (Op.equal t (.slice x n c) (.slice none 0 0)).run P w = .ok x.isNone w := by
  have h : ∀ d, (Op.equalIn (d + 1) t (.slice x n c) (.slice none 0 0)).run P w = .ok x.isNone w := fun d => by
    cases x <;> simp [Op.equalIn, run_underlying hu]
  exact h 9999

/-- One plain field of two structs. -/
theorem equal_plain {t : TypeId} (d : Nat) {v u : Value} (hv : (∃ k m n, P.underlying t = some (.int k) ∧ v = .int k m ∧ u = .int k n) ∨ (∃ m n, P.underlying t = some .bool ∧ v = .bool m ∧ u = .bool n) ∨ ∃ m n, P.underlying t = some .string ∧ v = .string m ∧ u = .string n) {b : Bool}
    (hb : ∀ k m n, v = .int k m → u = .int k n → b = (m == n)) (hb' : ∀ m n, v = .bool m → u = .bool n → b = (m == n)) (hb'' : ∀ m n, v = .string m → u = .string n → b = (m == n)) : (Op.equalIn (d + 1) t v u).run P w = .ok b w := by
  rcases hv with ⟨k, m, n, hu, rfl, rfl⟩ | ⟨m, n, hu, rfl, rfl⟩ | ⟨m, n, hu, rfl, rfl⟩
  · rw [hb k m n rfl rfl]; simp [Op.equalIn, run_underlying hu]
  · rw [hb' m n rfl rfl]; simp [Op.equalIn, run_underlying hu]
  · rw [hb'' m n rfl rfl]; simp [Op.equalIn, run_underlying hu]

theorem part_plain {t : TypeId} {dsc : TypeDesc} (hu : P.underlying t = some dsc) (hd : isAggB P t = false) {xs : Array Value} {i : Nat} {v : Value} (hv : xs[i]? = some v) : (part t xs i).run P w = .ok v w := by
  simp only [part, Sem.run_bind, run_isAgg hu, hd, Result.andThen_ok]
  simp [hv]

theorem eq_loop (d : Nat) : ∀ (fs : List Field) (i : Nat) (xs ys : Array Value) (ps qs : List PV) (K : Bool → Option R), flatGo P fs i = true → eqsK (fs.map (fty P)) ps qs K = some r →
    (∀ (j : Nat) p, ps[j]? = some p → ∃ v, xs[i + j]? = some v ∧ CRep w A β p v) → (∀ (j : Nat) p, qs[j]? = some p → ∃ v, ys[i + j]? = some v ∧ CRep w A β p v) →
    ∃ b, K b = some r ∧ (forIn fs ((none, ()) : Option Bool × Unit) fun (f : Field) (_ : Option Bool × Unit) =>
            if f.name = "_" then pure (ForInStep.yield ((none, ()) : Option Bool × Unit))
            else do
              let x ← part f.type xs f.offset
              let y ← part f.type ys f.offset
              let e ← Op.equalIn (d + 1) f.type x y
              if e = false then pure (ForInStep.done ((some false, ()) : Option Bool × Unit)) else pure (ForInStep.yield ((none, ()) : Option Bool × Unit)) : Sem (Option Bool × Unit)).run P w = .ok (if b then (none, ()) else (some false, ())) w
  | [], i, xs, ys, ps, qs, K, _, hk, _, _ => by
    cases ps with
    | nil => cases qs with
      | nil => exact ⟨true, hk, by simp⟩
      | cons q qs => cases hk
    | cons p ps => cases hk
  | f :: fs, i, xs, ys, ps, qs, K, hfl, hk, hp, hq => by
    simp only [flatGo, Bool.and_eq_true] at hfl
    obtain ⟨⟨⟨hoff, hname⟩, hty⟩, hrest⟩ := hfl
    have hoff := Nat.eq_of_beq_eq_true hoff
    have hname' : f.name ≠ "_" := by simpa using hname
    -- the first cells
    cases ps with
    | nil =>
      simp only [List.map_cons] at hk
      cases hfty : fty P f <;> rw [hfty] at hk <;> cases hk
    | cons p ps =>
      cases qs with
      | nil =>
        simp only [List.map_cons] at hk
        cases hfty : fty P f <;> rw [hfty] at hk <;> cases hk
      | cons q qs =>
        obtain ⟨v, hv, hpv⟩ := hp 0 p rfl
        obtain ⟨u, hu, hqu⟩ := hq 0 q rfl
        rw [Nat.add_zero] at hv hu
        have main : ∃ b0 dsc, P.underlying f.type = some dsc ∧ isAggB P f.type = false ∧ (Op.equalIn (d + 1) f.type v u).run P w = .ok b0 w ∧ eqsK (fs.map (fty P)) ps qs (fun r => K (b0 && r)) = some r := by
          simp only [List.map_cons] at hk
          unfold fty at hk
          split at hk
          · rename_i k hun
            obtain ⟨m, hpm, hk1⟩ := intK_inv (show intK k p _ = some r from hk)
            obtain ⟨n, hqn, hk2⟩ := intK_inv hk1
            subst hpm hqn
            have hv' : v = .int k m := TRep.val (w := w) (A := A) hpv
            have hu' : u = .int k n := TRep.val (w := w) (A := A) hqu
            subst hv' hu'
            refine ⟨m == n, _, hun, by simp [isAggB, hun], equal_plain d (.inl ⟨k, m, n, hun, rfl, rfl⟩) ?_ ?_ ?_, hk2⟩
            · intro k' m' n' h1 h2; injection h1 with _ h1; injection h2 with _ h2; rw [h1, h2]
            · intro m' n' h1; cases h1
            · intro m' n' h1; cases h1
          · rename_i hun
            obtain ⟨m, hpm, hk1⟩ := boolK_inv (show boolK p _ = some r from hk)
            obtain ⟨n, hqn, hk2⟩ := boolK_inv hk1
            subst hpm hqn
            have hv' : v = .bool m := TRep.val (w := w) (A := A) hpv
            have hu' : u = .bool n := TRep.val (w := w) (A := A) hqu
            subst hv' hu'
            refine ⟨m == n, _, hun, by simp [isAggB, hun], equal_plain d (.inr (.inl ⟨m, n, hun, rfl, rfl⟩)) ?_ ?_ ?_, hk2⟩
            · intro k' m' n' h1; cases h1
            · intro m' n' h1 h2; injection h1 with h1; injection h2 with h2; rw [h1, h2]
            · intro m' n' h1; cases h1
          · rename_i hun
            obtain ⟨m, hpm, hk1⟩ := strK_inv (show strK p _ = some r from hk)
            obtain ⟨n, hqn, hk2⟩ := strK_inv hk1
            subst hpm hqn
            have hv' : v = .string m := TRep.val (w := w) (A := A) hpv
            have hu' : u = .string n := TRep.val (w := w) (A := A) hqu
            subst hv' hu'
            refine ⟨m == n, _, hun, by simp [isAggB, hun], equal_plain d (.inr (.inr ⟨m, n, hun, rfl, rfl⟩)) ?_ ?_ ?_, hk2⟩
            · intro k' m' n' h1; cases h1
            · intro m' n' h1; cases h1
            · intro m' n' h1 h2; injection h1 with h1; injection h2 with h2; rw [h1, h2]
          · cases hk
        obtain ⟨b0, dsc, hun, hagg, he, hk⟩ := main
        obtain ⟨b, hkb, hrun⟩ := eq_loop d fs (i + 1) xs ys ps qs _ hrest hk (fun j p' hj => by have := hp (j + 1) p' hj; rwa [Nat.add_assoc, Nat.add_comm 1 j]) (fun j p' hj => by have := hq (j + 1) p' hj; rwa [Nat.add_assoc, Nat.add_comm 1 j])
        refine ⟨b0 && b, hkb, ?_⟩
        have hpx : (part f.type xs f.offset).run P w = .ok v w := part_plain hun hagg (by rw [hoff]; exact hv)
        have hpy : (part f.type ys f.offset).run P w = .ok u w := part_plain hun hagg (by rw [hoff]; exact hu)
        cases b0
        · simp [List.forIn_cons, hname', hpx, hpy, he]
        · simp only [Bool.true_and]
          rw [← hrun]
          simp [List.forIn_cons, hname', hpx, hpy, he]

theorem struct_equalIn (d : Nat) {t : TypeId} {fs : Array Field} (hu : P.underlying t = some (.struct fs)) (hst : P.stoodInHeld t = false) (hfl : flatGo P fs.toList 0 = true) {xs ys : List PV} {vx vy : List Value}
    (hvx : All2 (CRep w A β) xs vx) (hvy : All2 (CRep w A β) ys vy) {K : Bool → Option R} (hk : eqsK (fs.toList.map (fty P)) xs ys K = some r) :
    ∃ b, K b = some r ∧ (Op.equalIn (d + 2) t (.agg ⟨vx⟩) (.agg ⟨vy⟩)).run P w = .ok b w := by
  obtain ⟨b, hkb, hrun⟩ := eq_loop (P := P) (w := w) (A := A) (β := β) d fs.toList 0 ⟨vx⟩ ⟨vy⟩ xs ys K hfl hk (fun j p hj => by
      obtain ⟨v, hv, hc⟩ := hvx.get hj
      exact ⟨v, by simpa using hv, hc⟩) (fun j p hj => by
      obtain ⟨v, hv, hc⟩ := hvy.get hj
      exact ⟨v, by simpa using hv, hc⟩)
  refine ⟨b, hkb, ?_⟩
  rw [Array.forIn_toList] at hrun
  rw [Op.equalIn]
  simp [run_underlying hu, hst]
  rw [hrun]
  cases b <;> simp

theorem struct_eq (h : Sim N w0 X0 Y β s a w) {t : TypeId} {fs : Array Field} {x y : Operand} {op : BinOp} (hop : op = .eql ∨ op = .neq) (hu : P.underlying t = some (.struct fs)) (hfl : flatOk P t fs = true) {xs ys : List PV}
    (hx : opv s.tm x = .agg xs) (hy : opv s.tm y = .agg ys) {K : Bool → Option R} (hk : eqsK (fs.toList.map (fty P)) xs ys K = some r) :
    ∃ b, K b = some r ∧ (do eqGuard op t x y (a.eval x) (a.eval y); binOp op t (a.eval x) (a.eval y)).run P w = .ok (.bool (if op = .eql then b else !b)) w := by
  have hxv := opv_rep h x
  have hyv := opv_rep h y
  rw [hx] at hxv
  rw [hy] at hyv
  obtain ⟨vx, hax, hvx⟩ := hxv
  obtain ⟨vy, hay, hvy⟩ := hyv
  simp only [flatOk, Bool.and_eq_true, Bool.not_eq_true'] at hfl
  obtain ⟨⟨hfl, hst⟩, heg⟩ := hfl
  obtain ⟨b, hkb, heq⟩ := struct_equalIn 9998 hu hst hfl hvx hvy hk
  have heq : (Op.equal t (.agg ⟨vx⟩) (.agg ⟨vy⟩)).run P w = .ok b w := heq
  refine ⟨b, hkb, ?_⟩
  rw [hax, hay]
  rcases hop with rfl | rfl
  · simp [eqGuard, binOp, heq, heg]
  · simp [eqGuard, binOp, heq, heg]

theorem binOp_gives (h : Sim N w0 X0 Y β s a w) {op : BinOp} {t ty : TypeId} {x y : Operand} (ho : o.op = .binOp op t x y ty) {K : PV → Option R}
    (hk : binAnyK P op t (opv s.tm x) (opv s.tm y) K = some r) : ∃ v, K v = some r ∧ Gives P a w o Y β s v [] [] := by
  have hrun : ∀ v, (do eqGuard op t x y (a.eval x) (a.eval y); binOp op t (a.eval x) (a.eval y)).run P w = .ok v w → (execOp a.eval o).run P w = .ok (.value v) w := by
    intro v hv
    unfold execOp
    rw [ho]
    simp only [Sem.run_bind] at hv ⊢
    rw [hv]
    rfl
  unfold binAnyK at hk
  split at hk
  · rename_i fs hu
    split at hk
    · obtain ⟨hfl, hk⟩ := chk_inv hk
      obtain ⟨xs, hx, hk⟩ := aggK_inv hk
      obtain ⟨ys, hy, hk⟩ := aggK_inv hk
      obtain ⟨b, hk, hr⟩ := struct_eq h (.inl rfl) hu hfl hx hy hk
      exact ⟨_, hk, gives_sc (hrun _ (by rw [hr]; rfl))⟩
    · obtain ⟨hfl, hk⟩ := chk_inv hk
      obtain ⟨xs, hx, hk⟩ := aggK_inv hk
      obtain ⟨ys, hy, hk⟩ := aggK_inv hk
      obtain ⟨b, hk, hr⟩ := struct_eq h (.inr rfl) hu hfl hx hy hk
      exact ⟨_, hk, gives_sc (hrun _ (by rw [hr]; rfl))⟩
    · cases hk
  · unfold binK at hk
    split at hk
    · rename_i k hu
      split at hk
      · obtain ⟨m, hx, hk⟩ := intK_inv hk
        obtain ⟨k2, n, hy, hk⟩ := anyIntK_inv hk
        obtain ⟨hb, hk⟩ := chk_inv hk
        have hb := of_decide_eq_true hb
        refine ⟨_, hk, gives_sc (hrun _ ?_)⟩
        have : ¬ n < 0 := by omega
        simp [eqGuard, binOp, Op.shift, opv_sc h hx, opv_sc h hy, this]
      · obtain ⟨m, hx, hk⟩ := intK_inv hk
        obtain ⟨k2, n, hy, hk⟩ := anyIntK_inv hk
        obtain ⟨hb, hk⟩ := chk_inv hk
        have hb := of_decide_eq_true hb
        refine ⟨_, hk, gives_sc (hrun _ ?_)⟩
        have : ¬ n < 0 := by omega
        simp [eqGuard, binOp, Op.shift, opv_sc h hx, opv_sc h hy, this]
      · rename_i hs1 hs2
        obtain ⟨m, hx, hk⟩ := intK_inv hk
        obtain ⟨n, hy, hk⟩ := intK_inv hk
        obtain ⟨v, hk, hr⟩ := intOp_run (P := P) (w := w) (t := t) (x := x) (y := y) hs1 hs2 hk
        exact ⟨_, hk, gives_sc (hrun _ (by rw [opv_sc h hx, opv_sc h hy]; exact hr))⟩
    · rename_i hu
      obtain ⟨m, hx, hk⟩ := strK_inv hk
      obtain ⟨n, hy, hk⟩ := strK_inv hk
      obtain ⟨v, hk, hr⟩ := strOp_run (P := P) (w := w) (t := t) (x := x) (y := y) hk
      exact ⟨_, hk, gives_sc (hrun _ (by rw [opv_sc h hx, opv_sc h hy]; exact hr))⟩
    · rename_i hu
      split at hk
      · obtain ⟨m, hx, hk⟩ := boolK_inv hk
        obtain ⟨n, hy, hk⟩ := boolK_inv hk
        refine ⟨_, hk, gives_sc (hrun _ ?_)⟩
        simp [eqGuard, binOp, opv_sc h hx, opv_sc h hy, equal_bool hu]
      · obtain ⟨m, hx, hk⟩ := boolK_inv hk
        obtain ⟨n, hy, hk⟩ := boolK_inv hk
        refine ⟨_, hk, gives_sc (hrun _ ?_)⟩
        simp [eqGuard, binOp, opv_sc h hx, opv_sc h hy, equal_bool hu]
      · cases hk
    · rename_i e hu
      have hx := opv_rep h x
      have nilQ : ∀ {e : Bool} {K' : PV → Option R}, nilQK e (opv s.tm x) K' = some r → ∃ q ad n c, K' q = some r ∧ a.eval x = .slice ad n c ∧ (q = .sc (.bool (if ad.isNone then e else !e)) ∨ q = .ub) := by
        intro e K' hq
        unfold nilQK at hq
        split at hq
        · rename_i e'
          exact ⟨_, none, 0, 0, hq, opv_sc h e', .inl rfl⟩
        · rename_i z es n c e'
          rcases slice_form (.inl e') hx with ⟨hax, rfl, _⟩ | ⟨ad, cap, hax, rfl, _⟩ | ⟨ad, cap, hax, rfl, rfl, _⟩
          · rcases brK_inv hq with ⟨_, hq⟩ | ⟨_, hq⟩
            · exact ⟨_, none, 0, 0, hq, hax, .inl rfl⟩
            · rcases brK_inv hq with ⟨hb, _⟩ | ⟨_, hq⟩
              · exact absurd (of_decide_eq_true hb) (by omega)
              · exact ⟨_, none, 0, 0, hq, hax, .inr rfl⟩
          · rcases brK_inv hq with ⟨hz, _⟩ | ⟨_, hq⟩
            · cases hz
            · rcases brK_inv hq with ⟨_, hq⟩ | ⟨_, hq⟩
              · exact ⟨_, some ad, n, cap, hq, hax, .inl rfl⟩
              · exact ⟨_, some ad, n, cap, hq, hax, .inr rfl⟩
          · rcases brK_inv hq with ⟨hz, _⟩ | ⟨_, hq⟩
            · cases hz
            · rcases brK_inv hq with ⟨hb, _⟩ | ⟨_, hq⟩
              · exact absurd (of_decide_eq_true hb) (by omega)
              · exact ⟨_, some ad, 0, cap, hq, hax, .inr rfl⟩
        · rename_i id es off n e'
          rw [e'] at hx
          rcases hx with ⟨_, _, rfl, hax⟩ | ⟨b, ob, y', cap, _, hax, _⟩
          · rcases brK_inv hq with ⟨hb, _⟩ | ⟨_, hq⟩
            · exact absurd (of_decide_eq_true hb) (by omega)
            · exact ⟨_, none, 0, 0, hq, hax, .inr rfl⟩
          · rcases brK_inv hq with ⟨_, hq⟩ | ⟨_, hq⟩
            · exact ⟨_, _, n, cap, hq, hax, .inl rfl⟩
            · exact ⟨_, _, n, cap, hq, hax, .inr rfl⟩
        · cases hq
      split at hk
      · rename_i hy
        obtain ⟨q, ad, n, c, hk, hax, hb⟩ := nilQ hk
        rcases hb with rfl | rfl
        · refine ⟨_, hk, gives_sc (hrun _ ?_)⟩
          cases ad <;> simp [eqGuard, binOp, hax, opv_sc h hy, equal_nil hu]
        · refine ⟨_, hk, gives_pure (val := .bool ad.isNone) (hrun _ ?_) (TRep.ub _) (by intro i hi; cases hi)⟩
          simp [eqGuard, binOp, hax, opv_sc h hy, equal_nil hu]
      · rename_i hy
        obtain ⟨q, ad, n, c, hk, hax, hb⟩ := nilQ hk
        rcases hb with rfl | rfl
        · refine ⟨_, hk, gives_sc (hrun _ ?_)⟩
          cases ad <;> simp [eqGuard, binOp, hax, opv_sc h hy, equal_nil hu]
        · refine ⟨_, hk, gives_pure (val := .bool !ad.isNone) (hrun _ ?_) (TRep.ub _) (by intro i hi; cases hi)⟩
          simp [eqGuard, binOp, hax, opv_sc h hy, equal_nil hu]
      · cases hk
    · cases hk
end

end Go.Proofs.Ytoihfmiifeegpaa.Pv
