/-
  The operations of class R, all together; stores and appends.
-/
import Derived.Test.YtoihfmiifeegpaaPvS32
namespace Go.Proofs.Ytoihfmiifeegpaa.Pv
open Go.RowKit

section
variable {R : Type} {r : R} {P : Program} {N : Nat} {w0 : World} {X0 : Lend} {Y : Nat → Prop} {β β' : Bt} {s : St} {a : Act} {w w' : World} {o : Oper} {A : Nat → Prop}

theorem effK_inv (h : Sim N w0 X0 Y β s a w) (hNG : NoNG P) {C : Cfg} {call : Call'} (hcall : ∀ f args res, call f args = some res → SoundC P f args res) {K : PV → List Nat → List (Nat × Box) → Option R}
    (hk : effK C P N call s.tm (rd s.hp) (rda s.hp) o K = some r) : ∃ v fz nw, K v fz nw = some r ∧ GivesW P a w o Y β s v fz nw := by
  have one : ∀ {K' : PV → Option R}, (∀ v, K' v = some r → K v [] [] = some r) → (∃ v, K' v = some r ∧ Gives P a w o Y β s v [] []) → ∃ v fz nw, K v fz nw = some r ∧ GivesW P a w o Y β s v fz nw :=
    fun hK ⟨v, h1, h2⟩ => ⟨v, [], [], hK v h1, givesW h2⟩
  have many : (∃ v fz nw, K v fz nw = some r ∧ Gives P a w o Y β s v fz nw) → ∃ v fz nw, K v fz nw = some r ∧ GivesW P a w o Y β s v fz nw :=
    fun ⟨v, fz, nw, h1, h2⟩ => ⟨v, fz, nw, h1, givesW h2⟩
  unfold effK at hk
  split at hk
  · rename_i x ho
    exact one (fun _ h => h) (constK_gives (K := fun p => K p [] []) h (run_move' ho) hk)
  · rename_i x ho
    exact one (fun _ h => h) (constK_gives (K := fun p => K p [] []) h (run_assign' ho) hk)
  · rename_i c x y ho
    exact one (fun _ h => h) (pick_gives (K := fun p => K p [] []) h ho hk)
  · rename_i t ho
    obtain ⟨d, hd, hk⟩ := optK_inv hk
    exact many (alloc_gives ho hk)
  · rename_i t x ho
    obtain ⟨d, hd, hk⟩ := optK_inv hk
    exact many (box_gives h ho hk)
  · rename_i t ps ho
    exact one (fun _ h => h) (build_gives (K := fun p => K p [] []) h ho hk)
  · rename_i t n ps ho
    obtain ⟨d, hd, hk⟩ := optK_inv hk
    exact many (buildSlice_gives h ho hk)
  · rename_i t x ho
    exact one (fun _ h => h) (load_gives (K := fun p => K p [] []) h ho hk)
  · rename_i x ho
    exact one (fun _ h => h) (nilCheck_gives (K := fun p => K p [] []) h ho hk)
  · rename_i op t x y ty ho
    exact one (fun _ h => h) (binOp_gives (K := fun p => K p [] []) h ho hk)
  · rename_i op t x ho
    exact one (fun _ h => h) (unOp_gives (K := fun p => K p [] []) h ho hk)
  · rename_i src dst x ho
    obtain ⟨v, nw, hk, hg⟩ := conv_gives h ho hk
    obtain ⟨d, hd, hk⟩ := optK_inv hk
    exact ⟨v, [], nw, hk, givesW hg⟩
  · rename_i t x y ho
    obtain ⟨d, hd, hk⟩ := optK_inv hk
    exact many (make_gives h ho hk)
  · rename_i t x lo hi mx ho
    split at hk
    · exact one (fun _ h => h) (slice_gives (K := fun p => K p [] []) h ho hk)
    · cases hk
  · rename_i t x f ho
    exact one (fun _ h => h) (fieldAddr_gives (K := fun p => K p [] []) h ho hk)
  · rename_i t x f ho
    exact one (fun _ h => h) (field_gives (K := fun p => K p [] []) h ho hk)
  · rename_i t x i ho
    exact one (fun _ h => h) (indexAddr_gives (K := fun p => K p [] []) h ho hk)
  · rename_i t x i ho
    exact one (fun _ h => h) (index_gives (K := fun p => K p [] []) h ho hk)
  · rename_i x i ho
    exact one (fun _ h => h) (extract_gives (K := fun p => K p [] []) h ho hk)
  · rename_i c ho
    split at hk
    · rename_i hc
      exact one (fun _ h => h) (len_gives (K := fun p => K p [] []) h ho hc hk)
    · rename_i hc
      exact one (fun _ h => h) (cap_gives (K := fun p => K p [] []) h ho hc hk)
    · rename_i hc
      exact one (fun _ h => h) (min_gives (K := fun p => K p [] []) h ho hc hk)
    · rename_i hc
      exact one (fun _ h => h) (max_gives (K := fun p => K p [] []) h ho hc hk)
    · rename_i hc
      obtain ⟨hnb, hk⟩ := chk_inv hk
      obtain ⟨d, hd, hk1⟩ := optK_inv hk
      obtain ⟨b, xs, hxs, hk2⟩ := consK_inv hk1
      obtain ⟨x, ys, hys, hk3⟩ := consK_inv hk2
      obtain ⟨hnil, hk4⟩ := nilK_inv hk3
      obtain ⟨t, us, hus, hk5⟩ := consK_inv hk4
      obtain ⟨tx, vs, hvs, hk6⟩ := consK_inv hk5
      rw [hys, hnil] at hxs
      rw [hvs] at hus
      obtain ⟨v, nw, h1, h2⟩ := appNil_gives h ho hc hnb hd hxs hus hk6
      exact ⟨v, [], nw, h1, givesW h2⟩
    · rename_i f hc
      exact call_gives h hNG hcall ho hc hk
    · cases hk
  · cases hk

/-- One operation of class R. -/
theorem popR_sound (h : Sim N w0 X0 Y β s a w) (hNG : NoNG P) {C : Cfg} {call : Call'} (hcall : ∀ f args res, call f args = some res → SoundC P f args res) {K : St → Option R}
    (hk : (effK C P N call s.tm (rd s.hp) (rda s.hp) o fun v fz nw => applyK N s o.dst v fz nw K) = some r) :
    ∃ s', K s' = some r ∧ ∀ (next : Act → World → Prop) (Q : Exit → Act → World → Prop), (∀ a' w' β', Sim N w0 X0 Y β' s' a' w' → next a' w') → o.wp P a w next Q := by
  obtain ⟨v, fz, nw, hk, hfz, hg⟩ := effK_inv h hNG hcall hk
  unfold applyK at hk
  obtain ⟨hb, hk⟩ := chk_inv hk
  simp only [Bool.and_eq_true] at hb
  refine ⟨_, hk, fun next Q hn => hg next Q fun val w' hst => ?_⟩
  obtain ⟨β', st⟩ := hst hb.2
  have hab : absent (freezeIds s.hp fz) nw = true := by
    have : ∀ nw, absent s.hp nw = true → absent (freezeIds s.hp fz) nw = true := by
      intro nw
      induction nw with
      | nil => intro _; rfl
      | cons q nw ih =>
        obtain ⟨i, b⟩ := q
        intro hq
        simp only [absent, Bool.and_eq_true, Option.isNone_iff_eq_none] at hq ⊢
        exact ⟨⟨freeze_none.2 hq.1.1, hq.1.2⟩, ih hq.2⟩
    exact this nw hb.2
  exact hn _ _ β' ((h.freeze hfz).stepR hb.1 hab st)
end

end Go.Proofs.Ytoihfmiifeegpaa.Pv
