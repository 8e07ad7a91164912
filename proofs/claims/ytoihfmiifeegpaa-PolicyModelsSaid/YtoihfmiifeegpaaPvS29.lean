/-
  Code.
-/
import Derived.Test.YtoihfmiifeegpaaPvS28
namespace Go.Proofs.Ytoihfmiifeegpaa.Pv
open Go.RowKit

section
variable {R : Type} {r : R} {P : Program} {N : Nat} {w0 : World} {X0 : Lend} {Y : Nat → Prop} {C : Cfg} {call : Call'}

theorem bothK_inv {x y : Option R} (h : bothK x y = some r) : x = some r ∧ y = some r := by
  unfold bothK at h
  split at h
  · rename_i e; exact ⟨h, e ▸ h⟩
  · cases h

theorem condK_sound {β : Bt} {s : St} {a : Act} {w : World} (h : Sim N w0 X0 Y β s a w) {c : Operand} {kt kf : St → Option R} (hk : condK s c kt kf = some r) : (a.eval c = .bool true ∧ kt s = some r) ∨ (a.eval c = .bool false ∧ kf s = some r) := by
  unfold condK at hk
  split at hk
  · rename_i d
    split at hk
    · rename_i b ht
      have hv : a.eval (.tmp d) = .bool b := opv_sc h (x := .tmp d) ht
      cases b
      · change kf ⟨upd s.tm d (.sc (.bool false)), s.hp⟩ = some r at hk
        rw [upd_self s.tm ht] at hk
        exact .inr ⟨hv, hk⟩
      · change kt ⟨upd s.tm d (.sc (.bool true)), s.hp⟩ = some r at hk
        rw [upd_self s.tm ht] at hk
        exact .inl ⟨hv, hk⟩
    · rename_i ht
      have hu := opv_rep h (.tmp d)
      change VRep _ _ _ (s.tm d) _ at hu
      rw [ht] at hu
      have hu' : TRep w _ .ub (a.eval (.tmp d)) := hu
      obtain ⟨b, hv⟩ : ∃ b, a.eval (.tmp d) = .bool b := by
        generalize a.eval (.tmp d) = x at hu'
        cases hu' with
        | ub b => exact ⟨b, rfl⟩
      obtain ⟨h1, h2⟩ := bothK_inv hk
      cases b
      · exact .inr ⟨hv, h2⟩
      · exact .inl ⟨hv, h1⟩
    · cases hk
  · exact .inl ⟨rfl, hk⟩
  · exact .inr ⟨rfl, hk⟩
  · cases hk

theorem iter_sound {c : Code} {Q : Exit → Act → World → Prop} {F : (St → Option R) → St → Option R} {nm : St → (St → Option R) → Option R}
    (hnm : ∀ {β s a w} {K : St → Option R}, Sim N w0 X0 Y β s a w → nm s K = some r → ∃ β' s', K s' = some r ∧ Sim N w0 X0 Y β' s' a w)
    (hF : ∀ {β s a w} {K : St → Option R} {Q' : Act → World → Prop}, Sim N w0 X0 Y β s a w → F K s = some r → (∀ s' a' w' β', K s' = some r → Sim N w0 X0 Y β' s' a' w' → Q' a' w') → c.wp P (Exit.then Q' Q) a w) :
    ∀ (n : Nat) {β s a w}, Sim N w0 X0 Y β s a w → iter F nm n s = some r → Code.rounds P c Q n a w
  | 0, _, _, _, _, _, hk => by cases hk
  | n + 1, β, s, a, w, h, hk => by
    rw [rounds_succ]
    refine hF h hk fun s' a' w' β' hk' h' => ?_
    obtain ⟨β1, s1, hk1, h1⟩ := hnm h' hk'
    exact iter_sound hnm hF n h1 hk1

theorem pevK_sound (hNG : NoNG P) (hcall : ∀ f args res, call f args = some res → SoundC P f args res) (hm : P.follows .mixedOrders = true) {fu : Nat} :
    ∀ (c : Code) {ln : Nat} {lx : Nat → Nat} {lr : Nat} {kn : St → Option R} {kx : Nat → St → Option R} {kr : St → Option R} {β : Bt} {s : St} {a : Act} {w : World} {Q : Exit → Act → World → Prop}, Sim N w0 X0 Y β s a w →
      pevK C P fu N call c ln lx lr kn kx kr s = some r → (∀ s' a' w' β', kn s' = some r → Sim N w0 X0 Y β' s' a' w' → Q .normal a' w') →
      (∀ id s' a' w' β', kx id s' = some r → Sim N w0 X0 Y β' s' a' w' → Q (.exit id) a' w') → (∀ s' a' w' β', kr s' = some r → Sim N w0 X0 Y β' s' a' w' → Q .ret a' w') → c.wp P Q a w := by
  intro c
  induction c with
  | skip => intro ln lx lr kn kx kr β s a w Q h hk hn hx hr; exact wp_skip (hn s a w β hk h)
  | region id ops draw =>
    intro ln lx lr kn kx kr β s a w Q h hk hn hx hr
    unfold pevK at hk
    obtain ⟨hb, hk1⟩ := chk_inv hk
    cases draw
    · exact region_plain h hNG hcall hk1 hn
    · exact region_drawn h hNG hcall hm hb hk1 hn
  | seq c1 c2 ih1 ih2 =>
    intro ln lx lr kn kx kr β s a w Q h hk hn hx hr
    unfold pevK at hk
    refine wp_seq (ih1 h hk (fun s' a' w' β' hk' h' => ih2 h' hk' hn hx hr) (fun id s' a' w' β' hk' h' => hx id s' a' w' β' hk' h') (fun s' a' w' β' hk' h' => hr s' a' w' β' hk' h'))
  | cond c c1 c2 ih1 ih2 =>
    intro ln lx lr kn kx kr β s a w Q h hk hn hx hr
    unfold pevK at hk
    rcases condK_sound h hk with ⟨hc, hk1⟩ | ⟨hc, hk1⟩
    · exact wp_cond_true hc (ih1 h hk1 hn hx hr)
    · exact wp_cond_false hc (ih2 h hk1 hn hx hr)
  | block id c ih =>
    intro ln lx lr kn kx kr β s a w Q h hk hn hx hr
    unfold pevK at hk
    refine wp_block (ih h hk (fun s' a' w' β' hk' h' => hn s' a' w' β' hk' h') (fun j s' a' w' β' hk' h' => ?_) (fun s' a' w' β' hk' h' => hr s' a' w' β' hk' h'))
    show (if j = id then _ else _)
    by_cases e : j = id
    · subst e
      rw [if_pos rfl]
      rw [Nat.beq_refl] at hk'
      exact hn s' a' w' β' hk' h'
    · rw [if_neg e]
      have : Nat.beq j id = false := by
        cases hb : Nat.beq j id
        · rfl
        · exact absurd (Nat.eq_of_beq_eq_true hb) e
      rw [this] at hk'
      exact hx j s' a' w' β' hk' h'
  | loop c ih =>
    intro ln lx lr kn kx kr β s a w Q h hk hn hx hr
    unfold pevK at hk
    obtain ⟨β1, s1, hk1, h1⟩ := normK_sound h hk
    refine wp_loop_rounds fu (iter_sound (fun h hk => normK_sound h hk) (fun h hk hQ => ?_) fu h1 hk1)
    exact ih h hk hQ (fun id s' a' w' β' hk' h' => hx id s' a' w' β' hk' h') (fun s' a' w' β' hk' h' => hr s' a' w' β' hk' h')
  | «exit» id => intro ln lx lr kn kx kr β s a w Q h hk hn hx hr; exact wp_exit (hx id s a w β hk h)
  | ret => intro ln lx lr kn kx kr β s a w Q h hk hn hx hr; exact wp_ret (hr s a w β hk h)
  | _ => intro ln lx lr kn kx kr β s a w Q h hk hn hx hr; cases hk
end

end Go.Proofs.Ytoihfmiifeegpaa.Pv
