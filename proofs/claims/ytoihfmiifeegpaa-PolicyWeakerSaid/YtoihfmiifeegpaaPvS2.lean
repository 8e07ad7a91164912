/-
  What the interpreter's readers give back.
-/
import Derived.Test.YtoihfmiifeegpaaPvS1
namespace Go.Proofs.Ytoihfmiifeegpaa.Pv

section
variable {R : Type} {r : R}

theorem intK_inv {k : IntKind} {p : PV} {K : Int → Option R} (h : intK k p K = some r) : ∃ n, p = .sc (.int k n) ∧ K n = some r := by
  unfold intK at h
  split at h
  · split at h
    · rename_i hk; subst hk; exact ⟨_, rfl, h⟩
    · cases h
  · cases h
theorem boolK_inv {p : PV} {K : Bool → Option R} (h : boolK p K = some r) : ∃ b, p = .sc (.bool b) ∧ K b = some r := by
  unfold boolK at h
  split at h
  · exact ⟨_, rfl, h⟩
  · cases h
theorem strK_inv {p : PV} {K : ByteArray → Option R} (h : strK p K = some r) : ∃ b, p = .sc (.string b) ∧ K b = some r := by
  unfold strK at h
  split at h
  · exact ⟨_, rfl, h⟩
  · cases h
theorem anyIntK_inv {p : PV} {K : IntKind → Int → Option R} (h : anyIntK p K = some r) : ∃ k n, p = .sc (.int k n) ∧ K k n = some r := by
  unfold anyIntK at h
  split at h
  · exact ⟨_, _, rfl, h⟩
  · cases h
theorem chk_inv {b : Bool} {K : Option R} (h : chk b K = some r) : b = true ∧ K = some r := by
  unfold chk at h
  cases b
  · cases h
  · exact ⟨rfl, h⟩
theorem optK_inv {α : Type} {o : Option α} {K : α → Option R} (h : optK o K = some r) : ∃ a, o = some a ∧ K a = some r := by
  unfold optK at h
  split at h
  · exact ⟨_, rfl, h⟩
  · cases h
theorem consK_inv {α : Type} {l : List α} {K : α → List α → Option R} (h : consK l K = some r) : ∃ a t, l = a :: t ∧ K a t = some r := by
  unfold consK at h
  split at h
  · exact ⟨_, _, rfl, h⟩
  · cases h
theorem nilK_inv {α : Type} {l : List α} {K : Option R} (h : nilK l K = some r) : l = [] ∧ K = some r := by
  unfold nilK at h
  split at h
  · exact ⟨rfl, h⟩
  · cases h
theorem aggK_inv {p : PV} {K : List PV → Option R} (h : aggK p K = some r) : ∃ c, p = .agg c ∧ K c = some r := by
  unfold aggK at h
  split at h
  · exact ⟨_, rfl, h⟩
  · cases h
theorem pboxK_inv {p : PV} {K : List PV → Option R} (h : pboxK p K = some r) : ∃ c, p = .pbox c ∧ K c = some r := by
  unfold pboxK at h
  split at h
  · exact ⟨_, rfl, h⟩
  · cases h
theorem callK_inv {o : Option Res} {K : List PV → List (List PV) → Option R} (h : callK o K = some r) : ∃ v x, o = some ⟨v, x⟩ ∧ K v x = some r := by
  unfold callK at h
  split at h
  · exact ⟨_, _, rfl, h⟩
  · cases h
theorem brK_inv {b : Bool} {x y : Option R} (h : brK b x y = some r) : (b = true ∧ x = some r) ∨ (b = false ∧ y = some r) := by
  unfold brK at h
  cases b
  · exact .inr ⟨rfl, h⟩
  · exact .inl ⟨rfl, h⟩
theorem lsK_inv {es : Nat} {p : PV} {K : Bool → Nat → List PV → Option R} (h : lsK es p K = some r) :
    ∃ z n c, K z n c = some r ∧ (p = .lst z es n c ∨ (p = .sc (.slice none 0 0) ∧ z = true ∧ n = 0 ∧ c = [])) := by
  unfold lsK at h
  split at h
  · rename_i z es' n c
    cases hb : Nat.beq es' es
    · rw [hb] at h; cases h
    · rw [hb] at h
      have := Nat.eq_of_beq_eq_true hb
      subst this
      exact ⟨z, n, c, h, .inl rfl⟩
  · exact ⟨true, 0, [], h, .inr ⟨rfl, rfl, rfl, rfl⟩⟩
  · cases h

/-- A scalar or a list. -/
def isT : PV → Prop
  | .sc _ => True
  | .lst _ _ _ _ => True
  | _ => False

/-- A scalar, a list or a view. -/
def isF : PV → Prop
  | .sc _ => True
  | .lst _ _ _ _ => True
  | .view _ _ _ _ => True
  | _ => False

theorem isF_isT {c : PV} (h : isT c) : isF c := by
  cases c <;> first | trivial | exact h.elim

theorem refsC_isT {c : PV} (h : isT c) : refsC c = [] := by
  cases c <;> first | rfl | exact h.elim

variable {w : World} {A : Nat → Prop} {β : Nat → Option (Nat × Nat)}

theorem CRep_isT {c : PV} {v : Value} (h : isT c) : CRep w A β c v ↔ TRep w A c v := by
  cases c <;> first | exact Iff.rfl | exact h.elim

theorem V1Rep_C {c : PV} {v : Value} (h : ∀ cs, c ≠ .agg cs) : V1Rep w A β c v ↔ CRep w A β c v := by
  cases c <;> first | exact Iff.rfl | exact absurd rfl (h _)

theorem VRep_V1 {c : PV} {v : Value} (h : ∀ cs, c ≠ .tup cs) : VRep w A β c v ↔ V1Rep w A β c v := by
  cases c <;> first | exact Iff.rfl | exact absurd rfl (h _)

theorem isT_agg {c : PV} (h : isT c) (cs : List PV) : c ≠ .agg cs := by rintro rfl; exact h
theorem isT_tup {c : PV} (h : isT c) (cs : List PV) : c ≠ .tup cs := by rintro rfl; exact h

theorem TRep.val {v u : Value} (h : TRep w A (.sc v) u) : u = v := by cases h; rfl

theorem ls_rep {es n : Nat} {z : Bool} {c : List PV} {p : PV} {v : Value} (h : p = .lst z es n c ∨ (p = .sc (.slice none 0 0) ∧ z = true ∧ n = 0 ∧ c = [])) (hv : CRep w A β p v) : TRep w A (.lst z es n c) v := by
  rcases h with rfl | ⟨rfl, rfl, rfl, rfl⟩
  · exact hv
  · have := TRep.val (w := w) (A := A) hv
    subst this
    exact .lnil true es

theorem tcK_inv {t : CT} {p : PV} {K : PV → Option R} (h : tcK t p K = some r) :
    ∃ c, K c = some r ∧ isT c ∧ isT p ∧ ∀ (w : World) (A : Nat → Prop) (β : Nat → Option (Nat × Nat)) (v : Value), CRep w A β p v → TRep w A c v ∧ v.oneCell' = true := by
  cases t with
  | int k => obtain ⟨n, rfl, h2⟩ := intK_inv h; exact ⟨_, h2, trivial, trivial, fun w A β v hv => ⟨hv, by have := TRep.val (w := w) (A := A) hv; subst this; rfl⟩⟩
  | bool => obtain ⟨n, rfl, h⟩ := boolK_inv h; exact ⟨_, h, trivial, trivial, fun w A β v hv => ⟨hv, by have := TRep.val (w := w) (A := A) hv; subst this; rfl⟩⟩
  | str => obtain ⟨n, rfl, h⟩ := strK_inv h; exact ⟨_, h, trivial, trivial, fun w A β v hv => ⟨hv, by have := TRep.val (w := w) (A := A) hv; subst this; rfl⟩⟩
  | sl es =>
    obtain ⟨z, n, c, h, hp⟩ := lsK_inv h
    refine ⟨_, h, trivial, ?_, fun w A β v hv => ⟨ls_rep hp hv, ?_⟩⟩
    · rcases hp with rfl | ⟨rfl, _⟩ <;> trivial
    · have ht := ls_rep hp hv
      cases ht <;> rfl
  | any => cases h

theorem fcK_inv {t : CT} {p : PV} {K : PV → Option R} (h : fcK t p K = some r) :
    ∃ c, K c = some r ∧ (isT c ∨ c = p) ∧ isF p ∧ p ≠ .top ∧ (∀ cs, c ≠ .agg cs) ∧ (∀ cs, c ≠ .tup cs) ∧ (∀ id, id ∈ refsC c → id ∈ refsC p) ∧ ∀ (w : World) (A : Nat → Prop) (β : Nat → Option (Nat × Nat)) (v : Value), CRep w A β p v → CRep w A β c v ∧ v.oneCell' = true := by
  have tree : ∀ t', tcK t' p K = some r → ∃ c, K c = some r ∧ (isT c ∨ c = p) ∧ isF p ∧ p ≠ .top ∧ (∀ cs, c ≠ .agg cs) ∧ (∀ cs, c ≠ .tup cs) ∧ (∀ id, id ∈ refsC c → id ∈ refsC p) ∧ ∀ (w : World) (A : Nat → Prop) (β : Nat → Option (Nat × Nat)) (v : Value), CRep w A β p v → CRep w A β c v ∧ v.oneCell' = true := by
    intro t' h
    obtain ⟨c, h, hc, hp, hv⟩ := tcK_inv h
    exact ⟨c, h, .inl hc, isF_isT hp, by rintro rfl; exact hp, isT_agg hc, isT_tup hc, by rw [refsC_isT hc]; simp, fun w A β v h => ⟨(CRep_isT hc).2 (hv w A β v h).1, (hv w A β v h).2⟩⟩
  cases t with
  | sl es =>
    unfold fcK fsK at h
    dsimp only at h
    split at h
    · rename_i id es' off n
      cases hb : Nat.beq es' es
      · rw [hb] at h; cases h
      · rw [hb] at h
        have := Nat.eq_of_beq_eq_true hb
        subst this
        exact ⟨_, h, .inr rfl, trivial, by simp, by simp, by simp, fun _ h => h, fun _ _ _ _ h => ⟨h, by rcases h with ⟨_, _, _, rfl⟩ | ⟨_, _, _, _, _, rfl, _⟩ <;> rfl⟩⟩
    · exact tree (.sl es) h
  | int k => exact tree (.int k) h
  | bool => exact tree (.bool) h
  | str => exact tree (.str) h
  | any => exact tree (.any) h

theorem getD_ne_top {cells : List PV} {i : Nat} {p : PV} (h : cells.getD i .top = p) (hp : p ≠ .top) : cells[i]? = some p := by
  rw [List.getD_eq_getElem?_getD] at h
  cases hc : cells[i]? with
  | none => rw [hc] at h; exact absurd h.symm hp
  | some q => rw [hc] at h; simp at h; rw [h]

theorem tcsK_inv : ∀ {ts : List CT} {cells : List PV} {off : Nat} {K : List PV → Option R}, tcsK ts cells off K = some r →
    ∃ cs, K cs = some r ∧ cs.length = ts.length ∧ ∀ j c, cs[j]? = some c → isT c ∧ ∃ p, cells[off + j]? = some p ∧ isT p ∧
      ∀ (w : World) (A : Nat → Prop) (β : Nat → Option (Nat × Nat)) (v : Value), CRep w A β p v → TRep w A c v ∧ v.oneCell' = true
  | [], _, _, _, h => ⟨[], h, rfl, fun j c hj => by simp at hj⟩
  | t :: ts, cells, off, K, h => by
    unfold tcsK at h
    obtain ⟨c, h, hc, hp, hv⟩ := tcK_inv h
    obtain ⟨cs, h, hl, hcs⟩ := tcsK_inv h
    refine ⟨c :: cs, h, by simp [hl], fun j c' hj => ?_⟩
    cases j with
    | zero =>
      simp at hj; subst hj
      refine ⟨hc, cells.getD off .top, getD_ne_top rfl ?_, hp, hv⟩
      intro e
      rw [e] at hp
      exact hp
    | succ j =>
      simp at hj
      have := hcs j c' hj
      rwa [Nat.add_right_comm, Nat.add_assoc] at this

theorem fcsK_inv : ∀ {ts : List CT} {cells : List PV} {off : Nat} {K : List PV → Option R}, fcsK ts cells off K = some r →
    ∃ cs, K cs = some r ∧ cs.length = ts.length ∧ (∀ c ∈ cs, (∀ x, c ≠ .agg x) ∧ (∀ x, c ≠ .tup x)) ∧ ∀ j c, cs[j]? = some c → ∃ p, cells[off + j]? = some p ∧ isF p ∧ (∀ id, id ∈ refsC c → id ∈ refsC p) ∧
      ∀ (w : World) (A : Nat → Prop) (β : Nat → Option (Nat × Nat)) (v : Value), CRep w A β p v → CRep w A β c v ∧ v.oneCell' = true
  | [], _, _, _, h => ⟨[], h, rfl, by simp, fun j c hj => by simp at hj⟩
  | t :: ts, cells, off, K, h => by
    unfold fcsK at h
    obtain ⟨c, h, hc, hf, hp, ha, ht, hr, hv⟩ := fcK_inv h
    obtain ⟨cs, h, hl, hna, hcs⟩ := fcsK_inv h
    refine ⟨c :: cs, h, by simp [hl], ?_, fun j c' hj => ?_⟩
    · intro x hx
      rcases List.mem_cons.1 hx with rfl | hx
      · exact ⟨ha, ht⟩
      · exact hna x hx
    · cases j with
      | zero =>
        simp at hj; subst hj
        exact ⟨cells.getD off .top, getD_ne_top rfl hp, hf, hr, hv⟩
      | succ j =>
        simp at hj
        have := hcs j c' hj
        rwa [Nat.add_right_comm, Nat.add_assoc] at this

theorem mkV_inv {agg : Bool} {cells : List PV} {K : PV → Option R} (h : mkV agg cells K = some r) :
    (agg = true ∧ K (.agg cells) = some r) ∨ (agg = false ∧ ∃ c, cells = [c] ∧ K c = some r) := by
  unfold mkV at h
  cases agg
  · obtain ⟨c, t, rfl, h⟩ := consK_inv h
    obtain ⟨rfl, h⟩ := nilK_inv h
    exact .inr ⟨rfl, c, rfl, h⟩
  · exact .inl ⟨rfl, h⟩
end

end Go.Proofs.Ytoihfmiifeegpaa.Pv
