/-
  A pure interpreter of the model's code and its soundness, part 4 (texts PvS22 PvS23 PvS24 PvS25 PvS26 PvS27 PvS28 PvS29 PvS30 PvS31 PvE).
-/
import Derived.Test.YtaphhfehcbkfkaaPvX3
import Derived.StillTail
import Derived.WalkKit
import Derived.ProofKit
import Derived.OpenShut
import Derived.ShutString
import Derived.ChangeOld
import Derived.Below
import Derived.Deep.Slices
import Derived.ChangeSame
import Derived.WideKeyArgs
import Derived.Carry
set_option linter.unusedSimpArgs false
set_option linter.unusedVariables false
namespace Go.Proofs.Ytaphhfehcbkfkaa.Pv

section
variable {R R' : Type} {Rel : Option R → Option R' → Prop}

theorem intK_rel (hn : Rel none none) {k : IntKind} {p : PV} {K : Int → Option R} {K' : Int → Option R'} (hK : ∀ n, Rel (K n) (K' n)) : Rel (intK k p K) (intK k p K') := by
  unfold intK; split
  · split <;> first | exact hK _ | exact hn
  · exact hn
theorem anyIntK_rel (hn : Rel none none) {p : PV} {K : IntKind → Int → Option R} {K' : IntKind → Int → Option R'} (hK : ∀ k n, Rel (K k n) (K' k n)) : Rel (anyIntK p K) (anyIntK p K') := by
  unfold anyIntK; split <;> first | exact hK _ _ | exact hn
theorem boolK_rel (hn : Rel none none) {p : PV} {K : Bool → Option R} {K' : Bool → Option R'} (hK : ∀ n, Rel (K n) (K' n)) : Rel (boolK p K) (boolK p K') := by
  unfold boolK; split <;> first | exact hK _ | exact hn
theorem strK_rel (hn : Rel none none) {p : PV} {K : ByteArray → Option R} {K' : ByteArray → Option R'} (hK : ∀ n, Rel (K n) (K' n)) : Rel (strK p K) (strK p K') := by
  unfold strK; split <;> first | exact hK _ | exact hn
theorem lsK_rel (hn : Rel none none) {es : Nat} {p : PV} {K : Bool → Nat → List PV → Option R} {K' : Bool → Nat → List PV → Option R'} (hK : ∀ z n c, Rel (K z n c) (K' z n c)) : Rel (lsK es p K) (lsK es p K') := by
  unfold lsK; split
  · rename_i es' _ _
    cases Nat.beq es' es
    · exact hn
    · exact hK _ _ _
  · exact hK _ _ _
  · exact hn
theorem fsK_rel (hn : Rel none none) {es : Nat} {p : PV} {K : PV → Option R} {K' : PV → Option R'} (hK : ∀ p, Rel (K p) (K' p)) : Rel (fsK es p K) (fsK es p K') := by
  unfold fsK; split
  · rename_i es' _ _
    cases Nat.beq es' es
    · exact hn
    · exact hK _
  · exact lsK_rel hn fun _ _ _ => hK _
theorem owK_rel (hn : Rel none none) {es : Nat} {p : PV} {K : Nat → List PV → Option R} {K' : Nat → List PV → Option R'} (hK : ∀ n c, Rel (K n c) (K' n c)) : Rel (owK es p K) (owK es p K') := by
  unfold owK; split
  · rename_i es' _ _
    cases Nat.beq es' es
    · exact hn
    · exact hK _ _
  · exact hn
theorem chk_rel (hn : Rel none none) {b : Bool} {K : Option R} {K' : Option R'} (hK : b = true → Rel K K') : Rel (chk b K) (chk b K') := by
  cases b
  · exact hn
  · exact hK rfl
theorem brK_rel {b : Bool} {x y : Option R} {x' y' : Option R'} (hx : Rel x x') (hy : Rel y y') : Rel (brK b x y) (brK b x' y') := by
  cases b
  · exact hy
  · exact hx
theorem optK_rel (hn : Rel none none) {α : Type} {o : Option α} {K : α → Option R} {K' : α → Option R'} (hK : ∀ a, o = some a → Rel (K a) (K' a)) : Rel (optK o K) (optK o K') := by
  cases o
  · exact hn
  · exact hK _ rfl
theorem consK_rel (hn : Rel none none) {α : Type} {l : List α} {K : α → List α → Option R} {K' : α → List α → Option R'} (hK : ∀ a r, l = a :: r → Rel (K a r) (K' a r)) : Rel (consK l K) (consK l K') := by
  cases l
  · exact hn
  · exact hK _ _ rfl
theorem nilK_rel (hn : Rel none none) {α : Type} {l : List α} {K : Option R} {K' : Option R'} (hK : Rel K K') : Rel (nilK l K) (nilK l K') := by
  cases l
  · exact hK
  · exact hn
theorem aggK_rel (hn : Rel none none) {p : PV} {K : List PV → Option R} {K' : List PV → Option R'} (hK : ∀ c, p = .agg c → Rel (K c) (K' c)) : Rel (aggK p K) (aggK p K') := by
  unfold aggK; split
  · exact hK _ rfl
  · exact hn
theorem pboxK_rel (hn : Rel none none) {p : PV} {K : List PV → Option R} {K' : List PV → Option R'} (hK : ∀ c, Rel (K c) (K' c)) : Rel (pboxK p K) (pboxK p K') := by
  unfold pboxK; split
  · exact hK _
  · exact hn
theorem callK_rel (hn : Rel none none) {r : Option Res} {K : List PV → List (List PV) → Option R} {K' : List PV → List (List PV) → Option R'} (hK : ∀ v o, Rel (K v o) (K' v o)) : Rel (callK r K) (callK r K') := by
  unfold callK; split
  · exact hK _ _
  · exact hn
theorem fnK_rel (hn : Rel none none) {p : PV} {K : Value → Option R} {K' : Value → Option R'} (hK : ∀ v, Rel (K v) (K' v)) : Rel (fnK p K) (fnK p K') := by
  unfold fnK; split
  · exact hK _
  · exact hn
theorem fvK_rel (hn : Rel none none) {p : PV} {K : FuncId → Option R} {K' : FuncId → Option R'} (hK : ∀ v, Rel (K v) (K' v)) : Rel (fvK p K) (fvK p K') := by
  unfold fvK; split
  · rename_i f a b
    cases (a.isEmpty && b.isEmpty)
    · exact hn
    · exact hK _
  · exact hn
theorem tcK_rel (hn : Rel none none) {t : CT} {p : PV} {K : PV → Option R} {K' : PV → Option R'} (hK : ∀ p, Rel (K p) (K' p)) : Rel (tcK t p K) (tcK t p K') := by
  unfold tcK; split
  · exact intK_rel hn fun _ => hK _
  · exact boolK_rel hn fun _ => hK _
  · exact strK_rel hn fun _ => hK _
  · exact lsK_rel hn fun _ _ _ => hK _
  · exact fnK_rel hn fun _ => hK _
theorem fcK_rel (hn : Rel none none) {t : CT} {p : PV} {K : PV → Option R} {K' : PV → Option R'} (hK : ∀ p, Rel (K p) (K' p)) : Rel (fcK t p K) (fcK t p K') := by
  unfold fcK; split
  · exact fsK_rel hn hK
  · exact tcK_rel hn hK
theorem tcsK_rel (hn : Rel none none) : ∀ {ts : List CT} {cells : List PV} {off : Nat} {K : List PV → Option R} {K' : List PV → Option R'}, (∀ c, Rel (K c) (K' c)) → Rel (tcsK ts cells off K) (tcsK ts cells off K')
  | [], _, _, _, _, hK => hK _
  | _ :: _, _, _, _, _, hK => tcK_rel hn fun _ => tcsK_rel hn fun _ => hK _
theorem fcsK_rel (hn : Rel none none) : ∀ {ts : List CT} {cells : List PV} {off : Nat} {K : List PV → Option R} {K' : List PV → Option R'}, (∀ c, Rel (K c) (K' c)) → Rel (fcsK ts cells off K) (fcsK ts cells off K')
  | [], _, _, _, _, hK => hK _
  | _ :: _, _, _, _, _, hK => fcK_rel hn fun _ => fcsK_rel hn fun _ => hK _
theorem mkV_rel (hn : Rel none none) {g : Bool} {cells : List PV} {K : PV → Option R} {K' : PV → Option R'} (hK : ∀ p, Rel (K p) (K' p)) : Rel (mkV g cells K) (mkV g cells K') := by
  cases g
  · exact consK_rel hn fun _ _ _ => nilK_rel hn (hK _)
  · exact hK _
theorem cvK_rel (hn : Rel none none) {P : Program} {t : TypeId} {v : Value} {K : PV → Option R} {K' : PV → Option R'} (hK : ∀ p, refs p = [] → Rel (K p) (K' p)) (hK' : ∀ c, Rel (K (.agg c)) (K' (.agg c))) : Rel (cvK P t v K) (cvK P t v K') := by
  unfold cvK; split
  · exact chk_rel hn fun _ => tcsK_rel hn fun _ => hK' _
  · split
    · exact hK _ rfl
    · exact hn
  · exact hK _ rfl

theorem cmpK_rel (hn : Rel none none) {op : BinOp} {x y : Int} {K : Bool → Option R} {K' : Bool → Option R'} (hK : ∀ n, Rel (K n) (K' n)) : Rel (cmpK op x y K) (cmpK op x y K') := by
  unfold cmpK; split <;> first | exact hK _ | exact hn
theorem intOpK_rel (hn : Rel none none) {op : BinOp} {k : IntKind} {x y : Int} {K : PV → Option R} {K' : PV → Option R'} (hK : ∀ n, Rel (K n) (K' n)) : Rel (intOpK op k x y K) (intOpK op k x y K') := by
  unfold intOpK; split <;> first | exact hK _ | exact chk_rel hn fun _ => hK _ | exact cmpK_rel hn fun _ => hK _
theorem strOpK_rel (hn : Rel none none) {op : BinOp} {x y : ByteArray} {K : PV → Option R} {K' : PV → Option R'} (hK : ∀ n, Rel (K n) (K' n)) : Rel (strOpK op x y K) (strOpK op x y K') := by
  unfold strOpK; split <;> first | exact hK _ | exact chk_rel hn fun _ => hK _ | exact hn
theorem nilQK_rel (hn : Rel none none) {e : Bool} {p : PV} {K : PV → Option R} {K' : PV → Option R'} (hK : ∀ n, Rel (K n) (K' n)) : Rel (nilQK e p K) (nilQK e p K') := by
  unfold nilQK; split <;> first | exact hK _ | exact brK_rel (hK _) (brK_rel (hK _) (hK _)) | exact brK_rel (hK _) (hK _) | exact hn
theorem eqsK_rel (hn : Rel none none) : ∀ {ts : List CT} {ps qs : List PV} {K : Bool → Option R} {K' : Bool → Option R'}, (∀ b, Rel (K b) (K' b)) → Rel (eqsK ts ps qs K) (eqsK ts ps qs K') := by
  intro ts
  induction ts with
  | nil =>
    intro ps qs K K' hK
    cases ps <;> cases qs <;> first | exact hK _ | exact hn
  | cons t ts ih =>
    intro ps qs K K' hK
    cases ps with
    | nil => cases t <;> cases qs <;> exact hn
    | cons p ps =>
      cases qs with
      | nil => cases t <;> exact hn
      | cons q qs =>
        cases t
        · exact intK_rel hn fun _ => intK_rel hn fun _ => ih fun _ => hK _
        · exact boolK_rel hn fun _ => boolK_rel hn fun _ => ih fun _ => hK _
        · exact strK_rel hn fun _ => strK_rel hn fun _ => ih fun _ => hK _
        · exact hn
        · exact hn
theorem binK_rel (hn : Rel none none) {P : Program} {op : BinOp} {t : TypeId} {x y : PV} {K : PV → Option R} {K' : PV → Option R'} (hK : ∀ p, Rel (K p) (K' p)) : Rel (binK P op t x y K) (binK P op t x y K') := by
  unfold binK; split
  · split
    · exact intK_rel hn fun _ => anyIntK_rel hn fun _ _ => chk_rel hn fun _ => hK _
    · exact intK_rel hn fun _ => anyIntK_rel hn fun _ _ => chk_rel hn fun _ => hK _
    · exact intK_rel hn fun _ => intK_rel hn fun _ => intOpK_rel hn hK
  · exact strK_rel hn fun _ => strK_rel hn fun _ => strOpK_rel hn hK
  · split
    · exact boolK_rel hn fun _ => boolK_rel hn fun _ => hK _
    · exact boolK_rel hn fun _ => boolK_rel hn fun _ => hK _
    · exact hn
  · split
    · exact nilQK_rel hn fun _ => hK _
    · exact nilQK_rel hn fun _ => hK _
    · exact hn
  · exact hn
theorem binAnyK_rel (hn : Rel none none) {P : Program} {op : BinOp} {t : TypeId} {x y : PV} {K : PV → Option R} {K' : PV → Option R'} (hK : ∀ p, Rel (K p) (K' p)) : Rel (binAnyK P op t x y K) (binAnyK P op t x y K') := by
  unfold binAnyK; split
  · split
    · exact chk_rel hn fun _ => aggK_rel hn fun _ _ => aggK_rel hn fun _ _ => eqsK_rel hn fun _ => hK _
    · exact chk_rel hn fun _ => aggK_rel hn fun _ _ => aggK_rel hn fun _ _ => eqsK_rel hn fun _ => hK _
    · exact hn
  · exact binK_rel hn hK
theorem unK_rel (hn : Rel none none) {op : UnOp} {x : PV} {K : PV → Option R} {K' : PV → Option R'} (hK : ∀ p, Rel (K p) (K' p)) : Rel (unK op x K) (unK op x K') := by
  unfold unK; split <;> first | exact boolK_rel hn fun _ => hK _ | exact anyIntK_rel hn fun _ _ => hK _ | exact hn
theorem boundK_rel (hn : Rel none none) {p : Option PV} {d : Nat} {K : Nat → Option R} {K' : Nat → Option R'} (hK : ∀ n, Rel (K n) (K' n)) : Rel (boundK p d K) (boundK p d K') := by
  unfold boundK; split
  · exact hK _
  · exact anyIntK_rel hn fun _ _ => chk_rel hn fun _ => hK _
theorem addrK_rel (hn : Rel none none) {x : PV} {d : Nat} {K : PV → Option R} {K' : PV → Option R'} (hK : ∀ n, Rel (K n) (K' n)) : Rel (addrK x d K) (addrK x d K') := by
  unfold addrK; split <;> first | exact hK _ | exact hn
theorem indexAddrK_rel (hn : Rel none none) {P : Program} {t : TypeId} {x : PV} {i : Int} {K : PV → Option R} {K' : PV → Option R'} (hK : ∀ p, Rel (K p) (K' p)) : Rel (indexAddrK P t x i K) (indexAddrK P t x i K') := by
  unfold indexAddrK; split
  · exact chk_rel hn fun _ => chk_rel hn fun _ => addrK_rel hn hK
  · refine chk_rel hn fun _ => ?_
    split
    · exact chk_rel hn fun _ => chk_rel hn fun _ => hK _
    · exact lsK_rel hn fun _ _ _ => chk_rel hn fun _ => hK _
  · exact hn
theorem fillK_rel (hn : Rel none none) {place : Nat → Option (Nat × Nat)} : ∀ {ps : List (Nat × PV)} {cells : List PV} {K : List PV → Option R} {K' : List PV → Option R'}, (∀ c, Rel (K c) (K' c)) → Rel (fillK place ps cells K) (fillK place ps cells K')
  | [], _, _, _, hK => hK _
  | (_, _) :: _, _, _, _, hK => optK_rel hn fun _ _ => chk_rel hn fun _ => fillK_rel hn hK
theorem zcellsK_rel (hn : Rel none none) {P : Program} {t : TypeId} {K : List PV → Option R} {K' : List PV → Option R'} (hK : ∀ p, Rel (K p) (K' p)) : Rel (zcellsK P t K) (zcellsK P t K') :=
  optK_rel hn fun _ _ => chk_rel hn fun _ => tcsK_rel hn hK
theorem minK_rel (hn : Rel none none) {x y : PV} {K : PV → Option R} {K' : PV → Option R'} (hK : ∀ p, Rel (K p) (K' p)) : Rel (minK x y K) (minK x y K') :=
  anyIntK_rel hn fun _ _ => intK_rel hn fun _ => hK _
theorem maxK_rel (hn : Rel none none) {x y : PV} {K : PV → Option R} {K' : PV → Option R'} (hK : ∀ p, Rel (K p) (K' p)) : Rel (maxK x y K) (maxK x y K') :=
  anyIntK_rel hn fun _ _ => intK_rel hn fun _ => hK _
theorem lenK_rel (hn : Rel none none) {P : Program} {t : TypeId} {x : PV} {K : Nat → Option R} {K' : Nat → Option R'} (hK : ∀ p, Rel (K p) (K' p)) : Rel (lenK P t x K) (lenK P t x K') := by
  unfold lenK; split
  · exact strK_rel hn fun _ => hK _
  · exact hK _
  · split
    · exact chk_rel hn fun _ => hK _
    · exact lsK_rel hn fun _ _ _ => hK _
  · exact hn

/- What reads memory: two memories that agree where the value points. -/
def Agr (Rel : Option R → Option R' → Prop) (f f' : Nat → Option (List PV)) (l : List Nat) : Prop := ∀ i ∈ l, f i = f' i ∨ (f i = none ∧ ∀ b, Rel none b)

variable {f f' : Nat → Option (List PV)}

theorem Agr.sub {l l' : List Nat} (h : Agr Rel f f' l) (hs : ∀ i ∈ l', i ∈ l) : Agr Rel f f' l' := fun i hi => h i (hs i hi)

theorem optf_rel (hn : Rel none none) {l : List Nat} {id : Nat} (hf : Agr Rel f f' l) (hi : id ∈ l) {K : List PV → Option R} {K' : List PV → Option R'} (hK : ∀ c, f id = some c → Rel (K c) (K' c)) : Rel (optK (f id) K) (optK (f' id) K') := by
  rcases hf id hi with h | ⟨h, hb⟩
  · rw [← h]
    exact optK_rel hn hK
  · rw [h]
    exact hb _

theorem slcK_rel (hn : Rel none none) {es : Nat} {p : PV} {K : Nat → List PV → Option R} {K' : Nat → List PV → Option R'} (hf : Agr Rel f f' (refsC p)) (hK : ∀ n c, Rel (K n c) (K' n c)) : Rel (slcK f es p K) (slcK f' es p K') := by
  unfold slcK; split
  · rename_i id es' off n
    cases Nat.beq es' es
    · exact hn
    · exact optf_rel hn hf (by simp [refsC]) fun _ _ => chk_rel hn fun _ => hK _ _
  · exact lsK_rel hn fun _ _ _ => hK _ _
theorem frcK_rel (hn : Rel none none) {t : CT} {p : PV} {K : PV → List Nat → Option R} {K' : PV → List Nat → Option R'} (hf : Agr Rel f f' (refsC p)) (hK : ∀ c m, (∀ i ∈ m, f i ≠ none) → Rel (K c m) (K' c m)) : Rel (frcK f t p K) (frcK f' t p K') := by
  unfold frcK; split
  · split
    · rename_i id es' off n
      cases Nat.beq es' _
      · exact hn
      · exact optf_rel hn hf (by simp [refsC]) fun c hc => chk_rel hn fun _ => hK _ _ (by simp [hc])
    · exact lsK_rel hn fun _ _ _ => hK _ _ (by simp)
  · exact tcK_rel hn fun _ => hK _ _ (by simp)
theorem frcsK_rel (hn : Rel none none) : ∀ {ts : List CT} {ps : List PV} {K : List PV → List Nat → Option R} {K' : List PV → List Nat → Option R'}, Agr Rel f f' (ps.flatMap refsC) → (∀ c m, (∀ i ∈ m, f i ≠ none) → Rel (K c m) (K' c m)) → Rel (frcsK f ts ps K) (frcsK f' ts ps K')
  | [], [], _, _, _, hK => hK _ _ (by simp)
  | [], _ :: _, _, _, _, _ => hn
  | _ :: _, [], _, _, _, _ => hn
  | _ :: _, p :: ps, _, _, hf, hK => frcK_rel hn (fun i hi => hf i (by simp only [List.flatMap_cons, List.mem_append]; exact .inl hi)) fun _ m hm => frcsK_rel hn (fun i hi => hf i (by simp only [List.flatMap_cons, List.mem_append]; exact .inr hi)) fun _ ms hms => hK _ _ fun i hi => by
      rcases List.mem_append.1 hi with h | h
      · exact hm i h
      · exact hms i h
theorem frvK_rel (hn : Rel none none) {P : Program} {t : TypeId} {p : PV} {K : PV → List Nat → Option R} {K' : PV → List Nat → Option R'} (hf : Agr Rel f f' (refs1 p)) (hK : ∀ c m, (∀ i ∈ m, f i ≠ none) → Rel (K c m) (K' c m)) : Rel (frvK P f t p K) (frvK P f' t p K') := by
  unfold frvK
  have h1 : ∀ i, i ∈ [p].flatMap refsC → i ∈ refs1 p := by
    intro i hi
    simp only [List.flatMap_cons, List.flatMap_nil, List.append_nil] at hi
    cases p <;> first | exact hi | simp [refsC] at hi
  cases isAggB P t
  · exact frcsK_rel hn (fun i hi => hf i (h1 i hi)) fun _ _ hm => consK_rel hn fun _ _ _ => nilK_rel hn (hK _ _ hm)
  · refine aggK_rel hn fun c hc => ?_
    subst hc
    exact frcsK_rel hn (fun i hi => hf i hi) fun _ _ hm => hK _ _ hm
theorem frvsK_rel (hn : Rel none none) {P : Program} : ∀ {ts : List TypeId} {ps : List PV} {K : List PV → List Nat → Option R} {K' : List PV → List Nat → Option R'}, Agr Rel f f' (ps.flatMap refs1) → (∀ c m, (∀ i ∈ m, f i ≠ none) → Rel (K c m) (K' c m)) → Rel (frvsK P f ts ps K) (frvsK P f' ts ps K')
  | [], [], _, _, _, hK => hK _ _ (by simp)
  | [], _ :: _, _, _, _, _ => hn
  | _ :: _, [], _, _, _, _ => hn
  | _ :: _, p :: ps, _, _, hf, hK => frvK_rel hn (fun i hi => hf i (by simp only [List.flatMap_cons, List.mem_append]; exact .inl hi)) fun _ m hm => frvsK_rel hn (fun i hi => hf i (by simp only [List.flatMap_cons, List.mem_append]; exact .inr hi)) fun _ ms hms => hK _ _ fun i hi => by
      rcases List.mem_append.1 hi with h | h
      · exact hm i h
      · exact hms i h
theorem sliceK_rel (hn : Rel none none) {P : Program} {t : TypeId} {x : PV} {lo hi : Option PV} {K : PV → Option R} {K' : PV → Option R'} (hf : (∃ n e, P.underlying t = some (.array n e)) → Agr Rel f f' (refsC x)) (hK : ∀ c, Rel (K c) (K' c)) : Rel (sliceK P f t x lo hi K) (sliceK P f' t x lo hi K') := by
  unfold sliceK; split
  · exact strK_rel hn fun _ => boundK_rel hn fun _ => boundK_rel hn fun _ => chk_rel hn fun _ => hK _
  · refine chk_rel hn fun _ => ?_
    split
    · exact chk_rel hn fun _ => boundK_rel hn fun _ => boundK_rel hn fun _ => chk_rel hn fun _ => hK _
    · exact lsK_rel hn fun _ _ _ => boundK_rel hn fun _ => boundK_rel hn fun _ => chk_rel hn fun _ => hK _
  · rename_i n e hu
    refine chk_rel hn fun _ => ?_
    split
    · rename_i id off
      exact optf_rel hn (hf ⟨_, _, hu⟩) (by simp [refsC]) fun _ _ => chk_rel hn fun _ => boundK_rel hn fun _ => boundK_rel hn fun _ => chk_rel hn fun _ => hK _
    · exact hn
  · exact hn
theorem loadK_rel {g g' : Nat → Option (List PV)} (hn : Rel none none) {P : Program} {t : TypeId} {x : PV} {K : PV → Option R} {K' : PV → Option R'} (hf : ∀ i ∈ refsC x, (f i = f' i ∧ g i = g' i) ∨ (f i = none ∧ g i = none ∧ ∀ b, Rel none b)) (hK : ∀ c, Rel (K c) (K' c)) : Rel (loadK P f g t x K) (loadK P f' g' t x K') := by
  unfold loadK; split
  · rename_i id off
    refine chk_rel hn fun _ => ?_
    rcases hf id (by simp [refsC]) with ⟨h1, h2⟩ | ⟨h1, h2, h3⟩
    · rw [← h1, ← h2]
      split
      · exact tcsK_rel hn fun _ => mkV_rel hn hK
      · exact optK_rel hn fun _ _ => fcsK_rel hn fun _ => mkV_rel hn hK
    · rw [h1, h2]
      exact h3 _
  · exact chk_rel hn fun _ => tcsK_rel hn fun _ => mkV_rel hn hK
  · exact hn

/- What makes boxes. -/
theorem convK_rel (hn : Rel none none) {P : Program} {d : Nat} {src dst : TypeId} {x : PV} {K : PV → List (Nat × Box) → Option R} {K' : PV → List (Nat × Box) → Option R'} (hf : P.underlying dst = some .string → Agr Rel f f' (refsC x)) (hK : ∀ v b, (∀ q ∈ b, q.1 = d) → Rel (K v b) (K' v b)) : Rel (convK P f d src dst x K) (convK P f' d src dst x K') := by
  unfold convK; split
  · exact chk_rel hn fun _ => anyIntK_rel hn fun _ _ => hK _ _ (by simp)
  · rename_i hds
    split
    · exact strK_rel hn fun _ => hK _ _ (by simp)
    · split
      · exact slcK_rel hn (hf hds) fun _ _ => chk_rel hn fun _ => optK_rel hn fun _ _ => hK _ _ (by simp)
      · exact hn
    · exact hn
  · split
    · exact strK_rel hn fun _ => chk_rel hn fun _ => hK _ _ (by simp)
    · exact hn
  · exact hn
theorem uncK_rel (hn : Rel none none) {shr : Bool} {id : Nat} {t : CT} {p : PV} {K : PV → List (Nat × Box) → Option R} {K' : PV → List (Nat × Box) → Option R'} (hK : ∀ c b, (∀ q ∈ b, q.1 = id) → Rel (K c b) (K' c b)) : Rel (uncK shr id t p K) (uncK shr id t p K') := by
  unfold uncK; split
  · cases shr
    · exact owK_rel hn fun _ _ => hK _ _ (by simp)
    · exact lsK_rel hn fun _ _ _ => hK _ _ (by simp)
  · exact tcK_rel hn fun _ => hK _ _ (by simp)
theorem uncsK_rel (hn : Rel none none) {shr : Bool} {N : Nat} : ∀ {ts : List CT} {id : Nat} {ps : List PV} {K : List PV → List (Nat × Box) → Option R} {K' : List PV → List (Nat × Box) → Option R'}, (∀ c b, (∀ q ∈ b, ∃ j, q.1 = id + N * j) → Rel (K c b) (K' c b)) → Rel (uncsK shr N id ts ps K) (uncsK shr N id ts ps K')
  | [], _, _, _, _, hK => nilK_rel hn (hK _ _ (by simp))
  | _ :: _, id, _, _, _, hK => consK_rel hn fun _ _ _ => uncK_rel hn fun _ b hb => uncsK_rel hn fun _ bs hbs => hK _ _ fun q hq => by
      rcases List.mem_append.1 hq with h | h
      · exact ⟨0, by rw [hb q h]; simp⟩
      · obtain ⟨j, hj⟩ := hbs q h
        exact ⟨j + 1, by rw [hj, Nat.mul_add]; omega⟩
theorem unvK_rel (hn : Rel none none) {P : Program} {shr : Bool} {N id : Nat} {t : TypeId} {p : PV} {K : PV → List (Nat × Box) → Option R} {K' : PV → List (Nat × Box) → Option R'} (hK : ∀ c b, (∀ q ∈ b, ∃ j, q.1 = id + N * j) → Rel (K c b) (K' c b)) : Rel (unvK P shr N id t p K) (unvK P shr N id t p K') := by
  unfold unvK
  split
  · refine pboxK_rel hn fun ps => uncsK_rel hn fun _ _ hb => hK _ _ fun q hq => ?_
    rcases List.mem_cons.1 hq with rfl | hq
    · exact ⟨0, by simp⟩
    · obtain ⟨j, hj⟩ := hb q hq
      exact ⟨j + 1, by rw [hj, Nat.mul_add]; omega⟩
  cases isAggB P t
  · exact uncsK_rel hn fun _ _ hb => consK_rel hn fun _ _ _ => nilK_rel hn (hK _ _ hb)
  · exact aggK_rel hn fun _ _ => uncsK_rel hn fun _ _ hb => hK _ _ hb
theorem unvsK_rel (hn : Rel none none) {P : Program} {shr : Bool} {N : Nat} : ∀ {ts : List TypeId} {id : Nat} {ps : List PV} {K : List PV → List (Nat × Box) → Option R} {K' : List PV → List (Nat × Box) → Option R'}, (∀ c b, (∀ q ∈ b, ∃ j, q.1 = id + N * j) → Rel (K c b) (K' c b)) → Rel (unvsK P shr N id ts ps K) (unvsK P shr N id ts ps K')
  | [], _, _, _, _, hK => nilK_rel hn (hK _ _ (by simp))
  | t :: _, id, _, _, _, hK => consK_rel hn fun _ _ _ => unvK_rel hn fun _ b hb => unvsK_rel hn fun _ bs hbs => hK _ _ fun q hq => by
      rcases List.mem_append.1 hq with h | h
      · exact hb q h
      · obtain ⟨j, hj⟩ := hbs q h
        exact ⟨plcs P t + j, by rw [hj, Nat.mul_add]; omega⟩
end

end Go.Proofs.Ytaphhfehcbkfkaa.Pv

namespace Go.Proofs.Ytaphhfehcbkfkaa.Pv

theorem refsC_refs1 {p : PV} {i : Nat} (h : i ∈ refsC p) : i ∈ refs1 p := by cases p <;> first | exact h | simp [refsC] at h
theorem refs1_refs {p : PV} {i : Nat} (h : i ∈ refs1 p) : i ∈ refs p := by cases p <;> first | exact h | simp [refs1, refsC] at h
theorem refsC_refs {p : PV} {i : Nat} (h : i ∈ refsC p) : i ∈ refs p := refs1_refs (refsC_refs1 h)

section
variable {R R' : Type} {Rel : Option R → Option R' → Prop} {P : Program} {N : Nat} {tm tm' : Nat → PV} {f f' g g' : Nat → Option (List PV)} {o : Oper}

theorem constK_rel (hn : Rel none none) {t : TypeId} {x : Operand} {K : PV → Option R} {K' : PV → Option R'} (hx : opv tm x = opv tm' x) (hK : ∀ p, Rel (K p) (K' p)) : Rel (constK P t tm x K) (constK P t tm' x K') := by
  unfold constK; split
  · exact cvK_rel hn (fun _ _ => hK _) (fun _ => hK _)
  · rw [hx]; exact hK _

theorem tcK_rel0 (hn : Rel none none) {t : CT} {p : PV} {K : PV → Option R} {K' : PV → Option R'} (hK : ∀ p, refsC p = [] → Rel (K p) (K' p)) : Rel (tcK t p K) (tcK t p K') := by
  unfold tcK; split
  · exact intK_rel hn fun _ => hK _ rfl
  · exact boolK_rel hn fun _ => hK _ rfl
  · exact strK_rel hn fun _ => hK _ rfl
  · exact lsK_rel hn fun _ _ _ => hK _ rfl
  · exact fnK_rel hn fun _ => hK _ rfl
theorem tcsK_rel0 (hn : Rel none none) : ∀ {ts : List CT} {cells : List PV} {off : Nat} {K : List PV → Option R} {K' : List PV → Option R'}, (∀ c, (∀ p ∈ c, refsC p = []) → Rel (K c) (K' c)) → Rel (tcsK ts cells off K) (tcsK ts cells off K')
  | [], _, _, _, _, hK => hK _ (by simp)
  | _ :: _, _, _, _, _, hK => tcK_rel0 hn fun c hc => tcsK_rel0 hn fun cs hcs => hK _ (by
      intro p hp
      rcases List.mem_cons.1 hp with h | h
      · rw [h]; exact hc
      · exact hcs p h)
theorem zcellsK_rel0 (hn : Rel none none) {t : TypeId} {K : List PV → Option R} {K' : List PV → Option R'} (hK : ∀ c, (∀ p ∈ c, refsC p = []) → Rel (K c) (K' c)) : Rel (zcellsK P t K) (zcellsK P t K') :=
  optK_rel hn fun _ _ => chk_rel hn fun _ => tcsK_rel0 hn hK
theorem mem_cellsOf {p c : PV} (h : c ∈ cellsOf p) {i : Nat} (hi : i ∈ refsC c) : i ∈ refs1 p := by
  unfold cellsOf at h
  split at h
  · exact List.mem_flatMap.2 ⟨c, h, hi⟩
  · simp at h; subst h; exact refsC_refs1 hi
theorem mem_splice {cells new : List PV} {off : Nat} {c : PV} (h : c ∈ splice cells new off) : c ∈ cells ∨ c ∈ new := by
  unfold splice at h
  rcases List.mem_append.1 h with h | h
  · rcases List.mem_append.1 h with h | h
    · exact .inl (List.mem_of_mem_take h)
    · exact .inr h
  · exact .inl (List.mem_of_mem_drop h)
theorem fillK_relI (hn : Rel none none) {place : Nat → Option (Nat × Nat)} {S : Nat → Prop} : ∀ {ps : List (Nat × PV)} {cells : List PV} {K : List PV → Option R} {K' : List PV → Option R'}, (∀ c ∈ cells, ∀ i ∈ refsC c, S i) → (∀ q ∈ ps, ∀ i ∈ refs1 q.2, S i) →
    (∀ cs, (∀ c ∈ cs, ∀ i ∈ refsC c, S i) → Rel (K cs) (K' cs)) → Rel (fillK place ps cells K) (fillK place ps cells K')
  | [], _, _, _, h1, _, hK => hK _ h1
  | (_, p) :: _, _, _, _, h1, h2, hK => optK_rel hn fun _ _ => chk_rel hn fun _ => fillK_relI hn (fun c hc i hi => by
      rcases mem_splice hc with h | h
      · exact h1 c h i hi
      · exact h2 (_, p) List.mem_cons_self i (mem_cellsOf h hi)) (fun q hq => h2 q (List.mem_cons_of_mem _ hq)) hK

theorem frcsK_plain (hn : Rel none none) : ∀ {ts : List CT} {ps : List PV} {K : List PV → List Nat → Option R} {K' : List PV → List Nat → Option R'}, (∀ t ∈ ts, ∀ es, t ≠ .sl es) → (∀ c, Rel (K c []) (K' c [])) → Rel (frcsK g ts ps K) (frcsK g' ts ps K')
  | [], [], _, _, _, hK => hK _
  | [], _ :: _, _, _, _, _ => hn
  | _ :: _, [], _, _, _, _ => hn
  | t :: ts, p :: ps, K, K', ht, hK => by
    show Rel (frcK g t p _) (frcK g' t p _)
    have : ∀ {g : Nat → Option (List PV)} {S : Type} {L : PV → List Nat → Option S}, frcK g t p L = tcK t p fun c => L c [] := by
      intro g S L
      cases t with
      | sl es => exact absurd rfl (ht _ (by simp) es)
      | _ => rfl
    rw [this, this]
    exact tcK_rel hn fun c => frcsK_plain hn (fun t h => ht t (by simp [h])) fun cs => hK _

theorem srcR_rel (hn : Rel none none) {es : Nat} {t : TypeId} {x : PV} {K : Nat → List PV → Option R} {K' : Nat → List PV → Option R'} (hx : Agr Rel g g' (refsC x)) (hK : ∀ m c, Rel (K m c) (K' m c)) : Rel (srcR P g es t x K) (srcR P g' es t x K') := by
  unfold srcR; split
  · exact chk_rel hn fun _ => strK_rel hn fun _ => hK _ _
  · exact slcK_rel hn hx hK
  · exact hn
theorem capK_rel (hn : Rel none none) {t : TypeId} {x : PV} {K : Nat → Option R} {K' : Nat → Option R'} (hK : ∀ n, Rel (K n) (K' n)) : Rel (capK P t x K) (capK P t x K') := by
  unfold capK; split
  · exact lsK_rel hn fun _ _ _ => chk_rel hn fun _ => hK _
  · exact hn
theorem appNilK_rel (hn : Rel none none) {d : Nat} {t tx : TypeId} {x : PV} {K : PV → List (Nat × Box) → Option R} {K' : PV → List (Nat × Box) → Option R'} (hx : Agr Rel g g' (refsC x)) (hK : ∀ v nw, Rel (K v nw) (K' v nw)) : Rel (appNilK P g d t tx x K) (appNilK P g' d t tx x K') := by
  unfold appNilK; split
  · exact chk_rel hn fun _ => srcR_rel hn hx fun _ _ => chk_rel hn fun _ => hK _ _
  · exact hn

theorem effK_rel (hn : Rel none none) {C : Cfg} {call : Call'} {K : PV → List Nat → List (Nat × Box) → Option R} {K' : PV → List Nat → List (Nat × Box) → Option R'}
    (htm : ∀ x ∈ o.op.operands.toList, opv tm x = opv tm' x)
    (hfg : memo P o.op = true → ∀ x ∈ o.op.operands.toList, ∀ i ∈ refs (opv tm' x), (f i = f' i ∧ g i = g' i) ∨ (f i = none ∧ g i = none ∧ ∀ b, Rel none b))
    (hK : ∀ v fz nw, (memo P o.op = false → fz = [] ∧ ∀ q ∈ nw, o.dst = some q.1) → (∀ i ∈ fz, g i ≠ none) → Rel (K v fz nw) (K' v fz nw)) :
    Rel (effK C P N call tm f g o K) (effK C P N call tm' f' g' o K') := by
  have h0 : ∀ v, Rel (K v [] []) (K' v [] []) := fun v => hK v [] [] (fun _ => ⟨rfl, by simp⟩) (by simp)
  have hf : memo P o.op = true → ∀ x ∈ o.op.operands.toList, Agr Rel f f' (refs (opv tm' x)) := fun h x hx i hi => (hfg h x hx i hi).imp (·.1) fun h => ⟨h.1, h.2.2⟩
  have hg : memo P o.op = true → ∀ x ∈ o.op.operands.toList, Agr Rel g g' (refs (opv tm' x)) := fun h x hx i hi => (hfg h x hx i hi).imp (·.2) fun h => ⟨h.2.1, h.2.2⟩
  unfold effK
  generalize hop : o.op = op at *
  split
  · exact constK_rel hn (htm _ (by simp [Op.operands])) h0
  · exact constK_rel hn (htm _ (by simp [Op.operands])) h0
  · rename_i c x y
    rw [htm c (by simp [Op.operands]), htm x (by simp [Op.operands]), htm y (by simp [Op.operands])]
    exact boolK_rel hn fun _ => brK_rel (h0 _) (h0 _)
  · exact optK_rel hn fun d hd => zcellsK_rel hn fun _ => hK _ _ _ (fun _ => ⟨rfl, by simp [hd]⟩) (by simp)
  · rename_i t x
    rw [htm x (by simp [Op.operands])]
    refine optK_rel hn fun d hd => chk_rel hn fun _ => ?_
    cases isArrB P t
    · exact fcsK_rel hn fun _ => hK _ _ _ (fun _ => ⟨rfl, by simp [hd]⟩) (by simp)
    · exact tcsK_rel hn fun _ => hK _ _ _ (fun _ => ⟨rfl, by simp [hd]⟩) (by simp)
  · rename_i t ps
    have : (ps.toList.map fun q => (q.1, opv tm q.2)) = ps.toList.map fun q => (q.1, opv tm' q.2) := by
      apply List.map_congr_left
      intro q hq
      rw [htm q.2 (by simp only [Op.operands]; exact List.mem_map_of_mem hq)]
    rw [this]
    exact chk_rel hn fun _ => zcellsK_rel hn fun _ => fillK_rel hn fun _ => fcsK_rel hn fun _ => h0 _
  · rename_i t n ps
    have : (ps.toList.map fun q => (q.1, opv tm q.2)) = ps.toList.map fun q => (q.1, opv tm' q.2) := by
      apply List.map_congr_left
      intro q hq
      rw [htm q.2 (by simp only [Op.operands]; exact List.mem_map_of_mem hq)]
    rw [this]
    refine optK_rel hn fun d hd => ?_
    split
    · rename_i e hu
      cases hsl : hasSl P [e]
      · refine chk_rel hn fun _ => zcellsK_rel0 hn fun z hz => fillK_rel hn fun cs => frcsK_plain hn ?_ fun cs' => hK _ _ _ (fun _ => ⟨rfl, by simp [hd]⟩) (by simp)
        intro c hc es he
        obtain ⟨l, hl, hc⟩ := List.mem_flatten.1 hc
        rw [List.eq_of_mem_replicate hl] at hc
        subst he
        have : hasSl P [e] = true := by
          unfold hasSl
          simp only [List.any_cons, List.any_nil, Bool.or_false, Bool.or_eq_true]
          exact .inr (List.any_eq_true.2 ⟨_, hc, rfl⟩)
        rw [this] at hsl
        cases hsl
      refine chk_rel hn fun _ => zcellsK_rel0 hn fun z hz => fillK_relI (S := fun i => ∃ x ∈ (Op.buildSlice t n ps).operands.toList, i ∈ refs (opv tm' x)) hn ?_ ?_ fun cs hcs => ?_
      · intro c hc i hi
        obtain ⟨l, hl, hc⟩ := List.mem_flatten.1 hc
        rw [List.eq_of_mem_replicate hl] at hc
        rw [hz c hc] at hi
        simp at hi
      · intro q hq i hi
        obtain ⟨q', hq', rfl⟩ := List.mem_map.1 hq
        exact ⟨q'.2, by simp only [Op.operands]; exact List.mem_map_of_mem hq', refs1_refs hi⟩
      · refine frcsK_rel hn (fun i hi => ?_) fun cs' m hm => hK _ _ _ (fun h => by simp [memo, hu, hsl] at h) hm
        obtain ⟨c, hc, hi⟩ := List.mem_flatMap.1 hi
        obtain ⟨x, hx, hxi⟩ := hcs c hc i hi
        exact hg (by simp [memo, hu, hsl]) x hx i hxi
    · exact hn
  · rename_i t x
    rw [htm x (by simp [Op.operands])]
    exact loadK_rel hn (fun i hi => hfg (by simp [memo]) x (by simp [Op.operands]) i (refsC_refs hi)) h0
  · rename_i x
    rw [htm x (by simp [Op.operands])]
    exact addrK_rel hn h0
  · rename_i op' t x y _
    rw [htm x (by simp [Op.operands]), htm y (by simp [Op.operands])]
    exact binAnyK_rel hn h0
  · rename_i op' t x
    rw [htm x (by simp [Op.operands])]
    exact unK_rel hn h0
  · rename_i src dst x
    rw [htm x (by simp [Op.operands])]
    exact convK_rel hn (fun hds i hi => hg (by simp [memo, hds]) x (by simp [Op.operands]) i (refsC_refs hi)) fun v b hb => optK_rel hn fun d hd => hK _ _ _ (fun _ => ⟨rfl, fun q hq => by rw [hd, hb q hq, hd]; rfl⟩) (by simp)
  · rename_i t x y
    rw [htm x (by simp [Op.operands]), htm y (by simp [Op.operands])]
    refine optK_rel hn fun d hd => ?_
    split
    · exact anyIntK_rel hn fun _ _ => anyIntK_rel hn fun _ _ => chk_rel hn fun _ => zcellsK_rel hn fun _ => hK _ _ _ (fun _ => ⟨rfl, by simp [hd]⟩) (by simp)
    · exact hn
  · rename_i t x lo hi mx
    split
    · rw [htm x (by simp [Op.operands])]
      have h1 : lo.map (opv tm) = lo.map (opv tm') := by
        cases lo with
        | none => rfl
        | some y => simp only [Option.map_some]; rw [htm y (by simp [Op.operands])]
      have h2 : hi.map (opv tm) = hi.map (opv tm') := by
        cases hi with
        | none => rfl
        | some y => simp only [Option.map_some]; rw [htm y (by simp [Op.operands])]
      rw [h1, h2]
      exact sliceK_rel hn (fun ⟨n, e, he⟩ i hi => hf (by simp [memo, he]) x (by simp [Op.operands]) i (refsC_refs hi)) h0
    · exact hn
  · rename_i t x fl
    rw [htm x (by simp [Op.operands])]
    exact optK_rel hn fun _ _ => chk_rel hn fun _ => addrK_rel hn h0
  · rename_i t x fl
    rw [htm x (by simp [Op.operands])]
    exact optK_rel hn fun _ _ => chk_rel hn fun _ => aggK_rel hn fun _ _ => fcsK_rel hn fun _ => mkV_rel hn h0
  · rename_i t x i
    rw [htm x (by simp [Op.operands]), htm i (by simp [Op.operands])]
    exact anyIntK_rel hn fun _ _ => indexAddrK_rel hn h0
  · rename_i t x i
    rw [htm x (by simp [Op.operands]), htm i (by simp [Op.operands])]
    refine anyIntK_rel hn fun _ _ => ?_
    split
    · exact strK_rel hn fun _ => chk_rel hn fun _ => optK_rel hn fun _ _ => h0 _
    · exact aggK_rel hn fun _ _ => chk_rel hn fun _ => fcsK_rel hn fun _ => mkV_rel hn h0
    · exact hn
  · rename_i x i
    rw [htm x (by simp [Op.operands])]
    split
    · exact optK_rel hn fun _ _ => h0 _
    · exact hn
  · rename_i c
    have hmem : ∀ x ∈ c.args.toList, x ∈ (Op.call c).operands.toList := by
      intro x hx
      simp only [Op.operands, Call.operands, Array.toList_append, List.mem_append]
      exact .inr hx
    have rc : ∀ fn, memo P (.call c) = true → Rel (rcallK C P N call tm g o c fn K) (rcallK C P N call tm' g' o c fn K') := by
      intro fn hmm
      unfold rcallK
      have : c.args.toList.map (opv tm) = c.args.toList.map (opv tm') := List.map_congr_left fun x hx => htm x (hmem x hx)
      rw [this]
      refine frvsK_rel hn (fun i hi => ?_) fun vs m hm => callK_rel hn fun rv ro => nilK_rel hn (chk_rel hn fun _ => unvsK_rel hn fun ws bs hbs => chk_rel hn fun _ => hK _ _ _ (fun h => by rw [hmm] at h; cases h) (fun i hi => ?_))
      · obtain ⟨p, hp, hi⟩ := List.mem_flatMap.1 hi
        obtain ⟨x, hx, rfl⟩ := List.mem_map.1 hp
        exact hg hmm x (hmem x hx) i (refs1_refs hi)
      · have hi' : i ∈ m := by
          cases hq : hasSl P (resTys P o.type) <;> rw [hq] at hi
          · simp at hi
          · exact hi
        exact hm i hi'
    split
    · refine consK_rel hn fun x _ hx => consK_rel hn fun _ _ _ => ?_
      rw [htm x (hmem x (by rw [hx]; simp))]
      exact lenK_rel hn fun _ => h0 _
    · refine consK_rel hn fun x _ hx => consK_rel hn fun _ _ _ => ?_
      rw [htm x (hmem x (by rw [hx]; simp))]
      exact capK_rel hn fun _ => h0 _
    · refine consK_rel hn fun x _ hx => consK_rel hn fun y _ hy => nilK_rel hn ?_
      subst hy
      rw [htm x (hmem x (by rw [hx]; simp)), htm y (hmem y (by rw [hx]; simp))]
      exact minK_rel hn h0
    · refine consK_rel hn fun x _ hx => consK_rel hn fun y _ hy => nilK_rel hn ?_
      subst hy
      rw [htm x (hmem x (by rw [hx]; simp)), htm y (hmem y (by rw [hx]; simp))]
      exact maxK_rel hn h0
    · rename_i hc
      have hmm : memo P (.call c) = true := by simp [memo, hc]
      refine chk_rel hn fun _ => optK_rel hn fun d hd => consK_rel hn fun _ _ hb => consK_rel hn fun x _ hx => nilK_rel hn (consK_rel hn fun _ _ _ => consK_rel hn fun _ _ _ => ?_)
      have hxm : x ∈ c.args.toList := by rw [hb, hx]; simp
      rw [htm x (hmem x hxm)]
      exact appNilK_rel hn (fun i hi => hg hmm x (hmem x hxm) i (refsC_refs hi)) fun v nw => hK _ _ _ (fun h => by rw [hmm] at h; cases h) (by simp)
    · rename_i fn hc
      have hmm : memo P (.call c) = true := by simp [memo, hc]
      exact rc fn hmm
    · rename_i t hc
      have hmm : memo P (.call c) = true := by simp [memo, hc]
      have ht := htm (.tmp t) (by simp [Op.operands, Call.operands, hc])
      change tm t = tm' t at ht
      rw [ht]
      exact fvK_rel hn fun fn => rc fn hmm
    · exact hn
  · exact hn

/- The operations of class M. -/
variable {hp : Nat → Option Box}

theorem upd_keeps {hp : Nat → Option Box} {id : Nat} {b : Box} {hp1 : Nat → Option Box} (h : ∀ i, hp i ≠ none → hp1 i ≠ none) : ∀ i, hp i ≠ none → upd hp1 id (some b) i ≠ none := by
  intro i hi
  by_cases e : i = id
  · subst e; rw [upd_same]; simp
  · rw [upd_other _ _ e]; exact h i hi

end

end Go.Proofs.Ytaphhfehcbkfkaa.Pv

namespace Go.Proofs.Ytaphhfehcbkfkaa.Pv
open Go.RowKit

abbrev Eff3 := PV × List Nat × List (Nat × Box)

/-- What a guard says: run, pass by, or unknown. -/
def verdict (ops : Array Oper) (o : Oper) (tm : Nat → PV) : Option Bool :=
  match o.guard with
  | none => some true
  | some (j, want) =>
    match (ops[j]?).bind (·.dst) with
    | none => none
    | some d =>
      match tm d with
      | .sc (.bool b) => some (b == want)
      | .sc (.tuple _) => some false
      | _ => none

section
variable {R : Type} {r : R} {C : Cfg} {P : Program} {N : Nat} {call : Call'} {ops : Array Oper} {o x : Oper} {s : St} {K : St → Option R}

theorem gopK_eq : gopK C P N call ops o s K = match verdict ops o s.tm with
    | none => none
    | some true => popK C P N call o s K
    | some false => chk (dstOk N o.dst) (K ⟨putTm s.tm o.dst (.sc undef), s.hp⟩) := by
  unfold gopK verdict
  cases o.guard with
  | none => rfl
  | some q =>
    obtain ⟨j, want⟩ := q
    cases hd : (ops[j]?).bind (·.dst) with
    | none => simp [hd]
    | some d =>
      simp only [hd]
      cases ht : s.tm d with
      | sc v =>
        cases v with
        | bool b =>
          cases b <;> cases want <;> simp only [brK, cond_true, cond_false, upd_self s.tm ht] <;> rfl
        | _ => rfl
      | _ => rfl

def effE (C : Cfg) (P : Program) (N : Nat) (call : Call') (o : Oper) (s : St) : Option Eff3 :=
  effK C P N call s.tm (rd s.hp) (rda s.hp) o fun v fz nw => some (v, fz, nw)

theorem effK_eq {K : PV → List Nat → List (Nat × Box) → Option R} : effK C P N call s.tm (rd s.hp) (rda s.hp) o K = (effE C P N call o s).bind fun q => K q.1 q.2.1 q.2.2 := by
  refine effK_rel (Rel := fun (a : Option R) (b : Option Eff3) => a = b.bind fun q => K q.1 q.2.1 q.2.2) (K := K) (K' := fun v fz nw => some (v, fz, nw)) rfl (fun _ _ => rfl) (fun _ _ _ _ _ => .inl ⟨rfl, rfl⟩) fun v fz nw _ _ => rfl

theorem effE_facts {q : Eff3} (h : effE C P N call o s = some q) : (memo P o.op = false → q.2.1 = [] ∧ ∀ p ∈ q.2.2, o.dst = some p.1) ∧ ∀ i ∈ q.2.1, rda s.hp i ≠ none := by
  have := effK_rel (C := C) (P := P) (N := N) (call := call) (o := o) (tm := s.tm) (tm' := s.tm) (f := rd s.hp) (f' := rd s.hp) (g := rda s.hp) (g' := rda s.hp)
    (Rel := fun (a : Option Eff3) (_ : Option Eff3) => ∀ q, a = some q → (memo P o.op = false → q.2.1 = [] ∧ ∀ p ∈ q.2.2, o.dst = some p.1) ∧ ∀ i ∈ q.2.1, rda s.hp i ≠ none)
    (K := fun v fz nw => some (v, fz, nw)) (K' := fun v fz nw => some (v, fz, nw)) (fun _ h => by cases h) (fun _ _ => rfl) (fun _ _ _ _ _ => .inl ⟨rfl, rfl⟩) (fun v fz nw h1 h2 q hq => by cases hq; exact ⟨h1, h2⟩)
  exact this q h

/-- What an operation gives, under its guard. -/
def gE (C : Cfg) (P : Program) (N : Nat) (call : Call') (ops : Array Oper) (o : Oper) (s : St) : Option Eff3 :=
  match verdict ops o s.tm with
  | none => none
  | some true => bif isM C P o.op then none else effE C P N call o s
  | some false => some (.sc undef, [], [])

/-- Is it a change of memory that is carried out? -/
def actM (C : Cfg) (P : Program) (ops : Array Oper) (o : Oper) (tm : Nat → PV) : Bool := isM C P o.op && (verdict ops o tm == some true)

theorem gopK_R (h : actM C P ops o s.tm = false) : gopK C P N call ops o s K = (gE C P N call ops o s).bind fun q => applyK N s o.dst q.1 q.2.1 q.2.2 K := by
  rw [gopK_eq]
  unfold gE
  unfold actM at h
  cases hv : verdict ops o s.tm with
  | none => rfl
  | some b =>
    rw [hv] at h
    cases b with
    | false =>
      show chk _ _ = applyK N s o.dst (.sc undef) [] [] K
      unfold applyK
      have h1 : absent s.hp [] = true := rfl
      have h2 : addBoxes (freezeIds s.hp []) [] = s.hp := rfl
      rw [h1, h2, Bool.and_true]
    | true =>
      have hm : isM C P o.op = false := by simpa using h
      simp only [popK, hm, cond_false]
      exact effK_eq

theorem gopK_M (h : actM C P ops o s.tm = true) : gopK C P N call ops o s K = mutK C P N call s o K := by
  rw [gopK_eq]
  unfold actM at h
  simp only [Bool.and_eq_true, beq_iff_eq] at h
  rw [h.2]
  simp only [popK, h.1, cond_true]

theorem gE_facts {q : Eff3} (h : gE C P N call ops o s = some q) : (memo P o.op = false → q.2.1 = [] ∧ ∀ p ∈ q.2.2, o.dst = some p.1) ∧ ∀ i ∈ q.2.1, rda s.hp i ≠ none := by
  unfold gE at h
  split at h
  · cases h
  · cases hm : isM C P o.op <;> rw [hm] at h
    · exact effE_facts h
    · cases h
  · cases h
    exact ⟨fun _ => ⟨rfl, by simp⟩, by simp⟩

theorem opv_looks {tm tm' : Nat → PV} (h : ∀ t ∈ looks ops o, tm t = tm' t) : ∀ y ∈ o.op.operands.toList, opv tm y = opv tm' y := by
  intro y hy
  cases y with
  | tmp t =>
    refine h t ?_
    unfold looks opTmps
    refine List.mem_append.2 (.inl (List.mem_filterMap.2 ⟨.tmp t, hy, rfl⟩))
  | const v => cases v <;> rfl
  | func f => rfl
  | «global» g => rfl

theorem verdict_looks {tm tm' : Nat → PV} (h : ∀ t ∈ looks ops o, tm t = tm' t) : verdict ops o tm = verdict ops o tm' := by
  unfold verdict
  cases hg : o.guard with
  | none => rfl
  | some q =>
    obtain ⟨j, want⟩ := q
    cases hd : (ops[j]?).bind (·.dst) with
    | none => simp [hd]
    | some d =>
      have : tm d = tm' d := h d (by
        unfold looks
        rw [hg]
        refine List.mem_append.2 (.inr ?_)
        simp only [hd]
        simp)
      simp only [hd, this]

/-- An operation gives the same in a memory that has more. -/
theorem gE_more {s' : St} {q : Eff3} (ht : ∀ t ∈ looks ops o, s.tm t = s'.tm t)
    (hm : memo P o.op = true → ∀ y ∈ o.op.operands.toList, ∀ i ∈ refs (opv s'.tm y), (rd s.hp i = rd s'.hp i ∧ rda s.hp i = rda s'.hp i) ∨ (rd s.hp i = none ∧ rda s.hp i = none))
    (h : gE C P N call ops o s = some q) : gE C P N call ops o s' = some q := by
  unfold gE at h ⊢
  rw [← verdict_looks ht]
  split at h
  · cases h
  · cases hM : isM C P o.op <;> rw [hM] at h
    · have := effK_rel (C := C) (P := P) (N := N) (call := call) (o := o) (tm := s.tm) (tm' := s'.tm) (f := rd s.hp) (f' := rd s'.hp) (g := rda s.hp) (g' := rda s'.hp)
        (Rel := fun (a b : Option Eff3) => a = some q → b = some q)
        (K := fun v fz nw => some (v, fz, nw)) (K' := fun v fz nw => some (v, fz, nw)) (fun h => h) (opv_looks ht)
        (fun hm' y hy i hi => (hm hm' y hy i hi).imp id fun h => ⟨h.1, h.2, fun _ h => by cases h⟩) (fun v fz nw _ _ h => h)
      exact this h
    · cases h
  · exact h
end

end Go.Proofs.Ytaphhfehcbkfkaa.Pv

namespace Go.Proofs.Ytaphhfehcbkfkaa.Pv
open Go.RowKit

theorem absent_of : ∀ {nw : List (Nat × Box)} {hp hp' : Nat → Option Box}, absent hp nw = true → (∀ i b, (i, b) ∈ nw → hp' i = none) → absent hp' nw = true
  | [], _, _, _, _ => rfl
  | (i, b) :: nw, hp, hp', h, h' => by
    simp only [absent, Bool.and_eq_true, Option.isNone_iff_eq_none] at h ⊢
    exact ⟨⟨h' i b (by simp), h.1.2⟩, absent_of h.2 fun j c hj => h' j c (by simp [hj])⟩

section
variable {hp : Nat → Option Box} {fz : List Nat} {nw : List (Nat × Box)}

theorem after_old (ha : absent hp nw = true) {i : Nat} (hi : hp i ≠ none) : addBoxes (freezeIds hp fz) nw i = if i ∈ fz then (hp i).map markF else hp i := by
  obtain ⟨h1, h2⟩ := absent_spec ha
  rw [(addBoxes_get h2).2 i (fun bx hb => hi (h1 i bx hb)), freeze_get]
theorem after_new (ha : absent hp nw = true) {i : Nat} {b : Box} (hi : (i, b) ∈ nw) : addBoxes (freezeIds hp fz) nw i = some b :=
  (addBoxes_get (absent_spec ha).2).1 i b hi
theorem after_none (ha : absent hp nw = true) {i : Nat} (hi : hp i = none) (hn : ∀ b, (i, b) ∉ nw) : addBoxes (freezeIds hp fz) nw i = none := by
  rw [(addBoxes_get (absent_spec ha).2).2 i hn, freeze_get, hi]
  simp
theorem after_some (ha : absent hp nw = true) {i : Nat} (hi : hp i ≠ none) : addBoxes (freezeIds hp fz) nw i ≠ none := by
  rw [after_old ha hi]
  cases h : hp i with
  | none => exact absurd h hi
  | some b => split <;> simp

theorem rd_mark (b : Option Box) : (match b.map markF with | some (.st c) => some c | some (.ar _ c) => some c | _ => none) = (match b with | some (.st c) => some c | some (.ar _ c) => some c | _ => none) := by
  cases b with
  | none => rfl
  | some b => cases b <;> rfl
theorem rda_mark (b : Option Box) : (match b.map markF with | some (.ar _ c) => some c | _ => none) = (match b with | some (.ar _ c) => some c | _ => none) := by
  cases b with
  | none => rfl
  | some b => cases b <;> rfl

theorem rd_after (ha : absent hp nw = true) {i : Nat} (hi : hp i ≠ none) : rd (addBoxes (freezeIds hp fz) nw) i = rd hp i := by
  unfold rd
  rw [after_old ha hi]
  by_cases h : i ∈ fz
  · rw [if_pos h]; exact rd_mark _
  · rw [if_neg h]
theorem rda_after (ha : absent hp nw = true) {i : Nat} (hi : hp i ≠ none) : rda (addBoxes (freezeIds hp fz) nw) i = rda hp i := by
  unfold rda
  rw [after_old ha hi]
  by_cases h : i ∈ fz
  · rw [if_pos h]; exact rda_mark _
  · rw [if_neg h]
theorem rd_none {i : Nat} (hi : hp i = none) : rd hp i = none := by unfold rd; rw [hi]
theorem rda_none {i : Nat} (hi : hp i = none) : rda hp i = none := by unfold rda; rw [hi]

theorem mark2 (b : Option Box) : (b.map markF).map markF = b.map markF := by
  cases b with
  | none => rfl
  | some b => cases b <;> rfl

/-- The order of two steps of class R does not matter. -/
theorem after_comm {fx fo : List Nat} {nx no : List (Nat × Box)} (hx : absent hp nx = true) (ho : absent (addBoxes (freezeIds hp fx) nx) no = true) (ho' : absent hp no = true)
    (hx' : absent (addBoxes (freezeIds hp fo) no) nx = true) (h1 : ∀ i ∈ fx, hp i ≠ none) (h2 : ∀ i ∈ fo, hp i ≠ none) :
    addBoxes (freezeIds (addBoxes (freezeIds hp fx) nx) fo) no = addBoxes (freezeIds (addBoxes (freezeIds hp fo) no) fx) nx := by
  funext i
  by_cases hi : hp i = none
  · by_cases hno : ∃ b, (i, b) ∈ no
    · obtain ⟨b, hb⟩ := hno
      have hnx : ∀ b', (i, b') ∉ nx := fun b' hb' => by
        have := (absent_spec ho).1 i b hb
        rw [after_new hx hb'] at this
        cases this
      rw [after_new ho hb, after_old hx' (by rw [after_new ho' hb]; simp), after_new ho' hb, if_neg (fun h => h1 i h hi)]
    · have hno : ∀ b, (i, b) ∉ no := fun b hb => hno ⟨b, hb⟩
      by_cases hnx : ∃ b, (i, b) ∈ nx
      · obtain ⟨b, hb⟩ := hnx
        rw [after_new hx' hb, after_old ho (by rw [after_new hx hb]; simp), after_new hx hb, if_neg (fun h => h2 i h hi)]
      · have hnx : ∀ b, (i, b) ∉ nx := fun b hb => hnx ⟨b, hb⟩
        rw [after_none ho (after_none hx hi hnx) hno, after_none hx' (after_none ho' hi hno) hnx]
  · rw [after_old ho (after_some hx hi), after_old hx hi, after_old hx' (after_some ho' hi), after_old ho' hi]
    split <;> split <;> first | rfl | rw [mark2]
end

section
variable {R : Type} {r : R} {C : Cfg} {P : Program} {N : Nat} {call : Call'} {ops : Array Oper} {o x : Oper} {s : St} {K : St → Option R}

/-- Two operations that do not touch one another. -/
structure Apart (C : Cfg) (P : Program) (ops : Array Oper) (x o : Oper) : Prop where
  xo : ∀ d, x.dst = some d → d ∉ looks ops o
  ne : ∀ d, x.dst = some d → o.dst ≠ some d
  ox : ∀ d, o.dst = some d → d ∉ looks ops x
  mx : isM C P x.op = true → memo P o.op = false
  mo : isM C P o.op = true → memo P x.op = false

theorem any_beq {l : List Nat} {d : Nat} (h : l.any (Nat.beq d) = false) : d ∉ l := by
  intro hm
  have : l.any (Nat.beq d) = true := List.any_eq_true.2 ⟨d, hm, Nat.beq_refl d⟩
  rw [this] at h
  cases h

theorem apart_of (h : clash C P ops x o = false) : Apart C P ops x o := by
  unfold clash at h
  simp only [Bool.or_eq_false_iff, Bool.and_eq_false_iff] at h
  obtain ⟨⟨⟨h1, h2⟩, h3⟩, h4⟩ := h
  refine ⟨fun d hd => ?_, fun d hd he => ?_, fun d hd => ?_, fun hm => ?_, fun hm => ?_⟩
  · simp only [hd, Bool.or_eq_false_iff] at h1
    exact any_beq h1.1
  · simp only [hd, he, Bool.or_eq_false_iff] at h1
    rw [Nat.beq_refl] at h1
    cases h1.2
  · simp only [hd] at h2
    exact any_beq h2
  · rw [hm] at h3
    rcases h3 with h | h
    · cases h
    · exact h
  · rw [hm] at h4
    rcases h4 with h | h
    · cases h
    · exact h

theorem putTm_look {tm : Nat → PV} {d : Option Tmp} {v : PV} {l : List Nat} (h : ∀ i, d = some i → i ∉ l) : ∀ t ∈ l, putTm tm d v t = tm t := by
  intro t ht
  cases d with
  | none => rfl
  | some d => exact upd_other _ _ (by rintro rfl; exact h _ rfl ht)

theorem putTm_comm {tm : Nat → PV} {d e : Option Tmp} {u v : PV} (h : ∀ i, d = some i → e ≠ some i) : putTm (putTm tm d u) e v = putTm (putTm tm e v) d u := by
  cases d with
  | none => rfl
  | some d =>
    cases e with
    | none => rfl
    | some e => exact upd_comm _ _ _ (by rintro rfl; exact h _ rfl rfl)

/-- What an operation looks at is there. -/
def Has (C : Cfg) (P : Program) (o : Oper) (s : St) : Prop := (∀ y ∈ o.op.operands.toList, ∀ i ∈ refs (opv s.tm y), s.hp i ≠ none) ∧
  (isM C P o.op = true → ∀ y ∈ o.op.operands.toList, ∀ i ∈ refs (opv s.tm y), ∀ c, s.hp i = some (.st c) → ∀ p ∈ c, ∀ k ∈ refsC p, s.hp k ≠ none)

theorem actM_looks {tm tm' : Nat → PV} (h : ∀ t ∈ looks ops o, tm t = tm' t) : actM C P ops o tm = actM C P ops o tm' := by
  unfold actM
  rw [verdict_looks h]

theorem swap_RR (hw : Has C P o s) (ap : Apart C P ops x o) (hx : actM C P ops x s.tm = false) (ho : actM C P ops o s.tm = false)
    (h : gopK C P N call ops x s (fun s1 => gopK C P N call ops o s1 K) = some r) : gopK C P N call ops o s (fun s1 => gopK C P N call ops x s1 K) = some r := by
  rw [gopK_R hx] at h
  cases ex : gE C P N call ops x s with
  | none => rw [ex] at h; cases h
  | some q =>
  obtain ⟨vx, fx, nx⟩ := q
  rw [ex] at h
  obtain ⟨hb, h1⟩ := chk_inv h
  simp only [Bool.and_eq_true] at hb
  have t1 : ∀ t ∈ looks ops o, putTm s.tm x.dst vx t = s.tm t := putTm_look ap.xo
  change gopK C P N call ops o ⟨putTm s.tm x.dst vx, addBoxes (freezeIds s.hp fx) nx⟩ K = some r at h1
  rw [gopK_R (by rw [actM_looks t1]; exact ho)] at h1
  cases eo : gE C P N call ops o ⟨putTm s.tm x.dst vx, addBoxes (freezeIds s.hp fx) nx⟩ with
  | none => rw [eo] at h1; cases h1
  | some q =>
  obtain ⟨vo, fo, no⟩ := q
  rw [eo] at h1
  obtain ⟨hc, h2⟩ := chk_inv h1
  change K ⟨putTm (putTm s.tm x.dst vx) o.dst vo, addBoxes (freezeIds (addBoxes (freezeIds s.hp fx) nx) fo) no⟩ = some r at h2
  simp only [Bool.and_eq_true] at hc
  have eo' : gE C P N call ops o s = some (vo, fo, no) := by
    refine gE_more t1 (fun _ y hy i hi => ?_) eo
    have := hw.1 y hy i hi
    exact .inl ⟨rd_after hb.2 this, rda_after hb.2 this⟩
  have ho' : absent s.hp no = true := absent_of hc.2 fun i b hi => by
    cases hs : s.hp i with
    | none => rfl
    | some c => exact absurd ((absent_spec hc.2).1 i b hi) (after_some hb.2 (by rw [hs]; simp))
  rw [gopK_R ho, eo']
  have hx' : absent (addBoxes (freezeIds s.hp fo) no) nx = true := absent_of hb.2 fun i b hi => by
    refine after_none ho' ((absent_spec hb.2).1 i b hi) fun c hc' => ?_
    have := (absent_spec hc.2).1 i c hc'
    rw [after_new hb.2 hi] at this
    cases this
  have t2 : ∀ t ∈ looks ops x, s.tm t = putTm s.tm o.dst vo t := fun t ht => (putTm_look ap.ox t ht).symm
  have ex' : gE C P N call ops x ⟨putTm s.tm o.dst vo, addBoxes (freezeIds s.hp fo) no⟩ = some (vx, fx, nx) := by
    refine gE_more t2 (fun _ y hy i hi => ?_) ex
    by_cases hs : s.hp i = none
    · exact .inr ⟨rd_none hs, rda_none hs⟩
    · exact .inl ⟨(rd_after ho' hs).symm, (rda_after ho' hs).symm⟩
  show chk _ _ = _
  rw [hc.1, ho']
  show gopK C P N call ops x ⟨putTm s.tm o.dst vo, addBoxes (freezeIds s.hp fo) no⟩ K = some r
  rw [gopK_R (by rw [← actM_looks t2]; exact hx), ex']
  show chk _ _ = _
  rw [hb.1, hx']
  rw [← h2]
  have hfx : ∀ i ∈ fx, s.hp i ≠ none := fun i hi hs => (gE_facts ex).2 i hi (rda_none hs)
  have hfo : ∀ i ∈ fo, s.hp i ≠ none := fun i hi hs => (gE_facts eo').2 i hi (rda_none hs)
  show K ⟨putTm (putTm s.tm o.dst vo) x.dst vx, addBoxes (freezeIds (addBoxes (freezeIds s.hp fo) no) fx) nx⟩ = K _
  rw [putTm_comm ap.ne, after_comm hb.2 hc.2 ho' hx' hfx hfo]
end

end Go.Proofs.Ytaphhfehcbkfkaa.Pv

namespace Go.Proofs.Ytaphhfehcbkfkaa.Pv
open Go.RowKit

theorem isM_memo {C : Cfg} {P : Program} {o : Op} (h : isM C P o = true) : memo P o = true := by
  unfold isM at h
  split at h
  · rfl
  · rename_i c
    unfold memo
    simp only
    split at h <;> rename_i hc
    · rw [hc]
    · rw [hc]
    · cases h
    · rw [hc]
    · cases h
  · cases h

/-- What a change of memory leaves, seen in two memories at once. -/
structure Tch (N : Nat) (S : Nat → Prop) (dst : Option Nat) (hp hp1 hp' hp1' : Nat → Option Box) : Prop where
  keep : ∀ i, hp i ≠ none → hp' i ≠ none
  off : ∀ i, i < N → dst ≠ some i → (¬ S i ∨ hp i = none) → hp' i = hp i ∧ hp1' i = hp1 i
  same : ∀ i, hp i = hp1 i → hp' i = hp1' i

section
variable {R R' : Type} {Rel : Option R → Option R' → Prop} {P : Program} {N : Nat} {tm tm' : Nat → PV} {hp hp1 : Nat → Option Box} {f f' : Nat → Option (List PV)} {o : Oper}

theorem frcK_relS (hn : Rel none none) {t : CT} {p : PV} {K : PV → List Nat → Option R} {K' : PV → List Nat → Option R'} (hf : Agr Rel f f' (refsC p)) (hK : ∀ c m, (∀ i ∈ m, f i ≠ none ∧ i ∈ refsC p) → Rel (K c m) (K' c m)) : Rel (frcK f t p K) (frcK f' t p K') := by
  unfold frcK; split
  · split
    · rename_i id es' off n
      cases Nat.beq es' _
      · exact hn
      · exact optf_rel hn hf (by simp [refsC]) fun c hc => chk_rel hn fun _ => hK _ _ (by simp [hc, refsC])
    · exact lsK_rel hn fun _ _ _ => hK _ _ (by simp)
  · exact tcK_rel hn fun _ => hK _ _ (by simp)
theorem frcsK_relS (hn : Rel none none) : ∀ {ts : List CT} {ps : List PV} {K : List PV → List Nat → Option R} {K' : List PV → List Nat → Option R'}, Agr Rel f f' (ps.flatMap refsC) → (∀ c m, (∀ i ∈ m, f i ≠ none ∧ i ∈ ps.flatMap refsC) → Rel (K c m) (K' c m)) → Rel (frcsK f ts ps K) (frcsK f' ts ps K')
  | [], [], _, _, _, hK => hK _ _ (by simp)
  | [], _ :: _, _, _, _, _ => hn
  | _ :: _, [], _, _, _, _ => hn
  | _ :: _, p :: ps, _, _, hf, hK => frcK_relS hn (fun i hi => hf i (by simp only [List.flatMap_cons, List.mem_append]; exact .inl hi)) fun _ m hm => frcsK_relS hn (fun i hi => hf i (by simp only [List.flatMap_cons, List.mem_append]; exact .inr hi)) fun _ ms hms => hK _ _ fun i hi => by
      simp only [List.flatMap_cons, List.mem_append]
      rcases List.mem_append.1 hi with h | h
      · exact ⟨(hm i h).1, .inl (hm i h).2⟩
      · exact ⟨(hms i h).1, .inr (hms i h).2⟩

theorem upd_two {S : Nat → Prop} {dst : Option Nat} {id : Nat} {b : Box} {h0 h1 : Nat → Option Box} (hS : S id) (hid : hp id ≠ none) (h : Tch N S dst hp hp1 h0 h1) : Tch N S dst hp hp1 (upd h0 id (some b)) (upd h1 id (some b)) := by
  refine ⟨fun i hi => ?_, fun i hN hd hi => ?_, fun i hi => ?_⟩
  · by_cases e : i = id
    · subst e; rw [upd_same]; simp
    · rw [upd_other _ _ e]; exact h.keep i hi
  · have e : i ≠ id := by
      rintro rfl
      rcases hi with hi | hi
      · exact hi hS
      · exact hid hi
    rw [upd_other _ _ e, upd_other _ _ e]
    exact h.off i hN hd hi
  · by_cases e : i = id
    · subst e; rw [upd_same, upd_same]
    · rw [upd_other _ _ e, upd_other _ _ e]; exact h.same i hi
theorem upd_dst {S : Nat → Prop} {d : Nat} {b : Box} {h0 h1 : Nat → Option Box} (h : Tch N S (some d) hp hp1 h0 h1) : Tch N S (some d) hp hp1 (upd h0 d (some b)) (upd h1 d (some b)) := by
  refine ⟨fun i hi => ?_, fun i hN hd hi => ?_, fun i hi => ?_⟩
  · by_cases e : i = d
    · subst e; rw [upd_same]; simp
    · rw [upd_other _ _ e]; exact h.keep i hi
  · have e : i ≠ d := by rintro rfl; exact hd rfl
    rw [upd_other _ _ e, upd_other _ _ e]
    exact h.off i hN hd hi
  · by_cases e : i = d
    · subst e; rw [upd_same, upd_same]
    · rw [upd_other _ _ e, upd_other _ _ e]; exact h.same i hi
theorem tch_refl (S : Nat → Prop) (dst : Option Nat) : Tch N S dst hp hp1 hp hp1 := ⟨fun _ h => h, fun _ _ _ _ => ⟨rfl, rfl⟩, fun _ h => h⟩
theorem tch_freeze {S : Nat → Prop} {dst : Option Nat} {m : List Nat} (hm : ∀ i ∈ m, hp i ≠ none ∧ S i) : Tch N S dst hp hp1 (freezeIds hp m) (freezeIds hp1 m) := by
  refine ⟨fun i hi => fun h => hi (freeze_none.1 h), fun i hN hd hi => ?_, fun i hi => ?_⟩
  · have e : i ∉ m := by
      intro h
      rcases hi with hi | hi
      · exact hi (hm i h).2
      · exact (hm i h).1 hi
    rw [freeze_get, freeze_get, if_neg e, if_neg e]
    exact ⟨rfl, rfl⟩
  · rw [freeze_get, freeze_get, hi]

theorem rda_agr {S : Nat → Prop} (h : ∀ i, S i → hp i = hp1 i ∨ (hp i = none ∧ ∀ b, Rel none b)) {l : List Nat} (hl : ∀ i ∈ l, S i) : Agr Rel (rda hp) (rda hp1) l := by
  intro i hi
  rcases h i (hl i hi) with h | ⟨h, h'⟩
  · left; unfold rda; rw [h]
  · exact .inr ⟨rda_none h, h'⟩

theorem storeK_relH (hn : Rel none none) {t : TypeId} {a x : PV} {K : St → Option R} {K' : St → Option R'} {S : Nat → Prop} (hS : ∀ i, S i → hp i = hp1 i ∨ (hp i = none ∧ ∀ b, Rel none b)) (ha : ∀ i ∈ refsC a, S i) (hx : ∀ i ∈ refs1 x, S i)
    (hK : ∀ hp' hp1', Tch N S none hp hp1 hp' hp1' → Rel (K ⟨tm, hp'⟩) (K' ⟨tm', hp1'⟩)) : Rel (storeK P ⟨tm, hp⟩ t a x K) (storeK P ⟨tm', hp1⟩ t a x K') := by
  unfold storeK; split
  · rename_i id off
    show Rel (match hp id with | some (.st c) => _ | some (.ar false c) => _ | _ => none) (match hp1 id with | some (.st c) => _ | some (.ar false c) => _ | _ => none)
    have hid : S id := ha id (by simp [refsC])
    rcases hS id hid with h | ⟨h, hb⟩
    · rw [← h]
      split
      · rename_i c hc
        exact chk_rel hn fun _ => fcsK_rel hn fun _ => hK _ _ (upd_two hid (by rw [hc]; simp) (tch_refl _ _))
      · rename_i c hc
        refine chk_rel hn fun _ => frcsK_relS hn (rda_agr hS fun i hi => hx i ?_) fun _ m hm => chk_rel hn fun _ => hK _ _ (upd_two hid (by rw [hc]; simp) (tch_freeze fun i hi => ⟨fun h => (hm i hi).1 (rda_none h), hx i ?_⟩))
        · obtain ⟨c, hc, hi⟩ := List.mem_flatMap.1 hi
          exact mem_cellsOf hc hi
        · obtain ⟨c, hc, hi⟩ := List.mem_flatMap.1 (hm i hi).2
          exact mem_cellsOf hc hi
      · exact hn
    · rw [h]
      exact hb _
  · exact hn
theorem srcK_relH (hn : Rel none none) {es : Nat} {t : TypeId} {x : PV} {K : Nat → List PV → Option R} {K' : Nat → List PV → Option R'} {S : Nat → Prop} (hS : ∀ i, S i → hp i = hp1 i ∨ (hp i = none ∧ ∀ b, Rel none b)) (hx : ∀ i ∈ refs1 x, S i) (hK : ∀ m c, Rel (K m c) (K' m c)) : Rel (srcK P ⟨tm, hp⟩ es t x K) (srcK P ⟨tm', hp1⟩ es t x K') := by
  unfold srcK srcR; split
  · exact chk_rel hn fun _ => strK_rel hn fun _ => hK _ _
  · exact slcK_rel hn (rda_agr hS fun i hi => hx i (refsC_refs1 hi)) hK
  · exact hn
theorem appendK_relH (hn : Rel none none) {d : Nat} {t tx : TypeId} {b x : PV} {K : St → Option R} {K' : St → Option R'} {S : Nat → Prop} (hS : ∀ i, S i → hp i = hp1 i ∨ (hp i = none ∧ ∀ b, Rel none b)) (hdd : hp d = hp1 d) (hb : ∀ i ∈ refs1 b, S i) (hx : ∀ i ∈ refs1 x, S i)
    (hK : ∀ v hp' hp1', Tch N S (some d) hp hp1 hp' hp1' → Rel (K ⟨upd tm d v, hp'⟩) (K' ⟨upd tm' d v, hp1'⟩)) : Rel (appendK P N ⟨tm, hp⟩ d t tx b x K) (appendK P N ⟨tm', hp1⟩ d t tx b x K') := by
  unfold appendK; split
  · refine chk_rel hn fun _ => ?_
    cases isIntTy P tx
    rotate_left
    · show Rel (appZeroK P N ⟨tm, hp⟩ d _ b x K) (appZeroK P N ⟨tm', hp1⟩ d _ b x K')
      refine anyIntK_rel hn fun _ n => lsK_rel hn fun z _ _ => ?_
      show Rel (chk (z && Nat.blt d N && (hp d).isNone && _ && _ && _) _) (chk (z && Nat.blt d N && (hp1 d).isNone && _ && _ && _) _)
      rw [← hdd]
      exact chk_rel hn fun _ => hK _ _ _ (upd_dst (tch_refl _ _))
    rw [cond_false, cond_false]
    refine srcK_relH hn hS hx fun m new => ?_
    split
    · rename_i id es off n
      show Rel (match hp id with | some (.ar false c) => chk (Nat.beq es _ && Nat.beq off 0 && Nat.blt d N && (hp d).isNone && _ && _ && _ && _) _ | _ => none) (match hp1 id with | some (.ar false c) => chk (Nat.beq es _ && Nat.beq off 0 && Nat.blt d N && (hp1 d).isNone && _ && _ && _ && _) _ | _ => none)
      have hid : S id := hb id (by simp [refs1, refsC])
      rw [← hdd]
      rcases hS id hid with h | ⟨h, hbb⟩
      · rw [← h]
        split
        · rename_i c hc
          exact chk_rel hn fun _ => hK _ _ _ (upd_dst (upd_two hid (by rw [hc]; simp) (tch_refl _ _)))
        · exact hn
      · rw [h]
        exact hbb _
    · refine lsK_rel hn fun z _ _ => ?_
      show Rel (chk (z && Nat.blt d N && (hp d).isNone && _ && _ && _) _) (chk (z && Nat.blt d N && (hp1 d).isNone && _ && _ && _) _)
      rw [← hdd]
      exact chk_rel hn fun _ => hK _ _ _ (upd_dst (tch_refl _ _))
  · exact hn

/-- What an operation's operands lead to; what lies in variables among that. -/
def Leads (o : Oper) (tm : Nat → PV) (i : Nat) : Prop := ∃ x ∈ o.op.operands.toList, i ∈ refs (opv tm x)
def Rch (o : Oper) (tm : Nat → PV) (hp : Nat → Option Box) (i : Nat) : Prop := Leads o tm i ∨ ∃ id c, Leads o tm id ∧ hp id = some (.st c) ∧ ∃ p ∈ c, i ∈ refsC p

theorem mvcK_relH (hn : Rel none none) {mv : Bool} {t : CT} {p : PV} {K : PV → List Nat → List Nat → Option R} {K' : PV → List Nat → List Nat → Option R'} {S : Nat → Prop} (hS : ∀ i, S i → hp i = hp1 i ∨ (hp i = none ∧ ∀ b, Rel none b)) (hp_ : ∀ i ∈ refsC p, S i)
    (hK : ∀ c m x, (∀ i ∈ m ++ x, hp i ≠ none ∧ S i) → Rel (K c m x) (K' c m x)) : Rel (mvcK mv hp t p K) (mvcK mv hp1 t p K') := by
  have frz : ∀ {t : CT} {p : PV}, (∀ i ∈ refsC p, S i) → Rel (frcK (rda hp) t p fun c m => K c m []) (frcK (rda hp1) t p fun c m => K' c m []) := fun h => frcK_relS hn (rda_agr hS h) fun c m hm => hK _ _ _ fun i hi => by
    rw [List.append_nil] at hi
    exact ⟨fun e => (hm i hi).1 (rda_none e), h i (hm i hi).2⟩
  unfold mvcK; split
  · rename_i es
    cases mv <;> simp only [cond_true, cond_false]
    · exact frz hp_
    · split
      · rename_i id es' off n
        rcases hS id (hp_ id (by simp [refsC])) with h | ⟨h, hb⟩
        · rw [← h]
          split
          · rename_i c hc
            cases (Nat.beq es' es && Nat.beq off 0) <;> simp only [cond_true, cond_false]
            · exact frz hp_
            · exact chk_rel hn fun _ => hK _ _ _ fun i hi => by
                simp only [List.nil_append, List.mem_singleton] at hi
                subst hi
                exact ⟨by rw [hc]; simp, hp_ i (by simp [refsC])⟩
          · exact frz hp_
        · rw [h]
          have : (frcK (rda hp) (.sl es) (.view id es' off n) fun c m => K c m []) = none := by
            unfold frcK
            simp only
            cases Nat.beq es' es
            · rfl
            · simp only [cond_true, rda_none h, optK]
          show Rel (frcK (rda hp) (.sl es) (.view id es' off n) fun c m => K c m []) _
          rw [this]
          exact hb _
      · refine lsK_rel hn fun z n c => ?_
        cases z
        · exact hK _ _ _ (by simp)
        · exact hK _ _ _ (by simp)
  · exact tcK_rel hn fun _ => hK _ _ _ (by simp)

theorem mvcsK_relH (hn : Rel none none) {mv : Bool} {S : Nat → Prop} (hS : ∀ i, S i → hp i = hp1 i ∨ (hp i = none ∧ ∀ b, Rel none b)) : ∀ {ts : List CT} {ps : List PV} {K : List PV → List Nat → List Nat → Option R} {K' : List PV → List Nat → List Nat → Option R'}, (∀ p ∈ ps, ∀ i ∈ refsC p, S i) →
    (∀ c m x, (∀ i ∈ m ++ x, hp i ≠ none ∧ S i) → Rel (K c m x) (K' c m x)) → Rel (mvcsK mv hp ts ps K) (mvcsK mv hp1 ts ps K')
  | [], [], _, _, _, hK => hK _ _ _ (by simp)
  | [], _ :: _, _, _, _, _ => hn
  | _ :: _, [], _, _, _, _ => hn
  | _ :: _, p :: ps, _, _, hp_, hK => mvcK_relH hn hS (hp_ p (by simp)) fun _ m x hm => mvcsK_relH hn hS (fun q hq => hp_ q (by simp [hq])) fun _ ms xs hms => hK _ _ _ fun i hi => by
      simp only [List.mem_append] at hi hm hms
      rcases hi with (hi | hi) | (hi | hi)
      · exact hm i (.inl hi)
      · exact hms i (.inl hi)
      · exact hm i (.inr hi)
      · exact hms i (.inr hi)

theorem lend1K_relH (hn : Rel none none) {C : Cfg} {f : FuncId} {i : Nat} {t : TypeId} {p : PV} {K : PV → List Nat → List Nat → List Lnt → Option R} {K' : PV → List Nat → List Nat → List Lnt → Option R'} {S : Nat → Prop} (hS : ∀ i, S i → hp i = hp1 i ∨ (hp i = none ∧ ∀ b, Rel none b))
    (hp_ : ∀ i ∈ refs p, S i) (hc : ∀ i ∈ refs p, ∀ c, hp1 i = some (.st c) → ∀ q ∈ c, ∀ k ∈ refsC q, S k)
    (hK : ∀ v m x l, (∀ i ∈ m ++ x ++ l.flatMap Lnt.ids, hp i ≠ none ∧ S i) → Rel (K v m x l) (K' v m x l)) : Rel (lend1K C P f hp i t p K) (lend1K C P f hp1 i t p K') := by
  unfold lend1K
  split
  · split
    · rename_i id off
      have hid : S id := hp_ id (by simp [refs, refs1, refsC])
      rcases hS id hid with h | ⟨h, hb⟩
      · rw [h]
        split
        · rename_i c hc1
          refine chk_rel hn fun _ => mvcsK_relH hn hS (fun q hq k hk => hc id (by simp [refs, refs1, refsC]) c hc1 q (List.mem_of_mem_drop (List.mem_of_mem_take hq)) k hk) fun cs m x hm => hK _ _ _ _ fun k hk => ?_
          rcases List.mem_append.1 hk with hk | hk
          · exact hm k hk
          · simp only [List.flatMap_cons, List.flatMap_nil, Lnt.ids, List.append_nil, List.mem_singleton] at hk
            subst hk
            exact ⟨by rw [h, hc1]; simp, hid⟩
        · exact hn
      · rw [h]; exact hb _
    · exact hn
  · cases C.lnd f i
    · cases isAggB P t
      · exact mvcsK_relH hn hS (fun q hq k hk => by
          simp at hq; subst hq; exact hp_ k (refsC_refs hk)) fun cs m x hm => consK_rel hn fun _ _ _ => nilK_rel hn (hK _ _ _ _ (by simpa using hm))
      · refine aggK_rel hn fun cs hcs => mvcsK_relH hn hS (fun q hq k hk => hp_ k ?_) fun cs m x hm => hK _ _ _ _ (by simpa using hm)
        subst hcs
        exact List.mem_flatMap.2 ⟨q, hq, hk⟩
    · refine optK_rel hn fun e he => ?_
      unfold lrowK
      split
      · rename_i id es' off n
        have hid : S id := hp_ id (by simp [refs, refs1, refsC])
        rcases hS id hid with h | ⟨h, hb⟩
        · rw [h]
          split
          · rename_i c hc1
            refine chk_rel hn fun _ => hK _ _ _ _ fun k hk => ?_
            simp only [List.nil_append, List.flatMap_cons, List.flatMap_nil, Lnt.ids, List.append_nil, List.mem_singleton] at hk
            subst hk
            exact ⟨by rw [h, hc1]; simp, hid⟩
          · exact hn
        · rw [h]; exact hb _
      · exact lsK_rel hn fun _ _ _ => chk_rel hn fun _ => hK _ _ _ _ (by simp [Lnt.ids])

theorem lendK_relH (hn : Rel none none) {C : Cfg} {f : FuncId} {S : Nat → Prop} (hS : ∀ i, S i → hp i = hp1 i ∨ (hp i = none ∧ ∀ b, Rel none b)) : ∀ {ts : List TypeId} {ps : List PV} {i : Nat} {K : List PV → List Nat → List Nat → List Lnt → Option R} {K' : List PV → List Nat → List Nat → List Lnt → Option R'},
    (∀ p ∈ ps, ∀ i ∈ refs p, S i) → (∀ p ∈ ps, ∀ i ∈ refs p, ∀ c, hp1 i = some (.st c) → ∀ q ∈ c, ∀ k ∈ refsC q, S k) →
    (∀ v m x l, (∀ i ∈ m ++ x ++ l.flatMap Lnt.ids, hp i ≠ none ∧ S i) → Rel (K v m x l) (K' v m x l)) → Rel (lendK C P f hp i ts ps K) (lendK C P f hp1 i ts ps K')
  | [], [], _, _, _, _, _, hK => hK _ _ _ _ (by simp)
  | [], _ :: _, _, _, _, _, _, _ => hn
  | _ :: _, [], _, _, _, _, _, _ => hn
  | _ :: _, p :: ps, _, _, _, hp_, hc, hK => lend1K_relH hn hS (hp_ p (by simp)) (hc p (by simp)) fun _ m x l hm => lendK_relH hn hS (fun q hq => hp_ q (by simp [hq])) (fun q hq => hc q (by simp [hq])) fun _ ms xs ls hms => hK _ _ _ _ fun i hi => by
      simp only [List.mem_append, List.flatMap_append] at hi hm hms
      rcases hi with ((hi | hi) | (hi | hi)) | (hi | hi)
      · exact hm i (.inl (.inl hi))
      · exact hms i (.inl (.inl hi))
      · exact hm i (.inl (.inr hi))
      · exact hms i (.inl (.inr hi))
      · exact hm i (.inr hi)
      · exact hms i (.inr hi)

theorem bkcK_rel (hn : Rel none none) {t : Nat} {ct : CT} {was p : PV} {K : Nat → PV → List (Nat × Box) → Option R} {K' : Nat → PV → List (Nat × Box) → Option R'} (hK : ∀ t c b, (∀ q ∈ b, ∃ k, q.1 = nid N k) → Rel (K t c b) (K' t c b)) : Rel (bkcK N t ct was p K) (bkcK N t ct was p K') := by
  unfold bkcK; split
  · split
    · exact owK_rel hn fun _ _ => hK _ _ _ (by intro q hq; simp only [List.mem_singleton] at hq; subst hq; exact ⟨t, rfl⟩)
    · exact lsK_rel hn fun _ _ _ => hK _ _ _ (by simp)
  · exact tcK_rel hn fun _ => hK _ _ _ (by simp)

theorem bkcsK_rel (hn : Rel none none) : ∀ {cts : List CT} {ws ps : List PV} {t : Nat} {K : Nat → List PV → List (Nat × Box) → Option R} {K' : Nat → List PV → List (Nat × Box) → Option R'}, (∀ t c b, (∀ q ∈ b, ∃ k, q.1 = nid N k) → Rel (K t c b) (K' t c b)) → Rel (bkcsK N t cts ws ps K) (bkcsK N t cts ws ps K')
  | [], [], _, _, _, _, hK => nilK_rel hn (hK _ _ _ (by simp))
  | [], _ :: _, _, _, _, _, _ => hn
  | _ :: _, [], _, _, _, _, _ => hn
  | _ :: _, _ :: _, _, _, _, _, hK => consK_rel hn fun _ _ _ => bkcK_rel hn fun _ _ b hb => bkcsK_rel hn fun _ _ bs hbs => hK _ _ _ fun q hq => by
      rcases List.mem_append.1 hq with h | h
      · exact hb q h
      · exact hbs q h

theorem bksK_relH (hn : Rel none none) {S : Nat → Prop} {dst : Option Nat} : ∀ {l : List Lnt} {ro : List (List PV)} {t : Nat} {h0 h1 : Nat → Option Box} {K : (Nat → Option Box) → List (Nat × Box) → Option R} {K' : (Nat → Option Box) → List (Nat × Box) → Option R'},
    Tch N S dst hp hp1 h0 h1 → (∀ i ∈ l.flatMap Lnt.ids, hp i ≠ none ∧ S i ∧ hp i = hp1 i) → (∀ h0' h1' b, Tch N S dst hp hp1 h0' h1' → (∀ q ∈ b, ∃ k, q.1 = nid N k) → Rel (K h0' b) (K' h1' b)) → Rel (bksK N t l ro h0 K) (bksK N t l ro h1 K')
  | [], _, _, _, _, _, _, hT, _, hK => nilK_rel hn (hK _ _ _ hT (by simp))
  | .var id off cts ws :: l, ro, t, h0, h1, K, K', hT, hl, hK => by
    unfold bksK
    refine consK_rel hn fun cs ro _ => bkcsK_rel hn fun t' cs' bs hbs => ?_
    have hid := hl id (by simp [Lnt.ids])
    rw [← hT.same id hid.2.2]
    split
    · exact bksK_relH hn (upd_two hid.2.1 hid.1 hT) (fun i hi => hl i (by simp only [List.flatMap_cons, List.mem_append]; exact .inr hi)) fun h0' h1' b hT' hb => hK _ _ _ hT' fun q hq => by
        rcases List.mem_append.1 hq with h | h
        · exact hbs q h
        · exact hb q h
    · exact hn
  | .row id :: l, ro, t, h0, h1, K, K', hT, hl, hK => by
    unfold bksK
    have hid := hl id (by simp [Lnt.ids])
    exact consK_rel hn fun cs ro _ => bksK_relH hn (upd_two hid.2.1 hid.1 hT) (fun i hi => hl i (by simp only [List.flatMap_cons, List.mem_append]; exact .inr hi)) hK
  | .none :: l, ro, t, h0, h1, K, K', hT, hl, hK => by
    unfold bksK
    exact consK_rel hn fun cs ro _ => bksK_relH hn hT (fun i hi => hl i (by simp only [List.flatMap_cons, List.mem_append]; exact .inr hi)) hK

theorem freeT_eq (h : ∀ i, N ≤ i → hp i = hp1 i) (hN : 0 < N) : ∀ k t, freeT N hp k t = freeT N hp1 k t
  | 0, _ => rfl
  | k + 1, t => by
    unfold freeT
    rw [h (nid N t) (by unfold nid; exact Nat.le_mul_of_pos_right _ (by omega)), freeT_eq h hN k (t + 1)]

theorem absent_eq {h0 h1 : Nat → Option Box} : ∀ {nw : List (Nat × Box)}, (∀ q ∈ nw, h0 q.1 = h1 q.1) → absent h0 nw = absent h1 nw
  | [], _ => rfl
  | (i, b) :: nw, h => by
    unfold absent
    rw [h (i, b) (by simp), absent_eq (fun q hq => h q (by simp [hq]))]

theorem addBoxes_T {S : Nat → Prop} {dst : Option Nat} {h0 h1 : Nat → Option Box} (hT : Tch N S dst hp hp1 h0 h1) : ∀ {nw : List (Nat × Box)} {g0 g1 : Nat → Option Box}, Tch N S dst hp hp1 g0 g1 → (∀ q ∈ nw, N ≤ q.1 ∨ dst = some q.1) → Tch N S dst hp hp1 (addBoxes g0 nw) (addBoxes g1 nw)
  | [], _, _, h, _ => h
  | (i, b) :: nw, g0, g1, h, hi => by
    refine addBoxes_T hT (nw := nw) ⟨fun k hk => ?_, fun k hN hd hk => ?_, fun k hk => ?_⟩ (fun q hq => hi q (by simp [hq]))
    · by_cases e : k = i
      · subst e; rw [upd_same]; simp
      · rw [upd_other _ _ e]; exact h.keep k hk
    · have e : k ≠ i := by
        rintro rfl
        rcases hi (k, b) (by simp) with q | q
        · simp only at q; omega
        · exact hd q
      rw [upd_other _ _ e, upd_other _ _ e]
      exact h.off k hN hd hk
    · by_cases e : k = i
      · subst e; rw [upd_same, upd_same]
      · rw [upd_other _ _ e, upd_other _ _ e]; exact h.same k hk

theorem tch_mv {S : Nat → Prop} {dst : Option Nat} {m x : List Nat} (hm : ∀ i ∈ m ++ x, hp i ≠ none ∧ S i) : Tch N S dst hp hp1 (mvIds (freezeIds hp m) x) (mvIds (freezeIds hp1 m) x) := by
  refine ⟨fun i hi h => ?_, fun i hN hd hi => ?_, fun i hi => ?_⟩
  · rw [mvIds_get] at h
    have h1 : freezeIds hp m i ≠ none := fun e => hi (freeze_none.1 e)
    split at h
    · cases hq : freezeIds hp m i with
      | none => exact h1 hq
      | some b => rw [hq] at h; cases h
    · exact h1 h
  · have e : i ∉ m ∧ i ∉ x := by
      refine ⟨fun h => ?_, fun h => ?_⟩ <;> (rcases hi with hi | hi)
      · exact hi (hm i (by simp [h])).2
      · exact (hm i (by simp [h])).1 hi
      · exact hi (hm i (by simp [h])).2
      · exact (hm i (by simp [h])).1 hi
    rw [mvIds_get, mvIds_get, if_neg e.2, if_neg e.2, freeze_get, freeze_get, if_neg e.1, if_neg e.1]
    exact ⟨rfl, rfl⟩
  · rw [mvIds_get, mvIds_get, freeze_get, freeze_get, hi]

theorem callMK_relH (hn : Rel none none) {C : Cfg} {call : Call'} {f : FuncId} {c : Call} {K : St → Option R} {K' : St → Option R'} {S : Nat → Prop} (htm : c.args.toList.map (opv tm) = c.args.toList.map (opv tm')) (hS : ∀ i, S i → hp i = hp1 i ∨ (hp i = none ∧ ∀ b, Rel none b))
    (hp_ : ∀ p ∈ c.args.toList.map (opv tm'), ∀ i ∈ refs p, S i) (hc : ∀ p ∈ c.args.toList.map (opv tm'), ∀ i ∈ refs p, ∀ c, hp1 i = some (.st c) → ∀ q ∈ c, ∀ k ∈ refsC q, S k)
    (hdd : ∀ d, o.dst = some d → hp d = hp1 d) (hNN : ∀ i, N ≤ i → hp i = hp1 i)
    (hK : ∀ v hp' hp1', Tch N S o.dst hp hp1 hp' hp1' → Rel (K ⟨putTm tm o.dst v, hp'⟩) (K' ⟨putTm tm' o.dst v, hp1'⟩)) : Rel (callMK C P N call ⟨tm, hp⟩ o f c K) (callMK C P N call ⟨tm', hp1⟩ o f c K') := by
  unfold callMK
  simp only [htm]
  refine lendK_relH hn hS hp_ hc fun vs m x l hm => chk_rel hn fun hb => callK_rel hn fun rv ro => unvsK_rel hn fun ws bs hbs => chk_rel hn fun _ => ?_
  simp only [Bool.and_eq_true] at hb
  have hN : 0 < N := Nat.lt_of_succ_le (Nat.le_of_ble_eq_true hb.1.2)
  rw [freeT_eq hNN hN]
  by_cases hbad : ∃ i ∈ l.flatMap Lnt.ids, hp i ≠ hp1 i
  · obtain ⟨i, hi, hne⟩ := hbad
    obtain ⟨h1, h2⟩ := hm i (List.mem_append.2 (.inr hi))
    rcases hS i h2 with h | ⟨h, _⟩
    · exact absurd h hne
    · exact absurd h h1
  have hl : ∀ i ∈ l.flatMap Lnt.ids, hp i ≠ none ∧ S i ∧ hp i = hp1 i := fun i hi => ⟨(hm i (List.mem_append.2 (.inr hi))).1, (hm i (List.mem_append.2 (.inr hi))).2, Classical.byContradiction fun h => hbad ⟨i, hi, h⟩⟩
  have hT0 : Tch N S o.dst hp hp1 (mvIds (freezeIds hp m) x) (mvIds (freezeIds hp1 m) x) := tch_mv fun i hi => hm i (List.mem_append.2 (.inl hi))
  refine bksK_relH hn hT0 hl fun h0 h1 bs' hT hbs' => ?_
  have hids : ∀ q ∈ bs ++ bs', N ≤ q.1 ∨ o.dst = some q.1 := by
    intro q hq
    rcases List.mem_append.1 hq with hq | hq
    · obtain ⟨j, hj⟩ := hbs q hq
      cases hd : o.dst with
      | none =>
        rw [hd] at hj
        left
        rw [hj]
        exact Nat.le_add_right _ _
      | some d =>
        rw [hd] at hj
        change q.1 = d + N * j at hj
        cases j with
        | zero => right; rw [hj]; simp
        | succ j => left; rw [hj, Nat.mul_add]; omega
    · obtain ⟨k, hk⟩ := hbs' q hq
      left
      rw [hk]
      unfold nid
      exact Nat.le_mul_of_pos_right _ (by omega)
  have hsame : ∀ q ∈ bs ++ bs', h0 q.1 = h1 q.1 := by
    intro q hq
    refine hT.same q.1 ?_
    rcases hids q hq with h | h
    · exact hNN _ h
    · exact hdd _ h
  rw [absent_eq hsame]
  exact chk_rel hn fun _ => hK _ _ _ (addBoxes_T hT hT hids)

theorem mutK_relH (hn : Rel none none) {C : Cfg} {call : Call'} {K : St → Option R} {K' : St → Option R'} (htm : ∀ x ∈ o.op.operands.toList, opv tm x = opv tm' x)
    (hS : ∀ i, Rch o tm' hp1 i → hp i = hp1 i ∨ (hp i = none ∧ ∀ b, Rel none b)) (hdd : ∀ d, o.dst = some d → hp d = hp1 d) (hNN : ∀ i, N ≤ i → hp i = hp1 i)
    (hK : ∀ v hp' hp1', Tch N (Rch o tm' hp1) o.dst hp hp1 hp' hp1' → Rel (K ⟨putTm tm o.dst v, hp'⟩) (K' ⟨putTm tm' o.dst v, hp1'⟩)) : Rel (mutK C P N call ⟨tm, hp⟩ o K) (mutK C P N call ⟨tm', hp1⟩ o K') := by
  unfold mutK
  have hl : ∀ x ∈ o.op.operands.toList, ∀ i ∈ refs (opv tm' x), Rch o tm' hp1 i := fun x hx i hi => .inl ⟨x, hx, hi⟩
  have hl2 : ∀ x ∈ o.op.operands.toList, ∀ i ∈ refs (opv tm' x), ∀ c, hp1 i = some (.st c) → ∀ q ∈ c, ∀ k ∈ refsC q, Rch o tm' hp1 k := fun x hx i hi c hc q hq k hk => .inr ⟨i, c, ⟨x, hx, hi⟩, hc, q, hq, hk⟩
  generalize hLd : Rch o tm' hp1 = S at *
  generalize hop : o.op = op at *
  split
  · rename_i t x y
    simp only [htm x (by simp [Op.operands]), htm y (by simp [Op.operands])]
    refine chk_rel hn fun hd => storeK_relH (N := N) hn hS (fun i hi => hl x (by simp [Op.operands]) i (refsC_refs hi)) (fun i hi => hl y (by simp [Op.operands]) i (refs1_refs hi)) fun hp' hp1' hh => ?_
    have hd' := Option.isNone_iff_eq_none.1 hd
    have := hK .top hp' hp1' (by rw [hd']; exact hh)
    rw [hd'] at this
    exact this
  · rename_i c
    have hmem : ∀ x ∈ c.args.toList, x ∈ (Op.call c).operands.toList := by
      intro x hx
      simp only [Op.operands, Call.operands, Array.toList_append, List.mem_append]
      exact .inr hx
    split
    · rename_i hc
      refine optK_rel hn fun d hd => consK_rel hn fun x _ hx => consK_rel hn fun y _ hy => nilK_rel hn (consK_rel hn fun _ _ _ => consK_rel hn fun _ _ _ => ?_)
      subst hy
      have hxm := hmem x (by rw [hx]; simp)
      have hym := hmem y (by rw [hx]; simp)
      simp only [htm x hxm, htm y hym]
      refine appendK_relH hn hS (hdd d hd) (fun i hi => hl x hxm i (refs1_refs hi)) (fun i hi => hl y hym i (refs1_refs hi)) fun v hp' hp1' hh => ?_
      have := hK v hp' hp1' (by rw [hd]; exact hh)
      rw [hd] at this
      exact this
    · refine callMK_relH hn (List.map_congr_left fun x hx => htm x (hmem x hx)) hS (fun p hp i hi => ?_) (fun p hp i hi => ?_) hdd hNN hK
      · obtain ⟨x, hx, rfl⟩ := List.mem_map.1 hp
        exact hl x (hmem x hx) i hi
      · obtain ⟨x, hx, rfl⟩ := List.mem_map.1 hp
        exact hl2 x (hmem x hx) i hi
    · exact hn
  · exact hn

theorem mutK_rel (hn : Rel none none) {C : Cfg} {call : Call'} {K : St → Option R} {K' : St → Option R'} (htm : ∀ x ∈ o.op.operands.toList, opv tm x = opv tm' x) (hK : ∀ v hp', (∀ i, hp i ≠ none → hp' i ≠ none) → Rel (K ⟨putTm tm o.dst v, hp'⟩) (K' ⟨putTm tm' o.dst v, hp'⟩)) : Rel (mutK C P N call ⟨tm, hp⟩ o K) (mutK C P N call ⟨tm', hp⟩ o K') :=
  mutK_relH hn htm (fun _ _ => .inl rfl) (fun _ _ => rfl) (fun _ _ => rfl) fun v hp' hp1' hT => by
    have : hp' = hp1' := funext fun i => hT.same i rfl
    subst this
    exact hK v hp' hT.keep
end

section
variable {R : Type} {r : R} {C : Cfg} {P : Program} {N : Nat} {call : Call'} {ops : Array Oper} {o x : Oper} {s : St} {K : St → Option R}

/-- An operation that does not look at memory. -/
theorem gE_free {tm : Nat → PV} {hp hp' : Nat → Option Box} {tm' : Nat → PV} {q : Eff3} (hm : memo P o.op = false) (ht : ∀ t ∈ looks ops o, tm t = tm' t) (h : gE C P N call ops o ⟨tm, hp⟩ = some q) : gE C P N call ops o ⟨tm', hp'⟩ = some q :=
  gE_more (s := ⟨tm, hp⟩) (s' := ⟨tm', hp'⟩) ht (fun h => by rw [hm] at h; cases h) h

theorem gopK_free {tm : Nat → PV} {hp : Nat → Option Box} (hm : memo P o.op = false) (h : gopK C P N call ops o ⟨tm, hp⟩ K = some r) :
    ∃ v nw, gE C P N call ops o ⟨tm, hp⟩ = some (v, [], nw) ∧ dstOk N o.dst = true ∧ absent hp nw = true ∧ (∀ p ∈ nw, o.dst = some p.1) ∧ K ⟨putTm tm o.dst v, addBoxes hp nw⟩ = some r := by
  have hM : isM C P o.op = false := by
    cases hh : isM C P o.op
    · rfl
    · rw [isM_memo hh] at hm; cases hm
  rw [gopK_R (by simp [actM, hM])] at h
  cases e : gE C P N call ops o ⟨tm, hp⟩ with
  | none => rw [e] at h; cases h
  | some q =>
    obtain ⟨v, fz, nw⟩ := q
    obtain ⟨h1, h2⟩ := (gE_facts e).1 hm
    simp only at h1 h2
    subst h1
    rw [e] at h
    obtain ⟨hb, h⟩ := chk_inv h
    simp only [Bool.and_eq_true] at hb
    exact ⟨v, nw, rfl, hb.1, hb.2, h2, h⟩

theorem gopK_free' {tm : Nat → PV} {hp : Nat → Option Box} {v : PV} {nw : List (Nat × Box)} (hm : memo P o.op = false) (e : gE C P N call ops o ⟨tm, hp⟩ = some (v, [], nw)) (hd : dstOk N o.dst = true) (ha : absent hp nw = true) (h : K ⟨putTm tm o.dst v, addBoxes hp nw⟩ = some r) : gopK C P N call ops o ⟨tm, hp⟩ K = some r := by
  have hM : isM C P o.op = false := by
    cases hh : isM C P o.op
    · rfl
    · rw [isM_memo hh] at hm; cases hm
  rw [gopK_R (by simp [actM, hM]), e]
  show chk _ _ = _
  have ha' : absent hp nw = true := ha
  rw [hd, ha']
  exact h

theorem add_get {hp : Nat → Option Box} {nw : List (Nat × Box)} (ha : absent hp nw = true) {i : Nat} (hi : ∀ p ∈ nw, p.1 ≠ i) : addBoxes hp nw i = hp i :=
  (addBoxes_get (absent_spec ha).2).2 i fun b hb => hi _ hb rfl

/-- New boxes of one slot, added to two memories that differ there alone. -/
theorem add_eq {hp hp' : Nat → Option Box} {nw : List (Nat × Box)} (ha : absent hp nw = true) {g : Nat → Option Box} (h1 : ∀ i, (∀ p ∈ nw, p.1 ≠ i) → g i = hp' i) (h2 : ∀ i, (∃ p ∈ nw, p.1 = i) → g i = addBoxes hp nw i) (ha' : absent hp' nw = true) : g = addBoxes hp' nw := by
  funext i
  by_cases h : ∃ p ∈ nw, p.1 = i
  · rw [h2 i h]
    obtain ⟨⟨j, b⟩, hp, rfl⟩ := h
    rw [(addBoxes_get (absent_spec ha).2).1 j b hp, (addBoxes_get (absent_spec ha').2).1 j b hp]
  · have h' : ∀ p ∈ nw, p.1 ≠ i := fun p hp e => h ⟨p, hp, e⟩
    rw [h1 i h', add_get ha' h']

theorem swap_Mx (ap : Apart C P ops x o) (hx : actM C P ops x s.tm = true)
    (h : gopK C P N call ops x s (fun s1 => gopK C P N call ops o s1 K) = some r) : gopK C P N call ops o s (fun s1 => gopK C P N call ops x s1 K) = some r := by
  have hm : memo P o.op = false := ap.mx (by unfold actM at hx; simp only [Bool.and_eq_true] at hx; exact hx.1)
  rw [gopK_M hx] at h
  obtain ⟨tm, hp⟩ := s
  have look : ∀ v, ∀ t ∈ looks ops o, putTm tm x.dst v t = tm t := fun v => putTm_look ap.xo
  have h1 := mutK_relH (P := P) (N := N) (o := x) (tm := tm) (tm' := tm) (hp := hp) (hp1 := hp) (K := fun s1 => gopK C P N call ops o s1 K) (K' := fun _ => none)
    (Rel := fun (a : Option R) (_ : Option R) => a = some r → ∃ v nw, gE C P N call ops o ⟨tm, hp⟩ = some (v, [], nw) ∧ dstOk N o.dst = true ∧ (∀ p ∈ nw, o.dst = some p.1) ∧ absent hp nw = true) (fun h => by cases h) (fun _ _ => rfl) (fun _ _ => .inl rfl) (fun _ _ => rfl) (fun _ _ => rfl) (fun v hp' _ hT h => by
      obtain ⟨u, nw, hu, hd, ha, hn, _⟩ := gopK_free hm h
      refine ⟨u, nw, gE_free hm (look v) hu, hd, hn, absent_of ha fun i b hi => ?_⟩
      cases hh : hp i with
      | none => rfl
      | some c => exact absurd ((absent_spec ha).1 i b hi) (hT.keep i (by rw [hh]; simp))) h
  obtain ⟨v, nw, hv, hd, hn, ha⟩ := h1
  refine gopK_free' hm hv hd ha ?_
  have t2 : ∀ t ∈ looks ops x, tm t = putTm tm o.dst v t := fun t ht => (putTm_look ap.ox t ht).symm
  rw [gopK_M (by rw [← actM_looks t2]; exact hx)]
  refine mutK_relH (P := P) (N := N) (o := x) (tm := tm) (tm' := putTm tm o.dst v) (hp := hp) (hp1 := addBoxes hp nw) (Rel := fun (a b : Option R) => a = some r → b = some r) (fun h => by cases h) (opv_looks t2) (fun i _ => ?_) (fun d hxd => ?_) (fun i hi => (add_get ha fun p hp e => by have := dstOk_lt hd (hn p hp); omega).symm) (fun u hp' hp1' hT h => ?_) h
  · by_cases hi : ∃ p ∈ nw, p.1 = i
    · obtain ⟨⟨j, b⟩, hp1, rfl⟩ := hi
      exact .inr ⟨(absent_spec ha).1 j b hp1, fun _ h => by cases h⟩
    · exact .inl (add_get ha fun p hp e => hi ⟨p, hp, e⟩).symm
  · refine (add_get ha fun p hp e => ?_).symm
    have := hn p hp
    rw [e] at this
    exact ap.ne d hxd this
  · obtain ⟨v', nw', hv', _, ha', _, h'⟩ := gopK_free hm h
    have he := gE_free (hp' := hp) hm (look u) hv'
    rw [hv] at he
    simp only [Option.some.injEq, Prod.mk.injEq, true_and] at he
    obtain ⟨rfl, rfl⟩ := he
    have hh : hp1' = addBoxes hp' nw := by
      refine add_eq ha (fun i hi => ?_) (fun i hi => ?_) ha'
      · exact (hT.same i (add_get ha hi).symm).symm
      · obtain ⟨⟨j, b⟩, hp1, rfl⟩ := hi
        refine (hT.off j (dstOk_lt hd (hn _ hp1)) (fun e => ap.ne j e (hn _ hp1)) (.inr ((absent_spec ha).1 j b hp1))).2
    rw [hh, ← putTm_comm ap.ne]
    exact h'

theorem swap_oM (hw : Has C P o s) (ap : Apart C P ops x o) (ho : actM C P ops o s.tm = true)
    (h : gopK C P N call ops x s (fun s1 => gopK C P N call ops o s1 K) = some r) : gopK C P N call ops o s (fun s1 => gopK C P N call ops x s1 K) = some r := by
  have hm : memo P x.op = false := ap.mo (by unfold actM at ho; simp only [Bool.and_eq_true] at ho; exact ho.1)
  obtain ⟨tm, hp⟩ := s
  obtain ⟨v, nw, hv, hd, ha, hn, h1⟩ := gopK_free hm h
  have t1 : ∀ t ∈ looks ops o, putTm tm x.dst v t = tm t := putTm_look ap.xo
  change gopK C P N call ops o ⟨putTm tm x.dst v, addBoxes hp nw⟩ K = some r at h1
  rw [gopK_M (by rw [actM_looks t1]; exact ho)] at h1
  rw [gopK_M ho]
  have hMo : isM C P o.op = true := by unfold actM at ho; simp only [Bool.and_eq_true] at ho; exact ho.1
  have hlead : ∀ i, Rch o tm hp i → hp i ≠ none := by
    rintro i (⟨y, hy, hi⟩ | ⟨id, c, ⟨y, hy, hi⟩, hc, p, hp1, hk⟩)
    · exact hw.1 y hy i hi
    · exact hw.2 hMo y hy id hi c hc p hp1 i hk
  refine mutK_relH (P := P) (N := N) (o := o) (tm := putTm tm x.dst v) (tm' := tm) (hp := addBoxes hp nw) (hp1 := hp) (Rel := fun (a b : Option R) => a = some r → b = some r) (fun h => by cases h) (opv_looks t1) (fun i hi => ?_) (fun d hod => ?_) (fun i hi => add_get ha fun p hp e => by have := dstOk_lt hd (hn p hp); omega) (fun u hp' hp1' hT h => ?_) h1
  · refine .inl (add_get ha fun p hp' e => hlead i hi ?_)
    rw [← e]
    exact (absent_spec ha).1 p.1 p.2 hp'
  · refine add_get ha fun p hp' e => ?_
    have := hn p hp'
    rw [e] at this
    exact ap.ne d this hod
  · have hoff : ∀ p ∈ nw, hp' p.1 = addBoxes hp nw p.1 ∧ hp1' p.1 = none := by
      intro p hp2
      have hno := (absent_spec ha).1 p.1 p.2 hp2
      have h3 := hT.off p.1 (dstOk_lt hd (hn p hp2)) (fun e => ap.ne p.1 (hn p hp2) e) (.inl fun hL => hlead _ hL hno)
      exact ⟨h3.1, h3.2.trans hno⟩
    have ha' : absent hp1' nw = true := absent_of ha fun i b hi => (hoff (i, b) hi).2
    refine gopK_free' hm (gE_free hm (fun t ht => (putTm_look ap.ox t ht).symm) hv) hd ha' ?_
    have hh : hp' = addBoxes hp1' nw := by
      refine add_eq ha (fun i hi => ?_) (fun i hi => ?_) ha'
      · exact hT.same i (add_get ha hi)
      · obtain ⟨p, hp2, rfl⟩ := hi
        exact (hoff p hp2).1
    rw [← putTm_comm ap.ne, ← hh]
    exact h

theorem swap (hw : Has C P o s) (ap : Apart C P ops x o)
    (h : gopK C P N call ops x s (fun s1 => gopK C P N call ops o s1 K) = some r) : gopK C P N call ops o s (fun s1 => gopK C P N call ops x s1 K) = some r := by
  cases hx : actM C P ops x s.tm
  · cases ho : actM C P ops o s.tm
    · exact swap_RR hw ap hx ho h
    · exact swap_oM hw ap ho h
  · exact swap_Mx ap hx h

/-- What an operation leaves of slots and boxes. -/
def Keeps (P : Program) (x : Oper) (s s1 : St) : Prop := (∀ t, x.dst ≠ some t → s1.tm t = s.tm t) ∧ (∀ i, s.hp i ≠ none → s1.hp i ≠ none) ∧ (memo P x.op = false → ∀ i, s.hp i ≠ none → s1.hp i = s.hp i)

theorem putTm_keeps {tm : Nat → PV} {d : Option Tmp} {v : PV} {t : Nat} (h : d ≠ some t) : putTm tm d v t = tm t := by
  cases d with
  | none => rfl
  | some d => exact upd_other _ _ (by rintro rfl; exact h rfl)

theorem gopK_keeps {K' : St → Option R} (h : gopK C P N call ops x s K = some r) (hK : ∀ s1, Keeps P x s s1 → K s1 = some r → K' s1 = some r) : gopK C P N call ops x s K' = some r := by
  cases hx : actM C P ops x s.tm
  · rw [gopK_R hx] at h ⊢
    cases ex : gE C P N call ops x s with
    | none => rw [ex] at h; cases h
    | some q =>
      rw [ex] at h
      obtain ⟨hb, h1⟩ := chk_inv h
      simp only [Bool.and_eq_true] at hb
      show chk _ _ = _
      rw [hb.1, hb.2]
      refine hK _ ⟨fun t ht => putTm_keeps ht, fun i hi => after_some hb.2 hi, fun hm i hi => ?_⟩ h1
      show addBoxes (freezeIds s.hp q.2.1) q.2.2 i = s.hp i
      rw [after_old hb.2 hi, ((gE_facts ex).1 hm).1]
      simp
  · rw [gopK_M hx] at h ⊢
    exact mutK_rel (P := P) (N := N) (o := x) (tm := s.tm) (tm' := s.tm) (hp := s.hp) (Rel := fun (a b : Option R) => a = some r → b = some r) (fun h => by cases h) (fun _ _ => rfl) (fun v hp' hh h => hK _ ⟨fun t ht => putTm_keeps ht, hh, fun hm => by
      have hM : isM C P x.op = true := by unfold actM at hx; simp only [Bool.and_eq_true] at hx; exact hx.1
      rw [isM_memo hM] at hm; cases hm⟩ h) h

theorem Has.keeps {s1 : St} (h : Has C P o s) (ap : Apart C P ops x o) (hk : Keeps P x s s1) : Has C P o s1 := by
  have hop : ∀ y ∈ o.op.operands.toList, opv s1.tm y = opv s.tm y := fun y hy => opv_looks (ops := ops) (o := o) (fun t ht => hk.1 t fun hd => ap.xo t hd ht) y hy
  refine ⟨fun y hy i hi => ?_, fun hM y hy i hi c hc p hp k hkk => ?_⟩
  · rw [hop y hy] at hi
    exact hk.2.1 i (h.1 y hy i hi)
  · rw [hop y hy] at hi
    have hi0 := h.1 y hy i hi
    rw [hk.2.2 (ap.mo hM) i hi0] at hc
    exact hk.2.1 k (h.2 hM y hy i hi c hc p hp k hkk)

/-- An operation that touches none of a row's may be taken first. -/
theorem gops_first : ∀ (l : List Oper) {s : St} {K : St → Option R}, Has C P o s → (∀ x ∈ l, Apart C P ops x o) → gopsK C P N call ops l s (fun s1 => gopK C P N call ops o s1 K) = some r → gopK C P N call ops o s (fun s1 => gopsK C P N call ops l s1 K) = some r
  | [], _, _, _, _, h => h
  | x :: l, s, K, hw, ap, h => by
    refine swap hw (ap x (by simp)) ?_
    refine gopK_keeps (K := fun s1 => gopsK C P N call ops l s1 (fun s2 => gopK C P N call ops o s2 K)) h fun s1 hk h1 => ?_
    exact gops_first l (hw.keeps (ap x (by simp)) hk) (fun y hy => ap y (List.mem_cons_of_mem _ hy)) h1

theorem gops_append : ∀ (l l' : List Oper) {s : St} {K : St → Option R}, gopsK C P N call ops (l ++ l') s K = gopsK C P N call ops l s (fun s1 => gopsK C P N call ops l' s1 K)
  | [], _, _, _ => rfl
  | x :: l, l', s, K => by
    show gopK C P N call ops x s (fun s1 => gopsK C P N call ops (l ++ l') s1 K) = gopK C P N call ops x s (fun s1 => gopsK C P N call ops l s1 _)
    congr 1
    funext s1
    exact gops_append l l'

theorem gops_take {l l' : List Oper} (hw : Has C P o s) (ap : ∀ x ∈ l, Apart C P ops x o) (h : gopsK C P N call ops (l ++ o :: l') s K = some r) : gopK C P N call ops o s (fun s1 => gopsK C P N call ops (l ++ l') s1 K) = some r := by
  rw [gops_append] at h
  have := gops_first l hw ap h
  refine gopK_keeps this fun s1 _ h1 => ?_
  rw [gops_append]
  exact h1
end

end Go.Proofs.Ytaphhfehcbkfkaa.Pv

namespace Go.Proofs.Ytaphhfehcbkfkaa.Pv
open Go.RowKit

section
variable {R : Type} {r : R} {P : Program} {N : Nat} {w0 : World} {X0 : Lend} {Y : Nat → Prop} {β β' : Bt} {s : St} {a : Act} {w w' : World} {o : Oper} {ops : Array Oper} {C : Cfg} {call : Call'} {K : St → Option R}

theorem yielded_of (h : Sim N w0 X0 Y β s a w) {j d : Nat} (hd : (ops[j]?).bind (·.dst) = some d) {v : Value} (ht : s.tm d = .sc v) : yielded ops a.tmps j = match v with | .bool b => some b | _ => none := by
  have hlt : d < N := by
    rcases Nat.lt_or_ge d N with h' | h'
    · exact h'
    · rw [h.tmo d h'] at ht; cases ht
  have hv := h.tms d hlt
  rw [ht] at hv
  have hv := sc_val hv
  have hlt' : d < a.tmps.size := by rw [h.tsz]; exact hlt
  have he : a.tmps[d]? = some v := by
    rw [Array.getElem?_eq_getElem hlt']
    simp [hlt'] at hv
    rw [hv]
  unfold yielded
  rw [hd]
  simp only [Option.bind_some, he]
  cases v <;> rfl

/-- An operation under its guard. -/
theorem gopK_sound (h : Sim N w0 X0 Y β s a w) (hNG : NoNG P) (hcall : ∀ f args res, call f args = some res → SoundC P f args res) {i : Nat} (hi : ops[i]? = some o) (hk : gopK C P N call ops o s K = some r) :
    ∃ s', K s' = some r ∧ ∀ (next : Act → World → Prop) (Q : Exit → Act → World → Prop), (∀ a' w' β', Sim N w0 X0 Y β' s' a' w' → next a' w') → wpOp P ops Q i next a w := by
  rw [gopK_eq] at hk
  have hw : ∀ b, verdict ops o s.tm = some b → Region.wanted o (yielded ops a.tmps) = b := by
    intro b hb
    unfold verdict at hb
    unfold Region.wanted
    cases hg : o.guard with
    | none => rw [hg] at hb; simpa using hb
    | some q =>
      obtain ⟨j, want⟩ := q
      rw [hg] at hb
      simp only at hb ⊢
      cases hd : (ops[j]?).bind (·.dst) with
      | none => rw [hd] at hb; cases hb
      | some d =>
        rw [hd] at hb
        simp only at hb
        split at hb
        · rename_i b' ht
          rw [yielded_of h hd ht]
          simp at hb
          rw [← hb]
          cases b' <;> cases want <;> rfl
        · rename_i ht
          rw [yielded_of h hd ht]
          simp at hb
          rw [hb]
          rfl
        · cases hb
  split at hk
  · cases hk
  · rename_i hv
    obtain ⟨s', hs', hn⟩ := popK_sound h hNG hcall hk
    refine ⟨s', hs', fun next Q hnext => ?_⟩
    unfold wpOp
    rw [hi]
    simp only [hw _ hv, if_true]
    exact .inl (hn next Q hnext)
  · rename_i hv
    obtain ⟨hd, hk⟩ := chk_inv hk
    refine ⟨_, hk, fun next Q hnext => ?_⟩
    unfold wpOp
    rw [hi]
    simp only [hw _ hv]
    refine hnext _ _ β (h.put hd (TRep.sc _) (by simp [refs, refs1, refsC]))

theorem wpOps_sound (hNG : NoNG P) (hcall : ∀ f args res, call f args = some res → SoundC P f args res) {Q : Exit → Act → World → Prop} (hQ : ∀ s' a' w' β', K s' = some r → Sim N w0 X0 Y β' s' a' w' → Q .normal a' w') :
    ∀ (l : List Nat) (os : List Oper), l.length = os.length → (∀ (k i : Nat), l[k]? = some i → ops[i]? = os[k]?) → ∀ {s : St} {a : Act} {w : World} {β : Bt}, Sim N w0 X0 Y β s a w → gopsK C P N call ops os s K = some r → wpOps P ops Q l a w
  | [], [], _, _, s, a, w, β, h, hk => by
    show Q .normal a w
    exact hQ s a w β hk h
  | [], _ :: _, hl, _, _, _, _, _, _, _ => by cases hl
  | _ :: _, [], hl, _, _, _, _, _, _, _ => by cases hl
  | i :: l, o :: os, hl, hi, s, a, w, β, h, hk => by
    rw [wpOps_cons]
    obtain ⟨s', hs', hn⟩ := gopK_sound h hNG hcall (by simpa using hi 0 i rfl) hk
    exact hn _ _ fun a' w' β' h' => wpOps_sound hNG hcall hQ l os (by simpa using hl) (fun k j hj => by simpa using hi (k + 1) j (by simpa using hj)) h' hs'

theorem Sim.drew (h : Sim N w0 X0 Y β s a w) : Sim N w0 X0 Y β s a { w with drawn := w.drawn + 1 } := by
  have := h.stepR (d := none) (v := .top) (nw := []) (val := undef) (w' := { w with drawn := w.drawn + 1 }) (β' := β) rfl rfl
    ⟨rfl, rfl, rfl, ⟨Nat.le_refl _, fun _ _ _ => rfl, fun _ _ => Nat.le_refl _⟩, fun _ _ => rfl, by simp, by simp, by simp, by simp, by simp, .top _, by simp [refs, refs1, refsC]⟩
  exact this

/-- A region in its text's order. -/
theorem region_plain (h : Sim N w0 X0 Y β s a w) (hNG : NoNG P) (hcall : ∀ f args res, call f args = some res → SoundC P f args res) {id : Nat} {Q : Exit → Act → World → Prop}
    (hk : gopsK C P N call ops ops.toList s K = some r) (hQ : ∀ s' a' w' β', K s' = some r → Sim N w0 X0 Y β' s' a' w' → Q .normal a' w') : (Code.region id ops false).wp P Q a w := by
  refine wp_region (wpOps_sound hNG hcall hQ (List.range ops.size) ops.toList (by simp) (fun k i hi => ?_) h hk)
  rw [List.getElem?_range] at hi
  · simp at hi; subst hi; simp
  · rcases Nat.lt_or_ge k ops.size with h' | h'
    · exact h'
    · rw [List.getElem?_eq_none (by simpa using h')] at hi; cases hi

/- A region that draws its order. -/
def pend (n : Nat) (listed : Array Bool) : List Nat := (List.range n).filter fun i => !listed.getD i true

def Fall (ops : Array Oper) (listed : Array Bool) (o : Oper) : Prop := ∀ e ∈ o.after, Region.binds .any e = true → listed.getD e.on false = true

theorem testBit_or {a b j : Nat} : (a ||| b).testBit j = (a.testBit j || b.testBit j) := Nat.testBit_or a b j

theorem fold_bits {acc : List Nat} {j : Nat} : ∀ (es : List Edge) (v : Nat), (es.foldl (fun s e => bif Region.binds .any e then s ||| 2 ^ e.on ||| acc.getD e.on 0 else s) v).testBit j = true →
    v.testBit j = true ∨ ∃ e ∈ es, Region.binds .any e = true ∧ (j = e.on ∨ (acc.getD e.on 0).testBit j = true)
  | [], v, h => .inl h
  | e :: es, v, h => by
    rcases fold_bits es _ h with h | ⟨e', he', h⟩
    · cases hb : Region.binds .any e <;> simp only [hb] at h
      · exact .inl h
      · simp only [cond_true, Nat.testBit_or, Bool.or_eq_true] at h
        rcases h with (h | h) | h
        · exact .inl h
        · refine .inr ⟨e, by simp, hb, .inl ?_⟩
          rw [Nat.testBit_two_pow] at h
          exact (of_decide_eq_true h).symm
        · exact .inr ⟨e, by simp, hb, .inr h⟩
    · exact .inr ⟨e', by simp [he'], h⟩

theorem befores_spec {listed : Array Bool} (hc : ∀ (j : Nat) oj, ops[j]? = some oj → listed.getD j false = true → Fall ops listed oj) :
    ∀ (rest done : List Oper) (acc : List Nat), ops.toList = done ++ rest → acc.length = done.length →
      (∀ (k : Nat) o, done[k]? = some o → Fall ops listed o → ∀ j, (acc.getD k 0).testBit j = true → listed.getD j false = true) →
      ∀ (k : Nat) o, ops[k]? = some o → Fall ops listed o → ∀ j, ((befores rest acc).getD k 0).testBit j = true → listed.getD j false = true
  | [], done, acc, he, _, h, k, o, ho, hf, j, hj => by
    refine h k o ?_ hf j hj
    rw [List.append_nil] at he
    rw [← he]
    simpa using ho
  | o' :: rest, done, acc, he, hl, h, k, o, ho, hf, j, hj => by
    refine befores_spec hc rest (done ++ [o']) _ (by rw [he]; simp) (by simp [hl]) ?_ k o ho hf j hj
    intro k o ho hf j hj
    rcases Nat.lt_trichotomy k done.length with hlt | heq | hgt
    · rw [List.getElem?_append_left hlt] at ho
      rw [List.getD_eq_getElem?_getD, List.getElem?_append_left (by omega), ← List.getD_eq_getElem?_getD] at hj
      exact h k o ho hf j hj
    · subst heq
      simp at ho
      subst ho
      rw [← hl] at hj
      simp only [List.getD_eq_getElem?_getD, List.getElem?_append_right (Nat.le_refl _), Nat.sub_self, List.getElem?_cons_zero, Option.getD_some] at hj
      have hj : (o'.after.toList.foldl (fun s e => bif Region.binds .any e then s ||| 2 ^ e.on ||| acc.getD e.on 0 else s) 0).testBit j = true := by
        simpa only [List.getD_eq_getElem?_getD] using hj
      rcases fold_bits _ _ hj with h0 | ⟨e, hm, hb, h1⟩
      · simp at h0
      · have hl1 := hf e (by simpa using hm) hb
        rcases h1 with h1 | h1
        · rw [h1]; exact hl1
        · cases hd : done[e.on]? with
          | none =>
            have : acc.getD e.on 0 = 0 := by
              rw [List.getD_eq_getElem?_getD, List.getElem?_eq_none (by rw [hl]; exact List.getElem?_eq_none_iff.1 hd)]
              rfl
            rw [this] at h1
            simp at h1
          | some oe =>
            have hoe : ops[e.on]? = some oe := by
              rw [← Array.getElem?_toList, he, List.getElem?_append_left (by
                rcases Nat.lt_or_ge e.on done.length with h' | h'
                · exact h'
                · rw [List.getElem?_eq_none h'] at hd; cases hd)]
              exact hd
            exact h e.on oe hd (hc e.on oe hoe hl1) j h1
    · rw [List.getElem?_eq_none (by simp; omega)] at ho
      cases ho

theorem regOkGo_spec {bs : List Nat} : ∀ (l : List Oper) (n : Nat), regOkGo C P ops bs l n = true → ∀ (k : Nat) o, l[k]? = some o → ∀ (j : Nat) x, ops[j]? = some x → j < n + k → clash C P ops x o = true → (bs.getD (n + k) 0).testBit j = true
  | [], _, _, k, o, ho, _, _, _, _, _ => by simp at ho
  | o' :: l, n, h, k, o, ho, j, x, hx, hj, hcl => by
    simp only [regOkGo, Bool.and_eq_true] at h
    cases k with
    | zero =>
      simp at ho
      subst ho
      have := List.all_eq_true.1 h.1 (x, j) (by
        rw [List.mem_zipIdx_iff_getElem?]
        simpa using hx)
      simp only [hcl, Bool.not_true, Bool.or_false, Bool.or_eq_true, Bool.not_eq_true'] at this
      rcases this with h' | h'
      · have : Nat.blt j n = true := Nat.ble_eq_true_of_le (by omega)
        rw [this] at h'; cases h'
      · exact h'
    | succ k =>
      have := regOkGo_spec l (n + 1) h.2 k o (by simpa using ho) j x hx (by omega) hcl
      rwa [show n + (k + 1) = n + 1 + k by omega]

theorem mem_pend {n i : Nat} {listed : Array Bool} : i ∈ pend n listed ↔ i < n ∧ listed.getD i true = false := by
  unfold pend
  simp [List.mem_filter]

/-- Those that wait, in the text's order, with one taken out. -/
theorem pend_split {n i : Nat} {listed : Array Bool} (hi : i ∈ pend n listed) (hsz : listed.size = n) : ∃ l1 l2, pend n listed = l1 ++ i :: l2 ∧ pend n (listed.setIfInBounds i true) = l1 ++ l2 ∧ ∀ j ∈ l1, j < i := by
  obtain ⟨hlt, hun⟩ := mem_pend.1 hi
  have hr : List.range n = List.range i ++ i :: (List.range (n - i - 1)).map (i + 1 + ·) := by
    conv => lhs; rw [show n = i + (1 + (n - i - 1)) by omega]
    rw [List.range_add, List.range_add]
    simp [Nat.add_assoc]
  refine ⟨(List.range i).filter fun i => !listed.getD i true, ((List.range (n - i - 1)).map (i + 1 + ·)).filter fun i => !listed.getD i true, ?_, ?_, fun j hj => ?_⟩
  · unfold pend
    rw [hr, List.filter_append, List.filter_cons_of_pos (by rw [hun]; rfl)]
  · unfold pend
    rw [hr, List.filter_append, List.filter_cons_of_neg (by simp [hsz, hlt])]
    congr 1
    · refine List.filter_congr fun j hj => ?_
      rw [getD_set_ne true (by have := List.mem_range.1 hj; omega)]
    · refine List.filter_congr fun j hj => ?_
      obtain ⟨k, _, rfl⟩ := List.mem_map.1 hj
      rw [getD_set_ne true (by omega)]
  · exact List.mem_range.1 (List.mem_filter.1 hj).1

theorem has_of (h : Sim N w0 X0 Y β s a w) (o : Oper) : Has C P o s := by
  refine ⟨fun y _ i hi => opv_refs h y i hi, fun _ y _ i hi c hc p hp k hk => h.wfB i c hc p hp k hk⟩

theorem wpAny_sound' (hNG : NoNG P) (hcall : ∀ f args res, call f args = some res → SoundC P f args res) (hok : regOk C P ops = true) {Q : Exit → Act → World → Prop} (hQ : ∀ s' a' w' β', K s' = some r → Sim N w0 X0 Y β' s' a' w' → Q .normal a' w') :
    ∀ (fuel : Nat) {listed : Array Bool} {s : St} {a : Act} {w : World} {β : Bt}, HeadInv .any ops ops.size listed → (pend ops.size listed).length = fuel → Sim N w0 X0 Y β s a w → gopsK C P N call ops ((pend ops.size listed).filterMap (ops[·]?)) s K = some r → wpAny P .any ops Q fuel listed a w := by
  unfold regOk at hok
  simp only [Bool.and_eq_true] at hok
  obtain ⟨hok1, hok2⟩ := hok
  -- nobody is ready: nobody waits
  have done : ∀ {listed : Array Bool}, HeadInv .any ops ops.size listed → Region.ready .any ops listed = [] → pend ops.size listed = [] := by
    intro listed inv hr
    cases hp : pend ops.size listed with
    | nil => rfl
    | cons i l =>
      exfalso
      have hi : i ∈ pend ops.size listed := by rw [hp]; simp
      obtain ⟨hlt, hun⟩ := mem_pend.1 hi
      obtain ⟨l1, l2, h1, _, h3⟩ := pend_split hi inv.size
      have hl1 : l1 = [] := by
        cases l1 with
        | nil => rfl
        | cons j l1 =>
          rw [hp] at h1
          simp at h1
          have := h3 j (by simp)
          omega
      subst hl1
      have hmin : ∀ j, j < i → listed.getD j false = true := by
        intro j hj
        cases hh : listed.getD j false with
        | true => rfl
        | false =>
          have : j ∈ pend ops.size listed := mem_pend.2 ⟨by omega, getD_in (by rw [inv.size]; omega) hh⟩
          -- the list of those that wait is sorted
          have hs : (pend ops.size listed).Pairwise (· < ·) := List.Pairwise.filter _ List.pairwise_lt_range
          rw [h1] at this hs
          simp at this
          rcases this with e | e
          · omega
          · have := (List.pairwise_cons.1 hs).1 j e
            omega
      have : i ∈ Region.ready .any ops listed := by
        refine mem_ready.2 ⟨hun, ops[i], Array.getElem?_eq_getElem hlt, fun e he hb => hmin _ ?_⟩
        have := List.all_eq_true.1 hok1 (ops[i], i) (by
          rw [List.mem_zipIdx_iff_getElem?]
          simp [hlt])
        have := List.all_eq_true.1 this e (Array.mem_toList_iff.2 he)
        simp only [hb, Bool.not_true, Bool.false_or] at this
        exact Nat.lt_of_succ_le (Nat.le_of_ble_eq_true this)
      rw [hr] at this
      simp at this
  intro fuel
  induction fuel with
  | zero =>
    intro listed s a w β inv hf h hk
    have hp := List.eq_nil_of_length_eq_zero hf
    rw [hp] at hk
    refine ⟨?_, hQ s a w β hk h⟩
    cases hr : Region.ready .any ops listed with
    | nil => rfl
    | cons i l =>
      exfalso
      have hi : i ∈ Region.ready .any ops listed := by rw [hr]; simp
      obtain ⟨hun, o, ho, _⟩ := mem_ready.1 hi
      have : i ∈ pend ops.size listed := mem_pend.2 ⟨(Array.getElem?_eq_some_iff.1 ho).1, hun⟩
      rw [hp] at this
      simp at this
  | succ fuel ih =>
    intro listed s a w β inv hf h hk
    refine ⟨fun hr => ?_, fun i hi => ?_⟩
    · rw [done inv hr] at hf
      cases hf
    · obtain ⟨hun, o, ho, hall⟩ := mem_ready.1 hi
      have hlt : i < ops.size := (Array.getElem?_eq_some_iff.1 ho).1
      obtain ⟨l1, l2, h1, h2, h3⟩ := pend_split (mem_pend.2 ⟨hlt, hun⟩) inv.size
      rw [h1, List.filterMap_append, List.filterMap_cons_some ho] at hk
      have hap : ∀ x ∈ l1.filterMap (ops[·]?), Apart C P ops x o := by
        intro x hx
        obtain ⟨j, hj, hxj⟩ := List.mem_filterMap.1 hx
        refine apart_of ?_
        cases hcl : clash C P ops x o with
        | false => rfl
        | true =>
          exfalso
          have hbit := regOkGo_spec ops.toList 0 hok2 i o (by simpa using ho) j x hxj (by have := h3 j hj; omega) hcl
          rw [Nat.zero_add] at hbit
          have hjl := befores_spec (listed := listed) (fun j oj hj hl => inv.closed j oj hj hl) ops.toList [] [] (by simp) rfl (by simp) i o ho hall j hbit
          have : j ∈ pend ops.size listed := by rw [h1]; simp [hj]
          have := getD_both (mem_pend.1 this).2
          rw [hjl] at this
          cases this
      obtain ⟨s', hs', hn⟩ := gopK_sound h hNG hcall ho (gops_take (has_of h o) hap hk)
      refine hn _ _ fun a' w' β' h' => ih (inv.set hi hlt) ?_ h' ?_
      · rw [h2]; rw [h1] at hf; simp at hf ⊢; omega
      · rw [h2, List.filterMap_append]; exact hs'

/-- A region that draws its order. -/
theorem region_drawn (h : Sim N w0 X0 Y β s a w) (hNG : NoNG P) (hcall : ∀ f args res, call f args = some res → SoundC P f args res) (hm : P.follows .mixedOrders = true) (hok : regOk C P ops = true) {id : Nat} {Q : Exit → Act → World → Prop}
    (hk : gopsK C P N call ops ops.toList s K = some r) (hQ : ∀ s' a' w' β', K s' = some r → Sim N w0 X0 Y β' s' a' w' → Q .normal a' w') : (Code.region id ops true).wp P Q a w := by
  have hp : pend ops.size (Array.replicate ops.size false) = List.range ops.size := by
    unfold pend
    refine List.filter_eq_self.2 fun i hi => ?_
    have := List.mem_range.1 hi
    simp [this]
  refine wp_region_any hm (wpAny_sound' (C := C) hNG hcall hok hQ ops.size ⟨by simp, fun j oj _ hl => (by rw [getD_replicate_false] at hl; cases hl), fun t ht ht' => by omega⟩ (by rw [hp]; simp) h.drew ?_)
  rw [hp]
  have : (List.range ops.size).filterMap (ops[·]?) = ops.toList := by
    refine List.ext_getElem? fun k => ?_
    have : ∀ (n : Nat), n ≤ ops.size → (List.range n).filterMap (ops[·]?) = ops.toList.take n := by
      intro n
      induction n with
      | zero => intro _; rfl
      | succ n ih =>
        intro hn
        rw [List.range_succ, List.filterMap_append, ih (by omega), List.take_add_one]
        congr 1
        have : ops[n]? = some ops[n] := Array.getElem?_eq_getElem (by omega)
        simp [this]
    rw [this ops.size (Nat.le_refl _)]
    congr 1
    exact List.take_of_length_le (by simp)
  rw [this]
  exact hk
end

end Go.Proofs.Ytaphhfehcbkfkaa.Pv

namespace Go.Proofs.Ytaphhfehcbkfkaa.Pv
open Go.RowKit

section
variable {R : Type} {r : R} {N : Nat} {w0 : World} {X0 : Lend} {Y : Nat → Prop} {β β' : Bt} {s : St} {a : Act} {w w' : World}

theorem put_self {i : Nat} (hi : i < a.tmps.size) : a.put (some i) (a.tmps.getD i undef) = a := by
  obtain ⟨tmps, dfr⟩ := a
  change i < tmps.size at hi
  have : tmps.setIfInBounds i (tmps.getD i undef) = tmps := by
    apply Array.ext_getElem?
    intro k
    by_cases e : i = k
    · subst e
      simp [hi]
    · rw [Array.getElem?_setIfInBounds_ne e]
  simp only [Act.put, this]

theorem lst_nil {A : Nat → Prop} {es : Nat} {v : Value} (h : TRep w A (.lst true es 0 []) v) : v = .slice none 0 0 := by
  cases h; rfl

/-- A new box that is an empty row of nobody's. -/
theorem stepNil {id : Nat} (hid : s.hp id = none) {v : PV} {val : Value} (hv : VRep w (Aof (addBoxes s.hp [(id, .ar false [])]) (upd β id none) Y) (upd β id none) v val) (hr : ∀ i ∈ refs v, s.hp i ≠ none ∨ i = id) :
    StepR Y β s w v [(id, .ar false [])] val w (upd β id none) := by
  refine ⟨rfl, rfl, rfl, WStep.refl _ _, fun j hj => upd_other _ _ (by rintro rfl; exact hj hid), ?_, ?_, ?_, ?_, ?_, hv, ?_⟩
  · intro j bx hm; simp at hm; rw [hm.2]; trivial
  · intro j bx hm; simp at hm; obtain ⟨rfl, rfl⟩ := hm; exact .inl ⟨upd_same _ _ _, rfl⟩
  · intro j bx k q hm hq; simp at hm; obtain ⟨rfl, rfl⟩ := hm; rw [upd_same] at hq; cases hq
  · intro j bx j' bx' k q q' hm hm' _ _; simp at hm hm'; rw [hm.1, hm'.1]
  · intro j cells hm; simp at hm
  · intro j hj
    rcases hr j hj with h | rfl
    · exact .inl h
    · exact .inr ⟨.ar false [], by simp⟩

theorem nilSlot_sound (h : Sim N w0 X0 Y β s a w) (i : Nat) : ∃ β', Sim N w0 X0 Y β' (nilSlot s i) a w := by
  unfold nilSlot
  split
  · rename_i es ht
    cases hn : (s.hp i).isNone
    · exact ⟨β, h⟩
    · have hn : s.hp i = none := by simpa using hn
      have hlt : i < N := by
        rcases Nat.lt_or_ge i N with h' | h'
        · exact h'
        · rw [h.tmo i h'] at ht; cases ht
      have hv := h.tms i hlt
      rw [ht] at hv
      have hv := lst_nil hv
      have hd : dstOk N (some i) = true := by simp [dstOk, Nat.blt]; omega
      have := h.stepR (d := some i) hd (by simp [absent, hn]) (stepNil (v := .view i es 0 0) (val := .slice none 0 0) hn (.inl ⟨upd_same _ _ _, rfl, rfl, rfl⟩) (by simp [refs, refs1, refsC]))
      rw [← hv, put_self (by rw [h.tsz]; exact hlt)] at this
      exact ⟨_, this⟩
  · exact ⟨β, h⟩

/-- Cells of a variable, told otherwise. -/
theorem Sim.recell (h : Sim N w0 X0 Y β s a w) {id : Nat} {c c' : List PV} (h0 : s.hp id = some (.st c)) (hl : c'.length = c.length)
    (hc : ∀ (j : Nat) p, c'[j]? = some p → ∃ q, c[j]? = some q ∧ (∀ v, CRep w (Aof s.hp β Y) β q v → CRep w (Aof s.hp β Y) β p v) ∧ ∀ i ∈ refsC p, s.hp i ≠ none) :
    Sim N w0 X0 Y β ⟨s.tm, upd s.hp id (some (.st c'))⟩ a w := by
  have hlive : ∀ i, liveB (upd s.hp id (some (.st c')) i) ↔ liveB (s.hp i) := by
    intro i
    by_cases e : i = id
    · subst e; rw [upd_same, h0]; exact Iff.rfl
    · rw [upd_other _ _ e]
  have hX : Xof (upd s.hp id (some (.st c'))) β = Xof s.hp β := by
    funext b
    apply propext
    constructor
    · rintro ⟨i, o, hl, hb⟩; exact ⟨i, o, (hlive i).1 hl, hb⟩
    · rintro ⟨i, o, hl, hb⟩; exact ⟨i, o, (hlive i).2 hl, hb⟩
  have hA : Aof (upd s.hp id (some (.st c'))) β Y = Aof s.hp β Y := by
    funext b; unfold Aof; rw [hX]
  have hne : ∀ i, s.hp i ≠ none → upd s.hp id (some (.st c')) i ≠ none := by
    intro i hi
    by_cases e : i = id
    · subst e; rw [upd_same]; simp
    · rw [upd_other _ _ e]; exact hi
  have hne' : ∀ i, upd s.hp id (some (.st c')) i ≠ none → s.hp i ≠ none := by
    intro i hi
    by_cases e : i = id
    · subst e; rw [h0]; simp
    · rw [upd_other _ _ e] at hi; exact hi
  refine ⟨h.dfr, h.tsz, h.tmo, ?_, ?_, ?_, ?_, ?_, ?_, ?_, ?_, fun i hi => ⟨hne _ (h.pin i hi).1, (h.pin i hi).2⟩, ?_, ?_, h.Ylt, h.fr⟩
  · intro i hi
    show VRep w (Aof (upd s.hp id _) β Y) β _ _
    rw [hA]
    exact h.tms i hi
  · intro i b hb
    show BRep w (Aof (upd s.hp id _) β Y) β i b
    rw [hA]
    by_cases e : i = id
    · subst e
      change upd s.hp i (some (.st c')) i = some b at hb
      rw [upd_same] at hb
      cases hb
      obtain ⟨b, o, h1, h2, h3⟩ := h.box i _ h0
      refine ⟨b, o, h1, fun j p hj => ?_, fun j hj => h3 j (by rw [← hl]; exact hj)⟩
      obtain ⟨q, hq, hqp, _⟩ := hc j p hj
      obtain ⟨v, hv, hr⟩ := h2 j q hq
      exact ⟨v, hv, hqp v hr⟩
    · change upd s.hp id (some (.st c')) i = some b at hb
      rw [upd_other _ _ e] at hb
      exact h.box i b hb
  · intro i i' b o o' hl hl' hb hb'
    exact h.inj i i' b o o' ((hlive i).1 hl) ((hlive i').1 hl') hb hb'
  · intro i b o hn hb
    exact h.blt i b o (hne' i hn) hb
  · intro i hi j hj
    exact hne j (h.wfT i hi j hj)
  · intro i cells hb p hp j hj
    change upd s.hp id (some (.st c')) i = _ at hb
    by_cases e : i = id
    · subst e
      rw [upd_same] at hb
      cases hb
      obtain ⟨k, hk⟩ := List.mem_iff_getElem?.1 hp
      obtain ⟨_, _, _, hr⟩ := hc k p hk
      exact hne j (hr j hj)
    · rw [upd_other _ _ e] at hb
      exact hne j (h.wfB i cells hb p hp j hj)
  · intro b hb
    exact h.ownd b (by rw [← hX]; exact hb)
  · intro i bx b o hb hlb hβ hlt j hj
    change upd s.hp id (some (.st c')) i = some bx at hb
    by_cases e : i = id
    · subst e
      rw [upd_same] at hb
      cases hb
      exact h.rngB i _ b o h0 trivial hβ hlt j (by unfold BR at hj ⊢; simp only [hl] at hj; exact hj)
    · rw [upd_other _ _ e] at hb
      exact h.rngB i bx b o hb hlb hβ hlt j hj
  · intro i c1 b o hb hβ hlt
    change upd s.hp id (some (.st c')) i = _ at hb
    by_cases e : i = id
    · subst e
      exact h.stp i c b o h0 hβ hlt
    · rw [upd_other _ _ e] at hb
      exact h.stp i c1 b o hb hβ hlt
  · intro b hY hb
    exact h.Yx b hY (by rw [← hX]; exact hb)

theorem nilCell_sound (h : Sim N w0 X0 Y β s a w) (id j : Nat) : ∃ β', Sim N w0 X0 Y β' (nilCell N id s j) a w := by
  unfold nilCell
  split
  · rename_i c h0
    split
    · rename_i es hj
      cases hn : (s.hp (id + N * (j + 1))).isNone
      · exact ⟨β, h⟩
      · have hn : s.hp (id + N * (j + 1)) = none := by simpa using hn
        have hne : id ≠ id + N * (j + 1) := by
          intro e
          rw [← e, h0] at hn
          cases hn
        have h1 := h.stepR (d := none) (v := .top) (val := undef) rfl (by simp [absent, hn]) (stepNil hn (.top _) (by simp [refs, refs1, refsC]))
        change Sim N w0 X0 Y (upd β (id + N * (j + 1)) none) ⟨s.tm, upd s.hp (id + N * (j + 1)) (some (.ar false []))⟩ a w at h1
        have h2 := h1.recell (id := id) (c := c) (c' := c.set j (.view (id + N * (j + 1)) es 0 0)) (by show upd _ _ _ _ = _; rw [upd_other _ _ hne]; exact h0) (by simp) (by
          intro k p hp
          by_cases e : k = j
          · subst e
            have hlt : k < c.length := by
              rcases Nat.lt_or_ge k c.length with h' | h'
              · exact h'
              · rw [List.getElem?_eq_none h'] at hj; cases hj
            rw [List.getElem?_set_self hlt] at hp
            cases hp
            refine ⟨_, hj, fun v hv => .inl ⟨upd_same _ _ _, rfl, rfl, lst_nil hv⟩, fun i hi => ?_⟩
            simp [refsC] at hi
            subst hi
            show upd _ _ _ _ ≠ none
            rw [upd_same]
            simp
          · rw [List.getElem?_set_ne (fun h => e h.symm)] at hp
            refine ⟨p, hp, fun _ hv => hv, fun i hi => ?_⟩
            have := h.wfB id c h0 p (List.mem_of_getElem? hp) i hi
            show upd _ _ _ _ ≠ none
            by_cases e' : i = id + N * (j + 1)
            · subst e'; rw [upd_same]; simp
            · rw [upd_other _ _ e']; exact this)
        refine ⟨upd β (id + N * (j + 1)) none, ?_⟩
        have e3 : upd (upd s.hp (id + N * (j + 1)) (some (.ar false []))) id (some (.st (c.set j (.view (id + N * (j + 1)) es 0 0)))) = upd (upd s.hp id (some (.st (c.set j (.view (id + N * (j + 1)) es 0 0))))) (id + N * (j + 1)) (some (.ar false [])) := upd_comm _ _ _ (fun h => hne h.symm)
        change Sim N w0 X0 Y (upd β (id + N * (j + 1)) none) ⟨s.tm, upd (upd s.hp (id + N * (j + 1)) (some (.ar false []))) id (some (.st (c.set j (.view (id + N * (j + 1)) es 0 0))))⟩ a w at h2
        rw [e3] at h2
        exact h2
    · exact ⟨β, h⟩
  · exact ⟨β, h⟩

theorem foldl_sound {f : St → Nat → St} (hf : ∀ s β, Sim N w0 X0 Y β s a w → ∀ i, ∃ β', Sim N w0 X0 Y β' (f s i) a w) : ∀ (l : List Nat) {s : St} {β : Bt}, Sim N w0 X0 Y β s a w → ∃ β', Sim N w0 X0 Y β' (l.foldl f s) a w
  | [], _, β, h => ⟨β, h⟩
  | i :: l, s, β, h => by
    obtain ⟨β1, h1⟩ := hf s β h i
    exact foldl_sound hf l h1

theorem nilBox_sound (h : Sim N w0 X0 Y β s a w) (i : Nat) : ∃ β', Sim N w0 X0 Y β' (nilBox N s i) a w := by
  unfold nilBox
  split
  · split
    · exact foldl_sound (fun s β h i => nilCell_sound h _ i) _ h
    · exact ⟨β, h⟩
  · exact ⟨β, h⟩

/- New names. -/
theorem nodup_snd : ∀ {m : List (Nat × Nat)}, nodupB (m.map (·.2)) = true → ∀ {i i' j : Nat}, (i, j) ∈ m → (i', j) ∈ m → i = i'
  | [], _, _, _, _, h, _ => by simp at h
  | (x, y) :: m, hn, i, i', j, h, h' => by
    simp only [List.map_cons, nodupB, Bool.and_eq_true, Bool.not_eq_true'] at hn
    have hy : ∀ k, (k, y) ∉ m := by
      intro k hk
      exact any_beq hn.1 (List.mem_map.2 ⟨(k, y), hk, rfl⟩)
    rcases List.mem_cons.1 h with e | h
    · cases e
      rcases List.mem_cons.1 h' with e | h'
      · cases e; rfl
      · exact absurd h' (hy _)
    · rcases List.mem_cons.1 h' with e | h'
      · cases e; exact absurd h (hy _)
      · exact nodup_snd hn.2 h h'
theorem nodup_fst : ∀ {m : List (Nat × Nat)}, nodupB (m.map (·.1)) = true → ∀ {i j j' : Nat}, (i, j) ∈ m → (i, j') ∈ m → j = j'
  | [], _, _, _, _, h, _ => by simp at h
  | (x, y) :: m, hn, i, j, j', h, h' => by
    simp only [List.map_cons, nodupB, Bool.and_eq_true, Bool.not_eq_true'] at hn
    have hx : ∀ k, (x, k) ∉ m := by
      intro k hk
      exact any_beq hn.1 (List.mem_map.2 ⟨(x, k), hk, rfl⟩)
    rcases List.mem_cons.1 h with e | h
    · cases e
      rcases List.mem_cons.1 h' with e | h'
      · cases e; rfl
      · exact absurd h' (hx _)
    · rcases List.mem_cons.1 h' with e | h'
      · cases e; exact absurd h (hx _)
      · exact nodup_fst hn.2 h h'

theorem beq_false_ne {i j : Nat} (h : Nat.beq i j = false) : i ≠ j := by rintro rfl; rw [Nat.beq_refl] at h; cases h

theorem lkn_mem : ∀ {m : List (Nat × Nat)} {i j : Nat}, lkn m i = some j → (i, j) ∈ m
  | [], _, _, h => by cases h
  | (x, y) :: m, i, j, h => by
    unfold lkn at h
    cases hb : Nat.beq i x <;> rw [hb] at h
    · exact List.mem_cons_of_mem _ (lkn_mem h)
    · have := Nat.eq_of_beq_eq_true hb
      cases h
      rw [this]
      simp

theorem newHp_mem {m : List (Nat × Nat)} {hp : Nat → Option Box} : ∀ {l : List (Nat × Nat)} {j : Nat} {b : Box}, lkh (newHp m hp l) j = some b → ∃ i b0, (i, j) ∈ l ∧ hp i = some b0 ∧ b = renB m b0
  | [], _, _, h => by cases h
  | (x, y) :: l, j, b, h => by
    unfold newHp at h
    cases hx : hp x with
    | none =>
      rw [hx] at h
      obtain ⟨i, b0, h1, h2⟩ := newHp_mem h
      exact ⟨i, b0, List.mem_cons_of_mem _ h1, h2⟩
    | some bx =>
      rw [hx] at h
      simp only [lkh] at h
      cases hb : Nat.beq j y <;> rw [hb] at h
      · obtain ⟨i, b0, h1, h2⟩ := newHp_mem h
        exact ⟨i, b0, List.mem_cons_of_mem _ h1, h2⟩
      · have := Nat.eq_of_beq_eq_true hb
        subst this
        cases h
        exact ⟨x, bx, by simp, hx, rfl⟩

theorem newHp_some {m : List (Nat × Nat)} {hp : Nat → Option Box} : ∀ {l : List (Nat × Nat)} {i j : Nat}, (i, j) ∈ l → hp i ≠ none → lkh (newHp m hp l) j ≠ none
  | [], _, _, h, _ => by simp at h
  | (x, y) :: l, i, j, h, hi => by
    unfold newHp
    cases hx : hp x with
    | none =>
      rcases List.mem_cons.1 h with e | h
      · cases e; exact absurd hx hi
      · exact newHp_some h hi
    | some bx =>
      simp only [lkh]
      cases hb : Nat.beq j y
      · rcases List.mem_cons.1 h with e | h
        · cases e; exact absurd rfl (beq_false_ne hb)
        · exact newHp_some h hi
      · simp

def lkr (m : List (Nat × Nat)) (j : Nat) : Option Nat :=
  match m with
  | [] => none
  | (x, y) :: r => bif Nat.beq j y then some x else lkr r j

theorem lkr_mem : ∀ {m : List (Nat × Nat)} {i j : Nat}, lkr m j = some i → (i, j) ∈ m
  | [], _, _, h => by cases h
  | (x, y) :: m, i, j, h => by
    unfold lkr at h
    cases hb : Nat.beq j y <;> rw [hb] at h
    · exact List.mem_cons_of_mem _ (lkr_mem h)
    · have := Nat.eq_of_beq_eq_true hb
      cases h
      rw [this]
      simp
theorem lkr_some : ∀ {m : List (Nat × Nat)} {i j : Nat}, (i, j) ∈ m → ∃ k, lkr m j = some k
  | [], _, _, h => by simp at h
  | (x, y) :: m, i, j, h => by
    unfold lkr
    cases hb : Nat.beq j y
    · rcases List.mem_cons.1 h with e | h
      · cases e; exact absurd rfl (beq_false_ne hb)
      · exact lkr_some h
    · exact ⟨x, rfl⟩

theorem lk_map {f : Nat → PV} : ∀ {l : List Nat} {i : Nat}, lk (l.map fun i => (i, f i)) i = if i ∈ l then f i else .top
  | [], _ => rfl
  | x :: l, i => by
    simp only [List.map_cons, lk]
    cases hb : Nat.beq i x
    · have := beq_false_ne hb
      simp only [cond_false, lk_map, List.mem_cons, this, false_or]
    · have := Nat.eq_of_beq_eq_true hb
      subst this
      simp

theorem bitsOn_lt {m : Nat} : ∀ {n i : Nat}, i ∈ bitsOn m n → i < n
  | 0, _, h => by simp [bitsOn] at h
  | n + 1, i, h => by
    simp only [bitsOn, List.mem_append] at h
    rcases h with h | h
    · have := bitsOn_lt h; omega
    · cases hb : m.testBit n <;> rw [hb] at h
      · simp at h
      · simp at h; omega

theorem rename_sound (h : Sim N w0 X0 Y β s a w) {m : List (Nat × Nat)} (h1 : nodupB (m.map (·.1)) = true) (h2 : nodupB (m.map (·.2)) = true) {ls : List Nat} (hls : ∀ i ∈ ls, i < N) (hpn : ∀ i, X0.pn i → (pinId N i, pinId N i) ∈ m) :
    ∃ β', Sim N w0 X0 Y β' ⟨lk (ls.map fun i => (i, renV m (s.tm i))), lkh (newHp m s.hp m)⟩ a w := by
  refine ⟨fun j => (lkr m j).bind β, ?_⟩
  have hβ : ∀ {i j : Nat}, (i, j) ∈ m → (lkr m j).bind β = β i := by
    intro i j hm
    obtain ⟨k, hk⟩ := lkr_some hm
    rw [hk]
    have := nodup_snd h2 (lkr_mem hk) hm
    subst this
    rfl
  have hold : ∀ {j : Nat} {b : Box}, lkh (newHp m s.hp m) j = some b → ∃ i b0, (i, j) ∈ m ∧ s.hp i = some b0 ∧ b = renB m b0 ∧ (lkr m j).bind β = β i := by
    intro j b hb
    obtain ⟨i, b0, hm, h3, h4⟩ := newHp_mem hb
    exact ⟨i, b0, hm, h3, h4, hβ hm⟩
  have hlive : ∀ {j : Nat}, liveB (lkh (newHp m s.hp m) j) → ∃ i, (i, j) ∈ m ∧ liveB (s.hp i) ∧ (lkr m j).bind β = β i := by
    intro j hl
    cases hb : lkh (newHp m s.hp m) j with
    | none => rw [hb] at hl; exact hl.elim
    | some b =>
      obtain ⟨i, b0, hm, h3, rfl, h5⟩ := hold hb
      refine ⟨i, hm, ?_, h5⟩
      rw [hb] at hl
      rw [h3]
      cases b0 <;> exact hl
  have hX : ∀ b, Xof (lkh (newHp m s.hp m)) (fun j => (lkr m j).bind β) b → Xof s.hp β b := by
    rintro b ⟨j, o, hl, hb⟩
    obtain ⟨i, _, hl', e⟩ := hlive hl
    exact ⟨i, o, hl', by rw [← e]; exact hb⟩
  have hA : ∀ b, Aof (lkh (newHp m s.hp m)) (fun j => (lkr m j).bind β) Y b → Aof s.hp β Y b := fun b hb => hb.imp (hX b) id
  have hC : ∀ p v, CRep w (Aof s.hp β Y) β p v → CRep w (Aof (lkh (newHp m s.hp m)) (fun j => (lkr m j).bind β) Y) (fun j => (lkr m j).bind β) (renC m p) v := by
    intro p v hp
    cases p with
    | view id es off n =>
      show CRep _ _ _ (match lkn m id with | some j => .view j es off n | none => .top) v
      cases hj : lkn m id with
      | some j =>
        have e := hβ (lkn_mem hj)
        rcases hp with ⟨e1, e2⟩ | ⟨b, o, x, cap, e1, e2⟩
        · exact .inl ⟨by show (lkr m j).bind β = none; rw [e]; exact e1, e2⟩
        · exact .inr ⟨b, o, x, cap, by show (lkr m j).bind β = _; rw [e]; exact e1, e2⟩
      | none => exact TRep.top _
    | ptr id off =>
      show CRep _ _ _ (match lkn m id with | some j => .ptr j off | none => .top) v
      cases hj : lkn m id with
      | some j =>
        have e := hβ (lkn_mem hj)
        obtain ⟨b, o, e1, e2⟩ := hp
        exact ⟨b, o, by show (lkr m j).bind β = _; rw [e]; exact e1, e2⟩
      | none => exact TRep.top _
    | sc v => exact TRep.step (WStep.refl _ _) (fun b _ => hA b) hp
    | lst z es n c => exact TRep.step (WStep.refl _ _) (fun b _ => hA b) hp
    | iptr c off => exact CRep.step (p := .iptr c off) (WStep.refl _ _) (fun b _ => hA b) (by simp [refsC]) hp
    | _ => exact TRep.top _
  have hV : ∀ p v, VRep w (Aof s.hp β Y) β p v → VRep w (Aof (lkh (newHp m s.hp m)) (fun j => (lkr m j).bind β) Y) (fun j => (lkr m j).bind β) (renV m p) v := by
    intro p v hp
    cases p with
    | agg c =>
      obtain ⟨vs, e1, e2⟩ := hp
      refine ⟨vs, e1, All2.of_at (by simp; exact e2.len) fun i q u hq hu => ?_⟩
      rw [List.getElem?_map] at hq
      cases hc : c[i]? with
      | none => rw [hc] at hq; cases hq
      | some q0 =>
        rw [hc] at hq
        cases hq
        exact hC _ _ (e2.at_ hc hu)
    | view id es off n =>
      have := hC (.view id es off n) v hp
      change CRep _ _ _ (match lkn m id with | some j => .view j es off n | none => .top) v at this
      show VRep _ _ _ (match lkn m id with | some j => .view j es off n | none => .top) v
      cases hj : lkn m id <;> rw [hj] at this <;> exact this
    | ptr id off =>
      have := hC (.ptr id off) v hp
      change CRep _ _ _ (match lkn m id with | some j => .ptr j off | none => .top) v at this
      show VRep _ _ _ (match lkn m id with | some j => .ptr j off | none => .top) v
      cases hj : lkn m id <;> rw [hj] at this <;> exact this
    | sc v' => exact hC (.sc v') v hp
    | lst z es n c => exact hC (.lst z es n c) v hp
    | iptr c off => exact hC (.iptr c off) v hp
    | _ => exact TRep.top _
  have hrC : ∀ p i, i ∈ refsC (renC m p) → ∃ k ∈ refsC p, (k, i) ∈ m := by
    intro p i hi
    cases p with
    | view id es off n =>
      change i ∈ refsC (match lkn m id with | some j => .view j es off n | none => .top) at hi
      cases hj : lkn m id <;> rw [hj] at hi
      · simp [refsC] at hi
      · simp [refsC] at hi
        subst hi
        exact ⟨id, by simp [refsC], lkn_mem hj⟩
    | ptr id off =>
      change i ∈ refsC (match lkn m id with | some j => .ptr j off | none => .top) at hi
      cases hj : lkn m id <;> rw [hj] at hi
      · simp [refsC] at hi
      · simp [refsC] at hi
        subst hi
        exact ⟨id, by simp [refsC], lkn_mem hj⟩
    | _ => simp [renC, refsC] at hi
  have hrV : ∀ p i, i ∈ refs (renV m p) → ∃ k ∈ refs p, (k, i) ∈ m := by
    intro p i hi
    cases p with
    | agg c =>
      simp only [renV, refs, refs1, List.mem_flatMap, List.mem_map] at hi
      obtain ⟨_, ⟨q, hq, rfl⟩, hi⟩ := hi
      obtain ⟨k, hk, hm⟩ := hrC q i hi
      exact ⟨k, by simp only [refs, refs1, List.mem_flatMap]; exact ⟨q, hq, hk⟩, hm⟩
    | view id es off n =>
      refine (hrC (.view id es off n) i ?_).imp fun k hk => hk
      change i ∈ refs (match lkn m id with | some j => .view j es off n | none => .top) at hi
      show i ∈ refsC (match lkn m id with | some j => .view j es off n | none => .top)
      cases hj : lkn m id <;> rw [hj] at hi <;> exact hi
    | ptr id off =>
      refine (hrC (.ptr id off) i ?_).imp fun k hk => hk
      change i ∈ refs (match lkn m id with | some j => .ptr j off | none => .top) at hi
      show i ∈ refsC (match lkn m id with | some j => .ptr j off | none => .top)
      cases hj : lkn m id <;> rw [hj] at hi <;> exact hi
    | _ => simp [renV, renC, refs, refs1, refsC] at hi
  refine ⟨h.dfr, h.tsz, ?_, ?_, ?_, ?_, ?_, ?_, ?_, ?_, ?_, ?_, ?_, ?_, h.Ylt, h.fr⟩
  · intro i hi
    show lk _ i = _
    rw [lk_map, if_neg (fun hm => by have := hls i hm; omega)]
  · intro i hi
    show VRep w _ _ (lk _ i) _
    rw [lk_map]
    split
    · exact hV _ _ (h.tms i hi)
    · exact TRep.top _
  · intro j b hb
    obtain ⟨i, b0, hm, h3, rfl, e⟩ := hold hb
    have hbx := h.box i b0 h3
    cases b0 with
    | st c =>
      obtain ⟨b, o, e1, e2, e3⟩ := hbx
      refine ⟨b, o, by show (lkr m j).bind β = _; rw [e]; exact e1, fun k p hp => ?_, fun k hk => e3 k (by simpa using hk)⟩
      rw [List.getElem?_map] at hp
      cases hc : c[k]? with
      | none => rw [hc] at hp; cases hp
      | some q =>
        rw [hc] at hp
        cases hp
        obtain ⟨v, hv, hr⟩ := e2 k q hc
        exact ⟨v, hv, hC _ _ hr⟩
    | ar fz c =>
      have := BRep.step' hA hbx
      show BRep _ _ _ _ (.ar fz c)
      rcases this with ⟨e1, e2⟩ | ⟨b, o, e1, e2⟩
      · exact .inl ⟨by show (lkr m j).bind β = _; rw [e]; exact e1, e2⟩
      · exact .inr ⟨b, o, by show (lkr m j).bind β = _; rw [e]; exact e1, e2⟩
    | mv => exact trivial
  · intro j j' b o o' hl hl' hb hb'
    obtain ⟨i, hm, hl1, e⟩ := hlive hl
    obtain ⟨i', hm', hl1', e'⟩ := hlive hl'
    have := h.inj i i' b o o' hl1 hl1' (by rw [← e]; exact hb) (by rw [← e']; exact hb')
    subst this
    exact nodup_fst h1 hm hm'
  · intro j b o hn hb
    cases hj : lkh (newHp m s.hp m) j with
    | none => exact absurd hj hn
    | some bx =>
      obtain ⟨i, b0, _, h3, _, e⟩ := hold hj
      exact h.blt i b o (by rw [h3]; simp) (by rw [← e]; exact hb)
  · intro i hi j hj
    change j ∈ refs (lk _ i) at hj
    rw [lk_map] at hj
    split at hj
    · obtain ⟨k, hk, hm⟩ := hrV _ j hj
      exact newHp_some hm (h.wfT i hi k hk)
    · simp [refs, refs1, refsC] at hj
  · intro j cells hb p hp k hk
    obtain ⟨i, b0, _, h3, h4, _⟩ := hold hb
    cases b0 with
    | st c =>
      cases h4
      obtain ⟨q, hq, rfl⟩ := List.mem_map.1 hp
      obtain ⟨k', hk', hm⟩ := hrC q k hk
      exact newHp_some hm (h.wfB i c h3 q hq k' hk')
    | ar fz c => cases h4
    | mv => cases h4
  · intro b hb
    exact h.ownd b (hX b hb)
  · intro j bx b o hb hlb hβ1 hlt k hk
    obtain ⟨i, b0, _, h3, h4, e⟩ := hold hb
    subst h4
    refine h.rngB i b0 b o h3 ?_ (by rw [← e]; exact hβ1) hlt k ?_
    · cases b0 <;> exact hlb
    · cases b0 with
      | st c => simpa [BR, renB] using hk
      | ar fz c => exact hk
      | mv => exact hk
  · intro i hi
    exact ⟨newHp_some (hpn i hi) (h.pin i hi).1, (hβ (hpn i hi)).trans (h.pin i hi).2⟩
  · intro j c b o hb hβ1 hlt
    obtain ⟨i, b0, hm, h3, h4, e⟩ := hold hb
    cases b0 with
    | st c0 =>
      obtain ⟨k, rfl, hk⟩ := h.stp i c0 b o h3 (by rw [← e]; exact hβ1) hlt
      exact ⟨k, nodup_fst h1 hm (hpn k hk), hk⟩
    | ar fz c0 => cases h4
    | mv => cases h4
  · intro b hY hb
    exact h.Yx b hY (hX b hb)

theorem addId_mem {m : List (Nat × Nat)} {q : Nat × Nat} {o n : Nat} (h : q ∈ m) : q ∈ addId m o n := by
  unfold addId
  split
  · exact h
  · exact List.mem_append.2 (.inl h)

theorem cellIds_mem {q : Nat × Nat} {new : Nat} : ∀ {c : List PV} {j : Nat} {m : List (Nat × Nat)}, q ∈ m → q ∈ cellIds N new c j m
  | [], _, _, h => h
  | p :: c, j, m, h => by
    unfold cellIds
    split
    · rename_i e; cases e
    · rename_i e; cases e; exact cellIds_mem (addId_mem h)
    · rename_i e; cases e; exact cellIds_mem h

theorem namesOf_mem {q : Nat × Nat} {m : List (Nat × Nat)} {i : Nat} (h : q ∈ m) : q ∈ namesOf N s m i := by
  unfold namesOf
  split
  · exact addId_mem h
  · split
    · exact h
    · split
      · exact cellIds_mem (addId_mem h)
      · exact addId_mem h
  · exact cellIds_mem h
  · exact h

theorem namesOf_fold {q : Nat × Nat} : ∀ {l : List Nat} {m : List (Nat × Nat)}, q ∈ m → q ∈ l.foldl (namesOf N s) m
  | [], _, h => h
  | _ :: l, _, h => namesOf_fold (l := l) (namesOf_mem h)

theorem pinCells_mem {q : Nat × Nat} {m : List (Nat × Nat)} (h : q ∈ m) : ∀ k, q ∈ pinCells N s.hp k m
  | 0 => h
  | k + 1 => by
    unfold pinCells
    split
    · exact cellIds_mem (pinCells_mem h k)
    · exact pinCells_mem h k

theorem pins0_mem : ∀ {k i : Nat}, i < k → s.hp (pinId N i) ≠ none → (pinId N i, pinId N i) ∈ pins0 N s.hp k
  | 0, _, h, _ => by omega
  | k + 1, i, h, hn => by
    unfold pins0
    by_cases e : i = k
    · subst e
      have : (s.hp (pinId N i)).isSome = true := by
        cases hq : s.hp (pinId N i) with
        | none => exact absurd hq hn
        | some b => rfl
      rw [this]
      simp
    · have := pins0_mem (k := k) (i := i) (by omega) hn
      cases (s.hp (pinId N k)).isSome
      · exact this
      · exact List.mem_append.2 (.inl this)

theorem normK_sound (h : Sim N w0 X0 Y β s a w) {L : Nat} {K : St → Option R} (hk : normK N L s K = some r) : ∃ β' s', K s' = some r ∧ Sim N w0 X0 Y β' s' a w := by
  unfold normK normL at hk
  obtain ⟨hb, hk1⟩ := chk_inv hk
  simp only [Bool.and_eq_true] at hb
  obtain ⟨β1, h1⟩ := foldl_sound (fun s β h i => nilSlot_sound h i) (bitsOn L N) h
  obtain ⟨β2, h2⟩ := foldl_sound (fun s β h i => nilBox_sound h i) (bitsOn L N) h1
  obtain ⟨β3, h3⟩ := rename_sound h2 hb.1 hb.2 (ls := bitsOn L N) (fun i hi => bitsOn_lt hi) (fun i hi => namesOf_fold (pinCells_mem (pins0_mem (X0.p8 i hi) (h2.pin i hi).1) 8))
  exact ⟨β3, _, hk1, h3⟩
end

end Go.Proofs.Ytaphhfehcbkfkaa.Pv

namespace Go.Proofs.Ytaphhfehcbkfkaa.Pv
open Go.RowKit

section
variable {R : Type} {r : R} {P : Program} {N : Nat} {w0 : World} {X0 : Lend} {Y : Nat → Prop} {C : Cfg} {call : Call'}

theorem bothK_inv {x y : Option R} (h : bothK x y = some r) : x = some r ∧ y = some r := by
  unfold bothK at h
  split at h
  · rename_i e; exact ⟨h, e ▸ h⟩
  · cases h

theorem condK_sound {β : Bt} {s : St} {a : Act} {w : World} (h : Sim N w0 X0 Y β s a w) {c : Operand} {kt kf : St → Option R} (hk : condK s c kt kf = some r) : (a.eval c = .bool true ∧ kt s = some r) ∨ (a.eval c = .bool false ∧ kf s = some r) := by
  unfold condK at hk
  split at hk
  · rename_i d
    split at hk
    · rename_i b ht
      have hv : a.eval (.tmp d) = .bool b := opv_sc h (x := .tmp d) ht
      cases b
      · change kf ⟨upd s.tm d (.sc (.bool false)), s.hp⟩ = some r at hk
        rw [upd_self s.tm ht] at hk
        exact .inr ⟨hv, hk⟩
      · change kt ⟨upd s.tm d (.sc (.bool true)), s.hp⟩ = some r at hk
        rw [upd_self s.tm ht] at hk
        exact .inl ⟨hv, hk⟩
    · rename_i ht
      have hu := opv_rep h (.tmp d)
      change VRep _ _ _ (s.tm d) _ at hu
      rw [ht] at hu
      have hu' : TRep w _ .ub (a.eval (.tmp d)) := hu
      obtain ⟨b, hv⟩ : ∃ b, a.eval (.tmp d) = .bool b := by
        generalize a.eval (.tmp d) = x at hu'
        cases hu' with
        | ub b => exact ⟨b, rfl⟩
      obtain ⟨h1, h2⟩ := bothK_inv hk
      cases b
      · exact .inr ⟨hv, h2⟩
      · exact .inl ⟨hv, h1⟩
    · cases hk
  · exact .inl ⟨rfl, hk⟩
  · exact .inr ⟨rfl, hk⟩
  · cases hk

theorem iter_sound {c : Code} {Q : Exit → Act → World → Prop} {F : (St → Option R) → St → Option R} {nm : St → (St → Option R) → Option R}
    (hnm : ∀ {β s a w} {K : St → Option R}, Sim N w0 X0 Y β s a w → nm s K = some r → ∃ β' s', K s' = some r ∧ Sim N w0 X0 Y β' s' a w)
    (hF : ∀ {β s a w} {K : St → Option R} {Q' : Act → World → Prop}, Sim N w0 X0 Y β s a w → F K s = some r → (∀ s' a' w' β', K s' = some r → Sim N w0 X0 Y β' s' a' w' → Q' a' w') → c.wp P (Exit.then Q' Q) a w) :
    ∀ (n : Nat) {β s a w}, Sim N w0 X0 Y β s a w → iter F nm n s = some r → Code.rounds P c Q n a w
  | 0, _, _, _, _, _, hk => by cases hk
  | n + 1, β, s, a, w, h, hk => by
    rw [rounds_succ]
    refine hF h hk fun s' a' w' β' hk' h' => ?_
    obtain ⟨β1, s1, hk1, h1⟩ := hnm h' hk'
    exact iter_sound hnm hF n h1 hk1

theorem pevK_sound (hNG : NoNG P) (hcall : ∀ f args res, call f args = some res → SoundC P f args res) (hm : P.follows .mixedOrders = true) {fu : Nat} :
    ∀ (c : Code) {ln : Nat} {lx : Nat → Nat} {lr : Nat} {kn : St → Option R} {kx : Nat → St → Option R} {kr : St → Option R} {β : Bt} {s : St} {a : Act} {w : World} {Q : Exit → Act → World → Prop}, Sim N w0 X0 Y β s a w →
      pevK C P fu N call c ln lx lr kn kx kr s = some r → (∀ s' a' w' β', kn s' = some r → Sim N w0 X0 Y β' s' a' w' → Q .normal a' w') →
      (∀ id s' a' w' β', kx id s' = some r → Sim N w0 X0 Y β' s' a' w' → Q (.exit id) a' w') → (∀ s' a' w' β', kr s' = some r → Sim N w0 X0 Y β' s' a' w' → Q .ret a' w') → c.wp P Q a w := by
  intro c
  induction c with
  | skip => intro ln lx lr kn kx kr β s a w Q h hk hn hx hr; exact wp_skip (hn s a w β hk h)
  | region id ops draw =>
    intro ln lx lr kn kx kr β s a w Q h hk hn hx hr
    unfold pevK at hk
    obtain ⟨hb, hk1⟩ := chk_inv hk
    cases draw
    · exact region_plain h hNG hcall hk1 hn
    · exact region_drawn h hNG hcall hm hb hk1 hn
  | seq c1 c2 ih1 ih2 =>
    intro ln lx lr kn kx kr β s a w Q h hk hn hx hr
    unfold pevK at hk
    refine wp_seq (ih1 h hk (fun s' a' w' β' hk' h' => ih2 h' hk' hn hx hr) (fun id s' a' w' β' hk' h' => hx id s' a' w' β' hk' h') (fun s' a' w' β' hk' h' => hr s' a' w' β' hk' h'))
  | cond c c1 c2 ih1 ih2 =>
    intro ln lx lr kn kx kr β s a w Q h hk hn hx hr
    unfold pevK at hk
    rcases condK_sound h hk with ⟨hc, hk1⟩ | ⟨hc, hk1⟩
    · exact wp_cond_true hc (ih1 h hk1 hn hx hr)
    · exact wp_cond_false hc (ih2 h hk1 hn hx hr)
  | block id c ih =>
    intro ln lx lr kn kx kr β s a w Q h hk hn hx hr
    unfold pevK at hk
    refine wp_block (ih h hk (fun s' a' w' β' hk' h' => hn s' a' w' β' hk' h') (fun j s' a' w' β' hk' h' => ?_) (fun s' a' w' β' hk' h' => hr s' a' w' β' hk' h'))
    show (if j = id then _ else _)
    by_cases e : j = id
    · subst e
      rw [if_pos rfl]
      rw [Nat.beq_refl] at hk'
      exact hn s' a' w' β' hk' h'
    · rw [if_neg e]
      have : Nat.beq j id = false := by
        cases hb : Nat.beq j id
        · rfl
        · exact absurd (Nat.eq_of_beq_eq_true hb) e
      rw [this] at hk'
      exact hx j s' a' w' β' hk' h'
  | loop c ih =>
    intro ln lx lr kn kx kr β s a w Q h hk hn hx hr
    unfold pevK at hk
    obtain ⟨β1, s1, hk1, h1⟩ := normK_sound h hk
    refine wp_loop_rounds fu (iter_sound (fun h hk => normK_sound h hk) (fun h hk hQ => ?_) fu h1 hk1)
    exact ih h hk hQ (fun id s' a' w' β' hk' h' => hx id s' a' w' β' hk' h') (fun s' a' w' β' hk' h' => hr s' a' w' β' hk' h')
  | «exit» id => intro ln lx lr kn kx kr β s a w Q h hk hn hx hr; exact wp_exit (hx id s a w β hk h)
  | ret => intro ln lx lr kn kx kr β s a w Q h hk hn hx hr; exact wp_ret (hr s a w β hk h)
  | _ => intro ln lx lr kn kx kr β s a w Q h hk hn hx hr; cases hk
end

end Go.Proofs.Ytaphhfehcbkfkaa.Pv

namespace Go.Proofs.Ytaphhfehcbkfkaa.Pv
open Go.RowKit

theorem lkh_mem : ∀ {l : List (Nat × Box)} {i : Nat} {b : Box}, lkh l i = some b → (i, b) ∈ l
  | [], _, _, h => by cases h
  | (j, c) :: l, i, b, h => by
    unfold lkh at h
    cases hb : Nat.beq i j <;> rw [hb] at h
    · exact List.mem_cons_of_mem _ (lkh_mem h)
    · have := Nat.eq_of_beq_eq_true hb
      cases h
      rw [this]
      simp

theorem lkh_of : ∀ {l : List (Nat × Box)}, (l.map (·.1)).Nodup → ∀ {i b}, (i, b) ∈ l → lkh l i = some b
  | [], _, _, _, h => by cases h
  | (j, c) :: l, hn, i, b, h => by
    simp only [List.map_cons, List.nodup_cons] at hn
    unfold lkh
    rcases List.mem_cons.1 h with e | h
    · cases e
      simp only [Nat.beq_refl, cond_true]
    · have : Nat.beq i j = false := by
        cases hb : Nat.beq i j
        · rfl
        · exact absurd (Nat.eq_of_beq_eq_true hb ▸ List.mem_map.2 ⟨_, h, rfl⟩) hn.1
      simp only [this, cond_false]
      exact lkh_of hn.2 h

section
variable {R : Type} {r : R} {P : Program} {N : Nat} {w0 : World} {X0 : Lend} {Y : Nat → Prop} {β β' : Bt} {s : St} {a : Act} {w w' : World} {A : Nat → Prop}

theorem incK_inv {id : Nat} {t : CT} {p : PV} {K : PV → List (Nat × Box) → Option R} (hk : incK id t p K = some r) :
    (∃ c, K c [] = some r ∧ isT c ∧ ∀ w A q u, OCell w A q p u → TRep w A c u) ∨ ∃ es n cc, p = .own es n cc ∧ K (.view id es 0 n) [(id, .ar false cc)] = some r := by
  have tree : ∀ t', (tcK t' p fun c => K c []) = some r → ∃ c, K c [] = some r ∧ isT c ∧ ∀ w A q u, OCell w A q p u → TRep w A c u := by
    intro t' hk
    obtain ⟨c, hk, hT, hpT, hv⟩ := tcK_inv hk
    refine ⟨c, hk, hT, fun w A q u h => (hv w A (fun _ => none) u ?_).1⟩
    cases p <;> first | exact h | exact hpT.elim
  unfold incK at hk
  cases t with
  | sl es =>
    dsimp only at hk
    split at hk
    · rename_i es' n c
      cases hb : Nat.beq es' es <;> rw [hb] at hk
      · cases hk
      · have := Nat.eq_of_beq_eq_true hb
        subst this
        exact .inr ⟨_, _, _, rfl, hk⟩
    · exact .inl (tree (.sl es) hk)
  | int k => exact .inl (tree _ hk)
  | bool => exact .inl (tree _ hk)
  | str => exact .inl (tree _ hk)
  | any => exact .inl (tree _ hk)

/-- Cells that come in. -/
theorem incsK_inv : ∀ {ts : List CT} {id : Nat} {ps : List PV} {K : List PV → List (Nat × Box) → Option R}, incsK N id ts ps K = some r →
    ∃ cs bs, ∃ qs : List (Nat × Nat), K cs bs = some r ∧ cs.length = ps.length ∧ ps.length = ts.length ∧ bs.map (·.1) = qs.map (·.1) ∧ (∀ q ∈ qs, ∀ q' ∈ qs, q.2 = q'.2 → q.1 = q'.1) ∧
      (∀ i bx, (i, bx) ∈ bs → ∃ c, bx = .ar false c) ∧ (∀ c ∈ cs, isF c) ∧ (∀ c ∈ cs, ∀ i ∈ refsC c, ∃ bx, (i, bx) ∈ bs) ∧
      ∀ (w : World) (A : Nat → Prop) (own β' : Bt) (j0 : Nat) (us : List Value), (∀ q ∈ qs, β' q.1 = own (j0 + q.2)) → OCells w A own j0 ps us → All2 (CRep w A β') cs us ∧ ∀ i bx, (i, bx) ∈ bs → BRep w A β' i bx
  | [], id, ps, K, hk => by
    obtain ⟨rfl, hk⟩ := nilK_inv hk
    refine ⟨[], [], [], hk, rfl, rfl, rfl, by simp, by simp, by simp, by simp, fun w A own β' j0 us _ h => ⟨?_, by simp⟩⟩
    cases us with
    | nil => trivial
    | cons u us => exact h.elim
  | t :: ts, id, ps, K, hk => by
    unfold incsK at hk
    obtain ⟨p, ps', hps, hk1⟩ := consK_inv hk
    subst hps
    rcases incK_inv hk1 with ⟨c, hk2, hT, hv⟩ | ⟨es, n, cc, rfl, hk2⟩
    · obtain ⟨cs, bs, qs, hk3, hl, hl2, hb, hq2, hb1, hF, hb2, hvs⟩ := incsK_inv hk2
      refine ⟨c :: cs, bs, qs.map (fun q => (q.1, q.2 + 1)), hk3, by simp [hl], by simp [hl2], by rw [hb]; simp, ?_, hb1, ?_, ?_, fun w A own β' j0 us hβ ho => ?_⟩
      · intro q hq q' hq' e
        obtain ⟨q0, hq0, rfl⟩ := List.mem_map.1 hq
        obtain ⟨q1, hq1', rfl⟩ := List.mem_map.1 hq'
        exact hq2 q0 hq0 q1 hq1' (by simp only at e; omega)
      · intro y hy
        rcases List.mem_cons.1 hy with rfl | hy
        · exact isF_isT hT
        · exact hF y hy
      · intro y hy i hi
        rcases List.mem_cons.1 hy with rfl | hy
        · rw [refsC_isT hT] at hi; cases hi
        · exact hb2 y hy i hi
      · cases us with
        | nil => exact ho.elim
        | cons u us =>
          obtain ⟨h1, h2⟩ := hvs w A own β' (j0 + 1) us (fun q hq => by rw [hβ _ (List.mem_map_of_mem hq)]; congr 1; simp only; omega) ho.2
          exact ⟨⟨TRep_C (hv w A _ u ho.1), h1⟩, h2⟩
    · obtain ⟨cs, bs, qs, hk3, hl, hl2, hb, hq2, hb1, hF, hb2, hvs⟩ := incsK_inv hk2
      refine ⟨_ :: cs, (id, .ar false cc) :: bs, (id, 0) :: qs.map (fun q => (q.1, q.2 + 1)), hk3, by simp [hl], by simp [hl2], by simp only [List.map_cons, hb]; simp, ?_, ?_, ?_, ?_, fun w A own β' j0 us hβ ho => ?_⟩
      · intro q hq q' hq' e
        rcases List.mem_cons.1 hq with rfl | hq
        · rcases List.mem_cons.1 hq' with rfl | hq'
          · rfl
          · obtain ⟨q0, hq0, rfl⟩ := List.mem_map.1 hq'
            simp only at e; omega
        · obtain ⟨q0, hq0, rfl⟩ := List.mem_map.1 hq
          rcases List.mem_cons.1 hq' with rfl | hq'
          · simp only at e; omega
          · obtain ⟨q1, hq1', rfl⟩ := List.mem_map.1 hq'
            exact hq2 q0 hq0 q1 hq1' (by simp only at e; omega)
      · intro i bx hm
        rcases List.mem_cons.1 hm with e | hm
        · cases e; exact ⟨cc, rfl⟩
        · exact hb1 i bx hm
      · intro y hy
        rcases List.mem_cons.1 hy with rfl | hy
        · trivial
        · exact hF y hy
      · intro y hy i hi
        rcases List.mem_cons.1 hy with rfl | hy
        · simp only [refsC, List.mem_singleton] at hi
          subst hi
          exact ⟨_, List.mem_cons_self⟩
        · obtain ⟨bx, hbx⟩ := hb2 y hy i hi
          exact ⟨bx, List.mem_cons_of_mem _ hbx⟩
      · cases us with
        | nil => exact ho.elim
        | cons u us =>
          obtain ⟨h1, h2⟩ := hvs w A own β' (j0 + 1) us (fun q hq => by rw [hβ _ (List.mem_cons_of_mem _ (List.mem_map_of_mem hq))]; congr 1; simp only; omega) ho.2
          have h0 := hβ (id, 0) List.mem_cons_self
          simp only [Nat.add_zero] at h0
          refine ⟨⟨?_, h1⟩, fun i bx hm => ?_⟩
          · rcases ho.1 with ⟨h3, rfl, _, h5⟩ | ⟨b, ob, cap, h3, h4, h5, h6, h7, _⟩
            · exact .inl ⟨h0.trans h3, rfl, rfl, h5⟩
            · exact .inr ⟨b, ob, ob, cap, h0.trans h3, h4, .inl rfl, h5, h6, h7⟩
          · rcases List.mem_cons.1 hm with e | hm
            · cases e; exact own_brep ho.1 h0
            · exact h2 i bx hm

/-- One argument that comes in. -/
theorem inK_inv {i : Nat} {t : TypeId} {p : PV} {K : PV → List (Nat × Box) → Option R} (hk : inK P N i t p K = some r) :
    ∃ v bs, ∃ qs : List (Nat × Nat), K v bs = some r ∧ bs.map (·.1) = qs.map (·.1) ∧ (∀ q ∈ qs, ∀ q' ∈ qs, q.2 = q'.2 → q.1 = q'.1) ∧ (isL p = true → (pinId N i, 0) ∈ qs ∧ i < 8) ∧
      (∀ id bx, (id, bx) ∈ bs → liveB (some bx) ∧ ∀ c, bx = .st c → id = pinId N i ∧ isL p = true) ∧ (∀ id ∈ refs v, ∃ bx, (id, bx) ∈ bs) ∧ RefsIn bs ∧
      ∀ (w : World) (A : Nat → Prop) (bt β' : Bt) (u : Value), (∀ q ∈ qs, β' q.1 = bt q.2) → PArg w A bt p u → VRep w A β' v u ∧ (∀ id bx, (id, bx) ∈ bs → BRep w A β' id bx) ∧
        ∀ id bx b o, (id, bx) ∈ bs → β' id = some (b, o) → ∀ j, BR bx o j → ArgL bt p b j := by
  -- own cells
  have owns : ∀ {bs : List (Nat × Box)} {qs : List (Nat × Nat)}, bs.map (·.1) = qs.map (·.1) → (∀ i bx, (i, bx) ∈ bs → ∃ c, bx = .ar false c) → ∀ {bt β' : Bt}, (∀ q ∈ qs, β' q.1 = bt (1 + q.2)) → ∀ id bx b o, (id, bx) ∈ bs → β' id = some (b, o) → ∀ j, BR bx o j → ∃ k o', bt (k + 1) = some (b, o') ∧ o' ≤ j := by
    intro bs qs hb hb1 bt β' hβ id bx b o hm hbo j hj
    have : id ∈ qs.map (·.1) := by rw [← hb]; exact List.mem_map.2 ⟨_, hm, rfl⟩
    obtain ⟨q, hq, rfl⟩ := List.mem_map.1 this
    obtain ⟨c, rfl⟩ := hb1 _ _ hm
    rw [hβ q hq, Nat.add_comm] at hbo
    exact ⟨q.2, o, hbo, hj⟩
  have nost : ∀ {bs : List (Nat × Box)}, (∀ i bx, (i, bx) ∈ bs → ∃ c, bx = .ar false c) → RefsIn bs := by
    intro bs hb1 id cells hm
    obtain ⟨c, e⟩ := hb1 id _ hm
    cases e
  unfold inK at hk
  split at hk
  · rename_i e he
    obtain ⟨ps, rfl, hk1⟩ := pboxK_inv hk
    obtain ⟨hi8, hk2⟩ := chk_inv hk1
    have hi8 : i < 8 := Nat.lt_of_succ_le (Nat.le_of_ble_eq_true hi8)
    obtain ⟨cs, bs, qs, hk3, hl, hl2, hb, hq2, hb1, hF, hb2, hv⟩ := incsK_inv hk2
    refine ⟨_, _, (pinId N i, 0) :: qs.map (fun q => (q.1, q.2 + 1)), hk3, by simp only [List.map_cons, hb]; simp, ?_, fun _ => ⟨List.mem_cons_self, hi8⟩, ?_, ?_, ?_, fun w A bt β' u hβ hp => ?_⟩
    · intro q hq q' hq' e
      rcases List.mem_cons.1 hq with rfl | hq
      · rcases List.mem_cons.1 hq' with rfl | hq'
        · rfl
        · obtain ⟨q0, hq0, rfl⟩ := List.mem_map.1 hq'
          simp only at e; omega
      · obtain ⟨q0, hq0, rfl⟩ := List.mem_map.1 hq
        rcases List.mem_cons.1 hq' with rfl | hq'
        · simp only at e; omega
        · obtain ⟨q1, hq1', rfl⟩ := List.mem_map.1 hq'
          exact hq2 q0 hq0 q1 hq1' (by simp only at e; omega)
    · intro id bx hm
      rcases List.mem_cons.1 hm with e | hm
      · cases e; exact ⟨trivial, fun _ _ => ⟨rfl, rfl⟩⟩
      · obtain ⟨c, rfl⟩ := hb1 id bx hm
        exact ⟨trivial, fun _ e => by cases e⟩
    · intro id hid
      simp only [refs, refs1, refsC, List.mem_singleton] at hid
      subst hid
      exact ⟨_, List.mem_cons_self⟩
    · intro id cells hm c hc k hk
      rcases List.mem_cons.1 hm with e | hm
      · cases e
        obtain ⟨bx, hbx⟩ := hb2 c hc k hk
        exact ⟨bx, List.mem_cons_of_mem _ hbx⟩
      · obtain ⟨c, e⟩ := hb1 id _ hm
        cases e
    · obtain ⟨b, o, h1, rfl, _, vs, h3, h4, h5⟩ := hp
      have h0 := hβ (pinId N i, 0) List.mem_cons_self
      simp only at h0
      have hβ1 : ∀ q ∈ qs, β' q.1 = bt (1 + q.2) := fun q hq => by rw [hβ _ (List.mem_cons_of_mem _ (List.mem_map_of_mem hq)), Nat.add_comm]
      obtain ⟨h6, h7⟩ := hv w A bt β' 1 vs hβ1 h3
      refine ⟨⟨b, o, h0.trans h1, by simp⟩, fun id bx hm => ?_, fun id bx b' o' hm hb' j hj => ?_⟩
      · rcases List.mem_cons.1 hm with e | hm
        · cases e
          refine ⟨b, o, h0.trans h1, fun k c hk => ?_, fun k hk => h5 k (by omega)⟩
          obtain ⟨v, hv, hcr⟩ := h6.get hk
          exact ⟨v, h4 k v hv, hcr⟩
        · exact h7 id bx hm
      · rcases List.mem_cons.1 hm with e | hm
        · cases e
          rw [h0] at hb'
          have hj : o' ≤ j ∧ j < o' + cs.length := hj
          exact .inr ⟨o', ps, hb', hj.1, .inl ⟨rfl, by omega⟩⟩
        · exact .inl (owns hb hb1 hβ1 id bx b' o' hm hb' j hj)
  · split at hk
    · rename_i ps
      obtain ⟨e, he, hk1⟩ := optK_inv hk
      obtain ⟨hi8, hk2⟩ := chk_inv hk1
      have hi8 : i < 8 := Nat.lt_of_succ_le (Nat.le_of_ble_eq_true hi8)
      obtain ⟨q, qr, hq, hk3⟩ := consK_inv hk2
      subst hq
      obtain ⟨hnil, hk4⟩ := nilK_inv hk3
      subst hnil
      unfold owK at hk4
      split at hk4
      · rename_i es' n c
        cases hb : Nat.beq es' (szOf P e) <;> rw [hb] at hk4
        · cases hk4
        · have hes := Nat.eq_of_beq_eq_true hb
          subst hes
          refine ⟨_, _, [(pinId N i, 0)], hk4, rfl, by simp, fun _ => ⟨by simp, hi8⟩, ?_, ?_, ?_, fun w A bt β' u hβ hp => ?_⟩
          · intro id bx hm
            simp only [List.mem_singleton] at hm
            cases hm
            exact ⟨trivial, fun _ e => by cases e⟩
          · intro id hid
            simp only [refs, refs1, refsC, List.mem_singleton] at hid
            subst hid
            exact ⟨_, List.mem_cons_self⟩
          · intro id cells hm
            simp only [List.mem_singleton] at hm
            cases hm
          · obtain ⟨es, n', c', h1, h2⟩ := hp
            cases h1
            have h0 := hβ (pinId N i, 0) List.mem_cons_self
            simp only at h0
            refine ⟨?_, fun id bx hm => ?_, fun id bx b' o' hm hb' j hj => ?_⟩
            · rcases h2 with ⟨h3, rfl, _, h5⟩ | ⟨b, ob, cap, h3, h4, h5, h6, h7, _⟩
              · exact .inl ⟨h0.trans h3, rfl, rfl, h5⟩
              · exact .inr ⟨b, ob, ob, cap, h0.trans h3, h4, .inl rfl, h5, h6, h7⟩
            · simp only [List.mem_singleton] at hm
              cases hm
              exact own_brep h2 h0
            · simp only [List.mem_singleton] at hm
              cases hm
              rw [h0] at hb'
              exact .inr ⟨o', _, hb', hj, .inr rfl⟩
      · cases hk4
    · rename_i hnt
      cases hagg : isAggB P t <;> rw [hagg] at hk
      · simp only [cond_false] at hk
        obtain ⟨cs, bs, qs, hk3, hl, hl2, hb, hq2, hb1, hF, hb2, hv⟩ := incsK_inv hk
        obtain ⟨c, cs', hcs, hk4⟩ := consK_inv hk3
        subst hcs
        obtain ⟨hnil, hk5⟩ := nilK_inv hk4
        subst hnil
        have hFc := hF c (by simp)
        have hnL : isL p = false ∨ ∃ ps, p = .pbox ps := by
          cases p <;> first | exact .inl rfl | exact .inr ⟨_, rfl⟩ | exact absurd rfl (hnt _)
        have hpb : ∀ ps, p ≠ .pbox ps := by
          rintro ps rfl
          cases hts : cty P t with
          | nil => rw [hts] at hl2; simp at hl2
          | cons t' ts =>
            rw [hts] at hk
            unfold incsK incK at hk
            obtain ⟨q, qs1, hq, hk1⟩ := consK_inv hk
            cases hq
            cases t' <;> simp [tcK, lsK, intK, boolK, strK, fnK] at hk1
        have hpa : ∀ ps, p ≠ .agg ps := by
          rintro ps rfl
          cases hts : cty P t with
          | nil => rw [hts] at hl2; simp at hl2
          | cons t' ts =>
            rw [hts] at hk
            unfold incsK incK at hk
            obtain ⟨q, qs1, hq, hk1⟩ := consK_inv hk
            cases hq
            cases t' <;> simp [tcK, lsK, intK, boolK, strK, fnK] at hk1
        have hnL : isL p = false := hnL.elim id (fun ⟨ps, e⟩ => absurd e (hpb ps))
        have hrefs : refs c = refsC c := by cases c <;> first | rfl | exact hFc.elim
        refine ⟨c, bs, qs.map (fun q => (q.1, q.2 + 1)), hk5, by rw [hb]; simp, ?_, (fun h => by rw [hnL] at h; cases h), ?_, fun id hid => hb2 c (by simp) id (by rw [← hrefs]; exact hid), nost hb1, fun w A bt β' u hβ hp => ?_⟩
        · intro q hq q' hq' e
          obtain ⟨q0, hq0, rfl⟩ := List.mem_map.1 hq
          obtain ⟨q1, hq1', rfl⟩ := List.mem_map.1 hq'
          exact hq2 q0 hq0 q1 hq1' (by simp only at e; omega)
        · intro id bx hm
          obtain ⟨c, rfl⟩ := hb1 id bx hm
          exact ⟨trivial, fun _ e => by cases e⟩
        · have hp' : OCell w A (bt 1) p u := by cases p <;> first | exact hp.2 | exact absurd rfl (hpa _) | exact absurd rfl (hpb _) | exact absurd rfl (hnt _)
          have hβ1 : ∀ q ∈ qs, β' q.1 = bt (1 + q.2) := fun q hq => by rw [hβ _ (List.mem_map_of_mem hq), Nat.add_comm]
          obtain ⟨h6, h7⟩ := hv w A bt β' 1 [u] hβ1 ⟨hp', trivial⟩
          refine ⟨?_, h7, fun id bx b' o' hm hb' j hj => .inl (owns hb hb1 hβ1 id bx b' o' hm hb' j hj)⟩
          have h8 := h6.1
          cases c <;> first | exact h8 | exact hFc.elim
      · simp only [cond_true] at hk
        obtain ⟨ps, hp0, hk1⟩ := aggK_inv hk
        subst hp0
        obtain ⟨cs, bs, qs, hk3, hl, hl2, hb, hq2, hb1, hF, hb2, hv⟩ := incsK_inv hk1
        refine ⟨_, bs, qs.map (fun q => (q.1, q.2 + 1)), hk3, by rw [hb]; simp, ?_, (fun h => by cases h), ?_, fun id hid => ?_, nost hb1, fun w A bt β' u hβ hp => ?_⟩
        · intro q hq q' hq' e
          obtain ⟨q0, hq0, rfl⟩ := List.mem_map.1 hq
          obtain ⟨q1, hq1', rfl⟩ := List.mem_map.1 hq'
          exact hq2 q0 hq0 q1 hq1' (by simp only at e; omega)
        · intro id bx hm
          obtain ⟨c, rfl⟩ := hb1 id bx hm
          exact ⟨trivial, fun _ e => by cases e⟩
        · obtain ⟨c, hc, hi⟩ := List.mem_flatMap.1 (show id ∈ cs.flatMap refsC from hid)
          exact hb2 c hc id hi
        · obtain ⟨vs, h1, _, h3⟩ := hp
          have hβ1 : ∀ q ∈ qs, β' q.1 = bt (1 + q.2) := fun q hq => by rw [hβ _ (List.mem_map_of_mem hq), Nat.add_comm]
          obtain ⟨h6, h7⟩ := hv w A bt β' 1 vs hβ1 h3
          exact ⟨⟨vs, h1, h6⟩, h7, fun id bx b' o' hm hb' j hj => .inl (owns hb hb1 hβ1 id bx b' o' hm hb' j hj)⟩

/-- All arguments. -/
theorem insK_inv : ∀ {ts : List TypeId} {i : Nat} {ps : List PV} {K : List (Nat × PV) → List (Nat × Box) → Option R}, insK P N i ts ps K = some r →
    ∃ tms bs, ∃ qs : List (Nat × Nat × Nat), K tms bs = some r ∧ bs.map (·.1) = qs.map (·.1) ∧ (∀ q ∈ qs, i ≤ q.2.1) ∧ (∀ q ∈ qs, ∀ q' ∈ qs, q.2 = q'.2 → q.1 = q'.1) ∧
      (∀ k p, ps[k]? = some p → isL p = true → (pinId N (i + k), i + k, 0) ∈ qs ∧ i + k < 8) ∧ (∀ id bx, (id, bx) ∈ bs → liveB (some bx) ∧ ∀ c, bx = .st c → ∃ k p, ps[k]? = some p ∧ isL p = true ∧ id = pinId N (i + k)) ∧
      (∀ j, ∀ id ∈ refs (lk tms j), ∃ bx, (id, bx) ∈ bs) ∧ RefsIn bs ∧
      ∀ (w : World) (A : Nat → Prop) (bt : Bt2) (β' : Bt) (us : List Value), (∀ q ∈ qs, β' q.1 = bt q.2.1 q.2.2) → PArgs w A bt i ps us →
        (∀ j, (∃ u, i ≤ j ∧ us[j - i]? = some u ∧ VRep w A β' (lk tms j) u) ∨ (lk tms j = .top ∧ (i ≤ j → us[j - i]? = none))) ∧ (∀ id bx, (id, bx) ∈ bs → BRep w A β' id bx) ∧
        ∀ id bx b o, (id, bx) ∈ bs → β' id = some (b, o) → ∀ j, BR bx o j → ∃ k p, ps[k]? = some p ∧ ArgL (bt (i + k)) p b j
  | [], i, ps, K, hk => by
    obtain ⟨hps, hk⟩ := nilK_inv hk
    subst hps
    refine ⟨[], [], [], hk, rfl, by simp, by simp, by simp, by simp, (fun j id hid => by cases hid), (by intro i cells hm; cases hm), fun w A bt β' us _ h => ?_⟩
    cases us with
    | nil => exact ⟨fun j => .inr ⟨rfl, fun _ => by simp⟩, by simp, by simp⟩
    | cons u us => exact h.elim
  | t :: ts, i, ps, K, hk => by
    unfold insK at hk
    obtain ⟨p, ps', hps, hk1⟩ := consK_inv hk
    subst hps
    obtain ⟨v, bs, qs, hk2, hb, hqi, hpin, hbx, hr, hri, hv⟩ := inK_inv hk1
    obtain ⟨tms, bs', qs', hk3, hb', hq0', hqi', hpin', hbx', hr', hri', hv'⟩ := insK_inv hk2
    refine ⟨(i, v) :: tms, bs ++ bs', qs.map (fun q => (q.1, i, q.2)) ++ qs', hk3, by simp only [List.map_append, hb, hb']; simp, ?_, ?_, ?_, ?_, ?_, ?_, fun w A bt β' us hβ hp => ?_⟩
    · intro q hq
      rcases List.mem_append.1 hq with hq | hq
      · obtain ⟨q0, hq0, rfl⟩ := List.mem_map.1 hq
        exact Nat.le_refl _
      · have := hq0' q hq
        omega
    · intro q hq q' hq' e
      rcases List.mem_append.1 hq with hq | hq
      · obtain ⟨q0, hq0, rfl⟩ := List.mem_map.1 hq
        rcases List.mem_append.1 hq' with hq' | hq'
        · obtain ⟨q1, hq1', rfl⟩ := List.mem_map.1 hq'
          simp only [Prod.mk.injEq, true_and] at e
          exact hqi q0 hq0 q1 hq1' e
        · have := hq0' q' hq'
          rw [← e] at this
          simp only at this
          omega
      · have h5 := hq0' q hq
        rcases List.mem_append.1 hq' with hq' | hq'
        · obtain ⟨q1, hq1', rfl⟩ := List.mem_map.1 hq'
          rw [e] at h5
          simp only at h5
          omega
        · exact hqi' q hq q' hq' e
    · intro k p' hk' hL
      cases k with
      | zero =>
        simp only [List.getElem?_cons_zero, Option.some.injEq] at hk'
        subst hk'
        obtain ⟨h1, h2⟩ := hpin hL
        exact ⟨List.mem_append.2 (.inl (List.mem_map.2 ⟨_, h1, rfl⟩)), h2⟩
      | succ k =>
        obtain ⟨h1, h2⟩ := hpin' k p' (by simpa using hk') hL
        rw [show i + 1 + k = i + (k + 1) by omega] at h1 h2
        exact ⟨List.mem_append.2 (.inr h1), h2⟩
    · intro id bx hm
      rcases List.mem_append.1 hm with hm | hm
      · obtain ⟨h1, h2⟩ := hbx id bx hm
        exact ⟨h1, fun c hc => ⟨0, p, rfl, (h2 c hc).2, (h2 c hc).1⟩⟩
      · obtain ⟨h1, h2⟩ := hbx' id bx hm
        refine ⟨h1, fun c hc => ?_⟩
        obtain ⟨k, p', h3, h4, h5⟩ := h2 c hc
        exact ⟨k + 1, p', by simpa using h3, h4, by rw [h5, show i + 1 + k = i + (k + 1) by omega]⟩
    · intro j id hid
      unfold lk at hid
      cases hbq : Nat.beq j i <;> rw [hbq] at hid
      · obtain ⟨bx, h1⟩ := hr' j id hid
        exact ⟨bx, List.mem_append.2 (.inr h1)⟩
      · obtain ⟨bx, h1⟩ := hr id hid
        exact ⟨bx, List.mem_append.2 (.inl h1)⟩
    · intro id cells hm c hc k hk
      rcases List.mem_append.1 hm with hm | hm
      · obtain ⟨bx, h1⟩ := hri id cells hm c hc k hk
        exact ⟨bx, List.mem_append.2 (.inl h1)⟩
      · obtain ⟨bx, h1⟩ := hri' id cells hm c hc k hk
        exact ⟨bx, List.mem_append.2 (.inr h1)⟩
    · cases us with
      | nil => exact hp.elim
      | cons u us =>
        obtain ⟨h1, h2, h3⟩ := hv w A (bt i) β' u (fun q hq => hβ _ (List.mem_append.2 (.inl (List.mem_map_of_mem hq)))) hp.1
        obtain ⟨h1', h2', h3'⟩ := hv' w A bt β' us (fun q hq => hβ q (List.mem_append.2 (.inr hq))) hp.2
        refine ⟨fun j => ?_, fun id bx hm => ?_, fun id bx b o hm hbo j hj => ?_⟩
        · unfold lk
          cases hbq : Nat.beq j i
          · have hne := beq_false_ne hbq
            simp only [cond_false]
            rcases h1' j with ⟨u', h4, h5, h6⟩ | ⟨h4, h5⟩
            · refine .inl ⟨u', by omega, ?_, h6⟩
              rw [show j - i = (j - (i + 1)) + 1 by omega]
              simpa using h5
            · refine .inr ⟨h4, fun hij => ?_⟩
              rw [show j - i = (j - (i + 1)) + 1 by omega]
              simpa using h5 (by omega)
          · have := Nat.eq_of_beq_eq_true hbq
            subst this
            exact .inl ⟨u, Nat.le_refl _, by simp, h1⟩
        · rcases List.mem_append.1 hm with hm | hm
          · exact h2 id bx hm
          · exact h2' id bx hm
        · rcases List.mem_append.1 hm with hm | hm
          · exact ⟨0, p, rfl, h3 id bx b o hm hbo j hj⟩
          · obtain ⟨k, p', h4, h5⟩ := h3' id bx b o hm hbo j hj
            exact ⟨k + 1, p', by simpa using h4, by rw [show i + (k + 1) = i + 1 + k by omega]; exact h5⟩

/-- What a function may change. -/
def lendOf (bt : Bt2) (args : List PV) (h8 : ∀ k p, args[k]? = some p → isL p = true → k < 8) : Lend :=
  ⟨BtX bt, CallL bt args, fun i => ∃ p, args[i]? = some p ∧ isL p = true, fun i => bt i 0, fun i ⟨p, h1, h2⟩ => h8 i p h1 h2⟩

/-- The state at a function's start. -/
theorem sim_start {ts : List TypeId} {args : List PV} {us : List Value} {bt : Bt2} {K : List (Nat × PV) → List (Nat × Box) → Option R} (hin : Ins w Y bt args us) (hk : insK P N 0 ts args K = some r) :
    ∃ tms bs, K tms bs = some r ∧ (absent (fun _ => none) bs = true → us.length ≤ N → ∃ (h8 : ∀ k p, args[k]? = some p → isL p = true → k < 8), ∃ β0,
      Sim N w (lendOf bt args h8) Y β0 ⟨lk tms, lkh bs⟩ { tmps := us.toArray ++ Array.replicate (N - us.toArray.size) undef, defers := [] } w) := by
  obtain ⟨tms, bs, qs, hk1, hb, hq0, hqi, hpin, hbx, hr, hri, hv⟩ := insK_inv hk
  refine ⟨tms, bs, hk1, fun hab hN => ?_⟩
  have hnod := absent_nodup hab
  have h8 : ∀ k p, args[k]? = some p → isL p = true → k < 8 := fun k p h1 h2 => by
    have := (hpin k p h1 h2).2
    omega
  have hqn : (qs.map (·.1)).Nodup := by rw [← hb]; exact hnod
  obtain ⟨β0, hβ0⟩ : ∃ β0 : Bt, ∀ q ∈ qs, β0 q.1 = bt q.2.1 q.2.2 := by
    have : ∀ (l : List (Nat × Nat × Nat)), (l.map (·.1)).Nodup → ∃ β0 : Bt, ∀ q ∈ l, β0 q.1 = bt q.2.1 q.2.2 := by
      intro l
      induction l with
      | nil => intro _; exact ⟨fun _ => none, by simp⟩
      | cons q l ih =>
        intro hn
        simp only [List.map_cons, List.nodup_cons] at hn
        obtain ⟨b1, h1⟩ := ih hn.2
        refine ⟨upd b1 q.1 (bt q.2.1 q.2.2), fun q' hq' => ?_⟩
        rcases List.mem_cons.1 hq' with rfl | hq'
        · exact upd_same _ _ _
        · have hne : q'.1 ≠ q.1 := fun e => hn.1 (by rw [← e]; exact List.mem_map.2 ⟨q', hq', rfl⟩)
          rw [upd_other _ _ hne]
          exact h1 q' hq'
    exact this qs hqn
  refine ⟨h8, β0, ?_⟩
  obtain ⟨hs, hbr, hL⟩ := hv w _ bt β0 us hβ0 hin.args
  have hqm : ∀ id bx, (id, bx) ∈ bs → ∃ ik, (id, ik) ∈ qs ∧ β0 id = bt ik.1 ik.2 := by
    intro id bx hm
    have : id ∈ qs.map (·.1) := by rw [← hb]; exact List.mem_map.2 ⟨_, hm, rfl⟩
    obtain ⟨q, hq, rfl⟩ := List.mem_map.1 this
    exact ⟨q.2, hq, hβ0 q hq⟩
  have hX : ∀ b, Xof (lkh bs) β0 b → BtX bt b := by
    rintro b ⟨id, o, hl, hβ⟩
    cases hq : lkh bs id with
    | none => rw [hq] at hl; exact hl.elim
    | some bx =>
      obtain ⟨ik, _, h2⟩ := hqm id bx (lkh_mem hq)
      rw [h2] at hβ
      exact ⟨_, _, _, hβ⟩
  have hA : ∀ b, Aof (lkh bs) β0 Y b → BtX bt b ∨ Y b := fun b hb => hb.imp (hX b) id
  have hput : ∀ {p : PV} {u : Value}, VRep w (fun b => BtX bt b ∨ Y b) β0 p u → VRep w (Aof (lkh bs) β0 Y) β0 p u := fun h => h.step (WStep.refl _ _) (fun b _ => hA b) (fun _ _ => rfl)
  refine ⟨rfl, by simp; omega, fun i hi => ?_, fun i hi => ?_, ?_, ?_, ?_, fun i hi id hid => ?_, ?_, fun b hb => .inl (hX b hb), ?_, ?_, ?_, fun b hY hXb => hin.Yx b hY (hX b hXb), hin.Ylt, ⟨rfl, rfl, rfl, WStep.refl _ _, fun _ _ _ _ => ⟨rfl, rfl⟩⟩⟩
  · rcases hs i with ⟨u, _, h, _⟩ | ⟨h, _⟩
    · rw [Nat.sub_zero, List.getElem?_eq_none (by omega)] at h; cases h
    · exact h
  · rcases hs i with ⟨u, _, h, hv⟩ | ⟨h, h'⟩
    · rw [Nat.sub_zero] at h
      have hlt : i < us.length := by
        rcases Nat.lt_or_ge i us.length with h' | h'
        · exact h'
        · rw [List.getElem?_eq_none h'] at h; cases h
      have : (us.toArray ++ Array.replicate (N - us.toArray.size) undef).getD i undef = u := by
        rw [Array.getD_eq_getD_getElem?, Array.getElem?_append_left (by simpa using hlt)]
        simp [h]
      show VRep w _ _ _ ((us.toArray ++ Array.replicate (N - us.toArray.size) undef).getD i undef)
      rw [this]
      exact hput hv
    · show VRep w _ _ (lk tms i) _
      rw [h]
      exact TRep.top _
  · intro id bx hq
    exact (hbr id bx (lkh_mem hq)).step' hA
  · intro id id' b o o' hl hl' hβ hβ'
    cases hq : lkh bs id with
    | none => change liveB (lkh bs id) at hl; rw [hq] at hl; exact hl.elim
    | some bx =>
      cases hq' : lkh bs id' with
      | none => change liveB (lkh bs id') at hl'; rw [hq'] at hl'; exact hl'.elim
      | some bx' =>
        obtain ⟨ik, h1, h2⟩ := hqm id bx (lkh_mem hq)
        obtain ⟨ik', h1', h2'⟩ := hqm id' bx' (lkh_mem hq')
        rw [h2] at hβ
        rw [h2'] at hβ'
        obtain ⟨h3, h4⟩ := hin.inj _ _ _ _ b o o' hβ hβ'
        exact hqi _ h1 _ h1' (Prod.ext h3 h4)
  · intro id b o hn hβ
    cases hq : lkh bs id with
    | none => exact absurd hq hn
    | some bx =>
      obtain ⟨ik, h1, h2⟩ := hqm id bx (lkh_mem hq)
      rw [h2] at hβ
      exact hin.lt b ⟨_, _, _, hβ⟩
  · obtain ⟨bx, hm⟩ := hr i id hid
    show lkh bs id ≠ none
    rw [lkh_of hnod hm]
    simp
  · intro id cells hq c hc k hk
    obtain ⟨bx, hm⟩ := hri id cells (lkh_mem hq) c hc k hk
    show lkh bs k ≠ none
    rw [lkh_of hnod hm]
    simp
  · intro id bx b o hq hl hβ _ j hj
    obtain ⟨k, p, h1, h2⟩ := hL id bx b o (lkh_mem hq) hβ j hj
    rw [Nat.zero_add] at h2
    exact ⟨k, p, h1, h2⟩
  · rintro i ⟨p, h1, h2⟩
    have h3 := (hpin i p h1 h2).1
    rw [Nat.zero_add] at h3
    refine ⟨?_, hβ0 _ h3⟩
    have : pinId N i ∈ bs.map (·.1) := by rw [hb]; exact List.mem_map.2 ⟨_, h3, rfl⟩
    obtain ⟨⟨id, bx⟩, hm, e⟩ := List.mem_map.1 this
    show lkh bs (pinId N i) ≠ none
    rw [← e, lkh_of hnod hm]
    simp
  · intro id c b o hq _ _
    obtain ⟨k, p, h1, h2, h3⟩ := (hbx id _ (lkh_mem hq)).2 c rfl
    rw [Nat.zero_add] at h3
    exact ⟨k, h3, p, h1, h2⟩
end

end Go.Proofs.Ytaphhfehcbkfkaa.Pv

namespace Go.Proofs.Ytaphhfehcbkfkaa.Pv
open Go.RowKit

/-- Which box goes along with a cell. -/
def ownOf (β : Bt) (l : List (Option Nat)) (j : Nat) : Option (Nat × Nat) := ((l[j]?).bind id).bind β

section
variable {R : Type} {r : R} {P : Program} {N : Nat} {w0 : World} {X0 : Lend} {Y : Nat → Prop} {β β' : Bt} {s : St} {a : Act} {w w' : World} {A : Nat → Prop}

def LiveId (s : St) (l : List (Option Nat)) : Prop := ∀ id, some id ∈ l → liveB (s.hp id)
def RowId (s : St) (z : List Nat) : Prop := ∀ id ∈ z, ∃ f c, s.hp id = some (.ar f c)

/-- A cell that goes back, shared or with its memory. -/
theorem outxK_inv (h : Sim N w0 X0 Y β s a w) {shr : Bool} {t : CT} {p : PV} {K : PV → List Nat → List Nat → Option R} (hk : outxK shr s.hp t p K = some r) :
    ∃ c q z, K c (Option.toList q) z = some r ∧ (∀ x, c ≠ .agg x ∧ c ≠ .pbox x) ∧ isF p ∧ (∀ id, q = some id → ∃ c, s.hp id = some (.ar false c)) ∧ RowId s z ∧
      ∀ (fz : List Nat) A u, (∀ i ∈ z, i ∈ fz) → RowId s fz → (∀ b, A b → Aof (freezeIds s.hp fz) β Y b) → CRep w (Aof s.hp β Y) β p u → OCell w A (q.bind β) c u := by
  have notree : ∀ {c : PV}, isT c → ∀ x, c ≠ .agg x ∧ c ≠ .pbox x := fun hT x => ⟨isT_agg hT x, by rintro rfl; exact hT⟩
  unfold outxK at hk
  cases shr <;> simp only [cond_true, cond_false] at hk
  · have tree : ∀ t', (∀ es, t' ≠ .sl es) → (tcK t' p fun c => K c [] []) = some r → ∃ c q z, K c (Option.toList q) z = some r ∧ (∀ x, c ≠ .agg x ∧ c ≠ .pbox x) ∧ isF p ∧ (∀ id, q = some id → ∃ c, s.hp id = some (.ar false c)) ∧ RowId s z ∧
        ∀ (fz : List Nat) A u, (∀ i ∈ z, i ∈ fz) → RowId s fz → (∀ b, A b → Aof (freezeIds s.hp fz) β Y b) → CRep w (Aof s.hp β Y) β p u → OCell w A (q.bind β) c u := by
      intro t' hne hk
      obtain ⟨c, hk1, hT, hpT, hv⟩ := tcK_inv hk
      refine ⟨c, none, [], hk1, notree hT, isF_isT hpT, by simp, (by intro i hi; cases hi), fun fz A u _ _ hA hc => OCell_tree hT ?_⟩
      exact (hv w _ β u hc).1.step (WStep.refl _ _) (fun b _ hb => freeze_A (hA b hb))
    unfold outcK at hk
    cases t with
    | sl es =>
      dsimp only at hk
      split at hk
      · rename_i id es' off n
        cases hb : (Nat.beq es' es && Nat.beq off 0) <;> rw [hb] at hk
        · cases hk
        · simp only [Bool.and_eq_true] at hb
          have he := Nat.eq_of_beq_eq_true hb.1
          have ho := Nat.eq_of_beq_eq_true hb.2
          subst he ho
          simp only [cond_true] at hk
          split at hk
          · rename_i c h0
            obtain ⟨hl, hk1⟩ := chk_inv hk
            refine ⟨_, some id, [], hk1, by simp, trivial, fun i hi => by cases hi; exact ⟨c, h0⟩, (by intro i hi; cases hi), fun fz A u _ _ hA hc => ?_⟩
            rcases hc with ⟨h1, _, rfl, h4⟩ | ⟨b, o, x, cap, h1, h2, hx, h3, h4, h5⟩
            · exact .inl ⟨h1, rfl, by simp, h4⟩
            · have hx : x = o := by rcases hx with e | ⟨_, e⟩ <;> omega
              subst hx
              rcases h.box id _ h0 with ⟨h6, _⟩ | ⟨b', o', h6, h7, h8, _⟩
              · rw [h1] at h6; cases h6
              · rw [h1] at h6
                cases h6
                refine .inr ⟨b, x, cap, h1, h2, h3, h4, h5, fun j q hq => ?_, fun j hj hj' => h8 rfl j hj hj'⟩
                rw [List.getElem?_take] at hq
                split at hq
                · obtain ⟨v, hv, h9, ht⟩ := h7 j q hq
                  exact ⟨v, hv, h9, ht.step (WStep.refl _ _) (fun b _ hb => freeze_A (hA b hb))⟩
                · cases hq
          · cases hk
      · obtain ⟨z, n, c, hk1, hp⟩ := lsK_inv hk
        obtain ⟨hz, hk2⟩ := chk_inv hk1
        subst hz
        have hpF : isF p := by rcases hp with e | ⟨e, _⟩ <;> (rw [e]; trivial)
        refine ⟨_, none, [], hk2, by simp, hpF, by simp, (by intro i hi; cases hi), fun fz A u _ _ _ hc => ?_⟩
        have hu : u = .slice none 0 0 := by
          rcases hp with rfl | ⟨rfl, _⟩
          · cases hc; rfl
          · exact TRep.val hc
        exact .inl ⟨rfl, rfl, rfl, hu⟩
    | int k => exact tree _ (by simp) hk
    | bool => exact tree _ (by simp) hk
    | str => exact tree _ (by simp) hk
    | any => exact tree _ (by simp) hk
  · obtain ⟨c, m, hk1, hT, hF, hm, hv⟩ := frcK_inv h hk
    exact ⟨c, none, m, hk1, notree hT, hF, by simp, hm, fun fz A u h1 h2 hA hc => OCell_tree hT ((hv fz h1 h2 u hc).1.step (WStep.refl _ _) (fun b _ hb => hA b hb))⟩

/-- What a row of cells that go back is. -/
structure OutL (s : St) (β : Bt) (Y : Nat → Prop) (w : World) (cs : List PV) (l : List (Option Nat)) (z : List Nat) (ps : List PV) : Prop where
  len : l.length = cs.length
  pl : cs.length = ps.length
  na : ∀ c ∈ cs, ∀ x, c ≠ .agg x ∧ c ≠ .pbox x
  fr : ∀ p ∈ ps, isF p
  own : ∀ id, some id ∈ l → ∃ c, s.hp id = some (.ar false c)
  row : RowId s z
  sem : ∀ (fz : List Nat) A us, (∀ i ∈ z, i ∈ fz) → RowId s fz → (∀ b, A b → Aof (freezeIds s.hp fz) β Y b) → All2 (CRep w (Aof s.hp β Y) β) ps us → ∀ own j0, (∀ j, j < l.length → own (j0 + j) = ownOf β l j) → OCells w A own j0 cs us

theorem OutL.nil : OutL s β Y w [] [] [] [] := ⟨rfl, rfl, by simp, by simp, by simp, (by intro i hi; cases hi), fun fz A us _ _ _ hu own j0 _ => by
  cases us with
  | nil => trivial
  | cons u us => exact hu.elim⟩

theorem OutL.cons {c p : PV} {q : Option Nat} {z zs : List Nat} {cs ps : List PV} {l : List (Option Nat)} (hna : ∀ x, c ≠ .agg x ∧ c ≠ .pbox x) (hF : isF p) (hq : ∀ id, q = some id → ∃ c, s.hp id = some (.ar false c)) (hz : RowId s z)
    (hv : ∀ (fz : List Nat) A u, (∀ i ∈ z, i ∈ fz) → RowId s fz → (∀ b, A b → Aof (freezeIds s.hp fz) β Y b) → CRep w (Aof s.hp β Y) β p u → OCell w A (q.bind β) c u) (H : OutL s β Y w cs l zs ps) : OutL s β Y w (c :: cs) (q :: l) (z ++ zs) (p :: ps) := by
  refine ⟨by simp [H.len], by simp [H.pl], ?_, ?_, ?_, ?_, fun fz A us hz1 hz2 hA hu own j0 hown => ?_⟩
  · intro x hx
    rcases List.mem_cons.1 hx with rfl | hx
    · exact hna
    · exact H.na x hx
  · intro x hx
    rcases List.mem_cons.1 hx with rfl | hx
    · exact hF
    · exact H.fr x hx
  · intro id hid
    rcases List.mem_cons.1 hid with e | hid
    · exact hq id e.symm
    · exact H.own id hid
  · intro i hi
    rcases List.mem_append.1 hi with hi | hi
    · exact hz i hi
    · exact H.row i hi
  · cases us with
    | nil => exact hu.elim
    | cons u us =>
      have h0 := hown 0 (by simp)
      rw [Nat.add_zero] at h0
      refine ⟨?_, H.sem fz A us (fun i hi => hz1 i (by simp [hi])) hz2 hA hu.2 own (j0 + 1) fun j hj => ?_⟩
      · rw [h0]
        exact hv fz A u (fun i hi => hz1 i (by simp [hi])) hz2 hA hu.1
      · have := hown (j + 1) (by simp; omega)
        rw [show j0 + 1 + j = j0 + (j + 1) by omega, this]
        simp [ownOf]

theorem outcsK_inv (h : Sim N w0 X0 Y β s a w) {shr : Bool} : ∀ {ts : List CT} {ps : List PV} {K : List PV → List Nat → List Nat → Option R}, outcsK shr s.hp ts ps K = some r →
    ∃ cs l z, K cs (l.filterMap id) z = some r ∧ OutL s β Y w cs l z ps
  | [], [], K, hk => ⟨[], [], [], hk, OutL.nil⟩
  | [], _ :: _, K, hk => by cases hk
  | _ :: _, [], K, hk => by cases hk
  | t :: ts, p :: ps, K, hk => by
    unfold outcsK at hk
    obtain ⟨c, q, z, hk1, hna, hF, hq, hz, hv⟩ := outxK_inv h hk
    obtain ⟨cs, l, zs, hk2, H⟩ := outcsK_inv h hk1
    refine ⟨c :: cs, q :: l, z ++ zs, ?_, OutL.cons hna hF hq hz hv H⟩
    cases q <;> exact hk2

theorem backcsK_inv (h : Sim N w0 X0 Y β s a w) : ∀ {ts : List CT} {ws ps : List PV} {K : List PV → List Nat → List Nat → Option R}, backcsK s.hp ts ws ps K = some r →
    ∃ cs l z, K cs (l.filterMap id) z = some r ∧ cs.length = ws.length ∧ OutL s β Y w cs l z ps
  | [], [], [], K, hk => ⟨[], [], [], hk, rfl, OutL.nil⟩
  | [], _ :: _, _, K, hk => by cases hk
  | [], [], _ :: _, K, hk => by cases hk
  | _ :: _, [], _, K, hk => by cases hk
  | _ :: _, _ :: _, [], K, hk => by cases hk
  | t :: ts, x :: ws, p :: ps, K, hk => by
    unfold backcsK at hk
    obtain ⟨c, q, z, hk1, hna, hF, hq, hz, hv⟩ := outxK_inv h hk
    obtain ⟨cs, l, zs, hk2, hl, H⟩ := backcsK_inv h hk1
    refine ⟨c :: cs, q :: l, z ++ zs, ?_, by simp [hl], OutL.cons hna hF hq hz hv H⟩
    cases q <;> exact hk2

theorem OCells_one {own : Bt} {zz j : Nat} {p : PV} {u : Value} (hp : ∀ x, p ≠ .agg x ∧ p ≠ .pbox x) (h : OCells w A own j [p] [u]) : OVal w A own zz j p u := by
  cases p <;> first | exact h.1 | exact absurd rfl (hp _).1 | exact absurd rfl (hp _).2

/-- The cells of a variable that goes back. -/
theorem obox_of (h : Sim N w0 X0 Y β s a w) {id b o : Nat} {c cs : List PV} {l : List (Option Nat)} {z : List Nat} (h0 : s.hp id = some (.st c)) (hβ : β id = some (b, o)) (H : OutL s β Y w cs l z c) {fz : List Nat} {A : Nat → Prop} (h1 : ∀ i ∈ z, i ∈ fz) (h2 : RowId s fz) (hA : ∀ b, A b → Aof (freezeIds s.hp fz) β Y b)
    {own : Bt} {j0 : Nat} (hown : ∀ j, j < l.length → own (j0 + j) = ownOf β l j) : OBox w A own j0 b o cs := by
  obtain ⟨b', o', hb1, hb2, hb3⟩ := h.box id _ h0
  rw [hβ] at hb1
  cases hb1
  refine ⟨c.mapIdx (fun j _ => (w.cell? ⟨b, o + j, none⟩).getD undef), H.sem fz A _ h1 h2 hA ?_ own j0 hown, ?_, fun k hk => hb3 k (by have := H.pl; omega)⟩
  · refine All2.of_at (by simp) fun j p v hp hv => ?_
    obtain ⟨u, hu, hcr⟩ := hb2 j p hp
    rw [List.getElem?_mapIdx, hp, Option.map_some, hu] at hv
    simp at hv
    subst hv
    exact hcr
  · intro k v hkv
    rw [List.getElem?_mapIdx] at hkv
    cases hp : c[k]? with
    | none => rw [hp] at hkv; cases hkv
    | some p =>
      obtain ⟨u, hu, hcr⟩ := hb2 k p hp
      rw [hp, Option.map_some, hu] at hkv
      simp at hkv
      subst hkv
      exact hu

/-- One result. -/
theorem outvK_inv (h : Sim N w0 X0 Y β s a w) {shr : Bool} {t : TypeId} {p : PV} {u : Value} (hp : VRep w (Aof s.hp β Y) β p u) {K : PV → List Nat → List Nat → Option R} (hk : outvK P shr s.hp t p K = some r) :
    ∃ v l z, K v (l.filterMap id) z = some r ∧ l.length = plc v ∧ LiveId s l ∧ RowId s z ∧
      ∀ (fz : List Nat) A zz, (∀ i ∈ z, i ∈ fz) → RowId s fz → (∀ b, A b → Aof (freezeIds s.hp fz) β Y b) → (∀ id c b o, some id ∈ l → s.hp id = some (.st c) → β id = some (b, o) → zz ≤ b) →
        ∀ own j0, (∀ j, j < l.length → own (j0 + j) = ownOf β l j) → OVal w A own zz j0 v u := by
  unfold outvK at hk
  split at hk
  · rename_i e he
    split at hk
    · rename_i id off
      split at hk
      · rename_i c h0
        obtain ⟨hof, hk1⟩ := chk_inv hk
        have hof := Nat.eq_of_beq_eq_true hof
        subst hof
        obtain ⟨cs, l, z, hk2, H⟩ := outcsK_inv h hk1
        obtain ⟨b, o, hβ, hu⟩ := hp
        refine ⟨.pbox cs, some id :: l, z, hk2, by simp only [plc, List.length_cons, H.len]; omega, ?_, H.row, fun fz A zz h1 h2 hA hz own j0 hown => ?_⟩
        · intro i hi
          rcases List.mem_cons.1 hi with e | hi
          · cases e; rw [h0]; trivial
          · obtain ⟨c', hc'⟩ := H.own i hi
            rw [hc']; trivial
        · have h3 := hown 0 (by simp)
          rw [Nat.add_zero] at h3
          refine ⟨b, o, by rw [h3]; exact hβ, hz id c b o (by simp) h0 hβ, by rw [hu, Nat.add_zero], obox_of h h0 hβ H h1 h2 hA fun j hj => ?_⟩
          have := hown (j + 1) (by simp; omega)
          rw [show j0 + 1 + j = j0 + (j + 1) by omega, this]
          simp [ownOf]
      · cases hk
    · cases hk
  · cases hagg : isAggB P t <;> rw [hagg] at hk <;> simp only [cond_true, cond_false] at hk
    · obtain ⟨cs, l, z, hk1, H⟩ := outcsK_inv h hk
      obtain ⟨c, cs', hcs, hk2⟩ := consK_inv hk1
      subst hcs
      obtain ⟨hnil, hk3⟩ := nilK_inv hk2
      subst hnil
      have hna := H.na c (by simp)
      have hc1 : plc c = 1 := by cases c <;> first | rfl | exact absurd rfl (hna _).1 | exact absurd rfl (hna _).2
      have hF := H.fr p (by simp)
      refine ⟨c, l, z, hk3, by rw [hc1]; exact H.len, fun i hi => ?_, H.row, fun fz A zz h1 h2 hA _ own j0 hown => OCells_one hna (H.sem fz A [u] h1 h2 hA ⟨?_, trivial⟩ own j0 hown)⟩
      · obtain ⟨c', hc'⟩ := H.own i hi
        rw [hc']; trivial
      · cases p <;> first | exact hp | exact hF.elim
    · obtain ⟨ps, hps, hk1⟩ := aggK_inv hk
      subst hps
      obtain ⟨cs, l, z, hk2, H⟩ := outcsK_inv h hk1
      obtain ⟨vs, hu, hvs⟩ := hp
      refine ⟨.agg cs, l, z, hk2, H.len, fun i hi => ?_, H.row, fun fz A zz h1 h2 hA _ own j0 hown => ⟨vs, hu, H.sem fz A vs h1 h2 hA hvs own j0 hown⟩⟩
      obtain ⟨c', hc'⟩ := H.own i hi
      rw [hc']; trivial

/-- What a result variable holds. -/
def resRun (P : Program) (tmps : Array Value) (w : World) (rv : ResultVar) (u : Value) : Prop :=
  (match rv with
   | .tmp t => (pure (tmps.getD t undef) : Sem Value)
   | .cell a t => do loadVar t (← asAddr (tmps.getD a undef))).run P w = .ok u w

theorem tm_rep (h : Sim N w0 X0 Y β s a w) (t : Nat) : VRep w (Aof s.hp β Y) β (s.tm t) (a.tmps.getD t undef) := by
  rcases Nat.lt_or_ge t N with h' | h'
  · exact h.tms t h'
  · rw [h.tmo t h']
    exact TRep.top _

theorem resvK_inv (h : Sim N w0 X0 Y β s a w) {rv : ResultVar} {K : PV → Option R} (hk : resvK P s rv K = some r) : ∃ p u, K p = some r ∧ resRun P a.tmps w rv u ∧ VRep w (Aof s.hp β Y) β p u := by
  unfold resvK at hk
  split at hk
  · rename_i t
    exact ⟨_, _, hk, rfl, tm_rep h t⟩
  · rename_i x t
    obtain ⟨v, ad, val, hk1, hax, hl, hv, _⟩ := load_val h (tm_rep h x) hk
    refine ⟨v, val, hk1, ?_, hv⟩
    unfold resRun
    simp [hax, asAddr, hl]

theorem ownOf_app1 {l l' : List (Option Nat)} {j : Nat} (h : j < l.length) : ownOf β (l ++ l') j = ownOf β l j := by
  unfold ownOf
  rw [List.getElem?_append_left h]
theorem ownOf_app2 {l l' : List (Option Nat)} {j : Nat} : ownOf β (l ++ l') (l.length + j) = ownOf β l' j := by
  unfold ownOf
  rw [List.getElem?_append_right (by omega), Nat.add_sub_cancel_left]

theorem outvsK_inv (h : Sim N w0 X0 Y β s a w) {shr : Bool} : ∀ {rs : List ResultVar} {ts : List TypeId} {K : List PV → List Nat → List Nat → Option R}, outvsK P shr s rs ts K = some r →
    ∃ vs l z us, K vs (l.filterMap id) z = some r ∧ All2 (resRun P a.tmps w) rs us ∧ l.length = plcSum vs ∧ LiveId s l ∧ RowId s z ∧
      ∀ (fz : List Nat) A zz, (∀ i ∈ z, i ∈ fz) → RowId s fz → (∀ b, A b → Aof (freezeIds s.hp fz) β Y b) → (∀ id c b o, some id ∈ l → s.hp id = some (.st c) → β id = some (b, o) → zz ≤ b) →
        ∀ own j0, (∀ j, j < l.length → own (j0 + j) = ownOf β l j) → OVals w A own zz j0 vs us
  | [], [], K, hk => ⟨[], [], [], [], hk, trivial, rfl, (by intro id hid; cases hid), (by intro id hid; cases hid), fun _ _ _ _ _ _ _ _ _ _ => trivial⟩
  | [], _ :: _, K, hk => by cases hk
  | _ :: _, [], K, hk => by cases hk
  | rv :: rs, t :: ts, K, hk => by
    unfold outvsK at hk
    obtain ⟨p, u, hk1, hu, hp⟩ := resvK_inv h hk
    obtain ⟨v, l, z, hk2, hl, hL, hz, hv⟩ := outvK_inv h hp hk1
    obtain ⟨vs, l', z', us, hk3, hus, hl', hL', hz', hvs⟩ := outvsK_inv h hk2
    refine ⟨v :: vs, l ++ l', z ++ z', u :: us, ?_, ⟨hu, hus⟩, by simp only [List.length_append, plcSum, List.map_cons, List.sum_cons, hl]; rw [hl']; rfl, ?_, ?_, fun fz A zz h1 h2 hA hst own j0 hown => ⟨?_, ?_⟩⟩
    · rw [List.filterMap_append]; exact hk3
    · intro id hid
      rcases List.mem_append.1 hid with hid | hid
      · exact hL id hid
      · exact hL' id hid
    · intro id hid
      rcases List.mem_append.1 hid with hid | hid
      · exact hz id hid
      · exact hz' id hid
    · exact hv fz A zz (fun i hi => h1 i (by simp [hi])) h2 hA (fun id c b o hi => hst id c b o (by simp [hi])) own j0 fun j hj => by rw [hown j (by simp; omega), ownOf_app1 hj]
    · refine hvs fz A zz (fun i hi => h1 i (by simp [hi])) h2 hA (fun id c b o hi => hst id c b o (by simp [hi])) own (j0 + plc v) fun j hj => ?_
      rw [← hl, Nat.add_assoc, hown (l.length + j) (by simp; omega), ownOf_app2]

/-- What was lent goes back. -/
theorem backsK_inv (h : Sim N w0 X0 Y β s a w) {bt : Bt2} (hpt : ∀ i, X0.pt i = bt i 0) : ∀ {ts : List TypeId} {i : Nat} {ps : List PV} {K : List (List PV) → List Nat → List Nat → List Nat → Option R}, backsK P N s.hp i ts ps K = some r →
    (∀ k p, ps[k]? = some p → isL p = true → X0.pn (i + k)) →
    ∃ os l z q, K os (l.filterMap id) z q = some r ∧ (∀ id, some id ∈ l → ∃ c, s.hp id = some (.ar false c)) ∧ RowId s z ∧ (∀ id ∈ q, liveB (s.hp id)) ∧ (∀ k p, ps[k]? = some p → isL p = true → pinId N (i + k) ∈ q) ∧
      ∀ (fz : List Nat) A, (∀ i ∈ z, i ∈ fz) → RowId s fz → (∀ i ∈ q, i ∉ fz) → (∀ b, A b → Aof (freezeIds s.hp fz) β Y b) →
        ∀ own j0, (∀ j, j < l.length → own (j0 + j) = ownOf β l j) → OOuts w A own bt j0 i ps os
  | [], i, ps, K, hk, _ => by
    obtain ⟨hps, hk⟩ := nilK_inv hk
    subst hps
    exact ⟨[], [], [], [], hk, by simp, (by intro id hid; cases hid), by simp, by simp, fun _ _ _ _ _ _ _ _ _ => rfl⟩
  | t :: ts, i, ps, K, hk, hpn => by
    unfold backsK at hk
    obtain ⟨p, ps', hps, hk1⟩ := consK_inv hk
    subst hps
    have hpn' : ∀ k p, ps'[k]? = some p → isL p = true → X0.pn (i + 1 + k) := fun k p' h1 h2 => by
      have := hpn (k + 1) p' (by simpa using h1) h2
      rw [show i + 1 + k = i + (k + 1) by omega]
      exact this
    have hpq : ∀ {q : List Nat}, (isL p = true → pinId N i ∈ q) → (∀ k p, ps'[k]? = some p → isL p = true → pinId N (i + 1 + k) ∈ q) → ∀ k p', (p :: ps')[k]? = some p' → isL p' = true → pinId N (i + k) ∈ q := by
      intro q h1 h2 k p' h3 h4
      cases k with
      | zero =>
        simp only [List.getElem?_cons_zero, Option.some.injEq] at h3
        subst h3
        exact h1 h4
      | succ k =>
        have := h2 k p' (by simpa using h3) h4
        rw [show i + 1 + k = i + (k + 1) by omega] at this
        exact this
    split at hk1
    · rename_i ws
      obtain ⟨e, he, hk2⟩ := optK_inv hk1
      split at hk2
      · rename_i c h0
        obtain ⟨cs, l, z, hk3, hcl, H⟩ := backcsK_inv h hk2
        obtain ⟨os, l', z', q, hk4, hL', hz', hq', hpi, hv⟩ := backsK_inv h hpt hk3 hpn'
        refine ⟨cs :: os, l ++ l', z ++ z', pinId N i :: q, by rw [List.filterMap_append]; exact hk4, ?_, ?_, ?_, hpq (fun _ => List.mem_cons_self) (fun k p h1 h2 => List.mem_cons_of_mem _ (hpi k p h1 h2)), fun fz A h1 h2 h3 hA own j0 hown => ?_⟩
        · intro id hid
          rcases List.mem_append.1 hid with hid | hid
          · exact H.own id hid
          · exact hL' id hid
        · intro id hid
          rcases List.mem_append.1 hid with hid | hid
          · exact H.row id hid
          · exact hz' id hid
        · intro id hid
          rcases List.mem_cons.1 hid with rfl | hid
          · rw [h0]; trivial
          · exact hq' id hid
        · have hpin := (h.pin i (by have := hpn 0 _ rfl rfl; rwa [Nat.add_zero] at this)).2
          obtain ⟨b, o, hb1, _, _⟩ := h.box _ _ h0
          rw [hb1, hpt] at hpin
          refine ⟨⟨b, o, hpin.symm, hcl, obox_of h h0 hb1 H (fun i hi => h1 i (by simp [hi])) h2 hA fun j hj => by rw [hown j (by simp; omega), ownOf_app1 hj]⟩, ?_⟩
          refine hv fz A (fun i hi => h1 i (by simp [hi])) h2 (fun i hi => h3 i (by simp [hi])) hA own (j0 + cs.length) fun j hj => ?_
          rw [← H.len, Nat.add_assoc, hown (l.length + j) (by simp; omega), ownOf_app2]
      · cases hk2
    · split at hk1
      · rename_i c h0
        obtain ⟨os, l', z', q, hk4, hL', hz', hq', hpi, hv⟩ := backsK_inv h hpt hk1 hpn'
        refine ⟨c :: os, l', z', pinId N i :: q, hk4, hL', hz', ?_, hpq (fun _ => List.mem_cons_self) (fun k p h1 h2 => List.mem_cons_of_mem _ (hpi k p h1 h2)), fun fz A h1 h2 h3 hA own j0 hown => ⟨?_, hv fz A h1 h2 (fun i hi => h3 i (by simp [hi])) hA own j0 hown⟩⟩
        · intro id hid
          rcases List.mem_cons.1 hid with rfl | hid
          · rw [h0]; trivial
          · exact hq' id hid
        · have hpin := (h.pin i (by have := hpn 0 _ rfl rfl; rwa [Nat.add_zero] at this)).2
          rw [hpt] at hpin
          rcases h.box _ _ h0 with ⟨h4, h5⟩ | ⟨b, o, h4, h5, h6, _⟩
          · exact .inl ⟨by rw [← hpin]; exact h4, h5⟩
          · exact .inr ⟨b, o, by rw [← hpin]; exact h4, h5.weak (fun b _ hb => freeze_A (hA b hb)), h6 rfl⟩
      · cases hk1
    · rename_i hn1 hn2
      have hnL : isL p = false := by cases p <;> first | rfl | exact absurd rfl (hn1 _) | exact absurd rfl (hn2 _)
      obtain ⟨os, l', z', q, hk4, hL', hz', hq', hpi, hv⟩ := backsK_inv h hpt hk1 hpn'
      refine ⟨os, l', z', q, hk4, hL', hz', hq', hpq (fun e => by rw [hnL] at e; cases e) hpi, fun fz A h1 h2 h3 hA own j0 hown => ?_⟩
      have := hv fz A h1 h2 h3 hA own j0 hown
      cases p <;> first | exact this | cases hnL

theorem mapM_run {f : ResultVar → Sem Value} : ∀ {rs : List ResultVar} {us : List Value}, All2 (fun rv u => (f rv).run P w = .ok u w) rs us → (rs.mapM f).run P w = .ok us w
  | [], [], _ => by simp
  | [], _ :: _, h => h.elim
  | _ :: _, [], h => h.elim
  | rv :: rs, u :: us, h => by
    rw [List.mapM_cons]
    simp [h.1, mapM_run h.2]

theorem results_run {fn : Func} {us : List Value} (h : All2 (resRun P a.tmps w) fn.results.toList us) : (results fn a.tmps).run P w = .ok (retVal us) w := by
  unfold results
  rw [Array.mapM_eq_mapM_toList]
  simp only [map_eq_pure_bind, bind_assoc, pure_bind, Sem.run_bind]
  refine Eq.trans (congrArg (fun x => Result.andThen x _) (mapM_run h)) ?_
  simp only [Result.andThen_ok, Sem.run_pure]
  congr 1
  clear h
  match us with
  | [] => rfl
  | [u] => rfl
  | u :: v :: us => exact dif_neg (by simp)

theorem nodup_at : ∀ {l : List (Option Nat)}, nodupB (l.filterMap id) = true → ∀ {j j' i : Nat}, l[j]? = some (some i) → l[j']? = some (some i) → j = j'
  | [], _, j, j', i, h, _ => by simp at h
  | q :: l, hn, j, j', i, h, h' => by
    have hn' : nodupB (l.filterMap id) = true := by
      cases q with
      | none => exact hn
      | some x =>
        simp only [List.filterMap_cons, id_eq, nodupB, Bool.and_eq_true] at hn
        exact hn.2
    have hq : ∀ (x k : Nat), q = some x → l[k]? ≠ some (some x) := by
      intro x k e hk
      subst e
      simp only [List.filterMap_cons, id_eq, nodupB, Bool.and_eq_true, Bool.not_eq_true'] at hn
      exact any_beq hn.1 (List.mem_filterMap.2 ⟨some x, List.mem_of_getElem? hk, rfl⟩)
    cases j with
    | zero =>
      cases j' with
      | zero => rfl
      | succ k' =>
        simp at h h'
        exact absurd h' (hq i k' h)
    | succ k =>
      cases j' with
      | zero =>
        simp at h h'
        exact absurd h (hq i k h')
      | succ k' =>
        simp at h h'
        rw [nodup_at hn' h h']

/-- A function keeps its contract. -/
theorem pfun_sound (hNG : NoNG P) (hm : P.follows .mixedOrders = true) {C : Cfg} {fu : Nat} {call : Call'} (hcall : ∀ f args res, call f args = some res → SoundC P f args res) {f : FuncId} {fn : Func} {c : Code} (hf : P.funcs[f]? = some fn) (hb : fn.body = some c)
    {args : List PV} {res : Res} (hk : pfun C P fu call f fn c args = some res) : SoundC P f args res := by
  refine ⟨⟨fn, hf, by rw [hb]; rfl⟩, fun w Y bt us hin => ?_⟩
  unfold pfun at hk
  obtain ⟨tms, bs, hk1, hst⟩ := sim_start hin hk
  obtain ⟨hb1, hk2⟩ := chk_inv hk1
  simp only [Bool.and_eq_true] at hb1
  have hlen : us.length ≤ fn.ntmps := by
    rw [← hin.args.len]
    exact Nat.le_of_ble_eq_true hb1.1
  obtain ⟨h8, β0, hs⟩ := hst hb1.2 hlen
  refine calls_of_wp hf hb ?_
  have fin : ∀ (s' : St) (a' : Act) (w' : World) (β' : Bt), retK C P f fn args s' = some res → Sim fn.ntmps w (lendOf bt args h8) Y β' s' a' w' →
      a'.defers = [] ∧ ∃ v, (results fn a'.tmps).run P w' = .ok v w' ∧ ∃ vs own, Ending.returned v = .returned (retVal vs) ∧ Out w w' Y bt args own res vs := by
    intro s' a' w' β' hr h
    unfold retK at hr
    obtain ⟨vs, l, z, us', hr1, hus, hll, hL, hz, hv⟩ := outvsK_inv h hr
    obtain ⟨os, l', z', q, hr2, hL', hz', hq, hpi, hv'⟩ := backsK_inv h (bt := bt) (fun _ => rfl) hr1 (fun k p h1 h2 => by rw [Nat.zero_add]; exact ⟨p, h1, h2⟩)
    obtain ⟨hnd, hr3⟩ := chk_inv hr2
    cases hr3
    simp only [Bool.and_eq_true] at hnd
    obtain ⟨hnd, hdis⟩ := hnd
    obtain ⟨hn1, hn2, hn3⟩ := nodupB_app hnd
    have hfz : ∀ i ∈ z ++ z', i ∉ (l.filterMap id ++ l'.filterMap id) ++ q := by
      intro i hi hm'
      have := List.all_eq_true.1 hdis i hi
      have h2 : ((l.filterMap id ++ l'.filterMap id) ++ q).any (Nat.beq i) = true := List.any_eq_true.2 ⟨i, hm', Nat.beq_refl i⟩
      rw [h2] at this
      cases this
    have hrow : RowId s' (z ++ z') := by
      intro i hi
      rcases List.mem_append.1 hi with hi | hi
      · exact hz i hi
      · exact hz' i hi
    refine ⟨h.dfr, retVal us', results_run hus, us', ownOf β' (l ++ l'), rfl, ?_⟩
    have hnd' : nodupB ((l ++ l').filterMap id) = true := by rw [List.filterMap_append]; exact hn1
    have hown : ∀ j b o, ownOf β' (l ++ l') j = some (b, o) → ∃ id, (l ++ l')[j]? = some (some id) ∧ β' id = some (b, o) := by
      intro j b o hj
      unfold ownOf at hj
      cases hlj : (l ++ l')[j]? with
      | none => rw [hlj] at hj; cases hj
      | some q =>
        cases q with
        | none => rw [hlj] at hj; cases hj
        | some id =>
          rw [hlj] at hj
          exact ⟨id, rfl, hj⟩
    have hmem : ∀ (j i : Nat), (l ++ l')[j]? = some (some i) → i ∈ l.filterMap id ++ l'.filterMap id := by
      intro j i hj
      rw [← List.filterMap_append]
      exact List.mem_filterMap.2 ⟨some i, List.mem_of_getElem? hj, rfl⟩
    have hlive : ∀ (j i : Nat), (l ++ l')[j]? = some (some i) → liveB (s'.hp i) := by
      intro j i hj
      rcases List.mem_append.1 (List.mem_of_getElem? hj) with hm' | hm'
      · exact hL i hm'
      · obtain ⟨c, hc⟩ := hL' i hm'
        rw [hc]; trivial
    have hunfz : ∀ i, i ∈ (l.filterMap id ++ l'.filterMap id) ++ q → freezeIds s'.hp (z ++ z') i = s'.hp i := by
      intro i hi
      rw [freeze_get, if_neg (fun hm' => hfz i hm' hi)]
    -- what was lent
    have hpinL : ∀ i b o, bt i 0 = some (b, o) → pinId fn.ntmps i ∈ q ∧ liveB (s'.hp (pinId fn.ntmps i)) ∧ β' (pinId fn.ntmps i) = some (b, o) := by
      intro i b o hb0
      obtain ⟨p, h1, h2⟩ := hin.l0 i _ hb0
      have h3 := hpi i p h1 h2
      rw [Nat.zero_add] at h3
      exact ⟨h3, hq _ h3, (h.pin i ⟨p, h1, h2⟩).2.trans hb0⟩
    have hAO : ∀ b, OutA bt (ownOf β' (l ++ l')) Y b → Aof (freezeIds s'.hp (z ++ z')) β' Y b := by
      rintro b (⟨j, o, hj⟩ | ⟨i, o, hb0⟩ | hY)
      · obtain ⟨id, h1, h2⟩ := hown j b o hj
        refine .inl ⟨id, o, ?_, h2⟩
        rw [hunfz id (List.mem_append.2 (.inl (hmem j id h1)))]
        exact hlive j id h1
      · obtain ⟨h1, h2, h3⟩ := hpinL i b o hb0
        refine .inl ⟨_, o, ?_, h3⟩
        rw [hunfz _ (List.mem_append.2 (.inr h1))]
        exact h2
      · exact .inr hY
    have hnew : ∀ (j id b o : Nat), (l ++ l')[j]? = some (some id) → β' id = some (b, o) → b < w.heap.size → ∃ i k o', bt i (k + 1) = some (b, o') := by
      intro j id b o hj hβ hlt
      rcases h.ownd b ⟨id, o, hlive j id hj, hβ⟩ with ⟨i, k, o', hb0⟩ | hge
      · cases k with
        | zero =>
          obtain ⟨h1, h2, h3⟩ := hpinL i b o' hb0
          have := h.inj id _ b o o' (hlive j id hj) h2 hβ h3
          subst this
          exact absurd h1 (hn3 _ (hmem j _ hj))
        | succ k => exact ⟨i, k, o', hb0⟩
      · omega
    refine ⟨h.fr.os, h.fr.tape, h.fr.output, h.fr.step, h.fr.rng, ?_, ?_, ?_, ?_⟩
    · refine hv (z ++ z') _ _ (fun i hi => List.mem_append.2 (.inl hi)) hrow hAO (fun id c b o hi hc hβ => ?_) _ 0 (fun j hj => by rw [Nat.zero_add, ownOf_app1 hj])
      rcases Nat.lt_or_ge b w.heap.size with hlt | hge
      · obtain ⟨k, hk', p, h1, h2⟩ := h.stp id c b o hc hβ hlt
        have h3 := hpi k p h1 h2
        rw [Nat.zero_add, ← hk'] at h3
        obtain ⟨j, hj⟩ := List.mem_iff_getElem?.1 hi
        refine absurd h3 (hn3 id ?_)
        exact List.mem_append.2 (.inl (List.mem_filterMap.2 ⟨some id, hi, rfl⟩))
      · exact hge
    · refine hv' (z ++ z') _ (fun i hi => List.mem_append.2 (.inr hi)) hrow (fun i hi hm' => hfz i hm' (List.mem_append.2 (.inr hi))) hAO _ _ (fun j hj => ?_)
      rw [← hll, ownOf_app2]
    · intro j b o hj
      obtain ⟨id, h1, h2⟩ := hown j b o hj
      refine ⟨h.blt id b o (liveB_some (hlive j id h1)) h2, fun hlt => ⟨hnew j id b o h1 h2 hlt, fun x hx => ?_⟩⟩
      cases hbx : s'.hp id with
      | none => have := hlive j id h1; rw [hbx] at this; exact this.elim
      | some bx =>
        have hl1 := hlive j id h1
        rw [hbx] at hl1
        cases bx with
        | st c =>
          obtain ⟨k, hk', p, h3, h4⟩ := h.stp id c b o hbx h2 hlt
          have h5 := hpi k p h3 h4
          rw [Nat.zero_add, ← hk'] at h5
          exact absurd h5 (hn3 _ (hmem j _ h1))
        | ar fz c => exact h.rngB id _ b o hbx hl1 h2 hlt x hx
        | mv => exact hl1.elim
    · intro j j' b o o' hj hj'
      obtain ⟨id, h1, h2⟩ := hown j b o hj
      obtain ⟨id', h1', h2'⟩ := hown j' b o' hj'
      have := h.inj id id' b o o' (hlive j id h1) (hlive j' id' h1') h2 h2'
      subst this
      exact nodup_at hnd' h1 h1'
  refine pevK_sound hNG hcall hm c hs hk2 (fun s' a' w' β' hr h => fin s' a' w' β' hr h) (fun id s' a' w' β' hr h => by cases hr) (fun s' a' w' β' hr h => fin s' a' w' β' hr h)

theorem pcall_sound (hNG : NoNG P) (hm : P.follows .mixedOrders = true) {C : Cfg} {fu : Nat} : ∀ (d : Nat) (f : FuncId) (args : List PV) (res : Res), pcall C P fu d f args = some res → SoundC P f args res
  | 0, _, _, _, h => by cases h
  | d + 1, f, args, res, h => by
    unfold pcall at h
    split at h
    · cases h
    · rename_i fn hf
      split at h
      · cases h
      · rename_i c hb
        exact pfun_sound hNG hm (pcall_sound hNG hm d) hf hb h
end

end Go.Proofs.Ytaphhfehcbkfkaa.Pv

namespace Go.Proofs.Ytaphhfehcbkfkaa.Pv
open Go.ChangeShapes Go.WideShapes Go.ChangeAt Go.RowKit Go.Deep

/- A type whose values are trees. -/
def offsOk (P : Program) : List Field → Nat → Nat → Bool
  | [], i, n => Nat.beq i n
  | f :: r, i, n => Nat.beq f.offset i && offsOk P r (i + P.cellsOf f.type) n

def plainTy (P : Program) : Nat → TypeId → Bool
  | 0, _ => false
  | d + 1, t =>
    match P.underlying t with
    | some .bool => true
    | some (.int _) => true
    | some .string => true
    | some (.slice e) => plainTy P d e && Nat.blt 0 (P.cellsOf e)
    | some (.struct fs) => offsOk P fs.toList 0 (P.cellsOf t) && fs.toList.all fun f => plainTy P d f.type
    | some (.array n e) => Nat.beq (P.cellsOf t) (n * P.cellsOf e) && plainTy P d e
    | _ => false

/-- A row of cells that is a tree of a type. -/
def WT (P : Program) : Nat → TypeId → List PV → Prop
  | 0, _, _ => False
  | d + 1, t, ps =>
    match P.underlying t with
    | some .bool => ∃ b, ps = [.sc (.bool b)]
    | some (.int k) => ∃ n, ps = [.sc (.int k n)] ∧ (Lit.int k n).wf = true
    | some .string => ∃ s : ByteArray, ps = [.sc (.string s)] ∧ s.size ≤ maxLen
    | some (.slice e) => ∃ rows : List (List PV), ps = [.lst false (P.cellsOf e) rows.length rows.flatten] ∧ rows.length ≤ maxLen ∧ ∀ r ∈ rows, r.length = P.cellsOf e ∧ WT P d e r
    | some (.struct fs) => ∃ rows : List (List PV), ps = rows.flatten ∧ All2 (fun f r => WT P d f.type r) fs.toList rows
    | some (.array n e) => ∃ rows : List (List PV), ps = rows.flatten ∧ rows.length = n ∧ ∀ r ∈ rows, r.length = P.cellsOf e ∧ WT P d e r
    | _ => False

def WTv (P : Program) (t : TypeId) (p : PV) : Prop :=
  match isAggB P t with
  | true => ∃ ps, p = .agg ps ∧ WT P 12 t ps
  | false => WT P 12 t [p]

section
variable {P : Program} {d : Nat} {t e : TypeId} {ps : List PV}
theorem WT_bool (hu : P.underlying t = some .bool) : WT P (d + 1) t ps ↔ ∃ b, ps = [.sc (.bool b)] := by
  show (match P.underlying t with | some .bool => _ | some (.int k) => _ | some .string => _ | some (.slice e) => _ | some (.struct fs) => _ | some (.array n e) => _ | _ => _) ↔ _
  rw [hu]
theorem WT_int {k : IntKind} (hu : P.underlying t = some (.int k)) : WT P (d + 1) t ps ↔ ∃ n, ps = [.sc (.int k n)] ∧ (Lit.int k n).wf = true := by
  show (match P.underlying t with | some .bool => _ | some (.int k) => _ | some .string => _ | some (.slice e) => _ | some (.struct fs) => _ | some (.array n e) => _ | _ => _) ↔ _
  rw [hu]
theorem WT_string (hu : P.underlying t = some .string) : WT P (d + 1) t ps ↔ ∃ s : ByteArray, ps = [.sc (.string s)] ∧ s.size ≤ maxLen := by
  show (match P.underlying t with | some .bool => _ | some (.int k) => _ | some .string => _ | some (.slice e) => _ | some (.struct fs) => _ | some (.array n e) => _ | _ => _) ↔ _
  rw [hu]
theorem WT_slice (hu : P.underlying t = some (.slice e)) : WT P (d + 1) t ps ↔ ∃ rows : List (List PV), ps = [.lst false (P.cellsOf e) rows.length rows.flatten] ∧ rows.length ≤ maxLen ∧ ∀ r ∈ rows, r.length = P.cellsOf e ∧ WT P d e r := by
  show (match P.underlying t with | some .bool => _ | some (.int k) => _ | some .string => _ | some (.slice e) => _ | some (.struct fs) => _ | some (.array n e) => _ | _ => _) ↔ _
  rw [hu]
theorem WT_struct {fs : Array Field} (hu : P.underlying t = some (.struct fs)) : WT P (d + 1) t ps ↔ ∃ rows : List (List PV), ps = rows.flatten ∧ All2 (fun f r => WT P d f.type r) fs.toList rows := by
  show (match P.underlying t with | some .bool => _ | some (.int k) => _ | some .string => _ | some (.slice e) => _ | some (.struct fs) => _ | some (.array n e) => _ | _ => _) ↔ _
  rw [hu]
theorem WT_array {n : Nat} (hu : P.underlying t = some (.array n e)) : WT P (d + 1) t ps ↔ ∃ rows : List (List PV), ps = rows.flatten ∧ rows.length = n ∧ ∀ r ∈ rows, r.length = P.cellsOf e ∧ WT P d e r := by
  show (match P.underlying t with | some .bool => _ | some (.int k) => _ | some .string => _ | some (.slice e) => _ | some (.struct fs) => _ | some (.array n e) => _ | _ => _) ↔ _
  rw [hu]
end

/- The same, by the kind of a type. -/
inductive Ki where
  | bool
  | int (k : IntKind)
  | str
  | sl (e : TypeId)
  | st (ts : List TypeId)
  | ar (n : Nat) (e : TypeId)
  | no

def kindOf (P : Program) (t : TypeId) : Ki :=
  match P.underlying t with
  | some .bool => .bool
  | some (.int k) => .int k
  | some .string => .str
  | some (.slice e) => .sl e
  | some (.struct fs) => .st (fs.toList.map (·.type))
  | some (.array n e) => .ar n e
  | _ => .no

section
variable {P : Program} {d : Nat} {t e : TypeId} {ps : List PV} {p : PV}
theorem All2.map_left {α β γ : Type} {g : α → γ} {R : γ → β → Prop} : ∀ {l : List α} {r : List β}, All2 (fun a b => R (g a) b) l r → All2 R (l.map g) r
  | [], [], _ => trivial
  | _ :: _, _ :: _, h => ⟨h.1, All2.map_left h.2⟩
  | [], _ :: _, h => h.elim
  | _ :: _, [], h => h.elim
theorem All2.cons_inv {α β : Type} {R : α → β → Prop} {a : α} {as : List α} : ∀ {rs : List β}, All2 R (a :: as) rs → ∃ r rs', rs = r :: rs' ∧ R a r ∧ All2 R as rs'
  | [], h => h.elim
  | r :: rs, h => ⟨r, rs, rfl, h.1, h.2⟩
theorem All2.nil_inv {α β : Type} {R : α → β → Prop} : ∀ {rs : List β}, All2 R ([] : List α) rs → rs = []
  | [], _ => rfl
  | _ :: _, h => h.elim
theorem ki_bool (hk : kindOf P t = .bool) (h : WT P d t ps) : ∃ b, ps = [.sc (.bool b)] := by
  cases d with
  | zero => exact h.elim
  | succ d =>
  unfold kindOf at hk
  split at hk <;> first | cases hk | skip
  rename_i hu
  exact (WT_bool hu).1 h
theorem ki_int {k : IntKind} (hk : kindOf P t = .int k) (h : WT P d t ps) : ∃ n, ps = [.sc (.int k n)] ∧ (Lit.int k n).wf = true := by
  cases d with
  | zero => exact h.elim
  | succ d =>
  unfold kindOf at hk
  split at hk <;> first | cases hk | skip
  rename_i hu
  exact (WT_int hu).1 h
theorem ki_str (hk : kindOf P t = .str) (h : WT P d t ps) : ∃ s : ByteArray, ps = [.sc (.string s)] ∧ s.size ≤ maxLen := by
  cases d with
  | zero => exact h.elim
  | succ d =>
  unfold kindOf at hk
  split at hk <;> first | cases hk | skip
  rename_i hu
  exact (WT_string hu).1 h
theorem ki_sl (hk : kindOf P t = .sl e) (h : WT P d t ps) : ∃ rows : List (List PV), ps = [.lst false (P.cellsOf e) rows.length rows.flatten] ∧ rows.length ≤ maxLen ∧ ∀ r ∈ rows, r.length = P.cellsOf e ∧ WT P (d - 1) e r := by
  cases d with
  | zero => exact h.elim
  | succ d =>
  rw [Nat.add_sub_cancel]
  unfold kindOf at hk
  split at hk <;> first | cases hk | skip
  rename_i hu
  exact (WT_slice hu).1 h
theorem ki_st {ts : List TypeId} (hk : kindOf P t = .st ts) (h : WT P d t ps) : ∃ rows : List (List PV), ps = rows.flatten ∧ All2 (WT P (d - 1)) ts rows := by
  cases d with
  | zero => exact h.elim
  | succ d =>
  rw [Nat.add_sub_cancel]
  unfold kindOf at hk
  split at hk <;> first | cases hk | skip
  rename_i fs hu
  obtain ⟨rows, h1, h2⟩ := (WT_struct hu).1 h
  exact ⟨rows, h1, All2.map_left h2⟩
theorem ki_ar {n : Nat} (hk : kindOf P t = .ar n e) (h : WT P d t ps) : ∃ rows : List (List PV), ps = rows.flatten ∧ rows.length = n ∧ ∀ r ∈ rows, r.length = P.cellsOf e ∧ WT P (d - 1) e r := by
  cases d with
  | zero => exact h.elim
  | succ d =>
  rw [Nat.add_sub_cancel]
  unfold kindOf at hk
  split at hk <;> first | cases hk | skip
  rename_i hu
  exact (WT_array hu).1 h

theorem wtv_agg (hk : isAggB P t = true) (h : WTv P t p) : ∃ ps, p = .agg ps ∧ WT P 12 t ps := by
  unfold WTv at h
  rw [hk] at h
  exact h
theorem wtv_one (hk : isAggB P t = false) (h : WTv P t p) : WT P 12 t [p] := by
  unfold WTv at h
  rw [hk] at h
  exact h
theorem wtv_bool (ha : isAggB P t = false) (hk : kindOf P t = .bool) (h : WTv P t p) : ∃ b, p = .sc (.bool b) := by
  obtain ⟨b, e⟩ := ki_bool hk (wtv_one ha h)
  exact ⟨b, by injection e⟩
theorem wtv_int {k : IntKind} (ha : isAggB P t = false) (hk : kindOf P t = .int k) (h : WTv P t p) : ∃ n, p = .sc (.int k n) ∧ (Lit.int k n).wf = true := by
  obtain ⟨b, e, h⟩ := ki_int hk (wtv_one ha h)
  exact ⟨b, by injection e, h⟩
theorem wtv_str (ha : isAggB P t = false) (hk : kindOf P t = .str) (h : WTv P t p) : ∃ s : ByteArray, p = .sc (.string s) ∧ s.size ≤ maxLen := by
  obtain ⟨b, e, h⟩ := ki_str hk (wtv_one ha h)
  exact ⟨b, by injection e, h⟩
theorem wtv_sl (ha : isAggB P t = false) (hk : kindOf P t = .sl e) (h : WTv P t p) : ∃ rows : List (List PV), p = .lst false (P.cellsOf e) rows.length rows.flatten ∧ rows.length ≤ maxLen ∧ ∀ r ∈ rows, r.length = P.cellsOf e ∧ WT P (12 - 1) e r := by
  obtain ⟨b, e, h⟩ := ki_sl hk (wtv_one ha h)
  exact ⟨b, by injection e, h⟩
theorem rows_native {α : Type} (f : α → List PV) (Q : α → Prop) : ∀ {rows : List (List PV)}, (∀ r ∈ rows, ∃ x, r = f x ∧ Q x) → ∃ xs : List α, rows.flatten = xs.flatMap f ∧ rows.length = xs.length ∧ ∀ x ∈ xs, Q x
  | [], _ => ⟨[], rfl, rfl, by simp⟩
  | r :: rows, h => by
    obtain ⟨x, h1, h2⟩ := h r (by simp)
    obtain ⟨xs, h3, h4, h5⟩ := rows_native (rows := rows) f Q fun r hr => h r (by simp [hr])
    refine ⟨x :: xs, by simp [h1, h3], by simp [h4], fun y hy => ?_⟩
    rcases List.mem_cons.1 hy with rfl | hy
    · exact h2
    · exact h5 y hy
end

abbrev No : Nat → Prop := fun _ => False

section
variable {H : Type} {enc : TypeId × Value → H} {P : Program} {w : World} {base : Nat} {held : Bool}

theorem All2.flat {α β : Type} {R : α → β → Prop} : ∀ {l : List Nat} {f : Nat → List α} {g : Nat → List β}, (∀ i ∈ l, All2 R (f i) (g i)) → All2 R (l.map f).flatten (l.map g).flatten
  | [], _, _, _ => trivial
  | i :: l, f, g, h => by
    simp only [List.map_cons, List.flatten_cons]
    exact (h i (by simp)).app (All2.flat fun j hj => h j (by simp [hj]))

theorem cell_some {a : Addr} {v : Value} (h : w.cell? a = some v) : a.spot = none ∧ a.block < w.heap.size := by
  unfold World.cell? at h
  split at h
  · rename_i c t f e
    refine ⟨?_, ?_⟩
    · cases hs : a.spot with
      | none => rfl
      | some x => rw [hs] at h; simp at h
    · rcases Nat.lt_or_ge a.block w.heap.size with h1 | h1
      · exact h1
      · rw [Array.getElem?_eq_none h1] at e; cases e
  · cases h

theorem flat_len {α : Type} {g : Nat → List α} {es : Nat} : ∀ {n : Nat}, (∀ i, i < n → (g i).length = es) → ((List.range n).map g).flatten.length = n * es
  | 0, _ => by simp
  | n + 1, h => by
    rw [List.range_succ, List.map_append, List.flatten_append, List.length_append, flat_len (fun i hi => h i (by omega))]
    simp [h n (by omega), Nat.succ_mul]

theorem cells_flat {a : Addr} {g : Nat → List Value} {es : Nat} : ∀ {n : Nat}, (∀ i, i < n → (g i).length = es) → (∀ i, i < n → ∀ k, k < es → w.cell? (a.add (i * es + k)) = (g i)[k]?) →
    ∀ j, j < n * es → w.cell? (a.add j) = (((List.range n).map g).flatten)[j]?
  | 0, _, _, j, hj => by omega
  | n + 1, hl, hc, j, hj => by
    have hfl := flat_len (fun i (hi : i < n) => hl i (by omega))
    rw [List.range_succ, List.map_append, List.flatten_append, List.getElem?_append, hfl]
    rw [Nat.succ_mul] at hj
    split
    · rename_i h1
      exact cells_flat (fun i hi => hl i (by omega)) (fun i hi => hc i (by omega)) j h1
    · rename_i h1
      have := hc n (by omega) (j - n * es) (by omega)
      rw [show n * es + (j - n * es) = j by omega] at this
      simpa using this

abbrev TR (w : World) (c : PV) (v : Value) : Prop := (isT c ∧ TRep w No c v) ∧ v.oneCell' = true

theorem fields_read {d : Nat} {cs : List Value} {n : Nat} (hn : cs.length = n) : ∀ (l : List Field) (i : Nat), offsOk P l i n = true →
    (∀ f ∈ l, ∃ ps, WT P d f.type ps ∧ All2 (TR w) ps ((cs.drop f.offset).take (P.cellsOf f.type))) → ∃ rows : List (List PV), All2 (fun f r => WT P d f.type r) l rows ∧ All2 (TR w) rows.flatten (cs.drop i)
  | [], i, ho, _ => by
    have := Nat.eq_of_beq_eq_true ho
    refine ⟨[], trivial, ?_⟩
    rw [List.drop_of_length_le (by omega)]
    trivial
  | f :: l, i, ho, h => by
    simp only [offsOk, Bool.and_eq_true] at ho
    have ho1 := Nat.eq_of_beq_eq_true ho.1
    obtain ⟨ps, h1, h2⟩ := h f (by simp)
    obtain ⟨rows, h3, h4⟩ := fields_read hn l _ ho.2 fun g hg => h g (by simp [hg])
    refine ⟨ps :: rows, ⟨h1, h3⟩, ?_⟩
    rw [ho1] at h2
    have : cs.drop i = (cs.drop i).take (P.cellsOf f.type) ++ cs.drop (i + P.cellsOf f.type) := by rw [← List.drop_drop]; exact (List.take_append_drop _ _).symm
    rw [this, List.flatten_cons]
    exact h2.app h4

theorem elems_read {d : Nat} {e : TypeId} {cs : List Value} {k : Nat} : ∀ (n : Nat), n * k ≤ cs.length →
    (∀ i, i < n → ∃ ps, (ps.length = k ∧ WT P d e ps) ∧ All2 (TR w) ps ((cs.drop (i * k)).take k)) → ∃ rows : List (List PV), rows.length = n ∧ (∀ r ∈ rows, r.length = k ∧ WT P d e r) ∧ All2 (TR w) rows.flatten (cs.take (n * k))
  | 0, _, _ => ⟨[], rfl, by simp, by simp [All2]⟩
  | n + 1, hl, h => by
    rw [Nat.succ_mul] at hl
    obtain ⟨rows, h1, h2, h3⟩ := elems_read n (by omega) fun i hi => h i (by omega)
    obtain ⟨ps, h4, h5⟩ := h n (by omega)
    refine ⟨rows ++ [ps], by simp [h1], ?_, ?_⟩
    · intro r hr
      rcases List.mem_append.1 hr with hr | hr
      · exact h2 r hr
      · rw [List.mem_singleton.1 hr]; exact h4
    · rw [List.flatten_append, Nat.succ_mul, List.take_add]
      refine h3.app ?_
      simpa using h5

/-- Cells that can be read as data of a plain type are a tree. -/
theorem read_tree : ∀ (d : Nat) (t : TypeId), plainTy P d t = true → ∀ (fuel : Nat) (cs : List Value) (x : DataW H × List MemPlace), DataW.trod enc P w base (fun _ => true) held fuel t cs = some x →
    ∃ ps, WT P d t ps ∧ All2 (TR w) ps cs
  | 0, _, h, _, _, _, _ => by cases h
  | d + 1, t, hp, fuel, cs, x, h => by
    unfold plainTy at hp
    split at hp
    · rename_i hu
      obtain ⟨b, rfl, _⟩ := DataW.trod_bool hu h
      simp only [WT_bool hu]
      exact ⟨[.sc (.bool b)], ⟨b, rfl⟩, ⟨⟨trivial, TRep.sc _⟩, rfl⟩, trivial⟩
    · rename_i k hu
      obtain ⟨n, rfl, _, hw⟩ := DataW.trod_int hu h
      simp only [WT_int hu]
      exact ⟨[.sc (.int k n)], ⟨n, rfl, hw⟩, ⟨⟨trivial, TRep.sc _⟩, rfl⟩, trivial⟩
    · rename_i hu
      obtain ⟨s, rfl, _, hw⟩ := DataW.trod_string hu h
      simp only [WT_string hu]
      exact ⟨[.sc (.string s)], ⟨s, rfl, hw⟩, ⟨⟨trivial, TRep.sc _⟩, rfl⟩, trivial⟩
    · rename_i e hu
      simp only [Bool.and_eq_true] at hp
      have hes : 0 < P.cellsOf e := Nat.lt_of_succ_le (Nat.le_of_ble_eq_true hp.2)
      simp only [WT_slice hu]
      rcases open_slice hu h with ⟨rfl, _⟩ | ⟨a, len, cap, m, n, D, Pl, rfl, _, hl, hm, hmm, _, hi⟩
      · exact ⟨[.lst false (P.cellsOf e) 0 []], ⟨[], by simp, by simp, by simp⟩, ⟨⟨trivial, TRep.lnil _ _⟩, rfl⟩, trivial⟩
      · simp only [if_true] at hmm
        subst hmm
        have hi' : ∀ i, i < len → ∃ q : List PV × List Value, (q.2.length = P.cellsOf e ∧ (∀ k, k < P.cellsOf e → w.cell? (a.add (i * P.cellsOf e + k)) = q.2[k]?)) ∧ WT P d e q.1 ∧ All2 (TR w) q.1 q.2 := by
          intro i hlt
          obtain ⟨cs', hc, ht⟩ := hi i (by omega)
          obtain ⟨_, hcl, hat⟩ := World.cells?_some hc
          obtain ⟨ps, h1, h2⟩ := read_tree d e hp.1 _ _ _ ht
          exact ⟨(ps, cs'), ⟨hcl, fun k hk => by rw [← Pv.add_add]; exact hat k hk⟩, h1, h2⟩
        obtain ⟨F, hF⟩ := choose_lt hi'
        refine ⟨[.lst false (P.cellsOf e) len ((List.range len).map fun i => (F i).1).flatten], ⟨(List.range len).map fun i => (F i).1, by simp, by simp; omega, ?_⟩, ⟨⟨trivial, ?_⟩, rfl⟩, trivial⟩
        · intro r hr
          obtain ⟨i, hi1, rfl⟩ := List.mem_map.1 hr
          have hi2 := List.mem_range.1 hi1
          exact ⟨by rw [(hF i hi2).2.2.len]; exact (hF i hi2).1.1, (hF i hi2).2.1⟩
        · rcases Nat.eq_zero_or_pos len with h0 | h0
          · subst h0
            exact TRep.lemp _ _ _
          · have hall : All2 (TR w) ((List.range len).map fun i => (F i).1).flatten ((List.range len).map fun i => (F i).2).flatten := All2.flat fun i hi => (hF i (List.mem_range.1 hi)).2.2
            have hcell := cells_flat (w := w) (a := a) (g := fun i => (F i).2) (fun i hi => (hF i hi).1.1) (fun i hi => (hF i hi).1.2)
            have hlen := flat_len (g := fun i => (F i).2) (fun i (hi : i < len) => (hF i hi).1.1)
            have h00 : w.cell? a ≠ none := by
              have := hcell 0 (Nat.mul_pos h0 hes)
              rw [show a.add 0 = a by unfold Addr.add; simp] at this
              rw [this, List.getElem?_eq_getElem (by rw [hlen]; exact Nat.mul_pos h0 hes)]
              simp
            obtain ⟨v0, hv0⟩ := Option.ne_none_iff_exists'.1 h00
            obtain ⟨hs, hb⟩ := cell_some hv0
            have key : ∀ j c, (((List.range len).map fun i => (F i).1).flatten)[j]? = some c → ∃ v, w.cell? (a.add j) = some v ∧ TR w c v := by
              intro j c hj
              have hlj : j < len * P.cellsOf e := by
                rw [← hlen, ← hall.len]
                rcases Nat.lt_or_ge j (((List.range len).map fun i => (F i).1).flatten).length with h1 | h1
                · exact h1
                · rw [List.getElem?_eq_none h1] at hj; cases hj
              have h1 := hcell j hlj
              rw [List.getElem?_eq_getElem (by rw [hlen]; exact hlj)] at h1
              exact ⟨_, h1, hall.at_ hj (List.getElem?_eq_getElem (by rw [hlen]; exact hlj))⟩
            refine TRep.lst _ _ _ a _ (fun j => (w.cell? (a.add j)).getD undef) hs hb (fun h => h) hl (fun j c hj => ?_) (fun j c hj => ?_) (fun j c hj => ?_)
            · obtain ⟨v, hv, _⟩ := key j c hj; rw [hv]; rfl
            · obtain ⟨v, hv, ht⟩ := key j c hj; rw [hv]; exact ht.2
            · obtain ⟨v, hv, ht⟩ := key j c hj; rw [hv]; exact ht.1.2
    · rename_i fs hu
      simp only [Bool.and_eq_true] at hp
      simp only [WT_struct hu]
      obtain ⟨xs, n, _, _, hlen, hxl, hf⟩ := DataW.trod_struct hu h
      obtain ⟨rows, h1, h2⟩ := fields_read (P := P) (w := w) (d := d) hlen fs.toList 0 hp.1 fun f hf' => by
        obtain ⟨i, hi⟩ := List.mem_iff_getElem?.1 hf'
        have hi' : fs[i]? = some f := by simpa using hi
        have hlt : i < fs.size := (Array.getElem?_eq_some_iff.1 hi').1
        have h3 := hf i f hi'
        rw [List.getElem?_eq_getElem (by omega)] at h3
        exact read_tree d f.type (List.all_eq_true.1 hp.2 f hf') _ _ _ h3
      exact ⟨_, ⟨rows, rfl, h1⟩, by simpa using h2⟩
    · rename_i n e hu
      simp only [Bool.and_eq_true] at hp
      simp only [WT_array hu]
      obtain ⟨xs, m, _, _, hlen, hxl, hf⟩ := DataW.trod_array hu h
      have hsz := Nat.eq_of_beq_eq_true hp.1
      obtain ⟨rows, h1, h2, h3⟩ := elems_read (P := P) (w := w) (d := d) (e := e) (cs := cs) (k := P.cellsOf e) n (by omega) fun i hi => by
        have h3 := hf i hi
        rw [List.getElem?_eq_getElem (by omega)] at h3
        obtain ⟨ps, h4, h5⟩ := read_tree d e hp.2 _ _ _ h3
        refine ⟨ps, ⟨?_, h4⟩, h5⟩
        rw [h5.len, List.length_take, List.length_drop, hlen, hsz]
        have : (i + 1) * P.cellsOf e ≤ n * P.cellsOf e := Nat.mul_le_mul_right _ hi
        rw [Nat.succ_mul] at this
        omega
      refine ⟨_, ⟨rows, rfl, h1, h2⟩, ?_⟩
      rw [List.take_of_length_le (by omega)] at h3
      exact h3
    · cases hp

theorem read_val {r : Reach} {b0 : Nat} {t : TypeId} {v : Value} {dd : DataW H} {p : List MemPlace} (hp : plainTy P 12 t = true) (hv : Value.okWide P w r b0 t v) (h : DataW.Trod enc P w base (fun _ => true) held t v dd p) :
    ∃ q, WTv P t q ∧ ARep w No q v := by
  obtain ⟨fuel, hf⟩ := h
  obtain ⟨ps, h1, h2⟩ := read_tree 12 t hp fuel _ _ hf
  unfold WTv isAggB
  have two : ∀ {cs : Array Value}, v = .agg cs → ∃ q, (∃ ps, q = .agg ps ∧ WT P 12 t ps) ∧ ARep w No q v := by
    intro cs e
    subst e
    exact ⟨.agg ps, ⟨ps, rfl, h1⟩, cs.toList, by simp, h2.mono fun c v h => h.1⟩
  have one : v.cells.toList = [v] → ∃ q, WT P 12 t [q] ∧ ARep w No q v := by
    intro e
    rw [e] at h2
    match ps, h2 with
    | [q], h2 =>
      refine ⟨q, h1, ?_⟩
      have h3 := h2.1.1
      cases q <;> first | exact h3 | exact h3.1.elim
    | [], h2 => exact h2.elim
    | _ :: _ :: _, h2 => exact h2.2.elim
  unfold plainTy at hp
  split at hp
  · rename_i hu
    simp only [hu]
    obtain ⟨b, rfl, _⟩ := open_bool hu hv ⟨fuel, hf⟩
    exact one rfl
  · rename_i k hu
    simp only [hu]
    obtain ⟨b, rfl, _⟩ := open_int hu hv ⟨fuel, hf⟩
    exact one rfl
  · rename_i hu
    simp only [hu]
    obtain ⟨b, rfl, _⟩ := ChangeMaps.open_string hu hv ⟨fuel, hf⟩
    exact one rfl
  · rename_i e hu
    simp only [hu]
    obtain ⟨a, len, cap, rfl⟩ := okWide_slice hu hv
    exact one rfl
  · rename_i fs hu
    simp only [hu]
    obtain ⟨cs, rfl, _⟩ := okWide_struct hu hv
    exact two rfl
  · rename_i n e hu
    simp only [hu]
    unfold Value.okWide at hv
    simp only [hu] at hv
    obtain ⟨cs, rfl, _⟩ := hv
    exact two rfl
  · cases hp

theorem read_args : ∀ {ts : List TypeId} {vs : List Value} {ds : List (DataW H)} {p : List MemPlace} {r : Reach} {b0 : Nat}, (ts.all fun t => plainTy P 12 t) = true → (∀ (j : Nat) t v, ts[j]? = some t → vs[j]? = some v → Value.okWide P w r b0 t v) →
    DataW.TrodAll enc P w base (fun _ => true) held ts vs ds p → ∃ qs, All2 (WTv P) ts qs ∧ All2 (ARep w No) qs vs
  | [], [], [], _, _, _, _, _, _ => ⟨[], trivial, trivial⟩
  | t :: ts, v :: vs, d :: ds, _, r, b0, hp, hv, ⟨p, q, h1, h2, _⟩ => by
    simp only [List.all_cons, Bool.and_eq_true] at hp
    obtain ⟨x, h3, h4⟩ := read_val hp.1 (hv 0 t v rfl rfl) h1
    obtain ⟨xs, h5, h6⟩ := read_args hp.2 (fun j t v ht hv' => hv (j + 1) t v ht hv') h2
    exact ⟨x :: xs, ⟨h3, h5⟩, h4, h6⟩
  | [], _ :: _, _, _, _, _, _, _, h => by cases h
  | [], [], _ :: _, _, _, _, _, _, h => by cases h
  | _ :: _, [], _, _, _, _, _, _, h => by cases h
  | _ :: _, _ :: _, [], _, _, _, _, _, h => by cases h

theorem trodAll_stays (hl : laidOutB P = true) {W W' : World} {sp : Nat → Bool} : ∀ {ts : List TypeId} {vs : List Value} {ds : List (DataW H)} {p : List MemPlace}, (ts.all fun t => P.readableRec t && Nat.blt t P.types.size) = true →
    DataW.TrodAll enc P W 0 (fun _ => true) true ts vs ds p → (∀ x ∈ p, W.sameAt W' x) → (∀ x ∈ p, sp x.block = true) → DataW.TrodAll enc P W' 0 sp true ts vs ds p
  | [], [], [], _, _, h, _, _ => h
  | t :: ts, v :: vs, d :: ds, _, hr, ⟨p, q, h1, h2, e⟩, hs, hsp => by
    simp only [List.all_cons, Bool.and_eq_true] at hr
    refine ⟨p, q, WideElems.Trod_stays hl hr.1.1 (Nat.lt_of_succ_le (Nat.le_of_ble_eq_true hr.1.2)) h1 (fun x hx => hs x ?_) (fun x hx => hsp x ?_), trodAll_stays hl hr.2 h2 (fun x hx => hs x ?_) (fun x hx => hsp x ?_), e⟩
    all_goals rw [e, List.mem_append]
    · exact .inl hx
    · exact .inl hx
    · exact .inr hx
    · exact .inr hx
  | [], _ :: _, _, _, _, h, _, _ => by cases h
  | [], [], _ :: _, _, _, h, _, _ => by cases h
  | _ :: _, [], _, _, _, h, _, _ => by cases h
  | _ :: _, _ :: _, [], _, _, h, _, _ => by cases h

theorem post_of_below {f : Func} {s : ChangeSpec} {apart fresh handsOn again : Bool} {W W' : World} {args : Array Value} {v : Value} {ds gs : List (DataW H)} {before pa pv : List MemPlace}
    (hW : DataW.Whole enc P f.params.toList s.vars apart W args.toList ds gs before)
    (hres : ∀ (b : Nat) (sp : Nat → Bool) (hd : Bool), DataW.TrodAll enc P W' b sp hd f.resultTypes.toList (v.resultList f.resultTypes.size) (s.fn H (ds ++ gs)).results [])
    (hargs : ∀ sp : Nat → Bool, (∀ p ∈ before, sp p.block = true) → DataW.TrodAll enc P W' 0 sp true f.params.toList args.toList (s.fn H (ds ++ gs)).args pa)
    (hvars : ∀ sp : Nat → Bool, (∀ p ∈ before, sp p.block = true) → DataW.TrodVars enc P W' sp s.vars (s.fn H (ds ++ gs)).vars pv)
    (hps : before = pa ++ pv) (hb : Below W.heap.size W W')
    (hok : ∀ (j : Nat) (t : TypeId) (r : Value), f.resultTypes[j]? = some t → (v.resultList f.resultTypes.size)[j]? = some r → Value.okWide P W' .any 0 t r) :
    s.post enc P f apart fresh handsOn again W args v W' := by
  have hlt : ∀ p ∈ before, p.block < W.heap.size := fun p hp => hW.lt p hp
  have hold : ∀ p ∈ before, (fun b => decide (b < W.heap.size)) p.block = true := fun p hp => by simpa using hlt p hp
  refine ⟨ds, gs, before, [], pa, pv, hW, hres _ _ _, hargs _ hold, hvars _ hold, World.keptBut_mono (fun p hp => ⟨hp, ?_⟩) (hb.frame (· ∈ before)), fun _ => ?_⟩
  · rw [hps, List.mem_append] at hp
    exact Or.inr hp
  · obtain ⟨_, _, _, _, _, hz, hn⟩ := hW
    refine ⟨hok, _, _, ([] ++ pa) ++ pv, ⟨[] ++ pa, pv, trodAll_append (hargs _ (fun _ _ => rfl)) (hres _ _ _), hvars _ (fun _ _ => rfl), rfl, ?_, ?_⟩, ?_⟩
    · intro b off hp
      have hin : MemPlace.cell b off ∈ before := by rw [hps]; simpa using hp
      rw [hb.frozen (hlt _ hin)]
      exact hz b off hin
    · intro ha
      have := hn ha
      rw [hps] at this
      simpa using this
    · intro p hp _
      rw [hps]
      simpa using hp

/-- What a law's plain equation gives: the contract of its row. -/
theorem law_contract (hNG : NoNG P) (hm : P.follows .mixedOrders = true) (hl : laidOutB P = true) {f : FuncId} {fn : Func} {s : ChangeSpec} {tb : TypeId} (hfn : P.funcs[f]? = some fn)
    (hvars : s.vars = []) (hspec : ∀ ds : List (DataW H), ds.length = fn.params.size → s.fn H ds = { results := [.lit (.bool true)], args := ds }) (hplain : (fn.params.toList.all fun t => plainTy P 12 t) = true)
    (hread : (fn.params.toList.all fun t => P.readableRec t && Nat.blt t P.types.size) = true) (hrt : fn.resultTypes = #[tb]) (hub : P.underlying tb = some .bool)
    {apart fresh handsOn again : Bool} (W : World) (base : Nat) (args : Array Value) (ds gs : List (DataW H)) (before : List MemPlace)
    (hval : ∀ (j : Nat) t v, fn.params[j]? = some t → args[j]? = some v → Value.okWide P W .any base t v)
    (hW : DataW.Whole enc P fn.params.toList s.vars apart W args.toList ds gs before)
    (hlaw : ∀ qs : List PV, All2 (WTv P) fn.params.toList qs → ∃ C fu d, pcall C P fu d f qs = some ⟨[.sc (.bool true)], []⟩) :
    Calls P f args W fun e W' => ∃ v, e = .returned v ∧ s.post enc P fn apart fresh handsOn again W args v W' := by
  have hW' := hW
  obtain ⟨p, q, hA, hV, rfl, hfz, hnd⟩ := hW
  rw [hvars] at hV
  obtain ⟨rfl, rfl⟩ := trodVars_none hV
  obtain ⟨qs, h1, h2⟩ := read_args hplain (fun j t v ht hv => hval j t v (by simpa using ht) (by simpa using hv)) hA
  obtain ⟨C, fu, d, hc⟩ := hlaw qs h1
  have hS := (pcall_sound hNG hm d f qs _ hc).2 W No noBt args.toList (Ins_tree (fun b h => h.elim) h2)
  rw [Array.toArray_toList] at hS
  refine hS.mono fun e W' ⟨vs, own, he, ho⟩ => ?_
  have hv := ho.vals
  have hvs : vs = [.bool true] := by
    match vs, hv with
    | [u], hv =>
      have : TRep W' _ (.sc (.bool true)) u := hv.1
      rw [this.val]
    | [], hv => exact hv.elim
    | _ :: _ :: _, hv => exact hv.2.elim
  subst hvs
  subst he
  have hb : Below W.heap.size W W' := ⟨ho.os, ho.tape, ho.output, ho.ext.size, fun k hk => ho.ext.keep k hk (noBtX k)⟩
  have hlt : ∀ x ∈ p, x.block < W.heap.size := fun x hx => hW'.lt x (by simpa using hx)
  have hlen : ds.length = fn.params.size := by
    have : ∀ {ts : List TypeId} {vs : List Value} {ds : List (DataW H)} {p : List MemPlace}, DataW.TrodAll enc P W 0 (fun _ => true) true ts vs ds p → ds.length = ts.length := by
      intro ts
      induction ts with
      | nil => intro vs ds p h; cases vs <;> cases ds <;> first | rfl | cases h
      | cons t ts ih =>
        intro vs ds p h
        cases vs with
        | nil => cases h
        | cons v vs =>
          cases ds with
          | nil => cases h
          | cons d ds => obtain ⟨_, _, _, h2, _⟩ := h; simp [ih h2]
    simpa using this hA
  have hsp := hspec (ds ++ []) (by simpa using hlen)
  refine ⟨_, rfl, post_of_below (pa := p) (pv := []) hW' ?_ ?_ ?_ rfl hb ?_⟩
  · intro b sp hd
    rw [hsp, hrt]
    exact trodAll_mk1 (shut_bool hub _)
  · intro sp hspb
    rw [hsp]
    simp only [List.append_nil]
    exact trodAll_stays hl hread hA (fun x hx => hb.same (hlt x hx)) (fun x hx => hspb x (by simpa using hx))
  · intro sp _
    rw [hsp, hvars]
    rfl
  · exact ok_one hrt rfl (okWide_bool_mk hub _)
end

end Go.Proofs.Ytaphhfehcbkfkaa.Pv
