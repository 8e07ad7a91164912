/-
  A pure interpreter of the model's code and its soundness, part 4 (texts PvS22 PvS23 PvS24 PvS25 PvS26 PvS27).
-/
import Derived.Test.YtaphhfehcbkfkaaPvX3
import Derived.StillTail
set_option linter.unusedSimpArgs false
set_option linter.unusedVariables false
namespace Go.Proofs.Ytaphhfehcbkfkaa.Pv

section
variable {R R' : Type} {Rel : Option R → Option R' → Prop}

theorem intK_rel (hn : Rel none none) {k : IntKind} {p : PV} {K : Int → Option R} {K' : Int → Option R'} (hK : ∀ n, Rel (K n) (K' n)) : Rel (intK k p K) (intK k p K') := by
  unfold intK; split
  · split <;> first | exact hK _ | exact hn
  · exact hn
theorem anyIntK_rel (hn : Rel none none) {p : PV} {K : IntKind → Int → Option R} {K' : IntKind → Int → Option R'} (hK : ∀ k n, Rel (K k n) (K' k n)) : Rel (anyIntK p K) (anyIntK p K') := by
  unfold anyIntK; split <;> first | exact hK _ _ | exact hn
theorem boolK_rel (hn : Rel none none) {p : PV} {K : Bool → Option R} {K' : Bool → Option R'} (hK : ∀ n, Rel (K n) (K' n)) : Rel (boolK p K) (boolK p K') := by
  unfold boolK; split <;> first | exact hK _ | exact hn
theorem strK_rel (hn : Rel none none) {p : PV} {K : ByteArray → Option R} {K' : ByteArray → Option R'} (hK : ∀ n, Rel (K n) (K' n)) : Rel (strK p K) (strK p K') := by
  unfold strK; split <;> first | exact hK _ | exact hn
theorem lsK_rel (hn : Rel none none) {es : Nat} {p : PV} {K : Bool → Nat → List PV → Option R} {K' : Bool → Nat → List PV → Option R'} (hK : ∀ z n c, Rel (K z n c) (K' z n c)) : Rel (lsK es p K) (lsK es p K') := by
  unfold lsK; split
  · rename_i es' _ _
    cases Nat.beq es' es
    · exact hn
    · exact hK _ _ _
  · exact hK _ _ _
  · exact hn
theorem fsK_rel (hn : Rel none none) {es : Nat} {p : PV} {K : PV → Option R} {K' : PV → Option R'} (hK : ∀ p, Rel (K p) (K' p)) : Rel (fsK es p K) (fsK es p K') := by
  unfold fsK; split
  · rename_i es' _ _
    cases Nat.beq es' es
    · exact hn
    · exact hK _
  · exact lsK_rel hn fun _ _ _ => hK _
theorem owK_rel (hn : Rel none none) {es : Nat} {p : PV} {K : Nat → List PV → Option R} {K' : Nat → List PV → Option R'} (hK : ∀ n c, Rel (K n c) (K' n c)) : Rel (owK es p K) (owK es p K') := by
  unfold owK; split
  · rename_i es' _ _
    cases Nat.beq es' es
    · exact hn
    · exact hK _ _
  · exact hn
theorem chk_rel (hn : Rel none none) {b : Bool} {K : Option R} {K' : Option R'} (hK : b = true → Rel K K') : Rel (chk b K) (chk b K') := by
  cases b
  · exact hn
  · exact hK rfl
theorem brK_rel {b : Bool} {x y : Option R} {x' y' : Option R'} (hx : Rel x x') (hy : Rel y y') : Rel (brK b x y) (brK b x' y') := by
  cases b
  · exact hy
  · exact hx
theorem optK_rel (hn : Rel none none) {α : Type} {o : Option α} {K : α → Option R} {K' : α → Option R'} (hK : ∀ a, o = some a → Rel (K a) (K' a)) : Rel (optK o K) (optK o K') := by
  cases o
  · exact hn
  · exact hK _ rfl
theorem consK_rel (hn : Rel none none) {α : Type} {l : List α} {K : α → List α → Option R} {K' : α → List α → Option R'} (hK : ∀ a r, l = a :: r → Rel (K a r) (K' a r)) : Rel (consK l K) (consK l K') := by
  cases l
  · exact hn
  · exact hK _ _ rfl
theorem nilK_rel (hn : Rel none none) {α : Type} {l : List α} {K : Option R} {K' : Option R'} (hK : Rel K K') : Rel (nilK l K) (nilK l K') := by
  cases l
  · exact hK
  · exact hn
theorem aggK_rel (hn : Rel none none) {p : PV} {K : List PV → Option R} {K' : List PV → Option R'} (hK : ∀ c, p = .agg c → Rel (K c) (K' c)) : Rel (aggK p K) (aggK p K') := by
  unfold aggK; split
  · exact hK _ rfl
  · exact hn
theorem pboxK_rel (hn : Rel none none) {p : PV} {K : List PV → Option R} {K' : List PV → Option R'} (hK : ∀ c, Rel (K c) (K' c)) : Rel (pboxK p K) (pboxK p K') := by
  unfold pboxK; split
  · exact hK _
  · exact hn
theorem callK_rel (hn : Rel none none) {r : Option Res} {K : List PV → List (List PV) → Option R} {K' : List PV → List (List PV) → Option R'} (hK : ∀ v o, Rel (K v o) (K' v o)) : Rel (callK r K) (callK r K') := by
  unfold callK; split
  · exact hK _ _
  · exact hn
theorem fnK_rel (hn : Rel none none) {p : PV} {K : Value → Option R} {K' : Value → Option R'} (hK : ∀ v, Rel (K v) (K' v)) : Rel (fnK p K) (fnK p K') := by
  unfold fnK; split
  · exact hK _
  · exact hn
theorem fvK_rel (hn : Rel none none) {p : PV} {K : FuncId → Option R} {K' : FuncId → Option R'} (hK : ∀ v, Rel (K v) (K' v)) : Rel (fvK p K) (fvK p K') := by
  unfold fvK; split
  · rename_i f a b
    cases (a.isEmpty && b.isEmpty)
    · exact hn
    · exact hK _
  · exact hn
theorem tcK_rel (hn : Rel none none) {t : CT} {p : PV} {K : PV → Option R} {K' : PV → Option R'} (hK : ∀ p, Rel (K p) (K' p)) : Rel (tcK t p K) (tcK t p K') := by
  unfold tcK; split
  · exact intK_rel hn fun _ => hK _
  · exact boolK_rel hn fun _ => hK _
  · exact strK_rel hn fun _ => hK _
  · exact lsK_rel hn fun _ _ _ => hK _
  · exact fnK_rel hn fun _ => hK _
theorem fcK_rel (hn : Rel none none) {t : CT} {p : PV} {K : PV → Option R} {K' : PV → Option R'} (hK : ∀ p, Rel (K p) (K' p)) : Rel (fcK t p K) (fcK t p K') := by
  unfold fcK; split
  · exact fsK_rel hn hK
  · exact tcK_rel hn hK
theorem tcsK_rel (hn : Rel none none) : ∀ {ts : List CT} {cells : List PV} {off : Nat} {K : List PV → Option R} {K' : List PV → Option R'}, (∀ c, Rel (K c) (K' c)) → Rel (tcsK ts cells off K) (tcsK ts cells off K')
  | [], _, _, _, _, hK => hK _
  | _ :: _, _, _, _, _, hK => tcK_rel hn fun _ => tcsK_rel hn fun _ => hK _
theorem fcsK_rel (hn : Rel none none) : ∀ {ts : List CT} {cells : List PV} {off : Nat} {K : List PV → Option R} {K' : List PV → Option R'}, (∀ c, Rel (K c) (K' c)) → Rel (fcsK ts cells off K) (fcsK ts cells off K')
  | [], _, _, _, _, hK => hK _
  | _ :: _, _, _, _, _, hK => fcK_rel hn fun _ => fcsK_rel hn fun _ => hK _
theorem mkV_rel (hn : Rel none none) {g : Bool} {cells : List PV} {K : PV → Option R} {K' : PV → Option R'} (hK : ∀ p, Rel (K p) (K' p)) : Rel (mkV g cells K) (mkV g cells K') := by
  cases g
  · exact consK_rel hn fun _ _ _ => nilK_rel hn (hK _)
  · exact hK _
theorem cvK_rel (hn : Rel none none) {P : Program} {t : TypeId} {v : Value} {K : PV → Option R} {K' : PV → Option R'} (hK : ∀ p, refs p = [] → Rel (K p) (K' p)) (hK' : ∀ c, Rel (K (.agg c)) (K' (.agg c))) : Rel (cvK P t v K) (cvK P t v K') := by
  unfold cvK; split
  · exact chk_rel hn fun _ => tcsK_rel hn fun _ => hK' _
  · split
    · exact hK _ rfl
    · exact hn
  · exact hK _ rfl

theorem cmpK_rel (hn : Rel none none) {op : BinOp} {x y : Int} {K : Bool → Option R} {K' : Bool → Option R'} (hK : ∀ n, Rel (K n) (K' n)) : Rel (cmpK op x y K) (cmpK op x y K') := by
  unfold cmpK; split <;> first | exact hK _ | exact hn
theorem intOpK_rel (hn : Rel none none) {op : BinOp} {k : IntKind} {x y : Int} {K : PV → Option R} {K' : PV → Option R'} (hK : ∀ n, Rel (K n) (K' n)) : Rel (intOpK op k x y K) (intOpK op k x y K') := by
  unfold intOpK; split <;> first | exact hK _ | exact chk_rel hn fun _ => hK _ | exact cmpK_rel hn fun _ => hK _
theorem strOpK_rel (hn : Rel none none) {op : BinOp} {x y : ByteArray} {K : PV → Option R} {K' : PV → Option R'} (hK : ∀ n, Rel (K n) (K' n)) : Rel (strOpK op x y K) (strOpK op x y K') := by
  unfold strOpK; split <;> first | exact hK _ | exact chk_rel hn fun _ => hK _ | exact hn
theorem nilQK_rel (hn : Rel none none) {e : Bool} {p : PV} {K : PV → Option R} {K' : PV → Option R'} (hK : ∀ n, Rel (K n) (K' n)) : Rel (nilQK e p K) (nilQK e p K') := by
  unfold nilQK; split <;> first | exact hK _ | exact brK_rel (hK _) (brK_rel (hK _) (hK _)) | exact brK_rel (hK _) (hK _) | exact hn
theorem eqsK_rel (hn : Rel none none) : ∀ {ts : List CT} {ps qs : List PV} {K : Bool → Option R} {K' : Bool → Option R'}, (∀ b, Rel (K b) (K' b)) → Rel (eqsK ts ps qs K) (eqsK ts ps qs K') := by
  intro ts
  induction ts with
  | nil =>
    intro ps qs K K' hK
    cases ps <;> cases qs <;> first | exact hK _ | exact hn
  | cons t ts ih =>
    intro ps qs K K' hK
    cases ps with
    | nil => cases t <;> cases qs <;> exact hn
    | cons p ps =>
      cases qs with
      | nil => cases t <;> exact hn
      | cons q qs =>
        cases t
        · exact intK_rel hn fun _ => intK_rel hn fun _ => ih fun _ => hK _
        · exact boolK_rel hn fun _ => boolK_rel hn fun _ => ih fun _ => hK _
        · exact strK_rel hn fun _ => strK_rel hn fun _ => ih fun _ => hK _
        · exact hn
        · exact hn
theorem binK_rel (hn : Rel none none) {P : Program} {op : BinOp} {t : TypeId} {x y : PV} {K : PV → Option R} {K' : PV → Option R'} (hK : ∀ p, Rel (K p) (K' p)) : Rel (binK P op t x y K) (binK P op t x y K') := by
  unfold binK; split
  · split
    · exact intK_rel hn fun _ => anyIntK_rel hn fun _ _ => chk_rel hn fun _ => hK _
    · exact intK_rel hn fun _ => anyIntK_rel hn fun _ _ => chk_rel hn fun _ => hK _
    · exact intK_rel hn fun _ => intK_rel hn fun _ => intOpK_rel hn hK
  · exact strK_rel hn fun _ => strK_rel hn fun _ => strOpK_rel hn hK
  · split
    · exact boolK_rel hn fun _ => boolK_rel hn fun _ => hK _
    · exact boolK_rel hn fun _ => boolK_rel hn fun _ => hK _
    · exact hn
  · split
    · exact nilQK_rel hn fun _ => hK _
    · exact nilQK_rel hn fun _ => hK _
    · exact hn
  · exact hn
theorem binAnyK_rel (hn : Rel none none) {P : Program} {op : BinOp} {t : TypeId} {x y : PV} {K : PV → Option R} {K' : PV → Option R'} (hK : ∀ p, Rel (K p) (K' p)) : Rel (binAnyK P op t x y K) (binAnyK P op t x y K') := by
  unfold binAnyK; split
  · split
    · exact chk_rel hn fun _ => aggK_rel hn fun _ _ => aggK_rel hn fun _ _ => eqsK_rel hn fun _ => hK _
    · exact chk_rel hn fun _ => aggK_rel hn fun _ _ => aggK_rel hn fun _ _ => eqsK_rel hn fun _ => hK _
    · exact hn
  · exact binK_rel hn hK
theorem unK_rel (hn : Rel none none) {op : UnOp} {x : PV} {K : PV → Option R} {K' : PV → Option R'} (hK : ∀ p, Rel (K p) (K' p)) : Rel (unK op x K) (unK op x K') := by
  unfold unK; split <;> first | exact boolK_rel hn fun _ => hK _ | exact anyIntK_rel hn fun _ _ => hK _ | exact hn
theorem boundK_rel (hn : Rel none none) {p : Option PV} {d : Nat} {K : Nat → Option R} {K' : Nat → Option R'} (hK : ∀ n, Rel (K n) (K' n)) : Rel (boundK p d K) (boundK p d K') := by
  unfold boundK; split
  · exact hK _
  · exact anyIntK_rel hn fun _ _ => chk_rel hn fun _ => hK _
theorem addrK_rel (hn : Rel none none) {x : PV} {d : Nat} {K : PV → Option R} {K' : PV → Option R'} (hK : ∀ n, Rel (K n) (K' n)) : Rel (addrK x d K) (addrK x d K') := by
  unfold addrK; split <;> first | exact hK _ | exact hn
theorem indexAddrK_rel (hn : Rel none none) {P : Program} {t : TypeId} {x : PV} {i : Int} {K : PV → Option R} {K' : PV → Option R'} (hK : ∀ p, Rel (K p) (K' p)) : Rel (indexAddrK P t x i K) (indexAddrK P t x i K') := by
  unfold indexAddrK; split
  · exact chk_rel hn fun _ => chk_rel hn fun _ => addrK_rel hn hK
  · refine chk_rel hn fun _ => ?_
    split
    · exact chk_rel hn fun _ => chk_rel hn fun _ => hK _
    · exact lsK_rel hn fun _ _ _ => chk_rel hn fun _ => hK _
  · exact hn
theorem fillK_rel (hn : Rel none none) {place : Nat → Option (Nat × Nat)} : ∀ {ps : List (Nat × PV)} {cells : List PV} {K : List PV → Option R} {K' : List PV → Option R'}, (∀ c, Rel (K c) (K' c)) → Rel (fillK place ps cells K) (fillK place ps cells K')
  | [], _, _, _, hK => hK _
  | (_, _) :: _, _, _, _, hK => optK_rel hn fun _ _ => chk_rel hn fun _ => fillK_rel hn hK
theorem zcellsK_rel (hn : Rel none none) {P : Program} {t : TypeId} {K : List PV → Option R} {K' : List PV → Option R'} (hK : ∀ p, Rel (K p) (K' p)) : Rel (zcellsK P t K) (zcellsK P t K') :=
  optK_rel hn fun _ _ => chk_rel hn fun _ => tcsK_rel hn hK
theorem minK_rel (hn : Rel none none) {x y : PV} {K : PV → Option R} {K' : PV → Option R'} (hK : ∀ p, Rel (K p) (K' p)) : Rel (minK x y K) (minK x y K') :=
  anyIntK_rel hn fun _ _ => intK_rel hn fun _ => hK _
theorem maxK_rel (hn : Rel none none) {x y : PV} {K : PV → Option R} {K' : PV → Option R'} (hK : ∀ p, Rel (K p) (K' p)) : Rel (maxK x y K) (maxK x y K') :=
  anyIntK_rel hn fun _ _ => intK_rel hn fun _ => hK _
theorem lenK_rel (hn : Rel none none) {P : Program} {t : TypeId} {x : PV} {K : Nat → Option R} {K' : Nat → Option R'} (hK : ∀ p, Rel (K p) (K' p)) : Rel (lenK P t x K) (lenK P t x K') := by
  unfold lenK; split
  · exact strK_rel hn fun _ => hK _
  · exact hK _
  · split
    · exact chk_rel hn fun _ => hK _
    · exact lsK_rel hn fun _ _ _ => hK _
  · exact hn

/- What reads memory: two memories that agree where the value points. -/
def Agr (Rel : Option R → Option R' → Prop) (f f' : Nat → Option (List PV)) (l : List Nat) : Prop := ∀ i ∈ l, f i = f' i ∨ (f i = none ∧ ∀ b, Rel none b)

variable {f f' : Nat → Option (List PV)}

theorem Agr.sub {l l' : List Nat} (h : Agr Rel f f' l) (hs : ∀ i ∈ l', i ∈ l) : Agr Rel f f' l' := fun i hi => h i (hs i hi)

theorem optf_rel (hn : Rel none none) {l : List Nat} {id : Nat} (hf : Agr Rel f f' l) (hi : id ∈ l) {K : List PV → Option R} {K' : List PV → Option R'} (hK : ∀ c, f id = some c → Rel (K c) (K' c)) : Rel (optK (f id) K) (optK (f' id) K') := by
  rcases hf id hi with h | ⟨h, hb⟩
  · rw [← h]
    exact optK_rel hn hK
  · rw [h]
    exact hb _

theorem slcK_rel (hn : Rel none none) {es : Nat} {p : PV} {K : Nat → List PV → Option R} {K' : Nat → List PV → Option R'} (hf : Agr Rel f f' (refsC p)) (hK : ∀ n c, Rel (K n c) (K' n c)) : Rel (slcK f es p K) (slcK f' es p K') := by
  unfold slcK; split
  · rename_i id es' off n
    cases Nat.beq es' es
    · exact hn
    · exact optf_rel hn hf (by simp [refsC]) fun _ _ => chk_rel hn fun _ => hK _ _
  · exact lsK_rel hn fun _ _ _ => hK _ _
theorem frcK_rel (hn : Rel none none) {t : CT} {p : PV} {K : PV → List Nat → Option R} {K' : PV → List Nat → Option R'} (hf : Agr Rel f f' (refsC p)) (hK : ∀ c m, (∀ i ∈ m, f i ≠ none) → Rel (K c m) (K' c m)) : Rel (frcK f t p K) (frcK f' t p K') := by
  unfold frcK; split
  · split
    · rename_i id es' off n
      cases Nat.beq es' _
      · exact hn
      · exact optf_rel hn hf (by simp [refsC]) fun c hc => chk_rel hn fun _ => hK _ _ (by simp [hc])
    · exact lsK_rel hn fun _ _ _ => hK _ _ (by simp)
  · exact tcK_rel hn fun _ => hK _ _ (by simp)
theorem frcsK_rel (hn : Rel none none) : ∀ {ts : List CT} {ps : List PV} {K : List PV → List Nat → Option R} {K' : List PV → List Nat → Option R'}, Agr Rel f f' (ps.flatMap refsC) → (∀ c m, (∀ i ∈ m, f i ≠ none) → Rel (K c m) (K' c m)) → Rel (frcsK f ts ps K) (frcsK f' ts ps K')
  | [], [], _, _, _, hK => hK _ _ (by simp)
  | [], _ :: _, _, _, _, _ => hn
  | _ :: _, [], _, _, _, _ => hn
  | _ :: _, p :: ps, _, _, hf, hK => frcK_rel hn (fun i hi => hf i (by simp only [List.flatMap_cons, List.mem_append]; exact .inl hi)) fun _ m hm => frcsK_rel hn (fun i hi => hf i (by simp only [List.flatMap_cons, List.mem_append]; exact .inr hi)) fun _ ms hms => hK _ _ fun i hi => by
      rcases List.mem_append.1 hi with h | h
      · exact hm i h
      · exact hms i h
theorem frvK_rel (hn : Rel none none) {P : Program} {t : TypeId} {p : PV} {K : PV → List Nat → Option R} {K' : PV → List Nat → Option R'} (hf : Agr Rel f f' (refs1 p)) (hK : ∀ c m, (∀ i ∈ m, f i ≠ none) → Rel (K c m) (K' c m)) : Rel (frvK P f t p K) (frvK P f' t p K') := by
  unfold frvK
  have h1 : ∀ i, i ∈ [p].flatMap refsC → i ∈ refs1 p := by
    intro i hi
    simp only [List.flatMap_cons, List.flatMap_nil, List.append_nil] at hi
    cases p <;> first | exact hi | simp [refsC] at hi
  cases isAggB P t
  · exact frcsK_rel hn (fun i hi => hf i (h1 i hi)) fun _ _ hm => consK_rel hn fun _ _ _ => nilK_rel hn (hK _ _ hm)
  · refine aggK_rel hn fun c hc => ?_
    subst hc
    exact frcsK_rel hn (fun i hi => hf i hi) fun _ _ hm => hK _ _ hm
theorem frvsK_rel (hn : Rel none none) {P : Program} : ∀ {ts : List TypeId} {ps : List PV} {K : List PV → List Nat → Option R} {K' : List PV → List Nat → Option R'}, Agr Rel f f' (ps.flatMap refs1) → (∀ c m, (∀ i ∈ m, f i ≠ none) → Rel (K c m) (K' c m)) → Rel (frvsK P f ts ps K) (frvsK P f' ts ps K')
  | [], [], _, _, _, hK => hK _ _ (by simp)
  | [], _ :: _, _, _, _, _ => hn
  | _ :: _, [], _, _, _, _ => hn
  | _ :: _, p :: ps, _, _, hf, hK => frvK_rel hn (fun i hi => hf i (by simp only [List.flatMap_cons, List.mem_append]; exact .inl hi)) fun _ m hm => frvsK_rel hn (fun i hi => hf i (by simp only [List.flatMap_cons, List.mem_append]; exact .inr hi)) fun _ ms hms => hK _ _ fun i hi => by
      rcases List.mem_append.1 hi with h | h
      · exact hm i h
      · exact hms i h
theorem sliceK_rel (hn : Rel none none) {P : Program} {t : TypeId} {x : PV} {lo hi : Option PV} {K : PV → Option R} {K' : PV → Option R'} (hf : (∃ n e, P.underlying t = some (.array n e)) → Agr Rel f f' (refsC x)) (hK : ∀ c, Rel (K c) (K' c)) : Rel (sliceK P f t x lo hi K) (sliceK P f' t x lo hi K') := by
  unfold sliceK; split
  · exact strK_rel hn fun _ => boundK_rel hn fun _ => boundK_rel hn fun _ => chk_rel hn fun _ => hK _
  · refine chk_rel hn fun _ => ?_
    split
    · exact chk_rel hn fun _ => boundK_rel hn fun _ => boundK_rel hn fun _ => chk_rel hn fun _ => hK _
    · exact lsK_rel hn fun _ _ _ => boundK_rel hn fun _ => boundK_rel hn fun _ => chk_rel hn fun _ => hK _
  · rename_i n e hu
    refine chk_rel hn fun _ => ?_
    split
    · rename_i id off
      exact optf_rel hn (hf ⟨_, _, hu⟩) (by simp [refsC]) fun _ _ => chk_rel hn fun _ => boundK_rel hn fun _ => boundK_rel hn fun _ => chk_rel hn fun _ => hK _
    · exact hn
  · exact hn
theorem loadK_rel {g g' : Nat → Option (List PV)} (hn : Rel none none) {P : Program} {t : TypeId} {x : PV} {K : PV → Option R} {K' : PV → Option R'} (hf : ∀ i ∈ refsC x, (f i = f' i ∧ g i = g' i) ∨ (f i = none ∧ g i = none ∧ ∀ b, Rel none b)) (hK : ∀ c, Rel (K c) (K' c)) : Rel (loadK P f g t x K) (loadK P f' g' t x K') := by
  unfold loadK; split
  · rename_i id off
    refine chk_rel hn fun _ => ?_
    rcases hf id (by simp [refsC]) with ⟨h1, h2⟩ | ⟨h1, h2, h3⟩
    · rw [← h1, ← h2]
      split
      · exact tcsK_rel hn fun _ => mkV_rel hn hK
      · exact optK_rel hn fun _ _ => fcsK_rel hn fun _ => mkV_rel hn hK
    · rw [h1, h2]
      exact h3 _
  · exact chk_rel hn fun _ => tcsK_rel hn fun _ => mkV_rel hn hK
  · exact hn

/- What makes boxes. -/
theorem convK_rel (hn : Rel none none) {P : Program} {d : Nat} {src dst : TypeId} {x : PV} {K : PV → List (Nat × Box) → Option R} {K' : PV → List (Nat × Box) → Option R'} (hf : P.underlying dst = some .string → Agr Rel f f' (refsC x)) (hK : ∀ v b, (∀ q ∈ b, q.1 = d) → Rel (K v b) (K' v b)) : Rel (convK P f d src dst x K) (convK P f' d src dst x K') := by
  unfold convK; split
  · exact chk_rel hn fun _ => anyIntK_rel hn fun _ _ => hK _ _ (by simp)
  · rename_i hds
    split
    · exact strK_rel hn fun _ => hK _ _ (by simp)
    · split
      · exact slcK_rel hn (hf hds) fun _ _ => chk_rel hn fun _ => optK_rel hn fun _ _ => hK _ _ (by simp)
      · exact hn
    · exact hn
  · split
    · exact strK_rel hn fun _ => chk_rel hn fun _ => hK _ _ (by simp)
    · exact hn
  · exact hn
theorem uncK_rel (hn : Rel none none) {shr : Bool} {id : Nat} {t : CT} {p : PV} {K : PV → List (Nat × Box) → Option R} {K' : PV → List (Nat × Box) → Option R'} (hK : ∀ c b, (∀ q ∈ b, q.1 = id) → Rel (K c b) (K' c b)) : Rel (uncK shr id t p K) (uncK shr id t p K') := by
  unfold uncK; split
  · cases shr
    · exact owK_rel hn fun _ _ => hK _ _ (by simp)
    · exact lsK_rel hn fun _ _ _ => hK _ _ (by simp)
  · exact tcK_rel hn fun _ => hK _ _ (by simp)
theorem uncsK_rel (hn : Rel none none) {shr : Bool} {N : Nat} : ∀ {ts : List CT} {id : Nat} {ps : List PV} {K : List PV → List (Nat × Box) → Option R} {K' : List PV → List (Nat × Box) → Option R'}, (∀ c b, (∀ q ∈ b, ∃ j, q.1 = id + N * j) → Rel (K c b) (K' c b)) → Rel (uncsK shr N id ts ps K) (uncsK shr N id ts ps K')
  | [], _, _, _, _, hK => nilK_rel hn (hK _ _ (by simp))
  | _ :: _, id, _, _, _, hK => consK_rel hn fun _ _ _ => uncK_rel hn fun _ b hb => uncsK_rel hn fun _ bs hbs => hK _ _ fun q hq => by
      rcases List.mem_append.1 hq with h | h
      · exact ⟨0, by rw [hb q h]; simp⟩
      · obtain ⟨j, hj⟩ := hbs q h
        exact ⟨j + 1, by rw [hj, Nat.mul_add]; omega⟩
theorem unvK_rel (hn : Rel none none) {P : Program} {shr : Bool} {N id : Nat} {t : TypeId} {p : PV} {K : PV → List (Nat × Box) → Option R} {K' : PV → List (Nat × Box) → Option R'} (hK : ∀ c b, (∀ q ∈ b, ∃ j, q.1 = id + N * j) → Rel (K c b) (K' c b)) : Rel (unvK P shr N id t p K) (unvK P shr N id t p K') := by
  unfold unvK
  split
  · refine pboxK_rel hn fun ps => uncsK_rel hn fun _ _ hb => hK _ _ fun q hq => ?_
    rcases List.mem_cons.1 hq with rfl | hq
    · exact ⟨0, by simp⟩
    · obtain ⟨j, hj⟩ := hb q hq
      exact ⟨j + 1, by rw [hj, Nat.mul_add]; omega⟩
  cases isAggB P t
  · exact uncsK_rel hn fun _ _ hb => consK_rel hn fun _ _ _ => nilK_rel hn (hK _ _ hb)
  · exact aggK_rel hn fun _ _ => uncsK_rel hn fun _ _ hb => hK _ _ hb
theorem unvsK_rel (hn : Rel none none) {P : Program} {shr : Bool} {N : Nat} : ∀ {ts : List TypeId} {id : Nat} {ps : List PV} {K : List PV → List (Nat × Box) → Option R} {K' : List PV → List (Nat × Box) → Option R'}, (∀ c b, (∀ q ∈ b, ∃ j, q.1 = id + N * j) → Rel (K c b) (K' c b)) → Rel (unvsK P shr N id ts ps K) (unvsK P shr N id ts ps K')
  | [], _, _, _, _, hK => nilK_rel hn (hK _ _ (by simp))
  | t :: _, id, _, _, _, hK => consK_rel hn fun _ _ _ => unvK_rel hn fun _ b hb => unvsK_rel hn fun _ bs hbs => hK _ _ fun q hq => by
      rcases List.mem_append.1 hq with h | h
      · exact hb q h
      · obtain ⟨j, hj⟩ := hbs q h
        exact ⟨plcs P t + j, by rw [hj, Nat.mul_add]; omega⟩
end

end Go.Proofs.Ytaphhfehcbkfkaa.Pv

namespace Go.Proofs.Ytaphhfehcbkfkaa.Pv

theorem refsC_refs1 {p : PV} {i : Nat} (h : i ∈ refsC p) : i ∈ refs1 p := by cases p <;> first | exact h | simp [refsC] at h
theorem refs1_refs {p : PV} {i : Nat} (h : i ∈ refs1 p) : i ∈ refs p := by cases p <;> first | exact h | simp [refs1, refsC] at h
theorem refsC_refs {p : PV} {i : Nat} (h : i ∈ refsC p) : i ∈ refs p := refs1_refs (refsC_refs1 h)

section
variable {R R' : Type} {Rel : Option R → Option R' → Prop} {P : Program} {N : Nat} {tm tm' : Nat → PV} {f f' g g' : Nat → Option (List PV)} {o : Oper}

theorem constK_rel (hn : Rel none none) {t : TypeId} {x : Operand} {K : PV → Option R} {K' : PV → Option R'} (hx : opv tm x = opv tm' x) (hK : ∀ p, Rel (K p) (K' p)) : Rel (constK P t tm x K) (constK P t tm' x K') := by
  unfold constK; split
  · exact cvK_rel hn (fun _ _ => hK _) (fun _ => hK _)
  · rw [hx]; exact hK _

theorem tcK_rel0 (hn : Rel none none) {t : CT} {p : PV} {K : PV → Option R} {K' : PV → Option R'} (hK : ∀ p, refsC p = [] → Rel (K p) (K' p)) : Rel (tcK t p K) (tcK t p K') := by
  unfold tcK; split
  · exact intK_rel hn fun _ => hK _ rfl
  · exact boolK_rel hn fun _ => hK _ rfl
  · exact strK_rel hn fun _ => hK _ rfl
  · exact lsK_rel hn fun _ _ _ => hK _ rfl
  · exact fnK_rel hn fun _ => hK _ rfl
theorem tcsK_rel0 (hn : Rel none none) : ∀ {ts : List CT} {cells : List PV} {off : Nat} {K : List PV → Option R} {K' : List PV → Option R'}, (∀ c, (∀ p ∈ c, refsC p = []) → Rel (K c) (K' c)) → Rel (tcsK ts cells off K) (tcsK ts cells off K')
  | [], _, _, _, _, hK => hK _ (by simp)
  | _ :: _, _, _, _, _, hK => tcK_rel0 hn fun c hc => tcsK_rel0 hn fun cs hcs => hK _ (by
      intro p hp
      rcases List.mem_cons.1 hp with h | h
      · rw [h]; exact hc
      · exact hcs p h)
theorem zcellsK_rel0 (hn : Rel none none) {t : TypeId} {K : List PV → Option R} {K' : List PV → Option R'} (hK : ∀ c, (∀ p ∈ c, refsC p = []) → Rel (K c) (K' c)) : Rel (zcellsK P t K) (zcellsK P t K') :=
  optK_rel hn fun _ _ => chk_rel hn fun _ => tcsK_rel0 hn hK
theorem mem_cellsOf {p c : PV} (h : c ∈ cellsOf p) {i : Nat} (hi : i ∈ refsC c) : i ∈ refs1 p := by
  unfold cellsOf at h
  split at h
  · exact List.mem_flatMap.2 ⟨c, h, hi⟩
  · simp at h; subst h; exact refsC_refs1 hi
theorem mem_splice {cells new : List PV} {off : Nat} {c : PV} (h : c ∈ splice cells new off) : c ∈ cells ∨ c ∈ new := by
  unfold splice at h
  rcases List.mem_append.1 h with h | h
  · rcases List.mem_append.1 h with h | h
    · exact .inl (List.mem_of_mem_take h)
    · exact .inr h
  · exact .inl (List.mem_of_mem_drop h)
theorem fillK_relI (hn : Rel none none) {place : Nat → Option (Nat × Nat)} {S : Nat → Prop} : ∀ {ps : List (Nat × PV)} {cells : List PV} {K : List PV → Option R} {K' : List PV → Option R'}, (∀ c ∈ cells, ∀ i ∈ refsC c, S i) → (∀ q ∈ ps, ∀ i ∈ refs1 q.2, S i) →
    (∀ cs, (∀ c ∈ cs, ∀ i ∈ refsC c, S i) → Rel (K cs) (K' cs)) → Rel (fillK place ps cells K) (fillK place ps cells K')
  | [], _, _, _, h1, _, hK => hK _ h1
  | (_, p) :: _, _, _, _, h1, h2, hK => optK_rel hn fun _ _ => chk_rel hn fun _ => fillK_relI hn (fun c hc i hi => by
      rcases mem_splice hc with h | h
      · exact h1 c h i hi
      · exact h2 (_, p) List.mem_cons_self i (mem_cellsOf h hi)) (fun q hq => h2 q (List.mem_cons_of_mem _ hq)) hK

theorem frcsK_plain (hn : Rel none none) : ∀ {ts : List CT} {ps : List PV} {K : List PV → List Nat → Option R} {K' : List PV → List Nat → Option R'}, (∀ t ∈ ts, ∀ es, t ≠ .sl es) → (∀ c, Rel (K c []) (K' c [])) → Rel (frcsK g ts ps K) (frcsK g' ts ps K')
  | [], [], _, _, _, hK => hK _
  | [], _ :: _, _, _, _, _ => hn
  | _ :: _, [], _, _, _, _ => hn
  | t :: ts, p :: ps, K, K', ht, hK => by
    show Rel (frcK g t p _) (frcK g' t p _)
    have : ∀ {g : Nat → Option (List PV)} {S : Type} {L : PV → List Nat → Option S}, frcK g t p L = tcK t p fun c => L c [] := by
      intro g S L
      cases t with
      | sl es => exact absurd rfl (ht _ (by simp) es)
      | _ => rfl
    rw [this, this]
    exact tcK_rel hn fun c => frcsK_plain hn (fun t h => ht t (by simp [h])) fun cs => hK _

theorem srcR_rel (hn : Rel none none) {es : Nat} {t : TypeId} {x : PV} {K : Nat → List PV → Option R} {K' : Nat → List PV → Option R'} (hx : Agr Rel g g' (refsC x)) (hK : ∀ m c, Rel (K m c) (K' m c)) : Rel (srcR P g es t x K) (srcR P g' es t x K') := by
  unfold srcR; split
  · exact chk_rel hn fun _ => strK_rel hn fun _ => hK _ _
  · exact slcK_rel hn hx hK
  · exact hn
theorem capK_rel (hn : Rel none none) {t : TypeId} {x : PV} {K : Nat → Option R} {K' : Nat → Option R'} (hK : ∀ n, Rel (K n) (K' n)) : Rel (capK P t x K) (capK P t x K') := by
  unfold capK; split
  · exact lsK_rel hn fun _ _ _ => chk_rel hn fun _ => hK _
  · exact hn
theorem appNilK_rel (hn : Rel none none) {d : Nat} {t tx : TypeId} {x : PV} {K : PV → List (Nat × Box) → Option R} {K' : PV → List (Nat × Box) → Option R'} (hx : Agr Rel g g' (refsC x)) (hK : ∀ v nw, Rel (K v nw) (K' v nw)) : Rel (appNilK P g d t tx x K) (appNilK P g' d t tx x K') := by
  unfold appNilK; split
  · exact chk_rel hn fun _ => srcR_rel hn hx fun _ _ => chk_rel hn fun _ => hK _ _
  · exact hn

theorem effK_rel (hn : Rel none none) {C : Cfg} {call : Call'} {K : PV → List Nat → List (Nat × Box) → Option R} {K' : PV → List Nat → List (Nat × Box) → Option R'}
    (htm : ∀ x ∈ o.op.operands.toList, opv tm x = opv tm' x)
    (hfg : memo P o.op = true → ∀ x ∈ o.op.operands.toList, ∀ i ∈ refs (opv tm' x), (f i = f' i ∧ g i = g' i) ∨ (f i = none ∧ g i = none ∧ ∀ b, Rel none b))
    (hK : ∀ v fz nw, (memo P o.op = false → fz = [] ∧ ∀ q ∈ nw, o.dst = some q.1) → (∀ i ∈ fz, g i ≠ none) → Rel (K v fz nw) (K' v fz nw)) :
    Rel (effK C P N call tm f g o K) (effK C P N call tm' f' g' o K') := by
  have h0 : ∀ v, Rel (K v [] []) (K' v [] []) := fun v => hK v [] [] (fun _ => ⟨rfl, by simp⟩) (by simp)
  have hf : memo P o.op = true → ∀ x ∈ o.op.operands.toList, Agr Rel f f' (refs (opv tm' x)) := fun h x hx i hi => (hfg h x hx i hi).imp (·.1) fun h => ⟨h.1, h.2.2⟩
  have hg : memo P o.op = true → ∀ x ∈ o.op.operands.toList, Agr Rel g g' (refs (opv tm' x)) := fun h x hx i hi => (hfg h x hx i hi).imp (·.2) fun h => ⟨h.2.1, h.2.2⟩
  unfold effK
  generalize hop : o.op = op at *
  split
  · exact constK_rel hn (htm _ (by simp [Op.operands])) h0
  · exact constK_rel hn (htm _ (by simp [Op.operands])) h0
  · rename_i c x y
    rw [htm c (by simp [Op.operands]), htm x (by simp [Op.operands]), htm y (by simp [Op.operands])]
    exact boolK_rel hn fun _ => brK_rel (h0 _) (h0 _)
  · exact optK_rel hn fun d hd => zcellsK_rel hn fun _ => hK _ _ _ (fun _ => ⟨rfl, by simp [hd]⟩) (by simp)
  · rename_i t x
    rw [htm x (by simp [Op.operands])]
    refine optK_rel hn fun d hd => chk_rel hn fun _ => ?_
    cases isArrB P t
    · exact fcsK_rel hn fun _ => hK _ _ _ (fun _ => ⟨rfl, by simp [hd]⟩) (by simp)
    · exact tcsK_rel hn fun _ => hK _ _ _ (fun _ => ⟨rfl, by simp [hd]⟩) (by simp)
  · rename_i t ps
    have : (ps.toList.map fun q => (q.1, opv tm q.2)) = ps.toList.map fun q => (q.1, opv tm' q.2) := by
      apply List.map_congr_left
      intro q hq
      rw [htm q.2 (by simp only [Op.operands]; exact List.mem_map_of_mem hq)]
    rw [this]
    exact chk_rel hn fun _ => zcellsK_rel hn fun _ => fillK_rel hn fun _ => fcsK_rel hn fun _ => h0 _
  · rename_i t n ps
    have : (ps.toList.map fun q => (q.1, opv tm q.2)) = ps.toList.map fun q => (q.1, opv tm' q.2) := by
      apply List.map_congr_left
      intro q hq
      rw [htm q.2 (by simp only [Op.operands]; exact List.mem_map_of_mem hq)]
    rw [this]
    refine optK_rel hn fun d hd => ?_
    split
    · rename_i e hu
      cases hsl : hasSl P [e]
      · refine chk_rel hn fun _ => zcellsK_rel0 hn fun z hz => fillK_rel hn fun cs => frcsK_plain hn ?_ fun cs' => hK _ _ _ (fun _ => ⟨rfl, by simp [hd]⟩) (by simp)
        intro c hc es he
        obtain ⟨l, hl, hc⟩ := List.mem_flatten.1 hc
        rw [List.eq_of_mem_replicate hl] at hc
        subst he
        have : hasSl P [e] = true := by
          unfold hasSl
          simp only [List.any_cons, List.any_nil, Bool.or_false, Bool.or_eq_true]
          exact .inr (List.any_eq_true.2 ⟨_, hc, rfl⟩)
        rw [this] at hsl
        cases hsl
      refine chk_rel hn fun _ => zcellsK_rel0 hn fun z hz => fillK_relI (S := fun i => ∃ x ∈ (Op.buildSlice t n ps).operands.toList, i ∈ refs (opv tm' x)) hn ?_ ?_ fun cs hcs => ?_
      · intro c hc i hi
        obtain ⟨l, hl, hc⟩ := List.mem_flatten.1 hc
        rw [List.eq_of_mem_replicate hl] at hc
        rw [hz c hc] at hi
        simp at hi
      · intro q hq i hi
        obtain ⟨q', hq', rfl⟩ := List.mem_map.1 hq
        exact ⟨q'.2, by simp only [Op.operands]; exact List.mem_map_of_mem hq', refs1_refs hi⟩
      · refine frcsK_rel hn (fun i hi => ?_) fun cs' m hm => hK _ _ _ (fun h => by simp [memo, hu, hsl] at h) hm
        obtain ⟨c, hc, hi⟩ := List.mem_flatMap.1 hi
        obtain ⟨x, hx, hxi⟩ := hcs c hc i hi
        exact hg (by simp [memo, hu, hsl]) x hx i hxi
    · exact hn
  · rename_i t x
    rw [htm x (by simp [Op.operands])]
    exact loadK_rel hn (fun i hi => hfg (by simp [memo]) x (by simp [Op.operands]) i (refsC_refs hi)) h0
  · rename_i x
    rw [htm x (by simp [Op.operands])]
    exact addrK_rel hn h0
  · rename_i op' t x y _
    rw [htm x (by simp [Op.operands]), htm y (by simp [Op.operands])]
    exact binAnyK_rel hn h0
  · rename_i op' t x
    rw [htm x (by simp [Op.operands])]
    exact unK_rel hn h0
  · rename_i src dst x
    rw [htm x (by simp [Op.operands])]
    exact convK_rel hn (fun hds i hi => hg (by simp [memo, hds]) x (by simp [Op.operands]) i (refsC_refs hi)) fun v b hb => optK_rel hn fun d hd => hK _ _ _ (fun _ => ⟨rfl, fun q hq => by rw [hd, hb q hq, hd]; rfl⟩) (by simp)
  · rename_i t x y
    rw [htm x (by simp [Op.operands]), htm y (by simp [Op.operands])]
    refine optK_rel hn fun d hd => ?_
    split
    · exact anyIntK_rel hn fun _ _ => anyIntK_rel hn fun _ _ => chk_rel hn fun _ => zcellsK_rel hn fun _ => hK _ _ _ (fun _ => ⟨rfl, by simp [hd]⟩) (by simp)
    · exact hn
  · rename_i t x lo hi mx
    split
    · rw [htm x (by simp [Op.operands])]
      have h1 : lo.map (opv tm) = lo.map (opv tm') := by
        cases lo with
        | none => rfl
        | some y => simp only [Option.map_some]; rw [htm y (by simp [Op.operands])]
      have h2 : hi.map (opv tm) = hi.map (opv tm') := by
        cases hi with
        | none => rfl
        | some y => simp only [Option.map_some]; rw [htm y (by simp [Op.operands])]
      rw [h1, h2]
      exact sliceK_rel hn (fun ⟨n, e, he⟩ i hi => hf (by simp [memo, he]) x (by simp [Op.operands]) i (refsC_refs hi)) h0
    · exact hn
  · rename_i t x fl
    rw [htm x (by simp [Op.operands])]
    exact optK_rel hn fun _ _ => chk_rel hn fun _ => addrK_rel hn h0
  · rename_i t x fl
    rw [htm x (by simp [Op.operands])]
    exact optK_rel hn fun _ _ => chk_rel hn fun _ => aggK_rel hn fun _ _ => fcsK_rel hn fun _ => mkV_rel hn h0
  · rename_i t x i
    rw [htm x (by simp [Op.operands]), htm i (by simp [Op.operands])]
    exact anyIntK_rel hn fun _ _ => indexAddrK_rel hn h0
  · rename_i t x i
    rw [htm x (by simp [Op.operands]), htm i (by simp [Op.operands])]
    refine anyIntK_rel hn fun _ _ => ?_
    split
    · exact strK_rel hn fun _ => chk_rel hn fun _ => optK_rel hn fun _ _ => h0 _
    · exact aggK_rel hn fun _ _ => chk_rel hn fun _ => fcsK_rel hn fun _ => mkV_rel hn h0
    · exact hn
  · rename_i x i
    rw [htm x (by simp [Op.operands])]
    split
    · exact optK_rel hn fun _ _ => h0 _
    · exact hn
  · rename_i c
    have hmem : ∀ x ∈ c.args.toList, x ∈ (Op.call c).operands.toList := by
      intro x hx
      simp only [Op.operands, Call.operands, Array.toList_append, List.mem_append]
      exact .inr hx
    have rc : ∀ fn, memo P (.call c) = true → Rel (rcallK C P N call tm g o c fn K) (rcallK C P N call tm' g' o c fn K') := by
      intro fn hmm
      unfold rcallK
      have : c.args.toList.map (opv tm) = c.args.toList.map (opv tm') := List.map_congr_left fun x hx => htm x (hmem x hx)
      rw [this]
      refine frvsK_rel hn (fun i hi => ?_) fun vs m hm => callK_rel hn fun rv ro => nilK_rel hn (chk_rel hn fun _ => unvsK_rel hn fun ws bs hbs => chk_rel hn fun _ => hK _ _ _ (fun h => by rw [hmm] at h; cases h) (fun i hi => ?_))
      · obtain ⟨p, hp, hi⟩ := List.mem_flatMap.1 hi
        obtain ⟨x, hx, rfl⟩ := List.mem_map.1 hp
        exact hg hmm x (hmem x hx) i (refs1_refs hi)
      · have hi' : i ∈ m := by
          cases hq : hasSl P (resTys P o.type) <;> rw [hq] at hi
          · simp at hi
          · exact hi
        exact hm i hi'
    split
    · refine consK_rel hn fun x _ hx => consK_rel hn fun _ _ _ => ?_
      rw [htm x (hmem x (by rw [hx]; simp))]
      exact lenK_rel hn fun _ => h0 _
    · refine consK_rel hn fun x _ hx => consK_rel hn fun _ _ _ => ?_
      rw [htm x (hmem x (by rw [hx]; simp))]
      exact capK_rel hn fun _ => h0 _
    · refine consK_rel hn fun x _ hx => consK_rel hn fun y _ hy => nilK_rel hn ?_
      subst hy
      rw [htm x (hmem x (by rw [hx]; simp)), htm y (hmem y (by rw [hx]; simp))]
      exact minK_rel hn h0
    · refine consK_rel hn fun x _ hx => consK_rel hn fun y _ hy => nilK_rel hn ?_
      subst hy
      rw [htm x (hmem x (by rw [hx]; simp)), htm y (hmem y (by rw [hx]; simp))]
      exact maxK_rel hn h0
    · rename_i hc
      have hmm : memo P (.call c) = true := by simp [memo, hc]
      refine chk_rel hn fun _ => optK_rel hn fun d hd => consK_rel hn fun _ _ hb => consK_rel hn fun x _ hx => nilK_rel hn (consK_rel hn fun _ _ _ => consK_rel hn fun _ _ _ => ?_)
      have hxm : x ∈ c.args.toList := by rw [hb, hx]; simp
      rw [htm x (hmem x hxm)]
      exact appNilK_rel hn (fun i hi => hg hmm x (hmem x hxm) i (refsC_refs hi)) fun v nw => hK _ _ _ (fun h => by rw [hmm] at h; cases h) (by simp)
    · rename_i fn hc
      have hmm : memo P (.call c) = true := by simp [memo, hc]
      exact rc fn hmm
    · rename_i t hc
      have hmm : memo P (.call c) = true := by simp [memo, hc]
      have ht := htm (.tmp t) (by simp [Op.operands, Call.operands, hc])
      change tm t = tm' t at ht
      rw [ht]
      exact fvK_rel hn fun fn => rc fn hmm
    · exact hn
  · exact hn

/- The operations of class M. -/
variable {hp : Nat → Option Box}

theorem upd_keeps {hp : Nat → Option Box} {id : Nat} {b : Box} {hp1 : Nat → Option Box} (h : ∀ i, hp i ≠ none → hp1 i ≠ none) : ∀ i, hp i ≠ none → upd hp1 id (some b) i ≠ none := by
  intro i hi
  by_cases e : i = id
  · subst e; rw [upd_same]; simp
  · rw [upd_other _ _ e]; exact h i hi

end

end Go.Proofs.Ytaphhfehcbkfkaa.Pv

namespace Go.Proofs.Ytaphhfehcbkfkaa.Pv
open Go.RowKit

abbrev Eff3 := PV × List Nat × List (Nat × Box)

/-- What a guard says: run, pass by, or unknown. -/
def verdict (ops : Array Oper) (o : Oper) (tm : Nat → PV) : Option Bool :=
  match o.guard with
  | none => some true
  | some (j, want) =>
    match (ops[j]?).bind (·.dst) with
    | none => none
    | some d =>
      match tm d with
      | .sc (.bool b) => some (b == want)
      | .sc (.tuple _) => some false
      | _ => none

section
variable {R : Type} {r : R} {C : Cfg} {P : Program} {N : Nat} {call : Call'} {ops : Array Oper} {o x : Oper} {s : St} {K : St → Option R}

theorem gopK_eq : gopK C P N call ops o s K = match verdict ops o s.tm with
    | none => none
    | some true => popK C P N call o s K
    | some false => chk (dstOk N o.dst) (K ⟨putTm s.tm o.dst (.sc undef), s.hp⟩) := by
  unfold gopK verdict
  cases o.guard with
  | none => rfl
  | some q =>
    obtain ⟨j, want⟩ := q
    cases hd : (ops[j]?).bind (·.dst) with
    | none => simp [hd]
    | some d =>
      simp only [hd]
      cases ht : s.tm d with
      | sc v =>
        cases v with
        | bool b =>
          cases b <;> cases want <;> simp only [brK, cond_true, cond_false, upd_self s.tm ht] <;> rfl
        | _ => rfl
      | _ => rfl

def effE (C : Cfg) (P : Program) (N : Nat) (call : Call') (o : Oper) (s : St) : Option Eff3 :=
  effK C P N call s.tm (rd s.hp) (rda s.hp) o fun v fz nw => some (v, fz, nw)

theorem effK_eq {K : PV → List Nat → List (Nat × Box) → Option R} : effK C P N call s.tm (rd s.hp) (rda s.hp) o K = (effE C P N call o s).bind fun q => K q.1 q.2.1 q.2.2 := by
  refine effK_rel (Rel := fun (a : Option R) (b : Option Eff3) => a = b.bind fun q => K q.1 q.2.1 q.2.2) (K := K) (K' := fun v fz nw => some (v, fz, nw)) rfl (fun _ _ => rfl) (fun _ _ _ _ _ => .inl ⟨rfl, rfl⟩) fun v fz nw _ _ => rfl

theorem effE_facts {q : Eff3} (h : effE C P N call o s = some q) : (memo P o.op = false → q.2.1 = [] ∧ ∀ p ∈ q.2.2, o.dst = some p.1) ∧ ∀ i ∈ q.2.1, rda s.hp i ≠ none := by
  have := effK_rel (C := C) (P := P) (N := N) (call := call) (o := o) (tm := s.tm) (tm' := s.tm) (f := rd s.hp) (f' := rd s.hp) (g := rda s.hp) (g' := rda s.hp)
    (Rel := fun (a : Option Eff3) (_ : Option Eff3) => ∀ q, a = some q → (memo P o.op = false → q.2.1 = [] ∧ ∀ p ∈ q.2.2, o.dst = some p.1) ∧ ∀ i ∈ q.2.1, rda s.hp i ≠ none)
    (K := fun v fz nw => some (v, fz, nw)) (K' := fun v fz nw => some (v, fz, nw)) (fun _ h => by cases h) (fun _ _ => rfl) (fun _ _ _ _ _ => .inl ⟨rfl, rfl⟩) (fun v fz nw h1 h2 q hq => by cases hq; exact ⟨h1, h2⟩)
  exact this q h

/-- What an operation gives, under its guard. -/
def gE (C : Cfg) (P : Program) (N : Nat) (call : Call') (ops : Array Oper) (o : Oper) (s : St) : Option Eff3 :=
  match verdict ops o s.tm with
  | none => none
  | some true => bif isM C P o.op then none else effE C P N call o s
  | some false => some (.sc undef, [], [])

/-- Is it a change of memory that is carried out? -/
def actM (C : Cfg) (P : Program) (ops : Array Oper) (o : Oper) (tm : Nat → PV) : Bool := isM C P o.op && (verdict ops o tm == some true)

theorem gopK_R (h : actM C P ops o s.tm = false) : gopK C P N call ops o s K = (gE C P N call ops o s).bind fun q => applyK N s o.dst q.1 q.2.1 q.2.2 K := by
  rw [gopK_eq]
  unfold gE
  unfold actM at h
  cases hv : verdict ops o s.tm with
  | none => rfl
  | some b =>
    rw [hv] at h
    cases b with
    | false =>
      show chk _ _ = applyK N s o.dst (.sc undef) [] [] K
      unfold applyK
      have h1 : absent s.hp [] = true := rfl
      have h2 : addBoxes (freezeIds s.hp []) [] = s.hp := rfl
      rw [h1, h2, Bool.and_true]
    | true =>
      have hm : isM C P o.op = false := by simpa using h
      simp only [popK, hm, cond_false]
      exact effK_eq

theorem gopK_M (h : actM C P ops o s.tm = true) : gopK C P N call ops o s K = mutK C P N call s o K := by
  rw [gopK_eq]
  unfold actM at h
  simp only [Bool.and_eq_true, beq_iff_eq] at h
  rw [h.2]
  simp only [popK, h.1, cond_true]

theorem gE_facts {q : Eff3} (h : gE C P N call ops o s = some q) : (memo P o.op = false → q.2.1 = [] ∧ ∀ p ∈ q.2.2, o.dst = some p.1) ∧ ∀ i ∈ q.2.1, rda s.hp i ≠ none := by
  unfold gE at h
  split at h
  · cases h
  · cases hm : isM C P o.op <;> rw [hm] at h
    · exact effE_facts h
    · cases h
  · cases h
    exact ⟨fun _ => ⟨rfl, by simp⟩, by simp⟩

theorem opv_looks {tm tm' : Nat → PV} (h : ∀ t ∈ looks ops o, tm t = tm' t) : ∀ y ∈ o.op.operands.toList, opv tm y = opv tm' y := by
  intro y hy
  cases y with
  | tmp t =>
    refine h t ?_
    unfold looks opTmps
    refine List.mem_append.2 (.inl (List.mem_filterMap.2 ⟨.tmp t, hy, rfl⟩))
  | const v => cases v <;> rfl
  | func f => rfl
  | «global» g => rfl

theorem verdict_looks {tm tm' : Nat → PV} (h : ∀ t ∈ looks ops o, tm t = tm' t) : verdict ops o tm = verdict ops o tm' := by
  unfold verdict
  cases hg : o.guard with
  | none => rfl
  | some q =>
    obtain ⟨j, want⟩ := q
    cases hd : (ops[j]?).bind (·.dst) with
    | none => simp [hd]
    | some d =>
      have : tm d = tm' d := h d (by
        unfold looks
        rw [hg]
        refine List.mem_append.2 (.inr ?_)
        simp only [hd]
        simp)
      simp only [hd, this]

/-- An operation gives the same in a memory that has more. -/
theorem gE_more {s' : St} {q : Eff3} (ht : ∀ t ∈ looks ops o, s.tm t = s'.tm t)
    (hm : memo P o.op = true → ∀ y ∈ o.op.operands.toList, ∀ i ∈ refs (opv s'.tm y), (rd s.hp i = rd s'.hp i ∧ rda s.hp i = rda s'.hp i) ∨ (rd s.hp i = none ∧ rda s.hp i = none))
    (h : gE C P N call ops o s = some q) : gE C P N call ops o s' = some q := by
  unfold gE at h ⊢
  rw [← verdict_looks ht]
  split at h
  · cases h
  · cases hM : isM C P o.op <;> rw [hM] at h
    · have := effK_rel (C := C) (P := P) (N := N) (call := call) (o := o) (tm := s.tm) (tm' := s'.tm) (f := rd s.hp) (f' := rd s'.hp) (g := rda s.hp) (g' := rda s'.hp)
        (Rel := fun (a b : Option Eff3) => a = some q → b = some q)
        (K := fun v fz nw => some (v, fz, nw)) (K' := fun v fz nw => some (v, fz, nw)) (fun h => h) (opv_looks ht)
        (fun hm' y hy i hi => (hm hm' y hy i hi).imp id fun h => ⟨h.1, h.2, fun _ h => by cases h⟩) (fun v fz nw _ _ h => h)
      exact this h
    · cases h
  · exact h
end

end Go.Proofs.Ytaphhfehcbkfkaa.Pv

namespace Go.Proofs.Ytaphhfehcbkfkaa.Pv
open Go.RowKit

theorem absent_of : ∀ {nw : List (Nat × Box)} {hp hp' : Nat → Option Box}, absent hp nw = true → (∀ i b, (i, b) ∈ nw → hp' i = none) → absent hp' nw = true
  | [], _, _, _, _ => rfl
  | (i, b) :: nw, hp, hp', h, h' => by
    simp only [absent, Bool.and_eq_true, Option.isNone_iff_eq_none] at h ⊢
    exact ⟨⟨h' i b (by simp), h.1.2⟩, absent_of h.2 fun j c hj => h' j c (by simp [hj])⟩

section
variable {hp : Nat → Option Box} {fz : List Nat} {nw : List (Nat × Box)}

theorem after_old (ha : absent hp nw = true) {i : Nat} (hi : hp i ≠ none) : addBoxes (freezeIds hp fz) nw i = if i ∈ fz then (hp i).map markF else hp i := by
  obtain ⟨h1, h2⟩ := absent_spec ha
  rw [(addBoxes_get h2).2 i (fun bx hb => hi (h1 i bx hb)), freeze_get]
theorem after_new (ha : absent hp nw = true) {i : Nat} {b : Box} (hi : (i, b) ∈ nw) : addBoxes (freezeIds hp fz) nw i = some b :=
  (addBoxes_get (absent_spec ha).2).1 i b hi
theorem after_none (ha : absent hp nw = true) {i : Nat} (hi : hp i = none) (hn : ∀ b, (i, b) ∉ nw) : addBoxes (freezeIds hp fz) nw i = none := by
  rw [(addBoxes_get (absent_spec ha).2).2 i hn, freeze_get, hi]
  simp
theorem after_some (ha : absent hp nw = true) {i : Nat} (hi : hp i ≠ none) : addBoxes (freezeIds hp fz) nw i ≠ none := by
  rw [after_old ha hi]
  cases h : hp i with
  | none => exact absurd h hi
  | some b => split <;> simp

theorem rd_mark (b : Option Box) : (match b.map markF with | some (.st c) => some c | some (.ar _ c) => some c | _ => none) = (match b with | some (.st c) => some c | some (.ar _ c) => some c | _ => none) := by
  cases b with
  | none => rfl
  | some b => cases b <;> rfl
theorem rda_mark (b : Option Box) : (match b.map markF with | some (.ar _ c) => some c | _ => none) = (match b with | some (.ar _ c) => some c | _ => none) := by
  cases b with
  | none => rfl
  | some b => cases b <;> rfl

theorem rd_after (ha : absent hp nw = true) {i : Nat} (hi : hp i ≠ none) : rd (addBoxes (freezeIds hp fz) nw) i = rd hp i := by
  unfold rd
  rw [after_old ha hi]
  by_cases h : i ∈ fz
  · rw [if_pos h]; exact rd_mark _
  · rw [if_neg h]
theorem rda_after (ha : absent hp nw = true) {i : Nat} (hi : hp i ≠ none) : rda (addBoxes (freezeIds hp fz) nw) i = rda hp i := by
  unfold rda
  rw [after_old ha hi]
  by_cases h : i ∈ fz
  · rw [if_pos h]; exact rda_mark _
  · rw [if_neg h]
theorem rd_none {i : Nat} (hi : hp i = none) : rd hp i = none := by unfold rd; rw [hi]
theorem rda_none {i : Nat} (hi : hp i = none) : rda hp i = none := by unfold rda; rw [hi]

theorem mark2 (b : Option Box) : (b.map markF).map markF = b.map markF := by
  cases b with
  | none => rfl
  | some b => cases b <;> rfl

/-- The order of two steps of class R does not matter. -/
theorem after_comm {fx fo : List Nat} {nx no : List (Nat × Box)} (hx : absent hp nx = true) (ho : absent (addBoxes (freezeIds hp fx) nx) no = true) (ho' : absent hp no = true)
    (hx' : absent (addBoxes (freezeIds hp fo) no) nx = true) (h1 : ∀ i ∈ fx, hp i ≠ none) (h2 : ∀ i ∈ fo, hp i ≠ none) :
    addBoxes (freezeIds (addBoxes (freezeIds hp fx) nx) fo) no = addBoxes (freezeIds (addBoxes (freezeIds hp fo) no) fx) nx := by
  funext i
  by_cases hi : hp i = none
  · by_cases hno : ∃ b, (i, b) ∈ no
    · obtain ⟨b, hb⟩ := hno
      have hnx : ∀ b', (i, b') ∉ nx := fun b' hb' => by
        have := (absent_spec ho).1 i b hb
        rw [after_new hx hb'] at this
        cases this
      rw [after_new ho hb, after_old hx' (by rw [after_new ho' hb]; simp), after_new ho' hb, if_neg (fun h => h1 i h hi)]
    · have hno : ∀ b, (i, b) ∉ no := fun b hb => hno ⟨b, hb⟩
      by_cases hnx : ∃ b, (i, b) ∈ nx
      · obtain ⟨b, hb⟩ := hnx
        rw [after_new hx' hb, after_old ho (by rw [after_new hx hb]; simp), after_new hx hb, if_neg (fun h => h2 i h hi)]
      · have hnx : ∀ b, (i, b) ∉ nx := fun b hb => hnx ⟨b, hb⟩
        rw [after_none ho (after_none hx hi hnx) hno, after_none hx' (after_none ho' hi hno) hnx]
  · rw [after_old ho (after_some hx hi), after_old hx hi, after_old hx' (after_some ho' hi), after_old ho' hi]
    split <;> split <;> first | rfl | rw [mark2]
end

section
variable {R : Type} {r : R} {C : Cfg} {P : Program} {N : Nat} {call : Call'} {ops : Array Oper} {o x : Oper} {s : St} {K : St → Option R}

/-- Two operations that do not touch one another. -/
structure Apart (C : Cfg) (P : Program) (ops : Array Oper) (x o : Oper) : Prop where
  xo : ∀ d, x.dst = some d → d ∉ looks ops o
  ne : ∀ d, x.dst = some d → o.dst ≠ some d
  ox : ∀ d, o.dst = some d → d ∉ looks ops x
  mx : isM C P x.op = true → memo P o.op = false
  mo : isM C P o.op = true → memo P x.op = false

theorem any_beq {l : List Nat} {d : Nat} (h : l.any (Nat.beq d) = false) : d ∉ l := by
  intro hm
  have : l.any (Nat.beq d) = true := List.any_eq_true.2 ⟨d, hm, Nat.beq_refl d⟩
  rw [this] at h
  cases h

theorem apart_of (h : clash C P ops x o = false) : Apart C P ops x o := by
  unfold clash at h
  simp only [Bool.or_eq_false_iff, Bool.and_eq_false_iff] at h
  obtain ⟨⟨⟨h1, h2⟩, h3⟩, h4⟩ := h
  refine ⟨fun d hd => ?_, fun d hd he => ?_, fun d hd => ?_, fun hm => ?_, fun hm => ?_⟩
  · simp only [hd, Bool.or_eq_false_iff] at h1
    exact any_beq h1.1
  · simp only [hd, he, Bool.or_eq_false_iff] at h1
    rw [Nat.beq_refl] at h1
    cases h1.2
  · simp only [hd] at h2
    exact any_beq h2
  · rw [hm] at h3
    rcases h3 with h | h
    · cases h
    · exact h
  · rw [hm] at h4
    rcases h4 with h | h
    · cases h
    · exact h

theorem putTm_look {tm : Nat → PV} {d : Option Tmp} {v : PV} {l : List Nat} (h : ∀ i, d = some i → i ∉ l) : ∀ t ∈ l, putTm tm d v t = tm t := by
  intro t ht
  cases d with
  | none => rfl
  | some d => exact upd_other _ _ (by rintro rfl; exact h _ rfl ht)

theorem putTm_comm {tm : Nat → PV} {d e : Option Tmp} {u v : PV} (h : ∀ i, d = some i → e ≠ some i) : putTm (putTm tm d u) e v = putTm (putTm tm e v) d u := by
  cases d with
  | none => rfl
  | some d =>
    cases e with
    | none => rfl
    | some e => exact upd_comm _ _ _ (by rintro rfl; exact h _ rfl rfl)

/-- What an operation looks at is there. -/
def Has (C : Cfg) (P : Program) (o : Oper) (s : St) : Prop := (∀ y ∈ o.op.operands.toList, ∀ i ∈ refs (opv s.tm y), s.hp i ≠ none) ∧
  (isM C P o.op = true → isAp o.op = false → ∀ y ∈ o.op.operands.toList, ∀ i ∈ refs (opv s.tm y), ∀ c, s.hp i = some (.st c) → ∀ p ∈ c, ∀ k ∈ refsC p, s.hp k ≠ none)

theorem actM_looks {tm tm' : Nat → PV} (h : ∀ t ∈ looks ops o, tm t = tm' t) : actM C P ops o tm = actM C P ops o tm' := by
  unfold actM
  rw [verdict_looks h]

theorem swap_RR (hw : Has C P o s) (xo : ∀ d, x.dst = some d → d ∉ looks ops o) (ne : ∀ d, x.dst = some d → o.dst ≠ some d) (ox : ∀ d, o.dst = some d → d ∉ looks ops x) (hx : actM C P ops x s.tm = false) (ho : actM C P ops o s.tm = false)
    (h : gopK C P N call ops x s (fun s1 => gopK C P N call ops o s1 K) = some r) : gopK C P N call ops o s (fun s1 => gopK C P N call ops x s1 K) = some r := by
  rw [gopK_R hx] at h
  cases ex : gE C P N call ops x s with
  | none => rw [ex] at h; cases h
  | some q =>
  obtain ⟨vx, fx, nx⟩ := q
  rw [ex] at h
  obtain ⟨hb, h1⟩ := chk_inv h
  simp only [Bool.and_eq_true] at hb
  have t1 : ∀ t ∈ looks ops o, putTm s.tm x.dst vx t = s.tm t := putTm_look xo
  change gopK C P N call ops o ⟨putTm s.tm x.dst vx, addBoxes (freezeIds s.hp fx) nx⟩ K = some r at h1
  rw [gopK_R (by rw [actM_looks t1]; exact ho)] at h1
  cases eo : gE C P N call ops o ⟨putTm s.tm x.dst vx, addBoxes (freezeIds s.hp fx) nx⟩ with
  | none => rw [eo] at h1; cases h1
  | some q =>
  obtain ⟨vo, fo, no⟩ := q
  rw [eo] at h1
  obtain ⟨hc, h2⟩ := chk_inv h1
  change K ⟨putTm (putTm s.tm x.dst vx) o.dst vo, addBoxes (freezeIds (addBoxes (freezeIds s.hp fx) nx) fo) no⟩ = some r at h2
  simp only [Bool.and_eq_true] at hc
  have eo' : gE C P N call ops o s = some (vo, fo, no) := by
    refine gE_more t1 (fun _ y hy i hi => ?_) eo
    have := hw.1 y hy i hi
    exact .inl ⟨rd_after hb.2 this, rda_after hb.2 this⟩
  have ho' : absent s.hp no = true := absent_of hc.2 fun i b hi => by
    cases hs : s.hp i with
    | none => rfl
    | some c => exact absurd ((absent_spec hc.2).1 i b hi) (after_some hb.2 (by rw [hs]; simp))
  rw [gopK_R ho, eo']
  have hx' : absent (addBoxes (freezeIds s.hp fo) no) nx = true := absent_of hb.2 fun i b hi => by
    refine after_none ho' ((absent_spec hb.2).1 i b hi) fun c hc' => ?_
    have := (absent_spec hc.2).1 i c hc'
    rw [after_new hb.2 hi] at this
    cases this
  have t2 : ∀ t ∈ looks ops x, s.tm t = putTm s.tm o.dst vo t := fun t ht => (putTm_look ox t ht).symm
  have ex' : gE C P N call ops x ⟨putTm s.tm o.dst vo, addBoxes (freezeIds s.hp fo) no⟩ = some (vx, fx, nx) := by
    refine gE_more t2 (fun _ y hy i hi => ?_) ex
    by_cases hs : s.hp i = none
    · exact .inr ⟨rd_none hs, rda_none hs⟩
    · exact .inl ⟨(rd_after ho' hs).symm, (rda_after ho' hs).symm⟩
  show chk _ _ = _
  rw [hc.1, ho']
  show gopK C P N call ops x ⟨putTm s.tm o.dst vo, addBoxes (freezeIds s.hp fo) no⟩ K = some r
  rw [gopK_R (by rw [← actM_looks t2]; exact hx), ex']
  show chk _ _ = _
  rw [hb.1, hx']
  rw [← h2]
  have hfx : ∀ i ∈ fx, s.hp i ≠ none := fun i hi hs => (gE_facts ex).2 i hi (rda_none hs)
  have hfo : ∀ i ∈ fo, s.hp i ≠ none := fun i hi hs => (gE_facts eo').2 i hi (rda_none hs)
  show K ⟨putTm (putTm s.tm o.dst vo) x.dst vx, addBoxes (freezeIds (addBoxes (freezeIds s.hp fo) no) fx) nx⟩ = K _
  rw [putTm_comm ne, after_comm hb.2 hc.2 ho' hx' hfx hfo]
end

end Go.Proofs.Ytaphhfehcbkfkaa.Pv

namespace Go.Proofs.Ytaphhfehcbkfkaa.Pv
open Go.RowKit

theorem isM_memo {C : Cfg} {P : Program} {o : Op} (h : isM C P o = true) : memo P o = true := by
  unfold isM at h
  split at h
  · rfl
  · rename_i c
    unfold memo
    simp only
    split at h <;> rename_i hc
    · rw [hc]
    · rw [hc]
    · cases h
    · rw [hc]
    · cases h
  · cases h

/-- What a change of memory leaves, seen in two memories at once. -/
structure Tch (N : Nat) (S : Nat → Prop) (dst : Option Nat) (hp hp1 hp' hp1' : Nat → Option Box) : Prop where
  keep : ∀ i, hp i ≠ none → hp' i ≠ none
  off : ∀ i, i < N → dst ≠ some i → (¬ S i ∨ hp i = none) → hp' i = hp i ∧ hp1' i = hp1 i
  same : ∀ i, hp i = hp1 i → hp' i = hp1' i
  far : ∀ i, ¬ S i → hp i ≠ none → hp' i = hp i

section
variable {R R' : Type} {Rel : Option R → Option R' → Prop} {P : Program} {N : Nat} {tm tm' : Nat → PV} {hp hp1 : Nat → Option Box} {f f' : Nat → Option (List PV)} {o : Oper}

theorem frcK_relS (hn : Rel none none) {t : CT} {p : PV} {K : PV → List Nat → Option R} {K' : PV → List Nat → Option R'} (hf : Agr Rel f f' (refsC p)) (hK : ∀ c m, (∀ i ∈ m, f i ≠ none ∧ i ∈ refsC p) → Rel (K c m) (K' c m)) : Rel (frcK f t p K) (frcK f' t p K') := by
  unfold frcK; split
  · split
    · rename_i id es' off n
      cases Nat.beq es' _
      · exact hn
      · exact optf_rel hn hf (by simp [refsC]) fun c hc => chk_rel hn fun _ => hK _ _ (by simp [hc, refsC])
    · exact lsK_rel hn fun _ _ _ => hK _ _ (by simp)
  · exact tcK_rel hn fun _ => hK _ _ (by simp)
theorem frcsK_relS (hn : Rel none none) : ∀ {ts : List CT} {ps : List PV} {K : List PV → List Nat → Option R} {K' : List PV → List Nat → Option R'}, Agr Rel f f' (ps.flatMap refsC) → (∀ c m, (∀ i ∈ m, f i ≠ none ∧ i ∈ ps.flatMap refsC) → Rel (K c m) (K' c m)) → Rel (frcsK f ts ps K) (frcsK f' ts ps K')
  | [], [], _, _, _, hK => hK _ _ (by simp)
  | [], _ :: _, _, _, _, _ => hn
  | _ :: _, [], _, _, _, _ => hn
  | _ :: _, p :: ps, _, _, hf, hK => frcK_relS hn (fun i hi => hf i (by simp only [List.flatMap_cons, List.mem_append]; exact .inl hi)) fun _ m hm => frcsK_relS hn (fun i hi => hf i (by simp only [List.flatMap_cons, List.mem_append]; exact .inr hi)) fun _ ms hms => hK _ _ fun i hi => by
      simp only [List.flatMap_cons, List.mem_append]
      rcases List.mem_append.1 hi with h | h
      · exact ⟨(hm i h).1, .inl (hm i h).2⟩
      · exact ⟨(hms i h).1, .inr (hms i h).2⟩

theorem upd_two {S : Nat → Prop} {dst : Option Nat} {id : Nat} {b : Box} {h0 h1 : Nat → Option Box} (hS : S id) (hid : hp id ≠ none) (h : Tch N S dst hp hp1 h0 h1) : Tch N S dst hp hp1 (upd h0 id (some b)) (upd h1 id (some b)) := by
  refine ⟨fun i hi => ?_, fun i hN hd hi => ?_, fun i hi => ?_, fun i hn hi => ?_⟩
  · by_cases e : i = id
    · subst e; rw [upd_same]; simp
    · rw [upd_other _ _ e]; exact h.keep i hi
  · have e : i ≠ id := by
      rintro rfl
      rcases hi with hi | hi
      · exact hi hS
      · exact hid hi
    rw [upd_other _ _ e, upd_other _ _ e]
    exact h.off i hN hd hi
  · by_cases e : i = id
    · subst e; rw [upd_same, upd_same]
    · rw [upd_other _ _ e, upd_other _ _ e]; exact h.same i hi
  · rw [upd_other _ _ (by rintro rfl; exact hn hS)]; exact h.far i hn hi
theorem upd_dst {S : Nat → Prop} {d : Nat} {b : Box} {h0 h1 : Nat → Option Box} (hz : hp d = none) (h : Tch N S (some d) hp hp1 h0 h1) : Tch N S (some d) hp hp1 (upd h0 d (some b)) (upd h1 d (some b)) := by
  refine ⟨fun i hi => ?_, fun i hN hd hi => ?_, fun i hi => ?_, fun i hn hi => ?_⟩
  · by_cases e : i = d
    · subst e; rw [upd_same]; simp
    · rw [upd_other _ _ e]; exact h.keep i hi
  · have e : i ≠ d := by rintro rfl; exact hd rfl
    rw [upd_other _ _ e, upd_other _ _ e]
    exact h.off i hN hd hi
  · by_cases e : i = d
    · subst e; rw [upd_same, upd_same]
    · rw [upd_other _ _ e, upd_other _ _ e]; exact h.same i hi
  · rw [upd_other _ _ (by rintro rfl; exact hi hz)]; exact h.far i hn hi
theorem tch_refl (S : Nat → Prop) (dst : Option Nat) : Tch N S dst hp hp1 hp hp1 := ⟨fun _ h => h, fun _ _ _ _ => ⟨rfl, rfl⟩, fun _ h => h, fun _ _ _ => rfl⟩
theorem tch_freeze {S : Nat → Prop} {dst : Option Nat} {m : List Nat} (hm : ∀ i ∈ m, hp i ≠ none ∧ S i) : Tch N S dst hp hp1 (freezeIds hp m) (freezeIds hp1 m) := by
  refine ⟨fun i hi => fun h => hi (freeze_none.1 h), fun i hN hd hi => ?_, fun i hi => ?_, fun i hn hi => ?_⟩
  · have e : i ∉ m := by
      intro h
      rcases hi with hi | hi
      · exact hi (hm i h).2
      · exact (hm i h).1 hi
    rw [freeze_get, freeze_get, if_neg e, if_neg e]
    exact ⟨rfl, rfl⟩
  · rw [freeze_get, freeze_get, hi]
  · rw [freeze_get, if_neg (fun h => hn (hm i h).2)]

theorem rda_agr {S : Nat → Prop} (h : ∀ i, S i → hp i = hp1 i ∨ (hp i = none ∧ ∀ b, Rel none b)) {l : List Nat} (hl : ∀ i ∈ l, S i) : Agr Rel (rda hp) (rda hp1) l := by
  intro i hi
  rcases h i (hl i hi) with h | ⟨h, h'⟩
  · left; unfold rda; rw [h]
  · exact .inr ⟨rda_none h, h'⟩

theorem storeK_relH (hn : Rel none none) {t : TypeId} {a x : PV} {K : St → Option R} {K' : St → Option R'} {S : Nat → Prop} (hS : ∀ i, S i → hp i = hp1 i ∨ (hp i = none ∧ ∀ b, Rel none b)) (ha : ∀ i ∈ refsC a, S i) (hx : ∀ i ∈ refs1 x, S i)
    (hK : ∀ hp' hp1', Tch N S none hp hp1 hp' hp1' → Rel (K ⟨tm, hp'⟩) (K' ⟨tm', hp1'⟩)) : Rel (storeK P ⟨tm, hp⟩ t a x K) (storeK P ⟨tm', hp1⟩ t a x K') := by
  unfold storeK; split
  · rename_i id off
    show Rel (match hp id with | some (.st c) => _ | some (.ar false c) => _ | _ => none) (match hp1 id with | some (.st c) => _ | some (.ar false c) => _ | _ => none)
    have hid : S id := ha id (by simp [refsC])
    rcases hS id hid with h | ⟨h, hb⟩
    · rw [← h]
      split
      · rename_i c hc
        exact chk_rel hn fun _ => fcsK_rel hn fun _ => hK _ _ (upd_two hid (by rw [hc]; simp) (tch_refl _ _))
      · rename_i c hc
        refine chk_rel hn fun _ => frcsK_relS hn (rda_agr hS fun i hi => hx i ?_) fun _ m hm => chk_rel hn fun _ => hK _ _ (upd_two hid (by rw [hc]; simp) (tch_freeze fun i hi => ⟨fun h => (hm i hi).1 (rda_none h), hx i ?_⟩))
        · obtain ⟨c, hc, hi⟩ := List.mem_flatMap.1 hi
          exact mem_cellsOf hc hi
        · obtain ⟨c, hc, hi⟩ := List.mem_flatMap.1 (hm i hi).2
          exact mem_cellsOf hc hi
      · exact hn
    · rw [h]
      exact hb _
  · exact hn
theorem srcK_relH (hn : Rel none none) {es : Nat} {t : TypeId} {x : PV} {K : Nat → List PV → Option R} {K' : Nat → List PV → Option R'} {S : Nat → Prop} (hS : ∀ i, S i → hp i = hp1 i ∨ (hp i = none ∧ ∀ b, Rel none b)) (hx : ∀ i ∈ refs1 x, S i) (hK : ∀ m c, Rel (K m c) (K' m c)) : Rel (srcK P ⟨tm, hp⟩ es t x K) (srcK P ⟨tm', hp1⟩ es t x K') := by
  unfold srcK srcR; split
  · exact chk_rel hn fun _ => strK_rel hn fun _ => hK _ _
  · exact slcK_rel hn (rda_agr hS fun i hi => hx i (refsC_refs1 hi)) hK
  · exact hn
theorem appendK_relH (hn : Rel none none) {d : Nat} {t tx : TypeId} {b x : PV} {K : St → Option R} {K' : St → Option R'} {S : Nat → Prop} (hS : ∀ i, S i → hp i = hp1 i ∨ (hp i = none ∧ ∀ b, Rel none b)) (hdd : hp d = hp1 d) (hb : ∀ i ∈ refs1 b, S i) (hx : ∀ i ∈ refs1 x, S i)
    (hK : ∀ v hp' hp1', (∀ M, Tch M S (some d) hp hp1 hp' hp1') → Rel (K ⟨upd tm d v, hp'⟩) (K' ⟨upd tm' d v, hp1'⟩)) : Rel (appendK P N ⟨tm, hp⟩ d t tx b x K) (appendK P N ⟨tm', hp1⟩ d t tx b x K') := by
  unfold appendK; split
  · refine chk_rel hn fun _ => ?_
    cases isIntTy P tx
    rotate_left
    · show Rel (appZeroK P N ⟨tm, hp⟩ d _ b x K) (appZeroK P N ⟨tm', hp1⟩ d _ b x K')
      refine anyIntK_rel hn fun _ n => lsK_rel hn fun z _ _ => ?_
      show Rel (chk (z && Nat.blt d N && (hp d).isNone && _ && _ && _) _) (chk (z && Nat.blt d N && (hp1 d).isNone && _ && _ && _) _)
      rw [← hdd]
      exact chk_rel hn fun hb => hK _ _ _ (fun M => upd_dst (by simp only [Bool.and_eq_true, Option.isNone_iff_eq_none] at hb; simp only [hb]) (tch_refl _ _))
    rw [cond_false, cond_false]
    refine srcK_relH hn hS hx fun m new => ?_
    split
    · rename_i id es off n
      show Rel (match hp id with | some (.ar false c) => chk (Nat.beq es _ && Nat.beq off 0 && Nat.blt d N && (hp d).isNone && _ && _ && _ && _) _ | _ => none) (match hp1 id with | some (.ar false c) => chk (Nat.beq es _ && Nat.beq off 0 && Nat.blt d N && (hp1 d).isNone && _ && _ && _ && _) _ | _ => none)
      have hid : S id := hb id (by simp [refs1, refsC])
      rw [← hdd]
      rcases hS id hid with h | ⟨h, hbb⟩
      · rw [← h]
        split
        · rename_i c hc
          exact chk_rel hn fun hb => hK _ _ _ (fun M => upd_dst (by simp only [Bool.and_eq_true, Option.isNone_iff_eq_none] at hb; simp only [hb]) (upd_two hid (by rw [hc]; simp) (tch_refl _ _)))
        · exact hn
      · rw [h]
        exact hbb _
    · refine lsK_rel hn fun z _ _ => ?_
      show Rel (chk (z && Nat.blt d N && (hp d).isNone && _ && _ && _) _) (chk (z && Nat.blt d N && (hp1 d).isNone && _ && _ && _) _)
      rw [← hdd]
      exact chk_rel hn fun hb => hK _ _ _ (fun M => upd_dst (by simp only [Bool.and_eq_true, Option.isNone_iff_eq_none] at hb; simp only [hb]) (tch_refl _ _))
  · exact hn

theorem copyK_relH (hn : Rel none none) {d : Option Tmp} {t tx : TypeId} {b x : PV} {K : St → Option R} {K' : St → Option R'} {S : Nat → Prop} (hS : ∀ i, S i → hp i = hp1 i ∨ (hp i = none ∧ ∀ b, Rel none b)) (hb : ∀ i ∈ refs1 b, S i) (hx : ∀ i ∈ refs1 x, S i)
    (hK : ∀ v hp' hp1', Tch N S d hp hp1 hp' hp1' → Rel (K ⟨putTm tm d v, hp'⟩) (K' ⟨putTm tm' d v, hp1'⟩)) : Rel (copyK P N ⟨tm, hp⟩ d t tx b x K) (copyK P N ⟨tm', hp1⟩ d t tx b x K') := by
  unfold copyK; split
  · refine chk_rel hn fun _ => ?_
    refine srcK_relH hn hS hx fun m new => ?_
    split
    · rename_i id es off n
      show Rel (match hp id with | some (.ar false c) => chk (Nat.beq es _ && _ && _) _ | _ => none) (match hp1 id with | some (.ar false c) => chk (Nat.beq es _ && _ && _) _ | _ => none)
      have hid : S id := hb id (by simp [refs1, refsC])
      rcases hS id hid with h | ⟨h, hbb⟩
      · rw [← h]
        split
        · rename_i c hc
          exact chk_rel hn fun _ => hK _ _ _ (upd_two hid (by rw [hc]; simp) (tch_refl _ _))
        · exact hn
      · rw [h]
        exact hbb _
    · exact hn
  · exact hn

/-- What an operation's operands lead to; what lies in variables among that. -/
def Leads (o : Oper) (tm : Nat → PV) (i : Nat) : Prop := ∃ x ∈ o.op.operands.toList, i ∈ refs (opv tm x)
def Rch (o : Oper) (tm : Nat → PV) (hp : Nat → Option Box) (i : Nat) : Prop := Leads o tm i ∨ isAp o.op = false ∧ ∃ id c, Leads o tm id ∧ hp id = some (.st c) ∧ ∃ p ∈ c, i ∈ refsC p

theorem mvcK_relH (hn : Rel none none) {mv : Bool} {t : CT} {p : PV} {K : PV → List Nat → List Nat → Option R} {K' : PV → List Nat → List Nat → Option R'} {S : Nat → Prop} (hS : ∀ i, S i → hp i = hp1 i ∨ (hp i = none ∧ ∀ b, Rel none b)) (hp_ : ∀ i ∈ refsC p, S i)
    (hK : ∀ c m x, (∀ i ∈ m ++ x, hp i ≠ none ∧ S i) → Rel (K c m x) (K' c m x)) : Rel (mvcK mv hp t p K) (mvcK mv hp1 t p K') := by
  have frz : ∀ {t : CT} {p : PV}, (∀ i ∈ refsC p, S i) → Rel (frcK (rda hp) t p fun c m => K c m []) (frcK (rda hp1) t p fun c m => K' c m []) := fun h => frcK_relS hn (rda_agr hS h) fun c m hm => hK _ _ _ fun i hi => by
    rw [List.append_nil] at hi
    exact ⟨fun e => (hm i hi).1 (rda_none e), h i (hm i hi).2⟩
  unfold mvcK; split
  · rename_i es
    cases mv <;> simp only [cond_true, cond_false]
    · exact frz hp_
    · split
      · rename_i id es' off n
        rcases hS id (hp_ id (by simp [refsC])) with h | ⟨h, hb⟩
        · rw [← h]
          split
          · rename_i c hc
            cases (Nat.beq es' es && Nat.beq off 0) <;> simp only [cond_true, cond_false]
            · exact frz hp_
            · exact chk_rel hn fun _ => hK _ _ _ fun i hi => by
                simp only [List.nil_append, List.mem_singleton] at hi
                subst hi
                exact ⟨by rw [hc]; simp, hp_ i (by simp [refsC])⟩
          · exact frz hp_
        · rw [h]
          have : (frcK (rda hp) (.sl es) (.view id es' off n) fun c m => K c m []) = none := by
            unfold frcK
            simp only
            cases Nat.beq es' es
            · rfl
            · simp only [cond_true, rda_none h, optK]
          show Rel (frcK (rda hp) (.sl es) (.view id es' off n) fun c m => K c m []) _
          rw [this]
          exact hb _
      · refine lsK_rel hn fun z n c => ?_
        cases z
        · exact hK _ _ _ (by simp)
        · exact hK _ _ _ (by simp)
  · exact tcK_rel hn fun _ => hK _ _ _ (by simp)

theorem mvcsK_relH (hn : Rel none none) {mv : Bool} {S : Nat → Prop} (hS : ∀ i, S i → hp i = hp1 i ∨ (hp i = none ∧ ∀ b, Rel none b)) : ∀ {ts : List CT} {ps : List PV} {K : List PV → List Nat → List Nat → Option R} {K' : List PV → List Nat → List Nat → Option R'}, (∀ p ∈ ps, ∀ i ∈ refsC p, S i) →
    (∀ c m x, (∀ i ∈ m ++ x, hp i ≠ none ∧ S i) → Rel (K c m x) (K' c m x)) → Rel (mvcsK mv hp ts ps K) (mvcsK mv hp1 ts ps K')
  | [], [], _, _, _, hK => hK _ _ _ (by simp)
  | [], _ :: _, _, _, _, _ => hn
  | _ :: _, [], _, _, _, _ => hn
  | _ :: _, p :: ps, _, _, hp_, hK => mvcK_relH hn hS (hp_ p (by simp)) fun _ m x hm => mvcsK_relH hn hS (fun q hq => hp_ q (by simp [hq])) fun _ ms xs hms => hK _ _ _ fun i hi => by
      simp only [List.mem_append] at hi hm hms
      rcases hi with (hi | hi) | (hi | hi)
      · exact hm i (.inl hi)
      · exact hms i (.inl hi)
      · exact hm i (.inr hi)
      · exact hms i (.inr hi)

theorem lend1K_relH (hn : Rel none none) {C : Cfg} {f : FuncId} {i : Nat} {t : TypeId} {p : PV} {K : PV → List Nat → List Nat → List Lnt → Option R} {K' : PV → List Nat → List Nat → List Lnt → Option R'} {S : Nat → Prop} (hS : ∀ i, S i → hp i = hp1 i ∨ (hp i = none ∧ ∀ b, Rel none b))
    (hp_ : ∀ i ∈ refs p, S i) (hc : ∀ i ∈ refs p, ∀ c, hp1 i = some (.st c) → ∀ q ∈ c, ∀ k ∈ refsC q, S k)
    (hK : ∀ v m x l, (∀ i ∈ m ++ x ++ l.flatMap Lnt.ids, hp i ≠ none ∧ S i) → Rel (K v m x l) (K' v m x l)) : Rel (lend1K C P f hp i t p K) (lend1K C P f hp1 i t p K') := by
  unfold lend1K
  split
  · split
    · rename_i id off
      have hid : S id := hp_ id (by simp [refs, refs1, refsC])
      rcases hS id hid with h | ⟨h, hb⟩
      · rw [h]
        split
        · rename_i c hc1
          refine chk_rel hn fun _ => mvcsK_relH hn hS (fun q hq k hk => hc id (by simp [refs, refs1, refsC]) c hc1 q (List.mem_of_mem_drop (List.mem_of_mem_take hq)) k hk) fun cs m x hm => hK _ _ _ _ fun k hk => ?_
          rcases List.mem_append.1 hk with hk | hk
          · exact hm k hk
          · simp only [List.flatMap_cons, List.flatMap_nil, Lnt.ids, List.append_nil, List.mem_singleton] at hk
            subst hk
            exact ⟨by rw [h, hc1]; simp, hid⟩
        · exact hn
      · rw [h]; exact hb _
    · exact hn
  · cases C.lnd f i
    · cases isAggB P t
      · exact mvcsK_relH hn hS (fun q hq k hk => by
          simp at hq; subst hq; exact hp_ k (refsC_refs hk)) fun cs m x hm => consK_rel hn fun _ _ _ => nilK_rel hn (hK _ _ _ _ (by simpa using hm))
      · refine aggK_rel hn fun cs hcs => mvcsK_relH hn hS (fun q hq k hk => hp_ k ?_) fun cs m x hm => hK _ _ _ _ (by simpa using hm)
        subst hcs
        exact List.mem_flatMap.2 ⟨q, hq, hk⟩
    · refine optK_rel hn fun e he => ?_
      unfold lrowK
      split
      · rename_i id es' off n
        have hid : S id := hp_ id (by simp [refs, refs1, refsC])
        rcases hS id hid with h | ⟨h, hb⟩
        · rw [h]
          split
          · rename_i c hc1
            refine chk_rel hn fun _ => hK _ _ _ _ fun k hk => ?_
            simp only [List.nil_append, List.flatMap_cons, List.flatMap_nil, Lnt.ids, List.append_nil, List.mem_singleton] at hk
            subst hk
            exact ⟨by rw [h, hc1]; simp, hid⟩
          · exact hn
        · rw [h]; exact hb _
      · exact lsK_rel hn fun _ _ _ => chk_rel hn fun _ => hK _ _ _ _ (by simp [Lnt.ids])

theorem lendK_relH (hn : Rel none none) {C : Cfg} {f : FuncId} {S : Nat → Prop} (hS : ∀ i, S i → hp i = hp1 i ∨ (hp i = none ∧ ∀ b, Rel none b)) : ∀ {ts : List TypeId} {ps : List PV} {i : Nat} {K : List PV → List Nat → List Nat → List Lnt → Option R} {K' : List PV → List Nat → List Nat → List Lnt → Option R'},
    (∀ p ∈ ps, ∀ i ∈ refs p, S i) → (∀ p ∈ ps, ∀ i ∈ refs p, ∀ c, hp1 i = some (.st c) → ∀ q ∈ c, ∀ k ∈ refsC q, S k) →
    (∀ v m x l, (∀ i ∈ m ++ x ++ l.flatMap Lnt.ids, hp i ≠ none ∧ S i) → Rel (K v m x l) (K' v m x l)) → Rel (lendK C P f hp i ts ps K) (lendK C P f hp1 i ts ps K')
  | [], [], _, _, _, _, _, hK => hK _ _ _ _ (by simp)
  | [], _ :: _, _, _, _, _, _, _ => hn
  | _ :: _, [], _, _, _, _, _, _ => hn
  | _ :: _, p :: ps, _, _, _, hp_, hc, hK => lend1K_relH hn hS (hp_ p (by simp)) (hc p (by simp)) fun _ m x l hm => lendK_relH hn hS (fun q hq => hp_ q (by simp [hq])) (fun q hq => hc q (by simp [hq])) fun _ ms xs ls hms => hK _ _ _ _ fun i hi => by
      simp only [List.mem_append, List.flatMap_append] at hi hm hms
      rcases hi with ((hi | hi) | (hi | hi)) | (hi | hi)
      · exact hm i (.inl (.inl hi))
      · exact hms i (.inl (.inl hi))
      · exact hm i (.inl (.inr hi))
      · exact hms i (.inl (.inr hi))
      · exact hm i (.inr hi)
      · exact hms i (.inr hi)

theorem bkcK_rel (hn : Rel none none) {t : Nat} {ct : CT} {was p : PV} {K : Nat → PV → List (Nat × Box) → Option R} {K' : Nat → PV → List (Nat × Box) → Option R'} (hK : ∀ t c b, (∀ q ∈ b, ∃ k, q.1 = nid N k) → Rel (K t c b) (K' t c b)) : Rel (bkcK N t ct was p K) (bkcK N t ct was p K') := by
  unfold bkcK; split
  · split
    · exact owK_rel hn fun _ _ => hK _ _ _ (by intro q hq; simp only [List.mem_singleton] at hq; subst hq; exact ⟨t, rfl⟩)
    · exact lsK_rel hn fun _ _ _ => hK _ _ _ (by simp)
  · exact tcK_rel hn fun _ => hK _ _ _ (by simp)

theorem bkcsK_rel (hn : Rel none none) : ∀ {cts : List CT} {ws ps : List PV} {t : Nat} {K : Nat → List PV → List (Nat × Box) → Option R} {K' : Nat → List PV → List (Nat × Box) → Option R'}, (∀ t c b, (∀ q ∈ b, ∃ k, q.1 = nid N k) → Rel (K t c b) (K' t c b)) → Rel (bkcsK N t cts ws ps K) (bkcsK N t cts ws ps K')
  | [], [], _, _, _, _, hK => nilK_rel hn (hK _ _ _ (by simp))
  | [], _ :: _, _, _, _, _, _ => hn
  | _ :: _, [], _, _, _, _, _ => hn
  | _ :: _, _ :: _, _, _, _, _, hK => consK_rel hn fun _ _ _ => bkcK_rel hn fun _ _ b hb => bkcsK_rel hn fun _ _ bs hbs => hK _ _ _ fun q hq => by
      rcases List.mem_append.1 hq with h | h
      · exact hb q h
      · exact hbs q h

theorem bksK_relH (hn : Rel none none) {S : Nat → Prop} {dst : Option Nat} : ∀ {l : List Lnt} {ro : List (List PV)} {t : Nat} {h0 h1 : Nat → Option Box} {K : (Nat → Option Box) → List (Nat × Box) → Option R} {K' : (Nat → Option Box) → List (Nat × Box) → Option R'},
    Tch N S dst hp hp1 h0 h1 → (∀ i ∈ l.flatMap Lnt.ids, hp i ≠ none ∧ S i ∧ hp i = hp1 i) → (∀ h0' h1' b, Tch N S dst hp hp1 h0' h1' → (∀ q ∈ b, ∃ k, q.1 = nid N k) → Rel (K h0' b) (K' h1' b)) → Rel (bksK N t l ro h0 K) (bksK N t l ro h1 K')
  | [], _, _, _, _, _, _, hT, _, hK => nilK_rel hn (hK _ _ _ hT (by simp))
  | .var id off cts ws :: l, ro, t, h0, h1, K, K', hT, hl, hK => by
    unfold bksK
    refine consK_rel hn fun cs ro _ => bkcsK_rel hn fun t' cs' bs hbs => ?_
    have hid := hl id (by simp [Lnt.ids])
    rw [← hT.same id hid.2.2]
    split
    · exact bksK_relH hn (upd_two hid.2.1 hid.1 hT) (fun i hi => hl i (by simp only [List.flatMap_cons, List.mem_append]; exact .inr hi)) fun h0' h1' b hT' hb => hK _ _ _ hT' fun q hq => by
        rcases List.mem_append.1 hq with h | h
        · exact hbs q h
        · exact hb q h
    · exact hn
  | .row id :: l, ro, t, h0, h1, K, K', hT, hl, hK => by
    unfold bksK
    have hid := hl id (by simp [Lnt.ids])
    exact consK_rel hn fun cs ro _ => bksK_relH hn (upd_two hid.2.1 hid.1 hT) (fun i hi => hl i (by simp only [List.flatMap_cons, List.mem_append]; exact .inr hi)) hK
  | .none :: l, ro, t, h0, h1, K, K', hT, hl, hK => by
    unfold bksK
    exact consK_rel hn fun cs ro _ => bksK_relH hn hT (fun i hi => hl i (by simp only [List.flatMap_cons, List.mem_append]; exact .inr hi)) hK

theorem freeT_eq (h : ∀ i, N ≤ i → hp i = hp1 i) (hN : 0 < N) : ∀ k t, freeT N hp k t = freeT N hp1 k t
  | 0, _ => rfl
  | k + 1, t => by
    unfold freeT
    rw [h (nid N t) (by unfold nid; exact Nat.le_mul_of_pos_right _ (by omega)), freeT_eq h hN k (t + 1)]

theorem absent_eq {h0 h1 : Nat → Option Box} : ∀ {nw : List (Nat × Box)}, (∀ q ∈ nw, h0 q.1 = h1 q.1) → absent h0 nw = absent h1 nw
  | [], _ => rfl
  | (i, b) :: nw, h => by
    unfold absent
    rw [h (i, b) (by simp), absent_eq (fun q hq => h q (by simp [hq]))]

theorem addBoxes_T {S : Nat → Prop} {dst : Option Nat} {h0 h1 : Nat → Option Box} (hT : Tch N S dst hp hp1 h0 h1) : ∀ {nw : List (Nat × Box)} {g0 g1 : Nat → Option Box}, Tch N S dst hp hp1 g0 g1 → (∀ q ∈ nw, N ≤ q.1 ∨ dst = some q.1) → (∀ q ∈ nw, hp q.1 = none) → Tch N S dst hp hp1 (addBoxes g0 nw) (addBoxes g1 nw)
  | [], _, _, h, _, _ => h
  | (i, b) :: nw, g0, g1, h, hi, hz => by
    refine addBoxes_T hT (nw := nw) ⟨fun k hk => ?_, fun k hN hd hk => ?_, fun k hk => ?_, fun k hn hk => ?_⟩ (fun q hq => hi q (by simp [hq])) (fun q hq => hz q (by simp [hq]))
    · by_cases e : k = i
      · subst e; rw [upd_same]; simp
      · rw [upd_other _ _ e]; exact h.keep k hk
    · have e : k ≠ i := by
        rintro rfl
        rcases hi (k, b) (by simp) with q | q
        · simp only at q; omega
        · exact hd q
      rw [upd_other _ _ e, upd_other _ _ e]
      exact h.off k hN hd hk
    · by_cases e : k = i
      · subst e; rw [upd_same, upd_same]
      · rw [upd_other _ _ e, upd_other _ _ e]; exact h.same k hk
    · rw [upd_other _ _ (by rintro rfl; exact hk (hz (k, b) (by simp)))]; exact h.far k hn hk

theorem tch_mv {S : Nat → Prop} {dst : Option Nat} {m x : List Nat} (hm : ∀ i ∈ m ++ x, hp i ≠ none ∧ S i) : Tch N S dst hp hp1 (mvIds (freezeIds hp m) x) (mvIds (freezeIds hp1 m) x) := by
  refine ⟨fun i hi h => ?_, fun i hN hd hi => ?_, fun i hi => ?_, fun i hn hi => ?_⟩
  · rw [mvIds_get] at h
    have h1 : freezeIds hp m i ≠ none := fun e => hi (freeze_none.1 e)
    split at h
    · cases hq : freezeIds hp m i with
      | none => exact h1 hq
      | some b => rw [hq] at h; cases h
    · exact h1 h
  · have e : i ∉ m ∧ i ∉ x := by
      refine ⟨fun h => ?_, fun h => ?_⟩ <;> (rcases hi with hi | hi)
      · exact hi (hm i (by simp [h])).2
      · exact (hm i (by simp [h])).1 hi
      · exact hi (hm i (by simp [h])).2
      · exact (hm i (by simp [h])).1 hi
    rw [mvIds_get, mvIds_get, if_neg e.2, if_neg e.2, freeze_get, freeze_get, if_neg e.1, if_neg e.1]
    exact ⟨rfl, rfl⟩
  · rw [mvIds_get, mvIds_get, freeze_get, freeze_get, hi]
  · rw [mvIds_get, freeze_get, if_neg (fun h => hn (hm i (by simp [h])).2), if_neg (fun h => hn (hm i (by simp [h])).2)]

theorem callMK_relH (hn : Rel none none) {C : Cfg} {call : Call'} {f : FuncId} {c : Call} {K : St → Option R} {K' : St → Option R'} {S : Nat → Prop} (htm : c.args.toList.map (opv tm) = c.args.toList.map (opv tm')) (hS : ∀ i, S i → hp i = hp1 i ∨ (hp i = none ∧ ∀ b, Rel none b))
    (hp_ : ∀ p ∈ c.args.toList.map (opv tm'), ∀ i ∈ refs p, S i) (hc : ∀ p ∈ c.args.toList.map (opv tm'), ∀ i ∈ refs p, ∀ c, hp1 i = some (.st c) → ∀ q ∈ c, ∀ k ∈ refsC q, S k)
    (hdd : ∀ d, o.dst = some d → hp d = hp1 d) (hNN : ∀ i, N ≤ i → hp i = hp1 i)
    (hK : ∀ v hp' hp1', Tch N S o.dst hp hp1 hp' hp1' → Rel (K ⟨putTm tm o.dst v, hp'⟩) (K' ⟨putTm tm' o.dst v, hp1'⟩)) : Rel (callMK C P N call ⟨tm, hp⟩ o f c K) (callMK C P N call ⟨tm', hp1⟩ o f c K') := by
  unfold callMK
  simp only [htm]
  refine lendK_relH hn hS hp_ hc fun vs m x l hm => chk_rel hn fun hb => callK_rel hn fun rv ro => unvsK_rel hn fun ws bs hbs => chk_rel hn fun _ => ?_
  simp only [Bool.and_eq_true] at hb
  have hN : 0 < N := Nat.lt_of_succ_le (Nat.le_of_ble_eq_true hb.1.2)
  rw [freeT_eq hNN hN]
  by_cases hbad : ∃ i ∈ l.flatMap Lnt.ids, hp i ≠ hp1 i
  · obtain ⟨i, hi, hne⟩ := hbad
    obtain ⟨h1, h2⟩ := hm i (List.mem_append.2 (.inr hi))
    rcases hS i h2 with h | ⟨h, _⟩
    · exact absurd h hne
    · exact absurd h h1
  have hl : ∀ i ∈ l.flatMap Lnt.ids, hp i ≠ none ∧ S i ∧ hp i = hp1 i := fun i hi => ⟨(hm i (List.mem_append.2 (.inr hi))).1, (hm i (List.mem_append.2 (.inr hi))).2, Classical.byContradiction fun h => hbad ⟨i, hi, h⟩⟩
  have hT0 : Tch N S o.dst hp hp1 (mvIds (freezeIds hp m) x) (mvIds (freezeIds hp1 m) x) := tch_mv fun i hi => hm i (List.mem_append.2 (.inl hi))
  refine bksK_relH hn hT0 hl fun h0 h1 bs' hT hbs' => ?_
  have hids : ∀ q ∈ bs ++ bs', N ≤ q.1 ∨ o.dst = some q.1 := by
    intro q hq
    rcases List.mem_append.1 hq with hq | hq
    · obtain ⟨j, hj⟩ := hbs q hq
      cases hd : o.dst with
      | none =>
        rw [hd] at hj
        left
        rw [hj]
        exact Nat.le_add_right _ _
      | some d =>
        rw [hd] at hj
        change q.1 = d + N * j at hj
        cases j with
        | zero => right; rw [hj]; simp
        | succ j => left; rw [hj, Nat.mul_add]; omega
    · obtain ⟨k, hk⟩ := hbs' q hq
      left
      rw [hk]
      unfold nid
      exact Nat.le_mul_of_pos_right _ (by omega)
  have hsame : ∀ q ∈ bs ++ bs', h0 q.1 = h1 q.1 := by
    intro q hq
    refine hT.same q.1 ?_
    rcases hids q hq with h | h
    · exact hNN _ h
    · exact hdd _ h
  rw [absent_eq hsame]
  exact chk_rel hn fun hb => hK _ _ _ (addBoxes_T hT hT hids fun q hq => by
    cases hz : hp q.1 with
    | none => rfl
    | some c => exact absurd ((hsame q hq).trans ((absent_spec hb).1 q.1 q.2 hq)) (hT.keep q.1 (by rw [hz]; simp)))

theorem mutK_relH (hn : Rel none none) {C : Cfg} {call : Call'} {K : St → Option R} {K' : St → Option R'} (htm : ∀ x ∈ o.op.operands.toList, opv tm x = opv tm' x)
    (hS : ∀ i, Rch o tm' hp1 i → hp i = hp1 i ∨ (hp i = none ∧ ∀ b, Rel none b)) (hdd : ∀ d, o.dst = some d → hp d = hp1 d) (hNN : ∀ i, N ≤ i → hp i = hp1 i)
    (hK : ∀ v hp' hp1', Tch N (Rch o tm' hp1) o.dst hp hp1 hp' hp1' → Rel (K ⟨putTm tm o.dst v, hp'⟩) (K' ⟨putTm tm' o.dst v, hp1'⟩)) : Rel (mutK C P N call ⟨tm, hp⟩ o K) (mutK C P N call ⟨tm', hp1⟩ o K') := by
  unfold mutK
  have hl : ∀ x ∈ o.op.operands.toList, ∀ i ∈ refs (opv tm' x), Rch o tm' hp1 i := fun x hx i hi => .inl ⟨x, hx, hi⟩
  have hl2 : isAp o.op = false → ∀ x ∈ o.op.operands.toList, ∀ i ∈ refs (opv tm' x), ∀ c, hp1 i = some (.st c) → ∀ q ∈ c, ∀ k ∈ refsC q, Rch o tm' hp1 k := fun ha x hx i hi c hc q hq k hk => .inr ⟨ha, i, c, ⟨x, hx, hi⟩, hc, q, hq, hk⟩
  generalize hLd : Rch o tm' hp1 = S at *
  generalize hop : o.op = op at *
  split
  · rename_i t x y
    simp only [htm x (by simp [Op.operands]), htm y (by simp [Op.operands])]
    refine chk_rel hn fun hd => storeK_relH (N := N) hn hS (fun i hi => hl x (by simp [Op.operands]) i (refsC_refs hi)) (fun i hi => hl y (by simp [Op.operands]) i (refs1_refs hi)) fun hp' hp1' hh => ?_
    have hd' := Option.isNone_iff_eq_none.1 hd
    have := hK .top hp' hp1' (by rw [hd']; exact hh)
    rw [hd'] at this
    exact this
  · rename_i c
    have hmem : ∀ x ∈ c.args.toList, x ∈ (Op.call c).operands.toList := by
      intro x hx
      simp only [Op.operands, Call.operands, Array.toList_append, List.mem_append]
      exact .inr hx
    split
    · rename_i hc
      refine optK_rel hn fun d hd => consK_rel hn fun x _ hx => consK_rel hn fun y _ hy => nilK_rel hn (consK_rel hn fun _ _ _ => consK_rel hn fun _ _ _ => ?_)
      subst hy
      have hxm := hmem x (by rw [hx]; simp)
      have hym := hmem y (by rw [hx]; simp)
      simp only [htm x hxm, htm y hym]
      refine appendK_relH hn hS (hdd d hd) (fun i hi => hl x hxm i (refs1_refs hi)) (fun i hi => hl y hym i (refs1_refs hi)) fun v hp' hp1' hh => ?_
      have := hK v hp' hp1' (by rw [hd]; exact hh N)
      rw [hd] at this
      exact this
    · rename_i hc
      refine consK_rel hn fun x _ hx => consK_rel hn fun y _ hy => nilK_rel hn (consK_rel hn fun _ _ _ => consK_rel hn fun _ _ _ => ?_)
      subst hy
      have hxm := hmem x (by rw [hx]; simp)
      have hym := hmem y (by rw [hx]; simp)
      simp only [htm x hxm, htm y hym]
      exact copyK_relH hn hS (fun i hi => hl x hxm i (refs1_refs hi)) (fun i hi => hl y hym i (refs1_refs hi)) hK
    · rename_i f hcf
      refine callMK_relH hn (List.map_congr_left fun x hx => htm x (hmem x hx)) hS (fun p hp i hi => ?_) (fun p hp i hi => ?_) hdd hNN hK
      · obtain ⟨x, hx, rfl⟩ := List.mem_map.1 hp
        exact hl x (hmem x hx) i hi
      · obtain ⟨x, hx, rfl⟩ := List.mem_map.1 hp
        exact hl2 (by simp only [isAp, hcf]) x (hmem x hx) i hi
    · exact hn
  · exact hn

theorem mutK_rel (hn : Rel none none) {C : Cfg} {call : Call'} {K : St → Option R} {K' : St → Option R'} (htm : ∀ x ∈ o.op.operands.toList, opv tm x = opv tm' x) (hK : ∀ v hp', (∀ i, hp i ≠ none → hp' i ≠ none) → Rel (K ⟨putTm tm o.dst v, hp'⟩) (K' ⟨putTm tm' o.dst v, hp'⟩)) : Rel (mutK C P N call ⟨tm, hp⟩ o K) (mutK C P N call ⟨tm', hp⟩ o K') :=
  mutK_relH hn htm (fun _ _ => .inl rfl) (fun _ _ => rfl) (fun _ _ => rfl) fun v hp' hp1' hT => by
    have : hp' = hp1' := funext fun i => hT.same i rfl
    subst this
    exact hK v hp' hT.keep
end

section
variable {R : Type} {r : R} {C : Cfg} {P : Program} {N : Nat} {call : Call'} {ops : Array Oper} {o x : Oper} {s : St} {K : St → Option R}

/-- An operation that does not look at memory. -/
theorem gE_free {tm : Nat → PV} {hp hp' : Nat → Option Box} {tm' : Nat → PV} {q : Eff3} (hm : memo P o.op = false) (ht : ∀ t ∈ looks ops o, tm t = tm' t) (h : gE C P N call ops o ⟨tm, hp⟩ = some q) : gE C P N call ops o ⟨tm', hp'⟩ = some q :=
  gE_more (s := ⟨tm, hp⟩) (s' := ⟨tm', hp'⟩) ht (fun h => by rw [hm] at h; cases h) h

theorem gopK_free {tm : Nat → PV} {hp : Nat → Option Box} (hm : memo P o.op = false) (h : gopK C P N call ops o ⟨tm, hp⟩ K = some r) :
    ∃ v nw, gE C P N call ops o ⟨tm, hp⟩ = some (v, [], nw) ∧ dstOk N o.dst = true ∧ absent hp nw = true ∧ (∀ p ∈ nw, o.dst = some p.1) ∧ K ⟨putTm tm o.dst v, addBoxes hp nw⟩ = some r := by
  have hM : isM C P o.op = false := by
    cases hh : isM C P o.op
    · rfl
    · rw [isM_memo hh] at hm; cases hm
  rw [gopK_R (by simp [actM, hM])] at h
  cases e : gE C P N call ops o ⟨tm, hp⟩ with
  | none => rw [e] at h; cases h
  | some q =>
    obtain ⟨v, fz, nw⟩ := q
    obtain ⟨h1, h2⟩ := (gE_facts e).1 hm
    simp only at h1 h2
    subst h1
    rw [e] at h
    obtain ⟨hb, h⟩ := chk_inv h
    simp only [Bool.and_eq_true] at hb
    exact ⟨v, nw, rfl, hb.1, hb.2, h2, h⟩

theorem gopK_free' {tm : Nat → PV} {hp : Nat → Option Box} {v : PV} {nw : List (Nat × Box)} (hm : memo P o.op = false) (e : gE C P N call ops o ⟨tm, hp⟩ = some (v, [], nw)) (hd : dstOk N o.dst = true) (ha : absent hp nw = true) (h : K ⟨putTm tm o.dst v, addBoxes hp nw⟩ = some r) : gopK C P N call ops o ⟨tm, hp⟩ K = some r := by
  have hM : isM C P o.op = false := by
    cases hh : isM C P o.op
    · rfl
    · rw [isM_memo hh] at hm; cases hm
  rw [gopK_R (by simp [actM, hM]), e]
  show chk _ _ = _
  have ha' : absent hp nw = true := ha
  rw [hd, ha']
  exact h

theorem add_get {hp : Nat → Option Box} {nw : List (Nat × Box)} (ha : absent hp nw = true) {i : Nat} (hi : ∀ p ∈ nw, p.1 ≠ i) : addBoxes hp nw i = hp i :=
  (addBoxes_get (absent_spec ha).2).2 i fun b hb => hi _ hb rfl

/-- New boxes of one slot, added to two memories that differ there alone. -/
theorem add_eq {hp hp' : Nat → Option Box} {nw : List (Nat × Box)} (ha : absent hp nw = true) {g : Nat → Option Box} (h1 : ∀ i, (∀ p ∈ nw, p.1 ≠ i) → g i = hp' i) (h2 : ∀ i, (∃ p ∈ nw, p.1 = i) → g i = addBoxes hp nw i) (ha' : absent hp' nw = true) : g = addBoxes hp' nw := by
  funext i
  by_cases h : ∃ p ∈ nw, p.1 = i
  · rw [h2 i h]
    obtain ⟨⟨j, b⟩, hp, rfl⟩ := h
    rw [(addBoxes_get (absent_spec ha).2).1 j b hp, (addBoxes_get (absent_spec ha').2).1 j b hp]
  · have h' : ∀ p ∈ nw, p.1 ≠ i := fun p hp e => h ⟨p, hp, e⟩
    rw [h1 i h', add_get ha' h']

theorem swap_Mx (ap : Apart C P ops x o) (hx : actM C P ops x s.tm = true)
    (h : gopK C P N call ops x s (fun s1 => gopK C P N call ops o s1 K) = some r) : gopK C P N call ops o s (fun s1 => gopK C P N call ops x s1 K) = some r := by
  have hm : memo P o.op = false := ap.mx (by unfold actM at hx; simp only [Bool.and_eq_true] at hx; exact hx.1)
  rw [gopK_M hx] at h
  obtain ⟨tm, hp⟩ := s
  have look : ∀ v, ∀ t ∈ looks ops o, putTm tm x.dst v t = tm t := fun v => putTm_look ap.xo
  have h1 := mutK_relH (P := P) (N := N) (o := x) (tm := tm) (tm' := tm) (hp := hp) (hp1 := hp) (K := fun s1 => gopK C P N call ops o s1 K) (K' := fun _ => none)
    (Rel := fun (a : Option R) (_ : Option R) => a = some r → ∃ v nw, gE C P N call ops o ⟨tm, hp⟩ = some (v, [], nw) ∧ dstOk N o.dst = true ∧ (∀ p ∈ nw, o.dst = some p.1) ∧ absent hp nw = true) (fun h => by cases h) (fun _ _ => rfl) (fun _ _ => .inl rfl) (fun _ _ => rfl) (fun _ _ => rfl) (fun v hp' _ hT h => by
      obtain ⟨u, nw, hu, hd, ha, hn, _⟩ := gopK_free hm h
      refine ⟨u, nw, gE_free hm (look v) hu, hd, hn, absent_of ha fun i b hi => ?_⟩
      cases hh : hp i with
      | none => rfl
      | some c => exact absurd ((absent_spec ha).1 i b hi) (hT.keep i (by rw [hh]; simp))) h
  obtain ⟨v, nw, hv, hd, hn, ha⟩ := h1
  refine gopK_free' hm hv hd ha ?_
  have t2 : ∀ t ∈ looks ops x, tm t = putTm tm o.dst v t := fun t ht => (putTm_look ap.ox t ht).symm
  rw [gopK_M (by rw [← actM_looks t2]; exact hx)]
  refine mutK_relH (P := P) (N := N) (o := x) (tm := tm) (tm' := putTm tm o.dst v) (hp := hp) (hp1 := addBoxes hp nw) (Rel := fun (a b : Option R) => a = some r → b = some r) (fun h => by cases h) (opv_looks t2) (fun i _ => ?_) (fun d hxd => ?_) (fun i hi => (add_get ha fun p hp e => by have := dstOk_lt hd (hn p hp); omega).symm) (fun u hp' hp1' hT h => ?_) h
  · by_cases hi : ∃ p ∈ nw, p.1 = i
    · obtain ⟨⟨j, b⟩, hp1, rfl⟩ := hi
      exact .inr ⟨(absent_spec ha).1 j b hp1, fun _ h => by cases h⟩
    · exact .inl (add_get ha fun p hp e => hi ⟨p, hp, e⟩).symm
  · refine (add_get ha fun p hp e => ?_).symm
    have := hn p hp
    rw [e] at this
    exact ap.ne d hxd this
  · obtain ⟨v', nw', hv', _, ha', _, h'⟩ := gopK_free hm h
    have he := gE_free (hp' := hp) hm (look u) hv'
    rw [hv] at he
    simp only [Option.some.injEq, Prod.mk.injEq, true_and] at he
    obtain ⟨rfl, rfl⟩ := he
    have hh : hp1' = addBoxes hp' nw := by
      refine add_eq ha (fun i hi => ?_) (fun i hi => ?_) ha'
      · exact (hT.same i (add_get ha hi).symm).symm
      · obtain ⟨⟨j, b⟩, hp1, rfl⟩ := hi
        refine (hT.off j (dstOk_lt hd (hn _ hp1)) (fun e => ap.ne j e (hn _ hp1)) (.inr ((absent_spec ha).1 j b hp1))).2
    rw [hh, ← putTm_comm ap.ne]
    exact h'

theorem swap_oM (hw : Has C P o s) (ap : Apart C P ops x o) (ho : actM C P ops o s.tm = true)
    (h : gopK C P N call ops x s (fun s1 => gopK C P N call ops o s1 K) = some r) : gopK C P N call ops o s (fun s1 => gopK C P N call ops x s1 K) = some r := by
  have hm : memo P x.op = false := ap.mo (by unfold actM at ho; simp only [Bool.and_eq_true] at ho; exact ho.1)
  obtain ⟨tm, hp⟩ := s
  obtain ⟨v, nw, hv, hd, ha, hn, h1⟩ := gopK_free hm h
  have t1 : ∀ t ∈ looks ops o, putTm tm x.dst v t = tm t := putTm_look ap.xo
  change gopK C P N call ops o ⟨putTm tm x.dst v, addBoxes hp nw⟩ K = some r at h1
  rw [gopK_M (by rw [actM_looks t1]; exact ho)] at h1
  rw [gopK_M ho]
  have hMo : isM C P o.op = true := by unfold actM at ho; simp only [Bool.and_eq_true] at ho; exact ho.1
  have hlead : ∀ i, Rch o tm hp i → hp i ≠ none := by
    rintro i (⟨y, hy, hi⟩ | ⟨hap, id, c, ⟨y, hy, hi⟩, hc, p, hp1, hk⟩)
    · exact hw.1 y hy i hi
    · exact hw.2 hMo hap y hy id hi c hc p hp1 i hk
  refine mutK_relH (P := P) (N := N) (o := o) (tm := putTm tm x.dst v) (tm' := tm) (hp := addBoxes hp nw) (hp1 := hp) (Rel := fun (a b : Option R) => a = some r → b = some r) (fun h => by cases h) (opv_looks t1) (fun i hi => ?_) (fun d hod => ?_) (fun i hi => add_get ha fun p hp e => by have := dstOk_lt hd (hn p hp); omega) (fun u hp' hp1' hT h => ?_) h1
  · refine .inl (add_get ha fun p hp' e => hlead i hi ?_)
    rw [← e]
    exact (absent_spec ha).1 p.1 p.2 hp'
  · refine add_get ha fun p hp' e => ?_
    have := hn p hp'
    rw [e] at this
    exact ap.ne d this hod
  · have hoff : ∀ p ∈ nw, hp' p.1 = addBoxes hp nw p.1 ∧ hp1' p.1 = none := by
      intro p hp2
      have hno := (absent_spec ha).1 p.1 p.2 hp2
      have h3 := hT.off p.1 (dstOk_lt hd (hn p hp2)) (fun e => ap.ne p.1 (hn p hp2) e) (.inl fun hL => hlead _ hL hno)
      exact ⟨h3.1, h3.2.trans hno⟩
    have ha' : absent hp1' nw = true := absent_of ha fun i b hi => (hoff (i, b) hi).2
    refine gopK_free' hm (gE_free hm (fun t ht => (putTm_look ap.ox t ht).symm) hv) hd ha' ?_
    have hh : hp' = addBoxes hp1' nw := by
      refine add_eq ha (fun i hi => ?_) (fun i hi => ?_) ha'
      · exact hT.same i (add_get ha hi)
      · obtain ⟨p, hp2, rfl⟩ := hi
        exact (hoff p hp2).1
    rw [← putTm_comm ap.ne, ← hh]
    exact h

theorem swap (hw : Has C P o s) (ap : Apart C P ops x o)
    (h : gopK C P N call ops x s (fun s1 => gopK C P N call ops o s1 K) = some r) : gopK C P N call ops o s (fun s1 => gopK C P N call ops x s1 K) = some r := by
  cases hx : actM C P ops x s.tm
  · cases ho : actM C P ops o s.tm
    · exact swap_RR hw ap.xo ap.ne ap.ox hx ho h
    · exact swap_oM hw ap ho h
  · exact swap_Mx ap hx h

theorem isLd_notM (h : isLd o.op = true) : isM C P o.op = false := by
  unfold isLd at h
  split at h
  · rename_i ho; rw [ho]; rfl
  · cases h

/-- A load, or an operation that is not carried out. -/
def Lite (ops : Array Oper) (o : Oper) (tm : Nat → PV) : Prop := isLd o.op = true ∨ verdict ops o tm = some false

theorem Lite_looks {tm tm' : Nat → PV} (h : ∀ t ∈ looks ops o, tm t = tm' t) (hl : Lite ops o tm) : Lite ops o tm' := by
  rcases hl with hl | hl
  · exact .inl hl
  · exact .inr (by rw [← verdict_looks h]; exact hl)

theorem Lite_notM {tm : Nat → PV} (hl : Lite ops o tm) : actM C P ops o tm = false := by
  rcases hl with hl | hl
  · simp [actM, isLd_notM hl]
  · simp [actM, hl]

theorem gE_load {q : Eff3} (hl : Lite ops o s.tm) (h : gE C P N call ops o s = some q) : q.2.1 = [] ∧ q.2.2 = [] := by
  unfold gE at h
  split at h
  · cases h
  · rename_i hv
    have hl : isLd o.op = true := by
      rcases hl with hl | hl
      · exact hl
      · rw [hv] at hl; cases hl
    rw [isLd_notM hl] at h
    have h : effE C P N call o s = some q := h
    unfold isLd at hl
    split at hl
    · rename_i t a ho
      unfold effE effK at h
      rw [ho] at h
      have := loadK_rel (P := P) (f := rd s.hp) (f' := rd s.hp) (g := rda s.hp) (g' := rda s.hp) (t := t) (x := opv s.tm a) (Rel := fun (a b : Option Eff3) => ∀ q, a = some q → q.2.1 = [] ∧ q.2.2 = [])
        (K := fun v => some (v, [], [])) (K' := fun v => some (v, [], [])) (fun _ h => by cases h) (fun _ _ => .inl ⟨rfl, rfl⟩) (fun v q hq => by cases hq; exact ⟨rfl, rfl⟩)
      exact this q h
    · cases hl
  · cases h
    exact ⟨rfl, rfl⟩

theorem Rch_looks {tm tm' : Nat → PV} {hp : Nat → Option Box} (h : ∀ t ∈ looks ops o, tm t = tm' t) {i : Nat} (hi : Rch o tm hp i) : Rch o tm' hp i := by
  have he := opv_looks (ops := ops) (o := o) h
  rcases hi with ⟨y, hy, hi⟩ | ⟨hap, id, c, ⟨y, hy, hi⟩, hc, q⟩
  · exact .inl ⟨y, hy, by rw [← he y hy]; exact hi⟩
  · exact .inr ⟨hap, id, c, ⟨y, hy, by rw [← he y hy]; exact hi⟩, hc, q⟩

theorem rd_eq {hp hp' : Nat → Option Box} {i : Nat} (h : hp' i = hp i) : rd hp' i = rd hp i ∧ rda hp' i = rda hp i := by
  unfold rd rda
  rw [h]
  exact ⟨rfl, rfl⟩

/-- What a load gives. -/
theorem gopK_load {tm : Nat → PV} {hp : Nat → Option Box} (hl : Lite ops o tm) (h : gopK C P N call ops o ⟨tm, hp⟩ K = some r) :
    ∃ v, gE C P N call ops o ⟨tm, hp⟩ = some (v, [], []) ∧ dstOk N o.dst = true ∧ K ⟨putTm tm o.dst v, hp⟩ = some r := by
  rw [gopK_R (Lite_notM hl)] at h
  cases e : gE C P N call ops o ⟨tm, hp⟩ with
  | none => rw [e] at h; cases h
  | some q =>
    obtain ⟨v, fz, nw⟩ := q
    obtain ⟨h1, h2⟩ := gE_load hl e
    simp only at h1 h2
    subst h1
    subst h2
    rw [e] at h
    obtain ⟨hb, h⟩ := chk_inv h
    simp only [Bool.and_eq_true] at hb
    exact ⟨v, rfl, hb.1, h⟩

theorem gopK_load' {tm : Nat → PV} {hp : Nat → Option Box} {v : PV} (hl : Lite ops o tm) (e : gE C P N call ops o ⟨tm, hp⟩ = some (v, [], [])) (hd : dstOk N o.dst = true) (h : K ⟨putTm tm o.dst v, hp⟩ = some r) : gopK C P N call ops o ⟨tm, hp⟩ K = some r := by
  rw [gopK_R (Lite_notM hl), e]
  show chk _ _ = _
  have ha : absent hp [] = true := rfl
  simp only [hd, ha, Bool.and_self]
  exact h

/-- A change of memory and a load that it does not reach. -/
theorem swap_ML (hw : Has C P o s) (xo : ∀ d, x.dst = some d → d ∉ looks ops o) (ne : ∀ d, x.dst = some d → o.dst ≠ some d) (ox : ∀ d, o.dst = some d → d ∉ looks ops x) (hl : Lite ops o s.tm)
    (hfar : ∀ y ∈ o.op.operands.toList, ∀ i ∈ refs (opv s.tm y), ¬ Rch x s.tm s.hp i) (hx : actM C P ops x s.tm = true)
    (h : gopK C P N call ops x s (fun s1 => gopK C P N call ops o s1 K) = some r) : gopK C P N call ops o s (fun s1 => gopK C P N call ops x s1 K) = some r := by
  rw [gopK_M hx] at h
  obtain ⟨tm, hp⟩ := s
  have look : ∀ v, ∀ t ∈ looks ops o, putTm tm x.dst v t = tm t := fun v => putTm_look xo
  have back : ∀ {u : PV} {hp' : Nat → Option Box} {q : Eff3}, (∀ y ∈ o.op.operands.toList, ∀ i ∈ refs (opv tm y), hp' i = hp i) → gE C P N call ops o ⟨putTm tm x.dst u, hp'⟩ = some q → gE C P N call ops o ⟨tm, hp⟩ = some q :=
    fun hh e => gE_more (s := ⟨putTm tm x.dst _, _⟩) (s' := ⟨tm, hp⟩) (look _) (fun _ y hy i hi => .inl (rd_eq (hh y hy i hi))) e
  have h1 := mutK_relH (P := P) (N := N) (o := x) (tm := tm) (tm' := tm) (hp := hp) (hp1 := hp) (K := fun s1 => gopK C P N call ops o s1 K) (K' := fun _ => none)
    (Rel := fun (a : Option R) (_ : Option R) => a = some r → ∃ v, gE C P N call ops o ⟨tm, hp⟩ = some (v, [], []) ∧ dstOk N o.dst = true) (fun h => by cases h) (fun _ _ => rfl) (fun _ _ => .inl rfl) (fun _ _ => rfl) (fun _ _ => rfl) (fun v hp' _ hT h => by
      obtain ⟨u, hu, hd, _⟩ := gopK_load (Lite_looks (fun t ht => (look v t ht).symm) hl) h
      exact ⟨u, back (fun y hy i hi => hT.far i (hfar y hy i hi) (hw.1 y hy i hi)) hu, hd⟩) h
  obtain ⟨v, hv, hd⟩ := h1
  refine gopK_load' hl hv hd ?_
  have t2 : ∀ t ∈ looks ops x, tm t = putTm tm o.dst v t := fun t ht => (putTm_look ox t ht).symm
  rw [gopK_M (by rw [← actM_looks t2]; exact hx)]
  refine mutK_relH (P := P) (N := N) (o := x) (tm := tm) (tm' := putTm tm o.dst v) (hp := hp) (hp1 := hp) (Rel := fun (a b : Option R) => a = some r → b = some r) (fun h => by cases h) (opv_looks t2) (fun _ _ => .inl rfl) (fun _ _ => rfl) (fun _ _ => rfl) (fun u hp' hp1' hT h => ?_) h
  have e1 : hp' = hp1' := funext fun i => hT.same i rfl
  subst e1
  obtain ⟨v', hv', _, h'⟩ := gopK_load (Lite_looks (fun t ht => (look u t ht).symm) hl) h
  have he := back (fun y hy i hi => hT.far i (fun hR => hfar y hy i hi (Rch_looks (fun t ht => (t2 t ht).symm) hR)) (hw.1 y hy i hi)) hv'
  rw [hv] at he
  simp only [Option.some.injEq, Prod.mk.injEq, and_true] at he
  subst he
  rw [← putTm_comm ne]
  exact h'

/-- A load and a change of memory that does not reach it. -/
theorem swap_LM (xo : ∀ d, x.dst = some d → d ∉ looks ops o) (ne : ∀ d, x.dst = some d → o.dst ≠ some d) (ox : ∀ d, o.dst = some d → d ∉ looks ops x) (hl : Lite ops x s.tm)
    (hfar : ∀ y ∈ x.op.operands.toList, ∀ i ∈ refs (opv s.tm y), ¬ Rch o s.tm s.hp i) (ho : actM C P ops o s.tm = true)
    (h : gopK C P N call ops x s (fun s1 => gopK C P N call ops o s1 K) = some r) : gopK C P N call ops o s (fun s1 => gopK C P N call ops x s1 K) = some r := by
  obtain ⟨tm, hp⟩ := s
  obtain ⟨v, hv, hd, h1⟩ := gopK_load hl h
  have t1 : ∀ t ∈ looks ops o, putTm tm x.dst v t = tm t := putTm_look xo
  rw [gopK_M (by rw [actM_looks t1]; exact ho)] at h1
  rw [gopK_M ho]
  refine mutK_relH (P := P) (N := N) (o := o) (tm := putTm tm x.dst v) (tm' := tm) (hp := hp) (hp1 := hp) (Rel := fun (a b : Option R) => a = some r → b = some r) (fun h => by cases h) (opv_looks t1) (fun _ _ => .inl rfl) (fun _ _ => rfl) (fun _ _ => rfl) (fun u hp' hp1' hT h => ?_) h1
  have e1 : hp' = hp1' := funext fun i => hT.same i rfl
  subst e1
  have t2 : ∀ t ∈ looks ops x, tm t = putTm tm o.dst u t := fun t ht => (putTm_look ox t ht).symm
  refine gopK_load' (Lite_looks t2 hl) (gE_more (s := ⟨tm, hp⟩) (s' := ⟨putTm tm o.dst u, hp'⟩) t2 (fun _ y hy i hi => ?_) hv) hd ?_
  · have hi : i ∈ refs (opv tm y) := by rw [opv_looks t2 y hy]; exact hi
    by_cases hn : hp i = none
    · exact .inr ⟨rd_none hn, rda_none hn⟩
    · obtain ⟨h3, h4⟩ := rd_eq (hT.far i (hfar y hy i hi) hn)
      exact .inl ⟨h3.symm, h4.symm⟩
  · rw [← putTm_comm ne]
    exact h

/-- What an operation leaves of slots and boxes. -/
def Keeps (P : Program) (x : Oper) (s s1 : St) : Prop := (∀ t, x.dst ≠ some t → s1.tm t = s.tm t) ∧ (∀ i, s.hp i ≠ none → s1.hp i ≠ none) ∧ (memo P x.op = false → ∀ i, s.hp i ≠ none → s1.hp i = s.hp i)

theorem putTm_keeps {tm : Nat → PV} {d : Option Tmp} {v : PV} {t : Nat} (h : d ≠ some t) : putTm tm d v t = tm t := by
  cases d with
  | none => rfl
  | some d => exact upd_other _ _ (by rintro rfl; exact h rfl)

theorem gopK_keeps {K' : St → Option R} (h : gopK C P N call ops x s K = some r) (hK : ∀ s1, Keeps P x s s1 → K s1 = some r → K' s1 = some r) : gopK C P N call ops x s K' = some r := by
  cases hx : actM C P ops x s.tm
  · rw [gopK_R hx] at h ⊢
    cases ex : gE C P N call ops x s with
    | none => rw [ex] at h; cases h
    | some q =>
      rw [ex] at h
      obtain ⟨hb, h1⟩ := chk_inv h
      simp only [Bool.and_eq_true] at hb
      show chk _ _ = _
      rw [hb.1, hb.2]
      refine hK _ ⟨fun t ht => putTm_keeps ht, fun i hi => after_some hb.2 hi, fun hm i hi => ?_⟩ h1
      show addBoxes (freezeIds s.hp q.2.1) q.2.2 i = s.hp i
      rw [after_old hb.2 hi, ((gE_facts ex).1 hm).1]
      simp
  · rw [gopK_M hx] at h ⊢
    exact mutK_rel (P := P) (N := N) (o := x) (tm := s.tm) (tm' := s.tm) (hp := s.hp) (Rel := fun (a b : Option R) => a = some r → b = some r) (fun h => by cases h) (fun _ _ => rfl) (fun v hp' hh h => hK _ ⟨fun t ht => putTm_keeps ht, hh, fun hm => by
      have hM : isM C P x.op = true := by unfold actM at hx; simp only [Bool.and_eq_true] at hx; exact hx.1
      rw [isM_memo hM] at hm; cases hm⟩ h) h

theorem Has.keeps {s1 : St} (h : Has C P o s) (ap : Apart C P ops x o) (hk : Keeps P x s s1) : Has C P o s1 := by
  have hop : ∀ y ∈ o.op.operands.toList, opv s1.tm y = opv s.tm y := fun y hy => opv_looks (ops := ops) (o := o) (fun t ht => hk.1 t fun hd => ap.xo t hd ht) y hy
  refine ⟨fun y hy i hi => ?_, fun hM hA y hy i hi c hc p hp k hkk => ?_⟩
  · rw [hop y hy] at hi
    exact hk.2.1 i (h.1 y hy i hi)
  · rw [hop y hy] at hi
    have hi0 := h.1 y hy i hi
    rw [hk.2.2 (ap.mo hM) i hi0] at hc
    exact hk.2.1 k (h.2 hM hA y hy i hi c hc p hp k hkk)

/-- An operation that touches none of a row's may be taken first. -/
theorem gops_first : ∀ (l : List Oper) {s : St} {K : St → Option R}, Has C P o s → (∀ x ∈ l, Apart C P ops x o) → gopsK C P N call ops l s (fun s1 => gopK C P N call ops o s1 K) = some r → gopK C P N call ops o s (fun s1 => gopsK C P N call ops l s1 K) = some r
  | [], _, _, _, _, h => h
  | x :: l, s, K, hw, ap, h => by
    refine swap hw (ap x (by simp)) ?_
    refine gopK_keeps (K := fun s1 => gopsK C P N call ops l s1 (fun s2 => gopK C P N call ops o s2 K)) h fun s1 hk h1 => ?_
    exact gops_first l (hw.keeps (ap x (by simp)) hk) (fun y hy => ap y (List.mem_cons_of_mem _ hy)) h1

theorem gops_append : ∀ (l l' : List Oper) {s : St} {K : St → Option R}, gopsK C P N call ops (l ++ l') s K = gopsK C P N call ops l s (fun s1 => gopsK C P N call ops l' s1 K)
  | [], _, _, _ => rfl
  | x :: l, l', s, K => by
    show gopK C P N call ops x s (fun s1 => gopsK C P N call ops (l ++ l') s1 K) = gopK C P N call ops x s (fun s1 => gopsK C P N call ops l s1 _)
    congr 1
    funext s1
    exact gops_append l l'

theorem gops_take {l l' : List Oper} (hw : Has C P o s) (ap : ∀ x ∈ l, Apart C P ops x o) (h : gopsK C P N call ops (l ++ o :: l') s K = some r) : gopK C P N call ops o s (fun s1 => gopsK C P N call ops (l ++ l') s1 K) = some r := by
  rw [gops_append] at h
  have := gops_first l hw ap h
  refine gopK_keeps this fun s1 _ h1 => ?_
  rw [gops_append]
  exact h1
end

end Go.Proofs.Ytaphhfehcbkfkaa.Pv

namespace Go.Proofs.Ytaphhfehcbkfkaa.Pv
open Go.RowKit

section
variable {R : Type} {r : R} {P : Program} {N : Nat} {w0 : World} {X0 : Lend} {Y : Nat → Prop} {β β' : Bt} {s : St} {a : Act} {w w' : World} {o : Oper} {ops : Array Oper} {C : Cfg} {call : Call'} {K : St → Option R}

theorem yielded_of (h : Sim N w0 X0 Y β s a w) {j d : Nat} (hd : (ops[j]?).bind (·.dst) = some d) {v : Value} (ht : s.tm d = .sc v) : yielded ops a.tmps j = match v with | .bool b => some b | _ => none := by
  have hlt : d < N := by
    rcases Nat.lt_or_ge d N with h' | h'
    · exact h'
    · rw [h.tmo d h'] at ht; cases ht
  have hv := h.tms d hlt
  rw [ht] at hv
  have hv := sc_val hv
  have hlt' : d < a.tmps.size := by rw [h.tsz]; exact hlt
  have he : a.tmps[d]? = some v := by
    rw [Array.getElem?_eq_getElem hlt']
    simp [hlt'] at hv
    rw [hv]
  unfold yielded
  rw [hd]
  simp only [Option.bind_some, he]
  cases v <;> rfl

/-- An operation under its guard. -/
theorem gopK_sound (h : Sim N w0 X0 Y β s a w) {G : Glo} (hNG : Env P G w0 X0) (hcall : ∀ f args res, call f args = some res → SoundC G P f args res) {i : Nat} (hi : ops[i]? = some o) (hk : gopK C P N call ops o s K = some r) :
    ∃ s', K s' = some r ∧ ∀ (next : Act → World → Prop) (Q : Exit → Act → World → Prop), (∀ a' w' β', Sim N w0 X0 Y β' s' a' w' → next a' w') → wpOp P ops Q i next a w := by
  rw [gopK_eq] at hk
  have hw : ∀ b, verdict ops o s.tm = some b → Region.wanted o (yielded ops a.tmps) = b := by
    intro b hb
    unfold verdict at hb
    unfold Region.wanted
    cases hg : o.guard with
    | none => rw [hg] at hb; simpa using hb
    | some q =>
      obtain ⟨j, want⟩ := q
      rw [hg] at hb
      simp only at hb ⊢
      cases hd : (ops[j]?).bind (·.dst) with
      | none => rw [hd] at hb; cases hb
      | some d =>
        rw [hd] at hb
        simp only at hb
        split at hb
        · rename_i b' ht
          rw [yielded_of h hd ht]
          simp at hb
          rw [← hb]
          cases b' <;> cases want <;> rfl
        · rename_i ht
          rw [yielded_of h hd ht]
          simp at hb
          rw [hb]
          rfl
        · cases hb
  split at hk
  · cases hk
  · rename_i hv
    obtain ⟨s', hs', hn⟩ := popK_sound h hNG hcall hk
    refine ⟨s', hs', fun next Q hnext => ?_⟩
    unfold wpOp
    rw [hi]
    simp only [hw _ hv, if_true]
    exact .inl (hn next Q hnext)
  · rename_i hv
    obtain ⟨hd, hk⟩ := chk_inv hk
    refine ⟨_, hk, fun next Q hnext => ?_⟩
    unfold wpOp
    rw [hi]
    simp only [hw _ hv]
    refine hnext _ _ β (h.put hd (TRep.sc _) (by simp [refs, refs1, refsC]))

theorem wpOps_sound {G : Glo} (hNG : Env P G w0 X0) (hcall : ∀ f args res, call f args = some res → SoundC G P f args res) {Q : Exit → Act → World → Prop} (hQ : ∀ s' a' w' β', K s' = some r → Sim N w0 X0 Y β' s' a' w' → Q .normal a' w') :
    ∀ (l : List Nat) (os : List Oper), l.length = os.length → (∀ (k i : Nat), l[k]? = some i → ops[i]? = os[k]?) → ∀ {s : St} {a : Act} {w : World} {β : Bt}, Sim N w0 X0 Y β s a w → gopsK C P N call ops os s K = some r → wpOps P ops Q l a w
  | [], [], _, _, s, a, w, β, h, hk => by
    show Q .normal a w
    exact hQ s a w β hk h
  | [], _ :: _, hl, _, _, _, _, _, _, _ => by cases hl
  | _ :: _, [], hl, _, _, _, _, _, _, _ => by cases hl
  | i :: l, o :: os, hl, hi, s, a, w, β, h, hk => by
    rw [wpOps_cons]
    obtain ⟨s', hs', hn⟩ := gopK_sound h hNG hcall (by simpa using hi 0 i rfl) hk
    exact hn _ _ fun a' w' β' h' => wpOps_sound hNG hcall hQ l os (by simpa using hl) (fun k j hj => by simpa using hi (k + 1) j (by simpa using hj)) h' hs'

theorem Sim.drew (h : Sim N w0 X0 Y β s a w) : Sim N w0 X0 Y β s a { w with drawn := w.drawn + 1 } := by
  have := h.stepR (d := none) (v := .top) (nw := []) (val := undef) (w' := { w with drawn := w.drawn + 1 }) (β' := β) rfl rfl
    ⟨rfl, rfl, rfl, ⟨Nat.le_refl _, fun _ _ _ => rfl, fun _ _ => Nat.le_refl _⟩, fun _ _ => rfl, by simp, by simp, by simp, by simp, by simp, .top _, by simp [refs, refs1, refsC]⟩
  exact this

/-- A region in its text's order. -/
theorem region_plain (h : Sim N w0 X0 Y β s a w) {G : Glo} (hNG : Env P G w0 X0) (hcall : ∀ f args res, call f args = some res → SoundC G P f args res) {id : Nat} {Q : Exit → Act → World → Prop}
    (hk : gopsK C P N call ops ops.toList s K = some r) (hQ : ∀ s' a' w' β', K s' = some r → Sim N w0 X0 Y β' s' a' w' → Q .normal a' w') : (Code.region id ops false).wp P Q a w := by
  refine wp_region (wpOps_sound hNG hcall hQ (List.range ops.size) ops.toList (by simp) (fun k i hi => ?_) h hk)
  rw [List.getElem?_range] at hi
  · simp at hi; subst hi; simp
  · rcases Nat.lt_or_ge k ops.size with h' | h'
    · exact h'
    · rw [List.getElem?_eq_none (by simpa using h')] at hi; cases hi

/- A region that draws its order. -/
def pend (n : Nat) (listed : Array Bool) : List Nat := (List.range n).filter fun i => !listed.getD i true

def Fall (ops : Array Oper) (listed : Array Bool) (o : Oper) : Prop := ∀ e ∈ o.after, Region.binds .any e = true → listed.getD e.on false = true

theorem testBit_or {a b j : Nat} : (a ||| b).testBit j = (a.testBit j || b.testBit j) := Nat.testBit_or a b j

theorem fold_bits {acc : List Nat} {j : Nat} : ∀ (es : List Edge) (v : Nat), (es.foldl (fun s e => bif Region.binds .any e then s ||| 2 ^ e.on ||| acc.getD e.on 0 else s) v).testBit j = true →
    v.testBit j = true ∨ ∃ e ∈ es, Region.binds .any e = true ∧ (j = e.on ∨ (acc.getD e.on 0).testBit j = true)
  | [], v, h => .inl h
  | e :: es, v, h => by
    rcases fold_bits es _ h with h | ⟨e', he', h⟩
    · cases hb : Region.binds .any e <;> simp only [hb] at h
      · exact .inl h
      · simp only [cond_true, Nat.testBit_or, Bool.or_eq_true] at h
        rcases h with (h | h) | h
        · exact .inl h
        · refine .inr ⟨e, by simp, hb, .inl ?_⟩
          rw [Nat.testBit_two_pow] at h
          exact (of_decide_eq_true h).symm
        · exact .inr ⟨e, by simp, hb, .inr h⟩
    · exact .inr ⟨e', by simp [he'], h⟩

theorem befores_spec {listed : Array Bool} (hc : ∀ (j : Nat) oj, ops[j]? = some oj → listed.getD j false = true → Fall ops listed oj) :
    ∀ (rest done : List Oper) (acc : List Nat), ops.toList = done ++ rest → acc.length = done.length →
      (∀ (k : Nat) o, done[k]? = some o → Fall ops listed o → ∀ j, (acc.getD k 0).testBit j = true → listed.getD j false = true) →
      ∀ (k : Nat) o, ops[k]? = some o → Fall ops listed o → ∀ j, ((befores rest acc).getD k 0).testBit j = true → listed.getD j false = true
  | [], done, acc, he, _, h, k, o, ho, hf, j, hj => by
    refine h k o ?_ hf j hj
    rw [List.append_nil] at he
    rw [← he]
    simpa using ho
  | o' :: rest, done, acc, he, hl, h, k, o, ho, hf, j, hj => by
    refine befores_spec hc rest (done ++ [o']) _ (by rw [he]; simp) (by simp [hl]) ?_ k o ho hf j hj
    intro k o ho hf j hj
    rcases Nat.lt_trichotomy k done.length with hlt | heq | hgt
    · rw [List.getElem?_append_left hlt] at ho
      rw [List.getD_eq_getElem?_getD, List.getElem?_append_left (by omega), ← List.getD_eq_getElem?_getD] at hj
      exact h k o ho hf j hj
    · subst heq
      simp at ho
      subst ho
      rw [← hl] at hj
      simp only [List.getD_eq_getElem?_getD, List.getElem?_append_right (Nat.le_refl _), Nat.sub_self, List.getElem?_cons_zero, Option.getD_some] at hj
      have hj : (o'.after.toList.foldl (fun s e => bif Region.binds .any e then s ||| 2 ^ e.on ||| acc.getD e.on 0 else s) 0).testBit j = true := by
        simpa only [List.getD_eq_getElem?_getD] using hj
      rcases fold_bits _ _ hj with h0 | ⟨e, hm, hb, h1⟩
      · simp at h0
      · have hl1 := hf e (by simpa using hm) hb
        rcases h1 with h1 | h1
        · rw [h1]; exact hl1
        · cases hd : done[e.on]? with
          | none =>
            have : acc.getD e.on 0 = 0 := by
              rw [List.getD_eq_getElem?_getD, List.getElem?_eq_none (by rw [hl]; exact List.getElem?_eq_none_iff.1 hd)]
              rfl
            rw [this] at h1
            simp at h1
          | some oe =>
            have hoe : ops[e.on]? = some oe := by
              rw [← Array.getElem?_toList, he, List.getElem?_append_left (by
                rcases Nat.lt_or_ge e.on done.length with h' | h'
                · exact h'
                · rw [List.getElem?_eq_none h'] at hd; cases hd)]
              exact hd
            exact h e.on oe hd (hc e.on oe hoe hl1) j h1
    · rw [List.getElem?_eq_none (by simp; omega)] at ho
      cases ho

theorem regOkGo_spec {bs : List Nat} : ∀ (l : List Oper) (n : Nat), regOkGo C P ops bs l n = true → ∀ (k : Nat) o, l[k]? = some o → ∀ (j : Nat) x, ops[j]? = some x → j < n + k → clash C P ops x o = true → (bs.getD (n + k) 0).testBit j = true
  | [], _, _, k, o, ho, _, _, _, _, _ => by simp at ho
  | o' :: l, n, h, k, o, ho, j, x, hx, hj, hcl => by
    simp only [regOkGo, Bool.and_eq_true] at h
    cases k with
    | zero =>
      simp at ho
      subst ho
      have := List.all_eq_true.1 h.1 (x, j) (by
        rw [List.mem_zipIdx_iff_getElem?]
        simpa using hx)
      simp only [hcl, Bool.not_true, Bool.or_false, Bool.or_eq_true, Bool.not_eq_true'] at this
      rcases this with h' | h'
      · have : Nat.blt j n = true := Nat.ble_eq_true_of_le (by omega)
        rw [this] at h'; cases h'
      · exact h'
    | succ k =>
      have := regOkGo_spec l (n + 1) h.2 k o (by simpa using ho) j x hx (by omega) hcl
      rwa [show n + (k + 1) = n + 1 + k by omega]

theorem mem_pend {n i : Nat} {listed : Array Bool} : i ∈ pend n listed ↔ i < n ∧ listed.getD i true = false := by
  unfold pend
  simp [List.mem_filter]

/-- Those that wait, in the text's order, with one taken out. -/
theorem pend_split {n i : Nat} {listed : Array Bool} (hi : i ∈ pend n listed) (hsz : listed.size = n) : ∃ l1 l2, pend n listed = l1 ++ i :: l2 ∧ pend n (listed.setIfInBounds i true) = l1 ++ l2 ∧ ∀ j ∈ l1, j < i := by
  obtain ⟨hlt, hun⟩ := mem_pend.1 hi
  have hr : List.range n = List.range i ++ i :: (List.range (n - i - 1)).map (i + 1 + ·) := by
    conv => lhs; rw [show n = i + (1 + (n - i - 1)) by omega]
    rw [List.range_add, List.range_add]
    simp [Nat.add_assoc]
  refine ⟨(List.range i).filter fun i => !listed.getD i true, ((List.range (n - i - 1)).map (i + 1 + ·)).filter fun i => !listed.getD i true, ?_, ?_, fun j hj => ?_⟩
  · unfold pend
    rw [hr, List.filter_append, List.filter_cons_of_pos (by rw [hun]; rfl)]
  · unfold pend
    rw [hr, List.filter_append, List.filter_cons_of_neg (by simp [hsz, hlt])]
    congr 1
    · refine List.filter_congr fun j hj => ?_
      rw [getD_set_ne true (by have := List.mem_range.1 hj; omega)]
    · refine List.filter_congr fun j hj => ?_
      obtain ⟨k, _, rfl⟩ := List.mem_map.1 hj
      rw [getD_set_ne true (by omega)]
  · exact List.mem_range.1 (List.mem_filter.1 hj).1

theorem has_of (h : Sim N w0 X0 Y β s a w) (o : Oper) : Has C P o s := by
  refine ⟨fun y _ i hi => opv_refs h y i hi, fun _ _ y _ i hi c hc p hp k hk => h.wfB i c hc p hp k hk⟩

/-- Nobody is ready: nobody waits. -/
theorem pend_done (hok1 : (ops.toList.zipIdx.all fun q => q.1.after.toList.all fun e => !Region.binds .any e || Nat.blt e.on q.2) = true) {listed : Array Bool} (inv : HeadInv .any ops ops.size listed) (hr : Region.ready .any ops listed = []) : pend ops.size listed = [] := by
  cases hp : pend ops.size listed with
  | nil => rfl
  | cons i l =>
    exfalso
    have hi : i ∈ pend ops.size listed := by rw [hp]; simp
    obtain ⟨hlt, hun⟩ := mem_pend.1 hi
    obtain ⟨l1, l2, h1, _, h3⟩ := pend_split hi inv.size
    have hl1 : l1 = [] := by
      cases l1 with
      | nil => rfl
      | cons j l1 =>
        rw [hp] at h1
        simp at h1
        have := h3 j (by simp)
        omega
    subst hl1
    have hmin : ∀ j, j < i → listed.getD j false = true := by
      intro j hj
      cases hh : listed.getD j false with
      | true => rfl
      | false =>
        have : j ∈ pend ops.size listed := mem_pend.2 ⟨by omega, getD_in (by rw [inv.size]; omega) hh⟩
        -- the list of those that wait is sorted
        have hs : (pend ops.size listed).Pairwise (· < ·) := List.Pairwise.filter _ List.pairwise_lt_range
        rw [h1] at this hs
        simp at this
        rcases this with e | e
        · omega
        · have := (List.pairwise_cons.1 hs).1 j e
          omega
    have : i ∈ Region.ready .any ops listed := by
      refine mem_ready.2 ⟨hun, ops[i], Array.getElem?_eq_getElem hlt, fun e he hb => hmin _ ?_⟩
      have := List.all_eq_true.1 hok1 (ops[i], i) (by
        rw [List.mem_zipIdx_iff_getElem?]
        simp [hlt])
      have := List.all_eq_true.1 this e (Array.mem_toList_iff.2 he)
      simp only [hb, Bool.not_true, Bool.false_or] at this
      exact Nat.lt_of_succ_le (Nat.le_of_ble_eq_true this)
    rw [hr] at this
    simp at this

theorem wpAny_sound' {G : Glo} (hNG : Env P G w0 X0) (hcall : ∀ f args res, call f args = some res → SoundC G P f args res) (hok : regOk C P ops = true) {Q : Exit → Act → World → Prop} (hQ : ∀ s' a' w' β', K s' = some r → Sim N w0 X0 Y β' s' a' w' → Q .normal a' w') :
    ∀ (fuel : Nat) {listed : Array Bool} {s : St} {a : Act} {w : World} {β : Bt}, HeadInv .any ops ops.size listed → (pend ops.size listed).length = fuel → Sim N w0 X0 Y β s a w → gopsK C P N call ops ((pend ops.size listed).filterMap (ops[·]?)) s K = some r → wpAny P .any ops Q fuel listed a w := by
  unfold regOk at hok
  simp only [Bool.and_eq_true] at hok
  obtain ⟨hok1, hok2⟩ := hok
  intro fuel
  induction fuel with
  | zero =>
    intro listed s a w β inv hf h hk
    have hp := List.eq_nil_of_length_eq_zero hf
    rw [hp] at hk
    refine ⟨?_, hQ s a w β hk h⟩
    cases hr : Region.ready .any ops listed with
    | nil => rfl
    | cons i l =>
      exfalso
      have hi : i ∈ Region.ready .any ops listed := by rw [hr]; simp
      obtain ⟨hun, o, ho, _⟩ := mem_ready.1 hi
      have : i ∈ pend ops.size listed := mem_pend.2 ⟨(Array.getElem?_eq_some_iff.1 ho).1, hun⟩
      rw [hp] at this
      simp at this
  | succ fuel ih =>
    intro listed s a w β inv hf h hk
    refine ⟨fun hr => ?_, fun i hi => ?_⟩
    · rw [pend_done hok1 inv hr] at hf
      cases hf
    · obtain ⟨hun, o, ho, hall⟩ := mem_ready.1 hi
      have hlt : i < ops.size := (Array.getElem?_eq_some_iff.1 ho).1
      obtain ⟨l1, l2, h1, h2, h3⟩ := pend_split (mem_pend.2 ⟨hlt, hun⟩) inv.size
      rw [h1, List.filterMap_append, List.filterMap_cons_some ho] at hk
      have hap : ∀ x ∈ l1.filterMap (ops[·]?), Apart C P ops x o := by
        intro x hx
        obtain ⟨j, hj, hxj⟩ := List.mem_filterMap.1 hx
        refine apart_of ?_
        cases hcl : clash C P ops x o with
        | false => rfl
        | true =>
          exfalso
          have hbit := regOkGo_spec ops.toList 0 hok2 i o (by simpa using ho) j x hxj (by have := h3 j hj; omega) hcl
          rw [Nat.zero_add] at hbit
          have hjl := befores_spec (listed := listed) (fun j oj hj hl => inv.closed j oj hj hl) ops.toList [] [] (by simp) rfl (by simp) i o ho hall j hbit
          have : j ∈ pend ops.size listed := by rw [h1]; simp [hj]
          have := getD_both (mem_pend.1 this).2
          rw [hjl] at this
          cases this
      obtain ⟨s', hs', hn⟩ := gopK_sound h hNG hcall ho (gops_take (has_of h o) hap hk)
      refine hn _ _ fun a' w' β' h' => ih (inv.set hi hlt) ?_ h' ?_
      · rw [h2]; rw [h1] at hf; simp at hf ⊢; omega
      · rw [h2, List.filterMap_append]; exact hs'

/-- A region that draws its order. -/
theorem region_drawn (h : Sim N w0 X0 Y β s a w) {G : Glo} (hNG : Env P G w0 X0) (hcall : ∀ f args res, call f args = some res → SoundC G P f args res) (hm : P.follows .mixedOrders = true) (hok : regOk C P ops = true) {id : Nat} {Q : Exit → Act → World → Prop}
    (hk : gopsK C P N call ops ops.toList s K = some r) (hQ : ∀ s' a' w' β', K s' = some r → Sim N w0 X0 Y β' s' a' w' → Q .normal a' w') : (Code.region id ops true).wp P Q a w := by
  have hp : pend ops.size (Array.replicate ops.size false) = List.range ops.size := by
    unfold pend
    refine List.filter_eq_self.2 fun i hi => ?_
    have := List.mem_range.1 hi
    simp [this]
  refine wp_region_any hm (wpAny_sound' (C := C) hNG hcall hok hQ ops.size ⟨by simp, fun j oj _ hl => (by rw [getD_replicate_false] at hl; cases hl), fun t ht ht' => by omega⟩ (by rw [hp]; simp) h.drew ?_)
  rw [hp]
  have : (List.range ops.size).filterMap (ops[·]?) = ops.toList := by
    refine List.ext_getElem? fun k => ?_
    have : ∀ (n : Nat), n ≤ ops.size → (List.range n).filterMap (ops[·]?) = ops.toList.take n := by
      intro n
      induction n with
      | zero => intro _; rfl
      | succ n ih =>
        intro hn
        rw [List.range_succ, List.filterMap_append, ih (by omega), List.take_add_one]
        congr 1
        have : ops[n]? = some ops[n] := Array.getElem?_eq_getElem (by omega)
        simp [this]
    rw [this ops.size (Nat.le_refl _)]
    congr 1
    exact List.take_of_length_le (by simp)
  rw [this]
  exact hk
end

end Go.Proofs.Ytaphhfehcbkfkaa.Pv
