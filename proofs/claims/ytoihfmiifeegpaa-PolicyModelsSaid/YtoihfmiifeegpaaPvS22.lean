/-
  The interpreter's parts stand in any relation in which their continuations stand (their free theorems).
-/
import Derived.Test.YtoihfmiifeegpaaPvS21
namespace Go.Proofs.Ytoihfmiifeegpaa.Pv

section
variable {R R' : Type} {Rel : Option R → Option R' → Prop}

theorem intK_rel (hn : Rel none none) {k : IntKind} {p : PV} {K : Int → Option R} {K' : Int → Option R'} (hK : ∀ n, Rel (K n) (K' n)) : Rel (intK k p K) (intK k p K') := by
  unfold intK; split
  · split <;> first | exact hK _ | exact hn
  · exact hn
theorem anyIntK_rel (hn : Rel none none) {p : PV} {K : IntKind → Int → Option R} {K' : IntKind → Int → Option R'} (hK : ∀ k n, Rel (K k n) (K' k n)) : Rel (anyIntK p K) (anyIntK p K') := by
  unfold anyIntK; split <;> first | exact hK _ _ | exact hn
theorem boolK_rel (hn : Rel none none) {p : PV} {K : Bool → Option R} {K' : Bool → Option R'} (hK : ∀ n, Rel (K n) (K' n)) : Rel (boolK p K) (boolK p K') := by
  unfold boolK; split <;> first | exact hK _ | exact hn
theorem strK_rel (hn : Rel none none) {p : PV} {K : ByteArray → Option R} {K' : ByteArray → Option R'} (hK : ∀ n, Rel (K n) (K' n)) : Rel (strK p K) (strK p K') := by
  unfold strK; split <;> first | exact hK _ | exact hn
theorem lsK_rel (hn : Rel none none) {es : Nat} {p : PV} {K : Bool → Nat → List PV → Option R} {K' : Bool → Nat → List PV → Option R'} (hK : ∀ z n c, Rel (K z n c) (K' z n c)) : Rel (lsK es p K) (lsK es p K') := by
  unfold lsK; split
  · rename_i es' _ _
    cases Nat.beq es' es
    · exact hn
    · exact hK _ _ _
  · exact hK _ _ _
  · exact hn
theorem fsK_rel (hn : Rel none none) {es : Nat} {p : PV} {K : PV → Option R} {K' : PV → Option R'} (hK : ∀ p, Rel (K p) (K' p)) : Rel (fsK es p K) (fsK es p K') := by
  unfold fsK; split
  · rename_i es' _ _
    cases Nat.beq es' es
    · exact hn
    · exact hK _
  · exact lsK_rel hn fun _ _ _ => hK _
theorem owK_rel (hn : Rel none none) {es : Nat} {p : PV} {K : Nat → List PV → Option R} {K' : Nat → List PV → Option R'} (hK : ∀ n c, Rel (K n c) (K' n c)) : Rel (owK es p K) (owK es p K') := by
  unfold owK; split
  · rename_i es' _ _
    cases Nat.beq es' es
    · exact hn
    · exact hK _ _
  · exact hn
theorem chk_rel (hn : Rel none none) {b : Bool} {K : Option R} {K' : Option R'} (hK : b = true → Rel K K') : Rel (chk b K) (chk b K') := by
  cases b
  · exact hn
  · exact hK rfl
theorem brK_rel {b : Bool} {x y : Option R} {x' y' : Option R'} (hx : Rel x x') (hy : Rel y y') : Rel (brK b x y) (brK b x' y') := by
  cases b
  · exact hy
  · exact hx
theorem optK_rel (hn : Rel none none) {α : Type} {o : Option α} {K : α → Option R} {K' : α → Option R'} (hK : ∀ a, o = some a → Rel (K a) (K' a)) : Rel (optK o K) (optK o K') := by
  cases o
  · exact hn
  · exact hK _ rfl
theorem consK_rel (hn : Rel none none) {α : Type} {l : List α} {K : α → List α → Option R} {K' : α → List α → Option R'} (hK : ∀ a r, l = a :: r → Rel (K a r) (K' a r)) : Rel (consK l K) (consK l K') := by
  cases l
  · exact hn
  · exact hK _ _ rfl
theorem nilK_rel (hn : Rel none none) {α : Type} {l : List α} {K : Option R} {K' : Option R'} (hK : Rel K K') : Rel (nilK l K) (nilK l K') := by
  cases l
  · exact hK
  · exact hn
theorem aggK_rel (hn : Rel none none) {p : PV} {K : List PV → Option R} {K' : List PV → Option R'} (hK : ∀ c, p = .agg c → Rel (K c) (K' c)) : Rel (aggK p K) (aggK p K') := by
  unfold aggK; split
  · exact hK _ rfl
  · exact hn
theorem pboxK_rel (hn : Rel none none) {p : PV} {K : List PV → Option R} {K' : List PV → Option R'} (hK : ∀ c, Rel (K c) (K' c)) : Rel (pboxK p K) (pboxK p K') := by
  unfold pboxK; split
  · exact hK _
  · exact hn
theorem callK_rel (hn : Rel none none) {r : Option Res} {K : List PV → List (List PV) → Option R} {K' : List PV → List (List PV) → Option R'} (hK : ∀ v o, Rel (K v o) (K' v o)) : Rel (callK r K) (callK r K') := by
  unfold callK; split
  · exact hK _ _
  · exact hn
theorem tcK_rel (hn : Rel none none) {t : CT} {p : PV} {K : PV → Option R} {K' : PV → Option R'} (hK : ∀ p, Rel (K p) (K' p)) : Rel (tcK t p K) (tcK t p K') := by
  unfold tcK; split
  · exact intK_rel hn fun _ => hK _
  · exact boolK_rel hn fun _ => hK _
  · exact strK_rel hn fun _ => hK _
  · exact lsK_rel hn fun _ _ _ => hK _
  · exact hn
theorem fcK_rel (hn : Rel none none) {t : CT} {p : PV} {K : PV → Option R} {K' : PV → Option R'} (hK : ∀ p, Rel (K p) (K' p)) : Rel (fcK t p K) (fcK t p K') := by
  unfold fcK; split
  · exact fsK_rel hn hK
  · exact tcK_rel hn hK
theorem tcsK_rel (hn : Rel none none) : ∀ {ts : List CT} {cells : List PV} {off : Nat} {K : List PV → Option R} {K' : List PV → Option R'}, (∀ c, Rel (K c) (K' c)) → Rel (tcsK ts cells off K) (tcsK ts cells off K')
  | [], _, _, _, _, hK => hK _
  | _ :: _, _, _, _, _, hK => tcK_rel hn fun _ => tcsK_rel hn fun _ => hK _
theorem fcsK_rel (hn : Rel none none) : ∀ {ts : List CT} {cells : List PV} {off : Nat} {K : List PV → Option R} {K' : List PV → Option R'}, (∀ c, Rel (K c) (K' c)) → Rel (fcsK ts cells off K) (fcsK ts cells off K')
  | [], _, _, _, _, hK => hK _
  | _ :: _, _, _, _, _, hK => fcK_rel hn fun _ => fcsK_rel hn fun _ => hK _
theorem mkV_rel (hn : Rel none none) {g : Bool} {cells : List PV} {K : PV → Option R} {K' : PV → Option R'} (hK : ∀ p, Rel (K p) (K' p)) : Rel (mkV g cells K) (mkV g cells K') := by
  cases g
  · exact consK_rel hn fun _ _ _ => nilK_rel hn (hK _)
  · exact hK _
theorem cvK_rel (hn : Rel none none) {P : Program} {t : TypeId} {v : Value} {K : PV → Option R} {K' : PV → Option R'} (hK : ∀ p, refs p = [] → Rel (K p) (K' p)) (hK' : ∀ c, Rel (K (.agg c)) (K' (.agg c))) : Rel (cvK P t v K) (cvK P t v K') := by
  unfold cvK; split
  · exact chk_rel hn fun _ => tcsK_rel hn fun _ => hK' _
  · split
    · exact hK _ rfl
    · exact hn
  · exact hK _ rfl

theorem cmpK_rel (hn : Rel none none) {op : BinOp} {x y : Int} {K : Bool → Option R} {K' : Bool → Option R'} (hK : ∀ n, Rel (K n) (K' n)) : Rel (cmpK op x y K) (cmpK op x y K') := by
  unfold cmpK; split <;> first | exact hK _ | exact hn
theorem intOpK_rel (hn : Rel none none) {op : BinOp} {k : IntKind} {x y : Int} {K : PV → Option R} {K' : PV → Option R'} (hK : ∀ n, Rel (K n) (K' n)) : Rel (intOpK op k x y K) (intOpK op k x y K') := by
  unfold intOpK; split <;> first | exact hK _ | exact chk_rel hn fun _ => hK _ | exact cmpK_rel hn fun _ => hK _
theorem strOpK_rel (hn : Rel none none) {op : BinOp} {x y : ByteArray} {K : PV → Option R} {K' : PV → Option R'} (hK : ∀ n, Rel (K n) (K' n)) : Rel (strOpK op x y K) (strOpK op x y K') := by
  unfold strOpK; split <;> first | exact hK _ | exact chk_rel hn fun _ => hK _ | exact hn
theorem nilQK_rel (hn : Rel none none) {e : Bool} {p : PV} {K : PV → Option R} {K' : PV → Option R'} (hK : ∀ n, Rel (K n) (K' n)) : Rel (nilQK e p K) (nilQK e p K') := by
  unfold nilQK; split <;> first | exact hK _ | exact brK_rel (hK _) (brK_rel (hK _) (hK _)) | exact brK_rel (hK _) (hK _) | exact hn
theorem eqsK_rel (hn : Rel none none) : ∀ {ts : List CT} {ps qs : List PV} {K : Bool → Option R} {K' : Bool → Option R'}, (∀ b, Rel (K b) (K' b)) → Rel (eqsK ts ps qs K) (eqsK ts ps qs K') := by
  intro ts
  induction ts with
  | nil =>
    intro ps qs K K' hK
    cases ps <;> cases qs <;> first | exact hK _ | exact hn
  | cons t ts ih =>
    intro ps qs K K' hK
    cases ps with
    | nil => cases t <;> cases qs <;> exact hn
    | cons p ps =>
      cases qs with
      | nil => cases t <;> exact hn
      | cons q qs =>
        cases t
        · exact intK_rel hn fun _ => intK_rel hn fun _ => ih fun _ => hK _
        · exact boolK_rel hn fun _ => boolK_rel hn fun _ => ih fun _ => hK _
        · exact strK_rel hn fun _ => strK_rel hn fun _ => ih fun _ => hK _
        · exact hn
        · exact hn
theorem binK_rel (hn : Rel none none) {P : Program} {op : BinOp} {t : TypeId} {x y : PV} {K : PV → Option R} {K' : PV → Option R'} (hK : ∀ p, Rel (K p) (K' p)) : Rel (binK P op t x y K) (binK P op t x y K') := by
  unfold binK; split
  · split
    · exact intK_rel hn fun _ => anyIntK_rel hn fun _ _ => chk_rel hn fun _ => hK _
    · exact intK_rel hn fun _ => anyIntK_rel hn fun _ _ => chk_rel hn fun _ => hK _
    · exact intK_rel hn fun _ => intK_rel hn fun _ => intOpK_rel hn hK
  · exact strK_rel hn fun _ => strK_rel hn fun _ => strOpK_rel hn hK
  · split
    · exact boolK_rel hn fun _ => boolK_rel hn fun _ => hK _
    · exact boolK_rel hn fun _ => boolK_rel hn fun _ => hK _
    · exact hn
  · split
    · exact nilQK_rel hn fun _ => hK _
    · exact nilQK_rel hn fun _ => hK _
    · exact hn
  · exact hn
theorem binAnyK_rel (hn : Rel none none) {P : Program} {op : BinOp} {t : TypeId} {x y : PV} {K : PV → Option R} {K' : PV → Option R'} (hK : ∀ p, Rel (K p) (K' p)) : Rel (binAnyK P op t x y K) (binAnyK P op t x y K') := by
  unfold binAnyK; split
  · split
    · exact chk_rel hn fun _ => aggK_rel hn fun _ _ => aggK_rel hn fun _ _ => eqsK_rel hn fun _ => hK _
    · exact chk_rel hn fun _ => aggK_rel hn fun _ _ => aggK_rel hn fun _ _ => eqsK_rel hn fun _ => hK _
    · exact hn
  · exact binK_rel hn hK
theorem unK_rel (hn : Rel none none) {op : UnOp} {x : PV} {K : PV → Option R} {K' : PV → Option R'} (hK : ∀ p, Rel (K p) (K' p)) : Rel (unK op x K) (unK op x K') := by
  unfold unK; split <;> first | exact boolK_rel hn fun _ => hK _ | exact anyIntK_rel hn fun _ _ => hK _ | exact hn
theorem boundK_rel (hn : Rel none none) {p : Option PV} {d : Nat} {K : Nat → Option R} {K' : Nat → Option R'} (hK : ∀ n, Rel (K n) (K' n)) : Rel (boundK p d K) (boundK p d K') := by
  unfold boundK; split
  · exact hK _
  · exact anyIntK_rel hn fun _ _ => chk_rel hn fun _ => hK _
theorem addrK_rel (hn : Rel none none) {x : PV} {d : Nat} {K : PV → Option R} {K' : PV → Option R'} (hK : ∀ n, Rel (K n) (K' n)) : Rel (addrK x d K) (addrK x d K') := by
  unfold addrK; split <;> first | exact hK _ | exact hn
theorem indexAddrK_rel (hn : Rel none none) {P : Program} {t : TypeId} {x : PV} {i : Int} {K : PV → Option R} {K' : PV → Option R'} (hK : ∀ p, Rel (K p) (K' p)) : Rel (indexAddrK P t x i K) (indexAddrK P t x i K') := by
  unfold indexAddrK; split
  · exact chk_rel hn fun _ => chk_rel hn fun _ => addrK_rel hn hK
  · refine chk_rel hn fun _ => ?_
    split
    · exact chk_rel hn fun _ => chk_rel hn fun _ => hK _
    · exact lsK_rel hn fun _ _ _ => chk_rel hn fun _ => hK _
  · exact hn
theorem fillK_rel (hn : Rel none none) {place : Nat → Option (Nat × Nat)} : ∀ {ps : List (Nat × PV)} {cells : List PV} {K : List PV → Option R} {K' : List PV → Option R'}, (∀ c, Rel (K c) (K' c)) → Rel (fillK place ps cells K) (fillK place ps cells K')
  | [], _, _, _, hK => hK _
  | (_, _) :: _, _, _, _, hK => optK_rel hn fun _ _ => chk_rel hn fun _ => fillK_rel hn hK
theorem zcellsK_rel (hn : Rel none none) {P : Program} {t : TypeId} {K : List PV → Option R} {K' : List PV → Option R'} (hK : ∀ p, Rel (K p) (K' p)) : Rel (zcellsK P t K) (zcellsK P t K') :=
  optK_rel hn fun _ _ => chk_rel hn fun _ => tcsK_rel hn hK
theorem minK_rel (hn : Rel none none) {x y : PV} {K : PV → Option R} {K' : PV → Option R'} (hK : ∀ p, Rel (K p) (K' p)) : Rel (minK x y K) (minK x y K') :=
  anyIntK_rel hn fun _ _ => intK_rel hn fun _ => hK _
theorem maxK_rel (hn : Rel none none) {x y : PV} {K : PV → Option R} {K' : PV → Option R'} (hK : ∀ p, Rel (K p) (K' p)) : Rel (maxK x y K) (maxK x y K') :=
  anyIntK_rel hn fun _ _ => intK_rel hn fun _ => hK _
theorem lenK_rel (hn : Rel none none) {P : Program} {t : TypeId} {x : PV} {K : Nat → Option R} {K' : Nat → Option R'} (hK : ∀ p, Rel (K p) (K' p)) : Rel (lenK P t x K) (lenK P t x K') := by
  unfold lenK; split
  · exact strK_rel hn fun _ => hK _
  · exact hK _
  · split
    · exact chk_rel hn fun _ => hK _
    · exact lsK_rel hn fun _ _ _ => hK _
  · exact hn

/- What reads memory: two memories that agree where the value points. -/
def Agr (Rel : Option R → Option R' → Prop) (f f' : Nat → Option (List PV)) (l : List Nat) : Prop := ∀ i ∈ l, f i = f' i ∨ (f i = none ∧ ∀ b, Rel none b)

variable {f f' : Nat → Option (List PV)}

theorem Agr.sub {l l' : List Nat} (h : Agr Rel f f' l) (hs : ∀ i ∈ l', i ∈ l) : Agr Rel f f' l' := fun i hi => h i (hs i hi)

theorem optf_rel (hn : Rel none none) {l : List Nat} {id : Nat} (hf : Agr Rel f f' l) (hi : id ∈ l) {K : List PV → Option R} {K' : List PV → Option R'} (hK : ∀ c, f id = some c → Rel (K c) (K' c)) : Rel (optK (f id) K) (optK (f' id) K') := by
  rcases hf id hi with h | ⟨h, hb⟩
  · rw [← h]
    exact optK_rel hn hK
  · rw [h]
    exact hb _

theorem slcK_rel (hn : Rel none none) {es : Nat} {p : PV} {K : Nat → List PV → Option R} {K' : Nat → List PV → Option R'} (hf : Agr Rel f f' (refsC p)) (hK : ∀ n c, Rel (K n c) (K' n c)) : Rel (slcK f es p K) (slcK f' es p K') := by
  unfold slcK; split
  · rename_i id es' off n
    cases Nat.beq es' es
    · exact hn
    · exact optf_rel hn hf (by simp [refsC]) fun _ _ => chk_rel hn fun _ => hK _ _
  · exact lsK_rel hn fun _ _ _ => hK _ _
theorem frcK_rel (hn : Rel none none) {t : CT} {p : PV} {K : PV → List Nat → Option R} {K' : PV → List Nat → Option R'} (hf : Agr Rel f f' (refsC p)) (hK : ∀ c m, (∀ i ∈ m, f i ≠ none) → Rel (K c m) (K' c m)) : Rel (frcK f t p K) (frcK f' t p K') := by
  unfold frcK; split
  · split
    · rename_i id es' off n
      cases Nat.beq es' _
      · exact hn
      · exact optf_rel hn hf (by simp [refsC]) fun c hc => chk_rel hn fun _ => hK _ _ (by simp [hc])
    · exact lsK_rel hn fun _ _ _ => hK _ _ (by simp)
  · exact tcK_rel hn fun _ => hK _ _ (by simp)
theorem frcsK_rel (hn : Rel none none) : ∀ {ts : List CT} {ps : List PV} {K : List PV → List Nat → Option R} {K' : List PV → List Nat → Option R'}, Agr Rel f f' (ps.flatMap refsC) → (∀ c m, (∀ i ∈ m, f i ≠ none) → Rel (K c m) (K' c m)) → Rel (frcsK f ts ps K) (frcsK f' ts ps K')
  | [], [], _, _, _, hK => hK _ _ (by simp)
  | [], _ :: _, _, _, _, _ => hn
  | _ :: _, [], _, _, _, _ => hn
  | _ :: _, p :: ps, _, _, hf, hK => frcK_rel hn (fun i hi => hf i (by simp only [List.flatMap_cons, List.mem_append]; exact .inl hi)) fun _ m hm => frcsK_rel hn (fun i hi => hf i (by simp only [List.flatMap_cons, List.mem_append]; exact .inr hi)) fun _ ms hms => hK _ _ fun i hi => by
      rcases List.mem_append.1 hi with h | h
      · exact hm i h
      · exact hms i h
theorem frvK_rel (hn : Rel none none) {P : Program} {t : TypeId} {p : PV} {K : PV → List Nat → Option R} {K' : PV → List Nat → Option R'} (hf : Agr Rel f f' (refs1 p)) (hK : ∀ c m, (∀ i ∈ m, f i ≠ none) → Rel (K c m) (K' c m)) : Rel (frvK P f t p K) (frvK P f' t p K') := by
  unfold frvK
  have h1 : ∀ i, i ∈ [p].flatMap refsC → i ∈ refs1 p := by
    intro i hi
    simp only [List.flatMap_cons, List.flatMap_nil, List.append_nil] at hi
    cases p <;> first | exact hi | simp [refsC] at hi
  cases isAggB P t
  · exact frcsK_rel hn (fun i hi => hf i (h1 i hi)) fun _ _ hm => consK_rel hn fun _ _ _ => nilK_rel hn (hK _ _ hm)
  · refine aggK_rel hn fun c hc => ?_
    subst hc
    exact frcsK_rel hn (fun i hi => hf i hi) fun _ _ hm => hK _ _ hm
theorem frvsK_rel (hn : Rel none none) {P : Program} : ∀ {ts : List TypeId} {ps : List PV} {K : List PV → List Nat → Option R} {K' : List PV → List Nat → Option R'}, Agr Rel f f' (ps.flatMap refs1) → (∀ c m, (∀ i ∈ m, f i ≠ none) → Rel (K c m) (K' c m)) → Rel (frvsK P f ts ps K) (frvsK P f' ts ps K')
  | [], [], _, _, _, hK => hK _ _ (by simp)
  | [], _ :: _, _, _, _, _ => hn
  | _ :: _, [], _, _, _, _ => hn
  | _ :: _, p :: ps, _, _, hf, hK => frvK_rel hn (fun i hi => hf i (by simp only [List.flatMap_cons, List.mem_append]; exact .inl hi)) fun _ m hm => frvsK_rel hn (fun i hi => hf i (by simp only [List.flatMap_cons, List.mem_append]; exact .inr hi)) fun _ ms hms => hK _ _ fun i hi => by
      rcases List.mem_append.1 hi with h | h
      · exact hm i h
      · exact hms i h
theorem sliceK_rel (hn : Rel none none) {P : Program} {t : TypeId} {x : PV} {lo hi : Option PV} {K : PV → Option R} {K' : PV → Option R'} (hf : (∃ n e, P.underlying t = some (.array n e)) → Agr Rel f f' (refsC x)) (hK : ∀ c, Rel (K c) (K' c)) : Rel (sliceK P f t x lo hi K) (sliceK P f' t x lo hi K') := by
  unfold sliceK; split
  · exact strK_rel hn fun _ => boundK_rel hn fun _ => boundK_rel hn fun _ => chk_rel hn fun _ => hK _
  · refine chk_rel hn fun _ => ?_
    split
    · exact chk_rel hn fun _ => boundK_rel hn fun _ => boundK_rel hn fun _ => chk_rel hn fun _ => hK _
    · exact lsK_rel hn fun _ _ _ => boundK_rel hn fun _ => boundK_rel hn fun _ => chk_rel hn fun _ => hK _
  · rename_i n e hu
    refine chk_rel hn fun _ => ?_
    split
    · rename_i id off
      exact optf_rel hn (hf ⟨_, _, hu⟩) (by simp [refsC]) fun _ _ => chk_rel hn fun _ => boundK_rel hn fun _ => boundK_rel hn fun _ => chk_rel hn fun _ => hK _
    · exact hn
  · exact hn
theorem loadK_rel {g g' : Nat → Option (List PV)} (hn : Rel none none) {P : Program} {t : TypeId} {x : PV} {K : PV → Option R} {K' : PV → Option R'} (hf : ∀ i ∈ refsC x, (f i = f' i ∧ g i = g' i) ∨ (f i = none ∧ g i = none ∧ ∀ b, Rel none b)) (hK : ∀ c, Rel (K c) (K' c)) : Rel (loadK P f g t x K) (loadK P f' g' t x K') := by
  unfold loadK; split
  · rename_i id off
    refine chk_rel hn fun _ => ?_
    rcases hf id (by simp [refsC]) with ⟨h1, h2⟩ | ⟨h1, h2, h3⟩
    · rw [← h1, ← h2]
      split
      · exact tcsK_rel hn fun _ => mkV_rel hn hK
      · exact optK_rel hn fun _ _ => fcsK_rel hn fun _ => mkV_rel hn hK
    · rw [h1, h2]
      exact h3 _
  · exact chk_rel hn fun _ => tcsK_rel hn fun _ => mkV_rel hn hK
  · exact hn

/- What makes boxes. -/
theorem convK_rel (hn : Rel none none) {P : Program} {d : Nat} {src dst : TypeId} {x : PV} {K : PV → List (Nat × Box) → Option R} {K' : PV → List (Nat × Box) → Option R'} (hf : P.underlying dst = some .string → Agr Rel f f' (refsC x)) (hK : ∀ v b, (∀ q ∈ b, q.1 = d) → Rel (K v b) (K' v b)) : Rel (convK P f d src dst x K) (convK P f' d src dst x K') := by
  unfold convK; split
  · exact chk_rel hn fun _ => anyIntK_rel hn fun _ _ => hK _ _ (by simp)
  · rename_i hds
    split
    · exact strK_rel hn fun _ => hK _ _ (by simp)
    · split
      · exact slcK_rel hn (hf hds) fun _ _ => chk_rel hn fun _ => optK_rel hn fun _ _ => hK _ _ (by simp)
      · exact hn
    · exact hn
  · split
    · exact strK_rel hn fun _ => chk_rel hn fun _ => hK _ _ (by simp)
    · exact hn
  · exact hn
theorem uncK_rel (hn : Rel none none) {shr : Bool} {id : Nat} {t : CT} {p : PV} {K : PV → List (Nat × Box) → Option R} {K' : PV → List (Nat × Box) → Option R'} (hK : ∀ c b, (∀ q ∈ b, q.1 = id) → Rel (K c b) (K' c b)) : Rel (uncK shr id t p K) (uncK shr id t p K') := by
  unfold uncK; split
  · cases shr
    · exact owK_rel hn fun _ _ => hK _ _ (by simp)
    · exact lsK_rel hn fun _ _ _ => hK _ _ (by simp)
  · exact tcK_rel hn fun _ => hK _ _ (by simp)
theorem uncsK_rel (hn : Rel none none) {shr : Bool} {N : Nat} : ∀ {ts : List CT} {id : Nat} {ps : List PV} {K : List PV → List (Nat × Box) → Option R} {K' : List PV → List (Nat × Box) → Option R'}, (∀ c b, (∀ q ∈ b, ∃ j, q.1 = id + N * j) → Rel (K c b) (K' c b)) → Rel (uncsK shr N id ts ps K) (uncsK shr N id ts ps K')
  | [], _, _, _, _, hK => nilK_rel hn (hK _ _ (by simp))
  | _ :: _, id, _, _, _, hK => consK_rel hn fun _ _ _ => uncK_rel hn fun _ b hb => uncsK_rel hn fun _ bs hbs => hK _ _ fun q hq => by
      rcases List.mem_append.1 hq with h | h
      · exact ⟨0, by rw [hb q h]; simp⟩
      · obtain ⟨j, hj⟩ := hbs q h
        exact ⟨j + 1, by rw [hj, Nat.mul_add]; omega⟩
theorem unvK_rel (hn : Rel none none) {P : Program} {shr : Bool} {N id : Nat} {t : TypeId} {p : PV} {K : PV → List (Nat × Box) → Option R} {K' : PV → List (Nat × Box) → Option R'} (hK : ∀ c b, (∀ q ∈ b, ∃ j, q.1 = id + N * j) → Rel (K c b) (K' c b)) : Rel (unvK P shr N id t p K) (unvK P shr N id t p K') := by
  unfold unvK
  split
  · refine pboxK_rel hn fun ps => uncsK_rel hn fun _ _ hb => hK _ _ fun q hq => ?_
    rcases List.mem_cons.1 hq with rfl | hq
    · exact ⟨0, by simp⟩
    · obtain ⟨j, hj⟩ := hb q hq
      exact ⟨j + 1, by rw [hj, Nat.mul_add]; omega⟩
  cases isAggB P t
  · exact uncsK_rel hn fun _ _ hb => consK_rel hn fun _ _ _ => nilK_rel hn (hK _ _ hb)
  · exact aggK_rel hn fun _ _ => uncsK_rel hn fun _ _ hb => hK _ _ hb
theorem unvsK_rel (hn : Rel none none) {P : Program} {shr : Bool} {N : Nat} : ∀ {ts : List TypeId} {id : Nat} {ps : List PV} {K : List PV → List (Nat × Box) → Option R} {K' : List PV → List (Nat × Box) → Option R'}, (∀ c b, (∀ q ∈ b, ∃ j, q.1 = id + N * j) → Rel (K c b) (K' c b)) → Rel (unvsK P shr N id ts ps K) (unvsK P shr N id ts ps K')
  | [], _, _, _, _, hK => nilK_rel hn (hK _ _ (by simp))
  | t :: _, id, _, _, _, hK => consK_rel hn fun _ _ _ => unvK_rel hn fun _ b hb => unvsK_rel hn fun _ bs hbs => hK _ _ fun q hq => by
      rcases List.mem_append.1 hq with h | h
      · exact hb q h
      · obtain ⟨j, hj⟩ := hbs q h
        exact ⟨plcs P t + j, by rw [hj, Nat.mul_add]; omega⟩
end

end Go.Proofs.Ytoihfmiifeegpaa.Pv
