/-
  Regions.
-/
import Derived.Test.YtoihfmiifeegpaaPvS26
import Derived.StillTail
namespace Go.Proofs.Ytoihfmiifeegpaa.Pv
open Go.RowKit

section
variable {R : Type} {r : R} {P : Program} {N : Nat} {w0 : World} {X0 : Lend} {Y : Nat → Prop} {β β' : Bt} {s : St} {a : Act} {w w' : World} {o : Oper} {ops : Array Oper} {C : Cfg} {call : Call'} {K : St → Option R}

theorem yielded_of (h : Sim N w0 X0 Y β s a w) {j d : Nat} (hd : (ops[j]?).bind (·.dst) = some d) {v : Value} (ht : s.tm d = .sc v) : yielded ops a.tmps j = match v with | .bool b => some b | _ => none := by
  have hlt : d < N := by
    rcases Nat.lt_or_ge d N with h' | h'
    · exact h'
    · rw [h.tmo d h'] at ht; cases ht
  have hv := h.tms d hlt
  rw [ht] at hv
  have hv := sc_val hv
  have hlt' : d < a.tmps.size := by rw [h.tsz]; exact hlt
  have he : a.tmps[d]? = some v := by
    rw [Array.getElem?_eq_getElem hlt']
    simp [hlt'] at hv
    rw [hv]
  unfold yielded
  rw [hd]
  simp only [Option.bind_some, he]
  cases v <;> rfl

/-- An operation under its guard. -/
theorem gopK_sound (h : Sim N w0 X0 Y β s a w) (hNG : NoNG P) (hcall : ∀ f args res, call f args = some res → SoundC P f args res) {i : Nat} (hi : ops[i]? = some o) (hk : gopK C P N call ops o s K = some r) :
    ∃ s', K s' = some r ∧ ∀ (next : Act → World → Prop) (Q : Exit → Act → World → Prop), (∀ a' w' β', Sim N w0 X0 Y β' s' a' w' → next a' w') → wpOp P ops Q i next a w := by
  rw [gopK_eq] at hk
  have hw : ∀ b, verdict ops o s.tm = some b → Region.wanted o (yielded ops a.tmps) = b := by
    intro b hb
    unfold verdict at hb
    unfold Region.wanted
    cases hg : o.guard with
    | none => rw [hg] at hb; simpa using hb
    | some q =>
      obtain ⟨j, want⟩ := q
      rw [hg] at hb
      simp only at hb ⊢
      cases hd : (ops[j]?).bind (·.dst) with
      | none => rw [hd] at hb; cases hb
      | some d =>
        rw [hd] at hb
        simp only at hb
        split at hb
        · rename_i b' ht
          rw [yielded_of h hd ht]
          simp at hb
          rw [← hb]
          cases b' <;> cases want <;> rfl
        · rename_i ht
          rw [yielded_of h hd ht]
          simp at hb
          rw [hb]
          rfl
        · cases hb
  split at hk
  · cases hk
  · rename_i hv
    obtain ⟨s', hs', hn⟩ := popK_sound h hNG hcall hk
    refine ⟨s', hs', fun next Q hnext => ?_⟩
    unfold wpOp
    rw [hi]
    simp only [hw _ hv, if_true]
    exact .inl (hn next Q hnext)
  · rename_i hv
    obtain ⟨hd, hk⟩ := chk_inv hk
    refine ⟨_, hk, fun next Q hnext => ?_⟩
    unfold wpOp
    rw [hi]
    simp only [hw _ hv]
    refine hnext _ _ β (h.put hd (TRep.sc _) (by simp [refs, refs1, refsC]))

theorem wpOps_sound (hNG : NoNG P) (hcall : ∀ f args res, call f args = some res → SoundC P f args res) {Q : Exit → Act → World → Prop} (hQ : ∀ s' a' w' β', K s' = some r → Sim N w0 X0 Y β' s' a' w' → Q .normal a' w') :
    ∀ (l : List Nat) (os : List Oper), l.length = os.length → (∀ (k i : Nat), l[k]? = some i → ops[i]? = os[k]?) → ∀ {s : St} {a : Act} {w : World} {β : Bt}, Sim N w0 X0 Y β s a w → gopsK C P N call ops os s K = some r → wpOps P ops Q l a w
  | [], [], _, _, s, a, w, β, h, hk => by
    show Q .normal a w
    exact hQ s a w β hk h
  | [], _ :: _, hl, _, _, _, _, _, _, _ => by cases hl
  | _ :: _, [], hl, _, _, _, _, _, _, _ => by cases hl
  | i :: l, o :: os, hl, hi, s, a, w, β, h, hk => by
    rw [wpOps_cons]
    obtain ⟨s', hs', hn⟩ := gopK_sound h hNG hcall (by simpa using hi 0 i rfl) hk
    exact hn _ _ fun a' w' β' h' => wpOps_sound hNG hcall hQ l os (by simpa using hl) (fun k j hj => by simpa using hi (k + 1) j (by simpa using hj)) h' hs'

theorem Sim.drew (h : Sim N w0 X0 Y β s a w) : Sim N w0 X0 Y β s a { w with drawn := w.drawn + 1 } := by
  have := h.stepR (d := none) (v := .top) (nw := []) (val := undef) (w' := { w with drawn := w.drawn + 1 }) (β' := β) rfl rfl
    ⟨rfl, rfl, rfl, ⟨Nat.le_refl _, fun _ _ _ => rfl, fun _ _ => Nat.le_refl _⟩, fun _ _ => rfl, by simp, by simp, by simp, by simp, by simp, .top _, by simp [refs, refs1, refsC]⟩
  exact this

/-- A region in its text's order. -/
theorem region_plain (h : Sim N w0 X0 Y β s a w) (hNG : NoNG P) (hcall : ∀ f args res, call f args = some res → SoundC P f args res) {id : Nat} {Q : Exit → Act → World → Prop}
    (hk : gopsK C P N call ops ops.toList s K = some r) (hQ : ∀ s' a' w' β', K s' = some r → Sim N w0 X0 Y β' s' a' w' → Q .normal a' w') : (Code.region id ops false).wp P Q a w := by
  refine wp_region (wpOps_sound hNG hcall hQ (List.range ops.size) ops.toList (by simp) (fun k i hi => ?_) h hk)
  rw [List.getElem?_range] at hi
  · simp at hi; subst hi; simp
  · rcases Nat.lt_or_ge k ops.size with h' | h'
    · exact h'
    · rw [List.getElem?_eq_none (by simpa using h')] at hi; cases hi

/- A region that draws its order. -/
def pend (n : Nat) (listed : Array Bool) : List Nat := (List.range n).filter fun i => !listed.getD i true

def Fall (ops : Array Oper) (listed : Array Bool) (o : Oper) : Prop := ∀ e ∈ o.after, Region.binds .any e = true → listed.getD e.on false = true

theorem testBit_or {a b j : Nat} : (a ||| b).testBit j = (a.testBit j || b.testBit j) := Nat.testBit_or a b j

theorem fold_bits {acc : List Nat} {j : Nat} : ∀ (es : List Edge) (v : Nat), (es.foldl (fun s e => bif Region.binds .any e then s ||| 2 ^ e.on ||| acc.getD e.on 0 else s) v).testBit j = true →
    v.testBit j = true ∨ ∃ e ∈ es, Region.binds .any e = true ∧ (j = e.on ∨ (acc.getD e.on 0).testBit j = true)
  | [], v, h => .inl h
  | e :: es, v, h => by
    rcases fold_bits es _ h with h | ⟨e', he', h⟩
    · cases hb : Region.binds .any e <;> simp only [hb] at h
      · exact .inl h
      · simp only [cond_true, Nat.testBit_or, Bool.or_eq_true] at h
        rcases h with (h | h) | h
        · exact .inl h
        · refine .inr ⟨e, by simp, hb, .inl ?_⟩
          rw [Nat.testBit_two_pow] at h
          exact (of_decide_eq_true h).symm
        · exact .inr ⟨e, by simp, hb, .inr h⟩
    · exact .inr ⟨e', by simp [he'], h⟩

theorem befores_spec {listed : Array Bool} (hc : ∀ (j : Nat) oj, ops[j]? = some oj → listed.getD j false = true → Fall ops listed oj) :
    ∀ (rest done : List Oper) (acc : List Nat), ops.toList = done ++ rest → acc.length = done.length →
      (∀ (k : Nat) o, done[k]? = some o → Fall ops listed o → ∀ j, (acc.getD k 0).testBit j = true → listed.getD j false = true) →
      ∀ (k : Nat) o, ops[k]? = some o → Fall ops listed o → ∀ j, ((befores rest acc).getD k 0).testBit j = true → listed.getD j false = true
  | [], done, acc, he, _, h, k, o, ho, hf, j, hj => by
    refine h k o ?_ hf j hj
    rw [List.append_nil] at he
    rw [← he]
    simpa using ho
  | o' :: rest, done, acc, he, hl, h, k, o, ho, hf, j, hj => by
    refine befores_spec hc rest (done ++ [o']) _ (by rw [he]; simp) (by simp [hl]) ?_ k o ho hf j hj
    intro k o ho hf j hj
    rcases Nat.lt_trichotomy k done.length with hlt | heq | hgt
    · rw [List.getElem?_append_left hlt] at ho
      rw [List.getD_eq_getElem?_getD, List.getElem?_append_left (by omega), ← List.getD_eq_getElem?_getD] at hj
      exact h k o ho hf j hj
    · subst heq
      simp at ho
      subst ho
      rw [← hl] at hj
      simp only [List.getD_eq_getElem?_getD, List.getElem?_append_right (Nat.le_refl _), Nat.sub_self, List.getElem?_cons_zero, Option.getD_some] at hj
      have hj : (o'.after.toList.foldl (fun s e => bif Region.binds .any e then s ||| 2 ^ e.on ||| acc.getD e.on 0 else s) 0).testBit j = true := by
        simpa only [List.getD_eq_getElem?_getD] using hj
      rcases fold_bits _ _ hj with h0 | ⟨e, hm, hb, h1⟩
      · simp at h0
      · have hl1 := hf e (by simpa using hm) hb
        rcases h1 with h1 | h1
        · rw [h1]; exact hl1
        · cases hd : done[e.on]? with
          | none =>
            have : acc.getD e.on 0 = 0 := by
              rw [List.getD_eq_getElem?_getD, List.getElem?_eq_none (by rw [hl]; exact List.getElem?_eq_none_iff.1 hd)]
              rfl
            rw [this] at h1
            simp at h1
          | some oe =>
            have hoe : ops[e.on]? = some oe := by
              rw [← Array.getElem?_toList, he, List.getElem?_append_left (by
                rcases Nat.lt_or_ge e.on done.length with h' | h'
                · exact h'
                · rw [List.getElem?_eq_none h'] at hd; cases hd)]
              exact hd
            exact h e.on oe hd (hc e.on oe hoe hl1) j h1
    · rw [List.getElem?_eq_none (by simp; omega)] at ho
      cases ho

theorem regOkGo_spec {bs : List Nat} : ∀ (l : List Oper) (n : Nat), regOkGo C P ops bs l n = true → ∀ (k : Nat) o, l[k]? = some o → ∀ (j : Nat) x, ops[j]? = some x → j < n + k → clash C P ops x o = true → (bs.getD (n + k) 0).testBit j = true
  | [], _, _, k, o, ho, _, _, _, _, _ => by simp at ho
  | o' :: l, n, h, k, o, ho, j, x, hx, hj, hcl => by
    simp only [regOkGo, Bool.and_eq_true] at h
    cases k with
    | zero =>
      simp at ho
      subst ho
      have := List.all_eq_true.1 h.1 (x, j) (by
        rw [List.mem_zipIdx_iff_getElem?]
        simpa using hx)
      simp only [hcl, Bool.not_true, Bool.or_false, Bool.or_eq_true, Bool.not_eq_true'] at this
      rcases this with h' | h'
      · have : Nat.blt j n = true := Nat.ble_eq_true_of_le (by omega)
        rw [this] at h'; cases h'
      · exact h'
    | succ k =>
      have := regOkGo_spec l (n + 1) h.2 k o (by simpa using ho) j x hx (by omega) hcl
      rwa [show n + (k + 1) = n + 1 + k by omega]

theorem mem_pend {n i : Nat} {listed : Array Bool} : i ∈ pend n listed ↔ i < n ∧ listed.getD i true = false := by
  unfold pend
  simp [List.mem_filter]

/-- Those that wait, in the text's order, with one taken out. -/
theorem pend_split {n i : Nat} {listed : Array Bool} (hi : i ∈ pend n listed) (hsz : listed.size = n) : ∃ l1 l2, pend n listed = l1 ++ i :: l2 ∧ pend n (listed.setIfInBounds i true) = l1 ++ l2 ∧ ∀ j ∈ l1, j < i := by
  obtain ⟨hlt, hun⟩ := mem_pend.1 hi
  have hr : List.range n = List.range i ++ i :: (List.range (n - i - 1)).map (i + 1 + ·) := by
    conv => lhs; rw [show n = i + (1 + (n - i - 1)) by omega]
    rw [List.range_add, List.range_add]
    simp [Nat.add_assoc]
  refine ⟨(List.range i).filter fun i => !listed.getD i true, ((List.range (n - i - 1)).map (i + 1 + ·)).filter fun i => !listed.getD i true, ?_, ?_, fun j hj => ?_⟩
  · unfold pend
    rw [hr, List.filter_append, List.filter_cons_of_pos (by rw [hun]; rfl)]
  · unfold pend
    rw [hr, List.filter_append, List.filter_cons_of_neg (by simp [hsz, hlt])]
    congr 1
    · refine List.filter_congr fun j hj => ?_
      rw [getD_set_ne true (by have := List.mem_range.1 hj; omega)]
    · refine List.filter_congr fun j hj => ?_
      obtain ⟨k, _, rfl⟩ := List.mem_map.1 hj
      rw [getD_set_ne true (by omega)]
  · exact List.mem_range.1 (List.mem_filter.1 hj).1

theorem has_of (h : Sim N w0 X0 Y β s a w) (o : Oper) : Has C P o s := by
  refine ⟨fun y _ i hi => opv_refs h y i hi, fun _ y _ i hi c hc p hp k hk => h.wfB i c hc p hp k hk⟩

theorem wpAny_sound' (hNG : NoNG P) (hcall : ∀ f args res, call f args = some res → SoundC P f args res) (hok : regOk C P ops = true) {Q : Exit → Act → World → Prop} (hQ : ∀ s' a' w' β', K s' = some r → Sim N w0 X0 Y β' s' a' w' → Q .normal a' w') :
    ∀ (fuel : Nat) {listed : Array Bool} {s : St} {a : Act} {w : World} {β : Bt}, HeadInv .any ops ops.size listed → (pend ops.size listed).length = fuel → Sim N w0 X0 Y β s a w → gopsK C P N call ops ((pend ops.size listed).filterMap (ops[·]?)) s K = some r → wpAny P .any ops Q fuel listed a w := by
  unfold regOk at hok
  simp only [Bool.and_eq_true] at hok
  obtain ⟨hok1, hok2⟩ := hok
  -- nobody is ready: nobody waits
  have done : ∀ {listed : Array Bool}, HeadInv .any ops ops.size listed → Region.ready .any ops listed = [] → pend ops.size listed = [] := by
    intro listed inv hr
    cases hp : pend ops.size listed with
    | nil => rfl
    | cons i l =>
      exfalso
      have hi : i ∈ pend ops.size listed := by rw [hp]; simp
      obtain ⟨hlt, hun⟩ := mem_pend.1 hi
      obtain ⟨l1, l2, h1, _, h3⟩ := pend_split hi inv.size
      have hl1 : l1 = [] := by
        cases l1 with
        | nil => rfl
        | cons j l1 =>
          rw [hp] at h1
          simp at h1
          have := h3 j (by simp)
          omega
      subst hl1
      have hmin : ∀ j, j < i → listed.getD j false = true := by
        intro j hj
        cases hh : listed.getD j false with
        | true => rfl
        | false =>
          have : j ∈ pend ops.size listed := mem_pend.2 ⟨by omega, getD_in (by rw [inv.size]; omega) hh⟩
          -- the list of those that wait is sorted
          have hs : (pend ops.size listed).Pairwise (· < ·) := List.Pairwise.filter _ List.pairwise_lt_range
          rw [h1] at this hs
          simp at this
          rcases this with e | e
          · omega
          · have := (List.pairwise_cons.1 hs).1 j e
            omega
      have : i ∈ Region.ready .any ops listed := by
        refine mem_ready.2 ⟨hun, ops[i], Array.getElem?_eq_getElem hlt, fun e he hb => hmin _ ?_⟩
        have := List.all_eq_true.1 hok1 (ops[i], i) (by
          rw [List.mem_zipIdx_iff_getElem?]
          simp [hlt])
        have := List.all_eq_true.1 this e (Array.mem_toList_iff.2 he)
        simp only [hb, Bool.not_true, Bool.false_or] at this
        exact Nat.lt_of_succ_le (Nat.le_of_ble_eq_true this)
      rw [hr] at this
      simp at this
  intro fuel
  induction fuel with
  | zero =>
    intro listed s a w β inv hf h hk
    have hp := List.eq_nil_of_length_eq_zero hf
    rw [hp] at hk
    refine ⟨?_, hQ s a w β hk h⟩
    cases hr : Region.ready .any ops listed with
    | nil => rfl
    | cons i l =>
      exfalso
      have hi : i ∈ Region.ready .any ops listed := by rw [hr]; simp
      obtain ⟨hun, o, ho, _⟩ := mem_ready.1 hi
      have : i ∈ pend ops.size listed := mem_pend.2 ⟨(Array.getElem?_eq_some_iff.1 ho).1, hun⟩
      rw [hp] at this
      simp at this
  | succ fuel ih =>
    intro listed s a w β inv hf h hk
    refine ⟨fun hr => ?_, fun i hi => ?_⟩
    · rw [done inv hr] at hf
      cases hf
    · obtain ⟨hun, o, ho, hall⟩ := mem_ready.1 hi
      have hlt : i < ops.size := (Array.getElem?_eq_some_iff.1 ho).1
      obtain ⟨l1, l2, h1, h2, h3⟩ := pend_split (mem_pend.2 ⟨hlt, hun⟩) inv.size
      rw [h1, List.filterMap_append, List.filterMap_cons_some ho] at hk
      have hap : ∀ x ∈ l1.filterMap (ops[·]?), Apart C P ops x o := by
        intro x hx
        obtain ⟨j, hj, hxj⟩ := List.mem_filterMap.1 hx
        refine apart_of ?_
        cases hcl : clash C P ops x o with
        | false => rfl
        | true =>
          exfalso
          have hbit := regOkGo_spec ops.toList 0 hok2 i o (by simpa using ho) j x hxj (by have := h3 j hj; omega) hcl
          rw [Nat.zero_add] at hbit
          have hjl := befores_spec (listed := listed) (fun j oj hj hl => inv.closed j oj hj hl) ops.toList [] [] (by simp) rfl (by simp) i o ho hall j hbit
          have : j ∈ pend ops.size listed := by rw [h1]; simp [hj]
          have := getD_both (mem_pend.1 this).2
          rw [hjl] at this
          cases this
      obtain ⟨s', hs', hn⟩ := gopK_sound h hNG hcall ho (gops_take (has_of h o) hap hk)
      refine hn _ _ fun a' w' β' h' => ih (inv.set hi hlt) ?_ h' ?_
      · rw [h2]; rw [h1] at hf; simp at hf ⊢; omega
      · rw [h2, List.filterMap_append]; exact hs'

/-- A region that draws its order. -/
theorem region_drawn (h : Sim N w0 X0 Y β s a w) (hNG : NoNG P) (hcall : ∀ f args res, call f args = some res → SoundC P f args res) (hm : P.follows .mixedOrders = true) (hok : regOk C P ops = true) {id : Nat} {Q : Exit → Act → World → Prop}
    (hk : gopsK C P N call ops ops.toList s K = some r) (hQ : ∀ s' a' w' β', K s' = some r → Sim N w0 X0 Y β' s' a' w' → Q .normal a' w') : (Code.region id ops true).wp P Q a w := by
  have hp : pend ops.size (Array.replicate ops.size false) = List.range ops.size := by
    unfold pend
    refine List.filter_eq_self.2 fun i hi => ?_
    have := List.mem_range.1 hi
    simp [this]
  refine wp_region_any hm (wpAny_sound' (C := C) hNG hcall hok hQ ops.size ⟨by simp, fun j oj _ hl => (by rw [getD_replicate_false] at hl; cases hl), fun t ht ht' => by omega⟩ (by rw [hp]; simp) h.drew ?_)
  rw [hp]
  have : (List.range ops.size).filterMap (ops[·]?) = ops.toList := by
    refine List.ext_getElem? fun k => ?_
    have : ∀ (n : Nat), n ≤ ops.size → (List.range n).filterMap (ops[·]?) = ops.toList.take n := by
      intro n
      induction n with
      | zero => intro _; rfl
      | succ n ih =>
        intro hn
        rw [List.range_succ, List.filterMap_append, ih (by omega), List.take_add_one]
        congr 1
        have : ops[n]? = some ops[n] := Array.getElem?_eq_getElem (by omega)
        simp [this]
    rw [this ops.size (Nat.le_refl _)]
    congr 1
    exact List.take_of_length_le (by simp)
  rw [this]
  exact hk
end

end Go.Proofs.Ytoihfmiifeegpaa.Pv
