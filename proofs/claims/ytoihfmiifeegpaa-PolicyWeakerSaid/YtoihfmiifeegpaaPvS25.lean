/-
  Two operations that do not touch one another may change places, second part.
-/
import Derived.Test.YtoihfmiifeegpaaPvS24
namespace Go.Proofs.Ytoihfmiifeegpaa.Pv
open Go.RowKit

theorem absent_of : ∀ {nw : List (Nat × Box)} {hp hp' : Nat → Option Box}, absent hp nw = true → (∀ i b, (i, b) ∈ nw → hp' i = none) → absent hp' nw = true
  | [], _, _, _, _ => rfl
  | (i, b) :: nw, hp, hp', h, h' => by
    simp only [absent, Bool.and_eq_true, Option.isNone_iff_eq_none] at h ⊢
    exact ⟨⟨h' i b (by simp), h.1.2⟩, absent_of h.2 fun j c hj => h' j c (by simp [hj])⟩

section
variable {hp : Nat → Option Box} {fz : List Nat} {nw : List (Nat × Box)}

theorem after_old (ha : absent hp nw = true) {i : Nat} (hi : hp i ≠ none) : addBoxes (freezeIds hp fz) nw i = if i ∈ fz then (hp i).map markF else hp i := by
  obtain ⟨h1, h2⟩ := absent_spec ha
  rw [(addBoxes_get h2).2 i (fun bx hb => hi (h1 i bx hb)), freeze_get]
theorem after_new (ha : absent hp nw = true) {i : Nat} {b : Box} (hi : (i, b) ∈ nw) : addBoxes (freezeIds hp fz) nw i = some b :=
  (addBoxes_get (absent_spec ha).2).1 i b hi
theorem after_none (ha : absent hp nw = true) {i : Nat} (hi : hp i = none) (hn : ∀ b, (i, b) ∉ nw) : addBoxes (freezeIds hp fz) nw i = none := by
  rw [(addBoxes_get (absent_spec ha).2).2 i hn, freeze_get, hi]
  simp
theorem after_some (ha : absent hp nw = true) {i : Nat} (hi : hp i ≠ none) : addBoxes (freezeIds hp fz) nw i ≠ none := by
  rw [after_old ha hi]
  cases h : hp i with
  | none => exact absurd h hi
  | some b => split <;> simp

theorem rd_mark (b : Option Box) : (match b.map markF with | some (.st c) => some c | some (.ar _ c) => some c | _ => none) = (match b with | some (.st c) => some c | some (.ar _ c) => some c | _ => none) := by
  cases b with
  | none => rfl
  | some b => cases b <;> rfl
theorem rda_mark (b : Option Box) : (match b.map markF with | some (.ar _ c) => some c | _ => none) = (match b with | some (.ar _ c) => some c | _ => none) := by
  cases b with
  | none => rfl
  | some b => cases b <;> rfl

theorem rd_after (ha : absent hp nw = true) {i : Nat} (hi : hp i ≠ none) : rd (addBoxes (freezeIds hp fz) nw) i = rd hp i := by
  unfold rd
  rw [after_old ha hi]
  by_cases h : i ∈ fz
  · rw [if_pos h]; exact rd_mark _
  · rw [if_neg h]
theorem rda_after (ha : absent hp nw = true) {i : Nat} (hi : hp i ≠ none) : rda (addBoxes (freezeIds hp fz) nw) i = rda hp i := by
  unfold rda
  rw [after_old ha hi]
  by_cases h : i ∈ fz
  · rw [if_pos h]; exact rda_mark _
  · rw [if_neg h]
theorem rd_none {i : Nat} (hi : hp i = none) : rd hp i = none := by unfold rd; rw [hi]
theorem rda_none {i : Nat} (hi : hp i = none) : rda hp i = none := by unfold rda; rw [hi]

theorem mark2 (b : Option Box) : (b.map markF).map markF = b.map markF := by
  cases b with
  | none => rfl
  | some b => cases b <;> rfl

/-- The order of two steps of class R does not matter. -/
theorem after_comm {fx fo : List Nat} {nx no : List (Nat × Box)} (hx : absent hp nx = true) (ho : absent (addBoxes (freezeIds hp fx) nx) no = true) (ho' : absent hp no = true)
    (hx' : absent (addBoxes (freezeIds hp fo) no) nx = true) (h1 : ∀ i ∈ fx, hp i ≠ none) (h2 : ∀ i ∈ fo, hp i ≠ none) :
    addBoxes (freezeIds (addBoxes (freezeIds hp fx) nx) fo) no = addBoxes (freezeIds (addBoxes (freezeIds hp fo) no) fx) nx := by
  funext i
  by_cases hi : hp i = none
  · by_cases hno : ∃ b, (i, b) ∈ no
    · obtain ⟨b, hb⟩ := hno
      have hnx : ∀ b', (i, b') ∉ nx := fun b' hb' => by
        have := (absent_spec ho).1 i b hb
        rw [after_new hx hb'] at this
        cases this
      rw [after_new ho hb, after_old hx' (by rw [after_new ho' hb]; simp), after_new ho' hb, if_neg (fun h => h1 i h hi)]
    · have hno : ∀ b, (i, b) ∉ no := fun b hb => hno ⟨b, hb⟩
      by_cases hnx : ∃ b, (i, b) ∈ nx
      · obtain ⟨b, hb⟩ := hnx
        rw [after_new hx' hb, after_old ho (by rw [after_new hx hb]; simp), after_new hx hb, if_neg (fun h => h2 i h hi)]
      · have hnx : ∀ b, (i, b) ∉ nx := fun b hb => hnx ⟨b, hb⟩
        rw [after_none ho (after_none hx hi hnx) hno, after_none hx' (after_none ho' hi hno) hnx]
  · rw [after_old ho (after_some hx hi), after_old hx hi, after_old hx' (after_some ho' hi), after_old ho' hi]
    split <;> split <;> first | rfl | rw [mark2]
end

section
variable {R : Type} {r : R} {C : Cfg} {P : Program} {N : Nat} {call : Call'} {ops : Array Oper} {o x : Oper} {s : St} {K : St → Option R}

/-- Two operations that do not touch one another. -/
structure Apart (C : Cfg) (P : Program) (ops : Array Oper) (x o : Oper) : Prop where
  xo : ∀ d, x.dst = some d → d ∉ looks ops o
  ne : ∀ d, x.dst = some d → o.dst ≠ some d
  ox : ∀ d, o.dst = some d → d ∉ looks ops x
  mx : isM C P x.op = true → memo P o.op = false
  mo : isM C P o.op = true → memo P x.op = false

theorem any_beq {l : List Nat} {d : Nat} (h : l.any (Nat.beq d) = false) : d ∉ l := by
  intro hm
  have : l.any (Nat.beq d) = true := List.any_eq_true.2 ⟨d, hm, Nat.beq_refl d⟩
  rw [this] at h
  cases h

theorem apart_of (h : clash C P ops x o = false) : Apart C P ops x o := by
  unfold clash at h
  simp only [Bool.or_eq_false_iff, Bool.and_eq_false_iff] at h
  obtain ⟨⟨⟨h1, h2⟩, h3⟩, h4⟩ := h
  refine ⟨fun d hd => ?_, fun d hd he => ?_, fun d hd => ?_, fun hm => ?_, fun hm => ?_⟩
  · simp only [hd, Bool.or_eq_false_iff] at h1
    exact any_beq h1.1
  · simp only [hd, he, Bool.or_eq_false_iff] at h1
    rw [Nat.beq_refl] at h1
    cases h1.2
  · simp only [hd] at h2
    exact any_beq h2
  · rw [hm] at h3
    rcases h3 with h | h
    · cases h
    · exact h
  · rw [hm] at h4
    rcases h4 with h | h
    · cases h
    · exact h

theorem putTm_look {tm : Nat → PV} {d : Option Tmp} {v : PV} {l : List Nat} (h : ∀ i, d = some i → i ∉ l) : ∀ t ∈ l, putTm tm d v t = tm t := by
  intro t ht
  cases d with
  | none => rfl
  | some d => exact upd_other _ _ (by rintro rfl; exact h _ rfl ht)

theorem putTm_comm {tm : Nat → PV} {d e : Option Tmp} {u v : PV} (h : ∀ i, d = some i → e ≠ some i) : putTm (putTm tm d u) e v = putTm (putTm tm e v) d u := by
  cases d with
  | none => rfl
  | some d =>
    cases e with
    | none => rfl
    | some e => exact upd_comm _ _ _ (by rintro rfl; exact h _ rfl rfl)

/-- What an operation looks at is there. -/
def Has (C : Cfg) (P : Program) (o : Oper) (s : St) : Prop := (∀ y ∈ o.op.operands.toList, ∀ i ∈ refs (opv s.tm y), s.hp i ≠ none) ∧
  (isM C P o.op = true → ∀ y ∈ o.op.operands.toList, ∀ i ∈ refs (opv s.tm y), ∀ c, s.hp i = some (.st c) → ∀ p ∈ c, ∀ k ∈ refsC p, s.hp k ≠ none)

theorem actM_looks {tm tm' : Nat → PV} (h : ∀ t ∈ looks ops o, tm t = tm' t) : actM C P ops o tm = actM C P ops o tm' := by
  unfold actM
  rw [verdict_looks h]

theorem swap_RR (hw : Has C P o s) (ap : Apart C P ops x o) (hx : actM C P ops x s.tm = false) (ho : actM C P ops o s.tm = false)
    (h : gopK C P N call ops x s (fun s1 => gopK C P N call ops o s1 K) = some r) : gopK C P N call ops o s (fun s1 => gopK C P N call ops x s1 K) = some r := by
  rw [gopK_R hx] at h
  cases ex : gE C P N call ops x s with
  | none => rw [ex] at h; cases h
  | some q =>
  obtain ⟨vx, fx, nx⟩ := q
  rw [ex] at h
  obtain ⟨hb, h1⟩ := chk_inv h
  simp only [Bool.and_eq_true] at hb
  have t1 : ∀ t ∈ looks ops o, putTm s.tm x.dst vx t = s.tm t := putTm_look ap.xo
  change gopK C P N call ops o ⟨putTm s.tm x.dst vx, addBoxes (freezeIds s.hp fx) nx⟩ K = some r at h1
  rw [gopK_R (by rw [actM_looks t1]; exact ho)] at h1
  cases eo : gE C P N call ops o ⟨putTm s.tm x.dst vx, addBoxes (freezeIds s.hp fx) nx⟩ with
  | none => rw [eo] at h1; cases h1
  | some q =>
  obtain ⟨vo, fo, no⟩ := q
  rw [eo] at h1
  obtain ⟨hc, h2⟩ := chk_inv h1
  change K ⟨putTm (putTm s.tm x.dst vx) o.dst vo, addBoxes (freezeIds (addBoxes (freezeIds s.hp fx) nx) fo) no⟩ = some r at h2
  simp only [Bool.and_eq_true] at hc
  have eo' : gE C P N call ops o s = some (vo, fo, no) := by
    refine gE_more t1 (fun _ y hy i hi => ?_) eo
    have := hw.1 y hy i hi
    exact .inl ⟨rd_after hb.2 this, rda_after hb.2 this⟩
  have ho' : absent s.hp no = true := absent_of hc.2 fun i b hi => by
    cases hs : s.hp i with
    | none => rfl
    | some c => exact absurd ((absent_spec hc.2).1 i b hi) (after_some hb.2 (by rw [hs]; simp))
  rw [gopK_R ho, eo']
  have hx' : absent (addBoxes (freezeIds s.hp fo) no) nx = true := absent_of hb.2 fun i b hi => by
    refine after_none ho' ((absent_spec hb.2).1 i b hi) fun c hc' => ?_
    have := (absent_spec hc.2).1 i c hc'
    rw [after_new hb.2 hi] at this
    cases this
  have t2 : ∀ t ∈ looks ops x, s.tm t = putTm s.tm o.dst vo t := fun t ht => (putTm_look ap.ox t ht).symm
  have ex' : gE C P N call ops x ⟨putTm s.tm o.dst vo, addBoxes (freezeIds s.hp fo) no⟩ = some (vx, fx, nx) := by
    refine gE_more t2 (fun _ y hy i hi => ?_) ex
    by_cases hs : s.hp i = none
    · exact .inr ⟨rd_none hs, rda_none hs⟩
    · exact .inl ⟨(rd_after ho' hs).symm, (rda_after ho' hs).symm⟩
  show chk _ _ = _
  rw [hc.1, ho']
  show gopK C P N call ops x ⟨putTm s.tm o.dst vo, addBoxes (freezeIds s.hp fo) no⟩ K = some r
  rw [gopK_R (by rw [← actM_looks t2]; exact hx), ex']
  show chk _ _ = _
  rw [hb.1, hx']
  rw [← h2]
  have hfx : ∀ i ∈ fx, s.hp i ≠ none := fun i hi hs => (gE_facts ex).2 i hi (rda_none hs)
  have hfo : ∀ i ∈ fo, s.hp i ≠ none := fun i hi hs => (gE_facts eo').2 i hi (rda_none hs)
  show K ⟨putTm (putTm s.tm o.dst vo) x.dst vx, addBoxes (freezeIds (addBoxes (freezeIds s.hp fo) no) fx) nx⟩ = K _
  rw [putTm_comm ap.ne, after_comm hb.2 hc.2 ho' hx' hfx hfo]
end

end Go.Proofs.Ytoihfmiifeegpaa.Pv
