/-
  Two operations that do not touch one another may change places.
-/
import Derived.Test.YtoihfmiifeegpaaPvS23
namespace Go.Proofs.Ytoihfmiifeegpaa.Pv
open Go.RowKit

abbrev Eff3 := PV × List Nat × List (Nat × Box)

/-- What a guard says: run, pass by, or unknown. -/
def verdict (ops : Array Oper) (o : Oper) (tm : Nat → PV) : Option Bool :=
  match o.guard with
  | none => some true
  | some (j, want) =>
    match (ops[j]?).bind (·.dst) with
    | none => none
    | some d =>
      match tm d with
      | .sc (.bool b) => some (b == want)
      | .sc (.tuple _) => some false
      | _ => none

section
variable {R : Type} {r : R} {C : Cfg} {P : Program} {N : Nat} {call : Call'} {ops : Array Oper} {o x : Oper} {s : St} {K : St → Option R}

theorem gopK_eq : gopK C P N call ops o s K = match verdict ops o s.tm with
    | none => none
    | some true => popK C P N call o s K
    | some false => chk (dstOk N o.dst) (K ⟨putTm s.tm o.dst (.sc undef), s.hp⟩) := by
  unfold gopK verdict
  cases o.guard with
  | none => rfl
  | some q =>
    obtain ⟨j, want⟩ := q
    cases hd : (ops[j]?).bind (·.dst) with
    | none => simp [hd]
    | some d =>
      simp only [hd]
      cases ht : s.tm d with
      | sc v =>
        cases v with
        | bool b =>
          cases b <;> cases want <;> simp only [brK, cond_true, cond_false, upd_self s.tm ht] <;> rfl
        | _ => rfl
      | _ => rfl

def effE (C : Cfg) (P : Program) (N : Nat) (call : Call') (o : Oper) (s : St) : Option Eff3 :=
  effK C P N call s.tm (rd s.hp) (rda s.hp) o fun v fz nw => some (v, fz, nw)

theorem effK_eq {K : PV → List Nat → List (Nat × Box) → Option R} : effK C P N call s.tm (rd s.hp) (rda s.hp) o K = (effE C P N call o s).bind fun q => K q.1 q.2.1 q.2.2 := by
  refine effK_rel (Rel := fun (a : Option R) (b : Option Eff3) => a = b.bind fun q => K q.1 q.2.1 q.2.2) (K := K) (K' := fun v fz nw => some (v, fz, nw)) rfl (fun _ _ => rfl) (fun _ _ _ _ _ => .inl ⟨rfl, rfl⟩) fun v fz nw _ _ => rfl

theorem effE_facts {q : Eff3} (h : effE C P N call o s = some q) : (memo P o.op = false → q.2.1 = [] ∧ ∀ p ∈ q.2.2, o.dst = some p.1) ∧ ∀ i ∈ q.2.1, rda s.hp i ≠ none := by
  have := effK_rel (C := C) (P := P) (N := N) (call := call) (o := o) (tm := s.tm) (tm' := s.tm) (f := rd s.hp) (f' := rd s.hp) (g := rda s.hp) (g' := rda s.hp)
    (Rel := fun (a : Option Eff3) (_ : Option Eff3) => ∀ q, a = some q → (memo P o.op = false → q.2.1 = [] ∧ ∀ p ∈ q.2.2, o.dst = some p.1) ∧ ∀ i ∈ q.2.1, rda s.hp i ≠ none)
    (K := fun v fz nw => some (v, fz, nw)) (K' := fun v fz nw => some (v, fz, nw)) (fun _ h => by cases h) (fun _ _ => rfl) (fun _ _ _ _ _ => .inl ⟨rfl, rfl⟩) (fun v fz nw h1 h2 q hq => by cases hq; exact ⟨h1, h2⟩)
  exact this q h

/-- What an operation gives, under its guard. -/
def gE (C : Cfg) (P : Program) (N : Nat) (call : Call') (ops : Array Oper) (o : Oper) (s : St) : Option Eff3 :=
  match verdict ops o s.tm with
  | none => none
  | some true => bif isM C P o.op then none else effE C P N call o s
  | some false => some (.sc undef, [], [])

/-- Is it a change of memory that is carried out? -/
def actM (C : Cfg) (P : Program) (ops : Array Oper) (o : Oper) (tm : Nat → PV) : Bool := isM C P o.op && (verdict ops o tm == some true)

theorem gopK_R (h : actM C P ops o s.tm = false) : gopK C P N call ops o s K = (gE C P N call ops o s).bind fun q => applyK N s o.dst q.1 q.2.1 q.2.2 K := by
  rw [gopK_eq]
  unfold gE
  unfold actM at h
  cases hv : verdict ops o s.tm with
  | none => rfl
  | some b =>
    rw [hv] at h
    cases b with
    | false =>
      show chk _ _ = applyK N s o.dst (.sc undef) [] [] K
      unfold applyK
      have h1 : absent s.hp [] = true := rfl
      have h2 : addBoxes (freezeIds s.hp []) [] = s.hp := rfl
      rw [h1, h2, Bool.and_true]
    | true =>
      have hm : isM C P o.op = false := by simpa using h
      simp only [popK, hm, cond_false]
      exact effK_eq

theorem gopK_M (h : actM C P ops o s.tm = true) : gopK C P N call ops o s K = mutK C P N call s o K := by
  rw [gopK_eq]
  unfold actM at h
  simp only [Bool.and_eq_true, beq_iff_eq] at h
  rw [h.2]
  simp only [popK, h.1, cond_true]

theorem gE_facts {q : Eff3} (h : gE C P N call ops o s = some q) : (memo P o.op = false → q.2.1 = [] ∧ ∀ p ∈ q.2.2, o.dst = some p.1) ∧ ∀ i ∈ q.2.1, rda s.hp i ≠ none := by
  unfold gE at h
  split at h
  · cases h
  · cases hm : isM C P o.op <;> rw [hm] at h
    · exact effE_facts h
    · cases h
  · cases h
    exact ⟨fun _ => ⟨rfl, by simp⟩, by simp⟩

theorem opv_looks {tm tm' : Nat → PV} (h : ∀ t ∈ looks ops o, tm t = tm' t) : ∀ y ∈ o.op.operands.toList, opv tm y = opv tm' y := by
  intro y hy
  cases y with
  | tmp t =>
    refine h t ?_
    unfold looks opTmps
    refine List.mem_append.2 (.inl (List.mem_filterMap.2 ⟨.tmp t, hy, rfl⟩))
  | const v => cases v <;> rfl
  | func f => rfl
  | «global» g => rfl

theorem verdict_looks {tm tm' : Nat → PV} (h : ∀ t ∈ looks ops o, tm t = tm' t) : verdict ops o tm = verdict ops o tm' := by
  unfold verdict
  cases hg : o.guard with
  | none => rfl
  | some q =>
    obtain ⟨j, want⟩ := q
    cases hd : (ops[j]?).bind (·.dst) with
    | none => simp [hd]
    | some d =>
      have : tm d = tm' d := h d (by
        unfold looks
        rw [hg]
        refine List.mem_append.2 (.inr ?_)
        simp only [hd]
        simp)
      simp only [hd, this]

/-- An operation gives the same in a memory that has more. -/
theorem gE_more {s' : St} {q : Eff3} (ht : ∀ t ∈ looks ops o, s.tm t = s'.tm t)
    (hm : memo P o.op = true → ∀ y ∈ o.op.operands.toList, ∀ i ∈ refs (opv s'.tm y), (rd s.hp i = rd s'.hp i ∧ rda s.hp i = rda s'.hp i) ∨ (rd s.hp i = none ∧ rda s.hp i = none))
    (h : gE C P N call ops o s = some q) : gE C P N call ops o s' = some q := by
  unfold gE at h ⊢
  rw [← verdict_looks ht]
  split at h
  · cases h
  · cases hM : isM C P o.op <;> rw [hM] at h
    · have := effK_rel (C := C) (P := P) (N := N) (call := call) (o := o) (tm := s.tm) (tm' := s'.tm) (f := rd s.hp) (f' := rd s'.hp) (g := rda s.hp) (g' := rda s'.hp)
        (Rel := fun (a b : Option Eff3) => a = some q → b = some q)
        (K := fun v fz nw => some (v, fz, nw)) (K' := fun v fz nw => some (v, fz, nw)) (fun h => h) (opv_looks ht)
        (fun hm' y hy i hi => (hm hm' y hy i hi).imp id fun h => ⟨h.1, h.2, fun _ h => by cases h⟩) (fun v fz nw _ _ h => h)
      exact this h
    · cases h
  · exact h
end

end Go.Proofs.Ytoihfmiifeegpaa.Pv
