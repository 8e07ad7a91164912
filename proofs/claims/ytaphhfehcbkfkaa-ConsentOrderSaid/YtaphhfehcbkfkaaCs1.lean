/-
  Consent: what Await computes, here and in the reference.
-/
import Derived.Test.YtaphhfehcbkfkaaSt6
import Derived.Test.YtaphhfehcbkfkaaGnE
set_option linter.unusedSimpArgs false
set_option linter.unusedVariables false
namespace Go.Proofs.Ytaphhfehcbkfkaa.Pv

structure Out4 where
  p : Bool
  v : Bool
  t : Int
  e : Int

def Out4.res (o : Out4) : List PV := [.agg [.sc (.bool o.p), .sc (.bool o.v), .sc (.int .i64 o.t)], .sc (.int .i64 o.e)]

/-- What one gesture decides. -/
def decG (fi vf : Bool) (g : Ge) : Option Out4 :=
  if g.kd = 4 then some ⟨false, false, 0, 20⟩ else if g.kd = 5 then some ⟨false, false, 0, 21⟩ else
  if g.kd = 2 then (if fi then some ⟨true, true, g.tm, 0⟩ else if vf then some ⟨false, false, 0, 20⟩ else some ⟨true, false, g.tm, 0⟩) else
  if g.kd = 3 then (if vf then some ⟨false, false, 0, 20⟩ else some ⟨true, false, g.tm, 0⟩) else
  if g.kd = 1 then (if vf then none else some ⟨true, false, g.tm, 0⟩) else none

def resD : Option Out4 → List PV
  | some o => o.res ++ [.sc (.bool true)]
  | none => [.agg [.sc (.bool false), .sc (.bool false), .sc (.int .i64 0)], .sc (.int .i64 0), .sc (.bool false)]

def endE (now : Int) : Int := if 1099511627776 < now + 30 then 1099511627776 else now + 30
def rowsG (at' : Int) : Nat → List Ge → List Ge
  | 0, _ => []
  | k + 1, l => l.filter (fun g => g.tm == at') ++ rowsG (at' + 1) k l
def scanE (fi vf : Bool) (l : List Ge) : Out4 := (l.findSome? (decG fi vf)).getD ⟨false, false, 0, 19⟩
def awaitE (now : Int) (fi vf : Bool) (l : List Ge) : Out4 :=
  if now < 0 then ⟨false, false, 0, 9⟩ else if 1099511627776 < now then ⟨false, false, 0, 9⟩ else
  if vf = true ∧ fi = false then ⟨false, false, 0, 23⟩ else scanE fi vf (rowsG (now + 1) (endE now - now).toNat l)

theorem rowsG_mem : ∀ (k : Nat) (a : Int) (l : List Ge) (x : Ge), x ∈ rowsG a k l ↔ x ∈ l ∧ a ≤ x.tm ∧ x.tm < a + k
  | 0, a, l, x => by
    simp only [rowsG, List.not_mem_nil, false_iff]
    omega
  | k + 1, a, l, x => by
    rw [rowsG, List.mem_append, List.mem_filter, rowsG_mem k]
    simp only [beq_iff_eq]
    constructor
    · rintro (⟨h1, h2⟩ | ⟨h1, h2, h3⟩)
      · exact ⟨h1, by omega, by omega⟩
      · exact ⟨h1, by omega, by omega⟩
    · rintro ⟨h1, h2, h3⟩
      by_cases e : x.tm = a
      · exact .inl ⟨h1, e⟩
      · exact .inr ⟨h1, by omega, by omega⟩
theorem rowsG_srt : ∀ (k : Nat) (a : Int) (l : List Ge), Srt (rowsG a k l)
  | 0, a, l => by simp [rowsG, SortedK]
  | k + 1, a, l => by
    refine SortedK.app ?_ (rowsG_srt k (a + 1) l) ?_
    · refine List.Pairwise.imp_of_mem ?_ (List.pairwise_of_forall (R := fun _ _ => True) (fun _ _ => trivial))
      intro x y hx hy _
      have h1 := (List.mem_filter.1 hx).2
      have h2 := (List.mem_filter.1 hy).2
      simp only [beq_iff_eq] at h1 h2
      omega
    · intro x hx y hy
      have h1 := (List.mem_filter.1 hx).2
      simp only [beq_iff_eq] at h1
      have h2 := (rowsG_mem _ _ _ _).1 hy
      omega
theorem rowsG_key : ∀ (k : Nat) (a : Int) (l : List Ge) (z : Int), (rowsG a k l).filter (fun g => g.tm == z) = if a ≤ z ∧ z < a + k then l.filter (fun g => g.tm == z) else []
  | 0, a, l, z => by rw [if_neg (by omega)]; simp [rowsG]
  | k + 1, a, l, z => by
    rw [rowsG, List.filter_append, rowsG_key k, List.filter_filter]
    by_cases e : z = a
    · subst e
      rw [if_neg (by omega), if_pos (by omega)]
      simp
    · have : (fun g : Ge => (g.tm == z) && (g.tm == a)) = fun _ => false := by
        funext g
        by_cases h : g.tm = z
        · simp [h, e]
        · simp [h]
      rw [this, List.filter_eq_nil_iff.2 (by simp), List.nil_append]
      by_cases h : a + 1 ≤ z ∧ z < a + 1 + k
      · rw [if_pos h, if_pos (by omega)]
      · rw [if_neg h, if_neg (by omega)]

section
variable {fu d : Nat}

theorem decide_eq' (g : Ge) (fi vf : Bool) : pcall C0 Try.prog fu (d + 1) F_consent_decide [.agg [.sc (.int .i64 g.tm), .sc (.int .i64 g.kd)], .sc (.bool fi), .sc (.bool vf)] = some ⟨resD (decG fi vf g), []⟩ := by
  rw [consent_decide_e]
  simp only [nd_breq, nd_brif]
  unfold decG
  by_cases h4 : g.kd = 4
  · simp [h4, resD, Out4.res]
  by_cases h5 : g.kd = 5
  · simp [h5, resD, Out4.res]
  by_cases h2 : g.kd = 2
  · cases fi <;> cases vf <;> simp [h2, resD, Out4.res]
  by_cases h3 : g.kd = 3
  · cases fi <;> cases vf <;> simp [h3, resD, Out4.res]
  by_cases h1 : g.kd = 1
  · cases fi <;> cases vf <;> simp [h1, resD, Out4.res]
  simp [h1, h2, h3, h4, h5, resD]

theorem count_loop {call : Call'} {a0 now en : Int} {n : Nat} {c : List PV} {l : List Ge} (hl : l.length ≤ 100) : ∀ (r : List Ge) (nn i : Nat) (acc : List Ge), l.drop i = r → r.length < nn → acc.length ≤ i → i ≤ l.length →
    consent_counting_L0 fu call a0 n c nn now en acc.length l.length (encG l) l.length i (encG acc) = consent_counting_L0 fu call a0 n c (nn - r.length) now en (acc ++ r.filter (fun g => decide (now < g.tm) && decide (g.tm ≤ en))).length l.length (encG l) l.length l.length (encG (acc ++ r.filter (fun g => decide (now < g.tm) && decide (g.tm ≤ en))))
  | [], nn, i, acc, h, hn, hi, hi' => by
    have := drop_nil h
    have e : i = l.length := by omega
    subst e
    simp
  | g :: r, 0, i, acc, h, hn, hi, hi' => by omega
  | g :: r, nn + 1, i, acc, h, hn, hi, hi' => by
    obtain ⟨h1, h2, h3⟩ := drop_cons h
    simp only [List.length_cons] at hn
    have w : IntKind.wrap .i64 ((i : Int) + 1) = ((i + 1 : Nat) : Int) := by rw [wrap_i64 (by omega) (by omega)]; omega
    have g1 := gtm h2
    have g2 := gkd h2
    rw [Nat.zero_add] at g1 g2
    have t1 : List.take (acc.length * 2) (encG acc) = encG acc := List.take_of_length_le (by rw [encG_len]; omega)
    have t2 : encG acc ++ [PV.sc (.int .i64 g.tm), PV.sc (.int .i64 g.kd)] = encG (acc ++ [g]) := by rw [encG_app]; rfl
    have L := encG_len acc
    rw [consent_counting_L0_s]
    rw [List.filter_cons]
    have en' : nn + 1 - (g :: r).length = nn - r.length := by simp
    rw [en']
    by_cases c1 : now < g.tm
    · by_cases c2 : g.tm ≤ en
      · have ih := count_loop (call := call) (a0 := a0) (now := now) (en := en) (n := n) (c := c) hl r nn (i + 1) (acc ++ [g]) h3 (by omega) (by simp; omega) (by omega)
        simp only [c1, c2, decide_true, Bool.and_true, if_true]
        rw [show acc ++ g :: r.filter (fun g => decide (now < g.tm) && decide (g.tm ≤ en)) = acc ++ [g] ++ r.filter (fun g => decide (now < g.tm) && decide (g.tm ≤ en)) by simp]
        rw [← ih]
        simp (disch := omega) only [nd_call, nd_nil, nd_cons, nd_bool, nd_str, nd_int, nd_any, nd_ls, nd_ow, nd_agg, nd_pbox, nd_opt, nd_share, nd_chk, nd_chkd, nd_chka, nd_brT, nd_brF, nd_brt, nd_brf, nd_both, Bool.not_true, Bool.not_false, Bool.false_eq_true, if_true, if_false, Bool.true_and, Bool.and_true, Bool.false_and, Bool.and_false, decide_true, decide_false, Int.toNat_natCast, g1, g2, c1, c2, t1, t2, w, List.length_append, List.length_cons, List.length_nil, Nat.zero_add]
      · have ih := count_loop (call := call) (a0 := a0) (now := now) (en := en) (n := n) (c := c) hl r nn (i + 1) acc h3 (by omega) (by omega) (by omega)
        simp only [c1, c2, decide_true, decide_false, Bool.and_false, if_false, Bool.false_eq_true]
        rw [← ih]
        simp (disch := omega) only [nd_call, nd_nil, nd_cons, nd_bool, nd_str, nd_int, nd_any, nd_ls, nd_ow, nd_agg, nd_pbox, nd_opt, nd_share, nd_chk, nd_chkd, nd_chka, nd_brT, nd_brF, nd_brt, nd_brf, nd_both, Bool.not_true, Bool.not_false, Bool.false_eq_true, if_true, if_false, Bool.true_and, Bool.and_true, Bool.false_and, Bool.and_false, decide_true, decide_false, Int.toNat_natCast, g1, g2, c1, c2, w]
    · have ih := count_loop (call := call) (a0 := a0) (now := now) (en := en) (n := n) (c := c) hl r nn (i + 1) acc h3 (by omega) (by omega) (by omega)
      simp only [c1, decide_false, Bool.false_and, if_false, Bool.false_eq_true]
      rw [← ih]
      simp (disch := omega) only [nd_call, nd_nil, nd_cons, nd_bool, nd_str, nd_int, nd_any, nd_ls, nd_ow, nd_agg, nd_pbox, nd_opt, nd_share, nd_chk, nd_chkd, nd_chka, nd_brT, nd_brF, nd_brt, nd_brf, nd_both, Bool.not_true, Bool.not_false, Bool.false_eq_true, if_true, if_false, Bool.true_and, Bool.and_true, Bool.false_and, Bool.and_false, decide_true, decide_false, Int.toNat_natCast, g1, g2, c1, w]

theorem count_ex (hfu : 1000 < fu) {l : List Ge} (hl : l.length ≤ 100) (now : Int) (h0 : 0 ≤ now) (h1 : now ≤ 1099511627776) :
    pcall C0 Try.prog fu (d + 107) F_consent_counting [.sc (.int .i64 now), .lst false 2 l.length (encG l)] = some ⟨[.own 2 (rowsG (now + 1) (endE now - now).toNat l).length (encG (rowsG (now + 1) (endE now - now).toNat l))], []⟩ := by
  have w : IntKind.wrap .i64 (now + 30) = now + 30 := wrap_i64 (by omega) (by omega)
  rw [consent_counting_e]
  simp only [nd_share, w]
  have hen : (if (1099511627776 : Int) < now + 30 then (1099511627776 : Int) else now + 30) = endE now := rfl
  rw [hen]
  have hE : now ≤ endE now := by unfold endE; split <;> omega
  have lp := count_loop (fu := fu) (call := pcall C0 Try.prog fu (d + 106)) (a0 := now) (now := now) (en := endE now) (n := l.length) (c := encG l) hl l fu 0 [] rfl (by omega) (by simp) (by omega)
  rw [List.nil_append] at lp
  obtain ⟨f', hf'⟩ : ∃ f', fu - l.length = f' + 1 := ⟨fu - l.length - 1, by omega⟩
  rw [hf'] at lp
  obtain ⟨K, hK⟩ : ∃ K, K = l.filter (fun g => decide (now < g.tm) && decide (g.tm ≤ endE now)) := ⟨_, rfl⟩
  rw [← hK] at lp
  have hKl : K.length ≤ l.length := by rw [hK]; exact List.length_filter_le _ _
  obtain ⟨S', k1, k2, k3⟩ := sort_ex (fu := fu) (d := d) hfu K (by omega)
  have hS : S' = rowsG (now + 1) (endE now - now).toNat l := by
    refine sorted_unique (rowsG_srt _ _ _) k1 ?_
    intro z
    rw [k2 z, rowsG_key, hK, List.filter_filter]
    by_cases hz : now + 1 ≤ z ∧ z < now + 1 + ((endE now - now).toNat : Int)
    · rw [if_pos hz]
      refine congrArg (fun p => List.filter p l) ?_
      funext g
      by_cases e : g.tm = z
      · have a1 : now < g.tm := by omega
        have a2 : g.tm ≤ endE now := by omega
        simp [e ▸ a1, e ▸ a2, e]
      · simp [e]
    · rw [if_neg hz, List.filter_eq_nil_iff]
      intro g _ hg
      simp only [Bool.and_eq_true, beq_iff_eq, decide_eq_true_eq] at hg
      omega
  have hSl := k2.len
  have hend : consent_counting_L0 fu (pcall C0 Try.prog fu (d + 106)) now l.length (encG l) (f' + 1) now (endE now) K.length l.length (encG l) l.length l.length (encG K) = some ⟨[.own 2 S'.length (encG S')], []⟩ := by
    rw [consent_counting_L0_s, nd_brf _ _ _ (by omega)]
    have t1 : List.take (K.length * 2) (encG S') = encG S' := List.take_of_length_le (by rw [encG_len]; omega)
    have L := encG_len S'
    simp (disch := omega) only [nd_call, nd_nil, nd_cons, nd_bool, nd_str, nd_int, nd_any, nd_ls, nd_ow, nd_agg, nd_pbox, nd_opt, nd_share, nd_chk, nd_chkd, nd_chka, nd_brT, nd_brF, nd_brt, nd_brf, nd_both, Bool.not_true, Bool.not_false, Bool.false_eq_true, if_true, if_false, Bool.true_and, Bool.and_true, Bool.false_and, Bool.and_false, decide_true, decide_false, k3, t1, hSl]
  rw [← hS]
  exact (lp.trans hend)

theorem await_loop {a0 : Int} {b1 b2 : Bool} {n : Nat} {c : List PV} {fi vf y5 y6 : Bool} {y7 : Int} {l : List Ge} (hl : l.length ≤ 1000) : ∀ (r : List Ge) (nn i : Nat), l.drop i = r → r.length < nn →  i ≤ l.length →
    consent_Await_L0 fu (pcall C0 Try.prog fu (d + 1)) a0 b1 b2 n c nn fi vf l.length l.length i y5 y6 y7 (encG l) = some ⟨(scanE fi vf r).res, []⟩
  | _, 0, _, _, h, _ => by omega
  | [], nn + 1, i, h, hn, hi => by
    have := drop_nil h
    rw [consent_Await_L0_s, nd_brf _ _ _ (by omega)]
    rfl
  | g :: r, nn + 1, i, h, hn, hi => by
    obtain ⟨h1, h2, h3⟩ := drop_cons h
    simp only [List.length_cons] at hn
    have w : IntKind.wrap .i64 ((i : Int) + 1) = ((i + 1 : Nat) : Int) := by rw [wrap_i64 (by omega) (by omega)]; omega
    have ih := await_loop (a0 := a0) (b1 := b1) (b2 := b2) (n := n) (c := c) (fi := fi) (vf := vf) (y5 := y5) (y6 := y6) (y7 := y7) hl r nn (i + 1) h3 (by omega) (by omega)
    have dc := decide_eq' (fu := fu) (d := d) g fi vf
    rw [consent_Await_L0_s]
    cases hd : decG fi vf g with
    | none =>
      rw [hd] at dc
      have e : scanE fi vf (g :: r) = scanE fi vf r := by unfold scanE; rw [List.findSome?_cons, hd]
      rw [e, ← ih]
      simp (disch := omega) only [nd_call, nd_nil, nd_cons, nd_bool, nd_str, nd_int, nd_any, nd_ls, nd_ow, nd_agg, nd_pbox, nd_opt, nd_share, nd_chk, nd_chkd, nd_chka, nd_brT, nd_brF, nd_brt, nd_brf, nd_both, Bool.not_true, Bool.not_false, Bool.false_eq_true, if_true, if_false, Bool.true_and, Bool.and_true, Bool.false_and, Bool.and_false, decide_true, decide_false, Int.toNat_natCast, gtm h2, gkd h2, dc, resD, w]
    | some o =>
      rw [hd] at dc
      have e : scanE fi vf (g :: r) = o := by unfold scanE; rw [List.findSome?_cons, hd]; rfl
      rw [e]
      simp (disch := omega) only [nd_call, nd_nil, nd_cons, nd_bool, nd_str, nd_int, nd_any, nd_ls, nd_ow, nd_agg, nd_pbox, nd_opt, nd_share, nd_chk, nd_chkd, nd_chka, nd_brT, nd_brF, nd_brt, nd_brf, nd_both, Bool.not_true, Bool.not_false, Bool.false_eq_true, if_true, if_false, Bool.true_and, Bool.and_true, Bool.false_and, Bool.and_false, decide_true, decide_false, Int.toNat_natCast, gtm h2, gkd h2, dc, resD, Out4.res, List.cons_append, List.nil_append]

theorem rowsG_len (k : Nat) (a : Int) (l : List Ge) : (rowsG a k l).length ≤ k * l.length := by
  induction k generalizing a with
  | zero => simp [rowsG]
  | succ k ih =>
    rw [rowsG, List.length_append, Nat.succ_mul]
    have := List.length_filter_le (fun g : Ge => g.tm == a) l
    have := ih (a + 1)
    omega
end

end Go.Proofs.Ytaphhfehcbkfkaa.Pv
