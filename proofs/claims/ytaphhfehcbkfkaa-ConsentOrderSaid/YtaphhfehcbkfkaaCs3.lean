/-
  Consent: the law ConsentVerified.
-/
import Derived.Test.YtaphhfehcbkfkaaCs2
set_option linter.unusedSimpArgs false
set_option linter.unusedVariables false
namespace Go.Proofs.Ytaphhfehcbkfkaa.Pv

theorem decG_facts {fi vf : Bool} {g : Ge} {o : Out4} (h : decG fi vf g = some o) : (o.e = 0 → o.p = true ∧ o.t = g.tm ∧ (o.v = true → fi = true ∧ g.kd = 2) ∧ (vf = true → fi = true → o.v = true)) ∧ (o.e ≠ 0 → o.p = false ∧ o.v = false ∧ o.t = 0) := by
  unfold decG at h
  by_cases h4 : g.kd = 4
  · simp [h4] at h; subst h; simp
  by_cases h5 : g.kd = 5
  · simp [h5] at h; subst h; simp
  by_cases h2 : g.kd = 2
  · cases fi <;> cases vf <;> simp [h2] at h <;> subst h <;> simp [h2]
  by_cases h3 : g.kd = 3
  · cases fi <;> cases vf <;> simp [h3] at h <;> subst h <;> simp [h3]
  by_cases h1 : g.kd = 1
  · cases fi <;> cases vf <;> simp [h1] at h <;> subst h <;> simp [h1]
  simp [h1, h2, h3, h4, h5] at h

theorem awaitE_facts (now : Int) (fi vf : Bool) (x : List Ge) : ((awaitE now fi vf x).e = 0 → ((awaitE now fi vf x).v = true → fi = true ∧ ∃ g ∈ x, g.kd = 2 ∧ g.tm = (awaitE now fi vf x).t) ∧ (vf = true → (awaitE now fi vf x).v = true)) ∧ ((awaitE now fi vf x).e ≠ 0 → (awaitE now fi vf x).p = false ∧ (awaitE now fi vf x).v = false ∧ (awaitE now fi vf x).t = 0) := by
  unfold awaitE
  by_cases h0 : now < 0
  · simp [h0]
  by_cases h1 : 1099511627776 < now
  · simp [h0, h1]
  by_cases h2 : vf = true ∧ fi = false
  · simp [h0, h1, h2]
  rw [if_neg h0, if_neg h1, if_neg h2]
  unfold scanE
  cases hs : (rowsG (now + 1) (endE now - now).toNat x).findSome? (decG fi vf) with
  | none => simp
  | some o =>
    obtain ⟨g, hg, hd⟩ := List.exists_of_findSome?_eq_some hs
    have hm := ((rowsG_mem _ _ _ _).1 hg).1
    have hf := decG_facts hd
    simp only [Option.getD_some]
    refine ⟨fun he => ⟨fun hv => ⟨((hf.1 he).2.2.1 hv).1, g, hm, ((hf.1 he).2.2.1 hv).2, ((hf.1 he).2.1).symm⟩, fun hvf => (hf.1 he).2.2.2 hvf ?_⟩, hf.2⟩
    cases fi
    · exact absurd ⟨hvf, rfl⟩ h2
    · rfl

section
variable {fu d : Nat}
theorem ver_loop {call : Call'} {a0 e t : Int} {b1 b2 fi vf p v : Bool} {n : Nat} {c : List PV} {l : List Ge} (hl : l.length ≤ 100) : ∀ (r : List Ge) (nn i : Nat) (seen : Bool), l.drop i = r → r.length < nn → i ≤ l.length →
    passkeylaw13_ConsentVerified_L0 fu call a0 b1 b2 n c nn fi vf l.length e seen i (encG l) p v t = passkeylaw13_ConsentVerified_L0 fu call a0 b1 b2 n c (nn - r.length) fi vf l.length e (seen || r.any fun g => g.kd == 2 && g.tm == t) l.length (encG l) p v t
  | [], nn, i, seen, h, hn, hi => by
    have := drop_nil h
    have e : i = l.length := by omega
    subst e
    simp
  | g :: r, 0, i, seen, h, hn, hi => by omega
  | g :: r, nn + 1, i, seen, h, hn, hi => by
    obtain ⟨h1, h2, h3⟩ := drop_cons h
    simp only [List.length_cons] at hn
    have w : IntKind.wrap .i64 ((i : Int) + 1) = ((i + 1 : Nat) : Int) := by rw [wrap_i64 (by omega) (by omega)]; omega
    have ih := fun s => ver_loop (call := call) (a0 := a0) (e := e) (t := t) (b1 := b1) (b2 := b2) (fi := fi) (vf := vf) (p := p) (v := v) (n := n) (c := c) hl r nn (i + 1) s h3 (by omega) (by omega)
    have en' : nn + 1 - (g :: r).length = nn - r.length := by simp
    have g1 := gtm h2
    have g2 := gkd h2
    rw [en', List.any_cons, passkeylaw13_ConsentVerified_L0_s]
    cases seen
    · by_cases hk : g.kd = 2
      · have := ih (g.tm == t)
        rw [show (false || (g.kd == 2 && g.tm == t || r.any fun g => g.kd == 2 && g.tm == t)) = ((g.tm == t) || r.any fun g => g.kd == 2 && g.tm == t) by simp [hk]]
        rw [← this]
        try unfold shareK
        repeat first
          | (with_reducible apply go_nil; · with_reducible rfl)
          | (with_reducible apply go_cons; · with_reducible rfl)
          | (with_reducible apply go_int; · first | with_reducible rfl | (simp (disch := omega) only [Int.toNat_natCast, Nat.add_zero, g1, g2, w]; done) | (simp (disch := omega) only [Int.toNat_natCast, Nat.add_zero, g1, g2, w]; with_reducible rfl))
          | (with_reducible apply go_bool; · first | with_reducible rfl | (simp (disch := omega) only [Int.toNat_natCast, Nat.add_zero, g1, g2, w]; done) | (simp (disch := omega) only [Int.toNat_natCast, Nat.add_zero, g1, g2, w]; with_reducible rfl))
          | (with_reducible apply go_str; · first | with_reducible rfl | (simp (disch := omega) only [Int.toNat_natCast, Nat.add_zero, g1, g2, w]; done) | (simp (disch := omega) only [Int.toNat_natCast, Nat.add_zero, g1, g2, w]; with_reducible rfl))
          | (with_reducible apply go_any; · first | with_reducible rfl | (simp (disch := omega) only [Int.toNat_natCast, Nat.add_zero, g1, g2, w]; done) | (simp (disch := omega) only [Int.toNat_natCast, Nat.add_zero, g1, g2, w]; with_reducible rfl))
          | (with_reducible apply go_ow; · first | with_reducible rfl | (simp (disch := omega) only [Int.toNat_natCast, Nat.add_zero, g1, g2, w]; done) | (simp (disch := omega) only [Int.toNat_natCast, Nat.add_zero, g1, g2, w]; with_reducible rfl))
          | (with_reducible apply go_ls; · first | with_reducible rfl | (simp (disch := omega) only [Int.toNat_natCast, Nat.add_zero, g1, g2, w]; done) | (simp (disch := omega) only [Int.toNat_natCast, Nat.add_zero, g1, g2, w]; with_reducible rfl))
          | (with_reducible apply go_agg; · first | with_reducible rfl | (simp (disch := omega) only [Int.toNat_natCast, Nat.add_zero, g1, g2, w]; done) | (simp (disch := omega) only [Int.toNat_natCast, Nat.add_zero, g1, g2, w]; with_reducible rfl))
          | (with_reducible apply go_pbox; · first | with_reducible rfl | (simp (disch := omega) only [Int.toNat_natCast, Nat.add_zero, g1, g2, w]; done) | (simp (disch := omega) only [Int.toNat_natCast, Nat.add_zero, g1, g2, w]; with_reducible rfl))
          | (with_reducible apply go_opt; · first | with_reducible rfl | (simp (disch := omega) only [Int.toNat_natCast, Nat.add_zero, g1, g2, w]; done) | (simp (disch := omega) only [Int.toNat_natCast, Nat.add_zero, g1, g2, w]; with_reducible rfl))
          | (with_reducible apply go_chk; · first | with_reducible rfl | omega | (simp (disch := omega) only [Bool.and_eq_true, decide_eq_true_eq, beq_iff_eq, bne_iff_ne, Bool.not_eq_true', true_and, and_true, Int.toNat_natCast, Nat.add_zero, g1, g2, w]; done) | (simp (disch := omega) only [Bool.and_eq_true, decide_eq_true_eq, beq_iff_eq, bne_iff_ne, ne_eq, Bool.not_eq_true', true_and, and_true, Int.toNat_natCast, Nat.add_zero, g1, g2, w] <;> omega))
          | (with_reducible apply go_call; · first | with_reducible rfl | (simp (disch := omega) only [Int.toNat_natCast, Nat.add_zero, g1, g2, w]; done) | (simp (disch := omega) only [Int.toNat_natCast, Nat.add_zero, g1, g2, w]; with_reducible rfl))
          | (with_reducible apply go_brT; · first | with_reducible rfl | omega | (simp (disch := omega) only [Bool.and_eq_true, decide_eq_true_eq, beq_iff_eq, bne_iff_ne, Bool.not_eq_true', true_and, and_true, Int.toNat_natCast, Nat.add_zero, g1, g2, w]; done) | (simp (disch := omega) only [Bool.and_eq_true, decide_eq_true_eq, beq_iff_eq, bne_iff_ne, ne_eq, Bool.not_eq_true', true_and, and_true, Int.toNat_natCast, Nat.add_zero, g1, g2, w] <;> omega))
          | (with_reducible apply go_brF; · first | with_reducible rfl | (simp (disch := omega) only [decide_eq_false_iff_not, beq_eq_false_iff_ne, bne_eq_false_iff_eq, Bool.not_eq_false', Int.toNat_natCast, Nat.add_zero, g1, g2, w]; done) | (simp (disch := omega) only [decide_eq_false_iff_not, beq_eq_false_iff_ne, bne_eq_false_iff_eq, ne_eq, Bool.not_eq_false', Int.toNat_natCast, Nat.add_zero, g1, g2, w] <;> omega))
        try simp (disch := omega) only [Int.toNat_natCast, Nat.add_zero, g1, g2, w]
      · have := ih false
        rw [show (false || (g.kd == 2 && g.tm == t || r.any fun g => g.kd == 2 && g.tm == t)) = (false || r.any fun g => g.kd == 2 && g.tm == t) by simp [hk]]
        rw [← this]
        try unfold shareK
        repeat first
          | (with_reducible apply go_nil; · with_reducible rfl)
          | (with_reducible apply go_cons; · with_reducible rfl)
          | (with_reducible apply go_int; · first | with_reducible rfl | (simp (disch := omega) only [Int.toNat_natCast, Nat.add_zero, g1, g2, w]; done) | (simp (disch := omega) only [Int.toNat_natCast, Nat.add_zero, g1, g2, w]; with_reducible rfl))
          | (with_reducible apply go_bool; · first | with_reducible rfl | (simp (disch := omega) only [Int.toNat_natCast, Nat.add_zero, g1, g2, w]; done) | (simp (disch := omega) only [Int.toNat_natCast, Nat.add_zero, g1, g2, w]; with_reducible rfl))
          | (with_reducible apply go_str; · first | with_reducible rfl | (simp (disch := omega) only [Int.toNat_natCast, Nat.add_zero, g1, g2, w]; done) | (simp (disch := omega) only [Int.toNat_natCast, Nat.add_zero, g1, g2, w]; with_reducible rfl))
          | (with_reducible apply go_any; · first | with_reducible rfl | (simp (disch := omega) only [Int.toNat_natCast, Nat.add_zero, g1, g2, w]; done) | (simp (disch := omega) only [Int.toNat_natCast, Nat.add_zero, g1, g2, w]; with_reducible rfl))
          | (with_reducible apply go_ow; · first | with_reducible rfl | (simp (disch := omega) only [Int.toNat_natCast, Nat.add_zero, g1, g2, w]; done) | (simp (disch := omega) only [Int.toNat_natCast, Nat.add_zero, g1, g2, w]; with_reducible rfl))
          | (with_reducible apply go_ls; · first | with_reducible rfl | (simp (disch := omega) only [Int.toNat_natCast, Nat.add_zero, g1, g2, w]; done) | (simp (disch := omega) only [Int.toNat_natCast, Nat.add_zero, g1, g2, w]; with_reducible rfl))
          | (with_reducible apply go_agg; · first | with_reducible rfl | (simp (disch := omega) only [Int.toNat_natCast, Nat.add_zero, g1, g2, w]; done) | (simp (disch := omega) only [Int.toNat_natCast, Nat.add_zero, g1, g2, w]; with_reducible rfl))
          | (with_reducible apply go_pbox; · first | with_reducible rfl | (simp (disch := omega) only [Int.toNat_natCast, Nat.add_zero, g1, g2, w]; done) | (simp (disch := omega) only [Int.toNat_natCast, Nat.add_zero, g1, g2, w]; with_reducible rfl))
          | (with_reducible apply go_opt; · first | with_reducible rfl | (simp (disch := omega) only [Int.toNat_natCast, Nat.add_zero, g1, g2, w]; done) | (simp (disch := omega) only [Int.toNat_natCast, Nat.add_zero, g1, g2, w]; with_reducible rfl))
          | (with_reducible apply go_chk; · first | with_reducible rfl | omega | (simp (disch := omega) only [Bool.and_eq_true, decide_eq_true_eq, beq_iff_eq, bne_iff_ne, Bool.not_eq_true', true_and, and_true, Int.toNat_natCast, Nat.add_zero, g1, g2, w]; done) | (simp (disch := omega) only [Bool.and_eq_true, decide_eq_true_eq, beq_iff_eq, bne_iff_ne, ne_eq, Bool.not_eq_true', true_and, and_true, Int.toNat_natCast, Nat.add_zero, g1, g2, w] <;> omega))
          | (with_reducible apply go_call; · first | with_reducible rfl | (simp (disch := omega) only [Int.toNat_natCast, Nat.add_zero, g1, g2, w]; done) | (simp (disch := omega) only [Int.toNat_natCast, Nat.add_zero, g1, g2, w]; with_reducible rfl))
          | (with_reducible apply go_brT; · first | with_reducible rfl | omega | (simp (disch := omega) only [Bool.and_eq_true, decide_eq_true_eq, beq_iff_eq, bne_iff_ne, Bool.not_eq_true', true_and, and_true, Int.toNat_natCast, Nat.add_zero, g1, g2, w]; done) | (simp (disch := omega) only [Bool.and_eq_true, decide_eq_true_eq, beq_iff_eq, bne_iff_ne, ne_eq, Bool.not_eq_true', true_and, and_true, Int.toNat_natCast, Nat.add_zero, g1, g2, w] <;> omega))
          | (with_reducible apply go_brF; · first | with_reducible rfl | (simp (disch := omega) only [decide_eq_false_iff_not, beq_eq_false_iff_ne, bne_eq_false_iff_eq, Bool.not_eq_false', Int.toNat_natCast, Nat.add_zero, g1, g2, w]; done) | (simp (disch := omega) only [decide_eq_false_iff_not, beq_eq_false_iff_ne, bne_eq_false_iff_eq, ne_eq, Bool.not_eq_false', Int.toNat_natCast, Nat.add_zero, g1, g2, w] <;> omega))
        try simp (disch := omega) only [Int.toNat_natCast, Nat.add_zero, g1, g2, w]
    · have := ih true
      rw [show (true || (g.kd == 2 && g.tm == t || r.any fun g => g.kd == 2 && g.tm == t)) = (true || r.any fun g => g.kd == 2 && g.tm == t) by simp]
      rw [← this]
      try unfold shareK
      repeat first
        | (with_reducible apply go_nil; · with_reducible rfl)
        | (with_reducible apply go_cons; · with_reducible rfl)
        | (with_reducible apply go_int; · first | with_reducible rfl | (simp (disch := omega) only [Int.toNat_natCast, Nat.add_zero, g1, g2, w]; done) | (simp (disch := omega) only [Int.toNat_natCast, Nat.add_zero, g1, g2, w]; with_reducible rfl))
        | (with_reducible apply go_bool; · first | with_reducible rfl | (simp (disch := omega) only [Int.toNat_natCast, Nat.add_zero, g1, g2, w]; done) | (simp (disch := omega) only [Int.toNat_natCast, Nat.add_zero, g1, g2, w]; with_reducible rfl))
        | (with_reducible apply go_str; · first | with_reducible rfl | (simp (disch := omega) only [Int.toNat_natCast, Nat.add_zero, g1, g2, w]; done) | (simp (disch := omega) only [Int.toNat_natCast, Nat.add_zero, g1, g2, w]; with_reducible rfl))
        | (with_reducible apply go_any; · first | with_reducible rfl | (simp (disch := omega) only [Int.toNat_natCast, Nat.add_zero, g1, g2, w]; done) | (simp (disch := omega) only [Int.toNat_natCast, Nat.add_zero, g1, g2, w]; with_reducible rfl))
        | (with_reducible apply go_ow; · first | with_reducible rfl | (simp (disch := omega) only [Int.toNat_natCast, Nat.add_zero, g1, g2, w]; done) | (simp (disch := omega) only [Int.toNat_natCast, Nat.add_zero, g1, g2, w]; with_reducible rfl))
        | (with_reducible apply go_ls; · first | with_reducible rfl | (simp (disch := omega) only [Int.toNat_natCast, Nat.add_zero, g1, g2, w]; done) | (simp (disch := omega) only [Int.toNat_natCast, Nat.add_zero, g1, g2, w]; with_reducible rfl))
        | (with_reducible apply go_agg; · first | with_reducible rfl | (simp (disch := omega) only [Int.toNat_natCast, Nat.add_zero, g1, g2, w]; done) | (simp (disch := omega) only [Int.toNat_natCast, Nat.add_zero, g1, g2, w]; with_reducible rfl))
        | (with_reducible apply go_pbox; · first | with_reducible rfl | (simp (disch := omega) only [Int.toNat_natCast, Nat.add_zero, g1, g2, w]; done) | (simp (disch := omega) only [Int.toNat_natCast, Nat.add_zero, g1, g2, w]; with_reducible rfl))
        | (with_reducible apply go_opt; · first | with_reducible rfl | (simp (disch := omega) only [Int.toNat_natCast, Nat.add_zero, g1, g2, w]; done) | (simp (disch := omega) only [Int.toNat_natCast, Nat.add_zero, g1, g2, w]; with_reducible rfl))
        | (with_reducible apply go_chk; · first | with_reducible rfl | omega | (simp (disch := omega) only [Bool.and_eq_true, decide_eq_true_eq, beq_iff_eq, bne_iff_ne, Bool.not_eq_true', true_and, and_true, Int.toNat_natCast, Nat.add_zero, g1, g2, w]; done) | (simp (disch := omega) only [Bool.and_eq_true, decide_eq_true_eq, beq_iff_eq, bne_iff_ne, ne_eq, Bool.not_eq_true', true_and, and_true, Int.toNat_natCast, Nat.add_zero, g1, g2, w] <;> omega))
        | (with_reducible apply go_call; · first | with_reducible rfl | (simp (disch := omega) only [Int.toNat_natCast, Nat.add_zero, g1, g2, w]; done) | (simp (disch := omega) only [Int.toNat_natCast, Nat.add_zero, g1, g2, w]; with_reducible rfl))
        | (with_reducible apply go_brT; · first | with_reducible rfl | omega | (simp (disch := omega) only [Bool.and_eq_true, decide_eq_true_eq, beq_iff_eq, bne_iff_ne, Bool.not_eq_true', true_and, and_true, Int.toNat_natCast, Nat.add_zero, g1, g2, w]; done) | (simp (disch := omega) only [Bool.and_eq_true, decide_eq_true_eq, beq_iff_eq, bne_iff_ne, ne_eq, Bool.not_eq_true', true_and, and_true, Int.toNat_natCast, Nat.add_zero, g1, g2, w] <;> omega))
        | (with_reducible apply go_brF; · first | with_reducible rfl | (simp (disch := omega) only [decide_eq_false_iff_not, beq_eq_false_iff_ne, bne_eq_false_iff_eq, Bool.not_eq_false', Int.toNat_natCast, Nat.add_zero, g1, g2, w]; done) | (simp (disch := omega) only [decide_eq_false_iff_not, beq_eq_false_iff_ne, bne_eq_false_iff_eq, ne_eq, Bool.not_eq_false', Int.toNat_natCast, Nat.add_zero, g1, g2, w] <;> omega))
      try simp (disch := omega) only [Int.toNat_natCast, Nat.add_zero, g1, g2, w]
end

theorem consentVerified_plain (qs : List PV) (h : All2 (WTv Try.prog) [24, 4, 4, 23] qs) : ∃ C fu d, pcall C Try.prog fu d F_passkeylaw13_ConsentVerified qs = some ⟨[.sc (.bool true)], []⟩ := by
  obtain ⟨q0, _, rfl, h0, g⟩ := h.cons_inv
  obtain ⟨q1, _, rfl, h1, g⟩ := g.cons_inv
  obtain ⟨q2, _, rfl, h2, g⟩ := g.cons_inv
  obtain ⟨q3, _, rfl, h3, g⟩ := g.cons_inv
  obtain rfl := g.nil_inv
  clear h g
  obtain ⟨s, rfl, _⟩ := wtv_int (k := .u16) (by kernel_rfl) (by kernel_rfl) h0
  obtain ⟨fi, rfl⟩ := wtv_bool (by kernel_rfl) (by kernel_rfl) h1
  obtain ⟨vf, rfl⟩ := wtv_bool (by kernel_rfl) (by kernel_rfl) h2
  obtain ⟨m, rfl, _, _⟩ := wtv_ints (k := .u16) (e := 24) (by kernel_rfl) (by kernel_rfl) (by kernel_rfl) (by kernel_rfl) h3
  clear h0 h1 h2 h3
  obtain ⟨fu, hfu'⟩ : ∃ fu, fu = 2000 := ⟨_, rfl⟩
  have hfu : 1000 < fu := by omega
  refine ⟨C0, fu, 110, ?_⟩
  have aw := awake_eq (fu := fu) (d := 0) hfu
  rw [passkeylaw13_ConsentVerified_e]
  obtain ⟨x, hx, k3⟩ := made_ex (fu := fu) (d := 108) hfu (IntKind.wrap .i64 s) m
  have k4 := await_eq (fu := fu) (d := 1) hfu (l := x) (by omega) (IntKind.wrap .i64 s) fi vf
  have t1 : List.take (x.length * 2) (List.drop 0 (encG x)) = encG x := List.take_of_length_le (by rw [List.drop_zero, encG_len]; omega)
  have L := encG_len x
  have fc := awaitE_facts (IntKind.wrap .i64 s) fi vf x
  generalize awaitE (IntKind.wrap .i64 s) fi vf x = o at k4 fc
  obtain ⟨p, v, t, e⟩ := o
  simp only [Out4.res] at k4 fc
  have vl := ver_loop (fu := fu) (call := pcall C0 Try.prog fu 109) (a0 := s) (e := e) (t := t) (b1 := fi) (b2 := vf) (fi := fi) (vf := vf) (p := p) (v := v) (n := m.length) (c := encI .u16 m) (l := x) (by omega) x fu 0 false rfl (by omega) (by omega)
  obtain ⟨f', hf'⟩ : ∃ f', fu - x.length = f' + 1 := ⟨fu - x.length - 1, by omega⟩
  rw [hf', Bool.false_or] at vl
  have goal : passkeylaw13_ConsentVerified_L0 fu (pcall C0 Try.prog fu 109) s fi vf m.length (encI .u16 m) (f' + 1) fi vf x.length e (x.any fun g => g.kd == 2 && g.tm == t) x.length (encG x) p v t = some ⟨[.sc (.bool true)], []⟩ := by
    rw [passkeylaw13_ConsentVerified_L0_s, nd_brf _ _ _ (by omega)]
    by_cases he : e = 0
    · subst he
      have fc := fc.1 rfl
      cases v
      · have hv : vf = false := by
          cases vf
          · rfl
          · exact absurd (fc.2 rfl) (by simp)
        subst hv
        try unfold shareK
        repeat first
          | (with_reducible apply go_nil; · with_reducible rfl)
          | (with_reducible apply go_cons; · with_reducible rfl)
          | (with_reducible apply go_int; · first | with_reducible rfl | (simp (disch := omega) only [aw]; done) | (simp (disch := omega) only [aw]; with_reducible rfl))
          | (with_reducible apply go_bool; · first | with_reducible rfl | (simp (disch := omega) only [aw]; done) | (simp (disch := omega) only [aw]; with_reducible rfl))
          | (with_reducible apply go_str; · first | with_reducible rfl | (simp (disch := omega) only [aw]; done) | (simp (disch := omega) only [aw]; with_reducible rfl))
          | (with_reducible apply go_any; · first | with_reducible rfl | (simp (disch := omega) only [aw]; done) | (simp (disch := omega) only [aw]; with_reducible rfl))
          | (with_reducible apply go_ow; · first | with_reducible rfl | (simp (disch := omega) only [aw]; done) | (simp (disch := omega) only [aw]; with_reducible rfl))
          | (with_reducible apply go_ls; · first | with_reducible rfl | (simp (disch := omega) only [aw]; done) | (simp (disch := omega) only [aw]; with_reducible rfl))
          | (with_reducible apply go_agg; · first | with_reducible rfl | (simp (disch := omega) only [aw]; done) | (simp (disch := omega) only [aw]; with_reducible rfl))
          | (with_reducible apply go_pbox; · first | with_reducible rfl | (simp (disch := omega) only [aw]; done) | (simp (disch := omega) only [aw]; with_reducible rfl))
          | (with_reducible apply go_opt; · first | with_reducible rfl | (simp (disch := omega) only [aw]; done) | (simp (disch := omega) only [aw]; with_reducible rfl))
          | (with_reducible apply go_chk; · first | with_reducible rfl | omega | (simp (disch := omega) only [Bool.and_eq_true, decide_eq_true_eq, beq_iff_eq, bne_iff_ne, Bool.not_eq_true', true_and, and_true, aw]; done) | (simp (disch := omega) only [Bool.and_eq_true, decide_eq_true_eq, beq_iff_eq, bne_iff_ne, ne_eq, Bool.not_eq_true', true_and, and_true, aw] <;> omega))
          | (with_reducible apply go_call; · first | with_reducible rfl | (simp (disch := omega) only [aw]; done) | (simp (disch := omega) only [aw]; with_reducible rfl))
          | (with_reducible apply go_brT; · first | with_reducible rfl | omega | (simp (disch := omega) only [Bool.and_eq_true, decide_eq_true_eq, beq_iff_eq, bne_iff_ne, Bool.not_eq_true', true_and, and_true, aw]; done) | (simp (disch := omega) only [Bool.and_eq_true, decide_eq_true_eq, beq_iff_eq, bne_iff_ne, ne_eq, Bool.not_eq_true', true_and, and_true, aw] <;> omega))
          | (with_reducible apply go_brF; · first | with_reducible rfl | (simp (disch := omega) only [decide_eq_false_iff_not, beq_eq_false_iff_ne, bne_eq_false_iff_eq, Bool.not_eq_false', aw]; done) | (simp (disch := omega) only [decide_eq_false_iff_not, beq_eq_false_iff_ne, bne_eq_false_iff_eq, ne_eq, Bool.not_eq_false', aw] <;> omega))
        try simp (disch := omega) only [aw]
      · obtain ⟨hfi, gg, hg, hg2, hg3⟩ := fc.1 rfl
        subst hfi
        have ha : (x.any fun g => g.kd == 2 && g.tm == t) = true := List.any_eq_true.2 ⟨gg, hg, by simp [hg2, hg3]⟩
        rw [ha]
        cases vf
        · skip
          try unfold shareK
          repeat first
            | (with_reducible apply go_nil; · with_reducible rfl)
            | (with_reducible apply go_cons; · with_reducible rfl)
            | (with_reducible apply go_int; · first | with_reducible rfl | (simp (disch := omega) only [aw]; done) | (simp (disch := omega) only [aw]; with_reducible rfl))
            | (with_reducible apply go_bool; · first | with_reducible rfl | (simp (disch := omega) only [aw]; done) | (simp (disch := omega) only [aw]; with_reducible rfl))
            | (with_reducible apply go_str; · first | with_reducible rfl | (simp (disch := omega) only [aw]; done) | (simp (disch := omega) only [aw]; with_reducible rfl))
            | (with_reducible apply go_any; · first | with_reducible rfl | (simp (disch := omega) only [aw]; done) | (simp (disch := omega) only [aw]; with_reducible rfl))
            | (with_reducible apply go_ow; · first | with_reducible rfl | (simp (disch := omega) only [aw]; done) | (simp (disch := omega) only [aw]; with_reducible rfl))
            | (with_reducible apply go_ls; · first | with_reducible rfl | (simp (disch := omega) only [aw]; done) | (simp (disch := omega) only [aw]; with_reducible rfl))
            | (with_reducible apply go_agg; · first | with_reducible rfl | (simp (disch := omega) only [aw]; done) | (simp (disch := omega) only [aw]; with_reducible rfl))
            | (with_reducible apply go_pbox; · first | with_reducible rfl | (simp (disch := omega) only [aw]; done) | (simp (disch := omega) only [aw]; with_reducible rfl))
            | (with_reducible apply go_opt; · first | with_reducible rfl | (simp (disch := omega) only [aw]; done) | (simp (disch := omega) only [aw]; with_reducible rfl))
            | (with_reducible apply go_chk; · first | with_reducible rfl | omega | (simp (disch := omega) only [Bool.and_eq_true, decide_eq_true_eq, beq_iff_eq, bne_iff_ne, Bool.not_eq_true', true_and, and_true, aw]; done) | (simp (disch := omega) only [Bool.and_eq_true, decide_eq_true_eq, beq_iff_eq, bne_iff_ne, ne_eq, Bool.not_eq_true', true_and, and_true, aw] <;> omega))
            | (with_reducible apply go_call; · first | with_reducible rfl | (simp (disch := omega) only [aw]; done) | (simp (disch := omega) only [aw]; with_reducible rfl))
            | (with_reducible apply go_brT; · first | with_reducible rfl | omega | (simp (disch := omega) only [Bool.and_eq_true, decide_eq_true_eq, beq_iff_eq, bne_iff_ne, Bool.not_eq_true', true_and, and_true, aw]; done) | (simp (disch := omega) only [Bool.and_eq_true, decide_eq_true_eq, beq_iff_eq, bne_iff_ne, ne_eq, Bool.not_eq_true', true_and, and_true, aw] <;> omega))
            | (with_reducible apply go_brF; · first | with_reducible rfl | (simp (disch := omega) only [decide_eq_false_iff_not, beq_eq_false_iff_ne, bne_eq_false_iff_eq, Bool.not_eq_false', aw]; done) | (simp (disch := omega) only [decide_eq_false_iff_not, beq_eq_false_iff_ne, bne_eq_false_iff_eq, ne_eq, Bool.not_eq_false', aw] <;> omega))
          try simp (disch := omega) only [aw]
        · skip
          try unfold shareK
          repeat first
            | (with_reducible apply go_nil; · with_reducible rfl)
            | (with_reducible apply go_cons; · with_reducible rfl)
            | (with_reducible apply go_int; · first | with_reducible rfl | (simp (disch := omega) only [aw]; done) | (simp (disch := omega) only [aw]; with_reducible rfl))
            | (with_reducible apply go_bool; · first | with_reducible rfl | (simp (disch := omega) only [aw]; done) | (simp (disch := omega) only [aw]; with_reducible rfl))
            | (with_reducible apply go_str; · first | with_reducible rfl | (simp (disch := omega) only [aw]; done) | (simp (disch := omega) only [aw]; with_reducible rfl))
            | (with_reducible apply go_any; · first | with_reducible rfl | (simp (disch := omega) only [aw]; done) | (simp (disch := omega) only [aw]; with_reducible rfl))
            | (with_reducible apply go_ow; · first | with_reducible rfl | (simp (disch := omega) only [aw]; done) | (simp (disch := omega) only [aw]; with_reducible rfl))
            | (with_reducible apply go_ls; · first | with_reducible rfl | (simp (disch := omega) only [aw]; done) | (simp (disch := omega) only [aw]; with_reducible rfl))
            | (with_reducible apply go_agg; · first | with_reducible rfl | (simp (disch := omega) only [aw]; done) | (simp (disch := omega) only [aw]; with_reducible rfl))
            | (with_reducible apply go_pbox; · first | with_reducible rfl | (simp (disch := omega) only [aw]; done) | (simp (disch := omega) only [aw]; with_reducible rfl))
            | (with_reducible apply go_opt; · first | with_reducible rfl | (simp (disch := omega) only [aw]; done) | (simp (disch := omega) only [aw]; with_reducible rfl))
            | (with_reducible apply go_chk; · first | with_reducible rfl | omega | (simp (disch := omega) only [Bool.and_eq_true, decide_eq_true_eq, beq_iff_eq, bne_iff_ne, Bool.not_eq_true', true_and, and_true, aw]; done) | (simp (disch := omega) only [Bool.and_eq_true, decide_eq_true_eq, beq_iff_eq, bne_iff_ne, ne_eq, Bool.not_eq_true', true_and, and_true, aw] <;> omega))
            | (with_reducible apply go_call; · first | with_reducible rfl | (simp (disch := omega) only [aw]; done) | (simp (disch := omega) only [aw]; with_reducible rfl))
            | (with_reducible apply go_brT; · first | with_reducible rfl | omega | (simp (disch := omega) only [Bool.and_eq_true, decide_eq_true_eq, beq_iff_eq, bne_iff_ne, Bool.not_eq_true', true_and, and_true, aw]; done) | (simp (disch := omega) only [Bool.and_eq_true, decide_eq_true_eq, beq_iff_eq, bne_iff_ne, ne_eq, Bool.not_eq_true', true_and, and_true, aw] <;> omega))
            | (with_reducible apply go_brF; · first | with_reducible rfl | (simp (disch := omega) only [decide_eq_false_iff_not, beq_eq_false_iff_ne, bne_eq_false_iff_eq, Bool.not_eq_false', aw]; done) | (simp (disch := omega) only [decide_eq_false_iff_not, beq_eq_false_iff_ne, bne_eq_false_iff_eq, ne_eq, Bool.not_eq_false', aw] <;> omega))
          try simp (disch := omega) only [aw]
    · obtain ⟨e1, e2, e3⟩ := fc.2 he
      subst e1 e2 e3
      try unfold shareK
      repeat first
        | (with_reducible apply go_nil; · with_reducible rfl)
        | (with_reducible apply go_cons; · with_reducible rfl)
        | (with_reducible apply go_int; · first | with_reducible rfl | (simp (disch := omega) only [aw, beq_self_eq_true, Bool.and_true]; done) | (simp (disch := omega) only [aw, beq_self_eq_true, Bool.and_true]; with_reducible rfl))
        | (with_reducible apply go_bool; · first | with_reducible rfl | (simp (disch := omega) only [aw, beq_self_eq_true, Bool.and_true]; done) | (simp (disch := omega) only [aw, beq_self_eq_true, Bool.and_true]; with_reducible rfl))
        | (with_reducible apply go_str; · first | with_reducible rfl | (simp (disch := omega) only [aw, beq_self_eq_true, Bool.and_true]; done) | (simp (disch := omega) only [aw, beq_self_eq_true, Bool.and_true]; with_reducible rfl))
        | (with_reducible apply go_any; · first | with_reducible rfl | (simp (disch := omega) only [aw, beq_self_eq_true, Bool.and_true]; done) | (simp (disch := omega) only [aw, beq_self_eq_true, Bool.and_true]; with_reducible rfl))
        | (with_reducible apply go_ow; · first | with_reducible rfl | (simp (disch := omega) only [aw, beq_self_eq_true, Bool.and_true]; done) | (simp (disch := omega) only [aw, beq_self_eq_true, Bool.and_true]; with_reducible rfl))
        | (with_reducible apply go_ls; · first | with_reducible rfl | (simp (disch := omega) only [aw, beq_self_eq_true, Bool.and_true]; done) | (simp (disch := omega) only [aw, beq_self_eq_true, Bool.and_true]; with_reducible rfl))
        | (with_reducible apply go_agg; · first | with_reducible rfl | (simp (disch := omega) only [aw, beq_self_eq_true, Bool.and_true]; done) | (simp (disch := omega) only [aw, beq_self_eq_true, Bool.and_true]; with_reducible rfl))
        | (with_reducible apply go_pbox; · first | with_reducible rfl | (simp (disch := omega) only [aw, beq_self_eq_true, Bool.and_true]; done) | (simp (disch := omega) only [aw, beq_self_eq_true, Bool.and_true]; with_reducible rfl))
        | (with_reducible apply go_opt; · first | with_reducible rfl | (simp (disch := omega) only [aw, beq_self_eq_true, Bool.and_true]; done) | (simp (disch := omega) only [aw, beq_self_eq_true, Bool.and_true]; with_reducible rfl))
        | (with_reducible apply go_chk; · first | with_reducible rfl | omega | (simp (disch := omega) only [Bool.and_eq_true, decide_eq_true_eq, beq_iff_eq, bne_iff_ne, Bool.not_eq_true', true_and, and_true, aw, beq_self_eq_true, Bool.and_true]; done) | (simp (disch := omega) only [Bool.and_eq_true, decide_eq_true_eq, beq_iff_eq, bne_iff_ne, ne_eq, Bool.not_eq_true', true_and, and_true, aw, beq_self_eq_true, Bool.and_true] <;> omega))
        | (with_reducible apply go_call; · first | with_reducible rfl | (simp (disch := omega) only [aw, beq_self_eq_true, Bool.and_true]; done) | (simp (disch := omega) only [aw, beq_self_eq_true, Bool.and_true]; with_reducible rfl))
        | (with_reducible apply go_brT; · first | with_reducible rfl | omega | (simp (disch := omega) only [Bool.and_eq_true, decide_eq_true_eq, beq_iff_eq, bne_iff_ne, Bool.not_eq_true', true_and, and_true, aw, beq_self_eq_true, Bool.and_true]; done) | (simp (disch := omega) only [Bool.and_eq_true, decide_eq_true_eq, beq_iff_eq, bne_iff_ne, ne_eq, Bool.not_eq_true', true_and, and_true, aw, beq_self_eq_true, Bool.and_true] <;> omega))
        | (with_reducible apply go_brF; · first | with_reducible rfl | (simp (disch := omega) only [decide_eq_false_iff_not, beq_eq_false_iff_ne, bne_eq_false_iff_eq, Bool.not_eq_false', aw, beq_self_eq_true, Bool.and_true]; done) | (simp (disch := omega) only [decide_eq_false_iff_not, beq_eq_false_iff_ne, bne_eq_false_iff_eq, ne_eq, Bool.not_eq_false', aw, beq_self_eq_true, Bool.and_true] <;> omega))
      try simp (disch := omega) only [aw, beq_self_eq_true, Bool.and_true]
  have vl2 := vl.trans goal
  try unfold shareK
  repeat first
    | (with_reducible apply go_nil; · with_reducible rfl)
    | (with_reducible apply go_cons; · with_reducible rfl)
    | (with_reducible apply go_int; · first | with_reducible rfl | (simp (disch := omega) only [k3, k4, t1]; done) | (simp (disch := omega) only [k3, k4, t1]; with_reducible rfl))
    | (with_reducible apply go_bool; · first | with_reducible rfl | (simp (disch := omega) only [k3, k4, t1]; done) | (simp (disch := omega) only [k3, k4, t1]; with_reducible rfl))
    | (with_reducible apply go_str; · first | with_reducible rfl | (simp (disch := omega) only [k3, k4, t1]; done) | (simp (disch := omega) only [k3, k4, t1]; with_reducible rfl))
    | (with_reducible apply go_any; · first | with_reducible rfl | (simp (disch := omega) only [k3, k4, t1]; done) | (simp (disch := omega) only [k3, k4, t1]; with_reducible rfl))
    | (with_reducible apply go_ow; · first | with_reducible rfl | (simp (disch := omega) only [k3, k4, t1]; done) | (simp (disch := omega) only [k3, k4, t1]; with_reducible rfl))
    | (with_reducible apply go_ls; · first | with_reducible rfl | (simp (disch := omega) only [k3, k4, t1]; done) | (simp (disch := omega) only [k3, k4, t1]; with_reducible rfl))
    | (with_reducible apply go_agg; · first | with_reducible rfl | (simp (disch := omega) only [k3, k4, t1]; done) | (simp (disch := omega) only [k3, k4, t1]; with_reducible rfl))
    | (with_reducible apply go_pbox; · first | with_reducible rfl | (simp (disch := omega) only [k3, k4, t1]; done) | (simp (disch := omega) only [k3, k4, t1]; with_reducible rfl))
    | (with_reducible apply go_opt; · first | with_reducible rfl | (simp (disch := omega) only [k3, k4, t1]; done) | (simp (disch := omega) only [k3, k4, t1]; with_reducible rfl))
    | (with_reducible apply go_chk; · first | with_reducible rfl | omega | (simp (disch := omega) only [Bool.and_eq_true, decide_eq_true_eq, beq_iff_eq, bne_iff_ne, Bool.not_eq_true', true_and, and_true, k3, k4, t1]; done) | (simp (disch := omega) only [Bool.and_eq_true, decide_eq_true_eq, beq_iff_eq, bne_iff_ne, ne_eq, Bool.not_eq_true', true_and, and_true, k3, k4, t1] <;> omega))
    | (with_reducible apply go_call; · first | with_reducible rfl | (simp (disch := omega) only [k3, k4, t1]; done) | (simp (disch := omega) only [k3, k4, t1]; with_reducible rfl))
    | (with_reducible apply go_brT; · first | with_reducible rfl | omega | (simp (disch := omega) only [Bool.and_eq_true, decide_eq_true_eq, beq_iff_eq, bne_iff_ne, Bool.not_eq_true', true_and, and_true, k3, k4, t1]; done) | (simp (disch := omega) only [Bool.and_eq_true, decide_eq_true_eq, beq_iff_eq, bne_iff_ne, ne_eq, Bool.not_eq_true', true_and, and_true, k3, k4, t1] <;> omega))
    | (with_reducible apply go_brF; · first | with_reducible rfl | (simp (disch := omega) only [decide_eq_false_iff_not, beq_eq_false_iff_ne, bne_eq_false_iff_eq, Bool.not_eq_false', k3, k4, t1]; done) | (simp (disch := omega) only [decide_eq_false_iff_not, beq_eq_false_iff_ne, bne_eq_false_iff_eq, ne_eq, Bool.not_eq_false', k3, k4, t1] <;> omega))
  try simp (disch := omega) only [k3, k4, t1]
  exact vl2

end Go.Proofs.Ytaphhfehcbkfkaa.Pv
