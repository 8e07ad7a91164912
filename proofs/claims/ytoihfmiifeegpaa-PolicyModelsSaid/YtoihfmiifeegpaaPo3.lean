/-
  The laws PolicyValidates and PolicyDecides, as plain equations.
-/
import Derived.Test.YtoihfmiifeegpaaPo2
import Derived.Test.YtoihfmiifeegpaaOpP
import Derived.Test.YtoihfmiifeegpaaGnW
set_option linter.unusedSimpArgs false
set_option linter.unusedVariables false
set_option maxRecDepth 100000
namespace Go.Proofs.Ytoihfmiifeegpaa.Pv

section
variable {fu d : Nat}
theorem val_cells (hfu : 100 < fu) (vf : Int) (rs : Bool) (ht pr : Int) (sh : Bool) (fm : Int) (od : Bool) (dn : List Int) (op : Int) (n : Nat) (hn : n = dn.length) (h : n ≤ 100) :
    pcall C0 Try.prog fu (d + 2) F_policy_Validate [.agg [.sc (.int .i64 vf), .sc (.bool rs), .sc (.int .i64 ht), .sc (.int .i64 pr), .sc (.bool sh), .sc (.int .i64 fm), .sc (.bool od), .lst false 1 n (encI .u64 dn), .sc (.int .i64 op)]] = some ⟨[.sc (.int .i64 (valE ⟨vf, rs, ht, pr, sh, fm, od, dn, op⟩))], []⟩ := by
  subst hn
  exact val_eq ⟨vf, rs, ht, pr, sh, fm, od, dn, op⟩ (by simp only [maxLen]; omega) (by simp only; omega)
theorem valR_cells (hfu : 100 < fu) (vf : Int) (rs : Bool) (ht pr : Int) (sh : Bool) (fm : Int) (od : Bool) (dn : List Int) (op : Int) (n : Nat) (hn : n = dn.length) (h : n ≤ 100) :
    pcall C0 Try.prog fu (d + 2) F_passkeyref29_ValidatePolicy [.agg [.sc (.int .i64 vf), .sc (.bool rs), .sc (.int .i64 ht), .sc (.int .i64 pr), .sc (.bool sh), .sc (.int .i64 fm), .sc (.bool od), .lst false 1 n (encI .u64 dn), .sc (.int .i64 op)]] = some ⟨[.sc (.int .i64 (valE ⟨vf, rs, ht, pr, sh, fm, od, dn, op⟩))], []⟩ := by
  subst hn
  exact valR_eq ⟨vf, rs, ht, pr, sh, fm, od, dn, op⟩ (by simp only [maxLen]; omega) (by simp only; omega)

theorem tk1 (l : List Int) : List.take (l.length * 1) (List.drop 0 (encI .u64 l)) = encI .u64 l := by
  rw [List.drop_zero]; exact List.take_of_length_le (by rw [encI_len]; omega)
theorem tk2 (l : List Int) : List.take (l.length * 1) (encI .u64 l) = encI .u64 l := List.take_of_length_le (by rw [encI_len]; omega)

theorem polLoop (hfu : 100 < fu) {z0 : Int} {z1 : Bool} {z2 z3 : Int} {z4 : Bool} {z5 : Int} {z6 : Bool} {zn : Nat} {zc : List PV} {z8 : Int} {an : Nat} {ac : List PV}
    {p0 : Int} {p1 : Bool} {p2 p3 : Int} {p4 : Bool} {p5 : Int} {p6 : Bool} {dn : List Int} {p8 : Int} (hdn : dn.length ≤ 100) {q0 : Int} {q1 : Bool} {q2 q3 : Int} {q4 : Bool} {q5 : Int} {q6 : Bool} {q8 : Int} : ∀ (k : Nat) (xs : List Int) (nn : Nat), k < nn → xs.length + k ≤ 100 →
    passkeylaw31_PolicyValidates_L0 fu (pcall C0 Try.prog fu 7) z0 z1 z2 z3 z4 z5 z6 zn zc z8 an ac nn (k : Int) p0 p1 p2 p3 p4 p5 p6 dn.length (encI .u64 dn) p8 q0 q1 q2 q3 q4 q5 q6 xs.length q8 (encI .u64 xs) = some ⟨[.sc (.bool true)], []⟩
  | k, xs, 0, h, _ => by omega
  | 0, xs, nn + 1, _, hx => by
    have v1 := val_cells (fu := fu) (d := 5) hfu p0 p1 p2 p3 p4 p5 p6 dn p8 _ rfl hdn
    have v2 := valR_cells (fu := fu) (d := 5) hfu p0 p1 p2 p3 p4 p5 p6 dn p8 _ rfl hdn
    have v3 := val_cells (fu := fu) (d := 5) hfu q0 q1 q2 q3 q4 q5 q6 xs q8 _ rfl (by omega)
    have v4 := valR_cells (fu := fu) (d := 5) hfu q0 q1 q2 q3 q4 q5 q6 xs q8 _ rfl (by omega)
    have aw := awake_eq (fu := fu) (d := 2) (by omega)
    have hle := encI_len .u64 xs
    rw [passkeylaw31_PolicyValidates_L0_s]
    try unfold shareK
    repeat first
      | (with_reducible apply go_nil; · with_reducible rfl)
      | (with_reducible apply go_cons; · with_reducible rfl)
      | (with_reducible apply go_int; · first | with_reducible rfl | (simp (disch := omega) only [v1, v2, v3, v4, aw, tk1, encI_len]; done) | (simp (disch := omega) only [v1, v2, v3, v4, aw, tk1, encI_len]; with_reducible rfl))
      | (with_reducible apply go_bool; · first | with_reducible rfl | (simp (disch := omega) only [v1, v2, v3, v4, aw, tk1, encI_len]; done) | (simp (disch := omega) only [v1, v2, v3, v4, aw, tk1, encI_len]; with_reducible rfl))
      | (with_reducible apply go_str; · first | with_reducible rfl | (simp (disch := omega) only [v1, v2, v3, v4, aw, tk1, encI_len]; done) | (simp (disch := omega) only [v1, v2, v3, v4, aw, tk1, encI_len]; with_reducible rfl))
      | (with_reducible apply go_any; · first | with_reducible rfl | (simp (disch := omega) only [v1, v2, v3, v4, aw, tk1, encI_len]; done) | (simp (disch := omega) only [v1, v2, v3, v4, aw, tk1, encI_len]; with_reducible rfl))
      | (with_reducible apply go_ow; · first | with_reducible rfl | (simp (disch := omega) only [v1, v2, v3, v4, aw, tk1, encI_len]; done) | (simp (disch := omega) only [v1, v2, v3, v4, aw, tk1, encI_len]; with_reducible rfl))
      | (with_reducible apply go_ls; · first | with_reducible rfl | (simp (disch := omega) only [v1, v2, v3, v4, aw, tk1, encI_len]; done) | (simp (disch := omega) only [v1, v2, v3, v4, aw, tk1, encI_len]; with_reducible rfl))
      | (with_reducible apply go_agg; · first | with_reducible rfl | (simp (disch := omega) only [v1, v2, v3, v4, aw, tk1, encI_len]; done) | (simp (disch := omega) only [v1, v2, v3, v4, aw, tk1, encI_len]; with_reducible rfl))
      | (with_reducible apply go_pbox; · first | with_reducible rfl | (simp (disch := omega) only [v1, v2, v3, v4, aw, tk1, encI_len]; done) | (simp (disch := omega) only [v1, v2, v3, v4, aw, tk1, encI_len]; with_reducible rfl))
      | (with_reducible apply go_opt; · first | with_reducible rfl | (simp (disch := omega) only [v1, v2, v3, v4, aw, tk1, encI_len]; done) | (simp (disch := omega) only [v1, v2, v3, v4, aw, tk1, encI_len]; with_reducible rfl))
      | (with_reducible apply go_chk; · first | with_reducible rfl | omega | (simp (disch := omega) only [Bool.and_eq_true, decide_eq_true_eq, beq_iff_eq, bne_iff_ne, Bool.not_eq_true', true_and, and_true, v1, v2, v3, v4, aw, tk1, encI_len]; done) | (simp (disch := omega) only [Bool.and_eq_true, decide_eq_true_eq, beq_iff_eq, bne_iff_ne, ne_eq, Bool.not_eq_true', true_and, and_true, v1, v2, v3, v4, aw, tk1, encI_len] <;> omega))
      | (with_reducible apply go_call; · first | with_reducible rfl | (simp (disch := omega) only [v1, v2, v3, v4, aw, tk1, encI_len]; done) | (simp (disch := omega) only [v1, v2, v3, v4, aw, tk1, encI_len]; with_reducible rfl))
      | (with_reducible apply go_brT; · first | with_reducible rfl | omega | (simp (disch := omega) only [Bool.and_eq_true, decide_eq_true_eq, beq_iff_eq, bne_iff_ne, Bool.not_eq_true', true_and, and_true, v1, v2, v3, v4, aw, tk1, encI_len]; done) | (simp (disch := omega) only [Bool.and_eq_true, decide_eq_true_eq, beq_iff_eq, bne_iff_ne, ne_eq, Bool.not_eq_true', true_and, and_true, v1, v2, v3, v4, aw, tk1, encI_len] <;> omega))
      | (with_reducible apply go_brF; · first | with_reducible rfl | (simp (disch := omega) only [decide_eq_false_iff_not, beq_eq_false_iff_ne, bne_eq_false_iff_eq, Bool.not_eq_false', v1, v2, v3, v4, aw, tk1, encI_len]; done) | (simp (disch := omega) only [decide_eq_false_iff_not, beq_eq_false_iff_ne, bne_eq_false_iff_eq, ne_eq, Bool.not_eq_false', v1, v2, v3, v4, aw, tk1, encI_len] <;> omega))
    try simp (disch := omega) only [v1, v2, v3, v4, aw, tk1, encI_len]
  | k + 1, xs, nn + 1, hk, hx => by
    have ih := polLoop hfu (z0 := z0) (z1 := z1) (z2 := z2) (z3 := z3) (z4 := z4) (z5 := z5) (z6 := z6) (zn := zn) (zc := zc) (z8 := z8) (an := an) (ac := ac) (p0 := p0) (p1 := p1) (p2 := p2) (p3 := p3) (p4 := p4) (p5 := p5) (p6 := p6) (p8 := p8) hdn (q0 := q0) (q1 := q1) (q2 := q2) (q3 := q3) (q4 := q4) (q5 := q5) (q6 := q6) (q8 := q8) k (xs ++ [(xs.length : Int)]) nn (by omega) (by simp; omega)
    have hle := encI_len .u64 xs
    rw [passkeylaw31_PolicyValidates_L0_s]
    rw [nd_brt _ _ _ (by omega)]
    simp only [nd_share, tk2]
    rw [go_chk (by simp only [Bool.and_eq_true, decide_eq_true_eq, and_true, hle]; omega) rfl]
    rw [wrap_u64 (by omega) (by omega), wrap_i64 (by omega) (by omega), encI_app, show ((k + 1 : Nat) : Int) - 1 = (k : Int) by omega]
    rw [List.length_append] at ih
    exact ih

theorem policyValidates_plain (qs : List PV) (h : All2 (WTv Try.prog) [24, 25] qs) : ∃ C fu d, pcall C Try.prog fu d F_passkeylaw31_PolicyValidates qs = some ⟨[.sc (.bool true)], []⟩ := by
  obtain ⟨q0, _, rfl, h0, g⟩ := h.cons_inv
  obtain ⟨q1, _, rfl, h1, g⟩ := g.cons_inv
  obtain rfl := g.nil_inv
  clear h
  obtain ⟨ps, rfl, k0⟩ := wtv_agg (by kernel_rfl) h0
  obtain ⟨p0, p1, p2, p3, p4, p5, p6, dn, p8, rfl, _, _, _, _, hdn, _, _⟩ := ka_api_Policy k0
  obtain ⟨l, rfl, hl, _⟩ := wtv_ints (k := .i64) (e := 3) (by kernel_rfl) (by kernel_rfl) (by kernel_rfl) (by kernel_rfl) h1
  obtain ⟨fu, hfu⟩ : ∃ fu, fu = 1000 := ⟨_, rfl⟩
  refine ⟨C0, fu, 8, ?_⟩
  have aw := awake_eq (fu := fu) (d := 2) (by omega)
  rw [passkeylaw31_PolicyValidates_e]
  by_cases h40 : 40 < dn.length
  · skip
    try unfold shareK
    repeat first
      | (with_reducible apply go_nil; · with_reducible rfl)
      | (with_reducible apply go_cons; · with_reducible rfl)
      | (with_reducible apply go_int; · first | with_reducible rfl | (simp (disch := omega) only [aw]; done) | (simp (disch := omega) only [aw]; with_reducible rfl))
      | (with_reducible apply go_bool; · first | with_reducible rfl | (simp (disch := omega) only [aw]; done) | (simp (disch := omega) only [aw]; with_reducible rfl))
      | (with_reducible apply go_str; · first | with_reducible rfl | (simp (disch := omega) only [aw]; done) | (simp (disch := omega) only [aw]; with_reducible rfl))
      | (with_reducible apply go_any; · first | with_reducible rfl | (simp (disch := omega) only [aw]; done) | (simp (disch := omega) only [aw]; with_reducible rfl))
      | (with_reducible apply go_ow; · first | with_reducible rfl | (simp (disch := omega) only [aw]; done) | (simp (disch := omega) only [aw]; with_reducible rfl))
      | (with_reducible apply go_ls; · first | with_reducible rfl | (simp (disch := omega) only [aw]; done) | (simp (disch := omega) only [aw]; with_reducible rfl))
      | (with_reducible apply go_agg; · first | with_reducible rfl | (simp (disch := omega) only [aw]; done) | (simp (disch := omega) only [aw]; with_reducible rfl))
      | (with_reducible apply go_pbox; · first | with_reducible rfl | (simp (disch := omega) only [aw]; done) | (simp (disch := omega) only [aw]; with_reducible rfl))
      | (with_reducible apply go_opt; · first | with_reducible rfl | (simp (disch := omega) only [aw]; done) | (simp (disch := omega) only [aw]; with_reducible rfl))
      | (with_reducible apply go_chk; · first | with_reducible rfl | omega | (simp (disch := omega) only [Bool.and_eq_true, decide_eq_true_eq, beq_iff_eq, bne_iff_ne, Bool.not_eq_true', true_and, and_true, aw]; done) | (simp (disch := omega) only [Bool.and_eq_true, decide_eq_true_eq, beq_iff_eq, bne_iff_ne, ne_eq, Bool.not_eq_true', true_and, and_true, aw] <;> omega))
      | (with_reducible apply go_call; · first | with_reducible rfl | (simp (disch := omega) only [aw]; done) | (simp (disch := omega) only [aw]; with_reducible rfl))
      | (with_reducible apply go_brT; · first | with_reducible rfl | omega | (simp (disch := omega) only [Bool.and_eq_true, decide_eq_true_eq, beq_iff_eq, bne_iff_ne, Bool.not_eq_true', true_and, and_true, aw]; done) | (simp (disch := omega) only [Bool.and_eq_true, decide_eq_true_eq, beq_iff_eq, bne_iff_ne, ne_eq, Bool.not_eq_true', true_and, and_true, aw] <;> omega))
      | (with_reducible apply go_brF; · first | with_reducible rfl | (simp (disch := omega) only [decide_eq_false_iff_not, beq_eq_false_iff_ne, bne_eq_false_iff_eq, Bool.not_eq_false', aw]; done) | (simp (disch := omega) only [decide_eq_false_iff_not, beq_eq_false_iff_ne, bne_eq_false_iff_eq, ne_eq, Bool.not_eq_false', aw] <;> omega))
    try simp (disch := omega) only [aw]
  · have nw := new_eq (fu := fu) (d := 6) (l := l)
    obtain ⟨q, a1, _, _, hq, eq⟩ := deckPolicy_ex hl 0
    have eq := eq (fu := fu) (d := 4)
    obtain ⟨qf, q1, q2, q3, q4, q5, q6, qd, q8⟩ := q
    simp only [Pol.own] at eq hq
    obtain ⟨v, a2, l2, u2, e2⟩ := next_ex hl a1 9 (by omega) (by omega)
    have e2 := e2 (fu := fu) (d := 5)
    have v1 := val_cells (fu := fu) (d := 5) (by omega) p0 p1 p2 p3 p4 p5 p6 dn p8 _ rfl (by omega)
    have v2 := valR_cells (fu := fu) (d := 5) (by omega) p0 p1 p2 p3 p4 p5 p6 dn p8 _ rfl (by omega)
    have hle := encI_len .u64 qd
    have two : ∀ vf rs ht pr sh fm od op, pcall C0 Try.prog fu 7 F_policy_Validate [.agg [.sc (.int .i64 vf), .sc (.bool rs), .sc (.int .i64 ht), .sc (.int .i64 pr), .sc (.bool sh), .sc (.int .i64 fm), .sc (.bool od), .lst false 1 qd.length (encI .u64 qd), .sc (.int .i64 op)]] = some ⟨[.sc (.int .i64 (valE ⟨vf, rs, ht, pr, sh, fm, od, qd, op⟩))], []⟩ ∧
        pcall C0 Try.prog fu 7 F_passkeyref29_ValidatePolicy [.agg [.sc (.int .i64 vf), .sc (.bool rs), .sc (.int .i64 ht), .sc (.int .i64 pr), .sc (.bool sh), .sc (.int .i64 fm), .sc (.bool od), .lst false 1 qd.length (encI .u64 qd), .sc (.int .i64 op)]] = some ⟨[.sc (.int .i64 (valE ⟨vf, rs, ht, pr, sh, fm, od, qd, op⟩))], []⟩ :=
      fun vf rs ht pr sh fm od op => ⟨val_cells (fu := fu) (d := 5) (by omega) vf rs ht pr sh fm od qd op _ rfl (by omega), valR_cells (fu := fu) (d := 5) (by omega) vf rs ht pr sh fm od qd op _ rfl (by omega)⟩
    have w1 := fun vf rs ht pr sh fm od op => (two vf rs ht pr sh fm od op).1
    have w2 := fun vf rs ht pr sh fm od op => (two vf rs ht pr sh fm od op).2
    clear two
    rcases (by omega : v = 0 ∨ v = 1 ∨ v = 2 ∨ v = 3 ∨ v = 4 ∨ v = 5 ∨ v = 6 ∨ 7 ≤ v) with hv | hv | hv | hv | hv | hv | hv | hv
    · obtain ⟨v', a3, l3, u3, e3⟩ := next_ex hl a2 5 (by omega) (by omega)
      have e3 := e3 (fu := fu) (d := 5)
      try unfold shareK
      repeat first
        | (with_reducible apply go_nil; · with_reducible rfl)
        | (with_reducible apply go_cons; · with_reducible rfl)
        | (with_reducible apply go_int; · first | with_reducible rfl | (simp (disch := omega) only [nw, eq, e2, e3, v1, v2, w1, w2, aw, tk1, encI_len]; done) | (simp (disch := omega) only [nw, eq, e2, e3, v1, v2, w1, w2, aw, tk1, encI_len]; with_reducible rfl))
        | (with_reducible apply go_bool; · first | with_reducible rfl | (simp (disch := omega) only [nw, eq, e2, e3, v1, v2, w1, w2, aw, tk1, encI_len]; done) | (simp (disch := omega) only [nw, eq, e2, e3, v1, v2, w1, w2, aw, tk1, encI_len]; with_reducible rfl))
        | (with_reducible apply go_str; · first | with_reducible rfl | (simp (disch := omega) only [nw, eq, e2, e3, v1, v2, w1, w2, aw, tk1, encI_len]; done) | (simp (disch := omega) only [nw, eq, e2, e3, v1, v2, w1, w2, aw, tk1, encI_len]; with_reducible rfl))
        | (with_reducible apply go_any; · first | with_reducible rfl | (simp (disch := omega) only [nw, eq, e2, e3, v1, v2, w1, w2, aw, tk1, encI_len]; done) | (simp (disch := omega) only [nw, eq, e2, e3, v1, v2, w1, w2, aw, tk1, encI_len]; with_reducible rfl))
        | (with_reducible apply go_ow; · first | with_reducible rfl | (simp (disch := omega) only [nw, eq, e2, e3, v1, v2, w1, w2, aw, tk1, encI_len]; done) | (simp (disch := omega) only [nw, eq, e2, e3, v1, v2, w1, w2, aw, tk1, encI_len]; with_reducible rfl))
        | (with_reducible apply go_ls; · first | with_reducible rfl | (simp (disch := omega) only [nw, eq, e2, e3, v1, v2, w1, w2, aw, tk1, encI_len]; done) | (simp (disch := omega) only [nw, eq, e2, e3, v1, v2, w1, w2, aw, tk1, encI_len]; with_reducible rfl))
        | (with_reducible apply go_agg; · first | with_reducible rfl | (simp (disch := omega) only [nw, eq, e2, e3, v1, v2, w1, w2, aw, tk1, encI_len]; done) | (simp (disch := omega) only [nw, eq, e2, e3, v1, v2, w1, w2, aw, tk1, encI_len]; with_reducible rfl))
        | (with_reducible apply go_pbox; · first | with_reducible rfl | (simp (disch := omega) only [nw, eq, e2, e3, v1, v2, w1, w2, aw, tk1, encI_len]; done) | (simp (disch := omega) only [nw, eq, e2, e3, v1, v2, w1, w2, aw, tk1, encI_len]; with_reducible rfl))
        | (with_reducible apply go_opt; · first | with_reducible rfl | (simp (disch := omega) only [nw, eq, e2, e3, v1, v2, w1, w2, aw, tk1, encI_len]; done) | (simp (disch := omega) only [nw, eq, e2, e3, v1, v2, w1, w2, aw, tk1, encI_len]; with_reducible rfl))
        | (with_reducible apply go_chk; · first | with_reducible rfl | omega | (simp (disch := omega) only [Bool.and_eq_true, decide_eq_true_eq, beq_iff_eq, bne_iff_ne, Bool.not_eq_true', true_and, and_true, nw, eq, e2, e3, v1, v2, w1, w2, aw, tk1, encI_len]; done) | (simp (disch := omega) only [Bool.and_eq_true, decide_eq_true_eq, beq_iff_eq, bne_iff_ne, ne_eq, Bool.not_eq_true', true_and, and_true, nw, eq, e2, e3, v1, v2, w1, w2, aw, tk1, encI_len] <;> omega))
        | (with_reducible apply go_call; · first | with_reducible rfl | (simp (disch := omega) only [nw, eq, e2, e3, v1, v2, w1, w2, aw, tk1, encI_len]; done) | (simp (disch := omega) only [nw, eq, e2, e3, v1, v2, w1, w2, aw, tk1, encI_len]; with_reducible rfl))
        | (with_reducible apply go_brT; · first | with_reducible rfl | omega | (simp (disch := omega) only [Bool.and_eq_true, decide_eq_true_eq, beq_iff_eq, bne_iff_ne, Bool.not_eq_true', true_and, and_true, nw, eq, e2, e3, v1, v2, w1, w2, aw, tk1, encI_len]; done) | (simp (disch := omega) only [Bool.and_eq_true, decide_eq_true_eq, beq_iff_eq, bne_iff_ne, ne_eq, Bool.not_eq_true', true_and, and_true, nw, eq, e2, e3, v1, v2, w1, w2, aw, tk1, encI_len] <;> omega))
        | (with_reducible apply go_brF; · first | with_reducible rfl | (simp (disch := omega) only [decide_eq_false_iff_not, beq_eq_false_iff_ne, bne_eq_false_iff_eq, Bool.not_eq_false', nw, eq, e2, e3, v1, v2, w1, w2, aw, tk1, encI_len]; done) | (simp (disch := omega) only [decide_eq_false_iff_not, beq_eq_false_iff_ne, bne_eq_false_iff_eq, ne_eq, Bool.not_eq_false', nw, eq, e2, e3, v1, v2, w1, w2, aw, tk1, encI_len] <;> omega))
      try simp (disch := omega) only [nw, eq, e2, e3, v1, v2, w1, w2, aw, tk1, encI_len]
    · obtain ⟨v', a3, l3, u3, e3⟩ := next_ex hl a2 7 (by omega) (by omega)
      have e3 := e3 (fu := fu) (d := 5)
      try unfold shareK
      repeat first
        | (with_reducible apply go_nil; · with_reducible rfl)
        | (with_reducible apply go_cons; · with_reducible rfl)
        | (with_reducible apply go_int; · first | with_reducible rfl | (simp (disch := omega) only [nw, eq, e2, e3, v1, v2, w1, w2, aw, tk1, encI_len]; done) | (simp (disch := omega) only [nw, eq, e2, e3, v1, v2, w1, w2, aw, tk1, encI_len]; with_reducible rfl))
        | (with_reducible apply go_bool; · first | with_reducible rfl | (simp (disch := omega) only [nw, eq, e2, e3, v1, v2, w1, w2, aw, tk1, encI_len]; done) | (simp (disch := omega) only [nw, eq, e2, e3, v1, v2, w1, w2, aw, tk1, encI_len]; with_reducible rfl))
        | (with_reducible apply go_str; · first | with_reducible rfl | (simp (disch := omega) only [nw, eq, e2, e3, v1, v2, w1, w2, aw, tk1, encI_len]; done) | (simp (disch := omega) only [nw, eq, e2, e3, v1, v2, w1, w2, aw, tk1, encI_len]; with_reducible rfl))
        | (with_reducible apply go_any; · first | with_reducible rfl | (simp (disch := omega) only [nw, eq, e2, e3, v1, v2, w1, w2, aw, tk1, encI_len]; done) | (simp (disch := omega) only [nw, eq, e2, e3, v1, v2, w1, w2, aw, tk1, encI_len]; with_reducible rfl))
        | (with_reducible apply go_ow; · first | with_reducible rfl | (simp (disch := omega) only [nw, eq, e2, e3, v1, v2, w1, w2, aw, tk1, encI_len]; done) | (simp (disch := omega) only [nw, eq, e2, e3, v1, v2, w1, w2, aw, tk1, encI_len]; with_reducible rfl))
        | (with_reducible apply go_ls; · first | with_reducible rfl | (simp (disch := omega) only [nw, eq, e2, e3, v1, v2, w1, w2, aw, tk1, encI_len]; done) | (simp (disch := omega) only [nw, eq, e2, e3, v1, v2, w1, w2, aw, tk1, encI_len]; with_reducible rfl))
        | (with_reducible apply go_agg; · first | with_reducible rfl | (simp (disch := omega) only [nw, eq, e2, e3, v1, v2, w1, w2, aw, tk1, encI_len]; done) | (simp (disch := omega) only [nw, eq, e2, e3, v1, v2, w1, w2, aw, tk1, encI_len]; with_reducible rfl))
        | (with_reducible apply go_pbox; · first | with_reducible rfl | (simp (disch := omega) only [nw, eq, e2, e3, v1, v2, w1, w2, aw, tk1, encI_len]; done) | (simp (disch := omega) only [nw, eq, e2, e3, v1, v2, w1, w2, aw, tk1, encI_len]; with_reducible rfl))
        | (with_reducible apply go_opt; · first | with_reducible rfl | (simp (disch := omega) only [nw, eq, e2, e3, v1, v2, w1, w2, aw, tk1, encI_len]; done) | (simp (disch := omega) only [nw, eq, e2, e3, v1, v2, w1, w2, aw, tk1, encI_len]; with_reducible rfl))
        | (with_reducible apply go_chk; · first | with_reducible rfl | omega | (simp (disch := omega) only [Bool.and_eq_true, decide_eq_true_eq, beq_iff_eq, bne_iff_ne, Bool.not_eq_true', true_and, and_true, nw, eq, e2, e3, v1, v2, w1, w2, aw, tk1, encI_len]; done) | (simp (disch := omega) only [Bool.and_eq_true, decide_eq_true_eq, beq_iff_eq, bne_iff_ne, ne_eq, Bool.not_eq_true', true_and, and_true, nw, eq, e2, e3, v1, v2, w1, w2, aw, tk1, encI_len] <;> omega))
        | (with_reducible apply go_call; · first | with_reducible rfl | (simp (disch := omega) only [nw, eq, e2, e3, v1, v2, w1, w2, aw, tk1, encI_len]; done) | (simp (disch := omega) only [nw, eq, e2, e3, v1, v2, w1, w2, aw, tk1, encI_len]; with_reducible rfl))
        | (with_reducible apply go_brT; · first | with_reducible rfl | omega | (simp (disch := omega) only [Bool.and_eq_true, decide_eq_true_eq, beq_iff_eq, bne_iff_ne, Bool.not_eq_true', true_and, and_true, nw, eq, e2, e3, v1, v2, w1, w2, aw, tk1, encI_len]; done) | (simp (disch := omega) only [Bool.and_eq_true, decide_eq_true_eq, beq_iff_eq, bne_iff_ne, ne_eq, Bool.not_eq_true', true_and, and_true, nw, eq, e2, e3, v1, v2, w1, w2, aw, tk1, encI_len] <;> omega))
        | (with_reducible apply go_brF; · first | with_reducible rfl | (simp (disch := omega) only [decide_eq_false_iff_not, beq_eq_false_iff_ne, bne_eq_false_iff_eq, Bool.not_eq_false', nw, eq, e2, e3, v1, v2, w1, w2, aw, tk1, encI_len]; done) | (simp (disch := omega) only [decide_eq_false_iff_not, beq_eq_false_iff_ne, bne_eq_false_iff_eq, ne_eq, Bool.not_eq_false', nw, eq, e2, e3, v1, v2, w1, w2, aw, tk1, encI_len] <;> omega))
      try simp (disch := omega) only [nw, eq, e2, e3, v1, v2, w1, w2, aw, tk1, encI_len]
    · obtain ⟨v', a3, l3, u3, e3⟩ := next_ex hl a2 6 (by omega) (by omega)
      have e3 := e3 (fu := fu) (d := 5)
      try unfold shareK
      repeat first
        | (with_reducible apply go_nil; · with_reducible rfl)
        | (with_reducible apply go_cons; · with_reducible rfl)
        | (with_reducible apply go_int; · first | with_reducible rfl | (simp (disch := omega) only [nw, eq, e2, e3, v1, v2, w1, w2, aw, tk1, encI_len]; done) | (simp (disch := omega) only [nw, eq, e2, e3, v1, v2, w1, w2, aw, tk1, encI_len]; with_reducible rfl))
        | (with_reducible apply go_bool; · first | with_reducible rfl | (simp (disch := omega) only [nw, eq, e2, e3, v1, v2, w1, w2, aw, tk1, encI_len]; done) | (simp (disch := omega) only [nw, eq, e2, e3, v1, v2, w1, w2, aw, tk1, encI_len]; with_reducible rfl))
        | (with_reducible apply go_str; · first | with_reducible rfl | (simp (disch := omega) only [nw, eq, e2, e3, v1, v2, w1, w2, aw, tk1, encI_len]; done) | (simp (disch := omega) only [nw, eq, e2, e3, v1, v2, w1, w2, aw, tk1, encI_len]; with_reducible rfl))
        | (with_reducible apply go_any; · first | with_reducible rfl | (simp (disch := omega) only [nw, eq, e2, e3, v1, v2, w1, w2, aw, tk1, encI_len]; done) | (simp (disch := omega) only [nw, eq, e2, e3, v1, v2, w1, w2, aw, tk1, encI_len]; with_reducible rfl))
        | (with_reducible apply go_ow; · first | with_reducible rfl | (simp (disch := omega) only [nw, eq, e2, e3, v1, v2, w1, w2, aw, tk1, encI_len]; done) | (simp (disch := omega) only [nw, eq, e2, e3, v1, v2, w1, w2, aw, tk1, encI_len]; with_reducible rfl))
        | (with_reducible apply go_ls; · first | with_reducible rfl | (simp (disch := omega) only [nw, eq, e2, e3, v1, v2, w1, w2, aw, tk1, encI_len]; done) | (simp (disch := omega) only [nw, eq, e2, e3, v1, v2, w1, w2, aw, tk1, encI_len]; with_reducible rfl))
        | (with_reducible apply go_agg; · first | with_reducible rfl | (simp (disch := omega) only [nw, eq, e2, e3, v1, v2, w1, w2, aw, tk1, encI_len]; done) | (simp (disch := omega) only [nw, eq, e2, e3, v1, v2, w1, w2, aw, tk1, encI_len]; with_reducible rfl))
        | (with_reducible apply go_pbox; · first | with_reducible rfl | (simp (disch := omega) only [nw, eq, e2, e3, v1, v2, w1, w2, aw, tk1, encI_len]; done) | (simp (disch := omega) only [nw, eq, e2, e3, v1, v2, w1, w2, aw, tk1, encI_len]; with_reducible rfl))
        | (with_reducible apply go_opt; · first | with_reducible rfl | (simp (disch := omega) only [nw, eq, e2, e3, v1, v2, w1, w2, aw, tk1, encI_len]; done) | (simp (disch := omega) only [nw, eq, e2, e3, v1, v2, w1, w2, aw, tk1, encI_len]; with_reducible rfl))
        | (with_reducible apply go_chk; · first | with_reducible rfl | omega | (simp (disch := omega) only [Bool.and_eq_true, decide_eq_true_eq, beq_iff_eq, bne_iff_ne, Bool.not_eq_true', true_and, and_true, nw, eq, e2, e3, v1, v2, w1, w2, aw, tk1, encI_len]; done) | (simp (disch := omega) only [Bool.and_eq_true, decide_eq_true_eq, beq_iff_eq, bne_iff_ne, ne_eq, Bool.not_eq_true', true_and, and_true, nw, eq, e2, e3, v1, v2, w1, w2, aw, tk1, encI_len] <;> omega))
        | (with_reducible apply go_call; · first | with_reducible rfl | (simp (disch := omega) only [nw, eq, e2, e3, v1, v2, w1, w2, aw, tk1, encI_len]; done) | (simp (disch := omega) only [nw, eq, e2, e3, v1, v2, w1, w2, aw, tk1, encI_len]; with_reducible rfl))
        | (with_reducible apply go_brT; · first | with_reducible rfl | omega | (simp (disch := omega) only [Bool.and_eq_true, decide_eq_true_eq, beq_iff_eq, bne_iff_ne, Bool.not_eq_true', true_and, and_true, nw, eq, e2, e3, v1, v2, w1, w2, aw, tk1, encI_len]; done) | (simp (disch := omega) only [Bool.and_eq_true, decide_eq_true_eq, beq_iff_eq, bne_iff_ne, ne_eq, Bool.not_eq_true', true_and, and_true, nw, eq, e2, e3, v1, v2, w1, w2, aw, tk1, encI_len] <;> omega))
        | (with_reducible apply go_brF; · first | with_reducible rfl | (simp (disch := omega) only [decide_eq_false_iff_not, beq_eq_false_iff_ne, bne_eq_false_iff_eq, Bool.not_eq_false', nw, eq, e2, e3, v1, v2, w1, w2, aw, tk1, encI_len]; done) | (simp (disch := omega) only [decide_eq_false_iff_not, beq_eq_false_iff_ne, bne_eq_false_iff_eq, ne_eq, Bool.not_eq_false', nw, eq, e2, e3, v1, v2, w1, w2, aw, tk1, encI_len] <;> omega))
      try simp (disch := omega) only [nw, eq, e2, e3, v1, v2, w1, w2, aw, tk1, encI_len]
    · obtain ⟨v', a3, l3, u3, e3⟩ := next_ex hl a2 5 (by omega) (by omega)
      have e3 := e3 (fu := fu) (d := 5)
      try unfold shareK
      repeat first
        | (with_reducible apply go_nil; · with_reducible rfl)
        | (with_reducible apply go_cons; · with_reducible rfl)
        | (with_reducible apply go_int; · first | with_reducible rfl | (simp (disch := omega) only [nw, eq, e2, e3, v1, v2, w1, w2, aw, tk1, encI_len]; done) | (simp (disch := omega) only [nw, eq, e2, e3, v1, v2, w1, w2, aw, tk1, encI_len]; with_reducible rfl))
        | (with_reducible apply go_bool; · first | with_reducible rfl | (simp (disch := omega) only [nw, eq, e2, e3, v1, v2, w1, w2, aw, tk1, encI_len]; done) | (simp (disch := omega) only [nw, eq, e2, e3, v1, v2, w1, w2, aw, tk1, encI_len]; with_reducible rfl))
        | (with_reducible apply go_str; · first | with_reducible rfl | (simp (disch := omega) only [nw, eq, e2, e3, v1, v2, w1, w2, aw, tk1, encI_len]; done) | (simp (disch := omega) only [nw, eq, e2, e3, v1, v2, w1, w2, aw, tk1, encI_len]; with_reducible rfl))
        | (with_reducible apply go_any; · first | with_reducible rfl | (simp (disch := omega) only [nw, eq, e2, e3, v1, v2, w1, w2, aw, tk1, encI_len]; done) | (simp (disch := omega) only [nw, eq, e2, e3, v1, v2, w1, w2, aw, tk1, encI_len]; with_reducible rfl))
        | (with_reducible apply go_ow; · first | with_reducible rfl | (simp (disch := omega) only [nw, eq, e2, e3, v1, v2, w1, w2, aw, tk1, encI_len]; done) | (simp (disch := omega) only [nw, eq, e2, e3, v1, v2, w1, w2, aw, tk1, encI_len]; with_reducible rfl))
        | (with_reducible apply go_ls; · first | with_reducible rfl | (simp (disch := omega) only [nw, eq, e2, e3, v1, v2, w1, w2, aw, tk1, encI_len]; done) | (simp (disch := omega) only [nw, eq, e2, e3, v1, v2, w1, w2, aw, tk1, encI_len]; with_reducible rfl))
        | (with_reducible apply go_agg; · first | with_reducible rfl | (simp (disch := omega) only [nw, eq, e2, e3, v1, v2, w1, w2, aw, tk1, encI_len]; done) | (simp (disch := omega) only [nw, eq, e2, e3, v1, v2, w1, w2, aw, tk1, encI_len]; with_reducible rfl))
        | (with_reducible apply go_pbox; · first | with_reducible rfl | (simp (disch := omega) only [nw, eq, e2, e3, v1, v2, w1, w2, aw, tk1, encI_len]; done) | (simp (disch := omega) only [nw, eq, e2, e3, v1, v2, w1, w2, aw, tk1, encI_len]; with_reducible rfl))
        | (with_reducible apply go_opt; · first | with_reducible rfl | (simp (disch := omega) only [nw, eq, e2, e3, v1, v2, w1, w2, aw, tk1, encI_len]; done) | (simp (disch := omega) only [nw, eq, e2, e3, v1, v2, w1, w2, aw, tk1, encI_len]; with_reducible rfl))
        | (with_reducible apply go_chk; · first | with_reducible rfl | omega | (simp (disch := omega) only [Bool.and_eq_true, decide_eq_true_eq, beq_iff_eq, bne_iff_ne, Bool.not_eq_true', true_and, and_true, nw, eq, e2, e3, v1, v2, w1, w2, aw, tk1, encI_len]; done) | (simp (disch := omega) only [Bool.and_eq_true, decide_eq_true_eq, beq_iff_eq, bne_iff_ne, ne_eq, Bool.not_eq_true', true_and, and_true, nw, eq, e2, e3, v1, v2, w1, w2, aw, tk1, encI_len] <;> omega))
        | (with_reducible apply go_call; · first | with_reducible rfl | (simp (disch := omega) only [nw, eq, e2, e3, v1, v2, w1, w2, aw, tk1, encI_len]; done) | (simp (disch := omega) only [nw, eq, e2, e3, v1, v2, w1, w2, aw, tk1, encI_len]; with_reducible rfl))
        | (with_reducible apply go_brT; · first | with_reducible rfl | omega | (simp (disch := omega) only [Bool.and_eq_true, decide_eq_true_eq, beq_iff_eq, bne_iff_ne, Bool.not_eq_true', true_and, and_true, nw, eq, e2, e3, v1, v2, w1, w2, aw, tk1, encI_len]; done) | (simp (disch := omega) only [Bool.and_eq_true, decide_eq_true_eq, beq_iff_eq, bne_iff_ne, ne_eq, Bool.not_eq_true', true_and, and_true, nw, eq, e2, e3, v1, v2, w1, w2, aw, tk1, encI_len] <;> omega))
        | (with_reducible apply go_brF; · first | with_reducible rfl | (simp (disch := omega) only [decide_eq_false_iff_not, beq_eq_false_iff_ne, bne_eq_false_iff_eq, Bool.not_eq_false', nw, eq, e2, e3, v1, v2, w1, w2, aw, tk1, encI_len]; done) | (simp (disch := omega) only [decide_eq_false_iff_not, beq_eq_false_iff_ne, bne_eq_false_iff_eq, ne_eq, Bool.not_eq_false', nw, eq, e2, e3, v1, v2, w1, w2, aw, tk1, encI_len] <;> omega))
      try simp (disch := omega) only [nw, eq, e2, e3, v1, v2, w1, w2, aw, tk1, encI_len]
    · obtain ⟨v', a3, l3, u3, e3⟩ := next_ex hl a2 5 (by omega) (by omega)
      have e3 := e3 (fu := fu) (d := 5)
      obtain ⟨op, hop⟩ : ∃ op, List.getD [PV.sc (Value.int IntKind.i64 (0 : Int)), PV.sc (Value.int IntKind.i64 (1 : Int)), PV.sc (Value.int IntKind.i64 (1099511627776 : Int)), PV.sc (Value.int IntKind.i64 (1099511627777 : Int)), PV.sc (Value.int IntKind.i64 (-1 : Int))] ((0 : Nat) + Int.toNat v' * (1 : Nat)) PV.top = .sc (.int .i64 op) := by
        rcases (by omega : v' = 0 ∨ v' = 1 ∨ v' = 2 ∨ v' = 3 ∨ v' = 4) with h | h | h | h | h <;> subst h <;> exact ⟨_, rfl⟩
      try unfold shareK
      repeat first
        | (with_reducible apply go_nil; · with_reducible rfl)
        | (with_reducible apply go_cons; · with_reducible rfl)
        | (with_reducible apply go_int; · first | with_reducible rfl | (simp (disch := omega) only [nw, eq, e2, e3, hop, v1, v2, w1, w2, aw, tk1, encI_len]; done) | (simp (disch := omega) only [nw, eq, e2, e3, hop, v1, v2, w1, w2, aw, tk1, encI_len]; with_reducible rfl))
        | (with_reducible apply go_bool; · first | with_reducible rfl | (simp (disch := omega) only [nw, eq, e2, e3, hop, v1, v2, w1, w2, aw, tk1, encI_len]; done) | (simp (disch := omega) only [nw, eq, e2, e3, hop, v1, v2, w1, w2, aw, tk1, encI_len]; with_reducible rfl))
        | (with_reducible apply go_str; · first | with_reducible rfl | (simp (disch := omega) only [nw, eq, e2, e3, hop, v1, v2, w1, w2, aw, tk1, encI_len]; done) | (simp (disch := omega) only [nw, eq, e2, e3, hop, v1, v2, w1, w2, aw, tk1, encI_len]; with_reducible rfl))
        | (with_reducible apply go_any; · first | with_reducible rfl | (simp (disch := omega) only [nw, eq, e2, e3, hop, v1, v2, w1, w2, aw, tk1, encI_len]; done) | (simp (disch := omega) only [nw, eq, e2, e3, hop, v1, v2, w1, w2, aw, tk1, encI_len]; with_reducible rfl))
        | (with_reducible apply go_ow; · first | with_reducible rfl | (simp (disch := omega) only [nw, eq, e2, e3, hop, v1, v2, w1, w2, aw, tk1, encI_len]; done) | (simp (disch := omega) only [nw, eq, e2, e3, hop, v1, v2, w1, w2, aw, tk1, encI_len]; with_reducible rfl))
        | (with_reducible apply go_ls; · first | with_reducible rfl | (simp (disch := omega) only [nw, eq, e2, e3, hop, v1, v2, w1, w2, aw, tk1, encI_len]; done) | (simp (disch := omega) only [nw, eq, e2, e3, hop, v1, v2, w1, w2, aw, tk1, encI_len]; with_reducible rfl))
        | (with_reducible apply go_agg; · first | with_reducible rfl | (simp (disch := omega) only [nw, eq, e2, e3, hop, v1, v2, w1, w2, aw, tk1, encI_len]; done) | (simp (disch := omega) only [nw, eq, e2, e3, hop, v1, v2, w1, w2, aw, tk1, encI_len]; with_reducible rfl))
        | (with_reducible apply go_pbox; · first | with_reducible rfl | (simp (disch := omega) only [nw, eq, e2, e3, hop, v1, v2, w1, w2, aw, tk1, encI_len]; done) | (simp (disch := omega) only [nw, eq, e2, e3, hop, v1, v2, w1, w2, aw, tk1, encI_len]; with_reducible rfl))
        | (with_reducible apply go_opt; · first | with_reducible rfl | (simp (disch := omega) only [nw, eq, e2, e3, hop, v1, v2, w1, w2, aw, tk1, encI_len]; done) | (simp (disch := omega) only [nw, eq, e2, e3, hop, v1, v2, w1, w2, aw, tk1, encI_len]; with_reducible rfl))
        | (with_reducible apply go_chk; · first | with_reducible rfl | omega | (simp (disch := omega) only [Bool.and_eq_true, decide_eq_true_eq, beq_iff_eq, bne_iff_ne, Bool.not_eq_true', true_and, and_true, nw, eq, e2, e3, hop, v1, v2, w1, w2, aw, tk1, encI_len]; done) | (simp (disch := omega) only [Bool.and_eq_true, decide_eq_true_eq, beq_iff_eq, bne_iff_ne, ne_eq, Bool.not_eq_true', true_and, and_true, nw, eq, e2, e3, hop, v1, v2, w1, w2, aw, tk1, encI_len] <;> omega))
        | (with_reducible apply go_call; · first | with_reducible rfl | (simp (disch := omega) only [nw, eq, e2, e3, hop, v1, v2, w1, w2, aw, tk1, encI_len]; done) | (simp (disch := omega) only [nw, eq, e2, e3, hop, v1, v2, w1, w2, aw, tk1, encI_len]; with_reducible rfl))
        | (with_reducible apply go_brT; · first | with_reducible rfl | omega | (simp (disch := omega) only [Bool.and_eq_true, decide_eq_true_eq, beq_iff_eq, bne_iff_ne, Bool.not_eq_true', true_and, and_true, nw, eq, e2, e3, hop, v1, v2, w1, w2, aw, tk1, encI_len]; done) | (simp (disch := omega) only [Bool.and_eq_true, decide_eq_true_eq, beq_iff_eq, bne_iff_ne, ne_eq, Bool.not_eq_true', true_and, and_true, nw, eq, e2, e3, hop, v1, v2, w1, w2, aw, tk1, encI_len] <;> omega))
        | (with_reducible apply go_brF; · first | with_reducible rfl | (simp (disch := omega) only [decide_eq_false_iff_not, beq_eq_false_iff_ne, bne_eq_false_iff_eq, Bool.not_eq_false', nw, eq, e2, e3, hop, v1, v2, w1, w2, aw, tk1, encI_len]; done) | (simp (disch := omega) only [decide_eq_false_iff_not, beq_eq_false_iff_ne, bne_eq_false_iff_eq, ne_eq, Bool.not_eq_false', nw, eq, e2, e3, hop, v1, v2, w1, w2, aw, tk1, encI_len] <;> omega))
      try simp (disch := omega) only [nw, eq, e2, e3, hop, v1, v2, w1, w2, aw, tk1, encI_len]
    · obtain ⟨v', a3, l3, u3, e3⟩ := next_ex hl a2 19 (by omega) (by omega)
      have e3 := e3 (fu := fu) (d := 5)
      obtain ⟨k, rfl⟩ : ∃ k : Nat, v' = k := ⟨v'.toNat, by omega⟩
      have lp := polLoop (fu := fu) (by omega) (z0 := p0) (z1 := p1) (z2 := p2) (z3 := p3) (z4 := p4) (z5 := p5) (z6 := p6) (zn := dn.length) (zc := encI .u64 dn) (z8 := p8) (an := l.length) (ac := encI .i64 l) (p0 := p0) (p1 := p1) (p2 := p2) (p3 := p3) (p4 := p4) (p5 := p5) (p6 := p6) (dn := dn) (p8 := p8) (by omega) (q0 := qf) (q1 := q1) (q2 := q2) (q3 := q3) (q4 := q4) (q5 := q5) (q6 := q6) (q8 := q8) k [] fu (by omega) (by simp; omega)
      try unfold shareK
      repeat first
        | (with_reducible apply go_nil; · with_reducible rfl)
        | (with_reducible apply go_cons; · with_reducible rfl)
        | (with_reducible apply go_int; · first | with_reducible rfl | (simp (disch := omega) only [nw, eq, e2, e3]; done) | (simp (disch := omega) only [nw, eq, e2, e3]; with_reducible rfl))
        | (with_reducible apply go_bool; · first | with_reducible rfl | (simp (disch := omega) only [nw, eq, e2, e3]; done) | (simp (disch := omega) only [nw, eq, e2, e3]; with_reducible rfl))
        | (with_reducible apply go_str; · first | with_reducible rfl | (simp (disch := omega) only [nw, eq, e2, e3]; done) | (simp (disch := omega) only [nw, eq, e2, e3]; with_reducible rfl))
        | (with_reducible apply go_any; · first | with_reducible rfl | (simp (disch := omega) only [nw, eq, e2, e3]; done) | (simp (disch := omega) only [nw, eq, e2, e3]; with_reducible rfl))
        | (with_reducible apply go_ow; · first | with_reducible rfl | (simp (disch := omega) only [nw, eq, e2, e3]; done) | (simp (disch := omega) only [nw, eq, e2, e3]; with_reducible rfl))
        | (with_reducible apply go_ls; · first | with_reducible rfl | (simp (disch := omega) only [nw, eq, e2, e3]; done) | (simp (disch := omega) only [nw, eq, e2, e3]; with_reducible rfl))
        | (with_reducible apply go_agg; · first | with_reducible rfl | (simp (disch := omega) only [nw, eq, e2, e3]; done) | (simp (disch := omega) only [nw, eq, e2, e3]; with_reducible rfl))
        | (with_reducible apply go_pbox; · first | with_reducible rfl | (simp (disch := omega) only [nw, eq, e2, e3]; done) | (simp (disch := omega) only [nw, eq, e2, e3]; with_reducible rfl))
        | (with_reducible apply go_opt; · first | with_reducible rfl | (simp (disch := omega) only [nw, eq, e2, e3]; done) | (simp (disch := omega) only [nw, eq, e2, e3]; with_reducible rfl))
        | (with_reducible apply go_chk; · first | with_reducible rfl | omega | (simp (disch := omega) only [Bool.and_eq_true, decide_eq_true_eq, beq_iff_eq, bne_iff_ne, Bool.not_eq_true', true_and, and_true, nw, eq, e2, e3]; done) | (simp (disch := omega) only [Bool.and_eq_true, decide_eq_true_eq, beq_iff_eq, bne_iff_ne, ne_eq, Bool.not_eq_true', true_and, and_true, nw, eq, e2, e3] <;> omega))
        | (with_reducible apply go_call; · first | with_reducible rfl | (simp (disch := omega) only [nw, eq, e2, e3]; done) | (simp (disch := omega) only [nw, eq, e2, e3]; with_reducible rfl))
        | (with_reducible apply go_brT; · first | with_reducible rfl | omega | (simp (disch := omega) only [Bool.and_eq_true, decide_eq_true_eq, beq_iff_eq, bne_iff_ne, Bool.not_eq_true', true_and, and_true, nw, eq, e2, e3]; done) | (simp (disch := omega) only [Bool.and_eq_true, decide_eq_true_eq, beq_iff_eq, bne_iff_ne, ne_eq, Bool.not_eq_true', true_and, and_true, nw, eq, e2, e3] <;> omega))
        | (with_reducible apply go_brF; · first | with_reducible rfl | (simp (disch := omega) only [decide_eq_false_iff_not, beq_eq_false_iff_ne, bne_eq_false_iff_eq, Bool.not_eq_false', nw, eq, e2, e3]; done) | (simp (disch := omega) only [decide_eq_false_iff_not, beq_eq_false_iff_ne, bne_eq_false_iff_eq, ne_eq, Bool.not_eq_false', nw, eq, e2, e3] <;> omega))
      try simp (disch := omega) only [nw, eq, e2, e3]
      exact lp
    · obtain ⟨v', a3, l3, u3, e3⟩ := next_ex hl a2 3 (by omega) (by omega)
      obtain ⟨v'', a4, l4, u4, e4⟩ := next_ex hl a3 3 (by omega) (by omega)
      have e3 := e3 (fu := fu) (d := 5)
      have e4 := e4 (fu := fu) (d := 5)
      have x1 := val_cells (fu := fu) (d := 5) (by omega) qf q1 q2 q3 q4 q5 q6 [v', v''] q8 2 rfl (by omega)
      have x2 := valR_cells (fu := fu) (d := 5) (by omega) qf q1 q2 q3 q4 q5 q6 [v', v''] q8 2 rfl (by omega)
      simp only [encI, intC, List.flatMap_cons, List.flatMap_nil, List.append_nil, List.cons_append, List.nil_append] at x1 x2
      try unfold shareK
      repeat first
        | (with_reducible apply go_nil; · with_reducible rfl)
        | (with_reducible apply go_cons; · with_reducible rfl)
        | (with_reducible apply go_int; · first | with_reducible rfl | (simp (disch := omega) only [nw, eq, e2, e3, e4, v1, v2, x1, x2, aw, wrap_u64, List.drop_zero, Nat.mul_one, List.take_succ_cons, List.take_zero, List.length_cons, List.length_nil]; done) | (simp (disch := omega) only [nw, eq, e2, e3, e4, v1, v2, x1, x2, aw, wrap_u64, List.drop_zero, Nat.mul_one, List.take_succ_cons, List.take_zero, List.length_cons, List.length_nil]; with_reducible rfl))
        | (with_reducible apply go_bool; · first | with_reducible rfl | (simp (disch := omega) only [nw, eq, e2, e3, e4, v1, v2, x1, x2, aw, wrap_u64, List.drop_zero, Nat.mul_one, List.take_succ_cons, List.take_zero, List.length_cons, List.length_nil]; done) | (simp (disch := omega) only [nw, eq, e2, e3, e4, v1, v2, x1, x2, aw, wrap_u64, List.drop_zero, Nat.mul_one, List.take_succ_cons, List.take_zero, List.length_cons, List.length_nil]; with_reducible rfl))
        | (with_reducible apply go_str; · first | with_reducible rfl | (simp (disch := omega) only [nw, eq, e2, e3, e4, v1, v2, x1, x2, aw, wrap_u64, List.drop_zero, Nat.mul_one, List.take_succ_cons, List.take_zero, List.length_cons, List.length_nil]; done) | (simp (disch := omega) only [nw, eq, e2, e3, e4, v1, v2, x1, x2, aw, wrap_u64, List.drop_zero, Nat.mul_one, List.take_succ_cons, List.take_zero, List.length_cons, List.length_nil]; with_reducible rfl))
        | (with_reducible apply go_any; · first | with_reducible rfl | (simp (disch := omega) only [nw, eq, e2, e3, e4, v1, v2, x1, x2, aw, wrap_u64, List.drop_zero, Nat.mul_one, List.take_succ_cons, List.take_zero, List.length_cons, List.length_nil]; done) | (simp (disch := omega) only [nw, eq, e2, e3, e4, v1, v2, x1, x2, aw, wrap_u64, List.drop_zero, Nat.mul_one, List.take_succ_cons, List.take_zero, List.length_cons, List.length_nil]; with_reducible rfl))
        | (with_reducible apply go_ow; · first | with_reducible rfl | (simp (disch := omega) only [nw, eq, e2, e3, e4, v1, v2, x1, x2, aw, wrap_u64, List.drop_zero, Nat.mul_one, List.take_succ_cons, List.take_zero, List.length_cons, List.length_nil]; done) | (simp (disch := omega) only [nw, eq, e2, e3, e4, v1, v2, x1, x2, aw, wrap_u64, List.drop_zero, Nat.mul_one, List.take_succ_cons, List.take_zero, List.length_cons, List.length_nil]; with_reducible rfl))
        | (with_reducible apply go_ls; · first | with_reducible rfl | (simp (disch := omega) only [nw, eq, e2, e3, e4, v1, v2, x1, x2, aw, wrap_u64, List.drop_zero, Nat.mul_one, List.take_succ_cons, List.take_zero, List.length_cons, List.length_nil]; done) | (simp (disch := omega) only [nw, eq, e2, e3, e4, v1, v2, x1, x2, aw, wrap_u64, List.drop_zero, Nat.mul_one, List.take_succ_cons, List.take_zero, List.length_cons, List.length_nil]; with_reducible rfl))
        | (with_reducible apply go_agg; · first | with_reducible rfl | (simp (disch := omega) only [nw, eq, e2, e3, e4, v1, v2, x1, x2, aw, wrap_u64, List.drop_zero, Nat.mul_one, List.take_succ_cons, List.take_zero, List.length_cons, List.length_nil]; done) | (simp (disch := omega) only [nw, eq, e2, e3, e4, v1, v2, x1, x2, aw, wrap_u64, List.drop_zero, Nat.mul_one, List.take_succ_cons, List.take_zero, List.length_cons, List.length_nil]; with_reducible rfl))
        | (with_reducible apply go_pbox; · first | with_reducible rfl | (simp (disch := omega) only [nw, eq, e2, e3, e4, v1, v2, x1, x2, aw, wrap_u64, List.drop_zero, Nat.mul_one, List.take_succ_cons, List.take_zero, List.length_cons, List.length_nil]; done) | (simp (disch := omega) only [nw, eq, e2, e3, e4, v1, v2, x1, x2, aw, wrap_u64, List.drop_zero, Nat.mul_one, List.take_succ_cons, List.take_zero, List.length_cons, List.length_nil]; with_reducible rfl))
        | (with_reducible apply go_opt; · first | with_reducible rfl | (simp (disch := omega) only [nw, eq, e2, e3, e4, v1, v2, x1, x2, aw, wrap_u64, List.drop_zero, Nat.mul_one, List.take_succ_cons, List.take_zero, List.length_cons, List.length_nil]; done) | (simp (disch := omega) only [nw, eq, e2, e3, e4, v1, v2, x1, x2, aw, wrap_u64, List.drop_zero, Nat.mul_one, List.take_succ_cons, List.take_zero, List.length_cons, List.length_nil]; with_reducible rfl))
        | (with_reducible apply go_chk; · first | with_reducible rfl | omega | (simp (disch := omega) only [Bool.and_eq_true, decide_eq_true_eq, beq_iff_eq, bne_iff_ne, Bool.not_eq_true', true_and, and_true, nw, eq, e2, e3, e4, v1, v2, x1, x2, aw, wrap_u64, List.drop_zero, Nat.mul_one, List.take_succ_cons, List.take_zero, List.length_cons, List.length_nil]; done) | (simp (disch := omega) only [Bool.and_eq_true, decide_eq_true_eq, beq_iff_eq, bne_iff_ne, ne_eq, Bool.not_eq_true', true_and, and_true, nw, eq, e2, e3, e4, v1, v2, x1, x2, aw, wrap_u64, List.drop_zero, Nat.mul_one, List.take_succ_cons, List.take_zero, List.length_cons, List.length_nil] <;> omega))
        | (with_reducible apply go_call; · first | with_reducible rfl | (simp (disch := omega) only [nw, eq, e2, e3, e4, v1, v2, x1, x2, aw, wrap_u64, List.drop_zero, Nat.mul_one, List.take_succ_cons, List.take_zero, List.length_cons, List.length_nil]; done) | (simp (disch := omega) only [nw, eq, e2, e3, e4, v1, v2, x1, x2, aw, wrap_u64, List.drop_zero, Nat.mul_one, List.take_succ_cons, List.take_zero, List.length_cons, List.length_nil]; with_reducible rfl))
        | (with_reducible apply go_brT; · first | with_reducible rfl | omega | (simp (disch := omega) only [Bool.and_eq_true, decide_eq_true_eq, beq_iff_eq, bne_iff_ne, Bool.not_eq_true', true_and, and_true, nw, eq, e2, e3, e4, v1, v2, x1, x2, aw, wrap_u64, List.drop_zero, Nat.mul_one, List.take_succ_cons, List.take_zero, List.length_cons, List.length_nil]; done) | (simp (disch := omega) only [Bool.and_eq_true, decide_eq_true_eq, beq_iff_eq, bne_iff_ne, ne_eq, Bool.not_eq_true', true_and, and_true, nw, eq, e2, e3, e4, v1, v2, x1, x2, aw, wrap_u64, List.drop_zero, Nat.mul_one, List.take_succ_cons, List.take_zero, List.length_cons, List.length_nil] <;> omega))
        | (with_reducible apply go_brF; · first | with_reducible rfl | (simp (disch := omega) only [decide_eq_false_iff_not, beq_eq_false_iff_ne, bne_eq_false_iff_eq, Bool.not_eq_false', nw, eq, e2, e3, e4, v1, v2, x1, x2, aw, wrap_u64, List.drop_zero, Nat.mul_one, List.take_succ_cons, List.take_zero, List.length_cons, List.length_nil]; done) | (simp (disch := omega) only [decide_eq_false_iff_not, beq_eq_false_iff_ne, bne_eq_false_iff_eq, ne_eq, Bool.not_eq_false', nw, eq, e2, e3, e4, v1, v2, x1, x2, aw, wrap_u64, List.drop_zero, Nat.mul_one, List.take_succ_cons, List.take_zero, List.length_cons, List.length_nil] <;> omega))
      try simp (disch := omega) only [nw, eq, e2, e3, e4, v1, v2, x1, x2, aw, wrap_u64, List.drop_zero, Nat.mul_one, List.take_succ_cons, List.take_zero, List.length_cons, List.length_nil]
    · skip
      try unfold shareK
      repeat first
        | (with_reducible apply go_nil; · with_reducible rfl)
        | (with_reducible apply go_cons; · with_reducible rfl)
        | (with_reducible apply go_int; · first | with_reducible rfl | (simp (disch := omega) only [nw, eq, e2, v1, v2, w1, w2, aw, tk1, encI_len]; done) | (simp (disch := omega) only [nw, eq, e2, v1, v2, w1, w2, aw, tk1, encI_len]; with_reducible rfl))
        | (with_reducible apply go_bool; · first | with_reducible rfl | (simp (disch := omega) only [nw, eq, e2, v1, v2, w1, w2, aw, tk1, encI_len]; done) | (simp (disch := omega) only [nw, eq, e2, v1, v2, w1, w2, aw, tk1, encI_len]; with_reducible rfl))
        | (with_reducible apply go_str; · first | with_reducible rfl | (simp (disch := omega) only [nw, eq, e2, v1, v2, w1, w2, aw, tk1, encI_len]; done) | (simp (disch := omega) only [nw, eq, e2, v1, v2, w1, w2, aw, tk1, encI_len]; with_reducible rfl))
        | (with_reducible apply go_any; · first | with_reducible rfl | (simp (disch := omega) only [nw, eq, e2, v1, v2, w1, w2, aw, tk1, encI_len]; done) | (simp (disch := omega) only [nw, eq, e2, v1, v2, w1, w2, aw, tk1, encI_len]; with_reducible rfl))
        | (with_reducible apply go_ow; · first | with_reducible rfl | (simp (disch := omega) only [nw, eq, e2, v1, v2, w1, w2, aw, tk1, encI_len]; done) | (simp (disch := omega) only [nw, eq, e2, v1, v2, w1, w2, aw, tk1, encI_len]; with_reducible rfl))
        | (with_reducible apply go_ls; · first | with_reducible rfl | (simp (disch := omega) only [nw, eq, e2, v1, v2, w1, w2, aw, tk1, encI_len]; done) | (simp (disch := omega) only [nw, eq, e2, v1, v2, w1, w2, aw, tk1, encI_len]; with_reducible rfl))
        | (with_reducible apply go_agg; · first | with_reducible rfl | (simp (disch := omega) only [nw, eq, e2, v1, v2, w1, w2, aw, tk1, encI_len]; done) | (simp (disch := omega) only [nw, eq, e2, v1, v2, w1, w2, aw, tk1, encI_len]; with_reducible rfl))
        | (with_reducible apply go_pbox; · first | with_reducible rfl | (simp (disch := omega) only [nw, eq, e2, v1, v2, w1, w2, aw, tk1, encI_len]; done) | (simp (disch := omega) only [nw, eq, e2, v1, v2, w1, w2, aw, tk1, encI_len]; with_reducible rfl))
        | (with_reducible apply go_opt; · first | with_reducible rfl | (simp (disch := omega) only [nw, eq, e2, v1, v2, w1, w2, aw, tk1, encI_len]; done) | (simp (disch := omega) only [nw, eq, e2, v1, v2, w1, w2, aw, tk1, encI_len]; with_reducible rfl))
        | (with_reducible apply go_chk; · first | with_reducible rfl | omega | (simp (disch := omega) only [Bool.and_eq_true, decide_eq_true_eq, beq_iff_eq, bne_iff_ne, Bool.not_eq_true', true_and, and_true, nw, eq, e2, v1, v2, w1, w2, aw, tk1, encI_len]; done) | (simp (disch := omega) only [Bool.and_eq_true, decide_eq_true_eq, beq_iff_eq, bne_iff_ne, ne_eq, Bool.not_eq_true', true_and, and_true, nw, eq, e2, v1, v2, w1, w2, aw, tk1, encI_len] <;> omega))
        | (with_reducible apply go_call; · first | with_reducible rfl | (simp (disch := omega) only [nw, eq, e2, v1, v2, w1, w2, aw, tk1, encI_len]; done) | (simp (disch := omega) only [nw, eq, e2, v1, v2, w1, w2, aw, tk1, encI_len]; with_reducible rfl))
        | (with_reducible apply go_brT; · first | with_reducible rfl | omega | (simp (disch := omega) only [Bool.and_eq_true, decide_eq_true_eq, beq_iff_eq, bne_iff_ne, Bool.not_eq_true', true_and, and_true, nw, eq, e2, v1, v2, w1, w2, aw, tk1, encI_len]; done) | (simp (disch := omega) only [Bool.and_eq_true, decide_eq_true_eq, beq_iff_eq, bne_iff_ne, ne_eq, Bool.not_eq_true', true_and, and_true, nw, eq, e2, v1, v2, w1, w2, aw, tk1, encI_len] <;> omega))
        | (with_reducible apply go_brF; · first | with_reducible rfl | (simp (disch := omega) only [decide_eq_false_iff_not, beq_eq_false_iff_ne, bne_eq_false_iff_eq, Bool.not_eq_false', nw, eq, e2, v1, v2, w1, w2, aw, tk1, encI_len]; done) | (simp (disch := omega) only [decide_eq_false_iff_not, beq_eq_false_iff_ne, bne_eq_false_iff_eq, ne_eq, Bool.not_eq_false', nw, eq, e2, v1, v2, w1, w2, aw, tk1, encI_len] <;> omega))
      try simp (disch := omega) only [nw, eq, e2, v1, v2, w1, w2, aw, tk1, encI_len]

end

end Go.Proofs.Ytoihfmiifeegpaa.Pv
