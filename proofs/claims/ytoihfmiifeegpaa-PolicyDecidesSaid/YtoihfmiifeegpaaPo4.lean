/-
  The law PolicyDecides, as a plain equation.
-/
import Derived.Test.YtoihfmiifeegpaaPo3
set_option linter.unusedSimpArgs false
set_option linter.unusedVariables false
set_option maxRecDepth 100000
namespace Go.Proofs.Ytoihfmiifeegpaa.Pv

theorem policyDecides_plain (qs : List PV) (h : All2 (WTv Try.prog) [24, 39, 41, 44, 3, 25] qs) : ∃ C fu d, pcall C Try.prog fu d F_passkeylaw31_PolicyDecides qs = some ⟨[.sc (.bool true)], []⟩ := by
  obtain ⟨q0, _, rfl, h0, g⟩ := h.cons_inv
  obtain ⟨q1, _, rfl, h1, g⟩ := g.cons_inv
  obtain ⟨q2, _, rfl, h2, g⟩ := g.cons_inv
  obtain ⟨q3, _, rfl, h3, g⟩ := g.cons_inv
  obtain ⟨q4, _, rfl, h4, g⟩ := g.cons_inv
  obtain ⟨q5, _, rfl, h5, g⟩ := g.cons_inv
  obtain rfl := g.nil_inv
  clear h g
  obtain ⟨ps, rfl, k0⟩ := wtv_agg (by kernel_rfl) h0
  obtain ⟨p0, p1, p2, p3, p4, p5, p6, dn, p8, rfl, _, _, _, _, hdn, _, _⟩ := ka_api_Policy k0
  obtain ⟨ps, rfl, k1⟩ := wtv_agg (by kernel_rfl) h1
  obtain ⟨a0, a1, a2, a3, a4, a5, a6, a7, rfl, _⟩ := ka_api_AuthData k1
  obtain ⟨ps, rfl, k2⟩ := wtv_agg (by kernel_rfl) h2
  obtain ⟨t0, t1, t2, rfl, _⟩ := ka_api_Attested k2
  obtain ⟨ps, rfl, k3⟩ := wtv_agg (by kernel_rfl) h3
  obtain ⟨c0, c1, c2, c3, c4, c5, c6, c7, c8, c9, c10, rfl, _⟩ := ka_api_Stored k3
  obtain ⟨st, rfl, _⟩ := wtv_int (k := .i64) (by kernel_rfl) (by kernel_rfl) h4
  obtain ⟨l, rfl, hl, _⟩ := wtv_ints (k := .i64) (e := 3) (by kernel_rfl) (by kernel_rfl) (by kernel_rfl) (by kernel_rfl) h5
  clear h0 h1 h2 h3 h4 h5 k0 k1 k2 k3
  obtain ⟨fu, hfu⟩ : ∃ fu, fu = 1000 := ⟨_, rfl⟩
  refine ⟨C0, fu, 8, ?_⟩
  have aw := awake_eq (fu := fu) (d := 2) (by omega)
  rw [passkeylaw31_PolicyDecides_e]
  by_cases h40 : 40 < dn.length
  · skip
    try unfold shareK
    repeat first
      | (with_reducible apply go_nil; · with_reducible rfl)
      | (with_reducible apply go_cons; · with_reducible rfl)
      | (with_reducible apply go_int; · first | with_reducible rfl | (simp (disch := omega) only [aw]; done) | (simp (disch := omega) only [aw]; with_reducible rfl))
      | (with_reducible apply go_bool; · first | with_reducible rfl | (simp (disch := omega) only [aw]; done) | (simp (disch := omega) only [aw]; with_reducible rfl))
      | (with_reducible apply go_str; · first | with_reducible rfl | (simp (disch := omega) only [aw]; done) | (simp (disch := omega) only [aw]; with_reducible rfl))
      | (with_reducible apply go_any; · first | with_reducible rfl | (simp (disch := omega) only [aw]; done) | (simp (disch := omega) only [aw]; with_reducible rfl))
      | (with_reducible apply go_ow; · first | with_reducible rfl | (simp (disch := omega) only [aw]; done) | (simp (disch := omega) only [aw]; with_reducible rfl))
      | (with_reducible apply go_ls; · first | with_reducible rfl | (simp (disch := omega) only [aw]; done) | (simp (disch := omega) only [aw]; with_reducible rfl))
      | (with_reducible apply go_agg; · first | with_reducible rfl | (simp (disch := omega) only [aw]; done) | (simp (disch := omega) only [aw]; with_reducible rfl))
      | (with_reducible apply go_pbox; · first | with_reducible rfl | (simp (disch := omega) only [aw]; done) | (simp (disch := omega) only [aw]; with_reducible rfl))
      | (with_reducible apply go_opt; · first | with_reducible rfl | (simp (disch := omega) only [aw]; done) | (simp (disch := omega) only [aw]; with_reducible rfl))
      | (with_reducible apply go_chk; · first | with_reducible rfl | omega | (simp (disch := omega) only [Bool.and_eq_true, decide_eq_true_eq, beq_iff_eq, bne_iff_ne, Bool.not_eq_true', true_and, and_true, aw]; done) | (simp (disch := omega) only [Bool.and_eq_true, decide_eq_true_eq, beq_iff_eq, bne_iff_ne, ne_eq, Bool.not_eq_true', true_and, and_true, aw] <;> omega))
      | (with_reducible apply go_call; · first | with_reducible rfl | (simp (disch := omega) only [aw]; done) | (simp (disch := omega) only [aw]; with_reducible rfl))
      | (with_reducible apply go_brT; · first | with_reducible rfl | omega | (simp (disch := omega) only [Bool.and_eq_true, decide_eq_true_eq, beq_iff_eq, bne_iff_ne, Bool.not_eq_true', true_and, and_true, aw]; done) | (simp (disch := omega) only [Bool.and_eq_true, decide_eq_true_eq, beq_iff_eq, bne_iff_ne, ne_eq, Bool.not_eq_true', true_and, and_true, aw] <;> omega))
      | (with_reducible apply go_brF; · first | with_reducible rfl | (simp (disch := omega) only [decide_eq_false_iff_not, beq_eq_false_iff_ne, bne_eq_false_iff_eq, Bool.not_eq_false', aw]; done) | (simp (disch := omega) only [decide_eq_false_iff_not, beq_eq_false_iff_ne, bne_eq_false_iff_eq, ne_eq, Bool.not_eq_false', aw] <;> omega))
    try simp (disch := omega) only [aw]
  · have nw := new_eq (fu := fu) (d := 6) (l := l)
    obtain ⟨q, b1, _, _, hq, eq⟩ := deckPolicy_ex hl 0
    have eq := eq (fu := fu) (d := 4)
    obtain ⟨b, f, k, b2, hb1, hb2, _, _, _, _, _, _, _, ef⟩ := facts_ex hl b1
    have ef := ef (fu := fu) (d := 4)
    obtain ⟨qf, q1, q2, q3, q4, q5, q6, qd, q8⟩ := q
    obtain ⟨x0, x1, x2, x3, x4, xn, xc, x6, x7⟩ := b
    simp only at hb1 hb2 hq
    subst hb1 hb2
    obtain ⟨m, b3, l3, u3, e3⟩ := next_ex hl b2 8 (by omega) (by omega)
    obtain ⟨sv, b4, l4, u4, e4⟩ := next_ex hl b3 2 (by omega) (by omega)
    have e3 := e3 (fu := fu) (d := 5)
    have e4 := e4 (fu := fu) (d := 5)
    have r1 := reg_eq (fu := fu) (d := 3) ⟨p0, p1, p2, p3, p4, p5, p6, dn, p8⟩ hdn (by simp only; omega) ⟨a0, a1, a2, a3, a4, a5.length, encI .u8 a5, a6, a7⟩ t0 t1 t2 st
    have r2 := regR_eq (fu := fu) (d := 3) ⟨p0, p1, p2, p3, p4, p5, p6, dn, p8⟩ hdn (by simp only; omega) ⟨a0, a1, a2, a3, a4, a5.length, encI .u8 a5, a6, a7⟩ t0 t1 t2 st
    have r3 := reg_eq (fu := fu) (d := 3) ⟨qf, q1, q2, q3, q4, q5, q6, qd, q8⟩ (by simp only [maxLen]; omega) (by simp only; omega) ⟨x0, x1, x2, x3, x4, 0, [], x6, x7⟩ f 0 0 k
    have r4 := regR_eq (fu := fu) (d := 3) ⟨qf, q1, q2, q3, q4, q5, q6, qd, q8⟩ (by simp only [maxLen]; omega) (by simp only; omega) ⟨x0, x1, x2, x3, x4, 0, [], x6, x7⟩ f 0 0 k
    have s1 := sgn_eq (fu := fu) (d := 3) ⟨p0, p1, p2, p3, p4, p5, p6, dn, p8⟩ hdn (by simp only; omega) ⟨a0, a1, a2, a3, a4, a5.length, encI .u8 a5, a6, a7⟩ ⟨c0.length, encI .u8 c0, c1, c2, c3, c4, c5, c6, c7.length, c7.flatten, c8, c9, c10⟩ st
    have s2 := sgnR_eq (fu := fu) (d := 3) ⟨p0, p1, p2, p3, p4, p5, p6, dn, p8⟩ hdn (by simp only; omega) ⟨a0, a1, a2, a3, a4, a5.length, encI .u8 a5, a6, a7⟩ ⟨c0.length, encI .u8 c0, c1, c2, c3, c4, c5, c6, c7.length, c7.flatten, c8, c9, c10⟩ st
    have s3 := sgn_eq (fu := fu) (d := 3) ⟨qf, q1, q2, q3, q4, q5, q6, qd, q8⟩ (by simp only [maxLen]; omega) (by simp only; omega) ⟨x0, x1, x2, x3, x4, 0, [], x6, x7⟩ ⟨0, [], 0, 0, m, 0, sv == 1, 0, 0, [], false, 0, 0⟩ k
    have s4 := sgnR_eq (fu := fu) (d := 3) ⟨qf, q1, q2, q3, q4, q5, q6, qd, q8⟩ (by simp only [maxLen]; omega) (by simp only; omega) ⟨x0, x1, x2, x3, x4, 0, [], x6, x7⟩ ⟨0, [], 0, 0, m, 0, sv == 1, 0, 0, [], false, 0, 0⟩ k
    simp only [Pol.cells, Adt.cells, Stc.cells] at r1 r2 r3 r4 s1 s2 s3 s4
    simp only [Pol.own, Adt.own] at eq ef
    have hle := encI_len .u64 qd
    try unfold shareK
    repeat first
      | (with_reducible apply go_nil; · with_reducible rfl)
      | (with_reducible apply go_cons; · with_reducible rfl)
      | (with_reducible apply go_int; · first | with_reducible rfl | (simp (disch := omega) only [nw, eq, ef, e3, e4, r1, r2, r3, r4, s1, s2, s3, s4, aw, tk1, encI_len, wrap_u64, List.drop_nil, List.take_nil, List.length_nil]; done) | (simp (disch := omega) only [nw, eq, ef, e3, e4, r1, r2, r3, r4, s1, s2, s3, s4, aw, tk1, encI_len, wrap_u64, List.drop_nil, List.take_nil, List.length_nil]; with_reducible rfl))
      | (with_reducible apply go_bool; · first | with_reducible rfl | (simp (disch := omega) only [nw, eq, ef, e3, e4, r1, r2, r3, r4, s1, s2, s3, s4, aw, tk1, encI_len, wrap_u64, List.drop_nil, List.take_nil, List.length_nil]; done) | (simp (disch := omega) only [nw, eq, ef, e3, e4, r1, r2, r3, r4, s1, s2, s3, s4, aw, tk1, encI_len, wrap_u64, List.drop_nil, List.take_nil, List.length_nil]; with_reducible rfl))
      | (with_reducible apply go_str; · first | with_reducible rfl | (simp (disch := omega) only [nw, eq, ef, e3, e4, r1, r2, r3, r4, s1, s2, s3, s4, aw, tk1, encI_len, wrap_u64, List.drop_nil, List.take_nil, List.length_nil]; done) | (simp (disch := omega) only [nw, eq, ef, e3, e4, r1, r2, r3, r4, s1, s2, s3, s4, aw, tk1, encI_len, wrap_u64, List.drop_nil, List.take_nil, List.length_nil]; with_reducible rfl))
      | (with_reducible apply go_any; · first | with_reducible rfl | (simp (disch := omega) only [nw, eq, ef, e3, e4, r1, r2, r3, r4, s1, s2, s3, s4, aw, tk1, encI_len, wrap_u64, List.drop_nil, List.take_nil, List.length_nil]; done) | (simp (disch := omega) only [nw, eq, ef, e3, e4, r1, r2, r3, r4, s1, s2, s3, s4, aw, tk1, encI_len, wrap_u64, List.drop_nil, List.take_nil, List.length_nil]; with_reducible rfl))
      | (with_reducible apply go_ow; · first | with_reducible rfl | (simp (disch := omega) only [nw, eq, ef, e3, e4, r1, r2, r3, r4, s1, s2, s3, s4, aw, tk1, encI_len, wrap_u64, List.drop_nil, List.take_nil, List.length_nil]; done) | (simp (disch := omega) only [nw, eq, ef, e3, e4, r1, r2, r3, r4, s1, s2, s3, s4, aw, tk1, encI_len, wrap_u64, List.drop_nil, List.take_nil, List.length_nil]; with_reducible rfl))
      | (with_reducible apply go_ls; · first | with_reducible rfl | (simp (disch := omega) only [nw, eq, ef, e3, e4, r1, r2, r3, r4, s1, s2, s3, s4, aw, tk1, encI_len, wrap_u64, List.drop_nil, List.take_nil, List.length_nil]; done) | (simp (disch := omega) only [nw, eq, ef, e3, e4, r1, r2, r3, r4, s1, s2, s3, s4, aw, tk1, encI_len, wrap_u64, List.drop_nil, List.take_nil, List.length_nil]; with_reducible rfl))
      | (with_reducible apply go_agg; · first | with_reducible rfl | (simp (disch := omega) only [nw, eq, ef, e3, e4, r1, r2, r3, r4, s1, s2, s3, s4, aw, tk1, encI_len, wrap_u64, List.drop_nil, List.take_nil, List.length_nil]; done) | (simp (disch := omega) only [nw, eq, ef, e3, e4, r1, r2, r3, r4, s1, s2, s3, s4, aw, tk1, encI_len, wrap_u64, List.drop_nil, List.take_nil, List.length_nil]; with_reducible rfl))
      | (with_reducible apply go_pbox; · first | with_reducible rfl | (simp (disch := omega) only [nw, eq, ef, e3, e4, r1, r2, r3, r4, s1, s2, s3, s4, aw, tk1, encI_len, wrap_u64, List.drop_nil, List.take_nil, List.length_nil]; done) | (simp (disch := omega) only [nw, eq, ef, e3, e4, r1, r2, r3, r4, s1, s2, s3, s4, aw, tk1, encI_len, wrap_u64, List.drop_nil, List.take_nil, List.length_nil]; with_reducible rfl))
      | (with_reducible apply go_opt; · first | with_reducible rfl | (simp (disch := omega) only [nw, eq, ef, e3, e4, r1, r2, r3, r4, s1, s2, s3, s4, aw, tk1, encI_len, wrap_u64, List.drop_nil, List.take_nil, List.length_nil]; done) | (simp (disch := omega) only [nw, eq, ef, e3, e4, r1, r2, r3, r4, s1, s2, s3, s4, aw, tk1, encI_len, wrap_u64, List.drop_nil, List.take_nil, List.length_nil]; with_reducible rfl))
      | (with_reducible apply go_chk; · first | with_reducible rfl | omega | (simp (disch := omega) only [Bool.and_eq_true, decide_eq_true_eq, beq_iff_eq, bne_iff_ne, Bool.not_eq_true', true_and, and_true, nw, eq, ef, e3, e4, r1, r2, r3, r4, s1, s2, s3, s4, aw, tk1, encI_len, wrap_u64, List.drop_nil, List.take_nil, List.length_nil]; done) | (simp (disch := omega) only [Bool.and_eq_true, decide_eq_true_eq, beq_iff_eq, bne_iff_ne, ne_eq, Bool.not_eq_true', true_and, and_true, nw, eq, ef, e3, e4, r1, r2, r3, r4, s1, s2, s3, s4, aw, tk1, encI_len, wrap_u64, List.drop_nil, List.take_nil, List.length_nil] <;> omega))
      | (with_reducible apply go_call; · first | with_reducible rfl | (simp (disch := omega) only [nw, eq, ef, e3, e4, r1, r2, r3, r4, s1, s2, s3, s4, aw, tk1, encI_len, wrap_u64, List.drop_nil, List.take_nil, List.length_nil]; done) | (simp (disch := omega) only [nw, eq, ef, e3, e4, r1, r2, r3, r4, s1, s2, s3, s4, aw, tk1, encI_len, wrap_u64, List.drop_nil, List.take_nil, List.length_nil]; with_reducible rfl))
      | (with_reducible apply go_brT; · first | with_reducible rfl | omega | (simp (disch := omega) only [Bool.and_eq_true, decide_eq_true_eq, beq_iff_eq, bne_iff_ne, Bool.not_eq_true', true_and, and_true, nw, eq, ef, e3, e4, r1, r2, r3, r4, s1, s2, s3, s4, aw, tk1, encI_len, wrap_u64, List.drop_nil, List.take_nil, List.length_nil]; done) | (simp (disch := omega) only [Bool.and_eq_true, decide_eq_true_eq, beq_iff_eq, bne_iff_ne, ne_eq, Bool.not_eq_true', true_and, and_true, nw, eq, ef, e3, e4, r1, r2, r3, r4, s1, s2, s3, s4, aw, tk1, encI_len, wrap_u64, List.drop_nil, List.take_nil, List.length_nil] <;> omega))
      | (with_reducible apply go_brF; · first | with_reducible rfl | (simp (disch := omega) only [decide_eq_false_iff_not, beq_eq_false_iff_ne, bne_eq_false_iff_eq, Bool.not_eq_false', nw, eq, ef, e3, e4, r1, r2, r3, r4, s1, s2, s3, s4, aw, tk1, encI_len, wrap_u64, List.drop_nil, List.take_nil, List.length_nil]; done) | (simp (disch := omega) only [decide_eq_false_iff_not, beq_eq_false_iff_ne, bne_eq_false_iff_eq, ne_eq, Bool.not_eq_false', nw, eq, ef, e3, e4, r1, r2, r3, r4, s1, s2, s3, s4, aw, tk1, encI_len, wrap_u64, List.drop_nil, List.take_nil, List.length_nil] <;> omega))
    try simp (disch := omega) only [nw, eq, ef, e3, e4, r1, r2, r3, r4, s1, s2, s3, s4, aw, tk1, encI_len, wrap_u64, List.drop_nil, List.take_nil, List.length_nil]

end Go.Proofs.Ytoihfmiifeegpaa.Pv
