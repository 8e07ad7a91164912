/-
  The laws PolicyWeaker and PolicyModels, as plain equations.
-/
import Derived.Test.YtoihfmiifeegpaaPo3
set_option linter.unusedSimpArgs false
set_option linter.unusedVariables false
set_option maxRecDepth 100000
namespace Go.Proofs.Ytoihfmiifeegpaa.Pv

theorem bne_t {a : Int} (h : a ≠ 0) : (a != 0) = true := by simpa using h
theorem bne_f {a : Int} (h : a = 0) : (a != 0) = false := by simpa using h
theorem beq_t {a : Int} (h : a = 0) : (a == 0) = true := by simpa using h
theorem beq_f {a : Int} (h : a ≠ 0) : (a == 0) = false := by simpa using h

theorem modE_weak {dn : List Int} {od : Bool} {m st : Int} (h : modE dn od m st = 0) : modE [] true m st = 0 := by
  unfold modE at h ⊢
  by_cases h3 : st = 3
  · simp [h3] at h
  · by_cases h4 : st = 4
    · simp [h4] at h
    · simp [h3, h4]

theorem consE_weak {vf vf' fl : Int} (h : consE vf fl = 0) (hle : vf' ≤ vf) (h2 : vf ≤ 2) : consE vf' fl = 0 := by
  unfold consE at h ⊢
  by_cases h1 : iand .i64 fl 1 = 0
  · simp [h1] at h
  · by_cases h4 : iand .i64 fl 4 = 0
    · by_cases hv : vf = 2
      · simp [h1, h4, hv] at h
      · have : ¬ vf' = 2 := by omega
        simp [h1, this]
    · simp [h1, h4]

theorem sgnE_weak {p : Pol} {a : Adt} {sh : Bool} {md st vf : Int} (h : sgnE p a sh md st = 0) (hv : vf ≤ p.vf) (h2 : p.vf ≤ 2) : sgnE ⟨vf, p.rs, 1, p.pr, true, p.fm, true, [], p.op⟩ a sh md st = 0 := by
  unfold sgnE at h ⊢
  by_cases hc : consE p.vf a.fl = 0
  · simp only [consE_weak hc hv h2, if_true]
    rw [if_pos hc] at h
    by_cases hs : ((iand .i64 a.fl 8 != 0) == sh) = true
    · rw [if_pos hs] at h ⊢
      by_cases hm : md = 0
      · rw [if_pos hm]
      · rw [if_neg hm] at h ⊢
        exact modE_weak h
    · rw [if_neg hs] at h; cases h
  · rw [if_neg hc] at h; exact absurd h hc

theorem regE_weak {p : Pol} {a : Adt} {f st vf : Int} (h : regE p a f st = 0) (hv : vf ≤ p.vf) (h2 : p.vf ≤ 2) (hh : 1 ≤ p.ht) : regE ⟨vf, p.rs, 1, p.pr, true, p.fm, true, [], p.op⟩ a f st = 0 := by
  have hT : ∀ {x : Int}, regT p x f st = 0 → regT ⟨vf, p.rs, 1, p.pr, true, p.fm, true, [], p.op⟩ x f st = 0 := by
    intro x h
    unfold regT at h ⊢
    by_cases hf : f = p.fm
    · rw [if_pos hf] at h ⊢
      by_cases h2 : f = 2
      · rw [if_pos h2] at h ⊢
        by_cases h0 : st = 0
        · rw [if_pos h0] at h; cases h
        · rw [if_neg h0] at h ⊢
          exact modE_weak h
      · rw [if_neg h2]
    · rw [if_neg hf] at h; cases h
  unfold regE at h ⊢
  by_cases hc : consE p.vf a.fl = 0
  · simp only [consE_weak hc hv h2, if_true]
    rw [if_pos hc] at h
    by_cases hk : a.kh < p.ht
    · rw [if_pos hk] at h; cases h
    · rw [if_neg hk] at h
      rw [if_neg (by omega)]
      by_cases h8 : iand .i64 a.fl 8 = 0
      · rw [if_pos h8] at h ⊢; exact hT h
      · rw [if_neg h8] at h ⊢
        by_cases hs : p.sh = true
        · rw [if_pos hs] at h; exact hT h
        · rw [if_neg hs] at h; cases h
  · rw [if_neg hc] at h; exact absurd h hc

/-- More consent. -/
theorem more_fl {fl g : Int} (h : fl = 1 ∨ fl = 5 ∨ fl = 0 ∨ fl = 4 ∨ fl = 13 ∨ fl = 25) (hg : g = 0 ∨ g = 1 ∨ g = 4 ∨ g = 5) :
    iand .i64 (ior .i64 fl g) 8 = iand .i64 fl 8 ∧ (iand .i64 fl 1 ≠ 0 → iand .i64 (ior .i64 fl g) 1 ≠ 0) ∧ (iand .i64 fl 4 ≠ 0 → iand .i64 (ior .i64 fl g) 4 ≠ 0) := by
  rcases h with h | h | h | h | h | h <;> rcases hg with hg | hg | hg | hg <;> subst h <;> subst hg <;> decide

theorem consE_more {vf fl g : Int} (h : fl = 1 ∨ fl = 5 ∨ fl = 0 ∨ fl = 4 ∨ fl = 13 ∨ fl = 25) (hg : g = 0 ∨ g = 1 ∨ g = 4 ∨ g = 5) (hc : consE vf fl = 0) : consE vf (ior .i64 fl g) = 0 := by
  obtain ⟨_, h1, h4⟩ := more_fl h hg
  unfold consE at hc ⊢
  by_cases e1 : iand .i64 fl 1 = 0
  · simp [e1] at hc
  · rw [if_neg (h1 e1)]
    by_cases e4 : iand .i64 fl 4 = 0
    · by_cases hv : vf = 2
      · simp [e1, e4, hv] at hc
      · rw [if_neg hv]
    · rw [if_neg (h4 e4)]
      simp

theorem sgnE_more {p : Pol} {a : Adt} {sh : Bool} {md st g : Int} (h : a.fl = 1 ∨ a.fl = 5 ∨ a.fl = 0 ∨ a.fl = 4 ∨ a.fl = 13 ∨ a.fl = 25) (hg : g = 0 ∨ g = 1 ∨ g = 4 ∨ g = 5) (hs : sgnE p a sh md st = 0) :
    sgnE p ⟨a.rp, ior .i64 a.fl g, a.ct, a.rg, a.md, a.idn, a.id, a.kh, a.kr⟩ sh md st = 0 := by
  unfold sgnE at hs ⊢
  by_cases hc : consE p.vf a.fl = 0
  · simp only [consE_more h hg hc, (more_fl h hg).1]
    rw [if_pos hc] at hs
    exact hs
  · rw [if_neg hc] at hs; exact absurd hs hc

theorem regE_more {p : Pol} {a : Adt} {f st g : Int} (h : a.fl = 1 ∨ a.fl = 5 ∨ a.fl = 0 ∨ a.fl = 4 ∨ a.fl = 13 ∨ a.fl = 25) (hg : g = 0 ∨ g = 1 ∨ g = 4 ∨ g = 5) (hs : regE p a f st = 0) :
    regE p ⟨a.rp, ior .i64 a.fl g, a.ct, a.rg, a.md, a.idn, a.id, a.kh, a.kr⟩ f st = 0 := by
  unfold regE at hs ⊢
  by_cases hc : consE p.vf a.fl = 0
  · simp only [consE_more h hg hc, (more_fl h hg).1]
    rw [if_pos hc] at hs
    exact hs
  · rw [if_neg hc] at hs; exact absurd hs hc

theorem and5n (n : Nat) : n &&& 5 = 0 ∨ n &&& 5 = 1 ∨ n &&& 5 = 4 ∨ n &&& 5 = 5 := by
  have h : n &&& 5 = (n % 8) &&& 5 := by
    apply Nat.eq_of_testBit_eq
    intro i
    simp only [Nat.testBit_and]
    by_cases hi : i < 3
    · rw [show (8 : Nat) = 2 ^ 3 from rfl, Nat.testBit_mod_two_pow]
      simp [hi]
    · have : Nat.testBit 5 i = false := by
        apply Nat.testBit_lt_two_pow
        exact Nat.lt_of_lt_of_le (show 5 < 2 ^ 3 by decide) (Nat.pow_le_pow_right (by decide) (by omega))
      simp [this]
  rw [h]
  have : n % 8 < 8 := Nat.mod_lt _ (by decide)
  generalize n % 8 = m at this
  have : m = 0 ∨ m = 1 ∨ m = 2 ∨ m = 3 ∨ m = 4 ∨ m = 5 ∨ m = 6 ∨ m = 7 := by omega
  rcases this with h | h | h | h | h | h | h | h <;> subst h <;> decide

theorem and5 (x : Int) : iand .i64 x 5 = 0 ∨ iand .i64 x 5 = 1 ∨ iand .i64 x 5 = 4 ∨ iand .i64 x 5 = 5 := by
  have h : (BitVec.ofInt 64 x &&& BitVec.ofInt 64 5).toNat = (BitVec.ofInt 64 x).toNat &&& 5 := by rw [BitVec.toNat_and]; rfl
  have h2 : iand .i64 x 5 = IntKind.wrap .i64 (((BitVec.ofInt 64 x).toNat &&& 5 : Nat) : Int) := by
    unfold iand
    rw [← h]
    rfl
  rw [h2]
  rcases and5n (BitVec.ofInt 64 x).toNat with e | e | e | e <;> rw [e]
  · exact .inl (by decide)
  · exact .inr (.inl (by decide))
  · exact .inr (.inr (.inl (by decide)))
  · exact .inr (.inr (.inr (by decide)))

theorem policyWeaker_plain (qs : List PV) (h : All2 (WTv Try.prog) [25, 5, 5] qs) : ∃ C fu d, pcall C Try.prog fu d F_passkeylaw31_PolicyWeaker qs = some ⟨[.sc (.bool true)], []⟩ := by
  obtain ⟨q0, _, rfl, h0, g⟩ := h.cons_inv
  obtain ⟨q1, _, rfl, h1, g⟩ := g.cons_inv
  obtain ⟨q2, _, rfl, h2, g⟩ := g.cons_inv
  obtain rfl := g.nil_inv
  clear h g
  obtain ⟨l, rfl, hl, _⟩ := wtv_ints (k := .i64) (e := 3) (by kernel_rfl) (by kernel_rfl) (by kernel_rfl) (by kernel_rfl) h0
  obtain ⟨vv, rfl, _⟩ := wtv_int (k := .u8) (by kernel_rfl) (by kernel_rfl) h1
  obtain ⟨ff, rfl, _⟩ := wtv_int (k := .u8) (by kernel_rfl) (by kernel_rfl) h2
  clear h0 h1 h2
  obtain ⟨fu, hfu⟩ : ∃ fu, fu = 1000 := ⟨_, rfl⟩
  refine ⟨C0, fu, 8, ?_⟩
  have aw := awake_eq (fu := fu) (d := 2) (by omega)
  have nw := new_eq (fu := fu) (d := 6) (l := l)
  obtain ⟨q, b1, hok, hh2, hq, eq⟩ := deckPolicy_ex hl 0
  have eq := eq (fu := fu) (d := 4)
  obtain ⟨b, f, k, b2, hb1, hb2, hfl, _, _, _, _, _, _, ef⟩ := facts_ex hl b1
  have ef := ef (fu := fu) (d := 4)
  obtain ⟨brp, bfl, bct, brg, bmd, bn, bi, bkh, bkr⟩ := b
  simp only at hb1 hb2 hfl
  subst hb1 hb2
  obtain ⟨m, b3, l3, u3, e3⟩ := next_ex hl b2 8 (by omega) (by omega)
  obtain ⟨sv, b4, l4, u4, e4⟩ := next_ex hl b3 2 (by omega) (by omega)
  have e3 := e3 (fu := fu) (d := 5)
  have e4 := e4 (fu := fu) (d := 5)
  obtain ⟨g, hg, hgg⟩ : ∃ g, iand .i64 (IntKind.wrap .i64 ff) 5 = g ∧ (g = 0 ∨ g = 1 ∨ g = 4 ∨ g = 5) := ⟨_, rfl, and5 _⟩
  obtain ⟨vf, hvf, hvl⟩ : ∃ vf, (if IntKind.wrap .i64 (Int.tmod vv 3) < q.vf then IntKind.wrap .i64 (Int.tmod vv 3) else q.vf) = vf ∧ vf ≤ q.vf := by
    refine ⟨_, rfl, ?_⟩
    split <;> omega
  have kq : q.dn.length ≤ maxLen := by simp only [maxLen]; omega
  have s1 := sgn_eq (fu := fu) (d := 3) q kq (by omega) ⟨brp, bfl, bct, brg, bmd, 0, [], bkh, bkr⟩ ⟨0, [], 0, 0, m, 0, sv == 1, 0, 0, [], false, 0, 0⟩ k
  have s2 := sgn_eq (fu := fu) (d := 3) ⟨vf, q.rs, 1, q.pr, true, q.fm, true, [], q.op⟩ (by simp only [maxLen]; simp) (by simp only [List.length_nil]; omega) ⟨brp, bfl, bct, brg, bmd, 0, [], bkh, bkr⟩ ⟨0, [], 0, 0, m, 0, sv == 1, 0, 0, [], false, 0, 0⟩ k
  have s3 := sgn_eq (fu := fu) (d := 3) q kq (by omega) ⟨brp, ior .i64 bfl g, bct, brg, bmd, 0, [], bkh, bkr⟩ ⟨0, [], 0, 0, m, 0, sv == 1, 0, 0, [], false, 0, 0⟩ k
  have r1 := reg_eq (fu := fu) (d := 3) q kq (by omega) ⟨brp, bfl, bct, brg, bmd, 0, [], bkh, bkr⟩ f 0 0 k
  have r2 := reg_eq (fu := fu) (d := 3) ⟨vf, q.rs, 1, q.pr, true, q.fm, true, [], q.op⟩ (by simp only [maxLen]; simp) (by simp only [List.length_nil]; omega) ⟨brp, bfl, bct, brg, bmd, 0, [], bkh, bkr⟩ f 0 0 k
  have r3 := reg_eq (fu := fu) (d := 3) q kq (by omega) ⟨brp, ior .i64 bfl g, bct, brg, bmd, 0, [], bkh, bkr⟩ f 0 0 k
  simp only [Pol.cells, Adt.cells, Stc.cells, encI, List.flatMap_nil, List.length_nil] at s1 s2 s3 r1 r2 r3
  simp only [Pol.own, Adt.own, encI] at eq ef
  obtain ⟨hk1, hk2, hk3, _⟩ := hok
  have t1 : List.take (q.dn.length * 1) (List.drop 0 (List.flatMap (intC .u64) q.dn)) = List.flatMap (intC .u64) q.dn := tk1 q.dn
  have hle : (List.flatMap (intC .u64) q.dn).length = q.dn.length := encI_len .u64 q.dn
  rw [passkeylaw31_PolicyWeaker_e]
  generalize hS1 : sgnE q ⟨brp, bfl, bct, brg, bmd, 0, [], bkh, bkr⟩ (sv == 1) m k = S1 at *
  generalize hR1 : regE q ⟨brp, bfl, bct, brg, bmd, 0, [], bkh, bkr⟩ f k = R1 at *
  by_cases hs : S1 = 0
  · subst hs
    have x2 := sgnE_weak (vf := vf) hS1 hvl hk2
    have x3 := sgnE_more hfl hgg hS1
    rw [x2] at s2
    rw [x3] at s3
    by_cases hr : R1 = 0
    · subst hr
      have y2 := regE_weak (vf := vf) hR1 hvl hk2 hk3
      have y3 := regE_more hfl hgg hR1
      rw [y2] at r2
      rw [y3] at r3
      try unfold shareK
      repeat first
        | (with_reducible apply go_nil; · with_reducible rfl)
        | (with_reducible apply go_cons; · with_reducible rfl)
        | (with_reducible apply go_int; · first | with_reducible rfl | (simp (disch := omega) only [nw, eq, ef, e3, e4, hvf, hg, s1, s2, s3, r1, r2, r3, aw, t1, hle, wrap_u64, List.drop_nil, List.take_nil, List.length_nil]; done) | (simp (disch := omega) only [nw, eq, ef, e3, e4, hvf, hg, s1, s2, s3, r1, r2, r3, aw, t1, hle, wrap_u64, List.drop_nil, List.take_nil, List.length_nil]; with_reducible rfl))
        | (with_reducible apply go_bool; · first | with_reducible rfl | (simp (disch := omega) only [nw, eq, ef, e3, e4, hvf, hg, s1, s2, s3, r1, r2, r3, aw, t1, hle, wrap_u64, List.drop_nil, List.take_nil, List.length_nil]; done) | (simp (disch := omega) only [nw, eq, ef, e3, e4, hvf, hg, s1, s2, s3, r1, r2, r3, aw, t1, hle, wrap_u64, List.drop_nil, List.take_nil, List.length_nil]; with_reducible rfl))
        | (with_reducible apply go_str; · first | with_reducible rfl | (simp (disch := omega) only [nw, eq, ef, e3, e4, hvf, hg, s1, s2, s3, r1, r2, r3, aw, t1, hle, wrap_u64, List.drop_nil, List.take_nil, List.length_nil]; done) | (simp (disch := omega) only [nw, eq, ef, e3, e4, hvf, hg, s1, s2, s3, r1, r2, r3, aw, t1, hle, wrap_u64, List.drop_nil, List.take_nil, List.length_nil]; with_reducible rfl))
        | (with_reducible apply go_any; · first | with_reducible rfl | (simp (disch := omega) only [nw, eq, ef, e3, e4, hvf, hg, s1, s2, s3, r1, r2, r3, aw, t1, hle, wrap_u64, List.drop_nil, List.take_nil, List.length_nil]; done) | (simp (disch := omega) only [nw, eq, ef, e3, e4, hvf, hg, s1, s2, s3, r1, r2, r3, aw, t1, hle, wrap_u64, List.drop_nil, List.take_nil, List.length_nil]; with_reducible rfl))
        | (with_reducible apply go_ow; · first | with_reducible rfl | (simp (disch := omega) only [nw, eq, ef, e3, e4, hvf, hg, s1, s2, s3, r1, r2, r3, aw, t1, hle, wrap_u64, List.drop_nil, List.take_nil, List.length_nil]; done) | (simp (disch := omega) only [nw, eq, ef, e3, e4, hvf, hg, s1, s2, s3, r1, r2, r3, aw, t1, hle, wrap_u64, List.drop_nil, List.take_nil, List.length_nil]; with_reducible rfl))
        | (with_reducible apply go_ls; · first | with_reducible rfl | (simp (disch := omega) only [nw, eq, ef, e3, e4, hvf, hg, s1, s2, s3, r1, r2, r3, aw, t1, hle, wrap_u64, List.drop_nil, List.take_nil, List.length_nil]; done) | (simp (disch := omega) only [nw, eq, ef, e3, e4, hvf, hg, s1, s2, s3, r1, r2, r3, aw, t1, hle, wrap_u64, List.drop_nil, List.take_nil, List.length_nil]; with_reducible rfl))
        | (with_reducible apply go_agg; · first | with_reducible rfl | (simp (disch := omega) only [nw, eq, ef, e3, e4, hvf, hg, s1, s2, s3, r1, r2, r3, aw, t1, hle, wrap_u64, List.drop_nil, List.take_nil, List.length_nil]; done) | (simp (disch := omega) only [nw, eq, ef, e3, e4, hvf, hg, s1, s2, s3, r1, r2, r3, aw, t1, hle, wrap_u64, List.drop_nil, List.take_nil, List.length_nil]; with_reducible rfl))
        | (with_reducible apply go_pbox; · first | with_reducible rfl | (simp (disch := omega) only [nw, eq, ef, e3, e4, hvf, hg, s1, s2, s3, r1, r2, r3, aw, t1, hle, wrap_u64, List.drop_nil, List.take_nil, List.length_nil]; done) | (simp (disch := omega) only [nw, eq, ef, e3, e4, hvf, hg, s1, s2, s3, r1, r2, r3, aw, t1, hle, wrap_u64, List.drop_nil, List.take_nil, List.length_nil]; with_reducible rfl))
        | (with_reducible apply go_opt; · first | with_reducible rfl | (simp (disch := omega) only [nw, eq, ef, e3, e4, hvf, hg, s1, s2, s3, r1, r2, r3, aw, t1, hle, wrap_u64, List.drop_nil, List.take_nil, List.length_nil]; done) | (simp (disch := omega) only [nw, eq, ef, e3, e4, hvf, hg, s1, s2, s3, r1, r2, r3, aw, t1, hle, wrap_u64, List.drop_nil, List.take_nil, List.length_nil]; with_reducible rfl))
        | (with_reducible apply go_chk; · first | with_reducible rfl | omega | (simp (disch := omega) only [Bool.and_eq_true, decide_eq_true_eq, beq_iff_eq, bne_iff_ne, Bool.not_eq_true', true_and, and_true, nw, eq, ef, e3, e4, hvf, hg, s1, s2, s3, r1, r2, r3, aw, t1, hle, wrap_u64, List.drop_nil, List.take_nil, List.length_nil]; done) | (simp (disch := omega) only [Bool.and_eq_true, decide_eq_true_eq, beq_iff_eq, bne_iff_ne, ne_eq, Bool.not_eq_true', true_and, and_true, nw, eq, ef, e3, e4, hvf, hg, s1, s2, s3, r1, r2, r3, aw, t1, hle, wrap_u64, List.drop_nil, List.take_nil, List.length_nil] <;> omega))
        | (with_reducible apply go_call; · first | with_reducible rfl | (simp (disch := omega) only [nw, eq, ef, e3, e4, hvf, hg, s1, s2, s3, r1, r2, r3, aw, t1, hle, wrap_u64, List.drop_nil, List.take_nil, List.length_nil]; done) | (simp (disch := omega) only [nw, eq, ef, e3, e4, hvf, hg, s1, s2, s3, r1, r2, r3, aw, t1, hle, wrap_u64, List.drop_nil, List.take_nil, List.length_nil]; with_reducible rfl))
        | (with_reducible apply go_brT; · first | with_reducible rfl | omega | (simp (disch := omega) only [Bool.and_eq_true, decide_eq_true_eq, beq_iff_eq, bne_iff_ne, Bool.not_eq_true', true_and, and_true, nw, eq, ef, e3, e4, hvf, hg, s1, s2, s3, r1, r2, r3, aw, t1, hle, wrap_u64, List.drop_nil, List.take_nil, List.length_nil]; done) | (simp (disch := omega) only [Bool.and_eq_true, decide_eq_true_eq, beq_iff_eq, bne_iff_ne, ne_eq, Bool.not_eq_true', true_and, and_true, nw, eq, ef, e3, e4, hvf, hg, s1, s2, s3, r1, r2, r3, aw, t1, hle, wrap_u64, List.drop_nil, List.take_nil, List.length_nil] <;> omega))
        | (with_reducible apply go_brF; · first | with_reducible rfl | (simp (disch := omega) only [decide_eq_false_iff_not, beq_eq_false_iff_ne, bne_eq_false_iff_eq, Bool.not_eq_false', nw, eq, ef, e3, e4, hvf, hg, s1, s2, s3, r1, r2, r3, aw, t1, hle, wrap_u64, List.drop_nil, List.take_nil, List.length_nil]; done) | (simp (disch := omega) only [decide_eq_false_iff_not, beq_eq_false_iff_ne, bne_eq_false_iff_eq, ne_eq, Bool.not_eq_false', nw, eq, ef, e3, e4, hvf, hg, s1, s2, s3, r1, r2, r3, aw, t1, hle, wrap_u64, List.drop_nil, List.take_nil, List.length_nil] <;> omega))
      try simp (disch := omega) only [nw, eq, ef, e3, e4, hvf, hg, s1, s2, s3, r1, r2, r3, aw, t1, hle, wrap_u64, List.drop_nil, List.take_nil, List.length_nil]
    · have hr' := beq_f hr
      try unfold shareK
      repeat first
        | (with_reducible apply go_nil; · with_reducible rfl)
        | (with_reducible apply go_cons; · with_reducible rfl)
        | (with_reducible apply go_int; · first | with_reducible rfl | (simp (disch := omega) only [nw, eq, ef, e3, e4, hvf, hg, s1, s2, s3, r1, hr', aw, t1, hle, wrap_u64, List.drop_nil, List.take_nil, List.length_nil]; done) | (simp (disch := omega) only [nw, eq, ef, e3, e4, hvf, hg, s1, s2, s3, r1, hr', aw, t1, hle, wrap_u64, List.drop_nil, List.take_nil, List.length_nil]; with_reducible rfl))
        | (with_reducible apply go_bool; · first | with_reducible rfl | (simp (disch := omega) only [nw, eq, ef, e3, e4, hvf, hg, s1, s2, s3, r1, hr', aw, t1, hle, wrap_u64, List.drop_nil, List.take_nil, List.length_nil]; done) | (simp (disch := omega) only [nw, eq, ef, e3, e4, hvf, hg, s1, s2, s3, r1, hr', aw, t1, hle, wrap_u64, List.drop_nil, List.take_nil, List.length_nil]; with_reducible rfl))
        | (with_reducible apply go_str; · first | with_reducible rfl | (simp (disch := omega) only [nw, eq, ef, e3, e4, hvf, hg, s1, s2, s3, r1, hr', aw, t1, hle, wrap_u64, List.drop_nil, List.take_nil, List.length_nil]; done) | (simp (disch := omega) only [nw, eq, ef, e3, e4, hvf, hg, s1, s2, s3, r1, hr', aw, t1, hle, wrap_u64, List.drop_nil, List.take_nil, List.length_nil]; with_reducible rfl))
        | (with_reducible apply go_any; · first | with_reducible rfl | (simp (disch := omega) only [nw, eq, ef, e3, e4, hvf, hg, s1, s2, s3, r1, hr', aw, t1, hle, wrap_u64, List.drop_nil, List.take_nil, List.length_nil]; done) | (simp (disch := omega) only [nw, eq, ef, e3, e4, hvf, hg, s1, s2, s3, r1, hr', aw, t1, hle, wrap_u64, List.drop_nil, List.take_nil, List.length_nil]; with_reducible rfl))
        | (with_reducible apply go_ow; · first | with_reducible rfl | (simp (disch := omega) only [nw, eq, ef, e3, e4, hvf, hg, s1, s2, s3, r1, hr', aw, t1, hle, wrap_u64, List.drop_nil, List.take_nil, List.length_nil]; done) | (simp (disch := omega) only [nw, eq, ef, e3, e4, hvf, hg, s1, s2, s3, r1, hr', aw, t1, hle, wrap_u64, List.drop_nil, List.take_nil, List.length_nil]; with_reducible rfl))
        | (with_reducible apply go_ls; · first | with_reducible rfl | (simp (disch := omega) only [nw, eq, ef, e3, e4, hvf, hg, s1, s2, s3, r1, hr', aw, t1, hle, wrap_u64, List.drop_nil, List.take_nil, List.length_nil]; done) | (simp (disch := omega) only [nw, eq, ef, e3, e4, hvf, hg, s1, s2, s3, r1, hr', aw, t1, hle, wrap_u64, List.drop_nil, List.take_nil, List.length_nil]; with_reducible rfl))
        | (with_reducible apply go_agg; · first | with_reducible rfl | (simp (disch := omega) only [nw, eq, ef, e3, e4, hvf, hg, s1, s2, s3, r1, hr', aw, t1, hle, wrap_u64, List.drop_nil, List.take_nil, List.length_nil]; done) | (simp (disch := omega) only [nw, eq, ef, e3, e4, hvf, hg, s1, s2, s3, r1, hr', aw, t1, hle, wrap_u64, List.drop_nil, List.take_nil, List.length_nil]; with_reducible rfl))
        | (with_reducible apply go_pbox; · first | with_reducible rfl | (simp (disch := omega) only [nw, eq, ef, e3, e4, hvf, hg, s1, s2, s3, r1, hr', aw, t1, hle, wrap_u64, List.drop_nil, List.take_nil, List.length_nil]; done) | (simp (disch := omega) only [nw, eq, ef, e3, e4, hvf, hg, s1, s2, s3, r1, hr', aw, t1, hle, wrap_u64, List.drop_nil, List.take_nil, List.length_nil]; with_reducible rfl))
        | (with_reducible apply go_opt; · first | with_reducible rfl | (simp (disch := omega) only [nw, eq, ef, e3, e4, hvf, hg, s1, s2, s3, r1, hr', aw, t1, hle, wrap_u64, List.drop_nil, List.take_nil, List.length_nil]; done) | (simp (disch := omega) only [nw, eq, ef, e3, e4, hvf, hg, s1, s2, s3, r1, hr', aw, t1, hle, wrap_u64, List.drop_nil, List.take_nil, List.length_nil]; with_reducible rfl))
        | (with_reducible apply go_chk; · first | with_reducible rfl | omega | (simp (disch := omega) only [Bool.and_eq_true, decide_eq_true_eq, beq_iff_eq, bne_iff_ne, Bool.not_eq_true', true_and, and_true, nw, eq, ef, e3, e4, hvf, hg, s1, s2, s3, r1, hr', aw, t1, hle, wrap_u64, List.drop_nil, List.take_nil, List.length_nil]; done) | (simp (disch := omega) only [Bool.and_eq_true, decide_eq_true_eq, beq_iff_eq, bne_iff_ne, ne_eq, Bool.not_eq_true', true_and, and_true, nw, eq, ef, e3, e4, hvf, hg, s1, s2, s3, r1, hr', aw, t1, hle, wrap_u64, List.drop_nil, List.take_nil, List.length_nil] <;> omega))
        | (with_reducible apply go_call; · first | with_reducible rfl | (simp (disch := omega) only [nw, eq, ef, e3, e4, hvf, hg, s1, s2, s3, r1, hr', aw, t1, hle, wrap_u64, List.drop_nil, List.take_nil, List.length_nil]; done) | (simp (disch := omega) only [nw, eq, ef, e3, e4, hvf, hg, s1, s2, s3, r1, hr', aw, t1, hle, wrap_u64, List.drop_nil, List.take_nil, List.length_nil]; with_reducible rfl))
        | (with_reducible apply go_brT; · first | with_reducible rfl | omega | (simp (disch := omega) only [Bool.and_eq_true, decide_eq_true_eq, beq_iff_eq, bne_iff_ne, Bool.not_eq_true', true_and, and_true, nw, eq, ef, e3, e4, hvf, hg, s1, s2, s3, r1, hr', aw, t1, hle, wrap_u64, List.drop_nil, List.take_nil, List.length_nil]; done) | (simp (disch := omega) only [Bool.and_eq_true, decide_eq_true_eq, beq_iff_eq, bne_iff_ne, ne_eq, Bool.not_eq_true', true_and, and_true, nw, eq, ef, e3, e4, hvf, hg, s1, s2, s3, r1, hr', aw, t1, hle, wrap_u64, List.drop_nil, List.take_nil, List.length_nil] <;> omega))
        | (with_reducible apply go_brF; · first | with_reducible rfl | (simp (disch := omega) only [decide_eq_false_iff_not, beq_eq_false_iff_ne, bne_eq_false_iff_eq, Bool.not_eq_false', nw, eq, ef, e3, e4, hvf, hg, s1, s2, s3, r1, hr', aw, t1, hle, wrap_u64, List.drop_nil, List.take_nil, List.length_nil]; done) | (simp (disch := omega) only [decide_eq_false_iff_not, beq_eq_false_iff_ne, bne_eq_false_iff_eq, ne_eq, Bool.not_eq_false', nw, eq, ef, e3, e4, hvf, hg, s1, s2, s3, r1, hr', aw, t1, hle, wrap_u64, List.drop_nil, List.take_nil, List.length_nil] <;> omega))
      try simp (disch := omega) only [nw, eq, ef, e3, e4, hvf, hg, s1, s2, s3, r1, hr', aw, t1, hle, wrap_u64, List.drop_nil, List.take_nil, List.length_nil]
  · have hs' := beq_f hs
    by_cases hr : R1 = 0
    · subst hr
      have y2 := regE_weak (vf := vf) hR1 hvl hk2 hk3
      have y3 := regE_more hfl hgg hR1
      rw [y2] at r2
      rw [y3] at r3
      try unfold shareK
      repeat first
        | (with_reducible apply go_nil; · with_reducible rfl)
        | (with_reducible apply go_cons; · with_reducible rfl)
        | (with_reducible apply go_int; · first | with_reducible rfl | (simp (disch := omega) only [nw, eq, ef, e3, e4, hvf, hg, s1, hs', r1, r2, r3, aw, t1, hle, wrap_u64, List.drop_nil, List.take_nil, List.length_nil]; done) | (simp (disch := omega) only [nw, eq, ef, e3, e4, hvf, hg, s1, hs', r1, r2, r3, aw, t1, hle, wrap_u64, List.drop_nil, List.take_nil, List.length_nil]; with_reducible rfl))
        | (with_reducible apply go_bool; · first | with_reducible rfl | (simp (disch := omega) only [nw, eq, ef, e3, e4, hvf, hg, s1, hs', r1, r2, r3, aw, t1, hle, wrap_u64, List.drop_nil, List.take_nil, List.length_nil]; done) | (simp (disch := omega) only [nw, eq, ef, e3, e4, hvf, hg, s1, hs', r1, r2, r3, aw, t1, hle, wrap_u64, List.drop_nil, List.take_nil, List.length_nil]; with_reducible rfl))
        | (with_reducible apply go_str; · first | with_reducible rfl | (simp (disch := omega) only [nw, eq, ef, e3, e4, hvf, hg, s1, hs', r1, r2, r3, aw, t1, hle, wrap_u64, List.drop_nil, List.take_nil, List.length_nil]; done) | (simp (disch := omega) only [nw, eq, ef, e3, e4, hvf, hg, s1, hs', r1, r2, r3, aw, t1, hle, wrap_u64, List.drop_nil, List.take_nil, List.length_nil]; with_reducible rfl))
        | (with_reducible apply go_any; · first | with_reducible rfl | (simp (disch := omega) only [nw, eq, ef, e3, e4, hvf, hg, s1, hs', r1, r2, r3, aw, t1, hle, wrap_u64, List.drop_nil, List.take_nil, List.length_nil]; done) | (simp (disch := omega) only [nw, eq, ef, e3, e4, hvf, hg, s1, hs', r1, r2, r3, aw, t1, hle, wrap_u64, List.drop_nil, List.take_nil, List.length_nil]; with_reducible rfl))
        | (with_reducible apply go_ow; · first | with_reducible rfl | (simp (disch := omega) only [nw, eq, ef, e3, e4, hvf, hg, s1, hs', r1, r2, r3, aw, t1, hle, wrap_u64, List.drop_nil, List.take_nil, List.length_nil]; done) | (simp (disch := omega) only [nw, eq, ef, e3, e4, hvf, hg, s1, hs', r1, r2, r3, aw, t1, hle, wrap_u64, List.drop_nil, List.take_nil, List.length_nil]; with_reducible rfl))
        | (with_reducible apply go_ls; · first | with_reducible rfl | (simp (disch := omega) only [nw, eq, ef, e3, e4, hvf, hg, s1, hs', r1, r2, r3, aw, t1, hle, wrap_u64, List.drop_nil, List.take_nil, List.length_nil]; done) | (simp (disch := omega) only [nw, eq, ef, e3, e4, hvf, hg, s1, hs', r1, r2, r3, aw, t1, hle, wrap_u64, List.drop_nil, List.take_nil, List.length_nil]; with_reducible rfl))
        | (with_reducible apply go_agg; · first | with_reducible rfl | (simp (disch := omega) only [nw, eq, ef, e3, e4, hvf, hg, s1, hs', r1, r2, r3, aw, t1, hle, wrap_u64, List.drop_nil, List.take_nil, List.length_nil]; done) | (simp (disch := omega) only [nw, eq, ef, e3, e4, hvf, hg, s1, hs', r1, r2, r3, aw, t1, hle, wrap_u64, List.drop_nil, List.take_nil, List.length_nil]; with_reducible rfl))
        | (with_reducible apply go_pbox; · first | with_reducible rfl | (simp (disch := omega) only [nw, eq, ef, e3, e4, hvf, hg, s1, hs', r1, r2, r3, aw, t1, hle, wrap_u64, List.drop_nil, List.take_nil, List.length_nil]; done) | (simp (disch := omega) only [nw, eq, ef, e3, e4, hvf, hg, s1, hs', r1, r2, r3, aw, t1, hle, wrap_u64, List.drop_nil, List.take_nil, List.length_nil]; with_reducible rfl))
        | (with_reducible apply go_opt; · first | with_reducible rfl | (simp (disch := omega) only [nw, eq, ef, e3, e4, hvf, hg, s1, hs', r1, r2, r3, aw, t1, hle, wrap_u64, List.drop_nil, List.take_nil, List.length_nil]; done) | (simp (disch := omega) only [nw, eq, ef, e3, e4, hvf, hg, s1, hs', r1, r2, r3, aw, t1, hle, wrap_u64, List.drop_nil, List.take_nil, List.length_nil]; with_reducible rfl))
        | (with_reducible apply go_chk; · first | with_reducible rfl | omega | (simp (disch := omega) only [Bool.and_eq_true, decide_eq_true_eq, beq_iff_eq, bne_iff_ne, Bool.not_eq_true', true_and, and_true, nw, eq, ef, e3, e4, hvf, hg, s1, hs', r1, r2, r3, aw, t1, hle, wrap_u64, List.drop_nil, List.take_nil, List.length_nil]; done) | (simp (disch := omega) only [Bool.and_eq_true, decide_eq_true_eq, beq_iff_eq, bne_iff_ne, ne_eq, Bool.not_eq_true', true_and, and_true, nw, eq, ef, e3, e4, hvf, hg, s1, hs', r1, r2, r3, aw, t1, hle, wrap_u64, List.drop_nil, List.take_nil, List.length_nil] <;> omega))
        | (with_reducible apply go_call; · first | with_reducible rfl | (simp (disch := omega) only [nw, eq, ef, e3, e4, hvf, hg, s1, hs', r1, r2, r3, aw, t1, hle, wrap_u64, List.drop_nil, List.take_nil, List.length_nil]; done) | (simp (disch := omega) only [nw, eq, ef, e3, e4, hvf, hg, s1, hs', r1, r2, r3, aw, t1, hle, wrap_u64, List.drop_nil, List.take_nil, List.length_nil]; with_reducible rfl))
        | (with_reducible apply go_brT; · first | with_reducible rfl | omega | (simp (disch := omega) only [Bool.and_eq_true, decide_eq_true_eq, beq_iff_eq, bne_iff_ne, Bool.not_eq_true', true_and, and_true, nw, eq, ef, e3, e4, hvf, hg, s1, hs', r1, r2, r3, aw, t1, hle, wrap_u64, List.drop_nil, List.take_nil, List.length_nil]; done) | (simp (disch := omega) only [Bool.and_eq_true, decide_eq_true_eq, beq_iff_eq, bne_iff_ne, ne_eq, Bool.not_eq_true', true_and, and_true, nw, eq, ef, e3, e4, hvf, hg, s1, hs', r1, r2, r3, aw, t1, hle, wrap_u64, List.drop_nil, List.take_nil, List.length_nil] <;> omega))
        | (with_reducible apply go_brF; · first | with_reducible rfl | (simp (disch := omega) only [decide_eq_false_iff_not, beq_eq_false_iff_ne, bne_eq_false_iff_eq, Bool.not_eq_false', nw, eq, ef, e3, e4, hvf, hg, s1, hs', r1, r2, r3, aw, t1, hle, wrap_u64, List.drop_nil, List.take_nil, List.length_nil]; done) | (simp (disch := omega) only [decide_eq_false_iff_not, beq_eq_false_iff_ne, bne_eq_false_iff_eq, ne_eq, Bool.not_eq_false', nw, eq, ef, e3, e4, hvf, hg, s1, hs', r1, r2, r3, aw, t1, hle, wrap_u64, List.drop_nil, List.take_nil, List.length_nil] <;> omega))
      try simp (disch := omega) only [nw, eq, ef, e3, e4, hvf, hg, s1, hs', r1, r2, r3, aw, t1, hle, wrap_u64, List.drop_nil, List.take_nil, List.length_nil]
    · have hr' := beq_f hr
      try unfold shareK
      repeat first
        | (with_reducible apply go_nil; · with_reducible rfl)
        | (with_reducible apply go_cons; · with_reducible rfl)
        | (with_reducible apply go_int; · first | with_reducible rfl | (simp (disch := omega) only [nw, eq, ef, e3, e4, hvf, hg, s1, hs', r1, hr', aw, t1, hle, wrap_u64, List.drop_nil, List.take_nil, List.length_nil]; done) | (simp (disch := omega) only [nw, eq, ef, e3, e4, hvf, hg, s1, hs', r1, hr', aw, t1, hle, wrap_u64, List.drop_nil, List.take_nil, List.length_nil]; with_reducible rfl))
        | (with_reducible apply go_bool; · first | with_reducible rfl | (simp (disch := omega) only [nw, eq, ef, e3, e4, hvf, hg, s1, hs', r1, hr', aw, t1, hle, wrap_u64, List.drop_nil, List.take_nil, List.length_nil]; done) | (simp (disch := omega) only [nw, eq, ef, e3, e4, hvf, hg, s1, hs', r1, hr', aw, t1, hle, wrap_u64, List.drop_nil, List.take_nil, List.length_nil]; with_reducible rfl))
        | (with_reducible apply go_str; · first | with_reducible rfl | (simp (disch := omega) only [nw, eq, ef, e3, e4, hvf, hg, s1, hs', r1, hr', aw, t1, hle, wrap_u64, List.drop_nil, List.take_nil, List.length_nil]; done) | (simp (disch := omega) only [nw, eq, ef, e3, e4, hvf, hg, s1, hs', r1, hr', aw, t1, hle, wrap_u64, List.drop_nil, List.take_nil, List.length_nil]; with_reducible rfl))
        | (with_reducible apply go_any; · first | with_reducible rfl | (simp (disch := omega) only [nw, eq, ef, e3, e4, hvf, hg, s1, hs', r1, hr', aw, t1, hle, wrap_u64, List.drop_nil, List.take_nil, List.length_nil]; done) | (simp (disch := omega) only [nw, eq, ef, e3, e4, hvf, hg, s1, hs', r1, hr', aw, t1, hle, wrap_u64, List.drop_nil, List.take_nil, List.length_nil]; with_reducible rfl))
        | (with_reducible apply go_ow; · first | with_reducible rfl | (simp (disch := omega) only [nw, eq, ef, e3, e4, hvf, hg, s1, hs', r1, hr', aw, t1, hle, wrap_u64, List.drop_nil, List.take_nil, List.length_nil]; done) | (simp (disch := omega) only [nw, eq, ef, e3, e4, hvf, hg, s1, hs', r1, hr', aw, t1, hle, wrap_u64, List.drop_nil, List.take_nil, List.length_nil]; with_reducible rfl))
        | (with_reducible apply go_ls; · first | with_reducible rfl | (simp (disch := omega) only [nw, eq, ef, e3, e4, hvf, hg, s1, hs', r1, hr', aw, t1, hle, wrap_u64, List.drop_nil, List.take_nil, List.length_nil]; done) | (simp (disch := omega) only [nw, eq, ef, e3, e4, hvf, hg, s1, hs', r1, hr', aw, t1, hle, wrap_u64, List.drop_nil, List.take_nil, List.length_nil]; with_reducible rfl))
        | (with_reducible apply go_agg; · first | with_reducible rfl | (simp (disch := omega) only [nw, eq, ef, e3, e4, hvf, hg, s1, hs', r1, hr', aw, t1, hle, wrap_u64, List.drop_nil, List.take_nil, List.length_nil]; done) | (simp (disch := omega) only [nw, eq, ef, e3, e4, hvf, hg, s1, hs', r1, hr', aw, t1, hle, wrap_u64, List.drop_nil, List.take_nil, List.length_nil]; with_reducible rfl))
        | (with_reducible apply go_pbox; · first | with_reducible rfl | (simp (disch := omega) only [nw, eq, ef, e3, e4, hvf, hg, s1, hs', r1, hr', aw, t1, hle, wrap_u64, List.drop_nil, List.take_nil, List.length_nil]; done) | (simp (disch := omega) only [nw, eq, ef, e3, e4, hvf, hg, s1, hs', r1, hr', aw, t1, hle, wrap_u64, List.drop_nil, List.take_nil, List.length_nil]; with_reducible rfl))
        | (with_reducible apply go_opt; · first | with_reducible rfl | (simp (disch := omega) only [nw, eq, ef, e3, e4, hvf, hg, s1, hs', r1, hr', aw, t1, hle, wrap_u64, List.drop_nil, List.take_nil, List.length_nil]; done) | (simp (disch := omega) only [nw, eq, ef, e3, e4, hvf, hg, s1, hs', r1, hr', aw, t1, hle, wrap_u64, List.drop_nil, List.take_nil, List.length_nil]; with_reducible rfl))
        | (with_reducible apply go_chk; · first | with_reducible rfl | omega | (simp (disch := omega) only [Bool.and_eq_true, decide_eq_true_eq, beq_iff_eq, bne_iff_ne, Bool.not_eq_true', true_and, and_true, nw, eq, ef, e3, e4, hvf, hg, s1, hs', r1, hr', aw, t1, hle, wrap_u64, List.drop_nil, List.take_nil, List.length_nil]; done) | (simp (disch := omega) only [Bool.and_eq_true, decide_eq_true_eq, beq_iff_eq, bne_iff_ne, ne_eq, Bool.not_eq_true', true_and, and_true, nw, eq, ef, e3, e4, hvf, hg, s1, hs', r1, hr', aw, t1, hle, wrap_u64, List.drop_nil, List.take_nil, List.length_nil] <;> omega))
        | (with_reducible apply go_call; · first | with_reducible rfl | (simp (disch := omega) only [nw, eq, ef, e3, e4, hvf, hg, s1, hs', r1, hr', aw, t1, hle, wrap_u64, List.drop_nil, List.take_nil, List.length_nil]; done) | (simp (disch := omega) only [nw, eq, ef, e3, e4, hvf, hg, s1, hs', r1, hr', aw, t1, hle, wrap_u64, List.drop_nil, List.take_nil, List.length_nil]; with_reducible rfl))
        | (with_reducible apply go_brT; · first | with_reducible rfl | omega | (simp (disch := omega) only [Bool.and_eq_true, decide_eq_true_eq, beq_iff_eq, bne_iff_ne, Bool.not_eq_true', true_and, and_true, nw, eq, ef, e3, e4, hvf, hg, s1, hs', r1, hr', aw, t1, hle, wrap_u64, List.drop_nil, List.take_nil, List.length_nil]; done) | (simp (disch := omega) only [Bool.and_eq_true, decide_eq_true_eq, beq_iff_eq, bne_iff_ne, ne_eq, Bool.not_eq_true', true_and, and_true, nw, eq, ef, e3, e4, hvf, hg, s1, hs', r1, hr', aw, t1, hle, wrap_u64, List.drop_nil, List.take_nil, List.length_nil] <;> omega))
        | (with_reducible apply go_brF; · first | with_reducible rfl | (simp (disch := omega) only [decide_eq_false_iff_not, beq_eq_false_iff_ne, bne_eq_false_iff_eq, Bool.not_eq_false', nw, eq, ef, e3, e4, hvf, hg, s1, hs', r1, hr', aw, t1, hle, wrap_u64, List.drop_nil, List.take_nil, List.length_nil]; done) | (simp (disch := omega) only [decide_eq_false_iff_not, beq_eq_false_iff_ne, bne_eq_false_iff_eq, ne_eq, Bool.not_eq_false', nw, eq, ef, e3, e4, hvf, hg, s1, hs', r1, hr', aw, t1, hle, wrap_u64, List.drop_nil, List.take_nil, List.length_nil] <;> omega))
      try simp (disch := omega) only [nw, eq, ef, e3, e4, hvf, hg, s1, hs', r1, hr', aw, t1, hle, wrap_u64, List.drop_nil, List.take_nil, List.length_nil]

theorem regE_model {p : Pol} {a : Adt} {st : Int} (hf : p.fm = 2) (h : modE p.dn p.od a.md st ≠ 0) (hs : st ≠ 0) : regE p a 2 st ≠ 0 := by
  have hT : regT p a.md 2 st ≠ 0 := by
    unfold regT
    rw [if_pos hf.symm, if_pos rfl, if_neg hs]
    exact h
  unfold regE
  by_cases hc : consE p.vf a.fl = 0
  · rw [if_pos hc]
    split
    · decide
    · split
      · exact hT
      · split
        · exact hT
        · decide
  · rw [if_neg hc]; exact hc

theorem sgnE_model {p : Pol} {a : Adt} {md st : Int} (h : modE p.dn p.od md st ≠ 0) (hm : md ≠ 0) : sgnE p a (iand .i64 a.fl 8 != 0) md st ≠ 0 := by
  unfold sgnE
  by_cases hc : consE p.vf a.fl = 0
  · rw [if_pos hc]
    split
    · first | exact h | (rw [if_neg hm]; exact h)
    · decide
  · rw [if_neg hc]; exact hc

theorem policyModels_plain (qs : List PV) (h : All2 (WTv Try.prog) [25, 31, 5] qs) : ∃ C fu d, pcall C Try.prog fu d F_passkeylaw31_PolicyModels qs = some ⟨[.sc (.bool true)], []⟩ := by
  obtain ⟨q0, _, rfl, h0, g⟩ := h.cons_inv
  obtain ⟨q1, _, rfl, h1, g⟩ := g.cons_inv
  obtain ⟨q2, _, rfl, h2, g⟩ := g.cons_inv
  obtain rfl := g.nil_inv
  clear h g
  obtain ⟨l, rfl, hl, _⟩ := wtv_ints (k := .i64) (e := 3) (by kernel_rfl) (by kernel_rfl) (by kernel_rfl) (by kernel_rfl) h0
  obtain ⟨md, rfl, _⟩ := wtv_int (k := .u64) (by kernel_rfl) (by kernel_rfl) h1
  obtain ⟨ss, rfl, hss⟩ := wtv_int (k := .u8) (by kernel_rfl) (by kernel_rfl) h2
  clear h0 h1 h2
  have hss : 0 ≤ ss ∧ ss ≤ 255 := wf_u8 hss
  obtain ⟨fu, hfu⟩ : ∃ fu, fu = 1000 := ⟨_, rfl⟩
  refine ⟨C0, fu, 8, ?_⟩
  have aw := awake_eq (fu := fu) (d := 2) (by omega)
  have nw := new_eq (fu := fu) (d := 6) (l := l)
  obtain ⟨q, b1, hok, hh2, hq, eq⟩ := deckPolicy_ex hl 0
  have eq := eq (fu := fu) (d := 4)
  obtain ⟨b, f, k, b2, hb1, hb2, hfl, _, _, _, _, _, _, ef⟩ := facts_ex hl b1
  have ef := ef (fu := fu) (d := 4)
  obtain ⟨brp, bfl, bct, brg, bmd, bn, bi, bkh, bkr⟩ := b
  simp only at hb1 hb2 hfl
  subst hb1 hb2
  have kq : q.dn.length ≤ maxLen := by simp only [maxLen]; omega
  simp only [Pol.own, Adt.own, encI] at eq ef
  have t1 : List.take (q.dn.length * 1) (List.drop 0 (List.flatMap (intC .u64) q.dn)) = List.flatMap (intC .u64) q.dn := tk1 q.dn
  have hle : (List.flatMap (intC .u64) q.dn).length = q.dn.length := encI_len .u64 q.dn
  have h22 : Int.tmod ss 2 = 0 ∨ Int.tmod ss 2 = 1 := by
    have h1 := Int.tmod_nonneg 2 hss.1
    have h2 := Int.tmod_lt_of_pos ss (show (0 : Int) < 2 by omega)
    omega
  rw [passkeylaw31_PolicyModels_e]
  by_cases h127 : 127 < ss
  · have r1 := reg_eq (fu := fu) (d := 3) ⟨q.vf, q.rs, q.ht, q.pr, q.sh, 2, q.od, [md], q.op⟩ (by simp only [maxLen]; simp) (by simp; omega) ⟨brp, bfl, bct, brg, md, 0, [], bkh, bkr⟩ 2 0 0 1
    have s1 := sgn_eq (fu := fu) (d := 3) ⟨q.vf, q.rs, q.ht, q.pr, q.sh, 2, q.od, [md], q.op⟩ (by simp only [maxLen]; simp) (by simp; omega) ⟨brp, bfl, bct, brg, md, 0, [], bkh, bkr⟩ ⟨0, [], 0, 0, md, 0, iand .i64 bfl 8 != 0, 0, 0, [], false, 0, 0⟩ 1
    have hm : modE [md] q.od md 1 ≠ 0 := by simp [modE]
    have x1 := bne_t (regE_model (p := ⟨q.vf, q.rs, q.ht, q.pr, q.sh, 2, q.od, [md], q.op⟩) (a := ⟨brp, bfl, bct, brg, md, 0, [], bkh, bkr⟩) (st := 1) rfl hm (by omega))
    have x2 := fun hmd => bne_t (sgnE_model (p := ⟨q.vf, q.rs, q.ht, q.pr, q.sh, 2, q.od, [md], q.op⟩) (a := ⟨brp, bfl, bct, brg, md, 0, [], bkh, bkr⟩) (md := md) (st := 1) hm hmd)
    simp only [Pol.cells, Adt.cells, Stc.cells, encI, List.flatMap_cons, List.flatMap_nil, intC, List.append_nil, List.length_cons, List.length_nil, Nat.zero_add] at r1 s1
    simp only at x1 x2
    by_cases hmd : md = 0
    · by_cases hz : (sgnE ⟨q.vf, q.rs, q.ht, q.pr, q.sh, 2, q.od, [md], q.op⟩ ⟨brp, bfl, bct, brg, md, 0, [], bkh, bkr⟩ (iand .i64 bfl 8 != 0) md 1 != 0) = true
      · skip
        try unfold shareK
        repeat first
          | (with_reducible apply go_nil; · with_reducible rfl)
          | (with_reducible apply go_cons; · with_reducible rfl)
          | (with_reducible apply go_int; · first | with_reducible rfl | (simp (disch := omega) only [nw, eq, ef, r1, s1, x1, hz, aw, t1, hle, List.drop_nil, List.take_nil, List.length_nil]; done) | (simp (disch := omega) only [nw, eq, ef, r1, s1, x1, hz, aw, t1, hle, List.drop_nil, List.take_nil, List.length_nil]; with_reducible rfl))
          | (with_reducible apply go_bool; · first | with_reducible rfl | (simp (disch := omega) only [nw, eq, ef, r1, s1, x1, hz, aw, t1, hle, List.drop_nil, List.take_nil, List.length_nil]; done) | (simp (disch := omega) only [nw, eq, ef, r1, s1, x1, hz, aw, t1, hle, List.drop_nil, List.take_nil, List.length_nil]; with_reducible rfl))
          | (with_reducible apply go_str; · first | with_reducible rfl | (simp (disch := omega) only [nw, eq, ef, r1, s1, x1, hz, aw, t1, hle, List.drop_nil, List.take_nil, List.length_nil]; done) | (simp (disch := omega) only [nw, eq, ef, r1, s1, x1, hz, aw, t1, hle, List.drop_nil, List.take_nil, List.length_nil]; with_reducible rfl))
          | (with_reducible apply go_any; · first | with_reducible rfl | (simp (disch := omega) only [nw, eq, ef, r1, s1, x1, hz, aw, t1, hle, List.drop_nil, List.take_nil, List.length_nil]; done) | (simp (disch := omega) only [nw, eq, ef, r1, s1, x1, hz, aw, t1, hle, List.drop_nil, List.take_nil, List.length_nil]; with_reducible rfl))
          | (with_reducible apply go_ow; · first | with_reducible rfl | (simp (disch := omega) only [nw, eq, ef, r1, s1, x1, hz, aw, t1, hle, List.drop_nil, List.take_nil, List.length_nil]; done) | (simp (disch := omega) only [nw, eq, ef, r1, s1, x1, hz, aw, t1, hle, List.drop_nil, List.take_nil, List.length_nil]; with_reducible rfl))
          | (with_reducible apply go_ls; · first | with_reducible rfl | (simp (disch := omega) only [nw, eq, ef, r1, s1, x1, hz, aw, t1, hle, List.drop_nil, List.take_nil, List.length_nil]; done) | (simp (disch := omega) only [nw, eq, ef, r1, s1, x1, hz, aw, t1, hle, List.drop_nil, List.take_nil, List.length_nil]; with_reducible rfl))
          | (with_reducible apply go_agg; · first | with_reducible rfl | (simp (disch := omega) only [nw, eq, ef, r1, s1, x1, hz, aw, t1, hle, List.drop_nil, List.take_nil, List.length_nil]; done) | (simp (disch := omega) only [nw, eq, ef, r1, s1, x1, hz, aw, t1, hle, List.drop_nil, List.take_nil, List.length_nil]; with_reducible rfl))
          | (with_reducible apply go_pbox; · first | with_reducible rfl | (simp (disch := omega) only [nw, eq, ef, r1, s1, x1, hz, aw, t1, hle, List.drop_nil, List.take_nil, List.length_nil]; done) | (simp (disch := omega) only [nw, eq, ef, r1, s1, x1, hz, aw, t1, hle, List.drop_nil, List.take_nil, List.length_nil]; with_reducible rfl))
          | (with_reducible apply go_opt; · first | with_reducible rfl | (simp (disch := omega) only [nw, eq, ef, r1, s1, x1, hz, aw, t1, hle, List.drop_nil, List.take_nil, List.length_nil]; done) | (simp (disch := omega) only [nw, eq, ef, r1, s1, x1, hz, aw, t1, hle, List.drop_nil, List.take_nil, List.length_nil]; with_reducible rfl))
          | (with_reducible apply go_chk; · first | with_reducible rfl | omega | (simp (disch := omega) only [Bool.and_eq_true, decide_eq_true_eq, beq_iff_eq, bne_iff_ne, Bool.not_eq_true', true_and, and_true, nw, eq, ef, r1, s1, x1, hz, aw, t1, hle, List.drop_nil, List.take_nil, List.length_nil]; done) | (simp (disch := omega) only [Bool.and_eq_true, decide_eq_true_eq, beq_iff_eq, bne_iff_ne, ne_eq, Bool.not_eq_true', true_and, and_true, nw, eq, ef, r1, s1, x1, hz, aw, t1, hle, List.drop_nil, List.take_nil, List.length_nil] <;> omega))
          | (with_reducible apply go_call; · first | with_reducible rfl | (simp (disch := omega) only [nw, eq, ef, r1, s1, x1, hz, aw, t1, hle, List.drop_nil, List.take_nil, List.length_nil]; done) | (simp (disch := omega) only [nw, eq, ef, r1, s1, x1, hz, aw, t1, hle, List.drop_nil, List.take_nil, List.length_nil]; with_reducible rfl))
          | (with_reducible apply go_brT; · first | with_reducible rfl | omega | (simp (disch := omega) only [Bool.and_eq_true, decide_eq_true_eq, beq_iff_eq, bne_iff_ne, Bool.not_eq_true', true_and, and_true, nw, eq, ef, r1, s1, x1, hz, aw, t1, hle, List.drop_nil, List.take_nil, List.length_nil]; done) | (simp (disch := omega) only [Bool.and_eq_true, decide_eq_true_eq, beq_iff_eq, bne_iff_ne, ne_eq, Bool.not_eq_true', true_and, and_true, nw, eq, ef, r1, s1, x1, hz, aw, t1, hle, List.drop_nil, List.take_nil, List.length_nil] <;> omega))
          | (with_reducible apply go_brF; · first | with_reducible rfl | (simp (disch := omega) only [decide_eq_false_iff_not, beq_eq_false_iff_ne, bne_eq_false_iff_eq, Bool.not_eq_false', nw, eq, ef, r1, s1, x1, hz, aw, t1, hle, List.drop_nil, List.take_nil, List.length_nil]; done) | (simp (disch := omega) only [decide_eq_false_iff_not, beq_eq_false_iff_ne, bne_eq_false_iff_eq, ne_eq, Bool.not_eq_false', nw, eq, ef, r1, s1, x1, hz, aw, t1, hle, List.drop_nil, List.take_nil, List.length_nil] <;> omega))
        try simp (disch := omega) only [nw, eq, ef, r1, s1, x1, hz, aw, t1, hle, List.drop_nil, List.take_nil, List.length_nil]
      · have hz := Bool.not_eq_true _ ▸ hz
        try unfold shareK
        repeat first
          | (with_reducible apply go_nil; · with_reducible rfl)
          | (with_reducible apply go_cons; · with_reducible rfl)
          | (with_reducible apply go_int; · first | with_reducible rfl | (simp (disch := omega) only [nw, eq, ef, r1, s1, x1, hz, aw, t1, hle, List.drop_nil, List.take_nil, List.length_nil]; done) | (simp (disch := omega) only [nw, eq, ef, r1, s1, x1, hz, aw, t1, hle, List.drop_nil, List.take_nil, List.length_nil]; with_reducible rfl))
          | (with_reducible apply go_bool; · first | with_reducible rfl | (simp (disch := omega) only [nw, eq, ef, r1, s1, x1, hz, aw, t1, hle, List.drop_nil, List.take_nil, List.length_nil]; done) | (simp (disch := omega) only [nw, eq, ef, r1, s1, x1, hz, aw, t1, hle, List.drop_nil, List.take_nil, List.length_nil]; with_reducible rfl))
          | (with_reducible apply go_str; · first | with_reducible rfl | (simp (disch := omega) only [nw, eq, ef, r1, s1, x1, hz, aw, t1, hle, List.drop_nil, List.take_nil, List.length_nil]; done) | (simp (disch := omega) only [nw, eq, ef, r1, s1, x1, hz, aw, t1, hle, List.drop_nil, List.take_nil, List.length_nil]; with_reducible rfl))
          | (with_reducible apply go_any; · first | with_reducible rfl | (simp (disch := omega) only [nw, eq, ef, r1, s1, x1, hz, aw, t1, hle, List.drop_nil, List.take_nil, List.length_nil]; done) | (simp (disch := omega) only [nw, eq, ef, r1, s1, x1, hz, aw, t1, hle, List.drop_nil, List.take_nil, List.length_nil]; with_reducible rfl))
          | (with_reducible apply go_ow; · first | with_reducible rfl | (simp (disch := omega) only [nw, eq, ef, r1, s1, x1, hz, aw, t1, hle, List.drop_nil, List.take_nil, List.length_nil]; done) | (simp (disch := omega) only [nw, eq, ef, r1, s1, x1, hz, aw, t1, hle, List.drop_nil, List.take_nil, List.length_nil]; with_reducible rfl))
          | (with_reducible apply go_ls; · first | with_reducible rfl | (simp (disch := omega) only [nw, eq, ef, r1, s1, x1, hz, aw, t1, hle, List.drop_nil, List.take_nil, List.length_nil]; done) | (simp (disch := omega) only [nw, eq, ef, r1, s1, x1, hz, aw, t1, hle, List.drop_nil, List.take_nil, List.length_nil]; with_reducible rfl))
          | (with_reducible apply go_agg; · first | with_reducible rfl | (simp (disch := omega) only [nw, eq, ef, r1, s1, x1, hz, aw, t1, hle, List.drop_nil, List.take_nil, List.length_nil]; done) | (simp (disch := omega) only [nw, eq, ef, r1, s1, x1, hz, aw, t1, hle, List.drop_nil, List.take_nil, List.length_nil]; with_reducible rfl))
          | (with_reducible apply go_pbox; · first | with_reducible rfl | (simp (disch := omega) only [nw, eq, ef, r1, s1, x1, hz, aw, t1, hle, List.drop_nil, List.take_nil, List.length_nil]; done) | (simp (disch := omega) only [nw, eq, ef, r1, s1, x1, hz, aw, t1, hle, List.drop_nil, List.take_nil, List.length_nil]; with_reducible rfl))
          | (with_reducible apply go_opt; · first | with_reducible rfl | (simp (disch := omega) only [nw, eq, ef, r1, s1, x1, hz, aw, t1, hle, List.drop_nil, List.take_nil, List.length_nil]; done) | (simp (disch := omega) only [nw, eq, ef, r1, s1, x1, hz, aw, t1, hle, List.drop_nil, List.take_nil, List.length_nil]; with_reducible rfl))
          | (with_reducible apply go_chk; · first | with_reducible rfl | omega | (simp (disch := omega) only [Bool.and_eq_true, decide_eq_true_eq, beq_iff_eq, bne_iff_ne, Bool.not_eq_true', true_and, and_true, nw, eq, ef, r1, s1, x1, hz, aw, t1, hle, List.drop_nil, List.take_nil, List.length_nil]; done) | (simp (disch := omega) only [Bool.and_eq_true, decide_eq_true_eq, beq_iff_eq, bne_iff_ne, ne_eq, Bool.not_eq_true', true_and, and_true, nw, eq, ef, r1, s1, x1, hz, aw, t1, hle, List.drop_nil, List.take_nil, List.length_nil] <;> omega))
          | (with_reducible apply go_call; · first | with_reducible rfl | (simp (disch := omega) only [nw, eq, ef, r1, s1, x1, hz, aw, t1, hle, List.drop_nil, List.take_nil, List.length_nil]; done) | (simp (disch := omega) only [nw, eq, ef, r1, s1, x1, hz, aw, t1, hle, List.drop_nil, List.take_nil, List.length_nil]; with_reducible rfl))
          | (with_reducible apply go_brT; · first | with_reducible rfl | omega | (simp (disch := omega) only [Bool.and_eq_true, decide_eq_true_eq, beq_iff_eq, bne_iff_ne, Bool.not_eq_true', true_and, and_true, nw, eq, ef, r1, s1, x1, hz, aw, t1, hle, List.drop_nil, List.take_nil, List.length_nil]; done) | (simp (disch := omega) only [Bool.and_eq_true, decide_eq_true_eq, beq_iff_eq, bne_iff_ne, ne_eq, Bool.not_eq_true', true_and, and_true, nw, eq, ef, r1, s1, x1, hz, aw, t1, hle, List.drop_nil, List.take_nil, List.length_nil] <;> omega))
          | (with_reducible apply go_brF; · first | with_reducible rfl | (simp (disch := omega) only [decide_eq_false_iff_not, beq_eq_false_iff_ne, bne_eq_false_iff_eq, Bool.not_eq_false', nw, eq, ef, r1, s1, x1, hz, aw, t1, hle, List.drop_nil, List.take_nil, List.length_nil]; done) | (simp (disch := omega) only [decide_eq_false_iff_not, beq_eq_false_iff_ne, bne_eq_false_iff_eq, ne_eq, Bool.not_eq_false', nw, eq, ef, r1, s1, x1, hz, aw, t1, hle, List.drop_nil, List.take_nil, List.length_nil] <;> omega))
        try simp (disch := omega) only [nw, eq, ef, r1, s1, x1, hz, aw, t1, hle, List.drop_nil, List.take_nil, List.length_nil]
    · have x2 := x2 hmd
      try unfold shareK
      repeat first
        | (with_reducible apply go_nil; · with_reducible rfl)
        | (with_reducible apply go_cons; · with_reducible rfl)
        | (with_reducible apply go_int; · first | with_reducible rfl | (simp (disch := omega) only [nw, eq, ef, r1, s1, x1, x2, aw, t1, hle, List.drop_nil, List.take_nil, List.length_nil]; done) | (simp (disch := omega) only [nw, eq, ef, r1, s1, x1, x2, aw, t1, hle, List.drop_nil, List.take_nil, List.length_nil]; with_reducible rfl))
        | (with_reducible apply go_bool; · first | with_reducible rfl | (simp (disch := omega) only [nw, eq, ef, r1, s1, x1, x2, aw, t1, hle, List.drop_nil, List.take_nil, List.length_nil]; done) | (simp (disch := omega) only [nw, eq, ef, r1, s1, x1, x2, aw, t1, hle, List.drop_nil, List.take_nil, List.length_nil]; with_reducible rfl))
        | (with_reducible apply go_str; · first | with_reducible rfl | (simp (disch := omega) only [nw, eq, ef, r1, s1, x1, x2, aw, t1, hle, List.drop_nil, List.take_nil, List.length_nil]; done) | (simp (disch := omega) only [nw, eq, ef, r1, s1, x1, x2, aw, t1, hle, List.drop_nil, List.take_nil, List.length_nil]; with_reducible rfl))
        | (with_reducible apply go_any; · first | with_reducible rfl | (simp (disch := omega) only [nw, eq, ef, r1, s1, x1, x2, aw, t1, hle, List.drop_nil, List.take_nil, List.length_nil]; done) | (simp (disch := omega) only [nw, eq, ef, r1, s1, x1, x2, aw, t1, hle, List.drop_nil, List.take_nil, List.length_nil]; with_reducible rfl))
        | (with_reducible apply go_ow; · first | with_reducible rfl | (simp (disch := omega) only [nw, eq, ef, r1, s1, x1, x2, aw, t1, hle, List.drop_nil, List.take_nil, List.length_nil]; done) | (simp (disch := omega) only [nw, eq, ef, r1, s1, x1, x2, aw, t1, hle, List.drop_nil, List.take_nil, List.length_nil]; with_reducible rfl))
        | (with_reducible apply go_ls; · first | with_reducible rfl | (simp (disch := omega) only [nw, eq, ef, r1, s1, x1, x2, aw, t1, hle, List.drop_nil, List.take_nil, List.length_nil]; done) | (simp (disch := omega) only [nw, eq, ef, r1, s1, x1, x2, aw, t1, hle, List.drop_nil, List.take_nil, List.length_nil]; with_reducible rfl))
        | (with_reducible apply go_agg; · first | with_reducible rfl | (simp (disch := omega) only [nw, eq, ef, r1, s1, x1, x2, aw, t1, hle, List.drop_nil, List.take_nil, List.length_nil]; done) | (simp (disch := omega) only [nw, eq, ef, r1, s1, x1, x2, aw, t1, hle, List.drop_nil, List.take_nil, List.length_nil]; with_reducible rfl))
        | (with_reducible apply go_pbox; · first | with_reducible rfl | (simp (disch := omega) only [nw, eq, ef, r1, s1, x1, x2, aw, t1, hle, List.drop_nil, List.take_nil, List.length_nil]; done) | (simp (disch := omega) only [nw, eq, ef, r1, s1, x1, x2, aw, t1, hle, List.drop_nil, List.take_nil, List.length_nil]; with_reducible rfl))
        | (with_reducible apply go_opt; · first | with_reducible rfl | (simp (disch := omega) only [nw, eq, ef, r1, s1, x1, x2, aw, t1, hle, List.drop_nil, List.take_nil, List.length_nil]; done) | (simp (disch := omega) only [nw, eq, ef, r1, s1, x1, x2, aw, t1, hle, List.drop_nil, List.take_nil, List.length_nil]; with_reducible rfl))
        | (with_reducible apply go_chk; · first | with_reducible rfl | omega | (simp (disch := omega) only [Bool.and_eq_true, decide_eq_true_eq, beq_iff_eq, bne_iff_ne, Bool.not_eq_true', true_and, and_true, nw, eq, ef, r1, s1, x1, x2, aw, t1, hle, List.drop_nil, List.take_nil, List.length_nil]; done) | (simp (disch := omega) only [Bool.and_eq_true, decide_eq_true_eq, beq_iff_eq, bne_iff_ne, ne_eq, Bool.not_eq_true', true_and, and_true, nw, eq, ef, r1, s1, x1, x2, aw, t1, hle, List.drop_nil, List.take_nil, List.length_nil] <;> omega))
        | (with_reducible apply go_call; · first | with_reducible rfl | (simp (disch := omega) only [nw, eq, ef, r1, s1, x1, x2, aw, t1, hle, List.drop_nil, List.take_nil, List.length_nil]; done) | (simp (disch := omega) only [nw, eq, ef, r1, s1, x1, x2, aw, t1, hle, List.drop_nil, List.take_nil, List.length_nil]; with_reducible rfl))
        | (with_reducible apply go_brT; · first | with_reducible rfl | omega | (simp (disch := omega) only [Bool.and_eq_true, decide_eq_true_eq, beq_iff_eq, bne_iff_ne, Bool.not_eq_true', true_and, and_true, nw, eq, ef, r1, s1, x1, x2, aw, t1, hle, List.drop_nil, List.take_nil, List.length_nil]; done) | (simp (disch := omega) only [Bool.and_eq_true, decide_eq_true_eq, beq_iff_eq, bne_iff_ne, ne_eq, Bool.not_eq_true', true_and, and_true, nw, eq, ef, r1, s1, x1, x2, aw, t1, hle, List.drop_nil, List.take_nil, List.length_nil] <;> omega))
        | (with_reducible apply go_brF; · first | with_reducible rfl | (simp (disch := omega) only [decide_eq_false_iff_not, beq_eq_false_iff_ne, bne_eq_false_iff_eq, Bool.not_eq_false', nw, eq, ef, r1, s1, x1, x2, aw, t1, hle, List.drop_nil, List.take_nil, List.length_nil]; done) | (simp (disch := omega) only [decide_eq_false_iff_not, beq_eq_false_iff_ne, bne_eq_false_iff_eq, ne_eq, Bool.not_eq_false', nw, eq, ef, r1, s1, x1, x2, aw, t1, hle, List.drop_nil, List.take_nil, List.length_nil] <;> omega))
      try simp (disch := omega) only [nw, eq, ef, r1, s1, x1, x2, aw, t1, hle, List.drop_nil, List.take_nil, List.length_nil]
  · obtain ⟨st, hst, hst2⟩ : ∃ st, IntKind.wrap .i64 (3 + IntKind.wrap .i64 (Int.tmod ss 2)) = st ∧ (st = 3 ∨ st = 4) := by
      refine ⟨_, rfl, ?_⟩
      rw [wrap_i64 (x := Int.tmod ss 2) (by omega) (by omega), wrap_i64 (by omega) (by omega)]
      omega
    have r1 := reg_eq (fu := fu) (d := 3) ⟨q.vf, q.rs, q.ht, q.pr, q.sh, 2, q.od, q.dn, q.op⟩ kq (by simp only; omega) ⟨brp, bfl, bct, brg, md, 0, [], bkh, bkr⟩ 2 0 0 st
    have s1 := sgn_eq (fu := fu) (d := 3) ⟨q.vf, q.rs, q.ht, q.pr, q.sh, 2, q.od, q.dn, q.op⟩ kq (by simp only; omega) ⟨brp, bfl, bct, brg, md, 0, [], bkh, bkr⟩ ⟨0, [], 0, 0, md, 0, iand .i64 bfl 8 != 0, 0, 0, [], false, 0, 0⟩ st
    have hm : modE q.dn q.od md st ≠ 0 := by rcases hst2 with e | e <;> subst e <;> simp [modE]
    have x1 := bne_t (regE_model (p := ⟨q.vf, q.rs, q.ht, q.pr, q.sh, 2, q.od, q.dn, q.op⟩) (a := ⟨brp, bfl, bct, brg, md, 0, [], bkh, bkr⟩) (st := st) rfl hm (by omega))
    have x2 := fun hmd => bne_t (sgnE_model (p := ⟨q.vf, q.rs, q.ht, q.pr, q.sh, 2, q.od, q.dn, q.op⟩) (a := ⟨brp, bfl, bct, brg, md, 0, [], bkh, bkr⟩) (md := md) (st := st) hm hmd)
    simp only [Pol.cells, Adt.cells, Stc.cells, encI] at r1 s1
    simp only at x1 x2
    by_cases hmd : md = 0
    · by_cases hz : (sgnE ⟨q.vf, q.rs, q.ht, q.pr, q.sh, 2, q.od, q.dn, q.op⟩ ⟨brp, bfl, bct, brg, md, 0, [], bkh, bkr⟩ (iand .i64 bfl 8 != 0) md st != 0) = true
      · skip
        try unfold shareK
        repeat first
          | (with_reducible apply go_nil; · with_reducible rfl)
          | (with_reducible apply go_cons; · with_reducible rfl)
          | (with_reducible apply go_int; · first | with_reducible rfl | (simp (disch := omega) only [nw, eq, ef, hst, r1, s1, x1, hz, aw, t1, hle, List.drop_nil, List.take_nil, List.length_nil]; done) | (simp (disch := omega) only [nw, eq, ef, hst, r1, s1, x1, hz, aw, t1, hle, List.drop_nil, List.take_nil, List.length_nil]; with_reducible rfl))
          | (with_reducible apply go_bool; · first | with_reducible rfl | (simp (disch := omega) only [nw, eq, ef, hst, r1, s1, x1, hz, aw, t1, hle, List.drop_nil, List.take_nil, List.length_nil]; done) | (simp (disch := omega) only [nw, eq, ef, hst, r1, s1, x1, hz, aw, t1, hle, List.drop_nil, List.take_nil, List.length_nil]; with_reducible rfl))
          | (with_reducible apply go_str; · first | with_reducible rfl | (simp (disch := omega) only [nw, eq, ef, hst, r1, s1, x1, hz, aw, t1, hle, List.drop_nil, List.take_nil, List.length_nil]; done) | (simp (disch := omega) only [nw, eq, ef, hst, r1, s1, x1, hz, aw, t1, hle, List.drop_nil, List.take_nil, List.length_nil]; with_reducible rfl))
          | (with_reducible apply go_any; · first | with_reducible rfl | (simp (disch := omega) only [nw, eq, ef, hst, r1, s1, x1, hz, aw, t1, hle, List.drop_nil, List.take_nil, List.length_nil]; done) | (simp (disch := omega) only [nw, eq, ef, hst, r1, s1, x1, hz, aw, t1, hle, List.drop_nil, List.take_nil, List.length_nil]; with_reducible rfl))
          | (with_reducible apply go_ow; · first | with_reducible rfl | (simp (disch := omega) only [nw, eq, ef, hst, r1, s1, x1, hz, aw, t1, hle, List.drop_nil, List.take_nil, List.length_nil]; done) | (simp (disch := omega) only [nw, eq, ef, hst, r1, s1, x1, hz, aw, t1, hle, List.drop_nil, List.take_nil, List.length_nil]; with_reducible rfl))
          | (with_reducible apply go_ls; · first | with_reducible rfl | (simp (disch := omega) only [nw, eq, ef, hst, r1, s1, x1, hz, aw, t1, hle, List.drop_nil, List.take_nil, List.length_nil]; done) | (simp (disch := omega) only [nw, eq, ef, hst, r1, s1, x1, hz, aw, t1, hle, List.drop_nil, List.take_nil, List.length_nil]; with_reducible rfl))
          | (with_reducible apply go_agg; · first | with_reducible rfl | (simp (disch := omega) only [nw, eq, ef, hst, r1, s1, x1, hz, aw, t1, hle, List.drop_nil, List.take_nil, List.length_nil]; done) | (simp (disch := omega) only [nw, eq, ef, hst, r1, s1, x1, hz, aw, t1, hle, List.drop_nil, List.take_nil, List.length_nil]; with_reducible rfl))
          | (with_reducible apply go_pbox; · first | with_reducible rfl | (simp (disch := omega) only [nw, eq, ef, hst, r1, s1, x1, hz, aw, t1, hle, List.drop_nil, List.take_nil, List.length_nil]; done) | (simp (disch := omega) only [nw, eq, ef, hst, r1, s1, x1, hz, aw, t1, hle, List.drop_nil, List.take_nil, List.length_nil]; with_reducible rfl))
          | (with_reducible apply go_opt; · first | with_reducible rfl | (simp (disch := omega) only [nw, eq, ef, hst, r1, s1, x1, hz, aw, t1, hle, List.drop_nil, List.take_nil, List.length_nil]; done) | (simp (disch := omega) only [nw, eq, ef, hst, r1, s1, x1, hz, aw, t1, hle, List.drop_nil, List.take_nil, List.length_nil]; with_reducible rfl))
          | (with_reducible apply go_chk; · first | with_reducible rfl | omega | (simp (disch := omega) only [Bool.and_eq_true, decide_eq_true_eq, beq_iff_eq, bne_iff_ne, Bool.not_eq_true', true_and, and_true, nw, eq, ef, hst, r1, s1, x1, hz, aw, t1, hle, List.drop_nil, List.take_nil, List.length_nil]; done) | (simp (disch := omega) only [Bool.and_eq_true, decide_eq_true_eq, beq_iff_eq, bne_iff_ne, ne_eq, Bool.not_eq_true', true_and, and_true, nw, eq, ef, hst, r1, s1, x1, hz, aw, t1, hle, List.drop_nil, List.take_nil, List.length_nil] <;> omega))
          | (with_reducible apply go_call; · first | with_reducible rfl | (simp (disch := omega) only [nw, eq, ef, hst, r1, s1, x1, hz, aw, t1, hle, List.drop_nil, List.take_nil, List.length_nil]; done) | (simp (disch := omega) only [nw, eq, ef, hst, r1, s1, x1, hz, aw, t1, hle, List.drop_nil, List.take_nil, List.length_nil]; with_reducible rfl))
          | (with_reducible apply go_brT; · first | with_reducible rfl | omega | (simp (disch := omega) only [Bool.and_eq_true, decide_eq_true_eq, beq_iff_eq, bne_iff_ne, Bool.not_eq_true', true_and, and_true, nw, eq, ef, hst, r1, s1, x1, hz, aw, t1, hle, List.drop_nil, List.take_nil, List.length_nil]; done) | (simp (disch := omega) only [Bool.and_eq_true, decide_eq_true_eq, beq_iff_eq, bne_iff_ne, ne_eq, Bool.not_eq_true', true_and, and_true, nw, eq, ef, hst, r1, s1, x1, hz, aw, t1, hle, List.drop_nil, List.take_nil, List.length_nil] <;> omega))
          | (with_reducible apply go_brF; · first | with_reducible rfl | (simp (disch := omega) only [decide_eq_false_iff_not, beq_eq_false_iff_ne, bne_eq_false_iff_eq, Bool.not_eq_false', nw, eq, ef, hst, r1, s1, x1, hz, aw, t1, hle, List.drop_nil, List.take_nil, List.length_nil]; done) | (simp (disch := omega) only [decide_eq_false_iff_not, beq_eq_false_iff_ne, bne_eq_false_iff_eq, ne_eq, Bool.not_eq_false', nw, eq, ef, hst, r1, s1, x1, hz, aw, t1, hle, List.drop_nil, List.take_nil, List.length_nil] <;> omega))
        try simp (disch := omega) only [nw, eq, ef, hst, r1, s1, x1, hz, aw, t1, hle, List.drop_nil, List.take_nil, List.length_nil]
      · have hz := Bool.not_eq_true _ ▸ hz
        try unfold shareK
        repeat first
          | (with_reducible apply go_nil; · with_reducible rfl)
          | (with_reducible apply go_cons; · with_reducible rfl)
          | (with_reducible apply go_int; · first | with_reducible rfl | (simp (disch := omega) only [nw, eq, ef, hst, r1, s1, x1, hz, aw, t1, hle, List.drop_nil, List.take_nil, List.length_nil]; done) | (simp (disch := omega) only [nw, eq, ef, hst, r1, s1, x1, hz, aw, t1, hle, List.drop_nil, List.take_nil, List.length_nil]; with_reducible rfl))
          | (with_reducible apply go_bool; · first | with_reducible rfl | (simp (disch := omega) only [nw, eq, ef, hst, r1, s1, x1, hz, aw, t1, hle, List.drop_nil, List.take_nil, List.length_nil]; done) | (simp (disch := omega) only [nw, eq, ef, hst, r1, s1, x1, hz, aw, t1, hle, List.drop_nil, List.take_nil, List.length_nil]; with_reducible rfl))
          | (with_reducible apply go_str; · first | with_reducible rfl | (simp (disch := omega) only [nw, eq, ef, hst, r1, s1, x1, hz, aw, t1, hle, List.drop_nil, List.take_nil, List.length_nil]; done) | (simp (disch := omega) only [nw, eq, ef, hst, r1, s1, x1, hz, aw, t1, hle, List.drop_nil, List.take_nil, List.length_nil]; with_reducible rfl))
          | (with_reducible apply go_any; · first | with_reducible rfl | (simp (disch := omega) only [nw, eq, ef, hst, r1, s1, x1, hz, aw, t1, hle, List.drop_nil, List.take_nil, List.length_nil]; done) | (simp (disch := omega) only [nw, eq, ef, hst, r1, s1, x1, hz, aw, t1, hle, List.drop_nil, List.take_nil, List.length_nil]; with_reducible rfl))
          | (with_reducible apply go_ow; · first | with_reducible rfl | (simp (disch := omega) only [nw, eq, ef, hst, r1, s1, x1, hz, aw, t1, hle, List.drop_nil, List.take_nil, List.length_nil]; done) | (simp (disch := omega) only [nw, eq, ef, hst, r1, s1, x1, hz, aw, t1, hle, List.drop_nil, List.take_nil, List.length_nil]; with_reducible rfl))
          | (with_reducible apply go_ls; · first | with_reducible rfl | (simp (disch := omega) only [nw, eq, ef, hst, r1, s1, x1, hz, aw, t1, hle, List.drop_nil, List.take_nil, List.length_nil]; done) | (simp (disch := omega) only [nw, eq, ef, hst, r1, s1, x1, hz, aw, t1, hle, List.drop_nil, List.take_nil, List.length_nil]; with_reducible rfl))
          | (with_reducible apply go_agg; · first | with_reducible rfl | (simp (disch := omega) only [nw, eq, ef, hst, r1, s1, x1, hz, aw, t1, hle, List.drop_nil, List.take_nil, List.length_nil]; done) | (simp (disch := omega) only [nw, eq, ef, hst, r1, s1, x1, hz, aw, t1, hle, List.drop_nil, List.take_nil, List.length_nil]; with_reducible rfl))
          | (with_reducible apply go_pbox; · first | with_reducible rfl | (simp (disch := omega) only [nw, eq, ef, hst, r1, s1, x1, hz, aw, t1, hle, List.drop_nil, List.take_nil, List.length_nil]; done) | (simp (disch := omega) only [nw, eq, ef, hst, r1, s1, x1, hz, aw, t1, hle, List.drop_nil, List.take_nil, List.length_nil]; with_reducible rfl))
          | (with_reducible apply go_opt; · first | with_reducible rfl | (simp (disch := omega) only [nw, eq, ef, hst, r1, s1, x1, hz, aw, t1, hle, List.drop_nil, List.take_nil, List.length_nil]; done) | (simp (disch := omega) only [nw, eq, ef, hst, r1, s1, x1, hz, aw, t1, hle, List.drop_nil, List.take_nil, List.length_nil]; with_reducible rfl))
          | (with_reducible apply go_chk; · first | with_reducible rfl | omega | (simp (disch := omega) only [Bool.and_eq_true, decide_eq_true_eq, beq_iff_eq, bne_iff_ne, Bool.not_eq_true', true_and, and_true, nw, eq, ef, hst, r1, s1, x1, hz, aw, t1, hle, List.drop_nil, List.take_nil, List.length_nil]; done) | (simp (disch := omega) only [Bool.and_eq_true, decide_eq_true_eq, beq_iff_eq, bne_iff_ne, ne_eq, Bool.not_eq_true', true_and, and_true, nw, eq, ef, hst, r1, s1, x1, hz, aw, t1, hle, List.drop_nil, List.take_nil, List.length_nil] <;> omega))
          | (with_reducible apply go_call; · first | with_reducible rfl | (simp (disch := omega) only [nw, eq, ef, hst, r1, s1, x1, hz, aw, t1, hle, List.drop_nil, List.take_nil, List.length_nil]; done) | (simp (disch := omega) only [nw, eq, ef, hst, r1, s1, x1, hz, aw, t1, hle, List.drop_nil, List.take_nil, List.length_nil]; with_reducible rfl))
          | (with_reducible apply go_brT; · first | with_reducible rfl | omega | (simp (disch := omega) only [Bool.and_eq_true, decide_eq_true_eq, beq_iff_eq, bne_iff_ne, Bool.not_eq_true', true_and, and_true, nw, eq, ef, hst, r1, s1, x1, hz, aw, t1, hle, List.drop_nil, List.take_nil, List.length_nil]; done) | (simp (disch := omega) only [Bool.and_eq_true, decide_eq_true_eq, beq_iff_eq, bne_iff_ne, ne_eq, Bool.not_eq_true', true_and, and_true, nw, eq, ef, hst, r1, s1, x1, hz, aw, t1, hle, List.drop_nil, List.take_nil, List.length_nil] <;> omega))
          | (with_reducible apply go_brF; · first | with_reducible rfl | (simp (disch := omega) only [decide_eq_false_iff_not, beq_eq_false_iff_ne, bne_eq_false_iff_eq, Bool.not_eq_false', nw, eq, ef, hst, r1, s1, x1, hz, aw, t1, hle, List.drop_nil, List.take_nil, List.length_nil]; done) | (simp (disch := omega) only [decide_eq_false_iff_not, beq_eq_false_iff_ne, bne_eq_false_iff_eq, ne_eq, Bool.not_eq_false', nw, eq, ef, hst, r1, s1, x1, hz, aw, t1, hle, List.drop_nil, List.take_nil, List.length_nil] <;> omega))
        try simp (disch := omega) only [nw, eq, ef, hst, r1, s1, x1, hz, aw, t1, hle, List.drop_nil, List.take_nil, List.length_nil]
    · have x2 := x2 hmd
      try unfold shareK
      repeat first
        | (with_reducible apply go_nil; · with_reducible rfl)
        | (with_reducible apply go_cons; · with_reducible rfl)
        | (with_reducible apply go_int; · first | with_reducible rfl | (simp (disch := omega) only [nw, eq, ef, hst, r1, s1, x1, x2, aw, t1, hle, List.drop_nil, List.take_nil, List.length_nil]; done) | (simp (disch := omega) only [nw, eq, ef, hst, r1, s1, x1, x2, aw, t1, hle, List.drop_nil, List.take_nil, List.length_nil]; with_reducible rfl))
        | (with_reducible apply go_bool; · first | with_reducible rfl | (simp (disch := omega) only [nw, eq, ef, hst, r1, s1, x1, x2, aw, t1, hle, List.drop_nil, List.take_nil, List.length_nil]; done) | (simp (disch := omega) only [nw, eq, ef, hst, r1, s1, x1, x2, aw, t1, hle, List.drop_nil, List.take_nil, List.length_nil]; with_reducible rfl))
        | (with_reducible apply go_str; · first | with_reducible rfl | (simp (disch := omega) only [nw, eq, ef, hst, r1, s1, x1, x2, aw, t1, hle, List.drop_nil, List.take_nil, List.length_nil]; done) | (simp (disch := omega) only [nw, eq, ef, hst, r1, s1, x1, x2, aw, t1, hle, List.drop_nil, List.take_nil, List.length_nil]; with_reducible rfl))
        | (with_reducible apply go_any; · first | with_reducible rfl | (simp (disch := omega) only [nw, eq, ef, hst, r1, s1, x1, x2, aw, t1, hle, List.drop_nil, List.take_nil, List.length_nil]; done) | (simp (disch := omega) only [nw, eq, ef, hst, r1, s1, x1, x2, aw, t1, hle, List.drop_nil, List.take_nil, List.length_nil]; with_reducible rfl))
        | (with_reducible apply go_ow; · first | with_reducible rfl | (simp (disch := omega) only [nw, eq, ef, hst, r1, s1, x1, x2, aw, t1, hle, List.drop_nil, List.take_nil, List.length_nil]; done) | (simp (disch := omega) only [nw, eq, ef, hst, r1, s1, x1, x2, aw, t1, hle, List.drop_nil, List.take_nil, List.length_nil]; with_reducible rfl))
        | (with_reducible apply go_ls; · first | with_reducible rfl | (simp (disch := omega) only [nw, eq, ef, hst, r1, s1, x1, x2, aw, t1, hle, List.drop_nil, List.take_nil, List.length_nil]; done) | (simp (disch := omega) only [nw, eq, ef, hst, r1, s1, x1, x2, aw, t1, hle, List.drop_nil, List.take_nil, List.length_nil]; with_reducible rfl))
        | (with_reducible apply go_agg; · first | with_reducible rfl | (simp (disch := omega) only [nw, eq, ef, hst, r1, s1, x1, x2, aw, t1, hle, List.drop_nil, List.take_nil, List.length_nil]; done) | (simp (disch := omega) only [nw, eq, ef, hst, r1, s1, x1, x2, aw, t1, hle, List.drop_nil, List.take_nil, List.length_nil]; with_reducible rfl))
        | (with_reducible apply go_pbox; · first | with_reducible rfl | (simp (disch := omega) only [nw, eq, ef, hst, r1, s1, x1, x2, aw, t1, hle, List.drop_nil, List.take_nil, List.length_nil]; done) | (simp (disch := omega) only [nw, eq, ef, hst, r1, s1, x1, x2, aw, t1, hle, List.drop_nil, List.take_nil, List.length_nil]; with_reducible rfl))
        | (with_reducible apply go_opt; · first | with_reducible rfl | (simp (disch := omega) only [nw, eq, ef, hst, r1, s1, x1, x2, aw, t1, hle, List.drop_nil, List.take_nil, List.length_nil]; done) | (simp (disch := omega) only [nw, eq, ef, hst, r1, s1, x1, x2, aw, t1, hle, List.drop_nil, List.take_nil, List.length_nil]; with_reducible rfl))
        | (with_reducible apply go_chk; · first | with_reducible rfl | omega | (simp (disch := omega) only [Bool.and_eq_true, decide_eq_true_eq, beq_iff_eq, bne_iff_ne, Bool.not_eq_true', true_and, and_true, nw, eq, ef, hst, r1, s1, x1, x2, aw, t1, hle, List.drop_nil, List.take_nil, List.length_nil]; done) | (simp (disch := omega) only [Bool.and_eq_true, decide_eq_true_eq, beq_iff_eq, bne_iff_ne, ne_eq, Bool.not_eq_true', true_and, and_true, nw, eq, ef, hst, r1, s1, x1, x2, aw, t1, hle, List.drop_nil, List.take_nil, List.length_nil] <;> omega))
        | (with_reducible apply go_call; · first | with_reducible rfl | (simp (disch := omega) only [nw, eq, ef, hst, r1, s1, x1, x2, aw, t1, hle, List.drop_nil, List.take_nil, List.length_nil]; done) | (simp (disch := omega) only [nw, eq, ef, hst, r1, s1, x1, x2, aw, t1, hle, List.drop_nil, List.take_nil, List.length_nil]; with_reducible rfl))
        | (with_reducible apply go_brT; · first | with_reducible rfl | omega | (simp (disch := omega) only [Bool.and_eq_true, decide_eq_true_eq, beq_iff_eq, bne_iff_ne, Bool.not_eq_true', true_and, and_true, nw, eq, ef, hst, r1, s1, x1, x2, aw, t1, hle, List.drop_nil, List.take_nil, List.length_nil]; done) | (simp (disch := omega) only [Bool.and_eq_true, decide_eq_true_eq, beq_iff_eq, bne_iff_ne, ne_eq, Bool.not_eq_true', true_and, and_true, nw, eq, ef, hst, r1, s1, x1, x2, aw, t1, hle, List.drop_nil, List.take_nil, List.length_nil] <;> omega))
        | (with_reducible apply go_brF; · first | with_reducible rfl | (simp (disch := omega) only [decide_eq_false_iff_not, beq_eq_false_iff_ne, bne_eq_false_iff_eq, Bool.not_eq_false', nw, eq, ef, hst, r1, s1, x1, x2, aw, t1, hle, List.drop_nil, List.take_nil, List.length_nil]; done) | (simp (disch := omega) only [decide_eq_false_iff_not, beq_eq_false_iff_ne, bne_eq_false_iff_eq, ne_eq, Bool.not_eq_false', nw, eq, ef, hst, r1, s1, x1, x2, aw, t1, hle, List.drop_nil, List.take_nil, List.length_nil] <;> omega))
      try simp (disch := omega) only [nw, eq, ef, hst, r1, s1, x1, x2, aw, t1, hle, List.drop_nil, List.take_nil, List.length_nil]

end Go.Proofs.Ytoihfmiifeegpaa.Pv
