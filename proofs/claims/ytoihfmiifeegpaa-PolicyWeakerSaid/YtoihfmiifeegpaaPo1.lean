/-
  Policies: what Validate, Registers and SignsIn compute, here and in the reference.
-/
import Derived.Test.YtoihfmiifeegpaaDk1
import Derived.Test.YtoihfmiifeegpaaGnP
set_option linter.unusedSimpArgs false
set_option linter.unusedVariables false
namespace Go.Proofs.Ytoihfmiifeegpaa.Pv

structure Pol where
  vf : Int
  rs : Bool
  ht : Int
  pr : Int
  sh : Bool
  fm : Int
  od : Bool
  dn : List Int
  op : Int

def Pol.cells (p : Pol) : List PV := [.sc (.int .i64 p.vf), .sc (.bool p.rs), .sc (.int .i64 p.ht), .sc (.int .i64 p.pr), .sc (.bool p.sh), .sc (.int .i64 p.fm), .sc (.bool p.od), .lst false 1 p.dn.length (encI .u64 p.dn), .sc (.int .i64 p.op)]
def Pol.own (p : Pol) : List PV := [.sc (.int .i64 p.vf), .sc (.bool p.rs), .sc (.int .i64 p.ht), .sc (.int .i64 p.pr), .sc (.bool p.sh), .sc (.int .i64 p.fm), .sc (.bool p.od), .own 1 p.dn.length (encI .u64 p.dn), .sc (.int .i64 p.op)]

/-- Authenticator data, as far as policies look at them. -/
structure Adt where
  rp : Int
  fl : Int
  ct : Int
  rg : Int
  md : Int
  idn : Nat
  id : List PV
  kh : Int
  kr : Int

def Adt.cells (a : Adt) : List PV := [.sc (.int .u64 a.rp), .sc (.int .i64 a.fl), .sc (.int .i64 a.ct), .sc (.int .i64 a.rg), .sc (.int .u64 a.md), .lst false 1 a.idn a.id, .sc (.int .i64 a.kh), .sc (.int .u64 a.kr)]

/-- A stored credential. -/
structure Stc where
  n0 : Nat
  c0 : List PV
  i1 : Int
  i2 : Int
  md : Int
  i4 : Int
  sh : Bool
  i6 : Int
  n7 : Nat
  c7 : List PV
  b8 : Bool
  i9 : Int
  i10 : Int

def Stc.cells (a : Stc) : List PV := [.lst false 1 a.n0 a.c0, .sc (.int .i64 a.i1), .sc (.int .u64 a.i2), .sc (.int .u64 a.md), .sc (.int .i64 a.i4), .sc (.bool a.sh), .sc (.int .u64 a.i6), .lst false 2 a.n7 a.c7, .sc (.bool a.b8), .sc (.int .i64 a.i9), .sc (.int .i64 a.i10)]

def consE (vf fl : Int) : Int := if iand .i64 fl 1 = 0 then 22 else if vf = 2 then if iand .i64 fl 4 = 0 then 23 else 0 else 0
def modE (dn : List Int) (od : Bool) (m st : Int) : Int := if st = 3 then 39 else if st = 4 then 39 else if m ∈ dn then 40 else if st = 2 then if od = true then 0 else 40 else 0
def regT (p : Pol) (md f st : Int) : Int := if f = p.fm then if f = 2 then if st = 0 then 38 else modE p.dn p.od md st else 0 else 40
def regE (p : Pol) (a : Adt) (f st : Int) : Int :=
  if consE p.vf a.fl = 0 then if a.kh < p.ht then 40 else if iand .i64 a.fl 8 = 0 then regT p a.md f st else if p.sh = true then regT p a.md f st else 40 else consE p.vf a.fl
def sgnE (p : Pol) (a : Adt) (sh : Bool) (md st : Int) : Int :=
  if consE p.vf a.fl = 0 then if ((iand .i64 a.fl 8 != 0) == sh) = true then if md = 0 then 0 else modE p.dn p.od md st else 40 else consE p.vf a.fl
def ordL : Int → List Int → Int
  | _, [] => 0
  | a, b :: r => if b ≤ a then 7 else ordL b r
def ordE : List Int → Int
  | [] => 0
  | a :: r => ordL a r
abbrev Pol.okR (p : Pol) : Prop := 0 ≤ p.vf ∧ p.vf ≤ 2 ∧ 1 ≤ p.ht ∧ p.ht ≤ 4 ∧ 1 ≤ p.pr ∧ p.pr ≤ 3 ∧ 0 ≤ p.fm ∧ p.fm ≤ 2 ∧ 1 ≤ p.op ∧ p.op ≤ 1099511627776
def valE (p : Pol) : Int :=
  if p.okR then if 16 < p.dn.length then 8 else ordE p.dn else 9

section
variable {fu d : Nat}

theorem cons_eq (p : Pol) (a : Adt) : pcall C0 Try.prog fu (d + 1) F_policy_checkConsent [.agg p.cells, .agg a.cells] = some ⟨[.sc (.int .i64 (consE p.vf a.fl))], []⟩ := by
  unfold Pol.cells Adt.cells
  rw [policy_checkConsent_e]
  simp only [nd_share, nd_breq, if_res, consE]
theorem consR_eq (p : Pol) (fl : Int) : pcall C0 Try.prog fu (d + 1) F_passkeyref29_consent [.agg p.cells, .sc (.int .i64 fl)] = some ⟨[.sc (.int .i64 (consE p.vf fl))], []⟩ := by
  unfold Pol.cells
  rw [passkeyref29_consent_e]
  simp only [nd_share, nd_breq, if_res, consE]

theorem index_loop {call : Call'} {n : Nat} {c : List PV} {t : Int} {l : List Int} {m : Int} (hl : l.length ≤ maxLen) : ∀ (r : List Int) (i nn : Nat), l.drop i = r → r.length < nn →
    ∃ k : Int, slices_Index_uint64_L0 fu call n c t nn l.length (encI .u64 l) m (l.length : Int) i = some ⟨[.sc (.int .i64 k)], []⟩ ∧ (0 ≤ k ↔ m ∈ r)
  | r, i, 0, _, h => by omega
  | [], i, nn + 1, h, _ => by
    have := drop_nil h
    rw [slices_Index_uint64_L0_s]
    refine ⟨-1, ?_, by simp⟩
    simp (disch := omega) only [nd_call, nd_nil, nd_cons, nd_bool, nd_str, nd_int, nd_any, nd_ls, nd_ow, nd_agg, nd_pbox, nd_opt, nd_share, nd_chk, nd_chkd, nd_chka, nd_brT, nd_brF, nd_brt, nd_brf, nd_both, Bool.not_true, Bool.not_false, Bool.false_eq_true, if_true, if_false, Bool.true_and, Bool.and_true, Bool.false_and, Bool.and_false, decide_true, decide_false]
  | x :: r, i, nn + 1, h, hn => by
    obtain ⟨h1, h2, h3⟩ := drop_cons h
    simp only [maxLen] at hl
    simp only [List.length_cons] at hn
    rw [slices_Index_uint64_L0_s]
    have hg := ati (k := .u64) h2
    simp (disch := omega) only [nd_call, nd_nil, nd_cons, nd_bool, nd_str, nd_int, nd_any, nd_ls, nd_ow, nd_agg, nd_pbox, nd_opt, nd_share, nd_chk, nd_chkd, nd_chka, nd_brT, nd_brF, nd_brt, nd_brf, nd_both, Bool.not_true, Bool.not_false, Bool.false_eq_true, if_true, if_false, Bool.true_and, Bool.and_true, Bool.false_and, Bool.and_false, decide_true, decide_false, Int.toNat_natCast, Nat.mul_one, hg, nd_breq]
    by_cases hm : m = x
    · refine ⟨i, by rw [if_pos hm], by simp [hm]⟩
    · obtain ⟨k, h4, h5⟩ := index_loop (m := m) (call := call) (n := n) (c := c) (t := t) (by simp only [maxLen]; omega) r (i + 1) nn h3 (by omega)
      refine ⟨k, by rw [if_neg hm, wrap_i64 (by omega) (by omega)]; exact h4, by rw [h5]; simp [hm]⟩

theorem contains_eq {l : List Int} (hl : l.length ≤ maxLen) (hfu : l.length < fu) (m : Int) : pcall C0 Try.prog fu (d + 2) F_slices_Contains_uint64 [.lst false 1 l.length (encI .u64 l), .sc (.int .u64 m)] = some ⟨[.sc (.bool (decide (m ∈ l)))], []⟩ := by
  rw [slices_Contains_uint64_e]
  obtain ⟨k, h1, h2⟩ := index_loop (fu := fu) (call := pcall C0 Try.prog fu d) (n := l.length) (c := encI .u64 l) (t := m) (m := m) hl l 0 fu rfl hfu
  have h3 : pcall C0 Try.prog fu (d + 1) F_slices_Index_uint64 [.lst false 1 l.length (encI .u64 l), .sc (.int .u64 m)] = some ⟨[.sc (.int .i64 k)], []⟩ := by
    rw [slices_Index_uint64_e]
    exact h1
  simp only [nd_call, nd_nil, nd_cons, nd_bool, nd_str, nd_int, nd_any, nd_ls, nd_ow, nd_agg, nd_pbox, nd_opt, nd_share, nd_chk, nd_chkd, nd_chka, nd_brT, nd_brF, nd_brt, nd_brf, nd_both, Bool.not_true, Bool.not_false, Bool.false_eq_true, if_true, if_false, Bool.true_and, Bool.and_true, Bool.false_and, Bool.and_false, decide_true, decide_false, h3]
  have : decide (k ≥ 0) = decide (m ∈ l) := by simp only [ge_iff_le, h2]
  rw [this]

theorem model_eq (p : Pol) (hl : p.dn.length ≤ maxLen) (hfu : p.dn.length < fu) (m st : Int) : pcall C0 Try.prog fu (d + 3) F_policy_checkModel [.agg p.cells, .sc (.int .u64 m), .sc (.int .i64 st)] = some ⟨[.sc (.int .i64 (modE p.dn p.od m st))], []⟩ := by
  unfold Pol.cells
  rw [policy_checkModel_e]
  simp only [contains_eq hl hfu, nd_call, nd_nil, nd_cons, nd_bool, nd_breq, nd_brn, nd_brd]
  simp only [nd_brif, if_res, modE, decide_eq_true_eq]

theorem modelR_loop {call : Call'} {z0 : Int} {z1 : Bool} {z2 z3 : Int} {z4 : Bool} {z5 : Int} {z6 : Bool} {n : Nat} {c : List PV} {z8 z9 z10 : Int} {y3 y5 y6 y8 y12 : Int} {y4 y7 : Bool} {m st : Int} {od : Bool} {l : List Int} (hl : l.length ≤ maxLen) : ∀ (r : List Int) (i nn : Nat), l.drop i = r → r.length < nn →
    passkeyref29_model_L0 fu call z0 z1 z2 z3 z4 z5 z6 n c z8 z9 z10 nn m st (i : Int) y3 y4 y5 y6 y7 y8 od l.length (encI .u64 l) y12 = some ⟨[.sc (.int .i64 (if m ∈ r then 40 else if st = 2 then if od = true then 0 else 40 else 0))], []⟩
  | r, i, 0, _, h => by omega
  | [], i, nn + 1, h, _ => by
    have := drop_nil h
    rw [passkeyref29_model_L0_s]
    rw [nd_brf _ _ _ (by omega)]
    simp only [nd_breq, nd_brn]
    simp only [nd_brif, if_res, List.not_mem_nil, if_false]
  | x :: r, i, nn + 1, h, hn => by
    obtain ⟨h1, h2, h3⟩ := drop_cons h
    simp only [maxLen] at hl
    simp only [List.length_cons] at hn
    rw [passkeyref29_model_L0_s]
    have hg := ati (k := .u64) h2
    rw [nd_brt _ _ _ (by omega)]
    simp (disch := omega) only [nd_chka, nd_chkd, nd_int, nd_share, Int.toNat_natCast, Nat.mul_one, hg, nd_breq]
    by_cases hm : x = m
    · rw [if_pos hm, if_pos (by simp [hm])]
    · rw [if_neg hm, wrap_i64 (by omega) (by omega)]
      have := modelR_loop (call := call) (z0 := z0) (z1 := z1) (z2 := z2) (z3 := z3) (z4 := z4) (z5 := z5) (z6 := z6) (n := n) (c := c) (z8 := z8) (z9 := z9) (z10 := z10) (y3 := y3) (y4 := y4) (y5 := y5) (y6 := y6) (y7 := y7) (y8 := y8) (y12 := y12) (m := m) (st := st) (od := od) (by simp only [maxLen]; omega) r (i + 1) nn h3 (by omega)
      refine Eq.trans this ?_
      have hmm : m ∈ x :: r ↔ m ∈ r := by
        rw [List.mem_cons]
        exact ⟨fun h => h.elim (fun e => absurd e.symm hm) id, .inr⟩
      simp only [hmm]

theorem modelR_eq (p : Pol) (hl : p.dn.length ≤ maxLen) (hfu : p.dn.length < fu) (m st : Int) : pcall C0 Try.prog fu (d + 1) F_passkeyref29_model [.agg p.cells, .sc (.int .u64 m), .sc (.int .i64 st)] = some ⟨[.sc (.int .i64 (modE p.dn p.od m st))], []⟩ := by
  unfold Pol.cells
  rw [passkeyref29_model_e]
  have := modelR_loop (fu := fu) (call := pcall C0 Try.prog fu d) (z0 := p.vf) (z1 := p.rs) (z2 := p.ht) (z3 := p.pr) (z4 := p.sh) (z5 := p.fm) (z6 := p.od) (n := p.dn.length) (c := encI .u64 p.dn) (z8 := p.op) (z9 := m) (z10 := st) (y3 := p.vf) (y4 := p.rs) (y5 := p.ht) (y6 := p.pr) (y7 := p.sh) (y8 := p.fm) (y12 := p.op) (m := m) (st := st) (od := p.od) hl p.dn 0 fu rfl hfu
  simp only [Int.natCast_zero, Int.ofNat_zero] at this
  have t2 : passkeyref29_model_L0 fu (pcall C0 Try.prog fu d) p.vf p.rs p.ht p.pr p.sh p.fm p.od p.dn.length (encI .u64 p.dn) p.op m st fu m st 0 p.vf p.rs p.ht p.pr p.sh p.fm p.od p.dn.length (encI .u64 p.dn) p.op = _ := this
  simp only [t2, nd_breq, if_res, modE]

theorem reg_eq (p : Pol) (hl : p.dn.length ≤ maxLen) (hfu : p.dn.length < fu) (a : Adt) (f t1 t2 st : Int) :
    pcall C0 Try.prog fu (d + 4) F_policy_Registers [.agg p.cells, .agg a.cells, .agg [.sc (.int .i64 f), .sc (.int .i64 t1), .sc (.int .i64 t2)], .sc (.int .i64 st)] = some ⟨[.sc (.int .i64 (regE p a f st))], []⟩ := by
  have h1 := cons_eq (fu := fu) (d := d + 2) p a
  have h2 := model_eq (fu := fu) (d := d) p hl hfu a.md st
  unfold Pol.cells Adt.cells at *
  rw [policy_Registers_e]
  simp only [h1, h2, nd_call, nd_nil, nd_cons, nd_int, nd_share, nd_breq, nd_brne, nd_brn, nd_brd]
  simp only [nd_brif, if_res, regE, regT]
theorem regR_eq (p : Pol) (hl : p.dn.length ≤ maxLen) (hfu : p.dn.length < fu) (a : Adt) (f t1 t2 st : Int) :
    pcall C0 Try.prog fu (d + 4) F_passkeyref29_Registers [.agg p.cells, .agg a.cells, .agg [.sc (.int .i64 f), .sc (.int .i64 t1), .sc (.int .i64 t2)], .sc (.int .i64 st)] = some ⟨[.sc (.int .i64 (regE p a f st))], []⟩ := by
  have h1 := consR_eq (fu := fu) (d := d + 2) p a.fl
  have h2 := modelR_eq (fu := fu) (d := d + 2) p hl hfu a.md st
  unfold Pol.cells Adt.cells at *
  rw [passkeyref29_Registers_e]
  simp only [h1, h2, nd_call, nd_nil, nd_cons, nd_int, nd_share, nd_breq, nd_brne, nd_brn, nd_brd]
  simp only [nd_brif, if_res, regE, regT]
theorem sgn_eq (p : Pol) (hl : p.dn.length ≤ maxLen) (hfu : p.dn.length < fu) (a : Adt) (c : Stc) (st : Int) :
    pcall C0 Try.prog fu (d + 4) F_policy_SignsIn [.agg p.cells, .agg a.cells, .agg c.cells, .sc (.int .i64 st)] = some ⟨[.sc (.int .i64 (sgnE p a c.sh c.md st))], []⟩ := by
  have h1 := cons_eq (fu := fu) (d := d + 2) p a
  have h2 := model_eq (fu := fu) (d := d) p hl hfu c.md st
  unfold Pol.cells Adt.cells Stc.cells at *
  rw [policy_SignsIn_e]
  simp only [h1, h2, nd_call, nd_nil, nd_cons, nd_int, nd_share, nd_breq, nd_brne, nd_brn]
  simp only [nd_brif, if_res, sgnE]
theorem sgnR_eq (p : Pol) (hl : p.dn.length ≤ maxLen) (hfu : p.dn.length < fu) (a : Adt) (c : Stc) (st : Int) :
    pcall C0 Try.prog fu (d + 4) F_passkeyref29_SignsIn [.agg p.cells, .agg a.cells, .agg c.cells, .sc (.int .i64 st)] = some ⟨[.sc (.int .i64 (sgnE p a c.sh c.md st))], []⟩ := by
  have h1 := consR_eq (fu := fu) (d := d + 2) p a.fl
  have h2 := modelR_eq (fu := fu) (d := d + 2) p hl hfu c.md st
  unfold Pol.cells Adt.cells Stc.cells at *
  rw [passkeyref29_SignsIn_e]
  simp only [h1, h2, nd_call, nd_nil, nd_cons, nd_int, nd_share, nd_breq, nd_brne, nd_brn]
  simp only [nd_brif, if_res, sgnE]

theorem val_loop {call : Call'} {z0 : Int} {z1 : Bool} {z2 z3 : Int} {z4 : Bool} {z5 : Int} {z6 : Bool} {n : Nat} {c : List PV} {z8 : Int} {y1 y3 y4 y6 y10 : Int} {y2 y5 y7 : Bool} {l : List Int} (hl : l.length ≤ maxLen) : ∀ (r : List Int) (a : Int) (i nn : Nat), l.drop i = a :: r → r.length < nn →
    policy_Validate_L0 fu call z0 z1 z2 z3 z4 z5 z6 n c z8 nn ((i + 1 : Nat) : Int) y1 y2 y3 y4 y5 y6 y7 l.length (encI .u64 l) y10 = some ⟨[.sc (.int .i64 (ordL a r))], []⟩ ∧
    passkeyref29_ValidatePolicy_L0 fu call z0 z1 z2 z3 z4 z5 z6 n c z8 nn ((i + 1 : Nat) : Int) y1 y2 y3 y4 y5 y6 y7 l.length (encI .u64 l) y10 = some ⟨[.sc (.int .i64 (ordL a r))], []⟩
  | r, a, i, 0, _, h => by omega
  | [], a, i, nn + 1, h, _ => by
    obtain ⟨h1, h2, h3⟩ := drop_cons h
    have := drop_nil h3
    rw [policy_Validate_L0_s, passkeyref29_ValidatePolicy_L0_s]
    constructor <;> (rw [nd_brf _ _ _ (by omega)]; rfl)
  | b :: r, a, i, nn + 1, h, hn => by
    obtain ⟨h1, h2, h3⟩ := drop_cons h
    obtain ⟨h4, h5, h6⟩ := drop_cons h3
    simp only [maxLen] at hl
    simp only [List.length_cons] at hn
    have hg := ati (k := .u64) h2
    have hg' := ati (k := .u64) h5
    have e1 : IntKind.wrap .i64 (((i + 1 : Nat) : Int) - 1) = (i : Int) := by rw [wrap_i64 (by omega) (by omega)]; omega
    have e2 : IntKind.wrap .i64 (((i + 1 : Nat) : Int) + 1) = ((i + 1 + 1 : Nat) : Int) := by rw [wrap_i64 (by omega) (by omega)]; omega
    have ih := val_loop (call := call) (z0 := z0) (z1 := z1) (z2 := z2) (z3 := z3) (z4 := z4) (z5 := z5) (z6 := z6) (n := n) (c := c) (z8 := z8) (y1 := y1) (y2 := y2) (y3 := y3) (y4 := y4) (y5 := y5) (y6 := y6) (y7 := y7) (y10 := y10) (by simp only [maxLen]; omega) r b (i + 1) nn h3 (by omega)
    rw [policy_Validate_L0_s, passkeyref29_ValidatePolicy_L0_s]
    constructor
    · rw [nd_brt _ _ _ (by omega)]
      simp (disch := omega) only [nd_chka, nd_chkd, nd_int, nd_share, e1, e2, Int.toNat_natCast, Nat.mul_one, hg, hg', nd_brd]
      by_cases hb : b ≤ a
      · rw [if_pos hb]; simp only [ordL, if_pos hb]
      · rw [if_neg hb]; simp only [ordL, if_neg hb]; exact ih.1
    · rw [nd_brt _ _ _ (by omega)]
      simp (disch := omega) only [nd_chka, nd_chkd, nd_int, nd_share, e1, e2, Int.toNat_natCast, Nat.mul_one, hg, hg', nd_brd]
      by_cases hb : b ≤ a
      · rw [if_pos hb]; simp only [ordL, if_pos hb]
      · rw [if_neg hb]; simp only [ordL, if_neg hb]; exact ih.2

theorem val_loop0 {call : Call'} (p : Pol) (hl : p.dn.length ≤ maxLen) (hfu : p.dn.length < fu) :
    policy_Validate_L0 fu call p.vf p.rs p.ht p.pr p.sh p.fm p.od p.dn.length (encI .u64 p.dn) p.op fu 1 p.vf p.rs p.ht p.pr p.sh p.fm p.od p.dn.length (encI .u64 p.dn) p.op = some ⟨[.sc (.int .i64 (ordE p.dn))], []⟩ ∧
    passkeyref29_ValidatePolicy_L0 fu call p.vf p.rs p.ht p.pr p.sh p.fm p.od p.dn.length (encI .u64 p.dn) p.op fu 1 p.vf p.rs p.ht p.pr p.sh p.fm p.od p.dn.length (encI .u64 p.dn) p.op = some ⟨[.sc (.int .i64 (ordE p.dn))], []⟩ := by
  cases hd : p.dn with
  | nil =>
    rw [hd] at hfu
    obtain ⟨g, rfl⟩ : ∃ g, fu = g + 1 := ⟨fu - 1, by simp at hfu; omega⟩
    rw [policy_Validate_L0_s, passkeyref29_ValidatePolicy_L0_s]
    constructor <;> (rw [nd_brf _ _ _ (by simp)]; rfl)
  | cons a r =>
    rw [hd] at hl hfu
    have := val_loop (fu := fu) (call := call) (z0 := p.vf) (z1 := p.rs) (z2 := p.ht) (z3 := p.pr) (z4 := p.sh) (z5 := p.fm) (z6 := p.od) (n := (a :: r).length) (c := encI .u64 (a :: r)) (z8 := p.op) (y1 := p.vf) (y2 := p.rs) (y3 := p.ht) (y4 := p.pr) (y5 := p.sh) (y6 := p.fm) (y7 := p.od) (y10 := p.op) hl r a 0 fu rfl (by simp at hfu; omega)
    exact this

theorem val_eq (p : Pol) (hl : p.dn.length ≤ maxLen) (hfu : p.dn.length < fu) : pcall C0 Try.prog fu (d + 2) F_policy_Validate [.agg p.cells] = some ⟨[.sc (.int .i64 (valE p))], []⟩ := by
  have h0 := (val_loop0 (fu := fu) (call := pcall C0 Try.prog fu (d + 1)) p hl hfu).1
  unfold Pol.cells
  rw [policy_Validate_e]
  simp only [h0, nd_brd, if_res]
  congr 4
  unfold valE
  split
  · rw [if_neg (by omega)]
  split
  · rw [if_neg (by omega)]
  split
  · rw [if_neg (by omega)]
  split
  · rw [if_neg (by omega)]
  split
  · rw [if_neg (by omega)]
  split
  · rw [if_neg (by omega)]
  split
  · rw [if_neg (by omega)]
  split
  · rw [if_neg (by omega)]
  split
  · rw [if_neg (by omega)]
  split
  · rw [if_neg (by omega)]
  have hc : p.okR := by unfold Pol.okR; omega
  rw [if_pos hc]
  by_cases h : 16 < p.dn.length
  · have h' : (p.dn.length : Int) > 16 := by omega
    rw [if_pos h, if_pos h']
  · have h' : ¬ (p.dn.length : Int) > 16 := by omega
    rw [if_neg h, if_neg h']

theorem within_eq (v a b : Int) : pcall C0 Try.prog fu (d + 1) F_passkeyref29_within [.sc (.int .i64 v), .sc (.int .i64 a), .sc (.int .i64 b)] = some ⟨[.sc (.bool (decide (v ≥ a) && decide (v ≤ b)))], []⟩ := by
  rw [passkeyref29_within_e]
  simp only [nd_retand]

theorem valR_eq (p : Pol) (hl : p.dn.length ≤ maxLen) (hfu : p.dn.length < fu) : pcall C0 Try.prog fu (d + 2) F_passkeyref29_ValidatePolicy [.agg p.cells] = some ⟨[.sc (.int .i64 (valE p))], []⟩ := by
  have h0 := (val_loop0 (fu := fu) (call := pcall C0 Try.prog fu (d + 1)) p hl hfu).2
  unfold Pol.cells
  rw [passkeyref29_ValidatePolicy_e]
  simp only [h0, within_eq, nd_call, nd_nil, nd_cons, nd_bool, nd_brn, nd_brd]
  simp only [nd_brif, if_res, Bool.and_eq_true, decide_eq_true_eq]
  congr 4
  unfold valE
  split
  rotate_left
  · rw [if_neg (by omega)]
  split
  rotate_left
  · rw [if_neg (by omega)]
  split
  rotate_left
  · rw [if_neg (by omega)]
  split
  rotate_left
  · rw [if_neg (by omega)]
  split
  rotate_left
  · rw [if_neg (by omega)]
  have hc : p.okR := by unfold Pol.okR; omega
  rw [if_pos hc]
  by_cases h : 16 < p.dn.length
  · have h' : (p.dn.length : Int) > 16 := by omega
    rw [if_pos h, if_pos h']
  · have h' : ¬ (p.dn.length : Int) > 16 := by omega
    rw [if_neg h, if_neg h']
end

end Go.Proofs.Ytoihfmiifeegpaa.Pv
