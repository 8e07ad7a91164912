/-
  Policies, second part: what the decks give; the sanity check.
-/
import Derived.Test.YtoihfmiifeegpaaPo1
set_option linter.unusedSimpArgs false
set_option linter.unusedVariables false
namespace Go.Proofs.Ytoihfmiifeegpaa.Pv

section
variable {fu d : Nat}

theorem deckPolicy_ex {l : List Int} (hl : l.length ≤ maxLen) (a : Nat) : ∃ (p : Pol) (a' : Nat), p.okR ∧ p.ht ≤ 2 ∧ p.dn.length ≤ 2 ∧
    ∀ {fu d : Nat}, pcall C0 Try.prog fu (d + 3) F_passkeycast_Deck_Policy [.pbox (dkc l a)] = some ⟨[.agg p.own], [dkc l a']⟩ := by
  obtain ⟨v1, a1, l1, u1, e1⟩ := next_ex hl a 3 (by omega) (by omega)
  obtain ⟨v2, a2, l2, u2, e2⟩ := next_ex hl a1 2 (by omega) (by omega)
  obtain ⟨v3, a3, l3, u3, e3⟩ := next_ex hl a2 2 (by omega) (by omega)
  obtain ⟨v4, a4, l4, u4, e4⟩ := next_ex hl a3 3 (by omega) (by omega)
  obtain ⟨v5, a5, l5, u5, e5⟩ := next_ex hl a4 2 (by omega) (by omega)
  obtain ⟨v6, a6, l6, u6, e6⟩ := next_ex hl a5 3 (by omega) (by omega)
  obtain ⟨v7, a7, l7, u7, e7⟩ := next_ex hl a6 2 (by omega) (by omega)
  obtain ⟨v8, a8, l8, u8, e8⟩ := next_ex hl a7 3 (by omega) (by omega)
  obtain ⟨v9, a9, l9, u9, e9⟩ := next_ex hl a8 4 (by omega) (by omega)
  obtain ⟨v10, a10, l10, u10, e10⟩ := next_ex hl a9 2 (by omega) (by omega)
  obtain ⟨op, ho1, ho2, hop⟩ : ∃ op, 1 ≤ op ∧ op ≤ 1099511627776 ∧ List.getD [PV.sc (Value.int IntKind.i64 (50 : Int)), PV.sc (Value.int IntKind.i64 (5 : Int)), PV.sc (Value.int IntKind.i64 (500 : Int))] ((0 : Nat) + Int.toNat v8 * (1 : Nat)) PV.top = .sc (.int .i64 op) := by
    rcases (by omega : v8 = 0 ∨ v8 = 1 ∨ v8 = 2) with h | h | h <;> subst h
    · exact ⟨50, by omega, by omega, rfl⟩
    · exact ⟨5, by omega, by omega, rfl⟩
    · exact ⟨500, by omega, by omega, rfl⟩
  by_cases h9 : v9 = 3
  · refine ⟨⟨v1, v2 == 1, 1 + v3, 1 + v4, v5 == 1, v6, v7 == 1, [3, 7].take (1 + v10).toNat, op⟩, a10, ?_, ?_, ?_, fun {fu d} => ?_⟩
    · unfold Pol.okR; simp only; omega
    · simp only; omega
    · simp only [List.length_take]; exact Nat.min_le_right _ _
    · have e1 := e1 (fu := fu) (d := d); have e2 := e2 (fu := fu) (d := d); have e3 := e3 (fu := fu) (d := d); have e4 := e4 (fu := fu) (d := d); have e5 := e5 (fu := fu) (d := d); have e6 := e6 (fu := fu) (d := d); have e7 := e7 (fu := fu) (d := d); have e8 := e8 (fu := fu) (d := d); have e9 := e9 (fu := fu) (d := d); have e10 := e10 (fu := fu) (d := d)
      rw [passkeycast_Deck_Policy_e]
      try unfold shareK
      repeat first
        | (with_reducible apply go_nil; · with_reducible rfl)
        | (with_reducible apply go_cons; · with_reducible rfl)
        | (with_reducible apply go_int; · first | with_reducible rfl | (simp (disch := omega) only [e1, e2, e3, e4, e5, e6, e7, e8, e9, e10, hop, wrap_i64]; done) | (simp (disch := omega) only [e1, e2, e3, e4, e5, e6, e7, e8, e9, e10, hop, wrap_i64]; with_reducible rfl))
        | (with_reducible apply go_bool; · first | with_reducible rfl | (simp (disch := omega) only [e1, e2, e3, e4, e5, e6, e7, e8, e9, e10, hop, wrap_i64]; done) | (simp (disch := omega) only [e1, e2, e3, e4, e5, e6, e7, e8, e9, e10, hop, wrap_i64]; with_reducible rfl))
        | (with_reducible apply go_str; · first | with_reducible rfl | (simp (disch := omega) only [e1, e2, e3, e4, e5, e6, e7, e8, e9, e10, hop, wrap_i64]; done) | (simp (disch := omega) only [e1, e2, e3, e4, e5, e6, e7, e8, e9, e10, hop, wrap_i64]; with_reducible rfl))
        | (with_reducible apply go_any; · first | with_reducible rfl | (simp (disch := omega) only [e1, e2, e3, e4, e5, e6, e7, e8, e9, e10, hop, wrap_i64]; done) | (simp (disch := omega) only [e1, e2, e3, e4, e5, e6, e7, e8, e9, e10, hop, wrap_i64]; with_reducible rfl))
        | (with_reducible apply go_ow; · first | with_reducible rfl | (simp (disch := omega) only [e1, e2, e3, e4, e5, e6, e7, e8, e9, e10, hop, wrap_i64]; done) | (simp (disch := omega) only [e1, e2, e3, e4, e5, e6, e7, e8, e9, e10, hop, wrap_i64]; with_reducible rfl))
        | (with_reducible apply go_ls; · first | with_reducible rfl | (simp (disch := omega) only [e1, e2, e3, e4, e5, e6, e7, e8, e9, e10, hop, wrap_i64]; done) | (simp (disch := omega) only [e1, e2, e3, e4, e5, e6, e7, e8, e9, e10, hop, wrap_i64]; with_reducible rfl))
        | (with_reducible apply go_agg; · first | with_reducible rfl | (simp (disch := omega) only [e1, e2, e3, e4, e5, e6, e7, e8, e9, e10, hop, wrap_i64]; done) | (simp (disch := omega) only [e1, e2, e3, e4, e5, e6, e7, e8, e9, e10, hop, wrap_i64]; with_reducible rfl))
        | (with_reducible apply go_pbox; · first | with_reducible rfl | (simp (disch := omega) only [e1, e2, e3, e4, e5, e6, e7, e8, e9, e10, hop, wrap_i64]; done) | (simp (disch := omega) only [e1, e2, e3, e4, e5, e6, e7, e8, e9, e10, hop, wrap_i64]; with_reducible rfl))
        | (with_reducible apply go_opt; · first | with_reducible rfl | (simp (disch := omega) only [e1, e2, e3, e4, e5, e6, e7, e8, e9, e10, hop, wrap_i64]; done) | (simp (disch := omega) only [e1, e2, e3, e4, e5, e6, e7, e8, e9, e10, hop, wrap_i64]; with_reducible rfl))
        | (with_reducible apply go_chk; · first | with_reducible rfl | omega | (simp (disch := omega) only [Bool.and_eq_true, decide_eq_true_eq, beq_iff_eq, bne_iff_ne, Bool.not_eq_true', true_and, and_true, e1, e2, e3, e4, e5, e6, e7, e8, e9, e10, hop, wrap_i64]; done) | (simp (disch := omega) only [Bool.and_eq_true, decide_eq_true_eq, beq_iff_eq, bne_iff_ne, ne_eq, Bool.not_eq_true', true_and, and_true, e1, e2, e3, e4, e5, e6, e7, e8, e9, e10, hop, wrap_i64] <;> omega))
        | (with_reducible apply go_call; · first | with_reducible rfl | (simp (disch := omega) only [e1, e2, e3, e4, e5, e6, e7, e8, e9, e10, hop, wrap_i64]; done) | (simp (disch := omega) only [e1, e2, e3, e4, e5, e6, e7, e8, e9, e10, hop, wrap_i64]; with_reducible rfl))
        | (with_reducible apply go_brT; · first | with_reducible rfl | omega | (simp (disch := omega) only [Bool.and_eq_true, decide_eq_true_eq, beq_iff_eq, bne_iff_ne, Bool.not_eq_true', true_and, and_true, e1, e2, e3, e4, e5, e6, e7, e8, e9, e10, hop, wrap_i64]; done) | (simp (disch := omega) only [Bool.and_eq_true, decide_eq_true_eq, beq_iff_eq, bne_iff_ne, ne_eq, Bool.not_eq_true', true_and, and_true, e1, e2, e3, e4, e5, e6, e7, e8, e9, e10, hop, wrap_i64] <;> omega))
        | (with_reducible apply go_brF; · first | with_reducible rfl | (simp (disch := omega) only [decide_eq_false_iff_not, beq_eq_false_iff_ne, bne_eq_false_iff_eq, Bool.not_eq_false', e1, e2, e3, e4, e5, e6, e7, e8, e9, e10, hop, wrap_i64]; done) | (simp (disch := omega) only [decide_eq_false_iff_not, beq_eq_false_iff_ne, bne_eq_false_iff_eq, ne_eq, Bool.not_eq_false', e1, e2, e3, e4, e5, e6, e7, e8, e9, e10, hop, wrap_i64] <;> omega))
      try simp (disch := omega) only [e1, e2, e3, e4, e5, e6, e7, e8, e9, e10, hop, wrap_i64]
      rcases (by omega : v10 = 0 ∨ v10 = 1) with h | h <;> subst h <;> rfl
  · refine ⟨⟨v1, v2 == 1, 1 + v3, 1 + v4, v5 == 1, v6, v7 == 1, [], op⟩, a9, ?_, ?_, ?_, fun {fu d} => ?_⟩
    · unfold Pol.okR; simp only; omega
    · simp only; omega
    · simp
    · have e1 := e1 (fu := fu) (d := d); have e2 := e2 (fu := fu) (d := d); have e3 := e3 (fu := fu) (d := d); have e4 := e4 (fu := fu) (d := d); have e5 := e5 (fu := fu) (d := d); have e6 := e6 (fu := fu) (d := d); have e7 := e7 (fu := fu) (d := d); have e8 := e8 (fu := fu) (d := d); have e9 := e9 (fu := fu) (d := d)
      rw [passkeycast_Deck_Policy_e]
      try unfold shareK
      repeat first
        | (with_reducible apply go_nil; · with_reducible rfl)
        | (with_reducible apply go_cons; · with_reducible rfl)
        | (with_reducible apply go_int; · first | with_reducible rfl | (simp (disch := omega) only [e1, e2, e3, e4, e5, e6, e7, e8, e9, hop, wrap_i64]; done) | (simp (disch := omega) only [e1, e2, e3, e4, e5, e6, e7, e8, e9, hop, wrap_i64]; with_reducible rfl))
        | (with_reducible apply go_bool; · first | with_reducible rfl | (simp (disch := omega) only [e1, e2, e3, e4, e5, e6, e7, e8, e9, hop, wrap_i64]; done) | (simp (disch := omega) only [e1, e2, e3, e4, e5, e6, e7, e8, e9, hop, wrap_i64]; with_reducible rfl))
        | (with_reducible apply go_str; · first | with_reducible rfl | (simp (disch := omega) only [e1, e2, e3, e4, e5, e6, e7, e8, e9, hop, wrap_i64]; done) | (simp (disch := omega) only [e1, e2, e3, e4, e5, e6, e7, e8, e9, hop, wrap_i64]; with_reducible rfl))
        | (with_reducible apply go_any; · first | with_reducible rfl | (simp (disch := omega) only [e1, e2, e3, e4, e5, e6, e7, e8, e9, hop, wrap_i64]; done) | (simp (disch := omega) only [e1, e2, e3, e4, e5, e6, e7, e8, e9, hop, wrap_i64]; with_reducible rfl))
        | (with_reducible apply go_ow; · first | with_reducible rfl | (simp (disch := omega) only [e1, e2, e3, e4, e5, e6, e7, e8, e9, hop, wrap_i64]; done) | (simp (disch := omega) only [e1, e2, e3, e4, e5, e6, e7, e8, e9, hop, wrap_i64]; with_reducible rfl))
        | (with_reducible apply go_ls; · first | with_reducible rfl | (simp (disch := omega) only [e1, e2, e3, e4, e5, e6, e7, e8, e9, hop, wrap_i64]; done) | (simp (disch := omega) only [e1, e2, e3, e4, e5, e6, e7, e8, e9, hop, wrap_i64]; with_reducible rfl))
        | (with_reducible apply go_agg; · first | with_reducible rfl | (simp (disch := omega) only [e1, e2, e3, e4, e5, e6, e7, e8, e9, hop, wrap_i64]; done) | (simp (disch := omega) only [e1, e2, e3, e4, e5, e6, e7, e8, e9, hop, wrap_i64]; with_reducible rfl))
        | (with_reducible apply go_pbox; · first | with_reducible rfl | (simp (disch := omega) only [e1, e2, e3, e4, e5, e6, e7, e8, e9, hop, wrap_i64]; done) | (simp (disch := omega) only [e1, e2, e3, e4, e5, e6, e7, e8, e9, hop, wrap_i64]; with_reducible rfl))
        | (with_reducible apply go_opt; · first | with_reducible rfl | (simp (disch := omega) only [e1, e2, e3, e4, e5, e6, e7, e8, e9, hop, wrap_i64]; done) | (simp (disch := omega) only [e1, e2, e3, e4, e5, e6, e7, e8, e9, hop, wrap_i64]; with_reducible rfl))
        | (with_reducible apply go_chk; · first | with_reducible rfl | omega | (simp (disch := omega) only [Bool.and_eq_true, decide_eq_true_eq, beq_iff_eq, bne_iff_ne, Bool.not_eq_true', true_and, and_true, e1, e2, e3, e4, e5, e6, e7, e8, e9, hop, wrap_i64]; done) | (simp (disch := omega) only [Bool.and_eq_true, decide_eq_true_eq, beq_iff_eq, bne_iff_ne, ne_eq, Bool.not_eq_true', true_and, and_true, e1, e2, e3, e4, e5, e6, e7, e8, e9, hop, wrap_i64] <;> omega))
        | (with_reducible apply go_call; · first | with_reducible rfl | (simp (disch := omega) only [e1, e2, e3, e4, e5, e6, e7, e8, e9, hop, wrap_i64]; done) | (simp (disch := omega) only [e1, e2, e3, e4, e5, e6, e7, e8, e9, hop, wrap_i64]; with_reducible rfl))
        | (with_reducible apply go_brT; · first | with_reducible rfl | omega | (simp (disch := omega) only [Bool.and_eq_true, decide_eq_true_eq, beq_iff_eq, bne_iff_ne, Bool.not_eq_true', true_and, and_true, e1, e2, e3, e4, e5, e6, e7, e8, e9, hop, wrap_i64]; done) | (simp (disch := omega) only [Bool.and_eq_true, decide_eq_true_eq, beq_iff_eq, bne_iff_ne, ne_eq, Bool.not_eq_true', true_and, and_true, e1, e2, e3, e4, e5, e6, e7, e8, e9, hop, wrap_i64] <;> omega))
        | (with_reducible apply go_brF; · first | with_reducible rfl | (simp (disch := omega) only [decide_eq_false_iff_not, beq_eq_false_iff_ne, bne_eq_false_iff_eq, Bool.not_eq_false', e1, e2, e3, e4, e5, e6, e7, e8, e9, hop, wrap_i64]; done) | (simp (disch := omega) only [decide_eq_false_iff_not, beq_eq_false_iff_ne, bne_eq_false_iff_eq, ne_eq, Bool.not_eq_false', e1, e2, e3, e4, e5, e6, e7, e8, e9, hop, wrap_i64] <;> omega))
      try simp (disch := omega) only [e1, e2, e3, e4, e5, e6, e7, e8, e9, hop, wrap_i64]
      rfl

/-- Authenticator data out of a deck. -/
def Adt.own (a : Adt) : List PV := [.sc (.int .u64 a.rp), .sc (.int .i64 a.fl), .sc (.int .i64 a.ct), .sc (.int .i64 a.rg), .sc (.int .u64 a.md), .own 1 a.idn a.id, .sc (.int .i64 a.kh), .sc (.int .u64 a.kr)]

theorem facts_ex {l : List Int} (hl : l.length ≤ maxLen) (a : Nat) : ∃ (x : Adt) (f st : Int) (a' : Nat), x.idn = 0 ∧ x.id = [] ∧ (x.fl = 1 ∨ x.fl = 5 ∨ x.fl = 0 ∨ x.fl = 4 ∨ x.fl = 13 ∨ x.fl = 25) ∧ 0 ≤ x.md ∧ x.md < 8 ∧ 0 ≤ f ∧ f < 3 ∧ 0 ≤ st ∧ st < 5 ∧
    ∀ {fu d : Nat}, pcall C0 Try.prog fu (d + 3) F_passkeylaw31_facts [.pbox (dkc l a)] = some ⟨[.agg x.own, .agg [.sc (.int .i64 f), .sc (.int .i64 0), .sc (.int .i64 0)], .sc (.int .i64 st)], [dkc l a']⟩ := by
  obtain ⟨v1, a1, l1, u1, e1⟩ := next_ex hl a 6 (by omega) (by omega)
  obtain ⟨v2, a2, l2, u2, e2⟩ := next_ex hl a1 8 (by omega) (by omega)
  obtain ⟨v3, a3, l3, u3, e3⟩ := next_ex hl a2 5 (by omega) (by omega)
  obtain ⟨v4, a4, l4, u4, e4⟩ := next_ex hl a3 3 (by omega) (by omega)
  obtain ⟨v5, a5, l5, u5, e5⟩ := next_ex hl a4 5 (by omega) (by omega)
  obtain ⟨fl, hf, hfl⟩ : ∃ fl : Int, (fl = 1 ∨ fl = 5 ∨ fl = 0 ∨ fl = 4 ∨ fl = 13 ∨ fl = 25) ∧ List.getD [PV.sc (Value.int IntKind.i64 (1 : Int)), PV.sc (Value.int IntKind.i64 (5 : Int)), PV.sc (Value.int IntKind.i64 (0 : Int)), PV.sc (Value.int IntKind.i64 (4 : Int)), PV.sc (Value.int IntKind.i64 (13 : Int)), PV.sc (Value.int IntKind.i64 (25 : Int))] ((0 : Nat) + Int.toNat v1 * (1 : Nat)) PV.top = .sc (.int .i64 fl) := by
    rcases (by omega : v1 = 0 ∨ v1 = 1 ∨ v1 = 2 ∨ v1 = 3 ∨ v1 = 4 ∨ v1 = 5) with h | h | h | h | h | h <;> subst h
    · exact ⟨1, by simp, rfl⟩
    · exact ⟨5, by simp, rfl⟩
    · exact ⟨0, by simp, rfl⟩
    · exact ⟨4, by simp, rfl⟩
    · exact ⟨13, by simp, rfl⟩
    · exact ⟨25, by simp, rfl⟩
  refine ⟨⟨0, fl, 0, 0, v2, 0, [], v3, 0⟩, v4, v5, a5, rfl, rfl, hf, l2, u2, l4, u4, l5, u5, fun {fu d} => ?_⟩
  have e1 := e1 (fu := fu) (d := d); have e2 := e2 (fu := fu) (d := d); have e3 := e3 (fu := fu) (d := d); have e4 := e4 (fu := fu) (d := d); have e5 := e5 (fu := fu) (d := d)
  rw [passkeylaw31_facts_e]
  try unfold shareK
  repeat first
    | (with_reducible apply go_nil; · with_reducible rfl)
    | (with_reducible apply go_cons; · with_reducible rfl)
    | (with_reducible apply go_int; · first | with_reducible rfl | (simp (disch := omega) only [e1, e2, e3, e4, e5, hfl, wrap_u64]; done) | (simp (disch := omega) only [e1, e2, e3, e4, e5, hfl, wrap_u64]; with_reducible rfl))
    | (with_reducible apply go_bool; · first | with_reducible rfl | (simp (disch := omega) only [e1, e2, e3, e4, e5, hfl, wrap_u64]; done) | (simp (disch := omega) only [e1, e2, e3, e4, e5, hfl, wrap_u64]; with_reducible rfl))
    | (with_reducible apply go_str; · first | with_reducible rfl | (simp (disch := omega) only [e1, e2, e3, e4, e5, hfl, wrap_u64]; done) | (simp (disch := omega) only [e1, e2, e3, e4, e5, hfl, wrap_u64]; with_reducible rfl))
    | (with_reducible apply go_any; · first | with_reducible rfl | (simp (disch := omega) only [e1, e2, e3, e4, e5, hfl, wrap_u64]; done) | (simp (disch := omega) only [e1, e2, e3, e4, e5, hfl, wrap_u64]; with_reducible rfl))
    | (with_reducible apply go_ow; · first | with_reducible rfl | (simp (disch := omega) only [e1, e2, e3, e4, e5, hfl, wrap_u64]; done) | (simp (disch := omega) only [e1, e2, e3, e4, e5, hfl, wrap_u64]; with_reducible rfl))
    | (with_reducible apply go_ls; · first | with_reducible rfl | (simp (disch := omega) only [e1, e2, e3, e4, e5, hfl, wrap_u64]; done) | (simp (disch := omega) only [e1, e2, e3, e4, e5, hfl, wrap_u64]; with_reducible rfl))
    | (with_reducible apply go_agg; · first | with_reducible rfl | (simp (disch := omega) only [e1, e2, e3, e4, e5, hfl, wrap_u64]; done) | (simp (disch := omega) only [e1, e2, e3, e4, e5, hfl, wrap_u64]; with_reducible rfl))
    | (with_reducible apply go_pbox; · first | with_reducible rfl | (simp (disch := omega) only [e1, e2, e3, e4, e5, hfl, wrap_u64]; done) | (simp (disch := omega) only [e1, e2, e3, e4, e5, hfl, wrap_u64]; with_reducible rfl))
    | (with_reducible apply go_opt; · first | with_reducible rfl | (simp (disch := omega) only [e1, e2, e3, e4, e5, hfl, wrap_u64]; done) | (simp (disch := omega) only [e1, e2, e3, e4, e5, hfl, wrap_u64]; with_reducible rfl))
    | (with_reducible apply go_chk; · first | with_reducible rfl | omega | (simp (disch := omega) only [Bool.and_eq_true, decide_eq_true_eq, beq_iff_eq, bne_iff_ne, Bool.not_eq_true', true_and, and_true, e1, e2, e3, e4, e5, hfl, wrap_u64]; done) | (simp (disch := omega) only [Bool.and_eq_true, decide_eq_true_eq, beq_iff_eq, bne_iff_ne, ne_eq, Bool.not_eq_true', true_and, and_true, e1, e2, e3, e4, e5, hfl, wrap_u64] <;> omega))
    | (with_reducible apply go_call; · first | with_reducible rfl | (simp (disch := omega) only [e1, e2, e3, e4, e5, hfl, wrap_u64]; done) | (simp (disch := omega) only [e1, e2, e3, e4, e5, hfl, wrap_u64]; with_reducible rfl))
    | (with_reducible apply go_brT; · first | with_reducible rfl | omega | (simp (disch := omega) only [Bool.and_eq_true, decide_eq_true_eq, beq_iff_eq, bne_iff_ne, Bool.not_eq_true', true_and, and_true, e1, e2, e3, e4, e5, hfl, wrap_u64]; done) | (simp (disch := omega) only [Bool.and_eq_true, decide_eq_true_eq, beq_iff_eq, bne_iff_ne, ne_eq, Bool.not_eq_true', true_and, and_true, e1, e2, e3, e4, e5, hfl, wrap_u64] <;> omega))
    | (with_reducible apply go_brF; · first | with_reducible rfl | (simp (disch := omega) only [decide_eq_false_iff_not, beq_eq_false_iff_ne, bne_eq_false_iff_eq, Bool.not_eq_false', e1, e2, e3, e4, e5, hfl, wrap_u64]; done) | (simp (disch := omega) only [decide_eq_false_iff_not, beq_eq_false_iff_ne, bne_eq_false_iff_eq, ne_eq, Bool.not_eq_false', e1, e2, e3, e4, e5, hfl, wrap_u64] <;> omega))
  try simp (disch := omega) only [e1, e2, e3, e4, e5, hfl, wrap_u64]
  rfl

theorem awake_eq (hfu : 0 < fu) : pcall C0 Try.prog fu (d + 5) F_passkeylaw31_awake [] = some ⟨[.sc (.bool true)], []⟩ := by
  have v1 := val_eq (fu := fu) (d := d + 2) ⟨2, false, 1, 1, false, 0, false, [], 1⟩ (by simp) (by simpa using hfu)
  have v2 := val_eq (fu := fu) (d := d + 2) ⟨0, false, 0, 0, false, 0, false, [], 0⟩ (by simp) (by simpa using hfu)
  have s1 := sgn_eq (fu := fu) (d := d) ⟨2, false, 1, 1, false, 0, false, [], 1⟩ (by simp) (by simpa using hfu) ⟨0, 1, 0, 0, 0, 0, [], 0, 0⟩ ⟨0, [], 0, 0, 0, 0, false, 0, 0, [], false, 0, 0⟩ 0
  have s2 := sgn_eq (fu := fu) (d := d) ⟨2, false, 1, 1, false, 0, false, [], 1⟩ (by simp) (by simpa using hfu) ⟨0, 5, 0, 0, 0, 0, [], 0, 0⟩ ⟨0, [], 0, 0, 0, 0, false, 0, 0, [], false, 0, 0⟩ 0
  have r1 := reg_eq (fu := fu) (d := d) ⟨2, false, 1, 1, false, 0, false, [], 1⟩ (by simp) (by simpa using hfu) ⟨0, 0, 0, 0, 0, 0, [], 0, 0⟩ 0 0 0 0
  have q1 : valE ⟨2, false, 1, 1, false, 0, false, [], 1⟩ = 0 := by decide
  have q2 : valE ⟨0, false, 0, 0, false, 0, false, [], 0⟩ = 9 := by decide
  have q3 : sgnE ⟨2, false, 1, 1, false, 0, false, [], 1⟩ ⟨0, 1, 0, 0, 0, 0, [], 0, 0⟩ false 0 0 = 23 := by decide
  have q4 : sgnE ⟨2, false, 1, 1, false, 0, false, [], 1⟩ ⟨0, 5, 0, 0, 0, 0, [], 0, 0⟩ false 0 0 = 0 := by decide
  have q5 : regE ⟨2, false, 1, 1, false, 0, false, [], 1⟩ ⟨0, 0, 0, 0, 0, 0, [], 0, 0⟩ 0 0 = 22 := by decide
  simp only [Pol.cells, Adt.cells, Stc.cells, encI, List.flatMap_nil, List.length_nil, q1, q2, q3, q4, q5] at v1 v2 s1 s2 r1
  rw [passkeylaw31_awake_e]
  try unfold shareK
  repeat first
    | (with_reducible apply go_nil; · with_reducible rfl)
    | (with_reducible apply go_cons; · with_reducible rfl)
    | (with_reducible apply go_int; · first | with_reducible rfl | (simp (disch := omega) only [v1, v2, s1, s2, r1]; done) | (simp (disch := omega) only [v1, v2, s1, s2, r1]; with_reducible rfl))
    | (with_reducible apply go_bool; · first | with_reducible rfl | (simp (disch := omega) only [v1, v2, s1, s2, r1]; done) | (simp (disch := omega) only [v1, v2, s1, s2, r1]; with_reducible rfl))
    | (with_reducible apply go_str; · first | with_reducible rfl | (simp (disch := omega) only [v1, v2, s1, s2, r1]; done) | (simp (disch := omega) only [v1, v2, s1, s2, r1]; with_reducible rfl))
    | (with_reducible apply go_any; · first | with_reducible rfl | (simp (disch := omega) only [v1, v2, s1, s2, r1]; done) | (simp (disch := omega) only [v1, v2, s1, s2, r1]; with_reducible rfl))
    | (with_reducible apply go_ow; · first | with_reducible rfl | (simp (disch := omega) only [v1, v2, s1, s2, r1]; done) | (simp (disch := omega) only [v1, v2, s1, s2, r1]; with_reducible rfl))
    | (with_reducible apply go_ls; · first | with_reducible rfl | (simp (disch := omega) only [v1, v2, s1, s2, r1]; done) | (simp (disch := omega) only [v1, v2, s1, s2, r1]; with_reducible rfl))
    | (with_reducible apply go_agg; · first | with_reducible rfl | (simp (disch := omega) only [v1, v2, s1, s2, r1]; done) | (simp (disch := omega) only [v1, v2, s1, s2, r1]; with_reducible rfl))
    | (with_reducible apply go_pbox; · first | with_reducible rfl | (simp (disch := omega) only [v1, v2, s1, s2, r1]; done) | (simp (disch := omega) only [v1, v2, s1, s2, r1]; with_reducible rfl))
    | (with_reducible apply go_opt; · first | with_reducible rfl | (simp (disch := omega) only [v1, v2, s1, s2, r1]; done) | (simp (disch := omega) only [v1, v2, s1, s2, r1]; with_reducible rfl))
    | (with_reducible apply go_chk; · first | with_reducible rfl | omega | (simp (disch := omega) only [Bool.and_eq_true, decide_eq_true_eq, beq_iff_eq, bne_iff_ne, Bool.not_eq_true', true_and, and_true, v1, v2, s1, s2, r1]; done) | (simp (disch := omega) only [Bool.and_eq_true, decide_eq_true_eq, beq_iff_eq, bne_iff_ne, ne_eq, Bool.not_eq_true', true_and, and_true, v1, v2, s1, s2, r1] <;> omega))
    | (with_reducible apply go_call; · first | with_reducible rfl | (simp (disch := omega) only [v1, v2, s1, s2, r1]; done) | (simp (disch := omega) only [v1, v2, s1, s2, r1]; with_reducible rfl))
    | (with_reducible apply go_brT; · first | with_reducible rfl | omega | (simp (disch := omega) only [Bool.and_eq_true, decide_eq_true_eq, beq_iff_eq, bne_iff_ne, Bool.not_eq_true', true_and, and_true, v1, v2, s1, s2, r1]; done) | (simp (disch := omega) only [Bool.and_eq_true, decide_eq_true_eq, beq_iff_eq, bne_iff_ne, ne_eq, Bool.not_eq_true', true_and, and_true, v1, v2, s1, s2, r1] <;> omega))
    | (with_reducible apply go_brF; · first | with_reducible rfl | (simp (disch := omega) only [decide_eq_false_iff_not, beq_eq_false_iff_ne, bne_eq_false_iff_eq, Bool.not_eq_false', v1, v2, s1, s2, r1]; done) | (simp (disch := omega) only [decide_eq_false_iff_not, beq_eq_false_iff_ne, bne_eq_false_iff_eq, ne_eq, Bool.not_eq_false', v1, v2, s1, s2, r1] <;> omega))
  try simp (disch := omega) only [v1, v2, s1, s2, r1]
  rfl
end

end Go.Proofs.Ytoihfmiifeegpaa.Pv
