/-
  Decks of numbers: New, Next.
-/
import Derived.Test.YtoihfmiifeegpaaPvN
import Derived.Test.YtoihfmiifeegpaaGnD
set_option linter.unusedSimpArgs false
set_option linter.unusedVariables false
namespace Go.Proofs.Ytoihfmiifeegpaa.Pv

/-- The cells of a deck. -/
abbrev dkc (l : List Int) (a : Nat) : List PV := [.lst false 1 l.length (encI .i64 l), .sc (.int .i64 (a : Int))]

theorem new_eq {fu d : Nat} {l : List Int} : pcall C0 Try.prog fu (d + 1) F_passkeycast_New [.lst false 1 l.length (encI .i64 l)] = some ⟨[.pbox (dkc l 0)], []⟩ := by
  rw [passkeycast_New_e]
  rfl

theorem mod_ex (v n : Int) (hn : 0 < n) (hm : n ≤ 9223372036854775807) : ∃ r, 0 ≤ r ∧ r < n ∧ ∀ {fu d : Nat}, pcall C0 Try.prog fu (d + 1) F_passkeycast_Mod [.sc (.int .i64 v), .sc (.int .i64 n)] = some ⟨[.sc (.int .i64 r)], []⟩ := by
  have h1 := wrap_u64_range v
  have h2 : IntKind.wrap .u64 n = n := wrap_u64 (by omega) (by omega)
  have h3 : 0 ≤ Int.tmod (IntKind.wrap .u64 v) n := Int.tmod_nonneg _ h1.1
  have h4 : Int.tmod (IntKind.wrap .u64 v) n < n := Int.tmod_lt_of_pos _ hn
  refine ⟨_, h3, h4, fun {fu d} => ?_⟩
  rw [passkeycast_Mod_e]
  simp only [nd_share, h2]
  rw [nd_chkd _ _ (by omega), wrap_i64 (by omega) (by omega)]

theorem next_ex {l : List Int} (hl : l.length ≤ maxLen) (a : Nat) (n : Int) (hn : 0 < n) (hm : n ≤ 9223372036854775807) : ∃ (v : Int) (a' : Nat), 0 ≤ v ∧ v < n ∧
    ∀ {fu d : Nat}, pcall C0 Try.prog fu (d + 2) F_passkeycast_Deck_Next [.pbox (dkc l a), .sc (.int .i64 n)] = some ⟨[.sc (.int .i64 v)], [dkc l a']⟩ := by
  simp only [maxLen] at hl
  by_cases h : a < l.length
  · obtain ⟨r, h1, h2, h3⟩ := mod_ex l[a] n hn hm
    refine ⟨r, a + 1, h1, h2, fun {fu d} => ?_⟩
    rw [passkeycast_Deck_Next_e]
    have hg : (encI .i64 l).getD (Int.toNat ((a : Int) + 1 - 1) * 1) .top = .sc (.int .i64 l[a]) := by
      have := ati (k := .i64) (List.getElem?_eq_getElem h)
      rw [show Int.toNat ((a : Int) + 1 - 1) * 1 = a by omega]
      exact this
    simp (disch := omega) only [nd_call, nd_nil, nd_cons, nd_bool, nd_str, nd_int, nd_any, nd_ls, nd_ow, nd_agg, nd_pbox, nd_opt, nd_share, nd_chk, nd_chkd, nd_chka, nd_brT, nd_brF, nd_brt, nd_brf, nd_both, Bool.not_true, Bool.not_false, Bool.false_eq_true, if_true, if_false, Bool.true_and, Bool.and_true, Bool.false_and, Bool.and_false, decide_true, decide_false, wrap_i64, hg, h3]
    rfl
  · refine ⟨0, a, by omega, hn, fun {fu d} => ?_⟩
    rw [passkeycast_Deck_Next_e]
    simp (disch := omega) only [nd_call, nd_nil, nd_cons, nd_bool, nd_str, nd_int, nd_any, nd_ls, nd_ow, nd_agg, nd_pbox, nd_opt, nd_share, nd_chk, nd_chkd, nd_chka, nd_brT, nd_brF, nd_brt, nd_brf, nd_both, Bool.not_true, Bool.not_false, Bool.false_eq_true, if_true, if_false, Bool.true_and, Bool.and_true, Bool.false_and, Bool.and_false, decide_true, decide_false]

end Go.Proofs.Ytoihfmiifeegpaa.Pv
