/-
  Leases: the lists that the laws make; the sanity check.
-/
import Derived.Test.YtoidbofkmflocaaLs2
import Derived.Test.YtoidbofkmflocaaGn4
set_option linter.unusedSimpArgs false
set_option linter.unusedVariables false
namespace Go.Proofs.Ytoidbofkmflocaa.Pv

section
variable {fu d : Nat} {l : List Ls} {i : Nat} {x : Ls}

theorem app_enc (x : Ls) : encL l ++ [PV.sc (Value.int IntKind.u64 x.tag), PV.sc (Value.int IntKind.i64 x.fr), PV.sc (Value.int IntKind.i64 x.to), PV.sc (Value.int IntKind.i64 x.nx)] = encL (l ++ [x]) := by
  simp [Ls.cells]

theorem wrap_u64_in (z : Int) : 0 ≤ IntKind.wrap .u64 z ∧ IntKind.wrap .u64 z ≤ 18446744073709551615 := by
  simp only [IntKind.wrap, IntKind.signed, IntKind.bits]
  simp
  omega

/-- A lease whose tag is a word. -/
def Ls.wd (x : Ls) : Prop := 0 ≤ x.tag ∧ x.tag ≤ 18446744073709551615

theorem made_loop {call : Call'} {n : Nat} {c : List PV} {m : List Int} (hm : m.length ≤ maxLen) : ∀ (k nn : Nat) (l : List Ls), 18 - l.length = k → k < nn → l.length ≤ 18 → l.length ≤ m.length → (∀ y ∈ l, y.wd) →
    ∃ x : List Ls, (x.length ≤ 18 ∧ ∀ y ∈ x, y.wd) ∧ passkeylaw10_made_L0 fu call n c nn m.length (encI .i64 m) l.length l.length (encL l) = some ⟨[.own 4 x.length (encL x)], []⟩
  | k, 0, _, _, h, _, _, _ => by omega
  | k, nn + 1, l, hk, hn, hl, hml, hwd => by
    have h5 := encL_len l
    have h6 : (encL l).take (l.length * 4) = encL l := List.take_of_length_le (by omega)
    by_cases h1 : l.length < m.length
    · by_cases h2 : l.length < 18
      · obtain ⟨z, hz⟩ : ∃ z, m[l.length]? = some z := ⟨_, List.getElem?_eq_getElem h1⟩
        have ih : ∀ (t a b e : Int), 0 ≤ t ∧ t ≤ 18446744073709551615 → ∃ x : List Ls, (x.length ≤ 18 ∧ ∀ y ∈ x, y.wd) ∧ passkeylaw10_made_L0 fu call n c nn m.length (encI .i64 m) (l.length + 1) (IntKind.wrap .i64 (l.length + 1))
            (encL l ++ [PV.sc (Value.int IntKind.u64 t), PV.sc (Value.int IntKind.i64 a), PV.sc (Value.int IntKind.i64 b), PV.sc (Value.int IntKind.i64 e)]) = some ⟨[.own 4 x.length (encL x)], []⟩ := by
          intro t a b e ht
          have := made_loop (call := call) (n := n) (c := c) hm (k - 1) nn (l ++ [⟨t, a, b, e⟩]) (by simp; omega) (by omega) (by simp; omega) (by simp; omega) (by
            intro y hy
            rcases List.mem_append.1 hy with hy | hy
            · exact hwd y hy
            · rw [List.mem_singleton.1 hy]; exact ht)
          rw [app_enc ⟨t, a, b, e⟩, wrap_i64 (by omega) (by omega)]
          simp only [List.length_append, List.length_cons, List.length_nil, Nat.zero_add] at this
          exact this
        have b4 := iand_bounds (a := iand .i64 z 16777215) (m := 7) (by omega) (by omega)
        have b6 := iand_bounds (a := ishr .i64 (iand .i64 z 16777215) 3) (m := 7) (by omega) (by omega)
        rw [passkeylaw10_made_L0_s]
        have hx0 : ∀ a b : Int, 0 ≤ a → a ≤ 7 → 0 ≤ b → b ≤ 7 → IntKind.wrap .i64 (IntKind.wrap .i64 (IntKind.wrap .i64 (a + b) - a) + 1) ≠ 0 := by
          intro a b h1 h2 h3 h4
          rw [wrap_i64 (x := a + b) (by omega) (by omega), wrap_i64 (x := a + b - a) (by omega) (by omega), wrap_i64 (by omega) (by omega)]
          omega
        have hx : IntKind.wrap .i64 (IntKind.wrap .i64 (IntKind.wrap .i64 (iand .i64 (iand .i64 z 16777215) 7 + iand .i64 (ishr .i64 (iand .i64 z 16777215) 3) 7) - iand .i64 (iand .i64 z 16777215) 7) + 1) ≠ 0 := by
          exact hx0 _ _ b4.1 b4.2 b6.1 b6.2
        simp (disch := first | omega | exact hx) only [nd_call, nd_nil, nd_cons, nd_bool, nd_str, nd_int, nd_any, nd_ls, nd_ow, nd_agg, nd_opt, nd_share, nd_chk, nd_chkd, nd_chka, nd_brT, nd_brF, nd_brt, nd_brf, nd_both, Bool.not_true, Bool.not_false, Bool.false_eq_true, if_true, if_false, Bool.true_and, Bool.and_true, Bool.false_and, Bool.and_false, decide_true, decide_false, Int.toNat_natCast, Nat.mul_one, ati hz, h6]
        simp only [nd_breq]
        split
        · exact ih _ _ _ _ (wrap_u64_in _)
        · split
          · exact ih _ _ _ _ (wrap_u64_in _)
          · split
            · exact ih _ _ _ _ (wrap_u64_in _)
            · split
              · exact ih _ _ _ _ (wrap_u64_in _)
              · exact ih _ _ _ _ (wrap_u64_in _)
      · refine ⟨l, ⟨hl, hwd⟩, ?_⟩
        rw [passkeylaw10_made_L0_s]
        simp (disch := omega) only [nd_call, nd_nil, nd_cons, nd_bool, nd_str, nd_int, nd_any, nd_ls, nd_ow, nd_agg, nd_opt, nd_share, nd_chk, nd_chkd, nd_chka, nd_brT, nd_brF, nd_brt, nd_brf, nd_both, Bool.not_true, Bool.not_false, Bool.false_eq_true, if_true, if_false, Bool.true_and, Bool.and_true, Bool.false_and, Bool.and_false, decide_true, decide_false, h6]
    · refine ⟨l, ⟨hl, hwd⟩, ?_⟩
      rw [passkeylaw10_made_L0_s]
      simp (disch := omega) only [nd_call, nd_nil, nd_cons, nd_bool, nd_str, nd_int, nd_any, nd_ls, nd_ow, nd_agg, nd_opt, nd_share, nd_chk, nd_chkd, nd_chka, nd_brT, nd_brF, nd_brt, nd_brf, nd_both, Bool.not_true, Bool.not_false, Bool.false_eq_true, if_true, if_false, Bool.true_and, Bool.and_true, Bool.false_and, Bool.and_false, decide_true, decide_false, h6]

theorem made_eq2 (hfu : 100 ≤ fu) {m : List Int} (hm : m.length ≤ maxLen) : ∃ x : List Ls, (x.length ≤ 18 ∧ ∀ y ∈ x, y.wd) ∧ pcall C0 Try.prog fu (d + 1) F_passkeylaw10_made [.lst false 1 m.length (encI .i64 m)] = some ⟨[.own 4 x.length (encL x)], []⟩ := by
  obtain ⟨x, h1, h2⟩ := made_loop (fu := fu) (call := pcall C0 Try.prog fu d) (n := m.length) (c := encI .i64 m) hm 18 fu [] (by simp) (by omega) (by simp) (by simp) (by simp)
  refine ⟨x, h1, ?_⟩
  rw [passkeylaw10_made_e]
  exact h2
theorem made_eq (hfu : 100 ≤ fu) {m : List Int} (hm : m.length ≤ maxLen) : ∃ x : List Ls, x.length ≤ 18 ∧ pcall C0 Try.prog fu (d + 1) F_passkeylaw10_made [.lst false 1 m.length (encI .i64 m)] = some ⟨[.own 4 x.length (encL x)], []⟩ := by
  obtain ⟨x, h1, h2⟩ := made_eq2 (d := d) hfu hm
  exact ⟨x, h1.1, h2⟩

theorem awake_eq (hfu : 100 ≤ fu) : pcall C0 Try.prog fu (d + 5) F_passkeylaw10_awake [] = some ⟨[.sc (.bool true)], []⟩ := by
  have g1 : grantL [] ⟨5, 0, 2, 0⟩ = ([⟨5, 0, 2, 0⟩], 0) := by simp [grantL, vld, vlL, Ls.ok, findL]
  have g2 : takeL [⟨5, 0, 2, 0⟩] 5 = ([⟨5, 0, 2, 1⟩], 0, 0) := by simp [takeL, locL, vld, vlL, Ls.ok, findL]
  have g3 : takeL [⟨5, 0, 2, 1⟩] 5 = ([⟨5, 0, 2, 2⟩], 1, 0) := by simp [takeL, locL, vld, vlL, Ls.ok, findL]
  have g4 : takeL [⟨5, 0, 2, 2⟩] 5 = ([], 0, 13) := by simp [takeL, locL, vld, vlL, Ls.ok, findL]
  have h1 : pcall C0 Try.prog fu (d + 4) F_lease_Grant [.lst false 4 0 [], .sc (.int .u64 5), .sc (.int .i64 0), .sc (.int .i64 2), .sc (.int .i64 0)] = some ⟨[.own 4 1 (Ls.cells ⟨5, 0, 2, 0⟩), .sc (.int .i64 0)], []⟩ := by
    have := grant_eq (fu := fu) (d := d + 1) (l := []) (Nat.zero_le _) (Nat.lt_of_lt_of_le (by decide) hfu) ⟨5, 0, 2, 0⟩
    rw [g1] at this
    exact this
  have h2 : pcall C0 Try.prog fu (d + 4) F_lease_Take [.lst false 4 1 (Ls.cells ⟨5, 0, 2, 0⟩), .sc (.int .u64 5)] = some ⟨[.own 4 1 (Ls.cells ⟨5, 0, 2, 1⟩), .sc (.int .i64 0), .sc (.int .i64 0)], []⟩ := by
    have := take_eq (fu := fu) (d := d) (l := [⟨5, 0, 2, 0⟩]) (by simp [maxLen]) (Nat.lt_of_lt_of_le (by decide) hfu) 5
    rw [g2] at this
    exact this
  have h3 : pcall C0 Try.prog fu (d + 4) F_lease_Take [.lst false 4 1 (Ls.cells ⟨5, 0, 2, 1⟩), .sc (.int .u64 5)] = some ⟨[.own 4 1 (Ls.cells ⟨5, 0, 2, 2⟩), .sc (.int .i64 1), .sc (.int .i64 0)], []⟩ := by
    have := take_eq (fu := fu) (d := d) (l := [⟨5, 0, 2, 1⟩]) (by simp [maxLen]) (Nat.lt_of_lt_of_le (by decide) hfu) 5
    rw [g3] at this
    exact this
  have h4 : pcall C0 Try.prog fu (d + 4) F_lease_Take [.lst false 4 1 (Ls.cells ⟨5, 0, 2, 2⟩), .sc (.int .u64 5)] = some ⟨[.own 4 0 [], .sc (.int .i64 0), .sc (.int .i64 13)], []⟩ := by
    have := take_eq (fu := fu) (d := d) (l := [⟨5, 0, 2, 2⟩]) (by simp [maxLen]) (Nat.lt_of_lt_of_le (by decide) hfu) 5
    rw [g4] at this
    exact this
  have c1 : ∀ x : Ls, List.take (1 * 4) (List.drop 0 x.cells) = x.cells := fun x => rfl
  have c2 : ∀ x : Ls, 0 + 1 * 4 ≤ x.cells.length := fun x => Nat.le_refl _
  rw [passkeylaw10_awake_e]
  simp only [nd_call, nd_nil, nd_cons, nd_bool, nd_str, nd_int, nd_any, nd_ls, nd_ow, nd_agg, nd_opt, nd_share, nd_chk, nd_chkd, nd_chka, nd_brT, nd_brF, nd_brt, nd_brf, nd_both, Bool.not_true, Bool.not_false, Bool.false_eq_true, if_true, if_false, Bool.true_and, Bool.and_true, Bool.false_and, Bool.and_false, decide_true, decide_false, h1, h2, h3, h4, c1, c2]
  simp [brK]
end

end Go.Proofs.Ytoidbofkmflocaa.Pv
