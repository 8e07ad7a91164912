/-
  Words as bytes, and back.
-/
import Derived.Test.YtoidbofkmflocaaPvN
import Derived.Test.YtoidbofkmflocaaGn3
set_option linter.unusedSimpArgs false
set_option linter.unusedVariables false
namespace Go.Proofs.Ytoidbofkmflocaa.Pv

/-- The byte of a word at a place, the most significant one first. -/
def byteAt (w : Int) (k : Nat) : Int := IntKind.wrap .u8 (ishr .u64 w (56 - 8 * (k : Int)))
def word1 (w : Int) : List Int := (List.range' 0 8).map (byteAt w)
def wordsL (ws : List Int) : List Int := ws.flatMap word1
theorem word1_len (w : Int) : (word1 w).length = 8 := rfl

section
variable {fu d : Nat} {call : Call'} {n : Nat} {c : List PV}

theorem words_in {ws : List Int} {w : Int} {m0 l : Nat} {i k : Int} : ∀ (r j nn : Nat) (bs : List Int), 8 - j = r → r < nn → j ≤ 8 → bs.length + r ≤ 34359738368 →
    digest_Words_L1 fu call n c m0 nn bs.length w l (encI .u64 ws) k i j (encI .u8 bs) =
      digest_Words_L0 fu call n c m0 (bs ++ (List.range' j (8 - j)).map (byteAt w)).length l (encI .u64 ws) k (IntKind.wrap .i64 (i + 1)) (encI .u8 (bs ++ (List.range' j (8 - j)).map (byteAt w)))
  | r, j, 0, bs, _, h, _, _ => by omega
  | 0, j, nn + 1, bs, hr, _, hj, _ => by
    have e : j = 8 := by omega
    subst e
    rw [digest_Words_L1_s]
    simp (disch := omega) only [nd_call, nd_nil, nd_cons, nd_bool, nd_str, nd_int, nd_any, nd_ls, nd_ow, nd_agg, nd_opt, nd_share, nd_chk, nd_chkd, nd_chka, nd_brT, nd_brF, nd_brt, nd_brf, nd_both, Bool.not_true, Bool.not_false, Bool.false_eq_true, if_true, if_false, Bool.true_and, Bool.and_true, Bool.false_and, Bool.and_false, decide_true, decide_false]
    simp
  | r + 1, j, nn + 1, bs, hr, hn, hj, hb => by
    have ih := words_in (ws := ws) (w := w) (m0 := m0) (l := l) (i := i) (k := k) r (j + 1) nn (bs ++ [byteAt w j]) (by omega) (by omega) (by omega) (by simp; omega)
    have e8 := encI_len .u8 bs
    rw [digest_Words_L1_s]
    have hx : IntKind.wrap .u8 (ishr .u64 w (IntKind.wrap .i64 (56 - IntKind.wrap .i64 (8 * (j : Int))))) = byteAt w j := by
      rw [wrap_i64 (x := 8 * (j : Int)) (by omega) (by omega), wrap_i64 (by omega) (by omega)]
      rfl
    have h0 : 0 ≤ IntKind.wrap .i64 (56 - IntKind.wrap .i64 (8 * (j : Int))) := by
      rw [wrap_i64 (x := 8 * (j : Int)) (by omega) (by omega), wrap_i64 (by omega) (by omega)]
      omega
    have hrange : List.range' j (8 - j) = j :: List.range' (j + 1) (8 - (j + 1)) := by
      rw [show 8 - j = (8 - (j + 1)) + 1 by omega]
      exact List.range'_succ
    simp (disch := first | omega | exact h0) only [nd_call, nd_nil, nd_cons, nd_bool, nd_str, nd_int, nd_any, nd_ls, nd_ow, nd_agg, nd_opt, nd_share, nd_chk, nd_chkd, nd_chka, nd_brT, nd_brF, nd_brt, nd_brf, nd_both, Bool.not_true, Bool.not_false, Bool.false_eq_true, if_true, if_false, Bool.true_and, Bool.and_true, Bool.false_and, Bool.and_false, decide_true, decide_false, Nat.mul_one, hx, tki, encI_app, wrap_i64 (x := (j : Int) + 1)]
    rw [hrange]
    simp only [List.length_append, List.length_cons, List.length_nil, Nat.zero_add, List.append_assoc, List.map_cons, List.singleton_append] at ih ⊢
    exact ih

theorem words_loop {ws : List Int} (hl : ws.length ≤ 1073741824) (hfu : 100 ≤ fu) : ∀ (r : List Int) (i nn : Nat) (bs : List Int), ws.drop i = r → r.length < nn → bs.length = 8 * i →
    digest_Words_L0 fu call n c nn bs.length ws.length (encI .u64 ws) ws.length i (encI .u8 bs) = some ⟨[.own 1 (bs ++ wordsL r).length (encI .u8 (bs ++ wordsL r))], []⟩
  | r, i, 0, _, _, h, _ => by omega
  | [], i, nn + 1, bs, h, _, _ => by
    have := drop_nil h
    have e8 := encI_len .u8 bs
    rw [digest_Words_L0_s]
    simp (disch := omega) only [nd_call, nd_nil, nd_cons, nd_bool, nd_str, nd_int, nd_any, nd_ls, nd_ow, nd_agg, nd_opt, nd_share, nd_chk, nd_chkd, nd_chka, nd_brT, nd_brF, nd_brt, nd_brf, nd_both, Bool.not_true, Bool.not_false, Bool.false_eq_true, if_true, if_false, Bool.true_and, Bool.and_true, Bool.false_and, Bool.and_false, decide_true, decide_false, Nat.mul_one, tki, wordsL, List.flatMap_nil, List.append_nil]
  | w :: r, i, nn + 1, bs, h, hn, hb => by
    obtain ⟨h1, h2, h3⟩ := drop_cons h
    simp only [List.length_cons] at hn
    rw [digest_Words_L0_s]
    simp (disch := omega) only [nd_call, nd_nil, nd_cons, nd_bool, nd_str, nd_int, nd_any, nd_ls, nd_ow, nd_agg, nd_opt, nd_share, nd_chk, nd_chkd, nd_chka, nd_brT, nd_brF, nd_brt, nd_brf, nd_both, Bool.not_true, Bool.not_false, Bool.false_eq_true, if_true, if_false, Bool.true_and, Bool.and_true, Bool.false_and, Bool.and_false, decide_true, decide_false, Int.toNat_natCast, Nat.mul_one, ati h2]
    rw [show (0 : Int) = ((0 : Nat) : Int) from rfl, words_in 8 0 fu bs rfl (by omega) (by omega) (by omega), wrap_i64 (by omega) (by omega)]
    have ih := words_loop hl hfu r (i + 1) nn (bs ++ word1 w) h3 (by omega) (by simp [word1_len]; omega)
    have e : bs ++ word1 w ++ wordsL r = bs ++ wordsL (w :: r) := by simp [wordsL]
    rw [e] at ih
    exact ih

theorem words_eq {ws : List Int} (hl : ws.length ≤ 1073741824) (hfu : 100 ≤ fu) (hf : ws.length < fu) : pcall C0 Try.prog fu (d + 1) F_digest_Words [.lst false 1 ws.length (encI .u64 ws)] = some ⟨[.own 1 (wordsL ws).length (encI .u8 (wordsL ws))], []⟩ := by
  rw [digest_Words_e]
  simp (disch := omega) only [nd_call, nd_nil, nd_cons, nd_bool, nd_str, nd_int, nd_any, nd_ls, nd_ow, nd_agg, nd_opt, nd_share, nd_chk, nd_chkd, nd_chka, nd_brT, nd_brF, nd_brt, nd_brf, nd_both, Bool.not_true, Bool.not_false, Bool.false_eq_true, if_true, if_false, Bool.true_and, Bool.and_true, Bool.false_and, Bool.and_false, decide_true, decide_false, wrap_i64, Int.mul_one]
  exact words_loop hl hfu ws 0 fu [] rfl hf rfl

theorem wordsR_in {ws : List Int} {w : Int} {m0 i : Nat} (hw : ws[i]? = some w) : ∀ (r nn : Nat) (j : Int) (bs : List Int), j = (r : Int) - 1 → r ≤ 8 → r < nn → bs.length + r ≤ 34359738368 →
    passkeyref1_Words_L1 fu call n c m0 nn ws.length (encI .u64 ws) bs.length i j (encI .u8 bs) =
      passkeyref1_Words_L0 fu call n c m0 ws.length (encI .u64 ws) (bs ++ (List.range' (8 - r) r).map (byteAt w)).length (IntKind.wrap .i64 (i + 1)) (encI .u8 (bs ++ (List.range' (8 - r) r).map (byteAt w)))
  | r, 0, j, bs, _, _, h, _ => by omega
  | 0, nn + 1, j, bs, hr, _, _, _ => by
    rw [passkeyref1_Words_L1_s]
    simp (disch := omega) only [nd_call, nd_nil, nd_cons, nd_bool, nd_str, nd_int, nd_any, nd_ls, nd_ow, nd_agg, nd_opt, nd_share, nd_chk, nd_chkd, nd_chka, nd_brT, nd_brF, nd_brt, nd_brf, nd_both, Bool.not_true, Bool.not_false, Bool.false_eq_true, if_true, if_false, Bool.true_and, Bool.and_true, Bool.false_and, Bool.and_false, decide_true, decide_false]
    simp
  | r + 1, nn + 1, j, bs, hr, hle, hn, hb => by
    have hi := get_lt hw
    have ih := wordsR_in (m0 := m0) hw r nn (j - 1) (bs ++ [byteAt w (8 - (r + 1))]) (by omega) (by omega) (by omega) (by simp; omega)
    have e8 := encI_len .u8 bs
    have hx : IntKind.wrap .u8 (ishr .u64 w (IntKind.wrap .u64 (IntKind.wrap .i64 (8 * j)))) = byteAt w (8 - (r + 1)) := by
      rw [wrap_i64 (by omega) (by omega), wrap_u64 (by omega) (by omega)]
      unfold byteAt
      rw [show 56 - 8 * ((8 - (r + 1) : Nat) : Int) = 8 * j by omega]
    have h0 : 0 ≤ IntKind.wrap .u64 (IntKind.wrap .i64 (8 * j)) := by
      rw [wrap_i64 (by omega) (by omega), wrap_u64 (by omega) (by omega)]
      omega
    have hrange : List.range' (8 - (r + 1)) (r + 1) = (8 - (r + 1)) :: List.range' (8 - r) r := by
      rw [List.range'_succ, show 8 - (r + 1) + 1 = 8 - r by omega]
    rw [passkeyref1_Words_L1_s]
    simp (disch := first | omega | exact h0) only [nd_call, nd_nil, nd_cons, nd_bool, nd_str, nd_int, nd_any, nd_ls, nd_ow, nd_agg, nd_opt, nd_share, nd_chk, nd_chkd, nd_chka, nd_brT, nd_brF, nd_brt, nd_brf, nd_both, Bool.not_true, Bool.not_false, Bool.false_eq_true, if_true, if_false, Bool.true_and, Bool.and_true, Bool.false_and, Bool.and_false, decide_true, decide_false, Int.toNat_natCast, Nat.mul_one, ati hw, hx, tki, encI_app, wrap_i64 (x := j - 1)]
    rw [hrange]
    simp only [List.length_append, List.length_cons, List.length_nil, Nat.zero_add, List.append_assoc, List.map_cons, List.singleton_append] at ih ⊢
    exact ih

theorem wordsR_loop {ws : List Int} (hl : ws.length ≤ 1073741824) (hfu : 100 ≤ fu) : ∀ (r : List Int) (i nn : Nat) (bs : List Int), ws.drop i = r → r.length < nn → bs.length = 8 * i →
    passkeyref1_Words_L0 fu call n c nn ws.length (encI .u64 ws) bs.length i (encI .u8 bs) = some ⟨[.own 1 (bs ++ wordsL r).length (encI .u8 (bs ++ wordsL r))], []⟩
  | r, i, 0, _, _, h, _ => by omega
  | [], i, nn + 1, bs, h, _, _ => by
    have := drop_nil h
    have e8 := encI_len .u8 bs
    rw [passkeyref1_Words_L0_s]
    simp (disch := omega) only [nd_call, nd_nil, nd_cons, nd_bool, nd_str, nd_int, nd_any, nd_ls, nd_ow, nd_agg, nd_opt, nd_share, nd_chk, nd_chkd, nd_chka, nd_brT, nd_brF, nd_brt, nd_brf, nd_both, Bool.not_true, Bool.not_false, Bool.false_eq_true, if_true, if_false, Bool.true_and, Bool.and_true, Bool.false_and, Bool.and_false, decide_true, decide_false, Nat.mul_one, tki, wordsL, List.flatMap_nil, List.append_nil]
  | w :: r, i, nn + 1, bs, h, hn, hb => by
    obtain ⟨h1, h2, h3⟩ := drop_cons h
    simp only [List.length_cons] at hn
    rw [passkeyref1_Words_L0_s]
    simp (disch := omega) only [nd_call, nd_nil, nd_cons, nd_bool, nd_str, nd_int, nd_any, nd_ls, nd_ow, nd_agg, nd_opt, nd_share, nd_chk, nd_chkd, nd_chka, nd_brT, nd_brF, nd_brt, nd_brf, nd_both, Bool.not_true, Bool.not_false, Bool.false_eq_true, if_true, if_false, Bool.true_and, Bool.and_true, Bool.false_and, Bool.and_false, decide_true, decide_false]
    rw [wordsR_in h2 8 fu 7 bs rfl (by omega) (by omega) (by omega), wrap_i64 (by omega) (by omega)]
    have ih := wordsR_loop hl hfu r (i + 1) nn (bs ++ word1 w) h3 (by omega) (by simp [word1_len]; omega)
    have e : bs ++ word1 w ++ wordsL r = bs ++ wordsL (w :: r) := by simp [wordsL]
    rw [e] at ih
    exact ih

theorem wordsR_eq {ws : List Int} (hl : ws.length ≤ 1073741824) (hfu : 100 ≤ fu) (hf : ws.length < fu) : pcall C0 Try.prog fu (d + 1) F_passkeyref1_Words [.lst false 1 ws.length (encI .u64 ws)] = some ⟨[.own 1 (wordsL ws).length (encI .u8 (wordsL ws))], []⟩ := by
  rw [passkeyref1_Words_e]
  exact wordsR_loop hl hfu ws 0 fu [] rfl hf rfl
end

/-- One byte more. -/
abbrev joinB (a b : Int) : Int := ior .u64 (ishl .u64 a 8) (IntKind.wrap .u64 b)
def decW (bs : List Int) : Int := bs.foldl joinB 0

theorem join8 {q : Int} (h0 : 0 ≤ q) (h1 : q ≤ 18446744073709551615) : joinB (q / 256) (IntKind.wrap .u8 q) = q := by
  have e1 : ishl .u64 (q / 256) 8 = q / 256 * 256 := by
    unfold ishl
    have : ((8 : Int).toNat.min IntKind.u64.bits) = 8 := by decide
    show IntKind.wrap .u64 (q / 256 * 2 ^ (min (8 : Int).toNat IntKind.u64.bits)) = _
    have h2 : (2 : Int) ^ (min (8 : Int).toNat IntKind.u64.bits) = 256 := by decide
    rw [h2, wrap_u64 (by omega) (by omega)]
  have e2 : IntKind.wrap .u8 q = q % 256 := by
    simp only [IntKind.wrap, IntKind.signed, IntKind.bits]
    simp
  have e3 : IntKind.wrap .u64 (q % 256) = q % 256 := wrap_u64 (by omega) (by omega)
  unfold joinB
  rw [e1, e2, e3]
  obtain ⟨n, rfl⟩ := Int.eq_ofNat_of_zero_le h0
  have hn : n < 18446744073709551616 := by omega
  have e4 : (BitVec.ofInt 64 ((n : Int) / 256 * 256)).toNat = n / 256 * 256 := by
    rw [BitVec.toNat_ofInt]
    omega
  have e5 : (BitVec.ofInt 64 ((n : Int) % 256)).toNat = n % 256 := by
    rw [BitVec.toNat_ofInt]
    omega
  have e6 : n / 256 * 256 ||| n % 256 = n := by
    have := Nat.shiftLeft_add_eq_or_of_lt (show n % 256 < 2 ^ 8 by omega) (n / 256)
    rw [Nat.shiftLeft_eq] at this
    rw [← this]
    omega
  unfold ior
  show IntKind.wrap .u64 ((BitVec.ofInt 64 ((n : Int) / 256 * 256) ||| BitVec.ofInt 64 ((n : Int) % 256)).toNat : Int) = n
  rw [BitVec.toNat_or, e4, e5, e6, wrap_u64 (by omega) (by omega)]

theorem byteAt_eq {w : Int} (k : Nat) (hk : k < 8) : byteAt w k = IntKind.wrap .u8 (w / 2 ^ (56 - 8 * k)) := by
  unfold byteAt ishr
  have e : (56 - 8 * (k : Int)).toNat = 56 - 8 * k := by omega
  rw [e, Nat.min_eq_left (by show 56 - 8 * k ≤ 64; omega), Int.fdiv_eq_ediv_of_nonneg _ (Int.le_of_lt (Int.pow_pos (by omega)))]

theorem decW_word {w : Int} (h0 : 0 ≤ w) (h1 : w ≤ 18446744073709551615) : decW (word1 w) = w := by
  have st : ∀ (k : Nat) (D : Int), k < 8 → (2 : Int) ^ (56 - 8 * k) = D → 0 < D → joinB (w / D / 256) (byteAt w k) = w / D := by
    intro k D hk hD hp
    rw [byteAt_eq k hk, hD]
    exact join8 (Int.ediv_nonneg h0 (Int.le_of_lt hp)) (Int.le_trans (Int.ediv_le_self _ h0) h1)
  have s0 := st 0 72057594037927936 (by omega) (by decide) (by omega)
  have s1 := st 1 281474976710656 (by omega) (by decide) (by omega)
  have s2 := st 2 1099511627776 (by omega) (by decide) (by omega)
  have s3 := st 3 4294967296 (by omega) (by decide) (by omega)
  have s4 := st 4 16777216 (by omega) (by decide) (by omega)
  have s5 := st 5 65536 (by omega) (by decide) (by omega)
  have s6 := st 6 256 (by omega) (by decide) (by omega)
  have s7 := st 7 1 (by omega) (by decide) (by omega)
  rw [show w / 72057594037927936 / 256 = 0 by omega] at s0
  rw [show w / 281474976710656 / 256 = w / 72057594037927936 by omega] at s1
  rw [show w / 1099511627776 / 256 = w / 281474976710656 by omega] at s2
  rw [show w / 4294967296 / 256 = w / 1099511627776 by omega] at s3
  rw [show w / 16777216 / 256 = w / 4294967296 by omega] at s4
  rw [show w / 65536 / 256 = w / 16777216 by omega] at s5
  rw [show w / 256 / 256 = w / 65536 by omega] at s6
  rw [show w / 1 / 256 = w / 256 by omega, show w / 1 = w by omega] at s7
  show joinB (joinB (joinB (joinB (joinB (joinB (joinB (joinB 0 (byteAt w 0)) (byteAt w 1)) (byteAt w 2)) (byteAt w 3)) (byteAt w 4)) (byteAt w 5)) (byteAt w 6)) (byteAt w 7) = w
  rw [s0, s1, s2, s3, s4, s5, s6, s7]

end Go.Proofs.Ytoidbofkmflocaa.Pv
