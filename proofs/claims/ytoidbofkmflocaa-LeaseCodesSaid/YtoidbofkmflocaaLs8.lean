/-
  The law LeaseCodes, as a plain equation.
-/
import Derived.Test.YtoidbofkmflocaaLs6
import Derived.Test.YtoidbofkmflocaaWd1
set_option linter.unusedSimpArgs false
set_option linter.unusedVariables false
namespace Go.Proofs.Ytoidbofkmflocaa.Pv

section
variable {fu d : Nat} {x : Ls}

/-- The bytes of a lease. -/
def encB (x : Ls) : List Int := if x.ok = true then word1 x.tag ++ [x.fr, x.to, x.nx] else []

theorem one_word (hfu : 100 ≤ fu) (w : Int) : pcall C0 Try.prog fu (d + 1) F_digest_Words [.lst false 1 1 [.sc (.int .u64 w)]] = some ⟨[.own 1 8 (encI .u8 (word1 w))], []⟩ := by
  have := words_eq (fu := fu) (d := d) (ws := [w]) (by simp) hfu (by simp; omega)
  simp only [wordsL, List.flatMap_cons, List.flatMap_nil, List.append_nil, List.length_cons, List.length_nil, word1_len] at this
  exact this
theorem one_wordR (hfu : 100 ≤ fu) (w : Int) : pcall C0 Try.prog fu (d + 1) F_passkeyref1_Words [.lst false 1 1 [.sc (.int .u64 w)]] = some ⟨[.own 1 8 (encI .u8 (word1 w))], []⟩ := by
  have := wordsR_eq (fu := fu) (d := d) (ws := [w]) (by simp) hfu (by simp; omega)
  simp only [wordsL, List.flatMap_cons, List.flatMap_nil, List.append_nil, List.length_cons, List.length_nil, word1_len] at this
  exact this

theorem take8 (w : Int) : List.take (8 * 1) (encI .u8 (word1 w)) = encI .u8 (word1 w) := List.take_of_length_le (by rw [encI_len, word1_len]; omega)
theorem take11 (w a b c : Int) : List.take ((8 + 3) * 1) (encI .u8 (word1 w) ++ [.sc (.int .u8 a), .sc (.int .u8 b), .sc (.int .u8 c)]) = encI .u8 (word1 w ++ [a, b, c]) := by
  rw [List.take_of_length_le (by rw [List.length_append, encI_len, word1_len]; simp)]
  simp
theorem len11 (w a b c : Int) : (encI .u8 (word1 w) ++ [PV.sc (.int .u8 a), PV.sc (.int .u8 b), PV.sc (.int .u8 c)]).length = 11 := by rw [List.length_append, encI_len, word1_len]; rfl

theorem encode_eq (hfu : 100 ≤ fu) (x : Ls) : pcall C0 Try.prog fu (d + 2) F_lease_Encode [.agg [.sc (.int .u64 x.tag), .sc (.int .i64 x.fr), .sc (.int .i64 x.to), .sc (.int .i64 x.nx)]] = some ⟨[.own 1 (encB x).length (encI .u8 (encB x))], []⟩ := by
  rw [lease_Encode_e]
  have hv := valid_eq (fu := fu) (d := d) x
  unfold Ls.cells at hv
  have hw := one_word (d := d) hfu x.tag
  have h8 := encI_len .u8 (word1 x.tag)
  rw [word1_len] at h8
  unfold encB
  cases h : x.ok
  · simp only [nd_call, nd_nil, nd_cons, nd_bool, nd_str, nd_int, nd_any, nd_ls, nd_ow, nd_agg, nd_opt, nd_share, nd_chk, nd_chkd, nd_chka, nd_brT, nd_brF, nd_brt, nd_brf, nd_both, Bool.not_true, Bool.not_false, Bool.false_eq_true, if_true, if_false, Bool.true_and, Bool.and_true, Bool.false_and, Bool.and_false, decide_true, decide_false, hv, h, List.length_nil, List.flatMap_nil]
  · have hb := ok_bounds h
    simp (disch := omega) only [nd_call, nd_nil, nd_cons, nd_bool, nd_str, nd_int, nd_any, nd_ls, nd_ow, nd_agg, nd_opt, nd_share, nd_chk, nd_chkd, nd_chka, nd_brT, nd_brF, nd_brt, nd_brf, nd_both, Bool.not_true, Bool.not_false, Bool.false_eq_true, if_true, if_false, Bool.true_and, Bool.and_true, Bool.false_and, Bool.and_false, decide_true, decide_false, hv, h, hw, h8, take8, len11, take11, wrap_u8]
    simp [word1_len]
theorem encodeR_eq (hfu : 100 ≤ fu) (x : Ls) : pcall C0 Try.prog fu (d + 2) F_passkeyref10_EncodeLease [.agg [.sc (.int .u64 x.tag), .sc (.int .i64 x.fr), .sc (.int .i64 x.to), .sc (.int .i64 x.nx)]] = some ⟨[.own 1 (encB x).length (encI .u8 (encB x))], []⟩ := by
  rw [passkeyref10_EncodeLease_e]
  have hv := validR_eq (fu := fu) (d := d) x
  unfold Ls.cells at hv
  have hw := one_wordR (d := d) hfu x.tag
  have h8 := encI_len .u8 (word1 x.tag)
  rw [word1_len] at h8
  unfold encB
  cases h : x.ok
  · simp only [nd_call, nd_nil, nd_cons, nd_bool, nd_str, nd_int, nd_any, nd_ls, nd_ow, nd_agg, nd_opt, nd_share, nd_chk, nd_chkd, nd_chka, nd_brT, nd_brF, nd_brt, nd_brf, nd_both, Bool.not_true, Bool.not_false, Bool.false_eq_true, if_true, if_false, Bool.true_and, Bool.and_true, Bool.false_and, Bool.and_false, decide_true, decide_false, hv, h, List.length_nil, List.flatMap_nil]
  · have hb := ok_bounds h
    simp (disch := omega) only [nd_call, nd_nil, nd_cons, nd_bool, nd_str, nd_int, nd_any, nd_ls, nd_ow, nd_agg, nd_opt, nd_share, nd_chk, nd_chkd, nd_chka, nd_brT, nd_brF, nd_brt, nd_brf, nd_both, Bool.not_true, Bool.not_false, Bool.false_eq_true, if_true, if_false, Bool.true_and, Bool.and_true, Bool.false_and, Bool.and_false, decide_true, decide_false, hv, h, hw, h8, take8, len11, take11, wrap_u8]
    simp [word1_len]

def zeroL : Ls := ⟨0, 0, 0, 0⟩
def decT (x : Ls) : Ls × Int := if x.ok = true then (x, 0) else (zeroL, 2)
/-- The lease of bytes. -/
def decB (bs : List Int) : Ls × Int :=
  if bs.length = 11 then decT ⟨decW (bs.take 8), IntKind.wrap .i64 (bs.getD 8 0), IntKind.wrap .i64 (bs.getD 9 0), IntKind.wrap .i64 (bs.getD 10 0)⟩ else (zeroL, 2)
abbrev decR (q : Ls × Int) : Option Res := some ⟨[.agg [.sc (.int .u64 q.1.tag), .sc (.int .i64 q.1.fr), .sc (.int .i64 q.1.to), .sc (.int .i64 q.1.nx)], .sc (.int .i64 q.2)], []⟩

theorem dec_loop {n : Nat} {c : List PV} {bs : List Int} (hb : bs.length = 8) {z0 z1 z2 z3 a b e : Int} : ∀ (r : List Int) (i nn : Nat) (acc : Int), bs.drop i = r → r.length < nn →
    lease_Decode_L0 fu (pcall C0 Try.prog fu (d + 1)) n c nn 8 (encI .u8 bs) 8 i z0 z1 z2 z3 acc a b e = decR (decT ⟨r.foldl joinB acc, a, b, e⟩)
  | r, i, 0, _, _, h => by omega
  | [], i, nn + 1, acc, h, _ => by
    have := drop_nil h
    have hv := valid_eq (fu := fu) (d := d) ⟨acc, a, b, e⟩
    unfold Ls.cells at hv
    rw [lease_Decode_L0_s]
    cases ho : Ls.ok ⟨acc, a, b, e⟩
    · simp (disch := omega) only [nd_call, nd_nil, nd_cons, nd_bool, nd_str, nd_int, nd_any, nd_ls, nd_ow, nd_agg, nd_opt, nd_share, nd_chk, nd_chkd, nd_chka, nd_brT, nd_brF, nd_brt, nd_brf, nd_both, Bool.not_true, Bool.not_false, Bool.false_eq_true, if_true, if_false, Bool.true_and, Bool.and_true, Bool.false_and, Bool.and_false, decide_true, decide_false, hv, ho, decT, List.foldl_nil, zeroL]
    · simp (disch := omega) only [nd_call, nd_nil, nd_cons, nd_bool, nd_str, nd_int, nd_any, nd_ls, nd_ow, nd_agg, nd_opt, nd_share, nd_chk, nd_chkd, nd_chka, nd_brT, nd_brF, nd_brt, nd_brf, nd_both, Bool.not_true, Bool.not_false, Bool.false_eq_true, if_true, if_false, Bool.true_and, Bool.and_true, Bool.false_and, Bool.and_false, decide_true, decide_false, hv, ho, decT, List.foldl_nil]
  | y :: r, i, nn + 1, acc, h, hn => by
    obtain ⟨h1, h2, h3⟩ := drop_cons h
    simp only [List.length_cons] at hn
    rw [lease_Decode_L0_s]
    simp (disch := omega) only [nd_call, nd_nil, nd_cons, nd_bool, nd_str, nd_int, nd_any, nd_ls, nd_ow, nd_agg, nd_opt, nd_share, nd_chk, nd_chkd, nd_chka, nd_brT, nd_brF, nd_brt, nd_brf, nd_both, Bool.not_true, Bool.not_false, Bool.false_eq_true, if_true, if_false, Bool.true_and, Bool.and_true, Bool.false_and, Bool.and_false, decide_true, decide_false, Int.toNat_natCast, Nat.mul_one, ati h2, wrap_i64]
    exact dec_loop hb r (i + 1) nn (joinB acc y) h3 (by omega)
theorem word_loop {call : Call'} {n : Nat} {c : List PV} {bs : List Int} (hb : bs.length = 8) : ∀ (r : List Int) (i nn : Nat) (acc : Int), bs.drop i = r → r.length < nn →
    passkeyref1_Word_L0 fu call n c nn 8 (encI .u8 bs) acc i = some ⟨[.sc (.int .u64 (r.foldl joinB acc))], []⟩
  | r, i, 0, _, _, h => by omega
  | [], i, nn + 1, acc, h, _ => by
    have := drop_nil h
    rw [passkeyref1_Word_L0_s]
    simp (disch := omega) only [nd_call, nd_nil, nd_cons, nd_bool, nd_str, nd_int, nd_any, nd_ls, nd_ow, nd_agg, nd_opt, nd_share, nd_chk, nd_chkd, nd_chka, nd_brT, nd_brF, nd_brt, nd_brf, nd_both, Bool.not_true, Bool.not_false, Bool.false_eq_true, if_true, if_false, Bool.true_and, Bool.and_true, Bool.false_and, Bool.and_false, decide_true, decide_false, List.foldl_nil]
  | y :: r, i, nn + 1, acc, h, hn => by
    obtain ⟨h1, h2, h3⟩ := drop_cons h
    simp only [List.length_cons] at hn
    rw [passkeyref1_Word_L0_s]
    simp (disch := omega) only [nd_call, nd_nil, nd_cons, nd_bool, nd_str, nd_int, nd_any, nd_ls, nd_ow, nd_agg, nd_opt, nd_share, nd_chk, nd_chkd, nd_chka, nd_brT, nd_brF, nd_brt, nd_brf, nd_both, Bool.not_true, Bool.not_false, Bool.false_eq_true, if_true, if_false, Bool.true_and, Bool.and_true, Bool.false_and, Bool.and_false, decide_true, decide_false, Int.toNat_natCast, Nat.mul_one, ati h2, wrap_i64]
    exact word_loop hb r (i + 1) nn (joinB acc y) h3 (by omega)

theorem take8i (bs : List Int) : List.take 8 (List.drop 0 (encI .u8 bs)) = encI .u8 (bs.take 8) := by
  have := fm_take (intC_len .u8) bs 8
  simpa using this
theorem getD_some {l : List Int} {i : Nat} (h : i < l.length) : l[i]? = some (l.getD i 0) := by
  rw [List.getElem?_eq_getElem h, List.getD_eq_getElem?_getD, List.getElem?_eq_getElem h]
  rfl

theorem decode_eq (hfu : 100 ≤ fu) (bs : List Int) : pcall C0 Try.prog fu (d + 2) F_lease_Decode [.lst false 1 bs.length (encI .u8 bs)] = decR (decB bs) := by
  rw [lease_Decode_e]
  unfold decB
  by_cases h : bs.length = 11
  · have hl := dec_loop (fu := fu) (d := d) (n := bs.length) (c := encI .u8 bs) (bs := bs.take 8) (by simp; omega) (z0 := 0) (z1 := 0) (z2 := 0) (z3 := 0) (a := IntKind.wrap .i64 (bs.getD 8 0)) (b := IntKind.wrap .i64 (bs.getD 9 0)) (e := IntKind.wrap .i64 (bs.getD 10 0)) (bs.take 8) 0 fu 0 rfl (by simp; omega)
    rw [if_pos h]
    simp (disch := omega) only [nd_call, nd_nil, nd_cons, nd_bool, nd_str, nd_int, nd_any, nd_ls, nd_ow, nd_agg, nd_opt, nd_share, nd_chk, nd_chkd, nd_chka, nd_brT, nd_brF, nd_brt, nd_brf, nd_both, Bool.not_true, Bool.not_false, Bool.false_eq_true, if_true, if_false, Bool.true_and, Bool.and_true, Bool.false_and, Bool.and_false, decide_true, decide_false, nd_brne, if_pos (show (bs.length : Int) = 11 by omega), ati (getD_some (show 8 < bs.length by omega)), ati (getD_some (show 9 < bs.length by omega)), ati (getD_some (show 10 < bs.length by omega)), take8i]
    exact hl
  · rw [if_neg h]
    simp (disch := omega) only [nd_call, nd_nil, nd_cons, nd_bool, nd_str, nd_int, nd_any, nd_ls, nd_ow, nd_agg, nd_opt, nd_share, nd_chk, nd_chkd, nd_chka, nd_brT, nd_brF, nd_brt, nd_brf, nd_both, Bool.not_true, Bool.not_false, Bool.false_eq_true, if_true, if_false, Bool.true_and, Bool.and_true, Bool.false_and, Bool.and_false, decide_true, decide_false, nd_brne, if_neg (show ¬ (bs.length : Int) = 11 by omega), zeroL]
theorem decodeR_eq (hfu : 100 ≤ fu) (bs : List Int) : pcall C0 Try.prog fu (d + 2) F_passkeyref10_DecodeLease [.lst false 1 bs.length (encI .u8 bs)] = decR (decB bs) := by
  rw [passkeyref10_DecodeLease_e]
  unfold decB
  by_cases h : bs.length = 11
  · have hl := word_loop (fu := fu) (call := pcall C0 Try.prog fu d) (n := 8) (c := encI .u8 (bs.take 8)) (bs := bs.take 8) (by simp; omega) (bs.take 8) 0 fu 0 rfl (by simp; omega)
    have hw : pcall C0 Try.prog fu (d + 1) F_passkeyref1_Word [.lst false 1 8 (encI .u8 (bs.take 8))] = some ⟨[.sc (.int .u64 (decW (bs.take 8)))], []⟩ := by
      rw [passkeyref1_Word_e]
      exact hl
    have hv := validR_eq (fu := fu) (d := d) ⟨decW (bs.take 8), IntKind.wrap .i64 (bs.getD 8 0), IntKind.wrap .i64 (bs.getD 9 0), IntKind.wrap .i64 (bs.getD 10 0)⟩
    unfold Ls.cells at hv
    rw [if_pos h]
    unfold decT
    cases ho : Ls.ok ⟨decW (bs.take 8), IntKind.wrap .i64 (bs.getD 8 0), IntKind.wrap .i64 (bs.getD 9 0), IntKind.wrap .i64 (bs.getD 10 0)⟩
    · simp (disch := omega) only [nd_call, nd_nil, nd_cons, nd_bool, nd_str, nd_int, nd_any, nd_ls, nd_ow, nd_agg, nd_opt, nd_share, nd_chk, nd_chkd, nd_chka, nd_brT, nd_brF, nd_brt, nd_brf, nd_both, Bool.not_true, Bool.not_false, Bool.false_eq_true, if_true, if_false, Bool.true_and, Bool.and_true, Bool.false_and, Bool.and_false, decide_true, decide_false, nd_brne, if_pos (show (bs.length : Int) = 11 by omega), ati (getD_some (show 8 < bs.length by omega)), ati (getD_some (show 9 < bs.length by omega)), ati (getD_some (show 10 < bs.length by omega)), take8i, hw, hv, ho, zeroL]
    · simp (disch := omega) only [nd_call, nd_nil, nd_cons, nd_bool, nd_str, nd_int, nd_any, nd_ls, nd_ow, nd_agg, nd_opt, nd_share, nd_chk, nd_chkd, nd_chka, nd_brT, nd_brF, nd_brt, nd_brf, nd_both, Bool.not_true, Bool.not_false, Bool.false_eq_true, if_true, if_false, Bool.true_and, Bool.and_true, Bool.false_and, Bool.and_false, decide_true, decide_false, nd_brne, if_pos (show (bs.length : Int) = 11 by omega), ati (getD_some (show 8 < bs.length by omega)), ati (getD_some (show 9 < bs.length by omega)), ati (getD_some (show 10 < bs.length by omega)), take8i, hw, hv, ho]
  · rw [if_neg h]
    simp (disch := omega) only [nd_call, nd_nil, nd_cons, nd_bool, nd_str, nd_int, nd_any, nd_ls, nd_ow, nd_agg, nd_opt, nd_share, nd_chk, nd_chkd, nd_chka, nd_brT, nd_brF, nd_brt, nd_brf, nd_both, Bool.not_true, Bool.not_false, Bool.false_eq_true, if_true, if_false, Bool.true_and, Bool.and_true, Bool.false_and, Bool.and_false, decide_true, decide_false, nd_brne, if_neg (show ¬ (bs.length : Int) = 11 by omega), zeroL]

theorem dec_enc (h0 : 0 ≤ x.tag) (h1 : x.tag ≤ 18446744073709551615) (ho : x.ok = true) : decB (encB x) = (x, 0) := by
  have hb := ok_bounds ho
  unfold encB
  rw [if_pos ho]
  unfold decB
  have hl : (word1 x.tag ++ [x.fr, x.to, x.nx]).length = 11 := by simp [word1_len]
  have ht : (word1 x.tag ++ [x.fr, x.to, x.nx]).take 8 = word1 x.tag := by
    rw [List.take_append_of_le_length (by rw [word1_len]; omega)]
    exact List.take_of_length_le (by rw [word1_len]; omega)
  have g8 : (word1 x.tag ++ [x.fr, x.to, x.nx]).getD 8 0 = x.fr := rfl
  have g9 : (word1 x.tag ++ [x.fr, x.to, x.nx]).getD 9 0 = x.to := rfl
  have g10 : (word1 x.tag ++ [x.fr, x.to, x.nx]).getD 10 0 = x.nx := rfl
  rw [if_pos hl, ht, g8, g9, g10, decW_word h0 h1, wrap_i64 (by omega) (by omega), wrap_i64 (by omega) (by omega), wrap_i64 (by omega) (by omega)]
  have : (⟨x.tag, x.fr, x.to, x.nx⟩ : Ls) = x := rfl
  rw [this]
  simp [decT, ho]

theorem bytesOf_enc : ∀ (l : List Int), bytesOf (encI .u8 l) = some (l.map fun n => n.toNat.toUInt8)
  | [] => rfl
  | n :: l => by
    show (bytesOf (encI .u8 l)).map _ = _
    rw [bytesOf_enc l]
    rfl

theorem tk1 (l : List Int) : List.take (l.length * 1) (List.drop 0 (encI .u8 l)) = encI .u8 l := by
  rw [List.drop_zero, Nat.mul_one]
  exact tki .u8 l

theorem codes_loop {a0 a1 a2 a3 : Int} {n1 n2 : Nat} {c1 c2 : List PV} {bs : List Int} (hbs : bs.length ≤ 100) (hfu : 200 ≤ fu) {ys : List Ls} (hy : ys.length ≤ 20) (hwd : ∀ y ∈ ys, y.wd) : ∀ (r : List Ls) (i nn : Nat), ys.drop i = r → r.length < nn →
    passkeylaw10_LeaseCodes_L0 fu (pcall C0 Try.prog fu (d + 5)) a0 a1 a2 a3 n1 c1 n2 c2 nn bs.length (encI .u8 bs) ys.length i (encL ys) = some ⟨[.sc (.bool true)], []⟩
  | r, i, 0, _, h => by omega
  | [], i, nn + 1, h, _ => by
    have := drop_nil h
    have haw := awake_eq (fu := fu) (d := d) (by omega)
    have d1 := fun l : List Int => decode_eq (fu := fu) (d := d + 3) (by omega) l
    have d2 := fun l : List Int => decodeR_eq (fu := fu) (d := d + 3) (by omega) l
    obtain ⟨k, hk, hk1⟩ : ∃ k : Nat, (if (11 : Int) < (bs.length : Int) then (11 : Int) else (bs.length : Int)) = (k : Int) ∧ k ≤ bs.length := by
      by_cases h11 : (11 : Int) < (bs.length : Int)
      · exact ⟨11, by rw [if_pos h11]; rfl, by omega⟩
      · exact ⟨bs.length, by rw [if_neg h11], Nat.le_refl _⟩
    have ht : List.take k (encI .u8 bs) = encI .u8 (bs.take k) := by
      have := fm_take (intC_len .u8) bs k
      simpa using this
    have hl : (bs.take k).length = k := by simp [hk1]
    have e1 := d1 (bs.take k)
    have e2 := d2 (bs.take k)
    rw [hl] at e1 e2
    rw [passkeylaw10_LeaseCodes_L0_s]
    simp only [hk]
    unfold shareK
    repeat first
      | (with_reducible apply go_nil; · with_reducible rfl)
      | (with_reducible apply go_cons; · with_reducible rfl)
      | (with_reducible apply go_int; · first | with_reducible rfl | (simp (disch := omega) only [d1, d2, haw, hk, Int.toNat_natCast, Nat.sub_zero, Nat.mul_one, List.drop_zero, ht, e1, e2, beq_self_eq_true, Bool.and_true]; done) | (simp (disch := omega) only [d1, d2, haw, hk, Int.toNat_natCast, Nat.sub_zero, Nat.mul_one, List.drop_zero, ht, e1, e2, beq_self_eq_true, Bool.and_true]; with_reducible rfl))
      | (with_reducible apply go_bool; · first | with_reducible rfl | (simp (disch := omega) only [d1, d2, haw, hk, Int.toNat_natCast, Nat.sub_zero, Nat.mul_one, List.drop_zero, ht, e1, e2, beq_self_eq_true, Bool.and_true]; done) | (simp (disch := omega) only [d1, d2, haw, hk, Int.toNat_natCast, Nat.sub_zero, Nat.mul_one, List.drop_zero, ht, e1, e2, beq_self_eq_true, Bool.and_true]; with_reducible rfl))
      | (with_reducible apply go_str; · first | with_reducible rfl | (simp (disch := omega) only [d1, d2, haw, hk, Int.toNat_natCast, Nat.sub_zero, Nat.mul_one, List.drop_zero, ht, e1, e2, beq_self_eq_true, Bool.and_true]; done) | (simp (disch := omega) only [d1, d2, haw, hk, Int.toNat_natCast, Nat.sub_zero, Nat.mul_one, List.drop_zero, ht, e1, e2, beq_self_eq_true, Bool.and_true]; with_reducible rfl))
      | (with_reducible apply go_any; · first | with_reducible rfl | (simp (disch := omega) only [d1, d2, haw, hk, Int.toNat_natCast, Nat.sub_zero, Nat.mul_one, List.drop_zero, ht, e1, e2, beq_self_eq_true, Bool.and_true]; done) | (simp (disch := omega) only [d1, d2, haw, hk, Int.toNat_natCast, Nat.sub_zero, Nat.mul_one, List.drop_zero, ht, e1, e2, beq_self_eq_true, Bool.and_true]; with_reducible rfl))
      | (with_reducible apply go_ow; · first | with_reducible rfl | (simp (disch := omega) only [d1, d2, haw, hk, Int.toNat_natCast, Nat.sub_zero, Nat.mul_one, List.drop_zero, ht, e1, e2, beq_self_eq_true, Bool.and_true]; done) | (simp (disch := omega) only [d1, d2, haw, hk, Int.toNat_natCast, Nat.sub_zero, Nat.mul_one, List.drop_zero, ht, e1, e2, beq_self_eq_true, Bool.and_true]; with_reducible rfl))
      | (with_reducible apply go_ls; · first | with_reducible rfl | (simp (disch := omega) only [d1, d2, haw, hk, Int.toNat_natCast, Nat.sub_zero, Nat.mul_one, List.drop_zero, ht, e1, e2, beq_self_eq_true, Bool.and_true]; done) | (simp (disch := omega) only [d1, d2, haw, hk, Int.toNat_natCast, Nat.sub_zero, Nat.mul_one, List.drop_zero, ht, e1, e2, beq_self_eq_true, Bool.and_true]; with_reducible rfl))
      | (with_reducible apply go_agg; · first | with_reducible rfl | (simp (disch := omega) only [d1, d2, haw, hk, Int.toNat_natCast, Nat.sub_zero, Nat.mul_one, List.drop_zero, ht, e1, e2, beq_self_eq_true, Bool.and_true]; done) | (simp (disch := omega) only [d1, d2, haw, hk, Int.toNat_natCast, Nat.sub_zero, Nat.mul_one, List.drop_zero, ht, e1, e2, beq_self_eq_true, Bool.and_true]; with_reducible rfl))
      | (with_reducible apply go_opt; · first | with_reducible rfl | (simp (disch := omega) only [d1, d2, haw, hk, Int.toNat_natCast, Nat.sub_zero, Nat.mul_one, List.drop_zero, ht, e1, e2, beq_self_eq_true, Bool.and_true]; done) | (simp (disch := omega) only [d1, d2, haw, hk, Int.toNat_natCast, Nat.sub_zero, Nat.mul_one, List.drop_zero, ht, e1, e2, beq_self_eq_true, Bool.and_true]; with_reducible rfl))
      | (with_reducible apply go_chk; · first | with_reducible rfl | omega | (simp (disch := omega) only [Bool.and_eq_true, decide_eq_true_eq, beq_iff_eq, bne_iff_ne, Bool.not_eq_true', true_and, and_true, d1, d2, haw, hk, Int.toNat_natCast, Nat.sub_zero, Nat.mul_one, List.drop_zero, ht, e1, e2, beq_self_eq_true, Bool.and_true]; done) | (simp (disch := omega) only [Bool.and_eq_true, decide_eq_true_eq, beq_iff_eq, bne_iff_ne, ne_eq, Bool.not_eq_true', true_and, and_true, d1, d2, haw, hk, Int.toNat_natCast, Nat.sub_zero, Nat.mul_one, List.drop_zero, ht, e1, e2, beq_self_eq_true, Bool.and_true] <;> omega))
      | (with_reducible apply go_call; · first | with_reducible rfl | (simp (disch := omega) only [d1, d2, haw, hk, Int.toNat_natCast, Nat.sub_zero, Nat.mul_one, List.drop_zero, ht, e1, e2, beq_self_eq_true, Bool.and_true]; done) | (simp (disch := omega) only [d1, d2, haw, hk, Int.toNat_natCast, Nat.sub_zero, Nat.mul_one, List.drop_zero, ht, e1, e2, beq_self_eq_true, Bool.and_true]; with_reducible rfl))
      | (with_reducible apply go_brT; · first | with_reducible rfl | omega | (simp (disch := omega) only [Bool.and_eq_true, decide_eq_true_eq, beq_iff_eq, bne_iff_ne, Bool.not_eq_true', true_and, and_true, d1, d2, haw, hk, Int.toNat_natCast, Nat.sub_zero, Nat.mul_one, List.drop_zero, ht, e1, e2, beq_self_eq_true, Bool.and_true]; done) | (simp (disch := omega) only [Bool.and_eq_true, decide_eq_true_eq, beq_iff_eq, bne_iff_ne, ne_eq, Bool.not_eq_true', true_and, and_true, d1, d2, haw, hk, Int.toNat_natCast, Nat.sub_zero, Nat.mul_one, List.drop_zero, ht, e1, e2, beq_self_eq_true, Bool.and_true] <;> omega))
      | (with_reducible apply go_brF; · first | with_reducible rfl | (simp (disch := omega) only [decide_eq_false_iff_not, beq_eq_false_iff_ne, bne_eq_false_iff_eq, Bool.not_eq_false', d1, d2, haw, hk, Int.toNat_natCast, Nat.sub_zero, Nat.mul_one, List.drop_zero, ht, e1, e2, beq_self_eq_true, Bool.and_true]; done) | (simp (disch := omega) only [decide_eq_false_iff_not, beq_eq_false_iff_ne, bne_eq_false_iff_eq, ne_eq, Bool.not_eq_false', d1, d2, haw, hk, Int.toNat_natCast, Nat.sub_zero, Nat.mul_one, List.drop_zero, ht, e1, e2, beq_self_eq_true, Bool.and_true] <;> omega))
    try simp (disch := omega) only [d1, d2, haw, hk, Int.toNat_natCast, Nat.sub_zero, Nat.mul_one, List.drop_zero, ht, e1, e2, beq_self_eq_true, Bool.and_true]
  | x :: r, i, nn + 1, h, hn => by
    obtain ⟨h1, h2, h3⟩ := drop_cons h
    simp only [List.length_cons] at hn
    have ih := codes_loop (a0 := a0) (a1 := a1) (a2 := a2) (a3 := a3) (n1 := n1) (n2 := n2) (c1 := c1) (c2 := c2) hbs hfu hy hwd r (i + 1) nn h3 (by omega)
    have hx := hwd x (List.mem_of_getElem? h2)
    have en1 := encode_eq (fu := fu) (d := d + 3) (by omega) x
    have en2 := encodeR_eq (fu := fu) (d := d + 3) (by omega) x
    have de := decode_eq (fu := fu) (d := d + 3) (by omega) (encB x)
    have hle := encI_len .u8 (encB x)
    rw [passkeylaw10_LeaseCodes_L0_s]
    have hw : IntKind.wrap .i64 ((i : Int) + 1) = ((i + 1 : Nat) : Int) := by rw [wrap_i64 (by omega) (by omega)]; rfl
    cases ho : x.ok
    · have hl0 : (encB x).length = 0 := by simp [encB, ho]
      unfold shareK
      repeat first
        | (with_reducible apply go_nil; · with_reducible rfl)
        | (with_reducible apply go_cons; · with_reducible rfl)
        | (with_reducible apply go_int; · first | with_reducible rfl | (simp (disch := omega) only [Int.toNat_natCast, Nat.zero_add, Nat.add_assoc, Nat.reduceAdd, at0 h2, at1 h2, at2 h2, at3 h2, en1, en2, de, tk1, hle, bytesOf_enc, beq_self_eq_true, Bool.not_true, hw]; done) | (simp (disch := omega) only [Int.toNat_natCast, Nat.zero_add, Nat.add_assoc, Nat.reduceAdd, at0 h2, at1 h2, at2 h2, at3 h2, en1, en2, de, tk1, hle, bytesOf_enc, beq_self_eq_true, Bool.not_true, hw]; with_reducible rfl))
        | (with_reducible apply go_bool; · first | with_reducible rfl | (simp (disch := omega) only [Int.toNat_natCast, Nat.zero_add, Nat.add_assoc, Nat.reduceAdd, at0 h2, at1 h2, at2 h2, at3 h2, en1, en2, de, tk1, hle, bytesOf_enc, beq_self_eq_true, Bool.not_true, hw]; done) | (simp (disch := omega) only [Int.toNat_natCast, Nat.zero_add, Nat.add_assoc, Nat.reduceAdd, at0 h2, at1 h2, at2 h2, at3 h2, en1, en2, de, tk1, hle, bytesOf_enc, beq_self_eq_true, Bool.not_true, hw]; with_reducible rfl))
        | (with_reducible apply go_str; · first | with_reducible rfl | (simp (disch := omega) only [Int.toNat_natCast, Nat.zero_add, Nat.add_assoc, Nat.reduceAdd, at0 h2, at1 h2, at2 h2, at3 h2, en1, en2, de, tk1, hle, bytesOf_enc, beq_self_eq_true, Bool.not_true, hw]; done) | (simp (disch := omega) only [Int.toNat_natCast, Nat.zero_add, Nat.add_assoc, Nat.reduceAdd, at0 h2, at1 h2, at2 h2, at3 h2, en1, en2, de, tk1, hle, bytesOf_enc, beq_self_eq_true, Bool.not_true, hw]; with_reducible rfl))
        | (with_reducible apply go_any; · first | with_reducible rfl | (simp (disch := omega) only [Int.toNat_natCast, Nat.zero_add, Nat.add_assoc, Nat.reduceAdd, at0 h2, at1 h2, at2 h2, at3 h2, en1, en2, de, tk1, hle, bytesOf_enc, beq_self_eq_true, Bool.not_true, hw]; done) | (simp (disch := omega) only [Int.toNat_natCast, Nat.zero_add, Nat.add_assoc, Nat.reduceAdd, at0 h2, at1 h2, at2 h2, at3 h2, en1, en2, de, tk1, hle, bytesOf_enc, beq_self_eq_true, Bool.not_true, hw]; with_reducible rfl))
        | (with_reducible apply go_ow; · first | with_reducible rfl | (simp (disch := omega) only [Int.toNat_natCast, Nat.zero_add, Nat.add_assoc, Nat.reduceAdd, at0 h2, at1 h2, at2 h2, at3 h2, en1, en2, de, tk1, hle, bytesOf_enc, beq_self_eq_true, Bool.not_true, hw]; done) | (simp (disch := omega) only [Int.toNat_natCast, Nat.zero_add, Nat.add_assoc, Nat.reduceAdd, at0 h2, at1 h2, at2 h2, at3 h2, en1, en2, de, tk1, hle, bytesOf_enc, beq_self_eq_true, Bool.not_true, hw]; with_reducible rfl))
        | (with_reducible apply go_ls; · first | with_reducible rfl | (simp (disch := omega) only [Int.toNat_natCast, Nat.zero_add, Nat.add_assoc, Nat.reduceAdd, at0 h2, at1 h2, at2 h2, at3 h2, en1, en2, de, tk1, hle, bytesOf_enc, beq_self_eq_true, Bool.not_true, hw]; done) | (simp (disch := omega) only [Int.toNat_natCast, Nat.zero_add, Nat.add_assoc, Nat.reduceAdd, at0 h2, at1 h2, at2 h2, at3 h2, en1, en2, de, tk1, hle, bytesOf_enc, beq_self_eq_true, Bool.not_true, hw]; with_reducible rfl))
        | (with_reducible apply go_agg; · first | with_reducible rfl | (simp (disch := omega) only [Int.toNat_natCast, Nat.zero_add, Nat.add_assoc, Nat.reduceAdd, at0 h2, at1 h2, at2 h2, at3 h2, en1, en2, de, tk1, hle, bytesOf_enc, beq_self_eq_true, Bool.not_true, hw]; done) | (simp (disch := omega) only [Int.toNat_natCast, Nat.zero_add, Nat.add_assoc, Nat.reduceAdd, at0 h2, at1 h2, at2 h2, at3 h2, en1, en2, de, tk1, hle, bytesOf_enc, beq_self_eq_true, Bool.not_true, hw]; with_reducible rfl))
        | (with_reducible apply go_opt; · first | with_reducible rfl | (simp (disch := omega) only [Int.toNat_natCast, Nat.zero_add, Nat.add_assoc, Nat.reduceAdd, at0 h2, at1 h2, at2 h2, at3 h2, en1, en2, de, tk1, hle, bytesOf_enc, beq_self_eq_true, Bool.not_true, hw]; done) | (simp (disch := omega) only [Int.toNat_natCast, Nat.zero_add, Nat.add_assoc, Nat.reduceAdd, at0 h2, at1 h2, at2 h2, at3 h2, en1, en2, de, tk1, hle, bytesOf_enc, beq_self_eq_true, Bool.not_true, hw]; with_reducible rfl))
        | (with_reducible apply go_chk; · first | with_reducible rfl | omega | (simp (disch := omega) only [Bool.and_eq_true, decide_eq_true_eq, beq_iff_eq, bne_iff_ne, Bool.not_eq_true', true_and, and_true, Int.toNat_natCast, Nat.zero_add, Nat.add_assoc, Nat.reduceAdd, at0 h2, at1 h2, at2 h2, at3 h2, en1, en2, de, tk1, hle, bytesOf_enc, beq_self_eq_true, Bool.not_true, hw]; done) | (simp (disch := omega) only [Bool.and_eq_true, decide_eq_true_eq, beq_iff_eq, bne_iff_ne, ne_eq, Bool.not_eq_true', true_and, and_true, Int.toNat_natCast, Nat.zero_add, Nat.add_assoc, Nat.reduceAdd, at0 h2, at1 h2, at2 h2, at3 h2, en1, en2, de, tk1, hle, bytesOf_enc, beq_self_eq_true, Bool.not_true, hw] <;> omega))
        | (with_reducible apply go_call; · first | with_reducible rfl | (simp (disch := omega) only [Int.toNat_natCast, Nat.zero_add, Nat.add_assoc, Nat.reduceAdd, at0 h2, at1 h2, at2 h2, at3 h2, en1, en2, de, tk1, hle, bytesOf_enc, beq_self_eq_true, Bool.not_true, hw]; done) | (simp (disch := omega) only [Int.toNat_natCast, Nat.zero_add, Nat.add_assoc, Nat.reduceAdd, at0 h2, at1 h2, at2 h2, at3 h2, en1, en2, de, tk1, hle, bytesOf_enc, beq_self_eq_true, Bool.not_true, hw]; with_reducible rfl))
        | (with_reducible apply go_brT; · first | with_reducible rfl | omega | (simp (disch := omega) only [Bool.and_eq_true, decide_eq_true_eq, beq_iff_eq, bne_iff_ne, Bool.not_eq_true', true_and, and_true, Int.toNat_natCast, Nat.zero_add, Nat.add_assoc, Nat.reduceAdd, at0 h2, at1 h2, at2 h2, at3 h2, en1, en2, de, tk1, hle, bytesOf_enc, beq_self_eq_true, Bool.not_true, hw]; done) | (simp (disch := omega) only [Bool.and_eq_true, decide_eq_true_eq, beq_iff_eq, bne_iff_ne, ne_eq, Bool.not_eq_true', true_and, and_true, Int.toNat_natCast, Nat.zero_add, Nat.add_assoc, Nat.reduceAdd, at0 h2, at1 h2, at2 h2, at3 h2, en1, en2, de, tk1, hle, bytesOf_enc, beq_self_eq_true, Bool.not_true, hw] <;> omega))
        | (with_reducible apply go_brF; · first | with_reducible rfl | (simp (disch := omega) only [decide_eq_false_iff_not, beq_eq_false_iff_ne, bne_eq_false_iff_eq, Bool.not_eq_false', Int.toNat_natCast, Nat.zero_add, Nat.add_assoc, Nat.reduceAdd, at0 h2, at1 h2, at2 h2, at3 h2, en1, en2, de, tk1, hle, bytesOf_enc, beq_self_eq_true, Bool.not_true, hw]; done) | (simp (disch := omega) only [decide_eq_false_iff_not, beq_eq_false_iff_ne, bne_eq_false_iff_eq, ne_eq, Bool.not_eq_false', Int.toNat_natCast, Nat.zero_add, Nat.add_assoc, Nat.reduceAdd, at0 h2, at1 h2, at2 h2, at3 h2, en1, en2, de, tk1, hle, bytesOf_enc, beq_self_eq_true, Bool.not_true, hw] <;> omega))
      try simp (disch := omega) only [Int.toNat_natCast, Nat.zero_add, Nat.add_assoc, Nat.reduceAdd, at0 h2, at1 h2, at2 h2, at3 h2, en1, en2, de, tk1, hle, bytesOf_enc, beq_self_eq_true, Bool.not_true, hw]
      exact ih
    · rw [dec_enc hx.1 hx.2 ho] at de
      have hl0 : (encB x).length = 11 := by simp [encB, ho, word1_len]
      unfold shareK
      repeat first
        | (with_reducible apply go_nil; · with_reducible rfl)
        | (with_reducible apply go_cons; · with_reducible rfl)
        | (with_reducible apply go_int; · first | with_reducible rfl | (simp (disch := omega) only [Int.toNat_natCast, Nat.zero_add, Nat.add_assoc, Nat.reduceAdd, at0 h2, at1 h2, at2 h2, at3 h2, en1, en2, de, tk1, hle, bytesOf_enc, beq_self_eq_true, Bool.not_true, Bool.and_true, hw]; done) | (simp (disch := omega) only [Int.toNat_natCast, Nat.zero_add, Nat.add_assoc, Nat.reduceAdd, at0 h2, at1 h2, at2 h2, at3 h2, en1, en2, de, tk1, hle, bytesOf_enc, beq_self_eq_true, Bool.not_true, Bool.and_true, hw]; with_reducible rfl))
        | (with_reducible apply go_bool; · first | with_reducible rfl | (simp (disch := omega) only [Int.toNat_natCast, Nat.zero_add, Nat.add_assoc, Nat.reduceAdd, at0 h2, at1 h2, at2 h2, at3 h2, en1, en2, de, tk1, hle, bytesOf_enc, beq_self_eq_true, Bool.not_true, Bool.and_true, hw]; done) | (simp (disch := omega) only [Int.toNat_natCast, Nat.zero_add, Nat.add_assoc, Nat.reduceAdd, at0 h2, at1 h2, at2 h2, at3 h2, en1, en2, de, tk1, hle, bytesOf_enc, beq_self_eq_true, Bool.not_true, Bool.and_true, hw]; with_reducible rfl))
        | (with_reducible apply go_str; · first | with_reducible rfl | (simp (disch := omega) only [Int.toNat_natCast, Nat.zero_add, Nat.add_assoc, Nat.reduceAdd, at0 h2, at1 h2, at2 h2, at3 h2, en1, en2, de, tk1, hle, bytesOf_enc, beq_self_eq_true, Bool.not_true, Bool.and_true, hw]; done) | (simp (disch := omega) only [Int.toNat_natCast, Nat.zero_add, Nat.add_assoc, Nat.reduceAdd, at0 h2, at1 h2, at2 h2, at3 h2, en1, en2, de, tk1, hle, bytesOf_enc, beq_self_eq_true, Bool.not_true, Bool.and_true, hw]; with_reducible rfl))
        | (with_reducible apply go_any; · first | with_reducible rfl | (simp (disch := omega) only [Int.toNat_natCast, Nat.zero_add, Nat.add_assoc, Nat.reduceAdd, at0 h2, at1 h2, at2 h2, at3 h2, en1, en2, de, tk1, hle, bytesOf_enc, beq_self_eq_true, Bool.not_true, Bool.and_true, hw]; done) | (simp (disch := omega) only [Int.toNat_natCast, Nat.zero_add, Nat.add_assoc, Nat.reduceAdd, at0 h2, at1 h2, at2 h2, at3 h2, en1, en2, de, tk1, hle, bytesOf_enc, beq_self_eq_true, Bool.not_true, Bool.and_true, hw]; with_reducible rfl))
        | (with_reducible apply go_ow; · first | with_reducible rfl | (simp (disch := omega) only [Int.toNat_natCast, Nat.zero_add, Nat.add_assoc, Nat.reduceAdd, at0 h2, at1 h2, at2 h2, at3 h2, en1, en2, de, tk1, hle, bytesOf_enc, beq_self_eq_true, Bool.not_true, Bool.and_true, hw]; done) | (simp (disch := omega) only [Int.toNat_natCast, Nat.zero_add, Nat.add_assoc, Nat.reduceAdd, at0 h2, at1 h2, at2 h2, at3 h2, en1, en2, de, tk1, hle, bytesOf_enc, beq_self_eq_true, Bool.not_true, Bool.and_true, hw]; with_reducible rfl))
        | (with_reducible apply go_ls; · first | with_reducible rfl | (simp (disch := omega) only [Int.toNat_natCast, Nat.zero_add, Nat.add_assoc, Nat.reduceAdd, at0 h2, at1 h2, at2 h2, at3 h2, en1, en2, de, tk1, hle, bytesOf_enc, beq_self_eq_true, Bool.not_true, Bool.and_true, hw]; done) | (simp (disch := omega) only [Int.toNat_natCast, Nat.zero_add, Nat.add_assoc, Nat.reduceAdd, at0 h2, at1 h2, at2 h2, at3 h2, en1, en2, de, tk1, hle, bytesOf_enc, beq_self_eq_true, Bool.not_true, Bool.and_true, hw]; with_reducible rfl))
        | (with_reducible apply go_agg; · first | with_reducible rfl | (simp (disch := omega) only [Int.toNat_natCast, Nat.zero_add, Nat.add_assoc, Nat.reduceAdd, at0 h2, at1 h2, at2 h2, at3 h2, en1, en2, de, tk1, hle, bytesOf_enc, beq_self_eq_true, Bool.not_true, Bool.and_true, hw]; done) | (simp (disch := omega) only [Int.toNat_natCast, Nat.zero_add, Nat.add_assoc, Nat.reduceAdd, at0 h2, at1 h2, at2 h2, at3 h2, en1, en2, de, tk1, hle, bytesOf_enc, beq_self_eq_true, Bool.not_true, Bool.and_true, hw]; with_reducible rfl))
        | (with_reducible apply go_opt; · first | with_reducible rfl | (simp (disch := omega) only [Int.toNat_natCast, Nat.zero_add, Nat.add_assoc, Nat.reduceAdd, at0 h2, at1 h2, at2 h2, at3 h2, en1, en2, de, tk1, hle, bytesOf_enc, beq_self_eq_true, Bool.not_true, Bool.and_true, hw]; done) | (simp (disch := omega) only [Int.toNat_natCast, Nat.zero_add, Nat.add_assoc, Nat.reduceAdd, at0 h2, at1 h2, at2 h2, at3 h2, en1, en2, de, tk1, hle, bytesOf_enc, beq_self_eq_true, Bool.not_true, Bool.and_true, hw]; with_reducible rfl))
        | (with_reducible apply go_chk; · first | with_reducible rfl | omega | (simp (disch := omega) only [Bool.and_eq_true, decide_eq_true_eq, beq_iff_eq, bne_iff_ne, Bool.not_eq_true', true_and, and_true, Int.toNat_natCast, Nat.zero_add, Nat.add_assoc, Nat.reduceAdd, at0 h2, at1 h2, at2 h2, at3 h2, en1, en2, de, tk1, hle, bytesOf_enc, beq_self_eq_true, Bool.not_true, Bool.and_true, hw]; done) | (simp (disch := omega) only [Bool.and_eq_true, decide_eq_true_eq, beq_iff_eq, bne_iff_ne, ne_eq, Bool.not_eq_true', true_and, and_true, Int.toNat_natCast, Nat.zero_add, Nat.add_assoc, Nat.reduceAdd, at0 h2, at1 h2, at2 h2, at3 h2, en1, en2, de, tk1, hle, bytesOf_enc, beq_self_eq_true, Bool.not_true, Bool.and_true, hw] <;> omega))
        | (with_reducible apply go_call; · first | with_reducible rfl | (simp (disch := omega) only [Int.toNat_natCast, Nat.zero_add, Nat.add_assoc, Nat.reduceAdd, at0 h2, at1 h2, at2 h2, at3 h2, en1, en2, de, tk1, hle, bytesOf_enc, beq_self_eq_true, Bool.not_true, Bool.and_true, hw]; done) | (simp (disch := omega) only [Int.toNat_natCast, Nat.zero_add, Nat.add_assoc, Nat.reduceAdd, at0 h2, at1 h2, at2 h2, at3 h2, en1, en2, de, tk1, hle, bytesOf_enc, beq_self_eq_true, Bool.not_true, Bool.and_true, hw]; with_reducible rfl))
        | (with_reducible apply go_brT; · first | with_reducible rfl | omega | (simp (disch := omega) only [Bool.and_eq_true, decide_eq_true_eq, beq_iff_eq, bne_iff_ne, Bool.not_eq_true', true_and, and_true, Int.toNat_natCast, Nat.zero_add, Nat.add_assoc, Nat.reduceAdd, at0 h2, at1 h2, at2 h2, at3 h2, en1, en2, de, tk1, hle, bytesOf_enc, beq_self_eq_true, Bool.not_true, Bool.and_true, hw]; done) | (simp (disch := omega) only [Bool.and_eq_true, decide_eq_true_eq, beq_iff_eq, bne_iff_ne, ne_eq, Bool.not_eq_true', true_and, and_true, Int.toNat_natCast, Nat.zero_add, Nat.add_assoc, Nat.reduceAdd, at0 h2, at1 h2, at2 h2, at3 h2, en1, en2, de, tk1, hle, bytesOf_enc, beq_self_eq_true, Bool.not_true, Bool.and_true, hw] <;> omega))
        | (with_reducible apply go_brF; · first | with_reducible rfl | (simp (disch := omega) only [decide_eq_false_iff_not, beq_eq_false_iff_ne, bne_eq_false_iff_eq, Bool.not_eq_false', Int.toNat_natCast, Nat.zero_add, Nat.add_assoc, Nat.reduceAdd, at0 h2, at1 h2, at2 h2, at3 h2, en1, en2, de, tk1, hle, bytesOf_enc, beq_self_eq_true, Bool.not_true, Bool.and_true, hw]; done) | (simp (disch := omega) only [decide_eq_false_iff_not, beq_eq_false_iff_ne, bne_eq_false_iff_eq, ne_eq, Bool.not_eq_false', Int.toNat_natCast, Nat.zero_add, Nat.add_assoc, Nat.reduceAdd, at0 h2, at1 h2, at2 h2, at3 h2, en1, en2, de, tk1, hle, bytesOf_enc, beq_self_eq_true, Bool.not_true, Bool.and_true, hw] <;> omega))
      try simp (disch := omega) only [Int.toNat_natCast, Nat.zero_add, Nat.add_assoc, Nat.reduceAdd, at0 h2, at1 h2, at2 h2, at3 h2, en1, en2, de, tk1, hle, bytesOf_enc, beq_self_eq_true, Bool.not_true, Bool.and_true, hw]
      exact ih
end

theorem kk_Lease2 : isAggB Try.prog 46 = true := by kernel_rfl

theorem leaseCodes_plain (qs : List PV) (h : All2 (WTv Try.prog) [46, 23, 47] qs) : ∃ C fu d, pcall C Try.prog fu d F_passkeylaw10_LeaseCodes qs = some ⟨[.sc (.bool true)], []⟩ := by
  obtain ⟨q0, _, rfl, h0, g⟩ := h.cons_inv
  obtain ⟨q1, _, rfl, h1, g⟩ := g.cons_inv
  obtain ⟨q2, _, rfl, h2, g⟩ := g.cons_inv
  obtain rfl := g.nil_inv
  clear h
  obtain ⟨ps, rfl, k0⟩ := wtv_agg kk_Lease2 h0
  obtain ⟨rs, rfl, k1⟩ := ki_st kk_Lease k0
  obtain ⟨r0, _, rfl, g0, k2⟩ := k1.cons_inv
  obtain ⟨r1, _, rfl, g1, k3⟩ := k2.cons_inv
  obtain ⟨r2, _, rfl, g2, k4⟩ := k3.cons_inv
  obtain ⟨r3, _, rfl, g3, k5⟩ := k4.cons_inv
  obtain rfl := k5.nil_inv
  obtain ⟨a, rfl, wa⟩ := ki_int kk_u64 g0
  obtain ⟨b, rfl, _⟩ := ki_int kk_int g1
  obtain ⟨c, rfl, _⟩ := ki_int kk_int g2
  obtain ⟨e, rfl, _⟩ := ki_int kk_int g3
  obtain ⟨m, rfl, hm, _⟩ := arg_ints (k := .i64) (e := 3) (by kernel_rfl) (by kernel_rfl) (by kernel_rfl) (by kernel_rfl) h1
  obtain ⟨bs, rfl, hb, _⟩ := arg_ints (k := .u8) (e := 5) (by kernel_rfl) (by kernel_rfl) (by kernel_rfl) (by kernel_rfl) h2
  obtain ⟨fu, hfu⟩ : ∃ fu, fu = 1000 := ⟨_, rfl⟩
  refine ⟨C0, fu, 6, ?_⟩
  have haw := awake_eq (fu := fu) (d := 0) (by omega)
  have hl : ([[PV.sc (Value.int IntKind.u64 a)], [PV.sc (Value.int IntKind.i64 b)], [PV.sc (Value.int IntKind.i64 c)], [PV.sc (Value.int IntKind.i64 e)]] : List (List PV)).flatten = [PV.sc (Value.int IntKind.u64 a), PV.sc (Value.int IntKind.i64 b), PV.sc (Value.int IntKind.i64 c), PV.sc (Value.int IntKind.i64 e)] := rfl
  rw [hl, passkeylaw10_LeaseCodes_e]
  by_cases h100 : 100 < bs.length
  · simp (disch := omega) only [nd_call, nd_nil, nd_cons, nd_bool, nd_str, nd_int, nd_any, nd_ls, nd_ow, nd_agg, nd_opt, nd_share, nd_chk, nd_chkd, nd_chka, nd_brT, nd_brF, nd_brt, nd_brf, nd_both, Bool.not_true, Bool.not_false, Bool.false_eq_true, if_true, if_false, Bool.true_and, Bool.and_true, Bool.false_and, Bool.and_false, decide_true, decide_false, haw]
  · obtain ⟨x, ⟨hx, hwd⟩, hmd⟩ := made_eq2 (fu := fu) (d := 4) (by omega) hm
    have hwa : (⟨a, b, c, e⟩ : Ls).wd := by
      have : 0 ≤ a ∧ a ≤ 18446744073709551615 := by simpa [Lit.wf, IntKind.min, IntKind.max, IntKind.signed, IntKind.bits] using wa
      exact this
    have hlen : (x ++ [(⟨a, b, c, e⟩ : Ls)]).length = x.length + 1 := by simp
    have hc := codes_loop (d := 0) (fu := fu) (a0 := a) (a1 := b) (a2 := c) (a3 := e) (n1 := m.length) (n2 := bs.length) (c1 := encI .i64 m) (c2 := encI .u8 bs) (bs := bs) (by omega) (by omega) (ys := x ++ [⟨a, b, c, e⟩]) (by omega) (by
      intro y hy
      rcases List.mem_append.1 hy with hy | hy
      · exact hwd y hy
      · rw [List.mem_singleton.1 hy]; exact hwa) _ 0 fu rfl (by rw [List.drop_zero]; omega)
    rw [hlen] at hc
    simp (disch := omega) only [nd_call, nd_nil, nd_cons, nd_bool, nd_str, nd_int, nd_any, nd_ls, nd_ow, nd_agg, nd_opt, nd_share, nd_chk, nd_chkd, nd_chka, nd_brT, nd_brF, nd_brt, nd_brf, nd_both, Bool.not_true, Bool.not_false, Bool.false_eq_true, if_true, if_false, Bool.true_and, Bool.and_true, Bool.false_and, Bool.and_false, decide_true, decide_false, hmd, encL_len, tk', app_enc ⟨a, b, c, e⟩]
    exact hc

end Go.Proofs.Ytoidbofkmflocaa.Pv
