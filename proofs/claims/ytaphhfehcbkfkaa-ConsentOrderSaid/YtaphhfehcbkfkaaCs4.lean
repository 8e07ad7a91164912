/-
  Consent: the law ConsentWindow.
-/
import Derived.Test.YtaphhfehcbkfkaaCs3
set_option linter.unusedSimpArgs false
set_option linter.unusedVariables false
namespace Go.Proofs.Ytaphhfehcbkfkaa.Pv

theorem rowsG_out {g : Ge} {x : List Ge} : ∀ (k : Nat) (a : Int), (g.tm < a ∨ a + k ≤ g.tm) → rowsG a k (g :: x) = rowsG a k x
  | 0, a, _ => rfl
  | k + 1, a, h => by
    rw [rowsG, rowsG, rowsG_out k (a + 1) (by omega), List.filter_cons, if_neg (by simp; omega)]

theorem awaitE_rows {now : Int} {fi vf : Bool} {x y : List Ge} (h : rowsG (now + 1) (endE now - now).toNat y = rowsG (now + 1) (endE now - now).toNat x) : awaitE now fi vf y = awaitE now fi vf x := by
  unfold awaitE
  rw [h]

theorem awaitE_win (now : Int) (fi vf : Bool) (x : List Ge) : (awaitE now fi vf x).e = 0 → (awaitE now fi vf x).p = true ∧ now < (awaitE now fi vf x).t ∧ (awaitE now fi vf x).t ≤ now + 30 := by
  unfold awaitE
  by_cases h0 : now < 0
  · simp [h0]
  by_cases h1 : 1099511627776 < now
  · simp [h0, h1]
  by_cases h2 : vf = true ∧ fi = false
  · simp [h0, h1, h2]
  rw [if_neg h0, if_neg h1, if_neg h2]
  unfold scanE
  cases hs : (rowsG (now + 1) (endE now - now).toNat x).findSome? (decG fi vf) with
  | none => simp
  | some o =>
    obtain ⟨g, hg, hd⟩ := List.exists_of_findSome?_eq_some hs
    have hm := (rowsG_mem _ _ _ _).1 hg
    have hf := decG_facts hd
    have hE : endE now ≤ now + 30 := by unfold endE; split <;> omega
    simp only [Option.getD_some]
    intro he
    refine ⟨(hf.1 he).1, ?_, ?_⟩ <;> rw [(hf.1 he).2.1] <;> omega

theorem iandu {a m : Int} (h0 : 0 ≤ m) (h1 : m < 65536) : 0 ≤ iand .u16 a m ∧ iand .u16 a m ≤ m := by
  have hle : (BitVec.ofInt 16 a &&& BitVec.ofInt 16 m).toNat ≤ m.toNat := by
    rw [BitVec.toNat_and]
    refine Nat.le_trans Nat.and_le_right ?_
    rw [BitVec.toNat_ofInt]
    omega
  have : iand .u16 a m = ((BitVec.ofInt 16 a &&& BitVec.ofInt 16 m).toNat : Int) := by
    show IntKind.wrap .u16 ((BitVec.ofInt 16 a &&& BitVec.ofInt 16 m).toNat : Int) = _
    generalize (BitVec.ofInt 16 a &&& BitVec.ofInt 16 m).toNat = z at hle
    simp only [IntKind.wrap, IntKind.signed, IntKind.bits]
    simp
    omega
  rw [this]
  omega

section
variable {fu : Nat}
theorem wnd_loop (hfu : 1000 < fu) {a0 s : Int} {b1 b2 fi vf : Bool} {n n4 : Nat} {c c4 : List PV} {m : List Int} {x : List Ge} (hx : x.length ≤ 8) (hs : 0 ≤ s ∧ s ≤ 65535) : ∀ (k nn i : Nat) (y : List Ge), 8 - i = k → k < nn → i ≤ 8 → i ≤ m.length → y.length ≤ 8 + i → rowsG (s + 1) (endE s - s).toNat y = rowsG (s + 1) (endE s - s).toNat x →
    passkeylaw13_ConsentWindow_L0 fu (pcall C0 Try.prog fu 109) a0 b1 b2 n c n4 c4 nn s fi vf m.length (encI .u16 m) x.length y.length i (encG x) (encG y) = some ⟨[.sc (.bool true)], []⟩
  | _, 0, _, _, _, h, _, _, _, _ => by omega
  | k, nn + 1, i, y, hk, hn, h8, hm, hy, hr => by
    have ws : IntKind.wrap .i64 s = s := wrap_i64 (by omega) (by omega)
    have w30 : IntKind.wrap .i64 (s + 30) = s + 30 := wrap_i64 (by omega) (by omega)
    have aw := awake_eq (fu := fu) (d := 0) hfu
    have k1 := await_eq (fu := fu) (d := 1) hfu (l := x) (by omega) s fi vf
    have k2 := await_eq (fu := fu) (d := 1) hfu (l := y) (by omega) s fi vf
    rw [awaitE_rows hr] at k2
    have fc := awaitE_win s fi vf x
    have t1 : List.take (x.length * 2) (List.drop 0 (encG x)) = encG x := List.take_of_length_le (by rw [List.drop_zero, encG_len]; omega)
    have t2 : List.take (y.length * 2) (List.drop 0 (encG y)) = encG y := List.take_of_length_le (by rw [List.drop_zero, encG_len]; omega)
    have L1 := encG_len x
    have L2 := encG_len y
    rw [passkeylaw13_ConsentWindow_L0_s]
    by_cases c1 : i < m.length
    · by_cases c2 : i < 8
      · obtain ⟨z, hz⟩ : ∃ z, m[i]? = some z := ⟨_, List.getElem?_eq_getElem c1⟩
        have w : IntKind.wrap .i64 ((i : Int) + 1) = ((i + 1 : Nat) : Int) := by rw [wrap_i64 (by omega) (by omega)]; omega
        have b1' := iandu (a := ishr .u16 z 4) (m := 63) (by omega) (by omega)
        have ih := fun (g : Ge) (hg : g.tm < s + 1 ∨ s + 1 + ((endE s - s).toNat : Int) ≤ g.tm) => wnd_loop (a0 := a0) (s := s) (b1 := b1) (b2 := b2) (fi := fi) (vf := vf) (n := n) (n4 := n4) (c := c) (c4 := c4) (m := m) (x := x) hfu hx hs (k - 1) nn (i + 1) (g :: y) (by omega) (by omega) (by omega) (by omega) (by simp; omega) ((rowsG_out _ _ hg).trans hr)
        have eL : ∀ g : Ge, (g :: y).length = 1 + y.length := by intro g; simp; omega
        simp only [eL, encG_cons] at ih
        have wa : IntKind.wrap .i64 (iand .u16 (ishr .u16 z 4) 63) = iand .u16 (ishr .u16 z 4) 63 := wrap_i64 (by omega) (by omega)
        have hE : endE s ≤ s + 30 := by unfold endE; split <;> omega
        have ap : ∀ l : List PV, List.append [] l = l := fun l => rfl
        have w31 : IntKind.wrap .i64 (s + 30 + 1) = s + 30 + 1 := wrap_i64 (by omega) (by omega)
        have wb : IntKind.wrap .i64 (s + 30 + 1 + iand .u16 (ishr .u16 z 4) 63) = s + 30 + 1 + iand .u16 (ishr .u16 z 4) 63 := wrap_i64 (by omega) (by omega)
        have wc : IntKind.wrap .i64 (s - iand .u16 (ishr .u16 z 4) 63) = s - iand .u16 (ishr .u16 z 4) 63 := wrap_i64 (by omega) (by omega)
        by_cases hb : iand .u16 (ishr .u16 z 3) 1 = 1
        · have ih := ih ⟨s + 30 + 1 + iand .u16 (ishr .u16 z 4) 63, IntKind.wrap .i64 (Int.tmod z 7)⟩ (.inr (by simp only; omega))
          simp only at ih
          try unfold shareK
          repeat first
            | (with_reducible apply go_nil; · with_reducible rfl)
            | (with_reducible apply go_cons; · with_reducible rfl)
            | (with_reducible apply go_int; · first | with_reducible rfl | (simp (disch := omega) only [Int.toNat_natCast, Nat.mul_one, ati hz, t2, w, hb, ws, ap, w30, w31, wa, wb, wc]; done) | (simp (disch := omega) only [Int.toNat_natCast, Nat.mul_one, ati hz, t2, w, hb, ws, ap, w30, w31, wa, wb, wc]; with_reducible rfl))
            | (with_reducible apply go_bool; · first | with_reducible rfl | (simp (disch := omega) only [Int.toNat_natCast, Nat.mul_one, ati hz, t2, w, hb, ws, ap, w30, w31, wa, wb, wc]; done) | (simp (disch := omega) only [Int.toNat_natCast, Nat.mul_one, ati hz, t2, w, hb, ws, ap, w30, w31, wa, wb, wc]; with_reducible rfl))
            | (with_reducible apply go_str; · first | with_reducible rfl | (simp (disch := omega) only [Int.toNat_natCast, Nat.mul_one, ati hz, t2, w, hb, ws, ap, w30, w31, wa, wb, wc]; done) | (simp (disch := omega) only [Int.toNat_natCast, Nat.mul_one, ati hz, t2, w, hb, ws, ap, w30, w31, wa, wb, wc]; with_reducible rfl))
            | (with_reducible apply go_any; · first | with_reducible rfl | (simp (disch := omega) only [Int.toNat_natCast, Nat.mul_one, ati hz, t2, w, hb, ws, ap, w30, w31, wa, wb, wc]; done) | (simp (disch := omega) only [Int.toNat_natCast, Nat.mul_one, ati hz, t2, w, hb, ws, ap, w30, w31, wa, wb, wc]; with_reducible rfl))
            | (with_reducible apply go_ow; · first | with_reducible rfl | (simp (disch := omega) only [Int.toNat_natCast, Nat.mul_one, ati hz, t2, w, hb, ws, ap, w30, w31, wa, wb, wc]; done) | (simp (disch := omega) only [Int.toNat_natCast, Nat.mul_one, ati hz, t2, w, hb, ws, ap, w30, w31, wa, wb, wc]; with_reducible rfl))
            | (with_reducible apply go_ls; · first | with_reducible rfl | (simp (disch := omega) only [Int.toNat_natCast, Nat.mul_one, ati hz, t2, w, hb, ws, ap, w30, w31, wa, wb, wc]; done) | (simp (disch := omega) only [Int.toNat_natCast, Nat.mul_one, ati hz, t2, w, hb, ws, ap, w30, w31, wa, wb, wc]; with_reducible rfl))
            | (with_reducible apply go_agg; · first | with_reducible rfl | (simp (disch := omega) only [Int.toNat_natCast, Nat.mul_one, ati hz, t2, w, hb, ws, ap, w30, w31, wa, wb, wc]; done) | (simp (disch := omega) only [Int.toNat_natCast, Nat.mul_one, ati hz, t2, w, hb, ws, ap, w30, w31, wa, wb, wc]; with_reducible rfl))
            | (with_reducible apply go_pbox; · first | with_reducible rfl | (simp (disch := omega) only [Int.toNat_natCast, Nat.mul_one, ati hz, t2, w, hb, ws, ap, w30, w31, wa, wb, wc]; done) | (simp (disch := omega) only [Int.toNat_natCast, Nat.mul_one, ati hz, t2, w, hb, ws, ap, w30, w31, wa, wb, wc]; with_reducible rfl))
            | (with_reducible apply go_opt; · first | with_reducible rfl | (simp (disch := omega) only [Int.toNat_natCast, Nat.mul_one, ati hz, t2, w, hb, ws, ap, w30, w31, wa, wb, wc]; done) | (simp (disch := omega) only [Int.toNat_natCast, Nat.mul_one, ati hz, t2, w, hb, ws, ap, w30, w31, wa, wb, wc]; with_reducible rfl))
            | (with_reducible apply go_chk; · first | with_reducible rfl | omega | (simp (disch := omega) only [Bool.and_eq_true, decide_eq_true_eq, beq_iff_eq, bne_iff_ne, Bool.not_eq_true', true_and, and_true, Int.toNat_natCast, Nat.mul_one, ati hz, t2, w, hb, ws, ap, w30, w31, wa, wb, wc]; done) | (simp (disch := omega) only [Bool.and_eq_true, decide_eq_true_eq, beq_iff_eq, bne_iff_ne, ne_eq, Bool.not_eq_true', true_and, and_true, Int.toNat_natCast, Nat.mul_one, ati hz, t2, w, hb, ws, ap, w30, w31, wa, wb, wc] <;> omega))
            | (with_reducible apply go_call; · first | with_reducible rfl | (simp (disch := omega) only [Int.toNat_natCast, Nat.mul_one, ati hz, t2, w, hb, ws, ap, w30, w31, wa, wb, wc]; done) | (simp (disch := omega) only [Int.toNat_natCast, Nat.mul_one, ati hz, t2, w, hb, ws, ap, w30, w31, wa, wb, wc]; with_reducible rfl))
            | (with_reducible apply go_brT; · first | with_reducible rfl | omega | (simp (disch := omega) only [Bool.and_eq_true, decide_eq_true_eq, beq_iff_eq, bne_iff_ne, Bool.not_eq_true', true_and, and_true, Int.toNat_natCast, Nat.mul_one, ati hz, t2, w, hb, ws, ap, w30, w31, wa, wb, wc]; done) | (simp (disch := omega) only [Bool.and_eq_true, decide_eq_true_eq, beq_iff_eq, bne_iff_ne, ne_eq, Bool.not_eq_true', true_and, and_true, Int.toNat_natCast, Nat.mul_one, ati hz, t2, w, hb, ws, ap, w30, w31, wa, wb, wc] <;> omega))
            | (with_reducible apply go_brF; · first | with_reducible rfl | (simp (disch := omega) only [decide_eq_false_iff_not, beq_eq_false_iff_ne, bne_eq_false_iff_eq, Bool.not_eq_false', Int.toNat_natCast, Nat.mul_one, ati hz, t2, w, hb, ws, ap, w30, w31, wa, wb, wc]; done) | (simp (disch := omega) only [decide_eq_false_iff_not, beq_eq_false_iff_ne, bne_eq_false_iff_eq, ne_eq, Bool.not_eq_false', Int.toNat_natCast, Nat.mul_one, ati hz, t2, w, hb, ws, ap, w30, w31, wa, wb, wc] <;> omega))
          try simp (disch := omega) only [Int.toNat_natCast, Nat.mul_one, ati hz, t2, w, hb, ws, ap, w30, w31, wa, wb, wc]
          exact ih
        · have ih := ih ⟨s - iand .u16 (ishr .u16 z 4) 63, IntKind.wrap .i64 (Int.tmod z 7)⟩ (.inl (by simp only; omega))
          simp only at ih
          have hb' : (iand .u16 (ishr .u16 z 3) 1 == 1) = false := beq_eq_false_iff_ne.2 hb
          try unfold shareK
          repeat first
            | (with_reducible apply go_nil; · with_reducible rfl)
            | (with_reducible apply go_cons; · with_reducible rfl)
            | (with_reducible apply go_int; · first | with_reducible rfl | (simp (disch := omega) only [Int.toNat_natCast, Nat.mul_one, ati hz, t2, w, hb', ws, ap, w30, w31, wa, wb, wc]; done) | (simp (disch := omega) only [Int.toNat_natCast, Nat.mul_one, ati hz, t2, w, hb', ws, ap, w30, w31, wa, wb, wc]; with_reducible rfl))
            | (with_reducible apply go_bool; · first | with_reducible rfl | (simp (disch := omega) only [Int.toNat_natCast, Nat.mul_one, ati hz, t2, w, hb', ws, ap, w30, w31, wa, wb, wc]; done) | (simp (disch := omega) only [Int.toNat_natCast, Nat.mul_one, ati hz, t2, w, hb', ws, ap, w30, w31, wa, wb, wc]; with_reducible rfl))
            | (with_reducible apply go_str; · first | with_reducible rfl | (simp (disch := omega) only [Int.toNat_natCast, Nat.mul_one, ati hz, t2, w, hb', ws, ap, w30, w31, wa, wb, wc]; done) | (simp (disch := omega) only [Int.toNat_natCast, Nat.mul_one, ati hz, t2, w, hb', ws, ap, w30, w31, wa, wb, wc]; with_reducible rfl))
            | (with_reducible apply go_any; · first | with_reducible rfl | (simp (disch := omega) only [Int.toNat_natCast, Nat.mul_one, ati hz, t2, w, hb', ws, ap, w30, w31, wa, wb, wc]; done) | (simp (disch := omega) only [Int.toNat_natCast, Nat.mul_one, ati hz, t2, w, hb', ws, ap, w30, w31, wa, wb, wc]; with_reducible rfl))
            | (with_reducible apply go_ow; · first | with_reducible rfl | (simp (disch := omega) only [Int.toNat_natCast, Nat.mul_one, ati hz, t2, w, hb', ws, ap, w30, w31, wa, wb, wc]; done) | (simp (disch := omega) only [Int.toNat_natCast, Nat.mul_one, ati hz, t2, w, hb', ws, ap, w30, w31, wa, wb, wc]; with_reducible rfl))
            | (with_reducible apply go_ls; · first | with_reducible rfl | (simp (disch := omega) only [Int.toNat_natCast, Nat.mul_one, ati hz, t2, w, hb', ws, ap, w30, w31, wa, wb, wc]; done) | (simp (disch := omega) only [Int.toNat_natCast, Nat.mul_one, ati hz, t2, w, hb', ws, ap, w30, w31, wa, wb, wc]; with_reducible rfl))
            | (with_reducible apply go_agg; · first | with_reducible rfl | (simp (disch := omega) only [Int.toNat_natCast, Nat.mul_one, ati hz, t2, w, hb', ws, ap, w30, w31, wa, wb, wc]; done) | (simp (disch := omega) only [Int.toNat_natCast, Nat.mul_one, ati hz, t2, w, hb', ws, ap, w30, w31, wa, wb, wc]; with_reducible rfl))
            | (with_reducible apply go_pbox; · first | with_reducible rfl | (simp (disch := omega) only [Int.toNat_natCast, Nat.mul_one, ati hz, t2, w, hb', ws, ap, w30, w31, wa, wb, wc]; done) | (simp (disch := omega) only [Int.toNat_natCast, Nat.mul_one, ati hz, t2, w, hb', ws, ap, w30, w31, wa, wb, wc]; with_reducible rfl))
            | (with_reducible apply go_opt; · first | with_reducible rfl | (simp (disch := omega) only [Int.toNat_natCast, Nat.mul_one, ati hz, t2, w, hb', ws, ap, w30, w31, wa, wb, wc]; done) | (simp (disch := omega) only [Int.toNat_natCast, Nat.mul_one, ati hz, t2, w, hb', ws, ap, w30, w31, wa, wb, wc]; with_reducible rfl))
            | (with_reducible apply go_chk; · first | with_reducible rfl | omega | (simp (disch := omega) only [Bool.and_eq_true, decide_eq_true_eq, beq_iff_eq, bne_iff_ne, Bool.not_eq_true', true_and, and_true, Int.toNat_natCast, Nat.mul_one, ati hz, t2, w, hb', ws, ap, w30, w31, wa, wb, wc]; done) | (simp (disch := omega) only [Bool.and_eq_true, decide_eq_true_eq, beq_iff_eq, bne_iff_ne, ne_eq, Bool.not_eq_true', true_and, and_true, Int.toNat_natCast, Nat.mul_one, ati hz, t2, w, hb', ws, ap, w30, w31, wa, wb, wc] <;> omega))
            | (with_reducible apply go_call; · first | with_reducible rfl | (simp (disch := omega) only [Int.toNat_natCast, Nat.mul_one, ati hz, t2, w, hb', ws, ap, w30, w31, wa, wb, wc]; done) | (simp (disch := omega) only [Int.toNat_natCast, Nat.mul_one, ati hz, t2, w, hb', ws, ap, w30, w31, wa, wb, wc]; with_reducible rfl))
            | (with_reducible apply go_brT; · first | with_reducible rfl | omega | (simp (disch := omega) only [Bool.and_eq_true, decide_eq_true_eq, beq_iff_eq, bne_iff_ne, Bool.not_eq_true', true_and, and_true, Int.toNat_natCast, Nat.mul_one, ati hz, t2, w, hb', ws, ap, w30, w31, wa, wb, wc]; done) | (simp (disch := omega) only [Bool.and_eq_true, decide_eq_true_eq, beq_iff_eq, bne_iff_ne, ne_eq, Bool.not_eq_true', true_and, and_true, Int.toNat_natCast, Nat.mul_one, ati hz, t2, w, hb', ws, ap, w30, w31, wa, wb, wc] <;> omega))
            | (with_reducible apply go_brF; · first | with_reducible rfl | (simp (disch := omega) only [decide_eq_false_iff_not, beq_eq_false_iff_ne, bne_eq_false_iff_eq, Bool.not_eq_false', Int.toNat_natCast, Nat.mul_one, ati hz, t2, w, hb', ws, ap, w30, w31, wa, wb, wc]; done) | (simp (disch := omega) only [decide_eq_false_iff_not, beq_eq_false_iff_ne, bne_eq_false_iff_eq, ne_eq, Bool.not_eq_false', Int.toNat_natCast, Nat.mul_one, ati hz, t2, w, hb', ws, ap, w30, w31, wa, wb, wc] <;> omega))
          try simp (disch := omega) only [Int.toNat_natCast, Nat.mul_one, ati hz, t2, w, hb', ws, ap, w30, w31, wa, wb, wc]
          exact ih
      · generalize awaitE s fi vf x = o at k1 k2 fc
        obtain ⟨p, v, t, e⟩ := o
        simp only [Out4.res] at k1 k2 fc
        by_cases he : e = 0
        · obtain ⟨f1, f2, f3⟩ := fc he
          subst he f1
          try unfold shareK
          repeat first
            | (with_reducible apply go_nil; · with_reducible rfl)
            | (with_reducible apply go_cons; · with_reducible rfl)
            | (with_reducible apply go_int; · first | with_reducible rfl | (simp (disch := omega) only [ws, w30, t1, t2, k1, k2, aw, beq_self_eq_true, Bool.and_true]; done) | (simp (disch := omega) only [ws, w30, t1, t2, k1, k2, aw, beq_self_eq_true, Bool.and_true]; with_reducible rfl))
            | (with_reducible apply go_bool; · first | with_reducible rfl | (simp (disch := omega) only [ws, w30, t1, t2, k1, k2, aw, beq_self_eq_true, Bool.and_true]; done) | (simp (disch := omega) only [ws, w30, t1, t2, k1, k2, aw, beq_self_eq_true, Bool.and_true]; with_reducible rfl))
            | (with_reducible apply go_str; · first | with_reducible rfl | (simp (disch := omega) only [ws, w30, t1, t2, k1, k2, aw, beq_self_eq_true, Bool.and_true]; done) | (simp (disch := omega) only [ws, w30, t1, t2, k1, k2, aw, beq_self_eq_true, Bool.and_true]; with_reducible rfl))
            | (with_reducible apply go_any; · first | with_reducible rfl | (simp (disch := omega) only [ws, w30, t1, t2, k1, k2, aw, beq_self_eq_true, Bool.and_true]; done) | (simp (disch := omega) only [ws, w30, t1, t2, k1, k2, aw, beq_self_eq_true, Bool.and_true]; with_reducible rfl))
            | (with_reducible apply go_ow; · first | with_reducible rfl | (simp (disch := omega) only [ws, w30, t1, t2, k1, k2, aw, beq_self_eq_true, Bool.and_true]; done) | (simp (disch := omega) only [ws, w30, t1, t2, k1, k2, aw, beq_self_eq_true, Bool.and_true]; with_reducible rfl))
            | (with_reducible apply go_ls; · first | with_reducible rfl | (simp (disch := omega) only [ws, w30, t1, t2, k1, k2, aw, beq_self_eq_true, Bool.and_true]; done) | (simp (disch := omega) only [ws, w30, t1, t2, k1, k2, aw, beq_self_eq_true, Bool.and_true]; with_reducible rfl))
            | (with_reducible apply go_agg; · first | with_reducible rfl | (simp (disch := omega) only [ws, w30, t1, t2, k1, k2, aw, beq_self_eq_true, Bool.and_true]; done) | (simp (disch := omega) only [ws, w30, t1, t2, k1, k2, aw, beq_self_eq_true, Bool.and_true]; with_reducible rfl))
            | (with_reducible apply go_pbox; · first | with_reducible rfl | (simp (disch := omega) only [ws, w30, t1, t2, k1, k2, aw, beq_self_eq_true, Bool.and_true]; done) | (simp (disch := omega) only [ws, w30, t1, t2, k1, k2, aw, beq_self_eq_true, Bool.and_true]; with_reducible rfl))
            | (with_reducible apply go_opt; · first | with_reducible rfl | (simp (disch := omega) only [ws, w30, t1, t2, k1, k2, aw, beq_self_eq_true, Bool.and_true]; done) | (simp (disch := omega) only [ws, w30, t1, t2, k1, k2, aw, beq_self_eq_true, Bool.and_true]; with_reducible rfl))
            | (with_reducible apply go_chk; · first | with_reducible rfl | omega | (simp (disch := omega) only [Bool.and_eq_true, decide_eq_true_eq, beq_iff_eq, bne_iff_ne, Bool.not_eq_true', true_and, and_true, ws, w30, t1, t2, k1, k2, aw, beq_self_eq_true, Bool.and_true]; done) | (simp (disch := omega) only [Bool.and_eq_true, decide_eq_true_eq, beq_iff_eq, bne_iff_ne, ne_eq, Bool.not_eq_true', true_and, and_true, ws, w30, t1, t2, k1, k2, aw, beq_self_eq_true, Bool.and_true] <;> omega))
            | (with_reducible apply go_call; · first | with_reducible rfl | (simp (disch := omega) only [ws, w30, t1, t2, k1, k2, aw, beq_self_eq_true, Bool.and_true]; done) | (simp (disch := omega) only [ws, w30, t1, t2, k1, k2, aw, beq_self_eq_true, Bool.and_true]; with_reducible rfl))
            | (with_reducible apply go_brT; · first | with_reducible rfl | omega | (simp (disch := omega) only [Bool.and_eq_true, decide_eq_true_eq, beq_iff_eq, bne_iff_ne, Bool.not_eq_true', true_and, and_true, ws, w30, t1, t2, k1, k2, aw, beq_self_eq_true, Bool.and_true]; done) | (simp (disch := omega) only [Bool.and_eq_true, decide_eq_true_eq, beq_iff_eq, bne_iff_ne, ne_eq, Bool.not_eq_true', true_and, and_true, ws, w30, t1, t2, k1, k2, aw, beq_self_eq_true, Bool.and_true] <;> omega))
            | (with_reducible apply go_brF; · first | with_reducible rfl | (simp (disch := omega) only [decide_eq_false_iff_not, beq_eq_false_iff_ne, bne_eq_false_iff_eq, Bool.not_eq_false', ws, w30, t1, t2, k1, k2, aw, beq_self_eq_true, Bool.and_true]; done) | (simp (disch := omega) only [decide_eq_false_iff_not, beq_eq_false_iff_ne, bne_eq_false_iff_eq, ne_eq, Bool.not_eq_false', ws, w30, t1, t2, k1, k2, aw, beq_self_eq_true, Bool.and_true] <;> omega))
          try simp (disch := omega) only [ws, w30, t1, t2, k1, k2, aw, beq_self_eq_true, Bool.and_true]
        · skip
          try unfold shareK
          repeat first
            | (with_reducible apply go_nil; · with_reducible rfl)
            | (with_reducible apply go_cons; · with_reducible rfl)
            | (with_reducible apply go_int; · first | with_reducible rfl | (simp (disch := omega) only [ws, w30, t1, t2, k1, k2, aw, beq_self_eq_true, Bool.and_true]; done) | (simp (disch := omega) only [ws, w30, t1, t2, k1, k2, aw, beq_self_eq_true, Bool.and_true]; with_reducible rfl))
            | (with_reducible apply go_bool; · first | with_reducible rfl | (simp (disch := omega) only [ws, w30, t1, t2, k1, k2, aw, beq_self_eq_true, Bool.and_true]; done) | (simp (disch := omega) only [ws, w30, t1, t2, k1, k2, aw, beq_self_eq_true, Bool.and_true]; with_reducible rfl))
            | (with_reducible apply go_str; · first | with_reducible rfl | (simp (disch := omega) only [ws, w30, t1, t2, k1, k2, aw, beq_self_eq_true, Bool.and_true]; done) | (simp (disch := omega) only [ws, w30, t1, t2, k1, k2, aw, beq_self_eq_true, Bool.and_true]; with_reducible rfl))
            | (with_reducible apply go_any; · first | with_reducible rfl | (simp (disch := omega) only [ws, w30, t1, t2, k1, k2, aw, beq_self_eq_true, Bool.and_true]; done) | (simp (disch := omega) only [ws, w30, t1, t2, k1, k2, aw, beq_self_eq_true, Bool.and_true]; with_reducible rfl))
            | (with_reducible apply go_ow; · first | with_reducible rfl | (simp (disch := omega) only [ws, w30, t1, t2, k1, k2, aw, beq_self_eq_true, Bool.and_true]; done) | (simp (disch := omega) only [ws, w30, t1, t2, k1, k2, aw, beq_self_eq_true, Bool.and_true]; with_reducible rfl))
            | (with_reducible apply go_ls; · first | with_reducible rfl | (simp (disch := omega) only [ws, w30, t1, t2, k1, k2, aw, beq_self_eq_true, Bool.and_true]; done) | (simp (disch := omega) only [ws, w30, t1, t2, k1, k2, aw, beq_self_eq_true, Bool.and_true]; with_reducible rfl))
            | (with_reducible apply go_agg; · first | with_reducible rfl | (simp (disch := omega) only [ws, w30, t1, t2, k1, k2, aw, beq_self_eq_true, Bool.and_true]; done) | (simp (disch := omega) only [ws, w30, t1, t2, k1, k2, aw, beq_self_eq_true, Bool.and_true]; with_reducible rfl))
            | (with_reducible apply go_pbox; · first | with_reducible rfl | (simp (disch := omega) only [ws, w30, t1, t2, k1, k2, aw, beq_self_eq_true, Bool.and_true]; done) | (simp (disch := omega) only [ws, w30, t1, t2, k1, k2, aw, beq_self_eq_true, Bool.and_true]; with_reducible rfl))
            | (with_reducible apply go_opt; · first | with_reducible rfl | (simp (disch := omega) only [ws, w30, t1, t2, k1, k2, aw, beq_self_eq_true, Bool.and_true]; done) | (simp (disch := omega) only [ws, w30, t1, t2, k1, k2, aw, beq_self_eq_true, Bool.and_true]; with_reducible rfl))
            | (with_reducible apply go_chk; · first | with_reducible rfl | omega | (simp (disch := omega) only [Bool.and_eq_true, decide_eq_true_eq, beq_iff_eq, bne_iff_ne, Bool.not_eq_true', true_and, and_true, ws, w30, t1, t2, k1, k2, aw, beq_self_eq_true, Bool.and_true]; done) | (simp (disch := omega) only [Bool.and_eq_true, decide_eq_true_eq, beq_iff_eq, bne_iff_ne, ne_eq, Bool.not_eq_true', true_and, and_true, ws, w30, t1, t2, k1, k2, aw, beq_self_eq_true, Bool.and_true] <;> omega))
            | (with_reducible apply go_call; · first | with_reducible rfl | (simp (disch := omega) only [ws, w30, t1, t2, k1, k2, aw, beq_self_eq_true, Bool.and_true]; done) | (simp (disch := omega) only [ws, w30, t1, t2, k1, k2, aw, beq_self_eq_true, Bool.and_true]; with_reducible rfl))
            | (with_reducible apply go_brT; · first | with_reducible rfl | omega | (simp (disch := omega) only [Bool.and_eq_true, decide_eq_true_eq, beq_iff_eq, bne_iff_ne, Bool.not_eq_true', true_and, and_true, ws, w30, t1, t2, k1, k2, aw, beq_self_eq_true, Bool.and_true]; done) | (simp (disch := omega) only [Bool.and_eq_true, decide_eq_true_eq, beq_iff_eq, bne_iff_ne, ne_eq, Bool.not_eq_true', true_and, and_true, ws, w30, t1, t2, k1, k2, aw, beq_self_eq_true, Bool.and_true] <;> omega))
            | (with_reducible apply go_brF; · first | with_reducible rfl | (simp (disch := omega) only [decide_eq_false_iff_not, beq_eq_false_iff_ne, bne_eq_false_iff_eq, Bool.not_eq_false', ws, w30, t1, t2, k1, k2, aw, beq_self_eq_true, Bool.and_true]; done) | (simp (disch := omega) only [decide_eq_false_iff_not, beq_eq_false_iff_ne, bne_eq_false_iff_eq, ne_eq, Bool.not_eq_false', ws, w30, t1, t2, k1, k2, aw, beq_self_eq_true, Bool.and_true] <;> omega))
          try simp (disch := omega) only [ws, w30, t1, t2, k1, k2, aw, beq_self_eq_true, Bool.and_true]
    · generalize awaitE s fi vf x = o at k1 k2 fc
      obtain ⟨p, v, t, e⟩ := o
      simp only [Out4.res] at k1 k2 fc
      by_cases he : e = 0
      · obtain ⟨f1, f2, f3⟩ := fc he
        subst he f1
        try unfold shareK
        repeat first
          | (with_reducible apply go_nil; · with_reducible rfl)
          | (with_reducible apply go_cons; · with_reducible rfl)
          | (with_reducible apply go_int; · first | with_reducible rfl | (simp (disch := omega) only [ws, w30, t1, t2, k1, k2, aw, beq_self_eq_true, Bool.and_true]; done) | (simp (disch := omega) only [ws, w30, t1, t2, k1, k2, aw, beq_self_eq_true, Bool.and_true]; with_reducible rfl))
          | (with_reducible apply go_bool; · first | with_reducible rfl | (simp (disch := omega) only [ws, w30, t1, t2, k1, k2, aw, beq_self_eq_true, Bool.and_true]; done) | (simp (disch := omega) only [ws, w30, t1, t2, k1, k2, aw, beq_self_eq_true, Bool.and_true]; with_reducible rfl))
          | (with_reducible apply go_str; · first | with_reducible rfl | (simp (disch := omega) only [ws, w30, t1, t2, k1, k2, aw, beq_self_eq_true, Bool.and_true]; done) | (simp (disch := omega) only [ws, w30, t1, t2, k1, k2, aw, beq_self_eq_true, Bool.and_true]; with_reducible rfl))
          | (with_reducible apply go_any; · first | with_reducible rfl | (simp (disch := omega) only [ws, w30, t1, t2, k1, k2, aw, beq_self_eq_true, Bool.and_true]; done) | (simp (disch := omega) only [ws, w30, t1, t2, k1, k2, aw, beq_self_eq_true, Bool.and_true]; with_reducible rfl))
          | (with_reducible apply go_ow; · first | with_reducible rfl | (simp (disch := omega) only [ws, w30, t1, t2, k1, k2, aw, beq_self_eq_true, Bool.and_true]; done) | (simp (disch := omega) only [ws, w30, t1, t2, k1, k2, aw, beq_self_eq_true, Bool.and_true]; with_reducible rfl))
          | (with_reducible apply go_ls; · first | with_reducible rfl | (simp (disch := omega) only [ws, w30, t1, t2, k1, k2, aw, beq_self_eq_true, Bool.and_true]; done) | (simp (disch := omega) only [ws, w30, t1, t2, k1, k2, aw, beq_self_eq_true, Bool.and_true]; with_reducible rfl))
          | (with_reducible apply go_agg; · first | with_reducible rfl | (simp (disch := omega) only [ws, w30, t1, t2, k1, k2, aw, beq_self_eq_true, Bool.and_true]; done) | (simp (disch := omega) only [ws, w30, t1, t2, k1, k2, aw, beq_self_eq_true, Bool.and_true]; with_reducible rfl))
          | (with_reducible apply go_pbox; · first | with_reducible rfl | (simp (disch := omega) only [ws, w30, t1, t2, k1, k2, aw, beq_self_eq_true, Bool.and_true]; done) | (simp (disch := omega) only [ws, w30, t1, t2, k1, k2, aw, beq_self_eq_true, Bool.and_true]; with_reducible rfl))
          | (with_reducible apply go_opt; · first | with_reducible rfl | (simp (disch := omega) only [ws, w30, t1, t2, k1, k2, aw, beq_self_eq_true, Bool.and_true]; done) | (simp (disch := omega) only [ws, w30, t1, t2, k1, k2, aw, beq_self_eq_true, Bool.and_true]; with_reducible rfl))
          | (with_reducible apply go_chk; · first | with_reducible rfl | omega | (simp (disch := omega) only [Bool.and_eq_true, decide_eq_true_eq, beq_iff_eq, bne_iff_ne, Bool.not_eq_true', true_and, and_true, ws, w30, t1, t2, k1, k2, aw, beq_self_eq_true, Bool.and_true]; done) | (simp (disch := omega) only [Bool.and_eq_true, decide_eq_true_eq, beq_iff_eq, bne_iff_ne, ne_eq, Bool.not_eq_true', true_and, and_true, ws, w30, t1, t2, k1, k2, aw, beq_self_eq_true, Bool.and_true] <;> omega))
          | (with_reducible apply go_call; · first | with_reducible rfl | (simp (disch := omega) only [ws, w30, t1, t2, k1, k2, aw, beq_self_eq_true, Bool.and_true]; done) | (simp (disch := omega) only [ws, w30, t1, t2, k1, k2, aw, beq_self_eq_true, Bool.and_true]; with_reducible rfl))
          | (with_reducible apply go_brT; · first | with_reducible rfl | omega | (simp (disch := omega) only [Bool.and_eq_true, decide_eq_true_eq, beq_iff_eq, bne_iff_ne, Bool.not_eq_true', true_and, and_true, ws, w30, t1, t2, k1, k2, aw, beq_self_eq_true, Bool.and_true]; done) | (simp (disch := omega) only [Bool.and_eq_true, decide_eq_true_eq, beq_iff_eq, bne_iff_ne, ne_eq, Bool.not_eq_true', true_and, and_true, ws, w30, t1, t2, k1, k2, aw, beq_self_eq_true, Bool.and_true] <;> omega))
          | (with_reducible apply go_brF; · first | with_reducible rfl | (simp (disch := omega) only [decide_eq_false_iff_not, beq_eq_false_iff_ne, bne_eq_false_iff_eq, Bool.not_eq_false', ws, w30, t1, t2, k1, k2, aw, beq_self_eq_true, Bool.and_true]; done) | (simp (disch := omega) only [decide_eq_false_iff_not, beq_eq_false_iff_ne, bne_eq_false_iff_eq, ne_eq, Bool.not_eq_false', ws, w30, t1, t2, k1, k2, aw, beq_self_eq_true, Bool.and_true] <;> omega))
        try simp (disch := omega) only [ws, w30, t1, t2, k1, k2, aw, beq_self_eq_true, Bool.and_true]
      · skip
        try unfold shareK
        repeat first
          | (with_reducible apply go_nil; · with_reducible rfl)
          | (with_reducible apply go_cons; · with_reducible rfl)
          | (with_reducible apply go_int; · first | with_reducible rfl | (simp (disch := omega) only [ws, w30, t1, t2, k1, k2, aw, beq_self_eq_true, Bool.and_true]; done) | (simp (disch := omega) only [ws, w30, t1, t2, k1, k2, aw, beq_self_eq_true, Bool.and_true]; with_reducible rfl))
          | (with_reducible apply go_bool; · first | with_reducible rfl | (simp (disch := omega) only [ws, w30, t1, t2, k1, k2, aw, beq_self_eq_true, Bool.and_true]; done) | (simp (disch := omega) only [ws, w30, t1, t2, k1, k2, aw, beq_self_eq_true, Bool.and_true]; with_reducible rfl))
          | (with_reducible apply go_str; · first | with_reducible rfl | (simp (disch := omega) only [ws, w30, t1, t2, k1, k2, aw, beq_self_eq_true, Bool.and_true]; done) | (simp (disch := omega) only [ws, w30, t1, t2, k1, k2, aw, beq_self_eq_true, Bool.and_true]; with_reducible rfl))
          | (with_reducible apply go_any; · first | with_reducible rfl | (simp (disch := omega) only [ws, w30, t1, t2, k1, k2, aw, beq_self_eq_true, Bool.and_true]; done) | (simp (disch := omega) only [ws, w30, t1, t2, k1, k2, aw, beq_self_eq_true, Bool.and_true]; with_reducible rfl))
          | (with_reducible apply go_ow; · first | with_reducible rfl | (simp (disch := omega) only [ws, w30, t1, t2, k1, k2, aw, beq_self_eq_true, Bool.and_true]; done) | (simp (disch := omega) only [ws, w30, t1, t2, k1, k2, aw, beq_self_eq_true, Bool.and_true]; with_reducible rfl))
          | (with_reducible apply go_ls; · first | with_reducible rfl | (simp (disch := omega) only [ws, w30, t1, t2, k1, k2, aw, beq_self_eq_true, Bool.and_true]; done) | (simp (disch := omega) only [ws, w30, t1, t2, k1, k2, aw, beq_self_eq_true, Bool.and_true]; with_reducible rfl))
          | (with_reducible apply go_agg; · first | with_reducible rfl | (simp (disch := omega) only [ws, w30, t1, t2, k1, k2, aw, beq_self_eq_true, Bool.and_true]; done) | (simp (disch := omega) only [ws, w30, t1, t2, k1, k2, aw, beq_self_eq_true, Bool.and_true]; with_reducible rfl))
          | (with_reducible apply go_pbox; · first | with_reducible rfl | (simp (disch := omega) only [ws, w30, t1, t2, k1, k2, aw, beq_self_eq_true, Bool.and_true]; done) | (simp (disch := omega) only [ws, w30, t1, t2, k1, k2, aw, beq_self_eq_true, Bool.and_true]; with_reducible rfl))
          | (with_reducible apply go_opt; · first | with_reducible rfl | (simp (disch := omega) only [ws, w30, t1, t2, k1, k2, aw, beq_self_eq_true, Bool.and_true]; done) | (simp (disch := omega) only [ws, w30, t1, t2, k1, k2, aw, beq_self_eq_true, Bool.and_true]; with_reducible rfl))
          | (with_reducible apply go_chk; · first | with_reducible rfl | omega | (simp (disch := omega) only [Bool.and_eq_true, decide_eq_true_eq, beq_iff_eq, bne_iff_ne, Bool.not_eq_true', true_and, and_true, ws, w30, t1, t2, k1, k2, aw, beq_self_eq_true, Bool.and_true]; done) | (simp (disch := omega) only [Bool.and_eq_true, decide_eq_true_eq, beq_iff_eq, bne_iff_ne, ne_eq, Bool.not_eq_true', true_and, and_true, ws, w30, t1, t2, k1, k2, aw, beq_self_eq_true, Bool.and_true] <;> omega))
          | (with_reducible apply go_call; · first | with_reducible rfl | (simp (disch := omega) only [ws, w30, t1, t2, k1, k2, aw, beq_self_eq_true, Bool.and_true]; done) | (simp (disch := omega) only [ws, w30, t1, t2, k1, k2, aw, beq_self_eq_true, Bool.and_true]; with_reducible rfl))
          | (with_reducible apply go_brT; · first | with_reducible rfl | omega | (simp (disch := omega) only [Bool.and_eq_true, decide_eq_true_eq, beq_iff_eq, bne_iff_ne, Bool.not_eq_true', true_and, and_true, ws, w30, t1, t2, k1, k2, aw, beq_self_eq_true, Bool.and_true]; done) | (simp (disch := omega) only [Bool.and_eq_true, decide_eq_true_eq, beq_iff_eq, bne_iff_ne, ne_eq, Bool.not_eq_true', true_and, and_true, ws, w30, t1, t2, k1, k2, aw, beq_self_eq_true, Bool.and_true] <;> omega))
          | (with_reducible apply go_brF; · first | with_reducible rfl | (simp (disch := omega) only [decide_eq_false_iff_not, beq_eq_false_iff_ne, bne_eq_false_iff_eq, Bool.not_eq_false', ws, w30, t1, t2, k1, k2, aw, beq_self_eq_true, Bool.and_true]; done) | (simp (disch := omega) only [decide_eq_false_iff_not, beq_eq_false_iff_ne, bne_eq_false_iff_eq, ne_eq, Bool.not_eq_false', ws, w30, t1, t2, k1, k2, aw, beq_self_eq_true, Bool.and_true] <;> omega))
        try simp (disch := omega) only [ws, w30, t1, t2, k1, k2, aw, beq_self_eq_true, Bool.and_true]
end

theorem consentWindow_plain (qs : List PV) (h : All2 (WTv Try.prog) [24, 4, 4, 23, 23] qs) : ∃ C fu d, pcall C Try.prog fu d F_passkeylaw13_ConsentWindow qs = some ⟨[.sc (.bool true)], []⟩ := by
  obtain ⟨q0, _, rfl, h0, g⟩ := h.cons_inv
  obtain ⟨q1, _, rfl, h1, g⟩ := g.cons_inv
  obtain ⟨q2, _, rfl, h2, g⟩ := g.cons_inv
  obtain ⟨q3, _, rfl, h3, g⟩ := g.cons_inv
  obtain ⟨q4, _, rfl, h4, g⟩ := g.cons_inv
  obtain rfl := g.nil_inv
  clear h g
  obtain ⟨s, rfl, hs⟩ := wtv_int (k := .u16) (by kernel_rfl) (by kernel_rfl) h0
  obtain ⟨fi, rfl⟩ := wtv_bool (by kernel_rfl) (by kernel_rfl) h1
  obtain ⟨vf, rfl⟩ := wtv_bool (by kernel_rfl) (by kernel_rfl) h2
  obtain ⟨l, rfl, _, _⟩ := wtv_ints (k := .u16) (e := 24) (by kernel_rfl) (by kernel_rfl) (by kernel_rfl) (by kernel_rfl) h3
  obtain ⟨m, rfl, _, _⟩ := wtv_ints (k := .u16) (e := 24) (by kernel_rfl) (by kernel_rfl) (by kernel_rfl) (by kernel_rfl) h4
  clear h0 h1 h2 h3 h4
  have hs : 0 ≤ s ∧ s ≤ 65535 := wf_u16 hs
  obtain ⟨fu, hfu'⟩ : ∃ fu, fu = 2000 := ⟨_, rfl⟩
  have hfu : 1000 < fu := by omega
  refine ⟨C0, fu, 110, ?_⟩
  rw [passkeylaw13_ConsentWindow_e]
  have ws : IntKind.wrap .i64 s = s := wrap_i64 (by omega) (by omega)
  obtain ⟨x, hx, k3⟩ := made_ex (fu := fu) (d := 108) hfu s l
  have t1 : List.take (x.length * 2) (List.drop 0 (encG x)) = encG x := List.take_of_length_le (by rw [List.drop_zero, encG_len]; omega)
  have L := encG_len x
  have wl := wnd_loop (fu := fu) hfu (a0 := s) (s := s) (b1 := fi) (b2 := vf) (fi := fi) (vf := vf) (n := l.length) (n4 := m.length) (c := encI .u16 l) (c4 := encI .u16 m) (m := m) (x := x) hx hs 8 fu 0 x rfl (by omega) (by omega) (by omega) (by omega) rfl
  try unfold shareK
  repeat first
    | (with_reducible apply go_nil; · with_reducible rfl)
    | (with_reducible apply go_cons; · with_reducible rfl)
    | (with_reducible apply go_int; · first | with_reducible rfl | (simp (disch := omega) only [ws, k3, t1]; done) | (simp (disch := omega) only [ws, k3, t1]; with_reducible rfl))
    | (with_reducible apply go_bool; · first | with_reducible rfl | (simp (disch := omega) only [ws, k3, t1]; done) | (simp (disch := omega) only [ws, k3, t1]; with_reducible rfl))
    | (with_reducible apply go_str; · first | with_reducible rfl | (simp (disch := omega) only [ws, k3, t1]; done) | (simp (disch := omega) only [ws, k3, t1]; with_reducible rfl))
    | (with_reducible apply go_any; · first | with_reducible rfl | (simp (disch := omega) only [ws, k3, t1]; done) | (simp (disch := omega) only [ws, k3, t1]; with_reducible rfl))
    | (with_reducible apply go_ow; · first | with_reducible rfl | (simp (disch := omega) only [ws, k3, t1]; done) | (simp (disch := omega) only [ws, k3, t1]; with_reducible rfl))
    | (with_reducible apply go_ls; · first | with_reducible rfl | (simp (disch := omega) only [ws, k3, t1]; done) | (simp (disch := omega) only [ws, k3, t1]; with_reducible rfl))
    | (with_reducible apply go_agg; · first | with_reducible rfl | (simp (disch := omega) only [ws, k3, t1]; done) | (simp (disch := omega) only [ws, k3, t1]; with_reducible rfl))
    | (with_reducible apply go_pbox; · first | with_reducible rfl | (simp (disch := omega) only [ws, k3, t1]; done) | (simp (disch := omega) only [ws, k3, t1]; with_reducible rfl))
    | (with_reducible apply go_opt; · first | with_reducible rfl | (simp (disch := omega) only [ws, k3, t1]; done) | (simp (disch := omega) only [ws, k3, t1]; with_reducible rfl))
    | (with_reducible apply go_chk; · first | with_reducible rfl | omega | (simp (disch := omega) only [Bool.and_eq_true, decide_eq_true_eq, beq_iff_eq, bne_iff_ne, Bool.not_eq_true', true_and, and_true, ws, k3, t1]; done) | (simp (disch := omega) only [Bool.and_eq_true, decide_eq_true_eq, beq_iff_eq, bne_iff_ne, ne_eq, Bool.not_eq_true', true_and, and_true, ws, k3, t1] <;> omega))
    | (with_reducible apply go_call; · first | with_reducible rfl | (simp (disch := omega) only [ws, k3, t1]; done) | (simp (disch := omega) only [ws, k3, t1]; with_reducible rfl))
    | (with_reducible apply go_brT; · first | with_reducible rfl | omega | (simp (disch := omega) only [Bool.and_eq_true, decide_eq_true_eq, beq_iff_eq, bne_iff_ne, Bool.not_eq_true', true_and, and_true, ws, k3, t1]; done) | (simp (disch := omega) only [Bool.and_eq_true, decide_eq_true_eq, beq_iff_eq, bne_iff_ne, ne_eq, Bool.not_eq_true', true_and, and_true, ws, k3, t1] <;> omega))
    | (with_reducible apply go_brF; · first | with_reducible rfl | (simp (disch := omega) only [decide_eq_false_iff_not, beq_eq_false_iff_ne, bne_eq_false_iff_eq, Bool.not_eq_false', ws, k3, t1]; done) | (simp (disch := omega) only [decide_eq_false_iff_not, beq_eq_false_iff_ne, bne_eq_false_iff_eq, ne_eq, Bool.not_eq_false', ws, k3, t1] <;> omega))
  try simp (disch := omega) only [ws, k3, t1]
  exact wl

end Go.Proofs.Ytaphhfehcbkfkaa.Pv
