/-
  Consent: the law ConsentOrder.
-/
import Derived.Test.YtaphhfehcbkfkaaCs4
set_option linter.unusedSimpArgs false
set_option linter.unusedVariables false
namespace Go.Proofs.Ytaphhfehcbkfkaa.Pv

theorem rowsG_congr {x y : List Ge} (h : ∀ t : Int, x.filter (fun g => g.tm == t) = y.filter (fun g => g.tm == t)) : ∀ (k : Nat) (a : Int), rowsG a k x = rowsG a k y
  | 0, a => rfl
  | k + 1, a => by rw [rowsG, rowsG, h a, rowsG_congr h k (a + 1)]

theorem keys_step {x y : List Ge} {g : Ge} (h : ∀ t : Int, x.filter (fun g => g.tm == t) = y.filter (fun g => g.tm == t)) (hx : ∀ e ∈ x, e.tm < g.tm) : ∀ t : Int, (x ++ [g]).filter (fun g => g.tm == t) = (g :: y).filter (fun g => g.tm == t) := by
  intro t
  rw [List.filter_append, List.filter_cons (xs := y), ← h t]
  by_cases e : g.tm = t
  · have : x.filter (fun g => g.tm == t) = [] := by
      refine List.filter_eq_nil_iff.2 fun u hu => ?_
      have := hx u hu
      simp
      omega
    rw [this]
    simp [e]
  · simp [e]

section
variable {fu : Nat}
theorem ord_loop (hfu : 1000 < fu) {a0 s : Int} {b1 b2 fi vf : Bool} {n : Nat} {c : List PV} {m : List Int} (hs : 0 ≤ s ∧ s ≤ 65535) : ∀ (k nn i : Nat) (x y : List Ge), 8 - i = k → k < nn → i ≤ 8 → i ≤ m.length → x.length = i → y.length = i → (∀ t : Int, x.filter (fun g => g.tm == t) = y.filter (fun g => g.tm == t)) → (∀ e ∈ x, e.tm ≤ s + 4 * i) →
    passkeylaw13_ConsentOrder_L0 fu (pcall C0 Try.prog fu 109) a0 b1 b2 n c nn s fi vf m.length (encI .u16 m) x.length y.length i (encG x) (encG y) = some ⟨[.sc (.bool true)], []⟩
  | _, 0, _, _, _, _, h, _, _, _, _, _, _ => by omega
  | k, nn + 1, i, x, y, hk, hn, h8, hm, hx, hy, hr, ht => by
    have ws : IntKind.wrap .i64 s = s := wrap_i64 (by omega) (by omega)
    have aw := awake_eq (fu := fu) (d := 0) hfu
    have k1 := await_eq (fu := fu) (d := 1) hfu (l := x) (by omega) s fi vf
    have k2 := await_eq (fu := fu) (d := 1) hfu (l := y) (by omega) s fi vf
    rw [awaitE_rows (rowsG_congr (fun t => (hr t).symm) _ _)] at k2
    have t1 : List.take (x.length * 2) (List.drop 0 (encG x)) = encG x := List.take_of_length_le (by rw [List.drop_zero, encG_len]; omega)
    have t1' : List.take (x.length * 2) (encG x) = encG x := List.take_of_length_le (by rw [encG_len]; omega)
    have t2 : List.take (y.length * 2) (List.drop 0 (encG y)) = encG y := List.take_of_length_le (by rw [List.drop_zero, encG_len]; omega)
    have L1 := encG_len x
    have L2 := encG_len y
    rw [passkeylaw13_ConsentOrder_L0_s]
    by_cases c1 : i < m.length
    · by_cases c2 : i < 8
      · obtain ⟨z, hz⟩ : ∃ z, m[i]? = some z := ⟨_, List.getElem?_eq_getElem c1⟩
        have w : IntKind.wrap .i64 ((i : Int) + 1) = ((i + 1 : Nat) : Int) := by rw [wrap_i64 (by omega) (by omega)]; omega
        have w4 : IntKind.wrap .i64 (4 * ((i + 1 : Nat) : Int)) = 4 * ((i + 1 : Nat) : Int) := wrap_i64 (by omega) (by omega)
        have wa : IntKind.wrap .i64 (s + 4 * ((i + 1 : Nat) : Int)) = s + 4 * ((i + 1 : Nat) : Int) := wrap_i64 (by omega) (by omega)
        have ih := ord_loop (a0 := a0) (s := s) (b1 := b1) (b2 := b2) (fi := fi) (vf := vf) (n := n) (c := c) (m := m) hfu hs (k - 1) nn (i + 1) (x ++ [⟨s + 4 * ((i + 1 : Nat) : Int), IntKind.wrap .i64 (Int.tmod z 7)⟩]) (⟨s + 4 * ((i + 1 : Nat) : Int), IntKind.wrap .i64 (Int.tmod z 7)⟩ :: y) (by omega) (by omega) (by omega) (by omega) (by simp; omega) (by simp; omega)
          (keys_step hr fun e he => by have := ht e he; simp only; omega) (fun e he => by
            rcases List.mem_append.1 he with h | h
            · have := ht e h; omega
            · simp at h; subst h; simp only; omega)
        have eL : ∀ g : Ge, (g :: y).length = 1 + y.length := by intro g; simp; omega
        have eX : ∀ g : Ge, (x ++ [g]).length = x.length + 1 := by intro g; simp
        have eA : ∀ g : Ge, encG (x ++ [g]) = encG x ++ [PV.sc (.int .i64 g.tm), PV.sc (.int .i64 g.kd)] := by intro g; rw [encG_app]; rfl
        simp only [eL, eX, eA, encG_cons] at ih
        have ap : ∀ l : List PV, List.append [] l = l := fun l => rfl
        try unfold shareK
        repeat first
          | (with_reducible apply go_nil; · with_reducible rfl)
          | (with_reducible apply go_cons; · with_reducible rfl)
          | (with_reducible apply go_int; · first | with_reducible rfl | (simp (disch := omega) only [Int.toNat_natCast, Nat.mul_one, ati hz, t1', t2, w, w4, wa, ws, ap]; done) | (simp (disch := omega) only [Int.toNat_natCast, Nat.mul_one, ati hz, t1', t2, w, w4, wa, ws, ap]; with_reducible rfl))
          | (with_reducible apply go_bool; · first | with_reducible rfl | (simp (disch := omega) only [Int.toNat_natCast, Nat.mul_one, ati hz, t1', t2, w, w4, wa, ws, ap]; done) | (simp (disch := omega) only [Int.toNat_natCast, Nat.mul_one, ati hz, t1', t2, w, w4, wa, ws, ap]; with_reducible rfl))
          | (with_reducible apply go_str; · first | with_reducible rfl | (simp (disch := omega) only [Int.toNat_natCast, Nat.mul_one, ati hz, t1', t2, w, w4, wa, ws, ap]; done) | (simp (disch := omega) only [Int.toNat_natCast, Nat.mul_one, ati hz, t1', t2, w, w4, wa, ws, ap]; with_reducible rfl))
          | (with_reducible apply go_any; · first | with_reducible rfl | (simp (disch := omega) only [Int.toNat_natCast, Nat.mul_one, ati hz, t1', t2, w, w4, wa, ws, ap]; done) | (simp (disch := omega) only [Int.toNat_natCast, Nat.mul_one, ati hz, t1', t2, w, w4, wa, ws, ap]; with_reducible rfl))
          | (with_reducible apply go_ow; · first | with_reducible rfl | (simp (disch := omega) only [Int.toNat_natCast, Nat.mul_one, ati hz, t1', t2, w, w4, wa, ws, ap]; done) | (simp (disch := omega) only [Int.toNat_natCast, Nat.mul_one, ati hz, t1', t2, w, w4, wa, ws, ap]; with_reducible rfl))
          | (with_reducible apply go_ls; · first | with_reducible rfl | (simp (disch := omega) only [Int.toNat_natCast, Nat.mul_one, ati hz, t1', t2, w, w4, wa, ws, ap]; done) | (simp (disch := omega) only [Int.toNat_natCast, Nat.mul_one, ati hz, t1', t2, w, w4, wa, ws, ap]; with_reducible rfl))
          | (with_reducible apply go_agg; · first | with_reducible rfl | (simp (disch := omega) only [Int.toNat_natCast, Nat.mul_one, ati hz, t1', t2, w, w4, wa, ws, ap]; done) | (simp (disch := omega) only [Int.toNat_natCast, Nat.mul_one, ati hz, t1', t2, w, w4, wa, ws, ap]; with_reducible rfl))
          | (with_reducible apply go_pbox; · first | with_reducible rfl | (simp (disch := omega) only [Int.toNat_natCast, Nat.mul_one, ati hz, t1', t2, w, w4, wa, ws, ap]; done) | (simp (disch := omega) only [Int.toNat_natCast, Nat.mul_one, ati hz, t1', t2, w, w4, wa, ws, ap]; with_reducible rfl))
          | (with_reducible apply go_opt; · first | with_reducible rfl | (simp (disch := omega) only [Int.toNat_natCast, Nat.mul_one, ati hz, t1', t2, w, w4, wa, ws, ap]; done) | (simp (disch := omega) only [Int.toNat_natCast, Nat.mul_one, ati hz, t1', t2, w, w4, wa, ws, ap]; with_reducible rfl))
          | (with_reducible apply go_chk; · first | with_reducible rfl | omega | (simp (disch := omega) only [Bool.and_eq_true, decide_eq_true_eq, beq_iff_eq, bne_iff_ne, Bool.not_eq_true', true_and, and_true, Int.toNat_natCast, Nat.mul_one, ati hz, t1', t2, w, w4, wa, ws, ap]; done) | (simp (disch := omega) only [Bool.and_eq_true, decide_eq_true_eq, beq_iff_eq, bne_iff_ne, ne_eq, Bool.not_eq_true', true_and, and_true, Int.toNat_natCast, Nat.mul_one, ati hz, t1', t2, w, w4, wa, ws, ap] <;> omega))
          | (with_reducible apply go_call; · first | with_reducible rfl | (simp (disch := omega) only [Int.toNat_natCast, Nat.mul_one, ati hz, t1', t2, w, w4, wa, ws, ap]; done) | (simp (disch := omega) only [Int.toNat_natCast, Nat.mul_one, ati hz, t1', t2, w, w4, wa, ws, ap]; with_reducible rfl))
          | (with_reducible apply go_brT; · first | with_reducible rfl | omega | (simp (disch := omega) only [Bool.and_eq_true, decide_eq_true_eq, beq_iff_eq, bne_iff_ne, Bool.not_eq_true', true_and, and_true, Int.toNat_natCast, Nat.mul_one, ati hz, t1', t2, w, w4, wa, ws, ap]; done) | (simp (disch := omega) only [Bool.and_eq_true, decide_eq_true_eq, beq_iff_eq, bne_iff_ne, ne_eq, Bool.not_eq_true', true_and, and_true, Int.toNat_natCast, Nat.mul_one, ati hz, t1', t2, w, w4, wa, ws, ap] <;> omega))
          | (with_reducible apply go_brF; · first | with_reducible rfl | (simp (disch := omega) only [decide_eq_false_iff_not, beq_eq_false_iff_ne, bne_eq_false_iff_eq, Bool.not_eq_false', Int.toNat_natCast, Nat.mul_one, ati hz, t1', t2, w, w4, wa, ws, ap]; done) | (simp (disch := omega) only [decide_eq_false_iff_not, beq_eq_false_iff_ne, bne_eq_false_iff_eq, ne_eq, Bool.not_eq_false', Int.toNat_natCast, Nat.mul_one, ati hz, t1', t2, w, w4, wa, ws, ap] <;> omega))
        try simp (disch := omega) only [Int.toNat_natCast, Nat.mul_one, ati hz, t1', t2, w, w4, wa, ws, ap]
        exact ih
      · generalize awaitE s fi vf x = o at k1 k2
        obtain ⟨p, v, t, e⟩ := o
        simp only [Out4.res] at k1 k2
        try unfold shareK
        repeat first
          | (with_reducible apply go_nil; · with_reducible rfl)
          | (with_reducible apply go_cons; · with_reducible rfl)
          | (with_reducible apply go_int; · first | with_reducible rfl | (simp (disch := omega) only [ws, t1, t2, k1, k2, aw, beq_self_eq_true, Bool.and_true]; done) | (simp (disch := omega) only [ws, t1, t2, k1, k2, aw, beq_self_eq_true, Bool.and_true]; with_reducible rfl))
          | (with_reducible apply go_bool; · first | with_reducible rfl | (simp (disch := omega) only [ws, t1, t2, k1, k2, aw, beq_self_eq_true, Bool.and_true]; done) | (simp (disch := omega) only [ws, t1, t2, k1, k2, aw, beq_self_eq_true, Bool.and_true]; with_reducible rfl))
          | (with_reducible apply go_str; · first | with_reducible rfl | (simp (disch := omega) only [ws, t1, t2, k1, k2, aw, beq_self_eq_true, Bool.and_true]; done) | (simp (disch := omega) only [ws, t1, t2, k1, k2, aw, beq_self_eq_true, Bool.and_true]; with_reducible rfl))
          | (with_reducible apply go_any; · first | with_reducible rfl | (simp (disch := omega) only [ws, t1, t2, k1, k2, aw, beq_self_eq_true, Bool.and_true]; done) | (simp (disch := omega) only [ws, t1, t2, k1, k2, aw, beq_self_eq_true, Bool.and_true]; with_reducible rfl))
          | (with_reducible apply go_ow; · first | with_reducible rfl | (simp (disch := omega) only [ws, t1, t2, k1, k2, aw, beq_self_eq_true, Bool.and_true]; done) | (simp (disch := omega) only [ws, t1, t2, k1, k2, aw, beq_self_eq_true, Bool.and_true]; with_reducible rfl))
          | (with_reducible apply go_ls; · first | with_reducible rfl | (simp (disch := omega) only [ws, t1, t2, k1, k2, aw, beq_self_eq_true, Bool.and_true]; done) | (simp (disch := omega) only [ws, t1, t2, k1, k2, aw, beq_self_eq_true, Bool.and_true]; with_reducible rfl))
          | (with_reducible apply go_agg; · first | with_reducible rfl | (simp (disch := omega) only [ws, t1, t2, k1, k2, aw, beq_self_eq_true, Bool.and_true]; done) | (simp (disch := omega) only [ws, t1, t2, k1, k2, aw, beq_self_eq_true, Bool.and_true]; with_reducible rfl))
          | (with_reducible apply go_pbox; · first | with_reducible rfl | (simp (disch := omega) only [ws, t1, t2, k1, k2, aw, beq_self_eq_true, Bool.and_true]; done) | (simp (disch := omega) only [ws, t1, t2, k1, k2, aw, beq_self_eq_true, Bool.and_true]; with_reducible rfl))
          | (with_reducible apply go_opt; · first | with_reducible rfl | (simp (disch := omega) only [ws, t1, t2, k1, k2, aw, beq_self_eq_true, Bool.and_true]; done) | (simp (disch := omega) only [ws, t1, t2, k1, k2, aw, beq_self_eq_true, Bool.and_true]; with_reducible rfl))
          | (with_reducible apply go_chk; · first | with_reducible rfl | omega | (simp (disch := omega) only [Bool.and_eq_true, decide_eq_true_eq, beq_iff_eq, bne_iff_ne, Bool.not_eq_true', true_and, and_true, ws, t1, t2, k1, k2, aw, beq_self_eq_true, Bool.and_true]; done) | (simp (disch := omega) only [Bool.and_eq_true, decide_eq_true_eq, beq_iff_eq, bne_iff_ne, ne_eq, Bool.not_eq_true', true_and, and_true, ws, t1, t2, k1, k2, aw, beq_self_eq_true, Bool.and_true] <;> omega))
          | (with_reducible apply go_call; · first | with_reducible rfl | (simp (disch := omega) only [ws, t1, t2, k1, k2, aw, beq_self_eq_true, Bool.and_true]; done) | (simp (disch := omega) only [ws, t1, t2, k1, k2, aw, beq_self_eq_true, Bool.and_true]; with_reducible rfl))
          | (with_reducible apply go_brT; · first | with_reducible rfl | omega | (simp (disch := omega) only [Bool.and_eq_true, decide_eq_true_eq, beq_iff_eq, bne_iff_ne, Bool.not_eq_true', true_and, and_true, ws, t1, t2, k1, k2, aw, beq_self_eq_true, Bool.and_true]; done) | (simp (disch := omega) only [Bool.and_eq_true, decide_eq_true_eq, beq_iff_eq, bne_iff_ne, ne_eq, Bool.not_eq_true', true_and, and_true, ws, t1, t2, k1, k2, aw, beq_self_eq_true, Bool.and_true] <;> omega))
          | (with_reducible apply go_brF; · first | with_reducible rfl | (simp (disch := omega) only [decide_eq_false_iff_not, beq_eq_false_iff_ne, bne_eq_false_iff_eq, Bool.not_eq_false', ws, t1, t2, k1, k2, aw, beq_self_eq_true, Bool.and_true]; done) | (simp (disch := omega) only [decide_eq_false_iff_not, beq_eq_false_iff_ne, bne_eq_false_iff_eq, ne_eq, Bool.not_eq_false', ws, t1, t2, k1, k2, aw, beq_self_eq_true, Bool.and_true] <;> omega))
        try simp (disch := omega) only [ws, t1, t2, k1, k2, aw, beq_self_eq_true, Bool.and_true]
    · generalize awaitE s fi vf x = o at k1 k2
      obtain ⟨p, v, t, e⟩ := o
      simp only [Out4.res] at k1 k2
      try unfold shareK
      repeat first
        | (with_reducible apply go_nil; · with_reducible rfl)
        | (with_reducible apply go_cons; · with_reducible rfl)
        | (with_reducible apply go_int; · first | with_reducible rfl | (simp (disch := omega) only [ws, t1, t2, k1, k2, aw, beq_self_eq_true, Bool.and_true]; done) | (simp (disch := omega) only [ws, t1, t2, k1, k2, aw, beq_self_eq_true, Bool.and_true]; with_reducible rfl))
        | (with_reducible apply go_bool; · first | with_reducible rfl | (simp (disch := omega) only [ws, t1, t2, k1, k2, aw, beq_self_eq_true, Bool.and_true]; done) | (simp (disch := omega) only [ws, t1, t2, k1, k2, aw, beq_self_eq_true, Bool.and_true]; with_reducible rfl))
        | (with_reducible apply go_str; · first | with_reducible rfl | (simp (disch := omega) only [ws, t1, t2, k1, k2, aw, beq_self_eq_true, Bool.and_true]; done) | (simp (disch := omega) only [ws, t1, t2, k1, k2, aw, beq_self_eq_true, Bool.and_true]; with_reducible rfl))
        | (with_reducible apply go_any; · first | with_reducible rfl | (simp (disch := omega) only [ws, t1, t2, k1, k2, aw, beq_self_eq_true, Bool.and_true]; done) | (simp (disch := omega) only [ws, t1, t2, k1, k2, aw, beq_self_eq_true, Bool.and_true]; with_reducible rfl))
        | (with_reducible apply go_ow; · first | with_reducible rfl | (simp (disch := omega) only [ws, t1, t2, k1, k2, aw, beq_self_eq_true, Bool.and_true]; done) | (simp (disch := omega) only [ws, t1, t2, k1, k2, aw, beq_self_eq_true, Bool.and_true]; with_reducible rfl))
        | (with_reducible apply go_ls; · first | with_reducible rfl | (simp (disch := omega) only [ws, t1, t2, k1, k2, aw, beq_self_eq_true, Bool.and_true]; done) | (simp (disch := omega) only [ws, t1, t2, k1, k2, aw, beq_self_eq_true, Bool.and_true]; with_reducible rfl))
        | (with_reducible apply go_agg; · first | with_reducible rfl | (simp (disch := omega) only [ws, t1, t2, k1, k2, aw, beq_self_eq_true, Bool.and_true]; done) | (simp (disch := omega) only [ws, t1, t2, k1, k2, aw, beq_self_eq_true, Bool.and_true]; with_reducible rfl))
        | (with_reducible apply go_pbox; · first | with_reducible rfl | (simp (disch := omega) only [ws, t1, t2, k1, k2, aw, beq_self_eq_true, Bool.and_true]; done) | (simp (disch := omega) only [ws, t1, t2, k1, k2, aw, beq_self_eq_true, Bool.and_true]; with_reducible rfl))
        | (with_reducible apply go_opt; · first | with_reducible rfl | (simp (disch := omega) only [ws, t1, t2, k1, k2, aw, beq_self_eq_true, Bool.and_true]; done) | (simp (disch := omega) only [ws, t1, t2, k1, k2, aw, beq_self_eq_true, Bool.and_true]; with_reducible rfl))
        | (with_reducible apply go_chk; · first | with_reducible rfl | omega | (simp (disch := omega) only [Bool.and_eq_true, decide_eq_true_eq, beq_iff_eq, bne_iff_ne, Bool.not_eq_true', true_and, and_true, ws, t1, t2, k1, k2, aw, beq_self_eq_true, Bool.and_true]; done) | (simp (disch := omega) only [Bool.and_eq_true, decide_eq_true_eq, beq_iff_eq, bne_iff_ne, ne_eq, Bool.not_eq_true', true_and, and_true, ws, t1, t2, k1, k2, aw, beq_self_eq_true, Bool.and_true] <;> omega))
        | (with_reducible apply go_call; · first | with_reducible rfl | (simp (disch := omega) only [ws, t1, t2, k1, k2, aw, beq_self_eq_true, Bool.and_true]; done) | (simp (disch := omega) only [ws, t1, t2, k1, k2, aw, beq_self_eq_true, Bool.and_true]; with_reducible rfl))
        | (with_reducible apply go_brT; · first | with_reducible rfl | omega | (simp (disch := omega) only [Bool.and_eq_true, decide_eq_true_eq, beq_iff_eq, bne_iff_ne, Bool.not_eq_true', true_and, and_true, ws, t1, t2, k1, k2, aw, beq_self_eq_true, Bool.and_true]; done) | (simp (disch := omega) only [Bool.and_eq_true, decide_eq_true_eq, beq_iff_eq, bne_iff_ne, ne_eq, Bool.not_eq_true', true_and, and_true, ws, t1, t2, k1, k2, aw, beq_self_eq_true, Bool.and_true] <;> omega))
        | (with_reducible apply go_brF; · first | with_reducible rfl | (simp (disch := omega) only [decide_eq_false_iff_not, beq_eq_false_iff_ne, bne_eq_false_iff_eq, Bool.not_eq_false', ws, t1, t2, k1, k2, aw, beq_self_eq_true, Bool.and_true]; done) | (simp (disch := omega) only [decide_eq_false_iff_not, beq_eq_false_iff_ne, bne_eq_false_iff_eq, ne_eq, Bool.not_eq_false', ws, t1, t2, k1, k2, aw, beq_self_eq_true, Bool.and_true] <;> omega))
      try simp (disch := omega) only [ws, t1, t2, k1, k2, aw, beq_self_eq_true, Bool.and_true]
end

theorem consentOrder_plain (qs : List PV) (h : All2 (WTv Try.prog) [24, 4, 4, 23] qs) : ∃ fu d, pcall C0 Try.prog fu d F_passkeylaw13_ConsentOrder qs = some ⟨[.sc (.bool true)], []⟩ := by
  obtain ⟨q0, _, rfl, h0, g⟩ := h.cons_inv
  obtain ⟨q1, _, rfl, h1, g⟩ := g.cons_inv
  obtain ⟨q2, _, rfl, h2, g⟩ := g.cons_inv
  obtain ⟨q3, _, rfl, h3, g⟩ := g.cons_inv
  obtain rfl := g.nil_inv
  clear h g
  obtain ⟨s, rfl, hs⟩ := wtv_int (k := .u16) (by kernel_rfl) (by kernel_rfl) h0
  obtain ⟨fi, rfl⟩ := wtv_bool (by kernel_rfl) (by kernel_rfl) h1
  obtain ⟨vf, rfl⟩ := wtv_bool (by kernel_rfl) (by kernel_rfl) h2
  obtain ⟨l, rfl, _, _⟩ := wtv_ints (k := .u16) (e := 24) (by kernel_rfl) (by kernel_rfl) (by kernel_rfl) (by kernel_rfl) h3
  clear h0 h1 h2 h3
  have hs : 0 ≤ s ∧ s ≤ 65535 := wf_u16 hs
  obtain ⟨fu, hfu'⟩ : ∃ fu, fu = 2000 := ⟨_, rfl⟩
  have hfu : 1000 < fu := by omega
  refine ⟨fu, 110, ?_⟩
  rw [passkeylaw13_ConsentOrder_e]
  have wl := ord_loop (fu := fu) hfu (a0 := s) (s := s) (b1 := fi) (b2 := vf) (fi := fi) (vf := vf) (n := l.length) (c := encI .u16 l) (m := l) hs 8 fu 0 [] [] rfl (by omega) (by omega) (by omega) rfl rfl (fun _ => rfl) (by simp)
  exact wl

end Go.Proofs.Ytaphhfehcbkfkaa.Pv
