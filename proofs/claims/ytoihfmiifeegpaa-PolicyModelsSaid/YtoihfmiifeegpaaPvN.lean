/-
  Rules by which a tree of nodes is read; numbers; rows of cells.
-/
import Derived.Test.YtoihfmiifeegpaaPvL
import Derived.IntWalk
set_option linter.unusedSimpArgs false
set_option linter.unusedVariables false
namespace Go.Proofs.Ytoihfmiifeegpaa.Pv

section
variable {R : Type} {r : Option R}

theorem go_int {k : IntKind} {p : PV} {K : Int → Option R} {n : Int} (h : p = .sc (.int k n)) (hk : K n = r) : intK k p K = r := by
  subst h; unfold intK; simp [hk]
theorem go_any {p : PV} {K : IntKind → Int → Option R} {k : IntKind} {n : Int} (h : p = .sc (.int k n)) (hk : K k n = r) : anyIntK p K = r := by
  subst h; exact hk
theorem go_bool {p : PV} {K : Bool → Option R} {b : Bool} (h : p = .sc (.bool b)) (hk : K b = r) : boolK p K = r := by
  subst h; exact hk
theorem go_str {p : PV} {K : ByteArray → Option R} {s : ByteArray} (h : p = .sc (.string s)) (hk : K s = r) : strK p K = r := by
  subst h; exact hk
theorem go_ls {es : Nat} {p : PV} {K : Bool → Nat → List PV → Option R} {z : Bool} {n : Nat} {c : List PV} (h : p = .lst z es n c) (hk : K z n c = r) : lsK es p K = r := by
  subst h; unfold lsK; simp [Nat.beq_refl, hk]
theorem go_ls0 {es : Nat} {p : PV} {K : Bool → Nat → List PV → Option R} (h : p = .sc (.slice none 0 0)) (hk : K true 0 [] = r) : lsK es p K = r := by
  subst h; exact hk
theorem go_ow {es : Nat} {p : PV} {K : Nat → List PV → Option R} {n : Nat} {c : List PV} (h : p = .own es n c) (hk : K n c = r) : owK es p K = r := by
  subst h; unfold owK; simp [Nat.beq_refl, hk]
theorem go_chk {b : Bool} {K : Option R} (h : b = true) (hk : K = r) : chk b K = r := by
  subst h; exact hk
theorem go_br {b : Bool} {x y : Option R} (hx : b = true → x = r) (hy : b = false → y = r) : brK b x y = r := by
  cases b
  · exact hy rfl
  · exact hx rfl
theorem go_brT {b : Bool} {x y : Option R} (h : b = true) (hx : x = r) : brK b x y = r := by
  subst h; exact hx
theorem go_brF {b : Bool} {x y : Option R} (h : b = false) (hx : y = r) : brK b x y = r := by
  subst h; exact hx
theorem go_opt {α : Type} {o : Option α} {K : α → Option R} {a : α} (h : o = some a) (hk : K a = r) : optK o K = r := by
  subst h; exact hk
theorem go_cons {α : Type} {l : List α} {K : α → List α → Option R} {a : α} {t : List α} (h : l = a :: t) (hk : K a t = r) : consK l K = r := by
  subst h; exact hk
theorem go_nil {α : Type} {l : List α} {K : Option R} (h : l = []) (hk : K = r) : nilK l K = r := by
  subst h; exact hk
theorem go_agg {p : PV} {K : List PV → Option R} {c : List PV} (h : p = .agg c) (hk : K c = r) : aggK p K = r := by
  subst h; exact hk
theorem go_pbox {p : PV} {K : List PV → Option R} {c : List PV} (h : p = .pbox c) (hk : K c = r) : pboxK p K = r := by
  subst h; exact hk
theorem go_call {o : Option Res} {K : List PV → List (List PV) → Option R} {v : List PV} {q : List (List PV)} (h : o = some ⟨v, q⟩) (hk : K v q = r) : callK o K = r := by
  subst h; exact hk

theorem go_share {α : Type} {a : α} {K : α → Option R} (hk : K a = r) : shareK a K = r := hk
theorem go_shareE {α : Type} {a b : α} {K : α → Option R} (h : a = b) (hk : K b = r) : shareK a K = r := by subst h; exact hk
theorem go_both {x y : Option R} (hx : x = r) (hy : y = r) : bothK x y = r := by subst hx; subst hy; unfold bothK; simp
end

theorem ne_of_eq_decide (a b : Int) : (a != b) = decide (a ≠ b) := by by_cases h : a = b <;> simp [h, bne]
theorem eq_decide (a b : Int) : (a == b) = decide (a = b) := by by_cases h : a = b <;> simp [h]

section
variable {R : Type}
theorem nd_call (v : List PV) (o : List (List PV)) (K : List PV → List (List PV) → Option R) : callK (some ⟨v, o⟩) K = K v o := by exact id rfl
theorem nd_nil {α : Type} (K : Option R) : nilK ([] : List α) K = K := by exact id rfl
theorem nd_cons {α : Type} (a : α) (r : List α) (K : α → List α → Option R) : consK (a :: r) K = K a r := by exact id rfl
theorem nd_bool (b : Bool) (K : Bool → Option R) : boolK (.sc (.bool b)) K = K b := by exact id rfl
theorem nd_str (s : ByteArray) (K : ByteArray → Option R) : strK (.sc (.string s)) K = K s := by exact id rfl
theorem nd_int (k : IntKind) (n : Int) (K : Int → Option R) : intK k (.sc (.int k n)) K = K n := by unfold intK; simp
theorem nd_any (k : IntKind) (n : Int) (K : IntKind → Int → Option R) : anyIntK (.sc (.int k n)) K = K k n := by exact id rfl
theorem nd_ls (z : Bool) (es n : Nat) (c : List PV) (K : Bool → Nat → List PV → Option R) : lsK es (.lst z es n c) K = K z n c := by unfold lsK; simp
theorem nd_ow (es n : Nat) (c : List PV) (K : Nat → List PV → Option R) : owK es (.own es n c) K = K n c := by unfold owK; simp
theorem nd_agg (c : List PV) (K : List PV → Option R) : aggK (.agg c) K = K c := by exact id rfl
theorem nd_pbox (c : List PV) (K : List PV → Option R) : pboxK (.pbox c) K = K c := by exact id rfl
theorem nd_opt {α : Type} (a : α) (K : α → Option R) : optK (some a) K = K a := by exact id rfl
theorem nd_share {α : Type} (a : α) (K : α → Option R) : shareK a K = K a := by exact id rfl
theorem nd_chk (K : Option R) : chk true K = K := by exact id rfl
theorem nd_chkd (p : Prop) [Decidable p] (K : Option R) (h : p) : chk (decide p) K = K := by simp [chk, h]
theorem nd_chka (b c : Bool) (K : Option R) : chk (b && c) K = chk b (chk c K) := by cases b <;> rfl
theorem nd_brT (x y : Option R) : brK true x y = x := by exact id rfl
theorem nd_brF (x y : Option R) : brK false x y = y := by exact id rfl
theorem nd_brt (p : Prop) [Decidable p] (x y : Option R) (h : p) : brK (decide p) x y = x := by simp [brK, h]
theorem nd_brf (p : Prop) [Decidable p] (x y : Option R) (h : ¬ p) : brK (decide p) x y = y := by simp [brK, h]
theorem nd_brd (p : Prop) [Decidable p] (x y : Option R) : brK (decide p) x y = if p then x else y := by by_cases h : p <;> simp [brK, h]
theorem nd_brif (b : Bool) (x y : Option R) : brK b x y = if b = true then x else y := by cases b <;> rfl
theorem nd_brn (b : Bool) (x y : Option R) : brK (!b) x y = brK b y x := by cases b <;> rfl
theorem nd_breq (a b : Int) (x y : Option R) : brK (a == b) x y = if a = b then x else y := by
  rw [eq_decide, nd_brd]
theorem nd_brne (a b : Int) (x y : Option R) : brK (a != b) x y = if a = b then y else x := by
  rw [ne_of_eq_decide, nd_brd]
  by_cases h : a = b <;> simp [h]
theorem nd_both (x : Option R) : bothK x x = x := by unfold bothK; simp
end


theorem wrap_i64 {x : Int} (h1 : -9223372036854775808 ≤ x) (h2 : x ≤ 9223372036854775807) : IntKind.wrap .i64 x = x := by
  have := IntWalk.i64_in x (by omega)
  exact this
theorem wrap_u64 {x : Int} (h1 : 0 ≤ x) (h2 : x ≤ 18446744073709551615) : IntKind.wrap .u64 x = x := by
  simp only [IntKind.wrap, IntKind.signed, IntKind.bits]
  simp
  omega
theorem wrap_u8 {x : Int} (h1 : 0 ≤ x) (h2 : x ≤ 255) : IntKind.wrap .u8 x = x := by
  simp only [IntKind.wrap, IntKind.signed, IntKind.bits]
  simp
  omega

theorem wrap_u64_range (x : Int) : 0 ≤ IntKind.wrap .u64 x ∧ IntKind.wrap .u64 x ≤ 18446744073709551615 := by
  simp only [IntKind.wrap, IntKind.signed, IntKind.bits]
  simp
  omega
theorem if_res {c : Prop} [Decidable c] (k : IntKind) (a b : Int) (o : List (List PV)) : (if c then some (Res.mk [.sc (.int k a)] o) else some (Res.mk [.sc (.int k b)] o)) = some (Res.mk [.sc (.int k (if c then a else b))] o) := by split <;> rfl
theorem nd_retand (a b : Bool) (o : List (List PV)) : brK a (some (Res.mk [.sc (.bool b)] o)) (some (Res.mk [.sc (.bool false)] o)) = some (Res.mk [.sc (.bool (a && b))] o) := by cases a <;> rfl
theorem nd_retor (a b : Bool) (o : List (List PV)) : brK a (some (Res.mk [.sc (.bool true)] o)) (some (Res.mk [.sc (.bool b)] o)) = some (Res.mk [.sc (.bool (a || b))] o) := by cases a <;> rfl

/-- One step on in a list. -/
theorem drop_cons {α : Type} {l r : List α} {x : α} {i : Nat} (h : l.drop i = x :: r) : i < l.length ∧ l[i]? = some x ∧ l.drop (i + 1) = r := by
  have h1 : i < l.length := by
    rcases Nat.lt_or_ge i l.length with h1 | h1
    · exact h1
    · rw [List.drop_of_length_le h1] at h; cases h
  rw [List.drop_eq_getElem_cons h1] at h
  injection h with h2 h3
  exact ⟨h1, by rw [List.getElem?_eq_getElem h1, h2], h3⟩
theorem drop_nil {α : Type} {l : List α} {i : Nat} (h : l.drop i = []) : l.length ≤ i := by
  have := congrArg List.length h
  simp at this
  omega

/- Rows of cells of one length. -/
section
variable {α : Type} {f : α → List PV} {k : Nat}
theorem fm_len (hf : ∀ x, (f x).length = k) : ∀ (l : List α), (l.flatMap f).length = l.length * k
  | [] => by simp
  | x :: l => by simp [hf x, fm_len hf l, Nat.succ_mul]; omega
theorem fm_drop (hf : ∀ x, (f x).length = k) : ∀ (l : List α) (i : Nat), (l.flatMap f).drop (i * k) = (l.drop i).flatMap f
  | l, 0 => by simp
  | [], i + 1 => by simp
  | x :: l, i + 1 => by
    rw [List.flatMap_cons, Nat.succ_mul, Nat.add_comm, ← List.drop_drop, List.drop_append_of_le_length (by rw [hf x]; omega)]
    rw [show (f x).drop k = [] from List.drop_of_length_le (by rw [hf x]; omega), List.nil_append]
    exact fm_drop hf l i
theorem fm_take (hf : ∀ x, (f x).length = k) : ∀ (l : List α) (i : Nat), (l.flatMap f).take (i * k) = (l.take i).flatMap f
  | l, 0 => by simp
  | [], i + 1 => by simp
  | x :: l, i + 1 => by
    rw [List.flatMap_cons, Nat.succ_mul, Nat.add_comm, List.take_succ_cons, List.flatMap_cons, ← fm_take hf l i]
    rw [show k + i * k = (f x).length + i * k by rw [hf x], List.take_length_add_append]
theorem fm_at (hf : ∀ x, (f x).length = k) {l : List α} {i : Nat} {x : α} (h : l[i]? = some x) {j : Nat} (hj : j < k) : (l.flatMap f).getD (i * k + j) .top = (f x).getD j .top := by
  have h1 : ((l.flatMap f).drop (i * k))[j]? = (l.flatMap f)[i * k + j]? := List.getElem?_drop
  rw [fm_drop hf] at h1
  have h2 : i < l.length := by
    rcases Nat.lt_or_ge i l.length with h1 | h1
    · exact h1
    · rw [List.getElem?_eq_none h1] at h; cases h
  rw [List.drop_eq_getElem_cons h2, List.flatMap_cons] at h1
  have h3 : l[i] = x := by rw [List.getElem?_eq_getElem h2] at h; injection h
  rw [h3, List.getElem?_append_left (by rw [hf x]; exact hj)] at h1
  simp only [List.getD_eq_getElem?_getD, ← h1]
theorem fm_set (hf : ∀ x, (f x).length = k) {p : PV} {j : Nat} (hj : j < k) : ∀ {l : List α} {i : Nat} {x y : α}, l[i]? = some x → f y = (f x).set j p → (l.flatMap f).set (i * k + j) p = (l.set i y).flatMap f
  | [], i, x, y, h, _ => by simp at h
  | a :: l, 0, x, y, h, hy => by
    simp at h
    subst h
    rw [Nat.zero_mul, Nat.zero_add, List.flatMap_cons, List.set_cons_zero, List.flatMap_cons, hy, List.set_append_left _ _ (by rw [hf]; exact hj)]
  | a :: l, i + 1, x, y, h, hy => by
    simp at h
    rw [List.flatMap_cons, List.set_cons_succ, List.flatMap_cons, List.set_append_right _ _ (by rw [hf, Nat.succ_mul]; omega), hf]
    congr 1
    rw [show (i + 1) * k + j - k = i * k + j by rw [Nat.succ_mul]; omega]
    exact fm_set hf hj h hy
theorem splice_one {c : List PV} {p : PV} {i : Nat} (h : i < c.length) : splice c [p] i = c.set i p := by
  unfold splice
  rw [List.set_eq_take_append_cons_drop, if_pos h]
  simp
end

theorem get_lt {α : Type} {l : List α} {i : Nat} {x : α} (h : l[i]? = some x) : i < l.length := by
  rcases Nat.lt_or_ge i l.length with h1 | h1
  · exact h1
  · rw [List.getElem?_eq_none h1] at h; cases h

abbrev intC (k : IntKind) (n : Int) : List PV := [.sc (.int k n)]
abbrev encI (k : IntKind) (l : List Int) : List PV := l.flatMap (intC k)
theorem intC_len (k : IntKind) (n : Int) : (intC k n).length = 1 := rfl
theorem ati {k : IntKind} {l : List Int} {i : Nat} {n : Int} (h : l[i]? = some n) : (encI k l).getD i .top = .sc (.int k n) := by
  have := fm_at (intC_len k) h (j := 0) (by omega)
  simpa using this
theorem encI_len (k : IntKind) (l : List Int) : (encI k l).length = l.length := by rw [fm_len (intC_len k)]; omega
theorem encI_app (k : IntKind) (l : List Int) (n : Int) : encI k l ++ [.sc (.int k n)] = encI k (l ++ [n]) := by simp
theorem tki (k : IntKind) (l : List Int) : List.take l.length (encI k l) = encI k l := List.take_of_length_le (by rw [encI_len]; omega)

theorem iand_bounds {a m : Int} (h0 : 0 ≤ m) (h1 : m < 9223372036854775808) : 0 ≤ iand .i64 a m ∧ iand .i64 a m ≤ m := by
  have hle : (BitVec.ofInt 64 a &&& BitVec.ofInt 64 m).toNat ≤ m.toNat := by
    rw [BitVec.toNat_and]
    refine Nat.le_trans Nat.and_le_right ?_
    rw [BitVec.toNat_ofInt]
    omega
  have : iand .i64 a m = ((BitVec.ofInt 64 a &&& BitVec.ofInt 64 m).toNat : Int) := by
    unfold iand
    exact wrap_i64 (by omega) (by show ((BitVec.ofInt 64 a &&& BitVec.ofInt 64 m).toNat : Int) ≤ _; omega)
  rw [this]
  omega

end Go.Proofs.Ytoihfmiifeegpaa.Pv
