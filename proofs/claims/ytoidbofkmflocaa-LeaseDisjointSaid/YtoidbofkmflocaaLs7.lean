/-
  The law LeaseDisjoint, as a plain equation.
-/
import Derived.Test.YtoidbofkmflocaaLs6
set_option linter.unusedSimpArgs false
set_option linter.unusedVariables false
namespace Go.Proofs.Ytoidbofkmflocaa.Pv

section
variable {fu d : Nat}

abbrev dv (q : Bool × List Ls) : List PV := [.lst q.1 4 q.2.length (encL q.2)]
abbrev bv (b : Bool) : List PV := [.sc (.bool b)]

theorem fm_at1 {α : Type} {f : α → List PV} (hf : ∀ x, (f x).length = 1) {l : List α} {i : Nat} {x : α} (h : l[i]? = some x) : (l.flatMap f).getD i .top = (f x).getD 0 .top := by
  have := fm_at hf h (j := 0) (by omega)
  simpa using this
theorem atd {l : List (Bool × List Ls)} {i : Nat} {q : Bool × List Ls} (h : l[i]? = some q) : (l.flatMap dv).getD i .top = .lst q.1 4 q.2.length (encL q.2) := fm_at1 (fun _ => rfl) h
theorem atb {l : List Bool} {i : Nat} {b : Bool} (h : l[i]? = some b) : (l.flatMap bv).getD i .top = .sc (.bool b) := fm_at1 (fun _ => rfl) h
theorem set1 {α : Type} {f : α → List PV} (hf : ∀ x, (f x).length = 1) {l : List α} {i : Nat} {x y : α} {p : PV} (h : l[i]? = some x) (hy : f y = [p]) : splice (l.flatMap f) [p] i = (l.set i y).flatMap f := by
  have hi := getElem_lt h
  rw [splice_one (by rw [fm_len hf]; omega)]
  have := fm_set hf (p := p) (j := 0) (by omega) h (y := y) (by
    rw [hy]
    match hx : f x, hf x with
    | [a], _ => rfl)
  simpa using this
theorem setd {l : List (Bool × List Ls)} {i : Nat} {q : Bool × List Ls} (h : l[i]? = some q) (z : Bool) (r : List Ls) : splice (l.flatMap dv) [.lst z 4 r.length (encL r)] i = (l.set i (z, r)).flatMap dv := set1 (fun _ => rfl) h rfl
theorem setb {l : List Bool} {i : Nat} {b : Bool} (h : l[i]? = some b) (b' : Bool) : splice (l.flatMap bv) [.sc (.bool b')] i = (l.set i b').flatMap bv := set1 (fun _ => rfl) h rfl

/-- At most one lease, a valid one. -/
def One (l : List Ls) : Prop := l = [] ∨ ∃ x : Ls, l = [x] ∧ x.tag = 9 ∧ x.ok = true
def has (l : List Ls) (n : Nat) : Prop := ∃ x ∈ l, x.nx ≤ n ∧ n < x.to

structure Inv (devs : List (Bool × List Ls)) (used : List Bool) : Prop where
  dl : devs.length = 4
  ul : used.length = 16
  one : ∀ (i : Nat) q, devs[i]? = some q → One q.2
  disj : ∀ (i j : Nat) q q' n, devs[i]? = some q → devs[j]? = some q' → has q.2 n → has q'.2 n → i = j
  fresh : ∀ (i : Nat) q n, devs[i]? = some q → has q.2 n → used[n]? = some false

theorem set_get {α : Type} {l : List α} {i j : Nat} {x y : α} (hi : i < l.length) (h : (l.set i x)[j]? = some y) : (j = i ∧ y = x) ∨ (j ≠ i ∧ l[j]? = some y) := by
  rw [List.getElem?_set] at h
  split at h
  · rename_i e
    subst e
    simp at h
    exact .inl ⟨rfl, h.symm⟩
  · rename_i e
    exact .inr ⟨fun h => e h.symm, h⟩

/-- A device's list made smaller. -/
theorem Inv.shrink {devs : List (Bool × List Ls)} {used : List Bool} (h : Inv devs used) {i : Nat} {q : Bool × List Ls} (hi : devs[i]? = some q) {z : Bool} {r : List Ls} (ho : One r) (hr : ∀ n, has r n → has q.2 n) : Inv (devs.set i (z, r)) used := by
  have hl := getElem_lt hi
  have back : ∀ (j : Nat) p, (devs.set i (z, r))[j]? = some p → ∃ p', devs[j]? = some p' ∧ ∀ n, has p.2 n → has p'.2 n := by
    intro j p hp
    rcases set_get hl hp with ⟨rfl, rfl⟩ | ⟨_, hp⟩
    · exact ⟨q, hi, hr⟩
    · exact ⟨p, hp, fun _ h => h⟩
  refine ⟨by simpa using h.dl, h.ul, fun j p hp => ?_, fun j k p p' n hp hp' h1 h2 => ?_, fun j p n hp h1 => ?_⟩
  · rcases set_get hl hp with ⟨_, rfl⟩ | ⟨_, hp⟩
    · exact ho
    · exact h.one j p hp
  · obtain ⟨s, hs, hs'⟩ := back j p hp
    obtain ⟨t, ht, ht'⟩ := back k p' hp'
    exact h.disj j k s t n hs ht (hs' n h1) (ht' n h2)
  · obtain ⟨s, hs, hs'⟩ := back j p hp
    exact h.fresh j s n hs (hs' n h1)

/-- A leaf that no device has is used. -/
theorem Inv.use {devs : List (Bool × List Ls)} {used : List Bool} (h : Inv devs used) {k : Nat} (hk : ∀ (i : Nat) q, devs[i]? = some q → ¬ has q.2 k) : Inv devs (used.set k true) := by
  refine ⟨h.dl, by simpa using h.ul, h.one, h.disj, fun j p n hp h1 => ?_⟩
  have hne : k ≠ n := by rintro rfl; exact hk j p hp h1
  rw [List.getElem?_set_ne hne]
  exact h.fresh j p n hp h1

/-- A lease that no device has is given to one that has none. -/
theorem Inv.give {devs : List (Bool × List Ls)} {used : List Bool} (h : Inv devs used) {i : Nat} {q : Bool × List Ls} (hi : devs[i]? = some q) {z : Bool} {x : Ls} (ht : x.tag = 9) (ho : x.ok = true)
    (hn : ∀ n, has [x] n → (∀ (j : Nat) p, devs[j]? = some p → ¬ has p.2 n) ∧ used[n]? = some false) : Inv (devs.set i (z, [x])) used := by
  have hl := getElem_lt hi
  refine ⟨by simpa using h.dl, h.ul, fun j p hp => ?_, fun j k p p' n hp hp' h1 h2 => ?_, fun j p n hp h1 => ?_⟩
  · rcases set_get hl hp with ⟨_, rfl⟩ | ⟨_, hp⟩
    · exact .inr ⟨x, rfl, ht, ho⟩
    · exact h.one j p hp
  · rcases set_get hl hp with ⟨rfl, rfl⟩ | ⟨_, hp2⟩
    · rcases set_get hl hp' with ⟨rfl, rfl⟩ | ⟨_, hp'⟩
      · rfl
      · exact absurd h2 ((hn n h1).1 k p' hp')
    · rcases set_get hl hp' with ⟨_, rfl⟩ | ⟨_, hp'⟩
      · exact absurd h1 ((hn n h2).1 j p hp2)
      · exact h.disj j k p p' n hp2 hp' h1 h2
  · rcases set_get hl hp with ⟨rfl, rfl⟩ | ⟨_, hp⟩
    · exact (hn n h1).2
    · exact h.fresh j p n hp h1

theorem one_len {l : List Ls} (h : One l) : l.length ≤ 1 := by
  rcases h with rfl | ⟨x, rfl, _⟩ <;> simp

theorem vld_one {x : Ls} (h : x.ok = true) : vld [x] = 0 := by simp [vld, vlL, h, findL]
theorem loc_one {x : Ls} (ht : x.tag = 9) (h : x.ok = true) : locL [x] 9 = (0, 0) := by simp [locL, vld_one h, findL, ht]
theorem loc_nil : locL [] 9 = (0, 11) := by simp [locL, vld, vlL, findL]
theorem take_one {x : Ls} (ht : x.tag = 9) (h : x.ok = true) : takeL [x] 9 = if x.nx = x.to then ([], 0, 13) else ([{ x with nx := x.nx + 1 }], x.nx, 0) := by simp [takeL, loc_one ht h]
theorem take_nil : takeL [] 9 = ([], 0, 11) := by simp [takeL, loc_nil]
theorem part_one {x : Ls} (ht : x.tag = 9) (h : x.ok = true) {n : Int} (hn : 1 ≤ n) : partL [x] 9 n = if x.to - x.nx < n then ([], 0, 0, 13) else ([{ x with to := x.to - n }], x.to - n, x.to, 0) := by
  have : ¬ n < 1 := by omega
  simp [partL, loc_one ht h, this]
theorem part_nil (n : Int) : partL [] 9 n = ([], 0, 0, 11) := by simp [partL, loc_nil]
theorem ok_of {x : Ls} (h1 : 0 ≤ x.fr) (h2 : x.fr ≤ x.nx) (h3 : x.nx ≤ x.to) (h4 : x.to ≤ 16) : x.ok = true := by simp [Ls.ok, h1, h2, h3, h4]
theorem grant_nil {x : Ls} (h : x.ok = true) : grantL [] x = ([x], 0) := by simp [grantL, vld, vlL, findL, h]
theorem grant_one {x y : Ls} (ht : x.tag = 9) (h : x.ok = true) (hy : y.tag = 9) : (grantL [x] y).2 ≠ 0 := by
  unfold grantL
  rw [vld_one h]
  simp [findL, ht, hy]
  split <;> simp

set_option maxHeartbeats 2000000 in
theorem disj_loop {m : List Int} (hm : m.length ≤ maxLen) (hfu : 100 ≤ fu) {n : Nat} {c : List PV} : ∀ (k nn i : Nat) (devs : List (Bool × List Ls)) (used : List Bool), 40 - i = k → k < nn → i ≤ 40 → i ≤ m.length → Inv devs used →
    passkeylaw10_LeaseDisjoint_L0 fu (pcall C0 Try.prog fu (d + 5)) n c nn m.length (encI .i64 m) 4 16 i (devs.flatMap dv) (used.flatMap bv) = some ⟨[.sc (.bool true)], []⟩
  | k, 0, _, _, _, _, h, _, _, _ => by omega
  | k, nn + 1, i, devs, used, hk, hn, hi, him, inv => by
    have haw := awake_eq (fu := fu) (d := d) hfu
    rw [passkeylaw10_LeaseDisjoint_L0_s]
    by_cases h1 : i < m.length
    · by_cases h2 : i < 40
      · obtain ⟨z, hz⟩ : ∃ z, m[i]? = some z := ⟨_, List.getElem?_eq_getElem h1⟩
        have ih : ∀ (devs : List (Bool × List Ls)) (used : List Bool), Inv devs used → passkeylaw10_LeaseDisjoint_L0 fu (pcall C0 Try.prog fu (d + 5)) n c nn m.length (encI .i64 m) 4 16 (IntKind.wrap .i64 (i + 1)) (devs.flatMap dv) (used.flatMap bv) = some ⟨[.sc (.bool true)], []⟩ := by
          intro devs used hinv
          rw [wrap_i64 (by omega) (by omega)]
          exact disj_loop hm hfu (k - 1) nn (i + 1) devs used (by omega) (by omega) (by omega) (by omega) hinv
        have bd := iand_bounds (a := iand .i64 z 65535) (m := 3) (by omega) (by omega)
        obtain ⟨dn, hdn⟩ := Int.eq_ofNat_of_zero_le bd.1
        obtain ⟨q, hq⟩ : ∃ q, devs[dn]? = some q := ⟨_, List.getElem?_eq_getElem (by have := inv.dl; omega)⟩
        have hone := inv.one dn q hq
        have hlen := one_len hone
        have hdl := inv.dl
        have hul := inv.ul
        have hcl : (devs.flatMap dv).length = 4 := by rw [fm_len (k := 1) fun _ => rfl]; omega
        have hcu : (used.flatMap bv).length = 16 := by rw [fm_len (k := 1) fun _ => rfl]; omega
        by_cases h3 : iand .i64 (ishr .i64 (iand .i64 z 65535) 2) 3 > 0
        · have ht := take_eq (fu := fu) (d := d + 1) (l := q.2) (by simp only [maxLen]; omega) (by omega) 9
          rcases hone with h0 | ⟨x, h0, htag, hok⟩
          · have e := take_nil
            rw [← h0] at e
            unfold shareK
            repeat first
              | (with_reducible apply go_nil; · with_reducible rfl)
              | (with_reducible apply go_cons; · with_reducible rfl)
              | (with_reducible apply go_int; · first | with_reducible rfl | (simp (disch := omega) only [Int.toNat_natCast, Nat.mul_one, Nat.zero_add, ati hz, hdn, atd hq, ht, e, nd_brne]; done) | (simp (disch := omega) only [Int.toNat_natCast, Nat.mul_one, Nat.zero_add, ati hz, hdn, atd hq, ht, e, nd_brne]; with_reducible rfl))
              | (with_reducible apply go_bool; · first | with_reducible rfl | (simp (disch := omega) only [Int.toNat_natCast, Nat.mul_one, Nat.zero_add, ati hz, hdn, atd hq, ht, e, nd_brne]; done) | (simp (disch := omega) only [Int.toNat_natCast, Nat.mul_one, Nat.zero_add, ati hz, hdn, atd hq, ht, e, nd_brne]; with_reducible rfl))
              | (with_reducible apply go_str; · first | with_reducible rfl | (simp (disch := omega) only [Int.toNat_natCast, Nat.mul_one, Nat.zero_add, ati hz, hdn, atd hq, ht, e, nd_brne]; done) | (simp (disch := omega) only [Int.toNat_natCast, Nat.mul_one, Nat.zero_add, ati hz, hdn, atd hq, ht, e, nd_brne]; with_reducible rfl))
              | (with_reducible apply go_any; · first | with_reducible rfl | (simp (disch := omega) only [Int.toNat_natCast, Nat.mul_one, Nat.zero_add, ati hz, hdn, atd hq, ht, e, nd_brne]; done) | (simp (disch := omega) only [Int.toNat_natCast, Nat.mul_one, Nat.zero_add, ati hz, hdn, atd hq, ht, e, nd_brne]; with_reducible rfl))
              | (with_reducible apply go_ow; · first | with_reducible rfl | (simp (disch := omega) only [Int.toNat_natCast, Nat.mul_one, Nat.zero_add, ati hz, hdn, atd hq, ht, e, nd_brne]; done) | (simp (disch := omega) only [Int.toNat_natCast, Nat.mul_one, Nat.zero_add, ati hz, hdn, atd hq, ht, e, nd_brne]; with_reducible rfl))
              | (with_reducible apply go_ls; · first | with_reducible rfl | (simp (disch := omega) only [Int.toNat_natCast, Nat.mul_one, Nat.zero_add, ati hz, hdn, atd hq, ht, e, nd_brne]; done) | (simp (disch := omega) only [Int.toNat_natCast, Nat.mul_one, Nat.zero_add, ati hz, hdn, atd hq, ht, e, nd_brne]; with_reducible rfl))
              | (with_reducible apply go_agg; · first | with_reducible rfl | (simp (disch := omega) only [Int.toNat_natCast, Nat.mul_one, Nat.zero_add, ati hz, hdn, atd hq, ht, e, nd_brne]; done) | (simp (disch := omega) only [Int.toNat_natCast, Nat.mul_one, Nat.zero_add, ati hz, hdn, atd hq, ht, e, nd_brne]; with_reducible rfl))
              | (with_reducible apply go_opt; · first | with_reducible rfl | (simp (disch := omega) only [Int.toNat_natCast, Nat.mul_one, Nat.zero_add, ati hz, hdn, atd hq, ht, e, nd_brne]; done) | (simp (disch := omega) only [Int.toNat_natCast, Nat.mul_one, Nat.zero_add, ati hz, hdn, atd hq, ht, e, nd_brne]; with_reducible rfl))
              | (with_reducible apply go_chk; · first | with_reducible rfl | omega | (simp (disch := omega) only [Bool.and_eq_true, decide_eq_true_eq, beq_iff_eq, bne_iff_ne, Bool.not_eq_true', true_and, and_true, Int.toNat_natCast, Nat.mul_one, Nat.zero_add, ati hz, hdn, atd hq, ht, e, nd_brne]; done) | (simp (disch := omega) only [Bool.and_eq_true, decide_eq_true_eq, beq_iff_eq, bne_iff_ne, ne_eq, Bool.not_eq_true', true_and, and_true, Int.toNat_natCast, Nat.mul_one, Nat.zero_add, ati hz, hdn, atd hq, ht, e, nd_brne] <;> omega))
              | (with_reducible apply go_call; · first | with_reducible rfl | (simp (disch := omega) only [Int.toNat_natCast, Nat.mul_one, Nat.zero_add, ati hz, hdn, atd hq, ht, e, nd_brne]; done) | (simp (disch := omega) only [Int.toNat_natCast, Nat.mul_one, Nat.zero_add, ati hz, hdn, atd hq, ht, e, nd_brne]; with_reducible rfl))
              | (with_reducible apply go_brT; · first | with_reducible rfl | omega | (simp (disch := omega) only [Bool.and_eq_true, decide_eq_true_eq, beq_iff_eq, bne_iff_ne, Bool.not_eq_true', true_and, and_true, Int.toNat_natCast, Nat.mul_one, Nat.zero_add, ati hz, hdn, atd hq, ht, e, nd_brne]; done) | (simp (disch := omega) only [Bool.and_eq_true, decide_eq_true_eq, beq_iff_eq, bne_iff_ne, ne_eq, Bool.not_eq_true', true_and, and_true, Int.toNat_natCast, Nat.mul_one, Nat.zero_add, ati hz, hdn, atd hq, ht, e, nd_brne] <;> omega))
              | (with_reducible apply go_brF; · first | with_reducible rfl | (simp (disch := omega) only [decide_eq_false_iff_not, beq_eq_false_iff_ne, bne_eq_false_iff_eq, Bool.not_eq_false', Int.toNat_natCast, Nat.mul_one, Nat.zero_add, ati hz, hdn, atd hq, ht, e, nd_brne]; done) | (simp (disch := omega) only [decide_eq_false_iff_not, beq_eq_false_iff_ne, bne_eq_false_iff_eq, ne_eq, Bool.not_eq_false', Int.toNat_natCast, Nat.mul_one, Nat.zero_add, ati hz, hdn, atd hq, ht, e, nd_brne] <;> omega))
            try simp (disch := omega) only [Int.toNat_natCast, Nat.mul_one, Nat.zero_add, ati hz, hdn, atd hq, ht, e, nd_brne]
            exact ih _ _ inv
          · have hb := ok_bounds hok
            have e := take_one htag hok
            rw [← h0] at e
            by_cases h4 : x.nx = x.to
            · rw [if_pos h4] at e
              unfold shareK
              repeat first
                | (with_reducible apply go_nil; · with_reducible rfl)
                | (with_reducible apply go_cons; · with_reducible rfl)
                | (with_reducible apply go_int; · first | with_reducible rfl | (simp (disch := omega) only [Int.toNat_natCast, Nat.mul_one, Nat.zero_add, ati hz, hdn, atd hq, ht, e, nd_brne]; done) | (simp (disch := omega) only [Int.toNat_natCast, Nat.mul_one, Nat.zero_add, ati hz, hdn, atd hq, ht, e, nd_brne]; with_reducible rfl))
                | (with_reducible apply go_bool; · first | with_reducible rfl | (simp (disch := omega) only [Int.toNat_natCast, Nat.mul_one, Nat.zero_add, ati hz, hdn, atd hq, ht, e, nd_brne]; done) | (simp (disch := omega) only [Int.toNat_natCast, Nat.mul_one, Nat.zero_add, ati hz, hdn, atd hq, ht, e, nd_brne]; with_reducible rfl))
                | (with_reducible apply go_str; · first | with_reducible rfl | (simp (disch := omega) only [Int.toNat_natCast, Nat.mul_one, Nat.zero_add, ati hz, hdn, atd hq, ht, e, nd_brne]; done) | (simp (disch := omega) only [Int.toNat_natCast, Nat.mul_one, Nat.zero_add, ati hz, hdn, atd hq, ht, e, nd_brne]; with_reducible rfl))
                | (with_reducible apply go_any; · first | with_reducible rfl | (simp (disch := omega) only [Int.toNat_natCast, Nat.mul_one, Nat.zero_add, ati hz, hdn, atd hq, ht, e, nd_brne]; done) | (simp (disch := omega) only [Int.toNat_natCast, Nat.mul_one, Nat.zero_add, ati hz, hdn, atd hq, ht, e, nd_brne]; with_reducible rfl))
                | (with_reducible apply go_ow; · first | with_reducible rfl | (simp (disch := omega) only [Int.toNat_natCast, Nat.mul_one, Nat.zero_add, ati hz, hdn, atd hq, ht, e, nd_brne]; done) | (simp (disch := omega) only [Int.toNat_natCast, Nat.mul_one, Nat.zero_add, ati hz, hdn, atd hq, ht, e, nd_brne]; with_reducible rfl))
                | (with_reducible apply go_ls; · first | with_reducible rfl | (simp (disch := omega) only [Int.toNat_natCast, Nat.mul_one, Nat.zero_add, ati hz, hdn, atd hq, ht, e, nd_brne]; done) | (simp (disch := omega) only [Int.toNat_natCast, Nat.mul_one, Nat.zero_add, ati hz, hdn, atd hq, ht, e, nd_brne]; with_reducible rfl))
                | (with_reducible apply go_agg; · first | with_reducible rfl | (simp (disch := omega) only [Int.toNat_natCast, Nat.mul_one, Nat.zero_add, ati hz, hdn, atd hq, ht, e, nd_brne]; done) | (simp (disch := omega) only [Int.toNat_natCast, Nat.mul_one, Nat.zero_add, ati hz, hdn, atd hq, ht, e, nd_brne]; with_reducible rfl))
                | (with_reducible apply go_opt; · first | with_reducible rfl | (simp (disch := omega) only [Int.toNat_natCast, Nat.mul_one, Nat.zero_add, ati hz, hdn, atd hq, ht, e, nd_brne]; done) | (simp (disch := omega) only [Int.toNat_natCast, Nat.mul_one, Nat.zero_add, ati hz, hdn, atd hq, ht, e, nd_brne]; with_reducible rfl))
                | (with_reducible apply go_chk; · first | with_reducible rfl | omega | (simp (disch := omega) only [Bool.and_eq_true, decide_eq_true_eq, beq_iff_eq, bne_iff_ne, Bool.not_eq_true', true_and, and_true, Int.toNat_natCast, Nat.mul_one, Nat.zero_add, ati hz, hdn, atd hq, ht, e, nd_brne]; done) | (simp (disch := omega) only [Bool.and_eq_true, decide_eq_true_eq, beq_iff_eq, bne_iff_ne, ne_eq, Bool.not_eq_true', true_and, and_true, Int.toNat_natCast, Nat.mul_one, Nat.zero_add, ati hz, hdn, atd hq, ht, e, nd_brne] <;> omega))
                | (with_reducible apply go_call; · first | with_reducible rfl | (simp (disch := omega) only [Int.toNat_natCast, Nat.mul_one, Nat.zero_add, ati hz, hdn, atd hq, ht, e, nd_brne]; done) | (simp (disch := omega) only [Int.toNat_natCast, Nat.mul_one, Nat.zero_add, ati hz, hdn, atd hq, ht, e, nd_brne]; with_reducible rfl))
                | (with_reducible apply go_brT; · first | with_reducible rfl | omega | (simp (disch := omega) only [Bool.and_eq_true, decide_eq_true_eq, beq_iff_eq, bne_iff_ne, Bool.not_eq_true', true_and, and_true, Int.toNat_natCast, Nat.mul_one, Nat.zero_add, ati hz, hdn, atd hq, ht, e, nd_brne]; done) | (simp (disch := omega) only [Bool.and_eq_true, decide_eq_true_eq, beq_iff_eq, bne_iff_ne, ne_eq, Bool.not_eq_true', true_and, and_true, Int.toNat_natCast, Nat.mul_one, Nat.zero_add, ati hz, hdn, atd hq, ht, e, nd_brne] <;> omega))
                | (with_reducible apply go_brF; · first | with_reducible rfl | (simp (disch := omega) only [decide_eq_false_iff_not, beq_eq_false_iff_ne, bne_eq_false_iff_eq, Bool.not_eq_false', Int.toNat_natCast, Nat.mul_one, Nat.zero_add, ati hz, hdn, atd hq, ht, e, nd_brne]; done) | (simp (disch := omega) only [decide_eq_false_iff_not, beq_eq_false_iff_ne, bne_eq_false_iff_eq, ne_eq, Bool.not_eq_false', Int.toNat_natCast, Nat.mul_one, Nat.zero_add, ati hz, hdn, atd hq, ht, e, nd_brne] <;> omega))
              try simp (disch := omega) only [Int.toNat_natCast, Nat.mul_one, Nat.zero_add, ati hz, hdn, atd hq, ht, e, nd_brne]
              exact ih _ _ inv
            · rw [if_neg h4] at e
              obtain ⟨ln, hln⟩ := Int.eq_ofNat_of_zero_le (show 0 ≤ x.nx by omega)
              have hlt : x.nx.toNat = ln := by omega
              have hhas : has q.2 ln := ⟨x, by rw [h0]; simp, by omega, by omega⟩
              have hu := inv.fresh dn q ln hq hhas
              have e2 := tk [{ x with nx := x.nx + 1 }]
              have e3 := encL_len [{ x with nx := x.nx + 1 }]
              simp only [List.length_cons, List.length_nil, Nat.zero_add] at e2 e3
              have e4 := setd hq false [{ x with nx := x.nx + 1 }]
              simp only [List.length_cons, List.length_nil, Nat.zero_add] at e4
              unfold shareK
              repeat first
                | (with_reducible apply go_nil; · with_reducible rfl)
                | (with_reducible apply go_cons; · with_reducible rfl)
                | (with_reducible apply go_int; · first | with_reducible rfl | (simp (disch := omega) only [Int.toNat_natCast, Nat.mul_one, Nat.zero_add, ati hz, hdn, atd hq, ht, e, nd_brne, List.length_cons, List.length_nil, hlt, atb hu, setb hu, e2, e4]; done) | (simp (disch := omega) only [Int.toNat_natCast, Nat.mul_one, Nat.zero_add, ati hz, hdn, atd hq, ht, e, nd_brne, List.length_cons, List.length_nil, hlt, atb hu, setb hu, e2, e4]; with_reducible rfl))
                | (with_reducible apply go_bool; · first | with_reducible rfl | (simp (disch := omega) only [Int.toNat_natCast, Nat.mul_one, Nat.zero_add, ati hz, hdn, atd hq, ht, e, nd_brne, List.length_cons, List.length_nil, hlt, atb hu, setb hu, e2, e4]; done) | (simp (disch := omega) only [Int.toNat_natCast, Nat.mul_one, Nat.zero_add, ati hz, hdn, atd hq, ht, e, nd_brne, List.length_cons, List.length_nil, hlt, atb hu, setb hu, e2, e4]; with_reducible rfl))
                | (with_reducible apply go_str; · first | with_reducible rfl | (simp (disch := omega) only [Int.toNat_natCast, Nat.mul_one, Nat.zero_add, ati hz, hdn, atd hq, ht, e, nd_brne, List.length_cons, List.length_nil, hlt, atb hu, setb hu, e2, e4]; done) | (simp (disch := omega) only [Int.toNat_natCast, Nat.mul_one, Nat.zero_add, ati hz, hdn, atd hq, ht, e, nd_brne, List.length_cons, List.length_nil, hlt, atb hu, setb hu, e2, e4]; with_reducible rfl))
                | (with_reducible apply go_any; · first | with_reducible rfl | (simp (disch := omega) only [Int.toNat_natCast, Nat.mul_one, Nat.zero_add, ati hz, hdn, atd hq, ht, e, nd_brne, List.length_cons, List.length_nil, hlt, atb hu, setb hu, e2, e4]; done) | (simp (disch := omega) only [Int.toNat_natCast, Nat.mul_one, Nat.zero_add, ati hz, hdn, atd hq, ht, e, nd_brne, List.length_cons, List.length_nil, hlt, atb hu, setb hu, e2, e4]; with_reducible rfl))
                | (with_reducible apply go_ow; · first | with_reducible rfl | (simp (disch := omega) only [Int.toNat_natCast, Nat.mul_one, Nat.zero_add, ati hz, hdn, atd hq, ht, e, nd_brne, List.length_cons, List.length_nil, hlt, atb hu, setb hu, e2, e4]; done) | (simp (disch := omega) only [Int.toNat_natCast, Nat.mul_one, Nat.zero_add, ati hz, hdn, atd hq, ht, e, nd_brne, List.length_cons, List.length_nil, hlt, atb hu, setb hu, e2, e4]; with_reducible rfl))
                | (with_reducible apply go_ls; · first | with_reducible rfl | (simp (disch := omega) only [Int.toNat_natCast, Nat.mul_one, Nat.zero_add, ati hz, hdn, atd hq, ht, e, nd_brne, List.length_cons, List.length_nil, hlt, atb hu, setb hu, e2, e4]; done) | (simp (disch := omega) only [Int.toNat_natCast, Nat.mul_one, Nat.zero_add, ati hz, hdn, atd hq, ht, e, nd_brne, List.length_cons, List.length_nil, hlt, atb hu, setb hu, e2, e4]; with_reducible rfl))
                | (with_reducible apply go_agg; · first | with_reducible rfl | (simp (disch := omega) only [Int.toNat_natCast, Nat.mul_one, Nat.zero_add, ati hz, hdn, atd hq, ht, e, nd_brne, List.length_cons, List.length_nil, hlt, atb hu, setb hu, e2, e4]; done) | (simp (disch := omega) only [Int.toNat_natCast, Nat.mul_one, Nat.zero_add, ati hz, hdn, atd hq, ht, e, nd_brne, List.length_cons, List.length_nil, hlt, atb hu, setb hu, e2, e4]; with_reducible rfl))
                | (with_reducible apply go_opt; · first | with_reducible rfl | (simp (disch := omega) only [Int.toNat_natCast, Nat.mul_one, Nat.zero_add, ati hz, hdn, atd hq, ht, e, nd_brne, List.length_cons, List.length_nil, hlt, atb hu, setb hu, e2, e4]; done) | (simp (disch := omega) only [Int.toNat_natCast, Nat.mul_one, Nat.zero_add, ati hz, hdn, atd hq, ht, e, nd_brne, List.length_cons, List.length_nil, hlt, atb hu, setb hu, e2, e4]; with_reducible rfl))
                | (with_reducible apply go_chk; · first | with_reducible rfl | omega | (simp (disch := omega) only [Bool.and_eq_true, decide_eq_true_eq, beq_iff_eq, bne_iff_ne, Bool.not_eq_true', true_and, and_true, Int.toNat_natCast, Nat.mul_one, Nat.zero_add, ati hz, hdn, atd hq, ht, e, nd_brne, List.length_cons, List.length_nil, hlt, atb hu, setb hu, e2, e4]; done) | (simp (disch := omega) only [Bool.and_eq_true, decide_eq_true_eq, beq_iff_eq, bne_iff_ne, ne_eq, Bool.not_eq_true', true_and, and_true, Int.toNat_natCast, Nat.mul_one, Nat.zero_add, ati hz, hdn, atd hq, ht, e, nd_brne, List.length_cons, List.length_nil, hlt, atb hu, setb hu, e2, e4] <;> omega))
                | (with_reducible apply go_call; · first | with_reducible rfl | (simp (disch := omega) only [Int.toNat_natCast, Nat.mul_one, Nat.zero_add, ati hz, hdn, atd hq, ht, e, nd_brne, List.length_cons, List.length_nil, hlt, atb hu, setb hu, e2, e4]; done) | (simp (disch := omega) only [Int.toNat_natCast, Nat.mul_one, Nat.zero_add, ati hz, hdn, atd hq, ht, e, nd_brne, List.length_cons, List.length_nil, hlt, atb hu, setb hu, e2, e4]; with_reducible rfl))
                | (with_reducible apply go_brT; · first | with_reducible rfl | omega | (simp (disch := omega) only [Bool.and_eq_true, decide_eq_true_eq, beq_iff_eq, bne_iff_ne, Bool.not_eq_true', true_and, and_true, Int.toNat_natCast, Nat.mul_one, Nat.zero_add, ati hz, hdn, atd hq, ht, e, nd_brne, List.length_cons, List.length_nil, hlt, atb hu, setb hu, e2, e4]; done) | (simp (disch := omega) only [Bool.and_eq_true, decide_eq_true_eq, beq_iff_eq, bne_iff_ne, ne_eq, Bool.not_eq_true', true_and, and_true, Int.toNat_natCast, Nat.mul_one, Nat.zero_add, ati hz, hdn, atd hq, ht, e, nd_brne, List.length_cons, List.length_nil, hlt, atb hu, setb hu, e2, e4] <;> omega))
                | (with_reducible apply go_brF; · first | with_reducible rfl | (simp (disch := omega) only [decide_eq_false_iff_not, beq_eq_false_iff_ne, bne_eq_false_iff_eq, Bool.not_eq_false', Int.toNat_natCast, Nat.mul_one, Nat.zero_add, ati hz, hdn, atd hq, ht, e, nd_brne, List.length_cons, List.length_nil, hlt, atb hu, setb hu, e2, e4]; done) | (simp (disch := omega) only [decide_eq_false_iff_not, beq_eq_false_iff_ne, bne_eq_false_iff_eq, ne_eq, Bool.not_eq_false', Int.toNat_natCast, Nat.mul_one, Nat.zero_add, ati hz, hdn, atd hq, ht, e, nd_brne, List.length_cons, List.length_nil, hlt, atb hu, setb hu, e2, e4] <;> omega))
              try simp (disch := omega) only [Int.toNat_natCast, Nat.mul_one, Nat.zero_add, ati hz, hdn, atd hq, ht, e, nd_brne, List.length_cons, List.length_nil, hlt, atb hu, setb hu, e2, e4]
              refine ih _ _ (Inv.use (inv.shrink (r := [{ x with nx := x.nx + 1 }]) hq (.inr ⟨{ x with nx := x.nx + 1 }, rfl, htag, ok_of (by show 0 ≤ x.fr; omega) (by show x.fr ≤ x.nx + 1; omega) (by show x.nx + 1 ≤ x.to; omega) (by show x.to ≤ 16; omega)⟩) ?_) ?_)
              · rintro n ⟨y, hy, h5, h6⟩
                simp at hy
                subst hy
                exact ⟨x, by rw [h0]; simp, by simp at h5; omega, by simpa using h6⟩
              · intro j p hp hh
                rcases set_get (getElem_lt hq) hp with ⟨rfl, rfl⟩ | ⟨hne, hp⟩
                · obtain ⟨y, hy, h5, h6⟩ := hh
                  simp at hy
                  subst hy
                  simp at h5
                  omega
                · exact hne (inv.disj j dn p q ln hp hq hh hhas)
        · have bn := iand_bounds (a := ishr .i64 (iand .i64 z 65535) 4) (m := 3) (by omega) (by omega)
          have hw : IntKind.wrap .i64 (1 + iand .i64 (ishr .i64 (iand .i64 z 65535) 4) 3) = 1 + iand .i64 (ishr .i64 (iand .i64 z 65535) 4) 3 := wrap_i64 (by omega) (by omega)
          generalize hcnt : 1 + iand .i64 (ishr .i64 (iand .i64 z 65535) 4) 3 = cnt at hw
          have hc1 : 1 ≤ cnt := by omega
          have hp := part_eq (fu := fu) (d := d + 1) (l := q.2) (by simp only [maxLen]; omega) (by omega) 9 cnt
          rcases hone with h0 | ⟨x, h0, htag, hok⟩
          · have e := part_nil cnt
            rw [← h0] at e
            unfold shareK
            repeat first
              | (with_reducible apply go_nil; · with_reducible rfl)
              | (with_reducible apply go_cons; · with_reducible rfl)
              | (with_reducible apply go_int; · first | with_reducible rfl | (simp (disch := omega) only [Int.toNat_natCast, Nat.mul_one, Nat.zero_add, ati hz, hdn, atd hq, hcnt, hw, hp, e, nd_brne]; done) | (simp (disch := omega) only [Int.toNat_natCast, Nat.mul_one, Nat.zero_add, ati hz, hdn, atd hq, hcnt, hw, hp, e, nd_brne]; with_reducible rfl))
              | (with_reducible apply go_bool; · first | with_reducible rfl | (simp (disch := omega) only [Int.toNat_natCast, Nat.mul_one, Nat.zero_add, ati hz, hdn, atd hq, hcnt, hw, hp, e, nd_brne]; done) | (simp (disch := omega) only [Int.toNat_natCast, Nat.mul_one, Nat.zero_add, ati hz, hdn, atd hq, hcnt, hw, hp, e, nd_brne]; with_reducible rfl))
              | (with_reducible apply go_str; · first | with_reducible rfl | (simp (disch := omega) only [Int.toNat_natCast, Nat.mul_one, Nat.zero_add, ati hz, hdn, atd hq, hcnt, hw, hp, e, nd_brne]; done) | (simp (disch := omega) only [Int.toNat_natCast, Nat.mul_one, Nat.zero_add, ati hz, hdn, atd hq, hcnt, hw, hp, e, nd_brne]; with_reducible rfl))
              | (with_reducible apply go_any; · first | with_reducible rfl | (simp (disch := omega) only [Int.toNat_natCast, Nat.mul_one, Nat.zero_add, ati hz, hdn, atd hq, hcnt, hw, hp, e, nd_brne]; done) | (simp (disch := omega) only [Int.toNat_natCast, Nat.mul_one, Nat.zero_add, ati hz, hdn, atd hq, hcnt, hw, hp, e, nd_brne]; with_reducible rfl))
              | (with_reducible apply go_ow; · first | with_reducible rfl | (simp (disch := omega) only [Int.toNat_natCast, Nat.mul_one, Nat.zero_add, ati hz, hdn, atd hq, hcnt, hw, hp, e, nd_brne]; done) | (simp (disch := omega) only [Int.toNat_natCast, Nat.mul_one, Nat.zero_add, ati hz, hdn, atd hq, hcnt, hw, hp, e, nd_brne]; with_reducible rfl))
              | (with_reducible apply go_ls; · first | with_reducible rfl | (simp (disch := omega) only [Int.toNat_natCast, Nat.mul_one, Nat.zero_add, ati hz, hdn, atd hq, hcnt, hw, hp, e, nd_brne]; done) | (simp (disch := omega) only [Int.toNat_natCast, Nat.mul_one, Nat.zero_add, ati hz, hdn, atd hq, hcnt, hw, hp, e, nd_brne]; with_reducible rfl))
              | (with_reducible apply go_agg; · first | with_reducible rfl | (simp (disch := omega) only [Int.toNat_natCast, Nat.mul_one, Nat.zero_add, ati hz, hdn, atd hq, hcnt, hw, hp, e, nd_brne]; done) | (simp (disch := omega) only [Int.toNat_natCast, Nat.mul_one, Nat.zero_add, ati hz, hdn, atd hq, hcnt, hw, hp, e, nd_brne]; with_reducible rfl))
              | (with_reducible apply go_opt; · first | with_reducible rfl | (simp (disch := omega) only [Int.toNat_natCast, Nat.mul_one, Nat.zero_add, ati hz, hdn, atd hq, hcnt, hw, hp, e, nd_brne]; done) | (simp (disch := omega) only [Int.toNat_natCast, Nat.mul_one, Nat.zero_add, ati hz, hdn, atd hq, hcnt, hw, hp, e, nd_brne]; with_reducible rfl))
              | (with_reducible apply go_chk; · first | with_reducible rfl | omega | (simp (disch := omega) only [Bool.and_eq_true, decide_eq_true_eq, beq_iff_eq, bne_iff_ne, Bool.not_eq_true', true_and, and_true, Int.toNat_natCast, Nat.mul_one, Nat.zero_add, ati hz, hdn, atd hq, hcnt, hw, hp, e, nd_brne]; done) | (simp (disch := omega) only [Bool.and_eq_true, decide_eq_true_eq, beq_iff_eq, bne_iff_ne, ne_eq, Bool.not_eq_true', true_and, and_true, Int.toNat_natCast, Nat.mul_one, Nat.zero_add, ati hz, hdn, atd hq, hcnt, hw, hp, e, nd_brne] <;> omega))
              | (with_reducible apply go_call; · first | with_reducible rfl | (simp (disch := omega) only [Int.toNat_natCast, Nat.mul_one, Nat.zero_add, ati hz, hdn, atd hq, hcnt, hw, hp, e, nd_brne]; done) | (simp (disch := omega) only [Int.toNat_natCast, Nat.mul_one, Nat.zero_add, ati hz, hdn, atd hq, hcnt, hw, hp, e, nd_brne]; with_reducible rfl))
              | (with_reducible apply go_brT; · first | with_reducible rfl | omega | (simp (disch := omega) only [Bool.and_eq_true, decide_eq_true_eq, beq_iff_eq, bne_iff_ne, Bool.not_eq_true', true_and, and_true, Int.toNat_natCast, Nat.mul_one, Nat.zero_add, ati hz, hdn, atd hq, hcnt, hw, hp, e, nd_brne]; done) | (simp (disch := omega) only [Bool.and_eq_true, decide_eq_true_eq, beq_iff_eq, bne_iff_ne, ne_eq, Bool.not_eq_true', true_and, and_true, Int.toNat_natCast, Nat.mul_one, Nat.zero_add, ati hz, hdn, atd hq, hcnt, hw, hp, e, nd_brne] <;> omega))
              | (with_reducible apply go_brF; · first | with_reducible rfl | (simp (disch := omega) only [decide_eq_false_iff_not, beq_eq_false_iff_ne, bne_eq_false_iff_eq, Bool.not_eq_false', Int.toNat_natCast, Nat.mul_one, Nat.zero_add, ati hz, hdn, atd hq, hcnt, hw, hp, e, nd_brne]; done) | (simp (disch := omega) only [decide_eq_false_iff_not, beq_eq_false_iff_ne, bne_eq_false_iff_eq, ne_eq, Bool.not_eq_false', Int.toNat_natCast, Nat.mul_one, Nat.zero_add, ati hz, hdn, atd hq, hcnt, hw, hp, e, nd_brne] <;> omega))
            try simp (disch := omega) only [Int.toNat_natCast, Nat.mul_one, Nat.zero_add, ati hz, hdn, atd hq, hcnt, hw, hp, e, nd_brne]
            exact ih _ _ inv
          · have hb := ok_bounds hok
            have e := part_one htag hok hc1
            rw [← h0] at e
            by_cases h4 : x.to - x.nx < cnt
            · rw [if_pos h4] at e
              unfold shareK
              repeat first
                | (with_reducible apply go_nil; · with_reducible rfl)
                | (with_reducible apply go_cons; · with_reducible rfl)
                | (with_reducible apply go_int; · first | with_reducible rfl | (simp (disch := omega) only [Int.toNat_natCast, Nat.mul_one, Nat.zero_add, ati hz, hdn, atd hq, hcnt, hw, hp, e, nd_brne]; done) | (simp (disch := omega) only [Int.toNat_natCast, Nat.mul_one, Nat.zero_add, ati hz, hdn, atd hq, hcnt, hw, hp, e, nd_brne]; with_reducible rfl))
                | (with_reducible apply go_bool; · first | with_reducible rfl | (simp (disch := omega) only [Int.toNat_natCast, Nat.mul_one, Nat.zero_add, ati hz, hdn, atd hq, hcnt, hw, hp, e, nd_brne]; done) | (simp (disch := omega) only [Int.toNat_natCast, Nat.mul_one, Nat.zero_add, ati hz, hdn, atd hq, hcnt, hw, hp, e, nd_brne]; with_reducible rfl))
                | (with_reducible apply go_str; · first | with_reducible rfl | (simp (disch := omega) only [Int.toNat_natCast, Nat.mul_one, Nat.zero_add, ati hz, hdn, atd hq, hcnt, hw, hp, e, nd_brne]; done) | (simp (disch := omega) only [Int.toNat_natCast, Nat.mul_one, Nat.zero_add, ati hz, hdn, atd hq, hcnt, hw, hp, e, nd_brne]; with_reducible rfl))
                | (with_reducible apply go_any; · first | with_reducible rfl | (simp (disch := omega) only [Int.toNat_natCast, Nat.mul_one, Nat.zero_add, ati hz, hdn, atd hq, hcnt, hw, hp, e, nd_brne]; done) | (simp (disch := omega) only [Int.toNat_natCast, Nat.mul_one, Nat.zero_add, ati hz, hdn, atd hq, hcnt, hw, hp, e, nd_brne]; with_reducible rfl))
                | (with_reducible apply go_ow; · first | with_reducible rfl | (simp (disch := omega) only [Int.toNat_natCast, Nat.mul_one, Nat.zero_add, ati hz, hdn, atd hq, hcnt, hw, hp, e, nd_brne]; done) | (simp (disch := omega) only [Int.toNat_natCast, Nat.mul_one, Nat.zero_add, ati hz, hdn, atd hq, hcnt, hw, hp, e, nd_brne]; with_reducible rfl))
                | (with_reducible apply go_ls; · first | with_reducible rfl | (simp (disch := omega) only [Int.toNat_natCast, Nat.mul_one, Nat.zero_add, ati hz, hdn, atd hq, hcnt, hw, hp, e, nd_brne]; done) | (simp (disch := omega) only [Int.toNat_natCast, Nat.mul_one, Nat.zero_add, ati hz, hdn, atd hq, hcnt, hw, hp, e, nd_brne]; with_reducible rfl))
                | (with_reducible apply go_agg; · first | with_reducible rfl | (simp (disch := omega) only [Int.toNat_natCast, Nat.mul_one, Nat.zero_add, ati hz, hdn, atd hq, hcnt, hw, hp, e, nd_brne]; done) | (simp (disch := omega) only [Int.toNat_natCast, Nat.mul_one, Nat.zero_add, ati hz, hdn, atd hq, hcnt, hw, hp, e, nd_brne]; with_reducible rfl))
                | (with_reducible apply go_opt; · first | with_reducible rfl | (simp (disch := omega) only [Int.toNat_natCast, Nat.mul_one, Nat.zero_add, ati hz, hdn, atd hq, hcnt, hw, hp, e, nd_brne]; done) | (simp (disch := omega) only [Int.toNat_natCast, Nat.mul_one, Nat.zero_add, ati hz, hdn, atd hq, hcnt, hw, hp, e, nd_brne]; with_reducible rfl))
                | (with_reducible apply go_chk; · first | with_reducible rfl | omega | (simp (disch := omega) only [Bool.and_eq_true, decide_eq_true_eq, beq_iff_eq, bne_iff_ne, Bool.not_eq_true', true_and, and_true, Int.toNat_natCast, Nat.mul_one, Nat.zero_add, ati hz, hdn, atd hq, hcnt, hw, hp, e, nd_brne]; done) | (simp (disch := omega) only [Bool.and_eq_true, decide_eq_true_eq, beq_iff_eq, bne_iff_ne, ne_eq, Bool.not_eq_true', true_and, and_true, Int.toNat_natCast, Nat.mul_one, Nat.zero_add, ati hz, hdn, atd hq, hcnt, hw, hp, e, nd_brne] <;> omega))
                | (with_reducible apply go_call; · first | with_reducible rfl | (simp (disch := omega) only [Int.toNat_natCast, Nat.mul_one, Nat.zero_add, ati hz, hdn, atd hq, hcnt, hw, hp, e, nd_brne]; done) | (simp (disch := omega) only [Int.toNat_natCast, Nat.mul_one, Nat.zero_add, ati hz, hdn, atd hq, hcnt, hw, hp, e, nd_brne]; with_reducible rfl))
                | (with_reducible apply go_brT; · first | with_reducible rfl | omega | (simp (disch := omega) only [Bool.and_eq_true, decide_eq_true_eq, beq_iff_eq, bne_iff_ne, Bool.not_eq_true', true_and, and_true, Int.toNat_natCast, Nat.mul_one, Nat.zero_add, ati hz, hdn, atd hq, hcnt, hw, hp, e, nd_brne]; done) | (simp (disch := omega) only [Bool.and_eq_true, decide_eq_true_eq, beq_iff_eq, bne_iff_ne, ne_eq, Bool.not_eq_true', true_and, and_true, Int.toNat_natCast, Nat.mul_one, Nat.zero_add, ati hz, hdn, atd hq, hcnt, hw, hp, e, nd_brne] <;> omega))
                | (with_reducible apply go_brF; · first | with_reducible rfl | (simp (disch := omega) only [decide_eq_false_iff_not, beq_eq_false_iff_ne, bne_eq_false_iff_eq, Bool.not_eq_false', Int.toNat_natCast, Nat.mul_one, Nat.zero_add, ati hz, hdn, atd hq, hcnt, hw, hp, e, nd_brne]; done) | (simp (disch := omega) only [decide_eq_false_iff_not, beq_eq_false_iff_ne, bne_eq_false_iff_eq, ne_eq, Bool.not_eq_false', Int.toNat_natCast, Nat.mul_one, Nat.zero_add, ati hz, hdn, atd hq, hcnt, hw, hp, e, nd_brne] <;> omega))
              try simp (disch := omega) only [Int.toNat_natCast, Nat.mul_one, Nat.zero_add, ati hz, hdn, atd hq, hcnt, hw, hp, e, nd_brne]
              exact ih _ _ inv
            · rw [if_neg h4] at e
              have inv2 : Inv (devs.set dn (false, [{ x with to := x.to - cnt }])) used := inv.shrink hq (.inr ⟨_, rfl, htag, ok_of (by show 0 ≤ x.fr; omega) (by show x.fr ≤ x.nx; omega) (by show x.nx ≤ x.to - cnt; omega) (by show x.to - cnt ≤ 16; omega)⟩) (by
                rintro n ⟨y, hy, h5, h6⟩
                simp at hy
                subst hy
                exact ⟨x, by rw [h0]; simp, by simpa using h5, by simp at h6; omega⟩)
              have be := iand_bounds (a := ishr .i64 (iand .i64 z 65535) 6) (m := 3) (by omega) (by omega)
              obtain ⟨en, hen⟩ := Int.eq_ofNat_of_zero_le be.1
              have e2 := tk [{ x with to := x.to - cnt }]
              have e3 := encL_len [{ x with to := x.to - cnt }]
              simp only [List.length_cons, List.length_nil, Nat.zero_add] at e2 e3
              have e4 := setd hq false [{ x with to := x.to - cnt }]
              simp only [List.length_cons, List.length_nil, Nat.zero_add] at e4
              generalize hdevs : devs.set dn (false, [{ x with to := x.to - cnt }]) = devs2 at inv2 e4
              obtain ⟨r, hr⟩ : ∃ r, devs2[en]? = some r := ⟨_, List.getElem?_eq_getElem (by have := inv2.dl; omega)⟩
              have hcl2 : (devs2.flatMap dv).length = 4 := by rw [fm_len (k := 1) fun _ => rfl]; have := inv2.dl; omega
              have hro := inv2.one en r hr
              have hrl := one_len hro
              have hg := grant_eq (fu := fu) (d := d + 2) (l := r.2) (by simp only [maxLen]; omega) (by omega) ⟨9, x.to - cnt, x.to, x.to - cnt⟩
              simp only at hg
              rcases hro with hr0 | ⟨y, hr0, hyt, hyo⟩
              · have g := grant_nil (x := ⟨9, x.to - cnt, x.to, x.to - cnt⟩) (ok_of (by show 0 ≤ x.to - cnt; omega) (by show x.to - cnt ≤ x.to - cnt; omega) (by show x.to - cnt ≤ x.to; omega) (by show x.to ≤ 16; omega))
                have g : grantL r.2 ⟨9, x.to - cnt, x.to, x.to - cnt⟩ = ([⟨9, x.to - cnt, x.to, x.to - cnt⟩], 0) := by rw [hr0]; exact g
                have e5 := tk [⟨9, x.to - cnt, x.to, x.to - cnt⟩]
                have e6 := encL_len [⟨9, x.to - cnt, x.to, x.to - cnt⟩]
                simp only [List.length_cons, List.length_nil, Nat.zero_add] at e5 e6
                have e7 := setd hr false [⟨9, x.to - cnt, x.to, x.to - cnt⟩]
                simp only [List.length_cons, List.length_nil, Nat.zero_add] at e7
                have hgive : Inv (devs2.set en (false, [⟨9, x.to - cnt, x.to, x.to - cnt⟩])) used := by
                  refine inv2.give hr rfl (ok_of (by show 0 ≤ x.to - cnt; omega) (by show x.to - cnt ≤ x.to - cnt; omega) (by show x.to - cnt ≤ x.to; omega) (by show x.to ≤ 16; omega)) ?_
                  rintro n ⟨y, hy, h5, h6⟩
                  simp at hy
                  subst hy
                  simp at h5 h6
                  have hh : has q.2 n := ⟨x, by rw [h0]; simp, by omega, by omega⟩
                  refine ⟨fun j p hp hpn => ?_, inv.fresh dn q n hq hh⟩
                  rw [← hdevs] at hp
                  rcases set_get (getElem_lt hq) hp with ⟨rfl, rfl⟩ | ⟨hne, hp⟩
                  · obtain ⟨y, hy, h7, h8⟩ := hpn
                    simp at hy
                    subst hy
                    simp at h8
                    omega
                  · exact hne (inv.disj j dn p q n hp hq hpn hh)
                by_cases h8 : iand .i64 (ishr .i64 (iand .i64 z 65535) 8) 7 > 0
                · skip
                  unfold shareK
                  repeat first
                    | (with_reducible apply go_nil; · with_reducible rfl)
                    | (with_reducible apply go_cons; · with_reducible rfl)
                    | (with_reducible apply go_int; · first | with_reducible rfl | (simp (disch := omega) only [Int.toNat_natCast, Nat.mul_one, Nat.zero_add, ati hz, hdn, atd hq, hcnt, hw, hp, e, nd_brne, nd_breq, List.length_cons, List.length_nil, e2, e4, hen, atd hr, hg, g, e5, e7]; done) | (simp (disch := omega) only [Int.toNat_natCast, Nat.mul_one, Nat.zero_add, ati hz, hdn, atd hq, hcnt, hw, hp, e, nd_brne, nd_breq, List.length_cons, List.length_nil, e2, e4, hen, atd hr, hg, g, e5, e7]; with_reducible rfl))
                    | (with_reducible apply go_bool; · first | with_reducible rfl | (simp (disch := omega) only [Int.toNat_natCast, Nat.mul_one, Nat.zero_add, ati hz, hdn, atd hq, hcnt, hw, hp, e, nd_brne, nd_breq, List.length_cons, List.length_nil, e2, e4, hen, atd hr, hg, g, e5, e7]; done) | (simp (disch := omega) only [Int.toNat_natCast, Nat.mul_one, Nat.zero_add, ati hz, hdn, atd hq, hcnt, hw, hp, e, nd_brne, nd_breq, List.length_cons, List.length_nil, e2, e4, hen, atd hr, hg, g, e5, e7]; with_reducible rfl))
                    | (with_reducible apply go_str; · first | with_reducible rfl | (simp (disch := omega) only [Int.toNat_natCast, Nat.mul_one, Nat.zero_add, ati hz, hdn, atd hq, hcnt, hw, hp, e, nd_brne, nd_breq, List.length_cons, List.length_nil, e2, e4, hen, atd hr, hg, g, e5, e7]; done) | (simp (disch := omega) only [Int.toNat_natCast, Nat.mul_one, Nat.zero_add, ati hz, hdn, atd hq, hcnt, hw, hp, e, nd_brne, nd_breq, List.length_cons, List.length_nil, e2, e4, hen, atd hr, hg, g, e5, e7]; with_reducible rfl))
                    | (with_reducible apply go_any; · first | with_reducible rfl | (simp (disch := omega) only [Int.toNat_natCast, Nat.mul_one, Nat.zero_add, ati hz, hdn, atd hq, hcnt, hw, hp, e, nd_brne, nd_breq, List.length_cons, List.length_nil, e2, e4, hen, atd hr, hg, g, e5, e7]; done) | (simp (disch := omega) only [Int.toNat_natCast, Nat.mul_one, Nat.zero_add, ati hz, hdn, atd hq, hcnt, hw, hp, e, nd_brne, nd_breq, List.length_cons, List.length_nil, e2, e4, hen, atd hr, hg, g, e5, e7]; with_reducible rfl))
                    | (with_reducible apply go_ow; · first | with_reducible rfl | (simp (disch := omega) only [Int.toNat_natCast, Nat.mul_one, Nat.zero_add, ati hz, hdn, atd hq, hcnt, hw, hp, e, nd_brne, nd_breq, List.length_cons, List.length_nil, e2, e4, hen, atd hr, hg, g, e5, e7]; done) | (simp (disch := omega) only [Int.toNat_natCast, Nat.mul_one, Nat.zero_add, ati hz, hdn, atd hq, hcnt, hw, hp, e, nd_brne, nd_breq, List.length_cons, List.length_nil, e2, e4, hen, atd hr, hg, g, e5, e7]; with_reducible rfl))
                    | (with_reducible apply go_ls; · first | with_reducible rfl | (simp (disch := omega) only [Int.toNat_natCast, Nat.mul_one, Nat.zero_add, ati hz, hdn, atd hq, hcnt, hw, hp, e, nd_brne, nd_breq, List.length_cons, List.length_nil, e2, e4, hen, atd hr, hg, g, e5, e7]; done) | (simp (disch := omega) only [Int.toNat_natCast, Nat.mul_one, Nat.zero_add, ati hz, hdn, atd hq, hcnt, hw, hp, e, nd_brne, nd_breq, List.length_cons, List.length_nil, e2, e4, hen, atd hr, hg, g, e5, e7]; with_reducible rfl))
                    | (with_reducible apply go_agg; · first | with_reducible rfl | (simp (disch := omega) only [Int.toNat_natCast, Nat.mul_one, Nat.zero_add, ati hz, hdn, atd hq, hcnt, hw, hp, e, nd_brne, nd_breq, List.length_cons, List.length_nil, e2, e4, hen, atd hr, hg, g, e5, e7]; done) | (simp (disch := omega) only [Int.toNat_natCast, Nat.mul_one, Nat.zero_add, ati hz, hdn, atd hq, hcnt, hw, hp, e, nd_brne, nd_breq, List.length_cons, List.length_nil, e2, e4, hen, atd hr, hg, g, e5, e7]; with_reducible rfl))
                    | (with_reducible apply go_opt; · first | with_reducible rfl | (simp (disch := omega) only [Int.toNat_natCast, Nat.mul_one, Nat.zero_add, ati hz, hdn, atd hq, hcnt, hw, hp, e, nd_brne, nd_breq, List.length_cons, List.length_nil, e2, e4, hen, atd hr, hg, g, e5, e7]; done) | (simp (disch := omega) only [Int.toNat_natCast, Nat.mul_one, Nat.zero_add, ati hz, hdn, atd hq, hcnt, hw, hp, e, nd_brne, nd_breq, List.length_cons, List.length_nil, e2, e4, hen, atd hr, hg, g, e5, e7]; with_reducible rfl))
                    | (with_reducible apply go_chk; · first | with_reducible rfl | omega | (simp (disch := omega) only [Bool.and_eq_true, decide_eq_true_eq, beq_iff_eq, bne_iff_ne, Bool.not_eq_true', true_and, and_true, Int.toNat_natCast, Nat.mul_one, Nat.zero_add, ati hz, hdn, atd hq, hcnt, hw, hp, e, nd_brne, nd_breq, List.length_cons, List.length_nil, e2, e4, hen, atd hr, hg, g, e5, e7]; done) | (simp (disch := omega) only [Bool.and_eq_true, decide_eq_true_eq, beq_iff_eq, bne_iff_ne, ne_eq, Bool.not_eq_true', true_and, and_true, Int.toNat_natCast, Nat.mul_one, Nat.zero_add, ati hz, hdn, atd hq, hcnt, hw, hp, e, nd_brne, nd_breq, List.length_cons, List.length_nil, e2, e4, hen, atd hr, hg, g, e5, e7] <;> omega))
                    | (with_reducible apply go_call; · first | with_reducible rfl | (simp (disch := omega) only [Int.toNat_natCast, Nat.mul_one, Nat.zero_add, ati hz, hdn, atd hq, hcnt, hw, hp, e, nd_brne, nd_breq, List.length_cons, List.length_nil, e2, e4, hen, atd hr, hg, g, e5, e7]; done) | (simp (disch := omega) only [Int.toNat_natCast, Nat.mul_one, Nat.zero_add, ati hz, hdn, atd hq, hcnt, hw, hp, e, nd_brne, nd_breq, List.length_cons, List.length_nil, e2, e4, hen, atd hr, hg, g, e5, e7]; with_reducible rfl))
                    | (with_reducible apply go_brT; · first | with_reducible rfl | omega | (simp (disch := omega) only [Bool.and_eq_true, decide_eq_true_eq, beq_iff_eq, bne_iff_ne, Bool.not_eq_true', true_and, and_true, Int.toNat_natCast, Nat.mul_one, Nat.zero_add, ati hz, hdn, atd hq, hcnt, hw, hp, e, nd_brne, nd_breq, List.length_cons, List.length_nil, e2, e4, hen, atd hr, hg, g, e5, e7]; done) | (simp (disch := omega) only [Bool.and_eq_true, decide_eq_true_eq, beq_iff_eq, bne_iff_ne, ne_eq, Bool.not_eq_true', true_and, and_true, Int.toNat_natCast, Nat.mul_one, Nat.zero_add, ati hz, hdn, atd hq, hcnt, hw, hp, e, nd_brne, nd_breq, List.length_cons, List.length_nil, e2, e4, hen, atd hr, hg, g, e5, e7] <;> omega))
                    | (with_reducible apply go_brF; · first | with_reducible rfl | (simp (disch := omega) only [decide_eq_false_iff_not, beq_eq_false_iff_ne, bne_eq_false_iff_eq, Bool.not_eq_false', Int.toNat_natCast, Nat.mul_one, Nat.zero_add, ati hz, hdn, atd hq, hcnt, hw, hp, e, nd_brne, nd_breq, List.length_cons, List.length_nil, e2, e4, hen, atd hr, hg, g, e5, e7]; done) | (simp (disch := omega) only [decide_eq_false_iff_not, beq_eq_false_iff_ne, bne_eq_false_iff_eq, ne_eq, Bool.not_eq_false', Int.toNat_natCast, Nat.mul_one, Nat.zero_add, ati hz, hdn, atd hq, hcnt, hw, hp, e, nd_brne, nd_breq, List.length_cons, List.length_nil, e2, e4, hen, atd hr, hg, g, e5, e7] <;> omega))
                  try simp (disch := omega) only [Int.toNat_natCast, Nat.mul_one, Nat.zero_add, ati hz, hdn, atd hq, hcnt, hw, hp, e, nd_brne, nd_breq, List.length_cons, List.length_nil, e2, e4, hen, atd hr, hg, g, e5, e7]
                  exact ih _ _ hgive
                · skip
                  unfold shareK
                  repeat first
                    | (with_reducible apply go_nil; · with_reducible rfl)
                    | (with_reducible apply go_cons; · with_reducible rfl)
                    | (with_reducible apply go_int; · first | with_reducible rfl | (simp (disch := omega) only [Int.toNat_natCast, Nat.mul_one, Nat.zero_add, ati hz, hdn, atd hq, hcnt, hw, hp, e, nd_brne, nd_breq, List.length_cons, List.length_nil, e2, e4, hen, atd hr, hg, g, e5, e7]; done) | (simp (disch := omega) only [Int.toNat_natCast, Nat.mul_one, Nat.zero_add, ati hz, hdn, atd hq, hcnt, hw, hp, e, nd_brne, nd_breq, List.length_cons, List.length_nil, e2, e4, hen, atd hr, hg, g, e5, e7]; with_reducible rfl))
                    | (with_reducible apply go_bool; · first | with_reducible rfl | (simp (disch := omega) only [Int.toNat_natCast, Nat.mul_one, Nat.zero_add, ati hz, hdn, atd hq, hcnt, hw, hp, e, nd_brne, nd_breq, List.length_cons, List.length_nil, e2, e4, hen, atd hr, hg, g, e5, e7]; done) | (simp (disch := omega) only [Int.toNat_natCast, Nat.mul_one, Nat.zero_add, ati hz, hdn, atd hq, hcnt, hw, hp, e, nd_brne, nd_breq, List.length_cons, List.length_nil, e2, e4, hen, atd hr, hg, g, e5, e7]; with_reducible rfl))
                    | (with_reducible apply go_str; · first | with_reducible rfl | (simp (disch := omega) only [Int.toNat_natCast, Nat.mul_one, Nat.zero_add, ati hz, hdn, atd hq, hcnt, hw, hp, e, nd_brne, nd_breq, List.length_cons, List.length_nil, e2, e4, hen, atd hr, hg, g, e5, e7]; done) | (simp (disch := omega) only [Int.toNat_natCast, Nat.mul_one, Nat.zero_add, ati hz, hdn, atd hq, hcnt, hw, hp, e, nd_brne, nd_breq, List.length_cons, List.length_nil, e2, e4, hen, atd hr, hg, g, e5, e7]; with_reducible rfl))
                    | (with_reducible apply go_any; · first | with_reducible rfl | (simp (disch := omega) only [Int.toNat_natCast, Nat.mul_one, Nat.zero_add, ati hz, hdn, atd hq, hcnt, hw, hp, e, nd_brne, nd_breq, List.length_cons, List.length_nil, e2, e4, hen, atd hr, hg, g, e5, e7]; done) | (simp (disch := omega) only [Int.toNat_natCast, Nat.mul_one, Nat.zero_add, ati hz, hdn, atd hq, hcnt, hw, hp, e, nd_brne, nd_breq, List.length_cons, List.length_nil, e2, e4, hen, atd hr, hg, g, e5, e7]; with_reducible rfl))
                    | (with_reducible apply go_ow; · first | with_reducible rfl | (simp (disch := omega) only [Int.toNat_natCast, Nat.mul_one, Nat.zero_add, ati hz, hdn, atd hq, hcnt, hw, hp, e, nd_brne, nd_breq, List.length_cons, List.length_nil, e2, e4, hen, atd hr, hg, g, e5, e7]; done) | (simp (disch := omega) only [Int.toNat_natCast, Nat.mul_one, Nat.zero_add, ati hz, hdn, atd hq, hcnt, hw, hp, e, nd_brne, nd_breq, List.length_cons, List.length_nil, e2, e4, hen, atd hr, hg, g, e5, e7]; with_reducible rfl))
                    | (with_reducible apply go_ls; · first | with_reducible rfl | (simp (disch := omega) only [Int.toNat_natCast, Nat.mul_one, Nat.zero_add, ati hz, hdn, atd hq, hcnt, hw, hp, e, nd_brne, nd_breq, List.length_cons, List.length_nil, e2, e4, hen, atd hr, hg, g, e5, e7]; done) | (simp (disch := omega) only [Int.toNat_natCast, Nat.mul_one, Nat.zero_add, ati hz, hdn, atd hq, hcnt, hw, hp, e, nd_brne, nd_breq, List.length_cons, List.length_nil, e2, e4, hen, atd hr, hg, g, e5, e7]; with_reducible rfl))
                    | (with_reducible apply go_agg; · first | with_reducible rfl | (simp (disch := omega) only [Int.toNat_natCast, Nat.mul_one, Nat.zero_add, ati hz, hdn, atd hq, hcnt, hw, hp, e, nd_brne, nd_breq, List.length_cons, List.length_nil, e2, e4, hen, atd hr, hg, g, e5, e7]; done) | (simp (disch := omega) only [Int.toNat_natCast, Nat.mul_one, Nat.zero_add, ati hz, hdn, atd hq, hcnt, hw, hp, e, nd_brne, nd_breq, List.length_cons, List.length_nil, e2, e4, hen, atd hr, hg, g, e5, e7]; with_reducible rfl))
                    | (with_reducible apply go_opt; · first | with_reducible rfl | (simp (disch := omega) only [Int.toNat_natCast, Nat.mul_one, Nat.zero_add, ati hz, hdn, atd hq, hcnt, hw, hp, e, nd_brne, nd_breq, List.length_cons, List.length_nil, e2, e4, hen, atd hr, hg, g, e5, e7]; done) | (simp (disch := omega) only [Int.toNat_natCast, Nat.mul_one, Nat.zero_add, ati hz, hdn, atd hq, hcnt, hw, hp, e, nd_brne, nd_breq, List.length_cons, List.length_nil, e2, e4, hen, atd hr, hg, g, e5, e7]; with_reducible rfl))
                    | (with_reducible apply go_chk; · first | with_reducible rfl | omega | (simp (disch := omega) only [Bool.and_eq_true, decide_eq_true_eq, beq_iff_eq, bne_iff_ne, Bool.not_eq_true', true_and, and_true, Int.toNat_natCast, Nat.mul_one, Nat.zero_add, ati hz, hdn, atd hq, hcnt, hw, hp, e, nd_brne, nd_breq, List.length_cons, List.length_nil, e2, e4, hen, atd hr, hg, g, e5, e7]; done) | (simp (disch := omega) only [Bool.and_eq_true, decide_eq_true_eq, beq_iff_eq, bne_iff_ne, ne_eq, Bool.not_eq_true', true_and, and_true, Int.toNat_natCast, Nat.mul_one, Nat.zero_add, ati hz, hdn, atd hq, hcnt, hw, hp, e, nd_brne, nd_breq, List.length_cons, List.length_nil, e2, e4, hen, atd hr, hg, g, e5, e7] <;> omega))
                    | (with_reducible apply go_call; · first | with_reducible rfl | (simp (disch := omega) only [Int.toNat_natCast, Nat.mul_one, Nat.zero_add, ati hz, hdn, atd hq, hcnt, hw, hp, e, nd_brne, nd_breq, List.length_cons, List.length_nil, e2, e4, hen, atd hr, hg, g, e5, e7]; done) | (simp (disch := omega) only [Int.toNat_natCast, Nat.mul_one, Nat.zero_add, ati hz, hdn, atd hq, hcnt, hw, hp, e, nd_brne, nd_breq, List.length_cons, List.length_nil, e2, e4, hen, atd hr, hg, g, e5, e7]; with_reducible rfl))
                    | (with_reducible apply go_brT; · first | with_reducible rfl | omega | (simp (disch := omega) only [Bool.and_eq_true, decide_eq_true_eq, beq_iff_eq, bne_iff_ne, Bool.not_eq_true', true_and, and_true, Int.toNat_natCast, Nat.mul_one, Nat.zero_add, ati hz, hdn, atd hq, hcnt, hw, hp, e, nd_brne, nd_breq, List.length_cons, List.length_nil, e2, e4, hen, atd hr, hg, g, e5, e7]; done) | (simp (disch := omega) only [Bool.and_eq_true, decide_eq_true_eq, beq_iff_eq, bne_iff_ne, ne_eq, Bool.not_eq_true', true_and, and_true, Int.toNat_natCast, Nat.mul_one, Nat.zero_add, ati hz, hdn, atd hq, hcnt, hw, hp, e, nd_brne, nd_breq, List.length_cons, List.length_nil, e2, e4, hen, atd hr, hg, g, e5, e7] <;> omega))
                    | (with_reducible apply go_brF; · first | with_reducible rfl | (simp (disch := omega) only [decide_eq_false_iff_not, beq_eq_false_iff_ne, bne_eq_false_iff_eq, Bool.not_eq_false', Int.toNat_natCast, Nat.mul_one, Nat.zero_add, ati hz, hdn, atd hq, hcnt, hw, hp, e, nd_brne, nd_breq, List.length_cons, List.length_nil, e2, e4, hen, atd hr, hg, g, e5, e7]; done) | (simp (disch := omega) only [decide_eq_false_iff_not, beq_eq_false_iff_ne, bne_eq_false_iff_eq, ne_eq, Bool.not_eq_false', Int.toNat_natCast, Nat.mul_one, Nat.zero_add, ati hz, hdn, atd hq, hcnt, hw, hp, e, nd_brne, nd_breq, List.length_cons, List.length_nil, e2, e4, hen, atd hr, hg, g, e5, e7] <;> omega))
                  try simp (disch := omega) only [Int.toNat_natCast, Nat.mul_one, Nat.zero_add, ati hz, hdn, atd hq, hcnt, hw, hp, e, nd_brne, nd_breq, List.length_cons, List.length_nil, e2, e4, hen, atd hr, hg, g, e5, e7]
                  exact ih _ _ inv2
              · have g := grant_one hyt hyo (y := ⟨9, x.to - cnt, x.to, x.to - cnt⟩) rfl
                rw [← hr0] at g
                unfold shareK
                repeat first
                  | (with_reducible apply go_nil; · with_reducible rfl)
                  | (with_reducible apply go_cons; · with_reducible rfl)
                  | (with_reducible apply go_int; · first | with_reducible rfl | (simp (disch := omega) only [Int.toNat_natCast, Nat.mul_one, Nat.zero_add, ati hz, hdn, atd hq, hcnt, hw, hp, e, nd_brne, nd_breq, List.length_cons, List.length_nil, e2, e4, hen, atd hr, hg, if_neg g]; done) | (simp (disch := omega) only [Int.toNat_natCast, Nat.mul_one, Nat.zero_add, ati hz, hdn, atd hq, hcnt, hw, hp, e, nd_brne, nd_breq, List.length_cons, List.length_nil, e2, e4, hen, atd hr, hg, if_neg g]; with_reducible rfl))
                  | (with_reducible apply go_bool; · first | with_reducible rfl | (simp (disch := omega) only [Int.toNat_natCast, Nat.mul_one, Nat.zero_add, ati hz, hdn, atd hq, hcnt, hw, hp, e, nd_brne, nd_breq, List.length_cons, List.length_nil, e2, e4, hen, atd hr, hg, if_neg g]; done) | (simp (disch := omega) only [Int.toNat_natCast, Nat.mul_one, Nat.zero_add, ati hz, hdn, atd hq, hcnt, hw, hp, e, nd_brne, nd_breq, List.length_cons, List.length_nil, e2, e4, hen, atd hr, hg, if_neg g]; with_reducible rfl))
                  | (with_reducible apply go_str; · first | with_reducible rfl | (simp (disch := omega) only [Int.toNat_natCast, Nat.mul_one, Nat.zero_add, ati hz, hdn, atd hq, hcnt, hw, hp, e, nd_brne, nd_breq, List.length_cons, List.length_nil, e2, e4, hen, atd hr, hg, if_neg g]; done) | (simp (disch := omega) only [Int.toNat_natCast, Nat.mul_one, Nat.zero_add, ati hz, hdn, atd hq, hcnt, hw, hp, e, nd_brne, nd_breq, List.length_cons, List.length_nil, e2, e4, hen, atd hr, hg, if_neg g]; with_reducible rfl))
                  | (with_reducible apply go_any; · first | with_reducible rfl | (simp (disch := omega) only [Int.toNat_natCast, Nat.mul_one, Nat.zero_add, ati hz, hdn, atd hq, hcnt, hw, hp, e, nd_brne, nd_breq, List.length_cons, List.length_nil, e2, e4, hen, atd hr, hg, if_neg g]; done) | (simp (disch := omega) only [Int.toNat_natCast, Nat.mul_one, Nat.zero_add, ati hz, hdn, atd hq, hcnt, hw, hp, e, nd_brne, nd_breq, List.length_cons, List.length_nil, e2, e4, hen, atd hr, hg, if_neg g]; with_reducible rfl))
                  | (with_reducible apply go_ow; · first | with_reducible rfl | (simp (disch := omega) only [Int.toNat_natCast, Nat.mul_one, Nat.zero_add, ati hz, hdn, atd hq, hcnt, hw, hp, e, nd_brne, nd_breq, List.length_cons, List.length_nil, e2, e4, hen, atd hr, hg, if_neg g]; done) | (simp (disch := omega) only [Int.toNat_natCast, Nat.mul_one, Nat.zero_add, ati hz, hdn, atd hq, hcnt, hw, hp, e, nd_brne, nd_breq, List.length_cons, List.length_nil, e2, e4, hen, atd hr, hg, if_neg g]; with_reducible rfl))
                  | (with_reducible apply go_ls; · first | with_reducible rfl | (simp (disch := omega) only [Int.toNat_natCast, Nat.mul_one, Nat.zero_add, ati hz, hdn, atd hq, hcnt, hw, hp, e, nd_brne, nd_breq, List.length_cons, List.length_nil, e2, e4, hen, atd hr, hg, if_neg g]; done) | (simp (disch := omega) only [Int.toNat_natCast, Nat.mul_one, Nat.zero_add, ati hz, hdn, atd hq, hcnt, hw, hp, e, nd_brne, nd_breq, List.length_cons, List.length_nil, e2, e4, hen, atd hr, hg, if_neg g]; with_reducible rfl))
                  | (with_reducible apply go_agg; · first | with_reducible rfl | (simp (disch := omega) only [Int.toNat_natCast, Nat.mul_one, Nat.zero_add, ati hz, hdn, atd hq, hcnt, hw, hp, e, nd_brne, nd_breq, List.length_cons, List.length_nil, e2, e4, hen, atd hr, hg, if_neg g]; done) | (simp (disch := omega) only [Int.toNat_natCast, Nat.mul_one, Nat.zero_add, ati hz, hdn, atd hq, hcnt, hw, hp, e, nd_brne, nd_breq, List.length_cons, List.length_nil, e2, e4, hen, atd hr, hg, if_neg g]; with_reducible rfl))
                  | (with_reducible apply go_opt; · first | with_reducible rfl | (simp (disch := omega) only [Int.toNat_natCast, Nat.mul_one, Nat.zero_add, ati hz, hdn, atd hq, hcnt, hw, hp, e, nd_brne, nd_breq, List.length_cons, List.length_nil, e2, e4, hen, atd hr, hg, if_neg g]; done) | (simp (disch := omega) only [Int.toNat_natCast, Nat.mul_one, Nat.zero_add, ati hz, hdn, atd hq, hcnt, hw, hp, e, nd_brne, nd_breq, List.length_cons, List.length_nil, e2, e4, hen, atd hr, hg, if_neg g]; with_reducible rfl))
                  | (with_reducible apply go_chk; · first | with_reducible rfl | omega | (simp (disch := omega) only [Bool.and_eq_true, decide_eq_true_eq, beq_iff_eq, bne_iff_ne, Bool.not_eq_true', true_and, and_true, Int.toNat_natCast, Nat.mul_one, Nat.zero_add, ati hz, hdn, atd hq, hcnt, hw, hp, e, nd_brne, nd_breq, List.length_cons, List.length_nil, e2, e4, hen, atd hr, hg, if_neg g]; done) | (simp (disch := omega) only [Bool.and_eq_true, decide_eq_true_eq, beq_iff_eq, bne_iff_ne, ne_eq, Bool.not_eq_true', true_and, and_true, Int.toNat_natCast, Nat.mul_one, Nat.zero_add, ati hz, hdn, atd hq, hcnt, hw, hp, e, nd_brne, nd_breq, List.length_cons, List.length_nil, e2, e4, hen, atd hr, hg, if_neg g] <;> omega))
                  | (with_reducible apply go_call; · first | with_reducible rfl | (simp (disch := omega) only [Int.toNat_natCast, Nat.mul_one, Nat.zero_add, ati hz, hdn, atd hq, hcnt, hw, hp, e, nd_brne, nd_breq, List.length_cons, List.length_nil, e2, e4, hen, atd hr, hg, if_neg g]; done) | (simp (disch := omega) only [Int.toNat_natCast, Nat.mul_one, Nat.zero_add, ati hz, hdn, atd hq, hcnt, hw, hp, e, nd_brne, nd_breq, List.length_cons, List.length_nil, e2, e4, hen, atd hr, hg, if_neg g]; with_reducible rfl))
                  | (with_reducible apply go_brT; · first | with_reducible rfl | omega | (simp (disch := omega) only [Bool.and_eq_true, decide_eq_true_eq, beq_iff_eq, bne_iff_ne, Bool.not_eq_true', true_and, and_true, Int.toNat_natCast, Nat.mul_one, Nat.zero_add, ati hz, hdn, atd hq, hcnt, hw, hp, e, nd_brne, nd_breq, List.length_cons, List.length_nil, e2, e4, hen, atd hr, hg, if_neg g]; done) | (simp (disch := omega) only [Bool.and_eq_true, decide_eq_true_eq, beq_iff_eq, bne_iff_ne, ne_eq, Bool.not_eq_true', true_and, and_true, Int.toNat_natCast, Nat.mul_one, Nat.zero_add, ati hz, hdn, atd hq, hcnt, hw, hp, e, nd_brne, nd_breq, List.length_cons, List.length_nil, e2, e4, hen, atd hr, hg, if_neg g] <;> omega))
                  | (with_reducible apply go_brF; · first | with_reducible rfl | (simp (disch := omega) only [decide_eq_false_iff_not, beq_eq_false_iff_ne, bne_eq_false_iff_eq, Bool.not_eq_false', Int.toNat_natCast, Nat.mul_one, Nat.zero_add, ati hz, hdn, atd hq, hcnt, hw, hp, e, nd_brne, nd_breq, List.length_cons, List.length_nil, e2, e4, hen, atd hr, hg, if_neg g]; done) | (simp (disch := omega) only [decide_eq_false_iff_not, beq_eq_false_iff_ne, bne_eq_false_iff_eq, ne_eq, Bool.not_eq_false', Int.toNat_natCast, Nat.mul_one, Nat.zero_add, ati hz, hdn, atd hq, hcnt, hw, hp, e, nd_brne, nd_breq, List.length_cons, List.length_nil, e2, e4, hen, atd hr, hg, if_neg g] <;> omega))
                try simp (disch := omega) only [Int.toNat_natCast, Nat.mul_one, Nat.zero_add, ati hz, hdn, atd hq, hcnt, hw, hp, e, nd_brne, nd_breq, List.length_cons, List.length_nil, e2, e4, hen, atd hr, hg, if_neg g]
                exact ih _ _ inv2
      · skip
        unfold shareK
        repeat first
          | (with_reducible apply go_nil; · with_reducible rfl)
          | (with_reducible apply go_cons; · with_reducible rfl)
          | (with_reducible apply go_int; · first | with_reducible rfl | (simp (disch := omega) only [haw]; done) | (simp (disch := omega) only [haw]; with_reducible rfl))
          | (with_reducible apply go_bool; · first | with_reducible rfl | (simp (disch := omega) only [haw]; done) | (simp (disch := omega) only [haw]; with_reducible rfl))
          | (with_reducible apply go_str; · first | with_reducible rfl | (simp (disch := omega) only [haw]; done) | (simp (disch := omega) only [haw]; with_reducible rfl))
          | (with_reducible apply go_any; · first | with_reducible rfl | (simp (disch := omega) only [haw]; done) | (simp (disch := omega) only [haw]; with_reducible rfl))
          | (with_reducible apply go_ow; · first | with_reducible rfl | (simp (disch := omega) only [haw]; done) | (simp (disch := omega) only [haw]; with_reducible rfl))
          | (with_reducible apply go_ls; · first | with_reducible rfl | (simp (disch := omega) only [haw]; done) | (simp (disch := omega) only [haw]; with_reducible rfl))
          | (with_reducible apply go_agg; · first | with_reducible rfl | (simp (disch := omega) only [haw]; done) | (simp (disch := omega) only [haw]; with_reducible rfl))
          | (with_reducible apply go_opt; · first | with_reducible rfl | (simp (disch := omega) only [haw]; done) | (simp (disch := omega) only [haw]; with_reducible rfl))
          | (with_reducible apply go_chk; · first | with_reducible rfl | omega | (simp (disch := omega) only [Bool.and_eq_true, decide_eq_true_eq, beq_iff_eq, bne_iff_ne, Bool.not_eq_true', true_and, and_true, haw]; done) | (simp (disch := omega) only [Bool.and_eq_true, decide_eq_true_eq, beq_iff_eq, bne_iff_ne, ne_eq, Bool.not_eq_true', true_and, and_true, haw] <;> omega))
          | (with_reducible apply go_call; · first | with_reducible rfl | (simp (disch := omega) only [haw]; done) | (simp (disch := omega) only [haw]; with_reducible rfl))
          | (with_reducible apply go_brT; · first | with_reducible rfl | omega | (simp (disch := omega) only [Bool.and_eq_true, decide_eq_true_eq, beq_iff_eq, bne_iff_ne, Bool.not_eq_true', true_and, and_true, haw]; done) | (simp (disch := omega) only [Bool.and_eq_true, decide_eq_true_eq, beq_iff_eq, bne_iff_ne, ne_eq, Bool.not_eq_true', true_and, and_true, haw] <;> omega))
          | (with_reducible apply go_brF; · first | with_reducible rfl | (simp (disch := omega) only [decide_eq_false_iff_not, beq_eq_false_iff_ne, bne_eq_false_iff_eq, Bool.not_eq_false', haw]; done) | (simp (disch := omega) only [decide_eq_false_iff_not, beq_eq_false_iff_ne, bne_eq_false_iff_eq, ne_eq, Bool.not_eq_false', haw] <;> omega))
        try simp (disch := omega) only [haw]
    · skip
      unfold shareK
      repeat first
        | (with_reducible apply go_nil; · with_reducible rfl)
        | (with_reducible apply go_cons; · with_reducible rfl)
        | (with_reducible apply go_int; · first | with_reducible rfl | (simp (disch := omega) only [haw]; done) | (simp (disch := omega) only [haw]; with_reducible rfl))
        | (with_reducible apply go_bool; · first | with_reducible rfl | (simp (disch := omega) only [haw]; done) | (simp (disch := omega) only [haw]; with_reducible rfl))
        | (with_reducible apply go_str; · first | with_reducible rfl | (simp (disch := omega) only [haw]; done) | (simp (disch := omega) only [haw]; with_reducible rfl))
        | (with_reducible apply go_any; · first | with_reducible rfl | (simp (disch := omega) only [haw]; done) | (simp (disch := omega) only [haw]; with_reducible rfl))
        | (with_reducible apply go_ow; · first | with_reducible rfl | (simp (disch := omega) only [haw]; done) | (simp (disch := omega) only [haw]; with_reducible rfl))
        | (with_reducible apply go_ls; · first | with_reducible rfl | (simp (disch := omega) only [haw]; done) | (simp (disch := omega) only [haw]; with_reducible rfl))
        | (with_reducible apply go_agg; · first | with_reducible rfl | (simp (disch := omega) only [haw]; done) | (simp (disch := omega) only [haw]; with_reducible rfl))
        | (with_reducible apply go_opt; · first | with_reducible rfl | (simp (disch := omega) only [haw]; done) | (simp (disch := omega) only [haw]; with_reducible rfl))
        | (with_reducible apply go_chk; · first | with_reducible rfl | omega | (simp (disch := omega) only [Bool.and_eq_true, decide_eq_true_eq, beq_iff_eq, bne_iff_ne, Bool.not_eq_true', true_and, and_true, haw]; done) | (simp (disch := omega) only [Bool.and_eq_true, decide_eq_true_eq, beq_iff_eq, bne_iff_ne, ne_eq, Bool.not_eq_true', true_and, and_true, haw] <;> omega))
        | (with_reducible apply go_call; · first | with_reducible rfl | (simp (disch := omega) only [haw]; done) | (simp (disch := omega) only [haw]; with_reducible rfl))
        | (with_reducible apply go_brT; · first | with_reducible rfl | omega | (simp (disch := omega) only [Bool.and_eq_true, decide_eq_true_eq, beq_iff_eq, bne_iff_ne, Bool.not_eq_true', true_and, and_true, haw]; done) | (simp (disch := omega) only [Bool.and_eq_true, decide_eq_true_eq, beq_iff_eq, bne_iff_ne, ne_eq, Bool.not_eq_true', true_and, and_true, haw] <;> omega))
        | (with_reducible apply go_brF; · first | with_reducible rfl | (simp (disch := omega) only [decide_eq_false_iff_not, beq_eq_false_iff_ne, bne_eq_false_iff_eq, Bool.not_eq_false', haw]; done) | (simp (disch := omega) only [decide_eq_false_iff_not, beq_eq_false_iff_ne, bne_eq_false_iff_eq, ne_eq, Bool.not_eq_false', haw] <;> omega))
      try simp (disch := omega) only [haw]

theorem inv0 : Inv [(false, [⟨9, 0, 16, 0⟩]), (true, []), (true, []), (true, [])] (List.replicate 16 false) := by
  refine ⟨rfl, rfl, fun i q h => ?_, fun i j q q' n h h' h1 h2 => ?_, fun i q n h h1 => ?_⟩
  · match i, h with
    | 0, h => simp at h; subst h; exact .inr ⟨_, rfl, rfl, rfl⟩
    | 1, h => simp at h; subst h; exact .inl rfl
    | 2, h => simp at h; subst h; exact .inl rfl
    | 3, h => simp at h; subst h; exact .inl rfl
    | i + 4, h => simp at h
  · have z : ∀ (i : Nat) (q : Bool × List Ls), [(false, [(⟨9, 0, 16, 0⟩ : Ls)]), (true, []), (true, []), (true, [])][i]? = some q → has q.2 n → i = 0 := by
      intro i q h hh
      match i, h with
      | 0, h => rfl
      | 1, h => simp at h; subst h; obtain ⟨x, hx, _⟩ := hh; simp at hx
      | 2, h => simp at h; subst h; obtain ⟨x, hx, _⟩ := hh; simp at hx
      | 3, h => simp at h; subst h; obtain ⟨x, hx, _⟩ := hh; simp at hx
      | i + 4, h => simp at h
    rw [z i q h h1, z j q' h' h2]
  · have hn : n < 16 := by
      match i, h with
      | 0, h => simp at h; subst h; obtain ⟨x, hx, _, h3⟩ := h1; simp at hx; subst hx; simp at h3; omega
      | 1, h => simp at h; subst h; obtain ⟨x, hx, _⟩ := h1; simp at hx
      | 2, h => simp at h; subst h; obtain ⟨x, hx, _⟩ := h1; simp at hx
      | 3, h => simp at h; subst h; obtain ⟨x, hx, _⟩ := h1; simp at hx
      | i + 4, h => simp at h
    rw [List.getElem?_replicate]
    simp [hn]

theorem leaseDisjoint_plain (qs : List PV) (h : All2 (WTv Try.prog) [23] qs) : ∃ C fu d, pcall C Try.prog fu d F_passkeylaw10_LeaseDisjoint qs = some ⟨[.sc (.bool true)], []⟩ := by
  obtain ⟨q0, _, rfl, h0, g⟩ := h.cons_inv
  obtain rfl := g.nil_inv
  clear h
  obtain ⟨m, rfl, hm, _⟩ := arg_ints (k := .i64) (e := 3) (by kernel_rfl) (by kernel_rfl) (by kernel_rfl) (by kernel_rfl) h0
  obtain ⟨fu, hfu⟩ : ∃ fu, fu = 1000 := ⟨_, rfl⟩
  refine ⟨C0, fu, 6, ?_⟩
  have h1 : pcall C0 Try.prog fu 5 F_lease_Grant [.lst false 4 0 [], .sc (.int .u64 9), .sc (.int .i64 0), .sc (.int .i64 16), .sc (.int .i64 0)] = some ⟨[.own 4 1 (Ls.cells ⟨9, 0, 16, 0⟩), .sc (.int .i64 0)], []⟩ := by
    have := grant_eq (fu := fu) (d := 2) (l := []) (Nat.zero_le _) (by simp; omega) ⟨9, 0, 16, 0⟩
    rw [grant_nil (x := ⟨9, 0, 16, 0⟩) rfl] at this
    exact this
  have hl := disj_loop (d := 0) (fu := fu) hm (by omega) (n := m.length) (c := encI .i64 m) 40 fu 0 _ _ (by omega) (by omega) (by omega) (by omega) inv0
  have c1 : List.take (1 * 4) (List.drop 0 (Ls.cells ⟨9, 0, 16, 0⟩)) = Ls.cells ⟨9, 0, 16, 0⟩ := rfl
  have c2 : 0 + 1 * 4 ≤ (Ls.cells ⟨9, 0, 16, 0⟩).length := Nat.le_refl _
  rw [passkeylaw10_LeaseDisjoint_e]
  simp only [nd_call, nd_nil, nd_cons, nd_bool, nd_str, nd_int, nd_any, nd_ls, nd_ow, nd_agg, nd_opt, nd_share, nd_chk, nd_chkd, nd_chka, nd_brT, nd_brF, nd_brt, nd_brf, nd_both, Bool.not_true, Bool.not_false, Bool.false_eq_true, if_true, if_false, Bool.true_and, Bool.and_true, Bool.false_and, Bool.and_false, decide_true, decide_false, h1, bne_self_eq_false, c1, c2]
  exact hl
end

end Go.Proofs.Ytoidbofkmflocaa.Pv
