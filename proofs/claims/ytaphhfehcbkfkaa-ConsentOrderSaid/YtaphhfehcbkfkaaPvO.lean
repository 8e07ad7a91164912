/-
  Arguments that are lists of numbers.
-/
import Derived.Test.YtaphhfehcbkfkaaPvX5
import Derived.Test.YtaphhfehcbkfkaaPvX1
import Derived.Test.YtaphhfehcbkfkaaRows
namespace Go.Proofs.Ytaphhfehcbkfkaa.Pv

theorem ki_ints {d : Nat} {ps : List PV} {k : IntKind} {t e : TypeId} (hk : kindOf Try.prog t = .sl e) (hc : Try.prog.cellsOf e = 1) (he : kindOf Try.prog e = .int k) (h : WT Try.prog d t ps) :
    ∃ l : List Int, ps = [.lst false 1 l.length (encI k l)] ∧ l.length ≤ maxLen ∧ ∀ n ∈ l, (Lit.int k n).wf = true := by
  obtain ⟨rows, rfl, hl, hr⟩ := ki_sl hk h
  obtain ⟨l, h1, h2, h3⟩ := rows_native (intC k) (fun n => (Lit.int k n).wf = true) fun r hrr => ki_int he (hr r hrr).2
  refine ⟨l, ?_, by omega, h3⟩
  rw [h1, h2, hc]

theorem ki_slk {d : Nat} {ps : List PV} {k : Nat} {t e : TypeId} (hk : kindOf Try.prog t = .sl e) (hc : Try.prog.cellsOf e = k) (h : WT Try.prog d t ps) :
    ∃ rows : List (List PV), ps = [.lst false k rows.length rows.flatten] ∧ rows.length ≤ maxLen ∧ ∀ r ∈ rows, r.length = k ∧ WT Try.prog (d - 1) e r := by
  subst hc
  exact ki_sl hk h

theorem wf_u8 {n : Int} (h : (Lit.int .u8 n).wf = true) : 0 ≤ n ∧ n ≤ 255 := by
  simp [Lit.wf, IntKind.min, IntKind.max, IntKind.signed, IntKind.bits] at h
  omega
theorem wf_u16 {n : Int} (h : (Lit.int .u16 n).wf = true) : 0 ≤ n ∧ n ≤ 65535 := by
  simp [Lit.wf, IntKind.min, IntKind.max, IntKind.signed, IntKind.bits] at h
  omega
theorem wf_u32 {n : Int} (h : (Lit.int .u32 n).wf = true) : 0 ≤ n ∧ n ≤ 4294967295 := by
  simp [Lit.wf, IntKind.min, IntKind.max, IntKind.signed, IntKind.bits] at h
  omega
theorem wf_u64 {n : Int} (h : (Lit.int .u64 n).wf = true) : 0 ≤ n ∧ n ≤ 18446744073709551615 := by
  simp [Lit.wf, IntKind.min, IntKind.max, IntKind.signed, IntKind.bits] at h
  omega
theorem wf_i64 {n : Int} (h : (Lit.int .i64 n).wf = true) : -9223372036854775808 ≤ n ∧ n ≤ 9223372036854775807 := by
  simp [Lit.wf, IntKind.min, IntKind.max, IntKind.signed, IntKind.bits] at h
  omega

theorem wtv_ints {p : PV} {k : IntKind} {t e : TypeId} (ha : isAggB Try.prog t = false) (hk : kindOf Try.prog t = .sl e) (hc : Try.prog.cellsOf e = 1) (he : kindOf Try.prog e = .int k) (h : WTv Try.prog t p) :
    ∃ l : List Int, p = .lst false 1 l.length (encI k l) ∧ l.length ≤ maxLen ∧ ∀ n ∈ l, (Lit.int k n).wf = true := by
  obtain ⟨l, h1, h2, h3⟩ := ki_ints hk hc he (wtv_one ha h)
  cases h1
  exact ⟨l, rfl, h2, h3⟩

end Go.Proofs.Ytaphhfehcbkfkaa.Pv
