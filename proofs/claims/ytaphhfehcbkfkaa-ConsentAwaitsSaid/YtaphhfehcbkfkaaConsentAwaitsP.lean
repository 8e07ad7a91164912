/-
  Proves Rows.ConsentAwaitsSaid: for every input the law ConsentAwaits returns true and leaves its arguments as they were. No conditions.
-/
import Derived.Test.YtaphhfehcbkfkaaCs2
import Derived.Test.YtaphhfehcbkfkaaPvX4
import Derived.Test.YtaphhfehcbkfkaaRows
namespace Go.Proofs.Ytaphhfehcbkfkaa.consentAwaitsDone
open Go.ChangeShapes Go.WideShapes Go.ChangeAt Go.RowKit Pv

theorem own : ownKnob Try.prog.godebug = none := by kernel_rfl
theorem laidOut : laidOutB Try.prog = true := by kernel_rfl
theorem noNG : NoNG Try.prog := by
  have h : (Try.prog.funcs.toList.all fun fn => !(fn.name == "runtime.NumGoroutine")) = true := by kernel_rfl
  intro f fn hf
  have := List.all_eq_true.1 h fn (Array.mem_toList_iff.2 (Array.mem_of_getElem? hf))
  simpa using this
theorem mixed : Try.prog.follows .mixedOrders = true := by kernel_rfl

set_option maxRecDepth 100000 in
theorem lifted (os : Os) (started : os.Started) (H : Type) (enc : TypeId × Value → H) :
    ReturnsInHanded {} Try.checked os 3 .any (Rows.consentAwaitsSpec.pre6 enc Try.prog Try.f3 Rows.consentAwaitsRow.domain false) (Rows.consentAwaitsSpec.post enc Try.prog Try.f3 false true false false) := by
  refine returnsInHanded_of_change (C := Try.checked) own started (by kernel_rfl) Try.func3
    (ChangeSpec.witness6 (enc := enc) (C := Try.checked) false ⟨#[], #[.int .i64 0, .bool false, .bool false, .slice none 0 0, .slice none 0 0, .int .u16 0], []⟩ 8 (by kernel_rfl) (by kernel_rfl) (by kernel_rfl) (by kernel_rfl)) ?_
  intro W base args ds gs before hval hW _ _
  refine law_contract (P := Try.prog) (fn := Try.f3) noNG mixed laidOut (tb := 4) Try.func3 rfl ?_ (by kernel_rfl) (by kernel_rfl) rfl (by kernel_rfl) W base args ds gs before hval hW ?_
  · intro ds hd
    have hd' : ds.length = 6 := hd
    match ds, hd' with
    | [d1, d2, d3, d4, d5, d6], _ => rfl
  · intro qs h
    exact consentAwaits_plain qs h

theorem over : Rows.consentAwaitsRow.holds Try.pinned (OpenSpec.ofChange Rows.consentAwaitsSpec) :=
  OpenClaim.holds_of_wide 3 Try.f3 rfl rfl rfl rfl rfl rfl rfl ⟨rfl, rfl, rfl, rfl, rfl⟩ rfl rfl rfl rfl rfl (by kernel_rfl) Try.func3 (by kernel_rfl)
    (of_decide_eq_true (by kernel_rfl)) (by unfold Func.isWrapper; first | (rw [if_pos (by decide +kernel)]; kernel_rfl) | (rw [if_neg (by decide +kernel)]; exact ⟨rfl, rfl⟩))
    (fun os started H enc _ => lifted os started H enc)

theorem proved : Rows.ConsentAwaitsSaid := over
#print axioms proved
end Go.Proofs.Ytaphhfehcbkfkaa.consentAwaitsDone
