/-
  Proves Rows.AccountShapeSaid: for every input the law AccountShape returns true and leaves its arguments as they were. No conditions.
-/
import Derived.Test.YtcgfahlefkfghaaSE
import Derived.Test.YtcgfahlefkfghaaRows
namespace Go.Proofs.Ytcgfahlefkfghaa.accountShapeDone
open Go.ChangeShapes Go.WideShapes Go.ChangeAt Go.RowKit Pv

theorem own : ownKnob Try.prog.godebug = none := by kernel_rfl
theorem laidOut : laidOutB Try.prog = true := by kernel_rfl
theorem noNG : NoNG Try.prog := by
  have h : (Try.prog.funcs.toList.all fun fn => !(fn.name == "runtime.NumGoroutine")) = true := by kernel_rfl
  intro f fn hf
  have := List.all_eq_true.1 h fn (Array.mem_toList_iff.2 (Array.mem_of_getElem? hf))
  simpa using this
theorem mixed : Try.prog.follows .mixedOrders = true := by kernel_rfl

def G0 : Glo := ⟨fun _ => False, fun _ => True, fun _ _ _ _ => trivial⟩
theorem ext0 : ExtOk G0 Try.prog C0 := extA G0

set_option maxRecDepth 100000 in
theorem lifted (os : Os) (started : os.Started) (H : Type) (enc : TypeId × Value → H) :
    ReturnsInHanded {} Try.checked os 3 .any (Rows.accountShapeSpec.pre6 enc Try.prog Try.f3 Rows.accountShapeRow.domain false) (Rows.accountShapeSpec.post enc Try.prog Try.f3 false true false false) := by
  refine returnsInHanded_of_change (C := Try.checked) own started (by kernel_rfl) Try.func3
    (ChangeSpec.witness6 (enc := enc) (C := Try.checked) false ⟨#[], #[.slice none 0 0, .int .u64 0, .string ⟨#[]⟩], []⟩ 8 (by kernel_rfl) (by kernel_rfl) (by kernel_rfl) (by kernel_rfl)) ?_
  intro W base args ds gs before hval hW _ _
  refine law_contract (G := G0) (C := C0) (P := Try.prog) (fn := Try.f3) ext0 noNG mixed laidOut (tb := 4) Try.func3 rfl ?_ (by kernel_rfl) (by kernel_rfl) rfl (by kernel_rfl) W base args ds gs before hval hW ?_ trivial (fun _ h => h.elim)
  · intro ds hd
    have hd' : ds.length = 3 := hd
    match ds, hd' with
    | [d1, d2, d3], _ => rfl
  · intro qs h
    exact accountShape_plain qs h

theorem over : Rows.accountShapeRow.holds Try.pinned (OpenSpec.ofChange Rows.accountShapeSpec) :=
  OpenClaim.holds_of_wide 3 Try.f3 rfl rfl rfl rfl rfl rfl rfl ⟨rfl, rfl, rfl, rfl, rfl⟩ rfl rfl rfl rfl rfl (by kernel_rfl) Try.func3 (by kernel_rfl)
    (of_decide_eq_true (by kernel_rfl)) (by unfold Func.isWrapper; first | (rw [if_pos (by decide +kernel)]; kernel_rfl) | (rw [if_neg (by decide +kernel)]; exact ⟨rfl, rfl⟩))
    (fun os started H enc _ => lifted os started H enc)

theorem proved : Rows.AccountShapeSaid := over
#print axioms proved
end Go.Proofs.Ytcgfahlefkfghaa.accountShapeDone
