/-
  Proves Rows.RegistrationBindsCardSaid: for every input the law RegistrationBinds returns true and leaves its arguments as they were; what it reads of package variables is tied to the program's text.
-/
import Derived.Test.YtamoegpkglhedaaGreatDoorBI
import Derived.Test.YtamoegpkglhedaaGreatDoorRows
import Derived.Test.YtamoegpkglhedaaGreatDoorTie
import Derived.Test.YtamoegpkglhedaaGreatDoorCards
import Derived.Lib.LaidIn
import Derived.LaidHandle
namespace Go.Proofs.YtamoegpkglhedaaGreatDoor.registrationBindsDone
open Go.ChangeShapes Go.WideShapes Go.ChangeAt Go.RowKit Go.Lib Go.Shelf Pv

theorem own : ownKnob Tryz.prog.godebug = none := by kernel_rfl
theorem laidOut : laidOutB Tryz.prog = true := by kernel_rfl
theorem noNG : NoNG Tryz.prog := by
  have h : (Tryz.prog.funcs.toList.all fun fn => !(fn.name == "runtime.NumGoroutine")) = true := by kernel_rfl
  intro f fn hf
  have := List.all_eq_true.1 h fn (Array.mem_toList_iff.2 (Array.mem_of_getElem? hf))
  simpa using this
theorem mixed : Tryz.prog.follows .mixedOrders = true := by kernel_rfl

/-- THE WITNESS: the settled world, the two tables holding what their initialisers lay. -/
noncomputable def laidWorld (os : Os) : World :=
  let w0 := World.holding Tryz.prog os ⟨#[], #[], []⟩
  let put (h : Array Obj) (g : Nat) (cs : Array Value) : Array Obj := h.modify g fun
    | .cells _ t frozen => .cells cs t frozen
    | o => o
  let h1 := put w0.heap 0 (Lib.firstTab.map fun z => Value.int .u8 z).toArray
  let h2 := put h1 1 ((List.range 16).flatMap fun i => [Value.int .u8 (Lib.accLo i), Value.int .u8 (Lib.accHi i)]).toArray
  { w0 with heap := h2 }
theorem laid_met (os : Os) (args : Array Value) : laidMetH Tryz.prog Rows.registrationBindsRow.laid ((laidWorld os).forCall (fun _ _ => 0) ⟨#[], args, []⟩).memory :=
  (LaidIn.of_run (l := Rows.registrationBindsRow.laid) [0, 1] 8 (by kernel_rfl) (by kernel_rfl) (by kernel_rfl) (by kernel_rfl)).met

theorem e_first : Rows.laid_unicode_utf8_first = Lib.firstData := by kernel_rfl
theorem e_accept : (Rows.laid_unicode_utf8_acceptRanges : DataW Unit) = Lib.acceptData := by kernel_rfl
set_option maxRecDepth 100000 in
theorem gU_of {W : World} (hL : laidMetH Tryz.prog Rows.registrationBindsRow.laid W) : gU.ok W ∧ ∀ b, gU.bl b → b < W.heap.size := by
  have h' : laidMet Tryz.prog Rows.registrationBindsRow.laid W := hL
  have r0 : VarReads Tryz.prog W "unicode/utf8.first" Rows.laid_unicode_utf8_first := Lib.laidMet.reads h' (.tail _ (.head _))
  have r1 : VarReads Tryz.prog W "unicode/utf8.acceptRanges" Rows.laid_unicode_utf8_acceptRanges := Lib.laidMet.reads h' (.head _)
  rw [e_first] at r0
  rw [e_accept] at r1
  have ht : Lib.Utf8Tabs 0 1 W := utf8Tabs_of_readsT (U8Types.of196 laysVS) ⟨by kernel_rfl, by kernel_rfl, by kernel_rfl, by kernel_rfl, by kernel_rfl, by kernel_rfl, by kernel_rfl⟩ r0 r1
  have sz : ∀ {b i v}, W.cell? ⟨b, i, none⟩ = some v → b < W.heap.size := by
    intro b i v e
    rcases Nat.lt_or_ge b W.heap.size with q | q
    · exact q
    · unfold World.cell? at e
      rw [Array.getElem?_eq_none q] at e
      cases e
  have s0 : 0 < W.heap.size := sz (ht.1 0 (by decide))
  have s1 : 1 < W.heap.size := sz (ht.2 0 (by decide)).1
  exact ⟨⟨s0, s1, ht⟩, fun b hb => by
    rcases hb with rfl | rfl
    · exact s0
    · exact s1⟩

set_option maxRecDepth 100000 in
theorem lifted (os : Os) (started : os.Started) (H : Type) (enc : TypeId × Value → H) :
    ReturnsInHanded {} Tryz.checked os 3 .any (fun w args => (Rows.registrationBindsSpec.pre enc Tryz.prog Tryz.f3 [] false w args ∧ laidMetH Tryz.prog Rows.registrationBindsRow.laid w) ∧ sizedMet enc Tryz.prog Tryz.f3 (OpenSpec.ofChange Rows.registrationBindsSpec) false w args) (Rows.registrationBindsSpec.post enc Tryz.prog Tryz.f3 false true false false) := by
  refine returnsInHanded_of_change_and (C := Tryz.checked) (X := fun w _ => laidMetH Tryz.prog Rows.registrationBindsRow.laid w) (fun _ _ _ hh h => h.of_heap hh) own started (by kernel_rfl) Tryz.func3
    (ChangeSpec.witness_at (enc := enc) (C := Tryz.checked) (os := os) (X := fun w _ => laidMetH Tryz.prog Rows.registrationBindsRow.laid w) false (laidWorld os) #[.int .i64 0, .int .u8 0, .slice none 0 0, .slice none 0 0, .string ⟨#[]⟩, .int .i64 0, .bool false] 8 rfl (by kernel_rfl) (by kernel_rfl) (by kernel_rfl) (by kernel_rfl) (by kernel_rfl) (laid_met os _)) ?_
  intro W base args ds gs before hval hW _ _ hL _
  refine law_contract (G := gU) (C := C1) (P := Tryz.prog) (fn := Tryz.f3) extV noNG mixed laidOut (tb := 4) Tryz.func3 rfl ?_ (by kernel_rfl) (by kernel_rfl) rfl (by kernel_rfl) W base args ds gs before hval hW ?_ (gU_of hL).1 (gU_of hL).2
  · intro ds hd
    have hd' : ds.length = 7 := hd
    match ds, hd' with
    | [d1, d2, d3, d4, d5, d6, d7], _ => rfl
  · intro qs h
    exact registrationBinds_plain qs h

theorem over : Rows.RegistrationBindsSaid :=
  OpenClaim.holds_of_wide 3 Tryz.f3 rfl rfl rfl rfl rfl rfl rfl ⟨rfl, rfl, rfl, rfl, rfl⟩ rfl rfl rfl rfl rfl (by kernel_rfl) Tryz.func3 (by kernel_rfl)
    (of_decide_eq_true (by kernel_rfl)) (by unfold Func.isWrapper; first | (rw [if_pos (by decide +kernel)]; kernel_rfl) | (rw [if_neg (by decide +kernel)]; exact ⟨rfl, rfl⟩))
    (fun os started H enc _ => lifted os started H enc)

theorem proved : Rows.RegistrationBindsCardSaid :=
  Claim7.holds_tied_plain_at .later [] [.data, .pinned] true (true, "0f16274186b31d0d07e4b5d5374a82c3e03bea2cb59fb59edf47c7cd072f2321") false
    over (fun _ h => by cases h) (by kernel_rfl) (fun _ h => by cases h) registrationBinds_row_tie rfl ⟨rfl, rfl⟩ (by kernel_rfl) rfl
    (fun f fn hf hfn => by
      obtain rfl : f = 3 := Option.some.inj ((show Tryz.prog.funcNamed "passkey/passkeylaw32.RegistrationBinds" = some 3 by kernel_rfl).symm.trans hf) |>.symm
      obtain rfl : fn = Tryz.f3 := (Option.some.inj (Tryz.func3.symm.trans hfn)).symm
      refine ⟨by kernel_rfl, fun j t ht => ?_⟩
      have all : (Tryz.f3.params.toList.all fun t => !Tryz.prog.wantsStandIn t) = true := by kernel_rfl
      have := List.all_eq_true.1 all t (Array.mem_toList_iff.2 (Array.mem_of_getElem? ht))
      have h2 : Tryz.prog.wantsStandIn t = false := by simpa using this
      exact h2)
    (by kernel_rfl)
#print axioms proved
end Go.Proofs.YtamoegpkglhedaaGreatDoor.registrationBindsDone
