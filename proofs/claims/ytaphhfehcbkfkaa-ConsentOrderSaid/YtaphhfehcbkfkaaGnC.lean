/-
  What the functions compute, step by step: written by a program (wip/tools/gen.py).
-/
import Derived.Test.YtaphhfehcbkfkaaPvX1
import Derived.Test.YtaphhfehcbkfkaaRows
set_option maxRecDepth 100000
set_option linter.unusedVariables false
namespace Go.Proofs.Ytaphhfehcbkfkaa.Pv

abbrev F_consent_counting_1 : FuncId := 14
theorem consent_counting_1_e (fu d : Nat) (a0_0 : Int) (a0_1 : Int) (a1_0 : Int) (a1_1 : Int) : pcall C0 Try.prog fu (d + 1) F_consent_counting_1 [PV.agg [PV.sc (Value.int IntKind.i64 a0_0), PV.sc (Value.int IntKind.i64 a0_1)], PV.agg [PV.sc (Value.int IntKind.i64 a1_0), PV.sc (Value.int IntKind.i64 a1_1)]] = (fun (call : Call') =>
  callK (call (15 : Nat) [PV.sc (Value.int IntKind.i64 a0_0), PV.sc (Value.int IntKind.i64 a1_0)]) fun x1 x2 =>
  nilK (x2) <|
  consK (x1) fun x3 x4 =>
  intK (IntKind.i64) (x3) fun x5 =>
  nilK (x4) <|
  some (Res.mk [PV.sc (Value.int IntKind.i64 x5)] [])) (pcall C0 Try.prog fu d) := by kernel_rfl

abbrev F_cmp_Compare_int : FuncId := 15
theorem cmp_Compare_int_e (fu d : Nat) (a0 : Int) (a1 : Int) : pcall C0 Try.prog fu (d + 1) F_cmp_Compare_int [PV.sc (Value.int IntKind.i64 a0), PV.sc (Value.int IntKind.i64 a1)] = (fun (call : Call') =>
  callK (call (17 : Nat) [PV.sc (Value.int IntKind.i64 a0)]) fun x1 x2 =>
  nilK (x2) <|
  consK (x1) fun x3 x4 =>
  boolK (x3) fun x5 =>
  nilK (x4) <|
  callK (call (17 : Nat) [PV.sc (Value.int IntKind.i64 a1)]) fun x6 x7 =>
  nilK (x7) <|
  consK (x6) fun x8 x9 =>
  boolK (x8) fun x10 =>
  nilK (x9) <|
  brK (x5)
   (
   brK (x10)
    (
    some (Res.mk [PV.sc (Value.int IntKind.i64 (0 : Int))] []))
    (
    some (Res.mk [PV.sc (Value.int IntKind.i64 (-1 : Int))] [])))
   (
   brK (x10)
    (
    some (Res.mk [PV.sc (Value.int IntKind.i64 (1 : Int))] []))
    (
    brK (decide (a0 < a1))
     (
     some (Res.mk [PV.sc (Value.int IntKind.i64 (-1 : Int))] []))
     (
     brK (decide (a0 > a1))
      (
      some (Res.mk [PV.sc (Value.int IntKind.i64 (1 : Int))] []))
      (
      some (Res.mk [PV.sc (Value.int IntKind.i64 (0 : Int))] [])))))) (pcall C0 Try.prog fu d) := by kernel_rfl

abbrev F_cmp_isNaN_int : FuncId := 17
theorem cmp_isNaN_int_e (fu d : Nat) (a0 : Int) : pcall C0 Try.prog fu (d + 1) F_cmp_isNaN_int [PV.sc (Value.int IntKind.i64 a0)] = (fun (call : Call') =>
  some (Res.mk [PV.sc (Value.bool (a0 != a0))] [])) (pcall C0 Try.prog fu d) := by kernel_rfl

abbrev F_slices_insertionSortCmpFunc_Gesture : FuncId := 18
noncomputable def slices_insertionSortCmpFunc_Gesture_L0 (fu : Nat) (call : Call') (n : Nat) (c : List PV) (a1 : Int) (a2 : Int)  (nn : Nat) (y0 : Nat) (y1 : Int) (y2 : Int) (y3 : Int) (y4 : List PV) : Option Res :=
  floop C0 Try.prog fu call 18 Try.f18 (bodyOf Try.f18) [PV.tup [PV.own (2 : Nat) n c], PV.sc (Value.int IntKind.i64 a1), PV.sc (Value.int IntKind.i64 a2), PV.sc (Value.func (Fn.func (14 : FuncId)) #[] #[])] [.r, .l] nn ⟨lk [(0, (.view 106000 2 0 y0)), (1, (.sc (.int .i64 y1))), (2, (.sc (.int .i64 y2))), (3, (.sc (Value.func (Fn.func (14 : FuncId)) #[] #[]))), (8, (.sc (.int .i64 y3)))], lkh [(106000, (.ar false y4))]⟩

noncomputable def slices_insertionSortCmpFunc_Gesture_L1 (fu : Nat) (call : Call') (n : Nat) (c : List PV) (a1 : Int) (a2 : Int) (m0 : Nat) (nn : Nat) (y0 : Nat) (y1 : Int) (y2 : Int) (y3 : Int) (y4 : Int) (y5 : List PV) : Option Res :=
  floop C0 Try.prog fu call 18 Try.f18 (bodyOf Try.f18) [PV.tup [PV.own (2 : Nat) n c], PV.sc (Value.int IntKind.i64 a1), PV.sc (Value.int IntKind.i64 a2), PV.sc (Value.func (Fn.func (14 : FuncId)) #[] #[])] [.r, .l, .i m0, .r, .l, .l, .r, .l] nn ⟨lk [(0, (.view 106000 2 0 y0)), (1, (.sc (.int .i64 y1))), (2, (.sc (.int .i64 y2))), (3, (.sc (Value.func (Fn.func (14 : FuncId)) #[] #[]))), (8, (.sc (.int .i64 y3))), (9, (.sc (.int .i64 y4)))], lkh [(106000, (.ar false y5))]⟩

theorem slices_insertionSortCmpFunc_Gesture_L0_s (fu : Nat) (call : Call') (n : Nat) (c : List PV) (a1 : Int) (a2 : Int)  (nn : Nat) (y0 : Nat) (y1 : Int) (y2 : Int) (y3 : Int) (y4 : List PV) : slices_insertionSortCmpFunc_Gesture_L0 fu call n c a1 a2  (nn + 1) y0 y1 y2 y3 y4 =
  brK (decide (y3 < y2))
   (
   slices_insertionSortCmpFunc_Gesture_L1 fu call n c a1 a2 nn (fu) (y0) (y1) (y2) (y3) (y3) (y4))
   (
   some (Res.mk [] [y4])) := by kernel_rfl

theorem slices_insertionSortCmpFunc_Gesture_L1_s (fu : Nat) (call : Call') (n : Nat) (c : List PV) (a1 : Int) (a2 : Int) (m0 : Nat) (nn : Nat) (y0 : Nat) (y1 : Int) (y2 : Int) (y3 : Int) (y4 : Int) (y5 : List PV) : slices_insertionSortCmpFunc_Gesture_L1 fu call n c a1 a2 m0 (nn + 1) y0 y1 y2 y3 y4 y5 =
  brK (decide (y4 > y1))
   (
   chk (decide ((0 : Int) ≤ y4) && decide (y4 < (↑y0 : Int))) <|
   intK (IntKind.i64) (List.getD y5 ((0 : Nat) + Int.toNat y4 * (2 : Nat)) PV.top) fun x2 =>
   intK (IntKind.i64) (List.getD y5 ((0 : Nat) + Int.toNat y4 * (2 : Nat) + (1 : Nat)) PV.top) fun x3 =>
   shareK (IntKind.wrap IntKind.i64 (y4 - (1 : Int))) fun x4 =>
   chk (decide ((0 : Int) ≤ x4) && decide (x4 < (↑y0 : Int))) <|
   intK (IntKind.i64) (List.getD y5 ((0 : Nat) + Int.toNat x4 * (2 : Nat)) PV.top) fun x5 =>
   intK (IntKind.i64) (List.getD y5 ((0 : Nat) + Int.toNat x4 * (2 : Nat) + (1 : Nat)) PV.top) fun x6 =>
   callK (call (14 : FuncId) [PV.agg [PV.sc (Value.int IntKind.i64 x2), PV.sc (Value.int IntKind.i64 x3)], PV.agg [PV.sc (Value.int IntKind.i64 x5), PV.sc (Value.int IntKind.i64 x6)]]) fun x7 x8 =>
   nilK (x8) <|
   consK (x7) fun x9 x10 =>
   intK (IntKind.i64) (x9) fun x11 =>
   nilK (x10) <|
   brK (decide (x11 < (0 : Int)))
    (
    shareK (IntKind.wrap IntKind.i64 (y4 - (1 : Int))) fun x12 =>
    shareK (IntKind.wrap IntKind.i64 (y4 - (1 : Int))) fun x13 =>
    chk (decide ((0 : Int) ≤ x13) && decide (x13 < (↑y0 : Int))) <|
    intK (IntKind.i64) (List.getD y5 ((0 : Nat) + Int.toNat x13 * (2 : Nat)) PV.top) fun x14 =>
    intK (IntKind.i64) (List.getD y5 ((0 : Nat) + Int.toNat x13 * (2 : Nat) + (1 : Nat)) PV.top) fun x15 =>
    chk (decide ((0 : Int) ≤ y4) && decide (y4 < (↑y0 : Int))) <|
    intK (IntKind.i64) (List.getD y5 ((0 : Nat) + Int.toNat y4 * (2 : Nat)) PV.top) fun x16 =>
    intK (IntKind.i64) (List.getD y5 ((0 : Nat) + Int.toNat y4 * (2 : Nat) + (1 : Nat)) PV.top) fun x17 =>
    chk (decide ((0 : Int) ≤ y4) && decide (y4 < (↑y0 : Int))) <|
    chk (decide ((0 : Nat) + Int.toNat y4 * (2 : Nat) + (2 : Nat) ≤ List.length y5)) <|
    shareK (splice y5 [PV.sc (Value.int IntKind.i64 x14), PV.sc (Value.int IntKind.i64 x15)] ((0 : Nat) + Int.toNat y4 * (2 : Nat))) fun x18 =>
    chk (decide ((0 : Int) ≤ x12) && decide (x12 < (↑y0 : Int))) <|
    chk (decide ((0 : Nat) + Int.toNat x12 * (2 : Nat) + (2 : Nat) ≤ List.length x18)) <|
    shareK (splice x18 [PV.sc (Value.int IntKind.i64 x16), PV.sc (Value.int IntKind.i64 x17)] ((0 : Nat) + Int.toNat x12 * (2 : Nat))) fun x19 =>
    shareK (IntKind.wrap IntKind.i64 (y4 - (1 : Int))) fun x20 =>
    slices_insertionSortCmpFunc_Gesture_L1 fu call n c a1 a2 m0 (nn) (y0) (y1) (y2) (y3) (x20) (x19))
    (
    shareK (IntKind.wrap IntKind.i64 (y3 + (1 : Int))) fun x21 =>
    slices_insertionSortCmpFunc_Gesture_L0 fu call n c a1 a2 (m0) (y0) (y1) (y2) (x21) (y5)))
   (
   shareK (IntKind.wrap IntKind.i64 (y3 + (1 : Int))) fun x22 =>
   slices_insertionSortCmpFunc_Gesture_L0 fu call n c a1 a2 (m0) (y0) (y1) (y2) (x22) (y5)) := by kernel_rfl

theorem slices_insertionSortCmpFunc_Gesture_e (fu d : Nat) (n : Nat) (c : List PV) (a1 : Int) (a2 : Int) : pcall C0 Try.prog fu (d + 1) F_slices_insertionSortCmpFunc_Gesture [PV.tup [PV.own (2 : Nat) n c], PV.sc (Value.int IntKind.i64 a1), PV.sc (Value.int IntKind.i64 a2), PV.sc (Value.func (Fn.func (14 : FuncId)) #[] #[])] = (fun (call : Call') =>
  shareK (IntKind.wrap IntKind.i64 (a1 + (1 : Int))) fun x1 =>
  slices_insertionSortCmpFunc_Gesture_L0 fu call n c a1 a2 (fu) (n) (a1) (a2) (x1) (c)) (pcall C0 Try.prog fu d) := by kernel_rfl

abbrev F_slices_swapRangeCmpFunc_Gesture : FuncId := 21
noncomputable def slices_swapRangeCmpFunc_Gesture_L0 (fu : Nat) (call : Call') (n : Nat) (c : List PV) (a1 : Int) (a2 : Int) (a3 : Int)  (nn : Nat) (y0 : Nat) (y1 : Int) (y2 : Int) (y3 : Int) (y4 : Int) (y5 : List PV) : Option Res :=
  floop C0 Try.prog fu call 21 Try.f21 (bodyOf Try.f21) [PV.tup [PV.own (2 : Nat) n c], PV.sc (Value.int IntKind.i64 a1), PV.sc (Value.int IntKind.i64 a2), PV.sc (Value.int IntKind.i64 a3), PV.sc (Value.func (Fn.func (14 : FuncId)) #[] #[])] [.r, .l] nn ⟨lk [(0, (.view 76000 2 0 y0)), (1, (.sc (.int .i64 y1))), (2, (.sc (.int .i64 y2))), (3, (.sc (.int .i64 y3))), (10, (.sc (.int .i64 y4)))], lkh [(76000, (.ar false y5))]⟩

theorem slices_swapRangeCmpFunc_Gesture_L0_s (fu : Nat) (call : Call') (n : Nat) (c : List PV) (a1 : Int) (a2 : Int) (a3 : Int)  (nn : Nat) (y0 : Nat) (y1 : Int) (y2 : Int) (y3 : Int) (y4 : Int) (y5 : List PV) : slices_swapRangeCmpFunc_Gesture_L0 fu call n c a1 a2 a3  (nn + 1) y0 y1 y2 y3 y4 y5 =
  brK (decide (y4 < y3))
   (
   shareK (IntKind.wrap IntKind.i64 (y1 + y4)) fun x1 =>
   shareK (IntKind.wrap IntKind.i64 (y2 + y4)) fun x2 =>
   shareK (IntKind.wrap IntKind.i64 (y2 + y4)) fun x3 =>
   chk (decide ((0 : Int) ≤ x3) && decide (x3 < (↑y0 : Int))) <|
   intK (IntKind.i64) (List.getD y5 ((0 : Nat) + Int.toNat x3 * (2 : Nat)) PV.top) fun x4 =>
   intK (IntKind.i64) (List.getD y5 ((0 : Nat) + Int.toNat x3 * (2 : Nat) + (1 : Nat)) PV.top) fun x5 =>
   shareK (IntKind.wrap IntKind.i64 (y1 + y4)) fun x6 =>
   chk (decide ((0 : Int) ≤ x6) && decide (x6 < (↑y0 : Int))) <|
   intK (IntKind.i64) (List.getD y5 ((0 : Nat) + Int.toNat x6 * (2 : Nat)) PV.top) fun x7 =>
   intK (IntKind.i64) (List.getD y5 ((0 : Nat) + Int.toNat x6 * (2 : Nat) + (1 : Nat)) PV.top) fun x8 =>
   chk (decide ((0 : Int) ≤ x1) && decide (x1 < (↑y0 : Int))) <|
   chk (decide ((0 : Nat) + Int.toNat x1 * (2 : Nat) + (2 : Nat) ≤ List.length y5)) <|
   shareK (splice y5 [PV.sc (Value.int IntKind.i64 x4), PV.sc (Value.int IntKind.i64 x5)] ((0 : Nat) + Int.toNat x1 * (2 : Nat))) fun x9 =>
   chk (decide ((0 : Int) ≤ x2) && decide (x2 < (↑y0 : Int))) <|
   chk (decide ((0 : Nat) + Int.toNat x2 * (2 : Nat) + (2 : Nat) ≤ List.length x9)) <|
   shareK (splice x9 [PV.sc (Value.int IntKind.i64 x7), PV.sc (Value.int IntKind.i64 x8)] ((0 : Nat) + Int.toNat x2 * (2 : Nat))) fun x10 =>
   shareK (IntKind.wrap IntKind.i64 (y4 + (1 : Int))) fun x11 =>
   slices_swapRangeCmpFunc_Gesture_L0 fu call n c a1 a2 a3 (nn) (y0) (y1) (y2) (y3) (x11) (x10))
   (
   some (Res.mk [] [y5])) := by kernel_rfl

theorem slices_swapRangeCmpFunc_Gesture_e (fu d : Nat) (n : Nat) (c : List PV) (a1 : Int) (a2 : Int) (a3 : Int) : pcall C0 Try.prog fu (d + 1) F_slices_swapRangeCmpFunc_Gesture [PV.tup [PV.own (2 : Nat) n c], PV.sc (Value.int IntKind.i64 a1), PV.sc (Value.int IntKind.i64 a2), PV.sc (Value.int IntKind.i64 a3), PV.sc (Value.func (Fn.func (14 : FuncId)) #[] #[])] = (fun (call : Call') =>
  slices_swapRangeCmpFunc_Gesture_L0 fu call n c a1 a2 a3 (fu) (n) (a1) (a2) (a3) ((0 : Int)) (c)) (pcall C0 Try.prog fu d) := by kernel_rfl

abbrev F_slices_rotateCmpFunc_Gesture : FuncId := 20
noncomputable def slices_rotateCmpFunc_Gesture_L0 (fu : Nat) (call : Call') (n : Nat) (c : List PV) (a1 : Int) (a2 : Int) (a3 : Int)  (nn : Nat) (y0 : Nat) (y1 : Int) (y2 : Int) (y3 : Int) (y4 : List PV) : Option Res :=
  floop C0 Try.prog fu call 20 Try.f20 (bodyOf Try.f20) [PV.tup [PV.own (2 : Nat) n c], PV.sc (Value.int IntKind.i64 a1), PV.sc (Value.int IntKind.i64 a2), PV.sc (Value.int IntKind.i64 a3), PV.sc (Value.func (Fn.func (14 : FuncId)) #[] #[])] [.r, .r, .l, .l] nn ⟨lk [(0, (.view 116000 2 0 y0)), (2, (.sc (.int .i64 y1))), (4, (.sc (Value.func (Fn.func (14 : FuncId)) #[] #[]))), (10, (.sc (.int .i64 y2))), (11, (.sc (.int .i64 y3)))], lkh [(116000, (.ar false y4))]⟩

theorem slices_rotateCmpFunc_Gesture_L0_s (fu : Nat) (call : Call') (n : Nat) (c : List PV) (a1 : Int) (a2 : Int) (a3 : Int)  (nn : Nat) (y0 : Nat) (y1 : Int) (y2 : Int) (y3 : Int) (y4 : List PV) : slices_rotateCmpFunc_Gesture_L0 fu call n c a1 a2 a3  (nn + 1) y0 y1 y2 y3 y4 =
  brK (y2 != y3)
   (
   brK (decide (y2 > y3))
    (
    shareK (IntKind.wrap IntKind.i64 (y1 - y2)) fun x3 =>
    callK (call (21 : Nat) [PV.tup [PV.own (2 : Nat) y0 y4], PV.sc (Value.int IntKind.i64 x3), PV.sc (Value.int IntKind.i64 y1), PV.sc (Value.int IntKind.i64 y3), PV.sc (Value.func (Fn.func (14 : FuncId)) #[] #[])]) fun x4 x5 =>
    nilK (x4) <|
    consK (x5) fun x6 x7 =>
    nilK (x7) <|
    shareK (IntKind.wrap IntKind.i64 (y2 - y3)) fun x8 =>
    slices_rotateCmpFunc_Gesture_L0 fu call n c a1 a2 a3 (nn) (y0) (y1) (x8) (y3) (x6))
    (
    shareK (IntKind.wrap IntKind.i64 (y1 - y2)) fun x9 =>
    shareK (IntKind.wrap IntKind.i64 (y1 + y3)) fun x10 =>
    shareK (IntKind.wrap IntKind.i64 (x10 - y2)) fun x11 =>
    callK (call (21 : Nat) [PV.tup [PV.own (2 : Nat) y0 y4], PV.sc (Value.int IntKind.i64 x9), PV.sc (Value.int IntKind.i64 x11), PV.sc (Value.int IntKind.i64 y2), PV.sc (Value.func (Fn.func (14 : FuncId)) #[] #[])]) fun x12 x13 =>
    nilK (x12) <|
    consK (x13) fun x14 x15 =>
    nilK (x15) <|
    shareK (IntKind.wrap IntKind.i64 (y3 - y2)) fun x16 =>
    slices_rotateCmpFunc_Gesture_L0 fu call n c a1 a2 a3 (nn) (y0) (y1) (y2) (x16) (x14)))
   (
   shareK (IntKind.wrap IntKind.i64 (y1 - y2)) fun x17 =>
   callK (call (21 : Nat) [PV.tup [PV.own (2 : Nat) y0 y4], PV.sc (Value.int IntKind.i64 x17), PV.sc (Value.int IntKind.i64 y1), PV.sc (Value.int IntKind.i64 y2), PV.sc (Value.func (Fn.func (14 : FuncId)) #[] #[])]) fun x18 x19 =>
   nilK (x18) <|
   consK (x19) fun x20 x21 =>
   nilK (x21) <|
   some (Res.mk [] [x20])) := by kernel_rfl

theorem slices_rotateCmpFunc_Gesture_e (fu d : Nat) (n : Nat) (c : List PV) (a1 : Int) (a2 : Int) (a3 : Int) : pcall C0 Try.prog fu (d + 1) F_slices_rotateCmpFunc_Gesture [PV.tup [PV.own (2 : Nat) n c], PV.sc (Value.int IntKind.i64 a1), PV.sc (Value.int IntKind.i64 a2), PV.sc (Value.int IntKind.i64 a3), PV.sc (Value.func (Fn.func (14 : FuncId)) #[] #[])] = (fun (call : Call') =>
  shareK (IntKind.wrap IntKind.i64 (a2 - a1)) fun x1 =>
  shareK (IntKind.wrap IntKind.i64 (a3 - a2)) fun x2 =>
  slices_rotateCmpFunc_Gesture_L0 fu call n c a1 a2 a3 (fu) (n) (a2) (x1) (x2) (c)) (pcall C0 Try.prog fu d) := by kernel_rfl

abbrev F_slices_symMergeCmpFunc_Gesture : FuncId := 19
noncomputable def slices_symMergeCmpFunc_Gesture_L0 (fu : Nat) (call : Call') (n : Nat) (c : List PV) (a1 : Int) (a2 : Int) (a3 : Int)  (nn : Nat) (y0 : Nat) (y1 : Int) (y2 : Int) (y3 : Int) (y4 : List PV) : Option Res :=
  floop C0 Try.prog fu call 19 Try.f19 (bodyOf Try.f19) [PV.tup [PV.own (2 : Nat) n c], PV.sc (Value.int IntKind.i64 a1), PV.sc (Value.int IntKind.i64 a2), PV.sc (Value.int IntKind.i64 a3), PV.sc (Value.func (Fn.func (14 : FuncId)) #[] #[])] [.l, .r, .l, .r, .r, .l, .l] nn ⟨lk [(0, (.view 440000 2 0 y0)), (1, (.sc (.int .i64 y1))), (4, (.sc (Value.func (Fn.func (14 : FuncId)) #[] #[]))), (10, (.sc (.int .i64 y2))), (11, (.sc (.int .i64 y3)))], lkh [(440000, (.ar false y4))]⟩

noncomputable def slices_symMergeCmpFunc_Gesture_L2 (fu : Nat) (call : Call') (n : Nat) (c : List PV) (a1 : Int) (a2 : Int) (a3 : Int)  (nn : Nat) (y0 : Nat) (y1 : Int) (y2 : Int) (y3 : Int) (y4 : List PV) : Option Res :=
  floop C0 Try.prog fu call 19 Try.f19 (bodyOf Try.f19) [PV.tup [PV.own (2 : Nat) n c], PV.sc (Value.int IntKind.i64 a1), PV.sc (Value.int IntKind.i64 a2), PV.sc (Value.int IntKind.i64 a3), PV.sc (Value.func (Fn.func (14 : FuncId)) #[] #[])] [.r, .l, .r, .l, .r, .r, .l, .l] nn ⟨lk [(0, (.view 440000 2 0 y0)), (2, (.sc (.int .i64 y1))), (4, (.sc (Value.func (Fn.func (14 : FuncId)) #[] #[]))), (14, (.sc (.int .i64 y2))), (15, (.sc (.int .i64 y3)))], lkh [(440000, (.ar false y4))]⟩

noncomputable def slices_symMergeCmpFunc_Gesture_L4 (fu : Nat) (call : Call') (n : Nat) (c : List PV) (a1 : Int) (a2 : Int) (a3 : Int)  (nn : Nat) (y0 : Nat) (y1 : Int) (y2 : Int) (y3 : Int) (y4 : Int) (y5 : Int) (y6 : Int) (y7 : Int) (y8 : Int) (y9 : List PV) : Option Res :=
  floop C0 Try.prog fu call 19 Try.f19 (bodyOf Try.f19) [PV.tup [PV.own (2 : Nat) n c], PV.sc (Value.int IntKind.i64 a1), PV.sc (Value.int IntKind.i64 a2), PV.sc (Value.int IntKind.i64 a3), PV.sc (Value.func (Fn.func (14 : FuncId)) #[] #[])] [.r, .r, .r, .r, .r, .r, .r, .l, .l] nn ⟨lk [(0, (.view 440000 2 0 y0)), (1, (.sc (.int .i64 y1))), (2, (.sc (.int .i64 y2))), (3, (.sc (.int .i64 y3))), (4, (.sc (Value.func (Fn.func (14 : FuncId)) #[] #[]))), (18, (.sc (.int .i64 y4))), (19, (.sc (.int .i64 y5))), (20, (.sc (.int .i64 y6))), (21, (.sc (.int .i64 y7))), (22, (.sc (.int .i64 y8)))], lkh [(440000, (.ar false y9))]⟩

noncomputable def slices_symMergeCmpFunc_Gesture_L1 (fu : Nat) (call : Call') (n : Nat) (c : List PV) (a1 : Int) (a2 : Int) (a3 : Int)  (nn : Nat) (y0 : Nat) (y1 : Int) (y2 : Int) (y3 : List PV) : Option Res :=
  floop C0 Try.prog fu call 19 Try.f19 (bodyOf Try.f19) [PV.tup [PV.own (2 : Nat) n c], PV.sc (Value.int IntKind.i64 a1), PV.sc (Value.int IntKind.i64 a2), PV.sc (Value.int IntKind.i64 a3), PV.sc (Value.func (Fn.func (14 : FuncId)) #[] #[])] [.l, .r, .l, .r, .r, .r, .l, .r, .l] nn ⟨lk [(0, (.view 440000 2 0 y0)), (10, (.sc (.int .i64 y1))), (13, (.sc (.int .i64 y2)))], lkh [(440000, (.ar false y3))]⟩

noncomputable def slices_symMergeCmpFunc_Gesture_L3 (fu : Nat) (call : Call') (n : Nat) (c : List PV) (a1 : Int) (a2 : Int) (a3 : Int)  (nn : Nat) (y0 : Nat) (y1 : Int) (y2 : Int) (y3 : List PV) : Option Res :=
  floop C0 Try.prog fu call 19 Try.f19 (bodyOf Try.f19) [PV.tup [PV.own (2 : Nat) n c], PV.sc (Value.int IntKind.i64 a1), PV.sc (Value.int IntKind.i64 a2), PV.sc (Value.int IntKind.i64 a3), PV.sc (Value.func (Fn.func (14 : FuncId)) #[] #[])] [.r, .l, .r, .l, .r, .r, .r, .l, .r, .l] nn ⟨lk [(0, (.view 440000 2 0 y0)), (14, (.sc (.int .i64 y1))), (17, (.sc (.int .i64 y2)))], lkh [(440000, (.ar false y3))]⟩

theorem slices_symMergeCmpFunc_Gesture_L0_s (fu : Nat) (call : Call') (n : Nat) (c : List PV) (a1 : Int) (a2 : Int) (a3 : Int)  (nn : Nat) (y0 : Nat) (y1 : Int) (y2 : Int) (y3 : Int) (y4 : List PV) : slices_symMergeCmpFunc_Gesture_L0 fu call n c a1 a2 a3  (nn + 1) y0 y1 y2 y3 y4 =
  brK (decide (y2 < y3))
   (
   shareK (IntKind.wrap IntKind.i64 (y2 + y3)) fun x11 =>
   shareK (IntKind.wrap IntKind.u64 x11) fun x12 =>
   shareK (ishr IntKind.u64 x12 (1 : Int)) fun x13 =>
   shareK (IntKind.wrap IntKind.i64 x13) fun x14 =>
   chk (decide ((0 : Int) ≤ x14) && decide (x14 < (↑y0 : Int))) <|
   intK (IntKind.i64) (List.getD y4 ((0 : Nat) + Int.toNat x14 * (2 : Nat)) PV.top) fun x15 =>
   intK (IntKind.i64) (List.getD y4 ((0 : Nat) + Int.toNat x14 * (2 : Nat) + (1 : Nat)) PV.top) fun x16 =>
   chk (decide ((0 : Int) ≤ y1) && decide (y1 < (↑y0 : Int))) <|
   intK (IntKind.i64) (List.getD y4 ((0 : Nat) + Int.toNat y1 * (2 : Nat)) PV.top) fun x17 =>
   intK (IntKind.i64) (List.getD y4 ((0 : Nat) + Int.toNat y1 * (2 : Nat) + (1 : Nat)) PV.top) fun x18 =>
   callK (call (14 : FuncId) [PV.agg [PV.sc (Value.int IntKind.i64 x15), PV.sc (Value.int IntKind.i64 x16)], PV.agg [PV.sc (Value.int IntKind.i64 x17), PV.sc (Value.int IntKind.i64 x18)]]) fun x19 x20 =>
   nilK (x20) <|
   consK (x19) fun x21 x22 =>
   intK (IntKind.i64) (x21) fun x23 =>
   nilK (x22) <|
   brK (decide (x23 < (0 : Int)))
    (
    shareK (IntKind.wrap IntKind.i64 (x14 + (1 : Int))) fun x24 =>
    slices_symMergeCmpFunc_Gesture_L0 fu call n c a1 a2 a3 (nn) (y0) (y1) (x24) (y3) (y4))
    (
    slices_symMergeCmpFunc_Gesture_L0 fu call n c a1 a2 a3 (nn) (y0) (y1) (y2) (x14) (y4)))
   (
   slices_symMergeCmpFunc_Gesture_L1 fu call n c a1 a2 a3 (fu) (y0) (y2) (y1) (y4)) := by kernel_rfl

theorem slices_symMergeCmpFunc_Gesture_L2_s (fu : Nat) (call : Call') (n : Nat) (c : List PV) (a1 : Int) (a2 : Int) (a3 : Int)  (nn : Nat) (y0 : Nat) (y1 : Int) (y2 : Int) (y3 : Int) (y4 : List PV) : slices_symMergeCmpFunc_Gesture_L2 fu call n c a1 a2 a3  (nn + 1) y0 y1 y2 y3 y4 =
  brK (decide (y2 < y3))
   (
   shareK (IntKind.wrap IntKind.i64 (y2 + y3)) fun x25 =>
   shareK (IntKind.wrap IntKind.u64 x25) fun x26 =>
   shareK (ishr IntKind.u64 x26 (1 : Int)) fun x27 =>
   shareK (IntKind.wrap IntKind.i64 x27) fun x28 =>
   chk (decide ((0 : Int) ≤ y1) && decide (y1 < (↑y0 : Int))) <|
   intK (IntKind.i64) (List.getD y4 ((0 : Nat) + Int.toNat y1 * (2 : Nat)) PV.top) fun x29 =>
   intK (IntKind.i64) (List.getD y4 ((0 : Nat) + Int.toNat y1 * (2 : Nat) + (1 : Nat)) PV.top) fun x30 =>
   chk (decide ((0 : Int) ≤ x28) && decide (x28 < (↑y0 : Int))) <|
   intK (IntKind.i64) (List.getD y4 ((0 : Nat) + Int.toNat x28 * (2 : Nat)) PV.top) fun x31 =>
   intK (IntKind.i64) (List.getD y4 ((0 : Nat) + Int.toNat x28 * (2 : Nat) + (1 : Nat)) PV.top) fun x32 =>
   callK (call (14 : FuncId) [PV.agg [PV.sc (Value.int IntKind.i64 x29), PV.sc (Value.int IntKind.i64 x30)], PV.agg [PV.sc (Value.int IntKind.i64 x31), PV.sc (Value.int IntKind.i64 x32)]]) fun x33 x34 =>
   nilK (x34) <|
   consK (x33) fun x35 x36 =>
   intK (IntKind.i64) (x35) fun x37 =>
   nilK (x36) <|
   brK (!decide (x37 < (0 : Int)))
    (
    shareK (IntKind.wrap IntKind.i64 (x28 + (1 : Int))) fun x38 =>
    slices_symMergeCmpFunc_Gesture_L2 fu call n c a1 a2 a3 (nn) (y0) (y1) (x38) (y3) (y4))
    (
    slices_symMergeCmpFunc_Gesture_L2 fu call n c a1 a2 a3 (nn) (y0) (y1) (y2) (x28) (y4)))
   (
   slices_symMergeCmpFunc_Gesture_L3 fu call n c a1 a2 a3 (fu) (y0) (y2) (y1) (y4)) := by kernel_rfl

theorem slices_symMergeCmpFunc_Gesture_L4_s (fu : Nat) (call : Call') (n : Nat) (c : List PV) (a1 : Int) (a2 : Int) (a3 : Int)  (nn : Nat) (y0 : Nat) (y1 : Int) (y2 : Int) (y3 : Int) (y4 : Int) (y5 : Int) (y6 : Int) (y7 : Int) (y8 : Int) (y9 : List PV) : slices_symMergeCmpFunc_Gesture_L4 fu call n c a1 a2 a3  (nn + 1) y0 y1 y2 y3 y4 y5 y6 y7 y8 y9 =
  brK (decide (y6 < y7))
   (
   shareK (IntKind.wrap IntKind.i64 (y6 + y7)) fun x39 =>
   shareK (IntKind.wrap IntKind.u64 x39) fun x40 =>
   shareK (ishr IntKind.u64 x40 (1 : Int)) fun x41 =>
   shareK (IntKind.wrap IntKind.i64 x41) fun x42 =>
   shareK (IntKind.wrap IntKind.i64 (y8 - x42)) fun x43 =>
   chk (decide ((0 : Int) ≤ x43) && decide (x43 < (↑y0 : Int))) <|
   intK (IntKind.i64) (List.getD y9 ((0 : Nat) + Int.toNat x43 * (2 : Nat)) PV.top) fun x44 =>
   intK (IntKind.i64) (List.getD y9 ((0 : Nat) + Int.toNat x43 * (2 : Nat) + (1 : Nat)) PV.top) fun x45 =>
   chk (decide ((0 : Int) ≤ x42) && decide (x42 < (↑y0 : Int))) <|
   intK (IntKind.i64) (List.getD y9 ((0 : Nat) + Int.toNat x42 * (2 : Nat)) PV.top) fun x46 =>
   intK (IntKind.i64) (List.getD y9 ((0 : Nat) + Int.toNat x42 * (2 : Nat) + (1 : Nat)) PV.top) fun x47 =>
   callK (call (14 : FuncId) [PV.agg [PV.sc (Value.int IntKind.i64 x44), PV.sc (Value.int IntKind.i64 x45)], PV.agg [PV.sc (Value.int IntKind.i64 x46), PV.sc (Value.int IntKind.i64 x47)]]) fun x48 x49 =>
   nilK (x49) <|
   consK (x48) fun x50 x51 =>
   intK (IntKind.i64) (x50) fun x52 =>
   nilK (x51) <|
   brK (!decide (x52 < (0 : Int)))
    (
    shareK (IntKind.wrap IntKind.i64 (x42 + (1 : Int))) fun x53 =>
    slices_symMergeCmpFunc_Gesture_L4 fu call n c a1 a2 a3 (nn) (y0) (y1) (y2) (y3) (y4) (y5) (x53) (y7) (y8) (y9))
    (
    slices_symMergeCmpFunc_Gesture_L4 fu call n c a1 a2 a3 (nn) (y0) (y1) (y2) (y3) (y4) (y5) (y6) (x42) (y8) (y9)))
   (
   shareK (IntKind.wrap IntKind.i64 (y5 - y6)) fun x54 =>
   brK (decide (y6 < y2))
    (
    brK (decide (y2 < x54))
     (
     callK (call (20 : Nat) [PV.tup [PV.own (2 : Nat) y0 y9], PV.sc (Value.int IntKind.i64 y6), PV.sc (Value.int IntKind.i64 y2), PV.sc (Value.int IntKind.i64 x54), PV.sc (Value.func (Fn.func (14 : FuncId)) #[] #[])]) fun x55 x56 =>
     nilK (x55) <|
     consK (x56) fun x57 x58 =>
     nilK (x58) <|
     brK (decide (y1 < y6))
      (
      brK (decide (y6 < y4))
       (
       callK (call (19 : Nat) [PV.tup [PV.own (2 : Nat) y0 x57], PV.sc (Value.int IntKind.i64 y1), PV.sc (Value.int IntKind.i64 y6), PV.sc (Value.int IntKind.i64 y4), PV.sc (Value.func (Fn.func (14 : FuncId)) #[] #[])]) fun x59 x60 =>
       nilK (x59) <|
       consK (x60) fun x61 x62 =>
       nilK (x62) <|
       brK (decide (y4 < x54))
        (
        brK (decide (x54 < y3))
         (
         callK (call (19 : Nat) [PV.tup [PV.own (2 : Nat) y0 x61], PV.sc (Value.int IntKind.i64 y4), PV.sc (Value.int IntKind.i64 x54), PV.sc (Value.int IntKind.i64 y3), PV.sc (Value.func (Fn.func (14 : FuncId)) #[] #[])]) fun x63 x64 =>
         nilK (x63) <|
         consK (x64) fun x65 x66 =>
         nilK (x66) <|
         some (Res.mk [] [x65]))
         (
         some (Res.mk [] [x61])))
        (
        some (Res.mk [] [x61])))
       (
       brK (decide (y4 < x54))
        (
        brK (decide (x54 < y3))
         (
         callK (call (19 : Nat) [PV.tup [PV.own (2 : Nat) y0 x57], PV.sc (Value.int IntKind.i64 y4), PV.sc (Value.int IntKind.i64 x54), PV.sc (Value.int IntKind.i64 y3), PV.sc (Value.func (Fn.func (14 : FuncId)) #[] #[])]) fun x67 x68 =>
         nilK (x67) <|
         consK (x68) fun x69 x70 =>
         nilK (x70) <|
         some (Res.mk [] [x69]))
         (
         some (Res.mk [] [x57])))
        (
        some (Res.mk [] [x57]))))
      (
      brK (decide (y4 < x54))
       (
       brK (decide (x54 < y3))
        (
        callK (call (19 : Nat) [PV.tup [PV.own (2 : Nat) y0 x57], PV.sc (Value.int IntKind.i64 y4), PV.sc (Value.int IntKind.i64 x54), PV.sc (Value.int IntKind.i64 y3), PV.sc (Value.func (Fn.func (14 : FuncId)) #[] #[])]) fun x71 x72 =>
        nilK (x71) <|
        consK (x72) fun x73 x74 =>
        nilK (x74) <|
        some (Res.mk [] [x73]))
        (
        some (Res.mk [] [x57])))
       (
       some (Res.mk [] [x57]))))
     (
     brK (decide (y1 < y6))
      (
      brK (decide (y6 < y4))
       (
       callK (call (19 : Nat) [PV.tup [PV.own (2 : Nat) y0 y9], PV.sc (Value.int IntKind.i64 y1), PV.sc (Value.int IntKind.i64 y6), PV.sc (Value.int IntKind.i64 y4), PV.sc (Value.func (Fn.func (14 : FuncId)) #[] #[])]) fun x75 x76 =>
       nilK (x75) <|
       consK (x76) fun x77 x78 =>
       nilK (x78) <|
       brK (decide (y4 < x54))
        (
        brK (decide (x54 < y3))
         (
         callK (call (19 : Nat) [PV.tup [PV.own (2 : Nat) y0 x77], PV.sc (Value.int IntKind.i64 y4), PV.sc (Value.int IntKind.i64 x54), PV.sc (Value.int IntKind.i64 y3), PV.sc (Value.func (Fn.func (14 : FuncId)) #[] #[])]) fun x79 x80 =>
         nilK (x79) <|
         consK (x80) fun x81 x82 =>
         nilK (x82) <|
         some (Res.mk [] [x81]))
         (
         some (Res.mk [] [x77])))
        (
        some (Res.mk [] [x77])))
       (
       brK (decide (y4 < x54))
        (
        brK (decide (x54 < y3))
         (
         callK (call (19 : Nat) [PV.tup [PV.own (2 : Nat) y0 y9], PV.sc (Value.int IntKind.i64 y4), PV.sc (Value.int IntKind.i64 x54), PV.sc (Value.int IntKind.i64 y3), PV.sc (Value.func (Fn.func (14 : FuncId)) #[] #[])]) fun x83 x84 =>
         nilK (x83) <|
         consK (x84) fun x85 x86 =>
         nilK (x86) <|
         some (Res.mk [] [x85]))
         (
         some (Res.mk [] [y9])))
        (
        some (Res.mk [] [y9]))))
      (
      brK (decide (y4 < x54))
       (
       brK (decide (x54 < y3))
        (
        callK (call (19 : Nat) [PV.tup [PV.own (2 : Nat) y0 y9], PV.sc (Value.int IntKind.i64 y4), PV.sc (Value.int IntKind.i64 x54), PV.sc (Value.int IntKind.i64 y3), PV.sc (Value.func (Fn.func (14 : FuncId)) #[] #[])]) fun x87 x88 =>
        nilK (x87) <|
        consK (x88) fun x89 x90 =>
        nilK (x90) <|
        some (Res.mk [] [x89]))
        (
        some (Res.mk [] [y9])))
       (
       some (Res.mk [] [y9])))))
    (
    brK (decide (y1 < y6))
     (
     brK (decide (y6 < y4))
      (
      callK (call (19 : Nat) [PV.tup [PV.own (2 : Nat) y0 y9], PV.sc (Value.int IntKind.i64 y1), PV.sc (Value.int IntKind.i64 y6), PV.sc (Value.int IntKind.i64 y4), PV.sc (Value.func (Fn.func (14 : FuncId)) #[] #[])]) fun x91 x92 =>
      nilK (x91) <|
      consK (x92) fun x93 x94 =>
      nilK (x94) <|
      brK (decide (y4 < x54))
       (
       brK (decide (x54 < y3))
        (
        callK (call (19 : Nat) [PV.tup [PV.own (2 : Nat) y0 x93], PV.sc (Value.int IntKind.i64 y4), PV.sc (Value.int IntKind.i64 x54), PV.sc (Value.int IntKind.i64 y3), PV.sc (Value.func (Fn.func (14 : FuncId)) #[] #[])]) fun x95 x96 =>
        nilK (x95) <|
        consK (x96) fun x97 x98 =>
        nilK (x98) <|
        some (Res.mk [] [x97]))
        (
        some (Res.mk [] [x93])))
       (
       some (Res.mk [] [x93])))
      (
      brK (decide (y4 < x54))
       (
       brK (decide (x54 < y3))
        (
        callK (call (19 : Nat) [PV.tup [PV.own (2 : Nat) y0 y9], PV.sc (Value.int IntKind.i64 y4), PV.sc (Value.int IntKind.i64 x54), PV.sc (Value.int IntKind.i64 y3), PV.sc (Value.func (Fn.func (14 : FuncId)) #[] #[])]) fun x99 x100 =>
        nilK (x99) <|
        consK (x100) fun x101 x102 =>
        nilK (x102) <|
        some (Res.mk [] [x101]))
        (
        some (Res.mk [] [y9])))
       (
       some (Res.mk [] [y9]))))
     (
     brK (decide (y4 < x54))
      (
      brK (decide (x54 < y3))
       (
       callK (call (19 : Nat) [PV.tup [PV.own (2 : Nat) y0 y9], PV.sc (Value.int IntKind.i64 y4), PV.sc (Value.int IntKind.i64 x54), PV.sc (Value.int IntKind.i64 y3), PV.sc (Value.func (Fn.func (14 : FuncId)) #[] #[])]) fun x103 x104 =>
       nilK (x103) <|
       consK (x104) fun x105 x106 =>
       nilK (x106) <|
       some (Res.mk [] [x105]))
       (
       some (Res.mk [] [y9])))
      (
      some (Res.mk [] [y9]))))) := by kernel_rfl

theorem slices_symMergeCmpFunc_Gesture_L1_s (fu : Nat) (call : Call') (n : Nat) (c : List PV) (a1 : Int) (a2 : Int) (a3 : Int)  (nn : Nat) (y0 : Nat) (y1 : Int) (y2 : Int) (y3 : List PV) : slices_symMergeCmpFunc_Gesture_L1 fu call n c a1 a2 a3  (nn + 1) y0 y1 y2 y3 =
  shareK (IntKind.wrap IntKind.i64 (y1 - (1 : Int))) fun x107 =>
  brK (decide (y2 < x107))
   (
   shareK (IntKind.wrap IntKind.i64 (y2 + (1 : Int))) fun x108 =>
   shareK (IntKind.wrap IntKind.i64 (y2 + (1 : Int))) fun x109 =>
   chk (decide ((0 : Int) ≤ x109) && decide (x109 < (↑y0 : Int))) <|
   intK (IntKind.i64) (List.getD y3 ((0 : Nat) + Int.toNat x109 * (2 : Nat)) PV.top) fun x110 =>
   intK (IntKind.i64) (List.getD y3 ((0 : Nat) + Int.toNat x109 * (2 : Nat) + (1 : Nat)) PV.top) fun x111 =>
   chk (decide ((0 : Int) ≤ y2) && decide (y2 < (↑y0 : Int))) <|
   intK (IntKind.i64) (List.getD y3 ((0 : Nat) + Int.toNat y2 * (2 : Nat)) PV.top) fun x112 =>
   intK (IntKind.i64) (List.getD y3 ((0 : Nat) + Int.toNat y2 * (2 : Nat) + (1 : Nat)) PV.top) fun x113 =>
   chk (decide ((0 : Int) ≤ y2) && decide (y2 < (↑y0 : Int))) <|
   chk (decide ((0 : Nat) + Int.toNat y2 * (2 : Nat) + (2 : Nat) ≤ List.length y3)) <|
   shareK (splice y3 [PV.sc (Value.int IntKind.i64 x110), PV.sc (Value.int IntKind.i64 x111)] ((0 : Nat) + Int.toNat y2 * (2 : Nat))) fun x114 =>
   chk (decide ((0 : Int) ≤ x108) && decide (x108 < (↑y0 : Int))) <|
   chk (decide ((0 : Nat) + Int.toNat x108 * (2 : Nat) + (2 : Nat) ≤ List.length x114)) <|
   shareK (splice x114 [PV.sc (Value.int IntKind.i64 x112), PV.sc (Value.int IntKind.i64 x113)] ((0 : Nat) + Int.toNat x108 * (2 : Nat))) fun x115 =>
   shareK (IntKind.wrap IntKind.i64 (y2 + (1 : Int))) fun x116 =>
   slices_symMergeCmpFunc_Gesture_L1 fu call n c a1 a2 a3 (nn) (y0) (y1) (x116) (x115))
   (
   some (Res.mk [] [y3])) := by kernel_rfl

theorem slices_symMergeCmpFunc_Gesture_L3_s (fu : Nat) (call : Call') (n : Nat) (c : List PV) (a1 : Int) (a2 : Int) (a3 : Int)  (nn : Nat) (y0 : Nat) (y1 : Int) (y2 : Int) (y3 : List PV) : slices_symMergeCmpFunc_Gesture_L3 fu call n c a1 a2 a3  (nn + 1) y0 y1 y2 y3 =
  brK (decide (y2 > y1))
   (
   shareK (IntKind.wrap IntKind.i64 (y2 - (1 : Int))) fun x117 =>
   shareK (IntKind.wrap IntKind.i64 (y2 - (1 : Int))) fun x118 =>
   chk (decide ((0 : Int) ≤ x118) && decide (x118 < (↑y0 : Int))) <|
   intK (IntKind.i64) (List.getD y3 ((0 : Nat) + Int.toNat x118 * (2 : Nat)) PV.top) fun x119 =>
   intK (IntKind.i64) (List.getD y3 ((0 : Nat) + Int.toNat x118 * (2 : Nat) + (1 : Nat)) PV.top) fun x120 =>
   chk (decide ((0 : Int) ≤ y2) && decide (y2 < (↑y0 : Int))) <|
   intK (IntKind.i64) (List.getD y3 ((0 : Nat) + Int.toNat y2 * (2 : Nat)) PV.top) fun x121 =>
   intK (IntKind.i64) (List.getD y3 ((0 : Nat) + Int.toNat y2 * (2 : Nat) + (1 : Nat)) PV.top) fun x122 =>
   chk (decide ((0 : Int) ≤ y2) && decide (y2 < (↑y0 : Int))) <|
   chk (decide ((0 : Nat) + Int.toNat y2 * (2 : Nat) + (2 : Nat) ≤ List.length y3)) <|
   shareK (splice y3 [PV.sc (Value.int IntKind.i64 x119), PV.sc (Value.int IntKind.i64 x120)] ((0 : Nat) + Int.toNat y2 * (2 : Nat))) fun x123 =>
   chk (decide ((0 : Int) ≤ x117) && decide (x117 < (↑y0 : Int))) <|
   chk (decide ((0 : Nat) + Int.toNat x117 * (2 : Nat) + (2 : Nat) ≤ List.length x123)) <|
   shareK (splice x123 [PV.sc (Value.int IntKind.i64 x121), PV.sc (Value.int IntKind.i64 x122)] ((0 : Nat) + Int.toNat x117 * (2 : Nat))) fun x124 =>
   shareK (IntKind.wrap IntKind.i64 (y2 - (1 : Int))) fun x125 =>
   slices_symMergeCmpFunc_Gesture_L3 fu call n c a1 a2 a3 (nn) (y0) (y1) (x125) (x124))
   (
   some (Res.mk [] [y3])) := by kernel_rfl

theorem slices_symMergeCmpFunc_Gesture_e (fu d : Nat) (n : Nat) (c : List PV) (a1 : Int) (a2 : Int) (a3 : Int) : pcall C0 Try.prog fu (d + 1) F_slices_symMergeCmpFunc_Gesture [PV.tup [PV.own (2 : Nat) n c], PV.sc (Value.int IntKind.i64 a1), PV.sc (Value.int IntKind.i64 a2), PV.sc (Value.int IntKind.i64 a3), PV.sc (Value.func (Fn.func (14 : FuncId)) #[] #[])] = (fun (call : Call') =>
  shareK (IntKind.wrap IntKind.i64 (a2 - a1)) fun x1 =>
  brK (x1 == (1 : Int))
   (
   slices_symMergeCmpFunc_Gesture_L0 fu call n c a1 a2 a3 (fu) (n) (a1) (a2) (a3) (c))
   (
   shareK (IntKind.wrap IntKind.i64 (a3 - a2)) fun x2 =>
   brK (x2 == (1 : Int))
    (
    slices_symMergeCmpFunc_Gesture_L2 fu call n c a1 a2 a3 (fu) (n) (a2) (a1) (a2) (c))
    (
    shareK (IntKind.wrap IntKind.i64 (a1 + a3)) fun x3 =>
    shareK (IntKind.wrap IntKind.u64 x3) fun x4 =>
    shareK (ishr IntKind.u64 x4 (1 : Int)) fun x5 =>
    shareK (IntKind.wrap IntKind.i64 x5) fun x6 =>
    shareK (IntKind.wrap IntKind.i64 (x6 + a2)) fun x7 =>
    brK (decide (a2 > x6))
     (
     shareK (IntKind.wrap IntKind.i64 (x7 - a3)) fun x8 =>
     shareK (IntKind.wrap IntKind.i64 (x7 - (1 : Int))) fun x9 =>
     slices_symMergeCmpFunc_Gesture_L4 fu call n c a1 a2 a3 (fu) (n) (a1) (a2) (a3) (x6) (x7) (x8) (x6) (x9) (c))
     (
     shareK (IntKind.wrap IntKind.i64 (x7 - (1 : Int))) fun x10 =>
     slices_symMergeCmpFunc_Gesture_L4 fu call n c a1 a2 a3 (fu) (n) (a1) (a2) (a3) (x6) (x7) (a1) (a2) (x10) (c))))) (pcall C0 Try.prog fu d) := by kernel_rfl

abbrev F_slices_stableCmpFunc_Gesture : FuncId := 16
noncomputable def slices_stableCmpFunc_Gesture_L0 (fu : Nat) (call : Call') (n : Nat) (c : List PV) (a1 : Int)  (nn : Nat) (y0 : Nat) (y1 : Int) (y2 : Int) (y3 : Int) (y4 : Int) (y5 : List PV) : Option Res :=
  floop C0 Try.prog fu call 16 Try.f16 (bodyOf Try.f16) [PV.tup [PV.own (2 : Nat) n c], PV.sc (Value.int IntKind.i64 a1), PV.sc (Value.func (Fn.func (14 : FuncId)) #[] #[])] [.r, .r, .l, .l] nn ⟨lk [(0, (.view 126000 2 0 y0)), (1, (.sc (.int .i64 y1))), (2, (.sc (Value.func (Fn.func (14 : FuncId)) #[] #[]))), (6, (.sc (.int .i64 y2))), (7, (.sc (.int .i64 y3))), (8, (.sc (.int .i64 y4)))], lkh [(126000, (.ar false y5))]⟩

noncomputable def slices_stableCmpFunc_Gesture_L1 (fu : Nat) (call : Call') (n : Nat) (c : List PV) (a1 : Int)  (nn : Nat) (y0 : Nat) (y1 : Int) (y2 : Int) (y3 : List PV) : Option Res :=
  floop C0 Try.prog fu call 16 Try.f16 (bodyOf Try.f16) [PV.tup [PV.own (2 : Nat) n c], PV.sc (Value.int IntKind.i64 a1), PV.sc (Value.func (Fn.func (14 : FuncId)) #[] #[])] [.r, .r, .r, .r, .l] nn ⟨lk [(0, (.view 126000 2 0 y0)), (1, (.sc (.int .i64 y1))), (2, (.sc (Value.func (Fn.func (14 : FuncId)) #[] #[]))), (6, (.sc (.int .i64 y2)))], lkh [(126000, (.ar false y3))]⟩

noncomputable def slices_stableCmpFunc_Gesture_L2 (fu : Nat) (call : Call') (n : Nat) (c : List PV) (a1 : Int) (m0 : Nat) (nn : Nat) (y0 : Nat) (y1 : Int) (y2 : Int) (y3 : Int) (y4 : Int) (y5 : List PV) : Option Res :=
  floop C0 Try.prog fu call 16 Try.f16 (bodyOf Try.f16) [PV.tup [PV.own (2 : Nat) n c], PV.sc (Value.int IntKind.i64 a1), PV.sc (Value.func (Fn.func (14 : FuncId)) #[] #[])] [.r, .r, .r, .r, .l, .i m0, .r, .l, .r, .l, .l] nn ⟨lk [(0, (.view 126000 2 0 y0)), (1, (.sc (.int .i64 y1))), (2, (.sc (Value.func (Fn.func (14 : FuncId)) #[] #[]))), (6, (.sc (.int .i64 y2))), (7, (.sc (.int .i64 y3))), (8, (.sc (.int .i64 y4)))], lkh [(126000, (.ar false y5))]⟩

theorem slices_stableCmpFunc_Gesture_L0_s (fu : Nat) (call : Call') (n : Nat) (c : List PV) (a1 : Int)  (nn : Nat) (y0 : Nat) (y1 : Int) (y2 : Int) (y3 : Int) (y4 : Int) (y5 : List PV) : slices_stableCmpFunc_Gesture_L0 fu call n c a1  (nn + 1) y0 y1 y2 y3 y4 y5 =
  brK (decide (y4 ≤ y1))
   (
   callK (call (18 : Nat) [PV.tup [PV.own (2 : Nat) y0 y5], PV.sc (Value.int IntKind.i64 y3), PV.sc (Value.int IntKind.i64 y4), PV.sc (Value.func (Fn.func (14 : FuncId)) #[] #[])]) fun x1 x2 =>
   nilK (x1) <|
   consK (x2) fun x3 x4 =>
   nilK (x4) <|
   shareK (IntKind.wrap IntKind.i64 (y4 + y2)) fun x5 =>
   slices_stableCmpFunc_Gesture_L0 fu call n c a1 (nn) (y0) (y1) (y2) (y4) (x5) (x3))
   (
   callK (call (18 : Nat) [PV.tup [PV.own (2 : Nat) y0 y5], PV.sc (Value.int IntKind.i64 y3), PV.sc (Value.int IntKind.i64 y1), PV.sc (Value.func (Fn.func (14 : FuncId)) #[] #[])]) fun x6 x7 =>
   nilK (x6) <|
   consK (x7) fun x8 x9 =>
   nilK (x9) <|
   slices_stableCmpFunc_Gesture_L1 fu call n c a1 (fu) (y0) (y1) (y2) (x8)) := by kernel_rfl

theorem slices_stableCmpFunc_Gesture_L1_s (fu : Nat) (call : Call') (n : Nat) (c : List PV) (a1 : Int)  (nn : Nat) (y0 : Nat) (y1 : Int) (y2 : Int) (y3 : List PV) : slices_stableCmpFunc_Gesture_L1 fu call n c a1  (nn + 1) y0 y1 y2 y3 =
  brK (decide (y2 < y1))
   (
   shareK (IntKind.wrap IntKind.i64 ((2 : Int) * y2)) fun x10 =>
   slices_stableCmpFunc_Gesture_L2 fu call n c a1 nn (fu) (y0) (y1) (y2) ((0 : Int)) (x10) (y3))
   (
   some (Res.mk [] [y3])) := by kernel_rfl

theorem slices_stableCmpFunc_Gesture_L2_s (fu : Nat) (call : Call') (n : Nat) (c : List PV) (a1 : Int) (m0 : Nat) (nn : Nat) (y0 : Nat) (y1 : Int) (y2 : Int) (y3 : Int) (y4 : Int) (y5 : List PV) : slices_stableCmpFunc_Gesture_L2 fu call n c a1 m0 (nn + 1) y0 y1 y2 y3 y4 y5 =
  brK (decide (y4 ≤ y1))
   (
   shareK (IntKind.wrap IntKind.i64 (y3 + y2)) fun x11 =>
   callK (call (19 : Nat) [PV.tup [PV.own (2 : Nat) y0 y5], PV.sc (Value.int IntKind.i64 y3), PV.sc (Value.int IntKind.i64 x11), PV.sc (Value.int IntKind.i64 y4), PV.sc (Value.func (Fn.func (14 : FuncId)) #[] #[])]) fun x12 x13 =>
   nilK (x12) <|
   consK (x13) fun x14 x15 =>
   nilK (x15) <|
   shareK (IntKind.wrap IntKind.i64 ((2 : Int) * y2)) fun x16 =>
   shareK (IntKind.wrap IntKind.i64 (y4 + x16)) fun x17 =>
   slices_stableCmpFunc_Gesture_L2 fu call n c a1 m0 (nn) (y0) (y1) (y2) (y4) (x17) (x14))
   (
   shareK (IntKind.wrap IntKind.i64 (y3 + y2)) fun x18 =>
   brK (decide (x18 < y1))
    (
    callK (call (19 : Nat) [PV.tup [PV.own (2 : Nat) y0 y5], PV.sc (Value.int IntKind.i64 y3), PV.sc (Value.int IntKind.i64 x18), PV.sc (Value.int IntKind.i64 y1), PV.sc (Value.func (Fn.func (14 : FuncId)) #[] #[])]) fun x19 x20 =>
    nilK (x19) <|
    consK (x20) fun x21 x22 =>
    nilK (x22) <|
    shareK (IntKind.wrap IntKind.i64 (y2 * (2 : Int))) fun x23 =>
    slices_stableCmpFunc_Gesture_L1 fu call n c a1 (m0) (y0) (y1) (x23) (x21))
    (
    shareK (IntKind.wrap IntKind.i64 (y2 * (2 : Int))) fun x24 =>
    slices_stableCmpFunc_Gesture_L1 fu call n c a1 (m0) (y0) (y1) (x24) (y5))) := by kernel_rfl

theorem slices_stableCmpFunc_Gesture_e (fu d : Nat) (n : Nat) (c : List PV) (a1 : Int) : pcall C0 Try.prog fu (d + 1) F_slices_stableCmpFunc_Gesture [PV.tup [PV.own (2 : Nat) n c], PV.sc (Value.int IntKind.i64 a1), PV.sc (Value.func (Fn.func (14 : FuncId)) #[] #[])] = (fun (call : Call') =>
  slices_stableCmpFunc_Gesture_L0 fu call n c a1 (fu) (n) (a1) ((20 : Int)) ((0 : Int)) ((20 : Int)) (c)) (pcall C0 Try.prog fu d) := by kernel_rfl

abbrev F_slices_SortStableFunc_Gesture : FuncId := 13
theorem slices_SortStableFunc_Gesture_e (fu d : Nat) (n : Nat) (c : List PV) : pcall C0 Try.prog fu (d + 1) F_slices_SortStableFunc_Gesture [PV.tup [PV.own (2 : Nat) n c], PV.sc (Value.func (Fn.func (14 : FuncId)) #[] #[])] = (fun (call : Call') =>
  callK (call (16 : Nat) [PV.tup [PV.own (2 : Nat) n c], PV.sc (Value.int IntKind.i64 (↑n : Int)), PV.sc (Value.func (Fn.func (14 : FuncId)) #[] #[])]) fun x1 x2 =>
  nilK (x1) <|
  consK (x2) fun x3 x4 =>
  nilK (x4) <|
  some (Res.mk [] [x3])) (pcall C0 Try.prog fu d) := by kernel_rfl

end Go.Proofs.Ytaphhfehcbkfkaa.Pv
