/-
  What the functions compute, step by step: written by a program (wip/tools/gen.py).
-/
import Derived.Test.YtoidbofkmflocaaPvL
import Derived.Test.YtoidbofkmflocaaRows
set_option maxRecDepth 100000
set_option linter.unusedVariables false
namespace Go.Proofs.Ytoidbofkmflocaa.Pv

abbrev F_slices_Concat_Lease : FuncId := 35
noncomputable def slices_Concat_Lease_L0 (fu : Nat) (call : Call') (a0n : Nat) (a0 : List PV)  (nn : Nat) (y0 : Nat) (y1 : List PV) (y2 : Int) (y3 : Nat) (y4 : List PV) (y5 : Int) (y6 : Int) : Option Res :=
  floop C0 Try.prog fu call 35 Try.f35 (bodyOf Try.f35) [PV.lst false (1 : Nat) a0n a0] [.r, .r, .l, .r, .l] nn ⟨lk [(0, (.lst false 1 y0 y1)), (3, (.sc (.int .i64 y2))), (9, (.lst false 1 y3 y4)), (10, (.sc (.int .i64 y5))), (11, (.sc (.int .i64 y6)))], lkh []⟩

noncomputable def slices_Concat_Lease_L1 (fu : Nat) (call : Call') (a0n : Nat) (a0 : List PV)  (nn : Nat) (y0 : Nat) (y1 : Nat) (y2 : List PV) (y3 : Int) (y4 : Int) (y5 : List PV) : Option Res :=
  floop C0 Try.prog fu call 35 Try.f35 (bodyOf Try.f35) [PV.lst false (1 : Nat) a0n a0] [.r, .r, .r, .r, .l, .r, .l] nn ⟨lk [(6, (.view 6 4 0 y0)), (25, (.lst false 1 y1 y2)), (26, (.sc (.int .i64 y3))), (27, (.sc (.int .i64 y4)))], lkh [(6, (.ar false y5))]⟩

theorem slices_Concat_Lease_L0_s (fu : Nat) (call : Call') (a0n : Nat) (a0 : List PV)  (nn : Nat) (y0 : Nat) (y1 : List PV) (y2 : Int) (y3 : Nat) (y4 : List PV) (y5 : Int) (y6 : Int) : slices_Concat_Lease_L0 fu call a0n a0  (nn + 1) y0 y1 y2 y3 y4 y5 y6 =
  brK (decide (y6 < y5))
   (
   chk (decide ((0 : Int) ≤ y6) && decide (y6 < (↑y3 : Int))) <|
   lsK ((4 : Nat)) (List.getD y4 (Int.toNat y6 * (1 : Nat)) PV.top) fun x1 x2 x3 =>
   shareK (IntKind.wrap IntKind.i64 (y2 + (↑x2 : Int))) fun x4 =>
   brK (decide (x4 < (0 : Int)))
    (
    none)
    (
    shareK (IntKind.wrap IntKind.i64 (y6 + (1 : Int))) fun x5 =>
    slices_Concat_Lease_L0 fu call a0n a0 (nn) (y0) (y1) (x4) (y3) (y4) (y5) (x5)))
   (
   callK (call (36 : Nat) [PV.lst true (4 : Nat) (0 : Nat) [], PV.sc (Value.int IntKind.i64 y2)]) fun x6 x7 =>
   nilK (x7) <|
   consK (x6) fun x8 x9 =>
   owK ((4 : Nat)) (x8) fun x10 x11 =>
   nilK (x9) <|
   slices_Concat_Lease_L1 fu call a0n a0 (fu) (x10) (y0) (y1) ((↑y0 : Int)) ((0 : Int)) (x11)) := by kernel_rfl

theorem slices_Concat_Lease_L1_s (fu : Nat) (call : Call') (a0n : Nat) (a0 : List PV)  (nn : Nat) (y0 : Nat) (y1 : Nat) (y2 : List PV) (y3 : Int) (y4 : Int) (y5 : List PV) : slices_Concat_Lease_L1 fu call a0n a0  (nn + 1) y0 y1 y2 y3 y4 y5 =
  brK (decide (y4 < y3))
   (
   chk (decide ((0 : Int) ≤ y4) && decide (y4 < (↑y1 : Int))) <|
   lsK ((4 : Nat)) (List.getD y2 (Int.toNat y4 * (1 : Nat)) PV.top) fun x12 x13 x14 =>
   chk (decide (y0 * (4 : Nat) ≤ List.length y5) && decide (List.length x14 = x13 * (4 : Nat)) && decide ((y0 + x13) * (32 : Nat) ≤ (1099511627776 : Nat)) && decide (y0 + x13 ≤ (1099511627776 : Nat))) <|
   shareK (y0 + x13) fun x15 =>
   shareK (List.take (y0 * (4 : Nat)) y5 ++ x14) fun x16 =>
   shareK (IntKind.wrap IntKind.i64 (y4 + (1 : Int))) fun x17 =>
   slices_Concat_Lease_L1 fu call a0n a0 (nn) (x15) (y1) (y2) (y3) (x17) (x16))
   (
   chk (decide (y0 * (4 : Nat) ≤ List.length y5)) <|
   some (Res.mk [PV.own (4 : Nat) y0 (List.take (y0 * (4 : Nat)) y5)] [])) := by kernel_rfl

theorem slices_Concat_Lease_e (fu d : Nat) (a0n : Nat) (a0 : List PV) : pcall C0 Try.prog fu (d + 1) F_slices_Concat_Lease [PV.lst false (1 : Nat) a0n a0] = (fun (call : Call') =>
  slices_Concat_Lease_L0 fu call a0n a0 (fu) (a0n) (a0) ((0 : Int)) (a0n) (a0) ((↑a0n : Int)) ((0 : Int))) (pcall C0 Try.prog fu d) := by kernel_rfl

abbrev F_slices_Grow_Lease : FuncId := 36
theorem slices_Grow_Lease_e (fu d : Nat) (a1 : Int) : pcall C0 Try.prog fu (d + 1) F_slices_Grow_Lease [PV.lst true (4 : Nat) (0 : Nat) [], PV.sc (Value.int IntKind.i64 a1)] = (fun (call : Call') =>
  brK (decide (a1 < (0 : Int)))
   (
   none)
   (
   shareK (IntKind.wrap IntKind.i64 (a1 - (0 : Int))) fun x1 =>
   brK (decide (x1 > (0 : Int)))
    (
    chk (decide ((0 : Int) ≤ x1) && decide (Int.toNat x1 * (32 : Nat) ≤ (1099511627776 : Nat)) && decide (x1 ≤ (1099511627776 : Int))) <|
    some (Res.mk [PV.own (4 : Nat) (0 : Nat) []] []))
    (
    some (Res.mk [PV.own (4 : Nat) (0 : Nat) []] [])))) (pcall C0 Try.prog fu d) := by kernel_rfl

end Go.Proofs.Ytoidbofkmflocaa.Pv
