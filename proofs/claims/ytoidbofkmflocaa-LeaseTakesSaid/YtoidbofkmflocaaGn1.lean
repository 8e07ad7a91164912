/-
  What the functions compute, step by step: written by a program (wip/tools/gen.py).
-/
import Derived.Test.YtoidbofkmflocaaPvL
import Derived.Test.YtoidbofkmflocaaRows
set_option maxRecDepth 100000
set_option linter.unusedVariables false
namespace Go.Proofs.Ytoidbofkmflocaa.Pv

abbrev F_lease_valid : FuncId := 28
theorem lease_valid_e (fu d : Nat) (a0_0 : Int) (a0_1 : Int) (a0_2 : Int) (a0_3 : Int) : pcall C0 Try.prog fu (d + 1) F_lease_valid [PV.agg [PV.sc (Value.int IntKind.u64 a0_0), PV.sc (Value.int IntKind.i64 a0_1), PV.sc (Value.int IntKind.i64 a0_2), PV.sc (Value.int IntKind.i64 a0_3)]] = (fun (call : Call') =>
  brK (decide ((0 : Int) ≤ a0_1))
   (
   brK (decide (a0_1 ≤ a0_3))
    (
    brK (decide (a0_3 ≤ a0_2))
     (
     some (Res.mk [PV.sc (Value.bool (decide (a0_2 ≤ (16 : Int))))] []))
     (
     some (Res.mk [PV.sc (Value.bool false)] [])))
    (
    some (Res.mk [PV.sc (Value.bool false)] [])))
   (
   some (Res.mk [PV.sc (Value.bool false)] []))) (pcall C0 Try.prog fu d) := by kernel_rfl

abbrev F_lease_Find : FuncId := 11
noncomputable def lease_Find_L0 (fu : Nat) (call : Call') (a0n : Nat) (a0 : List PV) (a1 : Int)  (nn : Nat) (y0 : Int) (y1 : Nat) (y2 : List PV) (y3 : Int) (y4 : Int) : Option Res :=
  floop C0 Try.prog fu call 11 Try.f11 (bodyOf Try.f11) [PV.lst false (4 : Nat) a0n a0, PV.sc (Value.int IntKind.u64 a1)] [.r, .l, .r, .l] nn ⟨lk [(1, (.sc (.int .u64 y0))), (8, (.lst false 4 y1 y2)), (9, (.sc (.int .i64 y3))), (10, (.sc (.int .i64 y4)))], lkh []⟩

theorem lease_Find_L0_s (fu : Nat) (call : Call') (a0n : Nat) (a0 : List PV) (a1 : Int)  (nn : Nat) (y0 : Int) (y1 : Nat) (y2 : List PV) (y3 : Int) (y4 : Int) : lease_Find_L0 fu call a0n a0 a1  (nn + 1) y0 y1 y2 y3 y4 =
  brK (decide (y4 < y3))
   (
   chk (decide ((0 : Int) ≤ y4) && decide (y4 < (↑y1 : Int))) <|
   intK (IntKind.u64) (List.getD y2 (Int.toNat y4 * (4 : Nat)) PV.top) fun x1 =>
   intK (IntKind.i64) (List.getD y2 (Int.toNat y4 * (4 : Nat) + (1 : Nat)) PV.top) fun x2 =>
   intK (IntKind.i64) (List.getD y2 (Int.toNat y4 * (4 : Nat) + (1 : Nat) + (1 : Nat)) PV.top) fun x3 =>
   intK (IntKind.i64) (List.getD y2 (Int.toNat y4 * (4 : Nat) + (1 : Nat) + (1 : Nat) + (1 : Nat)) PV.top) fun x4 =>
   brK (x1 == y0)
    (
    some (Res.mk [PV.sc (Value.int IntKind.i64 y4), PV.sc (Value.bool true)] []))
    (
    shareK (IntKind.wrap IntKind.i64 (y4 + (1 : Int))) fun x5 =>
    lease_Find_L0 fu call a0n a0 a1 (nn) (y0) (y1) (y2) (y3) (x5)))
   (
   some (Res.mk [PV.sc (Value.int IntKind.i64 (0 : Int)), PV.sc (Value.bool false)] [])) := by kernel_rfl

theorem lease_Find_e (fu d : Nat) (a0n : Nat) (a0 : List PV) (a1 : Int) : pcall C0 Try.prog fu (d + 1) F_lease_Find [PV.lst false (4 : Nat) a0n a0, PV.sc (Value.int IntKind.u64 a1)] = (fun (call : Call') =>
  lease_Find_L0 fu call a0n a0 a1 (fu) (a1) (a0n) (a0) ((↑a0n : Int)) ((0 : Int))) (pcall C0 Try.prog fu d) := by kernel_rfl

abbrev F_lease_Validate : FuncId := 13
noncomputable def lease_Validate_L0 (fu : Nat) (call : Call') (a0n : Nat) (a0 : List PV)  (nn : Nat) (y0 : Nat) (y1 : List PV) (y2 : Nat) (y3 : List PV) (y4 : Int) (y5 : Int) : Option Res :=
  floop C0 Try.prog fu call 13 Try.f13 (bodyOf Try.f13) [PV.lst false (4 : Nat) a0n a0] [.r, .r, .l, .r, .l] nn ⟨lk [(0, (.lst false 4 y0 y1)), (10, (.lst false 4 y2 y3)), (11, (.sc (.int .i64 y4))), (12, (.sc (.int .i64 y5)))], lkh []⟩

theorem lease_Validate_L0_s (fu : Nat) (call : Call') (a0n : Nat) (a0 : List PV)  (nn : Nat) (y0 : Nat) (y1 : List PV) (y2 : Nat) (y3 : List PV) (y4 : Int) (y5 : Int) : lease_Validate_L0 fu call a0n a0  (nn + 1) y0 y1 y2 y3 y4 y5 =
  brK (decide (y5 < y4))
   (
   chk (decide ((0 : Int) ≤ y5) && decide (y5 < (↑y2 : Int))) <|
   intK (IntKind.u64) (List.getD y3 (Int.toNat y5 * (4 : Nat)) PV.top) fun x1 =>
   intK (IntKind.i64) (List.getD y3 (Int.toNat y5 * (4 : Nat) + (1 : Nat)) PV.top) fun x2 =>
   intK (IntKind.i64) (List.getD y3 (Int.toNat y5 * (4 : Nat) + (1 : Nat) + (1 : Nat)) PV.top) fun x3 =>
   intK (IntKind.i64) (List.getD y3 (Int.toNat y5 * (4 : Nat) + (1 : Nat) + (1 : Nat) + (1 : Nat)) PV.top) fun x4 =>
   callK (call (28 : Nat) [PV.agg [PV.sc (Value.int IntKind.u64 x1), PV.sc (Value.int IntKind.i64 x2), PV.sc (Value.int IntKind.i64 x3), PV.sc (Value.int IntKind.i64 x4)]]) fun x5 x6 =>
   nilK (x6) <|
   consK (x5) fun x7 x8 =>
   boolK (x7) fun x9 =>
   nilK (x8) <|
   brK (!x9)
    (
    some (Res.mk [PV.sc (Value.int IntKind.i64 (9 : Int))] []))
    (
    chk (decide ((0 : Int) ≤ y5)) <|
    chk (decide (Int.toNat y5 ≤ y0)) <|
    shareK (Int.toNat y5 - (0 : Nat)) fun x10 =>
    shareK (List.take (x10 * (4 : Nat)) (List.drop (0 : Nat) y1)) fun x11 =>
    callK (call (11 : Nat) [PV.lst false (4 : Nat) x10 x11, PV.sc (Value.int IntKind.u64 x1)]) fun x12 x13 =>
    nilK (x13) <|
    consK (x12) fun x14 x15 =>
    intK (IntKind.i64) (x14) fun x16 =>
    consK (x15) fun x17 x18 =>
    boolK (x17) fun x19 =>
    nilK (x18) <|
    brK (x19)
     (
     some (Res.mk [PV.sc (Value.int IntKind.i64 (10 : Int))] []))
     (
     shareK (IntKind.wrap IntKind.i64 (y5 + (1 : Int))) fun x20 =>
     lease_Validate_L0 fu call a0n a0 (nn) (y0) (y1) (y2) (y3) (y4) (x20))))
   (
   some (Res.mk [PV.sc (Value.int IntKind.i64 (0 : Int))] [])) := by kernel_rfl

theorem lease_Validate_e (fu d : Nat) (a0n : Nat) (a0 : List PV) : pcall C0 Try.prog fu (d + 1) F_lease_Validate [PV.lst false (4 : Nat) a0n a0] = (fun (call : Call') =>
  brK (decide ((↑a0n : Int) > (16 : Int)))
   (
   some (Res.mk [PV.sc (Value.int IntKind.i64 (8 : Int))] []))
   (
   lease_Validate_L0 fu call a0n a0 (fu) (a0n) (a0) (a0n) (a0) ((↑a0n : Int)) ((0 : Int)))) (pcall C0 Try.prog fu d) := by kernel_rfl

abbrev F_lease_Grant : FuncId := 15
theorem lease_Grant_e (fu d : Nat) (a0n : Nat) (a0 : List PV) (a1 : Int) (a2 : Int) (a3 : Int) (a4 : Int) : pcall C0 Try.prog fu (d + 1) F_lease_Grant [PV.lst false (4 : Nat) a0n a0, PV.sc (Value.int IntKind.u64 a1), PV.sc (Value.int IntKind.i64 a2), PV.sc (Value.int IntKind.i64 a3), PV.sc (Value.int IntKind.i64 a4)] = (fun (call : Call') =>
  callK (call (13 : Nat) [PV.lst false (4 : Nat) a0n a0]) fun x1 x2 =>
  nilK (x2) <|
  consK (x1) fun x3 x4 =>
  intK (IntKind.i64) (x3) fun x5 =>
  nilK (x4) <|
  brK (x5 != (0 : Int))
   (
   some (Res.mk [PV.own (4 : Nat) (0 : Nat) [], PV.sc (Value.int IntKind.i64 x5)] []))
   (
   callK (call (28 : Nat) [PV.agg [PV.sc (Value.int IntKind.u64 a1), PV.sc (Value.int IntKind.i64 a2), PV.sc (Value.int IntKind.i64 a3), PV.sc (Value.int IntKind.i64 a4)]]) fun x6 x7 =>
   nilK (x7) <|
   consK (x6) fun x8 x9 =>
   boolK (x8) fun x10 =>
   nilK (x9) <|
   brK (!x10)
    (
    some (Res.mk [PV.own (4 : Nat) (0 : Nat) [], PV.sc (Value.int IntKind.i64 (9 : Int))] []))
    (
    callK (call (11 : Nat) [PV.lst false (4 : Nat) a0n a0, PV.sc (Value.int IntKind.u64 a1)]) fun x11 x12 =>
    nilK (x12) <|
    consK (x11) fun x13 x14 =>
    intK (IntKind.i64) (x13) fun x15 =>
    consK (x14) fun x16 x17 =>
    boolK (x16) fun x18 =>
    nilK (x17) <|
    brK (x18)
     (
     some (Res.mk [PV.own (4 : Nat) (0 : Nat) [], PV.sc (Value.int IntKind.i64 (10 : Int))] []))
     (
     brK (decide ((↑a0n : Int) ≥ (16 : Int)))
      (
      some (Res.mk [PV.own (4 : Nat) (0 : Nat) [], PV.sc (Value.int IntKind.i64 (12 : Int))] []))
      (
      callK (call (30 : Nat) [PV.lst false (4 : Nat) a0n a0]) fun x19 x20 =>
      nilK (x20) <|
      consK (x19) fun x21 x22 =>
      owK ((4 : Nat)) (x21) fun x23 x24 =>
      nilK (x22) <|
      chk (decide (x23 * (4 : Nat) ≤ List.length x24) && true && decide ((x23 + (1 : Nat)) * (32 : Nat) ≤ (1099511627776 : Nat)) && decide (x23 + (1 : Nat) ≤ (1099511627776 : Nat))) <|
      shareK (x23 + (1 : Nat)) fun x25 =>
      shareK (List.take (x23 * (4 : Nat)) x24 ++ [PV.sc (Value.int IntKind.u64 a1), PV.sc (Value.int IntKind.i64 a2), PV.sc (Value.int IntKind.i64 a3), PV.sc (Value.int IntKind.i64 a4)]) fun x26 =>
      chk (decide (x25 * (4 : Nat) ≤ List.length x26)) <|
      some (Res.mk [PV.own (4 : Nat) x25 (List.take (x25 * (4 : Nat)) x26), PV.sc (Value.int IntKind.i64 (0 : Int))] [])))))) (pcall C0 Try.prog fu d) := by kernel_rfl

abbrev F_slices_Clone_Lease : FuncId := 30
theorem slices_Clone_Lease_e (fu d : Nat) (a0n : Nat) (a0 : List PV) : pcall C0 Try.prog fu (d + 1) F_slices_Clone_Lease [PV.lst false (4 : Nat) a0n a0] = (fun (call : Call') =>
  brK (decide ((0 : Nat) < a0n))
   (
   chk (decide (List.length a0 = a0n * (4 : Nat)) && decide (((0 : Nat) + a0n) * (32 : Nat) ≤ (1099511627776 : Nat)) && decide ((0 : Nat) + a0n ≤ (1099511627776 : Nat))) <|
   shareK ((0 : Nat) + a0n) fun x1 =>
   shareK ([] ++ a0) fun x2 =>
   chk (decide (x1 * (4 : Nat) ≤ List.length x2)) <|
   some (Res.mk [PV.own (4 : Nat) x1 (List.take (x1 * (4 : Nat)) x2)] []))
   (
   bothK
    (
    some (Res.mk [PV.own (4 : Nat) (0 : Nat) []] []))
    (
    chk (decide (List.length a0 = a0n * (4 : Nat)) && decide (((0 : Nat) + a0n) * (32 : Nat) ≤ (1099511627776 : Nat)) && decide ((0 : Nat) + a0n ≤ (1099511627776 : Nat))) <|
    shareK ((0 : Nat) + a0n) fun x3 =>
    shareK ([] ++ a0) fun x4 =>
    chk (decide (x3 * (4 : Nat) ≤ List.length x4)) <|
    some (Res.mk [PV.own (4 : Nat) x3 (List.take (x3 * (4 : Nat)) x4)] [])))) (pcall C0 Try.prog fu d) := by kernel_rfl

abbrev F_passkeylaw10_made : FuncId := 10
noncomputable def passkeylaw10_made_L0 (fu : Nat) (call : Call') (a0n : Nat) (a0 : List PV)  (nn : Nat) (y0 : Nat) (y1 : List PV) (y2 : Nat) (y3 : Int) (y4 : List PV) : Option Res :=
  floop C0 Try.prog fu call 10 Try.f10 (bodyOf Try.f10) [PV.lst false (1 : Nat) a0n a0] [.r, .r, .l, .r, .l] nn ⟨lk [(0, (.lst false 1 y0 y1)), (3, (.view 3 4 0 y2)), (4, (.sc (.int .i64 y3)))], lkh [(3, (.ar false y4))]⟩

theorem passkeylaw10_made_L0_s (fu : Nat) (call : Call') (a0n : Nat) (a0 : List PV)  (nn : Nat) (y0 : Nat) (y1 : List PV) (y2 : Nat) (y3 : Int) (y4 : List PV) : passkeylaw10_made_L0 fu call a0n a0  (nn + 1) y0 y1 y2 y3 y4 =
  brK (decide (y3 < (↑y0 : Int)))
   (
   brK (decide (y3 < (18 : Int)))
    (
    chk (decide ((0 : Int) ≤ y3) && decide (y3 < (↑y0 : Int))) <|
    intK (IntKind.i64) (List.getD y1 (Int.toNat y3 * (1 : Nat)) PV.top) fun x1 =>
    shareK (iand IntKind.i64 x1 (16777215 : Int)) fun x2 =>
    shareK (IntKind.wrap IntKind.u64 y3) fun x3 =>
    shareK (iand IntKind.i64 x2 (7 : Int)) fun x4 =>
    shareK (ishr IntKind.i64 x2 (3 : Int)) fun x5 =>
    shareK (iand IntKind.i64 x5 (7 : Int)) fun x6 =>
    shareK (IntKind.wrap IntKind.i64 (x4 + x6)) fun x7 =>
    shareK (ishr IntKind.i64 x2 (6 : Int)) fun x8 =>
    shareK (iand IntKind.i64 x8 (7 : Int)) fun x9 =>
    shareK (IntKind.wrap IntKind.i64 (x7 - x4)) fun x10 =>
    shareK (IntKind.wrap IntKind.i64 (x10 + (1 : Int))) fun x11 =>
    chk (decide (x11 ≠ (0 : Int))) <|
    shareK (Int.tmod x9 x11) fun x12 =>
    shareK (IntKind.wrap IntKind.i64 (x4 + x12)) fun x13 =>
    shareK (ishr IntKind.i64 x2 (9 : Int)) fun x14 =>
    shareK (iand IntKind.i64 x14 (63 : Int)) fun x15 =>
    brK (x15 == (0 : Int))
     (
     shareK (ishr IntKind.i64 x2 (15 : Int)) fun x16 =>
     shareK (iand IntKind.i64 x16 (3 : Int)) fun x17 =>
     shareK (IntKind.wrap IntKind.u64 x17) fun x18 =>
     chk (decide (y2 * (4 : Nat) ≤ List.length y4) && true && decide ((y2 + (1 : Nat)) * (32 : Nat) ≤ (1099511627776 : Nat)) && decide (y2 + (1 : Nat) ≤ (1099511627776 : Nat))) <|
     shareK (y2 + (1 : Nat)) fun x19 =>
     shareK (List.take (y2 * (4 : Nat)) y4 ++ [PV.sc (Value.int IntKind.u64 x18), PV.sc (Value.int IntKind.i64 x4), PV.sc (Value.int IntKind.i64 x7), PV.sc (Value.int IntKind.i64 x13)]) fun x20 =>
     shareK (IntKind.wrap IntKind.i64 (y3 + (1 : Int))) fun x21 =>
     passkeylaw10_made_L0 fu call a0n a0 (nn) (y0) (y1) (x19) (x21) (x20))
     (
     brK (x15 == (1 : Int))
      (
      shareK (ishr IntKind.i64 x2 (15 : Int)) fun x22 =>
      shareK (iand IntKind.i64 x22 (31 : Int)) fun x23 =>
      shareK (IntKind.wrap IntKind.i64 (x23 - (3 : Int))) fun x24 =>
      chk (decide (y2 * (4 : Nat) ≤ List.length y4) && true && decide ((y2 + (1 : Nat)) * (32 : Nat) ≤ (1099511627776 : Nat)) && decide (y2 + (1 : Nat) ≤ (1099511627776 : Nat))) <|
      shareK (y2 + (1 : Nat)) fun x25 =>
      shareK (List.take (y2 * (4 : Nat)) y4 ++ [PV.sc (Value.int IntKind.u64 x3), PV.sc (Value.int IntKind.i64 x4), PV.sc (Value.int IntKind.i64 x7), PV.sc (Value.int IntKind.i64 x24)]) fun x26 =>
      shareK (IntKind.wrap IntKind.i64 (y3 + (1 : Int))) fun x27 =>
      passkeylaw10_made_L0 fu call a0n a0 (nn) (y0) (y1) (x25) (x27) (x26))
      (
      brK (x15 == (2 : Int))
       (
       shareK (ishr IntKind.i64 x2 (15 : Int)) fun x28 =>
       shareK (iand IntKind.i64 x28 (3 : Int)) fun x29 =>
       shareK (IntKind.wrap IntKind.i64 ((14 : Int) + x29)) fun x30 =>
       chk (decide (y2 * (4 : Nat) ≤ List.length y4) && true && decide ((y2 + (1 : Nat)) * (32 : Nat) ≤ (1099511627776 : Nat)) && decide (y2 + (1 : Nat) ≤ (1099511627776 : Nat))) <|
       shareK (y2 + (1 : Nat)) fun x31 =>
       shareK (List.take (y2 * (4 : Nat)) y4 ++ [PV.sc (Value.int IntKind.u64 x3), PV.sc (Value.int IntKind.i64 x4), PV.sc (Value.int IntKind.i64 x30), PV.sc (Value.int IntKind.i64 x13)]) fun x32 =>
       shareK (IntKind.wrap IntKind.i64 (y3 + (1 : Int))) fun x33 =>
       passkeylaw10_made_L0 fu call a0n a0 (nn) (y0) (y1) (x31) (x33) (x32))
       (
       brK (x15 == (3 : Int))
        (
        shareK (ishr IntKind.i64 x2 (15 : Int)) fun x34 =>
        shareK (iand IntKind.i64 x34 (3 : Int)) fun x35 =>
        shareK (IntKind.wrap IntKind.i64 (x35 - (2 : Int))) fun x36 =>
        chk (decide (y2 * (4 : Nat) ≤ List.length y4) && true && decide ((y2 + (1 : Nat)) * (32 : Nat) ≤ (1099511627776 : Nat)) && decide (y2 + (1 : Nat) ≤ (1099511627776 : Nat))) <|
        shareK (y2 + (1 : Nat)) fun x37 =>
        shareK (List.take (y2 * (4 : Nat)) y4 ++ [PV.sc (Value.int IntKind.u64 x3), PV.sc (Value.int IntKind.i64 x36), PV.sc (Value.int IntKind.i64 x7), PV.sc (Value.int IntKind.i64 x13)]) fun x38 =>
        shareK (IntKind.wrap IntKind.i64 (y3 + (1 : Int))) fun x39 =>
        passkeylaw10_made_L0 fu call a0n a0 (nn) (y0) (y1) (x37) (x39) (x38))
        (
        chk (decide (y2 * (4 : Nat) ≤ List.length y4) && true && decide ((y2 + (1 : Nat)) * (32 : Nat) ≤ (1099511627776 : Nat)) && decide (y2 + (1 : Nat) ≤ (1099511627776 : Nat))) <|
        shareK (y2 + (1 : Nat)) fun x40 =>
        shareK (List.take (y2 * (4 : Nat)) y4 ++ [PV.sc (Value.int IntKind.u64 x3), PV.sc (Value.int IntKind.i64 x4), PV.sc (Value.int IntKind.i64 x7), PV.sc (Value.int IntKind.i64 x13)]) fun x41 =>
        shareK (IntKind.wrap IntKind.i64 (y3 + (1 : Int))) fun x42 =>
        passkeylaw10_made_L0 fu call a0n a0 (nn) (y0) (y1) (x40) (x42) (x41))))))
    (
    chk (decide (y2 * (4 : Nat) ≤ List.length y4)) <|
    some (Res.mk [PV.own (4 : Nat) y2 (List.take (y2 * (4 : Nat)) y4)] [])))
   (
   chk (decide (y2 * (4 : Nat) ≤ List.length y4)) <|
   some (Res.mk [PV.own (4 : Nat) y2 (List.take (y2 * (4 : Nat)) y4)] [])) := by kernel_rfl

theorem passkeylaw10_made_e (fu d : Nat) (a0n : Nat) (a0 : List PV) : pcall C0 Try.prog fu (d + 1) F_passkeylaw10_made [PV.lst false (1 : Nat) a0n a0] = (fun (call : Call') =>
  passkeylaw10_made_L0 fu call a0n a0 (fu) (a0n) (a0) ((0 : Nat)) ((0 : Int)) ([])) (pcall C0 Try.prog fu d) := by kernel_rfl

abbrev F_passkeylaw10_awake : FuncId := 9
theorem passkeylaw10_awake_e (fu d : Nat)  : pcall C0 Try.prog fu (d + 1) F_passkeylaw10_awake [] = (fun (call : Call') =>
  callK (call (15 : Nat) [PV.lst false (4 : Nat) (0 : Nat) [], PV.sc (Value.int IntKind.u64 (5 : Int)), PV.sc (Value.int IntKind.i64 (0 : Int)), PV.sc (Value.int IntKind.i64 (2 : Int)), PV.sc (Value.int IntKind.i64 (0 : Int))]) fun x1 x2 =>
  nilK (x2) <|
  consK (x1) fun x3 x4 =>
  owK ((4 : Nat)) (x3) fun x5 x6 =>
  consK (x4) fun x7 x8 =>
  intK (IntKind.i64) (x7) fun x9 =>
  nilK (x8) <|
  chk (decide ((0 : Nat) + x5 * (4 : Nat) ≤ List.length x6)) <|
  callK (call (20 : Nat) [PV.lst false (4 : Nat) x5 (List.take (x5 * (4 : Nat)) (List.drop (0 : Nat) x6)), PV.sc (Value.int IntKind.u64 (5 : Int))]) fun x10 x11 =>
  nilK (x11) <|
  consK (x10) fun x12 x13 =>
  owK ((4 : Nat)) (x12) fun x14 x15 =>
  consK (x13) fun x16 x17 =>
  intK (IntKind.i64) (x16) fun x18 =>
  consK (x17) fun x19 x20 =>
  intK (IntKind.i64) (x19) fun x21 =>
  nilK (x20) <|
  chk (decide ((0 : Nat) + x14 * (4 : Nat) ≤ List.length x15)) <|
  callK (call (20 : Nat) [PV.lst false (4 : Nat) x14 (List.take (x14 * (4 : Nat)) (List.drop (0 : Nat) x15)), PV.sc (Value.int IntKind.u64 (5 : Int))]) fun x22 x23 =>
  nilK (x23) <|
  consK (x22) fun x24 x25 =>
  owK ((4 : Nat)) (x24) fun x26 x27 =>
  consK (x25) fun x28 x29 =>
  intK (IntKind.i64) (x28) fun x30 =>
  consK (x29) fun x31 x32 =>
  intK (IntKind.i64) (x31) fun x33 =>
  nilK (x32) <|
  chk (decide ((0 : Nat) + x26 * (4 : Nat) ≤ List.length x27)) <|
  callK (call (20 : Nat) [PV.lst false (4 : Nat) x26 (List.take (x26 * (4 : Nat)) (List.drop (0 : Nat) x27)), PV.sc (Value.int IntKind.u64 (5 : Int))]) fun x34 x35 =>
  nilK (x35) <|
  consK (x34) fun x36 x37 =>
  owK ((4 : Nat)) (x36) fun x38 x39 =>
  consK (x37) fun x40 x41 =>
  intK (IntKind.i64) (x40) fun x42 =>
  consK (x41) fun x43 x44 =>
  intK (IntKind.i64) (x43) fun x45 =>
  nilK (x44) <|
  brK (x9 == (0 : Int))
   (
   brK (x21 == (0 : Int))
    (
    brK (x33 == (0 : Int))
     (
     brK (x45 == (13 : Int))
      (
      brK (x18 == (0 : Int))
       (
       some (Res.mk [PV.sc (Value.bool (x30 == (1 : Int)))] []))
       (
       some (Res.mk [PV.sc (Value.bool false)] [])))
      (
      some (Res.mk [PV.sc (Value.bool false)] [])))
     (
     some (Res.mk [PV.sc (Value.bool false)] [])))
    (
    some (Res.mk [PV.sc (Value.bool false)] [])))
   (
   some (Res.mk [PV.sc (Value.bool false)] []))) (pcall C0 Try.prog fu d) := by kernel_rfl

abbrev F_lease_locate : FuncId := 31
theorem lease_locate_e (fu d : Nat) (a0n : Nat) (a0 : List PV) (a1 : Int) : pcall C0 Try.prog fu (d + 1) F_lease_locate [PV.lst false (4 : Nat) a0n a0, PV.sc (Value.int IntKind.u64 a1)] = (fun (call : Call') =>
  callK (call (13 : Nat) [PV.lst false (4 : Nat) a0n a0]) fun x1 x2 =>
  nilK (x2) <|
  consK (x1) fun x3 x4 =>
  intK (IntKind.i64) (x3) fun x5 =>
  nilK (x4) <|
  brK (x5 != (0 : Int))
   (
   some (Res.mk [PV.sc (Value.int IntKind.i64 (0 : Int)), PV.sc (Value.int IntKind.i64 x5)] []))
   (
   callK (call (11 : Nat) [PV.lst false (4 : Nat) a0n a0, PV.sc (Value.int IntKind.u64 a1)]) fun x6 x7 =>
   nilK (x7) <|
   consK (x6) fun x8 x9 =>
   intK (IntKind.i64) (x8) fun x10 =>
   consK (x9) fun x11 x12 =>
   boolK (x11) fun x13 =>
   nilK (x12) <|
   brK (!x13)
    (
    some (Res.mk [PV.sc (Value.int IntKind.i64 (0 : Int)), PV.sc (Value.int IntKind.i64 (11 : Int))] []))
    (
    some (Res.mk [PV.sc (Value.int IntKind.i64 x10), PV.sc (Value.int IntKind.i64 (0 : Int))] [])))) (pcall C0 Try.prog fu d) := by kernel_rfl

end Go.Proofs.Ytoidbofkmflocaa.Pv
