/-
  What the functions compute, step by step: written by a program (wip/tools/gen.py).
-/
import Derived.Test.YtoidbofkmflocaaPvL
import Derived.Test.YtoidbofkmflocaaRows
set_option maxRecDepth 100000
set_option linter.unusedVariables false
namespace Go.Proofs.Ytoidbofkmflocaa.Pv

abbrev F_passkeyref10_Valid : FuncId := 29
theorem passkeyref10_Valid_e (fu d : Nat) (a0_0 : Int) (a0_1 : Int) (a0_2 : Int) (a0_3 : Int) : pcall C0 Try.prog fu (d + 1) F_passkeyref10_Valid [PV.agg [PV.sc (Value.int IntKind.u64 a0_0), PV.sc (Value.int IntKind.i64 a0_1), PV.sc (Value.int IntKind.i64 a0_2), PV.sc (Value.int IntKind.i64 a0_3)]] = (fun (call : Call') =>
  brK (decide (a0_1 ≥ (0 : Int)))
   (
   brK (decide (a0_1 ≤ a0_3))
    (
    brK (decide (a0_3 ≤ a0_2))
     (
     some (Res.mk [PV.sc (Value.bool (decide (a0_2 ≤ (16 : Int))))] []))
     (
     some (Res.mk [PV.sc (Value.bool false)] [])))
    (
    some (Res.mk [PV.sc (Value.bool false)] [])))
   (
   some (Res.mk [PV.sc (Value.bool false)] []))) (pcall C0 Try.prog fu d) := by kernel_rfl

abbrev F_passkeyref10_FindLease : FuncId := 12
noncomputable def passkeyref10_FindLease_L0 (fu : Nat) (call : Call') (a0n : Nat) (a0 : List PV) (a1 : Int)  (nn : Nat) (y0 : Nat) (y1 : List PV) (y2 : Int) (y3 : Int) : Option Res :=
  floop C0 Try.prog fu call 12 Try.f12 (bodyOf Try.f12) [PV.lst false (4 : Nat) a0n a0, PV.sc (Value.int IntKind.u64 a1)] [.r, .l, .r, .l] nn ⟨lk [(0, (.lst false 4 y0 y1)), (1, (.sc (.int .u64 y2))), (6, (.sc (.int .i64 y3)))], lkh []⟩

theorem passkeyref10_FindLease_L0_s (fu : Nat) (call : Call') (a0n : Nat) (a0 : List PV) (a1 : Int)  (nn : Nat) (y0 : Nat) (y1 : List PV) (y2 : Int) (y3 : Int) : passkeyref10_FindLease_L0 fu call a0n a0 a1  (nn + 1) y0 y1 y2 y3 =
  brK (decide (y3 < (↑y0 : Int)))
   (
   chk (decide ((0 : Int) ≤ y3) && decide (y3 < (↑y0 : Int))) <|
   intK (IntKind.u64) (List.getD y1 (Int.toNat y3 * (4 : Nat) + (0 : Nat)) PV.top) fun x1 =>
   brK (x1 == y2)
    (
    some (Res.mk [PV.sc (Value.int IntKind.i64 y3), PV.sc (Value.bool true)] []))
    (
    shareK (IntKind.wrap IntKind.i64 (y3 + (1 : Int))) fun x2 =>
    passkeyref10_FindLease_L0 fu call a0n a0 a1 (nn) (y0) (y1) (y2) (x2)))
   (
   some (Res.mk [PV.sc (Value.int IntKind.i64 (0 : Int)), PV.sc (Value.bool false)] [])) := by kernel_rfl

theorem passkeyref10_FindLease_e (fu d : Nat) (a0n : Nat) (a0 : List PV) (a1 : Int) : pcall C0 Try.prog fu (d + 1) F_passkeyref10_FindLease [PV.lst false (4 : Nat) a0n a0, PV.sc (Value.int IntKind.u64 a1)] = (fun (call : Call') =>
  passkeyref10_FindLease_L0 fu call a0n a0 a1 (fu) (a0n) (a0) (a1) ((0 : Int))) (pcall C0 Try.prog fu d) := by kernel_rfl

abbrev F_passkeyref10_ValidateLeases : FuncId := 14
noncomputable def passkeyref10_ValidateLeases_L0 (fu : Nat) (call : Call') (a0n : Nat) (a0 : List PV)  (nn : Nat) (y0 : Nat) (y1 : List PV) (y2 : Int) : Option Res :=
  floop C0 Try.prog fu call 14 Try.f14 (bodyOf Try.f14) [PV.lst false (4 : Nat) a0n a0] [.r, .r, .l, .r, .l] nn ⟨lk [(0, (.lst false 4 y0 y1)), (3, (.sc (.int .i64 y2)))], lkh []⟩

theorem passkeyref10_ValidateLeases_L0_s (fu : Nat) (call : Call') (a0n : Nat) (a0 : List PV)  (nn : Nat) (y0 : Nat) (y1 : List PV) (y2 : Int) : passkeyref10_ValidateLeases_L0 fu call a0n a0  (nn + 1) y0 y1 y2 =
  brK (decide (y2 < (↑y0 : Int)))
   (
   chk (decide ((0 : Int) ≤ y2) && decide (y2 < (↑y0 : Int))) <|
   intK (IntKind.u64) (List.getD y1 (Int.toNat y2 * (4 : Nat)) PV.top) fun x1 =>
   intK (IntKind.i64) (List.getD y1 (Int.toNat y2 * (4 : Nat) + (1 : Nat)) PV.top) fun x2 =>
   intK (IntKind.i64) (List.getD y1 (Int.toNat y2 * (4 : Nat) + (1 : Nat) + (1 : Nat)) PV.top) fun x3 =>
   intK (IntKind.i64) (List.getD y1 (Int.toNat y2 * (4 : Nat) + (1 : Nat) + (1 : Nat) + (1 : Nat)) PV.top) fun x4 =>
   callK (call (29 : Nat) [PV.agg [PV.sc (Value.int IntKind.u64 x1), PV.sc (Value.int IntKind.i64 x2), PV.sc (Value.int IntKind.i64 x3), PV.sc (Value.int IntKind.i64 x4)]]) fun x5 x6 =>
   nilK (x6) <|
   consK (x5) fun x7 x8 =>
   boolK (x7) fun x9 =>
   nilK (x8) <|
   brK (!x9)
    (
    some (Res.mk [PV.sc (Value.int IntKind.i64 (9 : Int))] []))
    (
    chk (decide ((0 : Int) ≤ y2)) <|
    chk (decide (Int.toNat y2 ≤ y0)) <|
    shareK (Int.toNat y2 - (0 : Nat)) fun x10 =>
    shareK (List.take (x10 * (4 : Nat)) (List.drop (0 : Nat) y1)) fun x11 =>
    chk (decide ((0 : Int) ≤ y2) && decide (y2 < (↑y0 : Int))) <|
    intK (IntKind.u64) (List.getD y1 (Int.toNat y2 * (4 : Nat) + (0 : Nat)) PV.top) fun x12 =>
    callK (call (12 : Nat) [PV.lst false (4 : Nat) x10 x11, PV.sc (Value.int IntKind.u64 x12)]) fun x13 x14 =>
    nilK (x14) <|
    consK (x13) fun x15 x16 =>
    intK (IntKind.i64) (x15) fun x17 =>
    consK (x16) fun x18 x19 =>
    boolK (x18) fun x20 =>
    nilK (x19) <|
    brK (x20)
     (
     some (Res.mk [PV.sc (Value.int IntKind.i64 (10 : Int))] []))
     (
     shareK (IntKind.wrap IntKind.i64 (y2 + (1 : Int))) fun x21 =>
     passkeyref10_ValidateLeases_L0 fu call a0n a0 (nn) (y0) (y1) (x21))))
   (
   some (Res.mk [PV.sc (Value.int IntKind.i64 (0 : Int))] [])) := by kernel_rfl

theorem passkeyref10_ValidateLeases_e (fu d : Nat) (a0n : Nat) (a0 : List PV) : pcall C0 Try.prog fu (d + 1) F_passkeyref10_ValidateLeases [PV.lst false (4 : Nat) a0n a0] = (fun (call : Call') =>
  brK (decide ((↑a0n : Int) > (16 : Int)))
   (
   some (Res.mk [PV.sc (Value.int IntKind.i64 (8 : Int))] []))
   (
   passkeyref10_ValidateLeases_L0 fu call a0n a0 (fu) (a0n) (a0) ((0 : Int)))) (pcall C0 Try.prog fu d) := by kernel_rfl

abbrev F_passkeyref10_Grant : FuncId := 16
theorem passkeyref10_Grant_e (fu d : Nat) (a0n : Nat) (a0 : List PV) (a1 : Int) (a2 : Int) (a3 : Int) (a4 : Int) : pcall C0 Try.prog fu (d + 1) F_passkeyref10_Grant [PV.lst false (4 : Nat) a0n a0, PV.sc (Value.int IntKind.u64 a1), PV.sc (Value.int IntKind.i64 a2), PV.sc (Value.int IntKind.i64 a3), PV.sc (Value.int IntKind.i64 a4)] = (fun (call : Call') =>
  callK (call (14 : Nat) [PV.lst false (4 : Nat) a0n a0]) fun x1 x2 =>
  nilK (x2) <|
  consK (x1) fun x3 x4 =>
  intK (IntKind.i64) (x3) fun x5 =>
  nilK (x4) <|
  brK (x5 != (0 : Int))
   (
   some (Res.mk [PV.own (4 : Nat) (0 : Nat) [], PV.sc (Value.int IntKind.i64 x5)] []))
   (
   callK (call (29 : Nat) [PV.agg [PV.sc (Value.int IntKind.u64 a1), PV.sc (Value.int IntKind.i64 a2), PV.sc (Value.int IntKind.i64 a3), PV.sc (Value.int IntKind.i64 a4)]]) fun x6 x7 =>
   nilK (x7) <|
   consK (x6) fun x8 x9 =>
   boolK (x8) fun x10 =>
   nilK (x9) <|
   brK (!x10)
    (
    some (Res.mk [PV.own (4 : Nat) (0 : Nat) [], PV.sc (Value.int IntKind.i64 (9 : Int))] []))
    (
    callK (call (12 : Nat) [PV.lst false (4 : Nat) a0n a0, PV.sc (Value.int IntKind.u64 a1)]) fun x11 x12 =>
    nilK (x12) <|
    consK (x11) fun x13 x14 =>
    intK (IntKind.i64) (x13) fun x15 =>
    consK (x14) fun x16 x17 =>
    boolK (x16) fun x18 =>
    nilK (x17) <|
    brK (x18)
     (
     some (Res.mk [PV.own (4 : Nat) (0 : Nat) [], PV.sc (Value.int IntKind.i64 (10 : Int))] []))
     (
     brK (decide ((↑a0n : Int) ≥ (16 : Int)))
      (
      some (Res.mk [PV.own (4 : Nat) (0 : Nat) [], PV.sc (Value.int IntKind.i64 (12 : Int))] []))
      (
      chk (decide (List.length a0 = a0n * (4 : Nat)) && decide (a0n * (32 : Nat) ≤ (1099511627776 : Nat)) && decide (a0n ≤ (1099511627776 : Nat))) <|
      chk (decide (a0n * (4 : Nat) ≤ List.length a0) && true && decide ((a0n + (1 : Nat)) * (32 : Nat) ≤ (1099511627776 : Nat)) && decide (a0n + (1 : Nat) ≤ (1099511627776 : Nat))) <|
      shareK (a0n + (1 : Nat)) fun x19 =>
      shareK (List.take (a0n * (4 : Nat)) a0 ++ [PV.sc (Value.int IntKind.u64 a1), PV.sc (Value.int IntKind.i64 a2), PV.sc (Value.int IntKind.i64 a3), PV.sc (Value.int IntKind.i64 a4)]) fun x20 =>
      chk (decide (x19 * (4 : Nat) ≤ List.length x20)) <|
      some (Res.mk [PV.own (4 : Nat) x19 (List.take (x19 * (4 : Nat)) x20), PV.sc (Value.int IntKind.i64 (0 : Int))] [])))))) (pcall C0 Try.prog fu d) := by kernel_rfl

abbrev F_passkeyref10_SameLeases : FuncId := 17
noncomputable def passkeyref10_SameLeases_L0 (fu : Nat) (call : Call') (a0n : Nat) (a0 : List PV) (a1n : Nat) (a1 : List PV)  (nn : Nat) (y0 : Nat) (y1 : List PV) (y2 : Nat) (y3 : List PV) (y4 : Int) : Option Res :=
  floop C0 Try.prog fu call 17 Try.f17 (bodyOf Try.f17) [PV.lst false (4 : Nat) a0n a0, PV.lst false (4 : Nat) a1n a1] [.r, .r, .l, .r, .l] nn ⟨lk [(0, (.lst false 4 y0 y1)), (1, (.lst false 4 y2 y3)), (5, (.sc (.int .i64 y4)))], lkh []⟩

theorem passkeyref10_SameLeases_L0_s (fu : Nat) (call : Call') (a0n : Nat) (a0 : List PV) (a1n : Nat) (a1 : List PV)  (nn : Nat) (y0 : Nat) (y1 : List PV) (y2 : Nat) (y3 : List PV) (y4 : Int) : passkeyref10_SameLeases_L0 fu call a0n a0 a1n a1  (nn + 1) y0 y1 y2 y3 y4 =
  brK (decide (y4 < (↑y0 : Int)))
   (
   chk (decide ((0 : Int) ≤ y4) && decide (y4 < (↑y0 : Int))) <|
   intK (IntKind.u64) (List.getD y1 (Int.toNat y4 * (4 : Nat)) PV.top) fun x1 =>
   intK (IntKind.i64) (List.getD y1 (Int.toNat y4 * (4 : Nat) + (1 : Nat)) PV.top) fun x2 =>
   intK (IntKind.i64) (List.getD y1 (Int.toNat y4 * (4 : Nat) + (1 : Nat) + (1 : Nat)) PV.top) fun x3 =>
   intK (IntKind.i64) (List.getD y1 (Int.toNat y4 * (4 : Nat) + (1 : Nat) + (1 : Nat) + (1 : Nat)) PV.top) fun x4 =>
   chk (decide ((0 : Int) ≤ y4) && decide (y4 < (↑y2 : Int))) <|
   intK (IntKind.u64) (List.getD y3 (Int.toNat y4 * (4 : Nat)) PV.top) fun x5 =>
   intK (IntKind.i64) (List.getD y3 (Int.toNat y4 * (4 : Nat) + (1 : Nat)) PV.top) fun x6 =>
   intK (IntKind.i64) (List.getD y3 (Int.toNat y4 * (4 : Nat) + (1 : Nat) + (1 : Nat)) PV.top) fun x7 =>
   intK (IntKind.i64) (List.getD y3 (Int.toNat y4 * (4 : Nat) + (1 : Nat) + (1 : Nat) + (1 : Nat)) PV.top) fun x8 =>
   brK (!(x1 == x5 && (x2 == x6 && (x3 == x7 && (x4 == x8 && true)))))
    (
    some (Res.mk [PV.sc (Value.bool false)] []))
    (
    shareK (IntKind.wrap IntKind.i64 (y4 + (1 : Int))) fun x9 =>
    passkeyref10_SameLeases_L0 fu call a0n a0 a1n a1 (nn) (y0) (y1) (y2) (y3) (x9)))
   (
   some (Res.mk [PV.sc (Value.bool true)] [])) := by kernel_rfl

theorem passkeyref10_SameLeases_e (fu d : Nat) (a0n : Nat) (a0 : List PV) (a1n : Nat) (a1 : List PV) : pcall C0 Try.prog fu (d + 1) F_passkeyref10_SameLeases [PV.lst false (4 : Nat) a0n a0, PV.lst false (4 : Nat) a1n a1] = (fun (call : Call') =>
  brK ((↑a0n : Int) != (↑a1n : Int))
   (
   some (Res.mk [PV.sc (Value.bool false)] []))
   (
   passkeyref10_SameLeases_L0 fu call a0n a0 a1n a1 (fu) (a0n) (a0) (a1n) (a1) ((0 : Int)))) (pcall C0 Try.prog fu d) := by kernel_rfl

abbrev F_lease_Part : FuncId := 18
theorem lease_Part_e (fu d : Nat) (a0n : Nat) (a0 : List PV) (a1 : Int) (a2 : Int) : pcall C0 Try.prog fu (d + 1) F_lease_Part [PV.lst false (4 : Nat) a0n a0, PV.sc (Value.int IntKind.u64 a1), PV.sc (Value.int IntKind.i64 a2)] = (fun (call : Call') =>
  callK (call (31 : Nat) [PV.lst false (4 : Nat) a0n a0, PV.sc (Value.int IntKind.u64 a1)]) fun x1 x2 =>
  nilK (x2) <|
  consK (x1) fun x3 x4 =>
  intK (IntKind.i64) (x3) fun x5 =>
  consK (x4) fun x6 x7 =>
  intK (IntKind.i64) (x6) fun x8 =>
  nilK (x7) <|
  brK (x8 != (0 : Int))
   (
   some (Res.mk [PV.own (4 : Nat) (0 : Nat) [], PV.sc (Value.int IntKind.i64 (0 : Int)), PV.sc (Value.int IntKind.i64 (0 : Int)), PV.sc (Value.int IntKind.i64 x8)] []))
   (
   brK (decide (a2 < (1 : Int)))
    (
    some (Res.mk [PV.own (4 : Nat) (0 : Nat) [], PV.sc (Value.int IntKind.i64 (0 : Int)), PV.sc (Value.int IntKind.i64 (0 : Int)), PV.sc (Value.int IntKind.i64 (9 : Int))] []))
    (
    chk (decide ((0 : Int) ≤ x5) && decide (x5 < (↑a0n : Int))) <|
    intK (IntKind.i64) (List.getD a0 (Int.toNat x5 * (4 : Nat) + (2 : Nat)) PV.top) fun x9 =>
    chk (decide ((0 : Int) ≤ x5) && decide (x5 < (↑a0n : Int))) <|
    intK (IntKind.i64) (List.getD a0 (Int.toNat x5 * (4 : Nat) + (3 : Nat)) PV.top) fun x10 =>
    shareK (IntKind.wrap IntKind.i64 (x9 - x10)) fun x11 =>
    brK (decide (x11 < a2))
     (
     some (Res.mk [PV.own (4 : Nat) (0 : Nat) [], PV.sc (Value.int IntKind.i64 (0 : Int)), PV.sc (Value.int IntKind.i64 (0 : Int)), PV.sc (Value.int IntKind.i64 (13 : Int))] []))
     (
     callK (call (30 : Nat) [PV.lst false (4 : Nat) a0n a0]) fun x12 x13 =>
     nilK (x13) <|
     consK (x12) fun x14 x15 =>
     owK ((4 : Nat)) (x14) fun x16 x17 =>
     nilK (x15) <|
     shareK (IntKind.wrap IntKind.i64 (x9 - a2)) fun x18 =>
     chk (decide ((0 : Int) ≤ x5) && decide (x5 < (↑x16 : Int))) <|
     chk (decide ((0 : Nat) + Int.toNat x5 * (4 : Nat) + (2 : Nat) + (1 : Nat) ≤ List.length x17)) <|
     shareK (splice x17 [PV.sc (Value.int IntKind.i64 x18)] ((0 : Nat) + Int.toNat x5 * (4 : Nat) + (2 : Nat))) fun x19 =>
     shareK (IntKind.wrap IntKind.i64 (x9 - a2)) fun x20 =>
     chk (decide (x16 * (4 : Nat) ≤ List.length x19)) <|
     some (Res.mk [PV.own (4 : Nat) x16 (List.take (x16 * (4 : Nat)) x19), PV.sc (Value.int IntKind.i64 x20), PV.sc (Value.int IntKind.i64 x9), PV.sc (Value.int IntKind.i64 (0 : Int))] []))))) (pcall C0 Try.prog fu d) := by kernel_rfl

abbrev F_passkeyref10_Part : FuncId := 19
theorem passkeyref10_Part_e (fu d : Nat) (a0n : Nat) (a0 : List PV) (a1 : Int) (a2 : Int) : pcall C0 Try.prog fu (d + 1) F_passkeyref10_Part [PV.lst false (4 : Nat) a0n a0, PV.sc (Value.int IntKind.u64 a1), PV.sc (Value.int IntKind.i64 a2)] = (fun (call : Call') =>
  callK (call (14 : Nat) [PV.lst false (4 : Nat) a0n a0]) fun x1 x2 =>
  nilK (x2) <|
  consK (x1) fun x3 x4 =>
  intK (IntKind.i64) (x3) fun x5 =>
  nilK (x4) <|
  brK (x5 != (0 : Int))
   (
   some (Res.mk [PV.own (4 : Nat) (0 : Nat) [], PV.sc (Value.int IntKind.i64 (0 : Int)), PV.sc (Value.int IntKind.i64 (0 : Int)), PV.sc (Value.int IntKind.i64 x5)] []))
   (
   callK (call (12 : Nat) [PV.lst false (4 : Nat) a0n a0, PV.sc (Value.int IntKind.u64 a1)]) fun x6 x7 =>
   nilK (x7) <|
   consK (x6) fun x8 x9 =>
   intK (IntKind.i64) (x8) fun x10 =>
   consK (x9) fun x11 x12 =>
   boolK (x11) fun x13 =>
   nilK (x12) <|
   brK (!x13)
    (
    some (Res.mk [PV.own (4 : Nat) (0 : Nat) [], PV.sc (Value.int IntKind.i64 (0 : Int)), PV.sc (Value.int IntKind.i64 (0 : Int)), PV.sc (Value.int IntKind.i64 (11 : Int))] []))
    (
    brK (decide (a2 < (1 : Int)))
     (
     some (Res.mk [PV.own (4 : Nat) (0 : Nat) [], PV.sc (Value.int IntKind.i64 (0 : Int)), PV.sc (Value.int IntKind.i64 (0 : Int)), PV.sc (Value.int IntKind.i64 (9 : Int))] []))
     (
     chk (decide ((0 : Int) ≤ x10) && decide (x10 < (↑a0n : Int))) <|
     intK (IntKind.i64) (List.getD a0 (Int.toNat x10 * (4 : Nat) + (2 : Nat)) PV.top) fun x14 =>
     chk (decide ((0 : Int) ≤ x10) && decide (x10 < (↑a0n : Int))) <|
     intK (IntKind.i64) (List.getD a0 (Int.toNat x10 * (4 : Nat) + (3 : Nat)) PV.top) fun x15 =>
     shareK (IntKind.wrap IntKind.i64 (x14 - x15)) fun x16 =>
     brK (decide (x16 < a2))
      (
      some (Res.mk [PV.own (4 : Nat) (0 : Nat) [], PV.sc (Value.int IntKind.i64 (0 : Int)), PV.sc (Value.int IntKind.i64 (0 : Int)), PV.sc (Value.int IntKind.i64 (13 : Int))] []))
      (
      chk (decide (List.length a0 = a0n * (4 : Nat)) && decide (a0n * (32 : Nat) ≤ (1099511627776 : Nat)) && decide (a0n ≤ (1099511627776 : Nat))) <|
      chk (decide ((0 : Int) ≤ x10) && decide (x10 < (↑a0n : Int))) <|
      intK (IntKind.i64) (List.getD a0 ((0 : Nat) + Int.toNat x10 * (4 : Nat) + (2 : Nat)) PV.top) fun x17 =>
      shareK (IntKind.wrap IntKind.i64 (x17 - a2)) fun x18 =>
      chk (decide ((0 : Int) ≤ x10) && decide (x10 < (↑a0n : Int))) <|
      chk (decide ((0 : Nat) + Int.toNat x10 * (4 : Nat) + (2 : Nat) + (1 : Nat) ≤ List.length a0)) <|
      shareK (splice a0 [PV.sc (Value.int IntKind.i64 x18)] ((0 : Nat) + Int.toNat x10 * (4 : Nat) + (2 : Nat))) fun x19 =>
      chk (decide ((0 : Int) ≤ x10) && decide (x10 < (↑a0n : Int))) <|
      intK (IntKind.i64) (List.getD x19 ((0 : Nat) + Int.toNat x10 * (4 : Nat) + (2 : Nat)) PV.top) fun x20 =>
      chk (decide ((0 : Int) ≤ x10) && decide (x10 < (↑a0n : Int))) <|
      intK (IntKind.i64) (List.getD a0 (Int.toNat x10 * (4 : Nat) + (2 : Nat)) PV.top) fun x21 =>
      chk (decide (a0n * (4 : Nat) ≤ List.length x19)) <|
      some (Res.mk [PV.own (4 : Nat) a0n (List.take (a0n * (4 : Nat)) x19), PV.sc (Value.int IntKind.i64 x20), PV.sc (Value.int IntKind.i64 x21), PV.sc (Value.int IntKind.i64 (0 : Int))] [])))))) (pcall C0 Try.prog fu d) := by kernel_rfl

abbrev F_lease_Take : FuncId := 20
theorem lease_Take_e (fu d : Nat) (a0n : Nat) (a0 : List PV) (a1 : Int) : pcall C0 Try.prog fu (d + 1) F_lease_Take [PV.lst false (4 : Nat) a0n a0, PV.sc (Value.int IntKind.u64 a1)] = (fun (call : Call') =>
  callK (call (31 : Nat) [PV.lst false (4 : Nat) a0n a0, PV.sc (Value.int IntKind.u64 a1)]) fun x1 x2 =>
  nilK (x2) <|
  consK (x1) fun x3 x4 =>
  intK (IntKind.i64) (x3) fun x5 =>
  consK (x4) fun x6 x7 =>
  intK (IntKind.i64) (x6) fun x8 =>
  nilK (x7) <|
  brK (x8 != (0 : Int))
   (
   some (Res.mk [PV.own (4 : Nat) (0 : Nat) [], PV.sc (Value.int IntKind.i64 (0 : Int)), PV.sc (Value.int IntKind.i64 x8)] []))
   (
   chk (decide ((0 : Int) ≤ x5) && decide (x5 < (↑a0n : Int))) <|
   intK (IntKind.i64) (List.getD a0 (Int.toNat x5 * (4 : Nat) + (3 : Nat)) PV.top) fun x9 =>
   chk (decide ((0 : Int) ≤ x5) && decide (x5 < (↑a0n : Int))) <|
   intK (IntKind.i64) (List.getD a0 (Int.toNat x5 * (4 : Nat) + (2 : Nat)) PV.top) fun x10 =>
   brK (x9 == x10)
    (
    some (Res.mk [PV.own (4 : Nat) (0 : Nat) [], PV.sc (Value.int IntKind.i64 (0 : Int)), PV.sc (Value.int IntKind.i64 (13 : Int))] []))
    (
    callK (call (30 : Nat) [PV.lst false (4 : Nat) a0n a0]) fun x11 x12 =>
    nilK (x12) <|
    consK (x11) fun x13 x14 =>
    owK ((4 : Nat)) (x13) fun x15 x16 =>
    nilK (x14) <|
    chk (decide ((0 : Int) ≤ x5) && decide (x5 < (↑x15 : Int))) <|
    intK (IntKind.i64) (List.getD x16 ((0 : Nat) + Int.toNat x5 * (4 : Nat) + (3 : Nat)) PV.top) fun x17 =>
    shareK (IntKind.wrap IntKind.i64 (x17 + (1 : Int))) fun x18 =>
    chk (decide ((0 : Int) ≤ x5) && decide (x5 < (↑x15 : Int))) <|
    chk (decide ((0 : Nat) + Int.toNat x5 * (4 : Nat) + (3 : Nat) + (1 : Nat) ≤ List.length x16)) <|
    shareK (splice x16 [PV.sc (Value.int IntKind.i64 x18)] ((0 : Nat) + Int.toNat x5 * (4 : Nat) + (3 : Nat))) fun x19 =>
    chk (decide (x15 * (4 : Nat) ≤ List.length x19)) <|
    some (Res.mk [PV.own (4 : Nat) x15 (List.take (x15 * (4 : Nat)) x19), PV.sc (Value.int IntKind.i64 x9), PV.sc (Value.int IntKind.i64 (0 : Int))] [])))) (pcall C0 Try.prog fu d) := by kernel_rfl

abbrev F_passkeyref10_Take : FuncId := 25
theorem passkeyref10_Take_e (fu d : Nat) (a0n : Nat) (a0 : List PV) (a1 : Int) : pcall C0 Try.prog fu (d + 1) F_passkeyref10_Take [PV.lst false (4 : Nat) a0n a0, PV.sc (Value.int IntKind.u64 a1)] = (fun (call : Call') =>
  callK (call (14 : Nat) [PV.lst false (4 : Nat) a0n a0]) fun x1 x2 =>
  nilK (x2) <|
  consK (x1) fun x3 x4 =>
  intK (IntKind.i64) (x3) fun x5 =>
  nilK (x4) <|
  brK (x5 != (0 : Int))
   (
   some (Res.mk [PV.own (4 : Nat) (0 : Nat) [], PV.sc (Value.int IntKind.i64 (0 : Int)), PV.sc (Value.int IntKind.i64 x5)] []))
   (
   callK (call (12 : Nat) [PV.lst false (4 : Nat) a0n a0, PV.sc (Value.int IntKind.u64 a1)]) fun x6 x7 =>
   nilK (x7) <|
   consK (x6) fun x8 x9 =>
   intK (IntKind.i64) (x8) fun x10 =>
   consK (x9) fun x11 x12 =>
   boolK (x11) fun x13 =>
   nilK (x12) <|
   brK (!x13)
    (
    some (Res.mk [PV.own (4 : Nat) (0 : Nat) [], PV.sc (Value.int IntKind.i64 (0 : Int)), PV.sc (Value.int IntKind.i64 (11 : Int))] []))
    (
    chk (decide ((0 : Int) ≤ x10) && decide (x10 < (↑a0n : Int))) <|
    intK (IntKind.i64) (List.getD a0 (Int.toNat x10 * (4 : Nat) + (3 : Nat)) PV.top) fun x14 =>
    chk (decide ((0 : Int) ≤ x10) && decide (x10 < (↑a0n : Int))) <|
    intK (IntKind.i64) (List.getD a0 (Int.toNat x10 * (4 : Nat) + (2 : Nat)) PV.top) fun x15 =>
    brK (x14 == x15)
     (
     some (Res.mk [PV.own (4 : Nat) (0 : Nat) [], PV.sc (Value.int IntKind.i64 (0 : Int)), PV.sc (Value.int IntKind.i64 (13 : Int))] []))
     (
     chk (decide (List.length a0 = a0n * (4 : Nat)) && decide (a0n * (32 : Nat) ≤ (1099511627776 : Nat)) && decide (a0n ≤ (1099511627776 : Nat))) <|
     chk (decide ((0 : Int) ≤ x10) && decide (x10 < (↑a0n : Int))) <|
     intK (IntKind.i64) (List.getD a0 ((0 : Nat) + Int.toNat x10 * (4 : Nat) + (3 : Nat)) PV.top) fun x16 =>
     shareK (IntKind.wrap IntKind.i64 (x16 + (1 : Int))) fun x17 =>
     chk (decide ((0 : Int) ≤ x10) && decide (x10 < (↑a0n : Int))) <|
     chk (decide ((0 : Nat) + Int.toNat x10 * (4 : Nat) + (3 : Nat) + (1 : Nat) ≤ List.length a0)) <|
     shareK (splice a0 [PV.sc (Value.int IntKind.i64 x17)] ((0 : Nat) + Int.toNat x10 * (4 : Nat) + (3 : Nat))) fun x18 =>
     chk (decide ((0 : Int) ≤ x10) && decide (x10 < (↑a0n : Int))) <|
     intK (IntKind.i64) (List.getD a0 (Int.toNat x10 * (4 : Nat) + (3 : Nat)) PV.top) fun x19 =>
     chk (decide (a0n * (4 : Nat) ≤ List.length x18)) <|
     some (Res.mk [PV.own (4 : Nat) a0n (List.take (a0n * (4 : Nat)) x18), PV.sc (Value.int IntKind.i64 x19), PV.sc (Value.int IntKind.i64 (0 : Int))] []))))) (pcall C0 Try.prog fu d) := by kernel_rfl

abbrev F_lease_Drop : FuncId := 26
theorem lease_Drop_e (fu d : Nat) (a0n : Nat) (a0 : List PV) (a1 : Int) : pcall C0 Try.prog fu (d + 1) F_lease_Drop [PV.lst false (4 : Nat) a0n a0, PV.sc (Value.int IntKind.u64 a1)] = (fun (call : Call') =>
  callK (call (31 : Nat) [PV.lst false (4 : Nat) a0n a0, PV.sc (Value.int IntKind.u64 a1)]) fun x1 x2 =>
  nilK (x2) <|
  consK (x1) fun x3 x4 =>
  intK (IntKind.i64) (x3) fun x5 =>
  consK (x4) fun x6 x7 =>
  intK (IntKind.i64) (x6) fun x8 =>
  nilK (x7) <|
  brK (x8 != (0 : Int))
   (
   some (Res.mk [PV.own (4 : Nat) (0 : Nat) [], PV.sc (Value.int IntKind.i64 x8)] []))
   (
   chk (decide ((0 : Int) ≤ x5)) <|
   chk (decide (Int.toNat x5 ≤ a0n)) <|
   shareK (Int.toNat x5 - (0 : Nat)) fun x9 =>
   shareK (List.take (x9 * (4 : Nat)) (List.drop (0 : Nat) a0)) fun x10 =>
   shareK (IntKind.wrap IntKind.i64 (x5 + (1 : Int))) fun x11 =>
   chk (decide ((0 : Int) ≤ x11)) <|
   chk (decide (Int.toNat x11 ≤ a0n) && decide (a0n ≤ a0n)) <|
   shareK (a0n - Int.toNat x11) fun x12 =>
   shareK (List.take (x12 * (4 : Nat)) (List.drop (Int.toNat x11 * (4 : Nat)) a0)) fun x13 =>
   callK (call (35 : Nat) [PV.lst false (1 : Nat) (2 : Nat) [PV.lst false (4 : Nat) x9 x10, PV.lst false (4 : Nat) x12 x13]]) fun x14 x15 =>
   nilK (x15) <|
   consK (x14) fun x16 x17 =>
   owK ((4 : Nat)) (x16) fun x18 x19 =>
   nilK (x17) <|
   chk (decide (x18 * (4 : Nat) ≤ List.length x19)) <|
   some (Res.mk [PV.own (4 : Nat) x18 (List.take (x18 * (4 : Nat)) x19), PV.sc (Value.int IntKind.i64 (0 : Int))] []))) (pcall C0 Try.prog fu d) := by kernel_rfl

abbrev F_passkeyref10_Drop : FuncId := 27
theorem passkeyref10_Drop_e (fu d : Nat) (a0n : Nat) (a0 : List PV) (a1 : Int) : pcall C0 Try.prog fu (d + 1) F_passkeyref10_Drop [PV.lst false (4 : Nat) a0n a0, PV.sc (Value.int IntKind.u64 a1)] = (fun (call : Call') =>
  callK (call (14 : Nat) [PV.lst false (4 : Nat) a0n a0]) fun x1 x2 =>
  nilK (x2) <|
  consK (x1) fun x3 x4 =>
  intK (IntKind.i64) (x3) fun x5 =>
  nilK (x4) <|
  brK (x5 != (0 : Int))
   (
   some (Res.mk [PV.own (4 : Nat) (0 : Nat) [], PV.sc (Value.int IntKind.i64 x5)] []))
   (
   callK (call (12 : Nat) [PV.lst false (4 : Nat) a0n a0, PV.sc (Value.int IntKind.u64 a1)]) fun x6 x7 =>
   nilK (x7) <|
   consK (x6) fun x8 x9 =>
   intK (IntKind.i64) (x8) fun x10 =>
   consK (x9) fun x11 x12 =>
   boolK (x11) fun x13 =>
   nilK (x12) <|
   brK (!x13)
    (
    some (Res.mk [PV.own (4 : Nat) (0 : Nat) [], PV.sc (Value.int IntKind.i64 (11 : Int))] []))
    (
    chk (decide ((0 : Int) ≤ x10)) <|
    chk (decide (Int.toNat x10 ≤ a0n)) <|
    shareK (Int.toNat x10 - (0 : Nat)) fun x14 =>
    shareK (List.take (x14 * (4 : Nat)) (List.drop (0 : Nat) a0)) fun x15 =>
    chk (decide (List.length x15 = x14 * (4 : Nat)) && decide (x14 * (32 : Nat) ≤ (1099511627776 : Nat)) && decide (x14 ≤ (1099511627776 : Nat))) <|
    shareK (IntKind.wrap IntKind.i64 (x10 + (1 : Int))) fun x16 =>
    chk (decide ((0 : Int) ≤ x16)) <|
    chk (decide (Int.toNat x16 ≤ a0n) && decide (a0n ≤ a0n)) <|
    shareK (a0n - Int.toNat x16) fun x17 =>
    shareK (List.take (x17 * (4 : Nat)) (List.drop (Int.toNat x16 * (4 : Nat)) a0)) fun x18 =>
    chk (decide (x14 * (4 : Nat) ≤ List.length x15) && decide (List.length x18 = x17 * (4 : Nat)) && decide ((x14 + x17) * (32 : Nat) ≤ (1099511627776 : Nat)) && decide (x14 + x17 ≤ (1099511627776 : Nat))) <|
    shareK (x14 + x17) fun x19 =>
    shareK (List.take (x14 * (4 : Nat)) x15 ++ x18) fun x20 =>
    chk (decide (x19 * (4 : Nat) ≤ List.length x20)) <|
    some (Res.mk [PV.own (4 : Nat) x19 (List.take (x19 * (4 : Nat)) x20), PV.sc (Value.int IntKind.i64 (0 : Int))] [])))) (pcall C0 Try.prog fu d) := by kernel_rfl

end Go.Proofs.Ytoidbofkmflocaa.Pv
