/-
  What the functions compute, step by step: written by a program (wip/tools/gen.py).
-/
import Derived.Test.YtaphhfehcbkfkaaPvX1
import Derived.Test.YtaphhfehcbkfkaaRows
set_option maxRecDepth 100000
set_option linter.unusedVariables false
namespace Go.Proofs.Ytaphhfehcbkfkaa.Pv

abbrev F_consent_decide : FuncId := 12
theorem consent_decide_e (fu d : Nat) (a0_0 : Int) (a0_1 : Int) (a1 : Bool) (a2 : Bool) : pcall C0 Try.prog fu (d + 1) F_consent_decide [PV.agg [PV.sc (Value.int IntKind.i64 a0_0), PV.sc (Value.int IntKind.i64 a0_1)], PV.sc (Value.bool a1), PV.sc (Value.bool a2)] = (fun (call : Call') =>
  brK (a0_1 == (4 : Int))
   (
   some (Res.mk [PV.agg [PV.sc (Value.bool false), PV.sc (Value.bool false), PV.sc (Value.int IntKind.i64 (0 : Int))], PV.sc (Value.int IntKind.i64 (20 : Int)), PV.sc (Value.bool true)] []))
   (
   brK (a0_1 == (5 : Int))
    (
    some (Res.mk [PV.agg [PV.sc (Value.bool false), PV.sc (Value.bool false), PV.sc (Value.int IntKind.i64 (0 : Int))], PV.sc (Value.int IntKind.i64 (21 : Int)), PV.sc (Value.bool true)] []))
    (
    brK (a0_1 == (2 : Int))
     (
     brK (a1)
      (
      some (Res.mk [PV.agg [PV.sc (Value.bool true), PV.sc (Value.bool true), PV.sc (Value.int IntKind.i64 a0_0)], PV.sc (Value.int IntKind.i64 (0 : Int)), PV.sc (Value.bool true)] []))
      (
      brK (a2)
       (
       some (Res.mk [PV.agg [PV.sc (Value.bool false), PV.sc (Value.bool false), PV.sc (Value.int IntKind.i64 (0 : Int))], PV.sc (Value.int IntKind.i64 (20 : Int)), PV.sc (Value.bool true)] []))
       (
       brK (!a2)
        (
        some (Res.mk [PV.agg [PV.sc (Value.bool true), PV.sc (Value.bool false), PV.sc (Value.int IntKind.i64 a0_0)], PV.sc (Value.int IntKind.i64 (0 : Int)), PV.sc (Value.bool true)] []))
        (
        some (Res.mk [PV.agg [PV.sc (Value.bool false), PV.sc (Value.bool false), PV.sc (Value.int IntKind.i64 (0 : Int))], PV.sc (Value.int IntKind.i64 (0 : Int)), PV.sc (Value.bool false)] [])))))
     (
     brK (a0_1 == (3 : Int))
      (
      brK (a2)
       (
       some (Res.mk [PV.agg [PV.sc (Value.bool false), PV.sc (Value.bool false), PV.sc (Value.int IntKind.i64 (0 : Int))], PV.sc (Value.int IntKind.i64 (20 : Int)), PV.sc (Value.bool true)] []))
       (
       brK (!a2)
        (
        some (Res.mk [PV.agg [PV.sc (Value.bool true), PV.sc (Value.bool false), PV.sc (Value.int IntKind.i64 a0_0)], PV.sc (Value.int IntKind.i64 (0 : Int)), PV.sc (Value.bool true)] []))
        (
        some (Res.mk [PV.agg [PV.sc (Value.bool false), PV.sc (Value.bool false), PV.sc (Value.int IntKind.i64 (0 : Int))], PV.sc (Value.int IntKind.i64 (0 : Int)), PV.sc (Value.bool false)] []))))
      (
      brK (a0_1 == (1 : Int))
       (
       brK (!a2)
        (
        some (Res.mk [PV.agg [PV.sc (Value.bool true), PV.sc (Value.bool false), PV.sc (Value.int IntKind.i64 a0_0)], PV.sc (Value.int IntKind.i64 (0 : Int)), PV.sc (Value.bool true)] []))
        (
        some (Res.mk [PV.agg [PV.sc (Value.bool false), PV.sc (Value.bool false), PV.sc (Value.int IntKind.i64 (0 : Int))], PV.sc (Value.int IntKind.i64 (0 : Int)), PV.sc (Value.bool false)] [])))
       (
       some (Res.mk [PV.agg [PV.sc (Value.bool false), PV.sc (Value.bool false), PV.sc (Value.int IntKind.i64 (0 : Int))], PV.sc (Value.int IntKind.i64 (0 : Int)), PV.sc (Value.bool false)] []))))))) (pcall C0 Try.prog fu d) := by kernel_rfl

abbrev F_consent_counting : FuncId := 11
noncomputable def consent_counting_L0 (fu : Nat) (call : Call') (a0 : Int) (a1n : Nat) (a1 : List PV)  (nn : Nat) (y0 : Int) (y1 : Int) (y2 : Nat) (y3 : Nat) (y4 : List PV) (y5 : Int) (y6 : Int) (y7 : List PV) : Option Res :=
  floop C0 Try.prog fu call 11 Try.f11 (bodyOf Try.f11) [PV.sc (Value.int IntKind.i64 a0), PV.lst false (2 : Nat) a1n a1] [.r, .r, .r, .l, .r, .l] nn ⟨lk [(0, (.sc (.int .i64 y0))), (5, (.sc (.int .i64 y1))), (6, (.view 6 2 0 y2)), (12, (.lst false 2 y3 y4)), (13, (.sc (.int .i64 y5))), (14, (.sc (.int .i64 y6)))], lkh [(6, (.ar false y7))]⟩

theorem consent_counting_L0_s (fu : Nat) (call : Call') (a0 : Int) (a1n : Nat) (a1 : List PV)  (nn : Nat) (y0 : Int) (y1 : Int) (y2 : Nat) (y3 : Nat) (y4 : List PV) (y5 : Int) (y6 : Int) (y7 : List PV) : consent_counting_L0 fu call a0 a1n a1  (nn + 1) y0 y1 y2 y3 y4 y5 y6 y7 =
  brK (decide (y6 < y5))
   (
   chk (decide ((0 : Int) ≤ y6) && decide (y6 < (↑y3 : Int))) <|
   intK (IntKind.i64) (List.getD y4 (Int.toNat y6 * (2 : Nat)) PV.top) fun x3 =>
   intK (IntKind.i64) (List.getD y4 (Int.toNat y6 * (2 : Nat) + (1 : Nat)) PV.top) fun x4 =>
   brK (decide (y0 < x3))
    (
    brK (decide (x3 ≤ y1))
     (
     chk (decide (y2 * (2 : Nat) ≤ List.length y7) && true && decide ((y2 + (1 : Nat)) * (16 : Nat) ≤ (1099511627776 : Nat)) && decide (y2 + (1 : Nat) ≤ (1099511627776 : Nat))) <|
     shareK (y2 + (1 : Nat)) fun x5 =>
     shareK (List.take (y2 * (2 : Nat)) y7 ++ [PV.sc (Value.int IntKind.i64 x3), PV.sc (Value.int IntKind.i64 x4)]) fun x6 =>
     shareK (IntKind.wrap IntKind.i64 (y6 + (1 : Int))) fun x7 =>
     consent_counting_L0 fu call a0 a1n a1 (nn) (y0) (y1) (x5) (y3) (y4) (y5) (x7) (x6))
     (
     shareK (IntKind.wrap IntKind.i64 (y6 + (1 : Int))) fun x8 =>
     consent_counting_L0 fu call a0 a1n a1 (nn) (y0) (y1) (y2) (y3) (y4) (y5) (x8) (y7)))
    (
    shareK (IntKind.wrap IntKind.i64 (y6 + (1 : Int))) fun x9 =>
    consent_counting_L0 fu call a0 a1n a1 (nn) (y0) (y1) (y2) (y3) (y4) (y5) (x9) (y7)))
   (
   callK (call (13 : Nat) [PV.tup [PV.own (2 : Nat) y2 y7], PV.sc (Value.func (Fn.func (14 : Nat)) #[] #[])]) fun x10 x11 =>
   nilK (x10) <|
   consK (x11) fun x12 x13 =>
   nilK (x13) <|
   chk (decide (y2 * (2 : Nat) ≤ List.length x12)) <|
   some (Res.mk [PV.own (2 : Nat) y2 (List.take (y2 * (2 : Nat)) x12)] [])) := by kernel_rfl

theorem consent_counting_e (fu d : Nat) (a0 : Int) (a1n : Nat) (a1 : List PV) : pcall C0 Try.prog fu (d + 1) F_consent_counting [PV.sc (Value.int IntKind.i64 a0), PV.lst false (2 : Nat) a1n a1] = (fun (call : Call') =>
  shareK (IntKind.wrap IntKind.i64 (a0 + (30 : Int))) fun x1 =>
  shareK (if (1099511627776 : Int) < x1 then (1099511627776 : Int) else x1) fun x2 =>
  consent_counting_L0 fu call a0 a1n a1 (fu) (a0) (x2) ((0 : Nat)) (a1n) (a1) ((↑a1n : Int)) ((0 : Int)) ([])) (pcall C0 Try.prog fu d) := by kernel_rfl

abbrev F_consent_Await : FuncId := 8
noncomputable def consent_Await_L0 (fu : Nat) (call : Call') (a0 : Int) (a1 : Bool) (a2 : Bool) (a3n : Nat) (a3 : List PV)  (nn : Nat) (y0 : Bool) (y1 : Bool) (y2 : Nat) (y3 : Int) (y4 : Int) (y5 : Bool) (y6 : Bool) (y7 : Int) (y8 : List PV) : Option Res :=
  floop C0 Try.prog fu call 8 Try.f8 (bodyOf Try.f8) [PV.sc (Value.int IntKind.i64 a0), PV.sc (Value.bool a1), PV.sc (Value.bool a2), PV.lst false (2 : Nat) a3n a3] [.r, .r, .r, .l, .r, .l] nn ⟨lk [(1, (.sc (.bool y0))), (2, (.sc (.bool y1))), (8, (.ptr 8 0)), (30, (.view 30 2 0 y2)), (31, (.sc (.int .i64 y3))), (32, (.sc (.int .i64 y4)))], lkh [(8, (.st [(.sc (.bool y5)), (.sc (.bool y6)), (.sc (.int .i64 y7))])), (30, (.ar false y8))]⟩

theorem consent_Await_L0_s (fu : Nat) (call : Call') (a0 : Int) (a1 : Bool) (a2 : Bool) (a3n : Nat) (a3 : List PV)  (nn : Nat) (y0 : Bool) (y1 : Bool) (y2 : Nat) (y3 : Int) (y4 : Int) (y5 : Bool) (y6 : Bool) (y7 : Int) (y8 : List PV) : consent_Await_L0 fu call a0 a1 a2 a3n a3  (nn + 1) y0 y1 y2 y3 y4 y5 y6 y7 y8 =
  brK (decide (y4 < y3))
   (
   chk (decide ((0 : Int) ≤ y4) && decide (y4 < (↑y2 : Int))) <|
   intK (IntKind.i64) (List.getD y8 ((0 : Nat) + Int.toNat y4 * (2 : Nat)) PV.top) fun x13 =>
   intK (IntKind.i64) (List.getD y8 ((0 : Nat) + Int.toNat y4 * (2 : Nat) + (1 : Nat)) PV.top) fun x14 =>
   callK (call (12 : Nat) [PV.agg [PV.sc (Value.int IntKind.i64 x13), PV.sc (Value.int IntKind.i64 x14)], PV.sc (Value.bool y0), PV.sc (Value.bool y1)]) fun x15 x16 =>
   nilK (x16) <|
   consK (x15) fun x17 x18 =>
   aggK (x17) fun x19 =>
   consK (x19) fun x20 x21 =>
   boolK (x20) fun x22 =>
   consK (x21) fun x23 x24 =>
   boolK (x23) fun x25 =>
   consK (x24) fun x26 x27 =>
   intK (IntKind.i64) (x26) fun x28 =>
   nilK (x27) <|
   consK (x18) fun x29 x30 =>
   intK (IntKind.i64) (x29) fun x31 =>
   consK (x30) fun x32 x33 =>
   boolK (x32) fun x34 =>
   nilK (x33) <|
   brK (x34)
    (
    some (Res.mk [PV.agg [PV.sc (Value.bool x22), PV.sc (Value.bool x25), PV.sc (Value.int IntKind.i64 x28)], PV.sc (Value.int IntKind.i64 x31)] []))
    (
    shareK (IntKind.wrap IntKind.i64 (y4 + (1 : Int))) fun x35 =>
    consent_Await_L0 fu call a0 a1 a2 a3n a3 (nn) (y0) (y1) (y2) (y3) (x35) (y5) (y6) (y7) (y8)))
   (
   some (Res.mk [PV.agg [PV.sc (Value.bool false), PV.sc (Value.bool false), PV.sc (Value.int IntKind.i64 (0 : Int))], PV.sc (Value.int IntKind.i64 (19 : Int))] [])) := by kernel_rfl

theorem consent_Await_e (fu d : Nat) (a0 : Int) (a1 : Bool) (a2 : Bool) (a3n : Nat) (a3 : List PV) : pcall C0 Try.prog fu (d + 1) F_consent_Await [PV.sc (Value.int IntKind.i64 a0), PV.sc (Value.bool a1), PV.sc (Value.bool a2), PV.lst false (2 : Nat) a3n a3] = (fun (call : Call') =>
  brK (decide (a0 < (0 : Int)))
   (
   some (Res.mk [PV.agg [PV.sc (Value.bool false), PV.sc (Value.bool false), PV.sc (Value.int IntKind.i64 (0 : Int))], PV.sc (Value.int IntKind.i64 (9 : Int))] []))
   (
   brK (decide (a0 > (1099511627776 : Int)))
    (
    some (Res.mk [PV.agg [PV.sc (Value.bool false), PV.sc (Value.bool false), PV.sc (Value.int IntKind.i64 (0 : Int))], PV.sc (Value.int IntKind.i64 (9 : Int))] []))
    (
    brK (a2)
     (
     brK (!a1)
      (
      some (Res.mk [PV.agg [PV.sc (Value.bool false), PV.sc (Value.bool false), PV.sc (Value.int IntKind.i64 (0 : Int))], PV.sc (Value.int IntKind.i64 (23 : Int))] []))
      (
      callK (call (11 : Nat) [PV.sc (Value.int IntKind.i64 a0), PV.lst false (2 : Nat) a3n a3]) fun x1 x2 =>
      nilK (x2) <|
      consK (x1) fun x3 x4 =>
      owK ((2 : Nat)) (x3) fun x5 x6 =>
      nilK (x4) <|
      consent_Await_L0 fu call a0 a1 a2 a3n a3 (fu) (a1) (a2) (x5) ((↑x5 : Int)) ((0 : Int)) (false) (false) ((0 : Int)) (x6)))
     (
     callK (call (11 : Nat) [PV.sc (Value.int IntKind.i64 a0), PV.lst false (2 : Nat) a3n a3]) fun x7 x8 =>
     nilK (x8) <|
     consK (x7) fun x9 x10 =>
     owK ((2 : Nat)) (x9) fun x11 x12 =>
     nilK (x10) <|
     consent_Await_L0 fu call a0 a1 a2 a3n a3 (fu) (a1) (a2) (x11) ((↑x11 : Int)) ((0 : Int)) (false) (false) ((0 : Int)) (x12))))) (pcall C0 Try.prog fu d) := by kernel_rfl

abbrev F_passkeyref10_Await : FuncId := 9
noncomputable def passkeyref10_Await_L0 (fu : Nat) (call : Call') (a0 : Int) (a1 : Bool) (a2 : Bool) (a3n : Nat) (a3 : List PV)  (nn : Nat) (y0 : Int) (y1 : Bool) (y2 : Bool) (y3 : Nat) (y4 : List PV) (y5 : Int) (y6 : Bool) (y7 : Bool) (y8 : Int) : Option Res :=
  floop C0 Try.prog fu call 9 Try.f9 (bodyOf Try.f9) [PV.sc (Value.int IntKind.i64 a0), PV.sc (Value.bool a1), PV.sc (Value.bool a2), PV.lst false (2 : Nat) a3n a3] [.r, .r, .r, .l, .r, .l] nn ⟨lk [(0, (.sc (.int .i64 y0))), (1, (.sc (.bool y1))), (2, (.sc (.bool y2))), (3, (.lst false 2 y3 y4)), (8, (.ptr 8 0)), (10, (.sc (.int .i64 y5)))], lkh [(8, (.st [(.sc (.bool y6)), (.sc (.bool y7)), (.sc (.int .i64 y8))]))]⟩

noncomputable def passkeyref10_Await_L1 (fu : Nat) (call : Call') (a0 : Int) (a1 : Bool) (a2 : Bool) (a3n : Nat) (a3 : List PV) (m0 : Nat) (nn : Nat) (y0 : Int) (y1 : Bool) (y2 : Bool) (y3 : Nat) (y4 : List PV) (y5 : Int) (y6 : Int) (y7 : Bool) (y8 : Bool) (y9 : Int) : Option Res :=
  floop C0 Try.prog fu call 9 Try.f9 (bodyOf Try.f9) [PV.sc (Value.int IntKind.i64 a0), PV.sc (Value.bool a1), PV.sc (Value.bool a2), PV.lst false (2 : Nat) a3n a3] [.r, .r, .r, .l, .r, .l, .i m0, .r, .l, .l, .r, .l] nn ⟨lk [(0, (.sc (.int .i64 y0))), (1, (.sc (.bool y1))), (2, (.sc (.bool y2))), (3, (.lst false 2 y3 y4)), (8, (.ptr 8 0)), (10, (.sc (.int .i64 y5))), (11, (.sc (.int .i64 y6)))], lkh [(8, (.st [(.sc (.bool y7)), (.sc (.bool y8)), (.sc (.int .i64 y9))]))]⟩

theorem passkeyref10_Await_L0_s (fu : Nat) (call : Call') (a0 : Int) (a1 : Bool) (a2 : Bool) (a3n : Nat) (a3 : List PV)  (nn : Nat) (y0 : Int) (y1 : Bool) (y2 : Bool) (y3 : Nat) (y4 : List PV) (y5 : Int) (y6 : Bool) (y7 : Bool) (y8 : Int) : passkeyref10_Await_L0 fu call a0 a1 a2 a3n a3  (nn + 1) y0 y1 y2 y3 y4 y5 y6 y7 y8 =
  shareK (IntKind.wrap IntKind.i64 (y0 + (30 : Int))) fun x3 =>
  shareK (if (1099511627776 : Int) < x3 then (1099511627776 : Int) else x3) fun x4 =>
  brK (decide (y5 ≤ x4))
   (
   passkeyref10_Await_L1 fu call a0 a1 a2 a3n a3 nn (fu) (y0) (y1) (y2) (y3) (y4) (y5) ((0 : Int)) (y6) (y7) (y8))
   (
   some (Res.mk [PV.agg [PV.sc (Value.bool false), PV.sc (Value.bool false), PV.sc (Value.int IntKind.i64 (0 : Int))], PV.sc (Value.int IntKind.i64 (19 : Int))] [])) := by kernel_rfl

theorem passkeyref10_Await_L1_s (fu : Nat) (call : Call') (a0 : Int) (a1 : Bool) (a2 : Bool) (a3n : Nat) (a3 : List PV) (m0 : Nat) (nn : Nat) (y0 : Int) (y1 : Bool) (y2 : Bool) (y3 : Nat) (y4 : List PV) (y5 : Int) (y6 : Int) (y7 : Bool) (y8 : Bool) (y9 : Int) : passkeyref10_Await_L1 fu call a0 a1 a2 a3n a3 m0 (nn + 1) y0 y1 y2 y3 y4 y5 y6 y7 y8 y9 =
  brK (decide (y6 < (↑y3 : Int)))
   (
   chk (decide ((0 : Int) ≤ y6) && decide (y6 < (↑y3 : Int))) <|
   intK (IntKind.i64) (List.getD y4 (Int.toNat y6 * (2 : Nat) + (0 : Nat)) PV.top) fun x5 =>
   brK (x5 != y5)
    (
    shareK (IntKind.wrap IntKind.i64 (y6 + (1 : Int))) fun x6 =>
    passkeyref10_Await_L1 fu call a0 a1 a2 a3n a3 m0 (nn) (y0) (y1) (y2) (y3) (y4) (y5) (x6) (y7) (y8) (y9))
    (
    chk (decide ((0 : Int) ≤ y6) && decide (y6 < (↑y3 : Int))) <|
    intK (IntKind.i64) (List.getD y4 (Int.toNat y6 * (2 : Nat) + (1 : Nat)) PV.top) fun x7 =>
    brK (x7 == (1 : Int))
     (
     brK (!y2)
      (
      some (Res.mk [PV.agg [PV.sc (Value.bool true), PV.sc (Value.bool false), PV.sc (Value.int IntKind.i64 y5)], PV.sc (Value.int IntKind.i64 (0 : Int))] []))
      (
      chk (decide ((0 : Int) ≤ y6) && decide (y6 < (↑y3 : Int))) <|
      intK (IntKind.i64) (List.getD y4 (Int.toNat y6 * (2 : Nat) + (1 : Nat)) PV.top) fun x8 =>
      brK (x8 == (2 : Int))
       (
       brK (y1)
        (
        some (Res.mk [PV.agg [PV.sc (Value.bool true), PV.sc (Value.bool true), PV.sc (Value.int IntKind.i64 y5)], PV.sc (Value.int IntKind.i64 (0 : Int))] []))
        (
        chk (decide ((0 : Int) ≤ y6) && decide (y6 < (↑y3 : Int))) <|
        intK (IntKind.i64) (List.getD y4 (Int.toNat y6 * (2 : Nat) + (1 : Nat)) PV.top) fun x9 =>
        brK (x9 == (3 : Int))
         (
         brK (y2)
          (
          some (Res.mk [PV.agg [PV.sc (Value.bool false), PV.sc (Value.bool false), PV.sc (Value.int IntKind.i64 (0 : Int))], PV.sc (Value.int IntKind.i64 (20 : Int))] []))
          (
          chk (decide ((0 : Int) ≤ y6) && decide (y6 < (↑y3 : Int))) <|
          intK (IntKind.i64) (List.getD y4 (Int.toNat y6 * (2 : Nat) + (1 : Nat)) PV.top) fun x10 =>
          brK (x10 == (4 : Int))
           (
           some (Res.mk [PV.agg [PV.sc (Value.bool false), PV.sc (Value.bool false), PV.sc (Value.int IntKind.i64 (0 : Int))], PV.sc (Value.int IntKind.i64 (20 : Int))] []))
           (
           chk (decide ((0 : Int) ≤ y6) && decide (y6 < (↑y3 : Int))) <|
           intK (IntKind.i64) (List.getD y4 (Int.toNat y6 * (2 : Nat) + (1 : Nat)) PV.top) fun x11 =>
           brK (x11 == (5 : Int))
            (
            some (Res.mk [PV.agg [PV.sc (Value.bool false), PV.sc (Value.bool false), PV.sc (Value.int IntKind.i64 (0 : Int))], PV.sc (Value.int IntKind.i64 (21 : Int))] []))
            (
            shareK (IntKind.wrap IntKind.i64 (y6 + (1 : Int))) fun x12 =>
            passkeyref10_Await_L1 fu call a0 a1 a2 a3n a3 m0 (nn) (y0) (y1) (y2) (y3) (y4) (y5) (x12) (y7) (y8) (y9)))))
         (
         chk (decide ((0 : Int) ≤ y6) && decide (y6 < (↑y3 : Int))) <|
         intK (IntKind.i64) (List.getD y4 (Int.toNat y6 * (2 : Nat) + (1 : Nat)) PV.top) fun x13 =>
         brK (x13 == (4 : Int))
          (
          some (Res.mk [PV.agg [PV.sc (Value.bool false), PV.sc (Value.bool false), PV.sc (Value.int IntKind.i64 (0 : Int))], PV.sc (Value.int IntKind.i64 (20 : Int))] []))
          (
          chk (decide ((0 : Int) ≤ y6) && decide (y6 < (↑y3 : Int))) <|
          intK (IntKind.i64) (List.getD y4 (Int.toNat y6 * (2 : Nat) + (1 : Nat)) PV.top) fun x14 =>
          brK (x14 == (5 : Int))
           (
           some (Res.mk [PV.agg [PV.sc (Value.bool false), PV.sc (Value.bool false), PV.sc (Value.int IntKind.i64 (0 : Int))], PV.sc (Value.int IntKind.i64 (21 : Int))] []))
           (
           shareK (IntKind.wrap IntKind.i64 (y6 + (1 : Int))) fun x15 =>
           passkeyref10_Await_L1 fu call a0 a1 a2 a3n a3 m0 (nn) (y0) (y1) (y2) (y3) (y4) (y5) (x15) (y7) (y8) (y9))))))
       (
       chk (decide ((0 : Int) ≤ y6) && decide (y6 < (↑y3 : Int))) <|
       intK (IntKind.i64) (List.getD y4 (Int.toNat y6 * (2 : Nat) + (1 : Nat)) PV.top) fun x16 =>
       brK (x16 == (3 : Int))
        (
        brK (y2)
         (
         some (Res.mk [PV.agg [PV.sc (Value.bool false), PV.sc (Value.bool false), PV.sc (Value.int IntKind.i64 (0 : Int))], PV.sc (Value.int IntKind.i64 (20 : Int))] []))
         (
         chk (decide ((0 : Int) ≤ y6) && decide (y6 < (↑y3 : Int))) <|
         intK (IntKind.i64) (List.getD y4 (Int.toNat y6 * (2 : Nat) + (1 : Nat)) PV.top) fun x17 =>
         brK (x17 == (4 : Int))
          (
          some (Res.mk [PV.agg [PV.sc (Value.bool false), PV.sc (Value.bool false), PV.sc (Value.int IntKind.i64 (0 : Int))], PV.sc (Value.int IntKind.i64 (20 : Int))] []))
          (
          chk (decide ((0 : Int) ≤ y6) && decide (y6 < (↑y3 : Int))) <|
          intK (IntKind.i64) (List.getD y4 (Int.toNat y6 * (2 : Nat) + (1 : Nat)) PV.top) fun x18 =>
          brK (x18 == (5 : Int))
           (
           some (Res.mk [PV.agg [PV.sc (Value.bool false), PV.sc (Value.bool false), PV.sc (Value.int IntKind.i64 (0 : Int))], PV.sc (Value.int IntKind.i64 (21 : Int))] []))
           (
           shareK (IntKind.wrap IntKind.i64 (y6 + (1 : Int))) fun x19 =>
           passkeyref10_Await_L1 fu call a0 a1 a2 a3n a3 m0 (nn) (y0) (y1) (y2) (y3) (y4) (y5) (x19) (y7) (y8) (y9)))))
        (
        chk (decide ((0 : Int) ≤ y6) && decide (y6 < (↑y3 : Int))) <|
        intK (IntKind.i64) (List.getD y4 (Int.toNat y6 * (2 : Nat) + (1 : Nat)) PV.top) fun x20 =>
        brK (x20 == (4 : Int))
         (
         some (Res.mk [PV.agg [PV.sc (Value.bool false), PV.sc (Value.bool false), PV.sc (Value.int IntKind.i64 (0 : Int))], PV.sc (Value.int IntKind.i64 (20 : Int))] []))
         (
         chk (decide ((0 : Int) ≤ y6) && decide (y6 < (↑y3 : Int))) <|
         intK (IntKind.i64) (List.getD y4 (Int.toNat y6 * (2 : Nat) + (1 : Nat)) PV.top) fun x21 =>
         brK (x21 == (5 : Int))
          (
          some (Res.mk [PV.agg [PV.sc (Value.bool false), PV.sc (Value.bool false), PV.sc (Value.int IntKind.i64 (0 : Int))], PV.sc (Value.int IntKind.i64 (21 : Int))] []))
          (
          shareK (IntKind.wrap IntKind.i64 (y6 + (1 : Int))) fun x22 =>
          passkeyref10_Await_L1 fu call a0 a1 a2 a3n a3 m0 (nn) (y0) (y1) (y2) (y3) (y4) (y5) (x22) (y7) (y8) (y9)))))))
     (
     chk (decide ((0 : Int) ≤ y6) && decide (y6 < (↑y3 : Int))) <|
     intK (IntKind.i64) (List.getD y4 (Int.toNat y6 * (2 : Nat) + (1 : Nat)) PV.top) fun x23 =>
     brK (x23 == (2 : Int))
      (
      brK (!y1)
       (
       brK (!y2)
        (
        some (Res.mk [PV.agg [PV.sc (Value.bool true), PV.sc (Value.bool false), PV.sc (Value.int IntKind.i64 y5)], PV.sc (Value.int IntKind.i64 (0 : Int))] []))
        (
        chk (decide ((0 : Int) ≤ y6) && decide (y6 < (↑y3 : Int))) <|
        intK (IntKind.i64) (List.getD y4 (Int.toNat y6 * (2 : Nat) + (1 : Nat)) PV.top) fun x24 =>
        brK (x24 == (2 : Int))
         (
         brK (y1)
          (
          some (Res.mk [PV.agg [PV.sc (Value.bool true), PV.sc (Value.bool true), PV.sc (Value.int IntKind.i64 y5)], PV.sc (Value.int IntKind.i64 (0 : Int))] []))
          (
          chk (decide ((0 : Int) ≤ y6) && decide (y6 < (↑y3 : Int))) <|
          intK (IntKind.i64) (List.getD y4 (Int.toNat y6 * (2 : Nat) + (1 : Nat)) PV.top) fun x25 =>
          brK (x25 == (3 : Int))
           (
           brK (y2)
            (
            some (Res.mk [PV.agg [PV.sc (Value.bool false), PV.sc (Value.bool false), PV.sc (Value.int IntKind.i64 (0 : Int))], PV.sc (Value.int IntKind.i64 (20 : Int))] []))
            (
            chk (decide ((0 : Int) ≤ y6) && decide (y6 < (↑y3 : Int))) <|
            intK (IntKind.i64) (List.getD y4 (Int.toNat y6 * (2 : Nat) + (1 : Nat)) PV.top) fun x26 =>
            brK (x26 == (4 : Int))
             (
             some (Res.mk [PV.agg [PV.sc (Value.bool false), PV.sc (Value.bool false), PV.sc (Value.int IntKind.i64 (0 : Int))], PV.sc (Value.int IntKind.i64 (20 : Int))] []))
             (
             chk (decide ((0 : Int) ≤ y6) && decide (y6 < (↑y3 : Int))) <|
             intK (IntKind.i64) (List.getD y4 (Int.toNat y6 * (2 : Nat) + (1 : Nat)) PV.top) fun x27 =>
             brK (x27 == (5 : Int))
              (
              some (Res.mk [PV.agg [PV.sc (Value.bool false), PV.sc (Value.bool false), PV.sc (Value.int IntKind.i64 (0 : Int))], PV.sc (Value.int IntKind.i64 (21 : Int))] []))
              (
              shareK (IntKind.wrap IntKind.i64 (y6 + (1 : Int))) fun x28 =>
              passkeyref10_Await_L1 fu call a0 a1 a2 a3n a3 m0 (nn) (y0) (y1) (y2) (y3) (y4) (y5) (x28) (y7) (y8) (y9)))))
           (
           chk (decide ((0 : Int) ≤ y6) && decide (y6 < (↑y3 : Int))) <|
           intK (IntKind.i64) (List.getD y4 (Int.toNat y6 * (2 : Nat) + (1 : Nat)) PV.top) fun x29 =>
           brK (x29 == (4 : Int))
            (
            some (Res.mk [PV.agg [PV.sc (Value.bool false), PV.sc (Value.bool false), PV.sc (Value.int IntKind.i64 (0 : Int))], PV.sc (Value.int IntKind.i64 (20 : Int))] []))
            (
            chk (decide ((0 : Int) ≤ y6) && decide (y6 < (↑y3 : Int))) <|
            intK (IntKind.i64) (List.getD y4 (Int.toNat y6 * (2 : Nat) + (1 : Nat)) PV.top) fun x30 =>
            brK (x30 == (5 : Int))
             (
             some (Res.mk [PV.agg [PV.sc (Value.bool false), PV.sc (Value.bool false), PV.sc (Value.int IntKind.i64 (0 : Int))], PV.sc (Value.int IntKind.i64 (21 : Int))] []))
             (
             shareK (IntKind.wrap IntKind.i64 (y6 + (1 : Int))) fun x31 =>
             passkeyref10_Await_L1 fu call a0 a1 a2 a3n a3 m0 (nn) (y0) (y1) (y2) (y3) (y4) (y5) (x31) (y7) (y8) (y9))))))
         (
         chk (decide ((0 : Int) ≤ y6) && decide (y6 < (↑y3 : Int))) <|
         intK (IntKind.i64) (List.getD y4 (Int.toNat y6 * (2 : Nat) + (1 : Nat)) PV.top) fun x32 =>
         brK (x32 == (3 : Int))
          (
          brK (y2)
           (
           some (Res.mk [PV.agg [PV.sc (Value.bool false), PV.sc (Value.bool false), PV.sc (Value.int IntKind.i64 (0 : Int))], PV.sc (Value.int IntKind.i64 (20 : Int))] []))
           (
           chk (decide ((0 : Int) ≤ y6) && decide (y6 < (↑y3 : Int))) <|
           intK (IntKind.i64) (List.getD y4 (Int.toNat y6 * (2 : Nat) + (1 : Nat)) PV.top) fun x33 =>
           brK (x33 == (4 : Int))
            (
            some (Res.mk [PV.agg [PV.sc (Value.bool false), PV.sc (Value.bool false), PV.sc (Value.int IntKind.i64 (0 : Int))], PV.sc (Value.int IntKind.i64 (20 : Int))] []))
            (
            chk (decide ((0 : Int) ≤ y6) && decide (y6 < (↑y3 : Int))) <|
            intK (IntKind.i64) (List.getD y4 (Int.toNat y6 * (2 : Nat) + (1 : Nat)) PV.top) fun x34 =>
            brK (x34 == (5 : Int))
             (
             some (Res.mk [PV.agg [PV.sc (Value.bool false), PV.sc (Value.bool false), PV.sc (Value.int IntKind.i64 (0 : Int))], PV.sc (Value.int IntKind.i64 (21 : Int))] []))
             (
             shareK (IntKind.wrap IntKind.i64 (y6 + (1 : Int))) fun x35 =>
             passkeyref10_Await_L1 fu call a0 a1 a2 a3n a3 m0 (nn) (y0) (y1) (y2) (y3) (y4) (y5) (x35) (y7) (y8) (y9)))))
          (
          chk (decide ((0 : Int) ≤ y6) && decide (y6 < (↑y3 : Int))) <|
          intK (IntKind.i64) (List.getD y4 (Int.toNat y6 * (2 : Nat) + (1 : Nat)) PV.top) fun x36 =>
          brK (x36 == (4 : Int))
           (
           some (Res.mk [PV.agg [PV.sc (Value.bool false), PV.sc (Value.bool false), PV.sc (Value.int IntKind.i64 (0 : Int))], PV.sc (Value.int IntKind.i64 (20 : Int))] []))
           (
           chk (decide ((0 : Int) ≤ y6) && decide (y6 < (↑y3 : Int))) <|
           intK (IntKind.i64) (List.getD y4 (Int.toNat y6 * (2 : Nat) + (1 : Nat)) PV.top) fun x37 =>
           brK (x37 == (5 : Int))
            (
            some (Res.mk [PV.agg [PV.sc (Value.bool false), PV.sc (Value.bool false), PV.sc (Value.int IntKind.i64 (0 : Int))], PV.sc (Value.int IntKind.i64 (21 : Int))] []))
            (
            shareK (IntKind.wrap IntKind.i64 (y6 + (1 : Int))) fun x38 =>
            passkeyref10_Await_L1 fu call a0 a1 a2 a3n a3 m0 (nn) (y0) (y1) (y2) (y3) (y4) (y5) (x38) (y7) (y8) (y9)))))))
       (
       chk (decide ((0 : Int) ≤ y6) && decide (y6 < (↑y3 : Int))) <|
       intK (IntKind.i64) (List.getD y4 (Int.toNat y6 * (2 : Nat) + (1 : Nat)) PV.top) fun x39 =>
       brK (x39 == (3 : Int))
        (
        brK (!y2)
         (
         brK (!y2)
          (
          some (Res.mk [PV.agg [PV.sc (Value.bool true), PV.sc (Value.bool false), PV.sc (Value.int IntKind.i64 y5)], PV.sc (Value.int IntKind.i64 (0 : Int))] []))
          (
          chk (decide ((0 : Int) ≤ y6) && decide (y6 < (↑y3 : Int))) <|
          intK (IntKind.i64) (List.getD y4 (Int.toNat y6 * (2 : Nat) + (1 : Nat)) PV.top) fun x40 =>
          brK (x40 == (2 : Int))
           (
           brK (y1)
            (
            some (Res.mk [PV.agg [PV.sc (Value.bool true), PV.sc (Value.bool true), PV.sc (Value.int IntKind.i64 y5)], PV.sc (Value.int IntKind.i64 (0 : Int))] []))
            (
            chk (decide ((0 : Int) ≤ y6) && decide (y6 < (↑y3 : Int))) <|
            intK (IntKind.i64) (List.getD y4 (Int.toNat y6 * (2 : Nat) + (1 : Nat)) PV.top) fun x41 =>
            brK (x41 == (3 : Int))
             (
             brK (y2)
              (
              some (Res.mk [PV.agg [PV.sc (Value.bool false), PV.sc (Value.bool false), PV.sc (Value.int IntKind.i64 (0 : Int))], PV.sc (Value.int IntKind.i64 (20 : Int))] []))
              (
              chk (decide ((0 : Int) ≤ y6) && decide (y6 < (↑y3 : Int))) <|
              intK (IntKind.i64) (List.getD y4 (Int.toNat y6 * (2 : Nat) + (1 : Nat)) PV.top) fun x42 =>
              brK (x42 == (4 : Int))
               (
               some (Res.mk [PV.agg [PV.sc (Value.bool false), PV.sc (Value.bool false), PV.sc (Value.int IntKind.i64 (0 : Int))], PV.sc (Value.int IntKind.i64 (20 : Int))] []))
               (
               chk (decide ((0 : Int) ≤ y6) && decide (y6 < (↑y3 : Int))) <|
               intK (IntKind.i64) (List.getD y4 (Int.toNat y6 * (2 : Nat) + (1 : Nat)) PV.top) fun x43 =>
               brK (x43 == (5 : Int))
                (
                some (Res.mk [PV.agg [PV.sc (Value.bool false), PV.sc (Value.bool false), PV.sc (Value.int IntKind.i64 (0 : Int))], PV.sc (Value.int IntKind.i64 (21 : Int))] []))
                (
                shareK (IntKind.wrap IntKind.i64 (y6 + (1 : Int))) fun x44 =>
                passkeyref10_Await_L1 fu call a0 a1 a2 a3n a3 m0 (nn) (y0) (y1) (y2) (y3) (y4) (y5) (x44) (y7) (y8) (y9)))))
             (
             chk (decide ((0 : Int) ≤ y6) && decide (y6 < (↑y3 : Int))) <|
             intK (IntKind.i64) (List.getD y4 (Int.toNat y6 * (2 : Nat) + (1 : Nat)) PV.top) fun x45 =>
             brK (x45 == (4 : Int))
              (
              some (Res.mk [PV.agg [PV.sc (Value.bool false), PV.sc (Value.bool false), PV.sc (Value.int IntKind.i64 (0 : Int))], PV.sc (Value.int IntKind.i64 (20 : Int))] []))
              (
              chk (decide ((0 : Int) ≤ y6) && decide (y6 < (↑y3 : Int))) <|
              intK (IntKind.i64) (List.getD y4 (Int.toNat y6 * (2 : Nat) + (1 : Nat)) PV.top) fun x46 =>
              brK (x46 == (5 : Int))
               (
               some (Res.mk [PV.agg [PV.sc (Value.bool false), PV.sc (Value.bool false), PV.sc (Value.int IntKind.i64 (0 : Int))], PV.sc (Value.int IntKind.i64 (21 : Int))] []))
               (
               shareK (IntKind.wrap IntKind.i64 (y6 + (1 : Int))) fun x47 =>
               passkeyref10_Await_L1 fu call a0 a1 a2 a3n a3 m0 (nn) (y0) (y1) (y2) (y3) (y4) (y5) (x47) (y7) (y8) (y9))))))
           (
           chk (decide ((0 : Int) ≤ y6) && decide (y6 < (↑y3 : Int))) <|
           intK (IntKind.i64) (List.getD y4 (Int.toNat y6 * (2 : Nat) + (1 : Nat)) PV.top) fun x48 =>
           brK (x48 == (3 : Int))
            (
            brK (y2)
             (
             some (Res.mk [PV.agg [PV.sc (Value.bool false), PV.sc (Value.bool false), PV.sc (Value.int IntKind.i64 (0 : Int))], PV.sc (Value.int IntKind.i64 (20 : Int))] []))
             (
             chk (decide ((0 : Int) ≤ y6) && decide (y6 < (↑y3 : Int))) <|
             intK (IntKind.i64) (List.getD y4 (Int.toNat y6 * (2 : Nat) + (1 : Nat)) PV.top) fun x49 =>
             brK (x49 == (4 : Int))
              (
              some (Res.mk [PV.agg [PV.sc (Value.bool false), PV.sc (Value.bool false), PV.sc (Value.int IntKind.i64 (0 : Int))], PV.sc (Value.int IntKind.i64 (20 : Int))] []))
              (
              chk (decide ((0 : Int) ≤ y6) && decide (y6 < (↑y3 : Int))) <|
              intK (IntKind.i64) (List.getD y4 (Int.toNat y6 * (2 : Nat) + (1 : Nat)) PV.top) fun x50 =>
              brK (x50 == (5 : Int))
               (
               some (Res.mk [PV.agg [PV.sc (Value.bool false), PV.sc (Value.bool false), PV.sc (Value.int IntKind.i64 (0 : Int))], PV.sc (Value.int IntKind.i64 (21 : Int))] []))
               (
               shareK (IntKind.wrap IntKind.i64 (y6 + (1 : Int))) fun x51 =>
               passkeyref10_Await_L1 fu call a0 a1 a2 a3n a3 m0 (nn) (y0) (y1) (y2) (y3) (y4) (y5) (x51) (y7) (y8) (y9)))))
            (
            chk (decide ((0 : Int) ≤ y6) && decide (y6 < (↑y3 : Int))) <|
            intK (IntKind.i64) (List.getD y4 (Int.toNat y6 * (2 : Nat) + (1 : Nat)) PV.top) fun x52 =>
            brK (x52 == (4 : Int))
             (
             some (Res.mk [PV.agg [PV.sc (Value.bool false), PV.sc (Value.bool false), PV.sc (Value.int IntKind.i64 (0 : Int))], PV.sc (Value.int IntKind.i64 (20 : Int))] []))
             (
             chk (decide ((0 : Int) ≤ y6) && decide (y6 < (↑y3 : Int))) <|
             intK (IntKind.i64) (List.getD y4 (Int.toNat y6 * (2 : Nat) + (1 : Nat)) PV.top) fun x53 =>
             brK (x53 == (5 : Int))
              (
              some (Res.mk [PV.agg [PV.sc (Value.bool false), PV.sc (Value.bool false), PV.sc (Value.int IntKind.i64 (0 : Int))], PV.sc (Value.int IntKind.i64 (21 : Int))] []))
              (
              shareK (IntKind.wrap IntKind.i64 (y6 + (1 : Int))) fun x54 =>
              passkeyref10_Await_L1 fu call a0 a1 a2 a3n a3 m0 (nn) (y0) (y1) (y2) (y3) (y4) (y5) (x54) (y7) (y8) (y9)))))))
         (
         chk (decide ((0 : Int) ≤ y6) && decide (y6 < (↑y3 : Int))) <|
         intK (IntKind.i64) (List.getD y4 (Int.toNat y6 * (2 : Nat) + (1 : Nat)) PV.top) fun x55 =>
         brK (x55 == (2 : Int))
          (
          brK (y1)
           (
           some (Res.mk [PV.agg [PV.sc (Value.bool true), PV.sc (Value.bool true), PV.sc (Value.int IntKind.i64 y5)], PV.sc (Value.int IntKind.i64 (0 : Int))] []))
           (
           chk (decide ((0 : Int) ≤ y6) && decide (y6 < (↑y3 : Int))) <|
           intK (IntKind.i64) (List.getD y4 (Int.toNat y6 * (2 : Nat) + (1 : Nat)) PV.top) fun x56 =>
           brK (x56 == (3 : Int))
            (
            brK (y2)
             (
             some (Res.mk [PV.agg [PV.sc (Value.bool false), PV.sc (Value.bool false), PV.sc (Value.int IntKind.i64 (0 : Int))], PV.sc (Value.int IntKind.i64 (20 : Int))] []))
             (
             chk (decide ((0 : Int) ≤ y6) && decide (y6 < (↑y3 : Int))) <|
             intK (IntKind.i64) (List.getD y4 (Int.toNat y6 * (2 : Nat) + (1 : Nat)) PV.top) fun x57 =>
             brK (x57 == (4 : Int))
              (
              some (Res.mk [PV.agg [PV.sc (Value.bool false), PV.sc (Value.bool false), PV.sc (Value.int IntKind.i64 (0 : Int))], PV.sc (Value.int IntKind.i64 (20 : Int))] []))
              (
              chk (decide ((0 : Int) ≤ y6) && decide (y6 < (↑y3 : Int))) <|
              intK (IntKind.i64) (List.getD y4 (Int.toNat y6 * (2 : Nat) + (1 : Nat)) PV.top) fun x58 =>
              brK (x58 == (5 : Int))
               (
               some (Res.mk [PV.agg [PV.sc (Value.bool false), PV.sc (Value.bool false), PV.sc (Value.int IntKind.i64 (0 : Int))], PV.sc (Value.int IntKind.i64 (21 : Int))] []))
               (
               shareK (IntKind.wrap IntKind.i64 (y6 + (1 : Int))) fun x59 =>
               passkeyref10_Await_L1 fu call a0 a1 a2 a3n a3 m0 (nn) (y0) (y1) (y2) (y3) (y4) (y5) (x59) (y7) (y8) (y9)))))
            (
            chk (decide ((0 : Int) ≤ y6) && decide (y6 < (↑y3 : Int))) <|
            intK (IntKind.i64) (List.getD y4 (Int.toNat y6 * (2 : Nat) + (1 : Nat)) PV.top) fun x60 =>
            brK (x60 == (4 : Int))
             (
             some (Res.mk [PV.agg [PV.sc (Value.bool false), PV.sc (Value.bool false), PV.sc (Value.int IntKind.i64 (0 : Int))], PV.sc (Value.int IntKind.i64 (20 : Int))] []))
             (
             chk (decide ((0 : Int) ≤ y6) && decide (y6 < (↑y3 : Int))) <|
             intK (IntKind.i64) (List.getD y4 (Int.toNat y6 * (2 : Nat) + (1 : Nat)) PV.top) fun x61 =>
             brK (x61 == (5 : Int))
              (
              some (Res.mk [PV.agg [PV.sc (Value.bool false), PV.sc (Value.bool false), PV.sc (Value.int IntKind.i64 (0 : Int))], PV.sc (Value.int IntKind.i64 (21 : Int))] []))
              (
              shareK (IntKind.wrap IntKind.i64 (y6 + (1 : Int))) fun x62 =>
              passkeyref10_Await_L1 fu call a0 a1 a2 a3n a3 m0 (nn) (y0) (y1) (y2) (y3) (y4) (y5) (x62) (y7) (y8) (y9))))))
          (
          chk (decide ((0 : Int) ≤ y6) && decide (y6 < (↑y3 : Int))) <|
          intK (IntKind.i64) (List.getD y4 (Int.toNat y6 * (2 : Nat) + (1 : Nat)) PV.top) fun x63 =>
          brK (x63 == (3 : Int))
           (
           brK (y2)
            (
            some (Res.mk [PV.agg [PV.sc (Value.bool false), PV.sc (Value.bool false), PV.sc (Value.int IntKind.i64 (0 : Int))], PV.sc (Value.int IntKind.i64 (20 : Int))] []))
            (
            chk (decide ((0 : Int) ≤ y6) && decide (y6 < (↑y3 : Int))) <|
            intK (IntKind.i64) (List.getD y4 (Int.toNat y6 * (2 : Nat) + (1 : Nat)) PV.top) fun x64 =>
            brK (x64 == (4 : Int))
             (
             some (Res.mk [PV.agg [PV.sc (Value.bool false), PV.sc (Value.bool false), PV.sc (Value.int IntKind.i64 (0 : Int))], PV.sc (Value.int IntKind.i64 (20 : Int))] []))
             (
             chk (decide ((0 : Int) ≤ y6) && decide (y6 < (↑y3 : Int))) <|
             intK (IntKind.i64) (List.getD y4 (Int.toNat y6 * (2 : Nat) + (1 : Nat)) PV.top) fun x65 =>
             brK (x65 == (5 : Int))
              (
              some (Res.mk [PV.agg [PV.sc (Value.bool false), PV.sc (Value.bool false), PV.sc (Value.int IntKind.i64 (0 : Int))], PV.sc (Value.int IntKind.i64 (21 : Int))] []))
              (
              shareK (IntKind.wrap IntKind.i64 (y6 + (1 : Int))) fun x66 =>
              passkeyref10_Await_L1 fu call a0 a1 a2 a3n a3 m0 (nn) (y0) (y1) (y2) (y3) (y4) (y5) (x66) (y7) (y8) (y9)))))
           (
           chk (decide ((0 : Int) ≤ y6) && decide (y6 < (↑y3 : Int))) <|
           intK (IntKind.i64) (List.getD y4 (Int.toNat y6 * (2 : Nat) + (1 : Nat)) PV.top) fun x67 =>
           brK (x67 == (4 : Int))
            (
            some (Res.mk [PV.agg [PV.sc (Value.bool false), PV.sc (Value.bool false), PV.sc (Value.int IntKind.i64 (0 : Int))], PV.sc (Value.int IntKind.i64 (20 : Int))] []))
            (
            chk (decide ((0 : Int) ≤ y6) && decide (y6 < (↑y3 : Int))) <|
            intK (IntKind.i64) (List.getD y4 (Int.toNat y6 * (2 : Nat) + (1 : Nat)) PV.top) fun x68 =>
            brK (x68 == (5 : Int))
             (
             some (Res.mk [PV.agg [PV.sc (Value.bool false), PV.sc (Value.bool false), PV.sc (Value.int IntKind.i64 (0 : Int))], PV.sc (Value.int IntKind.i64 (21 : Int))] []))
             (
             shareK (IntKind.wrap IntKind.i64 (y6 + (1 : Int))) fun x69 =>
             passkeyref10_Await_L1 fu call a0 a1 a2 a3n a3 m0 (nn) (y0) (y1) (y2) (y3) (y4) (y5) (x69) (y7) (y8) (y9)))))))
        (
        chk (decide ((0 : Int) ≤ y6) && decide (y6 < (↑y3 : Int))) <|
        intK (IntKind.i64) (List.getD y4 (Int.toNat y6 * (2 : Nat) + (1 : Nat)) PV.top) fun x70 =>
        brK (x70 == (2 : Int))
         (
         brK (y1)
          (
          some (Res.mk [PV.agg [PV.sc (Value.bool true), PV.sc (Value.bool true), PV.sc (Value.int IntKind.i64 y5)], PV.sc (Value.int IntKind.i64 (0 : Int))] []))
          (
          chk (decide ((0 : Int) ≤ y6) && decide (y6 < (↑y3 : Int))) <|
          intK (IntKind.i64) (List.getD y4 (Int.toNat y6 * (2 : Nat) + (1 : Nat)) PV.top) fun x71 =>
          brK (x71 == (3 : Int))
           (
           brK (y2)
            (
            some (Res.mk [PV.agg [PV.sc (Value.bool false), PV.sc (Value.bool false), PV.sc (Value.int IntKind.i64 (0 : Int))], PV.sc (Value.int IntKind.i64 (20 : Int))] []))
            (
            chk (decide ((0 : Int) ≤ y6) && decide (y6 < (↑y3 : Int))) <|
            intK (IntKind.i64) (List.getD y4 (Int.toNat y6 * (2 : Nat) + (1 : Nat)) PV.top) fun x72 =>
            brK (x72 == (4 : Int))
             (
             some (Res.mk [PV.agg [PV.sc (Value.bool false), PV.sc (Value.bool false), PV.sc (Value.int IntKind.i64 (0 : Int))], PV.sc (Value.int IntKind.i64 (20 : Int))] []))
             (
             chk (decide ((0 : Int) ≤ y6) && decide (y6 < (↑y3 : Int))) <|
             intK (IntKind.i64) (List.getD y4 (Int.toNat y6 * (2 : Nat) + (1 : Nat)) PV.top) fun x73 =>
             brK (x73 == (5 : Int))
              (
              some (Res.mk [PV.agg [PV.sc (Value.bool false), PV.sc (Value.bool false), PV.sc (Value.int IntKind.i64 (0 : Int))], PV.sc (Value.int IntKind.i64 (21 : Int))] []))
              (
              shareK (IntKind.wrap IntKind.i64 (y6 + (1 : Int))) fun x74 =>
              passkeyref10_Await_L1 fu call a0 a1 a2 a3n a3 m0 (nn) (y0) (y1) (y2) (y3) (y4) (y5) (x74) (y7) (y8) (y9)))))
           (
           chk (decide ((0 : Int) ≤ y6) && decide (y6 < (↑y3 : Int))) <|
           intK (IntKind.i64) (List.getD y4 (Int.toNat y6 * (2 : Nat) + (1 : Nat)) PV.top) fun x75 =>
           brK (x75 == (4 : Int))
            (
            some (Res.mk [PV.agg [PV.sc (Value.bool false), PV.sc (Value.bool false), PV.sc (Value.int IntKind.i64 (0 : Int))], PV.sc (Value.int IntKind.i64 (20 : Int))] []))
            (
            chk (decide ((0 : Int) ≤ y6) && decide (y6 < (↑y3 : Int))) <|
            intK (IntKind.i64) (List.getD y4 (Int.toNat y6 * (2 : Nat) + (1 : Nat)) PV.top) fun x76 =>
            brK (x76 == (5 : Int))
             (
             some (Res.mk [PV.agg [PV.sc (Value.bool false), PV.sc (Value.bool false), PV.sc (Value.int IntKind.i64 (0 : Int))], PV.sc (Value.int IntKind.i64 (21 : Int))] []))
             (
             shareK (IntKind.wrap IntKind.i64 (y6 + (1 : Int))) fun x77 =>
             passkeyref10_Await_L1 fu call a0 a1 a2 a3n a3 m0 (nn) (y0) (y1) (y2) (y3) (y4) (y5) (x77) (y7) (y8) (y9))))))
         (
         chk (decide ((0 : Int) ≤ y6) && decide (y6 < (↑y3 : Int))) <|
         intK (IntKind.i64) (List.getD y4 (Int.toNat y6 * (2 : Nat) + (1 : Nat)) PV.top) fun x78 =>
         brK (x78 == (3 : Int))
          (
          brK (y2)
           (
           some (Res.mk [PV.agg [PV.sc (Value.bool false), PV.sc (Value.bool false), PV.sc (Value.int IntKind.i64 (0 : Int))], PV.sc (Value.int IntKind.i64 (20 : Int))] []))
           (
           chk (decide ((0 : Int) ≤ y6) && decide (y6 < (↑y3 : Int))) <|
           intK (IntKind.i64) (List.getD y4 (Int.toNat y6 * (2 : Nat) + (1 : Nat)) PV.top) fun x79 =>
           brK (x79 == (4 : Int))
            (
            some (Res.mk [PV.agg [PV.sc (Value.bool false), PV.sc (Value.bool false), PV.sc (Value.int IntKind.i64 (0 : Int))], PV.sc (Value.int IntKind.i64 (20 : Int))] []))
            (
            chk (decide ((0 : Int) ≤ y6) && decide (y6 < (↑y3 : Int))) <|
            intK (IntKind.i64) (List.getD y4 (Int.toNat y6 * (2 : Nat) + (1 : Nat)) PV.top) fun x80 =>
            brK (x80 == (5 : Int))
             (
             some (Res.mk [PV.agg [PV.sc (Value.bool false), PV.sc (Value.bool false), PV.sc (Value.int IntKind.i64 (0 : Int))], PV.sc (Value.int IntKind.i64 (21 : Int))] []))
             (
             shareK (IntKind.wrap IntKind.i64 (y6 + (1 : Int))) fun x81 =>
             passkeyref10_Await_L1 fu call a0 a1 a2 a3n a3 m0 (nn) (y0) (y1) (y2) (y3) (y4) (y5) (x81) (y7) (y8) (y9)))))
          (
          chk (decide ((0 : Int) ≤ y6) && decide (y6 < (↑y3 : Int))) <|
          intK (IntKind.i64) (List.getD y4 (Int.toNat y6 * (2 : Nat) + (1 : Nat)) PV.top) fun x82 =>
          brK (x82 == (4 : Int))
           (
           some (Res.mk [PV.agg [PV.sc (Value.bool false), PV.sc (Value.bool false), PV.sc (Value.int IntKind.i64 (0 : Int))], PV.sc (Value.int IntKind.i64 (20 : Int))] []))
           (
           chk (decide ((0 : Int) ≤ y6) && decide (y6 < (↑y3 : Int))) <|
           intK (IntKind.i64) (List.getD y4 (Int.toNat y6 * (2 : Nat) + (1 : Nat)) PV.top) fun x83 =>
           brK (x83 == (5 : Int))
            (
            some (Res.mk [PV.agg [PV.sc (Value.bool false), PV.sc (Value.bool false), PV.sc (Value.int IntKind.i64 (0 : Int))], PV.sc (Value.int IntKind.i64 (21 : Int))] []))
            (
            shareK (IntKind.wrap IntKind.i64 (y6 + (1 : Int))) fun x84 =>
            passkeyref10_Await_L1 fu call a0 a1 a2 a3n a3 m0 (nn) (y0) (y1) (y2) (y3) (y4) (y5) (x84) (y7) (y8) (y9))))))))
      (
      chk (decide ((0 : Int) ≤ y6) && decide (y6 < (↑y3 : Int))) <|
      intK (IntKind.i64) (List.getD y4 (Int.toNat y6 * (2 : Nat) + (1 : Nat)) PV.top) fun x85 =>
      brK (x85 == (3 : Int))
       (
       brK (!y2)
        (
        brK (!y2)
         (
         some (Res.mk [PV.agg [PV.sc (Value.bool true), PV.sc (Value.bool false), PV.sc (Value.int IntKind.i64 y5)], PV.sc (Value.int IntKind.i64 (0 : Int))] []))
         (
         chk (decide ((0 : Int) ≤ y6) && decide (y6 < (↑y3 : Int))) <|
         intK (IntKind.i64) (List.getD y4 (Int.toNat y6 * (2 : Nat) + (1 : Nat)) PV.top) fun x86 =>
         brK (x86 == (2 : Int))
          (
          brK (y1)
           (
           some (Res.mk [PV.agg [PV.sc (Value.bool true), PV.sc (Value.bool true), PV.sc (Value.int IntKind.i64 y5)], PV.sc (Value.int IntKind.i64 (0 : Int))] []))
           (
           chk (decide ((0 : Int) ≤ y6) && decide (y6 < (↑y3 : Int))) <|
           intK (IntKind.i64) (List.getD y4 (Int.toNat y6 * (2 : Nat) + (1 : Nat)) PV.top) fun x87 =>
           brK (x87 == (3 : Int))
            (
            brK (y2)
             (
             some (Res.mk [PV.agg [PV.sc (Value.bool false), PV.sc (Value.bool false), PV.sc (Value.int IntKind.i64 (0 : Int))], PV.sc (Value.int IntKind.i64 (20 : Int))] []))
             (
             chk (decide ((0 : Int) ≤ y6) && decide (y6 < (↑y3 : Int))) <|
             intK (IntKind.i64) (List.getD y4 (Int.toNat y6 * (2 : Nat) + (1 : Nat)) PV.top) fun x88 =>
             brK (x88 == (4 : Int))
              (
              some (Res.mk [PV.agg [PV.sc (Value.bool false), PV.sc (Value.bool false), PV.sc (Value.int IntKind.i64 (0 : Int))], PV.sc (Value.int IntKind.i64 (20 : Int))] []))
              (
              chk (decide ((0 : Int) ≤ y6) && decide (y6 < (↑y3 : Int))) <|
              intK (IntKind.i64) (List.getD y4 (Int.toNat y6 * (2 : Nat) + (1 : Nat)) PV.top) fun x89 =>
              brK (x89 == (5 : Int))
               (
               some (Res.mk [PV.agg [PV.sc (Value.bool false), PV.sc (Value.bool false), PV.sc (Value.int IntKind.i64 (0 : Int))], PV.sc (Value.int IntKind.i64 (21 : Int))] []))
               (
               shareK (IntKind.wrap IntKind.i64 (y6 + (1 : Int))) fun x90 =>
               passkeyref10_Await_L1 fu call a0 a1 a2 a3n a3 m0 (nn) (y0) (y1) (y2) (y3) (y4) (y5) (x90) (y7) (y8) (y9)))))
            (
            chk (decide ((0 : Int) ≤ y6) && decide (y6 < (↑y3 : Int))) <|
            intK (IntKind.i64) (List.getD y4 (Int.toNat y6 * (2 : Nat) + (1 : Nat)) PV.top) fun x91 =>
            brK (x91 == (4 : Int))
             (
             some (Res.mk [PV.agg [PV.sc (Value.bool false), PV.sc (Value.bool false), PV.sc (Value.int IntKind.i64 (0 : Int))], PV.sc (Value.int IntKind.i64 (20 : Int))] []))
             (
             chk (decide ((0 : Int) ≤ y6) && decide (y6 < (↑y3 : Int))) <|
             intK (IntKind.i64) (List.getD y4 (Int.toNat y6 * (2 : Nat) + (1 : Nat)) PV.top) fun x92 =>
             brK (x92 == (5 : Int))
              (
              some (Res.mk [PV.agg [PV.sc (Value.bool false), PV.sc (Value.bool false), PV.sc (Value.int IntKind.i64 (0 : Int))], PV.sc (Value.int IntKind.i64 (21 : Int))] []))
              (
              shareK (IntKind.wrap IntKind.i64 (y6 + (1 : Int))) fun x93 =>
              passkeyref10_Await_L1 fu call a0 a1 a2 a3n a3 m0 (nn) (y0) (y1) (y2) (y3) (y4) (y5) (x93) (y7) (y8) (y9))))))
          (
          chk (decide ((0 : Int) ≤ y6) && decide (y6 < (↑y3 : Int))) <|
          intK (IntKind.i64) (List.getD y4 (Int.toNat y6 * (2 : Nat) + (1 : Nat)) PV.top) fun x94 =>
          brK (x94 == (3 : Int))
           (
           brK (y2)
            (
            some (Res.mk [PV.agg [PV.sc (Value.bool false), PV.sc (Value.bool false), PV.sc (Value.int IntKind.i64 (0 : Int))], PV.sc (Value.int IntKind.i64 (20 : Int))] []))
            (
            chk (decide ((0 : Int) ≤ y6) && decide (y6 < (↑y3 : Int))) <|
            intK (IntKind.i64) (List.getD y4 (Int.toNat y6 * (2 : Nat) + (1 : Nat)) PV.top) fun x95 =>
            brK (x95 == (4 : Int))
             (
             some (Res.mk [PV.agg [PV.sc (Value.bool false), PV.sc (Value.bool false), PV.sc (Value.int IntKind.i64 (0 : Int))], PV.sc (Value.int IntKind.i64 (20 : Int))] []))
             (
             chk (decide ((0 : Int) ≤ y6) && decide (y6 < (↑y3 : Int))) <|
             intK (IntKind.i64) (List.getD y4 (Int.toNat y6 * (2 : Nat) + (1 : Nat)) PV.top) fun x96 =>
             brK (x96 == (5 : Int))
              (
              some (Res.mk [PV.agg [PV.sc (Value.bool false), PV.sc (Value.bool false), PV.sc (Value.int IntKind.i64 (0 : Int))], PV.sc (Value.int IntKind.i64 (21 : Int))] []))
              (
              shareK (IntKind.wrap IntKind.i64 (y6 + (1 : Int))) fun x97 =>
              passkeyref10_Await_L1 fu call a0 a1 a2 a3n a3 m0 (nn) (y0) (y1) (y2) (y3) (y4) (y5) (x97) (y7) (y8) (y9)))))
           (
           chk (decide ((0 : Int) ≤ y6) && decide (y6 < (↑y3 : Int))) <|
           intK (IntKind.i64) (List.getD y4 (Int.toNat y6 * (2 : Nat) + (1 : Nat)) PV.top) fun x98 =>
           brK (x98 == (4 : Int))
            (
            some (Res.mk [PV.agg [PV.sc (Value.bool false), PV.sc (Value.bool false), PV.sc (Value.int IntKind.i64 (0 : Int))], PV.sc (Value.int IntKind.i64 (20 : Int))] []))
            (
            chk (decide ((0 : Int) ≤ y6) && decide (y6 < (↑y3 : Int))) <|
            intK (IntKind.i64) (List.getD y4 (Int.toNat y6 * (2 : Nat) + (1 : Nat)) PV.top) fun x99 =>
            brK (x99 == (5 : Int))
             (
             some (Res.mk [PV.agg [PV.sc (Value.bool false), PV.sc (Value.bool false), PV.sc (Value.int IntKind.i64 (0 : Int))], PV.sc (Value.int IntKind.i64 (21 : Int))] []))
             (
             shareK (IntKind.wrap IntKind.i64 (y6 + (1 : Int))) fun x100 =>
             passkeyref10_Await_L1 fu call a0 a1 a2 a3n a3 m0 (nn) (y0) (y1) (y2) (y3) (y4) (y5) (x100) (y7) (y8) (y9)))))))
        (
        chk (decide ((0 : Int) ≤ y6) && decide (y6 < (↑y3 : Int))) <|
        intK (IntKind.i64) (List.getD y4 (Int.toNat y6 * (2 : Nat) + (1 : Nat)) PV.top) fun x101 =>
        brK (x101 == (2 : Int))
         (
         brK (y1)
          (
          some (Res.mk [PV.agg [PV.sc (Value.bool true), PV.sc (Value.bool true), PV.sc (Value.int IntKind.i64 y5)], PV.sc (Value.int IntKind.i64 (0 : Int))] []))
          (
          chk (decide ((0 : Int) ≤ y6) && decide (y6 < (↑y3 : Int))) <|
          intK (IntKind.i64) (List.getD y4 (Int.toNat y6 * (2 : Nat) + (1 : Nat)) PV.top) fun x102 =>
          brK (x102 == (3 : Int))
           (
           brK (y2)
            (
            some (Res.mk [PV.agg [PV.sc (Value.bool false), PV.sc (Value.bool false), PV.sc (Value.int IntKind.i64 (0 : Int))], PV.sc (Value.int IntKind.i64 (20 : Int))] []))
            (
            chk (decide ((0 : Int) ≤ y6) && decide (y6 < (↑y3 : Int))) <|
            intK (IntKind.i64) (List.getD y4 (Int.toNat y6 * (2 : Nat) + (1 : Nat)) PV.top) fun x103 =>
            brK (x103 == (4 : Int))
             (
             some (Res.mk [PV.agg [PV.sc (Value.bool false), PV.sc (Value.bool false), PV.sc (Value.int IntKind.i64 (0 : Int))], PV.sc (Value.int IntKind.i64 (20 : Int))] []))
             (
             chk (decide ((0 : Int) ≤ y6) && decide (y6 < (↑y3 : Int))) <|
             intK (IntKind.i64) (List.getD y4 (Int.toNat y6 * (2 : Nat) + (1 : Nat)) PV.top) fun x104 =>
             brK (x104 == (5 : Int))
              (
              some (Res.mk [PV.agg [PV.sc (Value.bool false), PV.sc (Value.bool false), PV.sc (Value.int IntKind.i64 (0 : Int))], PV.sc (Value.int IntKind.i64 (21 : Int))] []))
              (
              shareK (IntKind.wrap IntKind.i64 (y6 + (1 : Int))) fun x105 =>
              passkeyref10_Await_L1 fu call a0 a1 a2 a3n a3 m0 (nn) (y0) (y1) (y2) (y3) (y4) (y5) (x105) (y7) (y8) (y9)))))
           (
           chk (decide ((0 : Int) ≤ y6) && decide (y6 < (↑y3 : Int))) <|
           intK (IntKind.i64) (List.getD y4 (Int.toNat y6 * (2 : Nat) + (1 : Nat)) PV.top) fun x106 =>
           brK (x106 == (4 : Int))
            (
            some (Res.mk [PV.agg [PV.sc (Value.bool false), PV.sc (Value.bool false), PV.sc (Value.int IntKind.i64 (0 : Int))], PV.sc (Value.int IntKind.i64 (20 : Int))] []))
            (
            chk (decide ((0 : Int) ≤ y6) && decide (y6 < (↑y3 : Int))) <|
            intK (IntKind.i64) (List.getD y4 (Int.toNat y6 * (2 : Nat) + (1 : Nat)) PV.top) fun x107 =>
            brK (x107 == (5 : Int))
             (
             some (Res.mk [PV.agg [PV.sc (Value.bool false), PV.sc (Value.bool false), PV.sc (Value.int IntKind.i64 (0 : Int))], PV.sc (Value.int IntKind.i64 (21 : Int))] []))
             (
             shareK (IntKind.wrap IntKind.i64 (y6 + (1 : Int))) fun x108 =>
             passkeyref10_Await_L1 fu call a0 a1 a2 a3n a3 m0 (nn) (y0) (y1) (y2) (y3) (y4) (y5) (x108) (y7) (y8) (y9))))))
         (
         chk (decide ((0 : Int) ≤ y6) && decide (y6 < (↑y3 : Int))) <|
         intK (IntKind.i64) (List.getD y4 (Int.toNat y6 * (2 : Nat) + (1 : Nat)) PV.top) fun x109 =>
         brK (x109 == (3 : Int))
          (
          brK (y2)
           (
           some (Res.mk [PV.agg [PV.sc (Value.bool false), PV.sc (Value.bool false), PV.sc (Value.int IntKind.i64 (0 : Int))], PV.sc (Value.int IntKind.i64 (20 : Int))] []))
           (
           chk (decide ((0 : Int) ≤ y6) && decide (y6 < (↑y3 : Int))) <|
           intK (IntKind.i64) (List.getD y4 (Int.toNat y6 * (2 : Nat) + (1 : Nat)) PV.top) fun x110 =>
           brK (x110 == (4 : Int))
            (
            some (Res.mk [PV.agg [PV.sc (Value.bool false), PV.sc (Value.bool false), PV.sc (Value.int IntKind.i64 (0 : Int))], PV.sc (Value.int IntKind.i64 (20 : Int))] []))
            (
            chk (decide ((0 : Int) ≤ y6) && decide (y6 < (↑y3 : Int))) <|
            intK (IntKind.i64) (List.getD y4 (Int.toNat y6 * (2 : Nat) + (1 : Nat)) PV.top) fun x111 =>
            brK (x111 == (5 : Int))
             (
             some (Res.mk [PV.agg [PV.sc (Value.bool false), PV.sc (Value.bool false), PV.sc (Value.int IntKind.i64 (0 : Int))], PV.sc (Value.int IntKind.i64 (21 : Int))] []))
             (
             shareK (IntKind.wrap IntKind.i64 (y6 + (1 : Int))) fun x112 =>
             passkeyref10_Await_L1 fu call a0 a1 a2 a3n a3 m0 (nn) (y0) (y1) (y2) (y3) (y4) (y5) (x112) (y7) (y8) (y9)))))
          (
          chk (decide ((0 : Int) ≤ y6) && decide (y6 < (↑y3 : Int))) <|
          intK (IntKind.i64) (List.getD y4 (Int.toNat y6 * (2 : Nat) + (1 : Nat)) PV.top) fun x113 =>
          brK (x113 == (4 : Int))
           (
           some (Res.mk [PV.agg [PV.sc (Value.bool false), PV.sc (Value.bool false), PV.sc (Value.int IntKind.i64 (0 : Int))], PV.sc (Value.int IntKind.i64 (20 : Int))] []))
           (
           chk (decide ((0 : Int) ≤ y6) && decide (y6 < (↑y3 : Int))) <|
           intK (IntKind.i64) (List.getD y4 (Int.toNat y6 * (2 : Nat) + (1 : Nat)) PV.top) fun x114 =>
           brK (x114 == (5 : Int))
            (
            some (Res.mk [PV.agg [PV.sc (Value.bool false), PV.sc (Value.bool false), PV.sc (Value.int IntKind.i64 (0 : Int))], PV.sc (Value.int IntKind.i64 (21 : Int))] []))
            (
            shareK (IntKind.wrap IntKind.i64 (y6 + (1 : Int))) fun x115 =>
            passkeyref10_Await_L1 fu call a0 a1 a2 a3n a3 m0 (nn) (y0) (y1) (y2) (y3) (y4) (y5) (x115) (y7) (y8) (y9)))))))
       (
       chk (decide ((0 : Int) ≤ y6) && decide (y6 < (↑y3 : Int))) <|
       intK (IntKind.i64) (List.getD y4 (Int.toNat y6 * (2 : Nat) + (1 : Nat)) PV.top) fun x116 =>
       brK (x116 == (2 : Int))
        (
        brK (y1)
         (
         some (Res.mk [PV.agg [PV.sc (Value.bool true), PV.sc (Value.bool true), PV.sc (Value.int IntKind.i64 y5)], PV.sc (Value.int IntKind.i64 (0 : Int))] []))
         (
         chk (decide ((0 : Int) ≤ y6) && decide (y6 < (↑y3 : Int))) <|
         intK (IntKind.i64) (List.getD y4 (Int.toNat y6 * (2 : Nat) + (1 : Nat)) PV.top) fun x117 =>
         brK (x117 == (3 : Int))
          (
          brK (y2)
           (
           some (Res.mk [PV.agg [PV.sc (Value.bool false), PV.sc (Value.bool false), PV.sc (Value.int IntKind.i64 (0 : Int))], PV.sc (Value.int IntKind.i64 (20 : Int))] []))
           (
           chk (decide ((0 : Int) ≤ y6) && decide (y6 < (↑y3 : Int))) <|
           intK (IntKind.i64) (List.getD y4 (Int.toNat y6 * (2 : Nat) + (1 : Nat)) PV.top) fun x118 =>
           brK (x118 == (4 : Int))
            (
            some (Res.mk [PV.agg [PV.sc (Value.bool false), PV.sc (Value.bool false), PV.sc (Value.int IntKind.i64 (0 : Int))], PV.sc (Value.int IntKind.i64 (20 : Int))] []))
            (
            chk (decide ((0 : Int) ≤ y6) && decide (y6 < (↑y3 : Int))) <|
            intK (IntKind.i64) (List.getD y4 (Int.toNat y6 * (2 : Nat) + (1 : Nat)) PV.top) fun x119 =>
            brK (x119 == (5 : Int))
             (
             some (Res.mk [PV.agg [PV.sc (Value.bool false), PV.sc (Value.bool false), PV.sc (Value.int IntKind.i64 (0 : Int))], PV.sc (Value.int IntKind.i64 (21 : Int))] []))
             (
             shareK (IntKind.wrap IntKind.i64 (y6 + (1 : Int))) fun x120 =>
             passkeyref10_Await_L1 fu call a0 a1 a2 a3n a3 m0 (nn) (y0) (y1) (y2) (y3) (y4) (y5) (x120) (y7) (y8) (y9)))))
          (
          chk (decide ((0 : Int) ≤ y6) && decide (y6 < (↑y3 : Int))) <|
          intK (IntKind.i64) (List.getD y4 (Int.toNat y6 * (2 : Nat) + (1 : Nat)) PV.top) fun x121 =>
          brK (x121 == (4 : Int))
           (
           some (Res.mk [PV.agg [PV.sc (Value.bool false), PV.sc (Value.bool false), PV.sc (Value.int IntKind.i64 (0 : Int))], PV.sc (Value.int IntKind.i64 (20 : Int))] []))
           (
           chk (decide ((0 : Int) ≤ y6) && decide (y6 < (↑y3 : Int))) <|
           intK (IntKind.i64) (List.getD y4 (Int.toNat y6 * (2 : Nat) + (1 : Nat)) PV.top) fun x122 =>
           brK (x122 == (5 : Int))
            (
            some (Res.mk [PV.agg [PV.sc (Value.bool false), PV.sc (Value.bool false), PV.sc (Value.int IntKind.i64 (0 : Int))], PV.sc (Value.int IntKind.i64 (21 : Int))] []))
            (
            shareK (IntKind.wrap IntKind.i64 (y6 + (1 : Int))) fun x123 =>
            passkeyref10_Await_L1 fu call a0 a1 a2 a3n a3 m0 (nn) (y0) (y1) (y2) (y3) (y4) (y5) (x123) (y7) (y8) (y9))))))
        (
        chk (decide ((0 : Int) ≤ y6) && decide (y6 < (↑y3 : Int))) <|
        intK (IntKind.i64) (List.getD y4 (Int.toNat y6 * (2 : Nat) + (1 : Nat)) PV.top) fun x124 =>
        brK (x124 == (3 : Int))
         (
         brK (y2)
          (
          some (Res.mk [PV.agg [PV.sc (Value.bool false), PV.sc (Value.bool false), PV.sc (Value.int IntKind.i64 (0 : Int))], PV.sc (Value.int IntKind.i64 (20 : Int))] []))
          (
          chk (decide ((0 : Int) ≤ y6) && decide (y6 < (↑y3 : Int))) <|
          intK (IntKind.i64) (List.getD y4 (Int.toNat y6 * (2 : Nat) + (1 : Nat)) PV.top) fun x125 =>
          brK (x125 == (4 : Int))
           (
           some (Res.mk [PV.agg [PV.sc (Value.bool false), PV.sc (Value.bool false), PV.sc (Value.int IntKind.i64 (0 : Int))], PV.sc (Value.int IntKind.i64 (20 : Int))] []))
           (
           chk (decide ((0 : Int) ≤ y6) && decide (y6 < (↑y3 : Int))) <|
           intK (IntKind.i64) (List.getD y4 (Int.toNat y6 * (2 : Nat) + (1 : Nat)) PV.top) fun x126 =>
           brK (x126 == (5 : Int))
            (
            some (Res.mk [PV.agg [PV.sc (Value.bool false), PV.sc (Value.bool false), PV.sc (Value.int IntKind.i64 (0 : Int))], PV.sc (Value.int IntKind.i64 (21 : Int))] []))
            (
            shareK (IntKind.wrap IntKind.i64 (y6 + (1 : Int))) fun x127 =>
            passkeyref10_Await_L1 fu call a0 a1 a2 a3n a3 m0 (nn) (y0) (y1) (y2) (y3) (y4) (y5) (x127) (y7) (y8) (y9)))))
         (
         chk (decide ((0 : Int) ≤ y6) && decide (y6 < (↑y3 : Int))) <|
         intK (IntKind.i64) (List.getD y4 (Int.toNat y6 * (2 : Nat) + (1 : Nat)) PV.top) fun x128 =>
         brK (x128 == (4 : Int))
          (
          some (Res.mk [PV.agg [PV.sc (Value.bool false), PV.sc (Value.bool false), PV.sc (Value.int IntKind.i64 (0 : Int))], PV.sc (Value.int IntKind.i64 (20 : Int))] []))
          (
          chk (decide ((0 : Int) ≤ y6) && decide (y6 < (↑y3 : Int))) <|
          intK (IntKind.i64) (List.getD y4 (Int.toNat y6 * (2 : Nat) + (1 : Nat)) PV.top) fun x129 =>
          brK (x129 == (5 : Int))
           (
           some (Res.mk [PV.agg [PV.sc (Value.bool false), PV.sc (Value.bool false), PV.sc (Value.int IntKind.i64 (0 : Int))], PV.sc (Value.int IntKind.i64 (21 : Int))] []))
           (
           shareK (IntKind.wrap IntKind.i64 (y6 + (1 : Int))) fun x130 =>
           passkeyref10_Await_L1 fu call a0 a1 a2 a3n a3 m0 (nn) (y0) (y1) (y2) (y3) (y4) (y5) (x130) (y7) (y8) (y9))))))))))
   (
   shareK (IntKind.wrap IntKind.i64 (y5 + (1 : Int))) fun x131 =>
   passkeyref10_Await_L0 fu call a0 a1 a2 a3n a3 (m0) (y0) (y1) (y2) (y3) (y4) (x131) (y7) (y8) (y9)) := by kernel_rfl

theorem passkeyref10_Await_e (fu d : Nat) (a0 : Int) (a1 : Bool) (a2 : Bool) (a3n : Nat) (a3 : List PV) : pcall C0 Try.prog fu (d + 1) F_passkeyref10_Await [PV.sc (Value.int IntKind.i64 a0), PV.sc (Value.bool a1), PV.sc (Value.bool a2), PV.lst false (2 : Nat) a3n a3] = (fun (call : Call') =>
  brK (decide (a0 < (0 : Int)))
   (
   some (Res.mk [PV.agg [PV.sc (Value.bool false), PV.sc (Value.bool false), PV.sc (Value.int IntKind.i64 (0 : Int))], PV.sc (Value.int IntKind.i64 (9 : Int))] []))
   (
   brK (decide (a0 > (1099511627776 : Int)))
    (
    some (Res.mk [PV.agg [PV.sc (Value.bool false), PV.sc (Value.bool false), PV.sc (Value.int IntKind.i64 (0 : Int))], PV.sc (Value.int IntKind.i64 (9 : Int))] []))
    (
    brK (a2)
     (
     brK (!a1)
      (
      some (Res.mk [PV.agg [PV.sc (Value.bool false), PV.sc (Value.bool false), PV.sc (Value.int IntKind.i64 (0 : Int))], PV.sc (Value.int IntKind.i64 (23 : Int))] []))
      (
      shareK (IntKind.wrap IntKind.i64 (a0 + (1 : Int))) fun x1 =>
      passkeyref10_Await_L0 fu call a0 a1 a2 a3n a3 (fu) (a0) (a1) (a2) (a3n) (a3) (x1) (false) (false) ((0 : Int))))
     (
     shareK (IntKind.wrap IntKind.i64 (a0 + (1 : Int))) fun x2 =>
     passkeyref10_Await_L0 fu call a0 a1 a2 a3n a3 (fu) (a0) (a1) (a2) (a3n) (a3) (x2) (false) (false) ((0 : Int)))))) (pcall C0 Try.prog fu d) := by kernel_rfl

abbrev F_passkeylaw13_made : FuncId := 10
noncomputable def passkeylaw13_made_L0 (fu : Nat) (call : Call') (a0 : Int) (a1n : Nat) (a1 : List PV)  (nn : Nat) (y0 : Int) (y1 : Nat) (y2 : List PV) (y3 : Nat) (y4 : Int) (y5 : List PV) : Option Res :=
  floop C0 Try.prog fu call 10 Try.f10 (bodyOf Try.f10) [PV.sc (Value.int IntKind.i64 a0), PV.lst false (1 : Nat) a1n a1] [.r, .r, .l, .r, .l] nn ⟨lk [(0, (.sc (.int .i64 y0))), (1, (.lst false 1 y1 y2)), (5, (.view 5 2 0 y3)), (6, (.sc (.int .i64 y4)))], lkh [(5, (.ar false y5))]⟩

theorem passkeylaw13_made_L0_s (fu : Nat) (call : Call') (a0 : Int) (a1n : Nat) (a1 : List PV)  (nn : Nat) (y0 : Int) (y1 : Nat) (y2 : List PV) (y3 : Nat) (y4 : Int) (y5 : List PV) : passkeylaw13_made_L0 fu call a0 a1n a1  (nn + 1) y0 y1 y2 y3 y4 y5 =
  brK (decide (y4 < (↑y1 : Int)))
   (
   brK (decide (y4 < (8 : Int)))
    (
    chk (decide ((0 : Int) ≤ y4) && decide (y4 < (↑y1 : Int))) <|
    intK (IntKind.u16) (List.getD y2 (Int.toNat y4 * (1 : Nat)) PV.top) fun x1 =>
    shareK (iand IntKind.u16 x1 (63 : Int)) fun x2 =>
    shareK (IntKind.wrap IntKind.i64 x2) fun x3 =>
    shareK (IntKind.wrap IntKind.i64 (y0 + x3)) fun x4 =>
    shareK (IntKind.wrap IntKind.i64 (x4 - (10 : Int))) fun x5 =>
    chk (decide ((0 : Int) ≤ y4) && decide (y4 < (↑y1 : Int))) <|
    intK (IntKind.u16) (List.getD y2 (Int.toNat y4 * (1 : Nat)) PV.top) fun x6 =>
    shareK (ishr IntKind.u16 x6 (6 : Int)) fun x7 =>
    shareK (iand IntKind.u16 x7 (15 : Int)) fun x8 =>
    shareK (IntKind.wrap IntKind.i64 x8) fun x9 =>
    shareK (IntKind.wrap IntKind.i64 (x9 - (1 : Int))) fun x10 =>
    chk (decide (y3 * (2 : Nat) ≤ List.length y5) && true && decide ((y3 + (1 : Nat)) * (16 : Nat) ≤ (1099511627776 : Nat)) && decide (y3 + (1 : Nat) ≤ (1099511627776 : Nat))) <|
    shareK (y3 + (1 : Nat)) fun x11 =>
    shareK (List.take (y3 * (2 : Nat)) y5 ++ [PV.sc (Value.int IntKind.i64 x5), PV.sc (Value.int IntKind.i64 x10)]) fun x12 =>
    shareK (IntKind.wrap IntKind.i64 (y4 + (1 : Int))) fun x13 =>
    passkeylaw13_made_L0 fu call a0 a1n a1 (nn) (y0) (y1) (y2) (x11) (x13) (x12))
    (
    chk (decide (y3 * (2 : Nat) ≤ List.length y5)) <|
    some (Res.mk [PV.own (2 : Nat) y3 (List.take (y3 * (2 : Nat)) y5)] [])))
   (
   chk (decide (y3 * (2 : Nat) ≤ List.length y5)) <|
   some (Res.mk [PV.own (2 : Nat) y3 (List.take (y3 * (2 : Nat)) y5)] [])) := by kernel_rfl

theorem passkeylaw13_made_e (fu d : Nat) (a0 : Int) (a1n : Nat) (a1 : List PV) : pcall C0 Try.prog fu (d + 1) F_passkeylaw13_made [PV.sc (Value.int IntKind.i64 a0), PV.lst false (1 : Nat) a1n a1] = (fun (call : Call') =>
  passkeylaw13_made_L0 fu call a0 a1n a1 (fu) (a0) (a1n) (a1) ((0 : Nat)) ((0 : Int)) ([])) (pcall C0 Try.prog fu d) := by kernel_rfl

abbrev F_passkeylaw13_awake : FuncId := 7
theorem passkeylaw13_awake_e (fu d : Nat)  : pcall C0 Try.prog fu (d + 1) F_passkeylaw13_awake [] = (fun (call : Call') =>
  callK (call (8 : Nat) [PV.sc (Value.int IntKind.i64 (10 : Int)), PV.sc (Value.bool false), PV.sc (Value.bool false), PV.lst false (2 : Nat) (1 : Nat) [PV.sc (Value.int IntKind.i64 (10 : Int)), PV.sc (Value.int IntKind.i64 (1 : Int))]]) fun x1 x2 =>
  nilK (x2) <|
  consK (x1) fun x3 x4 =>
  aggK (x3) fun x5 =>
  consK (x5) fun x6 x7 =>
  boolK (x6) fun x8 =>
  consK (x7) fun x9 x10 =>
  boolK (x9) fun x11 =>
  consK (x10) fun x12 x13 =>
  intK (IntKind.i64) (x12) fun x14 =>
  nilK (x13) <|
  consK (x4) fun x15 x16 =>
  intK (IntKind.i64) (x15) fun x17 =>
  nilK (x16) <|
  callK (call (8 : Nat) [PV.sc (Value.int IntKind.i64 (10 : Int)), PV.sc (Value.bool false), PV.sc (Value.bool false), PV.lst false (2 : Nat) (1 : Nat) [PV.sc (Value.int IntKind.i64 (11 : Int)), PV.sc (Value.int IntKind.i64 (1 : Int))]]) fun x18 x19 =>
  nilK (x19) <|
  consK (x18) fun x20 x21 =>
  aggK (x20) fun x22 =>
  consK (x22) fun x23 x24 =>
  boolK (x23) fun x25 =>
  consK (x24) fun x26 x27 =>
  boolK (x26) fun x28 =>
  consK (x27) fun x29 x30 =>
  intK (IntKind.i64) (x29) fun x31 =>
  nilK (x30) <|
  consK (x21) fun x32 x33 =>
  intK (IntKind.i64) (x32) fun x34 =>
  nilK (x33) <|
  callK (call (8 : Nat) [PV.sc (Value.int IntKind.i64 (10 : Int)), PV.sc (Value.bool false), PV.sc (Value.bool true), PV.lst false (2 : Nat) (0 : Nat) []]) fun x35 x36 =>
  nilK (x36) <|
  consK (x35) fun x37 x38 =>
  aggK (x37) fun x39 =>
  consK (x39) fun x40 x41 =>
  boolK (x40) fun x42 =>
  consK (x41) fun x43 x44 =>
  boolK (x43) fun x45 =>
  consK (x44) fun x46 x47 =>
  intK (IntKind.i64) (x46) fun x48 =>
  nilK (x47) <|
  consK (x38) fun x49 x50 =>
  intK (IntKind.i64) (x49) fun x51 =>
  nilK (x50) <|
  brK (x17 == (19 : Int))
   (
   brK (x34 == (0 : Int))
    (
    brK (x51 == (23 : Int))
     (
     some (Res.mk [PV.sc (Value.bool (x25 == true && (x28 == false && (x31 == (11 : Int) && true))))] []))
     (
     some (Res.mk [PV.sc (Value.bool false)] [])))
    (
    some (Res.mk [PV.sc (Value.bool false)] [])))
   (
   some (Res.mk [PV.sc (Value.bool false)] []))) (pcall C0 Try.prog fu d) := by kernel_rfl

abbrev F_passkeylaw13_ConsentAwaits : FuncId := 3
theorem passkeylaw13_ConsentAwaits_e (fu d : Nat) (a0 : Int) (a1 : Bool) (a2 : Bool) (a3n : Nat) (a3 : List PV) (a4n : Nat) (a4 : List PV) (a5 : Int) : pcall C0 Try.prog fu (d + 1) F_passkeylaw13_ConsentAwaits [PV.sc (Value.int IntKind.i64 a0), PV.sc (Value.bool a1), PV.sc (Value.bool a2), PV.lst false (2 : Nat) a3n a3, PV.lst false (1 : Nat) a4n a4, PV.sc (Value.int IntKind.u16 a5)] = (fun (call : Call') =>
  brK (decide ((↑a3n : Int) > (50 : Int)))
   (
   callK (call (7 : Nat) []) fun x1 x2 =>
   nilK (x2) <|
   consK (x1) fun x3 x4 =>
   boolK (x3) fun x5 =>
   nilK (x4) <|
   some (Res.mk [PV.sc (Value.bool x5)] []))
   (
   shareK (IntKind.wrap IntKind.i64 a5) fun x6 =>
   shareK (ishr IntKind.u16 a5 (12 : Int)) fun x7 =>
   shareK (iand IntKind.u16 x7 (3 : Int)) fun x8 =>
   chk (decide ((0 : Int) ≤ x8) && decide (x8 < (4 : Int))) <|
   intK (IntKind.i64) (List.getD [PV.sc (Value.int IntKind.i64 x6), PV.sc (Value.int IntKind.i64 (0 : Int)), PV.sc (Value.int IntKind.i64 (1099511627776 : Int)), PV.sc (Value.int IntKind.i64 (1099511627771 : Int))] ((0 : Nat) + Int.toNat x8 * (1 : Nat)) PV.top) fun x9 =>
   callK (call (8 : Nat) [PV.sc (Value.int IntKind.i64 a0), PV.sc (Value.bool a1), PV.sc (Value.bool a2), PV.lst false (2 : Nat) a3n a3]) fun x10 x11 =>
   nilK (x11) <|
   consK (x10) fun x12 x13 =>
   aggK (x12) fun x14 =>
   consK (x14) fun x15 x16 =>
   boolK (x15) fun x17 =>
   consK (x16) fun x18 x19 =>
   boolK (x18) fun x20 =>
   consK (x19) fun x21 x22 =>
   intK (IntKind.i64) (x21) fun x23 =>
   nilK (x22) <|
   consK (x13) fun x24 x25 =>
   intK (IntKind.i64) (x24) fun x26 =>
   nilK (x25) <|
   callK (call (9 : Nat) [PV.sc (Value.int IntKind.i64 a0), PV.sc (Value.bool a1), PV.sc (Value.bool a2), PV.lst false (2 : Nat) a3n a3]) fun x27 x28 =>
   nilK (x28) <|
   consK (x27) fun x29 x30 =>
   aggK (x29) fun x31 =>
   consK (x31) fun x32 x33 =>
   boolK (x32) fun x34 =>
   consK (x33) fun x35 x36 =>
   boolK (x35) fun x37 =>
   consK (x36) fun x38 x39 =>
   intK (IntKind.i64) (x38) fun x40 =>
   nilK (x39) <|
   consK (x30) fun x41 x42 =>
   intK (IntKind.i64) (x41) fun x43 =>
   nilK (x42) <|
   callK (call (10 : Nat) [PV.sc (Value.int IntKind.i64 x9), PV.lst false (1 : Nat) a4n a4]) fun x44 x45 =>
   nilK (x45) <|
   consK (x44) fun x46 x47 =>
   owK ((2 : Nat)) (x46) fun x48 x49 =>
   nilK (x47) <|
   chk (decide ((0 : Nat) + x48 * (2 : Nat) ≤ List.length x49)) <|
   callK (call (8 : Nat) [PV.sc (Value.int IntKind.i64 x9), PV.sc (Value.bool a1), PV.sc (Value.bool a2), PV.lst false (2 : Nat) x48 (List.take (x48 * (2 : Nat)) (List.drop (0 : Nat) x49))]) fun x50 x51 =>
   nilK (x51) <|
   consK (x50) fun x52 x53 =>
   aggK (x52) fun x54 =>
   consK (x54) fun x55 x56 =>
   boolK (x55) fun x57 =>
   consK (x56) fun x58 x59 =>
   boolK (x58) fun x60 =>
   consK (x59) fun x61 x62 =>
   intK (IntKind.i64) (x61) fun x63 =>
   nilK (x62) <|
   consK (x53) fun x64 x65 =>
   intK (IntKind.i64) (x64) fun x66 =>
   nilK (x65) <|
   callK (call (10 : Nat) [PV.sc (Value.int IntKind.i64 x9), PV.lst false (1 : Nat) a4n a4]) fun x67 x68 =>
   nilK (x68) <|
   consK (x67) fun x69 x70 =>
   owK ((2 : Nat)) (x69) fun x71 x72 =>
   nilK (x70) <|
   chk (decide ((0 : Nat) + x71 * (2 : Nat) ≤ List.length x72)) <|
   callK (call (9 : Nat) [PV.sc (Value.int IntKind.i64 x9), PV.sc (Value.bool a1), PV.sc (Value.bool a2), PV.lst false (2 : Nat) x71 (List.take (x71 * (2 : Nat)) (List.drop (0 : Nat) x72))]) fun x73 x74 =>
   nilK (x74) <|
   consK (x73) fun x75 x76 =>
   aggK (x75) fun x77 =>
   consK (x77) fun x78 x79 =>
   boolK (x78) fun x80 =>
   consK (x79) fun x81 x82 =>
   boolK (x81) fun x83 =>
   consK (x82) fun x84 x85 =>
   intK (IntKind.i64) (x84) fun x86 =>
   nilK (x85) <|
   consK (x76) fun x87 x88 =>
   intK (IntKind.i64) (x87) fun x89 =>
   nilK (x88) <|
   brK (x17 == x34 && (x20 == x37 && (x23 == x40 && true)))
    (
    brK (x26 == x43)
     (
     brK (x57 == x80 && (x60 == x83 && (x63 == x86 && true)))
      (
      brK (x66 == x89)
       (
       callK (call (7 : Nat) []) fun x90 x91 =>
       nilK (x91) <|
       consK (x90) fun x92 x93 =>
       boolK (x92) fun x94 =>
       nilK (x93) <|
       some (Res.mk [PV.sc (Value.bool x94)] []))
       (
       some (Res.mk [PV.sc (Value.bool false)] [])))
      (
      some (Res.mk [PV.sc (Value.bool false)] [])))
     (
     some (Res.mk [PV.sc (Value.bool false)] [])))
    (
    some (Res.mk [PV.sc (Value.bool false)] [])))) (pcall C0 Try.prog fu d) := by kernel_rfl

abbrev F_passkeylaw13_ConsentOrder : FuncId := 4
noncomputable def passkeylaw13_ConsentOrder_L0 (fu : Nat) (call : Call') (a0 : Int) (a1 : Bool) (a2 : Bool) (a3n : Nat) (a3 : List PV)  (nn : Nat) (y0 : Int) (y1 : Bool) (y2 : Bool) (y3 : Nat) (y4 : List PV) (y5 : Nat) (y6 : Nat) (y7 : Int) (y8 : List PV) (y9 : List PV) : Option Res :=
  floop C0 Try.prog fu call 4 Try.f4 (bodyOf Try.f4) [PV.sc (Value.int IntKind.u16 a0), PV.sc (Value.bool a1), PV.sc (Value.bool a2), PV.lst false (1 : Nat) a3n a3] [.r, .r, .l, .r, .l] nn ⟨lk [(0, (.sc (.int .u16 y0))), (1, (.sc (.bool y1))), (2, (.sc (.bool y2))), (3, (.lst false 1 y3 y4)), (9, (.view 9 2 0 y5)), (10, (.view 10 2 0 y6)), (11, (.sc (.int .i64 y7)))], lkh [(9, (.ar false y8)), (10, (.ar false y9))]⟩

theorem passkeylaw13_ConsentOrder_L0_s (fu : Nat) (call : Call') (a0 : Int) (a1 : Bool) (a2 : Bool) (a3n : Nat) (a3 : List PV)  (nn : Nat) (y0 : Int) (y1 : Bool) (y2 : Bool) (y3 : Nat) (y4 : List PV) (y5 : Nat) (y6 : Nat) (y7 : Int) (y8 : List PV) (y9 : List PV) : passkeylaw13_ConsentOrder_L0 fu call a0 a1 a2 a3n a3  (nn + 1) y0 y1 y2 y3 y4 y5 y6 y7 y8 y9 =
  brK (decide (y7 < (↑y3 : Int)))
   (
   brK (decide (y7 < (8 : Int)))
    (
    shareK (IntKind.wrap IntKind.i64 y0) fun x1 =>
    shareK (IntKind.wrap IntKind.i64 (y7 + (1 : Int))) fun x2 =>
    shareK (IntKind.wrap IntKind.i64 ((4 : Int) * x2)) fun x3 =>
    shareK (IntKind.wrap IntKind.i64 (x1 + x3)) fun x4 =>
    chk (decide ((0 : Int) ≤ y7) && decide (y7 < (↑y3 : Int))) <|
    intK (IntKind.u16) (List.getD y4 (Int.toNat y7 * (1 : Nat)) PV.top) fun x5 =>
    shareK (Int.tmod x5 (7 : Int)) fun x6 =>
    shareK (IntKind.wrap IntKind.i64 x6) fun x7 =>
    chk (decide (y5 * (2 : Nat) ≤ List.length y8) && true && decide ((y5 + (1 : Nat)) * (16 : Nat) ≤ (1099511627776 : Nat)) && decide (y5 + (1 : Nat) ≤ (1099511627776 : Nat))) <|
    shareK (y5 + (1 : Nat)) fun x8 =>
    shareK (List.take (y5 * (2 : Nat)) y8 ++ [PV.sc (Value.int IntKind.i64 x4), PV.sc (Value.int IntKind.i64 x7)]) fun x9 =>
    chk (decide ((0 : Nat) + y6 * (2 : Nat) ≤ List.length y9)) <|
    chk (decide (List.length (List.take (y6 * (2 : Nat)) (List.drop (0 : Nat) y9)) = y6 * (2 : Nat)) && decide (((1 : Nat) + y6) * (16 : Nat) ≤ (1099511627776 : Nat)) && decide ((1 : Nat) + y6 ≤ (1099511627776 : Nat))) <|
    shareK ((1 : Nat) + y6) fun x10 =>
    shareK (PV.sc (Value.int IntKind.i64 x4) :: PV.sc (Value.int IntKind.i64 x7) :: List.append [] (List.take (y6 * (2 : Nat)) (List.drop (0 : Nat) y9))) fun x11 =>
    shareK (IntKind.wrap IntKind.i64 (y7 + (1 : Int))) fun x12 =>
    passkeylaw13_ConsentOrder_L0 fu call a0 a1 a2 a3n a3 (nn) (y0) (y1) (y2) (y3) (y4) (x8) (x10) (x12) (x9) (x11))
    (
    shareK (IntKind.wrap IntKind.i64 y0) fun x13 =>
    chk (decide ((0 : Nat) + y5 * (2 : Nat) ≤ List.length y8)) <|
    callK (call (8 : Nat) [PV.sc (Value.int IntKind.i64 x13), PV.sc (Value.bool y1), PV.sc (Value.bool y2), PV.lst false (2 : Nat) y5 (List.take (y5 * (2 : Nat)) (List.drop (0 : Nat) y8))]) fun x14 x15 =>
    nilK (x15) <|
    consK (x14) fun x16 x17 =>
    aggK (x16) fun x18 =>
    consK (x18) fun x19 x20 =>
    boolK (x19) fun x21 =>
    consK (x20) fun x22 x23 =>
    boolK (x22) fun x24 =>
    consK (x23) fun x25 x26 =>
    intK (IntKind.i64) (x25) fun x27 =>
    nilK (x26) <|
    consK (x17) fun x28 x29 =>
    intK (IntKind.i64) (x28) fun x30 =>
    nilK (x29) <|
    shareK (IntKind.wrap IntKind.i64 y0) fun x31 =>
    chk (decide ((0 : Nat) + y6 * (2 : Nat) ≤ List.length y9)) <|
    callK (call (8 : Nat) [PV.sc (Value.int IntKind.i64 x31), PV.sc (Value.bool y1), PV.sc (Value.bool y2), PV.lst false (2 : Nat) y6 (List.take (y6 * (2 : Nat)) (List.drop (0 : Nat) y9))]) fun x32 x33 =>
    nilK (x33) <|
    consK (x32) fun x34 x35 =>
    aggK (x34) fun x36 =>
    consK (x36) fun x37 x38 =>
    boolK (x37) fun x39 =>
    consK (x38) fun x40 x41 =>
    boolK (x40) fun x42 =>
    consK (x41) fun x43 x44 =>
    intK (IntKind.i64) (x43) fun x45 =>
    nilK (x44) <|
    consK (x35) fun x46 x47 =>
    intK (IntKind.i64) (x46) fun x48 =>
    nilK (x47) <|
    brK (x21 == x39 && (x24 == x42 && (x27 == x45 && true)))
     (
     brK (x30 == x48)
      (
      callK (call (7 : Nat) []) fun x49 x50 =>
      nilK (x50) <|
      consK (x49) fun x51 x52 =>
      boolK (x51) fun x53 =>
      nilK (x52) <|
      some (Res.mk [PV.sc (Value.bool x53)] []))
      (
      some (Res.mk [PV.sc (Value.bool false)] [])))
     (
     some (Res.mk [PV.sc (Value.bool false)] []))))
   (
   shareK (IntKind.wrap IntKind.i64 y0) fun x54 =>
   chk (decide ((0 : Nat) + y5 * (2 : Nat) ≤ List.length y8)) <|
   callK (call (8 : Nat) [PV.sc (Value.int IntKind.i64 x54), PV.sc (Value.bool y1), PV.sc (Value.bool y2), PV.lst false (2 : Nat) y5 (List.take (y5 * (2 : Nat)) (List.drop (0 : Nat) y8))]) fun x55 x56 =>
   nilK (x56) <|
   consK (x55) fun x57 x58 =>
   aggK (x57) fun x59 =>
   consK (x59) fun x60 x61 =>
   boolK (x60) fun x62 =>
   consK (x61) fun x63 x64 =>
   boolK (x63) fun x65 =>
   consK (x64) fun x66 x67 =>
   intK (IntKind.i64) (x66) fun x68 =>
   nilK (x67) <|
   consK (x58) fun x69 x70 =>
   intK (IntKind.i64) (x69) fun x71 =>
   nilK (x70) <|
   shareK (IntKind.wrap IntKind.i64 y0) fun x72 =>
   chk (decide ((0 : Nat) + y6 * (2 : Nat) ≤ List.length y9)) <|
   callK (call (8 : Nat) [PV.sc (Value.int IntKind.i64 x72), PV.sc (Value.bool y1), PV.sc (Value.bool y2), PV.lst false (2 : Nat) y6 (List.take (y6 * (2 : Nat)) (List.drop (0 : Nat) y9))]) fun x73 x74 =>
   nilK (x74) <|
   consK (x73) fun x75 x76 =>
   aggK (x75) fun x77 =>
   consK (x77) fun x78 x79 =>
   boolK (x78) fun x80 =>
   consK (x79) fun x81 x82 =>
   boolK (x81) fun x83 =>
   consK (x82) fun x84 x85 =>
   intK (IntKind.i64) (x84) fun x86 =>
   nilK (x85) <|
   consK (x76) fun x87 x88 =>
   intK (IntKind.i64) (x87) fun x89 =>
   nilK (x88) <|
   brK (x62 == x80 && (x65 == x83 && (x68 == x86 && true)))
    (
    brK (x71 == x89)
     (
     callK (call (7 : Nat) []) fun x90 x91 =>
     nilK (x91) <|
     consK (x90) fun x92 x93 =>
     boolK (x92) fun x94 =>
     nilK (x93) <|
     some (Res.mk [PV.sc (Value.bool x94)] []))
     (
     some (Res.mk [PV.sc (Value.bool false)] [])))
    (
    some (Res.mk [PV.sc (Value.bool false)] []))) := by kernel_rfl

theorem passkeylaw13_ConsentOrder_e (fu d : Nat) (a0 : Int) (a1 : Bool) (a2 : Bool) (a3n : Nat) (a3 : List PV) : pcall C0 Try.prog fu (d + 1) F_passkeylaw13_ConsentOrder [PV.sc (Value.int IntKind.u16 a0), PV.sc (Value.bool a1), PV.sc (Value.bool a2), PV.lst false (1 : Nat) a3n a3] = (fun (call : Call') =>
  passkeylaw13_ConsentOrder_L0 fu call a0 a1 a2 a3n a3 (fu) (a0) (a1) (a2) (a3n) (a3) ((0 : Nat)) ((0 : Nat)) ((0 : Int)) ([]) ([])) (pcall C0 Try.prog fu d) := by kernel_rfl

abbrev F_passkeylaw13_ConsentWindow : FuncId := 5
noncomputable def passkeylaw13_ConsentWindow_L0 (fu : Nat) (call : Call') (a0 : Int) (a1 : Bool) (a2 : Bool) (a3n : Nat) (a3 : List PV) (a4n : Nat) (a4 : List PV)  (nn : Nat) (y0 : Int) (y1 : Bool) (y2 : Bool) (y3 : Nat) (y4 : List PV) (y5 : Nat) (y6 : Nat) (y7 : Int) (y8 : List PV) (y9 : List PV) : Option Res :=
  floop C0 Try.prog fu call 5 Try.f5 (bodyOf Try.f5) [PV.sc (Value.int IntKind.u16 a0), PV.sc (Value.bool a1), PV.sc (Value.bool a2), PV.lst false (1 : Nat) a3n a3, PV.lst false (1 : Nat) a4n a4] [.r, .r, .r, .l, .r, .l] nn ⟨lk [(0, (.sc (.int .u16 y0))), (1, (.sc (.bool y1))), (2, (.sc (.bool y2))), (4, (.lst false 1 y3 y4)), (11, (.view 11 2 0 y5)), (12, (.view 12 2 0 y6)), (13, (.sc (.int .i64 y7)))], lkh [(11, (.ar false y8)), (12, (.ar false y9))]⟩

theorem passkeylaw13_ConsentWindow_L0_s (fu : Nat) (call : Call') (a0 : Int) (a1 : Bool) (a2 : Bool) (a3n : Nat) (a3 : List PV) (a4n : Nat) (a4 : List PV)  (nn : Nat) (y0 : Int) (y1 : Bool) (y2 : Bool) (y3 : Nat) (y4 : List PV) (y5 : Nat) (y6 : Nat) (y7 : Int) (y8 : List PV) (y9 : List PV) : passkeylaw13_ConsentWindow_L0 fu call a0 a1 a2 a3n a3 a4n a4  (nn + 1) y0 y1 y2 y3 y4 y5 y6 y7 y8 y9 =
  brK (decide (y7 < (↑y3 : Int)))
   (
   brK (decide (y7 < (8 : Int)))
    (
    shareK (IntKind.wrap IntKind.i64 y0) fun x8 =>
    chk (decide ((0 : Int) ≤ y7) && decide (y7 < (↑y3 : Int))) <|
    intK (IntKind.u16) (List.getD y4 (Int.toNat y7 * (1 : Nat)) PV.top) fun x9 =>
    shareK (ishr IntKind.u16 x9 (4 : Int)) fun x10 =>
    shareK (iand IntKind.u16 x10 (63 : Int)) fun x11 =>
    shareK (IntKind.wrap IntKind.i64 x11) fun x12 =>
    shareK (IntKind.wrap IntKind.i64 (x8 - x12)) fun x13 =>
    chk (decide ((0 : Int) ≤ y7) && decide (y7 < (↑y3 : Int))) <|
    intK (IntKind.u16) (List.getD y4 (Int.toNat y7 * (1 : Nat)) PV.top) fun x14 =>
    shareK (Int.tmod x14 (7 : Int)) fun x15 =>
    shareK (IntKind.wrap IntKind.i64 x15) fun x16 =>
    chk (decide ((0 : Int) ≤ y7) && decide (y7 < (↑y3 : Int))) <|
    intK (IntKind.u16) (List.getD y4 (Int.toNat y7 * (1 : Nat)) PV.top) fun x17 =>
    shareK (ishr IntKind.u16 x17 (3 : Int)) fun x18 =>
    shareK (iand IntKind.u16 x18 (1 : Int)) fun x19 =>
    brK (x19 == (1 : Int))
     (
     shareK (IntKind.wrap IntKind.i64 y0) fun x20 =>
     shareK (IntKind.wrap IntKind.i64 (x20 + (30 : Int))) fun x21 =>
     shareK (IntKind.wrap IntKind.i64 (x21 + (1 : Int))) fun x22 =>
     chk (decide ((0 : Int) ≤ y7) && decide (y7 < (↑y3 : Int))) <|
     intK (IntKind.u16) (List.getD y4 (Int.toNat y7 * (1 : Nat)) PV.top) fun x23 =>
     shareK (ishr IntKind.u16 x23 (4 : Int)) fun x24 =>
     shareK (iand IntKind.u16 x24 (63 : Int)) fun x25 =>
     shareK (IntKind.wrap IntKind.i64 x25) fun x26 =>
     shareK (IntKind.wrap IntKind.i64 (x22 + x26)) fun x27 =>
     chk (decide ((0 : Nat) + y6 * (2 : Nat) ≤ List.length y9)) <|
     chk (decide (List.length (List.take (y6 * (2 : Nat)) (List.drop (0 : Nat) y9)) = y6 * (2 : Nat)) && decide (((1 : Nat) + y6) * (16 : Nat) ≤ (1099511627776 : Nat)) && decide ((1 : Nat) + y6 ≤ (1099511627776 : Nat))) <|
     shareK ((1 : Nat) + y6) fun x28 =>
     shareK (PV.sc (Value.int IntKind.i64 x27) :: PV.sc (Value.int IntKind.i64 x16) :: List.append [] (List.take (y6 * (2 : Nat)) (List.drop (0 : Nat) y9))) fun x29 =>
     shareK (IntKind.wrap IntKind.i64 (y7 + (1 : Int))) fun x30 =>
     passkeylaw13_ConsentWindow_L0 fu call a0 a1 a2 a3n a3 a4n a4 (nn) (y0) (y1) (y2) (y3) (y4) (y5) (x28) (x30) (y8) (x29))
     (
     chk (decide ((0 : Nat) + y6 * (2 : Nat) ≤ List.length y9)) <|
     chk (decide (List.length (List.take (y6 * (2 : Nat)) (List.drop (0 : Nat) y9)) = y6 * (2 : Nat)) && decide (((1 : Nat) + y6) * (16 : Nat) ≤ (1099511627776 : Nat)) && decide ((1 : Nat) + y6 ≤ (1099511627776 : Nat))) <|
     shareK ((1 : Nat) + y6) fun x31 =>
     shareK (PV.sc (Value.int IntKind.i64 x13) :: PV.sc (Value.int IntKind.i64 x16) :: List.append [] (List.take (y6 * (2 : Nat)) (List.drop (0 : Nat) y9))) fun x32 =>
     shareK (IntKind.wrap IntKind.i64 (y7 + (1 : Int))) fun x33 =>
     passkeylaw13_ConsentWindow_L0 fu call a0 a1 a2 a3n a3 a4n a4 (nn) (y0) (y1) (y2) (y3) (y4) (y5) (x31) (x33) (y8) (x32)))
    (
    shareK (IntKind.wrap IntKind.i64 y0) fun x34 =>
    chk (decide ((0 : Nat) + y5 * (2 : Nat) ≤ List.length y8)) <|
    callK (call (8 : Nat) [PV.sc (Value.int IntKind.i64 x34), PV.sc (Value.bool y1), PV.sc (Value.bool y2), PV.lst false (2 : Nat) y5 (List.take (y5 * (2 : Nat)) (List.drop (0 : Nat) y8))]) fun x35 x36 =>
    nilK (x36) <|
    consK (x35) fun x37 x38 =>
    aggK (x37) fun x39 =>
    consK (x39) fun x40 x41 =>
    boolK (x40) fun x42 =>
    consK (x41) fun x43 x44 =>
    boolK (x43) fun x45 =>
    consK (x44) fun x46 x47 =>
    intK (IntKind.i64) (x46) fun x48 =>
    nilK (x47) <|
    consK (x38) fun x49 x50 =>
    intK (IntKind.i64) (x49) fun x51 =>
    nilK (x50) <|
    shareK (IntKind.wrap IntKind.i64 y0) fun x52 =>
    chk (decide ((0 : Nat) + y6 * (2 : Nat) ≤ List.length y9)) <|
    callK (call (8 : Nat) [PV.sc (Value.int IntKind.i64 x52), PV.sc (Value.bool y1), PV.sc (Value.bool y2), PV.lst false (2 : Nat) y6 (List.take (y6 * (2 : Nat)) (List.drop (0 : Nat) y9))]) fun x53 x54 =>
    nilK (x54) <|
    consK (x53) fun x55 x56 =>
    aggK (x55) fun x57 =>
    consK (x57) fun x58 x59 =>
    boolK (x58) fun x60 =>
    consK (x59) fun x61 x62 =>
    boolK (x61) fun x63 =>
    consK (x62) fun x64 x65 =>
    intK (IntKind.i64) (x64) fun x66 =>
    nilK (x65) <|
    consK (x56) fun x67 x68 =>
    intK (IntKind.i64) (x67) fun x69 =>
    nilK (x68) <|
    brK (x42 == x60 && (x45 == x63 && (x48 == x66 && true)))
     (
     brK (x51 == x69)
      (
      brK (x51 != (0 : Int))
       (
       callK (call (7 : Nat) []) fun x70 x71 =>
       nilK (x71) <|
       consK (x70) fun x72 x73 =>
       boolK (x72) fun x74 =>
       nilK (x73) <|
       some (Res.mk [PV.sc (Value.bool x74)] []))
       (
       brK (x42)
        (
        shareK (IntKind.wrap IntKind.i64 y0) fun x75 =>
        brK (decide (x48 > x75))
         (
         shareK (IntKind.wrap IntKind.i64 y0) fun x76 =>
         shareK (IntKind.wrap IntKind.i64 (x76 + (30 : Int))) fun x77 =>
         brK (decide (x48 ≤ x77))
          (
          callK (call (7 : Nat) []) fun x78 x79 =>
          nilK (x79) <|
          consK (x78) fun x80 x81 =>
          boolK (x80) fun x82 =>
          nilK (x81) <|
          some (Res.mk [PV.sc (Value.bool x82)] []))
          (
          some (Res.mk [PV.sc (Value.bool false)] [])))
         (
         some (Res.mk [PV.sc (Value.bool false)] [])))
        (
        some (Res.mk [PV.sc (Value.bool false)] []))))
      (
      some (Res.mk [PV.sc (Value.bool false)] [])))
     (
     some (Res.mk [PV.sc (Value.bool false)] []))))
   (
   shareK (IntKind.wrap IntKind.i64 y0) fun x83 =>
   chk (decide ((0 : Nat) + y5 * (2 : Nat) ≤ List.length y8)) <|
   callK (call (8 : Nat) [PV.sc (Value.int IntKind.i64 x83), PV.sc (Value.bool y1), PV.sc (Value.bool y2), PV.lst false (2 : Nat) y5 (List.take (y5 * (2 : Nat)) (List.drop (0 : Nat) y8))]) fun x84 x85 =>
   nilK (x85) <|
   consK (x84) fun x86 x87 =>
   aggK (x86) fun x88 =>
   consK (x88) fun x89 x90 =>
   boolK (x89) fun x91 =>
   consK (x90) fun x92 x93 =>
   boolK (x92) fun x94 =>
   consK (x93) fun x95 x96 =>
   intK (IntKind.i64) (x95) fun x97 =>
   nilK (x96) <|
   consK (x87) fun x98 x99 =>
   intK (IntKind.i64) (x98) fun x100 =>
   nilK (x99) <|
   shareK (IntKind.wrap IntKind.i64 y0) fun x101 =>
   chk (decide ((0 : Nat) + y6 * (2 : Nat) ≤ List.length y9)) <|
   callK (call (8 : Nat) [PV.sc (Value.int IntKind.i64 x101), PV.sc (Value.bool y1), PV.sc (Value.bool y2), PV.lst false (2 : Nat) y6 (List.take (y6 * (2 : Nat)) (List.drop (0 : Nat) y9))]) fun x102 x103 =>
   nilK (x103) <|
   consK (x102) fun x104 x105 =>
   aggK (x104) fun x106 =>
   consK (x106) fun x107 x108 =>
   boolK (x107) fun x109 =>
   consK (x108) fun x110 x111 =>
   boolK (x110) fun x112 =>
   consK (x111) fun x113 x114 =>
   intK (IntKind.i64) (x113) fun x115 =>
   nilK (x114) <|
   consK (x105) fun x116 x117 =>
   intK (IntKind.i64) (x116) fun x118 =>
   nilK (x117) <|
   brK (x91 == x109 && (x94 == x112 && (x97 == x115 && true)))
    (
    brK (x100 == x118)
     (
     brK (x100 != (0 : Int))
      (
      callK (call (7 : Nat) []) fun x119 x120 =>
      nilK (x120) <|
      consK (x119) fun x121 x122 =>
      boolK (x121) fun x123 =>
      nilK (x122) <|
      some (Res.mk [PV.sc (Value.bool x123)] []))
      (
      brK (x91)
       (
       shareK (IntKind.wrap IntKind.i64 y0) fun x124 =>
       brK (decide (x97 > x124))
        (
        shareK (IntKind.wrap IntKind.i64 y0) fun x125 =>
        shareK (IntKind.wrap IntKind.i64 (x125 + (30 : Int))) fun x126 =>
        brK (decide (x97 ≤ x126))
         (
         callK (call (7 : Nat) []) fun x127 x128 =>
         nilK (x128) <|
         consK (x127) fun x129 x130 =>
         boolK (x129) fun x131 =>
         nilK (x130) <|
         some (Res.mk [PV.sc (Value.bool x131)] []))
         (
         some (Res.mk [PV.sc (Value.bool false)] [])))
        (
        some (Res.mk [PV.sc (Value.bool false)] [])))
       (
       some (Res.mk [PV.sc (Value.bool false)] []))))
     (
     some (Res.mk [PV.sc (Value.bool false)] [])))
    (
    some (Res.mk [PV.sc (Value.bool false)] []))) := by kernel_rfl

theorem passkeylaw13_ConsentWindow_e (fu d : Nat) (a0 : Int) (a1 : Bool) (a2 : Bool) (a3n : Nat) (a3 : List PV) (a4n : Nat) (a4 : List PV) : pcall C0 Try.prog fu (d + 1) F_passkeylaw13_ConsentWindow [PV.sc (Value.int IntKind.u16 a0), PV.sc (Value.bool a1), PV.sc (Value.bool a2), PV.lst false (1 : Nat) a3n a3, PV.lst false (1 : Nat) a4n a4] = (fun (call : Call') =>
  shareK (IntKind.wrap IntKind.i64 a0) fun x1 =>
  callK (call (10 : Nat) [PV.sc (Value.int IntKind.i64 x1), PV.lst false (1 : Nat) a3n a3]) fun x2 x3 =>
  nilK (x3) <|
  consK (x2) fun x4 x5 =>
  owK ((2 : Nat)) (x4) fun x6 x7 =>
  nilK (x5) <|
  chk (decide ((0 : Nat) + x6 * (2 : Nat) ≤ List.length x7)) <|
  chk (decide (List.length (List.take (x6 * (2 : Nat)) (List.drop (0 : Nat) x7)) = x6 * (2 : Nat)) && decide (x6 * (16 : Nat) ≤ (1099511627776 : Nat)) && decide (x6 ≤ (1099511627776 : Nat))) <|
  passkeylaw13_ConsentWindow_L0 fu call a0 a1 a2 a3n a3 a4n a4 (fu) (a0) (a1) (a2) (a4n) (a4) (x6) (x6) ((0 : Int)) (x7) (List.take (x6 * (2 : Nat)) (List.drop (0 : Nat) x7))) (pcall C0 Try.prog fu d) := by kernel_rfl

abbrev F_passkeylaw13_ConsentVerified : FuncId := 6
noncomputable def passkeylaw13_ConsentVerified_L0 (fu : Nat) (call : Call') (a0 : Int) (a1 : Bool) (a2 : Bool) (a3n : Nat) (a3 : List PV)  (nn : Nat) (y0 : Bool) (y1 : Bool) (y2 : Nat) (y3 : Int) (y4 : Bool) (y5 : Int) (y6 : List PV) (y7 : Bool) (y8 : Bool) (y9 : Int) : Option Res :=
  floop C0 Try.prog fu call 6 Try.f6 (bodyOf Try.f6) [PV.sc (Value.int IntKind.u16 a0), PV.sc (Value.bool a1), PV.sc (Value.bool a2), PV.lst false (1 : Nat) a3n a3] [.r, .r, .r, .r, .l, .r, .l] nn ⟨lk [(1, (.sc (.bool y0))), (2, (.sc (.bool y1))), (9, (.view 9 2 0 y2)), (10, (.ptr 10 0)), (11, (.sc (.int .i64 y3))), (12, (.sc (.bool y4))), (13, (.sc (.int .i64 y5)))], lkh [(9, (.ar false y6)), (10, (.st [(.sc (.bool y7)), (.sc (.bool y8)), (.sc (.int .i64 y9))]))]⟩

theorem passkeylaw13_ConsentVerified_L0_s (fu : Nat) (call : Call') (a0 : Int) (a1 : Bool) (a2 : Bool) (a3n : Nat) (a3 : List PV)  (nn : Nat) (y0 : Bool) (y1 : Bool) (y2 : Nat) (y3 : Int) (y4 : Bool) (y5 : Int) (y6 : List PV) (y7 : Bool) (y8 : Bool) (y9 : Int) : passkeylaw13_ConsentVerified_L0 fu call a0 a1 a2 a3n a3  (nn + 1) y0 y1 y2 y3 y4 y5 y6 y7 y8 y9 =
  brK (decide (y5 < (↑y2 : Int)))
   (
   brK (y4)
    (
    shareK (IntKind.wrap IntKind.i64 (y5 + (1 : Int))) fun x26 =>
    passkeylaw13_ConsentVerified_L0 fu call a0 a1 a2 a3n a3 (nn) (y0) (y1) (y2) (y3) (true) (x26) (y6) (y7) (y8) (y9))
    (
    chk (decide ((0 : Int) ≤ y5) && decide (y5 < (↑y2 : Int))) <|
    intK (IntKind.i64) (List.getD y6 ((0 : Nat) + Int.toNat y5 * (2 : Nat) + (1 : Nat)) PV.top) fun x27 =>
    brK (x27 == (2 : Int))
     (
     chk (decide ((0 : Int) ≤ y5) && decide (y5 < (↑y2 : Int))) <|
     intK (IntKind.i64) (List.getD y6 ((0 : Nat) + Int.toNat y5 * (2 : Nat) + (0 : Nat)) PV.top) fun x28 =>
     shareK (IntKind.wrap IntKind.i64 (y5 + (1 : Int))) fun x29 =>
     passkeylaw13_ConsentVerified_L0 fu call a0 a1 a2 a3n a3 (nn) (y0) (y1) (y2) (y3) (x28 == y9) (x29) (y6) (y7) (y8) (y9))
     (
     shareK (IntKind.wrap IntKind.i64 (y5 + (1 : Int))) fun x30 =>
     passkeylaw13_ConsentVerified_L0 fu call a0 a1 a2 a3n a3 (nn) (y0) (y1) (y2) (y3) (false) (x30) (y6) (y7) (y8) (y9))))
   (
   brK (y3 != (0 : Int))
    (
    brK (y3 != (0 : Int))
     (
     brK (y3 == (0 : Int))
      (
      callK (call (7 : Nat) []) fun x31 x32 =>
      nilK (x32) <|
      consK (x31) fun x33 x34 =>
      boolK (x33) fun x35 =>
      nilK (x34) <|
      some (Res.mk [PV.sc (Value.bool x35)] []))
      (
      brK (y7 == false && (y8 == false && (y9 == (0 : Int) && true)))
       (
       callK (call (7 : Nat) []) fun x36 x37 =>
       nilK (x37) <|
       consK (x36) fun x38 x39 =>
       boolK (x38) fun x40 =>
       nilK (x39) <|
       some (Res.mk [PV.sc (Value.bool x40)] []))
       (
       some (Res.mk [PV.sc (Value.bool false)] []))))
     (
     brK (!y1)
      (
      brK (y3 == (0 : Int))
       (
       callK (call (7 : Nat) []) fun x41 x42 =>
       nilK (x42) <|
       consK (x41) fun x43 x44 =>
       boolK (x43) fun x45 =>
       nilK (x44) <|
       some (Res.mk [PV.sc (Value.bool x45)] []))
       (
       brK (y7 == false && (y8 == false && (y9 == (0 : Int) && true)))
        (
        callK (call (7 : Nat) []) fun x46 x47 =>
        nilK (x47) <|
        consK (x46) fun x48 x49 =>
        boolK (x48) fun x50 =>
        nilK (x49) <|
        some (Res.mk [PV.sc (Value.bool x50)] []))
        (
        some (Res.mk [PV.sc (Value.bool false)] []))))
      (
      brK (y8)
       (
       brK (y3 == (0 : Int))
        (
        callK (call (7 : Nat) []) fun x51 x52 =>
        nilK (x52) <|
        consK (x51) fun x53 x54 =>
        boolK (x53) fun x55 =>
        nilK (x54) <|
        some (Res.mk [PV.sc (Value.bool x55)] []))
        (
        brK (y7 == false && (y8 == false && (y9 == (0 : Int) && true)))
         (
         callK (call (7 : Nat) []) fun x56 x57 =>
         nilK (x57) <|
         consK (x56) fun x58 x59 =>
         boolK (x58) fun x60 =>
         nilK (x59) <|
         some (Res.mk [PV.sc (Value.bool x60)] []))
         (
         some (Res.mk [PV.sc (Value.bool false)] []))))
       (
       some (Res.mk [PV.sc (Value.bool false)] [])))))
    (
    brK (!y8)
     (
     brK (y3 != (0 : Int))
      (
      brK (y3 == (0 : Int))
       (
       callK (call (7 : Nat) []) fun x61 x62 =>
       nilK (x62) <|
       consK (x61) fun x63 x64 =>
       boolK (x63) fun x65 =>
       nilK (x64) <|
       some (Res.mk [PV.sc (Value.bool x65)] []))
       (
       brK (y7 == false && (y8 == false && (y9 == (0 : Int) && true)))
        (
        callK (call (7 : Nat) []) fun x66 x67 =>
        nilK (x67) <|
        consK (x66) fun x68 x69 =>
        boolK (x68) fun x70 =>
        nilK (x69) <|
        some (Res.mk [PV.sc (Value.bool x70)] []))
        (
        some (Res.mk [PV.sc (Value.bool false)] []))))
      (
      brK (!y1)
       (
       brK (y3 == (0 : Int))
        (
        callK (call (7 : Nat) []) fun x71 x72 =>
        nilK (x72) <|
        consK (x71) fun x73 x74 =>
        boolK (x73) fun x75 =>
        nilK (x74) <|
        some (Res.mk [PV.sc (Value.bool x75)] []))
        (
        brK (y7 == false && (y8 == false && (y9 == (0 : Int) && true)))
         (
         callK (call (7 : Nat) []) fun x76 x77 =>
         nilK (x77) <|
         consK (x76) fun x78 x79 =>
         boolK (x78) fun x80 =>
         nilK (x79) <|
         some (Res.mk [PV.sc (Value.bool x80)] []))
         (
         some (Res.mk [PV.sc (Value.bool false)] []))))
       (
       brK (y8)
        (
        brK (y3 == (0 : Int))
         (
         callK (call (7 : Nat) []) fun x81 x82 =>
         nilK (x82) <|
         consK (x81) fun x83 x84 =>
         boolK (x83) fun x85 =>
         nilK (x84) <|
         some (Res.mk [PV.sc (Value.bool x85)] []))
         (
         brK (y7 == false && (y8 == false && (y9 == (0 : Int) && true)))
          (
          callK (call (7 : Nat) []) fun x86 x87 =>
          nilK (x87) <|
          consK (x86) fun x88 x89 =>
          boolK (x88) fun x90 =>
          nilK (x89) <|
          some (Res.mk [PV.sc (Value.bool x90)] []))
          (
          some (Res.mk [PV.sc (Value.bool false)] []))))
        (
        some (Res.mk [PV.sc (Value.bool false)] [])))))
     (
     brK (y0)
      (
      brK (y4)
       (
       brK (y3 != (0 : Int))
        (
        brK (y3 == (0 : Int))
         (
         callK (call (7 : Nat) []) fun x91 x92 =>
         nilK (x92) <|
         consK (x91) fun x93 x94 =>
         boolK (x93) fun x95 =>
         nilK (x94) <|
         some (Res.mk [PV.sc (Value.bool x95)] []))
         (
         brK (y7 == false && (y8 == false && (y9 == (0 : Int) && true)))
          (
          callK (call (7 : Nat) []) fun x96 x97 =>
          nilK (x97) <|
          consK (x96) fun x98 x99 =>
          boolK (x98) fun x100 =>
          nilK (x99) <|
          some (Res.mk [PV.sc (Value.bool x100)] []))
          (
          some (Res.mk [PV.sc (Value.bool false)] []))))
        (
        brK (!y1)
         (
         brK (y3 == (0 : Int))
          (
          callK (call (7 : Nat) []) fun x101 x102 =>
          nilK (x102) <|
          consK (x101) fun x103 x104 =>
          boolK (x103) fun x105 =>
          nilK (x104) <|
          some (Res.mk [PV.sc (Value.bool x105)] []))
          (
          brK (y7 == false && (y8 == false && (y9 == (0 : Int) && true)))
           (
           callK (call (7 : Nat) []) fun x106 x107 =>
           nilK (x107) <|
           consK (x106) fun x108 x109 =>
           boolK (x108) fun x110 =>
           nilK (x109) <|
           some (Res.mk [PV.sc (Value.bool x110)] []))
           (
           some (Res.mk [PV.sc (Value.bool false)] []))))
         (
         brK (y8)
          (
          brK (y3 == (0 : Int))
           (
           callK (call (7 : Nat) []) fun x111 x112 =>
           nilK (x112) <|
           consK (x111) fun x113 x114 =>
           boolK (x113) fun x115 =>
           nilK (x114) <|
           some (Res.mk [PV.sc (Value.bool x115)] []))
           (
           brK (y7 == false && (y8 == false && (y9 == (0 : Int) && true)))
            (
            callK (call (7 : Nat) []) fun x116 x117 =>
            nilK (x117) <|
            consK (x116) fun x118 x119 =>
            boolK (x118) fun x120 =>
            nilK (x119) <|
            some (Res.mk [PV.sc (Value.bool x120)] []))
            (
            some (Res.mk [PV.sc (Value.bool false)] []))))
          (
          some (Res.mk [PV.sc (Value.bool false)] [])))))
       (
       some (Res.mk [PV.sc (Value.bool false)] [])))
      (
      some (Res.mk [PV.sc (Value.bool false)] []))))) := by kernel_rfl

theorem passkeylaw13_ConsentVerified_e (fu d : Nat) (a0 : Int) (a1 : Bool) (a2 : Bool) (a3n : Nat) (a3 : List PV) : pcall C0 Try.prog fu (d + 1) F_passkeylaw13_ConsentVerified [PV.sc (Value.int IntKind.u16 a0), PV.sc (Value.bool a1), PV.sc (Value.bool a2), PV.lst false (1 : Nat) a3n a3] = (fun (call : Call') =>
  shareK (IntKind.wrap IntKind.i64 a0) fun x1 =>
  callK (call (10 : Nat) [PV.sc (Value.int IntKind.i64 x1), PV.lst false (1 : Nat) a3n a3]) fun x2 x3 =>
  nilK (x3) <|
  consK (x2) fun x4 x5 =>
  owK ((2 : Nat)) (x4) fun x6 x7 =>
  nilK (x5) <|
  shareK (IntKind.wrap IntKind.i64 a0) fun x8 =>
  chk (decide ((0 : Nat) + x6 * (2 : Nat) ≤ List.length x7)) <|
  callK (call (8 : Nat) [PV.sc (Value.int IntKind.i64 x8), PV.sc (Value.bool a1), PV.sc (Value.bool a2), PV.lst false (2 : Nat) x6 (List.take (x6 * (2 : Nat)) (List.drop (0 : Nat) x7))]) fun x9 x10 =>
  nilK (x10) <|
  consK (x9) fun x11 x12 =>
  aggK (x11) fun x13 =>
  consK (x13) fun x14 x15 =>
  boolK (x14) fun x16 =>
  consK (x15) fun x17 x18 =>
  boolK (x17) fun x19 =>
  consK (x18) fun x20 x21 =>
  intK (IntKind.i64) (x20) fun x22 =>
  nilK (x21) <|
  consK (x12) fun x23 x24 =>
  intK (IntKind.i64) (x23) fun x25 =>
  nilK (x24) <|
  passkeylaw13_ConsentVerified_L0 fu call a0 a1 a2 a3n a3 (fu) (a1) (a2) (x6) (x25) (false) ((0 : Int)) (x7) (x16) (x19) (x22)) (pcall C0 Try.prog fu d) := by kernel_rfl

end Go.Proofs.Ytaphhfehcbkfkaa.Pv
