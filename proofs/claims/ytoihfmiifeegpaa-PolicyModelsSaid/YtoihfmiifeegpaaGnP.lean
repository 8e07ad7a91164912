/-
  What the functions compute, step by step: written by a program (wip/tools/gen.py).
-/
import Derived.Test.YtoihfmiifeegpaaPvL
import Derived.Test.YtoihfmiifeegpaaRows
set_option maxRecDepth 100000
set_option linter.unusedVariables false
namespace Go.Proofs.Ytoihfmiifeegpaa.Pv

abbrev F_passkeycast_Deck_Policy : FuncId := 9
theorem passkeycast_Deck_Policy_e (fu d : Nat) (a0_0n : Nat) (a0_0 : List PV) (a0_1 : Int) : pcall C0 Try.prog fu (d + 1) F_passkeycast_Deck_Policy [PV.pbox [PV.lst false (1 : Nat) a0_0n a0_0, PV.sc (Value.int IntKind.i64 a0_1)]] = (fun (call : Call') =>
  callK (call (10 : Nat) [PV.pbox [PV.lst false (1 : Nat) a0_0n a0_0, PV.sc (Value.int IntKind.i64 a0_1)], PV.sc (Value.int IntKind.i64 (3 : Int))]) fun x1 x2 =>
  consK (x1) fun x3 x4 =>
  intK (IntKind.i64) (x3) fun x5 =>
  nilK (x4) <|
  consK (x2) fun x6 x7 =>
  consK (x6) fun x8 x9 =>
  lsK ((1 : Nat)) (x8) fun x10 x11 x12 =>
  consK (x9) fun x13 x14 =>
  intK (IntKind.i64) (x13) fun x15 =>
  nilK (x14) <|
  nilK (x7) <|
  callK (call (10 : Nat) [PV.pbox [PV.lst false (1 : Nat) x11 x12, PV.sc (Value.int IntKind.i64 x15)], PV.sc (Value.int IntKind.i64 (2 : Int))]) fun x16 x17 =>
  consK (x16) fun x18 x19 =>
  intK (IntKind.i64) (x18) fun x20 =>
  nilK (x19) <|
  consK (x17) fun x21 x22 =>
  consK (x21) fun x23 x24 =>
  lsK ((1 : Nat)) (x23) fun x25 x26 x27 =>
  consK (x24) fun x28 x29 =>
  intK (IntKind.i64) (x28) fun x30 =>
  nilK (x29) <|
  nilK (x22) <|
  callK (call (10 : Nat) [PV.pbox [PV.lst false (1 : Nat) x26 x27, PV.sc (Value.int IntKind.i64 x30)], PV.sc (Value.int IntKind.i64 (2 : Int))]) fun x31 x32 =>
  consK (x31) fun x33 x34 =>
  intK (IntKind.i64) (x33) fun x35 =>
  nilK (x34) <|
  consK (x32) fun x36 x37 =>
  consK (x36) fun x38 x39 =>
  lsK ((1 : Nat)) (x38) fun x40 x41 x42 =>
  consK (x39) fun x43 x44 =>
  intK (IntKind.i64) (x43) fun x45 =>
  nilK (x44) <|
  nilK (x37) <|
  shareK (IntKind.wrap IntKind.i64 ((1 : Int) + x35)) fun x46 =>
  callK (call (10 : Nat) [PV.pbox [PV.lst false (1 : Nat) x41 x42, PV.sc (Value.int IntKind.i64 x45)], PV.sc (Value.int IntKind.i64 (3 : Int))]) fun x47 x48 =>
  consK (x47) fun x49 x50 =>
  intK (IntKind.i64) (x49) fun x51 =>
  nilK (x50) <|
  consK (x48) fun x52 x53 =>
  consK (x52) fun x54 x55 =>
  lsK ((1 : Nat)) (x54) fun x56 x57 x58 =>
  consK (x55) fun x59 x60 =>
  intK (IntKind.i64) (x59) fun x61 =>
  nilK (x60) <|
  nilK (x53) <|
  shareK (IntKind.wrap IntKind.i64 ((1 : Int) + x51)) fun x62 =>
  callK (call (10 : Nat) [PV.pbox [PV.lst false (1 : Nat) x57 x58, PV.sc (Value.int IntKind.i64 x61)], PV.sc (Value.int IntKind.i64 (2 : Int))]) fun x63 x64 =>
  consK (x63) fun x65 x66 =>
  intK (IntKind.i64) (x65) fun x67 =>
  nilK (x66) <|
  consK (x64) fun x68 x69 =>
  consK (x68) fun x70 x71 =>
  lsK ((1 : Nat)) (x70) fun x72 x73 x74 =>
  consK (x71) fun x75 x76 =>
  intK (IntKind.i64) (x75) fun x77 =>
  nilK (x76) <|
  nilK (x69) <|
  callK (call (10 : Nat) [PV.pbox [PV.lst false (1 : Nat) x73 x74, PV.sc (Value.int IntKind.i64 x77)], PV.sc (Value.int IntKind.i64 (3 : Int))]) fun x78 x79 =>
  consK (x78) fun x80 x81 =>
  intK (IntKind.i64) (x80) fun x82 =>
  nilK (x81) <|
  consK (x79) fun x83 x84 =>
  consK (x83) fun x85 x86 =>
  lsK ((1 : Nat)) (x85) fun x87 x88 x89 =>
  consK (x86) fun x90 x91 =>
  intK (IntKind.i64) (x90) fun x92 =>
  nilK (x91) <|
  nilK (x84) <|
  callK (call (10 : Nat) [PV.pbox [PV.lst false (1 : Nat) x88 x89, PV.sc (Value.int IntKind.i64 x92)], PV.sc (Value.int IntKind.i64 (2 : Int))]) fun x93 x94 =>
  consK (x93) fun x95 x96 =>
  intK (IntKind.i64) (x95) fun x97 =>
  nilK (x96) <|
  consK (x94) fun x98 x99 =>
  consK (x98) fun x100 x101 =>
  lsK ((1 : Nat)) (x100) fun x102 x103 x104 =>
  consK (x101) fun x105 x106 =>
  intK (IntKind.i64) (x105) fun x107 =>
  nilK (x106) <|
  nilK (x99) <|
  callK (call (10 : Nat) [PV.pbox [PV.lst false (1 : Nat) x103 x104, PV.sc (Value.int IntKind.i64 x107)], PV.sc (Value.int IntKind.i64 (3 : Int))]) fun x108 x109 =>
  consK (x108) fun x110 x111 =>
  intK (IntKind.i64) (x110) fun x112 =>
  nilK (x111) <|
  consK (x109) fun x113 x114 =>
  consK (x113) fun x115 x116 =>
  lsK ((1 : Nat)) (x115) fun x117 x118 x119 =>
  consK (x116) fun x120 x121 =>
  intK (IntKind.i64) (x120) fun x122 =>
  nilK (x121) <|
  nilK (x114) <|
  chk (decide ((0 : Int) ≤ x112) && decide (x112 < (3 : Int))) <|
  intK (IntKind.i64) (List.getD [PV.sc (Value.int IntKind.i64 (50 : Int)), PV.sc (Value.int IntKind.i64 (5 : Int)), PV.sc (Value.int IntKind.i64 (500 : Int))] ((0 : Nat) + Int.toNat x112 * (1 : Nat)) PV.top) fun x123 =>
  callK (call (10 : Nat) [PV.pbox [PV.lst false (1 : Nat) x118 x119, PV.sc (Value.int IntKind.i64 x122)], PV.sc (Value.int IntKind.i64 (4 : Int))]) fun x124 x125 =>
  consK (x124) fun x126 x127 =>
  intK (IntKind.i64) (x126) fun x128 =>
  nilK (x127) <|
  consK (x125) fun x129 x130 =>
  consK (x129) fun x131 x132 =>
  lsK ((1 : Nat)) (x131) fun x133 x134 x135 =>
  consK (x132) fun x136 x137 =>
  intK (IntKind.i64) (x136) fun x138 =>
  nilK (x137) <|
  nilK (x130) <|
  brK (x128 == (3 : Int))
   (
   callK (call (10 : Nat) [PV.pbox [PV.lst false (1 : Nat) x134 x135, PV.sc (Value.int IntKind.i64 x138)], PV.sc (Value.int IntKind.i64 (2 : Int))]) fun x139 x140 =>
   consK (x139) fun x141 x142 =>
   intK (IntKind.i64) (x141) fun x143 =>
   nilK (x142) <|
   consK (x140) fun x144 x145 =>
   consK (x144) fun x146 x147 =>
   lsK ((1 : Nat)) (x146) fun x148 x149 x150 =>
   consK (x147) fun x151 x152 =>
   intK (IntKind.i64) (x151) fun x153 =>
   nilK (x152) <|
   nilK (x145) <|
   shareK (IntKind.wrap IntKind.i64 ((1 : Int) + x143)) fun x154 =>
   chk (decide ((0 : Int) ≤ x154)) <|
   chk (decide (Int.toNat x154 ≤ (2 : Nat))) <|
   shareK (Int.toNat x154 - (0 : Nat)) fun x155 =>
   chk (decide (x155 * (1 : Nat) ≤ (2 : Nat))) <|
   some (Res.mk [PV.agg [PV.sc (Value.int IntKind.i64 x5), PV.sc (Value.bool (x20 == (1 : Int))), PV.sc (Value.int IntKind.i64 x46), PV.sc (Value.int IntKind.i64 x62), PV.sc (Value.bool (x67 == (1 : Int))), PV.sc (Value.int IntKind.i64 x82), PV.sc (Value.bool (x97 == (1 : Int))), PV.own (1 : Nat) x155 (List.take (x155 * (1 : Nat)) [PV.sc (Value.int IntKind.u64 (3 : Int)), PV.sc (Value.int IntKind.u64 (7 : Int))]), PV.sc (Value.int IntKind.i64 x123)]] [[PV.lst false (1 : Nat) x149 x150, PV.sc (Value.int IntKind.i64 x153)]]))
   (
   some (Res.mk [PV.agg [PV.sc (Value.int IntKind.i64 x5), PV.sc (Value.bool (x20 == (1 : Int))), PV.sc (Value.int IntKind.i64 x46), PV.sc (Value.int IntKind.i64 x62), PV.sc (Value.bool (x67 == (1 : Int))), PV.sc (Value.int IntKind.i64 x82), PV.sc (Value.bool (x97 == (1 : Int))), PV.own (1 : Nat) (0 : Nat) [], PV.sc (Value.int IntKind.i64 x123)]] [[PV.lst false (1 : Nat) x134 x135, PV.sc (Value.int IntKind.i64 x138)]]))) (pcall C0 Try.prog fu d) := by kernel_rfl

abbrev F_policy_Validate : FuncId := 11
noncomputable def policy_Validate_L0 (fu : Nat) (call : Call') (a0_0 : Int) (a0_1 : Bool) (a0_2 : Int) (a0_3 : Int) (a0_4 : Bool) (a0_5 : Int) (a0_6 : Bool) (a0_7n : Nat) (a0_7 : List PV) (a0_8 : Int)  (nn : Nat) (y0 : Int) (y1 : Int) (y2 : Bool) (y3 : Int) (y4 : Int) (y5 : Bool) (y6 : Int) (y7 : Bool) (y8 : Nat) (y9 : List PV) (y10 : Int) : Option Res :=
  floop C0 Try.prog fu call 11 Try.f11 (bodyOf Try.f11) [PV.agg [PV.sc (Value.int IntKind.i64 a0_0), PV.sc (Value.bool a0_1), PV.sc (Value.int IntKind.i64 a0_2), PV.sc (Value.int IntKind.i64 a0_3), PV.sc (Value.bool a0_4), PV.sc (Value.int IntKind.i64 a0_5), PV.sc (Value.bool a0_6), PV.lst false (1 : Nat) a0_7n a0_7, PV.sc (Value.int IntKind.i64 a0_8)]] [.r, .r, .r, .r, .r, .r, .r, .l, .r, .l] nn ⟨lk [(1, (.ptr 1 0)), (3, (.sc (.int .i64 y0)))], lkh [(1, (.st [(.sc (.int .i64 y1)), (.sc (.bool y2)), (.sc (.int .i64 y3)), (.sc (.int .i64 y4)), (.sc (.bool y5)), (.sc (.int .i64 y6)), (.sc (.bool y7)), (.lst false 1 y8 y9), (.sc (.int .i64 y10))]))]⟩

theorem policy_Validate_L0_s (fu : Nat) (call : Call') (a0_0 : Int) (a0_1 : Bool) (a0_2 : Int) (a0_3 : Int) (a0_4 : Bool) (a0_5 : Int) (a0_6 : Bool) (a0_7n : Nat) (a0_7 : List PV) (a0_8 : Int)  (nn : Nat) (y0 : Int) (y1 : Int) (y2 : Bool) (y3 : Int) (y4 : Int) (y5 : Bool) (y6 : Int) (y7 : Bool) (y8 : Nat) (y9 : List PV) (y10 : Int) : policy_Validate_L0 fu call a0_0 a0_1 a0_2 a0_3 a0_4 a0_5 a0_6 a0_7n a0_7 a0_8  (nn + 1) y0 y1 y2 y3 y4 y5 y6 y7 y8 y9 y10 =
  brK (decide (y0 < (↑y8 : Int)))
   (
   chk (decide ((0 : Int) ≤ y0) && decide (y0 < (↑y8 : Int))) <|
   intK (IntKind.u64) (List.getD y9 (Int.toNat y0 * (1 : Nat)) PV.top) fun x1 =>
   shareK (IntKind.wrap IntKind.i64 (y0 - (1 : Int))) fun x2 =>
   chk (decide ((0 : Int) ≤ x2) && decide (x2 < (↑y8 : Int))) <|
   intK (IntKind.u64) (List.getD y9 (Int.toNat x2 * (1 : Nat)) PV.top) fun x3 =>
   brK (decide (x1 ≤ x3))
    (
    some (Res.mk [PV.sc (Value.int IntKind.i64 (7 : Int))] []))
    (
    shareK (IntKind.wrap IntKind.i64 (y0 + (1 : Int))) fun x4 =>
    policy_Validate_L0 fu call a0_0 a0_1 a0_2 a0_3 a0_4 a0_5 a0_6 a0_7n a0_7 a0_8 (nn) (x4) (y1) (y2) (y3) (y4) (y5) (y6) (y7) (y8) (y9) (y10)))
   (
   some (Res.mk [PV.sc (Value.int IntKind.i64 (0 : Int))] [])) := by kernel_rfl

theorem policy_Validate_e (fu d : Nat) (a0_0 : Int) (a0_1 : Bool) (a0_2 : Int) (a0_3 : Int) (a0_4 : Bool) (a0_5 : Int) (a0_6 : Bool) (a0_7n : Nat) (a0_7 : List PV) (a0_8 : Int) : pcall C0 Try.prog fu (d + 1) F_policy_Validate [PV.agg [PV.sc (Value.int IntKind.i64 a0_0), PV.sc (Value.bool a0_1), PV.sc (Value.int IntKind.i64 a0_2), PV.sc (Value.int IntKind.i64 a0_3), PV.sc (Value.bool a0_4), PV.sc (Value.int IntKind.i64 a0_5), PV.sc (Value.bool a0_6), PV.lst false (1 : Nat) a0_7n a0_7, PV.sc (Value.int IntKind.i64 a0_8)]] = (fun (call : Call') =>
  brK (decide (a0_0 < (0 : Int)))
   (
   some (Res.mk [PV.sc (Value.int IntKind.i64 (9 : Int))] []))
   (
   brK (decide (a0_0 > (2 : Int)))
    (
    some (Res.mk [PV.sc (Value.int IntKind.i64 (9 : Int))] []))
    (
    brK (decide (a0_2 < (1 : Int)))
     (
     some (Res.mk [PV.sc (Value.int IntKind.i64 (9 : Int))] []))
     (
     brK (decide (a0_2 > (4 : Int)))
      (
      some (Res.mk [PV.sc (Value.int IntKind.i64 (9 : Int))] []))
      (
      brK (decide (a0_3 < (1 : Int)))
       (
       some (Res.mk [PV.sc (Value.int IntKind.i64 (9 : Int))] []))
       (
       brK (decide (a0_3 > (3 : Int)))
        (
        some (Res.mk [PV.sc (Value.int IntKind.i64 (9 : Int))] []))
        (
        brK (decide (a0_5 < (0 : Int)))
         (
         some (Res.mk [PV.sc (Value.int IntKind.i64 (9 : Int))] []))
         (
         brK (decide (a0_5 > (2 : Int)))
          (
          some (Res.mk [PV.sc (Value.int IntKind.i64 (9 : Int))] []))
          (
          brK (decide (a0_8 < (1 : Int)))
           (
           some (Res.mk [PV.sc (Value.int IntKind.i64 (9 : Int))] []))
           (
           brK (decide (a0_8 > (1099511627776 : Int)))
            (
            some (Res.mk [PV.sc (Value.int IntKind.i64 (9 : Int))] []))
            (
            brK (decide ((↑a0_7n : Int) > (16 : Int)))
             (
             some (Res.mk [PV.sc (Value.int IntKind.i64 (8 : Int))] []))
             (
             policy_Validate_L0 fu call a0_0 a0_1 a0_2 a0_3 a0_4 a0_5 a0_6 a0_7n a0_7 a0_8 (fu) ((1 : Int)) (a0_0) (a0_1) (a0_2) (a0_3) (a0_4) (a0_5) (a0_6) (a0_7n) (a0_7) (a0_8))))))))))))) (pcall C0 Try.prog fu d) := by kernel_rfl

abbrev F_passkeyref29_within : FuncId := 19
theorem passkeyref29_within_e (fu d : Nat) (a0 : Int) (a1 : Int) (a2 : Int) : pcall C0 Try.prog fu (d + 1) F_passkeyref29_within [PV.sc (Value.int IntKind.i64 a0), PV.sc (Value.int IntKind.i64 a1), PV.sc (Value.int IntKind.i64 a2)] = (fun (call : Call') =>
  brK (decide (a0 ≥ a1))
   (
   some (Res.mk [PV.sc (Value.bool (decide (a0 ≤ a2)))] []))
   (
   some (Res.mk [PV.sc (Value.bool false)] []))) (pcall C0 Try.prog fu d) := by kernel_rfl

abbrev F_passkeyref29_ValidatePolicy : FuncId := 12
noncomputable def passkeyref29_ValidatePolicy_L0 (fu : Nat) (call : Call') (a0_0 : Int) (a0_1 : Bool) (a0_2 : Int) (a0_3 : Int) (a0_4 : Bool) (a0_5 : Int) (a0_6 : Bool) (a0_7n : Nat) (a0_7 : List PV) (a0_8 : Int)  (nn : Nat) (y0 : Int) (y1 : Int) (y2 : Bool) (y3 : Int) (y4 : Int) (y5 : Bool) (y6 : Int) (y7 : Bool) (y8 : Nat) (y9 : List PV) (y10 : Int) : Option Res :=
  floop C0 Try.prog fu call 12 Try.f12 (bodyOf Try.f12) [PV.agg [PV.sc (Value.int IntKind.i64 a0_0), PV.sc (Value.bool a0_1), PV.sc (Value.int IntKind.i64 a0_2), PV.sc (Value.int IntKind.i64 a0_3), PV.sc (Value.bool a0_4), PV.sc (Value.int IntKind.i64 a0_5), PV.sc (Value.bool a0_6), PV.lst false (1 : Nat) a0_7n a0_7, PV.sc (Value.int IntKind.i64 a0_8)]] [.r, .r, .r, .l, .r, .l] nn ⟨lk [(1, (.ptr 1 0)), (3, (.sc (.int .i64 y0)))], lkh [(1, (.st [(.sc (.int .i64 y1)), (.sc (.bool y2)), (.sc (.int .i64 y3)), (.sc (.int .i64 y4)), (.sc (.bool y5)), (.sc (.int .i64 y6)), (.sc (.bool y7)), (.lst false 1 y8 y9), (.sc (.int .i64 y10))]))]⟩

theorem passkeyref29_ValidatePolicy_L0_s (fu : Nat) (call : Call') (a0_0 : Int) (a0_1 : Bool) (a0_2 : Int) (a0_3 : Int) (a0_4 : Bool) (a0_5 : Int) (a0_6 : Bool) (a0_7n : Nat) (a0_7 : List PV) (a0_8 : Int)  (nn : Nat) (y0 : Int) (y1 : Int) (y2 : Bool) (y3 : Int) (y4 : Int) (y5 : Bool) (y6 : Int) (y7 : Bool) (y8 : Nat) (y9 : List PV) (y10 : Int) : passkeyref29_ValidatePolicy_L0 fu call a0_0 a0_1 a0_2 a0_3 a0_4 a0_5 a0_6 a0_7n a0_7 a0_8  (nn + 1) y0 y1 y2 y3 y4 y5 y6 y7 y8 y9 y10 =
  brK (decide (y0 < (↑y8 : Int)))
   (
   chk (decide ((0 : Int) ≤ y0) && decide (y0 < (↑y8 : Int))) <|
   intK (IntKind.u64) (List.getD y9 (Int.toNat y0 * (1 : Nat)) PV.top) fun x26 =>
   shareK (IntKind.wrap IntKind.i64 (y0 - (1 : Int))) fun x27 =>
   chk (decide ((0 : Int) ≤ x27) && decide (x27 < (↑y8 : Int))) <|
   intK (IntKind.u64) (List.getD y9 (Int.toNat x27 * (1 : Nat)) PV.top) fun x28 =>
   brK (decide (x26 ≤ x28))
    (
    some (Res.mk [PV.sc (Value.int IntKind.i64 (7 : Int))] []))
    (
    shareK (IntKind.wrap IntKind.i64 (y0 + (1 : Int))) fun x29 =>
    passkeyref29_ValidatePolicy_L0 fu call a0_0 a0_1 a0_2 a0_3 a0_4 a0_5 a0_6 a0_7n a0_7 a0_8 (nn) (x29) (y1) (y2) (y3) (y4) (y5) (y6) (y7) (y8) (y9) (y10)))
   (
   some (Res.mk [PV.sc (Value.int IntKind.i64 (0 : Int))] [])) := by kernel_rfl

theorem passkeyref29_ValidatePolicy_e (fu d : Nat) (a0_0 : Int) (a0_1 : Bool) (a0_2 : Int) (a0_3 : Int) (a0_4 : Bool) (a0_5 : Int) (a0_6 : Bool) (a0_7n : Nat) (a0_7 : List PV) (a0_8 : Int) : pcall C0 Try.prog fu (d + 1) F_passkeyref29_ValidatePolicy [PV.agg [PV.sc (Value.int IntKind.i64 a0_0), PV.sc (Value.bool a0_1), PV.sc (Value.int IntKind.i64 a0_2), PV.sc (Value.int IntKind.i64 a0_3), PV.sc (Value.bool a0_4), PV.sc (Value.int IntKind.i64 a0_5), PV.sc (Value.bool a0_6), PV.lst false (1 : Nat) a0_7n a0_7, PV.sc (Value.int IntKind.i64 a0_8)]] = (fun (call : Call') =>
  callK (call (19 : Nat) [PV.sc (Value.int IntKind.i64 a0_0), PV.sc (Value.int IntKind.i64 (0 : Int)), PV.sc (Value.int IntKind.i64 (2 : Int))]) fun x1 x2 =>
  nilK (x2) <|
  consK (x1) fun x3 x4 =>
  boolK (x3) fun x5 =>
  nilK (x4) <|
  brK (!x5)
   (
   some (Res.mk [PV.sc (Value.int IntKind.i64 (9 : Int))] []))
   (
   callK (call (19 : Nat) [PV.sc (Value.int IntKind.i64 a0_2), PV.sc (Value.int IntKind.i64 (1 : Int)), PV.sc (Value.int IntKind.i64 (4 : Int))]) fun x6 x7 =>
   nilK (x7) <|
   consK (x6) fun x8 x9 =>
   boolK (x8) fun x10 =>
   nilK (x9) <|
   brK (!x10)
    (
    some (Res.mk [PV.sc (Value.int IntKind.i64 (9 : Int))] []))
    (
    callK (call (19 : Nat) [PV.sc (Value.int IntKind.i64 a0_3), PV.sc (Value.int IntKind.i64 (1 : Int)), PV.sc (Value.int IntKind.i64 (3 : Int))]) fun x11 x12 =>
    nilK (x12) <|
    consK (x11) fun x13 x14 =>
    boolK (x13) fun x15 =>
    nilK (x14) <|
    brK (!x15)
     (
     some (Res.mk [PV.sc (Value.int IntKind.i64 (9 : Int))] []))
     (
     callK (call (19 : Nat) [PV.sc (Value.int IntKind.i64 a0_5), PV.sc (Value.int IntKind.i64 (0 : Int)), PV.sc (Value.int IntKind.i64 (2 : Int))]) fun x16 x17 =>
     nilK (x17) <|
     consK (x16) fun x18 x19 =>
     boolK (x18) fun x20 =>
     nilK (x19) <|
     brK (!x20)
      (
      some (Res.mk [PV.sc (Value.int IntKind.i64 (9 : Int))] []))
      (
      callK (call (19 : Nat) [PV.sc (Value.int IntKind.i64 a0_8), PV.sc (Value.int IntKind.i64 (1 : Int)), PV.sc (Value.int IntKind.i64 (1099511627776 : Int))]) fun x21 x22 =>
      nilK (x22) <|
      consK (x21) fun x23 x24 =>
      boolK (x23) fun x25 =>
      nilK (x24) <|
      brK (!x25)
       (
       some (Res.mk [PV.sc (Value.int IntKind.i64 (9 : Int))] []))
       (
       brK (decide ((↑a0_7n : Int) > (16 : Int)))
        (
        some (Res.mk [PV.sc (Value.int IntKind.i64 (8 : Int))] []))
        (
        passkeyref29_ValidatePolicy_L0 fu call a0_0 a0_1 a0_2 a0_3 a0_4 a0_5 a0_6 a0_7n a0_7 a0_8 (fu) ((1 : Int)) (a0_0) (a0_1) (a0_2) (a0_3) (a0_4) (a0_5) (a0_6) (a0_7n) (a0_7) (a0_8)))))))) (pcall C0 Try.prog fu d) := by kernel_rfl

abbrev F_passkeylaw31_facts : FuncId := 13
theorem passkeylaw31_facts_e (fu d : Nat) (a0_0n : Nat) (a0_0 : List PV) (a0_1 : Int) : pcall C0 Try.prog fu (d + 1) F_passkeylaw31_facts [PV.pbox [PV.lst false (1 : Nat) a0_0n a0_0, PV.sc (Value.int IntKind.i64 a0_1)]] = (fun (call : Call') =>
  callK (call (10 : Nat) [PV.pbox [PV.lst false (1 : Nat) a0_0n a0_0, PV.sc (Value.int IntKind.i64 a0_1)], PV.sc (Value.int IntKind.i64 (6 : Int))]) fun x1 x2 =>
  consK (x1) fun x3 x4 =>
  intK (IntKind.i64) (x3) fun x5 =>
  nilK (x4) <|
  consK (x2) fun x6 x7 =>
  consK (x6) fun x8 x9 =>
  lsK ((1 : Nat)) (x8) fun x10 x11 x12 =>
  consK (x9) fun x13 x14 =>
  intK (IntKind.i64) (x13) fun x15 =>
  nilK (x14) <|
  nilK (x7) <|
  chk (decide ((0 : Int) ≤ x5) && decide (x5 < (6 : Int))) <|
  intK (IntKind.i64) (List.getD [PV.sc (Value.int IntKind.i64 (1 : Int)), PV.sc (Value.int IntKind.i64 (5 : Int)), PV.sc (Value.int IntKind.i64 (0 : Int)), PV.sc (Value.int IntKind.i64 (4 : Int)), PV.sc (Value.int IntKind.i64 (13 : Int)), PV.sc (Value.int IntKind.i64 (25 : Int))] ((0 : Nat) + Int.toNat x5 * (1 : Nat)) PV.top) fun x16 =>
  callK (call (10 : Nat) [PV.pbox [PV.lst false (1 : Nat) x11 x12, PV.sc (Value.int IntKind.i64 x15)], PV.sc (Value.int IntKind.i64 (8 : Int))]) fun x17 x18 =>
  consK (x17) fun x19 x20 =>
  intK (IntKind.i64) (x19) fun x21 =>
  nilK (x20) <|
  consK (x18) fun x22 x23 =>
  consK (x22) fun x24 x25 =>
  lsK ((1 : Nat)) (x24) fun x26 x27 x28 =>
  consK (x25) fun x29 x30 =>
  intK (IntKind.i64) (x29) fun x31 =>
  nilK (x30) <|
  nilK (x23) <|
  shareK (IntKind.wrap IntKind.u64 x21) fun x32 =>
  callK (call (10 : Nat) [PV.pbox [PV.lst false (1 : Nat) x27 x28, PV.sc (Value.int IntKind.i64 x31)], PV.sc (Value.int IntKind.i64 (5 : Int))]) fun x33 x34 =>
  consK (x33) fun x35 x36 =>
  intK (IntKind.i64) (x35) fun x37 =>
  nilK (x36) <|
  consK (x34) fun x38 x39 =>
  consK (x38) fun x40 x41 =>
  lsK ((1 : Nat)) (x40) fun x42 x43 x44 =>
  consK (x41) fun x45 x46 =>
  intK (IntKind.i64) (x45) fun x47 =>
  nilK (x46) <|
  nilK (x39) <|
  callK (call (10 : Nat) [PV.pbox [PV.lst false (1 : Nat) x43 x44, PV.sc (Value.int IntKind.i64 x47)], PV.sc (Value.int IntKind.i64 (3 : Int))]) fun x48 x49 =>
  consK (x48) fun x50 x51 =>
  intK (IntKind.i64) (x50) fun x52 =>
  nilK (x51) <|
  consK (x49) fun x53 x54 =>
  consK (x53) fun x55 x56 =>
  lsK ((1 : Nat)) (x55) fun x57 x58 x59 =>
  consK (x56) fun x60 x61 =>
  intK (IntKind.i64) (x60) fun x62 =>
  nilK (x61) <|
  nilK (x54) <|
  callK (call (10 : Nat) [PV.pbox [PV.lst false (1 : Nat) x58 x59, PV.sc (Value.int IntKind.i64 x62)], PV.sc (Value.int IntKind.i64 (5 : Int))]) fun x63 x64 =>
  consK (x63) fun x65 x66 =>
  intK (IntKind.i64) (x65) fun x67 =>
  nilK (x66) <|
  consK (x64) fun x68 x69 =>
  consK (x68) fun x70 x71 =>
  lsK ((1 : Nat)) (x70) fun x72 x73 x74 =>
  consK (x71) fun x75 x76 =>
  intK (IntKind.i64) (x75) fun x77 =>
  nilK (x76) <|
  nilK (x69) <|
  some (Res.mk [PV.agg [PV.sc (Value.int IntKind.u64 (0 : Int)), PV.sc (Value.int IntKind.i64 x16), PV.sc (Value.int IntKind.i64 (0 : Int)), PV.sc (Value.int IntKind.i64 (0 : Int)), PV.sc (Value.int IntKind.u64 x32), PV.own (1 : Nat) (0 : Nat) [], PV.sc (Value.int IntKind.i64 x37), PV.sc (Value.int IntKind.u64 (0 : Int))], PV.agg [PV.sc (Value.int IntKind.i64 x52), PV.sc (Value.int IntKind.i64 (0 : Int)), PV.sc (Value.int IntKind.i64 (0 : Int))], PV.sc (Value.int IntKind.i64 x67)] [[PV.lst false (1 : Nat) x73 x74, PV.sc (Value.int IntKind.i64 x77)]])) (pcall C0 Try.prog fu d) := by kernel_rfl

abbrev F_policy_Registers : FuncId := 14
theorem policy_Registers_e (fu d : Nat) (a0_0 : Int) (a0_1 : Bool) (a0_2 : Int) (a0_3 : Int) (a0_4 : Bool) (a0_5 : Int) (a0_6 : Bool) (a0_7n : Nat) (a0_7 : List PV) (a0_8 : Int) (a1_0 : Int) (a1_1 : Int) (a1_2 : Int) (a1_3 : Int) (a1_4 : Int) (a1_5n : Nat) (a1_5 : List PV) (a1_6 : Int) (a1_7 : Int) (a2_0 : Int) (a2_1 : Int) (a2_2 : Int) (a3 : Int) : pcall C0 Try.prog fu (d + 1) F_policy_Registers [PV.agg [PV.sc (Value.int IntKind.i64 a0_0), PV.sc (Value.bool a0_1), PV.sc (Value.int IntKind.i64 a0_2), PV.sc (Value.int IntKind.i64 a0_3), PV.sc (Value.bool a0_4), PV.sc (Value.int IntKind.i64 a0_5), PV.sc (Value.bool a0_6), PV.lst false (1 : Nat) a0_7n a0_7, PV.sc (Value.int IntKind.i64 a0_8)], PV.agg [PV.sc (Value.int IntKind.u64 a1_0), PV.sc (Value.int IntKind.i64 a1_1), PV.sc (Value.int IntKind.i64 a1_2), PV.sc (Value.int IntKind.i64 a1_3), PV.sc (Value.int IntKind.u64 a1_4), PV.lst false (1 : Nat) a1_5n a1_5, PV.sc (Value.int IntKind.i64 a1_6), PV.sc (Value.int IntKind.u64 a1_7)], PV.agg [PV.sc (Value.int IntKind.i64 a2_0), PV.sc (Value.int IntKind.i64 a2_1), PV.sc (Value.int IntKind.i64 a2_2)], PV.sc (Value.int IntKind.i64 a3)] = (fun (call : Call') =>
  callK (call (20 : Nat) [PV.agg [PV.sc (Value.int IntKind.i64 a0_0), PV.sc (Value.bool a0_1), PV.sc (Value.int IntKind.i64 a0_2), PV.sc (Value.int IntKind.i64 a0_3), PV.sc (Value.bool a0_4), PV.sc (Value.int IntKind.i64 a0_5), PV.sc (Value.bool a0_6), PV.lst false (1 : Nat) a0_7n a0_7, PV.sc (Value.int IntKind.i64 a0_8)], PV.agg [PV.sc (Value.int IntKind.u64 a1_0), PV.sc (Value.int IntKind.i64 a1_1), PV.sc (Value.int IntKind.i64 a1_2), PV.sc (Value.int IntKind.i64 a1_3), PV.sc (Value.int IntKind.u64 a1_4), PV.lst false (1 : Nat) a1_5n a1_5, PV.sc (Value.int IntKind.i64 a1_6), PV.sc (Value.int IntKind.u64 a1_7)]]) fun x1 x2 =>
  nilK (x2) <|
  consK (x1) fun x3 x4 =>
  intK (IntKind.i64) (x3) fun x5 =>
  nilK (x4) <|
  brK (x5 != (0 : Int))
   (
   some (Res.mk [PV.sc (Value.int IntKind.i64 x5)] []))
   (
   brK (decide (a1_6 < a0_2))
    (
    some (Res.mk [PV.sc (Value.int IntKind.i64 (40 : Int))] []))
    (
    shareK (iand IntKind.i64 a1_1 (8 : Int)) fun x6 =>
    brK (x6 != (0 : Int))
     (
     brK (!a0_4)
      (
      some (Res.mk [PV.sc (Value.int IntKind.i64 (40 : Int))] []))
      (
      brK (a2_0 != a0_5)
       (
       some (Res.mk [PV.sc (Value.int IntKind.i64 (40 : Int))] []))
       (
       brK (a2_0 != (2 : Int))
        (
        some (Res.mk [PV.sc (Value.int IntKind.i64 (0 : Int))] []))
        (
        brK (a3 == (0 : Int))
         (
         some (Res.mk [PV.sc (Value.int IntKind.i64 (38 : Int))] []))
         (
         callK (call (21 : Nat) [PV.agg [PV.sc (Value.int IntKind.i64 a0_0), PV.sc (Value.bool a0_1), PV.sc (Value.int IntKind.i64 a0_2), PV.sc (Value.int IntKind.i64 a0_3), PV.sc (Value.bool a0_4), PV.sc (Value.int IntKind.i64 a0_5), PV.sc (Value.bool a0_6), PV.lst false (1 : Nat) a0_7n a0_7, PV.sc (Value.int IntKind.i64 a0_8)], PV.sc (Value.int IntKind.u64 a1_4), PV.sc (Value.int IntKind.i64 a3)]) fun x7 x8 =>
         nilK (x8) <|
         consK (x7) fun x9 x10 =>
         intK (IntKind.i64) (x9) fun x11 =>
         nilK (x10) <|
         some (Res.mk [PV.sc (Value.int IntKind.i64 x11)] []))))))
     (
     brK (a2_0 != a0_5)
      (
      some (Res.mk [PV.sc (Value.int IntKind.i64 (40 : Int))] []))
      (
      brK (a2_0 != (2 : Int))
       (
       some (Res.mk [PV.sc (Value.int IntKind.i64 (0 : Int))] []))
       (
       brK (a3 == (0 : Int))
        (
        some (Res.mk [PV.sc (Value.int IntKind.i64 (38 : Int))] []))
        (
        callK (call (21 : Nat) [PV.agg [PV.sc (Value.int IntKind.i64 a0_0), PV.sc (Value.bool a0_1), PV.sc (Value.int IntKind.i64 a0_2), PV.sc (Value.int IntKind.i64 a0_3), PV.sc (Value.bool a0_4), PV.sc (Value.int IntKind.i64 a0_5), PV.sc (Value.bool a0_6), PV.lst false (1 : Nat) a0_7n a0_7, PV.sc (Value.int IntKind.i64 a0_8)], PV.sc (Value.int IntKind.u64 a1_4), PV.sc (Value.int IntKind.i64 a3)]) fun x12 x13 =>
        nilK (x13) <|
        consK (x12) fun x14 x15 =>
        intK (IntKind.i64) (x14) fun x16 =>
        nilK (x15) <|
        some (Res.mk [PV.sc (Value.int IntKind.i64 x16)] [])))))))) (pcall C0 Try.prog fu d) := by kernel_rfl

abbrev F_passkeyref29_Registers : FuncId := 15
theorem passkeyref29_Registers_e (fu d : Nat) (a0_0 : Int) (a0_1 : Bool) (a0_2 : Int) (a0_3 : Int) (a0_4 : Bool) (a0_5 : Int) (a0_6 : Bool) (a0_7n : Nat) (a0_7 : List PV) (a0_8 : Int) (a1_0 : Int) (a1_1 : Int) (a1_2 : Int) (a1_3 : Int) (a1_4 : Int) (a1_5n : Nat) (a1_5 : List PV) (a1_6 : Int) (a1_7 : Int) (a2_0 : Int) (a2_1 : Int) (a2_2 : Int) (a3 : Int) : pcall C0 Try.prog fu (d + 1) F_passkeyref29_Registers [PV.agg [PV.sc (Value.int IntKind.i64 a0_0), PV.sc (Value.bool a0_1), PV.sc (Value.int IntKind.i64 a0_2), PV.sc (Value.int IntKind.i64 a0_3), PV.sc (Value.bool a0_4), PV.sc (Value.int IntKind.i64 a0_5), PV.sc (Value.bool a0_6), PV.lst false (1 : Nat) a0_7n a0_7, PV.sc (Value.int IntKind.i64 a0_8)], PV.agg [PV.sc (Value.int IntKind.u64 a1_0), PV.sc (Value.int IntKind.i64 a1_1), PV.sc (Value.int IntKind.i64 a1_2), PV.sc (Value.int IntKind.i64 a1_3), PV.sc (Value.int IntKind.u64 a1_4), PV.lst false (1 : Nat) a1_5n a1_5, PV.sc (Value.int IntKind.i64 a1_6), PV.sc (Value.int IntKind.u64 a1_7)], PV.agg [PV.sc (Value.int IntKind.i64 a2_0), PV.sc (Value.int IntKind.i64 a2_1), PV.sc (Value.int IntKind.i64 a2_2)], PV.sc (Value.int IntKind.i64 a3)] = (fun (call : Call') =>
  callK (call (22 : Nat) [PV.agg [PV.sc (Value.int IntKind.i64 a0_0), PV.sc (Value.bool a0_1), PV.sc (Value.int IntKind.i64 a0_2), PV.sc (Value.int IntKind.i64 a0_3), PV.sc (Value.bool a0_4), PV.sc (Value.int IntKind.i64 a0_5), PV.sc (Value.bool a0_6), PV.lst false (1 : Nat) a0_7n a0_7, PV.sc (Value.int IntKind.i64 a0_8)], PV.sc (Value.int IntKind.i64 a1_1)]) fun x1 x2 =>
  nilK (x2) <|
  consK (x1) fun x3 x4 =>
  intK (IntKind.i64) (x3) fun x5 =>
  nilK (x4) <|
  brK (x5 != (0 : Int))
   (
   some (Res.mk [PV.sc (Value.int IntKind.i64 x5)] []))
   (
   brK (decide (a1_6 < a0_2))
    (
    some (Res.mk [PV.sc (Value.int IntKind.i64 (40 : Int))] []))
    (
    shareK (iand IntKind.i64 a1_1 (8 : Int)) fun x6 =>
    brK (x6 != (0 : Int))
     (
     brK (!a0_4)
      (
      some (Res.mk [PV.sc (Value.int IntKind.i64 (40 : Int))] []))
      (
      brK (a2_0 != a0_5)
       (
       some (Res.mk [PV.sc (Value.int IntKind.i64 (40 : Int))] []))
       (
       brK (a2_0 != (2 : Int))
        (
        some (Res.mk [PV.sc (Value.int IntKind.i64 (0 : Int))] []))
        (
        brK (a3 == (0 : Int))
         (
         some (Res.mk [PV.sc (Value.int IntKind.i64 (38 : Int))] []))
         (
         callK (call (23 : Nat) [PV.agg [PV.sc (Value.int IntKind.i64 a0_0), PV.sc (Value.bool a0_1), PV.sc (Value.int IntKind.i64 a0_2), PV.sc (Value.int IntKind.i64 a0_3), PV.sc (Value.bool a0_4), PV.sc (Value.int IntKind.i64 a0_5), PV.sc (Value.bool a0_6), PV.lst false (1 : Nat) a0_7n a0_7, PV.sc (Value.int IntKind.i64 a0_8)], PV.sc (Value.int IntKind.u64 a1_4), PV.sc (Value.int IntKind.i64 a3)]) fun x7 x8 =>
         nilK (x8) <|
         consK (x7) fun x9 x10 =>
         intK (IntKind.i64) (x9) fun x11 =>
         nilK (x10) <|
         some (Res.mk [PV.sc (Value.int IntKind.i64 x11)] []))))))
     (
     brK (a2_0 != a0_5)
      (
      some (Res.mk [PV.sc (Value.int IntKind.i64 (40 : Int))] []))
      (
      brK (a2_0 != (2 : Int))
       (
       some (Res.mk [PV.sc (Value.int IntKind.i64 (0 : Int))] []))
       (
       brK (a3 == (0 : Int))
        (
        some (Res.mk [PV.sc (Value.int IntKind.i64 (38 : Int))] []))
        (
        callK (call (23 : Nat) [PV.agg [PV.sc (Value.int IntKind.i64 a0_0), PV.sc (Value.bool a0_1), PV.sc (Value.int IntKind.i64 a0_2), PV.sc (Value.int IntKind.i64 a0_3), PV.sc (Value.bool a0_4), PV.sc (Value.int IntKind.i64 a0_5), PV.sc (Value.bool a0_6), PV.lst false (1 : Nat) a0_7n a0_7, PV.sc (Value.int IntKind.i64 a0_8)], PV.sc (Value.int IntKind.u64 a1_4), PV.sc (Value.int IntKind.i64 a3)]) fun x12 x13 =>
        nilK (x13) <|
        consK (x12) fun x14 x15 =>
        intK (IntKind.i64) (x14) fun x16 =>
        nilK (x15) <|
        some (Res.mk [PV.sc (Value.int IntKind.i64 x16)] [])))))))) (pcall C0 Try.prog fu d) := by kernel_rfl

abbrev F_policy_SignsIn : FuncId := 16
theorem policy_SignsIn_e (fu d : Nat) (a0_0 : Int) (a0_1 : Bool) (a0_2 : Int) (a0_3 : Int) (a0_4 : Bool) (a0_5 : Int) (a0_6 : Bool) (a0_7n : Nat) (a0_7 : List PV) (a0_8 : Int) (a1_0 : Int) (a1_1 : Int) (a1_2 : Int) (a1_3 : Int) (a1_4 : Int) (a1_5n : Nat) (a1_5 : List PV) (a1_6 : Int) (a1_7 : Int) (a2_0n : Nat) (a2_0 : List PV) (a2_1 : Int) (a2_2 : Int) (a2_3 : Int) (a2_4 : Int) (a2_5 : Bool) (a2_6 : Int) (a2_7n : Nat) (a2_7 : List PV) (a2_8 : Bool) (a2_9 : Int) (a2_10 : Int) (a3 : Int) : pcall C0 Try.prog fu (d + 1) F_policy_SignsIn [PV.agg [PV.sc (Value.int IntKind.i64 a0_0), PV.sc (Value.bool a0_1), PV.sc (Value.int IntKind.i64 a0_2), PV.sc (Value.int IntKind.i64 a0_3), PV.sc (Value.bool a0_4), PV.sc (Value.int IntKind.i64 a0_5), PV.sc (Value.bool a0_6), PV.lst false (1 : Nat) a0_7n a0_7, PV.sc (Value.int IntKind.i64 a0_8)], PV.agg [PV.sc (Value.int IntKind.u64 a1_0), PV.sc (Value.int IntKind.i64 a1_1), PV.sc (Value.int IntKind.i64 a1_2), PV.sc (Value.int IntKind.i64 a1_3), PV.sc (Value.int IntKind.u64 a1_4), PV.lst false (1 : Nat) a1_5n a1_5, PV.sc (Value.int IntKind.i64 a1_6), PV.sc (Value.int IntKind.u64 a1_7)], PV.agg [PV.lst false (1 : Nat) a2_0n a2_0, PV.sc (Value.int IntKind.i64 a2_1), PV.sc (Value.int IntKind.u64 a2_2), PV.sc (Value.int IntKind.u64 a2_3), PV.sc (Value.int IntKind.i64 a2_4), PV.sc (Value.bool a2_5), PV.sc (Value.int IntKind.u64 a2_6), PV.lst false (2 : Nat) a2_7n a2_7, PV.sc (Value.bool a2_8), PV.sc (Value.int IntKind.i64 a2_9), PV.sc (Value.int IntKind.i64 a2_10)], PV.sc (Value.int IntKind.i64 a3)] = (fun (call : Call') =>
  callK (call (20 : Nat) [PV.agg [PV.sc (Value.int IntKind.i64 a0_0), PV.sc (Value.bool a0_1), PV.sc (Value.int IntKind.i64 a0_2), PV.sc (Value.int IntKind.i64 a0_3), PV.sc (Value.bool a0_4), PV.sc (Value.int IntKind.i64 a0_5), PV.sc (Value.bool a0_6), PV.lst false (1 : Nat) a0_7n a0_7, PV.sc (Value.int IntKind.i64 a0_8)], PV.agg [PV.sc (Value.int IntKind.u64 a1_0), PV.sc (Value.int IntKind.i64 a1_1), PV.sc (Value.int IntKind.i64 a1_2), PV.sc (Value.int IntKind.i64 a1_3), PV.sc (Value.int IntKind.u64 a1_4), PV.lst false (1 : Nat) a1_5n a1_5, PV.sc (Value.int IntKind.i64 a1_6), PV.sc (Value.int IntKind.u64 a1_7)]]) fun x1 x2 =>
  nilK (x2) <|
  consK (x1) fun x3 x4 =>
  intK (IntKind.i64) (x3) fun x5 =>
  nilK (x4) <|
  brK (x5 != (0 : Int))
   (
   some (Res.mk [PV.sc (Value.int IntKind.i64 x5)] []))
   (
   shareK (iand IntKind.i64 a1_1 (8 : Int)) fun x6 =>
   brK (!(x6 != (0 : Int)) == a2_5)
    (
    some (Res.mk [PV.sc (Value.int IntKind.i64 (40 : Int))] []))
    (
    brK (a2_3 == (0 : Int))
     (
     some (Res.mk [PV.sc (Value.int IntKind.i64 (0 : Int))] []))
     (
     callK (call (21 : Nat) [PV.agg [PV.sc (Value.int IntKind.i64 a0_0), PV.sc (Value.bool a0_1), PV.sc (Value.int IntKind.i64 a0_2), PV.sc (Value.int IntKind.i64 a0_3), PV.sc (Value.bool a0_4), PV.sc (Value.int IntKind.i64 a0_5), PV.sc (Value.bool a0_6), PV.lst false (1 : Nat) a0_7n a0_7, PV.sc (Value.int IntKind.i64 a0_8)], PV.sc (Value.int IntKind.u64 a2_3), PV.sc (Value.int IntKind.i64 a3)]) fun x7 x8 =>
     nilK (x8) <|
     consK (x7) fun x9 x10 =>
     intK (IntKind.i64) (x9) fun x11 =>
     nilK (x10) <|
     some (Res.mk [PV.sc (Value.int IntKind.i64 x11)] []))))) (pcall C0 Try.prog fu d) := by kernel_rfl

abbrev F_passkeyref29_SignsIn : FuncId := 17
theorem passkeyref29_SignsIn_e (fu d : Nat) (a0_0 : Int) (a0_1 : Bool) (a0_2 : Int) (a0_3 : Int) (a0_4 : Bool) (a0_5 : Int) (a0_6 : Bool) (a0_7n : Nat) (a0_7 : List PV) (a0_8 : Int) (a1_0 : Int) (a1_1 : Int) (a1_2 : Int) (a1_3 : Int) (a1_4 : Int) (a1_5n : Nat) (a1_5 : List PV) (a1_6 : Int) (a1_7 : Int) (a2_0n : Nat) (a2_0 : List PV) (a2_1 : Int) (a2_2 : Int) (a2_3 : Int) (a2_4 : Int) (a2_5 : Bool) (a2_6 : Int) (a2_7n : Nat) (a2_7 : List PV) (a2_8 : Bool) (a2_9 : Int) (a2_10 : Int) (a3 : Int) : pcall C0 Try.prog fu (d + 1) F_passkeyref29_SignsIn [PV.agg [PV.sc (Value.int IntKind.i64 a0_0), PV.sc (Value.bool a0_1), PV.sc (Value.int IntKind.i64 a0_2), PV.sc (Value.int IntKind.i64 a0_3), PV.sc (Value.bool a0_4), PV.sc (Value.int IntKind.i64 a0_5), PV.sc (Value.bool a0_6), PV.lst false (1 : Nat) a0_7n a0_7, PV.sc (Value.int IntKind.i64 a0_8)], PV.agg [PV.sc (Value.int IntKind.u64 a1_0), PV.sc (Value.int IntKind.i64 a1_1), PV.sc (Value.int IntKind.i64 a1_2), PV.sc (Value.int IntKind.i64 a1_3), PV.sc (Value.int IntKind.u64 a1_4), PV.lst false (1 : Nat) a1_5n a1_5, PV.sc (Value.int IntKind.i64 a1_6), PV.sc (Value.int IntKind.u64 a1_7)], PV.agg [PV.lst false (1 : Nat) a2_0n a2_0, PV.sc (Value.int IntKind.i64 a2_1), PV.sc (Value.int IntKind.u64 a2_2), PV.sc (Value.int IntKind.u64 a2_3), PV.sc (Value.int IntKind.i64 a2_4), PV.sc (Value.bool a2_5), PV.sc (Value.int IntKind.u64 a2_6), PV.lst false (2 : Nat) a2_7n a2_7, PV.sc (Value.bool a2_8), PV.sc (Value.int IntKind.i64 a2_9), PV.sc (Value.int IntKind.i64 a2_10)], PV.sc (Value.int IntKind.i64 a3)] = (fun (call : Call') =>
  callK (call (22 : Nat) [PV.agg [PV.sc (Value.int IntKind.i64 a0_0), PV.sc (Value.bool a0_1), PV.sc (Value.int IntKind.i64 a0_2), PV.sc (Value.int IntKind.i64 a0_3), PV.sc (Value.bool a0_4), PV.sc (Value.int IntKind.i64 a0_5), PV.sc (Value.bool a0_6), PV.lst false (1 : Nat) a0_7n a0_7, PV.sc (Value.int IntKind.i64 a0_8)], PV.sc (Value.int IntKind.i64 a1_1)]) fun x1 x2 =>
  nilK (x2) <|
  consK (x1) fun x3 x4 =>
  intK (IntKind.i64) (x3) fun x5 =>
  nilK (x4) <|
  brK (x5 != (0 : Int))
   (
   some (Res.mk [PV.sc (Value.int IntKind.i64 x5)] []))
   (
   shareK (iand IntKind.i64 a1_1 (8 : Int)) fun x6 =>
   brK (!(x6 != (0 : Int)) == a2_5)
    (
    some (Res.mk [PV.sc (Value.int IntKind.i64 (40 : Int))] []))
    (
    brK (a2_3 == (0 : Int))
     (
     some (Res.mk [PV.sc (Value.int IntKind.i64 (0 : Int))] []))
     (
     callK (call (23 : Nat) [PV.agg [PV.sc (Value.int IntKind.i64 a0_0), PV.sc (Value.bool a0_1), PV.sc (Value.int IntKind.i64 a0_2), PV.sc (Value.int IntKind.i64 a0_3), PV.sc (Value.bool a0_4), PV.sc (Value.int IntKind.i64 a0_5), PV.sc (Value.bool a0_6), PV.lst false (1 : Nat) a0_7n a0_7, PV.sc (Value.int IntKind.i64 a0_8)], PV.sc (Value.int IntKind.u64 a2_3), PV.sc (Value.int IntKind.i64 a3)]) fun x7 x8 =>
     nilK (x8) <|
     consK (x7) fun x9 x10 =>
     intK (IntKind.i64) (x9) fun x11 =>
     nilK (x10) <|
     some (Res.mk [PV.sc (Value.int IntKind.i64 x11)] []))))) (pcall C0 Try.prog fu d) := by kernel_rfl

abbrev F_policy_checkConsent : FuncId := 20
theorem policy_checkConsent_e (fu d : Nat) (a0_0 : Int) (a0_1 : Bool) (a0_2 : Int) (a0_3 : Int) (a0_4 : Bool) (a0_5 : Int) (a0_6 : Bool) (a0_7n : Nat) (a0_7 : List PV) (a0_8 : Int) (a1_0 : Int) (a1_1 : Int) (a1_2 : Int) (a1_3 : Int) (a1_4 : Int) (a1_5n : Nat) (a1_5 : List PV) (a1_6 : Int) (a1_7 : Int) : pcall C0 Try.prog fu (d + 1) F_policy_checkConsent [PV.agg [PV.sc (Value.int IntKind.i64 a0_0), PV.sc (Value.bool a0_1), PV.sc (Value.int IntKind.i64 a0_2), PV.sc (Value.int IntKind.i64 a0_3), PV.sc (Value.bool a0_4), PV.sc (Value.int IntKind.i64 a0_5), PV.sc (Value.bool a0_6), PV.lst false (1 : Nat) a0_7n a0_7, PV.sc (Value.int IntKind.i64 a0_8)], PV.agg [PV.sc (Value.int IntKind.u64 a1_0), PV.sc (Value.int IntKind.i64 a1_1), PV.sc (Value.int IntKind.i64 a1_2), PV.sc (Value.int IntKind.i64 a1_3), PV.sc (Value.int IntKind.u64 a1_4), PV.lst false (1 : Nat) a1_5n a1_5, PV.sc (Value.int IntKind.i64 a1_6), PV.sc (Value.int IntKind.u64 a1_7)]] = (fun (call : Call') =>
  shareK (iand IntKind.i64 a1_1 (1 : Int)) fun x1 =>
  brK (x1 == (0 : Int))
   (
   some (Res.mk [PV.sc (Value.int IntKind.i64 (22 : Int))] []))
   (
   brK (a0_0 == (2 : Int))
    (
    shareK (iand IntKind.i64 a1_1 (4 : Int)) fun x2 =>
    brK (x2 == (0 : Int))
     (
     some (Res.mk [PV.sc (Value.int IntKind.i64 (23 : Int))] []))
     (
     some (Res.mk [PV.sc (Value.int IntKind.i64 (0 : Int))] [])))
    (
    some (Res.mk [PV.sc (Value.int IntKind.i64 (0 : Int))] [])))) (pcall C0 Try.prog fu d) := by kernel_rfl

abbrev F_policy_checkModel : FuncId := 21
theorem policy_checkModel_e (fu d : Nat) (a0_0 : Int) (a0_1 : Bool) (a0_2 : Int) (a0_3 : Int) (a0_4 : Bool) (a0_5 : Int) (a0_6 : Bool) (a0_7n : Nat) (a0_7 : List PV) (a0_8 : Int) (a1 : Int) (a2 : Int) : pcall C0 Try.prog fu (d + 1) F_policy_checkModel [PV.agg [PV.sc (Value.int IntKind.i64 a0_0), PV.sc (Value.bool a0_1), PV.sc (Value.int IntKind.i64 a0_2), PV.sc (Value.int IntKind.i64 a0_3), PV.sc (Value.bool a0_4), PV.sc (Value.int IntKind.i64 a0_5), PV.sc (Value.bool a0_6), PV.lst false (1 : Nat) a0_7n a0_7, PV.sc (Value.int IntKind.i64 a0_8)], PV.sc (Value.int IntKind.u64 a1), PV.sc (Value.int IntKind.i64 a2)] = (fun (call : Call') =>
  brK (a2 == (3 : Int))
   (
   some (Res.mk [PV.sc (Value.int IntKind.i64 (39 : Int))] []))
   (
   brK (a2 == (4 : Int))
    (
    some (Res.mk [PV.sc (Value.int IntKind.i64 (39 : Int))] []))
    (
    callK (call (24 : Nat) [PV.lst false (1 : Nat) a0_7n a0_7, PV.sc (Value.int IntKind.u64 a1)]) fun x1 x2 =>
    nilK (x2) <|
    consK (x1) fun x3 x4 =>
    boolK (x3) fun x5 =>
    nilK (x4) <|
    brK (x5)
     (
     some (Res.mk [PV.sc (Value.int IntKind.i64 (40 : Int))] []))
     (
     brK (a2 == (2 : Int))
      (
      brK (!a0_6)
       (
       some (Res.mk [PV.sc (Value.int IntKind.i64 (40 : Int))] []))
       (
       some (Res.mk [PV.sc (Value.int IntKind.i64 (0 : Int))] [])))
      (
      some (Res.mk [PV.sc (Value.int IntKind.i64 (0 : Int))] [])))))) (pcall C0 Try.prog fu d) := by kernel_rfl

abbrev F_passkeyref29_consent : FuncId := 22
theorem passkeyref29_consent_e (fu d : Nat) (a0_0 : Int) (a0_1 : Bool) (a0_2 : Int) (a0_3 : Int) (a0_4 : Bool) (a0_5 : Int) (a0_6 : Bool) (a0_7n : Nat) (a0_7 : List PV) (a0_8 : Int) (a1 : Int) : pcall C0 Try.prog fu (d + 1) F_passkeyref29_consent [PV.agg [PV.sc (Value.int IntKind.i64 a0_0), PV.sc (Value.bool a0_1), PV.sc (Value.int IntKind.i64 a0_2), PV.sc (Value.int IntKind.i64 a0_3), PV.sc (Value.bool a0_4), PV.sc (Value.int IntKind.i64 a0_5), PV.sc (Value.bool a0_6), PV.lst false (1 : Nat) a0_7n a0_7, PV.sc (Value.int IntKind.i64 a0_8)], PV.sc (Value.int IntKind.i64 a1)] = (fun (call : Call') =>
  shareK (iand IntKind.i64 a1 (1 : Int)) fun x1 =>
  brK (x1 == (0 : Int))
   (
   some (Res.mk [PV.sc (Value.int IntKind.i64 (22 : Int))] []))
   (
   brK (a0_0 == (2 : Int))
    (
    shareK (iand IntKind.i64 a1 (4 : Int)) fun x2 =>
    brK (x2 == (0 : Int))
     (
     some (Res.mk [PV.sc (Value.int IntKind.i64 (23 : Int))] []))
     (
     some (Res.mk [PV.sc (Value.int IntKind.i64 (0 : Int))] [])))
    (
    some (Res.mk [PV.sc (Value.int IntKind.i64 (0 : Int))] [])))) (pcall C0 Try.prog fu d) := by kernel_rfl

abbrev F_passkeyref29_model : FuncId := 23
noncomputable def passkeyref29_model_L0 (fu : Nat) (call : Call') (a0_0 : Int) (a0_1 : Bool) (a0_2 : Int) (a0_3 : Int) (a0_4 : Bool) (a0_5 : Int) (a0_6 : Bool) (a0_7n : Nat) (a0_7 : List PV) (a0_8 : Int) (a1 : Int) (a2 : Int)  (nn : Nat) (y0 : Int) (y1 : Int) (y2 : Int) (y3 : Int) (y4 : Bool) (y5 : Int) (y6 : Int) (y7 : Bool) (y8 : Int) (y9 : Bool) (y10 : Nat) (y11 : List PV) (y12 : Int) : Option Res :=
  floop C0 Try.prog fu call 23 Try.f23 (bodyOf Try.f23) [PV.agg [PV.sc (Value.int IntKind.i64 a0_0), PV.sc (Value.bool a0_1), PV.sc (Value.int IntKind.i64 a0_2), PV.sc (Value.int IntKind.i64 a0_3), PV.sc (Value.bool a0_4), PV.sc (Value.int IntKind.i64 a0_5), PV.sc (Value.bool a0_6), PV.lst false (1 : Nat) a0_7n a0_7, PV.sc (Value.int IntKind.i64 a0_8)], PV.sc (Value.int IntKind.u64 a1), PV.sc (Value.int IntKind.i64 a2)] [.r, .r, .l, .r, .l] nn ⟨lk [(1, (.sc (.int .u64 y0))), (2, (.sc (.int .i64 y1))), (3, (.ptr 3 0)), (7, (.sc (.int .i64 y2)))], lkh [(3, (.st [(.sc (.int .i64 y3)), (.sc (.bool y4)), (.sc (.int .i64 y5)), (.sc (.int .i64 y6)), (.sc (.bool y7)), (.sc (.int .i64 y8)), (.sc (.bool y9)), (.lst false 1 y10 y11), (.sc (.int .i64 y12))]))]⟩

theorem passkeyref29_model_L0_s (fu : Nat) (call : Call') (a0_0 : Int) (a0_1 : Bool) (a0_2 : Int) (a0_3 : Int) (a0_4 : Bool) (a0_5 : Int) (a0_6 : Bool) (a0_7n : Nat) (a0_7 : List PV) (a0_8 : Int) (a1 : Int) (a2 : Int)  (nn : Nat) (y0 : Int) (y1 : Int) (y2 : Int) (y3 : Int) (y4 : Bool) (y5 : Int) (y6 : Int) (y7 : Bool) (y8 : Int) (y9 : Bool) (y10 : Nat) (y11 : List PV) (y12 : Int) : passkeyref29_model_L0 fu call a0_0 a0_1 a0_2 a0_3 a0_4 a0_5 a0_6 a0_7n a0_7 a0_8 a1 a2  (nn + 1) y0 y1 y2 y3 y4 y5 y6 y7 y8 y9 y10 y11 y12 =
  brK (decide (y2 < (↑y10 : Int)))
   (
   chk (decide ((0 : Int) ≤ y2) && decide (y2 < (↑y10 : Int))) <|
   intK (IntKind.u64) (List.getD y11 (Int.toNat y2 * (1 : Nat)) PV.top) fun x1 =>
   brK (x1 == y0)
    (
    some (Res.mk [PV.sc (Value.int IntKind.i64 (40 : Int))] []))
    (
    shareK (IntKind.wrap IntKind.i64 (y2 + (1 : Int))) fun x2 =>
    passkeyref29_model_L0 fu call a0_0 a0_1 a0_2 a0_3 a0_4 a0_5 a0_6 a0_7n a0_7 a0_8 a1 a2 (nn) (y0) (y1) (x2) (y3) (y4) (y5) (y6) (y7) (y8) (y9) (y10) (y11) (y12)))
   (
   brK (y1 == (2 : Int))
    (
    brK (!y9)
     (
     some (Res.mk [PV.sc (Value.int IntKind.i64 (40 : Int))] []))
     (
     some (Res.mk [PV.sc (Value.int IntKind.i64 (0 : Int))] [])))
    (
    some (Res.mk [PV.sc (Value.int IntKind.i64 (0 : Int))] []))) := by kernel_rfl

theorem passkeyref29_model_e (fu d : Nat) (a0_0 : Int) (a0_1 : Bool) (a0_2 : Int) (a0_3 : Int) (a0_4 : Bool) (a0_5 : Int) (a0_6 : Bool) (a0_7n : Nat) (a0_7 : List PV) (a0_8 : Int) (a1 : Int) (a2 : Int) : pcall C0 Try.prog fu (d + 1) F_passkeyref29_model [PV.agg [PV.sc (Value.int IntKind.i64 a0_0), PV.sc (Value.bool a0_1), PV.sc (Value.int IntKind.i64 a0_2), PV.sc (Value.int IntKind.i64 a0_3), PV.sc (Value.bool a0_4), PV.sc (Value.int IntKind.i64 a0_5), PV.sc (Value.bool a0_6), PV.lst false (1 : Nat) a0_7n a0_7, PV.sc (Value.int IntKind.i64 a0_8)], PV.sc (Value.int IntKind.u64 a1), PV.sc (Value.int IntKind.i64 a2)] = (fun (call : Call') =>
  brK (a2 == (3 : Int))
   (
   some (Res.mk [PV.sc (Value.int IntKind.i64 (39 : Int))] []))
   (
   brK (a2 == (4 : Int))
    (
    some (Res.mk [PV.sc (Value.int IntKind.i64 (39 : Int))] []))
    (
    passkeyref29_model_L0 fu call a0_0 a0_1 a0_2 a0_3 a0_4 a0_5 a0_6 a0_7n a0_7 a0_8 a1 a2 (fu) (a1) (a2) ((0 : Int)) (a0_0) (a0_1) (a0_2) (a0_3) (a0_4) (a0_5) (a0_6) (a0_7n) (a0_7) (a0_8)))) (pcall C0 Try.prog fu d) := by kernel_rfl

abbrev F_slices_Contains_uint64 : FuncId := 24
theorem slices_Contains_uint64_e (fu d : Nat) (a0n : Nat) (a0 : List PV) (a1 : Int) : pcall C0 Try.prog fu (d + 1) F_slices_Contains_uint64 [PV.lst false (1 : Nat) a0n a0, PV.sc (Value.int IntKind.u64 a1)] = (fun (call : Call') =>
  callK (call (25 : Nat) [PV.lst false (1 : Nat) a0n a0, PV.sc (Value.int IntKind.u64 a1)]) fun x1 x2 =>
  nilK (x2) <|
  consK (x1) fun x3 x4 =>
  intK (IntKind.i64) (x3) fun x5 =>
  nilK (x4) <|
  some (Res.mk [PV.sc (Value.bool (decide (x5 ≥ (0 : Int))))] [])) (pcall C0 Try.prog fu d) := by kernel_rfl

abbrev F_slices_Index_uint64 : FuncId := 25
noncomputable def slices_Index_uint64_L0 (fu : Nat) (call : Call') (a0n : Nat) (a0 : List PV) (a1 : Int)  (nn : Nat) (y0 : Nat) (y1 : List PV) (y2 : Int) (y3 : Int) (y4 : Int) : Option Res :=
  floop C0 Try.prog fu call 25 Try.f25 (bodyOf Try.f25) [PV.lst false (1 : Nat) a0n a0, PV.sc (Value.int IntKind.u64 a1)] [.r, .l, .r, .l] nn ⟨lk [(0, (.lst false 1 y0 y1)), (1, (.sc (.int .u64 y2))), (7, (.sc (.int .i64 y3))), (8, (.sc (.int .i64 y4)))], lkh []⟩

theorem slices_Index_uint64_L0_s (fu : Nat) (call : Call') (a0n : Nat) (a0 : List PV) (a1 : Int)  (nn : Nat) (y0 : Nat) (y1 : List PV) (y2 : Int) (y3 : Int) (y4 : Int) : slices_Index_uint64_L0 fu call a0n a0 a1  (nn + 1) y0 y1 y2 y3 y4 =
  brK (decide (y4 < y3))
   (
   chk (decide ((0 : Int) ≤ y4) && decide (y4 < (↑y0 : Int))) <|
   intK (IntKind.u64) (List.getD y1 (Int.toNat y4 * (1 : Nat)) PV.top) fun x1 =>
   brK (y2 == x1)
    (
    some (Res.mk [PV.sc (Value.int IntKind.i64 y4)] []))
    (
    shareK (IntKind.wrap IntKind.i64 (y4 + (1 : Int))) fun x2 =>
    slices_Index_uint64_L0 fu call a0n a0 a1 (nn) (y0) (y1) (y2) (y3) (x2)))
   (
   some (Res.mk [PV.sc (Value.int IntKind.i64 (-1 : Int))] [])) := by kernel_rfl

theorem slices_Index_uint64_e (fu d : Nat) (a0n : Nat) (a0 : List PV) (a1 : Int) : pcall C0 Try.prog fu (d + 1) F_slices_Index_uint64 [PV.lst false (1 : Nat) a0n a0, PV.sc (Value.int IntKind.u64 a1)] = (fun (call : Call') =>
  slices_Index_uint64_L0 fu call a0n a0 a1 (fu) (a0n) (a0) (a1) ((↑a0n : Int)) ((0 : Int))) (pcall C0 Try.prog fu d) := by kernel_rfl

abbrev F_passkeylaw31_awake : FuncId := 7
theorem passkeylaw31_awake_e (fu d : Nat)  : pcall C0 Try.prog fu (d + 1) F_passkeylaw31_awake [] = (fun (call : Call') =>
  callK (call (11 : Nat) [PV.agg [PV.sc (Value.int IntKind.i64 (2 : Int)), PV.sc (Value.bool false), PV.sc (Value.int IntKind.i64 (1 : Int)), PV.sc (Value.int IntKind.i64 (1 : Int)), PV.sc (Value.bool false), PV.sc (Value.int IntKind.i64 (0 : Int)), PV.sc (Value.bool false), PV.lst false (1 : Nat) (0 : Nat) [], PV.sc (Value.int IntKind.i64 (1 : Int))]]) fun x1 x2 =>
  nilK (x2) <|
  consK (x1) fun x3 x4 =>
  intK (IntKind.i64) (x3) fun x5 =>
  nilK (x4) <|
  brK (x5 == (0 : Int))
   (
   callK (call (11 : Nat) [PV.agg [PV.sc (Value.int IntKind.i64 (0 : Int)), PV.sc (Value.bool false), PV.sc (Value.int IntKind.i64 (0 : Int)), PV.sc (Value.int IntKind.i64 (0 : Int)), PV.sc (Value.bool false), PV.sc (Value.int IntKind.i64 (0 : Int)), PV.sc (Value.bool false), PV.lst false (1 : Nat) (0 : Nat) [], PV.sc (Value.int IntKind.i64 (0 : Int))]]) fun x6 x7 =>
   nilK (x7) <|
   consK (x6) fun x8 x9 =>
   intK (IntKind.i64) (x8) fun x10 =>
   nilK (x9) <|
   brK (x10 == (9 : Int))
    (
    callK (call (16 : Nat) [PV.agg [PV.sc (Value.int IntKind.i64 (2 : Int)), PV.sc (Value.bool false), PV.sc (Value.int IntKind.i64 (1 : Int)), PV.sc (Value.int IntKind.i64 (1 : Int)), PV.sc (Value.bool false), PV.sc (Value.int IntKind.i64 (0 : Int)), PV.sc (Value.bool false), PV.lst false (1 : Nat) (0 : Nat) [], PV.sc (Value.int IntKind.i64 (1 : Int))], PV.agg [PV.sc (Value.int IntKind.u64 (0 : Int)), PV.sc (Value.int IntKind.i64 (1 : Int)), PV.sc (Value.int IntKind.i64 (0 : Int)), PV.sc (Value.int IntKind.i64 (0 : Int)), PV.sc (Value.int IntKind.u64 (0 : Int)), PV.lst false (1 : Nat) (0 : Nat) [], PV.sc (Value.int IntKind.i64 (0 : Int)), PV.sc (Value.int IntKind.u64 (0 : Int))], PV.agg [PV.lst false (1 : Nat) (0 : Nat) [], PV.sc (Value.int IntKind.i64 (0 : Int)), PV.sc (Value.int IntKind.u64 (0 : Int)), PV.sc (Value.int IntKind.u64 (0 : Int)), PV.sc (Value.int IntKind.i64 (0 : Int)), PV.sc (Value.bool false), PV.sc (Value.int IntKind.u64 (0 : Int)), PV.lst false (2 : Nat) (0 : Nat) [], PV.sc (Value.bool false), PV.sc (Value.int IntKind.i64 (0 : Int)), PV.sc (Value.int IntKind.i64 (0 : Int))], PV.sc (Value.int IntKind.i64 (0 : Int))]) fun x11 x12 =>
    nilK (x12) <|
    consK (x11) fun x13 x14 =>
    intK (IntKind.i64) (x13) fun x15 =>
    nilK (x14) <|
    brK (x15 == (23 : Int))
     (
     callK (call (16 : Nat) [PV.agg [PV.sc (Value.int IntKind.i64 (2 : Int)), PV.sc (Value.bool false), PV.sc (Value.int IntKind.i64 (1 : Int)), PV.sc (Value.int IntKind.i64 (1 : Int)), PV.sc (Value.bool false), PV.sc (Value.int IntKind.i64 (0 : Int)), PV.sc (Value.bool false), PV.lst false (1 : Nat) (0 : Nat) [], PV.sc (Value.int IntKind.i64 (1 : Int))], PV.agg [PV.sc (Value.int IntKind.u64 (0 : Int)), PV.sc (Value.int IntKind.i64 (5 : Int)), PV.sc (Value.int IntKind.i64 (0 : Int)), PV.sc (Value.int IntKind.i64 (0 : Int)), PV.sc (Value.int IntKind.u64 (0 : Int)), PV.lst false (1 : Nat) (0 : Nat) [], PV.sc (Value.int IntKind.i64 (0 : Int)), PV.sc (Value.int IntKind.u64 (0 : Int))], PV.agg [PV.lst false (1 : Nat) (0 : Nat) [], PV.sc (Value.int IntKind.i64 (0 : Int)), PV.sc (Value.int IntKind.u64 (0 : Int)), PV.sc (Value.int IntKind.u64 (0 : Int)), PV.sc (Value.int IntKind.i64 (0 : Int)), PV.sc (Value.bool false), PV.sc (Value.int IntKind.u64 (0 : Int)), PV.lst false (2 : Nat) (0 : Nat) [], PV.sc (Value.bool false), PV.sc (Value.int IntKind.i64 (0 : Int)), PV.sc (Value.int IntKind.i64 (0 : Int))], PV.sc (Value.int IntKind.i64 (0 : Int))]) fun x16 x17 =>
     nilK (x17) <|
     consK (x16) fun x18 x19 =>
     intK (IntKind.i64) (x18) fun x20 =>
     nilK (x19) <|
     brK (x20 == (0 : Int))
      (
      callK (call (14 : Nat) [PV.agg [PV.sc (Value.int IntKind.i64 (2 : Int)), PV.sc (Value.bool false), PV.sc (Value.int IntKind.i64 (1 : Int)), PV.sc (Value.int IntKind.i64 (1 : Int)), PV.sc (Value.bool false), PV.sc (Value.int IntKind.i64 (0 : Int)), PV.sc (Value.bool false), PV.lst false (1 : Nat) (0 : Nat) [], PV.sc (Value.int IntKind.i64 (1 : Int))], PV.agg [PV.sc (Value.int IntKind.u64 (0 : Int)), PV.sc (Value.int IntKind.i64 (0 : Int)), PV.sc (Value.int IntKind.i64 (0 : Int)), PV.sc (Value.int IntKind.i64 (0 : Int)), PV.sc (Value.int IntKind.u64 (0 : Int)), PV.lst false (1 : Nat) (0 : Nat) [], PV.sc (Value.int IntKind.i64 (0 : Int)), PV.sc (Value.int IntKind.u64 (0 : Int))], PV.agg [PV.sc (Value.int IntKind.i64 (0 : Int)), PV.sc (Value.int IntKind.i64 (0 : Int)), PV.sc (Value.int IntKind.i64 (0 : Int))], PV.sc (Value.int IntKind.i64 (0 : Int))]) fun x21 x22 =>
      nilK (x22) <|
      consK (x21) fun x23 x24 =>
      intK (IntKind.i64) (x23) fun x25 =>
      nilK (x24) <|
      some (Res.mk [PV.sc (Value.bool (x25 == (22 : Int)))] []))
      (
      some (Res.mk [PV.sc (Value.bool false)] [])))
     (
     some (Res.mk [PV.sc (Value.bool false)] [])))
    (
    some (Res.mk [PV.sc (Value.bool false)] [])))
   (
   some (Res.mk [PV.sc (Value.bool false)] []))) (pcall C0 Try.prog fu d) := by kernel_rfl

end Go.Proofs.Ytoihfmiifeegpaa.Pv
