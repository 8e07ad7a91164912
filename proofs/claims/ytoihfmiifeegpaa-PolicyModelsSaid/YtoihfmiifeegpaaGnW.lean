/-
  What the functions compute, step by step: written by a program (wip/tools/gen.py).
-/
import Derived.Test.YtoihfmiifeegpaaPvL
import Derived.Test.YtoihfmiifeegpaaRows
set_option maxRecDepth 100000
set_option linter.unusedVariables false
namespace Go.Proofs.Ytoihfmiifeegpaa.Pv

abbrev F_passkeylaw31_PolicyValidates : FuncId := 3
noncomputable def passkeylaw31_PolicyValidates_L0 (fu : Nat) (call : Call') (a0_0 : Int) (a0_1 : Bool) (a0_2 : Int) (a0_3 : Int) (a0_4 : Bool) (a0_5 : Int) (a0_6 : Bool) (a0_7n : Nat) (a0_7 : List PV) (a0_8 : Int) (a1n : Nat) (a1 : List PV)  (nn : Nat) (y0 : Int) (y1 : Int) (y2 : Bool) (y3 : Int) (y4 : Int) (y5 : Bool) (y6 : Int) (y7 : Bool) (y8 : Nat) (y9 : List PV) (y10 : Int) (y11 : Int) (y12 : Bool) (y13 : Int) (y14 : Int) (y15 : Bool) (y16 : Int) (y17 : Bool) (y18 : Nat) (y19 : Int) (y20 : List PV) : Option Res :=
  floop C0 Try.prog fu call 3 Try.f3 (bodyOf Try.f3) [PV.agg [PV.sc (Value.int IntKind.i64 a0_0), PV.sc (Value.bool a0_1), PV.sc (Value.int IntKind.i64 a0_2), PV.sc (Value.int IntKind.i64 a0_3), PV.sc (Value.bool a0_4), PV.sc (Value.int IntKind.i64 a0_5), PV.sc (Value.bool a0_6), PV.lst false (1 : Nat) a0_7n a0_7, PV.sc (Value.int IntKind.i64 a0_8)], PV.lst false (1 : Nat) a1n a1] [.r, .r, .r, .r, .l, .r, .l, .r, .r, .r, .r, .r, .r, .r, .r, .r, .r, .r, .l, .r, .r, .l] nn ⟨lk [(2, (.ptr 2 0)), (6, (.ptr 6 0)), (7, (.sc (.int .i64 y0)))], lkh [(2, (.st [(.sc (.int .i64 y1)), (.sc (.bool y2)), (.sc (.int .i64 y3)), (.sc (.int .i64 y4)), (.sc (.bool y5)), (.sc (.int .i64 y6)), (.sc (.bool y7)), (.lst false 1 y8 y9), (.sc (.int .i64 y10))])), (6, (.st [(.sc (.int .i64 y11)), (.sc (.bool y12)), (.sc (.int .i64 y13)), (.sc (.int .i64 y14)), (.sc (.bool y15)), (.sc (.int .i64 y16)), (.sc (.bool y17)), (.view 758 1 0 y18), (.sc (.int .i64 y19))])), (758, (.ar false y20))]⟩

theorem passkeylaw31_PolicyValidates_L0_s (fu : Nat) (call : Call') (a0_0 : Int) (a0_1 : Bool) (a0_2 : Int) (a0_3 : Int) (a0_4 : Bool) (a0_5 : Int) (a0_6 : Bool) (a0_7n : Nat) (a0_7 : List PV) (a0_8 : Int) (a1n : Nat) (a1 : List PV)  (nn : Nat) (y0 : Int) (y1 : Int) (y2 : Bool) (y3 : Int) (y4 : Int) (y5 : Bool) (y6 : Int) (y7 : Bool) (y8 : Nat) (y9 : List PV) (y10 : Int) (y11 : Int) (y12 : Bool) (y13 : Int) (y14 : Int) (y15 : Bool) (y16 : Int) (y17 : Bool) (y18 : Nat) (y19 : Int) (y20 : List PV) : passkeylaw31_PolicyValidates_L0 fu call a0_0 a0_1 a0_2 a0_3 a0_4 a0_5 a0_6 a0_7n a0_7 a0_8 a1n a1  (nn + 1) y0 y1 y2 y3 y4 y5 y6 y7 y8 y9 y10 y11 y12 y13 y14 y15 y16 y17 y18 y19 y20 =
  brK (decide (y0 > (0 : Int)))
   (
   shareK (IntKind.wrap IntKind.u64 (↑y18 : Int)) fun x379 =>
   chk (decide (y18 * (1 : Nat) ≤ List.length y20) && true && decide ((y18 + (1 : Nat)) * (8 : Nat) ≤ (1099511627776 : Nat)) && decide (y18 + (1 : Nat) ≤ (1099511627776 : Nat))) <|
   shareK (y18 + (1 : Nat)) fun x380 =>
   shareK (List.take (y18 * (1 : Nat)) y20 ++ [PV.sc (Value.int IntKind.u64 x379)]) fun x381 =>
   shareK (IntKind.wrap IntKind.i64 (y0 - (1 : Int))) fun x382 =>
   passkeylaw31_PolicyValidates_L0 fu call a0_0 a0_1 a0_2 a0_3 a0_4 a0_5 a0_6 a0_7n a0_7 a0_8 a1n a1 (nn) (x382) (y1) (y2) (y3) (y4) (y5) (y6) (y7) (y8) (y9) (y10) (y11) (y12) (y13) (y14) (y15) (y16) (y17) (x380) (y19) (x381))
   (
   callK (call (11 : Nat) [PV.agg [PV.sc (Value.int IntKind.i64 y1), PV.sc (Value.bool y2), PV.sc (Value.int IntKind.i64 y3), PV.sc (Value.int IntKind.i64 y4), PV.sc (Value.bool y5), PV.sc (Value.int IntKind.i64 y6), PV.sc (Value.bool y7), PV.lst false (1 : Nat) y8 y9, PV.sc (Value.int IntKind.i64 y10)]]) fun x383 x384 =>
   nilK (x384) <|
   consK (x383) fun x385 x386 =>
   intK (IntKind.i64) (x385) fun x387 =>
   nilK (x386) <|
   callK (call (12 : Nat) [PV.agg [PV.sc (Value.int IntKind.i64 y1), PV.sc (Value.bool y2), PV.sc (Value.int IntKind.i64 y3), PV.sc (Value.int IntKind.i64 y4), PV.sc (Value.bool y5), PV.sc (Value.int IntKind.i64 y6), PV.sc (Value.bool y7), PV.lst false (1 : Nat) y8 y9, PV.sc (Value.int IntKind.i64 y10)]]) fun x388 x389 =>
   nilK (x389) <|
   consK (x388) fun x390 x391 =>
   intK (IntKind.i64) (x390) fun x392 =>
   nilK (x391) <|
   brK (x387 == x392)
    (
    chk (decide ((0 : Nat) + y18 * (1 : Nat) ≤ List.length y20)) <|
    callK (call (11 : Nat) [PV.agg [PV.sc (Value.int IntKind.i64 y11), PV.sc (Value.bool y12), PV.sc (Value.int IntKind.i64 y13), PV.sc (Value.int IntKind.i64 y14), PV.sc (Value.bool y15), PV.sc (Value.int IntKind.i64 y16), PV.sc (Value.bool y17), PV.lst false (1 : Nat) y18 (List.take (y18 * (1 : Nat)) (List.drop (0 : Nat) y20)), PV.sc (Value.int IntKind.i64 y19)]]) fun x393 x394 =>
    nilK (x394) <|
    consK (x393) fun x395 x396 =>
    intK (IntKind.i64) (x395) fun x397 =>
    nilK (x396) <|
    chk (decide ((0 : Nat) + y18 * (1 : Nat) ≤ List.length y20)) <|
    callK (call (12 : Nat) [PV.agg [PV.sc (Value.int IntKind.i64 y11), PV.sc (Value.bool y12), PV.sc (Value.int IntKind.i64 y13), PV.sc (Value.int IntKind.i64 y14), PV.sc (Value.bool y15), PV.sc (Value.int IntKind.i64 y16), PV.sc (Value.bool y17), PV.lst false (1 : Nat) y18 (List.take (y18 * (1 : Nat)) (List.drop (0 : Nat) y20)), PV.sc (Value.int IntKind.i64 y19)]]) fun x398 x399 =>
    nilK (x399) <|
    consK (x398) fun x400 x401 =>
    intK (IntKind.i64) (x400) fun x402 =>
    nilK (x401) <|
    brK (x397 == x402)
     (
     callK (call (7 : Nat) []) fun x403 x404 =>
     nilK (x404) <|
     consK (x403) fun x405 x406 =>
     boolK (x405) fun x407 =>
     nilK (x406) <|
     some (Res.mk [PV.sc (Value.bool x407)] []))
     (
     some (Res.mk [PV.sc (Value.bool false)] [])))
    (
    some (Res.mk [PV.sc (Value.bool false)] []))) := by kernel_rfl

theorem passkeylaw31_PolicyValidates_e (fu d : Nat) (a0_0 : Int) (a0_1 : Bool) (a0_2 : Int) (a0_3 : Int) (a0_4 : Bool) (a0_5 : Int) (a0_6 : Bool) (a0_7n : Nat) (a0_7 : List PV) (a0_8 : Int) (a1n : Nat) (a1 : List PV) : pcall C0 Try.prog fu (d + 1) F_passkeylaw31_PolicyValidates [PV.agg [PV.sc (Value.int IntKind.i64 a0_0), PV.sc (Value.bool a0_1), PV.sc (Value.int IntKind.i64 a0_2), PV.sc (Value.int IntKind.i64 a0_3), PV.sc (Value.bool a0_4), PV.sc (Value.int IntKind.i64 a0_5), PV.sc (Value.bool a0_6), PV.lst false (1 : Nat) a0_7n a0_7, PV.sc (Value.int IntKind.i64 a0_8)], PV.lst false (1 : Nat) a1n a1] = (fun (call : Call') =>
  brK (decide ((↑a0_7n : Int) > (40 : Int)))
   (
   callK (call (7 : Nat) []) fun x1 x2 =>
   nilK (x2) <|
   consK (x1) fun x3 x4 =>
   boolK (x3) fun x5 =>
   nilK (x4) <|
   some (Res.mk [PV.sc (Value.bool x5)] []))
   (
   callK (call (8 : Nat) [PV.lst false (1 : Nat) a1n a1]) fun x6 x7 =>
   nilK (x7) <|
   consK (x6) fun x8 x9 =>
   pboxK (x8) fun x10 =>
   consK (x10) fun x11 x12 =>
   lsK ((1 : Nat)) (x11) fun x13 x14 x15 =>
   consK (x12) fun x16 x17 =>
   intK (IntKind.i64) (x16) fun x18 =>
   nilK (x17) <|
   nilK (x9) <|
   callK (call (9 : Nat) [PV.pbox [PV.lst false (1 : Nat) x14 x15, PV.sc (Value.int IntKind.i64 x18)]]) fun x19 x20 =>
   consK (x19) fun x21 x22 =>
   aggK (x21) fun x23 =>
   consK (x23) fun x24 x25 =>
   intK (IntKind.i64) (x24) fun x26 =>
   consK (x25) fun x27 x28 =>
   boolK (x27) fun x29 =>
   consK (x28) fun x30 x31 =>
   intK (IntKind.i64) (x30) fun x32 =>
   consK (x31) fun x33 x34 =>
   intK (IntKind.i64) (x33) fun x35 =>
   consK (x34) fun x36 x37 =>
   boolK (x36) fun x38 =>
   consK (x37) fun x39 x40 =>
   intK (IntKind.i64) (x39) fun x41 =>
   consK (x40) fun x42 x43 =>
   boolK (x42) fun x44 =>
   consK (x43) fun x45 x46 =>
   owK ((1 : Nat)) (x45) fun x47 x48 =>
   consK (x46) fun x49 x50 =>
   intK (IntKind.i64) (x49) fun x51 =>
   nilK (x50) <|
   nilK (x22) <|
   consK (x20) fun x52 x53 =>
   consK (x52) fun x54 x55 =>
   lsK ((1 : Nat)) (x54) fun x56 x57 x58 =>
   consK (x55) fun x59 x60 =>
   intK (IntKind.i64) (x59) fun x61 =>
   nilK (x60) <|
   nilK (x53) <|
   callK (call (10 : Nat) [PV.pbox [PV.lst false (1 : Nat) x57 x58, PV.sc (Value.int IntKind.i64 x61)], PV.sc (Value.int IntKind.i64 (9 : Int))]) fun x62 x63 =>
   consK (x62) fun x64 x65 =>
   intK (IntKind.i64) (x64) fun x66 =>
   nilK (x65) <|
   consK (x63) fun x67 x68 =>
   consK (x67) fun x69 x70 =>
   lsK ((1 : Nat)) (x69) fun x71 x72 x73 =>
   consK (x70) fun x74 x75 =>
   intK (IntKind.i64) (x74) fun x76 =>
   nilK (x75) <|
   nilK (x68) <|
   brK (x66 == (0 : Int))
    (
    callK (call (10 : Nat) [PV.pbox [PV.lst false (1 : Nat) x72 x73, PV.sc (Value.int IntKind.i64 x76)], PV.sc (Value.int IntKind.i64 (5 : Int))]) fun x77 x78 =>
    consK (x77) fun x79 x80 =>
    intK (IntKind.i64) (x79) fun x81 =>
    nilK (x80) <|
    consK (x78) fun x82 x83 =>
    consK (x82) fun x84 x85 =>
    lsK ((1 : Nat)) (x84) fun x86 x87 x88 =>
    consK (x85) fun x89 x90 =>
    intK (IntKind.i64) (x89) fun x91 =>
    nilK (x90) <|
    nilK (x83) <|
    shareK (IntKind.wrap IntKind.i64 (x81 - (1 : Int))) fun x92 =>
    callK (call (11 : Nat) [PV.agg [PV.sc (Value.int IntKind.i64 a0_0), PV.sc (Value.bool a0_1), PV.sc (Value.int IntKind.i64 a0_2), PV.sc (Value.int IntKind.i64 a0_3), PV.sc (Value.bool a0_4), PV.sc (Value.int IntKind.i64 a0_5), PV.sc (Value.bool a0_6), PV.lst false (1 : Nat) a0_7n a0_7, PV.sc (Value.int IntKind.i64 a0_8)]]) fun x93 x94 =>
    nilK (x94) <|
    consK (x93) fun x95 x96 =>
    intK (IntKind.i64) (x95) fun x97 =>
    nilK (x96) <|
    callK (call (12 : Nat) [PV.agg [PV.sc (Value.int IntKind.i64 a0_0), PV.sc (Value.bool a0_1), PV.sc (Value.int IntKind.i64 a0_2), PV.sc (Value.int IntKind.i64 a0_3), PV.sc (Value.bool a0_4), PV.sc (Value.int IntKind.i64 a0_5), PV.sc (Value.bool a0_6), PV.lst false (1 : Nat) a0_7n a0_7, PV.sc (Value.int IntKind.i64 a0_8)]]) fun x98 x99 =>
    nilK (x99) <|
    consK (x98) fun x100 x101 =>
    intK (IntKind.i64) (x100) fun x102 =>
    nilK (x101) <|
    brK (x97 == x102)
     (
     chk (decide ((0 : Nat) + x47 * (1 : Nat) ≤ List.length x48)) <|
     callK (call (11 : Nat) [PV.agg [PV.sc (Value.int IntKind.i64 x92), PV.sc (Value.bool x29), PV.sc (Value.int IntKind.i64 x32), PV.sc (Value.int IntKind.i64 x35), PV.sc (Value.bool x38), PV.sc (Value.int IntKind.i64 x41), PV.sc (Value.bool x44), PV.lst false (1 : Nat) x47 (List.take (x47 * (1 : Nat)) (List.drop (0 : Nat) x48)), PV.sc (Value.int IntKind.i64 x51)]]) fun x103 x104 =>
     nilK (x104) <|
     consK (x103) fun x105 x106 =>
     intK (IntKind.i64) (x105) fun x107 =>
     nilK (x106) <|
     chk (decide ((0 : Nat) + x47 * (1 : Nat) ≤ List.length x48)) <|
     callK (call (12 : Nat) [PV.agg [PV.sc (Value.int IntKind.i64 x92), PV.sc (Value.bool x29), PV.sc (Value.int IntKind.i64 x32), PV.sc (Value.int IntKind.i64 x35), PV.sc (Value.bool x38), PV.sc (Value.int IntKind.i64 x41), PV.sc (Value.bool x44), PV.lst false (1 : Nat) x47 (List.take (x47 * (1 : Nat)) (List.drop (0 : Nat) x48)), PV.sc (Value.int IntKind.i64 x51)]]) fun x108 x109 =>
     nilK (x109) <|
     consK (x108) fun x110 x111 =>
     intK (IntKind.i64) (x110) fun x112 =>
     nilK (x111) <|
     brK (x107 == x112)
      (
      callK (call (7 : Nat) []) fun x113 x114 =>
      nilK (x114) <|
      consK (x113) fun x115 x116 =>
      boolK (x115) fun x117 =>
      nilK (x116) <|
      some (Res.mk [PV.sc (Value.bool x117)] []))
      (
      some (Res.mk [PV.sc (Value.bool false)] [])))
     (
     some (Res.mk [PV.sc (Value.bool false)] [])))
    (
    brK (x66 == (1 : Int))
     (
     callK (call (10 : Nat) [PV.pbox [PV.lst false (1 : Nat) x72 x73, PV.sc (Value.int IntKind.i64 x76)], PV.sc (Value.int IntKind.i64 (7 : Int))]) fun x118 x119 =>
     consK (x118) fun x120 x121 =>
     intK (IntKind.i64) (x120) fun x122 =>
     nilK (x121) <|
     consK (x119) fun x123 x124 =>
     consK (x123) fun x125 x126 =>
     lsK ((1 : Nat)) (x125) fun x127 x128 x129 =>
     consK (x126) fun x130 x131 =>
     intK (IntKind.i64) (x130) fun x132 =>
     nilK (x131) <|
     nilK (x124) <|
     shareK (IntKind.wrap IntKind.i64 (x122 - (1 : Int))) fun x133 =>
     callK (call (11 : Nat) [PV.agg [PV.sc (Value.int IntKind.i64 a0_0), PV.sc (Value.bool a0_1), PV.sc (Value.int IntKind.i64 a0_2), PV.sc (Value.int IntKind.i64 a0_3), PV.sc (Value.bool a0_4), PV.sc (Value.int IntKind.i64 a0_5), PV.sc (Value.bool a0_6), PV.lst false (1 : Nat) a0_7n a0_7, PV.sc (Value.int IntKind.i64 a0_8)]]) fun x134 x135 =>
     nilK (x135) <|
     consK (x134) fun x136 x137 =>
     intK (IntKind.i64) (x136) fun x138 =>
     nilK (x137) <|
     callK (call (12 : Nat) [PV.agg [PV.sc (Value.int IntKind.i64 a0_0), PV.sc (Value.bool a0_1), PV.sc (Value.int IntKind.i64 a0_2), PV.sc (Value.int IntKind.i64 a0_3), PV.sc (Value.bool a0_4), PV.sc (Value.int IntKind.i64 a0_5), PV.sc (Value.bool a0_6), PV.lst false (1 : Nat) a0_7n a0_7, PV.sc (Value.int IntKind.i64 a0_8)]]) fun x139 x140 =>
     nilK (x140) <|
     consK (x139) fun x141 x142 =>
     intK (IntKind.i64) (x141) fun x143 =>
     nilK (x142) <|
     brK (x138 == x143)
      (
      chk (decide ((0 : Nat) + x47 * (1 : Nat) ≤ List.length x48)) <|
      callK (call (11 : Nat) [PV.agg [PV.sc (Value.int IntKind.i64 x26), PV.sc (Value.bool x29), PV.sc (Value.int IntKind.i64 x133), PV.sc (Value.int IntKind.i64 x35), PV.sc (Value.bool x38), PV.sc (Value.int IntKind.i64 x41), PV.sc (Value.bool x44), PV.lst false (1 : Nat) x47 (List.take (x47 * (1 : Nat)) (List.drop (0 : Nat) x48)), PV.sc (Value.int IntKind.i64 x51)]]) fun x144 x145 =>
      nilK (x145) <|
      consK (x144) fun x146 x147 =>
      intK (IntKind.i64) (x146) fun x148 =>
      nilK (x147) <|
      chk (decide ((0 : Nat) + x47 * (1 : Nat) ≤ List.length x48)) <|
      callK (call (12 : Nat) [PV.agg [PV.sc (Value.int IntKind.i64 x26), PV.sc (Value.bool x29), PV.sc (Value.int IntKind.i64 x133), PV.sc (Value.int IntKind.i64 x35), PV.sc (Value.bool x38), PV.sc (Value.int IntKind.i64 x41), PV.sc (Value.bool x44), PV.lst false (1 : Nat) x47 (List.take (x47 * (1 : Nat)) (List.drop (0 : Nat) x48)), PV.sc (Value.int IntKind.i64 x51)]]) fun x149 x150 =>
      nilK (x150) <|
      consK (x149) fun x151 x152 =>
      intK (IntKind.i64) (x151) fun x153 =>
      nilK (x152) <|
      brK (x148 == x153)
       (
       callK (call (7 : Nat) []) fun x154 x155 =>
       nilK (x155) <|
       consK (x154) fun x156 x157 =>
       boolK (x156) fun x158 =>
       nilK (x157) <|
       some (Res.mk [PV.sc (Value.bool x158)] []))
       (
       some (Res.mk [PV.sc (Value.bool false)] [])))
      (
      some (Res.mk [PV.sc (Value.bool false)] [])))
     (
     brK (x66 == (2 : Int))
      (
      callK (call (10 : Nat) [PV.pbox [PV.lst false (1 : Nat) x72 x73, PV.sc (Value.int IntKind.i64 x76)], PV.sc (Value.int IntKind.i64 (6 : Int))]) fun x159 x160 =>
      consK (x159) fun x161 x162 =>
      intK (IntKind.i64) (x161) fun x163 =>
      nilK (x162) <|
      consK (x160) fun x164 x165 =>
      consK (x164) fun x166 x167 =>
      lsK ((1 : Nat)) (x166) fun x168 x169 x170 =>
      consK (x167) fun x171 x172 =>
      intK (IntKind.i64) (x171) fun x173 =>
      nilK (x172) <|
      nilK (x165) <|
      shareK (IntKind.wrap IntKind.i64 (x163 - (1 : Int))) fun x174 =>
      callK (call (11 : Nat) [PV.agg [PV.sc (Value.int IntKind.i64 a0_0), PV.sc (Value.bool a0_1), PV.sc (Value.int IntKind.i64 a0_2), PV.sc (Value.int IntKind.i64 a0_3), PV.sc (Value.bool a0_4), PV.sc (Value.int IntKind.i64 a0_5), PV.sc (Value.bool a0_6), PV.lst false (1 : Nat) a0_7n a0_7, PV.sc (Value.int IntKind.i64 a0_8)]]) fun x175 x176 =>
      nilK (x176) <|
      consK (x175) fun x177 x178 =>
      intK (IntKind.i64) (x177) fun x179 =>
      nilK (x178) <|
      callK (call (12 : Nat) [PV.agg [PV.sc (Value.int IntKind.i64 a0_0), PV.sc (Value.bool a0_1), PV.sc (Value.int IntKind.i64 a0_2), PV.sc (Value.int IntKind.i64 a0_3), PV.sc (Value.bool a0_4), PV.sc (Value.int IntKind.i64 a0_5), PV.sc (Value.bool a0_6), PV.lst false (1 : Nat) a0_7n a0_7, PV.sc (Value.int IntKind.i64 a0_8)]]) fun x180 x181 =>
      nilK (x181) <|
      consK (x180) fun x182 x183 =>
      intK (IntKind.i64) (x182) fun x184 =>
      nilK (x183) <|
      brK (x179 == x184)
       (
       chk (decide ((0 : Nat) + x47 * (1 : Nat) ≤ List.length x48)) <|
       callK (call (11 : Nat) [PV.agg [PV.sc (Value.int IntKind.i64 x26), PV.sc (Value.bool x29), PV.sc (Value.int IntKind.i64 x32), PV.sc (Value.int IntKind.i64 x174), PV.sc (Value.bool x38), PV.sc (Value.int IntKind.i64 x41), PV.sc (Value.bool x44), PV.lst false (1 : Nat) x47 (List.take (x47 * (1 : Nat)) (List.drop (0 : Nat) x48)), PV.sc (Value.int IntKind.i64 x51)]]) fun x185 x186 =>
       nilK (x186) <|
       consK (x185) fun x187 x188 =>
       intK (IntKind.i64) (x187) fun x189 =>
       nilK (x188) <|
       chk (decide ((0 : Nat) + x47 * (1 : Nat) ≤ List.length x48)) <|
       callK (call (12 : Nat) [PV.agg [PV.sc (Value.int IntKind.i64 x26), PV.sc (Value.bool x29), PV.sc (Value.int IntKind.i64 x32), PV.sc (Value.int IntKind.i64 x174), PV.sc (Value.bool x38), PV.sc (Value.int IntKind.i64 x41), PV.sc (Value.bool x44), PV.lst false (1 : Nat) x47 (List.take (x47 * (1 : Nat)) (List.drop (0 : Nat) x48)), PV.sc (Value.int IntKind.i64 x51)]]) fun x190 x191 =>
       nilK (x191) <|
       consK (x190) fun x192 x193 =>
       intK (IntKind.i64) (x192) fun x194 =>
       nilK (x193) <|
       brK (x189 == x194)
        (
        callK (call (7 : Nat) []) fun x195 x196 =>
        nilK (x196) <|
        consK (x195) fun x197 x198 =>
        boolK (x197) fun x199 =>
        nilK (x198) <|
        some (Res.mk [PV.sc (Value.bool x199)] []))
        (
        some (Res.mk [PV.sc (Value.bool false)] [])))
       (
       some (Res.mk [PV.sc (Value.bool false)] [])))
      (
      brK (x66 == (3 : Int))
       (
       callK (call (10 : Nat) [PV.pbox [PV.lst false (1 : Nat) x72 x73, PV.sc (Value.int IntKind.i64 x76)], PV.sc (Value.int IntKind.i64 (5 : Int))]) fun x200 x201 =>
       consK (x200) fun x202 x203 =>
       intK (IntKind.i64) (x202) fun x204 =>
       nilK (x203) <|
       consK (x201) fun x205 x206 =>
       consK (x205) fun x207 x208 =>
       lsK ((1 : Nat)) (x207) fun x209 x210 x211 =>
       consK (x208) fun x212 x213 =>
       intK (IntKind.i64) (x212) fun x214 =>
       nilK (x213) <|
       nilK (x206) <|
       shareK (IntKind.wrap IntKind.i64 (x204 - (1 : Int))) fun x215 =>
       callK (call (11 : Nat) [PV.agg [PV.sc (Value.int IntKind.i64 a0_0), PV.sc (Value.bool a0_1), PV.sc (Value.int IntKind.i64 a0_2), PV.sc (Value.int IntKind.i64 a0_3), PV.sc (Value.bool a0_4), PV.sc (Value.int IntKind.i64 a0_5), PV.sc (Value.bool a0_6), PV.lst false (1 : Nat) a0_7n a0_7, PV.sc (Value.int IntKind.i64 a0_8)]]) fun x216 x217 =>
       nilK (x217) <|
       consK (x216) fun x218 x219 =>
       intK (IntKind.i64) (x218) fun x220 =>
       nilK (x219) <|
       callK (call (12 : Nat) [PV.agg [PV.sc (Value.int IntKind.i64 a0_0), PV.sc (Value.bool a0_1), PV.sc (Value.int IntKind.i64 a0_2), PV.sc (Value.int IntKind.i64 a0_3), PV.sc (Value.bool a0_4), PV.sc (Value.int IntKind.i64 a0_5), PV.sc (Value.bool a0_6), PV.lst false (1 : Nat) a0_7n a0_7, PV.sc (Value.int IntKind.i64 a0_8)]]) fun x221 x222 =>
       nilK (x222) <|
       consK (x221) fun x223 x224 =>
       intK (IntKind.i64) (x223) fun x225 =>
       nilK (x224) <|
       brK (x220 == x225)
        (
        chk (decide ((0 : Nat) + x47 * (1 : Nat) ≤ List.length x48)) <|
        callK (call (11 : Nat) [PV.agg [PV.sc (Value.int IntKind.i64 x26), PV.sc (Value.bool x29), PV.sc (Value.int IntKind.i64 x32), PV.sc (Value.int IntKind.i64 x35), PV.sc (Value.bool x38), PV.sc (Value.int IntKind.i64 x215), PV.sc (Value.bool x44), PV.lst false (1 : Nat) x47 (List.take (x47 * (1 : Nat)) (List.drop (0 : Nat) x48)), PV.sc (Value.int IntKind.i64 x51)]]) fun x226 x227 =>
        nilK (x227) <|
        consK (x226) fun x228 x229 =>
        intK (IntKind.i64) (x228) fun x230 =>
        nilK (x229) <|
        chk (decide ((0 : Nat) + x47 * (1 : Nat) ≤ List.length x48)) <|
        callK (call (12 : Nat) [PV.agg [PV.sc (Value.int IntKind.i64 x26), PV.sc (Value.bool x29), PV.sc (Value.int IntKind.i64 x32), PV.sc (Value.int IntKind.i64 x35), PV.sc (Value.bool x38), PV.sc (Value.int IntKind.i64 x215), PV.sc (Value.bool x44), PV.lst false (1 : Nat) x47 (List.take (x47 * (1 : Nat)) (List.drop (0 : Nat) x48)), PV.sc (Value.int IntKind.i64 x51)]]) fun x231 x232 =>
        nilK (x232) <|
        consK (x231) fun x233 x234 =>
        intK (IntKind.i64) (x233) fun x235 =>
        nilK (x234) <|
        brK (x230 == x235)
         (
         callK (call (7 : Nat) []) fun x236 x237 =>
         nilK (x237) <|
         consK (x236) fun x238 x239 =>
         boolK (x238) fun x240 =>
         nilK (x239) <|
         some (Res.mk [PV.sc (Value.bool x240)] []))
         (
         some (Res.mk [PV.sc (Value.bool false)] [])))
        (
        some (Res.mk [PV.sc (Value.bool false)] [])))
       (
       brK (x66 == (4 : Int))
        (
        callK (call (10 : Nat) [PV.pbox [PV.lst false (1 : Nat) x72 x73, PV.sc (Value.int IntKind.i64 x76)], PV.sc (Value.int IntKind.i64 (5 : Int))]) fun x241 x242 =>
        consK (x241) fun x243 x244 =>
        intK (IntKind.i64) (x243) fun x245 =>
        nilK (x244) <|
        consK (x242) fun x246 x247 =>
        consK (x246) fun x248 x249 =>
        lsK ((1 : Nat)) (x248) fun x250 x251 x252 =>
        consK (x249) fun x253 x254 =>
        intK (IntKind.i64) (x253) fun x255 =>
        nilK (x254) <|
        nilK (x247) <|
        chk (decide ((0 : Int) ≤ x245) && decide (x245 < (5 : Int))) <|
        intK (IntKind.i64) (List.getD [PV.sc (Value.int IntKind.i64 (0 : Int)), PV.sc (Value.int IntKind.i64 (1 : Int)), PV.sc (Value.int IntKind.i64 (1099511627776 : Int)), PV.sc (Value.int IntKind.i64 (1099511627777 : Int)), PV.sc (Value.int IntKind.i64 (-1 : Int))] ((0 : Nat) + Int.toNat x245 * (1 : Nat)) PV.top) fun x256 =>
        callK (call (11 : Nat) [PV.agg [PV.sc (Value.int IntKind.i64 a0_0), PV.sc (Value.bool a0_1), PV.sc (Value.int IntKind.i64 a0_2), PV.sc (Value.int IntKind.i64 a0_3), PV.sc (Value.bool a0_4), PV.sc (Value.int IntKind.i64 a0_5), PV.sc (Value.bool a0_6), PV.lst false (1 : Nat) a0_7n a0_7, PV.sc (Value.int IntKind.i64 a0_8)]]) fun x257 x258 =>
        nilK (x258) <|
        consK (x257) fun x259 x260 =>
        intK (IntKind.i64) (x259) fun x261 =>
        nilK (x260) <|
        callK (call (12 : Nat) [PV.agg [PV.sc (Value.int IntKind.i64 a0_0), PV.sc (Value.bool a0_1), PV.sc (Value.int IntKind.i64 a0_2), PV.sc (Value.int IntKind.i64 a0_3), PV.sc (Value.bool a0_4), PV.sc (Value.int IntKind.i64 a0_5), PV.sc (Value.bool a0_6), PV.lst false (1 : Nat) a0_7n a0_7, PV.sc (Value.int IntKind.i64 a0_8)]]) fun x262 x263 =>
        nilK (x263) <|
        consK (x262) fun x264 x265 =>
        intK (IntKind.i64) (x264) fun x266 =>
        nilK (x265) <|
        brK (x261 == x266)
         (
         chk (decide ((0 : Nat) + x47 * (1 : Nat) ≤ List.length x48)) <|
         callK (call (11 : Nat) [PV.agg [PV.sc (Value.int IntKind.i64 x26), PV.sc (Value.bool x29), PV.sc (Value.int IntKind.i64 x32), PV.sc (Value.int IntKind.i64 x35), PV.sc (Value.bool x38), PV.sc (Value.int IntKind.i64 x41), PV.sc (Value.bool x44), PV.lst false (1 : Nat) x47 (List.take (x47 * (1 : Nat)) (List.drop (0 : Nat) x48)), PV.sc (Value.int IntKind.i64 x256)]]) fun x267 x268 =>
         nilK (x268) <|
         consK (x267) fun x269 x270 =>
         intK (IntKind.i64) (x269) fun x271 =>
         nilK (x270) <|
         chk (decide ((0 : Nat) + x47 * (1 : Nat) ≤ List.length x48)) <|
         callK (call (12 : Nat) [PV.agg [PV.sc (Value.int IntKind.i64 x26), PV.sc (Value.bool x29), PV.sc (Value.int IntKind.i64 x32), PV.sc (Value.int IntKind.i64 x35), PV.sc (Value.bool x38), PV.sc (Value.int IntKind.i64 x41), PV.sc (Value.bool x44), PV.lst false (1 : Nat) x47 (List.take (x47 * (1 : Nat)) (List.drop (0 : Nat) x48)), PV.sc (Value.int IntKind.i64 x256)]]) fun x272 x273 =>
         nilK (x273) <|
         consK (x272) fun x274 x275 =>
         intK (IntKind.i64) (x274) fun x276 =>
         nilK (x275) <|
         brK (x271 == x276)
          (
          callK (call (7 : Nat) []) fun x277 x278 =>
          nilK (x278) <|
          consK (x277) fun x279 x280 =>
          boolK (x279) fun x281 =>
          nilK (x280) <|
          some (Res.mk [PV.sc (Value.bool x281)] []))
          (
          some (Res.mk [PV.sc (Value.bool false)] [])))
         (
         some (Res.mk [PV.sc (Value.bool false)] [])))
        (
        brK (x66 == (5 : Int))
         (
         callK (call (10 : Nat) [PV.pbox [PV.lst false (1 : Nat) x72 x73, PV.sc (Value.int IntKind.i64 x76)], PV.sc (Value.int IntKind.i64 (19 : Int))]) fun x282 x283 =>
         consK (x282) fun x284 x285 =>
         intK (IntKind.i64) (x284) fun x286 =>
         nilK (x285) <|
         consK (x283) fun x287 x288 =>
         consK (x287) fun x289 x290 =>
         lsK ((1 : Nat)) (x289) fun x291 x292 x293 =>
         consK (x290) fun x294 x295 =>
         intK (IntKind.i64) (x294) fun x296 =>
         nilK (x295) <|
         nilK (x288) <|
         passkeylaw31_PolicyValidates_L0 fu call a0_0 a0_1 a0_2 a0_3 a0_4 a0_5 a0_6 a0_7n a0_7 a0_8 a1n a1 (fu) (x286) (a0_0) (a0_1) (a0_2) (a0_3) (a0_4) (a0_5) (a0_6) (a0_7n) (a0_7) (a0_8) (x26) (x29) (x32) (x35) (x38) (x41) (x44) ((0 : Nat)) (x51) ([]))
         (
         brK (x66 == (6 : Int))
          (
          callK (call (10 : Nat) [PV.pbox [PV.lst false (1 : Nat) x72 x73, PV.sc (Value.int IntKind.i64 x76)], PV.sc (Value.int IntKind.i64 (3 : Int))]) fun x297 x298 =>
          consK (x297) fun x299 x300 =>
          intK (IntKind.i64) (x299) fun x301 =>
          nilK (x300) <|
          consK (x298) fun x302 x303 =>
          consK (x302) fun x304 x305 =>
          lsK ((1 : Nat)) (x304) fun x306 x307 x308 =>
          consK (x305) fun x309 x310 =>
          intK (IntKind.i64) (x309) fun x311 =>
          nilK (x310) <|
          nilK (x303) <|
          shareK (IntKind.wrap IntKind.u64 x301) fun x312 =>
          callK (call (10 : Nat) [PV.pbox [PV.lst false (1 : Nat) x307 x308, PV.sc (Value.int IntKind.i64 x311)], PV.sc (Value.int IntKind.i64 (3 : Int))]) fun x313 x314 =>
          consK (x313) fun x315 x316 =>
          intK (IntKind.i64) (x315) fun x317 =>
          nilK (x316) <|
          consK (x314) fun x318 x319 =>
          consK (x318) fun x320 x321 =>
          lsK ((1 : Nat)) (x320) fun x322 x323 x324 =>
          consK (x321) fun x325 x326 =>
          intK (IntKind.i64) (x325) fun x327 =>
          nilK (x326) <|
          nilK (x319) <|
          shareK (IntKind.wrap IntKind.u64 x317) fun x328 =>
          callK (call (11 : Nat) [PV.agg [PV.sc (Value.int IntKind.i64 a0_0), PV.sc (Value.bool a0_1), PV.sc (Value.int IntKind.i64 a0_2), PV.sc (Value.int IntKind.i64 a0_3), PV.sc (Value.bool a0_4), PV.sc (Value.int IntKind.i64 a0_5), PV.sc (Value.bool a0_6), PV.lst false (1 : Nat) a0_7n a0_7, PV.sc (Value.int IntKind.i64 a0_8)]]) fun x329 x330 =>
          nilK (x330) <|
          consK (x329) fun x331 x332 =>
          intK (IntKind.i64) (x331) fun x333 =>
          nilK (x332) <|
          callK (call (12 : Nat) [PV.agg [PV.sc (Value.int IntKind.i64 a0_0), PV.sc (Value.bool a0_1), PV.sc (Value.int IntKind.i64 a0_2), PV.sc (Value.int IntKind.i64 a0_3), PV.sc (Value.bool a0_4), PV.sc (Value.int IntKind.i64 a0_5), PV.sc (Value.bool a0_6), PV.lst false (1 : Nat) a0_7n a0_7, PV.sc (Value.int IntKind.i64 a0_8)]]) fun x334 x335 =>
          nilK (x335) <|
          consK (x334) fun x336 x337 =>
          intK (IntKind.i64) (x336) fun x338 =>
          nilK (x337) <|
          brK (x333 == x338)
           (
           callK (call (11 : Nat) [PV.agg [PV.sc (Value.int IntKind.i64 x26), PV.sc (Value.bool x29), PV.sc (Value.int IntKind.i64 x32), PV.sc (Value.int IntKind.i64 x35), PV.sc (Value.bool x38), PV.sc (Value.int IntKind.i64 x41), PV.sc (Value.bool x44), PV.lst false (1 : Nat) (2 : Nat) [PV.sc (Value.int IntKind.u64 x312), PV.sc (Value.int IntKind.u64 x328)], PV.sc (Value.int IntKind.i64 x51)]]) fun x339 x340 =>
           nilK (x340) <|
           consK (x339) fun x341 x342 =>
           intK (IntKind.i64) (x341) fun x343 =>
           nilK (x342) <|
           callK (call (12 : Nat) [PV.agg [PV.sc (Value.int IntKind.i64 x26), PV.sc (Value.bool x29), PV.sc (Value.int IntKind.i64 x32), PV.sc (Value.int IntKind.i64 x35), PV.sc (Value.bool x38), PV.sc (Value.int IntKind.i64 x41), PV.sc (Value.bool x44), PV.lst false (1 : Nat) (2 : Nat) [PV.sc (Value.int IntKind.u64 x312), PV.sc (Value.int IntKind.u64 x328)], PV.sc (Value.int IntKind.i64 x51)]]) fun x344 x345 =>
           nilK (x345) <|
           consK (x344) fun x346 x347 =>
           intK (IntKind.i64) (x346) fun x348 =>
           nilK (x347) <|
           brK (x343 == x348)
            (
            callK (call (7 : Nat) []) fun x349 x350 =>
            nilK (x350) <|
            consK (x349) fun x351 x352 =>
            boolK (x351) fun x353 =>
            nilK (x352) <|
            some (Res.mk [PV.sc (Value.bool x353)] []))
            (
            some (Res.mk [PV.sc (Value.bool false)] [])))
           (
           some (Res.mk [PV.sc (Value.bool false)] [])))
          (
          callK (call (11 : Nat) [PV.agg [PV.sc (Value.int IntKind.i64 a0_0), PV.sc (Value.bool a0_1), PV.sc (Value.int IntKind.i64 a0_2), PV.sc (Value.int IntKind.i64 a0_3), PV.sc (Value.bool a0_4), PV.sc (Value.int IntKind.i64 a0_5), PV.sc (Value.bool a0_6), PV.lst false (1 : Nat) a0_7n a0_7, PV.sc (Value.int IntKind.i64 a0_8)]]) fun x354 x355 =>
          nilK (x355) <|
          consK (x354) fun x356 x357 =>
          intK (IntKind.i64) (x356) fun x358 =>
          nilK (x357) <|
          callK (call (12 : Nat) [PV.agg [PV.sc (Value.int IntKind.i64 a0_0), PV.sc (Value.bool a0_1), PV.sc (Value.int IntKind.i64 a0_2), PV.sc (Value.int IntKind.i64 a0_3), PV.sc (Value.bool a0_4), PV.sc (Value.int IntKind.i64 a0_5), PV.sc (Value.bool a0_6), PV.lst false (1 : Nat) a0_7n a0_7, PV.sc (Value.int IntKind.i64 a0_8)]]) fun x359 x360 =>
          nilK (x360) <|
          consK (x359) fun x361 x362 =>
          intK (IntKind.i64) (x361) fun x363 =>
          nilK (x362) <|
          brK (x358 == x363)
           (
           chk (decide ((0 : Nat) + x47 * (1 : Nat) ≤ List.length x48)) <|
           callK (call (11 : Nat) [PV.agg [PV.sc (Value.int IntKind.i64 x26), PV.sc (Value.bool x29), PV.sc (Value.int IntKind.i64 x32), PV.sc (Value.int IntKind.i64 x35), PV.sc (Value.bool x38), PV.sc (Value.int IntKind.i64 x41), PV.sc (Value.bool x44), PV.lst false (1 : Nat) x47 (List.take (x47 * (1 : Nat)) (List.drop (0 : Nat) x48)), PV.sc (Value.int IntKind.i64 x51)]]) fun x364 x365 =>
           nilK (x365) <|
           consK (x364) fun x366 x367 =>
           intK (IntKind.i64) (x366) fun x368 =>
           nilK (x367) <|
           chk (decide ((0 : Nat) + x47 * (1 : Nat) ≤ List.length x48)) <|
           callK (call (12 : Nat) [PV.agg [PV.sc (Value.int IntKind.i64 x26), PV.sc (Value.bool x29), PV.sc (Value.int IntKind.i64 x32), PV.sc (Value.int IntKind.i64 x35), PV.sc (Value.bool x38), PV.sc (Value.int IntKind.i64 x41), PV.sc (Value.bool x44), PV.lst false (1 : Nat) x47 (List.take (x47 * (1 : Nat)) (List.drop (0 : Nat) x48)), PV.sc (Value.int IntKind.i64 x51)]]) fun x369 x370 =>
           nilK (x370) <|
           consK (x369) fun x371 x372 =>
           intK (IntKind.i64) (x371) fun x373 =>
           nilK (x372) <|
           brK (x368 == x373)
            (
            callK (call (7 : Nat) []) fun x374 x375 =>
            nilK (x375) <|
            consK (x374) fun x376 x377 =>
            boolK (x376) fun x378 =>
            nilK (x377) <|
            some (Res.mk [PV.sc (Value.bool x378)] []))
            (
            some (Res.mk [PV.sc (Value.bool false)] [])))
           (
           some (Res.mk [PV.sc (Value.bool false)] []))))))))))) (pcall C0 Try.prog fu d) := by kernel_rfl

abbrev F_passkeylaw31_PolicyDecides : FuncId := 4
theorem passkeylaw31_PolicyDecides_e (fu d : Nat) (a0_0 : Int) (a0_1 : Bool) (a0_2 : Int) (a0_3 : Int) (a0_4 : Bool) (a0_5 : Int) (a0_6 : Bool) (a0_7n : Nat) (a0_7 : List PV) (a0_8 : Int) (a1_0 : Int) (a1_1 : Int) (a1_2 : Int) (a1_3 : Int) (a1_4 : Int) (a1_5n : Nat) (a1_5 : List PV) (a1_6 : Int) (a1_7 : Int) (a2_0 : Int) (a2_1 : Int) (a2_2 : Int) (a3_0n : Nat) (a3_0 : List PV) (a3_1 : Int) (a3_2 : Int) (a3_3 : Int) (a3_4 : Int) (a3_5 : Bool) (a3_6 : Int) (a3_7n : Nat) (a3_7 : List PV) (a3_8 : Bool) (a3_9 : Int) (a3_10 : Int) (a4 : Int) (a5n : Nat) (a5 : List PV) : pcall C0 Try.prog fu (d + 1) F_passkeylaw31_PolicyDecides [PV.agg [PV.sc (Value.int IntKind.i64 a0_0), PV.sc (Value.bool a0_1), PV.sc (Value.int IntKind.i64 a0_2), PV.sc (Value.int IntKind.i64 a0_3), PV.sc (Value.bool a0_4), PV.sc (Value.int IntKind.i64 a0_5), PV.sc (Value.bool a0_6), PV.lst false (1 : Nat) a0_7n a0_7, PV.sc (Value.int IntKind.i64 a0_8)], PV.agg [PV.sc (Value.int IntKind.u64 a1_0), PV.sc (Value.int IntKind.i64 a1_1), PV.sc (Value.int IntKind.i64 a1_2), PV.sc (Value.int IntKind.i64 a1_3), PV.sc (Value.int IntKind.u64 a1_4), PV.lst false (1 : Nat) a1_5n a1_5, PV.sc (Value.int IntKind.i64 a1_6), PV.sc (Value.int IntKind.u64 a1_7)], PV.agg [PV.sc (Value.int IntKind.i64 a2_0), PV.sc (Value.int IntKind.i64 a2_1), PV.sc (Value.int IntKind.i64 a2_2)], PV.agg [PV.lst false (1 : Nat) a3_0n a3_0, PV.sc (Value.int IntKind.i64 a3_1), PV.sc (Value.int IntKind.u64 a3_2), PV.sc (Value.int IntKind.u64 a3_3), PV.sc (Value.int IntKind.i64 a3_4), PV.sc (Value.bool a3_5), PV.sc (Value.int IntKind.u64 a3_6), PV.lst false (2 : Nat) a3_7n a3_7, PV.sc (Value.bool a3_8), PV.sc (Value.int IntKind.i64 a3_9), PV.sc (Value.int IntKind.i64 a3_10)], PV.sc (Value.int IntKind.i64 a4), PV.lst false (1 : Nat) a5n a5] = (fun (call : Call') =>
  brK (decide ((↑a0_7n : Int) > (40 : Int)))
   (
   callK (call (7 : Nat) []) fun x1 x2 =>
   nilK (x2) <|
   consK (x1) fun x3 x4 =>
   boolK (x3) fun x5 =>
   nilK (x4) <|
   some (Res.mk [PV.sc (Value.bool x5)] []))
   (
   callK (call (8 : Nat) [PV.lst false (1 : Nat) a5n a5]) fun x6 x7 =>
   nilK (x7) <|
   consK (x6) fun x8 x9 =>
   pboxK (x8) fun x10 =>
   consK (x10) fun x11 x12 =>
   lsK ((1 : Nat)) (x11) fun x13 x14 x15 =>
   consK (x12) fun x16 x17 =>
   intK (IntKind.i64) (x16) fun x18 =>
   nilK (x17) <|
   nilK (x9) <|
   callK (call (9 : Nat) [PV.pbox [PV.lst false (1 : Nat) x14 x15, PV.sc (Value.int IntKind.i64 x18)]]) fun x19 x20 =>
   consK (x19) fun x21 x22 =>
   aggK (x21) fun x23 =>
   consK (x23) fun x24 x25 =>
   intK (IntKind.i64) (x24) fun x26 =>
   consK (x25) fun x27 x28 =>
   boolK (x27) fun x29 =>
   consK (x28) fun x30 x31 =>
   intK (IntKind.i64) (x30) fun x32 =>
   consK (x31) fun x33 x34 =>
   intK (IntKind.i64) (x33) fun x35 =>
   consK (x34) fun x36 x37 =>
   boolK (x36) fun x38 =>
   consK (x37) fun x39 x40 =>
   intK (IntKind.i64) (x39) fun x41 =>
   consK (x40) fun x42 x43 =>
   boolK (x42) fun x44 =>
   consK (x43) fun x45 x46 =>
   owK ((1 : Nat)) (x45) fun x47 x48 =>
   consK (x46) fun x49 x50 =>
   intK (IntKind.i64) (x49) fun x51 =>
   nilK (x50) <|
   nilK (x22) <|
   consK (x20) fun x52 x53 =>
   consK (x52) fun x54 x55 =>
   lsK ((1 : Nat)) (x54) fun x56 x57 x58 =>
   consK (x55) fun x59 x60 =>
   intK (IntKind.i64) (x59) fun x61 =>
   nilK (x60) <|
   nilK (x53) <|
   callK (call (13 : Nat) [PV.pbox [PV.lst false (1 : Nat) x57 x58, PV.sc (Value.int IntKind.i64 x61)]]) fun x62 x63 =>
   consK (x62) fun x64 x65 =>
   aggK (x64) fun x66 =>
   consK (x66) fun x67 x68 =>
   intK (IntKind.u64) (x67) fun x69 =>
   consK (x68) fun x70 x71 =>
   intK (IntKind.i64) (x70) fun x72 =>
   consK (x71) fun x73 x74 =>
   intK (IntKind.i64) (x73) fun x75 =>
   consK (x74) fun x76 x77 =>
   intK (IntKind.i64) (x76) fun x78 =>
   consK (x77) fun x79 x80 =>
   intK (IntKind.u64) (x79) fun x81 =>
   consK (x80) fun x82 x83 =>
   owK ((1 : Nat)) (x82) fun x84 x85 =>
   consK (x83) fun x86 x87 =>
   intK (IntKind.i64) (x86) fun x88 =>
   consK (x87) fun x89 x90 =>
   intK (IntKind.u64) (x89) fun x91 =>
   nilK (x90) <|
   consK (x65) fun x92 x93 =>
   aggK (x92) fun x94 =>
   consK (x94) fun x95 x96 =>
   intK (IntKind.i64) (x95) fun x97 =>
   consK (x96) fun x98 x99 =>
   intK (IntKind.i64) (x98) fun x100 =>
   consK (x99) fun x101 x102 =>
   intK (IntKind.i64) (x101) fun x103 =>
   nilK (x102) <|
   consK (x93) fun x104 x105 =>
   intK (IntKind.i64) (x104) fun x106 =>
   nilK (x105) <|
   consK (x63) fun x107 x108 =>
   consK (x107) fun x109 x110 =>
   lsK ((1 : Nat)) (x109) fun x111 x112 x113 =>
   consK (x110) fun x114 x115 =>
   intK (IntKind.i64) (x114) fun x116 =>
   nilK (x115) <|
   nilK (x108) <|
   callK (call (10 : Nat) [PV.pbox [PV.lst false (1 : Nat) x112 x113, PV.sc (Value.int IntKind.i64 x116)], PV.sc (Value.int IntKind.i64 (8 : Int))]) fun x117 x118 =>
   consK (x117) fun x119 x120 =>
   intK (IntKind.i64) (x119) fun x121 =>
   nilK (x120) <|
   consK (x118) fun x122 x123 =>
   consK (x122) fun x124 x125 =>
   lsK ((1 : Nat)) (x124) fun x126 x127 x128 =>
   consK (x125) fun x129 x130 =>
   intK (IntKind.i64) (x129) fun x131 =>
   nilK (x130) <|
   nilK (x123) <|
   shareK (IntKind.wrap IntKind.u64 x121) fun x132 =>
   callK (call (10 : Nat) [PV.pbox [PV.lst false (1 : Nat) x127 x128, PV.sc (Value.int IntKind.i64 x131)], PV.sc (Value.int IntKind.i64 (2 : Int))]) fun x133 x134 =>
   consK (x133) fun x135 x136 =>
   intK (IntKind.i64) (x135) fun x137 =>
   nilK (x136) <|
   consK (x134) fun x138 x139 =>
   consK (x138) fun x140 x141 =>
   lsK ((1 : Nat)) (x140) fun x142 x143 x144 =>
   consK (x141) fun x145 x146 =>
   intK (IntKind.i64) (x145) fun x147 =>
   nilK (x146) <|
   nilK (x139) <|
   callK (call (14 : Nat) [PV.agg [PV.sc (Value.int IntKind.i64 a0_0), PV.sc (Value.bool a0_1), PV.sc (Value.int IntKind.i64 a0_2), PV.sc (Value.int IntKind.i64 a0_3), PV.sc (Value.bool a0_4), PV.sc (Value.int IntKind.i64 a0_5), PV.sc (Value.bool a0_6), PV.lst false (1 : Nat) a0_7n a0_7, PV.sc (Value.int IntKind.i64 a0_8)], PV.agg [PV.sc (Value.int IntKind.u64 a1_0), PV.sc (Value.int IntKind.i64 a1_1), PV.sc (Value.int IntKind.i64 a1_2), PV.sc (Value.int IntKind.i64 a1_3), PV.sc (Value.int IntKind.u64 a1_4), PV.lst false (1 : Nat) a1_5n a1_5, PV.sc (Value.int IntKind.i64 a1_6), PV.sc (Value.int IntKind.u64 a1_7)], PV.agg [PV.sc (Value.int IntKind.i64 a2_0), PV.sc (Value.int IntKind.i64 a2_1), PV.sc (Value.int IntKind.i64 a2_2)], PV.sc (Value.int IntKind.i64 a4)]) fun x148 x149 =>
   nilK (x149) <|
   consK (x148) fun x150 x151 =>
   intK (IntKind.i64) (x150) fun x152 =>
   nilK (x151) <|
   callK (call (15 : Nat) [PV.agg [PV.sc (Value.int IntKind.i64 a0_0), PV.sc (Value.bool a0_1), PV.sc (Value.int IntKind.i64 a0_2), PV.sc (Value.int IntKind.i64 a0_3), PV.sc (Value.bool a0_4), PV.sc (Value.int IntKind.i64 a0_5), PV.sc (Value.bool a0_6), PV.lst false (1 : Nat) a0_7n a0_7, PV.sc (Value.int IntKind.i64 a0_8)], PV.agg [PV.sc (Value.int IntKind.u64 a1_0), PV.sc (Value.int IntKind.i64 a1_1), PV.sc (Value.int IntKind.i64 a1_2), PV.sc (Value.int IntKind.i64 a1_3), PV.sc (Value.int IntKind.u64 a1_4), PV.lst false (1 : Nat) a1_5n a1_5, PV.sc (Value.int IntKind.i64 a1_6), PV.sc (Value.int IntKind.u64 a1_7)], PV.agg [PV.sc (Value.int IntKind.i64 a2_0), PV.sc (Value.int IntKind.i64 a2_1), PV.sc (Value.int IntKind.i64 a2_2)], PV.sc (Value.int IntKind.i64 a4)]) fun x153 x154 =>
   nilK (x154) <|
   consK (x153) fun x155 x156 =>
   intK (IntKind.i64) (x155) fun x157 =>
   nilK (x156) <|
   brK (x152 == x157)
    (
    chk (decide ((0 : Nat) + x47 * (1 : Nat) ≤ List.length x48)) <|
    chk (decide ((0 : Nat) + x84 * (1 : Nat) ≤ List.length x85)) <|
    callK (call (14 : Nat) [PV.agg [PV.sc (Value.int IntKind.i64 x26), PV.sc (Value.bool x29), PV.sc (Value.int IntKind.i64 x32), PV.sc (Value.int IntKind.i64 x35), PV.sc (Value.bool x38), PV.sc (Value.int IntKind.i64 x41), PV.sc (Value.bool x44), PV.lst false (1 : Nat) x47 (List.take (x47 * (1 : Nat)) (List.drop (0 : Nat) x48)), PV.sc (Value.int IntKind.i64 x51)], PV.agg [PV.sc (Value.int IntKind.u64 x69), PV.sc (Value.int IntKind.i64 x72), PV.sc (Value.int IntKind.i64 x75), PV.sc (Value.int IntKind.i64 x78), PV.sc (Value.int IntKind.u64 x81), PV.lst false (1 : Nat) x84 (List.take (x84 * (1 : Nat)) (List.drop (0 : Nat) x85)), PV.sc (Value.int IntKind.i64 x88), PV.sc (Value.int IntKind.u64 x91)], PV.agg [PV.sc (Value.int IntKind.i64 x97), PV.sc (Value.int IntKind.i64 x100), PV.sc (Value.int IntKind.i64 x103)], PV.sc (Value.int IntKind.i64 x106)]) fun x158 x159 =>
    nilK (x159) <|
    consK (x158) fun x160 x161 =>
    intK (IntKind.i64) (x160) fun x162 =>
    nilK (x161) <|
    chk (decide ((0 : Nat) + x47 * (1 : Nat) ≤ List.length x48)) <|
    chk (decide ((0 : Nat) + x84 * (1 : Nat) ≤ List.length x85)) <|
    callK (call (15 : Nat) [PV.agg [PV.sc (Value.int IntKind.i64 x26), PV.sc (Value.bool x29), PV.sc (Value.int IntKind.i64 x32), PV.sc (Value.int IntKind.i64 x35), PV.sc (Value.bool x38), PV.sc (Value.int IntKind.i64 x41), PV.sc (Value.bool x44), PV.lst false (1 : Nat) x47 (List.take (x47 * (1 : Nat)) (List.drop (0 : Nat) x48)), PV.sc (Value.int IntKind.i64 x51)], PV.agg [PV.sc (Value.int IntKind.u64 x69), PV.sc (Value.int IntKind.i64 x72), PV.sc (Value.int IntKind.i64 x75), PV.sc (Value.int IntKind.i64 x78), PV.sc (Value.int IntKind.u64 x81), PV.lst false (1 : Nat) x84 (List.take (x84 * (1 : Nat)) (List.drop (0 : Nat) x85)), PV.sc (Value.int IntKind.i64 x88), PV.sc (Value.int IntKind.u64 x91)], PV.agg [PV.sc (Value.int IntKind.i64 x97), PV.sc (Value.int IntKind.i64 x100), PV.sc (Value.int IntKind.i64 x103)], PV.sc (Value.int IntKind.i64 x106)]) fun x163 x164 =>
    nilK (x164) <|
    consK (x163) fun x165 x166 =>
    intK (IntKind.i64) (x165) fun x167 =>
    nilK (x166) <|
    brK (x162 == x167)
     (
     callK (call (16 : Nat) [PV.agg [PV.sc (Value.int IntKind.i64 a0_0), PV.sc (Value.bool a0_1), PV.sc (Value.int IntKind.i64 a0_2), PV.sc (Value.int IntKind.i64 a0_3), PV.sc (Value.bool a0_4), PV.sc (Value.int IntKind.i64 a0_5), PV.sc (Value.bool a0_6), PV.lst false (1 : Nat) a0_7n a0_7, PV.sc (Value.int IntKind.i64 a0_8)], PV.agg [PV.sc (Value.int IntKind.u64 a1_0), PV.sc (Value.int IntKind.i64 a1_1), PV.sc (Value.int IntKind.i64 a1_2), PV.sc (Value.int IntKind.i64 a1_3), PV.sc (Value.int IntKind.u64 a1_4), PV.lst false (1 : Nat) a1_5n a1_5, PV.sc (Value.int IntKind.i64 a1_6), PV.sc (Value.int IntKind.u64 a1_7)], PV.agg [PV.lst false (1 : Nat) a3_0n a3_0, PV.sc (Value.int IntKind.i64 a3_1), PV.sc (Value.int IntKind.u64 a3_2), PV.sc (Value.int IntKind.u64 a3_3), PV.sc (Value.int IntKind.i64 a3_4), PV.sc (Value.bool a3_5), PV.sc (Value.int IntKind.u64 a3_6), PV.lst false (2 : Nat) a3_7n a3_7, PV.sc (Value.bool a3_8), PV.sc (Value.int IntKind.i64 a3_9), PV.sc (Value.int IntKind.i64 a3_10)], PV.sc (Value.int IntKind.i64 a4)]) fun x168 x169 =>
     nilK (x169) <|
     consK (x168) fun x170 x171 =>
     intK (IntKind.i64) (x170) fun x172 =>
     nilK (x171) <|
     callK (call (17 : Nat) [PV.agg [PV.sc (Value.int IntKind.i64 a0_0), PV.sc (Value.bool a0_1), PV.sc (Value.int IntKind.i64 a0_2), PV.sc (Value.int IntKind.i64 a0_3), PV.sc (Value.bool a0_4), PV.sc (Value.int IntKind.i64 a0_5), PV.sc (Value.bool a0_6), PV.lst false (1 : Nat) a0_7n a0_7, PV.sc (Value.int IntKind.i64 a0_8)], PV.agg [PV.sc (Value.int IntKind.u64 a1_0), PV.sc (Value.int IntKind.i64 a1_1), PV.sc (Value.int IntKind.i64 a1_2), PV.sc (Value.int IntKind.i64 a1_3), PV.sc (Value.int IntKind.u64 a1_4), PV.lst false (1 : Nat) a1_5n a1_5, PV.sc (Value.int IntKind.i64 a1_6), PV.sc (Value.int IntKind.u64 a1_7)], PV.agg [PV.lst false (1 : Nat) a3_0n a3_0, PV.sc (Value.int IntKind.i64 a3_1), PV.sc (Value.int IntKind.u64 a3_2), PV.sc (Value.int IntKind.u64 a3_3), PV.sc (Value.int IntKind.i64 a3_4), PV.sc (Value.bool a3_5), PV.sc (Value.int IntKind.u64 a3_6), PV.lst false (2 : Nat) a3_7n a3_7, PV.sc (Value.bool a3_8), PV.sc (Value.int IntKind.i64 a3_9), PV.sc (Value.int IntKind.i64 a3_10)], PV.sc (Value.int IntKind.i64 a4)]) fun x173 x174 =>
     nilK (x174) <|
     consK (x173) fun x175 x176 =>
     intK (IntKind.i64) (x175) fun x177 =>
     nilK (x176) <|
     brK (x172 == x177)
      (
      chk (decide ((0 : Nat) + x47 * (1 : Nat) ≤ List.length x48)) <|
      chk (decide ((0 : Nat) + x84 * (1 : Nat) ≤ List.length x85)) <|
      callK (call (16 : Nat) [PV.agg [PV.sc (Value.int IntKind.i64 x26), PV.sc (Value.bool x29), PV.sc (Value.int IntKind.i64 x32), PV.sc (Value.int IntKind.i64 x35), PV.sc (Value.bool x38), PV.sc (Value.int IntKind.i64 x41), PV.sc (Value.bool x44), PV.lst false (1 : Nat) x47 (List.take (x47 * (1 : Nat)) (List.drop (0 : Nat) x48)), PV.sc (Value.int IntKind.i64 x51)], PV.agg [PV.sc (Value.int IntKind.u64 x69), PV.sc (Value.int IntKind.i64 x72), PV.sc (Value.int IntKind.i64 x75), PV.sc (Value.int IntKind.i64 x78), PV.sc (Value.int IntKind.u64 x81), PV.lst false (1 : Nat) x84 (List.take (x84 * (1 : Nat)) (List.drop (0 : Nat) x85)), PV.sc (Value.int IntKind.i64 x88), PV.sc (Value.int IntKind.u64 x91)], PV.agg [PV.lst false (1 : Nat) (0 : Nat) [], PV.sc (Value.int IntKind.i64 (0 : Int)), PV.sc (Value.int IntKind.u64 (0 : Int)), PV.sc (Value.int IntKind.u64 x132), PV.sc (Value.int IntKind.i64 (0 : Int)), PV.sc (Value.bool (x137 == (1 : Int))), PV.sc (Value.int IntKind.u64 (0 : Int)), PV.lst false (2 : Nat) (0 : Nat) [], PV.sc (Value.bool false), PV.sc (Value.int IntKind.i64 (0 : Int)), PV.sc (Value.int IntKind.i64 (0 : Int))], PV.sc (Value.int IntKind.i64 x106)]) fun x178 x179 =>
      nilK (x179) <|
      consK (x178) fun x180 x181 =>
      intK (IntKind.i64) (x180) fun x182 =>
      nilK (x181) <|
      chk (decide ((0 : Nat) + x47 * (1 : Nat) ≤ List.length x48)) <|
      chk (decide ((0 : Nat) + x84 * (1 : Nat) ≤ List.length x85)) <|
      callK (call (17 : Nat) [PV.agg [PV.sc (Value.int IntKind.i64 x26), PV.sc (Value.bool x29), PV.sc (Value.int IntKind.i64 x32), PV.sc (Value.int IntKind.i64 x35), PV.sc (Value.bool x38), PV.sc (Value.int IntKind.i64 x41), PV.sc (Value.bool x44), PV.lst false (1 : Nat) x47 (List.take (x47 * (1 : Nat)) (List.drop (0 : Nat) x48)), PV.sc (Value.int IntKind.i64 x51)], PV.agg [PV.sc (Value.int IntKind.u64 x69), PV.sc (Value.int IntKind.i64 x72), PV.sc (Value.int IntKind.i64 x75), PV.sc (Value.int IntKind.i64 x78), PV.sc (Value.int IntKind.u64 x81), PV.lst false (1 : Nat) x84 (List.take (x84 * (1 : Nat)) (List.drop (0 : Nat) x85)), PV.sc (Value.int IntKind.i64 x88), PV.sc (Value.int IntKind.u64 x91)], PV.agg [PV.lst false (1 : Nat) (0 : Nat) [], PV.sc (Value.int IntKind.i64 (0 : Int)), PV.sc (Value.int IntKind.u64 (0 : Int)), PV.sc (Value.int IntKind.u64 x132), PV.sc (Value.int IntKind.i64 (0 : Int)), PV.sc (Value.bool (x137 == (1 : Int))), PV.sc (Value.int IntKind.u64 (0 : Int)), PV.lst false (2 : Nat) (0 : Nat) [], PV.sc (Value.bool false), PV.sc (Value.int IntKind.i64 (0 : Int)), PV.sc (Value.int IntKind.i64 (0 : Int))], PV.sc (Value.int IntKind.i64 x106)]) fun x183 x184 =>
      nilK (x184) <|
      consK (x183) fun x185 x186 =>
      intK (IntKind.i64) (x185) fun x187 =>
      nilK (x186) <|
      brK (x182 == x187)
       (
       callK (call (7 : Nat) []) fun x188 x189 =>
       nilK (x189) <|
       consK (x188) fun x190 x191 =>
       boolK (x190) fun x192 =>
       nilK (x191) <|
       some (Res.mk [PV.sc (Value.bool x192)] []))
       (
       some (Res.mk [PV.sc (Value.bool false)] [])))
      (
      some (Res.mk [PV.sc (Value.bool false)] [])))
     (
     some (Res.mk [PV.sc (Value.bool false)] [])))
    (
    some (Res.mk [PV.sc (Value.bool false)] [])))) (pcall C0 Try.prog fu d) := by kernel_rfl

abbrev F_passkeylaw31_PolicyWeaker : FuncId := 5
theorem passkeylaw31_PolicyWeaker_e (fu d : Nat) (a0n : Nat) (a0 : List PV) (a1 : Int) (a2 : Int) : pcall C0 Try.prog fu (d + 1) F_passkeylaw31_PolicyWeaker [PV.lst false (1 : Nat) a0n a0, PV.sc (Value.int IntKind.u8 a1), PV.sc (Value.int IntKind.u8 a2)] = (fun (call : Call') =>
  callK (call (8 : Nat) [PV.lst false (1 : Nat) a0n a0]) fun x1 x2 =>
  nilK (x2) <|
  consK (x1) fun x3 x4 =>
  pboxK (x3) fun x5 =>
  consK (x5) fun x6 x7 =>
  lsK ((1 : Nat)) (x6) fun x8 x9 x10 =>
  consK (x7) fun x11 x12 =>
  intK (IntKind.i64) (x11) fun x13 =>
  nilK (x12) <|
  nilK (x4) <|
  callK (call (9 : Nat) [PV.pbox [PV.lst false (1 : Nat) x9 x10, PV.sc (Value.int IntKind.i64 x13)]]) fun x14 x15 =>
  consK (x14) fun x16 x17 =>
  aggK (x16) fun x18 =>
  consK (x18) fun x19 x20 =>
  intK (IntKind.i64) (x19) fun x21 =>
  consK (x20) fun x22 x23 =>
  boolK (x22) fun x24 =>
  consK (x23) fun x25 x26 =>
  intK (IntKind.i64) (x25) fun x27 =>
  consK (x26) fun x28 x29 =>
  intK (IntKind.i64) (x28) fun x30 =>
  consK (x29) fun x31 x32 =>
  boolK (x31) fun x33 =>
  consK (x32) fun x34 x35 =>
  intK (IntKind.i64) (x34) fun x36 =>
  consK (x35) fun x37 x38 =>
  boolK (x37) fun x39 =>
  consK (x38) fun x40 x41 =>
  owK ((1 : Nat)) (x40) fun x42 x43 =>
  consK (x41) fun x44 x45 =>
  intK (IntKind.i64) (x44) fun x46 =>
  nilK (x45) <|
  nilK (x17) <|
  consK (x15) fun x47 x48 =>
  consK (x47) fun x49 x50 =>
  lsK ((1 : Nat)) (x49) fun x51 x52 x53 =>
  consK (x50) fun x54 x55 =>
  intK (IntKind.i64) (x54) fun x56 =>
  nilK (x55) <|
  nilK (x48) <|
  callK (call (13 : Nat) [PV.pbox [PV.lst false (1 : Nat) x52 x53, PV.sc (Value.int IntKind.i64 x56)]]) fun x57 x58 =>
  consK (x57) fun x59 x60 =>
  aggK (x59) fun x61 =>
  consK (x61) fun x62 x63 =>
  intK (IntKind.u64) (x62) fun x64 =>
  consK (x63) fun x65 x66 =>
  intK (IntKind.i64) (x65) fun x67 =>
  consK (x66) fun x68 x69 =>
  intK (IntKind.i64) (x68) fun x70 =>
  consK (x69) fun x71 x72 =>
  intK (IntKind.i64) (x71) fun x73 =>
  consK (x72) fun x74 x75 =>
  intK (IntKind.u64) (x74) fun x76 =>
  consK (x75) fun x77 x78 =>
  owK ((1 : Nat)) (x77) fun x79 x80 =>
  consK (x78) fun x81 x82 =>
  intK (IntKind.i64) (x81) fun x83 =>
  consK (x82) fun x84 x85 =>
  intK (IntKind.u64) (x84) fun x86 =>
  nilK (x85) <|
  consK (x60) fun x87 x88 =>
  aggK (x87) fun x89 =>
  consK (x89) fun x90 x91 =>
  intK (IntKind.i64) (x90) fun x92 =>
  consK (x91) fun x93 x94 =>
  intK (IntKind.i64) (x93) fun x95 =>
  consK (x94) fun x96 x97 =>
  intK (IntKind.i64) (x96) fun x98 =>
  nilK (x97) <|
  consK (x88) fun x99 x100 =>
  intK (IntKind.i64) (x99) fun x101 =>
  nilK (x100) <|
  consK (x58) fun x102 x103 =>
  consK (x102) fun x104 x105 =>
  lsK ((1 : Nat)) (x104) fun x106 x107 x108 =>
  consK (x105) fun x109 x110 =>
  intK (IntKind.i64) (x109) fun x111 =>
  nilK (x110) <|
  nilK (x103) <|
  callK (call (10 : Nat) [PV.pbox [PV.lst false (1 : Nat) x107 x108, PV.sc (Value.int IntKind.i64 x111)], PV.sc (Value.int IntKind.i64 (8 : Int))]) fun x112 x113 =>
  consK (x112) fun x114 x115 =>
  intK (IntKind.i64) (x114) fun x116 =>
  nilK (x115) <|
  consK (x113) fun x117 x118 =>
  consK (x117) fun x119 x120 =>
  lsK ((1 : Nat)) (x119) fun x121 x122 x123 =>
  consK (x120) fun x124 x125 =>
  intK (IntKind.i64) (x124) fun x126 =>
  nilK (x125) <|
  nilK (x118) <|
  shareK (IntKind.wrap IntKind.u64 x116) fun x127 =>
  callK (call (10 : Nat) [PV.pbox [PV.lst false (1 : Nat) x122 x123, PV.sc (Value.int IntKind.i64 x126)], PV.sc (Value.int IntKind.i64 (2 : Int))]) fun x128 x129 =>
  consK (x128) fun x130 x131 =>
  intK (IntKind.i64) (x130) fun x132 =>
  nilK (x131) <|
  consK (x129) fun x133 x134 =>
  consK (x133) fun x135 x136 =>
  lsK ((1 : Nat)) (x135) fun x137 x138 x139 =>
  consK (x136) fun x140 x141 =>
  intK (IntKind.i64) (x140) fun x142 =>
  nilK (x141) <|
  nilK (x134) <|
  shareK (Int.tmod a1 (3 : Int)) fun x143 =>
  shareK (IntKind.wrap IntKind.i64 x143) fun x144 =>
  shareK (if x144 < x21 then x144 else x21) fun x145 =>
  shareK (IntKind.wrap IntKind.i64 a2) fun x146 =>
  shareK (iand IntKind.i64 x146 (5 : Int)) fun x147 =>
  shareK (ior IntKind.i64 x67 x147) fun x148 =>
  chk (decide ((0 : Nat) + x42 * (1 : Nat) ≤ List.length x43)) <|
  chk (decide ((0 : Nat) + x79 * (1 : Nat) ≤ List.length x80)) <|
  callK (call (16 : Nat) [PV.agg [PV.sc (Value.int IntKind.i64 x21), PV.sc (Value.bool x24), PV.sc (Value.int IntKind.i64 x27), PV.sc (Value.int IntKind.i64 x30), PV.sc (Value.bool x33), PV.sc (Value.int IntKind.i64 x36), PV.sc (Value.bool x39), PV.lst false (1 : Nat) x42 (List.take (x42 * (1 : Nat)) (List.drop (0 : Nat) x43)), PV.sc (Value.int IntKind.i64 x46)], PV.agg [PV.sc (Value.int IntKind.u64 x64), PV.sc (Value.int IntKind.i64 x67), PV.sc (Value.int IntKind.i64 x70), PV.sc (Value.int IntKind.i64 x73), PV.sc (Value.int IntKind.u64 x76), PV.lst false (1 : Nat) x79 (List.take (x79 * (1 : Nat)) (List.drop (0 : Nat) x80)), PV.sc (Value.int IntKind.i64 x83), PV.sc (Value.int IntKind.u64 x86)], PV.agg [PV.lst false (1 : Nat) (0 : Nat) [], PV.sc (Value.int IntKind.i64 (0 : Int)), PV.sc (Value.int IntKind.u64 (0 : Int)), PV.sc (Value.int IntKind.u64 x127), PV.sc (Value.int IntKind.i64 (0 : Int)), PV.sc (Value.bool (x132 == (1 : Int))), PV.sc (Value.int IntKind.u64 (0 : Int)), PV.lst false (2 : Nat) (0 : Nat) [], PV.sc (Value.bool false), PV.sc (Value.int IntKind.i64 (0 : Int)), PV.sc (Value.int IntKind.i64 (0 : Int))], PV.sc (Value.int IntKind.i64 x101)]) fun x149 x150 =>
  nilK (x150) <|
  consK (x149) fun x151 x152 =>
  intK (IntKind.i64) (x151) fun x153 =>
  nilK (x152) <|
  brK (x153 == (0 : Int))
   (
   chk (decide ((0 : Nat) + x79 * (1 : Nat) ≤ List.length x80)) <|
   callK (call (16 : Nat) [PV.agg [PV.sc (Value.int IntKind.i64 x145), PV.sc (Value.bool x24), PV.sc (Value.int IntKind.i64 (1 : Int)), PV.sc (Value.int IntKind.i64 x30), PV.sc (Value.bool true), PV.sc (Value.int IntKind.i64 x36), PV.sc (Value.bool true), PV.lst false (1 : Nat) (0 : Nat) [], PV.sc (Value.int IntKind.i64 x46)], PV.agg [PV.sc (Value.int IntKind.u64 x64), PV.sc (Value.int IntKind.i64 x67), PV.sc (Value.int IntKind.i64 x70), PV.sc (Value.int IntKind.i64 x73), PV.sc (Value.int IntKind.u64 x76), PV.lst false (1 : Nat) x79 (List.take (x79 * (1 : Nat)) (List.drop (0 : Nat) x80)), PV.sc (Value.int IntKind.i64 x83), PV.sc (Value.int IntKind.u64 x86)], PV.agg [PV.lst false (1 : Nat) (0 : Nat) [], PV.sc (Value.int IntKind.i64 (0 : Int)), PV.sc (Value.int IntKind.u64 (0 : Int)), PV.sc (Value.int IntKind.u64 x127), PV.sc (Value.int IntKind.i64 (0 : Int)), PV.sc (Value.bool (x132 == (1 : Int))), PV.sc (Value.int IntKind.u64 (0 : Int)), PV.lst false (2 : Nat) (0 : Nat) [], PV.sc (Value.bool false), PV.sc (Value.int IntKind.i64 (0 : Int)), PV.sc (Value.int IntKind.i64 (0 : Int))], PV.sc (Value.int IntKind.i64 x101)]) fun x154 x155 =>
   nilK (x155) <|
   consK (x154) fun x156 x157 =>
   intK (IntKind.i64) (x156) fun x158 =>
   nilK (x157) <|
   brK (x158 != (0 : Int))
    (
    some (Res.mk [PV.sc (Value.bool false)] []))
    (
    chk (decide ((0 : Nat) + x42 * (1 : Nat) ≤ List.length x43)) <|
    chk (decide ((0 : Nat) + x79 * (1 : Nat) ≤ List.length x80)) <|
    callK (call (16 : Nat) [PV.agg [PV.sc (Value.int IntKind.i64 x21), PV.sc (Value.bool x24), PV.sc (Value.int IntKind.i64 x27), PV.sc (Value.int IntKind.i64 x30), PV.sc (Value.bool x33), PV.sc (Value.int IntKind.i64 x36), PV.sc (Value.bool x39), PV.lst false (1 : Nat) x42 (List.take (x42 * (1 : Nat)) (List.drop (0 : Nat) x43)), PV.sc (Value.int IntKind.i64 x46)], PV.agg [PV.sc (Value.int IntKind.u64 x64), PV.sc (Value.int IntKind.i64 x148), PV.sc (Value.int IntKind.i64 x70), PV.sc (Value.int IntKind.i64 x73), PV.sc (Value.int IntKind.u64 x76), PV.lst false (1 : Nat) x79 (List.take (x79 * (1 : Nat)) (List.drop (0 : Nat) x80)), PV.sc (Value.int IntKind.i64 x83), PV.sc (Value.int IntKind.u64 x86)], PV.agg [PV.lst false (1 : Nat) (0 : Nat) [], PV.sc (Value.int IntKind.i64 (0 : Int)), PV.sc (Value.int IntKind.u64 (0 : Int)), PV.sc (Value.int IntKind.u64 x127), PV.sc (Value.int IntKind.i64 (0 : Int)), PV.sc (Value.bool (x132 == (1 : Int))), PV.sc (Value.int IntKind.u64 (0 : Int)), PV.lst false (2 : Nat) (0 : Nat) [], PV.sc (Value.bool false), PV.sc (Value.int IntKind.i64 (0 : Int)), PV.sc (Value.int IntKind.i64 (0 : Int))], PV.sc (Value.int IntKind.i64 x101)]) fun x159 x160 =>
    nilK (x160) <|
    consK (x159) fun x161 x162 =>
    intK (IntKind.i64) (x161) fun x163 =>
    nilK (x162) <|
    brK (x163 != (0 : Int))
     (
     some (Res.mk [PV.sc (Value.bool false)] []))
     (
     chk (decide ((0 : Nat) + x42 * (1 : Nat) ≤ List.length x43)) <|
     chk (decide ((0 : Nat) + x79 * (1 : Nat) ≤ List.length x80)) <|
     callK (call (14 : Nat) [PV.agg [PV.sc (Value.int IntKind.i64 x21), PV.sc (Value.bool x24), PV.sc (Value.int IntKind.i64 x27), PV.sc (Value.int IntKind.i64 x30), PV.sc (Value.bool x33), PV.sc (Value.int IntKind.i64 x36), PV.sc (Value.bool x39), PV.lst false (1 : Nat) x42 (List.take (x42 * (1 : Nat)) (List.drop (0 : Nat) x43)), PV.sc (Value.int IntKind.i64 x46)], PV.agg [PV.sc (Value.int IntKind.u64 x64), PV.sc (Value.int IntKind.i64 x67), PV.sc (Value.int IntKind.i64 x70), PV.sc (Value.int IntKind.i64 x73), PV.sc (Value.int IntKind.u64 x76), PV.lst false (1 : Nat) x79 (List.take (x79 * (1 : Nat)) (List.drop (0 : Nat) x80)), PV.sc (Value.int IntKind.i64 x83), PV.sc (Value.int IntKind.u64 x86)], PV.agg [PV.sc (Value.int IntKind.i64 x92), PV.sc (Value.int IntKind.i64 x95), PV.sc (Value.int IntKind.i64 x98)], PV.sc (Value.int IntKind.i64 x101)]) fun x164 x165 =>
     nilK (x165) <|
     consK (x164) fun x166 x167 =>
     intK (IntKind.i64) (x166) fun x168 =>
     nilK (x167) <|
     brK (x168 == (0 : Int))
      (
      chk (decide ((0 : Nat) + x79 * (1 : Nat) ≤ List.length x80)) <|
      callK (call (14 : Nat) [PV.agg [PV.sc (Value.int IntKind.i64 x145), PV.sc (Value.bool x24), PV.sc (Value.int IntKind.i64 (1 : Int)), PV.sc (Value.int IntKind.i64 x30), PV.sc (Value.bool true), PV.sc (Value.int IntKind.i64 x36), PV.sc (Value.bool true), PV.lst false (1 : Nat) (0 : Nat) [], PV.sc (Value.int IntKind.i64 x46)], PV.agg [PV.sc (Value.int IntKind.u64 x64), PV.sc (Value.int IntKind.i64 x67), PV.sc (Value.int IntKind.i64 x70), PV.sc (Value.int IntKind.i64 x73), PV.sc (Value.int IntKind.u64 x76), PV.lst false (1 : Nat) x79 (List.take (x79 * (1 : Nat)) (List.drop (0 : Nat) x80)), PV.sc (Value.int IntKind.i64 x83), PV.sc (Value.int IntKind.u64 x86)], PV.agg [PV.sc (Value.int IntKind.i64 x92), PV.sc (Value.int IntKind.i64 x95), PV.sc (Value.int IntKind.i64 x98)], PV.sc (Value.int IntKind.i64 x101)]) fun x169 x170 =>
      nilK (x170) <|
      consK (x169) fun x171 x172 =>
      intK (IntKind.i64) (x171) fun x173 =>
      nilK (x172) <|
      brK (x173 != (0 : Int))
       (
       some (Res.mk [PV.sc (Value.bool false)] []))
       (
       chk (decide ((0 : Nat) + x42 * (1 : Nat) ≤ List.length x43)) <|
       chk (decide ((0 : Nat) + x79 * (1 : Nat) ≤ List.length x80)) <|
       callK (call (14 : Nat) [PV.agg [PV.sc (Value.int IntKind.i64 x21), PV.sc (Value.bool x24), PV.sc (Value.int IntKind.i64 x27), PV.sc (Value.int IntKind.i64 x30), PV.sc (Value.bool x33), PV.sc (Value.int IntKind.i64 x36), PV.sc (Value.bool x39), PV.lst false (1 : Nat) x42 (List.take (x42 * (1 : Nat)) (List.drop (0 : Nat) x43)), PV.sc (Value.int IntKind.i64 x46)], PV.agg [PV.sc (Value.int IntKind.u64 x64), PV.sc (Value.int IntKind.i64 x148), PV.sc (Value.int IntKind.i64 x70), PV.sc (Value.int IntKind.i64 x73), PV.sc (Value.int IntKind.u64 x76), PV.lst false (1 : Nat) x79 (List.take (x79 * (1 : Nat)) (List.drop (0 : Nat) x80)), PV.sc (Value.int IntKind.i64 x83), PV.sc (Value.int IntKind.u64 x86)], PV.agg [PV.sc (Value.int IntKind.i64 x92), PV.sc (Value.int IntKind.i64 x95), PV.sc (Value.int IntKind.i64 x98)], PV.sc (Value.int IntKind.i64 x101)]) fun x174 x175 =>
       nilK (x175) <|
       consK (x174) fun x176 x177 =>
       intK (IntKind.i64) (x176) fun x178 =>
       nilK (x177) <|
       brK (x178 != (0 : Int))
        (
        some (Res.mk [PV.sc (Value.bool false)] []))
        (
        callK (call (7 : Nat) []) fun x179 x180 =>
        nilK (x180) <|
        consK (x179) fun x181 x182 =>
        boolK (x181) fun x183 =>
        nilK (x182) <|
        some (Res.mk [PV.sc (Value.bool x183)] []))))
      (
      callK (call (7 : Nat) []) fun x184 x185 =>
      nilK (x185) <|
      consK (x184) fun x186 x187 =>
      boolK (x186) fun x188 =>
      nilK (x187) <|
      some (Res.mk [PV.sc (Value.bool x188)] [])))))
   (
   chk (decide ((0 : Nat) + x42 * (1 : Nat) ≤ List.length x43)) <|
   chk (decide ((0 : Nat) + x79 * (1 : Nat) ≤ List.length x80)) <|
   callK (call (14 : Nat) [PV.agg [PV.sc (Value.int IntKind.i64 x21), PV.sc (Value.bool x24), PV.sc (Value.int IntKind.i64 x27), PV.sc (Value.int IntKind.i64 x30), PV.sc (Value.bool x33), PV.sc (Value.int IntKind.i64 x36), PV.sc (Value.bool x39), PV.lst false (1 : Nat) x42 (List.take (x42 * (1 : Nat)) (List.drop (0 : Nat) x43)), PV.sc (Value.int IntKind.i64 x46)], PV.agg [PV.sc (Value.int IntKind.u64 x64), PV.sc (Value.int IntKind.i64 x67), PV.sc (Value.int IntKind.i64 x70), PV.sc (Value.int IntKind.i64 x73), PV.sc (Value.int IntKind.u64 x76), PV.lst false (1 : Nat) x79 (List.take (x79 * (1 : Nat)) (List.drop (0 : Nat) x80)), PV.sc (Value.int IntKind.i64 x83), PV.sc (Value.int IntKind.u64 x86)], PV.agg [PV.sc (Value.int IntKind.i64 x92), PV.sc (Value.int IntKind.i64 x95), PV.sc (Value.int IntKind.i64 x98)], PV.sc (Value.int IntKind.i64 x101)]) fun x189 x190 =>
   nilK (x190) <|
   consK (x189) fun x191 x192 =>
   intK (IntKind.i64) (x191) fun x193 =>
   nilK (x192) <|
   brK (x193 == (0 : Int))
    (
    chk (decide ((0 : Nat) + x79 * (1 : Nat) ≤ List.length x80)) <|
    callK (call (14 : Nat) [PV.agg [PV.sc (Value.int IntKind.i64 x145), PV.sc (Value.bool x24), PV.sc (Value.int IntKind.i64 (1 : Int)), PV.sc (Value.int IntKind.i64 x30), PV.sc (Value.bool true), PV.sc (Value.int IntKind.i64 x36), PV.sc (Value.bool true), PV.lst false (1 : Nat) (0 : Nat) [], PV.sc (Value.int IntKind.i64 x46)], PV.agg [PV.sc (Value.int IntKind.u64 x64), PV.sc (Value.int IntKind.i64 x67), PV.sc (Value.int IntKind.i64 x70), PV.sc (Value.int IntKind.i64 x73), PV.sc (Value.int IntKind.u64 x76), PV.lst false (1 : Nat) x79 (List.take (x79 * (1 : Nat)) (List.drop (0 : Nat) x80)), PV.sc (Value.int IntKind.i64 x83), PV.sc (Value.int IntKind.u64 x86)], PV.agg [PV.sc (Value.int IntKind.i64 x92), PV.sc (Value.int IntKind.i64 x95), PV.sc (Value.int IntKind.i64 x98)], PV.sc (Value.int IntKind.i64 x101)]) fun x194 x195 =>
    nilK (x195) <|
    consK (x194) fun x196 x197 =>
    intK (IntKind.i64) (x196) fun x198 =>
    nilK (x197) <|
    brK (x198 != (0 : Int))
     (
     some (Res.mk [PV.sc (Value.bool false)] []))
     (
     chk (decide ((0 : Nat) + x42 * (1 : Nat) ≤ List.length x43)) <|
     chk (decide ((0 : Nat) + x79 * (1 : Nat) ≤ List.length x80)) <|
     callK (call (14 : Nat) [PV.agg [PV.sc (Value.int IntKind.i64 x21), PV.sc (Value.bool x24), PV.sc (Value.int IntKind.i64 x27), PV.sc (Value.int IntKind.i64 x30), PV.sc (Value.bool x33), PV.sc (Value.int IntKind.i64 x36), PV.sc (Value.bool x39), PV.lst false (1 : Nat) x42 (List.take (x42 * (1 : Nat)) (List.drop (0 : Nat) x43)), PV.sc (Value.int IntKind.i64 x46)], PV.agg [PV.sc (Value.int IntKind.u64 x64), PV.sc (Value.int IntKind.i64 x148), PV.sc (Value.int IntKind.i64 x70), PV.sc (Value.int IntKind.i64 x73), PV.sc (Value.int IntKind.u64 x76), PV.lst false (1 : Nat) x79 (List.take (x79 * (1 : Nat)) (List.drop (0 : Nat) x80)), PV.sc (Value.int IntKind.i64 x83), PV.sc (Value.int IntKind.u64 x86)], PV.agg [PV.sc (Value.int IntKind.i64 x92), PV.sc (Value.int IntKind.i64 x95), PV.sc (Value.int IntKind.i64 x98)], PV.sc (Value.int IntKind.i64 x101)]) fun x199 x200 =>
     nilK (x200) <|
     consK (x199) fun x201 x202 =>
     intK (IntKind.i64) (x201) fun x203 =>
     nilK (x202) <|
     brK (x203 != (0 : Int))
      (
      some (Res.mk [PV.sc (Value.bool false)] []))
      (
      callK (call (7 : Nat) []) fun x204 x205 =>
      nilK (x205) <|
      consK (x204) fun x206 x207 =>
      boolK (x206) fun x208 =>
      nilK (x207) <|
      some (Res.mk [PV.sc (Value.bool x208)] []))))
    (
    callK (call (7 : Nat) []) fun x209 x210 =>
    nilK (x210) <|
    consK (x209) fun x211 x212 =>
    boolK (x211) fun x213 =>
    nilK (x212) <|
    some (Res.mk [PV.sc (Value.bool x213)] [])))) (pcall C0 Try.prog fu d) := by kernel_rfl

abbrev F_passkeylaw31_PolicyModels : FuncId := 6
theorem passkeylaw31_PolicyModels_e (fu d : Nat) (a0n : Nat) (a0 : List PV) (a1 : Int) (a2 : Int) : pcall C0 Try.prog fu (d + 1) F_passkeylaw31_PolicyModels [PV.lst false (1 : Nat) a0n a0, PV.sc (Value.int IntKind.u64 a1), PV.sc (Value.int IntKind.u8 a2)] = (fun (call : Call') =>
  callK (call (8 : Nat) [PV.lst false (1 : Nat) a0n a0]) fun x1 x2 =>
  nilK (x2) <|
  consK (x1) fun x3 x4 =>
  pboxK (x3) fun x5 =>
  consK (x5) fun x6 x7 =>
  lsK ((1 : Nat)) (x6) fun x8 x9 x10 =>
  consK (x7) fun x11 x12 =>
  intK (IntKind.i64) (x11) fun x13 =>
  nilK (x12) <|
  nilK (x4) <|
  callK (call (9 : Nat) [PV.pbox [PV.lst false (1 : Nat) x9 x10, PV.sc (Value.int IntKind.i64 x13)]]) fun x14 x15 =>
  consK (x14) fun x16 x17 =>
  aggK (x16) fun x18 =>
  consK (x18) fun x19 x20 =>
  intK (IntKind.i64) (x19) fun x21 =>
  consK (x20) fun x22 x23 =>
  boolK (x22) fun x24 =>
  consK (x23) fun x25 x26 =>
  intK (IntKind.i64) (x25) fun x27 =>
  consK (x26) fun x28 x29 =>
  intK (IntKind.i64) (x28) fun x30 =>
  consK (x29) fun x31 x32 =>
  boolK (x31) fun x33 =>
  consK (x32) fun x34 x35 =>
  intK (IntKind.i64) (x34) fun x36 =>
  consK (x35) fun x37 x38 =>
  boolK (x37) fun x39 =>
  consK (x38) fun x40 x41 =>
  owK ((1 : Nat)) (x40) fun x42 x43 =>
  consK (x41) fun x44 x45 =>
  intK (IntKind.i64) (x44) fun x46 =>
  nilK (x45) <|
  nilK (x17) <|
  consK (x15) fun x47 x48 =>
  consK (x47) fun x49 x50 =>
  lsK ((1 : Nat)) (x49) fun x51 x52 x53 =>
  consK (x50) fun x54 x55 =>
  intK (IntKind.i64) (x54) fun x56 =>
  nilK (x55) <|
  nilK (x48) <|
  callK (call (13 : Nat) [PV.pbox [PV.lst false (1 : Nat) x52 x53, PV.sc (Value.int IntKind.i64 x56)]]) fun x57 x58 =>
  consK (x57) fun x59 x60 =>
  aggK (x59) fun x61 =>
  consK (x61) fun x62 x63 =>
  intK (IntKind.u64) (x62) fun x64 =>
  consK (x63) fun x65 x66 =>
  intK (IntKind.i64) (x65) fun x67 =>
  consK (x66) fun x68 x69 =>
  intK (IntKind.i64) (x68) fun x70 =>
  consK (x69) fun x71 x72 =>
  intK (IntKind.i64) (x71) fun x73 =>
  consK (x72) fun x74 x75 =>
  intK (IntKind.u64) (x74) fun x76 =>
  consK (x75) fun x77 x78 =>
  owK ((1 : Nat)) (x77) fun x79 x80 =>
  consK (x78) fun x81 x82 =>
  intK (IntKind.i64) (x81) fun x83 =>
  consK (x82) fun x84 x85 =>
  intK (IntKind.u64) (x84) fun x86 =>
  nilK (x85) <|
  consK (x60) fun x87 x88 =>
  aggK (x87) fun x89 =>
  consK (x89) fun x90 x91 =>
  intK (IntKind.i64) (x90) fun x92 =>
  consK (x91) fun x93 x94 =>
  intK (IntKind.i64) (x93) fun x95 =>
  consK (x94) fun x96 x97 =>
  intK (IntKind.i64) (x96) fun x98 =>
  nilK (x97) <|
  consK (x88) fun x99 x100 =>
  intK (IntKind.i64) (x99) fun x101 =>
  nilK (x100) <|
  consK (x58) fun x102 x103 =>
  consK (x102) fun x104 x105 =>
  lsK ((1 : Nat)) (x104) fun x106 x107 x108 =>
  consK (x105) fun x109 x110 =>
  intK (IntKind.i64) (x109) fun x111 =>
  nilK (x110) <|
  nilK (x103) <|
  shareK (Int.tmod a2 (2 : Int)) fun x112 =>
  shareK (IntKind.wrap IntKind.i64 x112) fun x113 =>
  shareK (IntKind.wrap IntKind.i64 ((3 : Int) + x113)) fun x114 =>
  brK (decide (a2 > (127 : Int)))
   (
   chk (decide ((0 : Nat) + x79 * (1 : Nat) ≤ List.length x80)) <|
   callK (call (14 : Nat) [PV.agg [PV.sc (Value.int IntKind.i64 x21), PV.sc (Value.bool x24), PV.sc (Value.int IntKind.i64 x27), PV.sc (Value.int IntKind.i64 x30), PV.sc (Value.bool x33), PV.sc (Value.int IntKind.i64 (2 : Int)), PV.sc (Value.bool x39), PV.lst false (1 : Nat) (1 : Nat) [PV.sc (Value.int IntKind.u64 a1)], PV.sc (Value.int IntKind.i64 x46)], PV.agg [PV.sc (Value.int IntKind.u64 x64), PV.sc (Value.int IntKind.i64 x67), PV.sc (Value.int IntKind.i64 x70), PV.sc (Value.int IntKind.i64 x73), PV.sc (Value.int IntKind.u64 a1), PV.lst false (1 : Nat) x79 (List.take (x79 * (1 : Nat)) (List.drop (0 : Nat) x80)), PV.sc (Value.int IntKind.i64 x83), PV.sc (Value.int IntKind.u64 x86)], PV.agg [PV.sc (Value.int IntKind.i64 (2 : Int)), PV.sc (Value.int IntKind.i64 (0 : Int)), PV.sc (Value.int IntKind.i64 (0 : Int))], PV.sc (Value.int IntKind.i64 (1 : Int))]) fun x115 x116 =>
   nilK (x116) <|
   consK (x115) fun x117 x118 =>
   intK (IntKind.i64) (x117) fun x119 =>
   nilK (x118) <|
   shareK (iand IntKind.i64 x67 (8 : Int)) fun x120 =>
   chk (decide ((0 : Nat) + x79 * (1 : Nat) ≤ List.length x80)) <|
   callK (call (16 : Nat) [PV.agg [PV.sc (Value.int IntKind.i64 x21), PV.sc (Value.bool x24), PV.sc (Value.int IntKind.i64 x27), PV.sc (Value.int IntKind.i64 x30), PV.sc (Value.bool x33), PV.sc (Value.int IntKind.i64 (2 : Int)), PV.sc (Value.bool x39), PV.lst false (1 : Nat) (1 : Nat) [PV.sc (Value.int IntKind.u64 a1)], PV.sc (Value.int IntKind.i64 x46)], PV.agg [PV.sc (Value.int IntKind.u64 x64), PV.sc (Value.int IntKind.i64 x67), PV.sc (Value.int IntKind.i64 x70), PV.sc (Value.int IntKind.i64 x73), PV.sc (Value.int IntKind.u64 a1), PV.lst false (1 : Nat) x79 (List.take (x79 * (1 : Nat)) (List.drop (0 : Nat) x80)), PV.sc (Value.int IntKind.i64 x83), PV.sc (Value.int IntKind.u64 x86)], PV.agg [PV.lst false (1 : Nat) (0 : Nat) [], PV.sc (Value.int IntKind.i64 (0 : Int)), PV.sc (Value.int IntKind.u64 (0 : Int)), PV.sc (Value.int IntKind.u64 a1), PV.sc (Value.int IntKind.i64 (0 : Int)), PV.sc (Value.bool (x120 != (0 : Int))), PV.sc (Value.int IntKind.u64 (0 : Int)), PV.lst false (2 : Nat) (0 : Nat) [], PV.sc (Value.bool false), PV.sc (Value.int IntKind.i64 (0 : Int)), PV.sc (Value.int IntKind.i64 (0 : Int))], PV.sc (Value.int IntKind.i64 (1 : Int))]) fun x121 x122 =>
   nilK (x122) <|
   consK (x121) fun x123 x124 =>
   intK (IntKind.i64) (x123) fun x125 =>
   nilK (x124) <|
   brK (x119 != (0 : Int))
    (
    brK (x125 != (0 : Int))
     (
     callK (call (7 : Nat) []) fun x126 x127 =>
     nilK (x127) <|
     consK (x126) fun x128 x129 =>
     boolK (x128) fun x130 =>
     nilK (x129) <|
     some (Res.mk [PV.sc (Value.bool x130)] []))
     (
     brK (a1 == (0 : Int))
      (
      callK (call (7 : Nat) []) fun x131 x132 =>
      nilK (x132) <|
      consK (x131) fun x133 x134 =>
      boolK (x133) fun x135 =>
      nilK (x134) <|
      some (Res.mk [PV.sc (Value.bool x135)] []))
      (
      some (Res.mk [PV.sc (Value.bool false)] []))))
    (
    some (Res.mk [PV.sc (Value.bool false)] [])))
   (
   chk (decide ((0 : Nat) + x42 * (1 : Nat) ≤ List.length x43)) <|
   chk (decide ((0 : Nat) + x79 * (1 : Nat) ≤ List.length x80)) <|
   callK (call (14 : Nat) [PV.agg [PV.sc (Value.int IntKind.i64 x21), PV.sc (Value.bool x24), PV.sc (Value.int IntKind.i64 x27), PV.sc (Value.int IntKind.i64 x30), PV.sc (Value.bool x33), PV.sc (Value.int IntKind.i64 (2 : Int)), PV.sc (Value.bool x39), PV.lst false (1 : Nat) x42 (List.take (x42 * (1 : Nat)) (List.drop (0 : Nat) x43)), PV.sc (Value.int IntKind.i64 x46)], PV.agg [PV.sc (Value.int IntKind.u64 x64), PV.sc (Value.int IntKind.i64 x67), PV.sc (Value.int IntKind.i64 x70), PV.sc (Value.int IntKind.i64 x73), PV.sc (Value.int IntKind.u64 a1), PV.lst false (1 : Nat) x79 (List.take (x79 * (1 : Nat)) (List.drop (0 : Nat) x80)), PV.sc (Value.int IntKind.i64 x83), PV.sc (Value.int IntKind.u64 x86)], PV.agg [PV.sc (Value.int IntKind.i64 (2 : Int)), PV.sc (Value.int IntKind.i64 (0 : Int)), PV.sc (Value.int IntKind.i64 (0 : Int))], PV.sc (Value.int IntKind.i64 x114)]) fun x136 x137 =>
   nilK (x137) <|
   consK (x136) fun x138 x139 =>
   intK (IntKind.i64) (x138) fun x140 =>
   nilK (x139) <|
   shareK (iand IntKind.i64 x67 (8 : Int)) fun x141 =>
   chk (decide ((0 : Nat) + x42 * (1 : Nat) ≤ List.length x43)) <|
   chk (decide ((0 : Nat) + x79 * (1 : Nat) ≤ List.length x80)) <|
   callK (call (16 : Nat) [PV.agg [PV.sc (Value.int IntKind.i64 x21), PV.sc (Value.bool x24), PV.sc (Value.int IntKind.i64 x27), PV.sc (Value.int IntKind.i64 x30), PV.sc (Value.bool x33), PV.sc (Value.int IntKind.i64 (2 : Int)), PV.sc (Value.bool x39), PV.lst false (1 : Nat) x42 (List.take (x42 * (1 : Nat)) (List.drop (0 : Nat) x43)), PV.sc (Value.int IntKind.i64 x46)], PV.agg [PV.sc (Value.int IntKind.u64 x64), PV.sc (Value.int IntKind.i64 x67), PV.sc (Value.int IntKind.i64 x70), PV.sc (Value.int IntKind.i64 x73), PV.sc (Value.int IntKind.u64 a1), PV.lst false (1 : Nat) x79 (List.take (x79 * (1 : Nat)) (List.drop (0 : Nat) x80)), PV.sc (Value.int IntKind.i64 x83), PV.sc (Value.int IntKind.u64 x86)], PV.agg [PV.lst false (1 : Nat) (0 : Nat) [], PV.sc (Value.int IntKind.i64 (0 : Int)), PV.sc (Value.int IntKind.u64 (0 : Int)), PV.sc (Value.int IntKind.u64 a1), PV.sc (Value.int IntKind.i64 (0 : Int)), PV.sc (Value.bool (x141 != (0 : Int))), PV.sc (Value.int IntKind.u64 (0 : Int)), PV.lst false (2 : Nat) (0 : Nat) [], PV.sc (Value.bool false), PV.sc (Value.int IntKind.i64 (0 : Int)), PV.sc (Value.int IntKind.i64 (0 : Int))], PV.sc (Value.int IntKind.i64 x114)]) fun x142 x143 =>
   nilK (x143) <|
   consK (x142) fun x144 x145 =>
   intK (IntKind.i64) (x144) fun x146 =>
   nilK (x145) <|
   brK (x140 != (0 : Int))
    (
    brK (x146 != (0 : Int))
     (
     callK (call (7 : Nat) []) fun x147 x148 =>
     nilK (x148) <|
     consK (x147) fun x149 x150 =>
     boolK (x149) fun x151 =>
     nilK (x150) <|
     some (Res.mk [PV.sc (Value.bool x151)] []))
     (
     brK (a1 == (0 : Int))
      (
      callK (call (7 : Nat) []) fun x152 x153 =>
      nilK (x153) <|
      consK (x152) fun x154 x155 =>
      boolK (x154) fun x156 =>
      nilK (x155) <|
      some (Res.mk [PV.sc (Value.bool x156)] []))
      (
      some (Res.mk [PV.sc (Value.bool false)] []))))
    (
    some (Res.mk [PV.sc (Value.bool false)] [])))) (pcall C0 Try.prog fu d) := by kernel_rfl

end Go.Proofs.Ytoihfmiifeegpaa.Pv
