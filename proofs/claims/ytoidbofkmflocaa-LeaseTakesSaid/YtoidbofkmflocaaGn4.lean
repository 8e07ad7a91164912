/-
  What the functions compute, step by step: written by a program (wip/tools/gen.py).
-/
import Derived.Test.YtoidbofkmflocaaPvL
import Derived.Test.YtoidbofkmflocaaRows
set_option maxRecDepth 100000
set_option linter.unusedVariables false
namespace Go.Proofs.Ytoidbofkmflocaa.Pv

abbrev F_passkeylaw10_LeaseFinds : FuncId := 3
theorem passkeylaw10_LeaseFinds_e (fu d : Nat) (a0n : Nat) (a0 : List PV) (a1n : Nat) (a1 : List PV) (a2 : Int) (a3 : Int) : pcall C0 Try.prog fu (d + 1) F_passkeylaw10_LeaseFinds [PV.lst false (4 : Nat) a0n a0, PV.lst false (1 : Nat) a1n a1, PV.sc (Value.int IntKind.u64 a2), PV.sc (Value.int IntKind.u8 a3)] = (fun (call : Call') =>
  brK (decide ((↑a0n : Int) > (40 : Int)))
   (
   callK (call (9 : Nat) []) fun x1 x2 =>
   nilK (x2) <|
   consK (x1) fun x3 x4 =>
   boolK (x3) fun x5 =>
   nilK (x4) <|
   some (Res.mk [PV.sc (Value.bool x5)] []))
   (
   callK (call (10 : Nat) [PV.lst false (1 : Nat) a1n a1]) fun x6 x7 =>
   nilK (x7) <|
   consK (x6) fun x8 x9 =>
   owK ((4 : Nat)) (x8) fun x10 x11 =>
   nilK (x9) <|
   callK (call (11 : Nat) [PV.lst false (4 : Nat) a0n a0, PV.sc (Value.int IntKind.u64 a2)]) fun x12 x13 =>
   nilK (x13) <|
   consK (x12) fun x14 x15 =>
   intK (IntKind.i64) (x14) fun x16 =>
   consK (x15) fun x17 x18 =>
   boolK (x17) fun x19 =>
   nilK (x18) <|
   callK (call (12 : Nat) [PV.lst false (4 : Nat) a0n a0, PV.sc (Value.int IntKind.u64 a2)]) fun x20 x21 =>
   nilK (x21) <|
   consK (x20) fun x22 x23 =>
   intK (IntKind.i64) (x22) fun x24 =>
   consK (x23) fun x25 x26 =>
   boolK (x25) fun x27 =>
   nilK (x26) <|
   shareK (Int.tmod a3 (20 : Int)) fun x28 =>
   shareK (IntKind.wrap IntKind.u64 x28) fun x29 =>
   chk (decide ((0 : Nat) + x10 * (4 : Nat) ≤ List.length x11)) <|
   callK (call (11 : Nat) [PV.lst false (4 : Nat) x10 (List.take (x10 * (4 : Nat)) (List.drop (0 : Nat) x11)), PV.sc (Value.int IntKind.u64 x29)]) fun x30 x31 =>
   nilK (x31) <|
   consK (x30) fun x32 x33 =>
   intK (IntKind.i64) (x32) fun x34 =>
   consK (x33) fun x35 x36 =>
   boolK (x35) fun x37 =>
   nilK (x36) <|
   shareK (Int.tmod a3 (20 : Int)) fun x38 =>
   shareK (IntKind.wrap IntKind.u64 x38) fun x39 =>
   chk (decide ((0 : Nat) + x10 * (4 : Nat) ≤ List.length x11)) <|
   callK (call (12 : Nat) [PV.lst false (4 : Nat) x10 (List.take (x10 * (4 : Nat)) (List.drop (0 : Nat) x11)), PV.sc (Value.int IntKind.u64 x39)]) fun x40 x41 =>
   nilK (x41) <|
   consK (x40) fun x42 x43 =>
   intK (IntKind.i64) (x42) fun x44 =>
   consK (x43) fun x45 x46 =>
   boolK (x45) fun x47 =>
   nilK (x46) <|
   callK (call (13 : Nat) [PV.lst false (4 : Nat) a0n a0]) fun x48 x49 =>
   nilK (x49) <|
   consK (x48) fun x50 x51 =>
   intK (IntKind.i64) (x50) fun x52 =>
   nilK (x51) <|
   callK (call (14 : Nat) [PV.lst false (4 : Nat) a0n a0]) fun x53 x54 =>
   nilK (x54) <|
   consK (x53) fun x55 x56 =>
   intK (IntKind.i64) (x55) fun x57 =>
   nilK (x56) <|
   brK (x52 == x57)
    (
    chk (decide ((0 : Nat) + x10 * (4 : Nat) ≤ List.length x11)) <|
    callK (call (13 : Nat) [PV.lst false (4 : Nat) x10 (List.take (x10 * (4 : Nat)) (List.drop (0 : Nat) x11))]) fun x58 x59 =>
    nilK (x59) <|
    consK (x58) fun x60 x61 =>
    intK (IntKind.i64) (x60) fun x62 =>
    nilK (x61) <|
    chk (decide ((0 : Nat) + x10 * (4 : Nat) ≤ List.length x11)) <|
    callK (call (14 : Nat) [PV.lst false (4 : Nat) x10 (List.take (x10 * (4 : Nat)) (List.drop (0 : Nat) x11))]) fun x63 x64 =>
    nilK (x64) <|
    consK (x63) fun x65 x66 =>
    intK (IntKind.i64) (x65) fun x67 =>
    nilK (x66) <|
    brK (x62 == x67)
     (
     brK (x16 == x24)
      (
      brK (x19 == x27)
       (
       brK (x34 == x44)
        (
        brK (x37 == x47)
         (
         callK (call (9 : Nat) []) fun x68 x69 =>
         nilK (x69) <|
         consK (x68) fun x70 x71 =>
         boolK (x70) fun x72 =>
         nilK (x71) <|
         some (Res.mk [PV.sc (Value.bool x72)] []))
         (
         some (Res.mk [PV.sc (Value.bool false)] [])))
        (
        some (Res.mk [PV.sc (Value.bool false)] [])))
       (
       some (Res.mk [PV.sc (Value.bool false)] [])))
      (
      some (Res.mk [PV.sc (Value.bool false)] [])))
     (
     some (Res.mk [PV.sc (Value.bool false)] [])))
    (
    some (Res.mk [PV.sc (Value.bool false)] [])))) (pcall C0 Try.prog fu d) := by kernel_rfl

abbrev F_passkeylaw10_LeaseGrants : FuncId := 4
theorem passkeylaw10_LeaseGrants_e (fu d : Nat) (a0n : Nat) (a0 : List PV) (a1 : Int) (a2 : Int) : pcall C0 Try.prog fu (d + 1) F_passkeylaw10_LeaseGrants [PV.lst false (1 : Nat) a0n a0, PV.sc (Value.int IntKind.u64 a1), PV.sc (Value.int IntKind.i64 a2)] = (fun (call : Call') =>
  callK (call (10 : Nat) [PV.lst false (1 : Nat) a0n a0]) fun x1 x2 =>
  nilK (x2) <|
  consK (x1) fun x3 x4 =>
  owK ((4 : Nat)) (x3) fun x5 x6 =>
  nilK (x4) <|
  shareK (iand IntKind.i64 a2 (15 : Int)) fun x7 =>
  shareK (ishr IntKind.i64 a2 (4 : Int)) fun x8 =>
  shareK (iand IntKind.i64 x8 (31 : Int)) fun x9 =>
  shareK (IntKind.wrap IntKind.i64 (x9 - (3 : Int))) fun x10 =>
  shareK (ishr IntKind.i64 a2 (9 : Int)) fun x11 =>
  shareK (iand IntKind.i64 x11 (31 : Int)) fun x12 =>
  shareK (IntKind.wrap IntKind.i64 (x12 - (3 : Int))) fun x13 =>
  chk (decide ((0 : Nat) + x5 * (4 : Nat) ≤ List.length x6)) <|
  callK (call (15 : Nat) [PV.lst false (4 : Nat) x5 (List.take (x5 * (4 : Nat)) (List.drop (0 : Nat) x6)), PV.sc (Value.int IntKind.u64 a1), PV.sc (Value.int IntKind.i64 x7), PV.sc (Value.int IntKind.i64 x10), PV.sc (Value.int IntKind.i64 x13)]) fun x14 x15 =>
  nilK (x15) <|
  consK (x14) fun x16 x17 =>
  owK ((4 : Nat)) (x16) fun x18 x19 =>
  consK (x17) fun x20 x21 =>
  intK (IntKind.i64) (x20) fun x22 =>
  nilK (x21) <|
  chk (decide ((0 : Nat) + x5 * (4 : Nat) ≤ List.length x6)) <|
  callK (call (16 : Nat) [PV.lst false (4 : Nat) x5 (List.take (x5 * (4 : Nat)) (List.drop (0 : Nat) x6)), PV.sc (Value.int IntKind.u64 a1), PV.sc (Value.int IntKind.i64 x7), PV.sc (Value.int IntKind.i64 x10), PV.sc (Value.int IntKind.i64 x13)]) fun x23 x24 =>
  nilK (x24) <|
  consK (x23) fun x25 x26 =>
  owK ((4 : Nat)) (x25) fun x27 x28 =>
  consK (x26) fun x29 x30 =>
  intK (IntKind.i64) (x29) fun x31 =>
  nilK (x30) <|
  shareK (ishr IntKind.i64 a2 (14 : Int)) fun x32 =>
  shareK (iand IntKind.i64 x32 (31 : Int)) fun x33 =>
  shareK (IntKind.wrap IntKind.u64 x33) fun x34 =>
  shareK (ishr IntKind.i64 a2 (19 : Int)) fun x35 =>
  shareK (iand IntKind.i64 x35 (3 : Int)) fun x36 =>
  shareK (IntKind.wrap IntKind.i64 (x7 + x36)) fun x37 =>
  chk (decide ((0 : Nat) + x5 * (4 : Nat) ≤ List.length x6)) <|
  callK (call (15 : Nat) [PV.lst false (4 : Nat) x5 (List.take (x5 * (4 : Nat)) (List.drop (0 : Nat) x6)), PV.sc (Value.int IntKind.u64 x34), PV.sc (Value.int IntKind.i64 x7), PV.sc (Value.int IntKind.i64 x37), PV.sc (Value.int IntKind.i64 x7)]) fun x38 x39 =>
  nilK (x39) <|
  consK (x38) fun x40 x41 =>
  owK ((4 : Nat)) (x40) fun x42 x43 =>
  consK (x41) fun x44 x45 =>
  intK (IntKind.i64) (x44) fun x46 =>
  nilK (x45) <|
  shareK (ishr IntKind.i64 a2 (14 : Int)) fun x47 =>
  shareK (iand IntKind.i64 x47 (31 : Int)) fun x48 =>
  shareK (IntKind.wrap IntKind.u64 x48) fun x49 =>
  shareK (ishr IntKind.i64 a2 (19 : Int)) fun x50 =>
  shareK (iand IntKind.i64 x50 (3 : Int)) fun x51 =>
  shareK (IntKind.wrap IntKind.i64 (x7 + x51)) fun x52 =>
  chk (decide ((0 : Nat) + x5 * (4 : Nat) ≤ List.length x6)) <|
  callK (call (16 : Nat) [PV.lst false (4 : Nat) x5 (List.take (x5 * (4 : Nat)) (List.drop (0 : Nat) x6)), PV.sc (Value.int IntKind.u64 x49), PV.sc (Value.int IntKind.i64 x7), PV.sc (Value.int IntKind.i64 x52), PV.sc (Value.int IntKind.i64 x7)]) fun x53 x54 =>
  nilK (x54) <|
  consK (x53) fun x55 x56 =>
  owK ((4 : Nat)) (x55) fun x57 x58 =>
  consK (x56) fun x59 x60 =>
  intK (IntKind.i64) (x59) fun x61 =>
  nilK (x60) <|
  brK (x22 == x31)
   (
   chk (decide ((0 : Nat) + x18 * (4 : Nat) ≤ List.length x19)) <|
   chk (decide ((0 : Nat) + x27 * (4 : Nat) ≤ List.length x28)) <|
   callK (call (17 : Nat) [PV.lst false (4 : Nat) x18 (List.take (x18 * (4 : Nat)) (List.drop (0 : Nat) x19)), PV.lst false (4 : Nat) x27 (List.take (x27 * (4 : Nat)) (List.drop (0 : Nat) x28))]) fun x62 x63 =>
   nilK (x63) <|
   consK (x62) fun x64 x65 =>
   boolK (x64) fun x66 =>
   nilK (x65) <|
   brK (x66)
    (
    brK (x46 == x61)
     (
     chk (decide ((0 : Nat) + x42 * (4 : Nat) ≤ List.length x43)) <|
     chk (decide ((0 : Nat) + x57 * (4 : Nat) ≤ List.length x58)) <|
     callK (call (17 : Nat) [PV.lst false (4 : Nat) x42 (List.take (x42 * (4 : Nat)) (List.drop (0 : Nat) x43)), PV.lst false (4 : Nat) x57 (List.take (x57 * (4 : Nat)) (List.drop (0 : Nat) x58))]) fun x67 x68 =>
     nilK (x68) <|
     consK (x67) fun x69 x70 =>
     boolK (x69) fun x71 =>
     nilK (x70) <|
     brK (x71)
      (
      callK (call (9 : Nat) []) fun x72 x73 =>
      nilK (x73) <|
      consK (x72) fun x74 x75 =>
      boolK (x74) fun x76 =>
      nilK (x75) <|
      some (Res.mk [PV.sc (Value.bool x76)] []))
      (
      some (Res.mk [PV.sc (Value.bool false)] [])))
     (
     some (Res.mk [PV.sc (Value.bool false)] [])))
    (
    some (Res.mk [PV.sc (Value.bool false)] [])))
   (
   some (Res.mk [PV.sc (Value.bool false)] []))) (pcall C0 Try.prog fu d) := by kernel_rfl

abbrev F_passkeylaw10_LeaseParts : FuncId := 5
theorem passkeylaw10_LeaseParts_e (fu d : Nat) (a0n : Nat) (a0 : List PV) (a1 : Int) (a2 : Int) : pcall C0 Try.prog fu (d + 1) F_passkeylaw10_LeaseParts [PV.lst false (1 : Nat) a0n a0, PV.sc (Value.int IntKind.u8 a1), PV.sc (Value.int IntKind.i64 a2)] = (fun (call : Call') =>
  callK (call (10 : Nat) [PV.lst false (1 : Nat) a0n a0]) fun x1 x2 =>
  nilK (x2) <|
  consK (x1) fun x3 x4 =>
  owK ((4 : Nat)) (x3) fun x5 x6 =>
  nilK (x4) <|
  shareK (Int.tmod a1 (20 : Int)) fun x7 =>
  shareK (IntKind.wrap IntKind.u64 x7) fun x8 =>
  chk (decide ((0 : Nat) + x5 * (4 : Nat) ≤ List.length x6)) <|
  callK (call (18 : Nat) [PV.lst false (4 : Nat) x5 (List.take (x5 * (4 : Nat)) (List.drop (0 : Nat) x6)), PV.sc (Value.int IntKind.u64 x8), PV.sc (Value.int IntKind.i64 a2)]) fun x9 x10 =>
  nilK (x10) <|
  consK (x9) fun x11 x12 =>
  owK ((4 : Nat)) (x11) fun x13 x14 =>
  consK (x12) fun x15 x16 =>
  intK (IntKind.i64) (x15) fun x17 =>
  consK (x16) fun x18 x19 =>
  intK (IntKind.i64) (x18) fun x20 =>
  consK (x19) fun x21 x22 =>
  intK (IntKind.i64) (x21) fun x23 =>
  nilK (x22) <|
  shareK (Int.tmod a1 (20 : Int)) fun x24 =>
  shareK (IntKind.wrap IntKind.u64 x24) fun x25 =>
  chk (decide ((0 : Nat) + x5 * (4 : Nat) ≤ List.length x6)) <|
  callK (call (19 : Nat) [PV.lst false (4 : Nat) x5 (List.take (x5 * (4 : Nat)) (List.drop (0 : Nat) x6)), PV.sc (Value.int IntKind.u64 x25), PV.sc (Value.int IntKind.i64 a2)]) fun x26 x27 =>
  nilK (x27) <|
  consK (x26) fun x28 x29 =>
  owK ((4 : Nat)) (x28) fun x30 x31 =>
  consK (x29) fun x32 x33 =>
  intK (IntKind.i64) (x32) fun x34 =>
  consK (x33) fun x35 x36 =>
  intK (IntKind.i64) (x35) fun x37 =>
  consK (x36) fun x38 x39 =>
  intK (IntKind.i64) (x38) fun x40 =>
  nilK (x39) <|
  shareK (Int.tmod a1 (20 : Int)) fun x41 =>
  shareK (IntKind.wrap IntKind.u64 x41) fun x42 =>
  shareK (iand IntKind.i64 a2 (7 : Int)) fun x43 =>
  shareK (IntKind.wrap IntKind.i64 (x43 - (1 : Int))) fun x44 =>
  chk (decide ((0 : Nat) + x5 * (4 : Nat) ≤ List.length x6)) <|
  callK (call (18 : Nat) [PV.lst false (4 : Nat) x5 (List.take (x5 * (4 : Nat)) (List.drop (0 : Nat) x6)), PV.sc (Value.int IntKind.u64 x42), PV.sc (Value.int IntKind.i64 x44)]) fun x45 x46 =>
  nilK (x46) <|
  consK (x45) fun x47 x48 =>
  owK ((4 : Nat)) (x47) fun x49 x50 =>
  consK (x48) fun x51 x52 =>
  intK (IntKind.i64) (x51) fun x53 =>
  consK (x52) fun x54 x55 =>
  intK (IntKind.i64) (x54) fun x56 =>
  consK (x55) fun x57 x58 =>
  intK (IntKind.i64) (x57) fun x59 =>
  nilK (x58) <|
  shareK (Int.tmod a1 (20 : Int)) fun x60 =>
  shareK (IntKind.wrap IntKind.u64 x60) fun x61 =>
  shareK (iand IntKind.i64 a2 (7 : Int)) fun x62 =>
  shareK (IntKind.wrap IntKind.i64 (x62 - (1 : Int))) fun x63 =>
  chk (decide ((0 : Nat) + x5 * (4 : Nat) ≤ List.length x6)) <|
  callK (call (19 : Nat) [PV.lst false (4 : Nat) x5 (List.take (x5 * (4 : Nat)) (List.drop (0 : Nat) x6)), PV.sc (Value.int IntKind.u64 x61), PV.sc (Value.int IntKind.i64 x63)]) fun x64 x65 =>
  nilK (x65) <|
  consK (x64) fun x66 x67 =>
  owK ((4 : Nat)) (x66) fun x68 x69 =>
  consK (x67) fun x70 x71 =>
  intK (IntKind.i64) (x70) fun x72 =>
  consK (x71) fun x73 x74 =>
  intK (IntKind.i64) (x73) fun x75 =>
  consK (x74) fun x76 x77 =>
  intK (IntKind.i64) (x76) fun x78 =>
  nilK (x77) <|
  brK (x23 == x40)
   (
   brK (x17 == x34)
    (
    brK (x20 == x37)
     (
     chk (decide ((0 : Nat) + x13 * (4 : Nat) ≤ List.length x14)) <|
     chk (decide ((0 : Nat) + x30 * (4 : Nat) ≤ List.length x31)) <|
     callK (call (17 : Nat) [PV.lst false (4 : Nat) x13 (List.take (x13 * (4 : Nat)) (List.drop (0 : Nat) x14)), PV.lst false (4 : Nat) x30 (List.take (x30 * (4 : Nat)) (List.drop (0 : Nat) x31))]) fun x79 x80 =>
     nilK (x80) <|
     consK (x79) fun x81 x82 =>
     boolK (x81) fun x83 =>
     nilK (x82) <|
     brK (x83)
      (
      brK (x59 == x78)
       (
       brK (x53 == x72)
        (
        brK (x56 == x75)
         (
         chk (decide ((0 : Nat) + x49 * (4 : Nat) ≤ List.length x50)) <|
         chk (decide ((0 : Nat) + x68 * (4 : Nat) ≤ List.length x69)) <|
         callK (call (17 : Nat) [PV.lst false (4 : Nat) x49 (List.take (x49 * (4 : Nat)) (List.drop (0 : Nat) x50)), PV.lst false (4 : Nat) x68 (List.take (x68 * (4 : Nat)) (List.drop (0 : Nat) x69))]) fun x84 x85 =>
         nilK (x85) <|
         consK (x84) fun x86 x87 =>
         boolK (x86) fun x88 =>
         nilK (x87) <|
         brK (x88)
          (
          callK (call (9 : Nat) []) fun x89 x90 =>
          nilK (x90) <|
          consK (x89) fun x91 x92 =>
          boolK (x91) fun x93 =>
          nilK (x92) <|
          some (Res.mk [PV.sc (Value.bool x93)] []))
          (
          some (Res.mk [PV.sc (Value.bool false)] [])))
         (
         some (Res.mk [PV.sc (Value.bool false)] [])))
        (
        some (Res.mk [PV.sc (Value.bool false)] [])))
       (
       some (Res.mk [PV.sc (Value.bool false)] [])))
      (
      some (Res.mk [PV.sc (Value.bool false)] [])))
     (
     some (Res.mk [PV.sc (Value.bool false)] [])))
    (
    some (Res.mk [PV.sc (Value.bool false)] [])))
   (
   some (Res.mk [PV.sc (Value.bool false)] []))) (pcall C0 Try.prog fu d) := by kernel_rfl

abbrev F_passkeylaw10_LeaseCodes : FuncId := 7
noncomputable def passkeylaw10_LeaseCodes_L0 (fu : Nat) (call : Call') (a0_0 : Int) (a0_1 : Int) (a0_2 : Int) (a0_3 : Int) (a1n : Nat) (a1 : List PV) (a2n : Nat) (a2 : List PV)  (nn : Nat) (y0 : Nat) (y1 : List PV) (y2 : Nat) (y3 : Int) (y4 : List PV) : Option Res :=
  floop C0 Try.prog fu call 7 Try.f7 (bodyOf Try.f7) [PV.agg [PV.sc (Value.int IntKind.u64 a0_0), PV.sc (Value.int IntKind.i64 a0_1), PV.sc (Value.int IntKind.i64 a0_2), PV.sc (Value.int IntKind.i64 a0_3)], PV.lst false (1 : Nat) a1n a1, PV.lst false (1 : Nat) a2n a2] [.r, .r, .r, .l, .r, .l] nn ⟨lk [(2, (.lst false 1 y0 y1)), (7, (.view 7 4 0 y2)), (8, (.sc (.int .i64 y3)))], lkh [(7, (.ar false y4))]⟩

theorem passkeylaw10_LeaseCodes_L0_s (fu : Nat) (call : Call') (a0_0 : Int) (a0_1 : Int) (a0_2 : Int) (a0_3 : Int) (a1n : Nat) (a1 : List PV) (a2n : Nat) (a2 : List PV)  (nn : Nat) (y0 : Nat) (y1 : List PV) (y2 : Nat) (y3 : Int) (y4 : List PV) : passkeylaw10_LeaseCodes_L0 fu call a0_0 a0_1 a0_2 a0_3 a1n a1 a2n a2  (nn + 1) y0 y1 y2 y3 y4 =
  brK (decide (y3 < (↑y2 : Int)))
   (
   chk (decide ((0 : Int) ≤ y3) && decide (y3 < (↑y2 : Int))) <|
   intK (IntKind.u64) (List.getD y4 ((0 : Nat) + Int.toNat y3 * (4 : Nat)) PV.top) fun x14 =>
   intK (IntKind.i64) (List.getD y4 ((0 : Nat) + Int.toNat y3 * (4 : Nat) + (1 : Nat)) PV.top) fun x15 =>
   intK (IntKind.i64) (List.getD y4 ((0 : Nat) + Int.toNat y3 * (4 : Nat) + (1 : Nat) + (1 : Nat)) PV.top) fun x16 =>
   intK (IntKind.i64) (List.getD y4 ((0 : Nat) + Int.toNat y3 * (4 : Nat) + (1 : Nat) + (1 : Nat) + (1 : Nat)) PV.top) fun x17 =>
   callK (call (21 : Nat) [PV.agg [PV.sc (Value.int IntKind.u64 x14), PV.sc (Value.int IntKind.i64 x15), PV.sc (Value.int IntKind.i64 x16), PV.sc (Value.int IntKind.i64 x17)]]) fun x18 x19 =>
   nilK (x19) <|
   consK (x18) fun x20 x21 =>
   owK ((1 : Nat)) (x20) fun x22 x23 =>
   nilK (x21) <|
   chk (decide ((0 : Nat) + x22 * (1 : Nat) ≤ List.length x23)) <|
   chk (decide (List.length (List.take (x22 * (1 : Nat)) (List.drop (0 : Nat) x23)) = x22)) <|
   optK (bytesOf (List.take (x22 * (1 : Nat)) (List.drop (0 : Nat) x23))) fun x24 =>
   chk (decide ((0 : Int) ≤ y3) && decide (y3 < (↑y2 : Int))) <|
   intK (IntKind.u64) (List.getD y4 ((0 : Nat) + Int.toNat y3 * (4 : Nat)) PV.top) fun x25 =>
   intK (IntKind.i64) (List.getD y4 ((0 : Nat) + Int.toNat y3 * (4 : Nat) + (1 : Nat)) PV.top) fun x26 =>
   intK (IntKind.i64) (List.getD y4 ((0 : Nat) + Int.toNat y3 * (4 : Nat) + (1 : Nat) + (1 : Nat)) PV.top) fun x27 =>
   intK (IntKind.i64) (List.getD y4 ((0 : Nat) + Int.toNat y3 * (4 : Nat) + (1 : Nat) + (1 : Nat) + (1 : Nat)) PV.top) fun x28 =>
   callK (call (22 : Nat) [PV.agg [PV.sc (Value.int IntKind.u64 x25), PV.sc (Value.int IntKind.i64 x26), PV.sc (Value.int IntKind.i64 x27), PV.sc (Value.int IntKind.i64 x28)]]) fun x29 x30 =>
   nilK (x30) <|
   consK (x29) fun x31 x32 =>
   owK ((1 : Nat)) (x31) fun x33 x34 =>
   nilK (x32) <|
   chk (decide ((0 : Nat) + x33 * (1 : Nat) ≤ List.length x34)) <|
   chk (decide (List.length (List.take (x33 * (1 : Nat)) (List.drop (0 : Nat) x34)) = x33)) <|
   optK (bytesOf (List.take (x33 * (1 : Nat)) (List.drop (0 : Nat) x34))) fun x35 =>
   brK (!Array.toList (ByteArray.data (ByteArray.mk (List.toArray x24))) == Array.toList (ByteArray.data (ByteArray.mk (List.toArray x35))))
    (
    some (Res.mk [PV.sc (Value.bool false)] []))
    (
    chk (decide ((0 : Nat) + x22 * (1 : Nat) ≤ List.length x23)) <|
    callK (call (23 : Nat) [PV.lst false (1 : Nat) x22 (List.take (x22 * (1 : Nat)) (List.drop (0 : Nat) x23))]) fun x36 x37 =>
    nilK (x37) <|
    consK (x36) fun x38 x39 =>
    aggK (x38) fun x40 =>
    consK (x40) fun x41 x42 =>
    intK (IntKind.u64) (x41) fun x43 =>
    consK (x42) fun x44 x45 =>
    intK (IntKind.i64) (x44) fun x46 =>
    consK (x45) fun x47 x48 =>
    intK (IntKind.i64) (x47) fun x49 =>
    consK (x48) fun x50 x51 =>
    intK (IntKind.i64) (x50) fun x52 =>
    nilK (x51) <|
    consK (x39) fun x53 x54 =>
    intK (IntKind.i64) (x53) fun x55 =>
    nilK (x54) <|
    brK (decide ((↑x22 : Int) > (0 : Int)))
     (
     brK (x55 != (0 : Int))
      (
      some (Res.mk [PV.sc (Value.bool false)] []))
      (
      chk (decide ((0 : Int) ≤ y3) && decide (y3 < (↑y2 : Int))) <|
      intK (IntKind.u64) (List.getD y4 ((0 : Nat) + Int.toNat y3 * (4 : Nat)) PV.top) fun x56 =>
      intK (IntKind.i64) (List.getD y4 ((0 : Nat) + Int.toNat y3 * (4 : Nat) + (1 : Nat)) PV.top) fun x57 =>
      intK (IntKind.i64) (List.getD y4 ((0 : Nat) + Int.toNat y3 * (4 : Nat) + (1 : Nat) + (1 : Nat)) PV.top) fun x58 =>
      intK (IntKind.i64) (List.getD y4 ((0 : Nat) + Int.toNat y3 * (4 : Nat) + (1 : Nat) + (1 : Nat) + (1 : Nat)) PV.top) fun x59 =>
      brK (!(x43 == x56 && (x46 == x57 && (x49 == x58 && (x52 == x59 && true)))))
       (
       some (Res.mk [PV.sc (Value.bool false)] []))
       (
       shareK (IntKind.wrap IntKind.i64 (y3 + (1 : Int))) fun x60 =>
       passkeylaw10_LeaseCodes_L0 fu call a0_0 a0_1 a0_2 a0_3 a1n a1 a2n a2 (nn) (y0) (y1) (y2) (x60) (y4))))
     (
     shareK (IntKind.wrap IntKind.i64 (y3 + (1 : Int))) fun x61 =>
     passkeylaw10_LeaseCodes_L0 fu call a0_0 a0_1 a0_2 a0_3 a1n a1 a2n a2 (nn) (y0) (y1) (y2) (x61) (y4))))
   (
   callK (call (23 : Nat) [PV.lst false (1 : Nat) y0 y1]) fun x62 x63 =>
   nilK (x63) <|
   consK (x62) fun x64 x65 =>
   aggK (x64) fun x66 =>
   consK (x66) fun x67 x68 =>
   intK (IntKind.u64) (x67) fun x69 =>
   consK (x68) fun x70 x71 =>
   intK (IntKind.i64) (x70) fun x72 =>
   consK (x71) fun x73 x74 =>
   intK (IntKind.i64) (x73) fun x75 =>
   consK (x74) fun x76 x77 =>
   intK (IntKind.i64) (x76) fun x78 =>
   nilK (x77) <|
   consK (x65) fun x79 x80 =>
   intK (IntKind.i64) (x79) fun x81 =>
   nilK (x80) <|
   callK (call (24 : Nat) [PV.lst false (1 : Nat) y0 y1]) fun x82 x83 =>
   nilK (x83) <|
   consK (x82) fun x84 x85 =>
   aggK (x84) fun x86 =>
   consK (x86) fun x87 x88 =>
   intK (IntKind.u64) (x87) fun x89 =>
   consK (x88) fun x90 x91 =>
   intK (IntKind.i64) (x90) fun x92 =>
   consK (x91) fun x93 x94 =>
   intK (IntKind.i64) (x93) fun x95 =>
   consK (x94) fun x96 x97 =>
   intK (IntKind.i64) (x96) fun x98 =>
   nilK (x97) <|
   consK (x85) fun x99 x100 =>
   intK (IntKind.i64) (x99) fun x101 =>
   nilK (x100) <|
   shareK (if (11 : Int) < (↑y0 : Int) then (11 : Int) else (↑y0 : Int)) fun x102 =>
   chk (decide ((0 : Int) ≤ x102)) <|
   chk (decide (Int.toNat x102 ≤ y0)) <|
   shareK (Int.toNat x102 - (0 : Nat)) fun x103 =>
   shareK (List.take (x103 * (1 : Nat)) (List.drop (0 : Nat) y1)) fun x104 =>
   callK (call (23 : Nat) [PV.lst false (1 : Nat) x103 x104]) fun x105 x106 =>
   nilK (x106) <|
   consK (x105) fun x107 x108 =>
   aggK (x107) fun x109 =>
   consK (x109) fun x110 x111 =>
   intK (IntKind.u64) (x110) fun x112 =>
   consK (x111) fun x113 x114 =>
   intK (IntKind.i64) (x113) fun x115 =>
   consK (x114) fun x116 x117 =>
   intK (IntKind.i64) (x116) fun x118 =>
   consK (x117) fun x119 x120 =>
   intK (IntKind.i64) (x119) fun x121 =>
   nilK (x120) <|
   consK (x108) fun x122 x123 =>
   intK (IntKind.i64) (x122) fun x124 =>
   nilK (x123) <|
   shareK (if (11 : Int) < (↑y0 : Int) then (11 : Int) else (↑y0 : Int)) fun x125 =>
   chk (decide ((0 : Int) ≤ x125)) <|
   chk (decide (Int.toNat x125 ≤ y0)) <|
   shareK (Int.toNat x125 - (0 : Nat)) fun x126 =>
   shareK (List.take (x126 * (1 : Nat)) (List.drop (0 : Nat) y1)) fun x127 =>
   callK (call (24 : Nat) [PV.lst false (1 : Nat) x126 x127]) fun x128 x129 =>
   nilK (x129) <|
   consK (x128) fun x130 x131 =>
   aggK (x130) fun x132 =>
   consK (x132) fun x133 x134 =>
   intK (IntKind.u64) (x133) fun x135 =>
   consK (x134) fun x136 x137 =>
   intK (IntKind.i64) (x136) fun x138 =>
   consK (x137) fun x139 x140 =>
   intK (IntKind.i64) (x139) fun x141 =>
   consK (x140) fun x142 x143 =>
   intK (IntKind.i64) (x142) fun x144 =>
   nilK (x143) <|
   consK (x131) fun x145 x146 =>
   intK (IntKind.i64) (x145) fun x147 =>
   nilK (x146) <|
   brK (x69 == x89 && (x72 == x92 && (x75 == x95 && (x78 == x98 && true))))
    (
    brK (x81 == x101)
     (
     brK (x112 == x135 && (x115 == x138 && (x118 == x141 && (x121 == x144 && true))))
      (
      brK (x124 == x147)
       (
       callK (call (9 : Nat) []) fun x148 x149 =>
       nilK (x149) <|
       consK (x148) fun x150 x151 =>
       boolK (x150) fun x152 =>
       nilK (x151) <|
       some (Res.mk [PV.sc (Value.bool x152)] []))
       (
       some (Res.mk [PV.sc (Value.bool false)] [])))
      (
      some (Res.mk [PV.sc (Value.bool false)] [])))
     (
     some (Res.mk [PV.sc (Value.bool false)] [])))
    (
    some (Res.mk [PV.sc (Value.bool false)] []))) := by kernel_rfl

theorem passkeylaw10_LeaseCodes_e (fu d : Nat) (a0_0 : Int) (a0_1 : Int) (a0_2 : Int) (a0_3 : Int) (a1n : Nat) (a1 : List PV) (a2n : Nat) (a2 : List PV) : pcall C0 Try.prog fu (d + 1) F_passkeylaw10_LeaseCodes [PV.agg [PV.sc (Value.int IntKind.u64 a0_0), PV.sc (Value.int IntKind.i64 a0_1), PV.sc (Value.int IntKind.i64 a0_2), PV.sc (Value.int IntKind.i64 a0_3)], PV.lst false (1 : Nat) a1n a1, PV.lst false (1 : Nat) a2n a2] = (fun (call : Call') =>
  brK (decide ((↑a2n : Int) > (100 : Int)))
   (
   callK (call (9 : Nat) []) fun x1 x2 =>
   nilK (x2) <|
   consK (x1) fun x3 x4 =>
   boolK (x3) fun x5 =>
   nilK (x4) <|
   some (Res.mk [PV.sc (Value.bool x5)] []))
   (
   callK (call (10 : Nat) [PV.lst false (1 : Nat) a1n a1]) fun x6 x7 =>
   nilK (x7) <|
   consK (x6) fun x8 x9 =>
   owK ((4 : Nat)) (x8) fun x10 x11 =>
   nilK (x9) <|
   chk (decide (x10 * (4 : Nat) ≤ List.length x11) && true && decide ((x10 + (1 : Nat)) * (32 : Nat) ≤ (1099511627776 : Nat)) && decide (x10 + (1 : Nat) ≤ (1099511627776 : Nat))) <|
   shareK (x10 + (1 : Nat)) fun x12 =>
   shareK (List.take (x10 * (4 : Nat)) x11 ++ [PV.sc (Value.int IntKind.u64 a0_0), PV.sc (Value.int IntKind.i64 a0_1), PV.sc (Value.int IntKind.i64 a0_2), PV.sc (Value.int IntKind.i64 a0_3)]) fun x13 =>
   passkeylaw10_LeaseCodes_L0 fu call a0_0 a0_1 a0_2 a0_3 a1n a1 a2n a2 (fu) (a2n) (a2) (x12) ((0 : Int)) (x13))) (pcall C0 Try.prog fu d) := by kernel_rfl

abbrev F_passkeylaw10_LeaseTakes : FuncId := 8
theorem passkeylaw10_LeaseTakes_e (fu d : Nat) (a0n : Nat) (a0 : List PV) (a1 : Int) : pcall C0 Try.prog fu (d + 1) F_passkeylaw10_LeaseTakes [PV.lst false (1 : Nat) a0n a0, PV.sc (Value.int IntKind.u8 a1)] = (fun (call : Call') =>
  callK (call (10 : Nat) [PV.lst false (1 : Nat) a0n a0]) fun x1 x2 =>
  nilK (x2) <|
  consK (x1) fun x3 x4 =>
  owK ((4 : Nat)) (x3) fun x5 x6 =>
  nilK (x4) <|
  shareK (Int.tmod a1 (20 : Int)) fun x7 =>
  shareK (IntKind.wrap IntKind.u64 x7) fun x8 =>
  chk (decide ((0 : Nat) + x5 * (4 : Nat) ≤ List.length x6)) <|
  callK (call (20 : Nat) [PV.lst false (4 : Nat) x5 (List.take (x5 * (4 : Nat)) (List.drop (0 : Nat) x6)), PV.sc (Value.int IntKind.u64 x8)]) fun x9 x10 =>
  nilK (x10) <|
  consK (x9) fun x11 x12 =>
  owK ((4 : Nat)) (x11) fun x13 x14 =>
  consK (x12) fun x15 x16 =>
  intK (IntKind.i64) (x15) fun x17 =>
  consK (x16) fun x18 x19 =>
  intK (IntKind.i64) (x18) fun x20 =>
  nilK (x19) <|
  shareK (Int.tmod a1 (20 : Int)) fun x21 =>
  shareK (IntKind.wrap IntKind.u64 x21) fun x22 =>
  chk (decide ((0 : Nat) + x5 * (4 : Nat) ≤ List.length x6)) <|
  callK (call (25 : Nat) [PV.lst false (4 : Nat) x5 (List.take (x5 * (4 : Nat)) (List.drop (0 : Nat) x6)), PV.sc (Value.int IntKind.u64 x22)]) fun x23 x24 =>
  nilK (x24) <|
  consK (x23) fun x25 x26 =>
  owK ((4 : Nat)) (x25) fun x27 x28 =>
  consK (x26) fun x29 x30 =>
  intK (IntKind.i64) (x29) fun x31 =>
  consK (x30) fun x32 x33 =>
  intK (IntKind.i64) (x32) fun x34 =>
  nilK (x33) <|
  shareK (Int.tmod a1 (20 : Int)) fun x35 =>
  shareK (IntKind.wrap IntKind.u64 x35) fun x36 =>
  chk (decide ((0 : Nat) + x5 * (4 : Nat) ≤ List.length x6)) <|
  callK (call (26 : Nat) [PV.lst false (4 : Nat) x5 (List.take (x5 * (4 : Nat)) (List.drop (0 : Nat) x6)), PV.sc (Value.int IntKind.u64 x36)]) fun x37 x38 =>
  nilK (x38) <|
  consK (x37) fun x39 x40 =>
  owK ((4 : Nat)) (x39) fun x41 x42 =>
  consK (x40) fun x43 x44 =>
  intK (IntKind.i64) (x43) fun x45 =>
  nilK (x44) <|
  shareK (Int.tmod a1 (20 : Int)) fun x46 =>
  shareK (IntKind.wrap IntKind.u64 x46) fun x47 =>
  chk (decide ((0 : Nat) + x5 * (4 : Nat) ≤ List.length x6)) <|
  callK (call (27 : Nat) [PV.lst false (4 : Nat) x5 (List.take (x5 * (4 : Nat)) (List.drop (0 : Nat) x6)), PV.sc (Value.int IntKind.u64 x47)]) fun x48 x49 =>
  nilK (x49) <|
  consK (x48) fun x50 x51 =>
  owK ((4 : Nat)) (x50) fun x52 x53 =>
  consK (x51) fun x54 x55 =>
  intK (IntKind.i64) (x54) fun x56 =>
  nilK (x55) <|
  brK (x20 == x34)
   (
   brK (x17 == x31)
    (
    chk (decide ((0 : Nat) + x13 * (4 : Nat) ≤ List.length x14)) <|
    chk (decide ((0 : Nat) + x27 * (4 : Nat) ≤ List.length x28)) <|
    callK (call (17 : Nat) [PV.lst false (4 : Nat) x13 (List.take (x13 * (4 : Nat)) (List.drop (0 : Nat) x14)), PV.lst false (4 : Nat) x27 (List.take (x27 * (4 : Nat)) (List.drop (0 : Nat) x28))]) fun x57 x58 =>
    nilK (x58) <|
    consK (x57) fun x59 x60 =>
    boolK (x59) fun x61 =>
    nilK (x60) <|
    brK (x61)
     (
     brK (x45 == x56)
      (
      chk (decide ((0 : Nat) + x41 * (4 : Nat) ≤ List.length x42)) <|
      chk (decide ((0 : Nat) + x52 * (4 : Nat) ≤ List.length x53)) <|
      callK (call (17 : Nat) [PV.lst false (4 : Nat) x41 (List.take (x41 * (4 : Nat)) (List.drop (0 : Nat) x42)), PV.lst false (4 : Nat) x52 (List.take (x52 * (4 : Nat)) (List.drop (0 : Nat) x53))]) fun x62 x63 =>
      nilK (x63) <|
      consK (x62) fun x64 x65 =>
      boolK (x64) fun x66 =>
      nilK (x65) <|
      brK (x66)
       (
       callK (call (9 : Nat) []) fun x67 x68 =>
       nilK (x68) <|
       consK (x67) fun x69 x70 =>
       boolK (x69) fun x71 =>
       nilK (x70) <|
       some (Res.mk [PV.sc (Value.bool x71)] []))
       (
       some (Res.mk [PV.sc (Value.bool false)] [])))
      (
      some (Res.mk [PV.sc (Value.bool false)] [])))
     (
     some (Res.mk [PV.sc (Value.bool false)] [])))
    (
    some (Res.mk [PV.sc (Value.bool false)] [])))
   (
   some (Res.mk [PV.sc (Value.bool false)] []))) (pcall C0 Try.prog fu d) := by kernel_rfl

abbrev F_passkeylaw10_LeaseDisjoint : FuncId := 6
noncomputable def passkeylaw10_LeaseDisjoint_L0 (fu : Nat) (call : Call') (a0n : Nat) (a0 : List PV)  (nn : Nat) (y0 : Nat) (y1 : List PV) (y2 : Nat) (y3 : Nat) (y4 : Int) (y5 : List PV) (y6 : List PV) : Option Res :=
  floop C0 Try.prog fu call 6 Try.f6 (bodyOf Try.f6) [PV.lst false (1 : Nat) a0n a0] [.r, .r, .r, .r, .r, .r, .l, .r, .l] nn ⟨lk [(0, (.lst false 1 y0 y1)), (3, (.view 3 1 0 y2)), (6, (.view 6 1 0 y3)), (7, (.sc (.int .i64 y4)))], lkh [(3, (.ar false y5)), (6, (.ar false y6))]⟩

theorem passkeylaw10_LeaseDisjoint_L0_s (fu : Nat) (call : Call') (a0n : Nat) (a0 : List PV)  (nn : Nat) (y0 : Nat) (y1 : List PV) (y2 : Nat) (y3 : Nat) (y4 : Int) (y5 : List PV) (y6 : List PV) : passkeylaw10_LeaseDisjoint_L0 fu call a0n a0  (nn + 1) y0 y1 y2 y3 y4 y5 y6 =
  brK (decide (y4 < (↑y0 : Int)))
   (
   brK (decide (y4 < (40 : Int)))
    (
    chk (decide ((0 : Int) ≤ y4) && decide (y4 < (↑y0 : Int))) <|
    intK (IntKind.i64) (List.getD y1 (Int.toNat y4 * (1 : Nat)) PV.top) fun x10 =>
    shareK (iand IntKind.i64 x10 (65535 : Int)) fun x11 =>
    shareK (iand IntKind.i64 x11 (3 : Int)) fun x12 =>
    shareK (ishr IntKind.i64 x11 (2 : Int)) fun x13 =>
    shareK (iand IntKind.i64 x13 (3 : Int)) fun x14 =>
    brK (decide (x14 > (0 : Int)))
     (
     chk (decide ((0 : Int) ≤ x12) && decide (x12 < (↑y2 : Int))) <|
     lsK ((4 : Nat)) (List.getD y5 ((0 : Nat) + Int.toNat x12 * (1 : Nat)) PV.top) fun x15 x16 x17 =>
     callK (call (20 : Nat) [PV.lst false (4 : Nat) x16 x17, PV.sc (Value.int IntKind.u64 (9 : Int))]) fun x18 x19 =>
     nilK (x19) <|
     consK (x18) fun x20 x21 =>
     owK ((4 : Nat)) (x20) fun x22 x23 =>
     consK (x21) fun x24 x25 =>
     intK (IntKind.i64) (x24) fun x26 =>
     consK (x25) fun x27 x28 =>
     intK (IntKind.i64) (x27) fun x29 =>
     nilK (x28) <|
     brK (x29 != (0 : Int))
      (
      shareK (IntKind.wrap IntKind.i64 (y4 + (1 : Int))) fun x30 =>
      passkeylaw10_LeaseDisjoint_L0 fu call a0n a0 (nn) (y0) (y1) (y2) (y3) (x30) (y5) (y6))
      (
      brK (decide (x26 < (0 : Int)))
       (
       some (Res.mk [PV.sc (Value.bool false)] []))
       (
       brK (decide (x26 > (15 : Int)))
        (
        some (Res.mk [PV.sc (Value.bool false)] []))
        (
        chk (decide ((0 : Int) ≤ x26) && decide (x26 < (↑y3 : Int))) <|
        boolK (List.getD y6 ((0 : Nat) + Int.toNat x26 * (1 : Nat)) PV.top) fun x31 =>
        brK (x31)
         (
         some (Res.mk [PV.sc (Value.bool false)] []))
         (
         chk (decide ((0 : Int) ≤ x26) && decide (x26 < (↑y3 : Int))) <|
         chk (decide ((0 : Nat) + Int.toNat x26 * (1 : Nat) + (1 : Nat) ≤ List.length y6)) <|
         shareK (splice y6 [PV.sc (Value.bool true)] ((0 : Nat) + Int.toNat x26 * (1 : Nat))) fun x32 =>
         chk (decide ((0 : Int) ≤ x12) && decide (x12 < (↑y2 : Int))) <|
         chk (decide ((0 : Nat) + Int.toNat x12 * (1 : Nat) + (1 : Nat) ≤ List.length y5)) <|
         chk (decide ((0 : Nat) + x22 * (4 : Nat) ≤ List.length x23)) <|
         shareK (splice y5 [PV.lst false (4 : Nat) x22 (List.take (x22 * (4 : Nat)) (List.drop (0 : Nat) x23))] ((0 : Nat) + Int.toNat x12 * (1 : Nat))) fun x33 =>
         shareK (IntKind.wrap IntKind.i64 (y4 + (1 : Int))) fun x34 =>
         passkeylaw10_LeaseDisjoint_L0 fu call a0n a0 (nn) (y0) (y1) (y2) (y3) (x34) (x33) (x32))))))
     (
     chk (decide ((0 : Int) ≤ x12) && decide (x12 < (↑y2 : Int))) <|
     lsK ((4 : Nat)) (List.getD y5 ((0 : Nat) + Int.toNat x12 * (1 : Nat)) PV.top) fun x35 x36 x37 =>
     shareK (ishr IntKind.i64 x11 (4 : Int)) fun x38 =>
     shareK (iand IntKind.i64 x38 (3 : Int)) fun x39 =>
     shareK (IntKind.wrap IntKind.i64 ((1 : Int) + x39)) fun x40 =>
     callK (call (18 : Nat) [PV.lst false (4 : Nat) x36 x37, PV.sc (Value.int IntKind.u64 (9 : Int)), PV.sc (Value.int IntKind.i64 x40)]) fun x41 x42 =>
     nilK (x42) <|
     consK (x41) fun x43 x44 =>
     owK ((4 : Nat)) (x43) fun x45 x46 =>
     consK (x44) fun x47 x48 =>
     intK (IntKind.i64) (x47) fun x49 =>
     consK (x48) fun x50 x51 =>
     intK (IntKind.i64) (x50) fun x52 =>
     consK (x51) fun x53 x54 =>
     intK (IntKind.i64) (x53) fun x55 =>
     nilK (x54) <|
     brK (x55 != (0 : Int))
      (
      shareK (IntKind.wrap IntKind.i64 (y4 + (1 : Int))) fun x56 =>
      passkeylaw10_LeaseDisjoint_L0 fu call a0n a0 (nn) (y0) (y1) (y2) (y3) (x56) (y5) (y6))
      (
      chk (decide ((0 : Int) ≤ x12) && decide (x12 < (↑y2 : Int))) <|
      chk (decide ((0 : Nat) + Int.toNat x12 * (1 : Nat) + (1 : Nat) ≤ List.length y5)) <|
      chk (decide ((0 : Nat) + x45 * (4 : Nat) ≤ List.length x46)) <|
      shareK (splice y5 [PV.lst false (4 : Nat) x45 (List.take (x45 * (4 : Nat)) (List.drop (0 : Nat) x46))] ((0 : Nat) + Int.toNat x12 * (1 : Nat))) fun x57 =>
      shareK (ishr IntKind.i64 x11 (6 : Int)) fun x58 =>
      shareK (iand IntKind.i64 x58 (3 : Int)) fun x59 =>
      chk (decide ((0 : Int) ≤ x59) && decide (x59 < (↑y2 : Int))) <|
      lsK ((4 : Nat)) (List.getD x57 ((0 : Nat) + Int.toNat x59 * (1 : Nat)) PV.top) fun x60 x61 x62 =>
      callK (call (15 : Nat) [PV.lst false (4 : Nat) x61 x62, PV.sc (Value.int IntKind.u64 (9 : Int)), PV.sc (Value.int IntKind.i64 x49), PV.sc (Value.int IntKind.i64 x52), PV.sc (Value.int IntKind.i64 x49)]) fun x63 x64 =>
      nilK (x64) <|
      consK (x63) fun x65 x66 =>
      owK ((4 : Nat)) (x65) fun x67 x68 =>
      consK (x66) fun x69 x70 =>
      intK (IntKind.i64) (x69) fun x71 =>
      nilK (x70) <|
      brK (x71 == (0 : Int))
       (
       shareK (ishr IntKind.i64 x11 (8 : Int)) fun x72 =>
       shareK (iand IntKind.i64 x72 (7 : Int)) fun x73 =>
       brK (decide (x73 > (0 : Int)))
        (
        shareK (ishr IntKind.i64 x11 (6 : Int)) fun x74 =>
        shareK (iand IntKind.i64 x74 (3 : Int)) fun x75 =>
        chk (decide ((0 : Int) ≤ x75) && decide (x75 < (↑y2 : Int))) <|
        chk (decide ((0 : Nat) + Int.toNat x75 * (1 : Nat) + (1 : Nat) ≤ List.length x57)) <|
        chk (decide ((0 : Nat) + x67 * (4 : Nat) ≤ List.length x68)) <|
        shareK (splice x57 [PV.lst false (4 : Nat) x67 (List.take (x67 * (4 : Nat)) (List.drop (0 : Nat) x68))] ((0 : Nat) + Int.toNat x75 * (1 : Nat))) fun x76 =>
        shareK (IntKind.wrap IntKind.i64 (y4 + (1 : Int))) fun x77 =>
        passkeylaw10_LeaseDisjoint_L0 fu call a0n a0 (nn) (y0) (y1) (y2) (y3) (x77) (x76) (y6))
        (
        shareK (IntKind.wrap IntKind.i64 (y4 + (1 : Int))) fun x78 =>
        passkeylaw10_LeaseDisjoint_L0 fu call a0n a0 (nn) (y0) (y1) (y2) (y3) (x78) (x57) (y6)))
       (
       shareK (IntKind.wrap IntKind.i64 (y4 + (1 : Int))) fun x79 =>
       passkeylaw10_LeaseDisjoint_L0 fu call a0n a0 (nn) (y0) (y1) (y2) (y3) (x79) (x57) (y6)))))
    (
    callK (call (9 : Nat) []) fun x80 x81 =>
    nilK (x81) <|
    consK (x80) fun x82 x83 =>
    boolK (x82) fun x84 =>
    nilK (x83) <|
    some (Res.mk [PV.sc (Value.bool x84)] [])))
   (
   callK (call (9 : Nat) []) fun x85 x86 =>
   nilK (x86) <|
   consK (x85) fun x87 x88 =>
   boolK (x87) fun x89 =>
   nilK (x88) <|
   some (Res.mk [PV.sc (Value.bool x89)] [])) := by kernel_rfl

theorem passkeylaw10_LeaseDisjoint_e (fu d : Nat) (a0n : Nat) (a0 : List PV) : pcall C0 Try.prog fu (d + 1) F_passkeylaw10_LeaseDisjoint [PV.lst false (1 : Nat) a0n a0] = (fun (call : Call') =>
  callK (call (15 : Nat) [PV.lst false (4 : Nat) (0 : Nat) [], PV.sc (Value.int IntKind.u64 (9 : Int)), PV.sc (Value.int IntKind.i64 (0 : Int)), PV.sc (Value.int IntKind.i64 (16 : Int)), PV.sc (Value.int IntKind.i64 (0 : Int))]) fun x1 x2 =>
  nilK (x2) <|
  consK (x1) fun x3 x4 =>
  owK ((4 : Nat)) (x3) fun x5 x6 =>
  consK (x4) fun x7 x8 =>
  intK (IntKind.i64) (x7) fun x9 =>
  nilK (x8) <|
  brK (x9 != (0 : Int))
   (
   some (Res.mk [PV.sc (Value.bool false)] []))
   (
   chk (decide ((0 : Nat) + x5 * (4 : Nat) ≤ List.length x6)) <|
   passkeylaw10_LeaseDisjoint_L0 fu call a0n a0 (fu) (a0n) (a0) ((4 : Nat)) ((16 : Nat)) ((0 : Int)) ([PV.lst false (4 : Nat) x5 (List.take (x5 * (4 : Nat)) (List.drop (0 : Nat) x6)), PV.lst true (4 : Nat) (0 : Nat) [], PV.lst true (4 : Nat) (0 : Nat) [], PV.lst true (4 : Nat) (0 : Nat) []]) ([PV.sc (Value.bool false), PV.sc (Value.bool false), PV.sc (Value.bool false), PV.sc (Value.bool false), PV.sc (Value.bool false), PV.sc (Value.bool false), PV.sc (Value.bool false), PV.sc (Value.bool false), PV.sc (Value.bool false), PV.sc (Value.bool false), PV.sc (Value.bool false), PV.sc (Value.bool false), PV.sc (Value.bool false), PV.sc (Value.bool false), PV.sc (Value.bool false), PV.sc (Value.bool false)]))) (pcall C0 Try.prog fu d) := by kernel_rfl

end Go.Proofs.Ytoidbofkmflocaa.Pv
