/-
  What the functions compute, step by step: written by a program (wip/tools/gen.py).
-/
import Derived.Test.YtoidbofkmflocaaPvL
import Derived.Test.YtoidbofkmflocaaRows
set_option maxRecDepth 100000
set_option linter.unusedVariables false
namespace Go.Proofs.Ytoidbofkmflocaa.Pv

abbrev F_lease_Encode : FuncId := 21
theorem lease_Encode_e (fu d : Nat) (a0_0 : Int) (a0_1 : Int) (a0_2 : Int) (a0_3 : Int) : pcall C0 Try.prog fu (d + 1) F_lease_Encode [PV.agg [PV.sc (Value.int IntKind.u64 a0_0), PV.sc (Value.int IntKind.i64 a0_1), PV.sc (Value.int IntKind.i64 a0_2), PV.sc (Value.int IntKind.i64 a0_3)]] = (fun (call : Call') =>
  callK (call (28 : Nat) [PV.agg [PV.sc (Value.int IntKind.u64 a0_0), PV.sc (Value.int IntKind.i64 a0_1), PV.sc (Value.int IntKind.i64 a0_2), PV.sc (Value.int IntKind.i64 a0_3)]]) fun x1 x2 =>
  nilK (x2) <|
  consK (x1) fun x3 x4 =>
  boolK (x3) fun x5 =>
  nilK (x4) <|
  brK (!x5)
   (
   some (Res.mk [PV.own (1 : Nat) (0 : Nat) []] []))
   (
   callK (call (32 : Nat) [PV.lst false (1 : Nat) (1 : Nat) [PV.sc (Value.int IntKind.u64 a0_0)]]) fun x6 x7 =>
   nilK (x7) <|
   consK (x6) fun x8 x9 =>
   owK ((1 : Nat)) (x8) fun x10 x11 =>
   nilK (x9) <|
   shareK (IntKind.wrap IntKind.u8 a0_1) fun x12 =>
   shareK (IntKind.wrap IntKind.u8 a0_2) fun x13 =>
   shareK (IntKind.wrap IntKind.u8 a0_3) fun x14 =>
   chk (decide (x10 * (1 : Nat) ≤ List.length x11) && true && decide ((x10 + (3 : Nat)) * (1 : Nat) ≤ (1099511627776 : Nat)) && decide (x10 + (3 : Nat) ≤ (1099511627776 : Nat))) <|
   shareK (x10 + (3 : Nat)) fun x15 =>
   shareK (List.take (x10 * (1 : Nat)) x11 ++ [PV.sc (Value.int IntKind.u8 x12), PV.sc (Value.int IntKind.u8 x13), PV.sc (Value.int IntKind.u8 x14)]) fun x16 =>
   chk (decide (x15 * (1 : Nat) ≤ List.length x16)) <|
   some (Res.mk [PV.own (1 : Nat) x15 (List.take (x15 * (1 : Nat)) x16)] []))) (pcall C0 Try.prog fu d) := by kernel_rfl

abbrev F_passkeyref10_EncodeLease : FuncId := 22
theorem passkeyref10_EncodeLease_e (fu d : Nat) (a0_0 : Int) (a0_1 : Int) (a0_2 : Int) (a0_3 : Int) : pcall C0 Try.prog fu (d + 1) F_passkeyref10_EncodeLease [PV.agg [PV.sc (Value.int IntKind.u64 a0_0), PV.sc (Value.int IntKind.i64 a0_1), PV.sc (Value.int IntKind.i64 a0_2), PV.sc (Value.int IntKind.i64 a0_3)]] = (fun (call : Call') =>
  callK (call (29 : Nat) [PV.agg [PV.sc (Value.int IntKind.u64 a0_0), PV.sc (Value.int IntKind.i64 a0_1), PV.sc (Value.int IntKind.i64 a0_2), PV.sc (Value.int IntKind.i64 a0_3)]]) fun x1 x2 =>
  nilK (x2) <|
  consK (x1) fun x3 x4 =>
  boolK (x3) fun x5 =>
  nilK (x4) <|
  brK (!x5)
   (
   some (Res.mk [PV.own (1 : Nat) (0 : Nat) []] []))
   (
   callK (call (33 : Nat) [PV.lst false (1 : Nat) (1 : Nat) [PV.sc (Value.int IntKind.u64 a0_0)]]) fun x6 x7 =>
   nilK (x7) <|
   consK (x6) fun x8 x9 =>
   owK ((1 : Nat)) (x8) fun x10 x11 =>
   nilK (x9) <|
   shareK (IntKind.wrap IntKind.u8 a0_1) fun x12 =>
   shareK (IntKind.wrap IntKind.u8 a0_2) fun x13 =>
   shareK (IntKind.wrap IntKind.u8 a0_3) fun x14 =>
   chk (decide (x10 * (1 : Nat) ≤ List.length x11) && true && decide ((x10 + (3 : Nat)) * (1 : Nat) ≤ (1099511627776 : Nat)) && decide (x10 + (3 : Nat) ≤ (1099511627776 : Nat))) <|
   shareK (x10 + (3 : Nat)) fun x15 =>
   shareK (List.take (x10 * (1 : Nat)) x11 ++ [PV.sc (Value.int IntKind.u8 x12), PV.sc (Value.int IntKind.u8 x13), PV.sc (Value.int IntKind.u8 x14)]) fun x16 =>
   chk (decide (x15 * (1 : Nat) ≤ List.length x16)) <|
   some (Res.mk [PV.own (1 : Nat) x15 (List.take (x15 * (1 : Nat)) x16)] []))) (pcall C0 Try.prog fu d) := by kernel_rfl

abbrev F_lease_Decode : FuncId := 23
noncomputable def lease_Decode_L0 (fu : Nat) (call : Call') (a0n : Nat) (a0 : List PV)  (nn : Nat) (y0 : Nat) (y1 : List PV) (y2 : Int) (y3 : Int) (y4 : Int) (y5 : Int) (y6 : Int) (y7 : Int) (y8 : Int) (y9 : Int) (y10 : Int) (y11 : Int) : Option Res :=
  floop C0 Try.prog fu call 23 Try.f23 (bodyOf Try.f23) [PV.lst false (1 : Nat) a0n a0] [.r, .r, .r, .l, .r, .l] nn ⟨lk [(2, (.ptr 2 0)), (4, (.ptr 4 0)), (25, (.lst false 1 y0 y1)), (26, (.sc (.int .i64 y2))), (27, (.sc (.int .i64 y3)))], lkh [(2, (.st [(.sc (.int .u64 y4)), (.sc (.int .i64 y5)), (.sc (.int .i64 y6)), (.sc (.int .i64 y7))])), (4, (.st [(.sc (.int .u64 y8)), (.sc (.int .i64 y9)), (.sc (.int .i64 y10)), (.sc (.int .i64 y11))]))]⟩

theorem lease_Decode_L0_s (fu : Nat) (call : Call') (a0n : Nat) (a0 : List PV)  (nn : Nat) (y0 : Nat) (y1 : List PV) (y2 : Int) (y3 : Int) (y4 : Int) (y5 : Int) (y6 : Int) (y7 : Int) (y8 : Int) (y9 : Int) (y10 : Int) (y11 : Int) : lease_Decode_L0 fu call a0n a0  (nn + 1) y0 y1 y2 y3 y4 y5 y6 y7 y8 y9 y10 y11 =
  brK (decide (y3 < y2))
   (
   chk (decide ((0 : Int) ≤ y3) && decide (y3 < (↑y0 : Int))) <|
   intK (IntKind.u8) (List.getD y1 (Int.toNat y3 * (1 : Nat)) PV.top) fun x8 =>
   shareK (ishl IntKind.u64 y8 (8 : Int)) fun x9 =>
   shareK (IntKind.wrap IntKind.u64 x8) fun x10 =>
   shareK (ior IntKind.u64 x9 x10) fun x11 =>
   shareK (IntKind.wrap IntKind.i64 (y3 + (1 : Int))) fun x12 =>
   lease_Decode_L0 fu call a0n a0 (nn) (y0) (y1) (y2) (x12) (y4) (y5) (y6) (y7) (x11) (y9) (y10) (y11))
   (
   callK (call (28 : Nat) [PV.agg [PV.sc (Value.int IntKind.u64 y8), PV.sc (Value.int IntKind.i64 y9), PV.sc (Value.int IntKind.i64 y10), PV.sc (Value.int IntKind.i64 y11)]]) fun x13 x14 =>
   nilK (x14) <|
   consK (x13) fun x15 x16 =>
   boolK (x15) fun x17 =>
   nilK (x16) <|
   brK (!x17)
    (
    some (Res.mk [PV.agg [PV.sc (Value.int IntKind.u64 (0 : Int)), PV.sc (Value.int IntKind.i64 (0 : Int)), PV.sc (Value.int IntKind.i64 (0 : Int)), PV.sc (Value.int IntKind.i64 (0 : Int))], PV.sc (Value.int IntKind.i64 (2 : Int))] []))
    (
    some (Res.mk [PV.agg [PV.sc (Value.int IntKind.u64 y8), PV.sc (Value.int IntKind.i64 y9), PV.sc (Value.int IntKind.i64 y10), PV.sc (Value.int IntKind.i64 y11)], PV.sc (Value.int IntKind.i64 (0 : Int))] []))) := by kernel_rfl

theorem lease_Decode_e (fu d : Nat) (a0n : Nat) (a0 : List PV) : pcall C0 Try.prog fu (d + 1) F_lease_Decode [PV.lst false (1 : Nat) a0n a0] = (fun (call : Call') =>
  brK ((↑a0n : Int) != (11 : Int))
   (
   some (Res.mk [PV.agg [PV.sc (Value.int IntKind.u64 (0 : Int)), PV.sc (Value.int IntKind.i64 (0 : Int)), PV.sc (Value.int IntKind.i64 (0 : Int)), PV.sc (Value.int IntKind.i64 (0 : Int))], PV.sc (Value.int IntKind.i64 (2 : Int))] []))
   (
   chk (decide ((8 : Int) < (↑a0n : Int))) <|
   intK (IntKind.u8) (List.getD a0 (8 : Nat) PV.top) fun x1 =>
   shareK (IntKind.wrap IntKind.i64 x1) fun x2 =>
   chk (decide ((9 : Int) < (↑a0n : Int))) <|
   intK (IntKind.u8) (List.getD a0 (9 : Nat) PV.top) fun x3 =>
   shareK (IntKind.wrap IntKind.i64 x3) fun x4 =>
   chk (decide ((10 : Int) < (↑a0n : Int))) <|
   intK (IntKind.u8) (List.getD a0 (10 : Nat) PV.top) fun x5 =>
   shareK (IntKind.wrap IntKind.i64 x5) fun x6 =>
   chk (decide ((8 : Nat) ≤ a0n)) <|
   shareK (List.take (8 : Nat) (List.drop (0 : Nat) a0)) fun x7 =>
   lease_Decode_L0 fu call a0n a0 (fu) ((8 : Nat)) (x7) ((8 : Int)) ((0 : Int)) ((0 : Int)) ((0 : Int)) ((0 : Int)) ((0 : Int)) ((0 : Int)) (x2) (x4) (x6))) (pcall C0 Try.prog fu d) := by kernel_rfl

abbrev F_passkeyref10_DecodeLease : FuncId := 24
theorem passkeyref10_DecodeLease_e (fu d : Nat) (a0n : Nat) (a0 : List PV) : pcall C0 Try.prog fu (d + 1) F_passkeyref10_DecodeLease [PV.lst false (1 : Nat) a0n a0] = (fun (call : Call') =>
  brK ((↑a0n : Int) != (11 : Int))
   (
   some (Res.mk [PV.agg [PV.sc (Value.int IntKind.u64 (0 : Int)), PV.sc (Value.int IntKind.i64 (0 : Int)), PV.sc (Value.int IntKind.i64 (0 : Int)), PV.sc (Value.int IntKind.i64 (0 : Int))], PV.sc (Value.int IntKind.i64 (2 : Int))] []))
   (
   chk (decide ((8 : Nat) ≤ a0n)) <|
   shareK (List.take (8 : Nat) (List.drop (0 : Nat) a0)) fun x1 =>
   callK (call (34 : Nat) [PV.lst false (1 : Nat) (8 : Nat) x1]) fun x2 x3 =>
   nilK (x3) <|
   consK (x2) fun x4 x5 =>
   intK (IntKind.u64) (x4) fun x6 =>
   nilK (x5) <|
   chk (decide ((8 : Int) < (↑a0n : Int))) <|
   intK (IntKind.u8) (List.getD a0 (8 : Nat) PV.top) fun x7 =>
   shareK (IntKind.wrap IntKind.i64 x7) fun x8 =>
   chk (decide ((9 : Int) < (↑a0n : Int))) <|
   intK (IntKind.u8) (List.getD a0 (9 : Nat) PV.top) fun x9 =>
   shareK (IntKind.wrap IntKind.i64 x9) fun x10 =>
   chk (decide ((10 : Int) < (↑a0n : Int))) <|
   intK (IntKind.u8) (List.getD a0 (10 : Nat) PV.top) fun x11 =>
   shareK (IntKind.wrap IntKind.i64 x11) fun x12 =>
   callK (call (29 : Nat) [PV.agg [PV.sc (Value.int IntKind.u64 x6), PV.sc (Value.int IntKind.i64 x8), PV.sc (Value.int IntKind.i64 x10), PV.sc (Value.int IntKind.i64 x12)]]) fun x13 x14 =>
   nilK (x14) <|
   consK (x13) fun x15 x16 =>
   boolK (x15) fun x17 =>
   nilK (x16) <|
   brK (!x17)
    (
    some (Res.mk [PV.agg [PV.sc (Value.int IntKind.u64 (0 : Int)), PV.sc (Value.int IntKind.i64 (0 : Int)), PV.sc (Value.int IntKind.i64 (0 : Int)), PV.sc (Value.int IntKind.i64 (0 : Int))], PV.sc (Value.int IntKind.i64 (2 : Int))] []))
    (
    some (Res.mk [PV.agg [PV.sc (Value.int IntKind.u64 x6), PV.sc (Value.int IntKind.i64 x8), PV.sc (Value.int IntKind.i64 x10), PV.sc (Value.int IntKind.i64 x12)], PV.sc (Value.int IntKind.i64 (0 : Int))] [])))) (pcall C0 Try.prog fu d) := by kernel_rfl

abbrev F_digest_Words : FuncId := 32
noncomputable def digest_Words_L0 (fu : Nat) (call : Call') (a0n : Nat) (a0 : List PV)  (nn : Nat) (y0 : Nat) (y1 : Nat) (y2 : List PV) (y3 : Int) (y4 : Int) (y5 : List PV) : Option Res :=
  floop C0 Try.prog fu call 32 Try.f32 (bodyOf Try.f32) [PV.lst false (1 : Nat) a0n a0] [.r, .r, .l, .r, .l] nn ⟨lk [(3, (.view 3 1 0 y0)), (11, (.lst false 1 y1 y2)), (12, (.sc (.int .i64 y3))), (13, (.sc (.int .i64 y4)))], lkh [(3, (.ar false y5))]⟩

noncomputable def digest_Words_L1 (fu : Nat) (call : Call') (a0n : Nat) (a0 : List PV) (m0 : Nat) (nn : Nat) (y0 : Nat) (y1 : Int) (y2 : Nat) (y3 : List PV) (y4 : Int) (y5 : Int) (y6 : Int) (y7 : List PV) : Option Res :=
  floop C0 Try.prog fu call 32 Try.f32 (bodyOf Try.f32) [PV.lst false (1 : Nat) a0n a0] [.r, .r, .l, .r, .l, .i m0, .r, .r, .l, .l, .r, .r, .l] nn ⟨lk [(3, (.view 3 1 0 y0)), (5, (.sc (.int .u64 y1))), (11, (.lst false 1 y2 y3)), (12, (.sc (.int .i64 y4))), (13, (.sc (.int .i64 y5))), (17, (.sc (.int .i64 y6)))], lkh [(3, (.ar false y7))]⟩

theorem digest_Words_L0_s (fu : Nat) (call : Call') (a0n : Nat) (a0 : List PV)  (nn : Nat) (y0 : Nat) (y1 : Nat) (y2 : List PV) (y3 : Int) (y4 : Int) (y5 : List PV) : digest_Words_L0 fu call a0n a0  (nn + 1) y0 y1 y2 y3 y4 y5 =
  brK (decide (y4 < y3))
   (
   chk (decide ((0 : Int) ≤ y4) && decide (y4 < (↑y1 : Int))) <|
   intK (IntKind.u64) (List.getD y2 (Int.toNat y4 * (1 : Nat)) PV.top) fun x2 =>
   digest_Words_L1 fu call a0n a0 nn (fu) (y0) (x2) (y1) (y2) (y3) (y4) ((0 : Int)) (y5))
   (
   chk (decide (y0 * (1 : Nat) ≤ List.length y5)) <|
   some (Res.mk [PV.own (1 : Nat) y0 (List.take (y0 * (1 : Nat)) y5)] [])) := by kernel_rfl

theorem digest_Words_L1_s (fu : Nat) (call : Call') (a0n : Nat) (a0 : List PV) (m0 : Nat) (nn : Nat) (y0 : Nat) (y1 : Int) (y2 : Nat) (y3 : List PV) (y4 : Int) (y5 : Int) (y6 : Int) (y7 : List PV) : digest_Words_L1 fu call a0n a0 m0 (nn + 1) y0 y1 y2 y3 y4 y5 y6 y7 =
  brK (decide (y6 < (8 : Int)))
   (
   shareK (IntKind.wrap IntKind.i64 ((8 : Int) * y6)) fun x3 =>
   shareK (IntKind.wrap IntKind.i64 ((56 : Int) - x3)) fun x4 =>
   chk (decide ((0 : Int) ≤ x4)) <|
   shareK (ishr IntKind.u64 y1 x4) fun x5 =>
   shareK (IntKind.wrap IntKind.u8 x5) fun x6 =>
   chk (decide (y0 * (1 : Nat) ≤ List.length y7) && true && decide ((y0 + (1 : Nat)) * (1 : Nat) ≤ (1099511627776 : Nat)) && decide (y0 + (1 : Nat) ≤ (1099511627776 : Nat))) <|
   shareK (y0 + (1 : Nat)) fun x7 =>
   shareK (List.take (y0 * (1 : Nat)) y7 ++ [PV.sc (Value.int IntKind.u8 x6)]) fun x8 =>
   shareK (IntKind.wrap IntKind.i64 (y6 + (1 : Int))) fun x9 =>
   digest_Words_L1 fu call a0n a0 m0 (nn) (x7) (y1) (y2) (y3) (y4) (y5) (x9) (x8))
   (
   shareK (IntKind.wrap IntKind.i64 (y5 + (1 : Int))) fun x10 =>
   digest_Words_L0 fu call a0n a0 (m0) (y0) (y2) (y3) (y4) (x10) (y7)) := by kernel_rfl

theorem digest_Words_e (fu d : Nat) (a0n : Nat) (a0 : List PV) : pcall C0 Try.prog fu (d + 1) F_digest_Words [PV.lst false (1 : Nat) a0n a0] = (fun (call : Call') =>
  shareK (IntKind.wrap IntKind.i64 ((8 : Int) * (↑a0n : Int))) fun x1 =>
  chk (decide ((0 : Int) ≤ x1) && decide (x1 * (1 : Int) ≤ (1099511627776 : Int)) && decide (x1 ≤ (1099511627776 : Int))) <|
  digest_Words_L0 fu call a0n a0 (fu) ((0 : Nat)) (a0n) (a0) ((↑a0n : Int)) ((0 : Int)) ([])) (pcall C0 Try.prog fu d) := by kernel_rfl

abbrev F_passkeyref1_Words : FuncId := 33
noncomputable def passkeyref1_Words_L0 (fu : Nat) (call : Call') (a0n : Nat) (a0 : List PV)  (nn : Nat) (y0 : Nat) (y1 : List PV) (y2 : Nat) (y3 : Int) (y4 : List PV) : Option Res :=
  floop C0 Try.prog fu call 33 Try.f33 (bodyOf Try.f33) [PV.lst false (1 : Nat) a0n a0] [.r, .r, .l, .r, .l] nn ⟨lk [(0, (.lst false 1 y0 y1)), (3, (.view 3 1 0 y2)), (4, (.sc (.int .i64 y3)))], lkh [(3, (.ar false y4))]⟩

noncomputable def passkeyref1_Words_L1 (fu : Nat) (call : Call') (a0n : Nat) (a0 : List PV) (m0 : Nat) (nn : Nat) (y0 : Nat) (y1 : List PV) (y2 : Nat) (y3 : Int) (y4 : Int) (y5 : List PV) : Option Res :=
  floop C0 Try.prog fu call 33 Try.f33 (bodyOf Try.f33) [PV.lst false (1 : Nat) a0n a0] [.r, .r, .l, .r, .l, .i m0, .r, .l, .l, .r, .l] nn ⟨lk [(0, (.lst false 1 y0 y1)), (3, (.view 3 1 0 y2)), (4, (.sc (.int .i64 y3))), (5, (.sc (.int .i64 y4)))], lkh [(3, (.ar false y5))]⟩

theorem passkeyref1_Words_L0_s (fu : Nat) (call : Call') (a0n : Nat) (a0 : List PV)  (nn : Nat) (y0 : Nat) (y1 : List PV) (y2 : Nat) (y3 : Int) (y4 : List PV) : passkeyref1_Words_L0 fu call a0n a0  (nn + 1) y0 y1 y2 y3 y4 =
  brK (decide (y3 < (↑y0 : Int)))
   (
   passkeyref1_Words_L1 fu call a0n a0 nn (fu) (y0) (y1) (y2) (y3) ((7 : Int)) (y4))
   (
   chk (decide (y2 * (1 : Nat) ≤ List.length y4)) <|
   some (Res.mk [PV.own (1 : Nat) y2 (List.take (y2 * (1 : Nat)) y4)] [])) := by kernel_rfl

theorem passkeyref1_Words_L1_s (fu : Nat) (call : Call') (a0n : Nat) (a0 : List PV) (m0 : Nat) (nn : Nat) (y0 : Nat) (y1 : List PV) (y2 : Nat) (y3 : Int) (y4 : Int) (y5 : List PV) : passkeyref1_Words_L1 fu call a0n a0 m0 (nn + 1) y0 y1 y2 y3 y4 y5 =
  brK (decide (y4 ≥ (0 : Int)))
   (
   chk (decide ((0 : Int) ≤ y3) && decide (y3 < (↑y0 : Int))) <|
   intK (IntKind.u64) (List.getD y1 (Int.toNat y3 * (1 : Nat)) PV.top) fun x1 =>
   shareK (IntKind.wrap IntKind.i64 ((8 : Int) * y4)) fun x2 =>
   shareK (IntKind.wrap IntKind.u64 x2) fun x3 =>
   chk (decide ((0 : Int) ≤ x3)) <|
   shareK (ishr IntKind.u64 x1 x3) fun x4 =>
   shareK (IntKind.wrap IntKind.u8 x4) fun x5 =>
   chk (decide (y2 * (1 : Nat) ≤ List.length y5) && true && decide ((y2 + (1 : Nat)) * (1 : Nat) ≤ (1099511627776 : Nat)) && decide (y2 + (1 : Nat) ≤ (1099511627776 : Nat))) <|
   shareK (y2 + (1 : Nat)) fun x6 =>
   shareK (List.take (y2 * (1 : Nat)) y5 ++ [PV.sc (Value.int IntKind.u8 x5)]) fun x7 =>
   shareK (IntKind.wrap IntKind.i64 (y4 - (1 : Int))) fun x8 =>
   passkeyref1_Words_L1 fu call a0n a0 m0 (nn) (y0) (y1) (x6) (y3) (x8) (x7))
   (
   shareK (IntKind.wrap IntKind.i64 (y3 + (1 : Int))) fun x9 =>
   passkeyref1_Words_L0 fu call a0n a0 (m0) (y0) (y1) (y2) (x9) (y5)) := by kernel_rfl

theorem passkeyref1_Words_e (fu d : Nat) (a0n : Nat) (a0 : List PV) : pcall C0 Try.prog fu (d + 1) F_passkeyref1_Words [PV.lst false (1 : Nat) a0n a0] = (fun (call : Call') =>
  passkeyref1_Words_L0 fu call a0n a0 (fu) (a0n) (a0) ((0 : Nat)) ((0 : Int)) ([])) (pcall C0 Try.prog fu d) := by kernel_rfl

abbrev F_passkeyref1_Word : FuncId := 34
noncomputable def passkeyref1_Word_L0 (fu : Nat) (call : Call') (a0n : Nat) (a0 : List PV)  (nn : Nat) (y0 : Nat) (y1 : List PV) (y2 : Int) (y3 : Int) : Option Res :=
  floop C0 Try.prog fu call 34 Try.f34 (bodyOf Try.f34) [PV.lst false (1 : Nat) a0n a0] [.r, .r, .l, .r, .l] nn ⟨lk [(0, (.lst false 1 y0 y1)), (3, (.sc (.int .u64 y2))), (4, (.sc (.int .i64 y3)))], lkh []⟩

theorem passkeyref1_Word_L0_s (fu : Nat) (call : Call') (a0n : Nat) (a0 : List PV)  (nn : Nat) (y0 : Nat) (y1 : List PV) (y2 : Int) (y3 : Int) : passkeyref1_Word_L0 fu call a0n a0  (nn + 1) y0 y1 y2 y3 =
  brK (decide (y3 < (8 : Int)))
   (
   brK (decide (y3 < (↑y0 : Int)))
    (
    shareK (ishl IntKind.u64 y2 (8 : Int)) fun x1 =>
    chk (decide ((0 : Int) ≤ y3) && decide (y3 < (↑y0 : Int))) <|
    intK (IntKind.u8) (List.getD y1 (Int.toNat y3 * (1 : Nat)) PV.top) fun x2 =>
    shareK (IntKind.wrap IntKind.u64 x2) fun x3 =>
    shareK (ior IntKind.u64 x1 x3) fun x4 =>
    shareK (IntKind.wrap IntKind.i64 (y3 + (1 : Int))) fun x5 =>
    passkeyref1_Word_L0 fu call a0n a0 (nn) (y0) (y1) (x4) (x5))
    (
    some (Res.mk [PV.sc (Value.int IntKind.u64 y2)] [])))
   (
   some (Res.mk [PV.sc (Value.int IntKind.u64 y2)] [])) := by kernel_rfl

theorem passkeyref1_Word_e (fu d : Nat) (a0n : Nat) (a0 : List PV) : pcall C0 Try.prog fu (d + 1) F_passkeyref1_Word [PV.lst false (1 : Nat) a0n a0] = (fun (call : Call') =>
  passkeyref1_Word_L0 fu call a0n a0 (fu) (a0n) (a0) ((0 : Int)) ((0 : Int))) (pcall C0 Try.prog fu d) := by kernel_rfl

end Go.Proofs.Ytoidbofkmflocaa.Pv
