/-
  What the functions compute, step by step: written by a program (wip/tools/gen.py).
-/
import Derived.Test.YtoihfmiifeegpaaPvL
import Derived.Test.YtoihfmiifeegpaaRows
set_option maxRecDepth 100000
set_option linter.unusedVariables false
namespace Go.Proofs.Ytoihfmiifeegpaa.Pv

abbrev F_passkeycast_New : FuncId := 8
theorem passkeycast_New_e (fu d : Nat) (a0n : Nat) (a0 : List PV) : pcall C0 Try.prog fu (d + 1) F_passkeycast_New [PV.lst false (1 : Nat) a0n a0] = (fun (call : Call') =>
  some (Res.mk [PV.pbox [PV.lst false (1 : Nat) a0n a0, PV.sc (Value.int IntKind.i64 (0 : Int))]] [])) (pcall C0 Try.prog fu d) := by kernel_rfl

abbrev F_passkeycast_Mod : FuncId := 18
theorem passkeycast_Mod_e (fu d : Nat) (a0 : Int) (a1 : Int) : pcall C0 Try.prog fu (d + 1) F_passkeycast_Mod [PV.sc (Value.int IntKind.i64 a0), PV.sc (Value.int IntKind.i64 a1)] = (fun (call : Call') =>
  shareK (IntKind.wrap IntKind.u64 a0) fun x1 =>
  shareK (IntKind.wrap IntKind.u64 a1) fun x2 =>
  chk (decide (x2 ≠ (0 : Int))) <|
  shareK (Int.tmod x1 x2) fun x3 =>
  shareK (IntKind.wrap IntKind.i64 x3) fun x4 =>
  some (Res.mk [PV.sc (Value.int IntKind.i64 x4)] [])) (pcall C0 Try.prog fu d) := by kernel_rfl

abbrev F_passkeycast_Deck_Next : FuncId := 10
theorem passkeycast_Deck_Next_e (fu d : Nat) (a0_0n : Nat) (a0_0 : List PV) (a0_1 : Int) (a1 : Int) : pcall C0 Try.prog fu (d + 1) F_passkeycast_Deck_Next [PV.pbox [PV.lst false (1 : Nat) a0_0n a0_0, PV.sc (Value.int IntKind.i64 a0_1)], PV.sc (Value.int IntKind.i64 a1)] = (fun (call : Call') =>
  brK (decide (a0_1 ≥ (↑a0_0n : Int)))
   (
   some (Res.mk [PV.sc (Value.int IntKind.i64 (0 : Int))] [[PV.lst false (1 : Nat) a0_0n a0_0, PV.sc (Value.int IntKind.i64 a0_1)]]))
   (
   shareK (IntKind.wrap IntKind.i64 (a0_1 + (1 : Int))) fun x1 =>
   shareK (IntKind.wrap IntKind.i64 (x1 - (1 : Int))) fun x2 =>
   chk (decide ((0 : Int) ≤ x2) && decide (x2 < (↑a0_0n : Int))) <|
   intK (IntKind.i64) (List.getD a0_0 (Int.toNat x2 * (1 : Nat)) PV.top) fun x3 =>
   callK (call (18 : Nat) [PV.sc (Value.int IntKind.i64 x3), PV.sc (Value.int IntKind.i64 a1)]) fun x4 x5 =>
   nilK (x5) <|
   consK (x4) fun x6 x7 =>
   intK (IntKind.i64) (x6) fun x8 =>
   nilK (x7) <|
   some (Res.mk [PV.sc (Value.int IntKind.i64 x8)] [[PV.lst false (1 : Nat) a0_0n a0_0, PV.sc (Value.int IntKind.i64 x1)]]))) (pcall C0 Try.prog fu d) := by kernel_rfl

end Go.Proofs.Ytoihfmiifeegpaa.Pv
