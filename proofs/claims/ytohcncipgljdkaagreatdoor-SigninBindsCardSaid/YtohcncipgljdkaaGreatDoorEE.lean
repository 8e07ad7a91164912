/-
  The proof of SigninBinds, part 5.
-/
import Derived.Test.YtohcncipgljdkaaGreatDoorED
import Derived.Test.YtohcncipgljdkaaGreatDoorRows
import Derived.Shelf.RegionOpenPlain
import Derived.Lib.Overlaps
import Derived.Lib.AppendZerosOnto
import Derived.Lib.Walk
import Derived.Lib.SliceRun
import Derived.Laws.Externs
import Derived.Laws.IdiomCopy
import Derived.Laws.NewBlocks
import Derived.WalkKit
import Derived.WalkMore
import Derived.Shelf.Unicode.ValidAny
import Derived.Lib.LaidU8T
set_option linter.unusedSimpArgs false
set_option linter.unusedVariables false
namespace Go.Proofs.YtohcncipgljdkaaGreatDoor.Pv
open Go.IntKind (wrap)
open Go.Proofs.Tryz (prog)
set_option maxRecDepth 1000000
noncomputable section
section
variable {xs:FuncId->Option (Ae->Option Bv)}(fu d:Nat)(call:Ap)
theorem Qy{p:Option (Ae->Option Bv)}(fu d:Nat)(Z:ByteArray)(Y:Int):Ac (CP p) prog fu (d+1) 175 [Z,.sc (.int .u8 Y)]=(fun (call:Ap)=>Gt .i64 (call 190 [Z,.sc (.int .u8 Y)]) fun a=>Bk [a]) (Ac (CP p) prog fu d):=by kernel_rfl
def Ef(Z:ByteArray)(Y:Int)(X:Nat)(W:ByteArray)(V:Int):Option Bv:=Kk fu call 154 Tryz.f154 [.pbox [Z,Y]] [.l] X ⟨lk [(0,.ptr 64000 0)],C4 [(64000,.st [W,V])]⟩
theorem G2(X:ByteArray)(W:Int)(V:Nat)(Y:ByteArray)(Z:Int):Ef fu call X W (V+1) Y Z=(Aw (decide (Z<(↑(ByteArray.size Y):Int))) (As (decide (0<=Z))<|D4 ((Array.toList (ByteArray.data Y))[Z.toNat]?) fun a=>Gt .i64 (call 175 [Bl ⟨#[32,9,10,13]⟩,.sc (.int .u8 (↑(UInt8.toNat a):Int))]) fun a=>Aw (decide (a>=0)) (Aa (wrap .i64 (Z+1)) fun a=>Ef fu call X W V Y a) (some ⟨[],[[Y,Z]]⟩)) (some ⟨[],[[Y,Z]]⟩)):=by kernel_rfl
theorem Pw{p:Option (Ae->Option Bv)}(fu d:Nat)(Z:ByteArray)(Y:Int):Ac (CP p) prog fu (d+1) 154 [.pbox [Z,Y]]=(fun (call:Ap)=>Ef fu call Z Y fu Z Y) (Ac (CP p) prog fu d):=by kernel_rfl
def Ea(Z:ByteArray)(Y:Int)(X:Nat)(W:Int)(V:ByteArray)(U:Int):Option Bv:=Kk fu call 211 Tryz.f211 [.pbox [Z,Y]] [.r,.r,.l,.l] X ⟨lk [(0,.ptr 58000 0),(3,W)],C4 [(58000,.st [V,U])]⟩
theorem Gp(Y:ByteArray)(X:Int)(W:Nat)(Z:Int)(V:ByteArray)(U:Int):Ea fu call Y X (W+1) Z V U=(A9 (call 196 [.pbox [V,U]]) fun a b=>Cg .u8 a fun a=>Ad b fun b c=>Ad b fun b e=>Bd b fun b=>Cg .i64 e fun e=>Ak c<|Aw (decide (a>=48)) (A9 (call 196 [.pbox [b,e]]) fun a b=>Cg .u8 a fun a=>Ad b fun b c=>Ad b fun b e=>Bd b fun b=>Cg .i64 e fun e=>Ak c<|Aw (decide (a<=57)) (Aa (wrap .i64 (e+1)) fun a=>Ea fu call Y X W Z b a) (some ⟨[De (decide (e>Z))],[[b,e]]⟩)) (some ⟨[De (decide (e>Z))],[[b,e]]⟩)):=by kernel_rfl
theorem Oi{p:Option (Ae->Option Bv)}(fu d:Nat)(Y:ByteArray)(Z:Int):Ac (CP p) prog fu (d+1) 211 [.pbox [Y,Z]]=(fun (call:Ap)=>Ea fu call Y Z fu Z Y Z) (Ac (CP p) prog fu d):=by kernel_rfl
theorem Aj{p:Option (Ae->Option Bv)}(fu d:Nat)(Z:ByteArray)(Y:Int):Ac (CP p) prog fu (d+1) 198 [.pbox [Z,Y]]=(fun (call:Ap)=>A9 (call 176 [.pbox [Z,Y],Bl ⟨#[45]⟩]) fun a b=>Gv a fun a=>Ad b fun a b=>Ad a fun a c=>Bd a fun a=>Cg .i64 c fun c=>Ak b<|A9 (call 176 [.pbox [a,c],Bl ⟨#[48]⟩]) fun a b=>Gv a fun a=>Ad b fun b c=>Ad b fun b e=>Bd b fun b=>Cg .i64 e fun e=>Ak c<|Aw (!a) (A9 (call 211 [.pbox [b,e]]) fun a b=>Gv a fun a=>Ad b fun b c=>Ad b fun b e=>Bd b fun b=>Cg .i64 e fun e=>Ak c<|Aw (!a) (some ⟨[false],[[b,e]]⟩) (A9 (call 176 [.pbox [b,e],Bl ⟨#[46]⟩]) fun a b=>Gv a fun a=>Ad b fun b c=>Ad b fun b e=>Bd b fun b=>Cg .i64 e fun e=>Ak c<|Aw a (A9 (call 211 [.pbox [b,e]]) fun a b=>Gv a fun a=>Ad b fun b c=>Ad b fun b e=>Bd b fun b=>Cg .i64 e fun e=>Ak c<|Aw (!a) (some ⟨[false],[[b,e]]⟩) (A9 (call 176 [.pbox [b,e],Bl ⟨#[101]⟩]) fun a b=>Gv a fun a=>Ad b fun b c=>Ad b fun b e=>Bd b fun b=>Cg .i64 e fun e=>Ak c<|Aw a (A9 (call 176 [.pbox [b,e],Bl ⟨#[43]⟩]) fun a b=>Gv a fun a=>Ad b fun b c=>Ad b fun b e=>Bd b fun b=>Cg .i64 e fun e=>Ak c<|Aw (!a) (A9 (call 176 [.pbox [b,e],Bl ⟨#[45]⟩]) fun a b=>Gv a fun a=>Ad b fun a b=>Ad a fun a c=>Bd a fun a=>Cg .i64 c fun c=>Ak b<|A9 (call 211 [.pbox [a,c]]) fun a b=>Gv a fun a=>Ad b fun b c=>Ad b fun b e=>Bd b fun b=>Cg .i64 e fun e=>Ak c<|some ⟨[a],[[b,e]]⟩) (A9 (call 211 [.pbox [b,e]]) fun a b=>Gv a fun a=>Ad b fun b c=>Ad b fun b e=>Bd b fun b=>Cg .i64 e fun e=>Ak c<|some ⟨[a],[[b,e]]⟩)) (A9 (call 176 [.pbox [b,e],Bl ⟨#[69]⟩]) fun a b=>Gv a fun a=>Ad b fun b c=>Ad b fun b e=>Bd b fun b=>Cg .i64 e fun e=>Ak c<|Aw a (A9 (call 176 [.pbox [b,e],Bl ⟨#[43]⟩]) fun a b=>Gv a fun a=>Ad b fun b c=>Ad b fun b e=>Bd b fun b=>Cg .i64 e fun e=>Ak c<|Aw (!a) (A9 (call 176 [.pbox [b,e],Bl ⟨#[45]⟩]) fun a b=>Gv a fun a=>Ad b fun a b=>Ad a fun a c=>Bd a fun a=>Cg .i64 c fun c=>Ak b<|A9 (call 211 [.pbox [a,c]]) fun a b=>Gv a fun a=>Ad b fun b c=>Ad b fun b e=>Bd b fun b=>Cg .i64 e fun e=>Ak c<|some ⟨[a],[[b,e]]⟩) (A9 (call 211 [.pbox [b,e]]) fun a b=>Gv a fun a=>Ad b fun b c=>Ad b fun b e=>Bd b fun b=>Cg .i64 e fun e=>Ak c<|some ⟨[a],[[b,e]]⟩)) (some ⟨[true],[[b,e]]⟩)))) (A9 (call 176 [.pbox [b,e],Bl ⟨#[101]⟩]) fun a b=>Gv a fun a=>Ad b fun b c=>Ad b fun b e=>Bd b fun b=>Cg .i64 e fun e=>Ak c<|Aw a (A9 (call 176 [.pbox [b,e],Bl ⟨#[43]⟩]) fun a b=>Gv a fun a=>Ad b fun b c=>Ad b fun b e=>Bd b fun b=>Cg .i64 e fun e=>Ak c<|Aw (!a) (A9 (call 176 [.pbox [b,e],Bl ⟨#[45]⟩]) fun a b=>Gv a fun a=>Ad b fun a b=>Ad a fun a c=>Bd a fun a=>Cg .i64 c fun c=>Ak b<|A9 (call 211 [.pbox [a,c]]) fun a b=>Gv a fun a=>Ad b fun b c=>Ad b fun b e=>Bd b fun b=>Cg .i64 e fun e=>Ak c<|some ⟨[a],[[b,e]]⟩) (A9 (call 211 [.pbox [b,e]]) fun a b=>Gv a fun a=>Ad b fun b c=>Ad b fun b e=>Bd b fun b=>Cg .i64 e fun e=>Ak c<|some ⟨[a],[[b,e]]⟩)) (A9 (call 176 [.pbox [b,e],Bl ⟨#[69]⟩]) fun a b=>Gv a fun a=>Ad b fun b c=>Ad b fun b e=>Bd b fun b=>Cg .i64 e fun e=>Ak c<|Aw a (A9 (call 176 [.pbox [b,e],Bl ⟨#[43]⟩]) fun a b=>Gv a fun a=>Ad b fun b c=>Ad b fun b e=>Bd b fun b=>Cg .i64 e fun e=>Ak c<|Aw (!a) (A9 (call 176 [.pbox [b,e],Bl ⟨#[45]⟩]) fun a b=>Gv a fun a=>Ad b fun a b=>Ad a fun a c=>Bd a fun a=>Cg .i64 c fun c=>Ak b<|A9 (call 211 [.pbox [a,c]]) fun a b=>Gv a fun a=>Ad b fun b c=>Ad b fun b e=>Bd b fun b=>Cg .i64 e fun e=>Ak c<|some ⟨[a],[[b,e]]⟩) (A9 (call 211 [.pbox [b,e]]) fun a b=>Gv a fun a=>Ad b fun b c=>Ad b fun b e=>Bd b fun b=>Cg .i64 e fun e=>Ak c<|some ⟨[a],[[b,e]]⟩)) (some ⟨[true],[[b,e]]⟩))))) (A9 (call 176 [.pbox [b,e],Bl ⟨#[46]⟩]) fun a b=>Gv a fun a=>Ad b fun b c=>Ad b fun b e=>Bd b fun b=>Cg .i64 e fun e=>Ak c<|Aw a (A9 (call 211 [.pbox [b,e]]) fun a b=>Gv a fun a=>Ad b fun b c=>Ad b fun b e=>Bd b fun b=>Cg .i64 e fun e=>Ak c<|Aw (!a) (some ⟨[false],[[b,e]]⟩) (A9 (call 176 [.pbox [b,e],Bl ⟨#[101]⟩]) fun a b=>Gv a fun a=>Ad b fun b c=>Ad b fun b e=>Bd b fun b=>Cg .i64 e fun e=>Ak c<|Aw a (A9 (call 176 [.pbox [b,e],Bl ⟨#[43]⟩]) fun a b=>Gv a fun a=>Ad b fun b c=>Ad b fun b e=>Bd b fun b=>Cg .i64 e fun e=>Ak c<|Aw (!a) (A9 (call 176 [.pbox [b,e],Bl ⟨#[45]⟩]) fun a b=>Gv a fun a=>Ad b fun a b=>Ad a fun a c=>Bd a fun a=>Cg .i64 c fun c=>Ak b<|A9 (call 211 [.pbox [a,c]]) fun a b=>Gv a fun a=>Ad b fun b c=>Ad b fun b e=>Bd b fun b=>Cg .i64 e fun e=>Ak c<|some ⟨[a],[[b,e]]⟩) (A9 (call 211 [.pbox [b,e]]) fun a b=>Gv a fun a=>Ad b fun b c=>Ad b fun b e=>Bd b fun b=>Cg .i64 e fun e=>Ak c<|some ⟨[a],[[b,e]]⟩)) (A9 (call 176 [.pbox [b,e],Bl ⟨#[69]⟩]) fun a b=>Gv a fun a=>Ad b fun b c=>Ad b fun b e=>Bd b fun b=>Cg .i64 e fun e=>Ak c<|Aw a (A9 (call 176 [.pbox [b,e],Bl ⟨#[43]⟩]) fun a b=>Gv a fun a=>Ad b fun b c=>Ad b fun b e=>Bd b fun b=>Cg .i64 e fun e=>Ak c<|Aw (!a) (A9 (call 176 [.pbox [b,e],Bl ⟨#[45]⟩]) fun a b=>Gv a fun a=>Ad b fun a b=>Ad a fun a c=>Bd a fun a=>Cg .i64 c fun c=>Ak b<|A9 (call 211 [.pbox [a,c]]) fun a b=>Gv a fun a=>Ad b fun b c=>Ad b fun b e=>Bd b fun b=>Cg .i64 e fun e=>Ak c<|some ⟨[a],[[b,e]]⟩) (A9 (call 211 [.pbox [b,e]]) fun a b=>Gv a fun a=>Ad b fun b c=>Ad b fun b e=>Bd b fun b=>Cg .i64 e fun e=>Ak c<|some ⟨[a],[[b,e]]⟩)) (some ⟨[true],[[b,e]]⟩)))) (A9 (call 176 [.pbox [b,e],Bl ⟨#[101]⟩]) fun a b=>Gv a fun a=>Ad b fun b c=>Ad b fun b e=>Bd b fun b=>Cg .i64 e fun e=>Ak c<|Aw a (A9 (call 176 [.pbox [b,e],Bl ⟨#[43]⟩]) fun a b=>Gv a fun a=>Ad b fun b c=>Ad b fun b e=>Bd b fun b=>Cg .i64 e fun e=>Ak c<|Aw (!a) (A9 (call 176 [.pbox [b,e],Bl ⟨#[45]⟩]) fun a b=>Gv a fun a=>Ad b fun a b=>Ad a fun a c=>Bd a fun a=>Cg .i64 c fun c=>Ak b<|A9 (call 211 [.pbox [a,c]]) fun a b=>Gv a fun a=>Ad b fun b c=>Ad b fun b e=>Bd b fun b=>Cg .i64 e fun e=>Ak c<|some ⟨[a],[[b,e]]⟩) (A9 (call 211 [.pbox [b,e]]) fun a b=>Gv a fun a=>Ad b fun b c=>Ad b fun b e=>Bd b fun b=>Cg .i64 e fun e=>Ak c<|some ⟨[a],[[b,e]]⟩)) (A9 (call 176 [.pbox [b,e],Bl ⟨#[69]⟩]) fun a b=>Gv a fun a=>Ad b fun b c=>Ad b fun b e=>Bd b fun b=>Cg .i64 e fun e=>Ak c<|Aw a (A9 (call 176 [.pbox [b,e],Bl ⟨#[43]⟩]) fun a b=>Gv a fun a=>Ad b fun b c=>Ad b fun b e=>Bd b fun b=>Cg .i64 e fun e=>Ak c<|Aw (!a) (A9 (call 176 [.pbox [b,e],Bl ⟨#[45]⟩]) fun a b=>Gv a fun a=>Ad b fun a b=>Ad a fun a c=>Bd a fun a=>Cg .i64 c fun c=>Ak b<|A9 (call 211 [.pbox [a,c]]) fun a b=>Gv a fun a=>Ad b fun b c=>Ad b fun b e=>Bd b fun b=>Cg .i64 e fun e=>Ak c<|some ⟨[a],[[b,e]]⟩) (A9 (call 211 [.pbox [b,e]]) fun a b=>Gv a fun a=>Ad b fun b c=>Ad b fun b e=>Bd b fun b=>Cg .i64 e fun e=>Ak c<|some ⟨[a],[[b,e]]⟩)) (some ⟨[true],[[b,e]]⟩))))) (Ac (CP p) prog fu d):=by kernel_rfl
def Eg(Z:ByteArray)(Y X:Int)(W:Nat)(V:Int)(U:ByteArray)(T:Int):Option Bv:=Kk fu call 197 Tryz.f197 [.pbox [Z,Y],X] [.r,.r,.r,.r,.l] W ⟨lk [(0,.ptr 64000 0),(1,V)],C4 [(64000,.st [U,T])]⟩
theorem My(Y:ByteArray)(X W:Int)(V:Nat)(Z:Int)(U:ByteArray)(T:Int):Eg fu call Y X W (V+1) Z U T=(A9 (call 178 [.pbox [U,T],Z]) fun a b=>Ad a fun a c=>Di a fun a=>Br .i64 a fun a e=>Ad e fun a e=>Bd a fun a=>Gv e fun a=>Cg .i64 c fun a=>Ad b fun b c=>Ad b fun b e=>Bd b fun b=>Cg .i64 e fun e=>Ak c<|Aw (a != 0) (some ⟨[a],[[b,e]]⟩) (A9 (call 154 [.pbox [b,e]]) fun a b=>Ak a<|Ad b fun a b=>Ad a fun a c=>Bd a fun a=>Cg .i64 c fun c=>Ak b<|A9 (call 176 [.pbox [a,c],Bl ⟨#[93]⟩]) fun a b=>Gv a fun a=>Ad b fun b c=>Ad b fun b e=>Bd b fun b=>Cg .i64 e fun e=>Ak c<|Aw a (some ⟨[(0:Int)],[[b,e]]⟩) (A9 (call 176 [.pbox [b,e],Bl ⟨#[44]⟩]) fun a b=>Gv a fun a=>Ad b fun b c=>Ad b fun b e=>Bd b fun b=>Cg .i64 e fun e=>Ak c<|Aw (!a) (some ⟨[(2:Int)],[[b,e]]⟩) (A9 (call 154 [.pbox [b,e]]) fun a b=>Ak a<|Ad b fun a b=>Ad a fun a c=>Bd a fun a=>Cg .i64 c fun c=>Ak b<|Eg fu call Y X W V Z a c)))):=by kernel_rfl
theorem Pq{p:Option (Ae->Option Bv)}(fu d:Nat)(Z:ByteArray)(Y X:Int):Ac (CP p) prog fu (d+1) 197 [.pbox [Z,Y],X]=(fun (call:Ap)=>A9 (call 176 [.pbox [Z,Y],Bl ⟨#[91]⟩]) fun a b=>Gv a fun a=>Ad b fun b c=>Ad b fun b e=>Bd b fun b=>Cg .i64 e fun e=>Ak c<|Aw (!a) (some ⟨[(2:Int)],[[b,e]]⟩) (A9 (call 154 [.pbox [b,e]]) fun a b=>Ak a<|Ad b fun a b=>Ad a fun a c=>Bd a fun a=>Cg .i64 c fun c=>Ak b<|A9 (call 176 [.pbox [a,c],Bl ⟨#[93]⟩]) fun a b=>Gv a fun a=>Ad b fun b c=>Ad b fun b e=>Bd b fun b=>Cg .i64 e fun e=>Ak c<|Aw a (some ⟨[(0:Int)],[[b,e]]⟩) (Eg fu call Z Y X fu X b e))) (Ac (CP p) prog fu d):=by kernel_rfl
def D9(Z:ByteArray)(Y X:Int)(W:Nat)(V:Int)(U:ByteArray)(T:Int):Option Bv:=Kk fu call 155 Tryz.f155 [.pbox [Z,Y],X,.sc (Value.map none)] [.r,.r,.r,.r,.l] W ⟨lk [(0,.ptr 128000 0),(1,V),(2,.sc (Value.map none))],C4 [(128000,.st [U,T])]⟩
theorem L8(Y:ByteArray)(X W:Int)(V:Nat)(Z:Int)(U:ByteArray)(T:Int):D9 fu call Y X W (V+1) Z U T=(A9 (call 177 [.pbox [U,T]]) fun a b=>Ad a fun a c=>Bd a fun a=>Gv c fun a=>Ad b fun b c=>Ad b fun b e=>Bd b fun b=>Cg .i64 e fun e=>Ak c<|Aw (!a) (some ⟨[(2:Int)],[[b,e]]⟩) (A9 (call 154 [.pbox [b,e]]) fun a b=>Ak a<|Ad b fun a b=>Ad a fun a c=>Bd a fun a=>Cg .i64 c fun c=>Ak b<|A9 (call 176 [.pbox [a,c],Bl ⟨#[58]⟩]) fun a b=>Gv a fun a=>Ad b fun b c=>Ad b fun b e=>Bd b fun b=>Cg .i64 e fun e=>Ak c<|Aw (!a) (some ⟨[(2:Int)],[[b,e]]⟩) (A9 (call 154 [.pbox [b,e]]) fun a b=>Ak a<|Ad b fun a b=>Ad a fun a c=>Bd a fun a=>Cg .i64 c fun c=>Ak b<|A9 (call 178 [.pbox [a,c],Z]) fun a b=>Ad a fun a c=>Di a fun a=>Br .i64 a fun a e=>Ad e fun a e=>Bd a fun a=>Gv e fun a=>Cg .i64 c fun a=>Ad b fun b c=>Ad b fun b e=>Bd b fun b=>Cg .i64 e fun e=>Ak c<|Aw (a != 0) (some ⟨[a],[[b,e]]⟩) (A9 (call 154 [.pbox [b,e]]) fun a b=>Ak a<|Ad b fun a b=>Ad a fun a c=>Bd a fun a=>Cg .i64 c fun c=>Ak b<|A9 (call 176 [.pbox [a,c],Bl ⟨#[125]⟩]) fun a b=>Gv a fun a=>Ad b fun b c=>Ad b fun b e=>Bd b fun b=>Cg .i64 e fun e=>Ak c<|Aw a (some ⟨[(0:Int)],[[b,e]]⟩) (A9 (call 176 [.pbox [b,e],Bl ⟨#[44]⟩]) fun a b=>Gv a fun a=>Ad b fun b c=>Ad b fun b e=>Bd b fun b=>Cg .i64 e fun e=>Ak c<|Aw (!a) (some ⟨[(2:Int)],[[b,e]]⟩) (A9 (call 154 [.pbox [b,e]]) fun a b=>Ak a<|Ad b fun a b=>Ad a fun a c=>Bd a fun a=>Cg .i64 c fun c=>Ak b<|D9 fu call Y X W V Z a c)))))):=by kernel_rfl
theorem N5{p:Option (Ae->Option Bv)}(fu d:Nat)(Z:ByteArray)(Y X:Int):Ac (CP p) prog fu (d+1) 155 [.pbox [Z,Y],X,.sc (Value.map none)]=(fun (call:Ap)=>A9 (call 176 [.pbox [Z,Y],Bl ⟨#[123]⟩]) fun a b=>Gv a fun a=>Ad b fun b c=>Ad b fun b e=>Bd b fun b=>Cg .i64 e fun e=>Ak c<|Aw (!a) (some ⟨[(2:Int)],[[b,e]]⟩) (A9 (call 154 [.pbox [b,e]]) fun a b=>Ak a<|Ad b fun a b=>Ad a fun a c=>Bd a fun a=>Cg .i64 c fun c=>Ak b<|A9 (call 176 [.pbox [a,c],Bl ⟨#[125]⟩]) fun a b=>Gv a fun a=>Ad b fun b c=>Ad b fun b e=>Bd b fun b=>Cg .i64 e fun e=>Ak c<|Aw a (some ⟨[(0:Int)],[[b,e]]⟩) (D9 fu call Z Y X fu X b e))) (Ac (CP p) prog fu d):=by kernel_rfl
theorem C8{p:Option (Ae->Option Bv)}(fu d:Nat)(Y:ByteArray)(X Z:Int):Ac (CP p) prog fu (d+1) 178 [.pbox [Y,X],Z]=(fun (call:Ap)=>A9 (call 196 [.pbox [Y,X]]) fun a b=>Cg .u8 a fun a=>Ad b fun b c=>Ad b fun b e=>Bd b fun b=>Cg .i64 e fun e=>Ak c<|Aw (a==123) (Aw (decide (Z>8)) (some ⟨[.agg [(0:Int),Bl ⟨#[]⟩,false],(5:Int)],[[b,e]]⟩) (Aw (a==123) (Aa (wrap .i64 (Z+1)) fun a=>A9 (call 155 [.pbox [b,e],a,.sc (Value.map none)]) fun a b=>Cg .i64 a fun a=>Ad b fun b c=>Ad b fun b e=>Bd b fun b=>Cg .i64 e fun e=>Ak c<|some ⟨[.agg [(6:Int),Bl ⟨#[]⟩,false],a],[[b,e]]⟩) (Aw (a==91) (Aa (wrap .i64 (Z+1)) fun a=>A9 (call 197 [.pbox [b,e],a]) fun a b=>Cg .i64 a fun a=>Ad b fun b c=>Ad b fun b e=>Bd b fun b=>Cg .i64 e fun e=>Ak c<|some ⟨[.agg [(5:Int),Bl ⟨#[]⟩,false],a],[[b,e]]⟩) (Aw (a==34) (A9 (call 177 [.pbox [b,e]]) fun a b=>Ad a fun a c=>Bd a fun a=>Gv c fun c=>Ad b fun b e=>Ad b fun b f=>Bd b fun b=>Cg .i64 f fun f=>Ak e<|Aw c (some ⟨[.agg [(4:Int),a,false],(0:Int)],[[b,f]]⟩) (some ⟨[.agg [(0:Int),Bl ⟨#[]⟩,false],(2:Int)],[[b,f]]⟩)) (A9 (call 176 [.pbox [b,e],Bl ⟨#[116,114,117,101]⟩]) fun a b=>Gv a fun a=>Ad b fun b c=>Ad b fun b e=>Bd b fun b=>Cg .i64 e fun e=>Ak c<|Aw a (some ⟨[.agg [(2:Int),Bl ⟨#[]⟩,true],(0:Int)],[[b,e]]⟩) (A9 (call 176 [.pbox [b,e],Bl ⟨#[102,97,108,115,101]⟩]) fun a b=>Gv a fun a=>Ad b fun b c=>Ad b fun b e=>Bd b fun b=>Cg .i64 e fun e=>Ak c<|Aw a (some ⟨[.agg [(2:Int),Bl ⟨#[]⟩,false],(0:Int)],[[b,e]]⟩) (A9 (call 176 [.pbox [b,e],Bl ⟨#[110,117,108,108]⟩]) fun a b=>Gv a fun a=>Ad b fun b c=>Ad b fun b e=>Bd b fun b=>Cg .i64 e fun e=>Ak c<|Aw a (some ⟨[.agg [(1:Int),Bl ⟨#[]⟩,false],(0:Int)],[[b,e]]⟩) (A9 (call 198 [.pbox [b,e]]) fun a b=>Gv a fun a=>Ad b fun b c=>Ad b fun b e=>Bd b fun b=>Cg .i64 e fun e=>Ak c<|Aw a (some ⟨[.agg [(3:Int),Bl ⟨#[]⟩,false],(0:Int)],[[b,e]]⟩) (some ⟨[.agg [(0:Int),Bl ⟨#[]⟩,false],(2:Int)],[[b,e]]⟩))))))))) (Aw (a==91) (Aw (decide (Z>8)) (some ⟨[.agg [(0:Int),Bl ⟨#[]⟩,false],(5:Int)],[[b,e]]⟩) (Aw (a==123) (Aa (wrap .i64 (Z+1)) fun a=>A9 (call 155 [.pbox [b,e],a,.sc (Value.map none)]) fun a b=>Cg .i64 a fun a=>Ad b fun b c=>Ad b fun b e=>Bd b fun b=>Cg .i64 e fun e=>Ak c<|some ⟨[.agg [(6:Int),Bl ⟨#[]⟩,false],a],[[b,e]]⟩) (Aw (a==91) (Aa (wrap .i64 (Z+1)) fun a=>A9 (call 197 [.pbox [b,e],a]) fun a b=>Cg .i64 a fun a=>Ad b fun b c=>Ad b fun b e=>Bd b fun b=>Cg .i64 e fun e=>Ak c<|some ⟨[.agg [(5:Int),Bl ⟨#[]⟩,false],a],[[b,e]]⟩) (Aw (a==34) (A9 (call 177 [.pbox [b,e]]) fun a b=>Ad a fun a c=>Bd a fun a=>Gv c fun c=>Ad b fun b e=>Ad b fun b f=>Bd b fun b=>Cg .i64 f fun f=>Ak e<|Aw c (some ⟨[.agg [(4:Int),a,false],(0:Int)],[[b,f]]⟩) (some ⟨[.agg [(0:Int),Bl ⟨#[]⟩,false],(2:Int)],[[b,f]]⟩)) (A9 (call 176 [.pbox [b,e],Bl ⟨#[116,114,117,101]⟩]) fun a b=>Gv a fun a=>Ad b fun b c=>Ad b fun b e=>Bd b fun b=>Cg .i64 e fun e=>Ak c<|Aw a (some ⟨[.agg [(2:Int),Bl ⟨#[]⟩,true],(0:Int)],[[b,e]]⟩) (A9 (call 176 [.pbox [b,e],Bl ⟨#[102,97,108,115,101]⟩]) fun a b=>Gv a fun a=>Ad b fun b c=>Ad b fun b e=>Bd b fun b=>Cg .i64 e fun e=>Ak c<|Aw a (some ⟨[.agg [(2:Int),Bl ⟨#[]⟩,false],(0:Int)],[[b,e]]⟩) (A9 (call 176 [.pbox [b,e],Bl ⟨#[110,117,108,108]⟩]) fun a b=>Gv a fun a=>Ad b fun b c=>Ad b fun b e=>Bd b fun b=>Cg .i64 e fun e=>Ak c<|Aw a (some ⟨[.agg [(1:Int),Bl ⟨#[]⟩,false],(0:Int)],[[b,e]]⟩) (A9 (call 198 [.pbox [b,e]]) fun a b=>Gv a fun a=>Ad b fun b c=>Ad b fun b e=>Bd b fun b=>Cg .i64 e fun e=>Ak c<|Aw a (some ⟨[.agg [(3:Int),Bl ⟨#[]⟩,false],(0:Int)],[[b,e]]⟩) (some ⟨[.agg [(0:Int),Bl ⟨#[]⟩,false],(2:Int)],[[b,e]]⟩))))))))) (Aw (a==123) (Aa (wrap .i64 (Z+1)) fun a=>A9 (call 155 [.pbox [b,e],a,.sc (Value.map none)]) fun a b=>Cg .i64 a fun a=>Ad b fun b c=>Ad b fun b e=>Bd b fun b=>Cg .i64 e fun e=>Ak c<|some ⟨[.agg [(6:Int),Bl ⟨#[]⟩,false],a],[[b,e]]⟩) (Aw (a==91) (Aa (wrap .i64 (Z+1)) fun a=>A9 (call 197 [.pbox [b,e],a]) fun a b=>Cg .i64 a fun a=>Ad b fun b c=>Ad b fun b e=>Bd b fun b=>Cg .i64 e fun e=>Ak c<|some ⟨[.agg [(5:Int),Bl ⟨#[]⟩,false],a],[[b,e]]⟩) (Aw (a==34) (A9 (call 177 [.pbox [b,e]]) fun a b=>Ad a fun a c=>Bd a fun a=>Gv c fun c=>Ad b fun b e=>Ad b fun b f=>Bd b fun b=>Cg .i64 f fun f=>Ak e<|Aw c (some ⟨[.agg [(4:Int),a,false],(0:Int)],[[b,f]]⟩) (some ⟨[.agg [(0:Int),Bl ⟨#[]⟩,false],(2:Int)],[[b,f]]⟩)) (A9 (call 176 [.pbox [b,e],Bl ⟨#[116,114,117,101]⟩]) fun a b=>Gv a fun a=>Ad b fun b c=>Ad b fun b e=>Bd b fun b=>Cg .i64 e fun e=>Ak c<|Aw a (some ⟨[.agg [(2:Int),Bl ⟨#[]⟩,true],(0:Int)],[[b,e]]⟩) (A9 (call 176 [.pbox [b,e],Bl ⟨#[102,97,108,115,101]⟩]) fun a b=>Gv a fun a=>Ad b fun b c=>Ad b fun b e=>Bd b fun b=>Cg .i64 e fun e=>Ak c<|Aw a (some ⟨[.agg [(2:Int),Bl ⟨#[]⟩,false],(0:Int)],[[b,e]]⟩) (A9 (call 176 [.pbox [b,e],Bl ⟨#[110,117,108,108]⟩]) fun a b=>Gv a fun a=>Ad b fun b c=>Ad b fun b e=>Bd b fun b=>Cg .i64 e fun e=>Ak c<|Aw a (some ⟨[.agg [(1:Int),Bl ⟨#[]⟩,false],(0:Int)],[[b,e]]⟩) (A9 (call 198 [.pbox [b,e]]) fun a b=>Gv a fun a=>Ad b fun b c=>Ad b fun b e=>Bd b fun b=>Cg .i64 e fun e=>Ak c<|Aw a (some ⟨[.agg [(3:Int),Bl ⟨#[]⟩,false],(0:Int)],[[b,e]]⟩) (some ⟨[.agg [(0:Int),Bl ⟨#[]⟩,false],(2:Int)],[[b,e]]⟩)))))))))) (Ac (CP p) prog fu d):=by kernel_rfl
end
theorem A3s:∀n:Fin 256,decide (Lib.indexByte [32,9,10,13] (n.val:Int).toNat.toUInt8>=0)=FO (n.val:Int):=by decide +kernel
theorem A86{c:Int}(h0:0<=c)(h1:c<=255):decide (Lib.indexByte [32,9,10,13] c.toNat.toUInt8>=0)=FO c:=by obtain⟨n,rfl⟩:=Int.eq_ofNat_of_zero_le h0;exact A3s ⟨n,by omega⟩
theorem Cp{t:ByteArray}:∀{l:Al},Eh t l->Eh t (Bz l)
 |[],h=>h
 |c::l,h=>by
  unfold Bz;split
  ·exact Cp h.tail
  ·exact h
theorem BX:∀(l:Al),(Bz l).length<=l.length
 |[]=>Ci _
 |c::l=>by
  unfold Bz;split
  ·exact Nat.le_succ_of_le (BX l)
  ·exact Ci _
section
variable {fu d:Nat}
theorem Bbq(s:ByteArray)(c:Int):Ac C0 prog fu (d+2) 175 [Bl s,.sc (.int .u8 c)]=some ⟨[Ar (Lib.indexByte s.data.toList c.toNat.toUInt8)],[]⟩:=by have e:Ac C0 prog fu (d+1) 190 [Bl s,.sc (.int .u8 c)]=some ⟨[Ar (Lib.indexByte s.data.toList c.toNat.toUInt8)],[]⟩:=rfl;rw[Qy];simp only[Be,Bf,e]
theorem XP{t s0:ByteArray}{p0:Int}(ht:t.size<=1000000):∀(r:Al)(nn:Nat),r.length+1<=nn->Eh t r ->
  Ef fu (Ac C0 prog fu (d+2)) s0 p0 nn t (Cn t r:Int)=some ⟨[],[Cy t (Bz r)]⟩
 |[],nn,Gc,h=>by
  obtain⟨k,rfl⟩:∃k,nn=k+1:=⟨nn-1,by omega⟩
  have e:decide ((Cn t []:Int)<(t.size:Int))=false:=by simp[JB]
  rw[G2];simp only[Be,Bf,e];rfl
 |c::r,nn,Gc,h=>by
  obtain⟨k,rfl⟩:∃k,nn=k+1:=⟨nn-1,by omega⟩
  have ih:=XP (s0:=s0) (p0:=p0) ht r k (by simp at Gc;omega) h.tail
  have hc:=h.B c (by simp);have hl:=h.len;have hp:=R0 h
  have e6:wrap .i64 ((Cn t (c::r):Int)+1)=(Cn t r:Int):=by
   rw[hp,wrap_i64 (by unfold Cn;omega) (by unfold Cn;omega)];omega
  have Xl:Cn t (c::r)<t.size:=by
   unfold Cn;rw[Tm] at hl ⊢;omega
  obtain⟨b,hb,rfl⟩:=h.at;have e:decide ((Cn t ((b.toNat:Int)::r):Int)<(t.size:Int))=true:=by simp;omega
  have e2:decide ((0:Int)<=(Cn t ((b.toNat:Int)::r):Int))=true:=by simp
  rw[<-Jd (Cn t ((b.toNat:Int)::r))] at hb;have ix:Ac C0 prog fu (d+2) 175 [Bl ⟨#[32,9,10,13]⟩,.sc (.int .u8 (b.toNat:Int))]=some ⟨[Ar (Lib.indexByte [32,9,10,13] (b.toNat:Int).toNat.toUInt8)],[]⟩:=Bbq _ _;have hw:=A86 hc.1 hc.2;rw[G2];cases hq:FO (b.toNat:Int)
  ·rw[hq] at hw
   have es:Bz ((b.toNat:Int)::r)=(b.toNat:Int)::r:=by
    show (if FO _=true then _ else _)=_;rw[hq];rfl
   rw[es];simp only[Be,Bf,e,e2,hb,ix,hw]
  ·rw[hq] at hw
   have es:Bz ((b.toNat:Int)::r)=Bz r:=by
    show (if FO _=true then _ else _)=_;rw[hq];rfl
   rw[es];simp only[Be,Bf,e,e2,hb,ix,hw,e6,ih]
theorem X9{t:ByteArray}{r:Al}(h:Eh t r)(ht:t.size<=1000000)(B2:t.size+1<=fu):Ac C0 prog fu (d+3) 154 [.pbox (Cy t r)]=some ⟨[],[Cy t (Bz r)]⟩:=by rw[Pw];exact XP ht r fu (by have:=h.len;omega) h
theorem Aai{t:ByteArray}:∀{l:Al},Eh t l->Eh t (Pk l)
 |[],h=>h
 |c::l,h=>by
  unfold Pk;split
  ·exact Aai h.tail
  ·exact h
theorem Aas:∀(l:Al),(Pk l).length<=l.length
 |[]=>Ci _
 |c::l=>by
  unfold Pk;split
  ·exact Nat.le_succ_of_le (Aas l)
  ·exact Ci _
theorem Aal{t s0:ByteArray}{p0 y0:Int}(ht:t.size<=1000000):∀(r:Al)(nn:Nat),r.length+1<=nn->Eh t r ->
  Ea fu (Ac C0 prog fu (d+1)) s0 p0 nn y0 t (Cn t r:Int)=some ⟨[De (decide ((Cn t (Pk r):Int)>y0))],[Cy t (Pk r)]⟩
 |[],nn,Gc,h=>by
  obtain⟨k,rfl⟩:∃k,nn=k+1:=⟨nn-1,by omega⟩
  have pk:Ac C0 prog fu (d+1) 196 [.pbox (Cy t [])]=some ⟨[.sc (.int .u8 0)],[Cy t []]⟩:=Sk (xs:=xs0) h;have e:decide ((0:Int)>=48)=false:=rfl;rw[Gp];simp only[Be,Bf,pk,e];rfl
 |c::r,nn,Gc,h=>by
  obtain⟨k,rfl⟩:∃k,nn=k+1:=⟨nn-1,by omega⟩
  have ih:=Aal (s0:=s0) (p0:=p0) (y0:=y0) ht r k (by simp at Gc;omega) h.tail
  have hc:=h.B c (by simp);have hl:=h.len;have hp:=R0 h
  have e6:wrap .i64 ((Cn t (c::r):Int)+1)=(Cn t r:Int):=by
   rw[hp,wrap_i64 (by unfold Cn;omega) (by unfold Cn;omega)];omega
  have pk:Ac C0 prog fu (d+1) 196 [.pbox (Cy t (c::r))]=some ⟨[.sc (.int .u8 c)],[Cy t (c::r)]⟩:=Sk (xs:=xs0) h;have ed:Pk (c::r)=if dgS c=true then Pk r else c::r:=rfl
  rw[Gp,ed];by_cases h1:48<=c
  ·have e1:decide (c>=48)=true:=by simp;omega
   by_cases h2:c<=57
   ·have e2:decide (c<=57)=true:=by simp;omega
    have e3:dgS c=true:=by simp[dgS];omega
    rw[Cr e3];simp only[Be,Bf,pk,e1,e2,e6,ih]
   ·have e2:decide (c<=57)=false:=by simp;omega
    have e3:¬dgS c=true:=by simp[dgS];omega
    rw[B3 e3];simp only[Be,Bf,pk,e1,e2]
  ·have e1:decide (c>=48)=false:=by simp;omega
   have e3:¬dgS c=true:=by simp[dgS];omega
   rw[B3 e3];simp only[Be,Bf,pk,e1]
def Bag(t:ByteArray)(r:Al)(o:Option Al):Bv:=⟨[De (o.isSome)],[Cy t (o.getD r)]⟩
theorem E1{t:ByteArray}{r:Al}(h:Eh t r)(ht:t.size<=1000000)(B2:t.size+1<=fu):Ac C0 prog fu (d+2) 211 [.pbox (Cy t r)]=some (Bag t r (Dm r)):=by
 rw[Oi];refine (Aal ht r fu (by have:=h.len;omega) h).trans ?_
 cases r with
 |nil=>
  have e:decide ((Cn t (Pk []):Int)>(Cn t []:Int))=false:=by simp[Pk]
  rw[e];rfl
 |cons c r=>
  have hl:=h.len;have hp:=R0 h;have ed:Pk (c::r)=if dgS c=true then Pk r else c::r:=rfl
  have eg:Dm (c::r)=if dgS c=true then some (Pk r) else none:=rfl
  rw[ed,eg];have hd:=Aas r;by_cases q:dgS c=true
  ·rw[Cr q,Cr q]
   have e:decide ((Cn t (Pk r):Int)>(Cn t (c::r):Int))=true:=by
    rw[Tm] at hl;simp only[gt_iff_lt,GF];unfold Cn;rw[Tm];omega
   rw[e];rfl
  ·rw[B3 q,B3 q];have e:decide ((Cn t (c::r):Int)>(Cn t (c::r):Int))=false:=by simp
   rw[e];rfl
theorem Aic{t:ByteArray}{r:Al}(c:UInt8)(h:Eh t r)(ht:t.size<=1000000):Ac C0 prog fu (d+3) 176 [.pbox (Cy t r),Bl (ByteArray.mk #[c])]=some (Bag t r (A7 [(c.toNat:Int)] r)):=by
 have hc:=c.toNat_lt;have e:=Z6 (fu:=fu) (d:=d) (xs:=xs0) h ht (w:=[(c.toNat:Int)]) (fun x hx=>by simp at hx;omega) (show 1<=100 by decide)
 have e2:Ab [(c.toNat:Int)]=ByteArray.mk #[c]:=by
  show ByteArray.mk #[((c.toNat:Int)).toNat.toUInt8]=_;rw[Jd];simp
 rw[e2] at e;refine e.trans ?_;cases A7 [(c.toNat:Int)] r<;>rfl
theorem Fw(c:Int):∀r:Al,A7 [c] r=match r with|[]=>none|x::r'=>if x=c then some r' else none
 |[]=>rfl
 |x::r=>by
  unfold A7;by_cases h:x=c
  ·subst h;rw[Cr (by simp[List.isPrefixOf])];simp
  ·rw[B3 (by simp[List.isPrefixOf];exact fun e=>h e.symm)]
   simp[h]
theorem Bb{t:ByteArray}{w r r':Al}(h:Eh t r)(e:A7 w r=some r'):Eh t r':=by
 unfold A7 at e;split at e
 ·cases e;exact h.drop _
 ·cases e
theorem MD(c:Int)(r:Al):Aq7 c r=(A7 [c] r).getD r:=by
 rw[Fw];cases r with
 |nil=>rfl
 |cons x r=>
  show (if x=c then r else x::r)=_;split<;>simp_all
theorem ZH(r:Al):Awh r=match A7 [48] r with|some q=>some q|none=>Dm r:=by
 rw[Fw];cases r with
 |nil=>rfl
 |cons x r=>
  show (if x=48 then some r else Dm (x::r))=_;by_cases h:x=48
  ·rw[Cr h];simp[h]
  ·rw[B3 h];simp[h]
theorem HA(r:Al):SC r=match A7 [46] r with|some q=>(Dm q).bind FZ|none=>FZ r:=by
 rw[Fw];cases r with
 |nil=>rfl
 |cons x r=>
  show (if x=46 then (Dm r).bind FZ else FZ (x::r))=_;by_cases h:x=46
  ·rw[Cr h];simp[h]
  ·rw[B3 h];simp[h]
def Sm(r:Al):Option Al:=match A7 [43] r with|some q=>Dm q|none=>Dm ((A7 [45] r).getD r)
theorem Aya(r:Al):(match r with|43::r'=>Dm r'|r=>Dm (Aq7 45 r))=Sm r:=by
 unfold Sm;rw[Fw 43,<-MD];split
 ·simp
 ·rename_i Gh;cases r with
  |nil=>rfl
  |cons x r=>
   by_cases h:x=43
   ·exact absurd (by rw[h]) (Gh r)
   ·simp[h]
theorem Vy(r:Al):FZ r=match A7 [101] r with|some q=>Sm q|none=>match A7 [69] r with|some q=>Sm q|none=>some r:=by
 rw[Fw,Fw];cases r with
 |nil=>rfl
 |cons x r=>
  have e:FZ (x::r)=if x=101\/x=69 then Sm r else some (x::r):=by
   rw[<-Aya];rfl
  rw[e];by_cases h:x=101
  ·rw[Cr (Or.inl h)];simp[h]
  ·by_cases h2:x=69
   ·rw[Cr (Or.inr h2)];simp[h2]
   ·rw[B3 (by omega)];simp[h,h2]
theorem Ec{t:ByteArray}{r r':Al}(h:Eh t r)(e:Dm r=some r'):Eh t r':=by
 cases r with
 |nil=>cases e
 |cons c r=>
  have eg:Dm (c::r)=if dgS c=true then some (Pk r) else none:=rfl
  rw[eg] at e;split at e
  ·cases e;exact Aai h.tail
  ·cases e
theorem Dp{t:ByteArray}{r:Al}{o:Option Al}(h:Eh t r)(ho:∀q,o=some q->Eh t q):Eh t (o.getD r):=by
 cases o with
 |none=>exact h
 |some q=>exact ho q rfl
end
section
variable {fu d:Nat}
theorem Fs{t:ByteArray}{r:Al}(c:UInt8)(n:Int)(hn:(c.toNat:Int)=n)(h:Eh t r)(ht:t.size<=1000000)(hq:A7 [n] r=none):Ac C0 prog fu (d+3) 176 [.pbox (Cy t r),Bl (ByteArray.mk #[c])]=some ⟨[De false],[Cy t r]⟩:=by subst hn;have e:=Aic (fu:=fu) (d:=d) c h ht;rw[hq] at e;exact e
theorem Eb{t:ByteArray}{r q:Al}(c:UInt8)(n:Int)(hn:(c.toNat:Int)=n)(h:Eh t r)(ht:t.size<=1000000)(hq:A7 [n] r=some q):Ac C0 prog fu (d+3) 176 [.pbox (Cy t r),Bl (ByteArray.mk #[c])]=some ⟨[De true],[Cy t q]⟩:=by subst hn;have e:=Aic (fu:=fu) (d:=d) c h ht;rw[hq] at e;exact e
theorem Rt{t:ByteArray}{r:Al}(c:UInt8)(n:Int)(hn:(c.toNat:Int)=n)(h:Eh t r)(ht:t.size<=1000000):Ac C0 prog fu (d+3) 176 [.pbox (Cy t r),Bl (ByteArray.mk #[c])]=some ⟨[De ((A7 [n] r).isSome)],[Cy t ((A7 [n] r).getD r)]⟩:=by subst hn;exact Aic (fu:=fu) (d:=d) c h ht
set_option maxHeartbeats 2000000 in
theorem Auj{t:ByteArray}{r:Al}(h:Eh t r)(ht:t.size<=1000000)(B2:t.size+1<=fu):∃r',Eh t r'/\Ac C0 prog fu (d+4) 198 [.pbox (Cy t r)]=some ⟨[De ((H5 r).isSome)],[Cy t r']⟩/\∀q,H5 r=some q->r'=q:=by
 have a0:=Rt (fu:=fu) (d:=d) 45 45 rfl h ht;have WE:Eh t ((A7 [45] r).getD r):=Dp h fun q e=>Bb h e;have LH:H5 r=(Awh ((A7 [45] r).getD r)).bind SC:=by rw[<-MD];rfl
 generalize (A7 [45] r).getD r=r1 at a0 WE LH;generalize (A7 [45] r).isSome=b0 at a0;rw[ZH] at LH;rcases hz:A7 [48] r1 with _|r2
 ·have Mb:=Fs (fu:=fu) (d:=d) 48 48 rfl WE ht hz;rw[hz] at LH;have hz1:=E1 (d:=d+1) WE ht B2;rcases hzd:Dm r1 with _|r2
  ·simp only[hzd] at hz1 LH;have Yq:Ac C0 prog fu (d+3) 211 [.pbox (Cy t r1)]=some ⟨[De false],[Cy t r1]⟩:=hz1;have hn:H5 r=none:=LH;refine⟨r1,WE,?_,?_⟩
   ·rw[hn,Aj]
    repeat(with_reducible(first|apply Bj|apply Ay|apply Bi|apply Ba|apply Bm|apply Az|apply Bh|apply Hg);· first|constructor|(simp(disch:=omega)only[He,a0,Mb,Yq,Fl,Gw]<;>first|constructor|omega)|omega)
    try simp(disch:=omega)only[Aa,a0,Mb,Yq,Fl,Gw]
    try rfl
   ·rw[hn];intro q e;cases e
  ·simp only[hzd] at hz1 LH;have Yq:Ac C0 prog fu (d+3) 211 [.pbox (Cy t r1)]=some ⟨[De true],[Cy t r2]⟩:=hz1;have CH:=Ec WE hzd;have WQ:H5 r=SC r2:=LH;rw[HA] at WQ;rcases hdt:A7 [46] r2 with _|r3
   ·have Qm:=Fs (fu:=fu) (d:=d) 46 46 rfl CH ht hdt;rw[hdt] at WQ;have S3:H5 r=FZ r2:=WQ;rw[Vy] at S3;rcases he:A7 [101] r2 with _|r5
    ·have Sv:=Fs (fu:=fu) (d:=d) 101 101 rfl CH ht he;rw[he] at S3;rcases hE:A7 [69] r2 with _|r5
     ·have HC:=Fs (fu:=fu) (d:=d) 69 69 rfl CH ht hE;have hn:H5 r=some r2:=by rw[S3,hE]
      refine⟨r2,CH,?_,?_⟩
      ·rw[hn,Aj]
       repeat(with_reducible(first|apply Bj|apply Ay|apply Bi|apply Ba|apply Bm|apply Az|apply Bh|apply Hg);· first|constructor|(simp(disch:=omega)only[He,a0,Mb,Yq,Qm,Sv,HC,Fl,Gw]<;>first|constructor|omega)|omega)
       try simp(disch:=omega)only[Aa,a0,Mb,Yq,Qm,Sv,HC,Fl,Gw]
       try rfl
      ·rw[hn];intro q e;cases e;rfl
     ·have HC:=Eb (fu:=fu) (d:=d) 69 69 rfl CH ht hE;have Na:=Bb CH hE;rw[hE] at S3;simp only at S3;rcases hp:A7 [43] r5 with _|r6
      ·have P7:=Fs (fu:=fu) (d:=d) 43 43 rfl Na ht hp;have Dr:=Rt (fu:=fu) (d:=d) 45 45 rfl Na ht;have It:Eh t ((A7 [45] r5).getD r5):=Dp Na fun q e=>Bb Na e;have hn:H5 r=Dm ((A7 [45] r5).getD r5):=by rw[S3];unfold Sm;rw[hp]
       generalize (A7 [45] r5).getD r5=r6 at Dr It hn;generalize (A7 [45] r5).isSome=b1 at Dr;have hg:Ac C0 prog fu (d+3) 211 [.pbox (Cy t r6)]=some ⟨[De ((Dm r6).isSome)],[Cy t ((Dm r6).getD r6)]⟩:=E1 (d:=d+1) It ht B2;refine⟨(Dm r6).getD r6,Dp It fun q e=>Ec It e,?_,?_⟩
       ·rw[hn,Aj]
        repeat(with_reducible(first|apply Bj|apply Ay|apply Bi|apply Ba|apply Bm|apply Az|apply Bh|apply Hg);· first|constructor|(simp(disch:=omega)only[He,a0,Mb,Yq,Qm,Sv,HC,P7,Dr,hg,Fl,Gw]<;>first|constructor|omega)|omega)
        try simp(disch:=omega)only[Aa,a0,Mb,Yq,Qm,Sv,HC,P7,Dr,hg,Fl,Gw]
        try rfl
       ·rw[hn];intro q e;rw[e];rfl
      ·have P7:=Eb (fu:=fu) (d:=d) 43 43 rfl Na ht hp;have It:=Bb Na hp;have hn:H5 r=Dm r6:=by rw[S3];unfold Sm;rw[hp]
       have hg:Ac C0 prog fu (d+3) 211 [.pbox (Cy t r6)]=some ⟨[De ((Dm r6).isSome)],[Cy t ((Dm r6).getD r6)]⟩:=E1 (d:=d+1) It ht B2;refine⟨(Dm r6).getD r6,Dp It fun q e=>Ec It e,?_,?_⟩
       ·rw[hn,Aj]
        repeat(with_reducible(first|apply Bj|apply Ay|apply Bi|apply Ba|apply Bm|apply Az|apply Bh|apply Hg);· first|constructor|(simp(disch:=omega)only[He,a0,Mb,Yq,Qm,Sv,HC,P7,hg,Fl,Gw]<;>first|constructor|omega)|omega)
        try simp(disch:=omega)only[Aa,a0,Mb,Yq,Qm,Sv,HC,P7,hg,Fl,Gw]
        try rfl
       ·rw[hn];intro q e;rw[e];rfl
    ·have Sv:=Eb (fu:=fu) (d:=d) 101 101 rfl CH ht he;have Na:=Bb CH he;rw[he] at S3;simp only at S3;rcases hp:A7 [43] r5 with _|r6
     ·have P7:=Fs (fu:=fu) (d:=d) 43 43 rfl Na ht hp;have Dr:=Rt (fu:=fu) (d:=d) 45 45 rfl Na ht;have It:Eh t ((A7 [45] r5).getD r5):=Dp Na fun q e=>Bb Na e;have hn:H5 r=Dm ((A7 [45] r5).getD r5):=by rw[S3];unfold Sm;rw[hp]
      generalize (A7 [45] r5).getD r5=r6 at Dr It hn;generalize (A7 [45] r5).isSome=b1 at Dr;have hg:Ac C0 prog fu (d+3) 211 [.pbox (Cy t r6)]=some ⟨[De ((Dm r6).isSome)],[Cy t ((Dm r6).getD r6)]⟩:=E1 (d:=d+1) It ht B2;refine⟨(Dm r6).getD r6,Dp It fun q e=>Ec It e,?_,?_⟩
      ·rw[hn,Aj]
       repeat(with_reducible(first|apply Bj|apply Ay|apply Bi|apply Ba|apply Bm|apply Az|apply Bh|apply Hg);· first|constructor|(simp(disch:=omega)only[He,a0,Mb,Yq,Qm,Sv,P7,Dr,hg,Fl,Gw]<;>first|constructor|omega)|omega)
       try simp(disch:=omega)only[Aa,a0,Mb,Yq,Qm,Sv,P7,Dr,hg,Fl,Gw]
       try rfl
      ·rw[hn];intro q e;rw[e];rfl
     ·have P7:=Eb (fu:=fu) (d:=d) 43 43 rfl Na ht hp;have It:=Bb Na hp;have hn:H5 r=Dm r6:=by rw[S3];unfold Sm;rw[hp]
      have hg:Ac C0 prog fu (d+3) 211 [.pbox (Cy t r6)]=some ⟨[De ((Dm r6).isSome)],[Cy t ((Dm r6).getD r6)]⟩:=E1 (d:=d+1) It ht B2;refine⟨(Dm r6).getD r6,Dp It fun q e=>Ec It e,?_,?_⟩
      ·rw[hn,Aj]
       repeat(with_reducible(first|apply Bj|apply Ay|apply Bi|apply Ba|apply Bm|apply Az|apply Bh|apply Hg);· first|constructor|(simp(disch:=omega)only[He,a0,Mb,Yq,Qm,Sv,P7,hg,Fl,Gw]<;>first|constructor|omega)|omega)
       try simp(disch:=omega)only[Aa,a0,Mb,Yq,Qm,Sv,P7,hg,Fl,Gw]
       try rfl
      ·rw[hn];intro q e;rw[e];rfl
   ·have Qm:=Eb (fu:=fu) (d:=d) 46 46 rfl CH ht hdt;have hS3:=Bb CH hdt;rw[hdt] at WQ;have WQ:H5 r=(Dm r3).bind FZ:=WQ;have hd1:=E1 (d:=d+1) hS3 ht B2;rcases YT:Dm r3 with _|r4
    ·rw[YT] at hd1 WQ;have Ua:Ac C0 prog fu (d+3) 211 [.pbox (Cy t r3)]=some ⟨[De false],[Cy t r3]⟩:=hd1;have hn:H5 r=none:=WQ;refine⟨r3,hS3,?_,?_⟩
     ·rw[hn,Aj]
      repeat(with_reducible(first|apply Bj|apply Ay|apply Bi|apply Ba|apply Bm|apply Az|apply Bh|apply Hg);· first|constructor|(simp(disch:=omega)only[He,a0,Mb,Yq,Qm,Ua,Fl,Gw]<;>first|constructor|omega)|omega)
      try simp(disch:=omega)only[Aa,a0,Mb,Yq,Qm,Ua,Fl,Gw]
      try rfl
     ·rw[hn];intro q e;cases e
    ·rw[YT] at hd1 WQ;have Ua:Ac C0 prog fu (d+3) 211 [.pbox (Cy t r3)]=some ⟨[De true],[Cy t r4]⟩:=hd1;have QV:=Ec hS3 YT;have S3:H5 r=FZ r4:=WQ;rw[Vy] at S3;rcases he:A7 [101] r4 with _|r5
     ·have Sv:=Fs (fu:=fu) (d:=d) 101 101 rfl QV ht he;rw[he] at S3;rcases hE:A7 [69] r4 with _|r5
      ·have HC:=Fs (fu:=fu) (d:=d) 69 69 rfl QV ht hE;have hn:H5 r=some r4:=by rw[S3,hE]
       refine⟨r4,QV,?_,?_⟩
       ·rw[hn,Aj]
        repeat(with_reducible(first|apply Bj|apply Ay|apply Bi|apply Ba|apply Bm|apply Az|apply Bh|apply Hg);· first|constructor|(simp(disch:=omega)only[He,a0,Mb,Yq,Qm,Ua,Sv,HC,Fl,Gw]<;>first|constructor|omega)|omega)
        try simp(disch:=omega)only[Aa,a0,Mb,Yq,Qm,Ua,Sv,HC,Fl,Gw]
        try rfl
       ·rw[hn];intro q e;cases e;rfl
      ·have HC:=Eb (fu:=fu) (d:=d) 69 69 rfl QV ht hE;have Na:=Bb QV hE;rw[hE] at S3;simp only at S3;rcases hp:A7 [43] r5 with _|r6
       ·have P7:=Fs (fu:=fu) (d:=d) 43 43 rfl Na ht hp;have Dr:=Rt (fu:=fu) (d:=d) 45 45 rfl Na ht;have It:Eh t ((A7 [45] r5).getD r5):=Dp Na fun q e=>Bb Na e;have hn:H5 r=Dm ((A7 [45] r5).getD r5):=by rw[S3];unfold Sm;rw[hp]
        generalize (A7 [45] r5).getD r5=r6 at Dr It hn;generalize (A7 [45] r5).isSome=b1 at Dr;have hg:Ac C0 prog fu (d+3) 211 [.pbox (Cy t r6)]=some ⟨[De ((Dm r6).isSome)],[Cy t ((Dm r6).getD r6)]⟩:=E1 (d:=d+1) It ht B2;refine⟨(Dm r6).getD r6,Dp It fun q e=>Ec It e,?_,?_⟩
        ·rw[hn,Aj]
         repeat(with_reducible(first|apply Bj|apply Ay|apply Bi|apply Ba|apply Bm|apply Az|apply Bh|apply Hg);· first|constructor|(simp(disch:=omega)only[He,a0,Mb,Yq,Qm,Ua,Sv,HC,P7,Dr,hg,Fl,Gw]<;>first|constructor|omega)|omega)
         try simp(disch:=omega)only[Aa,a0,Mb,Yq,Qm,Ua,Sv,HC,P7,Dr,hg,Fl,Gw]
         try rfl
        ·rw[hn];intro q e;rw[e];rfl
       ·have P7:=Eb (fu:=fu) (d:=d) 43 43 rfl Na ht hp;have It:=Bb Na hp;have hn:H5 r=Dm r6:=by rw[S3];unfold Sm;rw[hp]
        have hg:Ac C0 prog fu (d+3) 211 [.pbox (Cy t r6)]=some ⟨[De ((Dm r6).isSome)],[Cy t ((Dm r6).getD r6)]⟩:=E1 (d:=d+1) It ht B2;refine⟨(Dm r6).getD r6,Dp It fun q e=>Ec It e,?_,?_⟩
        ·rw[hn,Aj]
         repeat(with_reducible(first|apply Bj|apply Ay|apply Bi|apply Ba|apply Bm|apply Az|apply Bh|apply Hg);· first|constructor|(simp(disch:=omega)only[He,a0,Mb,Yq,Qm,Ua,Sv,HC,P7,hg,Fl,Gw]<;>first|constructor|omega)|omega)
         try simp(disch:=omega)only[Aa,a0,Mb,Yq,Qm,Ua,Sv,HC,P7,hg,Fl,Gw]
         try rfl
        ·rw[hn];intro q e;rw[e];rfl
     ·have Sv:=Eb (fu:=fu) (d:=d) 101 101 rfl QV ht he;have Na:=Bb QV he;rw[he] at S3;simp only at S3;rcases hp:A7 [43] r5 with _|r6
      ·have P7:=Fs (fu:=fu) (d:=d) 43 43 rfl Na ht hp;have Dr:=Rt (fu:=fu) (d:=d) 45 45 rfl Na ht;have It:Eh t ((A7 [45] r5).getD r5):=Dp Na fun q e=>Bb Na e;have hn:H5 r=Dm ((A7 [45] r5).getD r5):=by rw[S3];unfold Sm;rw[hp]
       generalize (A7 [45] r5).getD r5=r6 at Dr It hn;generalize (A7 [45] r5).isSome=b1 at Dr;have hg:Ac C0 prog fu (d+3) 211 [.pbox (Cy t r6)]=some ⟨[De ((Dm r6).isSome)],[Cy t ((Dm r6).getD r6)]⟩:=E1 (d:=d+1) It ht B2;refine⟨(Dm r6).getD r6,Dp It fun q e=>Ec It e,?_,?_⟩
       ·rw[hn,Aj]
        repeat(with_reducible(first|apply Bj|apply Ay|apply Bi|apply Ba|apply Bm|apply Az|apply Bh|apply Hg);· first|constructor|(simp(disch:=omega)only[He,a0,Mb,Yq,Qm,Ua,Sv,P7,Dr,hg,Fl,Gw]<;>first|constructor|omega)|omega)
        try simp(disch:=omega)only[Aa,a0,Mb,Yq,Qm,Ua,Sv,P7,Dr,hg,Fl,Gw]
        try rfl
       ·rw[hn];intro q e;rw[e];rfl
      ·have P7:=Eb (fu:=fu) (d:=d) 43 43 rfl Na ht hp;have It:=Bb Na hp;have hn:H5 r=Dm r6:=by rw[S3];unfold Sm;rw[hp]
       have hg:Ac C0 prog fu (d+3) 211 [.pbox (Cy t r6)]=some ⟨[De ((Dm r6).isSome)],[Cy t ((Dm r6).getD r6)]⟩:=E1 (d:=d+1) It ht B2;refine⟨(Dm r6).getD r6,Dp It fun q e=>Ec It e,?_,?_⟩
       ·rw[hn,Aj]
        repeat(with_reducible(first|apply Bj|apply Ay|apply Bi|apply Ba|apply Bm|apply Az|apply Bh|apply Hg);· first|constructor|(simp(disch:=omega)only[He,a0,Mb,Yq,Qm,Ua,Sv,P7,hg,Fl,Gw]<;>first|constructor|omega)|omega)
        try simp(disch:=omega)only[Aa,a0,Mb,Yq,Qm,Ua,Sv,P7,hg,Fl,Gw]
        try rfl
       ·rw[hn];intro q e;rw[e];rfl
 ·have Mb:=Eb (fu:=fu) (d:=d) 48 48 rfl WE ht hz;rw[hz] at LH;have CH:=Bb WE hz;have WQ:H5 r=SC r2:=LH;rw[HA] at WQ;rcases hdt:A7 [46] r2 with _|r3
  ·have Qm:=Fs (fu:=fu) (d:=d) 46 46 rfl CH ht hdt;rw[hdt] at WQ;have S3:H5 r=FZ r2:=WQ;rw[Vy] at S3;rcases he:A7 [101] r2 with _|r5
   ·have Sv:=Fs (fu:=fu) (d:=d) 101 101 rfl CH ht he;rw[he] at S3;rcases hE:A7 [69] r2 with _|r5
    ·have HC:=Fs (fu:=fu) (d:=d) 69 69 rfl CH ht hE;have hn:H5 r=some r2:=by rw[S3,hE]
     refine⟨r2,CH,?_,?_⟩
     ·rw[hn,Aj]
      repeat(with_reducible(first|apply Bj|apply Ay|apply Bi|apply Ba|apply Bm|apply Az|apply Bh|apply Hg);· first|constructor|(simp(disch:=omega)only[He,a0,Mb,Qm,Sv,HC,Fl,Gw]<;>first|constructor|omega)|omega)
      try simp(disch:=omega)only[Aa,a0,Mb,Qm,Sv,HC,Fl,Gw]
      try rfl
     ·rw[hn];intro q e;cases e;rfl
    ·have HC:=Eb (fu:=fu) (d:=d) 69 69 rfl CH ht hE;have Na:=Bb CH hE;rw[hE] at S3;simp only at S3;rcases hp:A7 [43] r5 with _|r6
     ·have P7:=Fs (fu:=fu) (d:=d) 43 43 rfl Na ht hp;have Dr:=Rt (fu:=fu) (d:=d) 45 45 rfl Na ht;have It:Eh t ((A7 [45] r5).getD r5):=Dp Na fun q e=>Bb Na e;have hn:H5 r=Dm ((A7 [45] r5).getD r5):=by rw[S3];unfold Sm;rw[hp]
      generalize (A7 [45] r5).getD r5=r6 at Dr It hn;generalize (A7 [45] r5).isSome=b1 at Dr;have hg:Ac C0 prog fu (d+3) 211 [.pbox (Cy t r6)]=some ⟨[De ((Dm r6).isSome)],[Cy t ((Dm r6).getD r6)]⟩:=E1 (d:=d+1) It ht B2;refine⟨(Dm r6).getD r6,Dp It fun q e=>Ec It e,?_,?_⟩
      ·rw[hn,Aj]
       repeat(with_reducible(first|apply Bj|apply Ay|apply Bi|apply Ba|apply Bm|apply Az|apply Bh|apply Hg);· first|constructor|(simp(disch:=omega)only[He,a0,Mb,Qm,Sv,HC,P7,Dr,hg,Fl,Gw]<;>first|constructor|omega)|omega)
       try simp(disch:=omega)only[Aa,a0,Mb,Qm,Sv,HC,P7,Dr,hg,Fl,Gw]
       try rfl
      ·rw[hn];intro q e;rw[e];rfl
     ·have P7:=Eb (fu:=fu) (d:=d) 43 43 rfl Na ht hp;have It:=Bb Na hp;have hn:H5 r=Dm r6:=by rw[S3];unfold Sm;rw[hp]
      have hg:Ac C0 prog fu (d+3) 211 [.pbox (Cy t r6)]=some ⟨[De ((Dm r6).isSome)],[Cy t ((Dm r6).getD r6)]⟩:=E1 (d:=d+1) It ht B2;refine⟨(Dm r6).getD r6,Dp It fun q e=>Ec It e,?_,?_⟩
      ·rw[hn,Aj]
       repeat(with_reducible(first|apply Bj|apply Ay|apply Bi|apply Ba|apply Bm|apply Az|apply Bh|apply Hg);· first|constructor|(simp(disch:=omega)only[He,a0,Mb,Qm,Sv,HC,P7,hg,Fl,Gw]<;>first|constructor|omega)|omega)
       try simp(disch:=omega)only[Aa,a0,Mb,Qm,Sv,HC,P7,hg,Fl,Gw]
       try rfl
      ·rw[hn];intro q e;rw[e];rfl
   ·have Sv:=Eb (fu:=fu) (d:=d) 101 101 rfl CH ht he;have Na:=Bb CH he;rw[he] at S3;simp only at S3;rcases hp:A7 [43] r5 with _|r6
    ·have P7:=Fs (fu:=fu) (d:=d) 43 43 rfl Na ht hp;have Dr:=Rt (fu:=fu) (d:=d) 45 45 rfl Na ht;have It:Eh t ((A7 [45] r5).getD r5):=Dp Na fun q e=>Bb Na e;have hn:H5 r=Dm ((A7 [45] r5).getD r5):=by rw[S3];unfold Sm;rw[hp]
     generalize (A7 [45] r5).getD r5=r6 at Dr It hn;generalize (A7 [45] r5).isSome=b1 at Dr;have hg:Ac C0 prog fu (d+3) 211 [.pbox (Cy t r6)]=some ⟨[De ((Dm r6).isSome)],[Cy t ((Dm r6).getD r6)]⟩:=E1 (d:=d+1) It ht B2;refine⟨(Dm r6).getD r6,Dp It fun q e=>Ec It e,?_,?_⟩
     ·rw[hn,Aj]
      repeat(with_reducible(first|apply Bj|apply Ay|apply Bi|apply Ba|apply Bm|apply Az|apply Bh|apply Hg);· first|constructor|(simp(disch:=omega)only[He,a0,Mb,Qm,Sv,P7,Dr,hg,Fl,Gw]<;>first|constructor|omega)|omega)
      try simp(disch:=omega)only[Aa,a0,Mb,Qm,Sv,P7,Dr,hg,Fl,Gw]
      try rfl
     ·rw[hn];intro q e;rw[e];rfl
    ·have P7:=Eb (fu:=fu) (d:=d) 43 43 rfl Na ht hp;have It:=Bb Na hp;have hn:H5 r=Dm r6:=by rw[S3];unfold Sm;rw[hp]
     have hg:Ac C0 prog fu (d+3) 211 [.pbox (Cy t r6)]=some ⟨[De ((Dm r6).isSome)],[Cy t ((Dm r6).getD r6)]⟩:=E1 (d:=d+1) It ht B2;refine⟨(Dm r6).getD r6,Dp It fun q e=>Ec It e,?_,?_⟩
     ·rw[hn,Aj]
      repeat(with_reducible(first|apply Bj|apply Ay|apply Bi|apply Ba|apply Bm|apply Az|apply Bh|apply Hg);· first|constructor|(simp(disch:=omega)only[He,a0,Mb,Qm,Sv,P7,hg,Fl,Gw]<;>first|constructor|omega)|omega)
      try simp(disch:=omega)only[Aa,a0,Mb,Qm,Sv,P7,hg,Fl,Gw]
      try rfl
     ·rw[hn];intro q e;rw[e];rfl
  ·have Qm:=Eb (fu:=fu) (d:=d) 46 46 rfl CH ht hdt;have hS3:=Bb CH hdt;rw[hdt] at WQ;have WQ:H5 r=(Dm r3).bind FZ:=WQ;have hd1:=E1 (d:=d+1) hS3 ht B2;rcases YT:Dm r3 with _|r4
   ·rw[YT] at hd1 WQ;have Ua:Ac C0 prog fu (d+3) 211 [.pbox (Cy t r3)]=some ⟨[De false],[Cy t r3]⟩:=hd1;have hn:H5 r=none:=WQ;refine⟨r3,hS3,?_,?_⟩
    ·rw[hn,Aj]
     repeat(with_reducible(first|apply Bj|apply Ay|apply Bi|apply Ba|apply Bm|apply Az|apply Bh|apply Hg);· first|constructor|(simp(disch:=omega)only[He,a0,Mb,Qm,Ua,Fl,Gw]<;>first|constructor|omega)|omega)
     try simp(disch:=omega)only[Aa,a0,Mb,Qm,Ua,Fl,Gw]
     try rfl
    ·rw[hn];intro q e;cases e
   ·rw[YT] at hd1 WQ;have Ua:Ac C0 prog fu (d+3) 211 [.pbox (Cy t r3)]=some ⟨[De true],[Cy t r4]⟩:=hd1;have QV:=Ec hS3 YT;have S3:H5 r=FZ r4:=WQ;rw[Vy] at S3;rcases he:A7 [101] r4 with _|r5
    ·have Sv:=Fs (fu:=fu) (d:=d) 101 101 rfl QV ht he;rw[he] at S3;rcases hE:A7 [69] r4 with _|r5
     ·have HC:=Fs (fu:=fu) (d:=d) 69 69 rfl QV ht hE;have hn:H5 r=some r4:=by rw[S3,hE]
      refine⟨r4,QV,?_,?_⟩
      ·rw[hn,Aj]
       repeat(with_reducible(first|apply Bj|apply Ay|apply Bi|apply Ba|apply Bm|apply Az|apply Bh|apply Hg);· first|constructor|(simp(disch:=omega)only[He,a0,Mb,Qm,Ua,Sv,HC,Fl,Gw]<;>first|constructor|omega)|omega)
       try simp(disch:=omega)only[Aa,a0,Mb,Qm,Ua,Sv,HC,Fl,Gw]
       try rfl
      ·rw[hn];intro q e;cases e;rfl
     ·have HC:=Eb (fu:=fu) (d:=d) 69 69 rfl QV ht hE;have Na:=Bb QV hE;rw[hE] at S3;simp only at S3;rcases hp:A7 [43] r5 with _|r6
      ·have P7:=Fs (fu:=fu) (d:=d) 43 43 rfl Na ht hp;have Dr:=Rt (fu:=fu) (d:=d) 45 45 rfl Na ht;have It:Eh t ((A7 [45] r5).getD r5):=Dp Na fun q e=>Bb Na e;have hn:H5 r=Dm ((A7 [45] r5).getD r5):=by rw[S3];unfold Sm;rw[hp]
       generalize (A7 [45] r5).getD r5=r6 at Dr It hn;generalize (A7 [45] r5).isSome=b1 at Dr;have hg:Ac C0 prog fu (d+3) 211 [.pbox (Cy t r6)]=some ⟨[De ((Dm r6).isSome)],[Cy t ((Dm r6).getD r6)]⟩:=E1 (d:=d+1) It ht B2;refine⟨(Dm r6).getD r6,Dp It fun q e=>Ec It e,?_,?_⟩
       ·rw[hn,Aj]
        repeat(with_reducible(first|apply Bj|apply Ay|apply Bi|apply Ba|apply Bm|apply Az|apply Bh|apply Hg);· first|constructor|(simp(disch:=omega)only[He,a0,Mb,Qm,Ua,Sv,HC,P7,Dr,hg,Fl,Gw]<;>first|constructor|omega)|omega)
        try simp(disch:=omega)only[Aa,a0,Mb,Qm,Ua,Sv,HC,P7,Dr,hg,Fl,Gw]
        try rfl
       ·rw[hn];intro q e;rw[e];rfl
      ·have P7:=Eb (fu:=fu) (d:=d) 43 43 rfl Na ht hp;have It:=Bb Na hp;have hn:H5 r=Dm r6:=by rw[S3];unfold Sm;rw[hp]
       have hg:Ac C0 prog fu (d+3) 211 [.pbox (Cy t r6)]=some ⟨[De ((Dm r6).isSome)],[Cy t ((Dm r6).getD r6)]⟩:=E1 (d:=d+1) It ht B2;refine⟨(Dm r6).getD r6,Dp It fun q e=>Ec It e,?_,?_⟩
       ·rw[hn,Aj]
        repeat(with_reducible(first|apply Bj|apply Ay|apply Bi|apply Ba|apply Bm|apply Az|apply Bh|apply Hg);· first|constructor|(simp(disch:=omega)only[He,a0,Mb,Qm,Ua,Sv,HC,P7,hg,Fl,Gw]<;>first|constructor|omega)|omega)
        try simp(disch:=omega)only[Aa,a0,Mb,Qm,Ua,Sv,HC,P7,hg,Fl,Gw]
        try rfl
       ·rw[hn];intro q e;rw[e];rfl
    ·have Sv:=Eb (fu:=fu) (d:=d) 101 101 rfl QV ht he;have Na:=Bb QV he;rw[he] at S3;simp only at S3;rcases hp:A7 [43] r5 with _|r6
     ·have P7:=Fs (fu:=fu) (d:=d) 43 43 rfl Na ht hp;have Dr:=Rt (fu:=fu) (d:=d) 45 45 rfl Na ht;have It:Eh t ((A7 [45] r5).getD r5):=Dp Na fun q e=>Bb Na e;have hn:H5 r=Dm ((A7 [45] r5).getD r5):=by rw[S3];unfold Sm;rw[hp]
      generalize (A7 [45] r5).getD r5=r6 at Dr It hn;generalize (A7 [45] r5).isSome=b1 at Dr;have hg:Ac C0 prog fu (d+3) 211 [.pbox (Cy t r6)]=some ⟨[De ((Dm r6).isSome)],[Cy t ((Dm r6).getD r6)]⟩:=E1 (d:=d+1) It ht B2;refine⟨(Dm r6).getD r6,Dp It fun q e=>Ec It e,?_,?_⟩
      ·rw[hn,Aj]
       repeat(with_reducible(first|apply Bj|apply Ay|apply Bi|apply Ba|apply Bm|apply Az|apply Bh|apply Hg);· first|constructor|(simp(disch:=omega)only[He,a0,Mb,Qm,Ua,Sv,P7,Dr,hg,Fl,Gw]<;>first|constructor|omega)|omega)
       try simp(disch:=omega)only[Aa,a0,Mb,Qm,Ua,Sv,P7,Dr,hg,Fl,Gw]
       try rfl
      ·rw[hn];intro q e;rw[e];rfl
     ·have P7:=Eb (fu:=fu) (d:=d) 43 43 rfl Na ht hp;have It:=Bb Na hp;have hn:H5 r=Dm r6:=by rw[S3];unfold Sm;rw[hp]
      have hg:Ac C0 prog fu (d+3) 211 [.pbox (Cy t r6)]=some ⟨[De ((Dm r6).isSome)],[Cy t ((Dm r6).getD r6)]⟩:=E1 (d:=d+1) It ht B2;refine⟨(Dm r6).getD r6,Dp It fun q e=>Ec It e,?_,?_⟩
      ·rw[hn,Aj]
       repeat(with_reducible(first|apply Bj|apply Ay|apply Bi|apply Ba|apply Bm|apply Az|apply Bh|apply Hg);· first|constructor|(simp(disch:=omega)only[He,a0,Mb,Qm,Ua,Sv,P7,hg,Fl,Gw]<;>first|constructor|omega)|omega)
       try simp(disch:=omega)only[Aa,a0,Mb,Qm,Ua,Sv,P7,hg,Fl,Gw]
       try rfl
      ·rw[hn];intro q e;rw[e];rfl
end
theorem Eh.trans{t:ByteArray}{r q:Al}(h:Eh t r)(k:Eh (Ab r) q):Eh t q:=by obtain⟨pre,k⟩:=k;rw[C7 h.B] at k;rw[k] at h;exact h.app
theorem Eh.self{l:Al}(h:Cz l):Eh (Ab l) l:=⟨[],by rw[C7 h];rfl⟩
theorem Eh.le{l q:Al}(h:Eh (Ab l) q):q.length<=l.length:=by
 have:=h.len
 rwa [Ai] at this
def Aj0(t:ByteArray)(l:Al)(x:JR (JV × Al))(res:Bv):Prop:=
 match x with
 |.ok (v,q)=>Eh (Ab l) q/\res=⟨[.agg [Ar v.1,Bl (Ab v.2.1),De (v.2.2)],Ar 0],[Cy t q]⟩
 |.error e=>e≠0/\∃c1 c2 c3 q,Eh t q/\res=⟨[.agg [Ar c1,Bl c2,De c3],Ar e],[Cy t q]⟩
def A7t(t:ByteArray)(l:Al)(x:JR Al)(res:Bv):Prop:=
 match x with
 |.ok q=>Eh (Ab l) q/\res=⟨[Ar 0],[Cy t q]⟩
 |.error e=>e≠0/\∃q,Eh t q/\res=⟨[Ar e],[Cy t q]⟩
theorem Aup{α:Type}(a b:Int)(Vj:a≠b)(A B:Al->α)(C:α)(x:Al):
  (match A7 [a] x with|some r=>A r|none=>match A7 [b] x with|some r=>B r|none=>C)=(match x with|[]=>C|y::r=>if y=a then A r else if y=b then B r else C):=by
 rw[Fw,Fw];cases x with
 |nil=>rfl
 |cons y r=>
  by_cases h:y=a
  ·simp[h]
  ·by_cases h2:y=b
   ·subst h2;simp[h]
   ·simp[h,h2]
theorem Asx(V:Al->JR (JV × Al))(n:Nat)(l:Al):Ac0 V (n+1) l=match V l with
  |.error e=>.error e
  |.ok (_,r)=>match A7 [93] (Bz r) with
   |some r'=>.ok r'
   |none=>match A7 [44] (Bz r) with
    |some r'=>Ac0 V n (Bz r')
    |none=>.error 2:=by
 show (match V l with | .error e=>_ | .ok (_,r)=>_)=_;cases V l with
 |error e=>rfl
 |ok x=>
  obtain⟨v,r⟩:=x;simp only;rw[Aup 93 44 (by decide) (fun r'=>Except.ok r') (fun r'=>Ac0 V n (Bz r')) (Except.error 2)];cases Bz r with
  |nil=>rfl
  |cons y r=>
   by_cases h:y=93
   ·subst h;rfl
   ·by_cases h2:y=44
    ·subst h2;rfl
    ·simp only[B3 h,B3 h2];split
     ·rename_i e;injection e with e1 _;exact absurd e1 h
     ·rename_i e;injection e with e1 _;exact absurd e1 h2
     ·rfl
section
variable {fu d:Nat}
theorem Au4{t s0:ByteArray}{p0 D0 D:Int}(ht:t.size<=1000000)(B2:t.size+1<=fu)(V:Al->JR (JV × Al))(HV:∀r,Eh t r->∃res,Ac C0 prog fu (d+3) 178 [.pbox (Cy t r),Ar D]=some res/\Aj0 t r (V r) res):∀(n nn:Nat)(l:Al),l.length+1<=n->l.length+1<=nn->Eh t l ->
  ∃res,Eg fu (Ac C0 prog fu (d+3)) s0 p0 D0 nn D t (Cn t l:Int)=some res/\A7t t l (Ac0 V n l) res:=by
 intro n
 induction n with
 |zero=>intro nn l h1;omega
 |succ n ih=>
  intro nn l hn Gc h;obtain⟨k,rfl⟩:∃k,nn=k+1:=⟨nn-1,by omega⟩
  obtain⟨rv,ev,hv⟩:=HV l h;rw[Asx,My];cases hV:V l with
  |error e=>
   rw[hV] at hv;obtain⟨he,c1,c2,c3,q,hq,rfl⟩:=hv;have hb:(e != (0:Int))=true:=by simp[he]
   refine⟨⟨[Ar e],[Cy t q]⟩,?_,he,q,hq,rfl⟩
   repeat(with_reducible(first|apply Bj|apply Ay|apply Bi|apply Ba|apply Bm|apply Kl|apply Az|apply Bh|apply Hg);· first|constructor|(simp(disch:=omega)only[He,ev,hb]<;>first|constructor|omega)|omega)
   try simp(disch:=omega)only[Aa,ev,hb]
  |ok x=>
   obtain⟨v,q⟩:=x;rw[hV] at hv;obtain⟨hq,rfl⟩:=hv;have hqt:=h.trans hq;have hs:=X9 (fu:=fu) (d:=d) hqt ht B2;have HK:Ac C0 prog fu (d+3) 154 [.pbox (Cy t q)]=some ⟨[],[Cy t (Bz q)]⟩:=hs;have hqs:=Cp hqt;have Bcg:=Cp hq;have hb:((0:Int) != (0:Int))=false:=rfl;simp only;cases h1:A7 [93] (Bz q) with
   |some r'=>
    have a1:=Eb (fu:=fu) (d:=d) 93 93 rfl hqs ht h1;refine⟨⟨[Ar 0],[Cy t r']⟩,?_,Bb Bcg h1,rfl⟩
    repeat(with_reducible(first|apply Bj|apply Ay|apply Bi|apply Ba|apply Bm|apply Kl|apply Az|apply Bh|apply Hg);· first|constructor|(simp(disch:=omega)only[He,ev,hb,HK,a1]<;>first|constructor|omega)|omega)
    try simp(disch:=omega)only[Aa,ev,hb,HK,a1]
   |none=>
    have a1:=Fs (fu:=fu) (d:=d) 93 93 rfl hqs ht h1;cases h2:A7 [44] (Bz q) with
    |none=>
     have a2:=Fs (fu:=fu) (d:=d) 44 44 rfl hqs ht h2;refine⟨⟨[Ar 2],[Cy t (Bz q)]⟩,?_,by decide,Bz q,hqs,rfl⟩
     repeat(with_reducible(first|apply Bj|apply Ay|apply Bi|apply Ba|apply Bm|apply Kl|apply Az|apply Bh|apply Hg);· first|constructor|(simp(disch:=omega)only[He,ev,hb,HK,a1,a2,Gw]<;>first|constructor|omega)|omega)
     try simp(disch:=omega)only[Aa,ev,hb,HK,a1,a2,Gw]
    |some r'=>
     have a2:=Eb (fu:=fu) (d:=d) 44 44 rfl hqs ht h2;have hr:=Bb hqs h2;have hr2:=Bb Bcg h2;have hs3:Ac C0 prog fu (d+3) 154 [.pbox (Cy t r')]=some ⟨[],[Cy t (Bz r')]⟩:=X9 (fu:=fu) (d:=d) hr ht B2
     have hlr:(Bz r').length+1<=l.length:=by
      have e1:=hq.le;have e2:=BX q;have e3:=BX r'
      have e4:r'.length+1<=(Bz q).length:=by
       rw[Fw] at h2
       revert h2
       cases Bz q with
       |nil=>intro h2;cases h2
       |cons y s=>
        intro h2;simp only at h2;split at h2
        ·cases h2;simp
        ·cases h2
      omega
     obtain⟨res,e5,h5⟩:=ih k (Bz r') (by omega) (by omega) (Cp hr);refine⟨res,?_,?_⟩
     ·skip
      repeat(with_reducible(first|apply Bj|apply Ay|apply Bi|apply Ba|apply Bm|apply Kl|apply Az|apply Bh|apply Hg);· first|constructor|(simp(disch:=omega)only[He,ev,hb,HK,a1,a2,hs3,Fl]<;>first|constructor|omega)|omega)
      try simp(disch:=omega)only[Aa,ev,hb,HK,a1,a2,hs3,Fl]
      exact e5
     ·simp only;have hup:Eh (Ab l) (Bz r'):=Cp hr2
      revert h5
      cases Ac0 V n (Bz r') with
      |error e=>exact id
      |ok q2=>exact fun h5=>⟨hup.trans h5.1,h5.2⟩
end
theorem Afs{c:Int}{x r:Al}(h:A7 [c] x=some r):r.length+1<=x.length:=by
 rw[Fw] at h
 revert h
 cases x with
 |nil=>intro h;cases h
 |cons y s=>
  intro h;simp only at h;split at h
  ·cases h;simp
  ·cases h
theorem LE(V:Al->JR (JV × Al))(kp:Bool)(n:Nat)(ms:List (Al × JV))(l:Al):Zv V kp (n+1) ms l=match Gk l with
  |(none,_)=>.error 2
  |(some nm,r)=>if (kp&&ms.any fun m=>m.1==nm)=true then .error 10 else match A7 [58] (Bz r) with
   |none=>.error 2
   |some r1=>match V (Bz r1) with
    |.error e=>.error e
    |.ok (v,r2)=>match A7 [125] (Bz r2) with
     |some r3=>.ok (ms++[(nm,v)],r3)
     |none=>match A7 [44] (Bz r2) with
      |some r3=>Zv V kp n (ms++[(nm,v)]) (Bz r3)
      |none=>.error 2:=by
 show (match A2s V (fun nm=>kp&&ms.any fun m=>m.1==nm) l with | .error e=>_ | .ok (m,r)=>_)=_;unfold A2s HX;rcases Gk l with⟨o,r⟩;cases o with
 |none=>rfl
 |some nm=>
  simp only;by_cases hd:(kp&&ms.any fun m=>m.1==nm)=true
  rotate_left
  ·simp only[B3 hd];rw[Fw];cases Bz r with
   |nil=>rfl
   |cons y s=>
    by_cases h:y=58
    ·subst h;simp only[if_true];cases V (Bz s) with
     |error e=>rfl
     |ok x=>
      obtain⟨v,r2⟩:=x;simp only;rw[Fw,Fw];cases Bz r2 with
      |nil=>rfl
      |cons y s=>
       by_cases h:y=125
       ·subst h;simp
       ·by_cases h2:y=44
        ·subst h2;simp
        ·simp only[B3 h,B3 h2];split
         ·rename_i e;injection e with e1 _;exact absurd e1 h
         ·rename_i e;injection e with e1 _;exact absurd e1 h2
         ·rfl
    ·simp only[B3 h];split
     ·rename_i e;split at e
      ·rename_i e2;injection e2 with e1 _;exact absurd e1 h
      ·cases e;rfl
     ·rename_i e;split at e
      ·rename_i e2;injection e2 with e1 _;exact absurd e1 h
      ·cases e
  ·simp only[Cr hd]
def A7v{α:Type}(t:ByteArray)(l:Al)(x:JR (α × Al))(res:Bv):Prop:=
 match x with
 |.ok (_,q)=>Eh (Ab l) q/\res=⟨[Ar 0],[Cy t q]⟩
 |.error e=>e≠0/\∃q,Eh t q/\res=⟨[Ar e],[Cy t q]⟩
section
variable {fu d:Nat}
theorem A1m{t:ByteArray}{r:Al}(h:Eh t r)(ht:t.size<=1000000):Ac C0 prog fu (d+1) 177 [.pbox (Cy t r)]=some ⟨[Bl (Ab ((Gk r).1.getD [])),De ((Gk r).1.isSome)],[Cy t (Gk r).2]⟩:=by
 have e0:Ac C0 prog fu (d+1) 177 [.pbox (Cy t r)]=Atx [.pbox (Cy t r)]:=rfl;have hl:=h.len
 have e1:(decide ((0:Int)<=(Cn t r:Int))&&decide ((Cn t r:Int)<=t.size)&&Nat.ble t.size 1000000)=true:=by
  simp only[Fc,GF,Nat.ble_eq];unfold Cn;omega
 have e2:(Cs t).drop (Cn t r:Int).toNat=r:=by rw[Jd];exact h.eq.symm
 have hq:=(J4 h).len;rw[e0];unfold Atx;simp only[e1,cond_true,e2];rcases hx:Gk r with⟨o,q⟩;rw[hx] at hq;have e3:(t.size:Int)-q.length=(Cn t q:Int):=by unfold Cn;simp only at hq;omega
 cases o with
 |none=>simp only[e3];rfl
 |some s=>simp only[e3];rfl
theorem Bbk{t:ByteArray}{D:Int}(ht:t.size<=1000000)(B2:t.size+1<=fu)(V:Al->JR (JV × Al))(HV:∀r,Eh t r->∃res,Ac C0 prog fu (d+3) 178 [.pbox (Cy t r),Ar D]=some res/\Aj0 t r (V r) res){l:Al}(h:Eh t (91::l)):
  ∃res,Ac C0 prog fu (d+4) 197 [.pbox (Cy t (91::l)),Ar D]=some res/\A7t t l (Aoo V l) res:=by
 have a0:=Eb (fu:=fu) (d:=d) (q:=l) 91 91 rfl h ht (by rw[Fw];rfl)
 have hs:Ac C0 prog fu (d+3) 154 [.pbox (Cy t l)]=some ⟨[],[Cy t (Bz l)]⟩:=X9 (fu:=fu) (d:=d) h.tail ht B2;have hS:=Cp h.tail;have CH:=Cp (Eh.self h.tail.B)
 have eA:Aoo V l=match A7 [93] (Bz l) with|some r=>.ok r|none=>Ac0 V ((Bz l).length+1) (Bz l):=by
  unfold Aoo;rw[Fw];cases Bz l with
  |nil=>rfl
  |cons y s=>
   by_cases hy:y=93
   ·subst hy;rfl
   ·simp only[B3 hy];split
    ·rename_i e;injection e with e1 _;exact absurd e1 hy
    ·rfl
 have er:=Pq (p:=none) fu (d+3) t (Cn t (91::l):Int) D;rw[eA];cases h1:A7 [93] (Bz l) with
 |some r=>
  have a1:=Eb (fu:=fu) (d:=d) 93 93 rfl hS ht h1;refine⟨⟨[Ar 0],[Cy t r]⟩,er.trans ?_,Bb CH h1,rfl⟩
  repeat(with_reducible(first|apply Bj|apply Ay|apply Bi|apply Ba|apply Bm|apply Az|apply Bh|apply Hg);· first|constructor|(simp(disch:=omega)only[He,a0,hs,a1,Fl]<;>first|constructor|omega)|omega)
  try simp(disch:=omega)only[Aa,a0,hs,a1,Fl]
 |none=>
  have a1:=Fs (fu:=fu) (d:=d) 93 93 rfl hS ht h1;obtain⟨res,e5,h5⟩:=Au4 (fu:=fu) (d:=d) (s0:=t) (p0:=(Cn t (91::l):Int)) (D0:=D) ht B2 V HV ((Bz l).length+1) fu (Bz l) (Ci _) (by have:=hS.len;omega) hS
  refine⟨res,er.trans ?_,?_⟩
  ·skip
   repeat(with_reducible(first|apply Bj|apply Ay|apply Bi|apply Ba|apply Bm|apply Az|apply Bh|apply Hg);· first|constructor|(simp(disch:=omega)only[He,a0,hs,a1,Fl]<;>first|constructor|omega)|omega)
   try simp(disch:=omega)only[Aa,a0,hs,a1,Fl]
   exact e5
  ·simp only
   revert h5
   cases Ac0 V ((Bz l).length+1) (Bz l) with
   |error e=>exact id
   |ok q2=>exact fun h5=>⟨CH.trans h5.1,h5.2⟩
end
section
variable {fu d:Nat}
theorem Aty{t s0:ByteArray}{p0 D0 D:Int}(ht:t.size<=1000000)(B2:t.size+1<=fu)(V:Al->JR (JV × Al))(HV:∀r,Eh t r->∃res,Ac C0 prog fu (d+3) 178 [.pbox (Cy t r),Ar D]=some res/\Aj0 t r (V r) res):∀(n nn:Nat)(ms:List (Al × JV)) (l:Al),l.length+1<=n->l.length+1<=nn->Eh t l ->
  ∃res,D9 fu (Ac C0 prog fu (d+3)) s0 p0 D0 nn D t (Cn t l:Int)=some res/\A7v t l (Zv V false n ms l) res:=by
 intro n
 induction n with
 |zero=>intro nn ms l h1;omega
 |succ n ih=>
  intro nn ms l hn Gc h;obtain⟨k,rfl⟩:∃k,nn=k+1:=⟨nn-1,by omega⟩
  have er:Ac C0 prog fu (d+3) 177 [.pbox (Cy t l)]=_:=A1m (d:=d+2) h ht;have hts:=J4 h;have Aa6:=J4 (Eh.self h.B);rw[LE,L8];rcases hx:Gk l with⟨o,q⟩;rw[hx] at er hts Aa6;cases o with
  |none=>
   have er2:Ac C0 prog fu (d+3) 177 [.pbox (Cy t l)]=some ⟨[Bl (Ab []),De false],[Cy t q]⟩:=er;refine⟨⟨[Ar 2],[Cy t q]⟩,?_,by decide,q,hts,rfl⟩
   repeat(with_reducible(first|apply Bj|apply Ay|apply Bi|apply Ba|apply Bm|apply Kl|apply Az|apply Bh|apply Hg);· first|constructor|(simp(disch:=omega)only[He,er2,Gw]<;>first|constructor|omega)|omega)
   try simp(disch:=omega)only[Aa,er2,Gw]
  |some nm=>
   have er2:Ac C0 prog fu (d+3) 177 [.pbox (Cy t l)]=some ⟨[Bl (Ab nm),De true],[Cy t q]⟩:=er;simp only at hts Aa6;have HK:Ac C0 prog fu (d+3) 154 [.pbox (Cy t q)]=some ⟨[],[Cy t (Bz q)]⟩:=X9 (fu:=fu) (d:=d) hts ht B2;have FX:=Cp hts;have Nl:=Cp Aa6;simp only[UR,Bool.false_eq_true,if_false];cases h1:A7 [58] (Bz q) with
   |none=>
    have a1:=Fs (fu:=fu) (d:=d) 58 58 rfl FX ht h1;refine⟨⟨[Ar 2],[Cy t (Bz q)]⟩,?_,by decide,Bz q,FX,rfl⟩
    repeat(with_reducible(first|apply Bj|apply Ay|apply Bi|apply Ba|apply Bm|apply Kl|apply Az|apply Bh|apply Hg);· first|constructor|(simp(disch:=omega)only[He,er2,HK,a1,Fl,Gw]<;>first|constructor|omega)|omega)
    try simp(disch:=omega)only[Aa,er2,HK,a1,Fl,Gw]
   |some r1=>
    have a1:=Eb (fu:=fu) (d:=d) 58 58 rfl FX ht h1;have VU:=Bb FX h1;have hr2:=Bb Nl h1;have hs3:Ac C0 prog fu (d+3) 154 [.pbox (Cy t r1)]=some ⟨[],[Cy t (Bz r1)]⟩:=X9 (fu:=fu) (d:=d) VU ht B2;have hv1:=Cp VU;have hv2:=Cp hr2;obtain⟨rv,ev,hv⟩:=HV (Bz r1) hv1;simp only;cases hV:V (Bz r1) with
    |error e=>
     rw[hV] at hv;obtain⟨he,c1,c2,c3,q3,hq3,rfl⟩:=hv;have hb:(e != (0:Int))=true:=by simp[he]
     refine⟨⟨[Ar e],[Cy t q3]⟩,?_,he,q3,hq3,rfl⟩
     repeat(with_reducible(first|apply Bj|apply Ay|apply Bi|apply Ba|apply Bm|apply Kl|apply Az|apply Bh|apply Hg);· first|constructor|(simp(disch:=omega)only[He,er2,HK,a1,hs3,ev,hb,Fl]<;>first|constructor|omega)|omega)
     try simp(disch:=omega)only[Aa,er2,HK,a1,hs3,ev,hb,Fl]
    |ok x=>
     obtain⟨v,r2⟩:=x;rw[hV] at hv;obtain⟨hq3,rfl⟩:=hv;have hb:((0:Int) != (0:Int))=false:=rfl;have hw1:=hv1.trans hq3;have hw2:=hv2.trans hq3;have hs4:Ac C0 prog fu (d+3) 154 [.pbox (Cy t r2)]=some ⟨[],[Cy t (Bz r2)]⟩:=X9 (fu:=fu) (d:=d) hw1 ht B2;have hz1:=Cp hw1;have Yq:=Cp hw2;simp only;cases h2:A7 [125] (Bz r2) with
     |some r3=>
      have a2:=Eb (fu:=fu) (d:=d) 125 125 rfl hz1 ht h2;refine⟨⟨[Ar 0],[Cy t r3]⟩,?_,Bb Yq h2,rfl⟩
      repeat(with_reducible(first|apply Bj|apply Ay|apply Bi|apply Ba|apply Bm|apply Kl|apply Az|apply Bh|apply Hg);· first|constructor|(simp(disch:=omega)only[He,er2,HK,a1,hs3,ev,hb,hs4,a2,Fl]<;>first|constructor|omega)|omega)
      try simp(disch:=omega)only[Aa,er2,HK,a1,hs3,ev,hb,hs4,a2,Fl]
     |none=>
      have a2:=Fs (fu:=fu) (d:=d) 125 125 rfl hz1 ht h2;cases h3:A7 [44] (Bz r2) with
      |none=>
       have a3:=Fs (fu:=fu) (d:=d) 44 44 rfl hz1 ht h3;refine⟨⟨[Ar 2],[Cy t (Bz r2)]⟩,?_,by decide,Bz r2,hz1,rfl⟩
       repeat(with_reducible(first|apply Bj|apply Ay|apply Bi|apply Ba|apply Bm|apply Kl|apply Az|apply Bh|apply Hg);· first|constructor|(simp(disch:=omega)only[He,er2,HK,a1,hs3,ev,hb,hs4,a2,a3,Fl,Gw]<;>first|constructor|omega)|omega)
       try simp(disch:=omega)only[Aa,er2,HK,a1,hs3,ev,hb,hs4,a2,a3,Fl,Gw]
      |some r3=>
       have a3:=Eb (fu:=fu) (d:=d) 44 44 rfl hz1 ht h3;have hy1:=Bb hz1 h3;have hy2:=Bb Yq h3;have MZ:Ac C0 prog fu (d+3) 154 [.pbox (Cy t r3)]=some ⟨[],[Cy t (Bz r3)]⟩:=X9 (fu:=fu) (d:=d) hy1 ht B2
       have hlr:(Bz r3).length+1<=l.length:=by
        have e1:=Yq.le;have e2:=BX r3;have e3:=Afs h3;omega
       obtain⟨res,e5,h5⟩:=ih k (ms++[(nm,v)]) (Bz r3) (by omega) (by omega) (Cp hy1);refine⟨res,?_,?_⟩
       ·skip
        repeat(with_reducible(first|apply Bj|apply Ay|apply Bi|apply Ba|apply Bm|apply Kl|apply Az|apply Bh|apply Hg);· first|constructor|(simp(disch:=omega)only[He,er2,HK,a1,hs3,ev,hb,hs4,a2,a3,MZ,Fl]<;>first|constructor|omega)|omega)
        try simp(disch:=omega)only[Aa,er2,HK,a1,hs3,ev,hb,hs4,a2,a3,MZ,Fl]
        exact e5
       ·simp only;have hup:Eh (Ab l) (Bz r3):=Cp hy2
        revert h5
        cases Zv V false n (ms++[(nm,v)]) (Bz r3) with
        |error e=>exact id
        |ok q2=>exact fun h5=>⟨hup.trans h5.1,h5.2⟩
theorem A8y{t:ByteArray}{D:Int}(ht:t.size<=1000000)(B2:t.size+1<=fu)(V:Al->JR (JV × Al))(HV:∀r,Eh t r->∃res,Ac C0 prog fu (d+3) 178 [.pbox (Cy t r),Ar D]=some res/\Aj0 t r (V r) res){l:Al}(h:Eh t (123::l)):
  ∃res,Ac C0 prog fu (d+4) 155 [.pbox (Cy t (123::l)),Ar D,.sc (.map none)]=some res/\A7v t l (KJ V false l) res:=by
 have a0:=Eb (fu:=fu) (d:=d) (q:=l) 123 123 rfl h ht (by rw[Fw];rfl)
 have hs:Ac C0 prog fu (d+3) 154 [.pbox (Cy t l)]=some ⟨[],[Cy t (Bz l)]⟩:=X9 (fu:=fu) (d:=d) h.tail ht B2;have hS:=Cp h.tail;have CH:=Cp (Eh.self h.tail.B)
 have eA:KJ V false l=match A7 [125] (Bz l) with|some r=>.ok ([],r)|none=>Zv V false ((Bz l).length+1) [] (Bz l):=by
  unfold KJ;rw[Fw];cases Bz l with
  |nil=>rfl
  |cons y s=>
   by_cases hy:y=125
   ·subst hy;rfl
   ·simp only[B3 hy];split
    ·rename_i e;injection e with e1 _;exact absurd e1 hy
    ·rfl
 have er:=N5 (p:=none) fu (d+3) t (Cn t (123::l):Int) D;rw[eA];cases h1:A7 [125] (Bz l) with
 |some r=>
  have a1:=Eb (fu:=fu) (d:=d) 125 125 rfl hS ht h1;refine⟨⟨[Ar 0],[Cy t r]⟩,er.trans ?_,Bb CH h1,rfl⟩
  repeat(with_reducible(first|apply Bj|apply Ay|apply Bi|apply Ba|apply Bm|apply Kl|apply Az|apply Bh|apply Hg);· first|constructor|(simp(disch:=omega)only[He,a0,hs,a1,Fl]<;>first|constructor|omega)|omega)
  try simp(disch:=omega)only[Aa,a0,hs,a1,Fl]
 |none=>
  have a1:=Fs (fu:=fu) (d:=d) 125 125 rfl hS ht h1;obtain⟨res,e5,h5⟩:=Aty (fu:=fu) (d:=d) (s0:=t) (p0:=(Cn t (123::l):Int)) (D0:=D) ht B2 V HV ((Bz l).length+1) fu [] (Bz l) (Ci _) (by have:=hS.len;omega) hS
  refine⟨res,er.trans ?_,?_⟩
  ·skip
   repeat(with_reducible(first|apply Bj|apply Ay|apply Bi|apply Ba|apply Bm|apply Kl|apply Az|apply Bh|apply Hg);· first|constructor|(simp(disch:=omega)only[He,a0,hs,a1,Fl]<;>first|constructor|omega)|omega)
   try simp(disch:=omega)only[Aa,a0,hs,a1,Fl]
   exact e5
  ·simp only
   revert h5
   cases Zv V false ((Bz l).length+1) [] (Bz l) with
   |error e=>exact id
   |ok q2=>exact fun h5=>⟨CH.trans h5.1,h5.2⟩
end
def A5z(l:Al):JR (JV × Al):=
 match A7 [116,114,117,101] l with
 |some r=>.ok ((2,[],true),r)
 |none=>match A7 [102,97,108,115,101] l with
  |some r=>.ok ((2,[],false),r)
  |none=>match A7 [110,117,108,108] l with
   |some r=>.ok ((1,[],false),r)
   |none=>match H5 l with
    |some r=>.ok ((3,[],false),r)
    |none=>.error 2
theorem ZQ(k:Nat){l:Al}(h1:hdS l≠123)(h2:hdS l≠91)(h3:hdS l≠34):Ha k l=A5z l:=by
 unfold Ha;split
 ·exact absurd rfl h1
 ·exact absurd rfl h2
 ·exact absurd rfl h3
 ·rfl
theorem Aso{l r:Al}(h:Cz l)(e:H5 l=some r):Eh (Ab l) r:=by
 have h0:=Eh.self h;have e0:H5 l=(Awh (Aq7 45 l)).bind SC:=rfl;rw[e0,MD,ZH] at e;have h1:Eh (Ab l) ((A7 [45] l).getD l):=Dp h0 fun q e=>Bb h0 e
 have hE:∀x q,Eh (Ab l) x->FZ x=some q->Eh (Ab l) q:=by
  have hT:∀x q,Eh (Ab l) x->Sm x=some q->Eh (Ab l) q:=by
   intro x q hx e;unfold Sm at e;split at e
   ·rename_i hw;exact Ec (Bb hx hw) e
   ·exact Ec (Dp hx fun q e=>Bb hx e) e
  intro x q hx e;rw[Vy] at e;split at e
  ·rename_i hw;exact hT _ _ (Bb hx hw) e
  ·split at e
   ·rename_i hw;exact hT _ _ (Bb hx hw) e
   ·cases e;exact hx
 have hF:∀x q,Eh (Ab l) x->SC x=some q->Eh (Ab l) q:=by
  intro x q hx e;rw[HA] at e;split at e
  ·rename_i hw;obtain⟨y,hy,e⟩:=Option.bind_eq_some_iff.1 e;exact hE _ _ (Ec (Bb hx hw) hy) e
  ·exact hE _ _ hx e
 obtain⟨y,hy,e⟩:=Option.bind_eq_some_iff.1 e;split at hy
 ·rename_i hw;cases hy;exact hF _ _ (Bb h1 hw) e
 ·exact hF _ _ (Ec h1 hy) e
section
variable {fu d:Nat}
theorem A2d{t:ByteArray}{r:Al}(w:Al)(lit:ByteArray)(hw:Ab w=lit)(hB:Cz w)(hl:w.length<=100)(h:Eh t r)(ht:t.size<=1000000):Ac C0 prog fu (d+3) 176 [.pbox (Cy t r),Bl lit]=some ⟨[De ((A7 w r).isSome)],[Cy t ((A7 w r).getD r)]⟩:=by subst hw;have e:=Z6 (fu:=fu) (d:=d) (xs:=xs0) h ht (w:=w) hB hl;refine e.trans ?_;cases A7 w r<;>rfl
theorem Avt{t:ByteArray}(ht:t.size<=1000000)(B2:t.size+1<=fu){D:Int}{l:Al}(h:Eh t l)(h1:hdS l≠123)(h2:hdS l≠91)(h3:hdS l≠34):∃res,Ac C0 prog fu (d+5) 178 [.pbox (Cy t l),Ar D]=some res/\Aj0 t l (A5z l) res:=by
 have er:=C8 (p:=none) fu (d+4) t (Cn t l:Int) D;have pk:Ac C0 prog fu (d+4) 196 [.pbox (Cy t l)]=some ⟨[.sc (.int .u8 (hdS l))],[Cy t l]⟩:=Sk (xs:=xs0) (d:=d+3) h;have b1:(hdS l==(123:Int))=false:=by simp[h1]
 have b2:(hdS l==(91:Int))=false:=by simp[h2]
 have b3:(hdS l==(34:Int))=false:=by simp[h3]
 have Aqx:=Eh.self h.B;have a1:=A2d (fu:=fu) (d:=d+1) [116,114,117,101] (ByteArray.mk #[116,114,117,101]) rfl (fun x hx=>by simp at hx;omega) (by decide) h ht
 have a2:=A2d (fu:=fu) (d:=d+1) [102,97,108,115,101] (ByteArray.mk #[102,97,108,115,101]) rfl (fun x hx=>by simp at hx;omega) (by decide) h ht
 have a3:=A2d (fu:=fu) (d:=d+1) [110,117,108,108] (ByteArray.mk #[110,117,108,108]) rfl (fun x hx=>by simp at hx;omega) (by decide) h ht
 obtain⟨rn,hrn,en,hn⟩:=Auj (fu:=fu) (d:=d) h ht B2;have en2:Ac C0 prog fu (d+4) 198 [.pbox (Cy t l)]=some ⟨[De ((H5 l).isSome)],[Cy t rn]⟩:=en;unfold A5z;cases q1:A7 [116,114,117,101] l with
 |some r=>
  rw[q1] at a1;have a1':Ac C0 prog fu (d+4) 176 [.pbox (Cy t l),Bl ⟨#[116,114,117,101]⟩]=some ⟨[De true],[Cy t r]⟩:=a1;refine⟨_,er.trans ?_,Bb Aqx q1,rfl⟩
  repeat(with_reducible(first|apply Bj|apply Ay|apply Bi|apply Ba|apply Bm|apply Az|apply Bh|apply Hg);· first|constructor|(simp(disch:=omega)only[He,pk,b1,b2,b3,a1']<;>first|constructor|omega)|omega)
  try simp(disch:=omega)only[Aa,pk,b1,b2,b3,a1']
  rfl
 |none=>
  rw[q1] at a1;have a1':Ac C0 prog fu (d+4) 176 [.pbox (Cy t l),Bl ⟨#[116,114,117,101]⟩]=some ⟨[De false],[Cy t l]⟩:=a1;cases q2:A7 [102,97,108,115,101] l with
  |some r=>
   rw[q2] at a2;have a2':Ac C0 prog fu (d+4) 176 [.pbox (Cy t l),Bl ⟨#[102,97,108,115,101]⟩]=some ⟨[De true],[Cy t r]⟩:=a2;refine⟨_,er.trans ?_,Bb Aqx q2,rfl⟩
   repeat(with_reducible(first|apply Bj|apply Ay|apply Bi|apply Ba|apply Bm|apply Az|apply Bh|apply Hg);· first|constructor|(simp(disch:=omega)only[He,pk,b1,b2,b3,a1',a2']<;>first|constructor|omega)|omega)
   try simp(disch:=omega)only[Aa,pk,b1,b2,b3,a1',a2']
   rfl
  |none=>
   rw[q2] at a2;have a2':Ac C0 prog fu (d+4) 176 [.pbox (Cy t l),Bl ⟨#[102,97,108,115,101]⟩]=some ⟨[De false],[Cy t l]⟩:=a2;cases q3:A7 [110,117,108,108] l with
   |some r=>
    rw[q3] at a3;have a3':Ac C0 prog fu (d+4) 176 [.pbox (Cy t l),Bl ⟨#[110,117,108,108]⟩]=some ⟨[De true],[Cy t r]⟩:=a3;refine⟨_,er.trans ?_,Bb Aqx q3,rfl⟩
    repeat(with_reducible(first|apply Bj|apply Ay|apply Bi|apply Ba|apply Bm|apply Az|apply Bh|apply Hg);· first|constructor|(simp(disch:=omega)only[He,pk,b1,b2,b3,a1',a2',a3']<;>first|constructor|omega)|omega)
    try simp(disch:=omega)only[Aa,pk,b1,b2,b3,a1',a2',a3']
    rfl
   |none=>
    rw[q3] at a3;have a3':Ac C0 prog fu (d+4) 176 [.pbox (Cy t l),Bl ⟨#[110,117,108,108]⟩]=some ⟨[De false],[Cy t l]⟩:=a3;cases q4:H5 l with
    |some r=>
     rw[q4] at en2;have:=hn r q4;subst this;have en3:Ac C0 prog fu (d+4) 198 [.pbox (Cy t l)]=some ⟨[De true],[Cy t rn]⟩:=en2;refine⟨_,er.trans ?_,Aso h.B q4,rfl⟩
     repeat(with_reducible(first|apply Bj|apply Ay|apply Bi|apply Ba|apply Bm|apply Az|apply Bh|apply Hg);· first|constructor|(simp(disch:=omega)only[He,pk,b1,b2,b3,a1',a2',a3',en3]<;>first|constructor|omega)|omega)
     try simp(disch:=omega)only[Aa,pk,b1,b2,b3,a1',a2',a3',en3]
     rfl
    |none=>
     rw[q4] at en2;have en3:Ac C0 prog fu (d+4) 198 [.pbox (Cy t l)]=some ⟨[De false],[Cy t rn]⟩:=en2;refine⟨_,er.trans ?_,by decide,0,⟨#[]⟩,false,rn,hrn,rfl⟩
     repeat(with_reducible(first|apply Bj|apply Ay|apply Bi|apply Ba|apply Bm|apply Az|apply Bh|apply Hg);· first|constructor|(simp(disch:=omega)only[He,pk,b1,b2,b3,a1',a2',a3',en3]<;>first|constructor|omega)|omega)
     try simp(disch:=omega)only[Aa,pk,b1,b2,b3,a1',a2',a3',en3]
theorem Azs(k:Nat)(r:Al):Ha k (34::r)=match Gk (34::r) with|(some s,q)=>.ok ((4,s,false),q)|(none,_)=>.error 2:=by
 have e:Ha k (34::r)=match HX (34::r) with|none=>.error 2|some (s,r')=>.ok ((4,s,false),r'):=by
  cases k<;>rfl
 rw[e];unfold HX;rcases Gk (34::r) with⟨o,q⟩;cases o<;>rfl
theorem Ae0{t:ByteArray}(ht:t.size<=1000000)(k:Nat){D:Int}{l:Al}(h:Eh t (34::l)):∃res,Ac C0 prog fu (d+5) 178 [.pbox (Cy t (34::l)),Ar D]=some res/\Aj0 t (34::l) (Ha k (34::l)) res:=by
 have er:=C8 (p:=none) fu (d+4) t (Cn t (34::l):Int) D;have pk:Ac C0 prog fu (d+4) 196 [.pbox (Cy t (34::l))]=some ⟨[.sc (.int .u8 34)],[Cy t (34::l)]⟩:=Sk (xs:=xs0) (d:=d+3) h;have Fn:Ac C0 prog fu (d+4) 177 [.pbox (Cy t (34::l))]=_:=A1m (d:=d+3) h ht;have hts:=J4 h;have Aa6:=J4 (Eh.self h.B);have b1:((34:Int)==(123:Int))=false:=rfl;have b2:((34:Int)==(91:Int))=false:=rfl;have b3:((34:Int)==(34:Int))=true:=rfl;rw[Azs];rcases hx:Gk (34::l) with⟨o,q⟩;rw[hx] at Fn hts Aa6;cases o with
 |none=>
  have Avv:Ac C0 prog fu (d+4) 177 [.pbox (Cy t (34::l))]=some ⟨[Bl (Ab []),De false],[Cy t q]⟩:=Fn;refine⟨_,er.trans ?_,by decide,0,⟨#[]⟩,false,q,hts,rfl⟩
  repeat(with_reducible(first|apply Bj|apply Ay|apply Bi|apply Ba|apply Bm|apply Az|apply Bh|apply Hg);· first|constructor|(simp(disch:=omega)only[He,pk,b1,b2,b3,Avv]<;>first|constructor|omega)|omega)
  try simp(disch:=omega)only[Aa,pk,b1,b2,b3,Avv]
 |some s=>
  have Avv:Ac C0 prog fu (d+4) 177 [.pbox (Cy t (34::l))]=some ⟨[Bl (Ab s),De true],[Cy t q]⟩:=Fn;refine⟨_,er.trans ?_,Aa6,rfl⟩
  repeat(with_reducible(first|apply Bj|apply Ay|apply Bi|apply Ba|apply Bm|apply Az|apply Bh|apply Hg);· first|constructor|(simp(disch:=omega)only[He,pk,b1,b2,b3,Avv]<;>first|constructor|omega)|omega)
  try simp(disch:=omega)only[Aa,pk,b1,b2,b3,Avv]
theorem A0n{t:ByteArray}(ht:t.size<=1000000)(B2:t.size+1<=fu):∀(k:Nat)(D:Int),D+k=9->1<=D->∀l,Eh t l->∃res,Ac C0 prog fu (d+2*k+5) 178 [.pbox (Cy t l),Ar D]=some res/\Aj0 t l (Ha k l) res:=by
 intro k
 induction k with
 |zero=>
  intro D hD h1 l h;by_cases g1:hdS l=123
  ·cases l with
   |nil=>cases g1
   |cons c l=>
    have g2:c=123:=g1;subst g2;have er:=C8 (p:=none) fu (d+4) t (Cn t (123::l):Int) D;have pk:Ac C0 prog fu (d+4) 196 [.pbox (Cy t (123::l))]=some ⟨[.sc (.int .u8 123)],[Cy t (123::l)]⟩:=Sk (xs:=xs0) (d:=d+3) h;have b1:((123:Int)==(123:Int))=true:=rfl;have b2:decide (D>8)=true:=by simp;omega
    refine⟨_,er.trans ?_,(by decide:(5:Int)≠0),0,⟨#[]⟩,false,123::l,h,rfl⟩
    repeat(with_reducible(first|apply Bj|apply Ay|apply Bi|apply Ba|apply Bm|apply Az|apply Bh|apply Hg);· first|constructor|(simp(disch:=omega)only[He,pk,b1,b2]<;>first|constructor|omega)|omega)
    try simp(disch:=omega)only[Aa,pk,b1,b2]
  ·by_cases g2:hdS l=91
   ·cases l with
    |nil=>cases g2
    |cons c l=>
     have g3:c=91:=g2;subst g3;have er:=C8 (p:=none) fu (d+4) t (Cn t (91::l):Int) D;have pk:Ac C0 prog fu (d+4) 196 [.pbox (Cy t (91::l))]=some ⟨[.sc (.int .u8 91)],[Cy t (91::l)]⟩:=Sk (xs:=xs0) (d:=d+3) h;have b0:((91:Int)==(123:Int))=false:=rfl;have b1:((91:Int)==(91:Int))=true:=rfl;have b2:decide (D>8)=true:=by simp;omega
     refine⟨_,er.trans ?_,(by decide:(5:Int)≠0),0,⟨#[]⟩,false,91::l,h,rfl⟩
     repeat(with_reducible(first|apply Bj|apply Ay|apply Bi|apply Ba|apply Bm|apply Az|apply Bh|apply Hg);· first|constructor|(simp(disch:=omega)only[He,pk,b0,b1,b2]<;>first|constructor|omega)|omega)
     try simp(disch:=omega)only[Aa,pk,b0,b1,b2]
   ·by_cases g3:hdS l=34
    ·cases l with
     |nil=>cases g3
     |cons c l=>
      have g4:c=34:=g3;subst g4;exact Ae0 ht 0 h
    ·rw[ZQ 0 g1 g2 g3];exact Avt ht B2 h g1 g2 g3
 |succ k ih=>
  intro D hD h1 l h;have HV:=ih (D+1) (by omega) (by omega);by_cases g1:hdS l=123
  ·cases l with
   |nil=>cases g1
   |cons c l=>
    have g2:c=123:=g1;subst g2;have er:=C8 (p:=none) fu (d+2*(k+1)+4) t (Cn t (123::l):Int) D;have pk:Ac C0 prog fu (d+2*(k+1)+4) 196 [.pbox (Cy t (123::l))]=some ⟨[.sc (.int .u8 123)],[Cy t (123::l)]⟩:=Sk (xs:=xs0) (d:=d+2*(k+1)+3) h;have b1:((123:Int)==(123:Int))=true:=rfl;have b2:decide (D>8)=false:=by simp;omega
    have w1:wrap .i64 (D+1)=D+1:=Bn;obtain⟨res,e5,h5⟩:=A8y (fu:=fu) (d:=d+2*k+2) (D:=D+1) ht B2 (Ha k) HV h;have e6:Ac C0 prog fu (d+2*(k+1)+4) 155 [.pbox (Cy t (123::l)),Ar (D+1),.sc (.map none)]=some res:=e5;have ev:Ha (k+1) (123::l)=match KJ (Ha k) false l with | .error e=>.error e | .ok (_,r')=>.ok ((6,[],false),r'):=rfl
    rw[ev];cases ho:KJ (Ha k) false l with
    |error e=>
     rw[ho] at h5;obtain⟨he,q,hq,rfl⟩:=h5;refine⟨_,er.trans ?_,he,6,⟨#[]⟩,false,q,hq,rfl⟩
     repeat(with_reducible(first|apply Bj|apply Ay|apply Bi|apply Ba|apply Bm|apply Az|apply Bh|apply Hg);· first|constructor|(simp(disch:=omega)only[He,pk,b1,b2,w1,e6]<;>first|constructor|omega)|omega)
     try simp(disch:=omega)only[Aa,pk,b1,b2,w1,e6]
    |ok x=>
     obtain⟨ms,q⟩:=x;rw[ho] at h5;obtain⟨hq,rfl⟩:=h5;refine⟨_,er.trans ?_,(Eh.self h.B).tail.trans hq,rfl⟩
     repeat(with_reducible(first|apply Bj|apply Ay|apply Bi|apply Ba|apply Bm|apply Az|apply Bh|apply Hg);· first|constructor|(simp(disch:=omega)only[He,pk,b1,b2,w1,e6]<;>first|constructor|omega)|omega)
     try simp(disch:=omega)only[Aa,pk,b1,b2,w1,e6]
     rfl
  ·by_cases g2:hdS l=91
   ·cases l with
    |nil=>cases g2
    |cons c l=>
     have g3:c=91:=g2;subst g3;have er:=C8 (p:=none) fu (d+2*(k+1)+4) t (Cn t (91::l):Int) D;have pk:Ac C0 prog fu (d+2*(k+1)+4) 196 [.pbox (Cy t (91::l))]=some ⟨[.sc (.int .u8 91)],[Cy t (91::l)]⟩:=Sk (xs:=xs0) (d:=d+2*(k+1)+3) h;have b0:((91:Int)==(123:Int))=false:=rfl;have b1:((91:Int)==(91:Int))=true:=rfl;have b2:decide (D>8)=false:=by simp;omega
     have w1:wrap .i64 (D+1)=D+1:=Bn;obtain⟨res,e5,h5⟩:=Bbk (fu:=fu) (d:=d+2*k+2) (D:=D+1) ht B2 (Ha k) HV h;have e6:Ac C0 prog fu (d+2*(k+1)+4) 197 [.pbox (Cy t (91::l)),Ar (D+1)]=some res:=e5;have ev:Ha (k+1) (91::l)=match Aoo (Ha k) l with | .error e=>.error e | .ok r'=>.ok ((5,[],false),r'):=rfl
     rw[ev];cases ho:Aoo (Ha k) l with
     |error e=>
      rw[ho] at h5;obtain⟨he,q,hq,rfl⟩:=h5;refine⟨_,er.trans ?_,he,5,⟨#[]⟩,false,q,hq,rfl⟩
      repeat(with_reducible(first|apply Bj|apply Ay|apply Bi|apply Ba|apply Bm|apply Az|apply Bh|apply Hg);· first|constructor|(simp(disch:=omega)only[He,pk,b0,b1,b2,w1,e6]<;>first|constructor|omega)|omega)
      try simp(disch:=omega)only[Aa,pk,b0,b1,b2,w1,e6]
     |ok q=>
      rw[ho] at h5;obtain⟨hq,rfl⟩:=h5;refine⟨_,er.trans ?_,(Eh.self h.B).tail.trans hq,rfl⟩
      repeat(with_reducible(first|apply Bj|apply Ay|apply Bi|apply Ba|apply Bm|apply Az|apply Bh|apply Hg);· first|constructor|(simp(disch:=omega)only[He,pk,b0,b1,b2,w1,e6]<;>first|constructor|omega)|omega)
      try simp(disch:=omega)only[Aa,pk,b0,b1,b2,w1,e6]
      rfl
   ·by_cases g3:hdS l=34
    ·cases l with
     |nil=>cases g3
     |cons c l=>
      have g4:c=34:=g3;subst g4;exact Ae0 (d:=d+2*(k+1)) ht (k+1) h
    ·rw[ZQ (k+1) g1 g2 g3];exact Avt (d:=d+2*(k+1)) ht B2 h g1 g2 g3
end
section
open Go.Shelf Go.RowKit Go.Lib
theorem Ai3(G:Vg)(args:Ae)(res:Bv)(h:Ady args=some res):C9 G prog 203 args res:=by
 refine⟨⟨_,Tryz.func203,by kernel_rfl⟩,fun w Y bt us hi _ _=>?_⟩;unfold Ady at h;split at h
 rotate_left
 ·cases h
 rename_i s p;cases hq:(Nat.ble p.size 1000&&p.data.toList.all (fun b=>decide (b.toNat<128))&&decide (s.size<=1000000000))
 ·rw[hq] at h;cases h
 rw[hq,cond_true] at h;cases h;rw[Fc,Fc] at hq;obtain⟨⟨h1,h2⟩,h3⟩:=hq;have h1:=R5 h1;have h3:=of_decide_eq_true h3;have ps:=hi.args
 match us,ps with
 |[u1,u2],ps=>
  obtain⟨⟨_,p1⟩,⟨_,p2⟩,_⟩:=ps;have e1:u1=.string s:=Av.val (show Av w _ (Bl s) u1 from p1);have e2:u2=.string p:=Av.val (show Av w _ (Bl p) u2 from p2);subst e1 e2;refine (Any.strings_Trim_laid Ajw (by kernel_rfl) s p w (by omega) (by omega) (ascii_of_all h2)).mono ?_
  rintro e w' ⟨rfl,hb⟩
  exact⟨[.string ⟨(Lib.trimS s.data.toList p.data.toList).toArray⟩],fun _=>none,rfl,DI hb rfl⟩
 |[],ps=>exact ps.elim
 |[_],ps=>exact ps.2.elim
 |_::_::_::_,ps=>exact ps.2.2.elim
end
section
open Go.RowKit Go.Lib
theorem Ab2:(prog.info? 82).map (fun i=>(i.zero,i.size,i.bytes))=some (some (.agg #[.int .i64 0,.int .i64 0]),2,16):=by kernel_rfl
theorem FA:prog.underlying 41=some (.slice 82):=by kernel_rfl
theorem A4d:prog.underlying 3=some (.int .i64):=by kernel_rfl
set_option maxHeartbeats 4000000 in
theorem Ap5(b off n c i vb voff vc:Nat)(cs vs:List Value)(w:World)(hi:i<n)(Uv:n+1<=c)(A7k:n<=100000)(hvb:vb≠b)(M9:cs.length=n*2)(IP:vs.length=2)(Z5:∀j v,cs[j]?=some v->w.cell? ⟨b,off+j,none⟩=some v)(hsp:∀j,j<(n+1)*2->(w.cell? ⟨b,off+j,none⟩).isSome=true)(Y5:∀j,j<(n+1)*2->w.frozen? ⟨b,off+j,none⟩=false)(Ma:∀j v,vs[j]?=some v->w.cell? ⟨vb,voff+j,none⟩=some v)(h1c:∀v∈cs,v.oneCell'=true)(h1v:∀v∈vs,v.oneCell'=true)(tA tB:TypeId)(kA kB:Nat)(hsa:w.shape? vb=some (tA,kA))(hsb:w.shape? b=some (tB,kB))(hkB:kB≠0)(hfa:w.frozen? ⟨vb,voff,none⟩=false)(hfe:w.frozen? ⟨vb,kA,none⟩=false):
  Calls prog 99 #[.slice (some ⟨b,off,none⟩) n c,.int .i64 i,.slice (some ⟨vb,voff,none⟩) 1 vc] w fun e w'=>
   e=.returned (.slice (some ⟨b,off,none⟩) (n+1) c)/\w'=(w.drew.setCells b (off+(i+1)*2) (cs.drop (i*2))).setCells b (off+i*2) vs:=by
 obtain⟨i0,hi0,Mb,RP,hzb⟩:=info_parts Ab2;have Yq:¬((i:Int)=(n:Int)):=by omega
 have hov:∀lb cb,(callFunc 138 #[.slice (some ⟨vb,voff,none⟩) 1 vc,.slice (some ⟨b,off+(i+1)*2,none⟩) lb cb]).run prog w=.ok (.value (.bool false)) w:=fun lb cb=>by
  rw[run_callFunc_extern Tryz.func138 (by kernel_rfl) (by kernel_rfl) (by kernel_rfl) (e:=Extern.SlicesOverlaps.overlaps #[41,41] #[4]) (by kernel_rfl),
   Lib.run_overlaps_apart w 41 4 82 FA 2 (fun w=>by simp[sizeOf,typeInfo,hi0,RP]) ⟨vb,voff,none⟩ ⟨b,off+(i+1)*2,none⟩ 1 vc lb cb hvb tA tB kA kB hsa hsb hkB hfa hfe]
  rfl
 have hdl:(cs.drop (i*2)).length=(n-i)*2:=by rw[List.length_drop,M9];omega
 have hw1:IntKind.i64.wrap ((i:Int)+1)=(i:Int)+1:=by rw[IntKind.wrap_i64];omega
 have hw2:IntKind.i64.wrap ((n:Int)+1)=(n:Int)+1:=by rw[IntKind.wrap_i64];omega
 have mixed:prog.follows Departure.mixedOrders=true:=by kernel_rfl
 have F4:(0:Int)<=(i:Int)+1:=by omega
 have Rs:i<=n:=by omega
 have htn:((i:Int)+1).toNat=i+1:=by omega
 have Ko:¬(c=i+1):=by omega
 have DQ:(i:Int)<=(n:Int)+1:=by omega
 have hb4:¬(c=i):=by omega
 have Bb7:∀ty dc sc,(Builtin.copy_ #[41,41] ty #[.slice (some ⟨b,off+(i+1)*2,none⟩) (n-i) dc,.slice (some ⟨b,off+i*2,none⟩) (n+1-i) sc]).run prog w.drew=.ok (goInt ((n-i:Nat):Int)) (w.drew.setCells b (off+(i+1)*2) (cs.drop (i*2))):=fun ty dc sc=>
  CO w.drew _ _ ty 82 i0 b (off+(i+1)*2) (n-i) dc ⟨b,off+i*2,none⟩ (n+1-i) sc (n-i) (cs.drop (i*2)) FA hi0 (by simp only[Nat.min_def];split<;>omega) (by rw[RP];exact hdl)
   (fun j v hj=>by rw[Addr.add_lit,Jc];exact Z5 (i*2+j) v (by rwa [List.getElem?_drop] at hj))
   (fun j hj=>by rw[Jc];exact hsp _ (by omega)) (fun j hj=>by rw[Jc];exact Y5 _ (by omega)) (fun v hv=>h1c v (List.mem_of_mem_drop hv))
 obtain⟨W1,VR⟩:∃W1,W1=w.drew.setCells b (off+(i+1)*2) (cs.drop (i*2)):=⟨_,rfl⟩
 have Bm1:∀k,k<(n+1)*2->(W1.cell? ⟨b,off+k,none⟩).isSome=true:=fun k hk=>by
  rw[VR];exact Qo b _ _ _ _ (hsp k hk)
 have Bl4:∀(W:World),(∀x,W.cell? x=W1.cell? x)->(∀x,W.frozen? x=W1.frozen? x)->∀ty dc,(Builtin.copy_ #[41,41] ty #[.slice (some ⟨b,off+i*2,none⟩) (n+1-i) dc,.slice (some ⟨vb,voff,none⟩) 1 vc]).run prog W=.ok (goInt 1) (W.setCells b (off+i*2) vs):=fun W hWc hWf ty dc=>
  CO W _ _ ty 82 i0 b (off+i*2) (n+1-i) dc ⟨vb,voff,none⟩ 1 vc 1 vs FA hi0 (by simp only[Nat.min_def];split<;>omega) (by rw[IP,RP])
   (fun j v hj=>by
    rw[Addr.add_lit,hWc,VR,World.cell?_setCells_out b _ _ _ _ (fun h _=>absurd h hvb)];exact Ma j v hj)
   (fun j hj=>by rw[hWc,Jc];exact Bm1 _ (by omega)) (fun j hj=>by rw[hWf,VR,World.frozen?_setCells,Jc];exact Y5 _ (by omega)) h1v
 rw[<-VR] at Bb7
 go_enter Tryz.func99,Tryz.ntmps99
 go_wp2_with (simp only[hov])
 go_region_law_o (refine BT rfl _ _ 41 41 rfl _ _ (by simp[Act.eval,Act.put]) (by simp[Act.eval,Act.put]) (Bb7 _ _ _) ?_)
 go_wp2_with (at_builtin;refine On _ rfl _ _ 41 41 rfl _ _ rfl rfl (Bl4 _ (fun _=>rfl) (fun _=>rfl) _ _) ?_)
 go_ret
 first|exact⟨rfl,rfl⟩|exact⟨rfl,by rw[VR]⟩
theorem Aqy{w:World}{vb voff vc:Nat}{vs:List Value}(IP:vs.length=2)(Ma:∀j v,vs[j]?=some v->w.cell? ⟨vb,voff+j,none⟩=some v)(h1v:∀v∈vs,v.oneCell'=true):
  Pv.Src prog w (fun _=>False) 2 (.slice (some ⟨vb,voff,none⟩) 1 vc) 1 (vs.map .sc) vs where
 len:=fun w'=>by simp[Builtin.lenOf]
 cells:=fun w' hw=>by
  refine Pv.run_first_slice (w:=w') (.inr ⟨_,rfl,by omega,fun j v hj=>?_⟩);have hv:=Ma j v hj;rw[Addr.add_lit,World.cell?_of_block (w:=w) (hw vb (block_lt_of_cell hv))];exact hv
 part:=fun k hk=>by
  refine run_firstCells_some w 2 k ⟨vb,voff,none⟩ 1 vc _ (by rw[List.length_take];omega) fun j v hj=>?_
  rw[List.getElem?_take] at hj;split at hj
  ·rw[Addr.add_lit];exact Ma j v hj
  ·cases hj
 one:=h1v
 rep:=by
  clear Ma h1v IP
  induction vs with
  |nil=>trivial
  |cons v vs ih=>exact⟨.sc v,ih⟩
set_option maxHeartbeats 4000000 in
theorem Ac9(b off n c vb voff vc:Nat)(vs:List Value)(w:World)(Uv:n+1<=c)(IP:vs.length=2)(hsp:∀j,j<2->(w.cell? ⟨b,off+n*2+j,none⟩).isSome=true)(Y5:∀j,j<2->w.frozen? ⟨b,off+n*2+j,none⟩=false)(Ma:∀j v,vs[j]?=some v->w.cell? ⟨vb,voff+j,none⟩=some v)(h1v:∀v∈vs,v.oneCell'=true):
  Calls prog 99 #[.slice (some ⟨b,off,none⟩) n c,.int .i64 n,.slice (some ⟨vb,voff,none⟩) 1 vc] w fun e w'=>
   e=.returned (.slice (some ⟨b,off,none⟩) (n+1) c)/\w'=w.setCells b (off+n*2) vs:=by
 obtain⟨i0,hi0,Mb,RP,hzb⟩:=info_parts Ab2;have Wj:=Aqy (vc:=vc) IP Ma h1v;rw[<-RP] at Wj hsp Y5 ⊢
 have hr:∀ty,(Builtin.append_ #[41,41] ty #[.slice (some ⟨b,off,none⟩) n c,.slice (some ⟨vb,voff,none⟩) 1 vc]).run prog w=_:=fun ty=>
  Pv.append_room_run (P:=prog) (w:=w) (t:=41) (tx:=41) (ty:=ty) (ts:=[]) (b:=b) (ob:=off) (n:=n) (cap:=c) FA FA (fun k=>by simp) hi0 Wj (by rw[IP,RP]) (fun k hk=>hsp k (by rw[RP];omega)) (fun k hk=>Y5 k (by rw[RP];omega)) Uv
 have mixed:prog.follows Departure.mixedOrders=true:=by kernel_rfl
 go_enter Tryz.func99,Tryz.ntmps99
 go_wp2_with (at_builtin;refine Lib.wpList_append_run _ rfl _ _ _ _ rfl _ _ rfl rfl _ _ (hr _) ?_)
 go_ret
 exact⟨rfl,by rw[RP]⟩
set_option maxHeartbeats 4000000 in
theorem Abb(base:Option Addr)(n c vb voff vc:Nat)(cs vs:List Value)(w:World)(hnc:n<=c)(Uv:c<n+1)(A7k:n<=100000)(M9:cs.length=n*2)(IP:vs.length=2)(Z5:(base=none/\cs=[])\/∃p,base=some p/\∀j v,cs[j]?=some v->w.cell? (p.add j)=some v)(Ma:∀j v,vs[j]?=some v->w.cell? ⟨vb,voff+j,none⟩=some v)(h1v:∀v∈vs,v.oneCell'=true):
  Calls prog 99 #[.slice base n c,.int .i64 n,.slice (some ⟨vb,voff,none⟩) 1 vc] w fun e w'=>
   e=.returned (.slice (some ⟨w.heap.size,0,none⟩) (n+1) (grownCap w (n+1) c 82)) /\
   w'=w.drew.alloc (.cells (cs.toArray++vs.toArray++Builtin.zeroCells #[.int .i64 0,.int .i64 0] (grownCap w (n+1) c 82-(n+1))) 82):=by
 obtain⟨i0,hi0,Mb,RP,hzb⟩:=info_parts Ab2;have Wj:=Aqy (vc:=vc) IP Ma h1v;rw[<-RP] at Wj
 have hr:∀ty,(Builtin.append_ #[41,41] ty #[.slice base n c,.slice (some ⟨vb,voff,none⟩) 1 vc]).run prog w=_:=fun ty=>
  Pv.append_grow_run (P:=prog) (w:=w) (t:=41) (tx:=41) (ty:=ty) (ts:=[]) (ad:=base) (n:=n) (cap:=c) (olds:=cs) FA FA (fun k=>by simp) hi0 Mb Wj (by
   rcases Z5 with h|⟨p,h,g⟩
   ·exact .inl h
   ·exact .inr ⟨p,h,by rw[RP];exact M9,g⟩) Uv (by rw[hzb];omega) (by omega)
 have GD:base=none->n=0:=by
  rintro rfl
  rcases Z5 with⟨_,rfl⟩|⟨p,h,_⟩
  ·simp at M9;omega
  ·cases h
 have mixed:prog.follows Departure.mixedOrders=true:=by kernel_rfl
 clear Z5
 go_enter Tryz.func99,Tryz.ntmps99
 cases base with
 |none=>
  have h0:=GD rfl;subst h0
  go_wp2_with (at_builtin;refine Lib.wpList_append_run _ rfl _ _ _ _ rfl _ _ rfl rfl _ _ (hr _) ?_)
  go_ret
  exact⟨rfl,rfl⟩
 |some a=>
  go_wp2_with (at_builtin;refine Lib.wpList_append_run _ rfl _ _ _ _ rfl _ _ rfl rfl _ _ (hr _) ?_)
  go_ret
  exact⟨rfl,rfl⟩
set_option maxHeartbeats 4000000 in
theorem Auf(b off n c i vb voff vc:Nat)(cs vs:List Value)(w:World)(hi:i<n)(hnc:n<=c)(Uv:c<n+1)(A7k:n<=100000)(M9:cs.length=n*2)(IP:vs.length=2)(Z5:∀j v,cs[j]?=some v->w.cell? ⟨b,off+j,none⟩=some v)(Ma:∀j v,vs[j]?=some v->w.cell? ⟨vb,voff+j,none⟩=some v)(h1c:∀v∈cs,v.oneCell'=true)(h1v:∀v∈vs,v.oneCell'=true):
  Calls prog 99 #[.slice (some ⟨b,off,none⟩) n c,.int .i64 i,.slice (some ⟨vb,voff,none⟩) 1 vc] w fun e w'=>
   e=.returned (.slice (some ⟨w.heap.size,0,none⟩) (n+1) (grownCap w (n+1) c 82)) /\
   w'=(((w.alloc (.cells ((cs.take (i*2)).toArray++Builtin.zeroCells #[.int .i64 0,.int .i64 0] (n+1-i)++Builtin.zeroCells #[.int .i64 0,.int .i64 0] (grownCap w (n+1) c 82-(n+1))) 82)).drew.setCells w.heap.size (i*2) vs).drew).setCells w.heap.size ((i+1)*2) (cs.drop (i*2)):=by
 obtain⟨i0,hi0,Mb,RP,hzb⟩:=info_parts Ab2;have Yq:¬((i:Int)=(n:Int)):=by omega
 have hz3:(c:Int)<(n:Int)+1:=by omega
 have hbw:b<w.heap.size:=block_lt_of_cell (Z5 0 _ (List.getElem?_eq_getElem (by omega)));have hvw:vb<w.heap.size:=block_lt_of_cell (Ma 0 _ (List.getElem?_eq_getElem (by omega)));have hkk:(n:Int)+1-(i:Int)=((n+1-i:Nat):Int):=by omega
 have hik:i+(n+1-i)=n+1:=by omega
 have hold:(Builtin.firstCells i0.size i (.slice (some ⟨b,off,none⟩) i c)).run prog w.drew=.ok (cs.take (i*2)).toArray w.drew:=by
  rw[RP]
  exact run_firstCells_some w.drew 2 i ⟨b,off,none⟩ i c (cs.take (i*2)) (by rw[List.length_take];omega) (fun j v hj=>by
   rw[Addr.add_lit];rw[List.getElem?_take] at hj;split at hj
   ·exact Z5 j v hj
   ·cases hj)
 have hrz:∀ty,(Builtin.append_ #[41,3] ty #[.slice (some ⟨b,off,none⟩) i c,.int .i64 ((n:Int)+1-(i:Int))]).run prog w =
   .ok (.slice (some ⟨w.heap.size,0,none⟩) (n+1) (grownCap w (n+1) c 82)) (w.drew.alloc (.cells ((cs.take (i*2)).toArray++Builtin.zeroCells #[.int .i64 0,.int .i64 0] (n+1-i)++Builtin.zeroCells #[.int .i64 0,.int .i64 0] (grownCap w (n+1) c 82-(n+1))) 82)):=fun ty=>by
  have h:=Lib.run_append_grow_zeros w 41 3 ty 82 i0 _ .i64 .i64 FA A4d hi0 Mb (some ⟨b,off,none⟩) i c (cs.take (i*2)) hold (n+1-i) (by omega) (by omega) (by omega) (by omega) (by rw[hzb];omega) (by rw[hzb,hik];exact growslice_fits Uv (by omega))
  rw[hik] at h;rw[hkk];exact h
 obtain⟨G,hG⟩:∃G,G=grownCap w (n+1) c 82:=⟨_,rfl⟩
 obtain⟨ROW,Ago⟩:∃ROW:Array Value,ROW=(cs.take (i*2)).toArray++Builtin.zeroCells #[.int .i64 0,.int .i64 0] (n+1-i)++Builtin.zeroCells #[.int .i64 0,.int .i64 0] (G-(n+1)):=⟨_,rfl⟩
 rw[<-hG] at hrz ⊢;rw[<-Ago] at hrz ⊢
 have hRl:(n+1)*2<=ROW.size:=by
  rw[Ago];simp[Builtin.zeroCells];omega
 obtain⟨W1,VR⟩:∃W1,W1=w.drew.alloc (.cells ROW 82):=⟨_,rfl⟩
 rw[<-VR] at hrz
 have hN:∀j,j<(n+1)*2->(W1.cell? ⟨w.heap.size,j,none⟩).isSome=true:=fun j hj=>by
  rw[VR,World.cell?_alloc_at (w:=w.drew) ROW _ w.heap.size j rfl,Array.getElem?_eq_getElem (by omega)];rfl
 have hNf:∀j,W1.frozen? ⟨w.heap.size,j,none⟩=false:=fun j=>by rw[VR];exact World.frozen?_alloc_at (w:=w.drew) ROW _ w.heap.size j rfl
 have hOb:∀j v,w.cell? ⟨b,j,none⟩=some v->W1.cell? ⟨b,j,none⟩=some v:=fun j v h=>by rw[VR,World.cell?_alloc_past (w:=w.drew) _ b j hbw];exact h
 have hOv:∀j v,w.cell? ⟨vb,j,none⟩=some v->W1.cell? ⟨vb,j,none⟩=some v:=fun j v h=>by rw[VR,World.cell?_alloc_past (w:=w.drew) _ vb j hvw];exact h
 have Bi0:∀(W:World),(∀x,W.cell? x=W1.cell? x)->(∀x,W.frozen? x=W1.frozen? x)->∀ty dc,(Builtin.copy_ #[41,41] ty #[.slice (some ⟨w.heap.size,i*2,none⟩) (n+1-i) dc,.slice (some ⟨vb,voff,none⟩) 1 vc]).run prog W=.ok (goInt 1) (W.setCells w.heap.size (i*2) vs):=fun W hWc hWf ty dc=>
  CO W _ _ ty 82 i0 w.heap.size (i*2) (n+1-i) dc ⟨vb,voff,none⟩ 1 vc 1 vs FA hi0 (by simp only[Nat.min_def];split<;>omega) (by rw[IP,RP])
   (fun j v hj=>by rw[Addr.add_lit,hWc];exact hOv _ v (Ma j v hj))
   (fun j hj=>by rw[hWc];exact hN _ (by omega)) (fun j hj=>by rw[hWf];exact hNf _) h1v
 have hGn:n+1<=G:=by rw[hG];exact grownCap_ge w _ _ _
 have Bt6:G<=9223372036854775807:=by
  have:=grownCap_le_maxLen w (n+1) c 82 (by unfold maxLen;omega)
  rw[<-hG] at this;unfold maxLen at this;omega
 have hGi:¬(G=i):=by omega
 have Bqv:¬(G=i+1):=by omega
 have hci:¬(c=i):=by omega
 have hbN:b≠w.heap.size:=by omega
 have hdl:(cs.drop (i*2)).length=(n-i)*2:=by rw[List.length_drop,M9];omega
 have Bba:∀(W:World),(∀x,W.cell? x=(W1.setCells w.heap.size (i*2) vs).cell? x)->(∀x,W.frozen? x=(W1.setCells w.heap.size (i*2) vs).frozen? x)->∀ty dc sc,(Builtin.copy_ #[41,41] ty #[.slice (some ⟨w.heap.size,(i+1)*2,none⟩) (n-i) dc,.slice (some ⟨b,off+i*2,none⟩) (n-i) sc]).run prog W=.ok (goInt ((n-i:Nat):Int)) (W.setCells w.heap.size ((i+1)*2) (cs.drop (i*2))):=fun W hWc hWf ty dc sc=>
  CO W _ _ ty 82 i0 w.heap.size ((i+1)*2) (n-i) dc ⟨b,off+i*2,none⟩ (n-i) sc (n-i) (cs.drop (i*2)) FA hi0 (by simp only[Nat.min_def];split<;>omega) (by rw[RP];exact hdl)
   (fun j v hj=>by
    rw[Addr.add_lit,hWc,World.cell?_setCells_out _ _ _ _ _ (fun h _=>absurd h hbN),Jc];exact hOb _ v (Z5 (i*2+j) v (by rwa [List.getElem?_drop] at hj)))
   (fun j hj=>by rw[hWc];exact Qo _ _ _ _ _ (hN _ (by omega)))
   (fun j hj=>by rw[hWf,World.frozen?_setCells];exact hNf _) (fun v hv=>h1c v (List.mem_of_mem_drop hv))
 subst VR;have hE1:∀x,((w.alloc (.cells ROW 82)).drew).cell? x=(w.drew.alloc (.cells ROW 82)).cell? x:=fun x=>rfl;have hE2:∀x,((w.alloc (.cells ROW 82)).drew).frozen? x=(w.drew.alloc (.cells ROW 82)).frozen? x:=fun x=>rfl;have hF1:∀x,(((w.alloc (.cells ROW 82)).drew.setCells w.heap.size (i*2) vs).drew).cell? x=((w.drew.alloc (.cells ROW 82)).setCells w.heap.size (i*2) vs).cell? x:=fun x=>rfl;have hF2:∀x,(((w.alloc (.cells ROW 82)).drew.setCells w.heap.size (i*2) vs).drew).frozen? x=((w.drew.alloc (.cells ROW 82)).setCells w.heap.size (i*2) vs).frozen? x:=fun x=>rfl;have hw1:IntKind.i64.wrap ((i:Int)+1)=(i:Int)+1:=by rw[IntKind.wrap_i64];omega
 have hw2:IntKind.i64.wrap ((n:Int)+1)=(n:Int)+1:=by rw[IntKind.wrap_i64];omega
 have hw3:IntKind.i64.wrap ((n:Int)+1-(i:Int))=(n:Int)+1-(i:Int):=by rw[IntKind.wrap_i64];omega
 have F4:(0:Int)<=(i:Int)+1:=by omega
 have Rs:i<=n:=by omega
 have htn:((i:Int)+1).toNat=i+1:=by omega
 have DQ:(i:Int)<=(n:Int):=by omega
 have mixed:prog.follows Departure.mixedOrders=true:=by kernel_rfl
 clear hkk hik hold Ago hG hRl
 go_enter Tryz.func99,Tryz.ntmps99
 go_wp2_with (first
  |(at_builtin;refine Lib.wpList_append_run _ rfl _ _ _ _ rfl _ _ rfl rfl _ _ (hrz _) ?_)
  |(at_builtin;refine On _ rfl _ _ 41 41 rfl _ _ rfl rfl (Bi0 _ hE1 hE2 _ _) ?_)
  |(at_builtin;refine On _ rfl _ _ 41 41 rfl _ _ rfl rfl (Bba _ (fun _=>rfl) (fun _=>rfl) _ _ _) ?_))
 go_region_law_o (refine BT rfl _ _ 41 41 rfl (.slice (some ⟨w.heap.size,(i+1)*2,none⟩) (n-i) (G-(i+1))) (.slice (some ⟨b,off+i*2,none⟩) (n-i) (c-i)) (by simp[Act.eval,Act.put]) (by simp[Act.eval,Act.put]) (Bba _ hF1 hF2 3 (G-(i+1)) (c-i)) ?_)
 go_wp2
 go_ret
 exact⟨rfl,rfl⟩
end
section
open Go.RowKit Go.Lib
structure ND(w w':World):Prop where
 os:w'.os=w.os
 tape:w'.tape=w.tape
 output:w'.output=w.output
 old:∀k,k<w.heap.size->w'.heap[k]?=w.heap[k]?
 size:w'.heap.size=w.heap.size+1
 frz:∀j,w'.frozen? ⟨w.heap.size,j,none⟩=false
theorem ND.alloc(w:World)(c:Array Value)(e:TypeId):ND w (w.alloc (.cells c e)):=
 ⟨rfl,rfl,rfl,fun b hb=>Below.heap_alloc w _ b hb,by show (w.heap.push _).size=_;simp,fun j=>World.frozen?_alloc_at (w:=w) c e w.heap.size j rfl⟩
theorem ND.allocD(w:World)(c:Array Value)(e:TypeId):ND w (w.drew.alloc (.cells c e)):=by have h:=ND.alloc w.drew c e;exact⟨h.os,h.tape,h.output,h.old,h.size,h.frz⟩
theorem ND.wrote{w w' w'':World}(h:ND w w')(g:Db w.heap.size w' w''):ND w w'':=
 ⟨g.os.trans h.os,g.tape.trans h.tape,g.output.trans h.output,fun k hk=>(g.other k (by omega)).trans (h.old k hk),g.size.trans h.size,fun j=>(g.frz j).trans (h.frz j)⟩
theorem Db.drew(b:Nat)(w:World):Db b w w.drew:=⟨rfl,rfl,rfl,rfl,fun _ _=>rfl,rfl,fun _=>rfl⟩
theorem Ar4{w:World}{A:Nat->Prop}{a:Addr}:∀{cs:List Value},VV w A a (cs.map .sc)->∀j v,cs[j]?=some v->w.cell? (a.add j)=some v/\v.oneCell'=true:=by
 intro cs h j v hj;obtain⟨u,h1,h2,h3⟩:=h j (.sc v) (by rw[List.getElem?_map,hj];rfl)
 cases h3;exact⟨h1,h2⟩
theorem Abj{w:World}{A:Nat->Prop}{a:Addr}{cs:List Value}(h:∀j v,cs[j]?=some v->w.cell? (a.add j)=some v)(h1:∀v∈cs,v.oneCell'=true):VV w A a (cs.map .sc):=by
 intro j p hp;rw[List.getElem?_map] at hp;cases hv:cs[j]? with
 |none=>rw[hv] at hp;cases hp
 |some v=>
  rw[hv] at hp;cases hp;exact⟨v,h j v hv,h1 v (List.mem_of_getElem? hv),.sc v⟩
theorem Alp:∀{c:Ae},c.all UB=true->∃cs:List Value,c=cs.map .sc
 |[],_=>⟨[],rfl⟩
 |p::c,h=>by
  simp only[List.all_cons,Fc] at h;obtain⟨cs,rfl⟩:=Alp h.2;have hp:=h.1;unfold UB at hp;split at hp
  ·exact⟨_::cs,rfl⟩
  ·cases hp
def JQ(q:Nat × Nat):Bt:=fun j=>match j with|0=>some q|_=>none
def EE(i:Nat)(cs vs:List Value):List Value:=cs.take (i*2)++vs++cs.drop (i*2)
theorem Aeu{i n j:Nat}{cs vs:List Value}{v:Value}(hi:i<=n)(hc:cs.length=n*2)(hv:vs.length=2)(h:(EE i cs vs)[j]?=some v):
  (j<i*2/\cs[j]?=some v)\/(i*2<=j/\j<i*2+2/\vs[j-i*2]?=some v)\/((i+1)*2<=j/\(cs.drop (i*2))[j-(i+1)*2]?=some v):=by
 unfold EE at h;have lt:(cs.take (i*2)).length=i*2:=by rw[List.length_take];omega
 by_cases h1:j<i*2
 ·rw[Zzv,List.getElem?_append_left (by omega),List.getElem?_take,Cr h1] at h;exact .inl ⟨h1,h⟩
 ·by_cases h2:j<i*2+2
  ·rw[Zzv,List.getElem?_append_right (by omega),lt,List.getElem?_append_left (by omega)] at h;exact .inr (.inl ⟨by omega,h2,h⟩)
  ·rw[List.getElem?_append_right (by simp;omega)] at h
   refine .inr (.inr ⟨by omega,?_⟩);rw[Wy,lt,hv] at h;rw[<-h]
   congr 1
   omega
section
variable {w w':World}{Y:Nat->Prop}{bt:FK}{args:Ae}{L vs:List Value}{n cap b o vb vo:Nat}{x1:PV}{x0:PV}
theorem An2(hb:bt 0 1=some (b,o))(hv:bt 2 0=some (vb,vo))(Gh:vb≠b)(Tl:b<w.heap.size)(IP:vb<w.heap.size)(hw:Db b w w')(Am2:∀j,j<o->w'.cell? ⟨b,j,none⟩=w.cell? ⟨b,j,none⟩)(hn:n<=cap)(hF:Fit w 2 b (o+cap*2))(Y5:∀j,o<=j->j<bsz w b->w.frozen? ⟨b,j,none⟩=false)(hL:∀j v,L[j]?=some v->w'.cell? ⟨b,o+j,none⟩=some v)(h1:∀v∈L,v.oneCell'=true)(Ma:∀j v,vs[j]?=some v->w.cell? ⟨vb,vo+j,none⟩=some v)(h2:∀v∈vs,v.oneCell'=true)(hvf:∀j,vo<=j->j<bsz w vb->w.frozen? ⟨vb,j,none⟩=false)(e0:∀ps,x0 ≠ .pbox ps)(e0':∀ps,x0 ≠ .tup ps)(e1:∀ps,x1 ≠ .pbox ps)(e1':∀ps,x1 ≠ .tup ps){q:Ae}:
  Out w w' Y bt [x0,x1,.tup q] (JQ (b,o)) ⟨[.own 2 n (L.map .sc)],[vs.map .sc]⟩ [.slice (some ⟨b,o,none⟩) n cap] where
 os:=hw.os
 tape:=hw.tape
 output:=hw.output
 ext:=⟨by rw[hw.size];exact Ci _,fun k _ hk=>hw.other k (fun e=>hk (e ▸ ⟨0,1,o,hb⟩)),fun k _=>hw.grow k⟩
 rng:=fun k j hk hX=>by
  by_cases e:k=b
  ·subst e
   have hj:j<o:=by
    refine Nat.lt_of_not_le fun Zi=>hX ⟨0,x0,rfl,Or.inl ⟨0,o,hb,Zi⟩⟩
   exact⟨Am2 j hj,hw.frz j⟩
  ·exact⟨by unfold World.cell?;simp only[hw.other k e],by unfold World.frozen?;simp only[hw.other k e]⟩
 vals:=⟨.inr ⟨b,o,cap,rfl,rfl,hn,hF.step (hw.grow b),by rw[hw.size];exact Tl,Abj (fun j v hj=>by rw[Ep];exact hL j v hj) h1,fun j hj Tq=>by rw[hw.frz];exact Y5 j hj (by rw[hw.bs] at Tq;exact Tq)⟩,trivial⟩
 outs:=by
  have hbk:w'.heap[vb]?=w.heap[vb]?:=hw.other vb Gh;have PZ:bsz w' vb=bsz w vb:=by unfold bsz;rw[hbk]
  have h:Kv w' (Yr bt (JQ (b,o)) Y) (JQ (b,o)) bt 1 2 [.tup q] [vs.map .sc]:=by
   refine⟨.inr ⟨vb,vo,hv,Abj (fun j v hj=>?_) h2,fun j hj Tq=>?_⟩,rfl⟩
   ·rw[Ep,World.cell?_of_block (w:=w) hbk];exact Ma j v hj
   ·rw[World.frozen?_of_block (w:=w) hbk];exact hvf j hj (by rw[PZ] at Tq;exact Tq)
  have h':Kv w' (Yr bt (JQ (b,o)) Y) (JQ (b,o)) bt 1 1 [x1,.tup q] [vs.map .sc]:=by
   unfold Kv;cases x1<;>first|exact h|exact absurd rfl (e1 _)|exact absurd rfl (e1' _)
  show Kv w' (Yr bt (JQ (b,o)) Y) (JQ (b,o)) bt 1 0 [x0,x1,.tup q] [vs.map .sc];unfold Kv;cases x0<;>first|exact h'|exact absurd rfl (e0 _)|exact absurd rfl (e0' _)
 fresh:=fun j k y h=>by
  cases j with
  |zero=>
   cases h;refine⟨by rw[hw.size];exact Tl,fun _=>⟨⟨0,0,o,hb⟩,fun x hx=>⟨0,x0,rfl,Or.inl ⟨0,o,hb,hx⟩⟩⟩⟩
  |succ j=>cases h
 inj:=fun j j' k y y' h h'=>by
  cases j with
  |zero=>cases j' with
   |zero=>rfl
   |succ j'=>cases h'
  |succ j=>cases h
theorem Azk(hv:bt 2 0=some (vb,vo))(IP:vb<w.heap.size)(hw:ND w w')(hn:n<=cap)(hF:cap*2<=bsz w' w.heap.size)(hL:∀j v,L[j]?=some v->w'.cell? ⟨w.heap.size,j,none⟩=some v)(h1:∀v∈L,v.oneCell'=true)(Ma:∀j v,vs[j]?=some v->w.cell? ⟨vb,vo+j,none⟩=some v)(h2:∀v∈vs,v.oneCell'=true)(hvf:∀j,vo<=j->j<bsz w vb->w.frozen? ⟨vb,j,none⟩=false)(e0:∀ps,x0 ≠ .pbox ps)(e0':∀ps,x0 ≠ .tup ps)(e1:∀ps,x1 ≠ .pbox ps)(e1':∀ps,x1 ≠ .tup ps){q:Ae}:
  Out w w' Y bt [x0,x1,.tup q] (JQ (w.heap.size,0)) ⟨[.own 2 n (L.map .sc)],[vs.map .sc]⟩ [.slice (some ⟨w.heap.size,0,none⟩) n cap] where
 os:=hw.os
 tape:=hw.tape
 output:=hw.output
 ext:=⟨by rw[hw.size];omega,fun k hk _=>hw.old k hk,fun k hk=>Fi.same (hw.old k hk)⟩
 rng:=fun k j hk _=>⟨by unfold World.cell?;simp only[hw.old k hk],by unfold World.frozen?;simp only[hw.old k hk]⟩
 vals:=⟨.inr ⟨w.heap.size,0,cap,rfl,rfl,hn,⟨by omega,.inr (hw.frz _)⟩,by rw[hw.size];omega,Abj (fun j v hj=>by rw[Ep,Ie];exact hL j v hj) h1,fun j _ _=>hw.frz j⟩,trivial⟩
 outs:=by
  have hbk:w'.heap[vb]?=w.heap[vb]?:=hw.old vb IP;have PZ:bsz w' vb=bsz w vb:=by unfold bsz;rw[hbk]
  have h:Kv w' (Yr bt (JQ (w.heap.size,0)) Y) (JQ (w.heap.size,0)) bt 1 2 [.tup q] [vs.map .sc]:=by
   refine⟨.inr ⟨vb,vo,hv,Abj (fun j v hj=>?_) h2,fun j hj Tq=>?_⟩,rfl⟩
   ·rw[Ep,World.cell?_of_block (w:=w) hbk];exact Ma j v hj
   ·rw[World.frozen?_of_block (w:=w) hbk];exact hvf j hj (by rw[PZ] at Tq;exact Tq)
  have h':Kv w' (Yr bt (JQ (w.heap.size,0)) Y) (JQ (w.heap.size,0)) bt 1 1 [x1,.tup q] [vs.map .sc]:=by
   unfold Kv;cases x1<;>first|exact h|exact absurd rfl (e1 _)|exact absurd rfl (e1' _)
  show Kv w' (Yr bt (JQ (w.heap.size,0)) Y) (JQ (w.heap.size,0)) bt 1 0 [x0,x1,.tup q] [vs.map .sc];unfold Kv;cases x0<;>first|exact h'|exact absurd rfl (e0 _)|exact absurd rfl (e0' _)
 fresh:=fun j k y h=>by
  cases j with
  |zero=>cases h;exact⟨by rw[hw.size];omega,fun Ck=>absurd Ck (Nat.lt_irrefl _)⟩
  |succ j=>cases h
 inj:=fun j j' k y y' h h'=>by
  cases j with
  |zero=>cases j' with
   |zero=>rfl
   |succ j'=>cases h'
  |succ j=>cases h
end
theorem Am9(G:Vg)(args:Ae)(res:Bv)(h:Avs args=some res):C9 G prog 99 args res:=by
 refine⟨⟨_,Tryz.func99,by kernel_rfl⟩,fun w Y bt us hi _ _=>?_⟩;unfold Avs at h;split at h
 rotate_left
 ·cases h
 rename_i n c i f l;cases hq:(Nat.beq c.length (n*2)&&decide (0<=i)&&decide (i<=n)&&Nat.ble n 100000&&c.all UB)
 ·rw[hq] at h;cases h
 rw[hq] at h;simp only[Fc,GF] at hq;obtain⟨⟨⟨⟨hc,h0⟩,h1⟩,hn⟩,Qn⟩:=hq;have hc:=Dx hc;have hn:=R5 hn;simp only[cond_true] at h;cases h;obtain⟨k,rfl⟩:=Int.eq_ofNat_of_zero_le h0;have hk:k<=n:=by omega
 obtain⟨cs,rfl⟩:=Alp Qn;rw[List.length_map] at hc
 have eL:List.take (Int.toNat (k:Int)*2) (cs.map PV.sc)++(PV.sc (.int .i64 f)::PV.sc (.int .i64 l)::List.drop (Int.toNat (k:Int)*2) (cs.map PV.sc))=(EE k cs [.int .i64 f,.int .i64 l]).map .sc:=by
  unfold EE;rw[Jd,List.map_append,List.map_append,List.map_take,List.map_drop,Zzv];rfl
 rw[eL];clear h0 h1 Qn eL;obtain⟨vs,Ay7⟩:∃vs:List Value,vs=[.int .i64 f,.int .i64 l]:=⟨_,rfl⟩
 have IP:vs.length=2:=by rw[Ay7];rfl
 have hv1:∀v∈vs,v.oneCell'=true:=by
  intro v hv;rw[Ay7] at hv;rcases Ch.1 hv with rfl|hv
  ·rfl
  ·rw[Qi] at hv;subst hv;rfl
 have evm:[PV.sc (.int .i64 f),PV.sc (.int .i64 l)]=vs.map .sc:=by rw[Ay7];rfl
 rw[<-Ay7];have ps:=hi.args;rw[evm] at ps ⊢
 match us,ps with
 |[u0,u1,u2],ps=>
  obtain⟨⟨_,p0⟩,⟨_,p1⟩,⟨es2,n2,c2,e2,p2⟩,_⟩:=ps;simp only[List.cons.injEq,PV.own.injEq,and_true] at e2;obtain⟨rfl,rfl,rfl⟩:=e2;have hu1:u1=.int .i64 k:=Av.val (show Av w _ (Ar k) u1 from p1);subst hu1;rcases p2 with⟨_,hz,_⟩|⟨vb,vo,vc,hvb,rfl,hvn,hvF,A2o,hvR,hvf⟩
  ·cases hz
  have hvr:=Ar4 hvR
  have Ma:∀j v,vs[j]?=some v->w.cell? ⟨vb,vo+j,none⟩=some v:=fun j v hj=>by
   have:=(hvr j v hj).1
   rwa [Ep] at this
  have fin_new:∀(u0:Value) (w':World) (cap:Nat),ND w w'->n+1<=cap->cap*2<=bsz w' w.heap.size->(∀j v,(EE k cs vs)[j]?=some v->w'.cell? ⟨w.heap.size,j,none⟩=some v)->(∀v∈EE k cs vs,v.oneCell'=true) ->
    ∃us own,Ending.returned (Value.slice (some ⟨w.heap.size,0,none⟩) (n+1) cap)=.returned (G8 us)/\Out w w' Y bt [.own 2 n (cs.map .sc),Ar k,.tup [.own 2 1 (vs.map .sc)]] own ⟨[.own 2 (n+1) ((EE k cs vs).map .sc)],[vs.map .sc]⟩ us:=by
   intro u0 w' cap hw DT hF hL h1;exact⟨_,_,rfl,Azk hvb A2o hw DT hF hL h1 Ma hv1 hvf (by simp) (by simp) (by simp) (by simp)⟩
  have one:(∀v∈cs,v.oneCell'=true)->∀v∈EE k cs vs,v.oneCell'=true:=by
   intro DZ v hv;unfold EE at hv;rcases B5.1 hv with hv|hv
   ·rcases B5.1 hv with hv|hv
    ·exact DZ v (List.mem_of_mem_take hv)
    ·exact hv1 v hv
   ·exact DZ v (List.mem_of_mem_drop hv)
  have grow_end:∀(base:Option Addr) (cap0:Nat),n<=cap0->cap0<n+1->k=n->((base=none/\cs=[])\/∃p,base=some p/\∀j v,cs[j]?=some v->w.cell? (p.add j)=some v)->(∀v∈cs,v.oneCell'=true) ->
    Calls prog 99 #[.slice base n cap0,.int .i64 k,.slice (some ⟨vb,vo,none⟩) 1 vc] w fun e w'=>
     ∃us own,e=.returned (G8 us)/\Out w w' Y bt [.own 2 n (cs.map .sc),Ar k,.tup [.own 2 1 (vs.map .sc)]] own ⟨[.own 2 (n+1) ((EE k cs vs).map .sc)],[vs.map .sc]⟩ us:=by
   intro base cap0 DZ hc2 hkn hb Ai0;subst hkn;refine (Abb base k cap0 vb vo vc cs vs w DZ hc2 hn hc IP hb Ma hv1).mono ?_
   rintro e w' ⟨rfl,rfl⟩
   obtain⟨G,hG⟩:∃G,G=grownCap w (k+1) cap0 82:=⟨_,rfl⟩
   rw[<-hG];have hGn:k+1<=G:=by rw[hG];exact grownCap_ge w _ _ _
   have eI:EE k cs vs=cs++vs:=by
    unfold EE;rw[Hz (by omega),List.drop_of_length_le (by omega),List.append_nil]
   refine fin_new undef _ G (ND.allocD w _ _) hGn ?_ (fun j v hj=>?_) (one Ai0)
   ·have:bsz (w.drew.alloc (.cells (cs.toArray++vs.toArray++Builtin.zeroCells #[.int .i64 0,.int .i64 0] (G-(k+1))) 82)) w.heap.size=_:=(Gx.alloc w.drew _ _).bsz;rw[this];simp[Builtin.zeroCells];omega
   ·rw[eI] at hj;have Ck:=Yo hj;rw[World.cell?_alloc_at (w:=w.drew) _ _ w.heap.size j rfl,Array.getElem?_append_left (by simpa using Ck)]
    simpa using hj
  rcases p0 with⟨_,rfl,hc0,ad,rfl⟩|⟨b,o,cap,hb,rfl,Al6,hF,Aqv,hR,Y5⟩
  ·have Z5:cs=[]:=by simpa using hc0
   subst Z5;have hk0:k=0:=by omega
   refine grow_end ad 0 (Ci _) (by omega) hk0 ?_ (by simp);cases ad with
   |none=>exact .inl ⟨rfl,rfl⟩
   |some p=>exact .inr ⟨p,rfl,fun j v hj=>by cases hj⟩
  have hr:=Ar4 hR
  have Ar5:∀j v,cs[j]?=some v->w.cell? ⟨b,o+j,none⟩=some v:=fun j v hj=>by
   have:=(hr j v hj).1
   rwa [Ep] at this
  have DZ:∀v∈cs,v.oneCell'=true:=fun v hv=>by
   obtain⟨j,hj⟩:=List.mem_iff_getElem?.1 hv;exact (hr j v hj).2
  have Gh:vb≠b:=by
   rintro rfl
   have:=(hi.inj 0 1 2 0 vb o vo hb hvb).1;omega
  have Km:∀j,j<cap*2->(w.cell? ⟨b,o+j,none⟩).isSome=true:=fun j hj=>BF (by have:=hF.1;omega)
  have XF:∀j,j<cap*2->w.frozen? ⟨b,o+j,none⟩=false:=fun j hj=>Y5 _ (by omega) (by have:=hF.1;omega)
  by_cases Uv:n+1<=cap
  ·-- in Ik
   have hX:cap*2<=bsz w b:=by have:=hF.1;omega
   have hwB:∀w':World,Db b w w'->(∀j,j<o->w'.cell? ⟨b,j,none⟩=w.cell? ⟨b,j,none⟩)->(∀j v,(EE k cs vs)[j]?=some v->w'.cell? ⟨b,o+j,none⟩=some v) ->
     ∃us own,Ending.returned (Value.slice (some ⟨b,o,none⟩) (n+1) cap)=.returned (G8 us)/\Out w w' Y bt [.own 2 n (cs.map .sc),Ar k,.tup [.own 2 1 (vs.map .sc)]] own ⟨[.own 2 (n+1) ((EE k cs vs).map .sc)],[vs.map .sc]⟩ us:=by
    intro w' hw Am2 hL;exact⟨_,_,rfl,An2 hb hvb Gh Aqv A2o hw Am2 Uv hF Y5 hL (one DZ) Ma hv1 hvf (by simp) (by simp) (by simp) (by simp)⟩
   by_cases hkn:k=n
   ·subst hkn
    have eI:EE k cs vs=cs++vs:=by
     unfold EE;rw[Hz (by omega),List.drop_of_length_le (by omega),List.append_nil]
    refine (Ac9 b o k cap vb vo vc vs w Uv IP (fun j hj=>by rw[Jc];exact Km _ (by omega)) (fun j hj=>by rw[Jc];exact XF _ (by omega)) Ma hv1).mono ?_
    rintro e w' ⟨rfl,rfl⟩
    refine hwB _ (Db.setCells b _ _ w) (fun j hj=>World.cell?_setCells_out b _ _ w ⟨b,j,none⟩ (fun _ _=>.inl (by show j<o+k*2;omega))) (fun j v hj=>?_)
    rw[eI] at hj;by_cases Ck:j<cs.length
    ·rw[List.getElem?_append_left Ck] at hj;rw[World.cell?_setCells_out b _ _ w ⟨b,o+j,none⟩ (fun _ _=>.inl (by show o+j<o+k*2;omega))]
     exact Ar5 j v hj
    ·rw[List.getElem?_append_right (by omega)] at hj;have hl:=Yo hj;have:=World.cell?_setCells_in b vs (o+k*2) w (fun t ht=>by rw[Jc];exact Km _ (by omega)) (j-cs.length) hl
     rw[show o+k*2+(j-cs.length)=o+j by omega] at this;rw[this,<-hj,List.getElem?_eq_getElem hl]
   ·have H4:k<n:=by omega
    have hsh:∀q:Nat,q<w.heap.size->∃t,w.shape? q=some (t,bsz w q)\/bsz w q=0:=by
     intro q hq;unfold World.shape? bsz;cases w.heap[q]? with
     |none=>exact⟨0,.inr rfl⟩
     |some x=>cases x<;>first|exact⟨_,.inl rfl⟩|exact⟨0,.inr rfl⟩
    obtain⟨tA,hA⟩:=hsh vb A2o;obtain⟨tB,hB⟩:=hsh b Aqv;have Bru:=hvF.1
    have hvE:w.frozen? ⟨vb,bsz w vb,none⟩=false:=by
     rcases hvF.2 with h|h
     ·omega
     ·exact h
    have hA:w.shape? vb=some (tA,bsz w vb):=hA.resolve_right (by omega);have hB:w.shape? b=some (tB,bsz w b):=hB.resolve_right (by omega);refine (Ap5 b o n cap k vb vo vc cs vs w H4 Uv hn Gh hc IP Ar5 (fun j hj=>Km j (by omega)) (fun j hj=>XF j (by omega)) Ma DZ hv1 tA tB _ _ hA hB (by omega) (hvf vo (Ci _) (by omega)) hvE).mono ?_
    rintro e w' ⟨rfl,rfl⟩
    have hdl:(cs.drop (k*2)).length=(n-k)*2:=by rw[List.length_drop,hc];omega
    have hw1:=(Db.drew b w).trans (Db.setCells b (cs.drop (k*2)) (o+(k+1)*2) w.drew);refine hwB _ (hw1.trans (Db.setCells b vs (o+k*2) _)) (fun j hj=>?_) (fun j v hj=>?_)
    ·rw[World.cell?_setCells_out b _ _ _ ⟨b,j,none⟩ (fun _ _=>.inl (by show j<o+k*2;omega)),World.cell?_setCells_out b _ _ _ ⟨b,j,none⟩ (fun _ _=>.inl (by show j<o+(k+1)*2;omega))]
     rfl
    ·have RB:∀t,t<cap*2->((w.drew.setCells b (o+(k+1)*2) (cs.drop (k*2))).cell? ⟨b,o+t,none⟩).isSome=true:=fun t ht=>Qo b _ _ _ _ (Km t ht);rcases Aeu hk hc IP hj with⟨h1,h2⟩|⟨h1,h2,h3⟩|⟨h1,h2⟩
     ·rw[World.cell?_setCells_out b _ _ _ ⟨b,o+j,none⟩ (fun _ _=>.inl (by show o+j<o+k*2;omega)),World.cell?_setCells_out b _ _ _ ⟨b,o+j,none⟩ (fun _ _=>.inl (by show o+j<o+(k+1)*2;omega))]
      exact Ar5 j v h2
     ·have hl:=Yo h3;have:=World.cell?_setCells_in b vs (o+k*2) (w.drew.setCells b (o+(k+1)*2) (cs.drop (k*2))) (fun t ht=>by rw[Jc];exact RB _ (by omega)) (j-k*2) hl
      rw[show o+k*2+(j-k*2)=o+j by omega] at this;rw[this,<-h3,List.getElem?_eq_getElem hl]
     ·have hl:=Yo h2;rw[World.cell?_setCells_out b _ _ _ ⟨b,o+j,none⟩ (fun _ _=>.inr (by show o+k*2+vs.length<=o+j;omega))]
      have:=World.cell?_setCells_in b (cs.drop (k*2)) (o+(k+1)*2) w.drew (fun t ht=>by rw[Jc];exact Km _ (by omega)) (j-(k+1)*2) hl
      rw[show o+(k+1)*2+(j-(k+1)*2)=o+j by omega] at this;rw[this,<-h2,List.getElem?_eq_getElem hl]
  ·by_cases hkn:k=n
   ·exact grow_end _ cap Al6 (by omega) hkn (.inr ⟨_,rfl,fun j v hj=>by rw[Ep];exact Ar5 j v hj⟩) DZ
   ·refine (Auf b o n cap k vb vo vc cs vs w (by omega) Al6 (by omega) hn hc IP Ar5 Ma DZ hv1).mono ?_
    rintro e w' ⟨rfl,rfl⟩
    obtain⟨G,hG⟩:∃G,G=grownCap w (n+1) cap 82:=⟨_,rfl⟩
    rw[<-hG];have hGn:n+1<=G:=by rw[hG];exact grownCap_ge w _ _ _
    obtain⟨ROW,Ago⟩:∃ROW:Array Value,ROW=(cs.take (k*2)).toArray++Builtin.zeroCells #[.int .i64 0,.int .i64 0] (n+1-k)++Builtin.zeroCells #[.int .i64 0,.int .i64 0] (G-(n+1)):=⟨_,rfl⟩
    rw[<-Ago]
    have hRl:ROW.size=G*2:=by
     rw[Ago];simp[Builtin.zeroCells];omega
    have hR0:∀(j:Nat) v,j<k*2->cs[j]?=some v->ROW[j]?=some v:=by
     intro j v hj hv;rw[Ago,Array.getElem?_append_left (by simp;omega),Array.getElem?_append_left (by simp;omega)]
     simp only[List.getElem?_toArray];rw[List.getElem?_take,Cr hj];exact hv
    clear Ago;obtain⟨W0,hW0⟩:∃W0,W0=w.alloc (.cells ROW 82):=⟨_,rfl⟩
    have hN0:ND w W0:=by rw[hW0];exact ND.alloc w ROW _
    have hB0:bsz W0 w.heap.size=G*2:=by rw[hW0,(Gx.alloc w ROW 82).bsz,hRl]
    have hC0:∀j,W0.cell? ⟨w.heap.size,j,none⟩=ROW[j]?:=fun j=>by rw[hW0];exact (Gx.alloc w ROW 82).cell j
    rw[<-hW0];have hdl:(cs.drop (k*2)).length=(n-k)*2:=by rw[List.length_drop,hc];omega
    have Bk8:∀j,j<G*2->(W0.cell? ⟨w.heap.size,j,none⟩).isSome=true:=fun j hj=>BF (by omega);obtain⟨W1,VR⟩:∃W1,W1=(W0.drew.setCells w.heap.size (k*2) vs).drew:=⟨_,rfl⟩
    have hw1:Db w.heap.size W0 W1:=by rw[VR];exact ((Db.drew _ W0).trans (Db.setCells _ vs (k*2) W0.drew)).trans (Db.drew _ _)
    have hC1:∀j,W1.cell? ⟨w.heap.size,j,none⟩=(W0.drew.setCells w.heap.size (k*2) vs).cell? ⟨w.heap.size,j,none⟩:=fun j=>by rw[VR];rfl
    have Bj9:∀j,j<G*2->(W1.cell? ⟨w.heap.size,j,none⟩).isSome=true:=fun j hj=>BF (by rw[hw1.bs];omega)
    rw[<-VR];have hw2:=hw1.trans (Db.setCells w.heap.size (cs.drop (k*2)) ((k+1)*2) W1);refine fin_new undef _ G (hN0.wrote hw2) hGn (by rw[hw2.bs,hB0];exact Ci _) (fun j v hj=>?_) (one DZ)
    rcases Aeu hk hc IP hj with⟨h1,h2⟩|⟨h1,h2,h3⟩|⟨h1,h2⟩
    ·rw[World.cell?_setCells_out _ _ _ _ ⟨w.heap.size,j,none⟩ (fun _ _=>.inl (by show j<(k+1)*2;omega)),hC1,World.cell?_setCells_out _ _ _ _ ⟨w.heap.size,j,none⟩ (fun _ _=>.inl (by show j<k*2;omega))]
     show W0.cell? _=_;rw[hC0];exact hR0 j v h1 h2
    ·have hl:=Yo h3;rw[World.cell?_setCells_out _ _ _ _ ⟨w.heap.size,j,none⟩ (fun _ _=>.inl (by show j<(k+1)*2;omega)),hC1]
     have:=World.cell?_setCells_in w.heap.size vs (k*2) W0.drew (fun t ht=>Bk8 _ (by omega)) (j-k*2) hl;rw[show k*2+(j-k*2)=j by omega] at this;rw[this,<-h3,List.getElem?_eq_getElem hl]
    ·have hl:=Yo h2;have:=World.cell?_setCells_in w.heap.size (cs.drop (k*2)) ((k+1)*2) W1 (fun t ht=>Bj9 _ (by omega)) (j-(k+1)*2) hl;rw[show (k+1)*2+(j-(k+1)*2)=j by omega] at this;rw[this,<-h2,List.getElem?_eq_getElem hl]
 |[],ps=>exact ps.elim
 |[_],ps=>exact ps.2.elim
 |[_,_],ps=>exact ps.2.2.elim
 |_::_::_::_::_,ps=>exact ps.2.2.2.elim
end
section
open Go.Shelf Go.RowKit Go.Lib
def A84:Go.Shelf.Ren:=⟨fun|196=>124|259=>153|n=>n,fun|0=>0|3=>3|4=>4|5=>5|9=>9|12=>12|46=>48|53=>29|119=>212|138=>214|139=>215|n=>n,fun|3=>0|4=>1|n=>n⟩
theorem laysVS:Lays.n196 prog A84:={
 mixed:=by kernel_rfl
 f196:=Tryz.func124.trans (congrArg some (by kernel_rfl))
 f259:=Tryz.func153.trans (congrArg some (by kernel_rfl))
 t0:=Tryz.underlying0
 a0:=Tryz.isAgg0
 z0:=Tryz.sizeOf0
 v0:=Tryz.zeroValue0
 t3:=Tryz.underlying3
 a3:=Tryz.isAgg3
 z3:=Tryz.sizeOf3
 v3:=Tryz.zeroValue3
 t4:=Tryz.underlying4
 a4:=Tryz.isAgg4
 z4:=Tryz.sizeOf4
 v4:=Tryz.zeroValue4
 t5:=Tryz.underlying5
 a5:=Tryz.isAgg5
 z5:=Tryz.sizeOf5
 v5:=Tryz.zeroValue5
 t9:=Tryz.underlying9
 a9:=Tryz.isAgg9
 z9:=Tryz.sizeOf9
 v9:=Tryz.zeroValue9
 t12:=Tryz.underlying12
 a12:=Tryz.isAgg12
 z12:=Tryz.sizeOf12
 v12:=Tryz.zeroValue12
 t46:=Tryz.underlying48
 a46:=Tryz.isAgg48
 z46:=Tryz.sizeOf48
 v46:=Tryz.zeroValue48
 t53:=Tryz.underlying29
 a53:=Tryz.isAgg29
 z53:=Tryz.sizeOf29
 v53:=Tryz.zeroValue29
 t119:=Tryz.underlying212
 a119:=Tryz.isAgg212
 z119:=Tryz.sizeOf212
 t138:=Tryz.underlying214
 a138:=Tryz.isAgg214
 z138:=Tryz.sizeOf214
 v138:=Tryz.zeroValue214
 t139:=Tryz.underlying215
 a139:=Tryz.isAgg215
 z139:=Tryz.sizeOf215
 v139:=Tryz.zeroValue215
 g3:=by kernel_rfl
 g4:=by kernel_rfl }
def gU:Vg:=⟨fun b=>b=0\/b=1,fun w=>0<w.heap.size/\1<w.heap.size/\Lib.Utf8Tabs 0 1 w,fun w w' h ⟨s1,s2,h1,h2⟩=>by
 have e1:=h _ (.inl rfl) s1;have e2:=h _ (.inr rfl) s2
 have hs:∀b,b<w.heap.size->w'.heap[b]?=w.heap[b]?->b<w'.heap.size:=by
  intro b hb he;rw[Array.getElem?_eq_getElem hb] at he;rcases Ig b w'.heap.size with q|q
  ·exact q
  ·rw[Array.getElem?_eq_none q] at he;cases he
 refine⟨hs _ s1 e1,hs _ s2 e2,fun c hc=>?_,fun i hi=>?_⟩
 ·have:=h1 c hc;unfold World.cell? at this ⊢;simp only[e1] at this ⊢;exact this
 ·obtain⟨a,b⟩:=h2 i hi;unfold World.cell? at a b ⊢;simp only[e2] at a b ⊢;exact⟨a,b⟩⟩
theorem Af9(args:Ae)(res:Bv)(h:Ah5 args=some res):C9 gU prog 124 args res:=by
 refine⟨⟨_,Tryz.func124,by kernel_rfl⟩,fun w Y bt us hi hok _=>?_⟩;unfold Ah5 at h;split at h
 rotate_left
 ·cases h
 rename_i s;cases hq:decide (s.size<=9223372036854775807)
 ·rw[hq] at h;cases h
 rw[hq] at h;cases h;have hs:=of_decide_eq_true hq;have ps:=hi.args
 match us,ps with
 |[u],ps=>
  have hu:u=.string s:=by
   have:Av w _ (Bl s) u:=ps.1.2;exact this.val
  subst hu;refine (Any.utf8_ValidString laysVS s w hs hok.2.2).mono ?_
  rintro e w' ⟨rfl,hb⟩
  exact⟨[.bool (Lib.validD s.data.toList)],fun _=>none,rfl,DI hb rfl⟩
 |[],ps=>exact ps.elim
 |_::_::_,ps=>exact ps.2.elim
theorem A1d{p:Option (Ae->Option Bv)}(hp:∀g,p=some g->∀args res,g args=some res->C9 gU prog 79 args res):SP gU prog (CP p):=by
 intro f g args res hx hg;have hx0:(bif Ya.any (Nat.beq f) then none else Adb p f)=some g:=hx;cases hb:Ya.any (Nat.beq f)
 rotate_left
 ·rw[hb,cond_true] at hx0;cases hx0
 rw[hb,cond_false] at hx0;unfold Adb at hx0;cases hP:Nat.beq f 79
 rotate_left
 ·rw[hP,cond_true] at hx0;rw[Dx hP];exact hp g hx0 args res hg
 rw[hP,cond_false] at hx0;have Y9:Asb f=some g:=hx0;unfold Asb at Y9;cases h1:Nat.beq f 124
 rotate_left
 ·rw[h1,cond_true] at Y9;cases Y9;rw[Dx h1];exact Af9 args res hg
 rw[h1,cond_false] at Y9;cases h5:Nat.beq f 54
 rotate_left
 ·rw[h5,cond_true] at Y9;cases Y9;rw[Dx h5];exact Ah9 hg
 rw[h5,cond_false] at Y9;cases hI:Nat.beq f 99
 rotate_left
 ·rw[hI,cond_true] at Y9;cases Y9;rw[Dx hI];exact Am9 gU args res hg
 rw[hI,cond_false] at Y9;cases h6:Nat.beq f 190
 rotate_left
 ·rw[h6,cond_true] at Y9;cases Y9;rw[Dx h6];exact Aps gU args res hg
 rw[h6,cond_false] at Y9;cases h7:Nat.beq f 229
 rotate_left
 ·rw[h7,cond_true] at Y9;cases Y9;rw[Dx h7];exact Ape gU args res hg
 rw[h7,cond_false] at Y9;cases hA:Nat.beq f 203
 rotate_left
 ·rw[hA,cond_true] at Y9;cases Y9;rw[Dx hA];exact Ai3 gU args res hg
 rw[hA,cond_false] at Y9;cases h9:Nat.beq f 177
 rotate_left
 ·rw[h9,cond_true] at Y9;cases Y9;rw[Dx h9];exact Aop gU args res hg
 rw[h9,cond_false] at Y9;cases h3:Nat.beq f 1000000
 ·rw[h3,cond_false] at Y9;cases Y9
 ·rw[h3,cond_true] at Y9;cases Y9;cases hg
theorem A5n:SP gU prog C0:=A1d (fun _ h=>by cases h)
end
section
open Go Go.RowKit
def CA(v:JV):Value:=.agg #[.int .i64 v.1,.string (Ab v.2.1),.bool v.2.2]
def Mk:Nat->List (Al × JV)->List MapEntry
 |_,[]=>[]
 |i,m::r=>{ key:=.string (Ab m.1),val:=CA m.2,born:=i }::Mk (i+1) r
theorem ZI:∀(i:Nat)(a b:List (Al × JV)),Mk i (a++b)=Mk i a++Mk (i+a.length) b
 |_,[],_=>rfl
 |i,m::r,b=>by
  show _::Mk (i+1) (r++b)=_;rw[ZI (i+1) r b];show _=_::(Mk (i+1) r++Mk (i+(r.length+1)) b);rw[show i+1+r.length=i+(r.length+1) by omega]
def Ra(nm:Al)(ms:List (Al × JV)):Option JV:=(ms.find? fun m=>m.1==nm).map (·.2)
theorem NR{a b:Al}(ha:Cz a)(hb:Cz b)(h:Ab a=Ab b):a=b:=by
 have:=congrArg Cs h
 rwa [C7 ha,C7 hb] at this
theorem Au7(a b:ByteArray):(a==b)=decide (a=b):=by
 have e:(a==b)=(a.data==b.data):=by
  cases a;cases b;rfl
 rw[e,Bool.eq_iff_iff,beq_iff_eq,decide_eq_true_iff];constructor
 ·intro h;cases a;cases b;exact congrArg ByteArray.mk h
 ·intro h;rw[h]
theorem AQ{nm:Al}(hn:Cz nm):∀(ms:List (Al × JV)) (i j:Nat),(∀m∈ms,Cz m.1)->∃r,Instr.findNow .string (.string (Ab nm)) (Mk i ms) j=some r/\(match Ra nm ms with|none=>r=none|some v=>∃k,r=some (k,CA v))
 |[],_,_,_=>⟨none,rfl,rfl⟩
 |m::r,i,j,hB=>by
  by_cases h:m.1=nm
  ·refine⟨some (j,CA m.2),?_,?_⟩
   ·show (match Instr.sameNow .string (.string (Ab nm)) (.string (Ab m.1)) with|some true=>some (some (j,CA m.2))|some false=>Instr.findNow .string (.string (Ab nm)) (Mk (i+1) r) (j+1)|none=>none)=_
    have e:Instr.sameNow .string (.string (Ab nm)) (.string (Ab m.1))=some true:=by
     show some (Ab nm==Ab m.1)=some true;rw[h,Au7];simp
    rw[e]
   ·have e:Ra nm (m::r)=some m.2:=by
     unfold Ra;rw[List.find?_cons_of_pos (by simp[h])];rfl
    rw[e];exact⟨j,rfl⟩
  ·obtain⟨q,hq,hl⟩:=AQ hn r (i+1) (j+1) fun m hm=>hB m (Tz _ hm);refine⟨q,?_,?_⟩
   ·show (match Instr.sameNow .string (.string (Ab nm)) (.string (Ab m.1)) with|some true=>some (some (j,CA m.2))|some false=>Instr.findNow .string (.string (Ab nm)) (Mk (i+1) r) (j+1)|none=>none)=_
    have e:Instr.sameNow .string (.string (Ab nm)) (.string (Ab m.1))=some false:=by
     show some (Ab nm==Ab m.1)=some false;have:Ab nm≠Ab m.1:=fun e=>h (NR hn (hB m (FR ..)) e).symm;rw[Au7];simp[this]
    rw[e];exact hq
   ·have e:Ra nm (m::r)=Ra nm r:=by
     unfold Ra;rw[List.find?_cons_of_neg (by simp[h])]
    rw[e];exact hl
def VF(w:World)(b:Nat)(ms:List (Al × JV)):Prop:=w.heap[b]?=some (.map (Mk 0 ms).toArray ms.length)
theorem UW{w:World}{b:Nat}{ms:List (Al × JV)}(h:VF w b ms):(getObj b).run prog w=.ok (.map (Mk 0 ms).toArray ms.length) w:=by simp[getObj,Sem.run,show w.heap[b]?=_ from h]
def Agb(nm:Al)(ms:List (Al × JV)):Value:=match Ra nm ms with|some v=>CA v|none=>CA (0,[],false)
theorem UY{w:World}{b:Nat}{ms:List (Al × JV)}(h:VF w b ms)(hB:∀m∈ms,Cz m.1){nm:Al}(hn:Cz nm)(ok:Bool):(Instr.lookup 179 (.map (some b)) (.string (Ab nm)) ok).run prog w=.ok (if ok then .tuple #[Agb nm ms,.bool (Ra nm ms).isSome] else Agb nm ms) w:=by
 have hu:=run_underlying (w:=w) Tryz.underlying179;have hk:=run_underlying (w:=w) Tryz.underlying9;have hck:∀c (n:Nat),(Instr.checkKey c (n+1) 9 (.string (Ab nm))).run prog w=.ok () w:=fun c n=>by simp[Instr.checkKey,hk]
 have hc:∀c,(Instr.checkKey c 10000 9 (.string (Ab nm))).run prog w=.ok () w:=fun c=>hck c 9999;obtain⟨r,hr,hl⟩:=AQ hn ms 0 0 hB;have hz:(zeroValue 221).run prog w=.ok (CA (0,[],false)) w:=Tryz.zeroValue221 w;unfold Agb;cases hq:Ra nm ms with
 |none=>
  rw[hq] at hl;simp only at hl;subst hl;cases ok<;>simp[Instr.lookup,hu,hk,UW h,hc,Instr.findKey,hr,hz]<;>rfl
 |some v=>
  rw[hq] at hl;obtain⟨k,hl⟩:=hl;subst hl;cases ok<;>simp[Instr.lookup,hu,hk,UW h,hc,Instr.findKey,hr]
theorem Aj1{w:World}{b:Nat}{ms:List (Al × JV)}(h:VF w b ms)(hB:∀m∈ms,Cz m.1){nm:Al}(hn:Cz nm)(hno:Ra nm ms=none)(v:JV):(Instr.mapUpdate 179 (.map (some b)) (.string (Ab nm)) (CA v)).run prog w=.ok () { w with heap:=w.heap.setIfInBounds b (.map (Mk 0 (ms++[(nm,v)])).toArray (ms++[(nm,v)]).length) }:=by
 have hu:=run_underlying (w:=w) Tryz.underlying179;have hk:=run_underlying (w:=w) Tryz.underlying9;have hck:∀c (n:Nat),(Instr.checkKey c (n+1) 9 (.string (Ab nm))).run prog w=.ok () w:=fun c n=>by simp[Instr.checkKey,hk]
 have hc:∀c,(Instr.checkKey c 10000 9 (.string (Ab nm))).run prog w=.ok () w:=fun c=>hck c 9999;obtain⟨r,hr,hl⟩:=AQ hn ms 0 0 hB;rw[hno] at hl;simp only at hl;subst hl
 have e:Mk 0 (ms++[(nm,v)])=Mk 0 ms++[{ key:=.string (Ab nm),val:=CA v,born:=ms.length }]:=by
  rw[ZI];show _++[_]=_;rw[Ie]
 have hs:∀o,(setObj b o).run prog w=.ok () { w with heap:=w.heap.setIfInBounds b o }:=fun o=>by
  simp[setObj,Sem.run,show w.heap[b]?=_ from h]
 rw[e];simp[Instr.mapUpdate,hu,hk,UW h,hc,Instr.findKey,hr,hs]
end
section
open Go Go.RowKit
structure Q2(w:World)(b:Nat):Prop where
 ok:gU.ok w
 bl:∀k,gU.bl k->k<w.heap.size/\k≠b
theorem TJ{f:FuncId}{t:ByteArray}{r r':Al}{args vals:Ae}{us rs:List Value}{fu d:Nat}(e:Ac C0 prog fu d f (.pbox (Cy t r)::args)=some ⟨vals,[Cy t r']⟩)(ha:Bx UK args us)(hr:Bx UK vals rs){w:World}{b o:Nat}(hU:Q2 w b)(h:HW w b o t r):Calls prog f (.pointer (some ⟨b,o,none⟩)::us).toArray w fun e w'=>e=.returned (G8 rs)/\HW w' b o t r'/\Ga w w' b o 2:=by
 have hs:C9 gU prog f (.pbox ([Value.string t,.int .i64 (Cn t r:Int)].map .sc)::args) ⟨vals,[[Value.string t,.int .i64 (Cn t r':Int)].map .sc]⟩:=Jf ngR mxR A5n d f _ _ e;refine (ZA hs ha hr (w:=w) (b:=b) (o:=o) hU.ok hU.bl h.lt ?_ ?_).mono ?_
 ·intro j v hv
  match j,hv with
  |0,hv=>cases hv;exact h.c0
  |1,hv=>cases hv;exact h.c1
 ·intro j hj
  match j,hj with
  |0,_=>exact h.f0
  |1,_=>exact h.f1
 ·rintro e w' ⟨rfl,_,h4,h5,hk⟩
  exact⟨rfl,⟨Ft h.lt hk.size,h4 0 _ rfl,h4 1 _ rfl,h5 0 (Nat.zero_lt_succ _),h5 1 (Nat.succ_lt_succ (Nat.zero_lt_succ _))⟩,hk⟩
theorem Lh{t:ByteArray}{r:Al}(hS:Eh t r)(ht:t.size<=1000000){w:World}{b o:Nat}(hU:Q2 w b)(h:HW w b o t r):
  Calls prog 154 #[.pointer (some ⟨b,o,none⟩)] w fun e w'=>e=.returned (.tuple #[])/\HW w' b o t (Bz r)/\Ga w w' b o 2:=by
 have e:=X9 (fu:=1000001) (d:=0) hS ht (by omega);exact TJ (us:=[]) (rs:=[]) e trivial trivial hU h
def A3x(t:ByteArray)(r r':Al)(e:Ending):Prop:=
 match Ha 8 r with
 |.ok (v,q)=>r'=q/\Eh (Ab r) q/\e=.returned (.tuple #[CA v,.int .i64 0])
 |.error er=>er≠0/\Eh t r'/\∃u:JV,e=.returned (.tuple #[CA u,.int .i64 er])
theorem Aoj{t:ByteArray}{r:Al}(hS:Eh t r)(ht:t.size<=1000000){w:World}{b o:Nat}(hU:Q2 w b)(h:HW w b o t r):
  Calls prog 178 #[.pointer (some ⟨b,o,none⟩),.int .i64 1] w fun e w'=>∃r',HW w' b o t r'/\Ga w w' b o 2 /\
   A3x t r r' e:=by
 unfold A3x;obtain⟨res,e,hr⟩:=A0n (fu:=1000001) (d:=0) ht (by omega) 8 1 (by omega) (by omega) r hS;cases hv:Ha 8 r with
 |error er=>
  rw[hv] at hr;obtain⟨he,c1,c2,c3,q,hq,rfl⟩:=hr;refine (TJ (us:=[.int .i64 1]) (rs:=[.agg #[.int .i64 c1,.string c2,.bool c3],.int .i64 er]) e ⟨.inl rfl,trivial⟩ ⟨.inr ⟨[.int .i64 c1,.string c2,.bool c3],rfl,rfl⟩,.inl rfl,trivial⟩ hU h).mono ?_
  rintro e w' ⟨rfl,ha,hk⟩
  exact⟨q,ha,hk,he,hq,(c1,Cs c2,c3),by unfold CA;simp only[Es];rfl⟩
 |ok x=>
  obtain⟨v,q⟩:=x;rw[hv] at hr;obtain⟨hq,rfl⟩:=hr;refine (TJ (us:=[.int .i64 1]) (rs:=[CA v,.int .i64 0]) e ⟨.inl rfl,trivial⟩ ⟨.inr ⟨[.int .i64 v.1,.string (Ab v.2.1),.bool v.2.2],rfl,rfl⟩,.inl rfl,trivial⟩ hU h).mono ?_
  rintro e w' ⟨rfl,ha,hk⟩
  exact⟨q,ha,hk,rfl,hq,rfl⟩
end
section
open Go Go.RowKit Go.Lib
theorem Q2.keep{w w':World}{b o n:Nat}(h:Q2 w b)(k:Ga w w' b o n):Q2 w' b:=
 ⟨gU.stable w w' (fun j hj hl=>k.other j hl (h.bl j hj).2) h.ok,fun j hj=>⟨Ft (h.bl j hj).1 k.size,(h.bl j hj).2⟩⟩
theorem VF.keep{w w':World}{b mb o n:Nat}{ms:List (Al × JV)}(h:VF w mb ms)(k:Ga w w' b o n)(Gh:mb≠b):VF w' mb ms:=by have Ck:mb<w.heap.size:=(Array.getElem?_eq_some_iff.1 h).1;exact (k.other mb Ck Gh).trans h
structure E5(w w':World)(b mb:Nat):Prop where
 os:w'.os=w.os
 tape:w'.tape=w.tape
 output:w'.output=w.output
 size:w.heap.size<=w'.heap.size
 other:∀k,k<w.heap.size->k≠b->k≠mb->w'.heap[k]?=w.heap[k]?
theorem E5.of{w w':World}{b mb o n:Nat}(k:Ga w w' b o n):E5 w w' b mb:=⟨k.os,k.tape,k.output,k.size,fun j hj hb _=>k.other j hj hb⟩
theorem Q2.below{w w':World}{b:Nat}(h:Q2 w b)(k:Below w.heap.size w w'):Q2 w' b:=
 ⟨gU.stable w w' (fun j _ hl=>k.block j hl) h.ok,fun j hj=>⟨Ft (h.bl j hj).1 k.size,(h.bl j hj).2⟩⟩
theorem VF.below{w w':World}{mb:Nat}{ms:List (Al × JV)}(h:VF w mb ms)(k:Below w.heap.size w w'):VF w' mb ms:=by have Ck:mb<w.heap.size:=(Array.getElem?_eq_some_iff.1 h).1;exact (k.block mb Ck).trans h
theorem E5.trans{w w' w'':World}{b mb:Nat}(h:E5 w w' b mb)(k:E5 w' w'' b mb):E5 w w'' b mb:=
 ⟨k.os.trans h.os,k.tape.trans h.tape,k.output.trans h.output,Nat.le_trans h.size k.size,fun i hi h1 h2=>(k.other i (Ft hi h.size) h1 h2).trans (h.other i hi h1 h2)⟩
theorem Ain:∀(n:Nat)(out l s q:Al),Cz out->Cz l->Md n out l=(some s,q)->Cz s
  |0,_,_,_,_,_,_,h=>by cases h
  |_+1,_,[],_,_,_,_,h=>by cases h
  |n+1,out,c::l,s,q,ho,hl,h=>by
    have e:Md (n+1) out (c::l)=if c<32 then (none,c::l) else if c=34 then (some out,l) else if c=92 then
        (match T8 l with
         |(some x,r')=>Md n (out++Lib.encodeRuneZ x) r'
         |(none,r')=>(none,r')) else Md n (out++[c]) l:=rfl
    have Ws:=D5 hl
    rw[e] at h
    split at h
    · cases h
    split at h
    · cases h;exact ho
    split at h
    · have h2:=AN (Eh.self Ws.2)
      rcases hq:T8 l with⟨o,r⟩
      rw[hq] at h2 h
      cases o with
      |none=>cases h
      |some x=>exact Ain n _ r s q (R7 ho (fun y hy=>by have:=Lib.encodeRuneZ_byte x y hy;omega)) (by have:=h2.B;exact this) h
    · exact Ain n _ l s q (R7 ho (fun y hy=>by simp at hy;omega)) Ws.2 h
theorem Akq{l s q:Al}(hl:Cz l)(h:Gk l=(some s,q)):Cz s:=by
 cases l with
 |nil=>cases h
 |cons c l=>
  have e:Gk (c::l)=if c=34 then Md (l.length+1) [] l else (none,c::l):=rfl
  rw[e] at h;split at h
  ·exact Ain _ _ _ _ _ (fun x hx=>by cases hx) (D5 hl).2 h
  ·cases h
theorem E5.below{w w':World}{b mb:Nat}(k:Below w.heap.size w w'):E5 w w' b mb:=⟨k.os,k.tape,k.output,k.size,fun i hi _ _=>k.block i hi⟩
theorem Ays{P:Program}{t k e:TypeId}(hu:P.underlying t=some (.map k e))(mb:Nat)(w:World):(binOp .neq t (.map (some mb)) (.map none)).run P w=.ok (.bool true) w:=by
 have h:∀d,(Op.equalIn (d+1) t (.map (some mb)) (.map none)).run P w=.ok false w:=fun d=>by
  simp[Op.equalIn,run_underlying hu]
 simp only[binOp];simp[Op.equal,Op.maxDepth,h 9999]
theorem Aq5(nm:Al)(ms:List (Al × JV)):(ms.any fun m=>m.1==nm)=(Ra nm ms).isSome:=by
 unfold Ra
 induction ms with
 |nil=>rfl
 |cons m r ih=>
  by_cases h:m.1=nm
  ·rw[List.find?_cons_of_pos (by simp[h])];simp[h]
  ·rw[List.find?_cons_of_neg (by simp[h]),<-ih];simp[h]
theorem CM(V:Al->JR (JV × Al))(kp:Bool)(l:Al):KJ V kp l=match A7 [125] (Bz l) with|some r=>.ok ([],r)|none=>Zv V kp ((Bz l).length+1) [] (Bz l):=by
 unfold KJ;rw[Fw];cases Bz l with
 |nil=>rfl
 |cons y s=>
  by_cases hy:y=125
  ·subst hy;rfl
  ·simp only[B3 hy];split
   ·rename_i e;injection e with e1 _;exact absurd e1 hy
   ·rfl
theorem TT{W:World}{mb b:Nat}{ob:Obj}(Gh:mb≠b):({ W with heap:=W.heap.setIfInBounds mb ob }:World).heap[b]?=W.heap[b]?:=Array.getElem?_setIfInBounds_ne Gh
theorem HW.put{W:World}{b o mb:Nat}{t:ByteArray}{r:Al}{ob:Obj}(h:HW W b o t r)(Gh:mb≠b):HW { W with heap:=W.heap.setIfInBounds mb ob } b o t r:=by
 have e:=TT (W:=W) (ob:=ob) Gh;refine⟨by simpa using h.lt,(World.cell?_of_block e).trans h.c0,(World.cell?_of_block e).trans h.c1,?_,?_⟩
 ·have:=h.f0;unfold World.frozen? at this ⊢;simp only[e] at this ⊢;exact this
 ·have:=h.f1;unfold World.frozen? at this ⊢;simp only[e] at this ⊢;exact this
theorem Q2.put{W:World}{b mb:Nat}{ob:Obj}(h:Q2 W b)(hmU:¬gU.bl mb):Q2 { W with heap:=W.heap.setIfInBounds mb ob } b:=
 ⟨gU.stable W _ (fun j hj _=>TT (fun e=>hmU (e ▸ hj))) h.ok,fun j hj=>⟨by simpa using (h.bl j hj).1,(h.bl j hj).2⟩⟩
theorem E5.put{W:World}{b mb:Nat}{ob:Obj}:E5 W { W with heap:=W.heap.setIfInBounds mb ob } b mb:=
 ⟨rfl,rfl,rfl,by simp,fun k _ _ h=>TT (fun e=>h e.symm)⟩
theorem VF.put{W:World}{mb n:Nat}{ms ms':List (Al × JV)}(h:VF W mb ms)(hn:ms'.length=n):VF { W with heap:=W.heap.setIfInBounds mb (.map (Mk 0 ms').toArray n) } mb ms':=by have Ck:mb<W.heap.size:=(Array.getElem?_eq_some_iff.1 h).1;subst hn;exact Array.getElem?_setIfInBounds_self_of_lt Ck
def RoP(w':World)(mb:Nat)(l r':Al)(e:Ending):Prop:=
 match A7 [123] l with
 |some l'=>(match KJ (Ha 8) true l' with
  |.ok (ms,q)=>r'=q/\e=.returned (.int .i64 0)/\VF w' mb ms
  |.error er=>er≠0/\e=.returned (.int .i64 er))
 |none=>e=.returned (.int .i64 2)
set_option maxHeartbeats 4000000 in
theorem Axf{t:ByteArray}{l:Al}(hS:Eh t l)(ht:t.size<=1000000){w:World}{b o mb:Nat}(hU:Q2 w b)(h:HW w b o t l)(hM:VF w mb [])(hmb:mb≠b)(hmU:¬gU.bl mb):
  Calls prog 155 #[.pointer (some ⟨b,o,none⟩),.int .i64 1,.map (some mb)] w fun e w'=>E5 w w' b mb/\∃r',Eh t r'/\HW w' b o t r' /\
   RoP w' mb l r' e:=by
 have mixed:prog.follows Departure.mixedOrders=true:=by kernel_rfl
 have hac:=Jw hS ht (w0:=[123]) (fun x hx=>by simp at hx;omega) (by decide) h
 go_enter Tryz.func155,Tryz.ntmps155
 go_wp2_with (go_at_call 176;refine hac.mono ?_)
 rintro e W1 ⟨rfl,h1,k1⟩
 cases hq:A7 [123] l with
 |none=>
  rw[hq] at h1
  go_wp2
  go_ret
  exact⟨E5.of k1,l,hS,h1,by unfold RoP;rw[hq];rfl⟩
 |some l'=>
  rw[hq] at h1;have WE:=Bb hS hq;have hsk:=Lh WE ht (hU.keep k1) h1
  go_wp2_with (go_at_call 154;refine hsk.mono ?_)
  rintro e W2 ⟨rfl,h2,k2⟩
  have CH:=Cp WE;have Bgz:=Jw CH ht (w0:=[125]) (fun x hx=>by simp at hx;omega) (by decide) h2
  go_wp2_with (go_at_call 176;refine Bgz.mono ?_)
  rintro e W3 ⟨rfl,h3,k3⟩
  cases Nl:A7 [125] (Bz l') with
  |some r3=>
   rw[Nl] at h3
   go_wp2
   go_ret
   refine⟨((E5.of k1).trans (E5.of k2)).trans (E5.of k3),r3,Bb CH Nl,h3,?_⟩;unfold RoP;rw[hq];simp only;rw[CM,Nl];exact⟨rfl,rfl,((hM.keep k1 hmb).keep k2 hmb).keep k3 hmb⟩
  |none=>
   rw[Nl] at h3
   have hRo:∀w' r' e,(match Zv (Ha 8) true ((Bz l').length+1) [] (Bz l') with
     |.ok (ms,q)=>r'=q/\e=.returned (.int .i64 0)/\VF w' mb ms
     |.error er=>er≠0/\e=.returned (.int .i64 er))->RoP w' mb l r' e:=by
    intro w' r' e h;unfold RoP;rw[hq];simp only;rw[CM,Nl];exact h
   have hU3:=((hU.keep k1).keep k2).keep k3;have hM3:=((hM.keep k1 hmb).keep k2 hmb).keep k3 hmb;have Ox:E5 w W3 b mb:=((E5.of k1).trans (E5.of k2)).trans (E5.of k3)
   go_wp2
   go_loopw [] (fun wr=>∃(n:Nat) (ms:List (Al × JV)) (x:Al),Zv (Ha 8) true ((Bz l').length+1) [] (Bz l')=Zv (Ha 8) true n ms x/\x.length<n/\Eh t x/\HW wr b o t x/\VF wr mb ms/\(∀m∈ms,Cz m.1)/\Q2 wr b/\E5 w wr b mb) (fun wr=>match wr.cell? ⟨b,o+1,none⟩ with|some (.int _ p)=>t.size-p.toNat|_=>0)
   case atStart=>
    exact⟨_,[],Bz l',rfl,Nat.lt_succ_self _,CH,h3,hM3,(fun m hm=>by cases hm),hU3,Ox⟩
   case round=>
    obtain⟨n,ms,x,Fn,hn,hSx,hat,hMx,hBx,hUx,hkx⟩:=hrel;have hrd:Calls prog 177 #[.pointer (some ⟨b,o,none⟩)] wr fun e w'=>e=.returned (.tuple #[.string (Ab ((Gk x).1.getD [])),.bool (Gk x).1.isSome])/\HW w' b o t (Gk x).2/\Ga wr w' b o 2:=Afr hSx ht hat
    go_wp2_with (go_at_call 177;refine hrd.mono ?_)
    rintro e W4 ⟨rfl,h4,k4⟩
    obtain⟨m,rfl⟩:∃m,n=m+1:=⟨n-1,by omega⟩
    rw[LE (Ha 8) true m ms x] at Fn;have Ug:E5 w W4 b mb:=hkx.trans (E5.of k4);have QV:=J4 hSx;rcases hx:Gk x with⟨o4,q4⟩;rw[hx] at h4 Fn QV;cases o4 with
    |none=>
     go_wp2
     go_ret
     exact⟨Ug,q4,QV,h4,hRo _ _ _ (by rw[Fn];exact⟨by decide,rfl⟩)⟩
    |some nm=>
     have QS:=Akq hSx.B hx;have hM4:=hMx.keep k4 hmb;have hlk:=UY hM4 hBx QS true;simp only[XY,Aq5] at Fn;cases hl:Ra nm ms with
     |some v=>
      rw[hl] at hlk Fn;have hvm:Agb nm ms=.agg #[.int .i64 v.1,.string (Ab v.2.1),.bool v.2.2]:=by unfold Agb;rw[hl];rfl
      rw[hvm] at hlk
      go_wp2
      go_ret
      have Tl:=fun ob=>(Below.refl W4.heap.size W4).alloc (Ci _) ob;exact⟨Ug.trans (E5.below (Tl _)),q4,QV,h4.below (Tl _) h4.lt,hRo _ _ _ (by rw[Fn];exact⟨by decide,rfl⟩)⟩
     |none=>
      rw[hl] at hlk Fn;have hvm:Agb nm ms=.agg #[.int .i64 0,.string ⟨#[]⟩,.bool false]:=by unfold Agb;rw[hl];rfl
      rw[hvm] at hlk;have Tl:Below W4.heap.size W4 (W4.alloc (.cells #[.int .i64 0,.string ⟨#[]⟩,.bool false] 221)):=(Below.refl W4.heap.size W4).alloc (Ci _) _;have h5:=h4.below Tl h4.lt;have hM5:=hM4.below Tl;have hU5:=(hUx.keep k4).below Tl;have WM:=Ug.trans (E5.below (b:=b) (mb:=mb) Tl);have A4v:=Lh QV ht hU5 h5
      go_wp2_with (go_at_call 154;refine A4v.mono ?_)
      rintro e W6 ⟨rfl,h6,k6⟩
      have It:=Cp QV;have Bf0:=Jw It ht (w0:=[58]) (fun x hx=>by simp at hx;omega) (by decide) h6
      go_wp2_with (go_at_call 176;refine Bf0.mono ?_)
      rintro e W7 ⟨rfl,h7,k7⟩
      have hk7:=(WM.trans (E5.of k6)).trans (E5.of k7);cases hq7:A7 [58] (Bz q4) with
      |none=>
       rw[hq7] at h7
       go_wp2
       go_ret
       exact⟨hk7,Bz q4,It,h7,hRo _ _ _ (by rw[Fn];simp only[Option.isSome_none,Bool.false_eq_true,if_false,hq7];exact⟨by decide,rfl⟩)⟩
      |some r7=>
       rw[hq7] at h7;have hS7:=Bb It hq7;have hU7:=(hU5.keep k6).keep k7;have hM7:=(hM5.keep k6 hmb).keep k7 hmb;have Bfr:=Lh hS7 ht hU7 h7
       go_wp2_with (go_at_call 154;refine Bfr.mono ?_)
       rintro e W8 ⟨rfl,h8,k8⟩
       have hS8:=Cp hS7;have hvc:=Aoj hS8 ht (hU7.keep k8) h8
       go_wp2_with (go_at_call 178;refine hvc.mono ?_)
       rintro e W9 ⟨r9,h9,k9,hv9⟩
       have hk9:=(hk7.trans (E5.of k8)).trans (E5.of k9)
       have Am1:Zv (Ha 8) true ((Bz l').length+1) [] (Bz l')=match Ha 8 (Bz r7) with
         |.error e=>.error e
         |.ok (v,r2)=>match A7 [125] (Bz r2) with
          |some r3=>.ok (ms++[(nm,v)],r3)
          |none=>match A7 [44] (Bz r2) with
           |some r3=>Zv (Ha 8) true m (ms++[(nm,v)]) (Bz r3)
           |none=>.error 2:=by
        rw[Fn];simp only[Option.isSome_none,Bool.false_eq_true,if_false,hq7]
        all_goals (rcases Ha 8 (Bz r7) with e|⟨v,r2⟩;rfl;simp only;cases A7 [125] (Bz r2)<;>cases A7 [44] (Bz r2)<;>rfl)
       unfold A3x at hv9;cases hv:Ha 8 (Bz r7) with
       |error er=>
        rw[hv] at hv9 Am1;obtain⟨he,hs9,u,rfl⟩:=hv9;unfold CA;have hbe:(er != (0:Int))=true:=by simp[he]
        go_wp2
        go_ret
        have Ai8:=fun ob=>(Below.refl W9.heap.size W9).alloc (Ci _) ob;exact⟨hk9.trans (E5.below (Ai8 _)),r9,hs9,h9.below (Ai8 _) h9.lt,hRo _ _ _ (by rw[Am1];exact⟨he,rfl⟩)⟩
       |ok x9=>
        obtain⟨v9,q9⟩:=x9;rw[hv] at hv9 Am1;obtain⟨rfl,hq9,rfl⟩:=hv9;unfold CA;have Ai8:Below W9.heap.size W9 (W9.alloc (.cells #[.int .i64 v9.1,.string (Ab v9.2.1),.bool v9.2.2] 221)):=(Below.refl W9.heap.size W9).alloc (Ci _) _;have h10:=h9.below Ai8 h9.lt;have Bcj:=((hM7.keep k8 hmb).keep k9 hmb).below Ai8;have Bka:=((hU7.keep k8).keep k9).below Ai8;have Bkn:=hk9.trans (E5.below (b:=b) (mb:=mb) Ai8);have hup:=Aj1 Bcj hBx QS hl v9;unfold CA at hup;have Gh:=Ays Tryz.underlying179 mb;have hS9:=hS8.trans hq9;have h11:=h10.put (mb:=mb) (ob:=.map (Mk 0 (ms++[(nm,v9)])).toArray (ms.length+1)) hmb;have Bar:=Bka.put (ob:=.map (Mk 0 (ms++[(nm,v9)])).toArray (ms.length+1)) hmU;have hln:(ms++[(nm,v9)]).length=ms.length+1:=by simp
        rw[hln] at hup;have Bal:=Bcj.put (ms':=ms++[(nm,v9)]) hln;have Bn6:=Bkn.trans (E5.put (b:=b) (ob:=.map (Mk 0 (ms++[(nm,v9)])).toArray (ms.length+1)));have Bb9:=Lh hS9 ht Bar h11
        go_wp2_with (go_at_call 154;refine Bb9.mono ?_)
        rintro e W12 ⟨rfl,h12,k12⟩
        have Aq6:=Cp hS9;have A95:=Jw Aq6 ht (w0:=[125]) (fun x hx=>by simp at hx;omega) (by decide) h12
        go_wp2_with (go_at_call 176;refine A95.mono ?_)
        rintro e W13 ⟨rfl,h13,k13⟩
        have A7z:=(Bn6.trans (E5.of k12)).trans (E5.of k13);cases Apn:A7 [125] (Bz r9) with
        |some r13=>
         rw[Apn] at h13
         go_wp2
         go_ret
         exact⟨A7z,r13,Bb Aq6 Apn,h13,hRo _ _ _ (by rw[Am1];simp only;rw[Apn];exact⟨rfl,rfl,(Bal.keep k12 hmb).keep k13 hmb⟩)⟩
        |none=>
         rw[Apn] at h13;have Ba5:=Jw Aq6 ht (w0:=[44]) (fun x hx=>by simp at hx;omega) (by decide) h13
         go_wp2_with (go_at_call 176;refine Ba5.mono ?_)
         rintro e W14 ⟨rfl,h14,k14⟩
         have A77:=A7z.trans (E5.of k14);cases Ao7:A7 [44] (Bz r9) with
         |none=>
          rw[Ao7] at h14
          go_wp2
          go_ret
          exact⟨A77,Bz r9,Aq6,h14,hRo _ _ _ (by rw[Am1];simp only;rw[Apn];simp only;rw[Ao7];exact⟨by decide,rfl⟩)⟩
         |some r14=>
          rw[Ao7] at h14;have A88:=Bb Aq6 Ao7;have A74:=((Bar.keep k12).keep k13).keep k14;have Blu:=((Bal.keep k12 hmb).keep k13 hmb).keep k14 hmb;have A8f:=Lh A88 ht A74 h14
          go_wp2_with (go_at_call 154;refine A8f.mono ?_)
          rintro e W15 ⟨rfl,h15,k15⟩
          have Bj1:=Cp A88
          have hlr:(Bz r14).length+1<=x.length:=by
           have Aa6:=J4 (Eh.self hSx.B);rw[hx] at Aa6;have g1:=(Cp (Bb (Cp Aa6) hq7))
           have g2:=((Cp (g1.trans hq9))).le;have g3:=BX r14;have g4:=Afs Ao7;omega
          have hxl:=hSx.len
          go_wp2
          refine⟨⟨m,ms++[(nm,v9)],Bz r14,by rw[Am1];simp only[Apn,Ao7],by omega,Bj1,h15,Blu.keep k15 hmb,fun y hy=>?_,A74.keep k15,A77.trans (E5.of k15)⟩,?_⟩
          ·rcases B5.1 hy with hy|hy
           ·exact hBx y hy
           ·simp at hy;subst hy;exact QS
          ·have hp3:Cn t x<Cn t (Bz r14):=by unfold Cn;omega
           have hp4:Cn t (Bz r14)<=t.size:=Nat.sub_le _ _;simp only[h15.c1,hat.c1,Jd];omega
end
def Bg(c:Int):Al->List Al
 |[]=>[[]]
 |x::r=>if x=c then []::Bg c r else match Bg c r with
  |h::t=>(x::h)::t
  |[]=>[[x]]
theorem Rx(c:Int)(l:Al):Bg c l≠[]:=by
 cases l with
 |nil=>simp[Bg]
 |cons x r=>
  unfold Bg;split
  ·simp
  ·cases Bg c r<;>simp
def B1(c:Int)(l:Al):Al:=l.takeWhile (fun x=>x != c)
theorem OG(c:Int):∀(l:Al),Bg c l=if (B1 c l).length<l.length then B1 c l::Bg c (l.drop ((B1 c l).length+1)) else [l]
 |[]=>rfl
 |x::r=>by
  by_cases h:x=c
  ·subst h;have e:B1 x (x::r)=[]:=by unfold B1;rw[List.takeWhile_cons_of_neg (by simp)]
   have e2:Bg x (x::r)=[]::Bg x r:=by
    show (if x=x then []::Bg x r else _)=_;rw[Cr rfl]
   rw[e,Cr (by simp),e2];rfl
  ·have e:B1 c (x::r)=x::B1 c r:=by unfold B1;rw[List.takeWhile_cons_of_pos (by simp[h])]
   have e2:Bg c (x::r)=match Bg c r with|a::t=>(x::a)::t|[]=>[[x]]:=by
    show (if x=c then []::Bg c r else _)=_;rw[B3 h]
   rw[e,e2,OG c r];by_cases g:(B1 c r).length<r.length
   ·rw[Cr g,Cr (by simp;omega)]
    rfl
   ·rw[B3 g,B3 (by simp;omega)]
def DW(x:Int):Bool:=decide (48<=x)&&decide (x<=57)
def ltB(x:Int):Bool:=(decide (97<=x)&&decide (x<=122))||DW x
def Ll(l:Al):Bool:=decide (1<=l.length)&&decide (l.length<=63) && !(l.head?==some 45) && !(l.getLast?==some 45)&&l.all (fun x=>ltB x||x==45)
def U8(l:Al):Int:=
 if 100<l.length then 8 else if (Bg 46 l).all Ll=false then 2 else if ((Bg 46 l).getLastD []).all DW=true then 2 else 0
def FS(l:Al):Int:=l.foldl (fun n x=>10*n+(x-48)) 0
def Kd(l:Al):Bool:=decide (1<=l.length)&&decide (l.length<=5) && !(l.head?==some 48)&&l.all DW
def dfl(s:Bool):Int:=if s=true then 443 else 80
def AO(s:Bool)(r:Al):Int:=
 let nm:=B1 58 r
 if U8 nm≠0 then U8 nm else if nm.length=r.length then 0 else
  if Kd (r.drop (nm.length+1))=true/\FS (r.drop (nm.length+1))<=65535/\FS (r.drop (nm.length+1))≠dfl s then 0 else 2
def E0(l:Al):Int:=
 if [104,116,116,112,115,58,47,47].isPrefixOf l=true then AO true (l.drop 8)
 else if [104,116,116,112,58,47,47].isPrefixOf l=true then AO false (l.drop 7) else 2
section
variable {xs:FuncId->Option (Ae->Option Bv)}(fu d:Nat)(call:Ap)
theorem V9{p:Option (Ae->Option Bv)}(fu d:Nat)(Z Y:ByteArray):Ac (CP p) prog fu (d+1) 199 [Z,Y]=(fun (call:Ap)=>Dl (call 207 [Z,Y]) fun a b=>Ax a fun a=>Ak b<|Aw (!a) (Bk [Z,false]) (As (decide (Int.toNat (↑(ByteArray.size Y):Int)<=ByteArray.size Z)&&decide (ByteArray.size Z<=ByteArray.size Z))<|Aa (ByteArray.extract Z (Int.toNat (↑(ByteArray.size Y):Int)) (ByteArray.size Z)) fun a=>Bk [a,true])) (Ac (CP p) prog fu d):=by kernel_rfl
theorem DS{p:Option (Ae->Option Bv)}(fu d:Nat)(Z Y:ByteArray):Ac (CP p) prog fu (d+1) 179 [Z,Y]=(fun (call:Ap)=>Dl (call 199 [Z,Y]) fun a b=>Bd a fun a=>Gv b fun b=>Bk [a,b]) (Ac (CP p) prog fu d):=by kernel_rfl
theorem KZ{p:Option (Ae->Option Bv)}(fu d:Nat)(Z Y:ByteArray):Ac (CP p) prog fu (d+1) 200 [Z,Y]=(fun (call:Ap)=>Gt .i64 (call 212 [Z,Y]) fun a=>Aw (decide (a>=0)) (As (decide (0<=a))<|As (decide (a.toNat<=ByteArray.size Z))<|Aa (ByteArray.extract Z 0 a.toNat) fun b=>Aa (wrap .i64 (a+(↑(ByteArray.size Y):Int))) fun a=>As (decide (0<=a))<|As (decide (a.toNat<=ByteArray.size Z)&&decide (ByteArray.size Z<=ByteArray.size Z))<|Aa (ByteArray.extract Z a.toNat (ByteArray.size Z)) fun a=>Bk [b,a,true]) (Bk [Z,Bl ⟨#[]⟩,false])) (Ac (CP p) prog fu d):=by kernel_rfl
theorem XC{p:Option (Ae->Option Bv)}(fu d:Nat)(Z Y:ByteArray):Ac (CP p) prog fu (d+1) 180 [Z,Y]=(fun (call:Ap)=>Dl (call 200 [Z,Y]) fun a b=>Bd a fun a=>Ad b fun b c=>Bd b fun b=>Gv c fun c=>Bk [a,b,c]) (Ac (CP p) prog fu d):=by kernel_rfl
theorem PK{p:Option (Ae->Option Bv)}(fu d:Nat)(Z Y:ByteArray):Ac (CP p) prog fu (d+1) 230 [Z,Y]=(fun (call:Ap)=>Gt .i64 (call 212 [Z,Y]) fun a=>Bk [a]) (Ac (CP p) prog fu d):=by kernel_rfl
theorem DO{p:Option (Ae->Option Bv)}(fu d:Nat)(Y Z:ByteArray):Ac (CP p) prog fu (d+1) 212 [Y,Z]=(fun (call:Ap)=>Aw ((↑(ByteArray.size Z):Int)==0) (Bk [(0:Int)]) (Aw (Array.toList (ByteArray.data Z)==Array.toList (ByteArray.data Y)) (Bk [(0:Int)]) (Aw ((↑(ByteArray.size Z):Int)==1) (D4 ((Array.toList (ByteArray.data Z))[0]?) fun a=>Gt .i64 (call 190 [Y,.sc (.int .u8 (↑(UInt8.toNat a):Int))]) fun a=>Bk [a]) (Aw (decide ((↑(ByteArray.size Z):Int)>=(↑(ByteArray.size Y):Int))) (Bk [(-1:Int)]) none)))) (Ac (CP p) prog fu d):=by kernel_rfl
def F1(Z Y:ByteArray)(X W:Int)(V:Nat)(U T:ByteArray)(S Q:Int)(P:Nat)(O:Int)(N:Ae):Option Bv:=Kk fu call 213 Tryz.f213 [Z,Y,X,W] [.r,.r,.r,.r,.r,.r,.r,.r,.l,.l] V ⟨lk [(0,U),(1,T),(2,S),(3,Q),(9,.view 9 1 0 P),(10,O)],C4 [(9,.ar false N)]⟩
theorem Zw(S Q:ByteArray)(P O:Int)(N:Nat)(Y V:ByteArray)(U T:Int)(X:Nat)(Z:Int)(W:Ae):F1 fu call S Q P O (N+1) Y V U T X Z W=(Aw (decide (Z<T)) (Gt .i64 (call 230 [Y,V]) fun a=>Aw (decide (a<0)) (As (decide (0<=Z)&&decide (Z<(↑X:Int)))<|As (decide (0+Z.toNat*1+1<=W.length))<|Aa (B6 W [Y] (0+Z.toNat*1)) fun a=>Aa (wrap .i64 (Z+1)) fun b=>As (decide (0<=b))<|As (decide (b.toNat<=X))<|Aa (b.toNat-0) fun b=>As (decide (b*1<=a.length))<|Bk [.own 1 b (a.take (b*1))]) (Aa (wrap .i64 (a+U)) fun b=>As (decide (0<=b))<|As (decide (b.toNat<=ByteArray.size Y))<|Aa (ByteArray.extract Y 0 b.toNat) fun b=>As (decide (0<=Z)&&decide (Z<(↑X:Int)))<|As (decide (0+Z.toNat*1+1<=W.length))<|Aa (B6 W [b] (0+Z.toNat*1)) fun b=>Aa (wrap .i64 (a+(↑(ByteArray.size V):Int))) fun a=>As (decide (0<=a))<|As (decide (a.toNat<=ByteArray.size Y)&&decide (ByteArray.size Y<=ByteArray.size Y))<|Aa (ByteArray.extract Y a.toNat (ByteArray.size Y)) fun a=>Aa (wrap .i64 (Z+1)) fun c=>F1 fu call S Q P O N a V U T X c b)) (As (decide (0<=Z)&&decide (Z<(↑X:Int)))<|As (decide (0+Z.toNat*1+1<=W.length))<|Aa (B6 W [Y] (0+Z.toNat*1)) fun a=>Aa (wrap .i64 (Z+1)) fun b=>As (decide (0<=b))<|As (decide (b.toNat<=X))<|Aa (b.toNat-0) fun b=>As (decide (b*1<=a.length))<|Bk [.own 1 b (a.take (b*1))])):=by kernel_rfl
theorem FT{p:Option (Ae->Option Bv)}(fu d:Nat)(Z X:ByteArray)(W Y:Int):Ac (CP p) prog fu (d+1) 213 [Z,X,W,Y]=(fun (call:Ap)=>Aw (Y==0) (Bk [.own 1 0 []]) (Aw (Array.toList (ByteArray.data X)==Array.toList (ByteArray.data (ByteArray.mk #[]))) (Dl (call 228 [Z,Y]) fun a b=>Kf 1 a fun a c=>Ak b<|As (decide (a*1<=c.length))<|Bk [.own 1 a (c.take (a*1))]) (Aw (decide (Y<0)) (Gt .i64 (call 229 [Z,X]) fun a=>Aa (wrap .i64 (a+1)) fun a=>Aa (wrap .i64 ((↑(ByteArray.size Z):Int)+1)) fun b=>Aa (if b<a then b else a) fun a=>As (decide (0<=a)&&decide (a<=a)&&decide (a*16<=1099511627776)&&decide (a<=1099511627776))<|Aa (wrap .i64 (a-1)) fun b=>F1 fu call Z X W Y fu Z X W b a.toNat 0 (Tx a.toNat [Bl ⟨#[]⟩])) (Aa (wrap .i64 ((↑(ByteArray.size Z):Int)+1)) fun a=>Aa (if a<Y then a else Y) fun a=>As (decide (0<=a)&&decide (a<=a)&&decide (a*16<=1099511627776)&&decide (a<=1099511627776))<|Aa (wrap .i64 (a-1)) fun b=>F1 fu call Z X W Y fu Z X W b a.toNat 0 (Tx a.toNat [Bl ⟨#[]⟩]))))) (Ac (CP p) prog fu d):=by kernel_rfl
theorem QC{p:Option (Ae->Option Bv)}(fu d:Nat)(Z Y:ByteArray):Ac (CP p) prog fu (d+1) 201 [Z,Y]=(fun (call:Ap)=>Dl (call 213 [Z,Y,(0:Int),(-1:Int)]) fun a b=>Kf 1 a fun a c=>Ak b<|As (decide (a*1<=c.length))<|Bk [.own 1 a (c.take (a*1))]) (Ac (CP p) prog fu d):=by kernel_rfl
def Bs(Z:ByteArray)(Y:Nat)(X:ByteArray)(W V:Int):Option Bv:=Kk fu call 202 Tryz.f202 [Z] [.r,.r,.l,.r,.l] Y ⟨lk [(0,X),(16,W),(17,V)],C4 []⟩
theorem Qc(W:ByteArray)(V:Nat)(Y:ByteArray)(X Z:Int):Bs fu call W (V+1) Y X Z=(Aw (decide (Z<X)) (As (decide (0<=Z))<|D4 ((Array.toList (ByteArray.data Y))[Z.toNat]?) fun a=>Aw (decide (97<=(↑(UInt8.toNat a):Int))) (Aw (decide ((↑(UInt8.toNat a):Int)<=122)) (Aw ((↑(UInt8.toNat a):Int)==45) (Aw (decide (Z>0)) (Aa (wrap .i64 ((↑(ByteArray.size Y):Int)-1)) fun a=>Aa (wrap .i64 (Z+1)) fun a=>Bs fu call W V Y X a) (Aa (wrap .i64 (Z+1)) fun a=>Bs fu call W V Y X a)) (Aa (wrap .i64 (Z+1)) fun a=>Bs fu call W V Y X a)) (Aw (decide (48<=(↑(UInt8.toNat a):Int))) (Aw ((↑(UInt8.toNat a):Int)==45) (Aw (decide (Z>0)) (Aa (wrap .i64 ((↑(ByteArray.size Y):Int)-1)) fun b=>Aw (!decide ((↑(UInt8.toNat a):Int)<=57)) (Aw (!decide (Z<b)) (Bk [false]) (Aa (wrap .i64 (Z+1)) fun a=>Bs fu call W V Y X a)) (Aa (wrap .i64 (Z+1)) fun a=>Bs fu call W V Y X a)) (Aw (!decide ((↑(UInt8.toNat a):Int)<=57)) (Bk [false]) (Aa (wrap .i64 (Z+1)) fun a=>Bs fu call W V Y X a))) (Aw (!decide ((↑(UInt8.toNat a):Int)<=57)) (Bk [false]) (Aa (wrap .i64 (Z+1)) fun a=>Bs fu call W V Y X a))) (Aw ((↑(UInt8.toNat a):Int)==45) (Aw (decide (Z>0)) (Aa (wrap .i64 ((↑(ByteArray.size Y):Int)-1)) fun a=>Aw (!decide (Z<a)) (Bk [false]) (Aa (wrap .i64 (Z+1)) fun a=>Bs fu call W V Y X a)) (Bk [false])) (Bk [false])))) (Aw (decide (48<=(↑(UInt8.toNat a):Int))) (Aw ((↑(UInt8.toNat a):Int)==45) (Aw (decide (Z>0)) (Aa (wrap .i64 ((↑(ByteArray.size Y):Int)-1)) fun b=>Aw (!decide ((↑(UInt8.toNat a):Int)<=57)) (Aw (!decide (Z<b)) (Bk [false]) (Aa (wrap .i64 (Z+1)) fun a=>Bs fu call W V Y X a)) (Aa (wrap .i64 (Z+1)) fun a=>Bs fu call W V Y X a)) (Aw (!decide ((↑(UInt8.toNat a):Int)<=57)) (Bk [false]) (Aa (wrap .i64 (Z+1)) fun a=>Bs fu call W V Y X a))) (Aw (!decide ((↑(UInt8.toNat a):Int)<=57)) (Bk [false]) (Aa (wrap .i64 (Z+1)) fun a=>Bs fu call W V Y X a))) (Aw ((↑(UInt8.toNat a):Int)==45) (Aw (decide (Z>0)) (Aa (wrap .i64 ((↑(ByteArray.size Y):Int)-1)) fun a=>Aw (!decide (Z<a)) (Bk [false]) (Aa (wrap .i64 (Z+1)) fun a=>Bs fu call W V Y X a)) (Bk [false])) (Bk [false])))) (Bk [true])):=by kernel_rfl
theorem IL{p:Option (Ae->Option Bv)}(fu d:Nat)(Z:ByteArray):Ac (CP p) prog fu (d+1) 202 [Z]=(fun (call:Ap)=>Aw (decide ((↑(ByteArray.size Z):Int)<1)) (Bk [false]) (Aw (decide ((↑(ByteArray.size Z):Int)>63)) (Bk [false]) (Bs fu call Z fu Z ((↑(ByteArray.size Z):Int)) 0))) (Ac (CP p) prog fu d):=by kernel_rfl
def J0(Z:ByteArray)(Y X W:Nat)(V U:Int)(T:Ae):Option Bv:=Kk fu call 181 Tryz.f181 [Z] [.r,.r,.r,.l,.r,.l] Y ⟨lk [(3,.view 3 1 0 X),(11,.view 3 1 0 W),(12,V),(13,U)],C4 [(3,.ar false T)]⟩
theorem Th(U:ByteArray)(T Y W:Nat)(V Z:Int)(X:Ae):J0 fu call U (T+1) Y W V Z X=(Aw (decide (Z<V)) (As (decide (0<=Z)&&decide (Z<(↑W:Int)))<|Bd (X.getD (0+Z.toNat*1) .top) fun a=>Dl (call 202 [a]) fun a b=>Ax a fun a=>Ak b<|Aw (!a) (Bk [(2:Int)]) (Aa (wrap .i64 (Z+1)) fun a=>J0 fu call U T Y W V a X)) (Aa (wrap .i64 ((↑Y:Int)-1)) fun a=>As (decide (0<=a)&&decide (a<(↑Y:Int)))<|Bd (X.getD (0+a.toNat*1) .top) fun a=>Dl (call 203 [a,Bl ⟨#[48,49,50,51,52,53,54,55,56,57]⟩]) fun a b=>Bd a fun a=>Ak b<|Aw (Array.toList (ByteArray.data a)==Array.toList (ByteArray.data (ByteArray.mk #[]))) (Bk [(2:Int)]) (Bk [(0:Int)]))):=by kernel_rfl
theorem QD{p:Option (Ae->Option Bv)}(fu d:Nat)(Z:ByteArray):Ac (CP p) prog fu (d+1) 181 [Z]=(fun (call:Ap)=>Aw (decide ((↑(ByteArray.size Z):Int)>100)) (Bk [(8:Int)]) (Dl (call 201 [Z,Bl ⟨#[46]⟩]) fun a b=>Kf 1 a fun a c=>Ak b<|J0 fu call Z fu a a (↑a:Int) 0 c)) (Ac (CP p) prog fu d):=by kernel_rfl
theorem BG{p:Option (Ae->Option Bv)}(fu d:Nat)(Z:Bool):Ac (CP p) prog fu (d+1) 182 [Z]=(fun (call:Ap)=>Aw Z (Bk [(443:Int)]) (Bk [(80:Int)])) (Ac (CP p) prog fu d):=by kernel_rfl
def Hi(Z:ByteArray)(Y:Nat)(X:ByteArray)(W V U:Int):Option Bv:=Kk fu call 183 Tryz.f183 [Z] [.r,.r,.r,.l,.r,.l] Y ⟨lk [(0,X),(4,W),(21,V),(22,U)],C4 []⟩
theorem Nv(V:ByteArray)(U:Nat)(X:ByteArray)(Y W Z:Int):Hi fu call V (U+1) X Y W Z=(Aw (decide (Z<W)) (As (decide (0<=Z))<|D4 ((Array.toList (ByteArray.data X))[Z.toNat]?) fun a=>Aw (decide ((↑(UInt8.toNat a):Int)<48)) (Bk [(0:Int),false]) (Aw (decide ((↑(UInt8.toNat a):Int)>57)) (Bk [(0:Int),false]) (Aa (wrap .i64 (10*Y)) fun b=>Aa (wrap .u8 ((↑(UInt8.toNat a):Int)-48)) fun a=>Aa (wrap .i64 a) fun a=>Aa (wrap .i64 (b+a)) fun a=>Aa (wrap .i64 (Z+1)) fun b=>Hi fu call V U X a W b))) (Bk [Y,De (decide (Y<=65535))])):=by kernel_rfl
theorem FM{p:Option (Ae->Option Bv)}(fu d:Nat)(Z:ByteArray):Ac (CP p) prog fu (d+1) 183 [Z]=(fun (call:Ap)=>Aw (decide ((↑(ByteArray.size Z):Int)<1)) (Bk [(0:Int),false]) (Aw (decide ((↑(ByteArray.size Z):Int)>5)) (Bk [(0:Int),false]) (D4 ((Array.toList (ByteArray.data Z))[0]?) fun a=>Aw ((↑(UInt8.toNat a):Int)==48) (Bk [(0:Int),false]) (Hi fu call Z fu Z 0 ((↑(ByteArray.size Z):Int)) 0)))) (Ac (CP p) prog fu d):=by kernel_rfl
theorem TM{p:Option (Ae->Option Bv)}(fu d:Nat)(Z:ByteArray):Ac (CP p) prog fu (d+1) 157 [Z]=(fun (call:Ap)=>Dl (call 179 [Z,Bl ⟨#[104,116,116,112,115,58,47,47]⟩]) fun a b=>Bd a fun a=>Gv b fun b=>Aw (!b) (Dl (call 179 [Z,Bl ⟨#[104,116,116,112,58,47,47]⟩]) fun a c=>Bd a fun a=>Gv c fun c=>Aw (!c) (Bk [.agg [false,Bl ⟨#[]⟩,(0:Int)],(2:Int)]) (Dl (call 180 [a,Bl ⟨#[58]⟩]) fun a c=>Bd a fun a=>Ad c fun c e=>Bd c fun c=>Gv e fun e=>Gt .i64 (call 181 [a]) fun f=>Aw (f != 0) (Bk [.agg [false,Bl ⟨#[]⟩,(0:Int)],f]) (Gt .i64 (call 182 [b]) fun f=>Aw e (Dl (call 183 [c]) fun c e=>Bq .i64 c fun c=>Gv e fun e=>Aw (!e) (Bk [.agg [false,Bl ⟨#[]⟩,(0:Int)],(2:Int)]) (Aw (c==f) (Bk [.agg [false,Bl ⟨#[]⟩,(0:Int)],(2:Int)]) (Bk [.agg [b,a,c],(0:Int)]))) (Bk [.agg [b,a,f],(0:Int)])))) (Dl (call 180 [a,Bl ⟨#[58]⟩]) fun a c=>Bd a fun a=>Ad c fun c e=>Bd c fun c=>Gv e fun e=>Gt .i64 (call 181 [a]) fun f=>Aw (f != 0) (Bk [.agg [false,Bl ⟨#[]⟩,(0:Int)],f]) (Gt .i64 (call 182 [b]) fun f=>Aw e (Dl (call 183 [c]) fun c e=>Bq .i64 c fun c=>Gv e fun e=>Aw (!e) (Bk [.agg [false,Bl ⟨#[]⟩,(0:Int)],(2:Int)]) (Aw (c==f) (Bk [.agg [false,Bl ⟨#[]⟩,(0:Int)],(2:Int)]) (Bk [.agg [b,a,c],(0:Int)]))) (Bk [.agg [b,a,f],(0:Int)])))) (Ac (CP p) prog fu d):=by kernel_rfl
def Df(Z:ByteArray)(Y:Nat)(X:ByteArray)(W:Nat)(V:Ae):Option Bv:=Kk fu call 156 Tryz.f156 [Z] [.r,.r,.r,.l,.l] Y ⟨lk [(0,X),(4,.view 4 1 0 W)],C4 [(4,.ar false V)]⟩
def Dg(Z:ByteArray)(Y X:Nat)(W:ByteArray)(V:Nat)(U T:Int)(S Q:Int)(P:Ae):Option Bv:=Kk fu call 156 Tryz.f156 [Z] [.r,.r,.r,.l,.l,.i Y,.r,.l,.r,.r,.l,.r,.l] X ⟨lk [(0,W),(4,.view 4 1 0 V),(5,U),(6,.sc (.int .u32 T)),(28,S),(29,Q)],C4 [(4,.ar false P)]⟩
def Dh(Z:ByteArray)(Y X:Nat)(W:ByteArray)(V:Nat)(U:Int)(T S:Nat)(Q P:Int)(O N:Ae):Option Bv:=Kk fu call 156 Tryz.f156 [Z] [.r,.r,.r,.l,.l,.i Y,.r,.l,.r,.r,.r,.r,.l,.r,.l] X ⟨lk [(0,W),(4,.view 4 1 0 V),(5,U),(9,.ptr 9 0),(58,.view 9 1 T S),(59,Q),(60,P)],C4 [(4,.ar false O),(9,.ar false N)]⟩
theorem Jk(W:ByteArray)(V:Nat)(Z:ByteArray)(Y:Nat)(X:Ae):Df fu call W (V+1) Z Y X=(Aw (decide ((↑(ByteArray.size Z):Int)>0)) (Aa (if (↑(ByteArray.size Z):Int)<4 then (↑(ByteArray.size Z):Int) else 4) fun a=>Dg fu call W V fu Z Y a 0 a 0 X) (As (decide (Y*1<=X.length))<|Bk [.own 1 Y (X.take (Y*1)),(0:Int)])):=by kernel_rfl
theorem Js(V:ByteArray)(U P:Nat)(X:ByteArray)(T:Nat)(W Y:Int)(S Z:Int)(Q:Ae):Dg fu call V U (P+1) X T W Y S Z Q=(Aw (decide (Z<S)) (As (decide (0<=Z))<|D4 ((Array.toList (ByteArray.data X))[Z.toNat]?) fun a=>Gt .i64 (call 175 [Bl ⟨#[65,66,67,68,69,70,71,72,73,74,75,76,77,78,79,80,81,82,83,84,85,86,87,88,89,90,97,98,99,100,101,102,103,104,105,106,107,108,109,110,111,112,113,114,115,116,117,118,119,120,121,122,48,49,50,51,52,53,54,55,56,57,45,95]⟩,.sc (.int .u8 (↑(UInt8.toNat a):Int))]) fun a=>Aw (decide (a<0)) (Bk [.own 1 0 [],(2:Int)]) (Aa (wrap .u32 a) fun a=>Aa (wrap .i64 (6*Z)) fun b=>Aa (wrap .i64 (18-b)) fun b=>As (decide (0<=b))<|Aa (Eu .u32 a b) fun a=>Aa (Xr .u32 Y a) fun a=>Aa (wrap .i64 (Z+1)) fun b=>Dg fu call V U P X T W a S b Q)) (Aa (Hc .u32 Y 16) fun a=>Aa (wrap .u8 a) fun a=>Aa (Hc .u32 Y 8) fun b=>Aa (wrap .u8 b) fun b=>Aa (wrap .u8 Y) fun c=>Aa (wrap .i64 (W-1)) fun e=>As (decide (0<=e))<|As (decide (e.toNat<=3)&&true)<|Aa (0+e.toNat*1) fun f=>Aa (3-e.toNat) fun e=>Dh fu call V U fu X T W f e (↑e:Int) 0 Q ([.sc (.int .u8 a),.sc (.int .u8 b),.sc (.int .u8 c)]))):=by kernel_rfl
theorem Jh(T:ByteArray)(S N:Nat)(Z:ByteArray)(Y:Nat)(W:Int)(Q P:Nat)(O V:Int)(U X:Ae):Dh fu call T S (N+1) Z Y W Q P O V U X=(Aw (decide (V<O)) (As (decide (0<=V)&&decide (V<(↑P:Int)))<|Bq .u8 (X.getD (Q+V.toNat*1) .top) fun a=>Aw (a != 0) (Bk [.own 1 0 [],(2:Int)]) (Aa (wrap .i64 (V+1)) fun a=>Dh fu call T S N Z Y W Q P O a U X)) (Aa (wrap .i64 (W-1)) fun a=>As (decide (3<=X.length)&&true)<|As (decide (0<=a))<|As (decide (a.toNat<=3))<|Aa (a.toNat-0) fun a=>As (decide (0+a*1<=X.length))<|As (decide (Y*1<=U.length)&&decide (List.length (List.take (a*1) (X.drop 0))=a*1)&&decide ((Y+a)*1<=1099511627776)&&decide (Y+a<=1099511627776))<|Aa (Y+a) fun b=>Aa (List.take (Y*1) U++List.take (a*1) (X.drop 0)) fun a=>As (decide (0<=W))<|As (decide (W.toNat<=ByteArray.size Z)&&decide (ByteArray.size Z<=ByteArray.size Z))<|Aa (ByteArray.extract Z W.toNat (ByteArray.size Z)) fun c=>Df fu call T S c b a)):=by kernel_rfl
theorem V0{p:Option (Ae->Option Bv)}(fu d:Nat)(Z:ByteArray):Ac (CP p) prog fu (d+1) 156 [Z]=(fun (call:Ap)=>Aa (Int.tmod (↑(ByteArray.size Z):Int) 4) fun a=>Aw (a==1) (Bk [.own 1 0 [],(2:Int)]) (Aa (wrap .i64 (Int.tdiv (↑(ByteArray.size Z):Int) 4)) fun a=>Aa (wrap .i64 (a*3)) fun a=>Aa (wrap .i64 (a+2)) fun a=>As (decide (0<=a)&&decide (a*1<=1099511627776)&&decide (a<=1099511627776))<|Df fu call Z fu Z 0 ([]))) (Ac (CP p) prog fu d):=by kernel_rfl
end
theorem Atn{a b:Int}(ha:0<=a/\a<=255)(hb:0<=b/\b<=255):(a.toNat.toUInt8==b.toNat.toUInt8)=decide (a=b):=by
 rw[Bool.eq_iff_iff,beq_iff_eq,decide_eq_true_iff];constructor
 ·intro h;have:=congrArg UInt8.toNat h;have e1:a.toNat.toUInt8.toNat=a.toNat % 256:=by rw[Nat.toUInt8,UInt8.toNat_ofNat']
  have e2:b.toNat.toUInt8.toNat=b.toNat % 256:=by rw[Nat.toUInt8,UInt8.toNat_ofNat']
  rw[e1,e2] at this;omega
 ·rintro rfl;rfl
theorem Oh{c:Int}(hc:0<=c/\c<=255):((c.toNat.toUInt8.toNat:Nat):Int)=c:=by rw[Nat.toUInt8,UInt8.toNat_ofNat'];omega
theorem Aeq{c x:Int}(r:Al)(e:x≠c):B1 c (x::r)=x::B1 c r:=by unfold B1;rw[List.takeWhile_cons_of_pos (by simp[e])]
theorem Acq{c:Int}(r:Al):B1 c (c::r)=[]:=by unfold B1;rw[List.takeWhile_cons_of_neg (by simp)]
theorem R4(c:Int)(l:Al):B1 c l=l.take (B1 c l).length:=by have h:B1 c l <+: l:=List.takeWhile_prefix _;exact List.prefix_iff_eq_take.1 h
theorem QY(c:Int)(l:Al):(B1 c l).length<=l.length:=by have h:B1 c l <+: l:=List.takeWhile_prefix _;exact h.length_le
theorem Al1(c:Int)(l:Al)(h:¬(B1 c l).length<l.length):B1 c l=l:=by have:=QY c l;rw[R4 c l,Hz (by omega)]
def MY(c:Int)(l:Al):Int:=if (B1 c l).length<l.length then ((B1 c l).length:Int) else -1
theorem Alf{c:Int}(hc:0<=c/\c<=255):∀{l:Al},Cz l->Lib.indexByte (l.map fun n=>n.toNat.toUInt8) c.toNat.toUInt8=MY c l
 |[],_=>rfl
 |x::r,h=>by
  obtain⟨hx,hr⟩:=D5 h;have ih:=Alf hc hr;show (if (x.toNat.toUInt8==c.toNat.toUInt8)=true then (0:Int) else if (Lib.indexByte (r.map fun n=>n.toNat.toUInt8) c.toNat.toUInt8 == -1)=true then -1 else Lib.indexByte (r.map fun n=>n.toNat.toUInt8) c.toNat.toUInt8+1)=_;rw[Atn hx hc,ih];by_cases e:x=c
  ·subst e;unfold MY;rw[Acq];simp
  ·unfold MY;rw[Aeq r e];simp only[GF,e,if_false,Tm];by_cases g:(B1 c r).length<r.length
   ·simp only[Cr g,Cr (show (B1 c r).length+1<r.length+1 by omega)];rw[B3 (show ¬(((((B1 c r).length:Int)) == -1)=true) by rw[beq_iff_eq];omega)]
    omega
   ·simp only[B3 g,B3 (show ¬(B1 c r).length+1<r.length+1 by omega)];rfl
theorem Aae{c:Int}(hc:0<=c/\c<=255):∀{l:Al},Cz l->(l.map fun n=>n.toNat.toUInt8).count c.toNat.toUInt8+1=(Bg c l).length
 |[],_=>rfl
 |x::r,h=>by
  obtain⟨hx,hr⟩:=D5 h;have ih:=Aae hc hr;rw[X4,List.count_cons,Atn hx hc];unfold Bg;by_cases e:x=c
  ·rw[Cr e,Cr (by simp[e]),Tm,<-ih]
  ·rw[B3 e,B3 (by simp[e])];cases hs:Bg c r with
   |nil=>exact absurd hs (Rx c r)
   |cons a t=>
    rw[hs] at ih
    simpa using ih
theorem DJ(c:Int):∀(l:Al),(Bg c l).length<=l.length+1
 |[]=>Ci _
 |x::r=>by
  have ih:=DJ c r;unfold Bg;split
  ·simp;omega
  ·cases hs:Bg c r with
   |nil=>simp
   |cons a t=>rw[hs] at ih;simp at ih ⊢;omega
theorem Aag(c:Int)(l:Al):1<=(Bg c l).length:=by
 have:=Rx c l;cases hs:Bg c l with
 |nil=>exact absurd hs this
 |cons a t=>simp
theorem Amd{a:Ae}{n:Nat}{x y:PV}{r:Ae}(h:a.length=n):(a++x::r).set n y=a++y::r:=by
 subst h
 induction a with
 |nil=>rfl
 |cons z a ih=>simp[ih]
theorem dle(n:Nat):decide (n<=n)=true:=by simp
section
variable {fu d:Nat}{p:Option (Ae->Option Bv)}
theorem Akg{c:Int}(hc:0<=c/\c<=255){l:Al}(hl:Cz l):Ac (CP p) prog fu (d+2) 212 [Bl (Ab l),Bl (Ab [c])]=some ⟨[Ar (MY c l)],[]⟩:=by
 have e:Ac (CP p) prog fu (d+1) 190 [Bl (Ab l),.sc (.int .u8 c)]=some ⟨[Ar (Lib.indexByte (Ab l).data.toList c.toNat.toUInt8)],[]⟩:=rfl;have e0:(Ab l).data.toList=l.map fun n=>n.toNat.toUInt8:=rfl;rw[e0,Alf hc hl] at e;have h0:((((Ab [c]).size:Nat):Int)==0)=false:=by rw[Ai];rfl
 have h1:((((Ab [c]).size:Nat):Int)==1)=true:=by rw[Ai];rfl
 have h2:(Array.toList (Ab [c]).data)[0]?=some c.toNat.toUInt8:=rfl;have h3:=Oh hc;rw[DO];by_cases g:[c]=l
 ·subst g;have h4:(Array.toList (Ab [c]).data==Array.toList (Ab [c]).data)=true:=by simp
  have h5:MY c [c]=0:=by unfold MY;rw[Acq];rfl
  simp only[Be,Bf,h0,h4,h5]
 ·have h4:(Array.toList (Ab [c]).data==Array.toList (Ab l).data)=false:=by
   rw[Bool.eq_false_iff,ne_eq,beq_iff_eq];intro q;apply g
   have q2:Ab [c]=Ab l:=by
    cases hx:Ab [c];cases hy:Ab l;rw[hx,hy] at q;exact congrArg ByteArray.mk (Array.toList_inj.1 q)
   have q3:=congrArg Cs q2
   rwa [C7 hl,C7 (fun x hx=>by simp at hx;omega)] at q3
  simp only[Be,Bf,h0,h4,h1,h2,h3,e]
theorem Arl{c:Int}(hc:0<=c/\c<=255){l:Al}(hl:Cz l):Ac (CP p) prog fu (d+3) 230 [Bl (Ab l),Bl (Ab [c])]=some ⟨[Ar (MY c l)],[]⟩:=by have e:Ac (CP p) prog fu (d+2) 212 [Bl (Ab l),Bl (Ab [c])]=_:=Akg (fu:=fu) (d:=d) (p:=p) hc hl;rw[PK];simp only[Be,Bf,e]
theorem Wo{l:Al}(hl:Cz l)(n:Nat):(Ab l).extract 0 n=Ab (l.take n):=by rw[LB,C7 hl]
theorem X5{l:Al}(hl:Cz l)(n:Nat):(Ab l).extract n l.length=Ab (l.drop n):=by
 have:=OT (s:=Ab l) (a:=n)
 rwa [Ai,C7 hl] at this
theorem Bai{c:Int}(hc:0<=c/\c<=255){l:Al}(hl:Cz l)(hs:l.length<=1000000):Ac (CP p) prog fu (d+4) 180 [Bl (Ab l),Bl (Ab [c])]=some ⟨[Bl (Ab (B1 c l)),Bl (Ab (l.drop ((B1 c l).length+1))),De (decide ((B1 c l).length<l.length))],[]⟩:=by
 have e:Ac (CP p) prog fu (d+2) 212 [Bl (Ab l),Bl (Ab [c])]=_:=Akg (fu:=fu) (d:=d) (p:=p) hc hl
 have e2:Ac (CP p) prog fu (d+3) 200 [Bl (Ab l),Bl (Ab [c])]=some ⟨[Bl (Ab (B1 c l)),Bl (Ab (l.drop ((B1 c l).length+1))),De (decide ((B1 c l).length<l.length))],[]⟩:=by
  refine (KZ (p:=p) fu (d+2) _ _).trans ?_;by_cases g:(B1 c l).length<l.length
  ·have hi:MY c l=(B1 c l).length:=by unfold MY;rw[Cr g]
   rw[hi] at e;have a1:decide (((B1 c l).length:Int)>=0)=true:=by simp
   have a2:decide ((0:Int)<=((B1 c l).length:Int))=true:=by simp
   have a3:decide (Int.toNat ((B1 c l).length:Int)<=l.length)=true:=by simp;omega
   have a4:(Ab l).extract 0 (Int.toNat ((B1 c l).length:Int))=Ab (B1 c l):=by
    rw[Jd,Wo hl,<-R4]
   have a5:wrap .i64 (((B1 c l).length:Int)+(([c].length:Nat):Int))=(((B1 c l).length+1:Nat):Int):=by
    rw[wrap_i64 (by simp;omega) (by simp;omega)];simp
   have a6:decide ((0:Int)<=(((B1 c l).length+1:Nat):Int))=true:=by simp;omega
   have a7:decide (Int.toNat (((B1 c l).length+1:Nat):Int)<=l.length)=true:=by simp;omega
   have a8:(Ab l).extract (Int.toNat (((B1 c l).length+1:Nat):Int)) l.length=Ab (l.drop ((B1 c l).length+1)):=by
    rw[Jd,X5 hl]
   have a9:decide ((B1 c l).length<l.length)=true:=by simpa using g
   simp only[Be,Bf,e,Ai,dle,a1,a2,a3,a4,a5,a6,a7,a8,a9]
  ·have hi:MY c l = -1:=by unfold MY;rw[B3 g]
   rw[hi] at e;have a1:decide ((-1:Int)>=0)=false:=rfl;have a9:decide ((B1 c l).length<l.length)=false:=by simpa using g
   have a10:l.drop ((B1 c l).length+1)=[]:=List.drop_eq_nil_of_le (by omega);have a11:(ByteArray.mk #[])=Ab []:=rfl;rw[a9,a10,Al1 c l g];simp only[Be,Bf,e,a1,a11]
 rw[XC];simp only[Be,Bf,e2]
theorem A1f{l w:Al}(hl:Cz l)(hw:Cz w):Ac (CP p) prog fu (d+4) 179 [Bl (Ab l),Bl (Ab w)]=some ⟨[Bl (Ab (if w.isPrefixOf l=true then l.drop w.length else l)),De (w.isPrefixOf l)],[]⟩:=by
 have e:Ac (CP p) prog fu (d+2) 207 [Bl (Ab l),Bl (Ab w)]=some ⟨[De (w.isPrefixOf l)],[]⟩:=A0q (xs:=Adb p) (fu:=fu) (d:=d+1) hl hw
 have e2:Ac (CP p) prog fu (d+3) 199 [Bl (Ab l),Bl (Ab w)]=some ⟨[Bl (Ab (if w.isPrefixOf l=true then l.drop w.length else l)),De (w.isPrefixOf l)],[]⟩:=by
  refine (V9 (p:=p) fu (d+2) _ _).trans ?_;cases hp:w.isPrefixOf l
  ·rw[hp] at e;simp only[Be,Bf,e,Gw,Bool.false_eq_true,if_false]
  ·rw[hp] at e;have Zi:w.length<=l.length:=(List.isPrefixOf_iff_prefix.1 hp).length_le;have a1:decide (Int.toNat ((w.length:Nat):Int)<=l.length)=true:=by simp;omega
   have a2:(Ab l).extract (Int.toNat ((w.length:Nat):Int)) l.length=Ab (l.drop w.length):=by rw[Jd,X5 hl]
   simp only[Be,Bf,e,Ai,dle,a1,a2,Fl,if_true]
 rw[DS];simp only[Be,Bf,e2]
def Y0(x:Al):PV:=Bl (Ab x)
theorem Ajx{c:Int}(hc:0<=c/\c<=255){a0 a1:ByteArray}{a2 a3:Int}{N:Nat}(hN:N<=1000000):∀(nn:Nat)(r:Al)(done:List Al),r.length+1<=nn->r.length<=1000000->Cz r->done.length+(Bg c r).length=N ->
  F1 fu (Ac (CP p) prog fu (d+3)) a0 a1 a2 a3 nn (Ab r) (Ab [c]) 0 ((N:Int)-1) N (done.length:Int) (done.map Y0++List.replicate (Bg c r).length (Bl ⟨#[]⟩))=some ⟨[.own 1 N ((done++Bg c r).map Y0)],[]⟩:=by
 intro nn
 induction nn with
 |zero=>intro r done h;omega
 |succ k ih=>
  intro r done hk hr6 hr hn;have e:Ac (CP p) prog fu (d+3) 230 [Bl (Ab r),Bl (Ab [c])]=_:=Arl (fu:=fu) (d:=d) (p:=p) hc hr;rw[Zw];have Fn:=OG c r;by_cases g:(B1 c r).length<r.length
  ·rw[Cr g] at Fn;have hi:MY c r=(B1 c r).length:=by unfold MY;rw[Cr g]
   rw[hi] at e;have hp:=Aag c (r.drop ((B1 c r).length+1));have Ws:(Bg c r).length=(Bg c (r.drop ((B1 c r).length+1))).length+1:=by rw[Fn];simp
   have a0:decide ((done.length:Int)<(N:Int)-1)=true:=by simp;omega
   have a1:decide (((B1 c r).length:Int)<0)=false:=by simp
   have a2:wrap .i64 (((B1 c r).length:Int)+0)=((B1 c r).length:Int):=B0
   have a3:decide ((0:Int)<=((B1 c r).length:Int))=true:=by simp
   have a4:decide (Int.toNat ((B1 c r).length:Int)<=r.length)=true:=by simp;omega
   have a5:(Ab r).extract 0 (Int.toNat ((B1 c r).length:Int))=Ab (B1 c r):=by rw[Jd,Wo hr,<-R4]
   have a6:(decide ((0:Int)<=(done.length:Int))&&decide ((done.length:Int)<(N:Int)))=true:=by simp;omega
   have a7:decide (0+Int.toNat (done.length:Int)*1+1<=List.length (done.map Y0++List.replicate (Bg c r).length (PV.sc (.string ⟨#[]⟩))))=true:=by simp;omega
   have a8:B6 (done.map Y0++List.replicate (Bg c r).length (PV.sc (.string ⟨#[]⟩))) [PV.sc (.string (Ab (B1 c r)))] (0+Int.toNat (done.length:Int)*1)=(done++[B1 c r]).map Y0++List.replicate (Bg c (r.drop ((B1 c r).length+1))).length (PV.sc (.string ⟨#[]⟩)):=by
    rw[Id (by simp;omega),Ws,List.replicate_succ,Jd,Ie,J1,Amd (by simp)]
    simp[Y0]
   have a9:wrap .i64 (((B1 c r).length:Int)+(([c].length:Nat):Int))=(((B1 c r).length+1:Nat):Int):=by
    rw[wrap_i64 (by simp;omega) (by simp;omega)];simp
   have b1:decide ((0:Int)<=(((B1 c r).length+1:Nat):Int))=true:=by simp;omega
   have b2:decide (Int.toNat (((B1 c r).length+1:Nat):Int)<=r.length)=true:=by simp;omega
   have b3:(Ab r).extract (Int.toNat (((B1 c r).length+1:Nat):Int)) r.length=Ab (r.drop ((B1 c r).length+1)):=by rw[Jd,X5 hr]
   have b4:wrap .i64 ((done.length:Int)+1)=(((done++[B1 c r]).length:Nat):Int):=by
    rw[Bn];simp
   have hd:=ih (r.drop ((B1 c r).length+1)) (done++[B1 c r]) (by simp;omega) (by simp;omega) ((fun x hx=>hr x (List.mem_of_mem_drop hx))) (by simp;omega)
   simp only[Be,Bf,e,Ai,dle,a0,a1,a2,a3,a4,a5,a6,a7,a8,a9,b1,b2,b3,b4];rw[hd,Fn];simp
  ·rw[B3 g] at Fn;have Ws:(Bg c r).length=1:=by rw[Fn];rfl
   have a0:decide ((done.length:Int)<(N:Int)-1)=false:=by simp;omega
   have a6:(decide ((0:Int)<=(done.length:Int))&&decide ((done.length:Int)<(N:Int)))=true:=by simp;omega
   have a7:decide (0+Int.toNat (done.length:Int)*1+1<=List.length (done.map Y0++List.replicate (Bg c r).length (PV.sc (.string ⟨#[]⟩))))=true:=by simp;omega
   have a8:B6 (done.map Y0++List.replicate (Bg c r).length (PV.sc (.string ⟨#[]⟩))) [PV.sc (.string (Ab r))] (0+Int.toNat (done.length:Int)*1)=(done++[r]).map Y0:=by
    rw[Id (by simp;omega),Ws,show List.replicate 1 (PV.sc (Value.string ⟨#[]⟩))=[PV.sc (.string ⟨#[]⟩)] from rfl,Jd,Ie,J1,Amd (by simp)]
    simp[Y0]
   have b4:wrap .i64 ((done.length:Int)+1)=(N:Int):=by
    rw[Bn];omega
   have b5:decide ((0:Int)<=(N:Int))=true:=by simp
   have b6:decide (Int.toNat (N:Int)<=N)=true:=by simp
   have b7:Int.toNat (N:Int)-0=N:=by simp
   have b8:decide (N*1<=List.length ((done++[r]).map Y0))=true:=by simp;omega
   have b9:List.take (N*1) ((done++[r]).map Y0)=(done++[r]).map Y0:=Hz (by simp;omega)
   simp only[Be,Bf,a0,a6,a7,a8,b4,b5,b6,b7,b8,b9];rw[Fn]
theorem Ay8{c:Int}(hc:0<=c/\c<=255){l:Al}(hl:Cz l)(hs:l.length<=999999)(B2:l.length+1<=fu):Ac (CP p) prog fu (d+5) 201 [Bl (Ab l),Bl (Ab [c])]=some ⟨[.own 1 (Bg c l).length ((Bg c l).map Y0)],[]⟩:=by
 have e:Ac (CP p) prog fu (d+4) 213 [Bl (Ab l),Bl (Ab [c]),Ar 0,Ar (-1)]=some ⟨[.own 1 (Bg c l).length ((Bg c l).map Y0)],[]⟩:=by
  refine (FT (p:=p) fu (d+3) _ _ _ _).trans ?_;have hn:=DJ c l;have hp:=Aag c l;have hcn:=Aae hc hl
  have e1:Ac (CP p) prog fu (d+3) 229 [Bl (Ab l),Bl (Ab [c])]=some ⟨[Ar (((Bg c l).length:Int)-1)],[]⟩:=by
   have:Ac (CP p) prog fu (d+3) 229 [Bl (Ab l),Bl (Ab [c])]=some ⟨[Ar (Lib.countByte (Ab l).data.toList c.toNat.toUInt8)],[]⟩:=rfl;rw[this]
   have e0:(Lib.countByte (Ab l).data.toList c.toNat.toUInt8:Int)=((Bg c l).length:Int)-1:=by
    have:Lib.countByte (Ab l).data.toList c.toNat.toUInt8+1=(Bg c l).length:=hcn;omega
   rw[e0]
  have a1:(((-1:Int))==0)=false:=rfl;have a2:(Array.toList (Ab [c]).data==Array.toList (ByteArray.mk #[]).data)=false:=rfl;have a3:decide ((-1:Int)<0)=true:=rfl;have a4:wrap .i64 (((Bg c l).length:Int)-1+1)=(Bg c l).length:=B0
  have a5:wrap .i64 ((l.length:Int)+1)=l.length+1:=by rw[Bn]
  have a6:(if ((l.length:Int)+1)<((Bg c l).length:Int) then ((l.length:Int)+1) else ((Bg c l).length:Int))=(Bg c l).length:=by rw[B3 (by omega)]
  have a7:decide ((0:Int)<=((Bg c l).length:Int))=true:=by simp
  have b7:decide (((Bg c l).length:Int)<=((Bg c l).length:Int))=true:=by simp
  have c7:decide (((Bg c l).length:Int)*16<=1099511627776)=true:=by simp;omega
  have d7:decide (((Bg c l).length:Int)<=1099511627776)=true:=by simp;omega
  have a8:wrap .i64 (((Bg c l).length:Int)-1)=((Bg c l).length:Int)-1:=Bn
  have a9:Tx (Bg c l).length [PV.sc (.string ⟨#[]⟩)]=List.replicate (Bg c l).length (PV.sc (.string ⟨#[]⟩)):=by
   unfold Tx
   induction (Bg c l).length with
   |zero=>rfl
   |succ k ih=>rw[List.replicate_succ,List.flatten_cons,ih];rfl
  have a10:Int.toNat ((Bg c l).length:Int)=(Bg c l).length:=Jd _;have hd:=Ajx (fu:=fu) (d:=d) (p:=p) hc (a0:=Ab l) (a1:=Ab [c]) (a2:=0) (a3:= -1) (N:=(Bg c l).length) (by omega) fu l [] B2 (by omega) hl (by simp);simp only[Be,Bf,e1,Ai,dle,a1,a2,a3,a4,a5,a6,a7,b7,c7,d7,a8,a9,a10];exact hd
 have b1:decide ((Bg c l).length*1<=List.length ((Bg c l).map Y0))=true:=by simp
 have b2:List.take ((Bg c l).length*1) ((Bg c l).map Y0)=(Bg c l).map Y0:=Hz (by simp);rw[QC];simp only[Be,Bf,e,b1,b2]
end
theorem Ack:∀n:Fin 256,Lib.indexByte Acd.data.toList (n.val:Int).toNat.toUInt8=if Cq (n.val:Int)<64 then Cq (n.val:Int) else -1:=by decide +kernel
theorem Au9{c:Int}(hc:0<=c/\c<=255):Lib.indexByte Acd.data.toList c.toNat.toUInt8=if Cq c<64 then Cq c else -1:=by obtain⟨n,rfl⟩:=Int.eq_ofNat_of_zero_le hc.1;exact Ack ⟨n,by omega⟩
theorem Bcd{y v:Int}(k:Nat)(hk:k<=18)(h0:0<=y)(hm:y % ((2 ^ (k+6):Nat):Int)=0)(hy:y<16777216)(hv0:0<=v)(hv:v<64):Xr .u32 y (Eu .u32 (wrap .u32 v) (k:Int))=y+v*((2 ^ k:Nat):Int):=by
 obtain⟨y,rfl⟩:=Int.eq_ofNat_of_zero_le h0;obtain⟨v,rfl⟩:=Int.eq_ofNat_of_zero_le hv0
 have e1:wrap .u32 (v:Int)=v:=by
  simp only[wrap,IntKind.bits,IntKind.signed,UR,Bool.false_eq_true,if_false];omega
 have Buj:2 ^ k<=2 ^ 18:=Nat.pow_le_pow_right (by omega) hk
 have hvk:v*2 ^ k<2 ^ k*64:=by
  rw[Nat.mul_comm];exact Nat.mul_lt_mul_of_pos_left (by omega) (Nat.pos_of_ne_zero (by simp))
 have e2:Eu .u32 (v:Int) (k:Int)=((v*2 ^ k:Nat):Int):=by
  show wrap .u32 ((v:Int)*2 ^ (min (k:Int).toNat IntKind.u32.bits))=_
  have:min (k:Int).toNat IntKind.u32.bits=k:=by
   rw[Jd];exact Nat.min_eq_left (by show k<=32;omega)
  rw[this];have:(v:Int)*2 ^ k=((v*2 ^ k:Nat):Int):=by simp
  rw[this];simp only[wrap,IntKind.bits,IntKind.signed,UR,Bool.false_eq_true,if_false];omega
 rw[e1,e2];have e3:=Bko y (v*2 ^ k) (by omega) (by omega);refine e3.trans ?_
 have hd:y=y / 2 ^ (k+6)*2 ^ (k+6):=by
  have:y % 2 ^ (k+6)=0:=by exact_mod_cast hm
  have:=Nat.div_add_mod y (2 ^ (k+6));rw[Nat.mul_comm] at this;omega
 have Ck:v*2 ^ k<2 ^ (k+6):=by rw[Nat.pow_add];exact hvk
 have:=Nat.shiftLeft_add_eq_or_of_lt Ck (y / 2 ^ (k+6));rw[Nat.shiftLeft_eq,<-hd] at this;rw[<-this];simp
section
variable {fu d:Nat}{p:Option (Ae->Option Bv)}
theorem A2k{c:Int}(hc:0<=c/\c<=255):Ac (CP p) prog fu (d+2) 175 [Bl Acd,.sc (.int .u8 c)]=some ⟨[Ar (if Cq c<64 then Cq c else -1)],[]⟩:=by have e:Ac (CP p) prog fu (d+1) 190 [Bl Acd,.sc (.int .u8 c)]=some ⟨[Ar (Lib.indexByte Acd.data.toList c.toNat.toUInt8)],[]⟩:=rfl;rw[Au9 hc] at e;refine (Qy (p:=p) fu (d+1) _ _).trans ?_;simp only[Be,Bf,e]
theorem Rg{a0:ByteArray}{m0 nn:Nat}{l:Al}{y1:Nat}{y6:Ae}{i n:Nat}{y3 c:Int}(Rs:i<n)(hn:n<=4)(hl:Cz l)(hc:l[i]?=some c)(h0:0<=y3)(hm:y3 % ((2 ^ (24-6*i):Nat):Int)=0)(hy:y3<16777216):
  Dg fu (Ac (CP p) prog fu (d+2)) a0 m0 (nn+1) (Ab l) y1 (n:Int) y3 (n:Int) (i:Int) y6=if Cq c<64 then Dg fu (Ac (CP p) prog fu (d+2)) a0 m0 nn (Ab l) y1 (n:Int) (y3+Cq c*((2 ^ (18-6*i):Nat):Int)) (n:Int) ((i+1:Nat):Int) y6 else some ⟨[.own 1 0 [],Ar 2],[]⟩:=by
 have OW:=hl c (List.mem_of_getElem? hc);have hv:=Vw c;have e:=A2k (fu:=fu) (d:=d) (p:=p) OW;have a1:decide ((i:Int)<(n:Int))=true:=by simp;omega
 have a2:decide ((0:Int)<=(i:Int))=true:=by simp
 have a3:(Array.toList (Ab l).data)[Int.toNat (i:Int)]?=some c.toNat.toUInt8:=by
  rw[Jd];show (l.map fun n=>n.toNat.toUInt8)[i]?=_;rw[List.getElem?_map,hc];rfl
 have a4:=Oh OW;have ea:(ByteArray.mk #[65,66,67,68,69,70,71,72,73,74,75,76,77,78,79,80,81,82,83,84,85,86,87,88,89,90,97,98,99,100,101,102,103,104,105,106,107,108,109,110,111,112,113,114,115,116,117,118,119,120,121,122,48,49,50,51,52,53,54,55,56,57,45,95])=Acd:=rfl;rw[Js,ea];by_cases hv6:Cq c<64
 ·rw[Cr hv6] at e;have b1:decide (Cq c<0)=false:=by simp;omega
  have b2:wrap .i64 (6*(i:Int))=6*(i:Int):=Bn;have b3:wrap .i64 (18-6*(i:Int))=((18-6*i:Nat):Int):=B0
  have b4:decide ((0:Int)<=((18-6*i:Nat):Int))=true:=by simp
  have b5:=Bcd (y:=y3) (v:=Cq c) (18-6*i) (by omega) h0 (by rw[show 18-6*i+6=24-6*i by omega];exact hm) hy hv.1 hv6
  have b6:wrap .i64 ((i:Int)+1)=((i+1:Nat):Int):=B0
  rw[Cr hv6];simp only[Be,Bf,a1,a2,a3,a4,e,b1,b2,b3,b4,b5,b6]
 ·rw[B3 hv6] at e;have b1:decide ((-1:Int)<0)=true:=rfl;rw[B3 hv6];simp only[Be,Bf,a1,a2,a3,a4,e,b1]
theorem Bax{y:Int}(h0:0<=y)(hy:y<16777216):wrap .u8 (Hc .u32 y 16)=y / 65536 % 256:=by
 show wrap .u8 (y.fdiv (2 ^ (min (16:Int).toNat IntKind.u32.bits)))=_;have:(2:Int) ^ (min (16:Int).toNat IntKind.u32.bits)=65536:=by decide
 rw[this,Int.fdiv_eq_ediv_of_nonneg _ (by omega)];simp only[wrap,IntKind.bits,IntKind.signed,UR,Bool.false_eq_true,if_false];omega
theorem Bg0{y:Int}(h0:0<=y)(hy:y<16777216):wrap .u8 (Hc .u32 y 8)=y / 256 % 256:=by
 show wrap .u8 (y.fdiv (2 ^ (min (8:Int).toNat IntKind.u32.bits)))=_;have:(2:Int) ^ (min (8:Int).toNat IntKind.u32.bits)=256:=by decide
 rw[this,Int.fdiv_eq_ediv_of_nonneg _ (by omega)];simp only[wrap,IntKind.bits,IntKind.signed,UR,Bool.false_eq_true,if_false];omega
theorem Bgr{y:Int}(h0:0<=y)(hy:y<16777216):wrap .u8 y=y % 256:=by simp only[wrap,IntKind.bits,IntKind.signed,UR,Bool.false_eq_true,if_false];omega
theorem Akd{a0:ByteArray}{m0 nn:Nat}{s:ByteArray}{y1:Nat}{y6:Ae}{n:Nat}{y3:Int}(hn:2<=n)(hn4:n<=4)(h0:0<=y3)(hy:y3<16777216):
  Dg fu (Ac (CP p) prog fu (d+2)) a0 m0 (nn+1) s y1 (n:Int) y3 (n:Int) (n:Int) y6=Dh fu (Ac (CP p) prog fu (d+2)) a0 m0 fu s y1 (n:Int) (n-1) (4-n) ((4-n:Nat):Int) 0 y6 [.sc (.int .u8 (y3 / 65536 % 256)),.sc (.int .u8 (y3 / 256 % 256)),.sc (.int .u8 (y3 % 256))]:=by
 have a1:decide ((n:Int)<(n:Int))=false:=by simp
 have e1:=Bax h0 hy;have e2:=Bg0 h0 hy;have e3:=Bgr h0 hy;have b1:wrap .i64 ((n:Int)-1)=((n-1:Nat):Int):=B0
 have b2:decide ((0:Int)<=((n-1:Nat):Int))=true:=by simp
 have b3:decide (Int.toNat ((n-1:Nat):Int)<=3)=true:=by simp;omega
 have b4:0+Int.toNat ((n-1:Nat):Int)*1=n-1:=by rw[Jd];omega
 have b5:3-Int.toNat ((n-1:Nat):Int)=4-n:=by rw[Jd];omega
 rw[Js];simp only[Be,Bf,a1,e1,e2,e3,b1,b2,b3,b4,b5]
end
section
variable {fu d:Nat}{p:Option (Ae->Option Bv)}
abbrev grp(A B C:Int):Ae:=[.sc (.int .u8 A),.sc (.int .u8 B),.sc (.int .u8 C)]
abbrev Bge:Option Bv:=some ⟨[.own 1 0 [],Ar 2],[]⟩
theorem A27{call:Ap}{a0 s:ByteArray}{m0 nn y1:Nat}{n i j:Nat}{y7:Ae}{A B C X:Int}(hij:i<j)(hj:j<=4)(h:List.getD (grp A B C) (n+i) .top=.sc (.int .u8 X)){q:Int}:
  Dh fu call a0 m0 (nn+1) s y1 q n j (j:Int) (i:Int) y7 (grp A B C)=if X=0 then Dh fu call a0 m0 nn s y1 q n j (j:Int) ((i+1:Nat):Int) y7 (grp A B C) else Bge:=by
 have a1:decide ((i:Int)<(j:Int))=true:=by simp;omega
 have a2:(decide ((0:Int)<=(i:Int))&&decide ((i:Int)<(j:Int)))=true:=by simp;omega
 have a2':decide ((0:Int)<=(i:Int))=true:=by simp
 have a3:List.getD (grp A B C) (n+Int.toNat (i:Int)*1) PV.top=.sc (.int .u8 X):=by rw[Jd,J1];exact h
 have a4:wrap .i64 ((i:Int)+1)=((i+1:Nat):Int):=B0
 rw[Jh];by_cases hx:X=0
 ·subst hx;have a5:((0:Int) != 0)=false:=rfl;rw[Cr rfl];simp only[Be,Bf,a1,a2,a2',a3,a4,a5]
 ·have a5:(X != 0)=true:=by simp[hx]
  rw[B3 hx];simp only[Be,Bf,a1,a2,a2',a3,a5]
theorem Ah8{call:Ap}{a0:ByteArray}{m0 nn:Nat}{n j:Nat}{l acc:Al}{A B C:Int}(hn:2<=n)(hn4:n<=4)(hl:Cz l)(hnl:n<=l.length)(TE:acc.length<=1000000){st:Nat}:
  Dh fu call a0 m0 (nn+1) (Ab l) acc.length (n:Int) st j (j:Int) (j:Int) (Af .u8 acc) (grp A B C)=Df fu call a0 m0 (Ab (l.drop n)) (acc++[A,B,C].take (n-1)).length (Af .u8 (acc++[A,B,C].take (n-1))):=by
 have a1:decide ((j:Int)<(j:Int))=false:=by simp
 have a2:wrap .i64 ((n:Int)-1)=((n-1:Nat):Int):=B0
 have a3:(decide (3<=List.length (grp A B C))&&true)=true:=rfl;have a4:decide ((0:Int)<=((n-1:Nat):Int))=true:=by simp
 have a5:decide (Int.toNat ((n-1:Nat):Int)<=3)=true:=by simp;omega
 have a6:Int.toNat ((n-1:Nat):Int)-0=n-1:=by rw[Jd];omega
 have a7:decide (0+(n-1)*1<=List.length (grp A B C))=true:=by simp;omega
 have a8:decide (acc.length*1<=List.length (Af .u8 acc))=true:=by rw[An];simp
 have a9:decide (List.length (List.take ((n-1)*1) (List.drop 0 (grp A B C)))=(n-1)*1)=true:=by simp;omega
 have b1:decide ((acc.length+(n-1))*1<=1099511627776)=true:=by simp;omega
 have b2:decide (acc.length+(n-1)<=1099511627776)=true:=by simp;omega
 have b3:List.take (acc.length*1) (Af .u8 acc)++List.take ((n-1)*1) (List.drop 0 (grp A B C))=Af .u8 (acc++[A,B,C].take (n-1)):=by
  have e0:Af .u8 (acc++[A,B,C].take (n-1))=Af .u8 acc++Af .u8 ([A,B,C].take (n-1)):=List.flatMap_append;rw[Hz (by rw[An];omega),e0,Me,J1]
  congr 1
  match n,hn,hn4 with
  |2,_,_=>rfl
  |3,_,_=>rfl
  |4,_,_=>rfl
 have b4:decide ((0:Int)<=(n:Int))=true:=by simp
 have b5:decide (Int.toNat (n:Int)<=l.length)=true:=by simp;omega
 have b6:(Ab l).extract (Int.toNat (n:Int)) l.length=Ab (l.drop n):=by rw[Jd,X5 hl]
 have b7:acc.length+(n-1)=(acc++[A,B,C].take (n-1)).length:=by simp;omega
 rw[Jh];simp only[Be,Bf,Ai,dle,a1,a2,a3,a4,a5,a6,a7,a8,a9,b1,b2,b3,b4,b5,b6];rw[b7]
theorem Avx{a0:ByteArray}(B2:10<=fu):∀(m:Nat)(l acc:Al)(nn:Nat),l.length<=4*m->m+1<=nn->Cz l->l.length % 4≠1->acc.length+l.length<=1000000 ->
  Df fu (Ac (CP p) prog fu (d+2)) a0 nn (Ab l) acc.length (Af .u8 acc)=some (match Sx l with|none=>⟨[.own 1 0 [],Ar 2],[]⟩|some b=>⟨[.own 1 (acc++b).length (Af .u8 (acc++b)),Ar 0],[]⟩):=by
 obtain⟨fu,rfl⟩:∃k,fu=k+10:=⟨fu-10,by omega⟩
 have zero:∀(acc:Al) (nn:Nat),acc.length<=1000000->Df (fu+10) (Ac (CP p) prog (fu+10) (d+2)) a0 (nn+1) (Ab []) acc.length (Af .u8 acc)=some ⟨[.own 1 acc.length (Af .u8 acc),Ar 0],[]⟩:=by
  intro acc nn h;have a1:decide ((((Ab []).size:Nat):Int)>0)=false:=rfl;have a2:decide (acc.length*1<=List.length (Af .u8 acc))=true:=by rw[An];simp
  have a3:List.take (acc.length*1) (Af .u8 acc)=Af .u8 acc:=Hz (by rw[An];omega)
  rw[Jk];simp only[Be,Bf,a1,a2,a3]
 intro m
 induction m with
 |zero=>
  intro l acc nn hl Gc hB h1 TE;have:l=[]:=List.eq_nil_of_length_eq_zero (by omega);subst this;obtain⟨k,rfl⟩:∃k,nn=k+1:=⟨nn-1,by omega⟩
  rw[zero acc k (by omega)];simp[Sx]
 |succ m ih=>
  intro l acc nn hl Gc hB h1 TE;obtain⟨k,rfl⟩:∃k,nn=k+1:=⟨nn-1,by omega⟩
  have head:∀(n:Nat),l.length>0->n=min l.length 4->Df (fu+10) (Ac (CP p) prog (fu+10) (d+2)) a0 (k+1) (Ab l) acc.length (Af .u8 acc)=Dg (fu+10) (Ac (CP p) prog (fu+10) (d+2)) a0 k (fu+10) (Ab l) acc.length (n:Int) 0 (n:Int) 0 (Af .u8 acc):=by
   intro n hp hn;have a1:decide (((l.length:Nat):Int)>0)=true:=by simp;omega
   have a2:(if ((l.length:Nat):Int)<4 then ((l.length:Nat):Int) else 4)=(n:Int):=by split<;>omega
   rw[Jk];simp only[Be,Bf,Ai,a1,a2]
  match l,hl,hB,h1,TE,head with
  |[],_,_,_,TE,_=>
   rw[zero acc k (by simpa using TE)];simp[Sx]
  |[x],_,_,h1,_,_=>exact absurd rfl h1
  |[a,b],_,hB,_,TE,head=>
   have va:=Vw a;have vb:=Vw b;rw[head 2 (by simp) rfl,show (0:Int)=((0:Nat):Int) from rfl];rw[Rg (c:=a) (by omega) (by omega) hB rfl (by simp) (by simp) (by simp)];unfold Sx;by_cases ha:Cq a<64
   ·rw[Cr ha,Rg (c:=b) (by omega) (by omega) hB rfl (by simp<;>omega) (by simp<;>omega) (by simp<;>omega)]
    by_cases hb:Cq b<64
    ·rw[Cr hb,Akd (by omega) (by omega) (by simp<;>omega) (by simp<;>omega)]
     rw[show (0:Int)=((0:Nat):Int) from rfl];rw[A27 (X:=(((0:Nat):Int)+Cq a*((2 ^ (18-6*0):Nat):Int)+Cq b*((2 ^ (18-6*1):Nat):Int)) / 256 % 256) (by omega) (by omega) rfl];by_cases hz:Cq b % 16=0
     ·rw[Cr (by simp<;>omega)]
      rw[A27 (X:=(((0:Nat):Int)+Cq a*((2 ^ (18-6*0):Nat):Int)+Cq b*((2 ^ (18-6*1):Nat):Int)) % 256) (by omega) (by omega) rfl];rw[Cr (by simp<;>omega),Ah8 (by omega) (by omega) hB (by simp) (by omega)]
      rw[Cr ⟨ha,hb,hz⟩];have hr:=ih [] (acc++[Cq a*4+Cq b / 16]) k (by simp) (by omega) (fun x hx=>by cases hx) (by simp) (by simp at TE ⊢;omega)
      have e:(((0:Nat):Int)+Cq a*((2 ^ (18-6*0):Nat):Int)+Cq b*((2 ^ (18-6*1):Nat):Int)) / 65536 % 256=Cq a*4+Cq b / 16:=by simp;omega
      rw[e];refine hr.trans ?_;simp[Sx]
     ·rw[B3 (by simp<;>omega),B3 (fun h=>hz h.2.2)]
    ·rw[B3 hb,B3 (fun h=>hb h.2.1)]
   ·rw[B3 ha,B3 (fun h=>ha h.1)]
  |[a,b,c],_,hB,_,TE,head=>
   have va:=Vw a;have vb:=Vw b;have vc:=Vw c;rw[head 3 (by simp) rfl,show (0:Int)=((0:Nat):Int) from rfl];rw[Rg (c:=a) (by omega) (by omega) hB rfl (by simp) (by simp) (by simp)];unfold Sx;by_cases ha:Cq a<64
   ·rw[Cr ha,Rg (c:=b) (by omega) (by omega) hB rfl (by simp<;>omega) (by simp<;>omega) (by simp<;>omega)]
    by_cases hb:Cq b<64
    ·rw[Cr hb,Rg (c:=c) (by omega) (by omega) hB rfl (by simp<;>omega) (by simp<;>omega) (by simp<;>omega)]
     by_cases hc:Cq c<64
     ·rw[Cr hc,Akd (by omega) (by omega) (by simp<;>omega) (by simp<;>omega)]
      rw[show (0:Int)=((0:Nat):Int) from rfl];rw[A27 (X:=(((0:Nat):Int)+Cq a*((2 ^ (18-6*0):Nat):Int)+Cq b*((2 ^ (18-6*1):Nat):Int)+Cq c*((2 ^ (18-6*2):Nat):Int)) % 256) (by omega) (by omega) rfl];by_cases hz:Cq c % 4=0
      ·rw[Cr (by simp<;>omega),Ah8 (by omega) (by omega) hB (by simp) (by omega)]
       rw[Cr ⟨ha,hb,hc,hz⟩];have hr:=ih [] (acc++[Cq a*4+Cq b / 16,Cq b % 16*16+Cq c / 4]) k (by simp) (by omega) (fun x hx=>by cases hx) (by simp) (by simp at TE ⊢;omega)
       have e:(((0:Nat):Int)+Cq a*((2 ^ (18-6*0):Nat):Int)+Cq b*((2 ^ (18-6*1):Nat):Int)+Cq c*((2 ^ (18-6*2):Nat):Int)) / 65536 % 256=Cq a*4+Cq b / 16:=by simp;omega
       have e2:(((0:Nat):Int)+Cq a*((2 ^ (18-6*0):Nat):Int)+Cq b*((2 ^ (18-6*1):Nat):Int)+Cq c*((2 ^ (18-6*2):Nat):Int)) / 256 % 256=Cq b % 16*16+Cq c / 4:=by simp;omega
       rw[e,e2];refine hr.trans ?_;simp[Sx]
      ·rw[B3 (by simp<;>omega),B3 (fun h=>hz h.2.2.2)]
     ·rw[B3 hc,B3 (fun h=>hc h.2.2.1)]
    ·rw[B3 hb,B3 (fun h=>hb h.2.1)]
   ·rw[B3 ha,B3 (fun h=>ha h.1)]
  |a::b::c::e::t,hl,hB,h1,TE,head=>
   have va:=Vw a;have vb:=Vw b;have vc:=Vw c;have ve:=Vw e;rw[head 4 (by simp) (by simp<;>omega),show (0:Int)=((0:Nat):Int) from rfl]
   rw[Rg (c:=a) (by omega) (by omega) hB rfl (by simp) (by simp) (by simp)];unfold Sx;by_cases ha:Cq a<64
   ·rw[Cr ha,Rg (c:=b) (by omega) (by omega) hB rfl (by simp<;>omega) (by simp<;>omega) (by simp<;>omega)]
    by_cases hb:Cq b<64
    ·rw[Cr hb,Rg (c:=c) (by omega) (by omega) hB rfl (by simp<;>omega) (by simp<;>omega) (by simp<;>omega)]
     by_cases hc:Cq c<64
     ·rw[Cr hc,Rg (c:=e) (by omega) (by omega) hB rfl (by simp<;>omega) (by simp<;>omega) (by simp<;>omega)]
      by_cases he:Cq e<64
      ·rw[Cr he,Akd (by omega) (by omega) (by simp<;>omega) (by simp<;>omega)]
       rw[show (0:Int)=((4-4:Nat):Int) from rfl,Ah8 (by omega) (by omega) hB (by simp) (by omega)];rw[Cr ⟨ha,hb,hc,he⟩];have hr:=ih t (acc++[Cq a*4+Cq b / 16,Cq b % 16*16+Cq c / 4,Cq c % 4*64+Cq e]) k (by simp at hl;omega) (by omega) (fun x hx=>hB x (by simp[hx])) (by simp at h1;omega) (by simp at TE ⊢;omega)
       have e1:(((4-4:Nat):Int)+Cq a*((2 ^ (18-6*0):Nat):Int)+Cq b*((2 ^ (18-6*1):Nat):Int)+Cq c*((2 ^ (18-6*2):Nat):Int)+Cq e*((2 ^ (18-6*3):Nat):Int)) / 65536 % 256=Cq a*4+Cq b / 16:=by simp;omega
       have e2:(((4-4:Nat):Int)+Cq a*((2 ^ (18-6*0):Nat):Int)+Cq b*((2 ^ (18-6*1):Nat):Int)+Cq c*((2 ^ (18-6*2):Nat):Int)+Cq e*((2 ^ (18-6*3):Nat):Int)) / 256 % 256=Cq b % 16*16+Cq c / 4:=by simp;omega
       have e3:(((4-4:Nat):Int)+Cq a*((2 ^ (18-6*0):Nat):Int)+Cq b*((2 ^ (18-6*1):Nat):Int)+Cq c*((2 ^ (18-6*2):Nat):Int)+Cq e*((2 ^ (18-6*3):Nat):Int)) % 256=Cq c % 4*64+Cq e:=by simp;omega
       rw[e1,e2,e3];refine hr.trans ?_;cases Sx t<;>simp
      ·rw[B3 he,B3 (fun h=>he h.2.2.2)]
     ·rw[B3 hc,B3 (fun h=>hc h.2.2.1)]
    ·rw[B3 hb,B3 (fun h=>hb h.2.1)]
   ·rw[B3 ha,B3 (fun h=>ha h.1)]
theorem Aqz:∀{l:Al},l.length % 4=1->Sx l=none
 |[],h=>by simp at h
 |[_],_=>rfl
 |[_,_],h=>by simp at h
 |[_,_,_],h=>by simp at h
 |p::q::r::s::t,h=>by
  have:=Aqz (l:=t) (by simp at h;omega)
  unfold Sx;rw[this];simp
theorem A5d{l:Al}(hB:Cz l)(hl:l.length<=1000000)(B2:10<=fu)(MJ:l.length<=fu):Ac (CP p) prog fu (d+3) 156 [Bl (Ab l)]=some (match Sx l with|none=>⟨[.own 1 0 [],Ar 2],[]⟩|some b=>⟨[.own 1 b.length (Af .u8 b),Ar 0],[]⟩):=by
 rw[V0];have a0:Int.tmod ((l.length:Nat):Int) 4=((l.length % 4:Nat):Int):=by rw[Int.tmod_eq_emod_of_nonneg (by omega)];omega
 by_cases h1:l.length % 4=1
 ·have a1:(((l.length % 4:Nat):Int)==1)=true:=by rw[h1];rfl
  rw[Aqz h1];simp only[Be,Bf,Ai,a0,a1]
 ·have a1:(((l.length % 4:Nat):Int)==1)=false:=by simp;omega
  have a2:Int.tdiv ((l.length:Nat):Int) 4=((l.length / 4:Nat):Int):=by rw[Int.tdiv_eq_ediv_of_nonneg (by omega)];omega
  have a3:wrap .i64 ((l.length / 4:Nat):Int)=((l.length / 4:Nat):Int):=Bn;have a4:wrap .i64 (((l.length / 4:Nat):Int)*3)=((l.length / 4:Nat):Int)*3:=Bn;have a5:wrap .i64 (((l.length / 4:Nat):Int)*3+2)=((l.length / 4:Nat):Int)*3+2:=Bn;have a6:decide ((0:Int)<=((l.length / 4:Nat):Int)*3+2)=true:=by simp;omega
  have a7:decide ((((l.length / 4:Nat):Int)*3+2)*1<=1099511627776)=true:=by simp;omega
  have a8:decide (((l.length / 4:Nat):Int)*3+2<=1099511627776)=true:=by simp;omega
  have hd:=Avx (d:=d) (p:=p) (a0:=Ab l) B2 (l.length / 4+1) l [] fu (by omega) (by omega) hB h1 (by simp<;>omega)
  simp only[Be,Bf,Ai,a0,a1,a2,a3,a4,a5,a6,a7,a8];refine hd.trans ?_;cases Sx l<;>simp
end
theorem dT{q:Prop}[Decidable q](h:q):decide q=true:=decide_eq_true h
theorem dF{q:Prop}[Decidable q](h:¬q):decide q=false:=decide_eq_false h
theorem bT{q:Prop}[Decidable q](h:q):(!decide q)=false:=by simp[h]
theorem bF{q:Prop}[Decidable q](h:¬q):(!decide q)=true:=by simp[h]
def okB(n i:Nat)(c:Int):Bool:=ltB c||(c==45&&decide (0<i)&&decide (i+1<n))
def LY(n:Nat):Nat->Al->Bool
 |_,[]=>true
 |i,c::r=>okB n i c&&LY n (i+1) r
theorem ZZ(n i:Nat)(c:Int)(r:Al):LY n i (c::r)=(okB n i c&&LY n (i+1) r):=rfl
theorem Arw:ltB 45=false:=rfl
theorem Ak1(n:Nat):∀(r:Al)(i:Nat),i+r.length=n->LY n i r=(r.all (fun x=>ltB x||x==45) && !(decide (i=0)&&r.head?==some 45) && !(r.getLast?==some 45))
 |[],i,_=>by simp[LY]
 |[c],i,h=>by
  simp only[Tm,WG] at h;unfold LY okB;by_cases hc:c=45
  ·subst hc;have:¬i+1<n:=by omega
   simp[LY,Arw,this]
  ·have hcb:(c==45)=false:=by simp[hc]
   simp[LY,hcb]
 |c::x::r,i,h=>by
  have ih:=Ak1 n (x::r) (i+1) (by simp at h ⊢;omega)
  have hl:(c::x::r).getLast?=(x::r).getLast?:=by simp
  unfold LY;rw[ih,hl];have h1:i+1<n:=by simp at h;omega
  unfold okB;by_cases hc:c=45
  ·subst hc;by_cases hi:i=0
   ·subst hi;simp[Arw]
   ·have:0<i:=by omega
    simp[Arw,h1,hi,this]
  ·have hcb:(c==45)=false:=by simp[hc]
   simp[hcb,Bool.and_assoc]
theorem Ay2{l:Al}(h1:1<=l.length)(h2:l.length<=63):Ll l=LY l.length 0 l:=by rw[Ak1 _ l 0 (by simp)];unfold Ll;rw[dT h1,dT h2];cases l.all (fun x=>ltB x||x==45)<;>cases (l.head?==some 45)<;>cases (l.getLast?==some 45)<;>rfl
section
variable {fu d:Nat}{p:Option (Ae->Option Bv)}
theorem Ag6{call:Ap}{a0:ByteArray}{l:Al}(hB:Cz l)(hs:l.length<=63):∀(r:Al)(i nn:Nat),l.drop i=r->r.length+1<=nn ->
  Bs fu call a0 nn (Ab l) (l.length:Int) (i:Int)=some ⟨[De (LY l.length i r)],[]⟩
 |[],i,nn,hd,hn=>by
  obtain⟨k,rfl⟩:∃k,nn=k+1:=⟨nn-1,by omega⟩
  have hi:=drop_nil hd;have a1:decide ((i:Int)<(l.length:Int))=false:=by simp;omega
  rw[Qc];simp only[Be,Bf,a1];rfl
 |c::r,i,nn,hd,hn=>by
  obtain⟨k,rfl⟩:∃k,nn=k+1:=⟨nn-1,by omega⟩
  obtain⟨hi,hc,Ua⟩:=D8 hd;have ih:=Ag6 (call:=call) (a0:=a0) hB hs r (i+1) k Ua (by simp at hn;omega)
  have OW:=hB c (List.mem_of_getElem? hc);have a1:decide ((i:Int)<(l.length:Int))=true:=by simp;omega
  have a2:decide ((0:Int)<=(i:Int))=true:=by simp
  have a3:(Array.toList (Ab l).data)[Int.toNat (i:Int)]?=some c.toNat.toUInt8:=by
   rw[Jd];show (l.map fun n=>n.toNat.toUInt8)[i]?=_;rw[List.getElem?_map,hc];rfl
  have a4:=Oh OW;have a5:wrap .i64 ((i:Int)+1)=((i+1:Nat):Int):=B0
  have a6:wrap .i64 ((l.length:Int)-1)=(l.length:Int)-1:=Bn
  have good:okB l.length i c=true->(Bs fu call a0 k (Ab l) (l.length:Int) ((i+1:Nat):Int)=some ⟨[De (LY l.length i (c::r))],[]⟩):=by
   intro h;rw[ih,ZZ,h,XY]
  have bad:okB l.length i c=false->some (Bv.mk [PV.sc (.bool false)] [])=some ⟨[De (LY l.length i (c::r))],[]⟩:=by
   intro h;rw[ZZ,h,UR]
  rw[Qc];by_cases hA:97<=c/\c<=122
  ·have q1:=dT hA.1;have q2:=dT hA.2;have q3:(c==45)=false:=by simp;omega
   have q4:=dT (q:=(48:Int)<=c) (by omega);have q5:=bF (q:=c<=57) (by omega);simp only[Be,Bf,a1,a2,a3,a4,a5,a6,Ai,q1,q2,q3,q4,q5];exact good (by unfold okB ltB;simp[hA])
  by_cases hD:48<=c/\c<=57
  ·have q1:=dF (q:=(97:Int)<=c) (by omega);have q2:=dT (q:=c<=122) (by omega);have q3:(c==45)=false:=by simp;omega
   have q4:=dT hD.1;have q5:=bT hD.2;simp only[Be,Bf,a1,a2,a3,a4,a5,a6,Ai,q1,q2,q3,q4,q5];exact good (by unfold okB ltB DW;simp[hD])
  have Ck:ltB c=false:=by
   unfold ltB DW;simp;exact⟨fun h=>by omega,fun h=>by omega⟩
  by_cases hM:c=45
  ·subst hM;have q1:decide ((97:Int)<=45)=false:=rfl;have q2:decide ((45:Int)<=122)=true:=rfl;have q3:((45:Int)==45)=true:=rfl;have q4:decide ((48:Int)<=45)=false:=rfl;have q5:(!decide ((45:Int)<=57))=false:=rfl;by_cases h0:0<i
   ·have q6:=dT (q:=(i:Int)>0) (by omega);by_cases h1:i+1<l.length
    ·have q7:=bT (q:=(i:Int)<(l.length:Int)-1) (by omega);simp only[Be,Bf,a1,a2,a3,a4,a5,a6,Ai,q1,q2,q3,q4,q5,q6,q7];exact good (by unfold okB;simp[h0,h1])
    ·have q7:=bF (q:=(i:Int)<(l.length:Int)-1) (by omega);simp only[Be,Bf,a1,a2,a3,a4,a5,a6,Ai,q1,q2,q3,q4,q5,q6,q7];exact bad (by unfold okB;simp[h1,Ck])
   ·have q6:=dF (q:=(i:Int)>0) (by omega);simp only[Be,Bf,a1,a2,a3,a4,a5,a6,Ai,q1,q2,q3,q4,q5,q6];exact bad (by unfold okB;simp[h0,Ck])
  have q3:(c==45)=false:=by simp[hM]
  have Apw:okB l.length i c=false:=by unfold okB;simp[Ck,hM]
  by_cases h97:97<=c
  ·have q1:=dT h97;have q2:=dF (q:=c<=122) (by omega);have q4:=dT (q:=(48:Int)<=c) (by omega);have q5:=bF (q:=c<=57) (by omega);simp only[Be,Bf,a1,a2,a3,a4,a5,a6,Ai,q1,q2,q3,q4,q5];exact bad Apw
  ·have q1:=dF h97;have q2:=dT (q:=c<=122) (by omega);by_cases h48:48<=c
   ·have q4:=dT h48;have q5:=bF (q:=c<=57) (by omega);simp only[Be,Bf,a1,a2,a3,a4,a5,a6,Ai,q1,q2,q3,q4,q5];exact bad Apw
   ·have q4:=dF h48;have q5:=bT (q:=c<=57) (by omega);simp only[Be,Bf,a1,a2,a3,a4,a5,a6,Ai,q1,q2,q3,q4,q5];exact bad Apw
theorem Ax8{l:Al}(hB:Cz l)(B2:100<=fu):Ac (CP p) prog fu (d+1) 202 [Bl (Ab l)]=some ⟨[De (Ll l)],[]⟩:=by
 rw[IL];by_cases h1:1<=l.length
 ·by_cases h2:l.length<=63
  ·have a1:decide (((l.length:Nat):Int)<1)=false:=by simp;omega
   have a2:decide (((l.length:Nat):Int)>63)=false:=by simp;omega
   rw[Ay2 h1 h2];simp only[Be,Bf,Ai,a1,a2];exact Ag6 hB h2 l 0 fu rfl (by omega)
  ·have a1:decide (((l.length:Nat):Int)<1)=false:=by simp;omega
   have a2:decide (((l.length:Nat):Int)>63)=true:=by simp;omega
   have e:Ll l=false:=by unfold Ll;simp[h2]
   rw[e];simp only[Be,Bf,Ai,a1,a2]
 ·have a1:decide (((l.length:Nat):Int)<1)=true:=by simp;omega
  have e:Ll l=false:=by unfold Ll;simp[h1]
  rw[e];simp only[Be,Bf,Ai,a1]
theorem Asn(l cs:List UInt8):(Lib.trimS l cs==[])=l.all (cs.contains ·):=by
 have key:∀(q:UInt8->Bool) (m:List UInt8),m.dropWhile q=[]↔m.all q=true:=by
  intro q m
  induction m with
  |nil=>simp
  |cons x m ih=>
   by_cases hx:q x=true
   ·rw[List.dropWhile_cons_of_pos hx,ih];simp[hx]
   ·rw[List.dropWhile_cons_of_neg hx];simp[hx]
 unfold Lib.trimS Lib.trimLeftS Lib.trimRightS;rw[Bool.eq_iff_iff,beq_iff_eq,key,List.all_reverse,<-key,key,List.all_eq_true]
 have h2:∀(q:UInt8->Bool) (m:List UInt8),(m.dropWhile q).all q=true↔m.all q=true:=by
  intro q m
  induction m with
  |nil=>simp
  |cons x m ih=>
   by_cases hx:q x=true
   ·rw[List.dropWhile_cons_of_pos hx,ih];simp[hx]
   ·rw[List.dropWhile_cons_of_neg hx]
 rw[<-List.all_eq_true,h2,List.all_reverse]
def CE:ByteArray:=⟨#[48,49,50,51,52,53,54,55,56,57]⟩
theorem A20:∀n:Fin 256,CE.data.toList.contains (n.val:Int).toNat.toUInt8=DW (n.val:Int):=by decide +kernel
theorem A2h{l:Al}(h:Cz l):((l.map fun n=>n.toNat.toUInt8).all (CE.data.toList.contains ·))=l.all DW:=by
 induction l with
 |nil=>rfl
 |cons c r ih=>
  obtain⟨hc,hr⟩:=D5 h;obtain⟨n,rfl⟩:=Int.eq_ofNat_of_zero_le hc.1;rw[X4,List.all_cons,List.all_cons,ih hr]
  congr 1
  exact A20 ⟨n,by omega⟩
theorem A3a{l:Al}(hB:Cz l)(hs:l.length<=1000000):∃x,Ac (CP p) prog fu (d+1) 203 [Bl (Ab l),Bl CE]=some ⟨[Bl x],[]⟩/\(Array.toList x.data==Array.toList (ByteArray.mk #[]).data)=l.all DW:=by
 refine⟨⟨(Lib.trimS (Ab l).data.toList CE.data.toList).toArray⟩,?_,?_⟩
 ·have e:Ac (CP p) prog fu (d+1) 203 [Bl (Ab l),Bl CE]=Ady [Bl (Ab l),Bl CE]:=rfl;rw[e];unfold Ady
  have:(Nat.ble CE.size 1000&&CE.data.toList.all (fun b=>decide (b.toNat<128))&&decide ((Ab l).size<=1000000000))=true:=by
   rw[Ai];have h1:(Nat.ble CE.size 1000&&CE.data.toList.all (fun b=>decide (b.toNat<128)))=true:=by decide +kernel
   rw[h1,dT (q:=l.length<=1000000000) (by omega)];rfl
  simp only[this,cond_true]
 ·show (Lib.trimS (Ab l).data.toList CE.data.toList==[])=_;rw[Asn];exact A2h hB
theorem BD(c:Int):∀{l:Al},Cz l->∀x∈Bg c l,Cz x/\x.length<=l.length
 |[],_,x,hx=>by simp[Bg] at hx;subst hx;exact⟨(fun y hy=>nomatch hy),Ci _⟩
 |a::r,h,x,hx=>by
  obtain⟨ha,hr⟩:=D5 h;have ih:=BD c hr;unfold Bg at hx;split at hx
  ·rcases Ch.1 hx with rfl|hx
   ·exact⟨(fun y hy=>nomatch hy),Nat.zero_le _⟩
   ·exact⟨(ih x hx).1,Nat.le_succ_of_le (ih x hx).2⟩
  ·cases hs:Bg c r with
   |nil=>exact absurd hs (Rx c r)
   |cons b t=>
    rw[hs] at hx ih;rcases Ch.1 hx with rfl|hx
    ·obtain⟨q1,q2⟩:=ih b (by simp);refine⟨fun y hy=>?_,by simp;omega⟩
     rcases Ch.1 hy with rfl|hy
     ·exact ha
     ·exact q1 y hy
    ·exact⟨(ih x (by simp[hx])).1,Nat.le_succ_of_le (ih x (by simp[hx])).2⟩
theorem Af0{a0:ByteArray}(B2:200<=fu){ls:List Al}(hB:∀x∈ls,Cz x/\x.length<=1000)(h0:ls≠[])(hN:ls.length<=1000):∀(r:List Al) (i nn:Nat),ls.drop i=r->r.length+1<=nn ->
  J0 fu (Ac (CP p) prog fu (d+1)) a0 nn ls.length ls.length (ls.length:Int) (i:Int) (ls.map Y0)=some ⟨[Ar (if r.all Ll=false then 2 else if (ls.getLastD []).all DW=true then 2 else 0)],[]⟩
 |[],i,nn,hd,hn=>by
  obtain⟨k,rfl⟩:∃k,nn=k+1:=⟨nn-1,by omega⟩
  have hi:=drop_nil hd;have Ags:0<ls.length:=List.length_pos_iff.2 h0;have a1:decide ((i:Int)<(ls.length:Int))=false:=by simp;omega
  have a2:wrap .i64 ((ls.length:Int)-1)=((ls.length-1:Nat):Int):=B0
  have a3:decide ((0:Int)<=((ls.length-1:Nat):Int))=true:=by simp
  have a4:decide (((ls.length-1:Nat):Int)<(ls.length:Int))=true:=by simp;omega
  have SJ:ls.getLastD []=ls[ls.length-1]'(by omega):=by
   rw[List.getLastD_eq_getLast?,List.getLast?_eq_getElem?,List.getElem?_eq_getElem (by omega)];rfl
  have a5:List.getD (ls.map Y0) (0+Int.toNat ((ls.length-1:Nat):Int)*1) PV.top=Bl (Ab (ls.getLastD [])):=by
   rw[Jd,Ie,J1,List.getD_eq_getElem?_getD,List.getElem?_map,List.getElem?_eq_getElem (by omega),SJ];rfl
  have hm:=hB (ls.getLastD []) (by rw[SJ];exact List.getElem_mem _)
  obtain⟨x,e,hx⟩:=A3a (fu:=fu) (d:=d) (p:=p) hm.1 (by omega);have e2:Ac (CP p) prog fu (d+1) 203 [Bl (Ab (ls.getLastD [])),Bl ⟨#[48,49,50,51,52,53,54,55,56,57]⟩]=some ⟨[Bl x],[]⟩:=e;rw[Th];cases hq:(ls.getLastD []).all DW
  ·rw[hq] at hx;simp only[Be,Bf,a1,a2,a3,a4,a5,e2,hx,List.all_nil,Bool.true_eq_false,if_false,Bool.false_eq_true]
  ·rw[hq] at hx;simp only[Be,Bf,a1,a2,a3,a4,a5,e2,hx,List.all_nil,Bool.true_eq_false,if_false,if_true]
 |x::r,i,nn,hd,hn=>by
  obtain⟨k,rfl⟩:∃k,nn=k+1:=⟨nn-1,by omega⟩
  obtain⟨hi,hc,Ua⟩:=D8 hd;have ih:=Af0 (a0:=a0) B2 hB h0 hN r (i+1) k Ua (by simp at hn;omega)
  have hm:=hB x (List.mem_of_getElem? hc);have e:Ac (CP p) prog fu (d+1) 202 [Bl (Ab x)]=_:=Ax8 (fu:=fu) (d:=d) (p:=p) hm.1 (by omega);have a1:decide ((i:Int)<(ls.length:Int))=true:=by simp;omega
  have a2:decide ((0:Int)<=(i:Int))=true:=by simp
  have a5:List.getD (ls.map Y0) (0+Int.toNat (i:Int)*1) PV.top=Bl (Ab x):=by
   rw[Jd,Ie,J1,List.getD_eq_getElem?_getD,List.getElem?_map,hc];rfl
  have a6:wrap .i64 ((i:Int)+1)=((i+1:Nat):Int):=B0
  rw[Th];cases hq:Ll x
  ·rw[hq] at e;have:((x::r).all Ll=false):=by simp[hq]
   rw[Cr this];simp only[Be,Bf,a1,a2,a5,e,Gw]
  ·rw[hq] at e;have:(x::r).all Ll=r.all Ll:=by simp[hq]
   rw[this];simp only[Be,Bf,a1,a2,a5,e,Fl,a6];exact ih
theorem A34{l:Al}(hB:Cz l)(hs:l.length<=1000000)(B2:200<=fu):Ac (CP p) prog fu (d+6) 181 [Bl (Ab l)]=some ⟨[Ar (U8 l)],[]⟩:=by
 rw[QD];unfold U8;by_cases h:100<l.length
 ·have a1:decide (((l.length:Nat):Int)>100)=true:=by simp;omega
  rw[Cr h];simp only[Be,Bf,Ai,a1]
 ·have a1:decide (((l.length:Nat):Int)>100)=false:=by simp;omega
  have e:Ac (CP p) prog fu (d+5) 201 [Bl (Ab l),Bl ⟨#[46]⟩]=_:=Ay8 (fu:=fu) (d:=d) (p:=p) (c:=46) (by omega) hB (by omega) (by omega);have hn:=DJ 46 l;have hd:=Af0 (a0:=Ab l) (fu:=fu) (d:=d+4) (p:=p) (by omega) (ls:=Bg 46 l) (fun x hx=>⟨(BD 46 hB x hx).1,by have:=(BD 46 hB x hx).2;omega⟩) (Rx 46 l) (by omega) (Bg 46 l) 0 fu rfl (by omega)
  rw[B3 h];simp only[Be,Bf,Ai,a1,e];exact hd
theorem Awq(s:Bool):Ac (CP p) prog fu (d+1) 182 [De s]=some ⟨[Ar (dfl s)],[]⟩:=by rw[BG];cases s<;>simp only[Be,Bf]<;>rfl
theorem JU(c:Int):DW c=true↔48<=c/\c<=57:=by unfold DW;simp
theorem YD{call:Ap}{a0:ByteArray}{l:Al}(hB:Cz l)(hs:l.length<=5):∀(r:Al)(i nn:Nat)(n:Int),l.drop i=r->r.length+1<=nn->0<=n->n<10 ^ i ->
  Hi fu call a0 nn (Ab l) n (l.length:Int) (i:Int)=some (if r.all DW=true then ⟨[Ar (r.foldl (fun n x=>10*n+(x-48)) n),De (decide (r.foldl (fun n x=>10*n+(x-48)) n<=65535))],[]⟩ else ⟨[Ar 0,De false],[]⟩)
 |[],i,nn,n,hd,hn,h0,h1=>by
  obtain⟨k,rfl⟩:∃k,nn=k+1:=⟨nn-1,by omega⟩
  have hi:=drop_nil hd;have a1:decide ((i:Int)<(l.length:Int))=false:=by simp;omega
  rw[Nv];simp only[Be,Bf,a1];rfl
 |c::r,i,nn,n,hd,hn,h0,h1=>by
  obtain⟨k,rfl⟩:∃k,nn=k+1:=⟨nn-1,by omega⟩
  obtain⟨hi,hc,Ua⟩:=D8 hd;have OW:=hB c (List.mem_of_getElem? hc)
  have hp:(10:Int) ^ i<=10 ^ 4:=by
   have h:=Nat.pow_le_pow_right (n:=10) (by omega) (show i<=4 by omega)
   exact_mod_cast h
  have hp2:(10:Int) ^ (i+1)=10 ^ i*10:=Int.pow_succ ..;have a1:decide ((i:Int)<(l.length:Int))=true:=by simp;omega
  have a2:decide ((0:Int)<=(i:Int))=true:=by simp
  have a3:(Array.toList (Ab l).data)[Int.toNat (i:Int)]?=some c.toNat.toUInt8:=by
   rw[Jd];show (l.map fun n=>n.toNat.toUInt8)[i]?=_;rw[List.getElem?_map,hc];rfl
  have a4:=Oh OW;rw[Nv];by_cases hq:48<=c/\c<=57
  ·have q1:=dF (q:=c<48) (by omega);have q2:=dF (q:=c>57) (by omega);have a5:wrap .i64 (10*n)=10*n:=Bn;have a6:wrap .u8 (c-48)=c-48:=Ow (by omega) (by omega);have a7:wrap .i64 (c-48)=c-48:=Bn;have a8:wrap .i64 (10*n+(c-48))=10*n+(c-48):=Bn;have a9:wrap .i64 ((i:Int)+1)=((i+1:Nat):Int):=B0
   have ih:=YD (call:=call) (a0:=a0) hB hs r (i+1) k (10*n+(c-48)) Ua (by simp at hn;omega) (by omega) (by omega)
   have e:(c::r).all DW=r.all DW:=by rw[List.all_cons,(JU c).2 hq,XY]
   simp only[Be,Bf,a1,a2,a3,a4,q1,q2,a5,a6,a7,a8,a9];rw[ih,e];rfl
  ·have e:(c::r).all DW=false:=by
    have:DW c=false:=by
     cases hb:DW c
     ·rfl
     ·exact absurd ((JU c).1 hb) hq
    rw[List.all_cons,this,UR]
   rw[e];by_cases h48:c<48
   ·have q1:=dT h48;simp only[Be,Bf,a1,a2,a3,a4,q1,Bool.false_eq_true,if_false]
   ·have q1:=dF h48;have q2:=dT (q:=c>57) (by omega);simp only[Be,Bf,a1,a2,a3,a4,q1,q2,Bool.false_eq_true,if_false]
theorem A44{l:Al}(hB:Cz l)(B2:100<=fu):Ac (CP p) prog fu (d+1) 183 [Bl (Ab l)]=some (if Kd l=true then ⟨[Ar (FS l),De (decide (FS l<=65535))],[]⟩ else ⟨[Ar 0,De false],[]⟩):=by
 rw[FM];by_cases h1:1<=l.length
 ·by_cases h2:l.length<=5
  ·have a1:decide (((l.length:Nat):Int)<1)=false:=by simp;omega
   have a2:decide (((l.length:Nat):Int)>5)=false:=by simp;omega
   cases l with
   |nil=>simp at h1
   |cons c r=>
    have OW:=hB c (by simp);have a3:(Array.toList (Ab (c::r)).data)[0]?=some c.toNat.toUInt8:=rfl;have a4:=Oh OW;by_cases h0:c=48
    ·subst h0;have e:Kd (48::r)=false:=by unfold Kd;simp
     have q:((48:Int)==48)=true:=rfl;rw[e];simp only[Be,Bf,Ai,a1,a2,a3,a4,q,Bool.false_eq_true,if_false]
    ·have q:(c==48)=false:=by simp[h0]
     have e:Kd (c::r)=(c::r).all DW:=by
      unfold Kd;rw[dT h1,dT h2];simp[h0]
     have hl:=YD (call:=Ac (CP p) prog fu d) (fu:=fu) (a0:=Ab (c::r)) hB h2 (c::r) 0 fu 0 rfl (by omega) (by omega) (by decide);rw[e];simp only[Be,Bf,Ai,a1,a2,a3,a4,q];exact hl
  ·have a1:decide (((l.length:Nat):Int)<1)=false:=by simp;omega
   have a2:decide (((l.length:Nat):Int)>5)=true:=by simp;omega
   have e:Kd l=false:=by unfold Kd;simp[h2]
   rw[e];simp only[Be,Bf,Ai,a1,a2,Bool.false_eq_true,if_false]
 ·have a1:decide (((l.length:Nat):Int)<1)=true:=by simp;omega
  have e:Kd l=false:=by unfold Kd;simp[h1]
  rw[e];simp only[Be,Bf,Ai,a1,Bool.false_eq_true,if_false]
theorem A85{l:Al}(hB:Cz l)(hs:l.length<=1000000)(B2:200<=fu):∃o1 o2 o3,Ac (CP p) prog fu (d+7) 157 [Bl (Ab l)]=some ⟨[.agg [De o1,Bl o2,Ar o3],Ar (E0 l)],[]⟩:=by
  have hsp:=A1f (fu:=fu) (d:=d+2) (p:=p) hB (w:=[104,116,116,112,115,58,47,47]) (fun x hx=>by simp at hx;omega)
  have Xl:=A1f (fu:=fu) (d:=d+2) (p:=p) hB (w:=[104,116,116,112,58,47,47]) (fun x hx=>by simp at hx;omega)
  have e1:Ac (CP p) prog fu (d+6) 179 [Bl (Ab l),Bl ⟨#[104,116,116,112,115,58,47,47]⟩]=_:=hsp
  have e2:Ac (CP p) prog fu (d+6) 179 [Bl (Ab l),Bl ⟨#[104,116,116,112,58,47,47]⟩]=_:=Xl
  have tail:∀(s:Bool) (r:Al),Cz r->r.length<=1000000->∃o1 o2 o3,(A9 (Ac (CP p) prog fu (d+6) 180 [PV.sc (Value.string (Ab r)),PV.sc (Value.string ⟨#[58]⟩)]) fun x17 x18=>
    Ak (x18) <|
    Ad (x17) fun x19 x20=>
    Bd (x19) fun x21=>
    Ad (x20) fun x22 x23=>
    Bd (x22) fun x24=>
    Ad (x23) fun x25 x26=>
    Ax (x25) fun x27=>
    Ak (x26) <|
    A9 (Ac (CP p) prog fu (d+6) 181 [PV.sc (Value.string x21)]) fun x28 x29=>
    Ak (x29) <|
    Ad (x28) fun x30 x31=>
    Bq (IntKind.i64) (x30) fun x32=>
    Ak (x31) <|
    Aw (x32 != (0:Int))
     (
     some (Bv.mk [PV.agg [PV.sc (Value.bool false),PV.sc (Value.string ⟨#[]⟩),PV.sc (Value.int IntKind.i64 (0:Int))],PV.sc (Value.int IntKind.i64 x32)] []))
     (
     A9 (Ac (CP p) prog fu (d+6) 182 [PV.sc (Value.bool s)]) fun x33 x34=>
     Ak (x34) <|
     Ad (x33) fun x35 x36=>
     Bq (IntKind.i64) (x35) fun x37=>
     Ak (x36) <|
     Aw (x27)
      (
      A9 (Ac (CP p) prog fu (d+6) 183 [PV.sc (Value.string x24)]) fun x38 x39=>
      Ak (x39) <|
      Ad (x38) fun x40 x41=>
      Bq (IntKind.i64) (x40) fun x42=>
      Ad (x41) fun x43 x44=>
      Ax (x43) fun x45=>
      Ak (x44) <|
      Aw (!x45)
       (
       some (Bv.mk [PV.agg [PV.sc (Value.bool false),PV.sc (Value.string ⟨#[]⟩),PV.sc (Value.int IntKind.i64 (0:Int))],PV.sc (Value.int IntKind.i64 (2:Int))] []))
       (
       Aw (x42==x37)
        (
        some (Bv.mk [PV.agg [PV.sc (Value.bool false),PV.sc (Value.string ⟨#[]⟩),PV.sc (Value.int IntKind.i64 (0:Int))],PV.sc (Value.int IntKind.i64 (2:Int))] []))
        (
        some (Bv.mk [PV.agg [PV.sc (Value.bool s),PV.sc (Value.string x21),PV.sc (Value.int IntKind.i64 x42)],PV.sc (Value.int IntKind.i64 (0:Int))] []))))
      (
      some (Bv.mk [PV.agg [PV.sc (Value.bool s),PV.sc (Value.string x21),PV.sc (Value.int IntKind.i64 x37)],PV.sc (Value.int IntKind.i64 (0:Int))] []))))=some ⟨[.agg [De o1,Bl o2,Ar o3],Ar (AO s r)],[]⟩:=by
    intro s r hr hrl
    have c1:Ac (CP p) prog fu (d+6) 180 [Bl (Ab r),Bl ⟨#[58]⟩]=_:=Bai (fu:=fu) (d:=d+2) (p:=p) (c:=58) (by omega) hr hrl
    have Tl:=QY 58 r
    have hbB:Cz (B1 58 r):=by rw[R4];exact fun x hx=>hr x (List.mem_of_mem_take hx)
    have hdB:Cz (r.drop ((B1 58 r).length+1)):=fun x hx=>hr x (List.mem_of_mem_drop hx)
    have c2:Ac (CP p) prog fu (d+6) 181 [Bl (Ab (B1 58 r))]=_:=A34 (fu:=fu) (d:=d) (p:=p) hbB (by omega) B2
    have c3:Ac (CP p) prog fu (d+6) 182 [De s]=_:=Awq (fu:=fu) (d:=d+5) (p:=p) s
    have c4:Ac (CP p) prog fu (d+6) 183 [Bl (Ab (r.drop ((B1 58 r).length+1)))]=_:=A44 (fu:=fu) (d:=d+5) (p:=p) hdB (by omega)
    unfold AO
    by_cases hh:U8 (B1 58 r)=0
    · have b1:(U8 (B1 58 r) != 0)=false:=by simp[hh]
      simp only[ne_eq,hh,not_true_eq_false,if_false]
      by_cases hw:(B1 58 r).length<r.length
      · rw[dT hw] at c1
        rw[B3 (show ¬(B1 58 r).length=r.length by omega)]
        by_cases hp:Kd (r.drop ((B1 58 r).length+1))=true
        · rw[Cr hp] at c4
          by_cases hv:FS (r.drop ((B1 58 r).length+1))<=65535
          · rw[dT hv] at c4
            by_cases hdp:FS (r.drop ((B1 58 r).length+1))=dfl s
            · have b2:(FS (r.drop ((B1 58 r).length+1))==dfl s)=true:=by simp[hdp]
              rw[B3 (by rintro⟨_,_,h⟩;exact h hdp)]
              exact⟨_,_,_,by simp only[Be,Bf,c1,c2,hh,c3,c4,b2,Fl,show ((0:Int) != 0)=false from rfl];rfl⟩
            · have b2:(FS (r.drop ((B1 58 r).length+1))==dfl s)=false:=by simp[hdp]
              rw[Cr ⟨hp,hv,hdp⟩]
              exact⟨_,_,_,by simp only[Be,Bf,c1,c2,hh,c3,c4,b2,Fl,show ((0:Int) != 0)=false from rfl];rfl⟩
          · rw[dF hv] at c4
            rw[B3 (by rintro⟨_,h,_⟩;exact hv h)]
            exact⟨_,_,_,by simp only[Be,Bf,c1,c2,hh,c3,c4,Gw,show ((0:Int) != 0)=false from rfl];rfl⟩
        · rw[B3 hp] at c4
          rw[B3 (by rintro⟨h,_,_⟩;exact hp h)]
          exact⟨_,_,_,by simp only[Be,Bf,c1,c2,hh,c3,c4,Gw,show ((0:Int) != 0)=false from rfl];rfl⟩
      · rw[dF hw] at c1
        rw[Cr (show (B1 58 r).length=r.length by omega)]
        exact⟨_,_,_,by simp only[Be,Bf,c1,c2,hh,c3,show ((0:Int) != 0)=false from rfl];rfl⟩
    · have b1:(U8 (B1 58 r) != 0)=true:=by simp[hh]
      simp only[ne_eq,hh,not_false_eq_true,if_true]
      exact⟨_,_,_,by simp only[Be,Bf,c1,c2,b1];rfl⟩
  have er:=TM (p:=p) fu (d+6) (Ab l)
  unfold E0
  cases h1:List.isPrefixOf [104,116,116,112,115,58,47,47] l
  · rw[h1] at e1
    simp only[Bool.false_eq_true,if_false] at e1 ⊢
    cases h2:List.isPrefixOf [104,116,116,112,58,47,47] l
    · rw[h2] at e2
      simp only[Bool.false_eq_true,if_false] at e2 ⊢
      exact⟨_,_,_,er.trans (by simp only[Be,Bf,e1,e2,Gw];rfl)⟩
    · rw[h2] at e2
      simp only[if_true] at e2 ⊢
      obtain⟨o1,o2,o3,ht⟩:=tail false (l.drop 7) (fun x hx=>hB x (List.mem_of_mem_drop hx)) (by simp;omega)
      refine⟨o1,o2,o3,er.trans ?_⟩
      simp only[CF,MG,CJ,HY,Acg,Aca,Ac8,e1,e2,Gw,Fl]
      exact ht
  · rw[h1] at e1
    simp only[if_true] at e1 ⊢
    obtain⟨o1,o2,o3,ht⟩:=tail true (l.drop 8) (fun x hx=>hB x (List.mem_of_mem_drop hx)) (by simp;omega)
    refine⟨o1,o2,o3,er.trans ?_⟩
    simp only[CF,MG,CJ,HY,Acg,Aca,Ac8,e1,Gw,Fl]
    exact ht
end
section
open Go Go.RowKit Go.Lib
def RtP(w':World)(l:Al)(e:Ending):Prop:=
 match Aea 8 l with
 |.ok ms=>∃mb,e=.returned (.tuple #[.map (some mb),.int .i64 0])/\VF w' mb ms
 |.error er=>er≠0/\∃m,e=.returned (.tuple #[m,.int .i64 er])
theorem NH(l:Al):Aea 8 l=match A7 [123] (Bz l) with
  |some r=>(match KJ (Ha 8) true r with
   |.error e=>.error e
   |.ok (ms,r')=>if Bz r'=[] then .ok ms else .error 2)
  |none=>.error 2:=by
 unfold Aea;rw[Fw];cases Bz l with
 |nil=>rfl
 |cons y s=>
  by_cases hy:y=123
  ·subst hy;rfl
  ·simp only[B3 hy];split
   ·rename_i e;injection e with e1 _;exact absurd e1 hy
   ·rfl
theorem E5.toBelow{w w':World}{b mb B:Nat}(k:E5 w w' b mb)(hb:B<=b)(hmb:B<=mb)(hB:B<=w.heap.size):Below B w w':=
 ⟨k.os,k.tape,k.output,k.size,fun i hi=>k.other i (by omega) (by omega) (by omega)⟩
theorem SB{w:World}(hU:gU.ok w)(hUl:∀k,gU.bl k->k<w.heap.size){w':World}(hb:Below w.heap.size w w'){b:Nat}(hbb:w.heap.size<=b):Q2 w' b:=
 ⟨gU.stable w w' (fun j _ hl=>hb.block j hl) hU,fun k hk=>⟨Ft (hUl k hk) hb.size,by have:=hUl k hk;omega⟩⟩
set_option maxHeartbeats 4000000 in
theorem Awg{t:ByteArray}(ht:t.size<=1000000){w:World}(hU:gU.ok w)(hUl:∀k,gU.bl k->k<w.heap.size):
  Calls prog 125 #[.string t] w fun e w'=>Below w.heap.size w w'/\RtP w' (Cs t) e:=by
 have mixed:prog.follows Departure.mixedOrders=true:=by kernel_rfl
 have hmm:=@run_makeMap prog;have F4:Below w.heap.size w (w.alloc (.cells #[.string t,.int .i64 0] 218)):=(Below.refl _ w).alloc (Ci _) _;have Ko:Below w.heap.size w ((w.alloc (.cells #[.string t,.int .i64 0] 218)).alloc (.map #[] 0)):=F4.alloc F4.size _;have RB:(w.alloc (.cells #[.string t,.int .i64 0] 218)).heap.size=w.heap.size+1:=Array.size_push _
 have h2:HW ((w.alloc (.cells #[.string t,.int .i64 0] 218)).alloc (.map #[] 0)) w.heap.size 0 t (Cs t):=by
  have hg:((w.alloc (.cells #[.string t,.int .i64 0] 218)).alloc (.map #[] 0)).heap[w.heap.size]?=some (.cells #[.string t,.int .i64 0] 218):=by
   show ((w.heap.push _).push _)[w.heap.size]?=_;rw[Array.getElem?_push_lt (by simp)];simp
  have hp:Cn t (Cs t)=0:=by unfold Cn;rw[Ca];omega
  refine⟨?_,?_,?_,?_,?_⟩
  ·show w.heap.size<((w.heap.push _).push _).size;rw[Array.size_push,Array.size_push];omega
  ·unfold World.cell?;simp only[hg];rfl
  ·unfold World.cell?;simp only[hg,hp];rfl
  ·unfold World.frozen?;simp only[hg];rfl
  ·unfold World.frozen?;simp only[hg];rfl
 have hM2:VF ((w.alloc (.cells #[.string t,.int .i64 0] 218)).alloc (.map #[] 0)) (w.heap.size+1) []:=by
  show ((w.heap.push _).push (Obj.map #[] 0))[w.heap.size+1]?=some (.map #[] 0);have:w.heap.size+1=(w.heap.push (Obj.cells #[.string t,.int .i64 0] 218)).size:=by simp
  rw[this];exact Array.getElem?_push_size
 have hU2:=SB hU hUl Ko (Ci _);have hmU:¬gU.bl (w.heap.size+1):=fun h=>by have:=hUl _ h;omega
 have hS:=Eh.all t;have hsk:=Lh hS ht hU2 h2
 go_enter Tryz.func125,Tryz.ntmps125
 go_wp2_with (go_at_call 154;refine hsk.mono ?_)
 rintro e W3 ⟨rfl,h3,k3⟩
 have hS3:=Cp hS;have hM3:=hM2.keep k3 (by omega);have hU3:=hU2.keep k3;have hro:=Axf hS3 ht hU3 h3 hM3 (by omega) hmU;have Ox:Below w.heap.size w W3:=Ko.trans ((E5.of (mb:=w.heap.size+1) k3).toBelow (Ci _) (by omega) Ko.size)
 go_wp2_with (go_at_call 155;refine hro.mono ?_)
 rintro e W4 ⟨k4,r4,QV,h4,hr4⟩
 have Ug:Below w.heap.size w W4:=Ox.trans (k4.toBelow (Ci _) (by omega) Ox.size);have hU4:Q2 W4 w.heap.size:=SB hU hUl Ug (Ci _)
 have hRt:∀W e,(match A7 [123] (Bz (Cs t)) with
  |some r=>(match KJ (Ha 8) true r with
   |.error er=>er≠0/\∃m,e=.returned (.tuple #[m,.int .i64 er])
   |.ok (ms,r')=>if Bz r'=[] then ∃mb,e=.returned (.tuple #[.map (some mb),.int .i64 0])/\VF W mb ms else ∃m,e=.returned (.tuple #[m,.int .i64 2]))
  |none=>∃m,e=.returned (.tuple #[m,.int .i64 2]))->RtP W (Cs t) e:=by
  intro W e;unfold RtP;rw[NH];cases A7 [123] (Bz (Cs t)) with
  |none=>exact fun h=>⟨by decide,h⟩
  |some r=>
   cases hob:KJ (Ha 8) true r with
   |error er=>simp only[hob];exact id
   |ok x=>
    obtain⟨ms,r'⟩:=x;simp only[hob];by_cases g:Bz r'=[]
    ·simp only[Cr g];exact id
    ·simp only[B3 g];exact fun h=>⟨by decide,h⟩
 unfold RoP at hr4;cases hq:A7 [123] (Bz (Cs t)) with
 |none=>
  rw[hq] at hr4 hRt;subst hr4
  go_wp2
  go_ret2
  exact⟨Ug,hRt _ _ ⟨_,rfl⟩⟩
 |some r=>
  rw[hq] at hr4 hRt;simp only at hr4 hRt;cases ho:KJ (Ha 8) true r with
  |error er=>
   rw[ho] at hr4 hRt;obtain⟨he,rfl⟩:=hr4;have hbe:(er != (0:Int))=true:=by simp[he]
   go_wp2
   go_ret2
   exact⟨Ug,hRt _ _ ⟨he,_,rfl⟩⟩
  |ok x=>
   obtain⟨ms,r'⟩:=x;rw[ho] at hr4 hRt;obtain⟨rfl,rfl,hM4⟩:=hr4;have A4v:=Lh QV ht hU4 h4
   go_wp2_with (go_at_call 154;refine A4v.mono ?_)
   rintro e W5 ⟨rfl,h5,k5⟩
   have WM:Below w.heap.size w W5:=Ug.trans ((E5.of (mb:=w.heap.size+1) k5).toBelow (Ci _) (by omega) Ug.size);have hM5:=hM4.keep k5 (by omega);obtain⟨Ck,hc0,DZ,hf0,hf1⟩:=h5;have Na:=Cp QV;have hl5:=Na.len;cases hx:Bz r4 with
   |nil=>
    rw[hx] at DZ hRt;rw[JB] at DZ
    go_wp2
    go_region_o
    go_wp2
    go_ret2
    exact⟨WM.drew,hRt _ _ (by rw[Cr trivial];exact⟨_,rfl,hM5⟩)⟩
   |cons c q=>
    rw[hx] at DZ hRt hl5
    have Bs0:(Cn t (c::q):Int)<t.size:=by
     unfold Cn;rw[Tm] at hl5 ⊢;omega
    have Bfu:¬(c::q=[]):=by simp
    go_wp2
    go_region_o
    go_wp2
    go_ret2
    exact⟨WM.drew,hRt _ _ (by rw[B3 Bfu];exact⟨_,rfl⟩)⟩
end
end
end Go.Proofs.YtohcncipgljdkaaGreatDoor.Pv
