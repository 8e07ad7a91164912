/-
  The proof of SigninSigned, part 5.
-/
import Derived.Test.YtohcncipgljdkaaGreatDoorGD
import Derived.Test.YtohcncipgljdkaaGreatDoorRows
import Derived.Shelf.RegionOpenPlain
import Derived.Lib.Overlaps
import Derived.Lib.AppendZerosOnto
import Derived.Lib.Walk
import Derived.Lib.SliceRun
import Derived.Laws.Externs
import Derived.Laws.IdiomCopy
import Derived.Laws.NewBlocks
import Derived.WalkKit
import Derived.WalkMore
import Derived.Shelf.Unicode.ValidAny
import Derived.Lib.LaidU8T
set_option linter.unusedSimpArgs false
set_option linter.unusedVariables false
namespace Go.Proofs.YtohcncipgljdkaaGreatDoor.Pv
open Go.IntKind (wrap)
open Go.Proofs.Tryz (prog)
set_option maxRecDepth 1000000
noncomputable section
section
variable {xs:FuncId->Option (Ae->Option Bq)}(fu d:Nat)(call:Ap)
theorem Q6{p:Option (Ae->Option Bq)}(fu d:Nat)(Z:ByteArray)(Y:Int):Ac (CP p) prog fu (d+1) 175 [Z,.sc (.int .u8 Y)]=(fun (call:Ap)=>Gs .i64 (call 190 [Z,.sc (.int .u8 Y)]) fun a=>Bh [a]) (Ac (CP p) prog fu d):=by kernel_rfl
def Ei(Z:ByteArray)(Y:Int)(X:Nat)(W:ByteArray)(V:Int):Option Bq:=Kj fu call 154 Tryz.f154 [.pbox [Z,Y]] [.l] X ⟨lk [(0,.ptr 64000 0)],Ct [(64000,.st [W,V])]⟩
theorem Hk(X:ByteArray)(W:Int)(V:Nat)(Y:ByteArray)(Z:Int):Ei fu call X W (V+1) Y Z=(Ax (decide (Z<(↑(ByteArray.size Y):Int))) (Ar (decide (0<=Z))<|Ea ((Array.toList (ByteArray.data Y))[Z.toNat]?) fun a=>Gs .i64 (call 175 [Bm ⟨#[32,9,10,13]⟩,.sc (.int .u8 (↑(UInt8.toNat a):Int))]) fun a=>Ax (decide (a>=0)) (Aa (wrap .i64 (Z+1)) fun a=>Ei fu call X W V Y a) (some ⟨[],[[Y,Z]]⟩)) (some ⟨[],[[Y,Z]]⟩)):=by kernel_rfl
theorem Pz{p:Option (Ae->Option Bq)}(fu d:Nat)(Z:ByteArray)(Y:Int):Ac (CP p) prog fu (d+1) 154 [.pbox [Z,Y]]=(fun (call:Ap)=>Ei fu call Z Y fu Z Y) (Ac (CP p) prog fu d):=by kernel_rfl
def Ed(Z:ByteArray)(Y:Int)(X:Nat)(W:Int)(V:ByteArray)(U:Int):Option Bq:=Kj fu call 211 Tryz.f211 [.pbox [Z,Y]] [.r,.r,.l,.l] X ⟨lk [(0,.ptr 58000 0),(3,W)],Ct [(58000,.st [V,U])]⟩
theorem G4(Y:ByteArray)(X:Int)(W:Nat)(Z:Int)(V:ByteArray)(U:Int):Ed fu call Y X (W+1) Z V U=(Aw (call 196 [.pbox [V,U]]) fun a b=>B8 .u8 a fun a=>Ad b fun b c=>Ad b fun b e=>Bi b fun b=>B8 .i64 e fun e=>Ak c<|Ax (decide (a>=48)) (Aw (call 196 [.pbox [b,e]]) fun a b=>B8 .u8 a fun a=>Ad b fun b c=>Ad b fun b e=>Bi b fun b=>B8 .i64 e fun e=>Ak c<|Ax (decide (a<=57)) (Aa (wrap .i64 (e+1)) fun a=>Ed fu call Y X W Z b a) (some ⟨[C5 (decide (e>Z))],[[b,e]]⟩)) (some ⟨[C5 (decide (e>Z))],[[b,e]]⟩)):=by kernel_rfl
theorem Pb{p:Option (Ae->Option Bq)}(fu d:Nat)(Y:ByteArray)(Z:Int):Ac (CP p) prog fu (d+1) 211 [.pbox [Y,Z]]=(fun (call:Ap)=>Ed fu call Y Z fu Z Y Z) (Ac (CP p) prog fu d):=by kernel_rfl
theorem Aj{p:Option (Ae->Option Bq)}(fu d:Nat)(Z:ByteArray)(Y:Int):Ac (CP p) prog fu (d+1) 198 [.pbox [Z,Y]]=(fun (call:Ap)=>Aw (call 176 [.pbox [Z,Y],Bm ⟨#[45]⟩]) fun a b=>G2 a fun a=>Ad b fun a b=>Ad a fun a c=>Bi a fun a=>B8 .i64 c fun c=>Ak b<|Aw (call 176 [.pbox [a,c],Bm ⟨#[48]⟩]) fun a b=>G2 a fun a=>Ad b fun b c=>Ad b fun b e=>Bi b fun b=>B8 .i64 e fun e=>Ak c<|Ax (!a) (Aw (call 211 [.pbox [b,e]]) fun a b=>G2 a fun a=>Ad b fun b c=>Ad b fun b e=>Bi b fun b=>B8 .i64 e fun e=>Ak c<|Ax (!a) (some ⟨[false],[[b,e]]⟩) (Aw (call 176 [.pbox [b,e],Bm ⟨#[46]⟩]) fun a b=>G2 a fun a=>Ad b fun b c=>Ad b fun b e=>Bi b fun b=>B8 .i64 e fun e=>Ak c<|Ax a (Aw (call 211 [.pbox [b,e]]) fun a b=>G2 a fun a=>Ad b fun b c=>Ad b fun b e=>Bi b fun b=>B8 .i64 e fun e=>Ak c<|Ax (!a) (some ⟨[false],[[b,e]]⟩) (Aw (call 176 [.pbox [b,e],Bm ⟨#[101]⟩]) fun a b=>G2 a fun a=>Ad b fun b c=>Ad b fun b e=>Bi b fun b=>B8 .i64 e fun e=>Ak c<|Ax a (Aw (call 176 [.pbox [b,e],Bm ⟨#[43]⟩]) fun a b=>G2 a fun a=>Ad b fun b c=>Ad b fun b e=>Bi b fun b=>B8 .i64 e fun e=>Ak c<|Ax (!a) (Aw (call 176 [.pbox [b,e],Bm ⟨#[45]⟩]) fun a b=>G2 a fun a=>Ad b fun a b=>Ad a fun a c=>Bi a fun a=>B8 .i64 c fun c=>Ak b<|Aw (call 211 [.pbox [a,c]]) fun a b=>G2 a fun a=>Ad b fun b c=>Ad b fun b e=>Bi b fun b=>B8 .i64 e fun e=>Ak c<|some ⟨[a],[[b,e]]⟩) (Aw (call 211 [.pbox [b,e]]) fun a b=>G2 a fun a=>Ad b fun b c=>Ad b fun b e=>Bi b fun b=>B8 .i64 e fun e=>Ak c<|some ⟨[a],[[b,e]]⟩)) (Aw (call 176 [.pbox [b,e],Bm ⟨#[69]⟩]) fun a b=>G2 a fun a=>Ad b fun b c=>Ad b fun b e=>Bi b fun b=>B8 .i64 e fun e=>Ak c<|Ax a (Aw (call 176 [.pbox [b,e],Bm ⟨#[43]⟩]) fun a b=>G2 a fun a=>Ad b fun b c=>Ad b fun b e=>Bi b fun b=>B8 .i64 e fun e=>Ak c<|Ax (!a) (Aw (call 176 [.pbox [b,e],Bm ⟨#[45]⟩]) fun a b=>G2 a fun a=>Ad b fun a b=>Ad a fun a c=>Bi a fun a=>B8 .i64 c fun c=>Ak b<|Aw (call 211 [.pbox [a,c]]) fun a b=>G2 a fun a=>Ad b fun b c=>Ad b fun b e=>Bi b fun b=>B8 .i64 e fun e=>Ak c<|some ⟨[a],[[b,e]]⟩) (Aw (call 211 [.pbox [b,e]]) fun a b=>G2 a fun a=>Ad b fun b c=>Ad b fun b e=>Bi b fun b=>B8 .i64 e fun e=>Ak c<|some ⟨[a],[[b,e]]⟩)) (some ⟨[true],[[b,e]]⟩)))) (Aw (call 176 [.pbox [b,e],Bm ⟨#[101]⟩]) fun a b=>G2 a fun a=>Ad b fun b c=>Ad b fun b e=>Bi b fun b=>B8 .i64 e fun e=>Ak c<|Ax a (Aw (call 176 [.pbox [b,e],Bm ⟨#[43]⟩]) fun a b=>G2 a fun a=>Ad b fun b c=>Ad b fun b e=>Bi b fun b=>B8 .i64 e fun e=>Ak c<|Ax (!a) (Aw (call 176 [.pbox [b,e],Bm ⟨#[45]⟩]) fun a b=>G2 a fun a=>Ad b fun a b=>Ad a fun a c=>Bi a fun a=>B8 .i64 c fun c=>Ak b<|Aw (call 211 [.pbox [a,c]]) fun a b=>G2 a fun a=>Ad b fun b c=>Ad b fun b e=>Bi b fun b=>B8 .i64 e fun e=>Ak c<|some ⟨[a],[[b,e]]⟩) (Aw (call 211 [.pbox [b,e]]) fun a b=>G2 a fun a=>Ad b fun b c=>Ad b fun b e=>Bi b fun b=>B8 .i64 e fun e=>Ak c<|some ⟨[a],[[b,e]]⟩)) (Aw (call 176 [.pbox [b,e],Bm ⟨#[69]⟩]) fun a b=>G2 a fun a=>Ad b fun b c=>Ad b fun b e=>Bi b fun b=>B8 .i64 e fun e=>Ak c<|Ax a (Aw (call 176 [.pbox [b,e],Bm ⟨#[43]⟩]) fun a b=>G2 a fun a=>Ad b fun b c=>Ad b fun b e=>Bi b fun b=>B8 .i64 e fun e=>Ak c<|Ax (!a) (Aw (call 176 [.pbox [b,e],Bm ⟨#[45]⟩]) fun a b=>G2 a fun a=>Ad b fun a b=>Ad a fun a c=>Bi a fun a=>B8 .i64 c fun c=>Ak b<|Aw (call 211 [.pbox [a,c]]) fun a b=>G2 a fun a=>Ad b fun b c=>Ad b fun b e=>Bi b fun b=>B8 .i64 e fun e=>Ak c<|some ⟨[a],[[b,e]]⟩) (Aw (call 211 [.pbox [b,e]]) fun a b=>G2 a fun a=>Ad b fun b c=>Ad b fun b e=>Bi b fun b=>B8 .i64 e fun e=>Ak c<|some ⟨[a],[[b,e]]⟩)) (some ⟨[true],[[b,e]]⟩))))) (Aw (call 176 [.pbox [b,e],Bm ⟨#[46]⟩]) fun a b=>G2 a fun a=>Ad b fun b c=>Ad b fun b e=>Bi b fun b=>B8 .i64 e fun e=>Ak c<|Ax a (Aw (call 211 [.pbox [b,e]]) fun a b=>G2 a fun a=>Ad b fun b c=>Ad b fun b e=>Bi b fun b=>B8 .i64 e fun e=>Ak c<|Ax (!a) (some ⟨[false],[[b,e]]⟩) (Aw (call 176 [.pbox [b,e],Bm ⟨#[101]⟩]) fun a b=>G2 a fun a=>Ad b fun b c=>Ad b fun b e=>Bi b fun b=>B8 .i64 e fun e=>Ak c<|Ax a (Aw (call 176 [.pbox [b,e],Bm ⟨#[43]⟩]) fun a b=>G2 a fun a=>Ad b fun b c=>Ad b fun b e=>Bi b fun b=>B8 .i64 e fun e=>Ak c<|Ax (!a) (Aw (call 176 [.pbox [b,e],Bm ⟨#[45]⟩]) fun a b=>G2 a fun a=>Ad b fun a b=>Ad a fun a c=>Bi a fun a=>B8 .i64 c fun c=>Ak b<|Aw (call 211 [.pbox [a,c]]) fun a b=>G2 a fun a=>Ad b fun b c=>Ad b fun b e=>Bi b fun b=>B8 .i64 e fun e=>Ak c<|some ⟨[a],[[b,e]]⟩) (Aw (call 211 [.pbox [b,e]]) fun a b=>G2 a fun a=>Ad b fun b c=>Ad b fun b e=>Bi b fun b=>B8 .i64 e fun e=>Ak c<|some ⟨[a],[[b,e]]⟩)) (Aw (call 176 [.pbox [b,e],Bm ⟨#[69]⟩]) fun a b=>G2 a fun a=>Ad b fun b c=>Ad b fun b e=>Bi b fun b=>B8 .i64 e fun e=>Ak c<|Ax a (Aw (call 176 [.pbox [b,e],Bm ⟨#[43]⟩]) fun a b=>G2 a fun a=>Ad b fun b c=>Ad b fun b e=>Bi b fun b=>B8 .i64 e fun e=>Ak c<|Ax (!a) (Aw (call 176 [.pbox [b,e],Bm ⟨#[45]⟩]) fun a b=>G2 a fun a=>Ad b fun a b=>Ad a fun a c=>Bi a fun a=>B8 .i64 c fun c=>Ak b<|Aw (call 211 [.pbox [a,c]]) fun a b=>G2 a fun a=>Ad b fun b c=>Ad b fun b e=>Bi b fun b=>B8 .i64 e fun e=>Ak c<|some ⟨[a],[[b,e]]⟩) (Aw (call 211 [.pbox [b,e]]) fun a b=>G2 a fun a=>Ad b fun b c=>Ad b fun b e=>Bi b fun b=>B8 .i64 e fun e=>Ak c<|some ⟨[a],[[b,e]]⟩)) (some ⟨[true],[[b,e]]⟩)))) (Aw (call 176 [.pbox [b,e],Bm ⟨#[101]⟩]) fun a b=>G2 a fun a=>Ad b fun b c=>Ad b fun b e=>Bi b fun b=>B8 .i64 e fun e=>Ak c<|Ax a (Aw (call 176 [.pbox [b,e],Bm ⟨#[43]⟩]) fun a b=>G2 a fun a=>Ad b fun b c=>Ad b fun b e=>Bi b fun b=>B8 .i64 e fun e=>Ak c<|Ax (!a) (Aw (call 176 [.pbox [b,e],Bm ⟨#[45]⟩]) fun a b=>G2 a fun a=>Ad b fun a b=>Ad a fun a c=>Bi a fun a=>B8 .i64 c fun c=>Ak b<|Aw (call 211 [.pbox [a,c]]) fun a b=>G2 a fun a=>Ad b fun b c=>Ad b fun b e=>Bi b fun b=>B8 .i64 e fun e=>Ak c<|some ⟨[a],[[b,e]]⟩) (Aw (call 211 [.pbox [b,e]]) fun a b=>G2 a fun a=>Ad b fun b c=>Ad b fun b e=>Bi b fun b=>B8 .i64 e fun e=>Ak c<|some ⟨[a],[[b,e]]⟩)) (Aw (call 176 [.pbox [b,e],Bm ⟨#[69]⟩]) fun a b=>G2 a fun a=>Ad b fun b c=>Ad b fun b e=>Bi b fun b=>B8 .i64 e fun e=>Ak c<|Ax a (Aw (call 176 [.pbox [b,e],Bm ⟨#[43]⟩]) fun a b=>G2 a fun a=>Ad b fun b c=>Ad b fun b e=>Bi b fun b=>B8 .i64 e fun e=>Ak c<|Ax (!a) (Aw (call 176 [.pbox [b,e],Bm ⟨#[45]⟩]) fun a b=>G2 a fun a=>Ad b fun a b=>Ad a fun a c=>Bi a fun a=>B8 .i64 c fun c=>Ak b<|Aw (call 211 [.pbox [a,c]]) fun a b=>G2 a fun a=>Ad b fun b c=>Ad b fun b e=>Bi b fun b=>B8 .i64 e fun e=>Ak c<|some ⟨[a],[[b,e]]⟩) (Aw (call 211 [.pbox [b,e]]) fun a b=>G2 a fun a=>Ad b fun b c=>Ad b fun b e=>Bi b fun b=>B8 .i64 e fun e=>Ak c<|some ⟨[a],[[b,e]]⟩)) (some ⟨[true],[[b,e]]⟩))))) (Ac (CP p) prog fu d):=by kernel_rfl
def Ej(Z:ByteArray)(Y X:Int)(W:Nat)(V:Int)(U:ByteArray)(T:Int):Option Bq:=Kj fu call 197 Tryz.f197 [.pbox [Z,Y],X] [.r,.r,.r,.r,.l] W ⟨lk [(0,.ptr 64000 0),(1,V)],Ct [(64000,.st [U,T])]⟩
theorem Ng(Y:ByteArray)(X W:Int)(V:Nat)(Z:Int)(U:ByteArray)(T:Int):Ej fu call Y X W (V+1) Z U T=(Aw (call 178 [.pbox [U,T],Z]) fun a b=>Ad a fun a c=>Eo a fun a=>Dw .i64 a fun a e=>Ad e fun a e=>Bi a fun a=>G2 e fun a=>B8 .i64 c fun a=>Ad b fun b c=>Ad b fun b e=>Bi b fun b=>B8 .i64 e fun e=>Ak c<|Ax (a != 0) (some ⟨[a],[[b,e]]⟩) (Aw (call 154 [.pbox [b,e]]) fun a b=>Ak a<|Ad b fun a b=>Ad a fun a c=>Bi a fun a=>B8 .i64 c fun c=>Ak b<|Aw (call 176 [.pbox [a,c],Bm ⟨#[93]⟩]) fun a b=>G2 a fun a=>Ad b fun b c=>Ad b fun b e=>Bi b fun b=>B8 .i64 e fun e=>Ak c<|Ax a (some ⟨[(0:Int)],[[b,e]]⟩) (Aw (call 176 [.pbox [b,e],Bm ⟨#[44]⟩]) fun a b=>G2 a fun a=>Ad b fun b c=>Ad b fun b e=>Bi b fun b=>B8 .i64 e fun e=>Ak c<|Ax (!a) (some ⟨[(2:Int)],[[b,e]]⟩) (Aw (call 154 [.pbox [b,e]]) fun a b=>Ak a<|Ad b fun a b=>Ad a fun a c=>Bi a fun a=>B8 .i64 c fun c=>Ak b<|Ej fu call Y X W V Z a c)))):=by kernel_rfl
theorem Qr{p:Option (Ae->Option Bq)}(fu d:Nat)(Z:ByteArray)(Y X:Int):Ac (CP p) prog fu (d+1) 197 [.pbox [Z,Y],X]=(fun (call:Ap)=>Aw (call 176 [.pbox [Z,Y],Bm ⟨#[91]⟩]) fun a b=>G2 a fun a=>Ad b fun b c=>Ad b fun b e=>Bi b fun b=>B8 .i64 e fun e=>Ak c<|Ax (!a) (some ⟨[(2:Int)],[[b,e]]⟩) (Aw (call 154 [.pbox [b,e]]) fun a b=>Ak a<|Ad b fun a b=>Ad a fun a c=>Bi a fun a=>B8 .i64 c fun c=>Ak b<|Aw (call 176 [.pbox [a,c],Bm ⟨#[93]⟩]) fun a b=>G2 a fun a=>Ad b fun b c=>Ad b fun b e=>Bi b fun b=>B8 .i64 e fun e=>Ak c<|Ax a (some ⟨[(0:Int)],[[b,e]]⟩) (Ej fu call Z Y X fu X b e))) (Ac (CP p) prog fu d):=by kernel_rfl
def Eb(Z:ByteArray)(Y X:Int)(W:Nat)(V:Int)(U:ByteArray)(T:Int):Option Bq:=Kj fu call 155 Tryz.f155 [.pbox [Z,Y],X,.sc (Value.map none)] [.r,.r,.r,.r,.l] W ⟨lk [(0,.ptr 128000 0),(1,V),(2,.sc (Value.map none))],Ct [(128000,.st [U,T])]⟩
theorem Mo(Y:ByteArray)(X W:Int)(V:Nat)(Z:Int)(U:ByteArray)(T:Int):Eb fu call Y X W (V+1) Z U T=(Aw (call 177 [.pbox [U,T]]) fun a b=>Ad a fun a c=>Bi a fun a=>G2 c fun a=>Ad b fun b c=>Ad b fun b e=>Bi b fun b=>B8 .i64 e fun e=>Ak c<|Ax (!a) (some ⟨[(2:Int)],[[b,e]]⟩) (Aw (call 154 [.pbox [b,e]]) fun a b=>Ak a<|Ad b fun a b=>Ad a fun a c=>Bi a fun a=>B8 .i64 c fun c=>Ak b<|Aw (call 176 [.pbox [a,c],Bm ⟨#[58]⟩]) fun a b=>G2 a fun a=>Ad b fun b c=>Ad b fun b e=>Bi b fun b=>B8 .i64 e fun e=>Ak c<|Ax (!a) (some ⟨[(2:Int)],[[b,e]]⟩) (Aw (call 154 [.pbox [b,e]]) fun a b=>Ak a<|Ad b fun a b=>Ad a fun a c=>Bi a fun a=>B8 .i64 c fun c=>Ak b<|Aw (call 178 [.pbox [a,c],Z]) fun a b=>Ad a fun a c=>Eo a fun a=>Dw .i64 a fun a e=>Ad e fun a e=>Bi a fun a=>G2 e fun a=>B8 .i64 c fun a=>Ad b fun b c=>Ad b fun b e=>Bi b fun b=>B8 .i64 e fun e=>Ak c<|Ax (a != 0) (some ⟨[a],[[b,e]]⟩) (Aw (call 154 [.pbox [b,e]]) fun a b=>Ak a<|Ad b fun a b=>Ad a fun a c=>Bi a fun a=>B8 .i64 c fun c=>Ak b<|Aw (call 176 [.pbox [a,c],Bm ⟨#[125]⟩]) fun a b=>G2 a fun a=>Ad b fun b c=>Ad b fun b e=>Bi b fun b=>B8 .i64 e fun e=>Ak c<|Ax a (some ⟨[(0:Int)],[[b,e]]⟩) (Aw (call 176 [.pbox [b,e],Bm ⟨#[44]⟩]) fun a b=>G2 a fun a=>Ad b fun b c=>Ad b fun b e=>Bi b fun b=>B8 .i64 e fun e=>Ak c<|Ax (!a) (some ⟨[(2:Int)],[[b,e]]⟩) (Aw (call 154 [.pbox [b,e]]) fun a b=>Ak a<|Ad b fun a b=>Ad a fun a c=>Bi a fun a=>B8 .i64 c fun c=>Ak b<|Eb fu call Y X W V Z a c)))))):=by kernel_rfl
theorem Ok{p:Option (Ae->Option Bq)}(fu d:Nat)(Z:ByteArray)(Y X:Int):Ac (CP p) prog fu (d+1) 155 [.pbox [Z,Y],X,.sc (Value.map none)]=(fun (call:Ap)=>Aw (call 176 [.pbox [Z,Y],Bm ⟨#[123]⟩]) fun a b=>G2 a fun a=>Ad b fun b c=>Ad b fun b e=>Bi b fun b=>B8 .i64 e fun e=>Ak c<|Ax (!a) (some ⟨[(2:Int)],[[b,e]]⟩) (Aw (call 154 [.pbox [b,e]]) fun a b=>Ak a<|Ad b fun a b=>Ad a fun a c=>Bi a fun a=>B8 .i64 c fun c=>Ak b<|Aw (call 176 [.pbox [a,c],Bm ⟨#[125]⟩]) fun a b=>G2 a fun a=>Ad b fun b c=>Ad b fun b e=>Bi b fun b=>B8 .i64 e fun e=>Ak c<|Ax a (some ⟨[(0:Int)],[[b,e]]⟩) (Eb fu call Z Y X fu X b e))) (Ac (CP p) prog fu d):=by kernel_rfl
theorem Cz{p:Option (Ae->Option Bq)}(fu d:Nat)(Y:ByteArray)(X Z:Int):Ac (CP p) prog fu (d+1) 178 [.pbox [Y,X],Z]=(fun (call:Ap)=>Aw (call 196 [.pbox [Y,X]]) fun a b=>B8 .u8 a fun a=>Ad b fun b c=>Ad b fun b e=>Bi b fun b=>B8 .i64 e fun e=>Ak c<|Ax (a==123) (Ax (decide (Z>8)) (some ⟨[.agg [(0:Int),Bm ⟨#[]⟩,false],(5:Int)],[[b,e]]⟩) (Ax (a==123) (Aa (wrap .i64 (Z+1)) fun a=>Aw (call 155 [.pbox [b,e],a,.sc (Value.map none)]) fun a b=>B8 .i64 a fun a=>Ad b fun b c=>Ad b fun b e=>Bi b fun b=>B8 .i64 e fun e=>Ak c<|some ⟨[.agg [(6:Int),Bm ⟨#[]⟩,false],a],[[b,e]]⟩) (Ax (a==91) (Aa (wrap .i64 (Z+1)) fun a=>Aw (call 197 [.pbox [b,e],a]) fun a b=>B8 .i64 a fun a=>Ad b fun b c=>Ad b fun b e=>Bi b fun b=>B8 .i64 e fun e=>Ak c<|some ⟨[.agg [(5:Int),Bm ⟨#[]⟩,false],a],[[b,e]]⟩) (Ax (a==34) (Aw (call 177 [.pbox [b,e]]) fun a b=>Ad a fun a c=>Bi a fun a=>G2 c fun c=>Ad b fun b e=>Ad b fun b f=>Bi b fun b=>B8 .i64 f fun f=>Ak e<|Ax c (some ⟨[.agg [(4:Int),a,false],(0:Int)],[[b,f]]⟩) (some ⟨[.agg [(0:Int),Bm ⟨#[]⟩,false],(2:Int)],[[b,f]]⟩)) (Aw (call 176 [.pbox [b,e],Bm ⟨#[116,114,117,101]⟩]) fun a b=>G2 a fun a=>Ad b fun b c=>Ad b fun b e=>Bi b fun b=>B8 .i64 e fun e=>Ak c<|Ax a (some ⟨[.agg [(2:Int),Bm ⟨#[]⟩,true],(0:Int)],[[b,e]]⟩) (Aw (call 176 [.pbox [b,e],Bm ⟨#[102,97,108,115,101]⟩]) fun a b=>G2 a fun a=>Ad b fun b c=>Ad b fun b e=>Bi b fun b=>B8 .i64 e fun e=>Ak c<|Ax a (some ⟨[.agg [(2:Int),Bm ⟨#[]⟩,false],(0:Int)],[[b,e]]⟩) (Aw (call 176 [.pbox [b,e],Bm ⟨#[110,117,108,108]⟩]) fun a b=>G2 a fun a=>Ad b fun b c=>Ad b fun b e=>Bi b fun b=>B8 .i64 e fun e=>Ak c<|Ax a (some ⟨[.agg [(1:Int),Bm ⟨#[]⟩,false],(0:Int)],[[b,e]]⟩) (Aw (call 198 [.pbox [b,e]]) fun a b=>G2 a fun a=>Ad b fun b c=>Ad b fun b e=>Bi b fun b=>B8 .i64 e fun e=>Ak c<|Ax a (some ⟨[.agg [(3:Int),Bm ⟨#[]⟩,false],(0:Int)],[[b,e]]⟩) (some ⟨[.agg [(0:Int),Bm ⟨#[]⟩,false],(2:Int)],[[b,e]]⟩))))))))) (Ax (a==91) (Ax (decide (Z>8)) (some ⟨[.agg [(0:Int),Bm ⟨#[]⟩,false],(5:Int)],[[b,e]]⟩) (Ax (a==123) (Aa (wrap .i64 (Z+1)) fun a=>Aw (call 155 [.pbox [b,e],a,.sc (Value.map none)]) fun a b=>B8 .i64 a fun a=>Ad b fun b c=>Ad b fun b e=>Bi b fun b=>B8 .i64 e fun e=>Ak c<|some ⟨[.agg [(6:Int),Bm ⟨#[]⟩,false],a],[[b,e]]⟩) (Ax (a==91) (Aa (wrap .i64 (Z+1)) fun a=>Aw (call 197 [.pbox [b,e],a]) fun a b=>B8 .i64 a fun a=>Ad b fun b c=>Ad b fun b e=>Bi b fun b=>B8 .i64 e fun e=>Ak c<|some ⟨[.agg [(5:Int),Bm ⟨#[]⟩,false],a],[[b,e]]⟩) (Ax (a==34) (Aw (call 177 [.pbox [b,e]]) fun a b=>Ad a fun a c=>Bi a fun a=>G2 c fun c=>Ad b fun b e=>Ad b fun b f=>Bi b fun b=>B8 .i64 f fun f=>Ak e<|Ax c (some ⟨[.agg [(4:Int),a,false],(0:Int)],[[b,f]]⟩) (some ⟨[.agg [(0:Int),Bm ⟨#[]⟩,false],(2:Int)],[[b,f]]⟩)) (Aw (call 176 [.pbox [b,e],Bm ⟨#[116,114,117,101]⟩]) fun a b=>G2 a fun a=>Ad b fun b c=>Ad b fun b e=>Bi b fun b=>B8 .i64 e fun e=>Ak c<|Ax a (some ⟨[.agg [(2:Int),Bm ⟨#[]⟩,true],(0:Int)],[[b,e]]⟩) (Aw (call 176 [.pbox [b,e],Bm ⟨#[102,97,108,115,101]⟩]) fun a b=>G2 a fun a=>Ad b fun b c=>Ad b fun b e=>Bi b fun b=>B8 .i64 e fun e=>Ak c<|Ax a (some ⟨[.agg [(2:Int),Bm ⟨#[]⟩,false],(0:Int)],[[b,e]]⟩) (Aw (call 176 [.pbox [b,e],Bm ⟨#[110,117,108,108]⟩]) fun a b=>G2 a fun a=>Ad b fun b c=>Ad b fun b e=>Bi b fun b=>B8 .i64 e fun e=>Ak c<|Ax a (some ⟨[.agg [(1:Int),Bm ⟨#[]⟩,false],(0:Int)],[[b,e]]⟩) (Aw (call 198 [.pbox [b,e]]) fun a b=>G2 a fun a=>Ad b fun b c=>Ad b fun b e=>Bi b fun b=>B8 .i64 e fun e=>Ak c<|Ax a (some ⟨[.agg [(3:Int),Bm ⟨#[]⟩,false],(0:Int)],[[b,e]]⟩) (some ⟨[.agg [(0:Int),Bm ⟨#[]⟩,false],(2:Int)],[[b,e]]⟩))))))))) (Ax (a==123) (Aa (wrap .i64 (Z+1)) fun a=>Aw (call 155 [.pbox [b,e],a,.sc (Value.map none)]) fun a b=>B8 .i64 a fun a=>Ad b fun b c=>Ad b fun b e=>Bi b fun b=>B8 .i64 e fun e=>Ak c<|some ⟨[.agg [(6:Int),Bm ⟨#[]⟩,false],a],[[b,e]]⟩) (Ax (a==91) (Aa (wrap .i64 (Z+1)) fun a=>Aw (call 197 [.pbox [b,e],a]) fun a b=>B8 .i64 a fun a=>Ad b fun b c=>Ad b fun b e=>Bi b fun b=>B8 .i64 e fun e=>Ak c<|some ⟨[.agg [(5:Int),Bm ⟨#[]⟩,false],a],[[b,e]]⟩) (Ax (a==34) (Aw (call 177 [.pbox [b,e]]) fun a b=>Ad a fun a c=>Bi a fun a=>G2 c fun c=>Ad b fun b e=>Ad b fun b f=>Bi b fun b=>B8 .i64 f fun f=>Ak e<|Ax c (some ⟨[.agg [(4:Int),a,false],(0:Int)],[[b,f]]⟩) (some ⟨[.agg [(0:Int),Bm ⟨#[]⟩,false],(2:Int)],[[b,f]]⟩)) (Aw (call 176 [.pbox [b,e],Bm ⟨#[116,114,117,101]⟩]) fun a b=>G2 a fun a=>Ad b fun b c=>Ad b fun b e=>Bi b fun b=>B8 .i64 e fun e=>Ak c<|Ax a (some ⟨[.agg [(2:Int),Bm ⟨#[]⟩,true],(0:Int)],[[b,e]]⟩) (Aw (call 176 [.pbox [b,e],Bm ⟨#[102,97,108,115,101]⟩]) fun a b=>G2 a fun a=>Ad b fun b c=>Ad b fun b e=>Bi b fun b=>B8 .i64 e fun e=>Ak c<|Ax a (some ⟨[.agg [(2:Int),Bm ⟨#[]⟩,false],(0:Int)],[[b,e]]⟩) (Aw (call 176 [.pbox [b,e],Bm ⟨#[110,117,108,108]⟩]) fun a b=>G2 a fun a=>Ad b fun b c=>Ad b fun b e=>Bi b fun b=>B8 .i64 e fun e=>Ak c<|Ax a (some ⟨[.agg [(1:Int),Bm ⟨#[]⟩,false],(0:Int)],[[b,e]]⟩) (Aw (call 198 [.pbox [b,e]]) fun a b=>G2 a fun a=>Ad b fun b c=>Ad b fun b e=>Bi b fun b=>B8 .i64 e fun e=>Ak c<|Ax a (some ⟨[.agg [(3:Int),Bm ⟨#[]⟩,false],(0:Int)],[[b,e]]⟩) (some ⟨[.agg [(0:Int),Bm ⟨#[]⟩,false],(2:Int)],[[b,e]]⟩)))))))))) (Ac (CP p) prog fu d):=by kernel_rfl
end
theorem A4j:∀n:Fin 256,decide (Lib.indexByte [32,9,10,13] (n.val:Int).toNat.toUInt8>=0)=GV (n.val:Int):=by decide +kernel
theorem A82{c:Int}(h0:0<=c)(h1:c<=255):decide (Lib.indexByte [32,9,10,13] c.toNat.toUInt8>=0)=GV c:=by obtain⟨n,rfl⟩:=Int.eq_ofNat_of_zero_le h0;exact A4j ⟨n,by omega⟩
theorem Cl{t:ByteArray}:∀{l:Al},El t l->El t (Bx l)
 |[],h=>h
 |c::l,h=>by
  unfold Bx;split
  ·exact Cl h.tail
  ·exact h
theorem AK:∀(l:Al),(Bx l).length<=l.length
 |[]=>Cd _
 |c::l=>by
  unfold Bx;split
  ·exact Nat.le_succ_of_le (AK l)
  ·exact Cd _
section
variable {fu d:Nat}
theorem A9v(s:ByteArray)(c:Int):Ac C0 prog fu (d+2) 175 [Bm s,.sc (.int .u8 c)]=some ⟨[As (Lib.indexByte s.data.toList c.toNat.toUInt8)],[]⟩:=by have e:Ac C0 prog fu (d+1) 190 [Bm s,.sc (.int .u8 c)]=some ⟨[As (Lib.indexByte s.data.toList c.toNat.toUInt8)],[]⟩:=rfl;rw[Q6];simp only[Be,Bd,e]
theorem Aav{t s0:ByteArray}{p0:Int}(ht:t.size<=1000000):∀(r:Al)(nn:Nat),r.length+1<=nn->El t r ->
  Ei fu (Ac C0 prog fu (d+2)) s0 p0 nn t (Ck t r:Int)=some ⟨[],[Cv t (Bx r)]⟩
 |[],nn,Hs,h=>by
  obtain⟨k,rfl⟩:∃k,nn=k+1:=⟨nn-1,by omega⟩
  have e:decide ((Ck t []:Int)<(t.size:Int))=false:=by simp[JG]
  rw[Hk];simp only[Be,Bd,e];rfl
 |c::r,nn,Hs,h=>by
  obtain⟨k,rfl⟩:∃k,nn=k+1:=⟨nn-1,by omega⟩
  have ih:=Aav (s0:=s0) (p0:=p0) ht r k (by simp at Hs;omega) h.tail
  have hc:=h.B c (by simp);have hl:=h.len;have hp:=Sa h
  have e6:wrap .i64 ((Ck t (c::r):Int)+1)=(Ck t r:Int):=by
   rw[hp,wrap_i64 (by unfold Ck;omega) (by unfold Ck;omega)];omega
  have Xq:Ck t (c::r)<t.size:=by
   unfold Ck;rw[Tt] at hl ⊢;omega
  obtain⟨b,hb,rfl⟩:=h.at;have e:decide ((Ck t ((b.toNat:Int)::r):Int)<(t.size:Int))=true:=by simp;omega
  have e2:decide ((0:Int)<=(Ck t ((b.toNat:Int)::r):Int))=true:=by simp
  rw[<-Iq (Ck t ((b.toNat:Int)::r))] at hb;have ix:Ac C0 prog fu (d+2) 175 [Bm ⟨#[32,9,10,13]⟩,.sc (.int .u8 (b.toNat:Int))]=some ⟨[As (Lib.indexByte [32,9,10,13] (b.toNat:Int).toNat.toUInt8)],[]⟩:=A9v _ _;have hw:=A82 hc.1 hc.2;rw[Hk];cases hq:GV (b.toNat:Int)
  ·rw[hq] at hw
   have es:Bx ((b.toNat:Int)::r)=(b.toNat:Int)::r:=by
    show (if GV _=true then _ else _)=_;rw[hq];rfl
   rw[es];simp only[Be,Bd,e,e2,hb,ix,hw]
  ·rw[hq] at hw
   have es:Bx ((b.toNat:Int)::r)=Bx r:=by
    show (if GV _=true then _ else _)=_;rw[hq];rfl
   rw[es];simp only[Be,Bd,e,e2,hb,ix,hw,e6,ih]
theorem Xy{t:ByteArray}{r:Al}(h:El t r)(ht:t.size<=1000000)(Bv:t.size+1<=fu):Ac C0 prog fu (d+3) 154 [.pbox (Cv t r)]=some ⟨[],[Cv t (Bx r)]⟩:=by rw[Pz];exact Aav ht r fu (by have:=h.len;omega) h
theorem ZV{t:ByteArray}:∀{l:Al},El t l->El t (Pt l)
 |[],h=>h
 |c::l,h=>by
  unfold Pt;split
  ·exact ZV h.tail
  ·exact h
theorem Aa6:∀(l:Al),(Pt l).length<=l.length
 |[]=>Cd _
 |c::l=>by
  unfold Pt;split
  ·exact Nat.le_succ_of_le (Aa6 l)
  ·exact Cd _
theorem Aay{t s0:ByteArray}{p0 y0:Int}(ht:t.size<=1000000):∀(r:Al)(nn:Nat),r.length+1<=nn->El t r ->
  Ed fu (Ac C0 prog fu (d+1)) s0 p0 nn y0 t (Ck t r:Int)=some ⟨[C5 (decide ((Ck t (Pt r):Int)>y0))],[Cv t (Pt r)]⟩
 |[],nn,Hs,h=>by
  obtain⟨k,rfl⟩:∃k,nn=k+1:=⟨nn-1,by omega⟩
  have pk:Ac C0 prog fu (d+1) 196 [.pbox (Cv t [])]=some ⟨[.sc (.int .u8 0)],[Cv t []]⟩:=Tg (xs:=xs0) h;have e:decide ((0:Int)>=48)=false:=rfl;rw[G4];simp only[Be,Bd,pk,e];rfl
 |c::r,nn,Hs,h=>by
  obtain⟨k,rfl⟩:∃k,nn=k+1:=⟨nn-1,by omega⟩
  have ih:=Aay (s0:=s0) (p0:=p0) (y0:=y0) ht r k (by simp at Hs;omega) h.tail
  have hc:=h.B c (by simp);have hl:=h.len;have hp:=Sa h
  have e6:wrap .i64 ((Ck t (c::r):Int)+1)=(Ck t r:Int):=by
   rw[hp,wrap_i64 (by unfold Ck;omega) (by unfold Ck;omega)];omega
  have pk:Ac C0 prog fu (d+1) 196 [.pbox (Cv t (c::r))]=some ⟨[.sc (.int .u8 c)],[Cv t (c::r)]⟩:=Tg (xs:=xs0) h;have ed:Pt (c::r)=if dgS c=true then Pt r else c::r:=rfl
  rw[G4,ed];by_cases h1:48<=c
  ·have e1:decide (c>=48)=true:=by simp;omega
   by_cases h2:c<=57
   ·have e2:decide (c<=57)=true:=by simp;omega
    have e3:dgS c=true:=by simp[dgS];omega
    rw[Ch e3];simp only[Be,Bd,pk,e1,e2,e6,ih]
   ·have e2:decide (c<=57)=false:=by simp;omega
    have e3:¬dgS c=true:=by simp[dgS];omega
    rw[Br e3];simp only[Be,Bd,pk,e1,e2]
  ·have e1:decide (c>=48)=false:=by simp;omega
   have e3:¬dgS c=true:=by simp[dgS];omega
   rw[Br e3];simp only[Be,Bd,pk,e1]
def A9b(t:ByteArray)(r:Al)(o:Option Al):Bq:=⟨[C5 (o.isSome)],[Cv t (o.getD r)]⟩
theorem E6{t:ByteArray}{r:Al}(h:El t r)(ht:t.size<=1000000)(Bv:t.size+1<=fu):Ac C0 prog fu (d+2) 211 [.pbox (Cv t r)]=some (A9b t r (Dh r)):=by
 rw[Pb];refine (Aay ht r fu (by have:=h.len;omega) h).trans ?_
 cases r with
 |nil=>
  have e:decide ((Ck t (Pt []):Int)>(Ck t []:Int))=false:=by simp[Pt]
  rw[e];rfl
 |cons c r=>
  have hl:=h.len;have hp:=Sa h;have ed:Pt (c::r)=if dgS c=true then Pt r else c::r:=rfl
  have eg:Dh (c::r)=if dgS c=true then some (Pt r) else none:=rfl
  rw[ed,eg];have hd:=Aa6 r;by_cases q:dgS c=true
  ·rw[Ch q,Ch q]
   have e:decide ((Ck t (Pt r):Int)>(Ck t (c::r):Int))=true:=by
    rw[Tt] at hl;simp only[gt_iff_lt,FJ];unfold Ck;rw[Tt];omega
   rw[e];rfl
  ·rw[Br q,Br q];have e:decide ((Ck t (c::r):Int)>(Ck t (c::r):Int))=false:=by simp
   rw[e];rfl
theorem Aj1{t:ByteArray}{r:Al}(c:UInt8)(h:El t r)(ht:t.size<=1000000):Ac C0 prog fu (d+3) 176 [.pbox (Cv t r),Bm (ByteArray.mk #[c])]=some (A9b t r (A4 [(c.toNat:Int)] r)):=by
 have hc:=c.toNat_lt;have e:=BB (fu:=fu) (d:=d) (xs:=xs0) h ht (w:=[(c.toNat:Int)]) (fun x hx=>by simp at hx;omega) (show 1<=100 by decide)
 have e2:Ab [(c.toNat:Int)]=ByteArray.mk #[c]:=by
  show ByteArray.mk #[((c.toNat:Int)).toNat.toUInt8]=_;rw[Iq];simp
 rw[e2] at e;refine e.trans ?_;cases A4 [(c.toNat:Int)] r<;>rfl
theorem F8(c:Int):∀r:Al,A4 [c] r=match r with|[]=>none|x::r'=>if x=c then some r' else none
 |[]=>rfl
 |x::r=>by
  unfold A4;by_cases h:x=c
  ·subst h;rw[Ch (by simp[List.isPrefixOf])];simp
  ·rw[Br (by simp[List.isPrefixOf];exact fun e=>h e.symm)]
   simp[h]
theorem A8{t:ByteArray}{w r r':Al}(h:El t r)(e:A4 w r=some r'):El t r':=by
 unfold A4 at e;split at e
 ·cases e;exact h.drop _
 ·cases e
theorem NG(c:Int)(r:Al):As3 c r=(A4 [c] r).getD r:=by
 rw[F8];cases r with
 |nil=>rfl
 |cons x r=>
  show (if x=c then r else x::r)=_;split<;>simp_all
theorem ZW(r:Al):Ayj r=match A4 [48] r with|some q=>some q|none=>Dh r:=by
 rw[F8];cases r with
 |nil=>rfl
 |cons x r=>
  show (if x=48 then some r else Dh (x::r))=_;by_cases h:x=48
  ·rw[Ch h];simp[h]
  ·rw[Br h];simp[h]
theorem HT(r:Al):SX r=match A4 [46] r with|some q=>(Dh q).bind FX|none=>FX r:=by
 rw[F8];cases r with
 |nil=>rfl
 |cons x r=>
  show (if x=46 then (Dh r).bind FX else FX (x::r))=_;by_cases h:x=46
  ·rw[Ch h];simp[h]
  ·rw[Br h];simp[h]
def Tq(r:Al):Option Al:=match A4 [43] r with|some q=>Dh q|none=>Dh ((A4 [45] r).getD r)
theorem Ayp(r:Al):(match r with|43::r'=>Dh r'|r=>Dh (As3 45 r))=Tq r:=by
 unfold Tq;rw[F8 43,<-NG];split
 ·simp
 ·rename_i Gx;cases r with
  |nil=>rfl
  |cons x r=>
   by_cases h:x=43
   ·exact absurd (by rw[h]) (Gx r)
   ·simp[h]
theorem Wq(r:Al):FX r=match A4 [101] r with|some q=>Tq q|none=>match A4 [69] r with|some q=>Tq q|none=>some r:=by
 rw[F8,F8];cases r with
 |nil=>rfl
 |cons x r=>
  have e:FX (x::r)=if x=101\/x=69 then Tq r else some (x::r):=by
   rw[<-Ayp];rfl
  rw[e];by_cases h:x=101
  ·rw[Ch (Or.inl h)];simp[h]
  ·by_cases h2:x=69
   ·rw[Ch (Or.inr h2)];simp[h2]
   ·rw[Br (by omega)];simp[h,h2]
theorem Ef{t:ByteArray}{r r':Al}(h:El t r)(e:Dh r=some r'):El t r':=by
 cases r with
 |nil=>cases e
 |cons c r=>
  have eg:Dh (c::r)=if dgS c=true then some (Pt r) else none:=rfl
  rw[eg] at e;split at e
  ·cases e;exact ZV h.tail
  ·cases e
theorem Dp{t:ByteArray}{r:Al}{o:Option Al}(h:El t r)(ho:∀q,o=some q->El t q):El t (o.getD r):=by
 cases o with
 |none=>exact h
 |some q=>exact ho q rfl
end
section
variable {fu d:Nat}
theorem F0{t:ByteArray}{r:Al}(c:UInt8)(n:Int)(hn:(c.toNat:Int)=n)(h:El t r)(ht:t.size<=1000000)(hq:A4 [n] r=none):Ac C0 prog fu (d+3) 176 [.pbox (Cv t r),Bm (ByteArray.mk #[c])]=some ⟨[C5 false],[Cv t r]⟩:=by subst hn;have e:=Aj1 (fu:=fu) (d:=d) c h ht;rw[hq] at e;exact e
theorem Ee{t:ByteArray}{r q:Al}(c:UInt8)(n:Int)(hn:(c.toNat:Int)=n)(h:El t r)(ht:t.size<=1000000)(hq:A4 [n] r=some q):Ac C0 prog fu (d+3) 176 [.pbox (Cv t r),Bm (ByteArray.mk #[c])]=some ⟨[C5 true],[Cv t q]⟩:=by subst hn;have e:=Aj1 (fu:=fu) (d:=d) c h ht;rw[hq] at e;exact e
theorem R1{t:ByteArray}{r:Al}(c:UInt8)(n:Int)(hn:(c.toNat:Int)=n)(h:El t r)(ht:t.size<=1000000):Ac C0 prog fu (d+3) 176 [.pbox (Cv t r),Bm (ByteArray.mk #[c])]=some ⟨[C5 ((A4 [n] r).isSome)],[Cv t ((A4 [n] r).getD r)]⟩:=by subst hn;exact Aj1 (fu:=fu) (d:=d) c h ht
set_option maxHeartbeats 2000000 in
theorem Aup{t:ByteArray}{r:Al}(h:El t r)(ht:t.size<=1000000)(Bv:t.size+1<=fu):∃r',El t r'/\Ac C0 prog fu (d+4) 198 [.pbox (Cv t r)]=some ⟨[C5 ((Ii r).isSome)],[Cv t r']⟩/\∀q,Ii r=some q->r'=q:=by
 have a0:=R1 (fu:=fu) (d:=d) 45 45 rfl h ht;have XA:El t ((A4 [45] r).getD r):=Dp h fun q e=>A8 h e;have LX:Ii r=(Ayj ((A4 [45] r).getD r)).bind SX:=by rw[<-NG];rfl
 generalize (A4 [45] r).getD r=r1 at a0 XA LX;generalize (A4 [45] r).isSome=b0 at a0;rw[ZW] at LX;rcases hz:A4 [48] r1 with _|r2
 ·have Ml:=F0 (fu:=fu) (d:=d) 48 48 rfl XA ht hz;rw[hz] at LX;have hz1:=E6 (d:=d+1) XA ht Bv;rcases hzd:Dh r1 with _|r2
  ·simp only[hzd] at hz1 LX;have Y1:Ac C0 prog fu (d+3) 211 [.pbox (Cv t r1)]=some ⟨[C5 false],[Cv t r1]⟩:=hz1;have hn:Ii r=none:=LX;refine⟨r1,XA,?_,?_⟩
   ·rw[hn,Aj]
    repeat(with_reducible(first|apply A9|apply Au|apply Bb|apply A5|apply Bf|apply At|apply Ba|apply Gn);· first|constructor|(simp(disch:=omega)only[Gp,a0,Ml,Y1,F1,Hb]<;>first|constructor|omega)|omega)
    try simp(disch:=omega)only[Aa,a0,Ml,Y1,F1,Hb]
    try rfl
   ·rw[hn];intro q e;cases e
  ·simp only[hzd] at hz1 LX;have Y1:Ac C0 prog fu (d+3) 211 [.pbox (Cv t r1)]=some ⟨[C5 true],[Cv t r2]⟩:=hz1;have DR:=Ef XA hzd;have XF:Ii r=SX r2:=LX;rw[HT] at XF;rcases hdt:A4 [46] r2 with _|r3
   ·have Qz:=F0 (fu:=fu) (d:=d) 46 46 rfl DR ht hdt;rw[hdt] at XF;have Sr:Ii r=FX r2:=XF;rw[Wq] at Sr;rcases he:A4 [101] r2 with _|r5
    ·have Tj:=F0 (fu:=fu) (d:=d) 101 101 rfl DR ht he;rw[he] at Sr;rcases hE:A4 [69] r2 with _|r5
     ·have HI:=F0 (fu:=fu) (d:=d) 69 69 rfl DR ht hE;have hn:Ii r=some r2:=by rw[Sr,hE]
      refine⟨r2,DR,?_,?_⟩
      ·rw[hn,Aj]
       repeat(with_reducible(first|apply A9|apply Au|apply Bb|apply A5|apply Bf|apply At|apply Ba|apply Gn);· first|constructor|(simp(disch:=omega)only[Gp,a0,Ml,Y1,Qz,Tj,HI,F1,Hb]<;>first|constructor|omega)|omega)
       try simp(disch:=omega)only[Aa,a0,Ml,Y1,Qz,Tj,HI,F1,Hb]
       try rfl
      ·rw[hn];intro q e;cases e;rfl
     ·have HI:=Ee (fu:=fu) (d:=d) 69 69 rfl DR ht hE;have Nr:=A8 DR hE;rw[hE] at Sr;simp only at Sr;rcases hp:A4 [43] r5 with _|r6
      ·have Pr:=F0 (fu:=fu) (d:=d) 43 43 rfl Nr ht hp;have Dq:=R1 (fu:=fu) (d:=d) 45 45 rfl Nr ht;have Jg:El t ((A4 [45] r5).getD r5):=Dp Nr fun q e=>A8 Nr e;have hn:Ii r=Dh ((A4 [45] r5).getD r5):=by rw[Sr];unfold Tq;rw[hp]
       generalize (A4 [45] r5).getD r5=r6 at Dq Jg hn;generalize (A4 [45] r5).isSome=b1 at Dq;have hg:Ac C0 prog fu (d+3) 211 [.pbox (Cv t r6)]=some ⟨[C5 ((Dh r6).isSome)],[Cv t ((Dh r6).getD r6)]⟩:=E6 (d:=d+1) Jg ht Bv;refine⟨(Dh r6).getD r6,Dp Jg fun q e=>Ef Jg e,?_,?_⟩
       ·rw[hn,Aj]
        repeat(with_reducible(first|apply A9|apply Au|apply Bb|apply A5|apply Bf|apply At|apply Ba|apply Gn);· first|constructor|(simp(disch:=omega)only[Gp,a0,Ml,Y1,Qz,Tj,HI,Pr,Dq,hg,F1,Hb]<;>first|constructor|omega)|omega)
        try simp(disch:=omega)only[Aa,a0,Ml,Y1,Qz,Tj,HI,Pr,Dq,hg,F1,Hb]
        try rfl
       ·rw[hn];intro q e;rw[e];rfl
      ·have Pr:=Ee (fu:=fu) (d:=d) 43 43 rfl Nr ht hp;have Jg:=A8 Nr hp;have hn:Ii r=Dh r6:=by rw[Sr];unfold Tq;rw[hp]
       have hg:Ac C0 prog fu (d+3) 211 [.pbox (Cv t r6)]=some ⟨[C5 ((Dh r6).isSome)],[Cv t ((Dh r6).getD r6)]⟩:=E6 (d:=d+1) Jg ht Bv;refine⟨(Dh r6).getD r6,Dp Jg fun q e=>Ef Jg e,?_,?_⟩
       ·rw[hn,Aj]
        repeat(with_reducible(first|apply A9|apply Au|apply Bb|apply A5|apply Bf|apply At|apply Ba|apply Gn);· first|constructor|(simp(disch:=omega)only[Gp,a0,Ml,Y1,Qz,Tj,HI,Pr,hg,F1,Hb]<;>first|constructor|omega)|omega)
        try simp(disch:=omega)only[Aa,a0,Ml,Y1,Qz,Tj,HI,Pr,hg,F1,Hb]
        try rfl
       ·rw[hn];intro q e;rw[e];rfl
    ·have Tj:=Ee (fu:=fu) (d:=d) 101 101 rfl DR ht he;have Nr:=A8 DR he;rw[he] at Sr;simp only at Sr;rcases hp:A4 [43] r5 with _|r6
     ·have Pr:=F0 (fu:=fu) (d:=d) 43 43 rfl Nr ht hp;have Dq:=R1 (fu:=fu) (d:=d) 45 45 rfl Nr ht;have Jg:El t ((A4 [45] r5).getD r5):=Dp Nr fun q e=>A8 Nr e;have hn:Ii r=Dh ((A4 [45] r5).getD r5):=by rw[Sr];unfold Tq;rw[hp]
      generalize (A4 [45] r5).getD r5=r6 at Dq Jg hn;generalize (A4 [45] r5).isSome=b1 at Dq;have hg:Ac C0 prog fu (d+3) 211 [.pbox (Cv t r6)]=some ⟨[C5 ((Dh r6).isSome)],[Cv t ((Dh r6).getD r6)]⟩:=E6 (d:=d+1) Jg ht Bv;refine⟨(Dh r6).getD r6,Dp Jg fun q e=>Ef Jg e,?_,?_⟩
      ·rw[hn,Aj]
       repeat(with_reducible(first|apply A9|apply Au|apply Bb|apply A5|apply Bf|apply At|apply Ba|apply Gn);· first|constructor|(simp(disch:=omega)only[Gp,a0,Ml,Y1,Qz,Tj,Pr,Dq,hg,F1,Hb]<;>first|constructor|omega)|omega)
       try simp(disch:=omega)only[Aa,a0,Ml,Y1,Qz,Tj,Pr,Dq,hg,F1,Hb]
       try rfl
      ·rw[hn];intro q e;rw[e];rfl
     ·have Pr:=Ee (fu:=fu) (d:=d) 43 43 rfl Nr ht hp;have Jg:=A8 Nr hp;have hn:Ii r=Dh r6:=by rw[Sr];unfold Tq;rw[hp]
      have hg:Ac C0 prog fu (d+3) 211 [.pbox (Cv t r6)]=some ⟨[C5 ((Dh r6).isSome)],[Cv t ((Dh r6).getD r6)]⟩:=E6 (d:=d+1) Jg ht Bv;refine⟨(Dh r6).getD r6,Dp Jg fun q e=>Ef Jg e,?_,?_⟩
      ·rw[hn,Aj]
       repeat(with_reducible(first|apply A9|apply Au|apply Bb|apply A5|apply Bf|apply At|apply Ba|apply Gn);· first|constructor|(simp(disch:=omega)only[Gp,a0,Ml,Y1,Qz,Tj,Pr,hg,F1,Hb]<;>first|constructor|omega)|omega)
       try simp(disch:=omega)only[Aa,a0,Ml,Y1,Qz,Tj,Pr,hg,F1,Hb]
       try rfl
      ·rw[hn];intro q e;rw[e];rfl
   ·have Qz:=Ee (fu:=fu) (d:=d) 46 46 rfl DR ht hdt;have hS3:=A8 DR hdt;rw[hdt] at XF;have XF:Ii r=(Dh r3).bind FX:=XF;have hd1:=E6 (d:=d+1) hS3 ht Bv;rcases hdd:Dh r3 with _|r4
    ·rw[hdd] at hd1 XF;have Uc:Ac C0 prog fu (d+3) 211 [.pbox (Cv t r3)]=some ⟨[C5 false],[Cv t r3]⟩:=hd1;have hn:Ii r=none:=XF;refine⟨r3,hS3,?_,?_⟩
     ·rw[hn,Aj]
      repeat(with_reducible(first|apply A9|apply Au|apply Bb|apply A5|apply Bf|apply At|apply Ba|apply Gn);· first|constructor|(simp(disch:=omega)only[Gp,a0,Ml,Y1,Qz,Uc,F1,Hb]<;>first|constructor|omega)|omega)
      try simp(disch:=omega)only[Aa,a0,Ml,Y1,Qz,Uc,F1,Hb]
      try rfl
     ·rw[hn];intro q e;cases e
    ·rw[hdd] at hd1 XF;have Uc:Ac C0 prog fu (d+3) 211 [.pbox (Cv t r3)]=some ⟨[C5 true],[Cv t r4]⟩:=hd1;have RO:=Ef hS3 hdd;have Sr:Ii r=FX r4:=XF;rw[Wq] at Sr;rcases he:A4 [101] r4 with _|r5
     ·have Tj:=F0 (fu:=fu) (d:=d) 101 101 rfl RO ht he;rw[he] at Sr;rcases hE:A4 [69] r4 with _|r5
      ·have HI:=F0 (fu:=fu) (d:=d) 69 69 rfl RO ht hE;have hn:Ii r=some r4:=by rw[Sr,hE]
       refine⟨r4,RO,?_,?_⟩
       ·rw[hn,Aj]
        repeat(with_reducible(first|apply A9|apply Au|apply Bb|apply A5|apply Bf|apply At|apply Ba|apply Gn);· first|constructor|(simp(disch:=omega)only[Gp,a0,Ml,Y1,Qz,Uc,Tj,HI,F1,Hb]<;>first|constructor|omega)|omega)
        try simp(disch:=omega)only[Aa,a0,Ml,Y1,Qz,Uc,Tj,HI,F1,Hb]
        try rfl
       ·rw[hn];intro q e;cases e;rfl
      ·have HI:=Ee (fu:=fu) (d:=d) 69 69 rfl RO ht hE;have Nr:=A8 RO hE;rw[hE] at Sr;simp only at Sr;rcases hp:A4 [43] r5 with _|r6
       ·have Pr:=F0 (fu:=fu) (d:=d) 43 43 rfl Nr ht hp;have Dq:=R1 (fu:=fu) (d:=d) 45 45 rfl Nr ht;have Jg:El t ((A4 [45] r5).getD r5):=Dp Nr fun q e=>A8 Nr e;have hn:Ii r=Dh ((A4 [45] r5).getD r5):=by rw[Sr];unfold Tq;rw[hp]
        generalize (A4 [45] r5).getD r5=r6 at Dq Jg hn;generalize (A4 [45] r5).isSome=b1 at Dq;have hg:Ac C0 prog fu (d+3) 211 [.pbox (Cv t r6)]=some ⟨[C5 ((Dh r6).isSome)],[Cv t ((Dh r6).getD r6)]⟩:=E6 (d:=d+1) Jg ht Bv;refine⟨(Dh r6).getD r6,Dp Jg fun q e=>Ef Jg e,?_,?_⟩
        ·rw[hn,Aj]
         repeat(with_reducible(first|apply A9|apply Au|apply Bb|apply A5|apply Bf|apply At|apply Ba|apply Gn);· first|constructor|(simp(disch:=omega)only[Gp,a0,Ml,Y1,Qz,Uc,Tj,HI,Pr,Dq,hg,F1,Hb]<;>first|constructor|omega)|omega)
         try simp(disch:=omega)only[Aa,a0,Ml,Y1,Qz,Uc,Tj,HI,Pr,Dq,hg,F1,Hb]
         try rfl
        ·rw[hn];intro q e;rw[e];rfl
       ·have Pr:=Ee (fu:=fu) (d:=d) 43 43 rfl Nr ht hp;have Jg:=A8 Nr hp;have hn:Ii r=Dh r6:=by rw[Sr];unfold Tq;rw[hp]
        have hg:Ac C0 prog fu (d+3) 211 [.pbox (Cv t r6)]=some ⟨[C5 ((Dh r6).isSome)],[Cv t ((Dh r6).getD r6)]⟩:=E6 (d:=d+1) Jg ht Bv;refine⟨(Dh r6).getD r6,Dp Jg fun q e=>Ef Jg e,?_,?_⟩
        ·rw[hn,Aj]
         repeat(with_reducible(first|apply A9|apply Au|apply Bb|apply A5|apply Bf|apply At|apply Ba|apply Gn);· first|constructor|(simp(disch:=omega)only[Gp,a0,Ml,Y1,Qz,Uc,Tj,HI,Pr,hg,F1,Hb]<;>first|constructor|omega)|omega)
         try simp(disch:=omega)only[Aa,a0,Ml,Y1,Qz,Uc,Tj,HI,Pr,hg,F1,Hb]
         try rfl
        ·rw[hn];intro q e;rw[e];rfl
     ·have Tj:=Ee (fu:=fu) (d:=d) 101 101 rfl RO ht he;have Nr:=A8 RO he;rw[he] at Sr;simp only at Sr;rcases hp:A4 [43] r5 with _|r6
      ·have Pr:=F0 (fu:=fu) (d:=d) 43 43 rfl Nr ht hp;have Dq:=R1 (fu:=fu) (d:=d) 45 45 rfl Nr ht;have Jg:El t ((A4 [45] r5).getD r5):=Dp Nr fun q e=>A8 Nr e;have hn:Ii r=Dh ((A4 [45] r5).getD r5):=by rw[Sr];unfold Tq;rw[hp]
       generalize (A4 [45] r5).getD r5=r6 at Dq Jg hn;generalize (A4 [45] r5).isSome=b1 at Dq;have hg:Ac C0 prog fu (d+3) 211 [.pbox (Cv t r6)]=some ⟨[C5 ((Dh r6).isSome)],[Cv t ((Dh r6).getD r6)]⟩:=E6 (d:=d+1) Jg ht Bv;refine⟨(Dh r6).getD r6,Dp Jg fun q e=>Ef Jg e,?_,?_⟩
       ·rw[hn,Aj]
        repeat(with_reducible(first|apply A9|apply Au|apply Bb|apply A5|apply Bf|apply At|apply Ba|apply Gn);· first|constructor|(simp(disch:=omega)only[Gp,a0,Ml,Y1,Qz,Uc,Tj,Pr,Dq,hg,F1,Hb]<;>first|constructor|omega)|omega)
        try simp(disch:=omega)only[Aa,a0,Ml,Y1,Qz,Uc,Tj,Pr,Dq,hg,F1,Hb]
        try rfl
       ·rw[hn];intro q e;rw[e];rfl
      ·have Pr:=Ee (fu:=fu) (d:=d) 43 43 rfl Nr ht hp;have Jg:=A8 Nr hp;have hn:Ii r=Dh r6:=by rw[Sr];unfold Tq;rw[hp]
       have hg:Ac C0 prog fu (d+3) 211 [.pbox (Cv t r6)]=some ⟨[C5 ((Dh r6).isSome)],[Cv t ((Dh r6).getD r6)]⟩:=E6 (d:=d+1) Jg ht Bv;refine⟨(Dh r6).getD r6,Dp Jg fun q e=>Ef Jg e,?_,?_⟩
       ·rw[hn,Aj]
        repeat(with_reducible(first|apply A9|apply Au|apply Bb|apply A5|apply Bf|apply At|apply Ba|apply Gn);· first|constructor|(simp(disch:=omega)only[Gp,a0,Ml,Y1,Qz,Uc,Tj,Pr,hg,F1,Hb]<;>first|constructor|omega)|omega)
        try simp(disch:=omega)only[Aa,a0,Ml,Y1,Qz,Uc,Tj,Pr,hg,F1,Hb]
        try rfl
       ·rw[hn];intro q e;rw[e];rfl
 ·have Ml:=Ee (fu:=fu) (d:=d) 48 48 rfl XA ht hz;rw[hz] at LX;have DR:=A8 XA hz;have XF:Ii r=SX r2:=LX;rw[HT] at XF;rcases hdt:A4 [46] r2 with _|r3
  ·have Qz:=F0 (fu:=fu) (d:=d) 46 46 rfl DR ht hdt;rw[hdt] at XF;have Sr:Ii r=FX r2:=XF;rw[Wq] at Sr;rcases he:A4 [101] r2 with _|r5
   ·have Tj:=F0 (fu:=fu) (d:=d) 101 101 rfl DR ht he;rw[he] at Sr;rcases hE:A4 [69] r2 with _|r5
    ·have HI:=F0 (fu:=fu) (d:=d) 69 69 rfl DR ht hE;have hn:Ii r=some r2:=by rw[Sr,hE]
     refine⟨r2,DR,?_,?_⟩
     ·rw[hn,Aj]
      repeat(with_reducible(first|apply A9|apply Au|apply Bb|apply A5|apply Bf|apply At|apply Ba|apply Gn);· first|constructor|(simp(disch:=omega)only[Gp,a0,Ml,Qz,Tj,HI,F1,Hb]<;>first|constructor|omega)|omega)
      try simp(disch:=omega)only[Aa,a0,Ml,Qz,Tj,HI,F1,Hb]
      try rfl
     ·rw[hn];intro q e;cases e;rfl
    ·have HI:=Ee (fu:=fu) (d:=d) 69 69 rfl DR ht hE;have Nr:=A8 DR hE;rw[hE] at Sr;simp only at Sr;rcases hp:A4 [43] r5 with _|r6
     ·have Pr:=F0 (fu:=fu) (d:=d) 43 43 rfl Nr ht hp;have Dq:=R1 (fu:=fu) (d:=d) 45 45 rfl Nr ht;have Jg:El t ((A4 [45] r5).getD r5):=Dp Nr fun q e=>A8 Nr e;have hn:Ii r=Dh ((A4 [45] r5).getD r5):=by rw[Sr];unfold Tq;rw[hp]
      generalize (A4 [45] r5).getD r5=r6 at Dq Jg hn;generalize (A4 [45] r5).isSome=b1 at Dq;have hg:Ac C0 prog fu (d+3) 211 [.pbox (Cv t r6)]=some ⟨[C5 ((Dh r6).isSome)],[Cv t ((Dh r6).getD r6)]⟩:=E6 (d:=d+1) Jg ht Bv;refine⟨(Dh r6).getD r6,Dp Jg fun q e=>Ef Jg e,?_,?_⟩
      ·rw[hn,Aj]
       repeat(with_reducible(first|apply A9|apply Au|apply Bb|apply A5|apply Bf|apply At|apply Ba|apply Gn);· first|constructor|(simp(disch:=omega)only[Gp,a0,Ml,Qz,Tj,HI,Pr,Dq,hg,F1,Hb]<;>first|constructor|omega)|omega)
       try simp(disch:=omega)only[Aa,a0,Ml,Qz,Tj,HI,Pr,Dq,hg,F1,Hb]
       try rfl
      ·rw[hn];intro q e;rw[e];rfl
     ·have Pr:=Ee (fu:=fu) (d:=d) 43 43 rfl Nr ht hp;have Jg:=A8 Nr hp;have hn:Ii r=Dh r6:=by rw[Sr];unfold Tq;rw[hp]
      have hg:Ac C0 prog fu (d+3) 211 [.pbox (Cv t r6)]=some ⟨[C5 ((Dh r6).isSome)],[Cv t ((Dh r6).getD r6)]⟩:=E6 (d:=d+1) Jg ht Bv;refine⟨(Dh r6).getD r6,Dp Jg fun q e=>Ef Jg e,?_,?_⟩
      ·rw[hn,Aj]
       repeat(with_reducible(first|apply A9|apply Au|apply Bb|apply A5|apply Bf|apply At|apply Ba|apply Gn);· first|constructor|(simp(disch:=omega)only[Gp,a0,Ml,Qz,Tj,HI,Pr,hg,F1,Hb]<;>first|constructor|omega)|omega)
       try simp(disch:=omega)only[Aa,a0,Ml,Qz,Tj,HI,Pr,hg,F1,Hb]
       try rfl
      ·rw[hn];intro q e;rw[e];rfl
   ·have Tj:=Ee (fu:=fu) (d:=d) 101 101 rfl DR ht he;have Nr:=A8 DR he;rw[he] at Sr;simp only at Sr;rcases hp:A4 [43] r5 with _|r6
    ·have Pr:=F0 (fu:=fu) (d:=d) 43 43 rfl Nr ht hp;have Dq:=R1 (fu:=fu) (d:=d) 45 45 rfl Nr ht;have Jg:El t ((A4 [45] r5).getD r5):=Dp Nr fun q e=>A8 Nr e;have hn:Ii r=Dh ((A4 [45] r5).getD r5):=by rw[Sr];unfold Tq;rw[hp]
     generalize (A4 [45] r5).getD r5=r6 at Dq Jg hn;generalize (A4 [45] r5).isSome=b1 at Dq;have hg:Ac C0 prog fu (d+3) 211 [.pbox (Cv t r6)]=some ⟨[C5 ((Dh r6).isSome)],[Cv t ((Dh r6).getD r6)]⟩:=E6 (d:=d+1) Jg ht Bv;refine⟨(Dh r6).getD r6,Dp Jg fun q e=>Ef Jg e,?_,?_⟩
     ·rw[hn,Aj]
      repeat(with_reducible(first|apply A9|apply Au|apply Bb|apply A5|apply Bf|apply At|apply Ba|apply Gn);· first|constructor|(simp(disch:=omega)only[Gp,a0,Ml,Qz,Tj,Pr,Dq,hg,F1,Hb]<;>first|constructor|omega)|omega)
      try simp(disch:=omega)only[Aa,a0,Ml,Qz,Tj,Pr,Dq,hg,F1,Hb]
      try rfl
     ·rw[hn];intro q e;rw[e];rfl
    ·have Pr:=Ee (fu:=fu) (d:=d) 43 43 rfl Nr ht hp;have Jg:=A8 Nr hp;have hn:Ii r=Dh r6:=by rw[Sr];unfold Tq;rw[hp]
     have hg:Ac C0 prog fu (d+3) 211 [.pbox (Cv t r6)]=some ⟨[C5 ((Dh r6).isSome)],[Cv t ((Dh r6).getD r6)]⟩:=E6 (d:=d+1) Jg ht Bv;refine⟨(Dh r6).getD r6,Dp Jg fun q e=>Ef Jg e,?_,?_⟩
     ·rw[hn,Aj]
      repeat(with_reducible(first|apply A9|apply Au|apply Bb|apply A5|apply Bf|apply At|apply Ba|apply Gn);· first|constructor|(simp(disch:=omega)only[Gp,a0,Ml,Qz,Tj,Pr,hg,F1,Hb]<;>first|constructor|omega)|omega)
      try simp(disch:=omega)only[Aa,a0,Ml,Qz,Tj,Pr,hg,F1,Hb]
      try rfl
     ·rw[hn];intro q e;rw[e];rfl
  ·have Qz:=Ee (fu:=fu) (d:=d) 46 46 rfl DR ht hdt;have hS3:=A8 DR hdt;rw[hdt] at XF;have XF:Ii r=(Dh r3).bind FX:=XF;have hd1:=E6 (d:=d+1) hS3 ht Bv;rcases hdd:Dh r3 with _|r4
   ·rw[hdd] at hd1 XF;have Uc:Ac C0 prog fu (d+3) 211 [.pbox (Cv t r3)]=some ⟨[C5 false],[Cv t r3]⟩:=hd1;have hn:Ii r=none:=XF;refine⟨r3,hS3,?_,?_⟩
    ·rw[hn,Aj]
     repeat(with_reducible(first|apply A9|apply Au|apply Bb|apply A5|apply Bf|apply At|apply Ba|apply Gn);· first|constructor|(simp(disch:=omega)only[Gp,a0,Ml,Qz,Uc,F1,Hb]<;>first|constructor|omega)|omega)
     try simp(disch:=omega)only[Aa,a0,Ml,Qz,Uc,F1,Hb]
     try rfl
    ·rw[hn];intro q e;cases e
   ·rw[hdd] at hd1 XF;have Uc:Ac C0 prog fu (d+3) 211 [.pbox (Cv t r3)]=some ⟨[C5 true],[Cv t r4]⟩:=hd1;have RO:=Ef hS3 hdd;have Sr:Ii r=FX r4:=XF;rw[Wq] at Sr;rcases he:A4 [101] r4 with _|r5
    ·have Tj:=F0 (fu:=fu) (d:=d) 101 101 rfl RO ht he;rw[he] at Sr;rcases hE:A4 [69] r4 with _|r5
     ·have HI:=F0 (fu:=fu) (d:=d) 69 69 rfl RO ht hE;have hn:Ii r=some r4:=by rw[Sr,hE]
      refine⟨r4,RO,?_,?_⟩
      ·rw[hn,Aj]
       repeat(with_reducible(first|apply A9|apply Au|apply Bb|apply A5|apply Bf|apply At|apply Ba|apply Gn);· first|constructor|(simp(disch:=omega)only[Gp,a0,Ml,Qz,Uc,Tj,HI,F1,Hb]<;>first|constructor|omega)|omega)
       try simp(disch:=omega)only[Aa,a0,Ml,Qz,Uc,Tj,HI,F1,Hb]
       try rfl
      ·rw[hn];intro q e;cases e;rfl
     ·have HI:=Ee (fu:=fu) (d:=d) 69 69 rfl RO ht hE;have Nr:=A8 RO hE;rw[hE] at Sr;simp only at Sr;rcases hp:A4 [43] r5 with _|r6
      ·have Pr:=F0 (fu:=fu) (d:=d) 43 43 rfl Nr ht hp;have Dq:=R1 (fu:=fu) (d:=d) 45 45 rfl Nr ht;have Jg:El t ((A4 [45] r5).getD r5):=Dp Nr fun q e=>A8 Nr e;have hn:Ii r=Dh ((A4 [45] r5).getD r5):=by rw[Sr];unfold Tq;rw[hp]
       generalize (A4 [45] r5).getD r5=r6 at Dq Jg hn;generalize (A4 [45] r5).isSome=b1 at Dq;have hg:Ac C0 prog fu (d+3) 211 [.pbox (Cv t r6)]=some ⟨[C5 ((Dh r6).isSome)],[Cv t ((Dh r6).getD r6)]⟩:=E6 (d:=d+1) Jg ht Bv;refine⟨(Dh r6).getD r6,Dp Jg fun q e=>Ef Jg e,?_,?_⟩
       ·rw[hn,Aj]
        repeat(with_reducible(first|apply A9|apply Au|apply Bb|apply A5|apply Bf|apply At|apply Ba|apply Gn);· first|constructor|(simp(disch:=omega)only[Gp,a0,Ml,Qz,Uc,Tj,HI,Pr,Dq,hg,F1,Hb]<;>first|constructor|omega)|omega)
        try simp(disch:=omega)only[Aa,a0,Ml,Qz,Uc,Tj,HI,Pr,Dq,hg,F1,Hb]
        try rfl
       ·rw[hn];intro q e;rw[e];rfl
      ·have Pr:=Ee (fu:=fu) (d:=d) 43 43 rfl Nr ht hp;have Jg:=A8 Nr hp;have hn:Ii r=Dh r6:=by rw[Sr];unfold Tq;rw[hp]
       have hg:Ac C0 prog fu (d+3) 211 [.pbox (Cv t r6)]=some ⟨[C5 ((Dh r6).isSome)],[Cv t ((Dh r6).getD r6)]⟩:=E6 (d:=d+1) Jg ht Bv;refine⟨(Dh r6).getD r6,Dp Jg fun q e=>Ef Jg e,?_,?_⟩
       ·rw[hn,Aj]
        repeat(with_reducible(first|apply A9|apply Au|apply Bb|apply A5|apply Bf|apply At|apply Ba|apply Gn);· first|constructor|(simp(disch:=omega)only[Gp,a0,Ml,Qz,Uc,Tj,HI,Pr,hg,F1,Hb]<;>first|constructor|omega)|omega)
        try simp(disch:=omega)only[Aa,a0,Ml,Qz,Uc,Tj,HI,Pr,hg,F1,Hb]
        try rfl
       ·rw[hn];intro q e;rw[e];rfl
    ·have Tj:=Ee (fu:=fu) (d:=d) 101 101 rfl RO ht he;have Nr:=A8 RO he;rw[he] at Sr;simp only at Sr;rcases hp:A4 [43] r5 with _|r6
     ·have Pr:=F0 (fu:=fu) (d:=d) 43 43 rfl Nr ht hp;have Dq:=R1 (fu:=fu) (d:=d) 45 45 rfl Nr ht;have Jg:El t ((A4 [45] r5).getD r5):=Dp Nr fun q e=>A8 Nr e;have hn:Ii r=Dh ((A4 [45] r5).getD r5):=by rw[Sr];unfold Tq;rw[hp]
      generalize (A4 [45] r5).getD r5=r6 at Dq Jg hn;generalize (A4 [45] r5).isSome=b1 at Dq;have hg:Ac C0 prog fu (d+3) 211 [.pbox (Cv t r6)]=some ⟨[C5 ((Dh r6).isSome)],[Cv t ((Dh r6).getD r6)]⟩:=E6 (d:=d+1) Jg ht Bv;refine⟨(Dh r6).getD r6,Dp Jg fun q e=>Ef Jg e,?_,?_⟩
      ·rw[hn,Aj]
       repeat(with_reducible(first|apply A9|apply Au|apply Bb|apply A5|apply Bf|apply At|apply Ba|apply Gn);· first|constructor|(simp(disch:=omega)only[Gp,a0,Ml,Qz,Uc,Tj,Pr,Dq,hg,F1,Hb]<;>first|constructor|omega)|omega)
       try simp(disch:=omega)only[Aa,a0,Ml,Qz,Uc,Tj,Pr,Dq,hg,F1,Hb]
       try rfl
      ·rw[hn];intro q e;rw[e];rfl
     ·have Pr:=Ee (fu:=fu) (d:=d) 43 43 rfl Nr ht hp;have Jg:=A8 Nr hp;have hn:Ii r=Dh r6:=by rw[Sr];unfold Tq;rw[hp]
      have hg:Ac C0 prog fu (d+3) 211 [.pbox (Cv t r6)]=some ⟨[C5 ((Dh r6).isSome)],[Cv t ((Dh r6).getD r6)]⟩:=E6 (d:=d+1) Jg ht Bv;refine⟨(Dh r6).getD r6,Dp Jg fun q e=>Ef Jg e,?_,?_⟩
      ·rw[hn,Aj]
       repeat(with_reducible(first|apply A9|apply Au|apply Bb|apply A5|apply Bf|apply At|apply Ba|apply Gn);· first|constructor|(simp(disch:=omega)only[Gp,a0,Ml,Qz,Uc,Tj,Pr,hg,F1,Hb]<;>first|constructor|omega)|omega)
       try simp(disch:=omega)only[Aa,a0,Ml,Qz,Uc,Tj,Pr,hg,F1,Hb]
       try rfl
      ·rw[hn];intro q e;rw[e];rfl
end
theorem El.trans{t:ByteArray}{r q:Al}(h:El t r)(k:El (Ab r) q):El t q:=by obtain⟨pre,k⟩:=k;rw[Dj h.B] at k;rw[k] at h;exact h.app
theorem El.self{l:Al}(h:Db l):El (Ab l) l:=⟨[],by rw[Dj h];rfl⟩
theorem El.le{l q:Al}(h:El (Ab l) q):q.length<=l.length:=by
 have:=h.len
 rwa [Ai] at this
def Aiv(t:ByteArray)(l:Al)(x:JR (JV × Al))(res:Bq):Prop:=
 match x with
 |.ok (v,q)=>El (Ab l) q/\res=⟨[.agg [As v.1,Bm (Ab v.2.1),C5 (v.2.2)],As 0],[Cv t q]⟩
 |.error e=>e≠0/\∃c1 c2 c3 q,El t q/\res=⟨[.agg [As c1,Bm c2,C5 c3],As e],[Cv t q]⟩
def A9a(t:ByteArray)(l:Al)(x:JR Al)(res:Bq):Prop:=
 match x with
 |.ok q=>El (Ab l) q/\res=⟨[As 0],[Cv t q]⟩
 |.error e=>e≠0/\∃q,El t q/\res=⟨[As e],[Cv t q]⟩
theorem Atn{α:Type}(a b:Int)(Vq:a≠b)(A B:Al->α)(C:α)(x:Al):
  (match A4 [a] x with|some r=>A r|none=>match A4 [b] x with|some r=>B r|none=>C)=(match x with|[]=>C|y::r=>if y=a then A r else if y=b then B r else C):=by
 rw[F8,F8];cases x with
 |nil=>rfl
 |cons y r=>
  by_cases h:y=a
  ·simp[h]
  ·by_cases h2:y=b
   ·subst h2;simp[h]
   ·simp[h,h2]
theorem Avd(V:Al->JR (JV × Al))(n:Nat)(l:Al):Ab9 V (n+1) l=match V l with
  |.error e=>.error e
  |.ok (_,r)=>match A4 [93] (Bx r) with
   |some r'=>.ok r'
   |none=>match A4 [44] (Bx r) with
    |some r'=>Ab9 V n (Bx r')
    |none=>.error 2:=by
 show (match V l with | .error e=>_ | .ok (_,r)=>_)=_;cases V l with
 |error e=>rfl
 |ok x=>
  obtain⟨v,r⟩:=x;simp only;rw[Atn 93 44 (by decide) (fun r'=>Except.ok r') (fun r'=>Ab9 V n (Bx r')) (Except.error 2)];cases Bx r with
  |nil=>rfl
  |cons y r=>
   by_cases h:y=93
   ·subst h;rfl
   ·by_cases h2:y=44
    ·subst h2;rfl
    ·simp only[Br h,Br h2];split
     ·rename_i e;injection e with e1 _;exact absurd e1 h
     ·rename_i e;injection e with e1 _;exact absurd e1 h2
     ·rfl
section
variable {fu d:Nat}
theorem Auo{t s0:ByteArray}{p0 D0 D:Int}(ht:t.size<=1000000)(Bv:t.size+1<=fu)(V:Al->JR (JV × Al))(HV:∀r,El t r->∃res,Ac C0 prog fu (d+3) 178 [.pbox (Cv t r),As D]=some res/\Aiv t r (V r) res):∀(n nn:Nat)(l:Al),l.length+1<=n->l.length+1<=nn->El t l ->
  ∃res,Ej fu (Ac C0 prog fu (d+3)) s0 p0 D0 nn D t (Ck t l:Int)=some res/\A9a t l (Ab9 V n l) res:=by
 intro n
 induction n with
 |zero=>intro nn l h1;omega
 |succ n ih=>
  intro nn l hn Hs h;obtain⟨k,rfl⟩:∃k,nn=k+1:=⟨nn-1,by omega⟩
  obtain⟨rv,ev,hv⟩:=HV l h;rw[Avd,Ng];cases hV:V l with
  |error e=>
   rw[hV] at hv;obtain⟨he,c1,c2,c3,q,hq,rfl⟩:=hv;have hb:(e != (0:Int))=true:=by simp[he]
   refine⟨⟨[As e],[Cv t q]⟩,?_,he,q,hq,rfl⟩
   repeat(with_reducible(first|apply A9|apply Au|apply Bb|apply A5|apply Bf|apply Jt|apply At|apply Ba|apply Gn);· first|constructor|(simp(disch:=omega)only[Gp,ev,hb]<;>first|constructor|omega)|omega)
   try simp(disch:=omega)only[Aa,ev,hb]
  |ok x=>
   obtain⟨v,q⟩:=x;rw[hV] at hv;obtain⟨hq,rfl⟩:=hv;have hqt:=h.trans hq;have hs:=Xy (fu:=fu) (d:=d) hqt ht Bv;have HX:Ac C0 prog fu (d+3) 154 [.pbox (Cv t q)]=some ⟨[],[Cv t (Bx q)]⟩:=hs;have hqs:=Cl hqt;have A95:=Cl hq;have hb:((0:Int) != (0:Int))=false:=rfl;simp only;cases h1:A4 [93] (Bx q) with
   |some r'=>
    have a1:=Ee (fu:=fu) (d:=d) 93 93 rfl hqs ht h1;refine⟨⟨[As 0],[Cv t r']⟩,?_,A8 A95 h1,rfl⟩
    repeat(with_reducible(first|apply A9|apply Au|apply Bb|apply A5|apply Bf|apply Jt|apply At|apply Ba|apply Gn);· first|constructor|(simp(disch:=omega)only[Gp,ev,hb,HX,a1]<;>first|constructor|omega)|omega)
    try simp(disch:=omega)only[Aa,ev,hb,HX,a1]
   |none=>
    have a1:=F0 (fu:=fu) (d:=d) 93 93 rfl hqs ht h1;cases h2:A4 [44] (Bx q) with
    |none=>
     have a2:=F0 (fu:=fu) (d:=d) 44 44 rfl hqs ht h2;refine⟨⟨[As 2],[Cv t (Bx q)]⟩,?_,by decide,Bx q,hqs,rfl⟩
     repeat(with_reducible(first|apply A9|apply Au|apply Bb|apply A5|apply Bf|apply Jt|apply At|apply Ba|apply Gn);· first|constructor|(simp(disch:=omega)only[Gp,ev,hb,HX,a1,a2,Hb]<;>first|constructor|omega)|omega)
     try simp(disch:=omega)only[Aa,ev,hb,HX,a1,a2,Hb]
    |some r'=>
     have a2:=Ee (fu:=fu) (d:=d) 44 44 rfl hqs ht h2;have hr:=A8 hqs h2;have ZM:=A8 A95 h2;have hs3:Ac C0 prog fu (d+3) 154 [.pbox (Cv t r')]=some ⟨[],[Cv t (Bx r')]⟩:=Xy (fu:=fu) (d:=d) hr ht Bv
     have hlr:(Bx r').length+1<=l.length:=by
      have e1:=hq.le;have e2:=AK q;have e3:=AK r'
      have e4:r'.length+1<=(Bx q).length:=by
       rw[F8] at h2
       revert h2
       cases Bx q with
       |nil=>intro h2;cases h2
       |cons y s=>
        intro h2;simp only at h2;split at h2
        ·cases h2;simp
        ·cases h2
      omega
     obtain⟨res,e5,h5⟩:=ih k (Bx r') (by omega) (by omega) (Cl hr);refine⟨res,?_,?_⟩
     ·skip
      repeat(with_reducible(first|apply A9|apply Au|apply Bb|apply A5|apply Bf|apply Jt|apply At|apply Ba|apply Gn);· first|constructor|(simp(disch:=omega)only[Gp,ev,hb,HX,a1,a2,hs3,F1]<;>first|constructor|omega)|omega)
      try simp(disch:=omega)only[Aa,ev,hb,HX,a1,a2,hs3,F1]
      exact e5
     ·simp only;have hup:El (Ab l) (Bx r'):=Cl ZM
      revert h5
      cases Ab9 V n (Bx r') with
      |error e=>exact id
      |ok q2=>exact fun h5=>⟨hup.trans h5.1,h5.2⟩
end
theorem Ag7{c:Int}{x r:Al}(h:A4 [c] x=some r):r.length+1<=x.length:=by
 rw[F8] at h
 revert h
 cases x with
 |nil=>intro h;cases h
 |cons y s=>
  intro h;simp only at h;split at h
  ·cases h;simp
  ·cases h
theorem IK(V:Al->JR (JV × Al))(kp:Bool)(n:Nat)(ms:List (Al × JV))(l:Al):Zl V kp (n+1) ms l=match Gu l with
  |(none,_)=>.error 2
  |(some nm,r)=>if (kp&&ms.any fun m=>m.1==nm)=true then .error 10 else match A4 [58] (Bx r) with
   |none=>.error 2
   |some r1=>match V (Bx r1) with
    |.error e=>.error e
    |.ok (v,r2)=>match A4 [125] (Bx r2) with
     |some r3=>.ok (ms++[(nm,v)],r3)
     |none=>match A4 [44] (Bx r2) with
      |some r3=>Zl V kp n (ms++[(nm,v)]) (Bx r3)
      |none=>.error 2:=by
 show (match A42 V (fun nm=>kp&&ms.any fun m=>m.1==nm) l with | .error e=>_ | .ok (m,r)=>_)=_;unfold A42 IP;rcases Gu l with⟨o,r⟩;cases o with
 |none=>rfl
 |some nm=>
  simp only;by_cases hd:(kp&&ms.any fun m=>m.1==nm)=true
  rotate_left
  ·simp only[Br hd];rw[F8];cases Bx r with
   |nil=>rfl
   |cons y s=>
    by_cases h:y=58
    ·subst h;simp only[if_true];cases V (Bx s) with
     |error e=>rfl
     |ok x=>
      obtain⟨v,r2⟩:=x;simp only;rw[F8,F8];cases Bx r2 with
      |nil=>rfl
      |cons y s=>
       by_cases h:y=125
       ·subst h;simp
       ·by_cases h2:y=44
        ·subst h2;simp
        ·simp only[Br h,Br h2];split
         ·rename_i e;injection e with e1 _;exact absurd e1 h
         ·rename_i e;injection e with e1 _;exact absurd e1 h2
         ·rfl
    ·simp only[Br h];split
     ·rename_i e;split at e
      ·rename_i e2;injection e2 with e1 _;exact absurd e1 h
      ·cases e;rfl
     ·rename_i e;split at e
      ·rename_i e2;injection e2 with e1 _;exact absurd e1 h
      ·cases e
  ·simp only[Ch hd]
def Bat{α:Type}(t:ByteArray)(l:Al)(x:JR (α × Al))(res:Bq):Prop:=
 match x with
 |.ok (_,q)=>El (Ab l) q/\res=⟨[As 0],[Cv t q]⟩
 |.error e=>e≠0/\∃q,El t q/\res=⟨[As e],[Cv t q]⟩
section
variable {fu d:Nat}
theorem A2e{t:ByteArray}{r:Al}(h:El t r)(ht:t.size<=1000000):Ac C0 prog fu (d+1) 177 [.pbox (Cv t r)]=some ⟨[Bm (Ab ((Gu r).1.getD [])),C5 ((Gu r).1.isSome)],[Cv t (Gu r).2]⟩:=by
 have e0:Ac C0 prog fu (d+1) 177 [.pbox (Cv t r)]=Auu [.pbox (Cv t r)]:=rfl;have hl:=h.len
 have e1:(decide ((0:Int)<=(Ck t r:Int))&&decide ((Ck t r:Int)<=t.size)&&Nat.ble t.size 1000000)=true:=by
  simp only[Fe,FJ,Nat.ble_eq];unfold Ck;omega
 have e2:(Dk t).drop (Ck t r:Int).toNat=r:=by rw[Iq];exact h.eq.symm
 have hq:=(Kd h).len;rw[e0];unfold Auu;simp only[e1,cond_true,e2];rcases hx:Gu r with⟨o,q⟩;rw[hx] at hq;have e3:(t.size:Int)-q.length=(Ck t q:Int):=by unfold Ck;simp only at hq;omega
 cases o with
 |none=>simp only[e3];rfl
 |some s=>simp only[e3];rfl
theorem Ba2{t:ByteArray}{D:Int}(ht:t.size<=1000000)(Bv:t.size+1<=fu)(V:Al->JR (JV × Al))(HV:∀r,El t r->∃res,Ac C0 prog fu (d+3) 178 [.pbox (Cv t r),As D]=some res/\Aiv t r (V r) res){l:Al}(h:El t (91::l)):
  ∃res,Ac C0 prog fu (d+4) 197 [.pbox (Cv t (91::l)),As D]=some res/\A9a t l (Ap9 V l) res:=by
 have a0:=Ee (fu:=fu) (d:=d) (q:=l) 91 91 rfl h ht (by rw[F8];rfl)
 have hs:Ac C0 prog fu (d+3) 154 [.pbox (Cv t l)]=some ⟨[],[Cv t (Bx l)]⟩:=Xy (fu:=fu) (d:=d) h.tail ht Bv;have hS:=Cl h.tail;have DR:=Cl (El.self h.tail.B)
 have eA:Ap9 V l=match A4 [93] (Bx l) with|some r=>.ok r|none=>Ab9 V ((Bx l).length+1) (Bx l):=by
  unfold Ap9;rw[F8];cases Bx l with
  |nil=>rfl
  |cons y s=>
   by_cases hy:y=93
   ·subst hy;rfl
   ·simp only[Br hy];split
    ·rename_i e;injection e with e1 _;exact absurd e1 hy
    ·rfl
 have er:=Qr (p:=none) fu (d+3) t (Ck t (91::l):Int) D;rw[eA];cases h1:A4 [93] (Bx l) with
 |some r=>
  have a1:=Ee (fu:=fu) (d:=d) 93 93 rfl hS ht h1;refine⟨⟨[As 0],[Cv t r]⟩,er.trans ?_,A8 DR h1,rfl⟩
  repeat(with_reducible(first|apply A9|apply Au|apply Bb|apply A5|apply Bf|apply At|apply Ba|apply Gn);· first|constructor|(simp(disch:=omega)only[Gp,a0,hs,a1,F1]<;>first|constructor|omega)|omega)
  try simp(disch:=omega)only[Aa,a0,hs,a1,F1]
 |none=>
  have a1:=F0 (fu:=fu) (d:=d) 93 93 rfl hS ht h1;obtain⟨res,e5,h5⟩:=Auo (fu:=fu) (d:=d) (s0:=t) (p0:=(Ck t (91::l):Int)) (D0:=D) ht Bv V HV ((Bx l).length+1) fu (Bx l) (Cd _) (by have:=hS.len;omega) hS
  refine⟨res,er.trans ?_,?_⟩
  ·skip
   repeat(with_reducible(first|apply A9|apply Au|apply Bb|apply A5|apply Bf|apply At|apply Ba|apply Gn);· first|constructor|(simp(disch:=omega)only[Gp,a0,hs,a1,F1]<;>first|constructor|omega)|omega)
   try simp(disch:=omega)only[Aa,a0,hs,a1,F1]
   exact e5
  ·simp only
   revert h5
   cases Ab9 V ((Bx l).length+1) (Bx l) with
   |error e=>exact id
   |ok q2=>exact fun h5=>⟨DR.trans h5.1,h5.2⟩
end
section
variable {fu d:Nat}
theorem Asx{t s0:ByteArray}{p0 D0 D:Int}(ht:t.size<=1000000)(Bv:t.size+1<=fu)(V:Al->JR (JV × Al))(HV:∀r,El t r->∃res,Ac C0 prog fu (d+3) 178 [.pbox (Cv t r),As D]=some res/\Aiv t r (V r) res):∀(n nn:Nat)(ms:List (Al × JV)) (l:Al),l.length+1<=n->l.length+1<=nn->El t l ->
  ∃res,Eb fu (Ac C0 prog fu (d+3)) s0 p0 D0 nn D t (Ck t l:Int)=some res/\Bat t l (Zl V false n ms l) res:=by
 intro n
 induction n with
 |zero=>intro nn ms l h1;omega
 |succ n ih=>
  intro nn ms l hn Hs h;obtain⟨k,rfl⟩:∃k,nn=k+1:=⟨nn-1,by omega⟩
  have er:Ac C0 prog fu (d+3) 177 [.pbox (Cv t l)]=_:=A2e (d:=d+2) h ht;have hts:=Kd h;have Acn:=Kd (El.self h.B);rw[IK,Mo];rcases hx:Gu l with⟨o,q⟩;rw[hx] at er hts Acn;cases o with
  |none=>
   have er2:Ac C0 prog fu (d+3) 177 [.pbox (Cv t l)]=some ⟨[Bm (Ab []),C5 false],[Cv t q]⟩:=er;refine⟨⟨[As 2],[Cv t q]⟩,?_,by decide,q,hts,rfl⟩
   repeat(with_reducible(first|apply A9|apply Au|apply Bb|apply A5|apply Bf|apply Jt|apply At|apply Ba|apply Gn);· first|constructor|(simp(disch:=omega)only[Gp,er2,Hb]<;>first|constructor|omega)|omega)
   try simp(disch:=omega)only[Aa,er2,Hb]
  |some nm=>
   have er2:Ac C0 prog fu (d+3) 177 [.pbox (Cv t l)]=some ⟨[Bm (Ab nm),C5 true],[Cv t q]⟩:=er;simp only at hts Acn;have HX:Ac C0 prog fu (d+3) 154 [.pbox (Cv t q)]=some ⟨[],[Cv t (Bx q)]⟩:=Xy (fu:=fu) (d:=d) hts ht Bv;have GZ:=Cl hts;have N9:=Cl Acn;simp only[VO,Bool.false_eq_true,if_false];cases h1:A4 [58] (Bx q) with
   |none=>
    have a1:=F0 (fu:=fu) (d:=d) 58 58 rfl GZ ht h1;refine⟨⟨[As 2],[Cv t (Bx q)]⟩,?_,by decide,Bx q,GZ,rfl⟩
    repeat(with_reducible(first|apply A9|apply Au|apply Bb|apply A5|apply Bf|apply Jt|apply At|apply Ba|apply Gn);· first|constructor|(simp(disch:=omega)only[Gp,er2,HX,a1,F1,Hb]<;>first|constructor|omega)|omega)
    try simp(disch:=omega)only[Aa,er2,HX,a1,F1,Hb]
   |some r1=>
    have a1:=Ee (fu:=fu) (d:=d) 58 58 rfl GZ ht h1;have WV:=A8 GZ h1;have ZM:=A8 N9 h1;have hs3:Ac C0 prog fu (d+3) 154 [.pbox (Cv t r1)]=some ⟨[],[Cv t (Bx r1)]⟩:=Xy (fu:=fu) (d:=d) WV ht Bv;have hv1:=Cl WV;have hv2:=Cl ZM;obtain⟨rv,ev,hv⟩:=HV (Bx r1) hv1;simp only;cases hV:V (Bx r1) with
    |error e=>
     rw[hV] at hv;obtain⟨he,c1,c2,c3,q3,hq3,rfl⟩:=hv;have hb:(e != (0:Int))=true:=by simp[he]
     refine⟨⟨[As e],[Cv t q3]⟩,?_,he,q3,hq3,rfl⟩
     repeat(with_reducible(first|apply A9|apply Au|apply Bb|apply A5|apply Bf|apply Jt|apply At|apply Ba|apply Gn);· first|constructor|(simp(disch:=omega)only[Gp,er2,HX,a1,hs3,ev,hb,F1]<;>first|constructor|omega)|omega)
     try simp(disch:=omega)only[Aa,er2,HX,a1,hs3,ev,hb,F1]
    |ok x=>
     obtain⟨v,r2⟩:=x;rw[hV] at hv;obtain⟨hq3,rfl⟩:=hv;have hb:((0:Int) != (0:Int))=false:=rfl;have hw1:=hv1.trans hq3;have hw2:=hv2.trans hq3;have hs4:Ac C0 prog fu (d+3) 154 [.pbox (Cv t r2)]=some ⟨[],[Cv t (Bx r2)]⟩:=Xy (fu:=fu) (d:=d) hw1 ht Bv;have hz1:=Cl hw1;have Y1:=Cl hw2;simp only;cases h2:A4 [125] (Bx r2) with
     |some r3=>
      have a2:=Ee (fu:=fu) (d:=d) 125 125 rfl hz1 ht h2;refine⟨⟨[As 0],[Cv t r3]⟩,?_,A8 Y1 h2,rfl⟩
      repeat(with_reducible(first|apply A9|apply Au|apply Bb|apply A5|apply Bf|apply Jt|apply At|apply Ba|apply Gn);· first|constructor|(simp(disch:=omega)only[Gp,er2,HX,a1,hs3,ev,hb,hs4,a2,F1]<;>first|constructor|omega)|omega)
      try simp(disch:=omega)only[Aa,er2,HX,a1,hs3,ev,hb,hs4,a2,F1]
     |none=>
      have a2:=F0 (fu:=fu) (d:=d) 125 125 rfl hz1 ht h2;cases h3:A4 [44] (Bx r2) with
      |none=>
       have a3:=F0 (fu:=fu) (d:=d) 44 44 rfl hz1 ht h3;refine⟨⟨[As 2],[Cv t (Bx r2)]⟩,?_,by decide,Bx r2,hz1,rfl⟩
       repeat(with_reducible(first|apply A9|apply Au|apply Bb|apply A5|apply Bf|apply Jt|apply At|apply Ba|apply Gn);· first|constructor|(simp(disch:=omega)only[Gp,er2,HX,a1,hs3,ev,hb,hs4,a2,a3,F1,Hb]<;>first|constructor|omega)|omega)
       try simp(disch:=omega)only[Aa,er2,HX,a1,hs3,ev,hb,hs4,a2,a3,F1,Hb]
      |some r3=>
       have a3:=Ee (fu:=fu) (d:=d) 44 44 rfl hz1 ht h3;have hy1:=A8 hz1 h3;have hy2:=A8 Y1 h3;have MI:Ac C0 prog fu (d+3) 154 [.pbox (Cv t r3)]=some ⟨[],[Cv t (Bx r3)]⟩:=Xy (fu:=fu) (d:=d) hy1 ht Bv
       have hlr:(Bx r3).length+1<=l.length:=by
        have e1:=Y1.le;have e2:=AK r3;have e3:=Ag7 h3;omega
       obtain⟨res,e5,h5⟩:=ih k (ms++[(nm,v)]) (Bx r3) (by omega) (by omega) (Cl hy1);refine⟨res,?_,?_⟩
       ·skip
        repeat(with_reducible(first|apply A9|apply Au|apply Bb|apply A5|apply Bf|apply Jt|apply At|apply Ba|apply Gn);· first|constructor|(simp(disch:=omega)only[Gp,er2,HX,a1,hs3,ev,hb,hs4,a2,a3,MI,F1]<;>first|constructor|omega)|omega)
        try simp(disch:=omega)only[Aa,er2,HX,a1,hs3,ev,hb,hs4,a2,a3,MI,F1]
        exact e5
       ·simp only;have hup:El (Ab l) (Bx r3):=Cl hy2
        revert h5
        cases Zl V false n (ms++[(nm,v)]) (Bx r3) with
        |error e=>exact id
        |ok q2=>exact fun h5=>⟨hup.trans h5.1,h5.2⟩
theorem Bau{t:ByteArray}{D:Int}(ht:t.size<=1000000)(Bv:t.size+1<=fu)(V:Al->JR (JV × Al))(HV:∀r,El t r->∃res,Ac C0 prog fu (d+3) 178 [.pbox (Cv t r),As D]=some res/\Aiv t r (V r) res){l:Al}(h:El t (123::l)):
  ∃res,Ac C0 prog fu (d+4) 155 [.pbox (Cv t (123::l)),As D,.sc (.map none)]=some res/\Bat t l (KG V false l) res:=by
 have a0:=Ee (fu:=fu) (d:=d) (q:=l) 123 123 rfl h ht (by rw[F8];rfl)
 have hs:Ac C0 prog fu (d+3) 154 [.pbox (Cv t l)]=some ⟨[],[Cv t (Bx l)]⟩:=Xy (fu:=fu) (d:=d) h.tail ht Bv;have hS:=Cl h.tail;have DR:=Cl (El.self h.tail.B)
 have eA:KG V false l=match A4 [125] (Bx l) with|some r=>.ok ([],r)|none=>Zl V false ((Bx l).length+1) [] (Bx l):=by
  unfold KG;rw[F8];cases Bx l with
  |nil=>rfl
  |cons y s=>
   by_cases hy:y=125
   ·subst hy;rfl
   ·simp only[Br hy];split
    ·rename_i e;injection e with e1 _;exact absurd e1 hy
    ·rfl
 have er:=Ok (p:=none) fu (d+3) t (Ck t (123::l):Int) D;rw[eA];cases h1:A4 [125] (Bx l) with
 |some r=>
  have a1:=Ee (fu:=fu) (d:=d) 125 125 rfl hS ht h1;refine⟨⟨[As 0],[Cv t r]⟩,er.trans ?_,A8 DR h1,rfl⟩
  repeat(with_reducible(first|apply A9|apply Au|apply Bb|apply A5|apply Bf|apply Jt|apply At|apply Ba|apply Gn);· first|constructor|(simp(disch:=omega)only[Gp,a0,hs,a1,F1]<;>first|constructor|omega)|omega)
  try simp(disch:=omega)only[Aa,a0,hs,a1,F1]
 |none=>
  have a1:=F0 (fu:=fu) (d:=d) 125 125 rfl hS ht h1;obtain⟨res,e5,h5⟩:=Asx (fu:=fu) (d:=d) (s0:=t) (p0:=(Ck t (123::l):Int)) (D0:=D) ht Bv V HV ((Bx l).length+1) fu [] (Bx l) (Cd _) (by have:=hS.len;omega) hS
  refine⟨res,er.trans ?_,?_⟩
  ·skip
   repeat(with_reducible(first|apply A9|apply Au|apply Bb|apply A5|apply Bf|apply Jt|apply At|apply Ba|apply Gn);· first|constructor|(simp(disch:=omega)only[Gp,a0,hs,a1,F1]<;>first|constructor|omega)|omega)
   try simp(disch:=omega)only[Aa,a0,hs,a1,F1]
   exact e5
  ·simp only
   revert h5
   cases Zl V false ((Bx l).length+1) [] (Bx l) with
   |error e=>exact id
   |ok q2=>exact fun h5=>⟨DR.trans h5.1,h5.2⟩
end
def A6f(l:Al):JR (JV × Al):=
 match A4 [116,114,117,101] l with
 |some r=>.ok ((2,[],true),r)
 |none=>match A4 [102,97,108,115,101] l with
  |some r=>.ok ((2,[],false),r)
  |none=>match A4 [110,117,108,108] l with
   |some r=>.ok ((1,[],false),r)
   |none=>match Ii l with
    |some r=>.ok ((3,[],false),r)
    |none=>.error 2
theorem Aar(k:Nat){l:Al}(h1:hdS l≠123)(h2:hdS l≠91)(h3:hdS l≠34):Hn k l=A6f l:=by
 unfold Hn;split
 ·exact absurd rfl h1
 ·exact absurd rfl h2
 ·exact absurd rfl h3
 ·rfl
theorem Atd{l r:Al}(h:Db l)(e:Ii l=some r):El (Ab l) r:=by
 have h0:=El.self h;have e0:Ii l=(Ayj (As3 45 l)).bind SX:=rfl;rw[e0,NG,ZW] at e;have h1:El (Ab l) ((A4 [45] l).getD l):=Dp h0 fun q e=>A8 h0 e
 have hE:∀x q,El (Ab l) x->FX x=some q->El (Ab l) q:=by
  have hT:∀x q,El (Ab l) x->Tq x=some q->El (Ab l) q:=by
   intro x q hx e;unfold Tq at e;split at e
   ·rename_i hw;exact Ef (A8 hx hw) e
   ·exact Ef (Dp hx fun q e=>A8 hx e) e
  intro x q hx e;rw[Wq] at e;split at e
  ·rename_i hw;exact hT _ _ (A8 hx hw) e
  ·split at e
   ·rename_i hw;exact hT _ _ (A8 hx hw) e
   ·cases e;exact hx
 have hF:∀x q,El (Ab l) x->SX x=some q->El (Ab l) q:=by
  intro x q hx e;rw[HT] at e;split at e
  ·rename_i hw;obtain⟨y,hy,e⟩:=Option.bind_eq_some_iff.1 e;exact hE _ _ (Ef (A8 hx hw) hy) e
  ·exact hE _ _ hx e
 obtain⟨y,hy,e⟩:=Option.bind_eq_some_iff.1 e;split at hy
 ·rename_i hw;cases hy;exact hF _ _ (A8 h1 hw) e
 ·exact hF _ _ (Ef h1 hy) e
section
variable {fu d:Nat}
theorem A5z{t:ByteArray}{r:Al}(w:Al)(lit:ByteArray)(hw:Ab w=lit)(hB:Db w)(hl:w.length<=100)(h:El t r)(ht:t.size<=1000000):Ac C0 prog fu (d+3) 176 [.pbox (Cv t r),Bm lit]=some ⟨[C5 ((A4 w r).isSome)],[Cv t ((A4 w r).getD r)]⟩:=by subst hw;have e:=BB (fu:=fu) (d:=d) (xs:=xs0) h ht (w:=w) hB hl;refine e.trans ?_;cases A4 w r<;>rfl
theorem Atl{t:ByteArray}(ht:t.size<=1000000)(Bv:t.size+1<=fu){D:Int}{l:Al}(h:El t l)(h1:hdS l≠123)(h2:hdS l≠91)(h3:hdS l≠34):∃res,Ac C0 prog fu (d+5) 178 [.pbox (Cv t l),As D]=some res/\Aiv t l (A6f l) res:=by
 have er:=Cz (p:=none) fu (d+4) t (Ck t l:Int) D;have pk:Ac C0 prog fu (d+4) 196 [.pbox (Cv t l)]=some ⟨[.sc (.int .u8 (hdS l))],[Cv t l]⟩:=Tg (xs:=xs0) (d:=d+3) h;have b1:(hdS l==(123:Int))=false:=by simp[h1]
 have b2:(hdS l==(91:Int))=false:=by simp[h2]
 have b3:(hdS l==(34:Int))=false:=by simp[h3]
 have Av7:=El.self h.B;have a1:=A5z (fu:=fu) (d:=d+1) [116,114,117,101] (ByteArray.mk #[116,114,117,101]) rfl (fun x hx=>by simp at hx;omega) (by decide) h ht
 have a2:=A5z (fu:=fu) (d:=d+1) [102,97,108,115,101] (ByteArray.mk #[102,97,108,115,101]) rfl (fun x hx=>by simp at hx;omega) (by decide) h ht
 have a3:=A5z (fu:=fu) (d:=d+1) [110,117,108,108] (ByteArray.mk #[110,117,108,108]) rfl (fun x hx=>by simp at hx;omega) (by decide) h ht
 obtain⟨rn,hrn,en,hn⟩:=Aup (fu:=fu) (d:=d) h ht Bv;have en2:Ac C0 prog fu (d+4) 198 [.pbox (Cv t l)]=some ⟨[C5 ((Ii l).isSome)],[Cv t rn]⟩:=en;unfold A6f;cases q1:A4 [116,114,117,101] l with
 |some r=>
  rw[q1] at a1;have a1':Ac C0 prog fu (d+4) 176 [.pbox (Cv t l),Bm ⟨#[116,114,117,101]⟩]=some ⟨[C5 true],[Cv t r]⟩:=a1;refine⟨_,er.trans ?_,A8 Av7 q1,rfl⟩
  repeat(with_reducible(first|apply A9|apply Au|apply Bb|apply A5|apply Bf|apply At|apply Ba|apply Gn);· first|constructor|(simp(disch:=omega)only[Gp,pk,b1,b2,b3,a1']<;>first|constructor|omega)|omega)
  try simp(disch:=omega)only[Aa,pk,b1,b2,b3,a1']
  rfl
 |none=>
  rw[q1] at a1;have a1':Ac C0 prog fu (d+4) 176 [.pbox (Cv t l),Bm ⟨#[116,114,117,101]⟩]=some ⟨[C5 false],[Cv t l]⟩:=a1;cases q2:A4 [102,97,108,115,101] l with
  |some r=>
   rw[q2] at a2;have a2':Ac C0 prog fu (d+4) 176 [.pbox (Cv t l),Bm ⟨#[102,97,108,115,101]⟩]=some ⟨[C5 true],[Cv t r]⟩:=a2;refine⟨_,er.trans ?_,A8 Av7 q2,rfl⟩
   repeat(with_reducible(first|apply A9|apply Au|apply Bb|apply A5|apply Bf|apply At|apply Ba|apply Gn);· first|constructor|(simp(disch:=omega)only[Gp,pk,b1,b2,b3,a1',a2']<;>first|constructor|omega)|omega)
   try simp(disch:=omega)only[Aa,pk,b1,b2,b3,a1',a2']
   rfl
  |none=>
   rw[q2] at a2;have a2':Ac C0 prog fu (d+4) 176 [.pbox (Cv t l),Bm ⟨#[102,97,108,115,101]⟩]=some ⟨[C5 false],[Cv t l]⟩:=a2;cases q3:A4 [110,117,108,108] l with
   |some r=>
    rw[q3] at a3;have a3':Ac C0 prog fu (d+4) 176 [.pbox (Cv t l),Bm ⟨#[110,117,108,108]⟩]=some ⟨[C5 true],[Cv t r]⟩:=a3;refine⟨_,er.trans ?_,A8 Av7 q3,rfl⟩
    repeat(with_reducible(first|apply A9|apply Au|apply Bb|apply A5|apply Bf|apply At|apply Ba|apply Gn);· first|constructor|(simp(disch:=omega)only[Gp,pk,b1,b2,b3,a1',a2',a3']<;>first|constructor|omega)|omega)
    try simp(disch:=omega)only[Aa,pk,b1,b2,b3,a1',a2',a3']
    rfl
   |none=>
    rw[q3] at a3;have a3':Ac C0 prog fu (d+4) 176 [.pbox (Cv t l),Bm ⟨#[110,117,108,108]⟩]=some ⟨[C5 false],[Cv t l]⟩:=a3;cases q4:Ii l with
    |some r=>
     rw[q4] at en2;have:=hn r q4;subst this;have en3:Ac C0 prog fu (d+4) 198 [.pbox (Cv t l)]=some ⟨[C5 true],[Cv t rn]⟩:=en2;refine⟨_,er.trans ?_,Atd h.B q4,rfl⟩
     repeat(with_reducible(first|apply A9|apply Au|apply Bb|apply A5|apply Bf|apply At|apply Ba|apply Gn);· first|constructor|(simp(disch:=omega)only[Gp,pk,b1,b2,b3,a1',a2',a3',en3]<;>first|constructor|omega)|omega)
     try simp(disch:=omega)only[Aa,pk,b1,b2,b3,a1',a2',a3',en3]
     rfl
    |none=>
     rw[q4] at en2;have en3:Ac C0 prog fu (d+4) 198 [.pbox (Cv t l)]=some ⟨[C5 false],[Cv t rn]⟩:=en2;refine⟨_,er.trans ?_,by decide,0,⟨#[]⟩,false,rn,hrn,rfl⟩
     repeat(with_reducible(first|apply A9|apply Au|apply Bb|apply A5|apply Bf|apply At|apply Ba|apply Gn);· first|constructor|(simp(disch:=omega)only[Gp,pk,b1,b2,b3,a1',a2',a3',en3]<;>first|constructor|omega)|omega)
     try simp(disch:=omega)only[Aa,pk,b1,b2,b3,a1',a2',a3',en3]
theorem Axi(k:Nat)(r:Al):Hn k (34::r)=match Gu (34::r) with|(some s,q)=>.ok ((4,s,false),q)|(none,_)=>.error 2:=by
 have e:Hn k (34::r)=match IP (34::r) with|none=>.error 2|some (s,r')=>.ok ((4,s,false),r'):=by
  cases k<;>rfl
 rw[e];unfold IP;rcases Gu (34::r) with⟨o,q⟩;cases o<;>rfl
theorem Aeg{t:ByteArray}(ht:t.size<=1000000)(k:Nat){D:Int}{l:Al}(h:El t (34::l)):∃res,Ac C0 prog fu (d+5) 178 [.pbox (Cv t (34::l)),As D]=some res/\Aiv t (34::l) (Hn k (34::l)) res:=by
 have er:=Cz (p:=none) fu (d+4) t (Ck t (34::l):Int) D;have pk:Ac C0 prog fu (d+4) 196 [.pbox (Cv t (34::l))]=some ⟨[.sc (.int .u8 34)],[Cv t (34::l)]⟩:=Tg (xs:=xs0) (d:=d+3) h;have Fw:Ac C0 prog fu (d+4) 177 [.pbox (Cv t (34::l))]=_:=A2e (d:=d+3) h ht;have hts:=Kd h;have Acn:=Kd (El.self h.B);have b1:((34:Int)==(123:Int))=false:=rfl;have b2:((34:Int)==(91:Int))=false:=rfl;have b3:((34:Int)==(34:Int))=true:=rfl;rw[Axi];rcases hx:Gu (34::l) with⟨o,q⟩;rw[hx] at Fw hts Acn;cases o with
 |none=>
  have Aug:Ac C0 prog fu (d+4) 177 [.pbox (Cv t (34::l))]=some ⟨[Bm (Ab []),C5 false],[Cv t q]⟩:=Fw;refine⟨_,er.trans ?_,by decide,0,⟨#[]⟩,false,q,hts,rfl⟩
  repeat(with_reducible(first|apply A9|apply Au|apply Bb|apply A5|apply Bf|apply At|apply Ba|apply Gn);· first|constructor|(simp(disch:=omega)only[Gp,pk,b1,b2,b3,Aug]<;>first|constructor|omega)|omega)
  try simp(disch:=omega)only[Aa,pk,b1,b2,b3,Aug]
 |some s=>
  have Aug:Ac C0 prog fu (d+4) 177 [.pbox (Cv t (34::l))]=some ⟨[Bm (Ab s),C5 true],[Cv t q]⟩:=Fw;refine⟨_,er.trans ?_,Acn,rfl⟩
  repeat(with_reducible(first|apply A9|apply Au|apply Bb|apply A5|apply Bf|apply At|apply Ba|apply Gn);· first|constructor|(simp(disch:=omega)only[Gp,pk,b1,b2,b3,Aug]<;>first|constructor|omega)|omega)
  try simp(disch:=omega)only[Aa,pk,b1,b2,b3,Aug]
theorem A20{t:ByteArray}(ht:t.size<=1000000)(Bv:t.size+1<=fu):∀(k:Nat)(D:Int),D+k=9->1<=D->∀l,El t l->∃res,Ac C0 prog fu (d+2*k+5) 178 [.pbox (Cv t l),As D]=some res/\Aiv t l (Hn k l) res:=by
 intro k
 induction k with
 |zero=>
  intro D hD h1 l h;by_cases g1:hdS l=123
  ·cases l with
   |nil=>cases g1
   |cons c l=>
    have g2:c=123:=g1;subst g2;have er:=Cz (p:=none) fu (d+4) t (Ck t (123::l):Int) D;have pk:Ac C0 prog fu (d+4) 196 [.pbox (Cv t (123::l))]=some ⟨[.sc (.int .u8 123)],[Cv t (123::l)]⟩:=Tg (xs:=xs0) (d:=d+3) h;have b1:((123:Int)==(123:Int))=true:=rfl;have b2:decide (D>8)=true:=by simp;omega
    refine⟨_,er.trans ?_,(by decide:(5:Int)≠0),0,⟨#[]⟩,false,123::l,h,rfl⟩
    repeat(with_reducible(first|apply A9|apply Au|apply Bb|apply A5|apply Bf|apply At|apply Ba|apply Gn);· first|constructor|(simp(disch:=omega)only[Gp,pk,b1,b2]<;>first|constructor|omega)|omega)
    try simp(disch:=omega)only[Aa,pk,b1,b2]
  ·by_cases g2:hdS l=91
   ·cases l with
    |nil=>cases g2
    |cons c l=>
     have g3:c=91:=g2;subst g3;have er:=Cz (p:=none) fu (d+4) t (Ck t (91::l):Int) D;have pk:Ac C0 prog fu (d+4) 196 [.pbox (Cv t (91::l))]=some ⟨[.sc (.int .u8 91)],[Cv t (91::l)]⟩:=Tg (xs:=xs0) (d:=d+3) h;have b0:((91:Int)==(123:Int))=false:=rfl;have b1:((91:Int)==(91:Int))=true:=rfl;have b2:decide (D>8)=true:=by simp;omega
     refine⟨_,er.trans ?_,(by decide:(5:Int)≠0),0,⟨#[]⟩,false,91::l,h,rfl⟩
     repeat(with_reducible(first|apply A9|apply Au|apply Bb|apply A5|apply Bf|apply At|apply Ba|apply Gn);· first|constructor|(simp(disch:=omega)only[Gp,pk,b0,b1,b2]<;>first|constructor|omega)|omega)
     try simp(disch:=omega)only[Aa,pk,b0,b1,b2]
   ·by_cases g3:hdS l=34
    ·cases l with
     |nil=>cases g3
     |cons c l=>
      have g4:c=34:=g3;subst g4;exact Aeg ht 0 h
    ·rw[Aar 0 g1 g2 g3];exact Atl ht Bv h g1 g2 g3
 |succ k ih=>
  intro D hD h1 l h;have HV:=ih (D+1) (by omega) (by omega);by_cases g1:hdS l=123
  ·cases l with
   |nil=>cases g1
   |cons c l=>
    have g2:c=123:=g1;subst g2;have er:=Cz (p:=none) fu (d+2*(k+1)+4) t (Ck t (123::l):Int) D;have pk:Ac C0 prog fu (d+2*(k+1)+4) 196 [.pbox (Cv t (123::l))]=some ⟨[.sc (.int .u8 123)],[Cv t (123::l)]⟩:=Tg (xs:=xs0) (d:=d+2*(k+1)+3) h;have b1:((123:Int)==(123:Int))=true:=rfl;have b2:decide (D>8)=false:=by simp;omega
    have w1:wrap .i64 (D+1)=D+1:=Bj;obtain⟨res,e5,h5⟩:=Bau (fu:=fu) (d:=d+2*k+2) (D:=D+1) ht Bv (Hn k) HV h;have e6:Ac C0 prog fu (d+2*(k+1)+4) 155 [.pbox (Cv t (123::l)),As (D+1),.sc (.map none)]=some res:=e5;have ev:Hn (k+1) (123::l)=match KG (Hn k) false l with | .error e=>.error e | .ok (_,r')=>.ok ((6,[],false),r'):=rfl
    rw[ev];cases ho:KG (Hn k) false l with
    |error e=>
     rw[ho] at h5;obtain⟨he,q,hq,rfl⟩:=h5;refine⟨_,er.trans ?_,he,6,⟨#[]⟩,false,q,hq,rfl⟩
     repeat(with_reducible(first|apply A9|apply Au|apply Bb|apply A5|apply Bf|apply At|apply Ba|apply Gn);· first|constructor|(simp(disch:=omega)only[Gp,pk,b1,b2,w1,e6]<;>first|constructor|omega)|omega)
     try simp(disch:=omega)only[Aa,pk,b1,b2,w1,e6]
    |ok x=>
     obtain⟨ms,q⟩:=x;rw[ho] at h5;obtain⟨hq,rfl⟩:=h5;refine⟨_,er.trans ?_,(El.self h.B).tail.trans hq,rfl⟩
     repeat(with_reducible(first|apply A9|apply Au|apply Bb|apply A5|apply Bf|apply At|apply Ba|apply Gn);· first|constructor|(simp(disch:=omega)only[Gp,pk,b1,b2,w1,e6]<;>first|constructor|omega)|omega)
     try simp(disch:=omega)only[Aa,pk,b1,b2,w1,e6]
     rfl
  ·by_cases g2:hdS l=91
   ·cases l with
    |nil=>cases g2
    |cons c l=>
     have g3:c=91:=g2;subst g3;have er:=Cz (p:=none) fu (d+2*(k+1)+4) t (Ck t (91::l):Int) D;have pk:Ac C0 prog fu (d+2*(k+1)+4) 196 [.pbox (Cv t (91::l))]=some ⟨[.sc (.int .u8 91)],[Cv t (91::l)]⟩:=Tg (xs:=xs0) (d:=d+2*(k+1)+3) h;have b0:((91:Int)==(123:Int))=false:=rfl;have b1:((91:Int)==(91:Int))=true:=rfl;have b2:decide (D>8)=false:=by simp;omega
     have w1:wrap .i64 (D+1)=D+1:=Bj;obtain⟨res,e5,h5⟩:=Ba2 (fu:=fu) (d:=d+2*k+2) (D:=D+1) ht Bv (Hn k) HV h;have e6:Ac C0 prog fu (d+2*(k+1)+4) 197 [.pbox (Cv t (91::l)),As (D+1)]=some res:=e5;have ev:Hn (k+1) (91::l)=match Ap9 (Hn k) l with | .error e=>.error e | .ok r'=>.ok ((5,[],false),r'):=rfl
     rw[ev];cases ho:Ap9 (Hn k) l with
     |error e=>
      rw[ho] at h5;obtain⟨he,q,hq,rfl⟩:=h5;refine⟨_,er.trans ?_,he,5,⟨#[]⟩,false,q,hq,rfl⟩
      repeat(with_reducible(first|apply A9|apply Au|apply Bb|apply A5|apply Bf|apply At|apply Ba|apply Gn);· first|constructor|(simp(disch:=omega)only[Gp,pk,b0,b1,b2,w1,e6]<;>first|constructor|omega)|omega)
      try simp(disch:=omega)only[Aa,pk,b0,b1,b2,w1,e6]
     |ok q=>
      rw[ho] at h5;obtain⟨hq,rfl⟩:=h5;refine⟨_,er.trans ?_,(El.self h.B).tail.trans hq,rfl⟩
      repeat(with_reducible(first|apply A9|apply Au|apply Bb|apply A5|apply Bf|apply At|apply Ba|apply Gn);· first|constructor|(simp(disch:=omega)only[Gp,pk,b0,b1,b2,w1,e6]<;>first|constructor|omega)|omega)
      try simp(disch:=omega)only[Aa,pk,b0,b1,b2,w1,e6]
      rfl
   ·by_cases g3:hdS l=34
    ·cases l with
     |nil=>cases g3
     |cons c l=>
      have g4:c=34:=g3;subst g4;exact Aeg (d:=d+2*(k+1)) ht (k+1) h
    ·rw[Aar (k+1) g1 g2 g3];exact Atl (d:=d+2*(k+1)) ht Bv h g1 g2 g3
end
section
open Go.Shelf Go.RowKit Go.Lib
theorem Akr(G:Vt)(args:Ae)(res:Bq)(h:Ag5 args=some res):C3 G prog 203 args res:=by
 refine⟨⟨_,Tryz.func203,by kernel_rfl⟩,fun w Y bt us hi _ _=>?_⟩;unfold Ag5 at h;split at h
 rotate_left
 ·cases h
 rename_i s p;cases hq:(Nat.ble p.size 1000&&p.data.toList.all (fun b=>decide (b.toNat<128))&&decide (s.size<=1000000000))
 ·rw[hq] at h;cases h
 rw[hq,cond_true] at h;cases h;rw[Fe,Fe] at hq;obtain⟨⟨h1,h2⟩,h3⟩:=hq;have h1:=Sn h1;have h3:=of_decide_eq_true h3;have ps:=hi.args
 match us,ps with
 |[u1,u2],ps=>
  obtain⟨⟨_,p1⟩,⟨_,p2⟩,_⟩:=ps;have e1:u1=.string s:=Az.val (show Az w _ (Bm s) u1 from p1);have e2:u2=.string p:=Az.val (show Az w _ (Bm p) u2 from p2);subst e1 e2;refine (Any.strings_Trim_laid Ake (by kernel_rfl) s p w (by omega) (by omega) (ascii_of_all h2)).mono ?_
  rintro e w' ⟨rfl,hb⟩
  exact⟨[.string ⟨(Lib.trimS s.data.toList p.data.toList).toArray⟩],fun _=>none,rfl,DS hb rfl⟩
 |[],ps=>exact ps.elim
 |[_],ps=>exact ps.2.elim
 |_::_::_::_,ps=>exact ps.2.2.elim
end
section
open Go.RowKit Go.Lib
theorem Acz:(prog.info? 82).map (fun i=>(i.zero,i.size,i.bytes))=some (some (.agg #[.int .i64 0,.int .i64 0]),2,16):=by kernel_rfl
theorem FS:prog.underlying 41=some (.slice 82):=by kernel_rfl
theorem A54:prog.underlying 3=some (.int .i64):=by kernel_rfl
set_option maxHeartbeats 4000000 in
theorem Apd(b off n c i vb voff vc:Nat)(cs vs:List Value)(w:World)(hi:i<n)(U6:n+1<=c)(Bas:n<=100000)(hvb:vb≠b)(Nq:cs.length=n*2)(JX:vs.length=2)(Z5:∀j v,cs[j]?=some v->w.cell? ⟨b,off+j,none⟩=some v)(hsp:∀j,j<(n+1)*2->(w.cell? ⟨b,off+j,none⟩).isSome=true)(Zb:∀j,j<(n+1)*2->w.frozen? ⟨b,off+j,none⟩=false)(Mm:∀j v,vs[j]?=some v->w.cell? ⟨vb,voff+j,none⟩=some v)(h1c:∀v∈cs,v.oneCell'=true)(h1v:∀v∈vs,v.oneCell'=true)(tA tB:TypeId)(kA kB:Nat)(hsa:w.shape? vb=some (tA,kA))(hsb:w.shape? b=some (tB,kB))(hkB:kB≠0)(hfa:w.frozen? ⟨vb,voff,none⟩=false)(hfe:w.frozen? ⟨vb,kA,none⟩=false):
  Calls prog 99 #[.slice (some ⟨b,off,none⟩) n c,.int .i64 i,.slice (some ⟨vb,voff,none⟩) 1 vc] w fun e w'=>
   e=.returned (.slice (some ⟨b,off,none⟩) (n+1) c)/\w'=(w.drew.setCells b (off+(i+1)*2) (cs.drop (i*2))).setCells b (off+i*2) vs:=by
 obtain⟨i0,hi0,Ml,RZ,hzb⟩:=info_parts Acz;have Y1:¬((i:Int)=(n:Int)):=by omega
 have hov:∀lb cb,(callFunc 138 #[.slice (some ⟨vb,voff,none⟩) 1 vc,.slice (some ⟨b,off+(i+1)*2,none⟩) lb cb]).run prog w=.ok (.value (.bool false)) w:=fun lb cb=>by
  rw[run_callFunc_extern Tryz.func138 (by kernel_rfl) (by kernel_rfl) (by kernel_rfl) (e:=Extern.SlicesOverlaps.overlaps #[41,41] #[4]) (by kernel_rfl),
   Lib.run_overlaps_apart w 41 4 82 FS 2 (fun w=>by simp[sizeOf,typeInfo,hi0,RZ]) ⟨vb,voff,none⟩ ⟨b,off+(i+1)*2,none⟩ 1 vc lb cb hvb tA tB kA kB hsa hsb hkB hfa hfe]
  rfl
 have XO:(cs.drop (i*2)).length=(n-i)*2:=by rw[List.length_drop,Nq];omega
 have hw1:IntKind.i64.wrap ((i:Int)+1)=(i:Int)+1:=by rw[IntKind.wrap_i64];omega
 have hw2:IntKind.i64.wrap ((n:Int)+1)=(n:Int)+1:=by rw[IntKind.wrap_i64];omega
 have mixed:prog.follows Departure.mixedOrders=true:=by kernel_rfl
 have Gj:(0:Int)<=(i:Int)+1:=by omega
 have Xd:i<=n:=by omega
 have htn:((i:Int)+1).toNat=i+1:=by omega
 have Kw:¬(c=i+1):=by omega
 have EP:(i:Int)<=(n:Int)+1:=by omega
 have hb4:¬(c=i):=by omega
 have Bc1:∀ty dc sc,(Builtin.copy_ #[41,41] ty #[.slice (some ⟨b,off+(i+1)*2,none⟩) (n-i) dc,.slice (some ⟨b,off+i*2,none⟩) (n+1-i) sc]).run prog w.drew=.ok (goInt ((n-i:Nat):Int)) (w.drew.setCells b (off+(i+1)*2) (cs.drop (i*2))):=fun ty dc sc=>
  DA w.drew _ _ ty 82 i0 b (off+(i+1)*2) (n-i) dc ⟨b,off+i*2,none⟩ (n+1-i) sc (n-i) (cs.drop (i*2)) FS hi0 (by simp only[Nat.min_def];split<;>omega) (by rw[RZ];exact XO)
   (fun j v hj=>by rw[Addr.add_lit,Jq];exact Z5 (i*2+j) v (by rwa [List.getElem?_drop] at hj))
   (fun j hj=>by rw[Jq];exact hsp _ (by omega)) (fun j hj=>by rw[Jq];exact Zb _ (by omega)) (fun v hv=>h1c v (List.mem_of_mem_drop hv))
 obtain⟨W1,WZ⟩:∃W1,W1=w.drew.setCells b (off+(i+1)*2) (cs.drop (i*2)):=⟨_,rfl⟩
 have Bex:∀k,k<(n+1)*2->(W1.cell? ⟨b,off+k,none⟩).isSome=true:=fun k hk=>by
  rw[WZ];exact Q1 b _ _ _ _ (hsp k hk)
 have Bhm:∀(W:World),(∀x,W.cell? x=W1.cell? x)->(∀x,W.frozen? x=W1.frozen? x)->∀ty dc,(Builtin.copy_ #[41,41] ty #[.slice (some ⟨b,off+i*2,none⟩) (n+1-i) dc,.slice (some ⟨vb,voff,none⟩) 1 vc]).run prog W=.ok (goInt 1) (W.setCells b (off+i*2) vs):=fun W hWc hWf ty dc=>
  DA W _ _ ty 82 i0 b (off+i*2) (n+1-i) dc ⟨vb,voff,none⟩ 1 vc 1 vs FS hi0 (by simp only[Nat.min_def];split<;>omega) (by rw[JX,RZ])
   (fun j v hj=>by
    rw[Addr.add_lit,hWc,WZ,World.cell?_setCells_out b _ _ _ _ (fun h _=>absurd h hvb)];exact Mm j v hj)
   (fun j hj=>by rw[hWc,Jq];exact Bex _ (by omega)) (fun j hj=>by rw[hWf,WZ,World.frozen?_setCells,Jq];exact Zb _ (by omega)) h1v
 rw[<-WZ] at Bc1
 go_enter Tryz.func99,Tryz.ntmps99
 go_wp2_with (simp only[hov])
 go_region_law_o (refine BD rfl _ _ 41 41 rfl _ _ (by simp[Act.eval,Act.put]) (by simp[Act.eval,Act.put]) (Bc1 _ _ _) ?_)
 go_wp2_with (at_builtin;refine O7 _ rfl _ _ 41 41 rfl _ _ rfl rfl (Bhm _ (fun _=>rfl) (fun _=>rfl) _ _) ?_)
 go_ret
 first|exact⟨rfl,rfl⟩|exact⟨rfl,by rw[WZ]⟩
theorem Art{w:World}{vb voff vc:Nat}{vs:List Value}(JX:vs.length=2)(Mm:∀j v,vs[j]?=some v->w.cell? ⟨vb,voff+j,none⟩=some v)(h1v:∀v∈vs,v.oneCell'=true):
  Pv.Src prog w (fun _=>False) 2 (.slice (some ⟨vb,voff,none⟩) 1 vc) 1 (vs.map .sc) vs where
 len:=fun w'=>by simp[Builtin.lenOf]
 cells:=fun w' hw=>by
  refine Pv.run_first_slice (w:=w') (.inr ⟨_,rfl,by omega,fun j v hj=>?_⟩);have hv:=Mm j v hj;rw[Addr.add_lit,World.cell?_of_block (w:=w) (hw vb (block_lt_of_cell hv))];exact hv
 part:=fun k hk=>by
  refine run_firstCells_some w 2 k ⟨vb,voff,none⟩ 1 vc _ (by rw[List.length_take];omega) fun j v hj=>?_
  rw[List.getElem?_take] at hj;split at hj
  ·rw[Addr.add_lit];exact Mm j v hj
  ·cases hj
 one:=h1v
 rep:=by
  clear Mm h1v JX
  induction vs with
  |nil=>trivial
  |cons v vs ih=>exact⟨.sc v,ih⟩
set_option maxHeartbeats 4000000 in
theorem Ac9(b off n c vb voff vc:Nat)(vs:List Value)(w:World)(U6:n+1<=c)(JX:vs.length=2)(hsp:∀j,j<2->(w.cell? ⟨b,off+n*2+j,none⟩).isSome=true)(Zb:∀j,j<2->w.frozen? ⟨b,off+n*2+j,none⟩=false)(Mm:∀j v,vs[j]?=some v->w.cell? ⟨vb,voff+j,none⟩=some v)(h1v:∀v∈vs,v.oneCell'=true):
  Calls prog 99 #[.slice (some ⟨b,off,none⟩) n c,.int .i64 n,.slice (some ⟨vb,voff,none⟩) 1 vc] w fun e w'=>
   e=.returned (.slice (some ⟨b,off,none⟩) (n+1) c)/\w'=w.setCells b (off+n*2) vs:=by
 obtain⟨i0,hi0,Ml,RZ,hzb⟩:=info_parts Acz;have Xl:=Art (vc:=vc) JX Mm h1v;rw[<-RZ] at Xl hsp Zb ⊢
 have hr:∀ty,(Builtin.append_ #[41,41] ty #[.slice (some ⟨b,off,none⟩) n c,.slice (some ⟨vb,voff,none⟩) 1 vc]).run prog w=_:=fun ty=>
  Pv.append_room_run (P:=prog) (w:=w) (t:=41) (tx:=41) (ty:=ty) (ts:=[]) (b:=b) (ob:=off) (n:=n) (cap:=c) FS FS (fun k=>by simp) hi0 Xl (by rw[JX,RZ]) (fun k hk=>hsp k (by rw[RZ];omega)) (fun k hk=>Zb k (by rw[RZ];omega)) U6
 have mixed:prog.follows Departure.mixedOrders=true:=by kernel_rfl
 go_enter Tryz.func99,Tryz.ntmps99
 go_wp2_with (at_builtin;refine Lib.wpList_append_run _ rfl _ _ _ _ rfl _ _ rfl rfl _ _ (hr _) ?_)
 go_ret
 exact⟨rfl,by rw[RZ]⟩
set_option maxHeartbeats 4000000 in
theorem Acv(base:Option Addr)(n c vb voff vc:Nat)(cs vs:List Value)(w:World)(hnc:n<=c)(U6:c<n+1)(Bas:n<=100000)(Nq:cs.length=n*2)(JX:vs.length=2)(Z5:(base=none/\cs=[])\/∃p,base=some p/\∀j v,cs[j]?=some v->w.cell? (p.add j)=some v)(Mm:∀j v,vs[j]?=some v->w.cell? ⟨vb,voff+j,none⟩=some v)(h1v:∀v∈vs,v.oneCell'=true):
  Calls prog 99 #[.slice base n c,.int .i64 n,.slice (some ⟨vb,voff,none⟩) 1 vc] w fun e w'=>
   e=.returned (.slice (some ⟨w.heap.size,0,none⟩) (n+1) (grownCap w (n+1) c 82)) /\
   w'=w.drew.alloc (.cells (cs.toArray++vs.toArray++Builtin.zeroCells #[.int .i64 0,.int .i64 0] (grownCap w (n+1) c 82-(n+1))) 82):=by
 obtain⟨i0,hi0,Ml,RZ,hzb⟩:=info_parts Acz;have Xl:=Art (vc:=vc) JX Mm h1v;rw[<-RZ] at Xl
 have hr:∀ty,(Builtin.append_ #[41,41] ty #[.slice base n c,.slice (some ⟨vb,voff,none⟩) 1 vc]).run prog w=_:=fun ty=>
  Pv.append_grow_run (P:=prog) (w:=w) (t:=41) (tx:=41) (ty:=ty) (ts:=[]) (ad:=base) (n:=n) (cap:=c) (olds:=cs) FS FS (fun k=>by simp) hi0 Ml Xl (by
   rcases Z5 with h|⟨p,h,g⟩
   ·exact .inl h
   ·exact .inr ⟨p,h,by rw[RZ];exact Nq,g⟩) U6 (by rw[hzb];omega) (by omega)
 have HL:base=none->n=0:=by
  rintro rfl
  rcases Z5 with⟨_,rfl⟩|⟨p,h,_⟩
  ·simp at Nq;omega
  ·cases h
 have mixed:prog.follows Departure.mixedOrders=true:=by kernel_rfl
 clear Z5
 go_enter Tryz.func99,Tryz.ntmps99
 cases base with
 |none=>
  have h0:=HL rfl;subst h0
  go_wp2_with (at_builtin;refine Lib.wpList_append_run _ rfl _ _ _ _ rfl _ _ rfl rfl _ _ (hr _) ?_)
  go_ret
  exact⟨rfl,rfl⟩
 |some a=>
  go_wp2_with (at_builtin;refine Lib.wpList_append_run _ rfl _ _ _ _ rfl _ _ rfl rfl _ _ (hr _) ?_)
  go_ret
  exact⟨rfl,rfl⟩
set_option maxHeartbeats 4000000 in
theorem Atw(b off n c i vb voff vc:Nat)(cs vs:List Value)(w:World)(hi:i<n)(hnc:n<=c)(U6:c<n+1)(Bas:n<=100000)(Nq:cs.length=n*2)(JX:vs.length=2)(Z5:∀j v,cs[j]?=some v->w.cell? ⟨b,off+j,none⟩=some v)(Mm:∀j v,vs[j]?=some v->w.cell? ⟨vb,voff+j,none⟩=some v)(h1c:∀v∈cs,v.oneCell'=true)(h1v:∀v∈vs,v.oneCell'=true):
  Calls prog 99 #[.slice (some ⟨b,off,none⟩) n c,.int .i64 i,.slice (some ⟨vb,voff,none⟩) 1 vc] w fun e w'=>
   e=.returned (.slice (some ⟨w.heap.size,0,none⟩) (n+1) (grownCap w (n+1) c 82)) /\
   w'=(((w.alloc (.cells ((cs.take (i*2)).toArray++Builtin.zeroCells #[.int .i64 0,.int .i64 0] (n+1-i)++Builtin.zeroCells #[.int .i64 0,.int .i64 0] (grownCap w (n+1) c 82-(n+1))) 82)).drew.setCells w.heap.size (i*2) vs).drew).setCells w.heap.size ((i+1)*2) (cs.drop (i*2)):=by
 obtain⟨i0,hi0,Ml,RZ,hzb⟩:=info_parts Acz;have Y1:¬((i:Int)=(n:Int)):=by omega
 have hz3:(c:Int)<(n:Int)+1:=by omega
 have hbw:b<w.heap.size:=block_lt_of_cell (Z5 0 _ (List.getElem?_eq_getElem (by omega)));have hvw:vb<w.heap.size:=block_lt_of_cell (Mm 0 _ (List.getElem?_eq_getElem (by omega)));have hkk:(n:Int)+1-(i:Int)=((n+1-i:Nat):Int):=by omega
 have hik:i+(n+1-i)=n+1:=by omega
 have hold:(Builtin.firstCells i0.size i (.slice (some ⟨b,off,none⟩) i c)).run prog w.drew=.ok (cs.take (i*2)).toArray w.drew:=by
  rw[RZ]
  exact run_firstCells_some w.drew 2 i ⟨b,off,none⟩ i c (cs.take (i*2)) (by rw[List.length_take];omega) (fun j v hj=>by
   rw[Addr.add_lit];rw[List.getElem?_take] at hj;split at hj
   ·exact Z5 j v hj
   ·cases hj)
 have hrz:∀ty,(Builtin.append_ #[41,3] ty #[.slice (some ⟨b,off,none⟩) i c,.int .i64 ((n:Int)+1-(i:Int))]).run prog w =
   .ok (.slice (some ⟨w.heap.size,0,none⟩) (n+1) (grownCap w (n+1) c 82)) (w.drew.alloc (.cells ((cs.take (i*2)).toArray++Builtin.zeroCells #[.int .i64 0,.int .i64 0] (n+1-i)++Builtin.zeroCells #[.int .i64 0,.int .i64 0] (grownCap w (n+1) c 82-(n+1))) 82)):=fun ty=>by
  have h:=Lib.run_append_grow_zeros w 41 3 ty 82 i0 _ .i64 .i64 FS A54 hi0 Ml (some ⟨b,off,none⟩) i c (cs.take (i*2)) hold (n+1-i) (by omega) (by omega) (by omega) (by omega) (by rw[hzb];omega) (by rw[hzb,hik];exact growslice_fits U6 (by omega))
  rw[hik] at h;rw[hkk];exact h
 obtain⟨G,hG⟩:∃G,G=grownCap w (n+1) c 82:=⟨_,rfl⟩
 obtain⟨ROW,Aek⟩:∃ROW:Array Value,ROW=(cs.take (i*2)).toArray++Builtin.zeroCells #[.int .i64 0,.int .i64 0] (n+1-i)++Builtin.zeroCells #[.int .i64 0,.int .i64 0] (G-(n+1)):=⟨_,rfl⟩
 rw[<-hG] at hrz ⊢;rw[<-Aek] at hrz ⊢
 have hRl:(n+1)*2<=ROW.size:=by
  rw[Aek];simp[Builtin.zeroCells];omega
 obtain⟨W1,WZ⟩:∃W1,W1=w.drew.alloc (.cells ROW 82):=⟨_,rfl⟩
 rw[<-WZ] at hrz
 have hN:∀j,j<(n+1)*2->(W1.cell? ⟨w.heap.size,j,none⟩).isSome=true:=fun j hj=>by
  rw[WZ,World.cell?_alloc_at (w:=w.drew) ROW _ w.heap.size j rfl,Array.getElem?_eq_getElem (by omega)];rfl
 have hNf:∀j,W1.frozen? ⟨w.heap.size,j,none⟩=false:=fun j=>by rw[WZ];exact World.frozen?_alloc_at (w:=w.drew) ROW _ w.heap.size j rfl
 have hOb:∀j v,w.cell? ⟨b,j,none⟩=some v->W1.cell? ⟨b,j,none⟩=some v:=fun j v h=>by rw[WZ,World.cell?_alloc_past (w:=w.drew) _ b j hbw];exact h
 have hOv:∀j v,w.cell? ⟨vb,j,none⟩=some v->W1.cell? ⟨vb,j,none⟩=some v:=fun j v h=>by rw[WZ,World.cell?_alloc_past (w:=w.drew) _ vb j hvw];exact h
 have Bhh:∀(W:World),(∀x,W.cell? x=W1.cell? x)->(∀x,W.frozen? x=W1.frozen? x)->∀ty dc,(Builtin.copy_ #[41,41] ty #[.slice (some ⟨w.heap.size,i*2,none⟩) (n+1-i) dc,.slice (some ⟨vb,voff,none⟩) 1 vc]).run prog W=.ok (goInt 1) (W.setCells w.heap.size (i*2) vs):=fun W hWc hWf ty dc=>
  DA W _ _ ty 82 i0 w.heap.size (i*2) (n+1-i) dc ⟨vb,voff,none⟩ 1 vc 1 vs FS hi0 (by simp only[Nat.min_def];split<;>omega) (by rw[JX,RZ])
   (fun j v hj=>by rw[Addr.add_lit,hWc];exact hOv _ v (Mm j v hj))
   (fun j hj=>by rw[hWc];exact hN _ (by omega)) (fun j hj=>by rw[hWf];exact hNf _) h1v
 have hGn:n+1<=G:=by rw[hG];exact grownCap_ge w _ _ _
 have Bmh:G<=9223372036854775807:=by
  have:=grownCap_le_maxLen w (n+1) c 82 (by unfold maxLen;omega)
  rw[<-hG] at this;unfold maxLen at this;omega
 have hGi:¬(G=i):=by omega
 have Bpc:¬(G=i+1):=by omega
 have hci:¬(c=i):=by omega
 have hbN:b≠w.heap.size:=by omega
 have XO:(cs.drop (i*2)).length=(n-i)*2:=by rw[List.length_drop,Nq];omega
 have A9t:∀(W:World),(∀x,W.cell? x=(W1.setCells w.heap.size (i*2) vs).cell? x)->(∀x,W.frozen? x=(W1.setCells w.heap.size (i*2) vs).frozen? x)->∀ty dc sc,(Builtin.copy_ #[41,41] ty #[.slice (some ⟨w.heap.size,(i+1)*2,none⟩) (n-i) dc,.slice (some ⟨b,off+i*2,none⟩) (n-i) sc]).run prog W=.ok (goInt ((n-i:Nat):Int)) (W.setCells w.heap.size ((i+1)*2) (cs.drop (i*2))):=fun W hWc hWf ty dc sc=>
  DA W _ _ ty 82 i0 w.heap.size ((i+1)*2) (n-i) dc ⟨b,off+i*2,none⟩ (n-i) sc (n-i) (cs.drop (i*2)) FS hi0 (by simp only[Nat.min_def];split<;>omega) (by rw[RZ];exact XO)
   (fun j v hj=>by
    rw[Addr.add_lit,hWc,World.cell?_setCells_out _ _ _ _ _ (fun h _=>absurd h hbN),Jq];exact hOb _ v (Z5 (i*2+j) v (by rwa [List.getElem?_drop] at hj)))
   (fun j hj=>by rw[hWc];exact Q1 _ _ _ _ _ (hN _ (by omega)))
   (fun j hj=>by rw[hWf,World.frozen?_setCells];exact hNf _) (fun v hv=>h1c v (List.mem_of_mem_drop hv))
 subst WZ;have hE1:∀x,((w.alloc (.cells ROW 82)).drew).cell? x=(w.drew.alloc (.cells ROW 82)).cell? x:=fun x=>rfl;have hE2:∀x,((w.alloc (.cells ROW 82)).drew).frozen? x=(w.drew.alloc (.cells ROW 82)).frozen? x:=fun x=>rfl;have hF1:∀x,(((w.alloc (.cells ROW 82)).drew.setCells w.heap.size (i*2) vs).drew).cell? x=((w.drew.alloc (.cells ROW 82)).setCells w.heap.size (i*2) vs).cell? x:=fun x=>rfl;have hF2:∀x,(((w.alloc (.cells ROW 82)).drew.setCells w.heap.size (i*2) vs).drew).frozen? x=((w.drew.alloc (.cells ROW 82)).setCells w.heap.size (i*2) vs).frozen? x:=fun x=>rfl;have hw1:IntKind.i64.wrap ((i:Int)+1)=(i:Int)+1:=by rw[IntKind.wrap_i64];omega
 have hw2:IntKind.i64.wrap ((n:Int)+1)=(n:Int)+1:=by rw[IntKind.wrap_i64];omega
 have hw3:IntKind.i64.wrap ((n:Int)+1-(i:Int))=(n:Int)+1-(i:Int):=by rw[IntKind.wrap_i64];omega
 have Gj:(0:Int)<=(i:Int)+1:=by omega
 have Xd:i<=n:=by omega
 have htn:((i:Int)+1).toNat=i+1:=by omega
 have EP:(i:Int)<=(n:Int):=by omega
 have mixed:prog.follows Departure.mixedOrders=true:=by kernel_rfl
 clear hkk hik hold Aek hG hRl
 go_enter Tryz.func99,Tryz.ntmps99
 go_wp2_with (first
  |(at_builtin;refine Lib.wpList_append_run _ rfl _ _ _ _ rfl _ _ rfl rfl _ _ (hrz _) ?_)
  |(at_builtin;refine O7 _ rfl _ _ 41 41 rfl _ _ rfl rfl (Bhh _ hE1 hE2 _ _) ?_)
  |(at_builtin;refine O7 _ rfl _ _ 41 41 rfl _ _ rfl rfl (A9t _ (fun _=>rfl) (fun _=>rfl) _ _ _) ?_))
 go_region_law_o (refine BD rfl _ _ 41 41 rfl (.slice (some ⟨w.heap.size,(i+1)*2,none⟩) (n-i) (G-(i+1))) (.slice (some ⟨b,off+i*2,none⟩) (n-i) (c-i)) (by simp[Act.eval,Act.put]) (by simp[Act.eval,Act.put]) (A9t _ hF1 hF2 3 (G-(i+1)) (c-i)) ?_)
 go_wp2
 go_ret
 exact⟨rfl,rfl⟩
end
section
open Go.RowKit Go.Lib
structure MQ(w w':World):Prop where
 os:w'.os=w.os
 tape:w'.tape=w.tape
 output:w'.output=w.output
 old:∀k,k<w.heap.size->w'.heap[k]?=w.heap[k]?
 size:w'.heap.size=w.heap.size+1
 frz:∀j,w'.frozen? ⟨w.heap.size,j,none⟩=false
theorem MQ.alloc(w:World)(c:Array Value)(e:TypeId):MQ w (w.alloc (.cells c e)):=
 ⟨rfl,rfl,rfl,fun b hb=>Below.heap_alloc w _ b hb,by show (w.heap.push _).size=_;simp,fun j=>World.frozen?_alloc_at (w:=w) c e w.heap.size j rfl⟩
theorem MQ.allocD(w:World)(c:Array Value)(e:TypeId):MQ w (w.drew.alloc (.cells c e)):=by have h:=MQ.alloc w.drew c e;exact⟨h.os,h.tape,h.output,h.old,h.size,h.frz⟩
theorem MQ.wrote{w w' w'':World}(h:MQ w w')(g:C6 w.heap.size w' w''):MQ w w'':=
 ⟨g.os.trans h.os,g.tape.trans h.tape,g.output.trans h.output,fun k hk=>(g.other k (by omega)).trans (h.old k hk),g.size.trans h.size,fun j=>(g.frz j).trans (h.frz j)⟩
theorem C6.drew(b:Nat)(w:World):C6 b w w.drew:=⟨rfl,rfl,rfl,rfl,fun _ _=>rfl,rfl,fun _=>rfl⟩
theorem Asq{w:World}{A:Nat->Prop}{a:Addr}:∀{cs:List Value},WO w A a (cs.map .sc)->∀j v,cs[j]?=some v->w.cell? (a.add j)=some v/\v.oneCell'=true:=by
 intro cs h j v hj;obtain⟨u,h1,h2,h3⟩:=h j (.sc v) (by rw[List.getElem?_map,hj];rfl)
 cases h3;exact⟨h1,h2⟩
theorem Abq{w:World}{A:Nat->Prop}{a:Addr}{cs:List Value}(h:∀j v,cs[j]?=some v->w.cell? (a.add j)=some v)(h1:∀v∈cs,v.oneCell'=true):WO w A a (cs.map .sc):=by
 intro j p hp;rw[List.getElem?_map] at hp;cases hv:cs[j]? with
 |none=>rw[hv] at hp;cases hp
 |some v=>
  rw[hv] at hp;cases hp;exact⟨v,h j v hv,h1 v (List.mem_of_getElem? hv),.sc v⟩
theorem Amz:∀{c:Ae},c.all VP=true->∃cs:List Value,c=cs.map .sc
 |[],_=>⟨[],rfl⟩
 |p::c,h=>by
  simp only[List.all_cons,Fe] at h;obtain⟨cs,rfl⟩:=Amz h.2;have hp:=h.1;unfold VP at hp;split at hp
  ·exact⟨_::cs,rfl⟩
  ·cases hp
def LH(q:Nat × Nat):Bt:=fun j=>match j with|0=>some q|_=>none
def EK(i:Nat)(cs vs:List Value):List Value:=cs.take (i*2)++vs++cs.drop (i*2)
theorem Ae9{i n j:Nat}{cs vs:List Value}{v:Value}(hi:i<=n)(hc:cs.length=n*2)(hv:vs.length=2)(h:(EK i cs vs)[j]?=some v):
  (j<i*2/\cs[j]?=some v)\/(i*2<=j/\j<i*2+2/\vs[j-i*2]?=some v)\/((i+1)*2<=j/\(cs.drop (i*2))[j-(i+1)*2]?=some v):=by
 unfold EK at h;have lt:(cs.take (i*2)).length=i*2:=by rw[List.length_take];omega
 by_cases h1:j<i*2
 ·rw[Zzv,List.getElem?_append_left (by omega),List.getElem?_take,Ch h1] at h;exact .inl ⟨h1,h⟩
 ·by_cases h2:j<i*2+2
  ·rw[Zzv,List.getElem?_append_right (by omega),lt,List.getElem?_append_left (by omega)] at h;exact .inr (.inl ⟨by omega,h2,h⟩)
  ·rw[List.getElem?_append_right (by simp;omega)] at h
   refine .inr (.inr ⟨by omega,?_⟩);rw[Vk,lt,hv] at h;rw[<-h]
   congr 1
   omega
section
variable {w w':World}{Y:Nat->Prop}{bt:GI}{args:Ae}{L vs:List Value}{n cap b o vb vo:Nat}{x1:PV}{x0:PV}
theorem Ao1(hb:bt 0 1=some (b,o))(hv:bt 2 0=some (vb,vo))(Gx:vb≠b)(Nx:b<w.heap.size)(JX:vb<w.heap.size)(hw:C6 b w w')(Aqg:∀j,j<o->w'.cell? ⟨b,j,none⟩=w.cell? ⟨b,j,none⟩)(hn:n<=cap)(hF:Fit w 2 b (o+cap*2))(Zb:∀j,o<=j->j<bsz w b->w.frozen? ⟨b,j,none⟩=false)(hL:∀j v,L[j]?=some v->w'.cell? ⟨b,o+j,none⟩=some v)(h1:∀v∈L,v.oneCell'=true)(Mm:∀j v,vs[j]?=some v->w.cell? ⟨vb,vo+j,none⟩=some v)(h2:∀v∈vs,v.oneCell'=true)(hvf:∀j,vo<=j->j<bsz w vb->w.frozen? ⟨vb,j,none⟩=false)(e0:∀ps,x0 ≠ .pbox ps)(e0':∀ps,x0 ≠ .tup ps)(e1:∀ps,x1 ≠ .pbox ps)(e1':∀ps,x1 ≠ .tup ps){q:Ae}:
  Out w w' Y bt [x0,x1,.tup q] (LH (b,o)) ⟨[.own 2 n (L.map .sc)],[vs.map .sc]⟩ [.slice (some ⟨b,o,none⟩) n cap] where
 os:=hw.os
 tape:=hw.tape
 output:=hw.output
 ext:=⟨by rw[hw.size];exact Cd _,fun k _ hk=>hw.other k (fun e=>hk (e ▸ ⟨0,1,o,hb⟩)),fun k _=>hw.grow k⟩
 rng:=fun k j hk hX=>by
  by_cases e:k=b
  ·subst e
   have hj:j<o:=by
    refine Nat.lt_of_not_le fun Ys=>hX ⟨0,x0,rfl,Or.inl ⟨0,o,hb,Ys⟩⟩
   exact⟨Aqg j hj,hw.frz j⟩
  ·exact⟨by unfold World.cell?;simp only[hw.other k e],by unfold World.frozen?;simp only[hw.other k e]⟩
 vals:=⟨.inr ⟨b,o,cap,rfl,rfl,hn,hF.step (hw.grow b),by rw[hw.size];exact Nx,Abq (fun j v hj=>by rw[Et];exact hL j v hj) h1,fun j hj Ty=>by rw[hw.frz];exact Zb j hj (by rw[hw.bs] at Ty;exact Ty)⟩,trivial⟩
 outs:=by
  have hbk:w'.heap[vb]?=w.heap[vb]?:=hw.other vb Gx;have PZ:bsz w' vb=bsz w vb:=by unfold bsz;rw[hbk]
  have h:Lg w' (Yo bt (LH (b,o)) Y) (LH (b,o)) bt 1 2 [.tup q] [vs.map .sc]:=by
   refine⟨.inr ⟨vb,vo,hv,Abq (fun j v hj=>?_) h2,fun j hj Ty=>?_⟩,rfl⟩
   ·rw[Et,World.cell?_of_block (w:=w) hbk];exact Mm j v hj
   ·rw[World.frozen?_of_block (w:=w) hbk];exact hvf j hj (by rw[PZ] at Ty;exact Ty)
  have h':Lg w' (Yo bt (LH (b,o)) Y) (LH (b,o)) bt 1 1 [x1,.tup q] [vs.map .sc]:=by
   unfold Lg;cases x1<;>first|exact h|exact absurd rfl (e1 _)|exact absurd rfl (e1' _)
  show Lg w' (Yo bt (LH (b,o)) Y) (LH (b,o)) bt 1 0 [x0,x1,.tup q] [vs.map .sc];unfold Lg;cases x0<;>first|exact h'|exact absurd rfl (e0 _)|exact absurd rfl (e0' _)
 fresh:=fun j k y h=>by
  cases j with
  |zero=>
   cases h;refine⟨by rw[hw.size];exact Nx,fun _=>⟨⟨0,0,o,hb⟩,fun x hx=>⟨0,x0,rfl,Or.inl ⟨0,o,hb,hx⟩⟩⟩⟩
  |succ j=>cases h
 inj:=fun j j' k y y' h h'=>by
  cases j with
  |zero=>cases j' with
   |zero=>rfl
   |succ j'=>cases h'
  |succ j=>cases h
theorem A04(hv:bt 2 0=some (vb,vo))(JX:vb<w.heap.size)(hw:MQ w w')(hn:n<=cap)(hF:cap*2<=bsz w' w.heap.size)(hL:∀j v,L[j]?=some v->w'.cell? ⟨w.heap.size,j,none⟩=some v)(h1:∀v∈L,v.oneCell'=true)(Mm:∀j v,vs[j]?=some v->w.cell? ⟨vb,vo+j,none⟩=some v)(h2:∀v∈vs,v.oneCell'=true)(hvf:∀j,vo<=j->j<bsz w vb->w.frozen? ⟨vb,j,none⟩=false)(e0:∀ps,x0 ≠ .pbox ps)(e0':∀ps,x0 ≠ .tup ps)(e1:∀ps,x1 ≠ .pbox ps)(e1':∀ps,x1 ≠ .tup ps){q:Ae}:
  Out w w' Y bt [x0,x1,.tup q] (LH (w.heap.size,0)) ⟨[.own 2 n (L.map .sc)],[vs.map .sc]⟩ [.slice (some ⟨w.heap.size,0,none⟩) n cap] where
 os:=hw.os
 tape:=hw.tape
 output:=hw.output
 ext:=⟨by rw[hw.size];omega,fun k hk _=>hw.old k hk,fun k hk=>Fp.same (hw.old k hk)⟩
 rng:=fun k j hk _=>⟨by unfold World.cell?;simp only[hw.old k hk],by unfold World.frozen?;simp only[hw.old k hk]⟩
 vals:=⟨.inr ⟨w.heap.size,0,cap,rfl,rfl,hn,⟨by omega,.inr (hw.frz _)⟩,by rw[hw.size];omega,Abq (fun j v hj=>by rw[Et,Ir];exact hL j v hj) h1,fun j _ _=>hw.frz j⟩,trivial⟩
 outs:=by
  have hbk:w'.heap[vb]?=w.heap[vb]?:=hw.old vb JX;have PZ:bsz w' vb=bsz w vb:=by unfold bsz;rw[hbk]
  have h:Lg w' (Yo bt (LH (w.heap.size,0)) Y) (LH (w.heap.size,0)) bt 1 2 [.tup q] [vs.map .sc]:=by
   refine⟨.inr ⟨vb,vo,hv,Abq (fun j v hj=>?_) h2,fun j hj Ty=>?_⟩,rfl⟩
   ·rw[Et,World.cell?_of_block (w:=w) hbk];exact Mm j v hj
   ·rw[World.frozen?_of_block (w:=w) hbk];exact hvf j hj (by rw[PZ] at Ty;exact Ty)
  have h':Lg w' (Yo bt (LH (w.heap.size,0)) Y) (LH (w.heap.size,0)) bt 1 1 [x1,.tup q] [vs.map .sc]:=by
   unfold Lg;cases x1<;>first|exact h|exact absurd rfl (e1 _)|exact absurd rfl (e1' _)
  show Lg w' (Yo bt (LH (w.heap.size,0)) Y) (LH (w.heap.size,0)) bt 1 0 [x0,x1,.tup q] [vs.map .sc];unfold Lg;cases x0<;>first|exact h'|exact absurd rfl (e0 _)|exact absurd rfl (e0' _)
 fresh:=fun j k y h=>by
  cases j with
  |zero=>cases h;exact⟨by rw[hw.size];omega,fun Ci=>absurd Ci (Nat.lt_irrefl _)⟩
  |succ j=>cases h
 inj:=fun j j' k y y' h h'=>by
  cases j with
  |zero=>cases j' with
   |zero=>rfl
   |succ j'=>cases h'
  |succ j=>cases h
end
theorem Anw(G:Vt)(args:Ae)(res:Bq)(h:Av9 args=some res):C3 G prog 99 args res:=by
 refine⟨⟨_,Tryz.func99,by kernel_rfl⟩,fun w Y bt us hi _ _=>?_⟩;unfold Av9 at h;split at h
 rotate_left
 ·cases h
 rename_i n c i f l;cases hq:(Nat.beq c.length (n*2)&&decide (0<=i)&&decide (i<=n)&&Nat.ble n 100000&&c.all VP)
 ·rw[hq] at h;cases h
 rw[hq] at h;simp only[Fe,FJ] at hq;obtain⟨⟨⟨⟨hc,h0⟩,h1⟩,hn⟩,Qx⟩:=hq;have hc:=Dz hc;have hn:=Sn hn;simp only[cond_true] at h;cases h;obtain⟨k,rfl⟩:=Int.eq_ofNat_of_zero_le h0;have hk:k<=n:=by omega
 obtain⟨cs,rfl⟩:=Amz Qx;rw[List.length_map] at hc
 have eL:List.take (Int.toNat (k:Int)*2) (cs.map PV.sc)++(PV.sc (.int .i64 f)::PV.sc (.int .i64 l)::List.drop (Int.toNat (k:Int)*2) (cs.map PV.sc))=(EK k cs [.int .i64 f,.int .i64 l]).map .sc:=by
  unfold EK;rw[Iq,List.map_append,List.map_append,List.map_take,List.map_drop,Zzv];rfl
 rw[eL];clear h0 h1 Qx eL;obtain⟨vs,Axn⟩:∃vs:List Value,vs=[.int .i64 f,.int .i64 l]:=⟨_,rfl⟩
 have JX:vs.length=2:=by rw[Axn];rfl
 have hv1:∀v∈vs,v.oneCell'=true:=by
  intro v hv;rw[Axn] at hv;rcases Ce.1 hv with rfl|hv
  ·rfl
  ·rw[Q2] at hv;subst hv;rfl
 have evm:[PV.sc (.int .i64 f),PV.sc (.int .i64 l)]=vs.map .sc:=by rw[Axn];rfl
 rw[<-Axn];have ps:=hi.args;rw[evm] at ps ⊢
 match us,ps with
 |[u0,u1,u2],ps=>
  obtain⟨⟨_,p0⟩,⟨_,p1⟩,⟨es2,n2,c2,e2,p2⟩,_⟩:=ps;simp only[List.cons.injEq,PV.own.injEq,and_true] at e2;obtain⟨rfl,rfl,rfl⟩:=e2;have hu1:u1=.int .i64 k:=Az.val (show Az w _ (As k) u1 from p1);subst hu1;rcases p2 with⟨_,hz,_⟩|⟨vb,vo,vc,hvb,rfl,hvn,hvF,A3q,hvR,hvf⟩
  ·cases hz
  have hvr:=Asq hvR
  have Mm:∀j v,vs[j]?=some v->w.cell? ⟨vb,vo+j,none⟩=some v:=fun j v hj=>by
   have:=(hvr j v hj).1
   rwa [Et] at this
  have fin_new:∀(u0:Value) (w':World) (cap:Nat),MQ w w'->n+1<=cap->cap*2<=bsz w' w.heap.size->(∀j v,(EK k cs vs)[j]?=some v->w'.cell? ⟨w.heap.size,j,none⟩=some v)->(∀v∈EK k cs vs,v.oneCell'=true) ->
    ∃us own,Ending.returned (Value.slice (some ⟨w.heap.size,0,none⟩) (n+1) cap)=.returned (Hm us)/\Out w w' Y bt [.own 2 n (cs.map .sc),As k,.tup [.own 2 1 (vs.map .sc)]] own ⟨[.own 2 (n+1) ((EK k cs vs).map .sc)],[vs.map .sc]⟩ us:=by
   intro u0 w' cap hw EN hF hL h1;exact⟨_,_,rfl,A04 hvb A3q hw EN hF hL h1 Mm hv1 hvf (by simp) (by simp) (by simp) (by simp)⟩
  have one:(∀v∈cs,v.oneCell'=true)->∀v∈EK k cs vs,v.oneCell'=true:=by
   intro FA v hv;unfold EK at hv;rcases B2.1 hv with hv|hv
   ·rcases B2.1 hv with hv|hv
    ·exact FA v (List.mem_of_mem_take hv)
    ·exact hv1 v hv
   ·exact FA v (List.mem_of_mem_drop hv)
  have grow_end:∀(base:Option Addr) (cap0:Nat),n<=cap0->cap0<n+1->k=n->((base=none/\cs=[])\/∃p,base=some p/\∀j v,cs[j]?=some v->w.cell? (p.add j)=some v)->(∀v∈cs,v.oneCell'=true) ->
    Calls prog 99 #[.slice base n cap0,.int .i64 k,.slice (some ⟨vb,vo,none⟩) 1 vc] w fun e w'=>
     ∃us own,e=.returned (Hm us)/\Out w w' Y bt [.own 2 n (cs.map .sc),As k,.tup [.own 2 1 (vs.map .sc)]] own ⟨[.own 2 (n+1) ((EK k cs vs).map .sc)],[vs.map .sc]⟩ us:=by
   intro base cap0 FA hc2 hkn hb Ak8;subst hkn;refine (Acv base k cap0 vb vo vc cs vs w FA hc2 hn hc JX hb Mm hv1).mono ?_
   rintro e w' ⟨rfl,rfl⟩
   obtain⟨G,hG⟩:∃G,G=grownCap w (k+1) cap0 82:=⟨_,rfl⟩
   rw[<-hG];have hGn:k+1<=G:=by rw[hG];exact grownCap_ge w _ _ _
   have eI:EK k cs vs=cs++vs:=by
    unfold EK;rw[Iu (by omega),List.drop_of_length_le (by omega),List.append_nil]
   refine fin_new undef _ G (MQ.allocD w _ _) hGn ?_ (fun j v hj=>?_) (one Ak8)
   ·have:bsz (w.drew.alloc (.cells (cs.toArray++vs.toArray++Builtin.zeroCells #[.int .i64 0,.int .i64 0] (G-(k+1))) 82)) w.heap.size=_:=(Hc.alloc w.drew _ _).bsz;rw[this];simp[Builtin.zeroCells];omega
   ·rw[eI] at hj;have Ci:=Yr hj;rw[World.cell?_alloc_at (w:=w.drew) _ _ w.heap.size j rfl,Array.getElem?_append_left (by simpa using Ci)]
    simpa using hj
  rcases p0 with⟨_,rfl,hc0,ad,rfl⟩|⟨b,o,cap,hb,rfl,Alr,hF,Atc,hR,Zb⟩
  ·have Z5:cs=[]:=by simpa using hc0
   subst Z5;have hk0:k=0:=by omega
   refine grow_end ad 0 (Cd _) (by omega) hk0 ?_ (by simp);cases ad with
   |none=>exact .inl ⟨rfl,rfl⟩
   |some p=>exact .inr ⟨p,rfl,fun j v hj=>by cases hj⟩
  have hr:=Asq hR
  have As2:∀j v,cs[j]?=some v->w.cell? ⟨b,o+j,none⟩=some v:=fun j v hj=>by
   have:=(hr j v hj).1
   rwa [Et] at this
  have FA:∀v∈cs,v.oneCell'=true:=fun v hv=>by
   obtain⟨j,hj⟩:=List.mem_iff_getElem?.1 hv;exact (hr j v hj).2
  have Gx:vb≠b:=by
   rintro rfl
   have:=(hi.inj 0 1 2 0 vb o vo hb hvb).1;omega
  have Kx:∀j,j<cap*2->(w.cell? ⟨b,o+j,none⟩).isSome=true:=fun j hj=>BF (by have:=hF.1;omega)
  have XS:∀j,j<cap*2->w.frozen? ⟨b,o+j,none⟩=false:=fun j hj=>Zb _ (by omega) (by have:=hF.1;omega)
  by_cases U6:n+1<=cap
  ·-- in I2
   have hX:cap*2<=bsz w b:=by have:=hF.1;omega
   have hwB:∀w':World,C6 b w w'->(∀j,j<o->w'.cell? ⟨b,j,none⟩=w.cell? ⟨b,j,none⟩)->(∀j v,(EK k cs vs)[j]?=some v->w'.cell? ⟨b,o+j,none⟩=some v) ->
     ∃us own,Ending.returned (Value.slice (some ⟨b,o,none⟩) (n+1) cap)=.returned (Hm us)/\Out w w' Y bt [.own 2 n (cs.map .sc),As k,.tup [.own 2 1 (vs.map .sc)]] own ⟨[.own 2 (n+1) ((EK k cs vs).map .sc)],[vs.map .sc]⟩ us:=by
    intro w' hw Aqg hL;exact⟨_,_,rfl,Ao1 hb hvb Gx Atc A3q hw Aqg U6 hF Zb hL (one FA) Mm hv1 hvf (by simp) (by simp) (by simp) (by simp)⟩
   by_cases hkn:k=n
   ·subst hkn
    have eI:EK k cs vs=cs++vs:=by
     unfold EK;rw[Iu (by omega),List.drop_of_length_le (by omega),List.append_nil]
    refine (Ac9 b o k cap vb vo vc vs w U6 JX (fun j hj=>by rw[Jq];exact Kx _ (by omega)) (fun j hj=>by rw[Jq];exact XS _ (by omega)) Mm hv1).mono ?_
    rintro e w' ⟨rfl,rfl⟩
    refine hwB _ (C6.setCells b _ _ w) (fun j hj=>World.cell?_setCells_out b _ _ w ⟨b,j,none⟩ (fun _ _=>.inl (by show j<o+k*2;omega))) (fun j v hj=>?_)
    rw[eI] at hj;by_cases Ci:j<cs.length
    ·rw[List.getElem?_append_left Ci] at hj;rw[World.cell?_setCells_out b _ _ w ⟨b,o+j,none⟩ (fun _ _=>.inl (by show o+j<o+k*2;omega))]
     exact As2 j v hj
    ·rw[List.getElem?_append_right (by omega)] at hj;have hl:=Yr hj;have:=World.cell?_setCells_in b vs (o+k*2) w (fun t ht=>by rw[Jq];exact Kx _ (by omega)) (j-cs.length) hl
     rw[show o+k*2+(j-cs.length)=o+j by omega] at this;rw[this,<-hj,List.getElem?_eq_getElem hl]
   ·have Ih:k<n:=by omega
    have hsh:∀q:Nat,q<w.heap.size->∃t,w.shape? q=some (t,bsz w q)\/bsz w q=0:=by
     intro q hq;unfold World.shape? bsz;cases w.heap[q]? with
     |none=>exact⟨0,.inr rfl⟩
     |some x=>cases x<;>first|exact⟨_,.inl rfl⟩|exact⟨0,.inr rfl⟩
    obtain⟨tA,hA⟩:=hsh vb A3q;obtain⟨tB,hB⟩:=hsh b Atc;have Bmw:=hvF.1
    have hvE:w.frozen? ⟨vb,bsz w vb,none⟩=false:=by
     rcases hvF.2 with h|h
     ·omega
     ·exact h
    have hA:w.shape? vb=some (tA,bsz w vb):=hA.resolve_right (by omega);have hB:w.shape? b=some (tB,bsz w b):=hB.resolve_right (by omega);refine (Apd b o n cap k vb vo vc cs vs w Ih U6 hn Gx hc JX As2 (fun j hj=>Kx j (by omega)) (fun j hj=>XS j (by omega)) Mm FA hv1 tA tB _ _ hA hB (by omega) (hvf vo (Cd _) (by omega)) hvE).mono ?_
    rintro e w' ⟨rfl,rfl⟩
    have XO:(cs.drop (k*2)).length=(n-k)*2:=by rw[List.length_drop,hc];omega
    have hw1:=(C6.drew b w).trans (C6.setCells b (cs.drop (k*2)) (o+(k+1)*2) w.drew);refine hwB _ (hw1.trans (C6.setCells b vs (o+k*2) _)) (fun j hj=>?_) (fun j v hj=>?_)
    ·rw[World.cell?_setCells_out b _ _ _ ⟨b,j,none⟩ (fun _ _=>.inl (by show j<o+k*2;omega)),World.cell?_setCells_out b _ _ _ ⟨b,j,none⟩ (fun _ _=>.inl (by show j<o+(k+1)*2;omega))]
     rfl
    ·have QS:∀t,t<cap*2->((w.drew.setCells b (o+(k+1)*2) (cs.drop (k*2))).cell? ⟨b,o+t,none⟩).isSome=true:=fun t ht=>Q1 b _ _ _ _ (Kx t ht);rcases Ae9 hk hc JX hj with⟨h1,h2⟩|⟨h1,h2,h3⟩|⟨h1,h2⟩
     ·rw[World.cell?_setCells_out b _ _ _ ⟨b,o+j,none⟩ (fun _ _=>.inl (by show o+j<o+k*2;omega)),World.cell?_setCells_out b _ _ _ ⟨b,o+j,none⟩ (fun _ _=>.inl (by show o+j<o+(k+1)*2;omega))]
      exact As2 j v h2
     ·have hl:=Yr h3;have:=World.cell?_setCells_in b vs (o+k*2) (w.drew.setCells b (o+(k+1)*2) (cs.drop (k*2))) (fun t ht=>by rw[Jq];exact QS _ (by omega)) (j-k*2) hl
      rw[show o+k*2+(j-k*2)=o+j by omega] at this;rw[this,<-h3,List.getElem?_eq_getElem hl]
     ·have hl:=Yr h2;rw[World.cell?_setCells_out b _ _ _ ⟨b,o+j,none⟩ (fun _ _=>.inr (by show o+k*2+vs.length<=o+j;omega))]
      have:=World.cell?_setCells_in b (cs.drop (k*2)) (o+(k+1)*2) w.drew (fun t ht=>by rw[Jq];exact Kx _ (by omega)) (j-(k+1)*2) hl
      rw[show o+(k+1)*2+(j-(k+1)*2)=o+j by omega] at this;rw[this,<-h2,List.getElem?_eq_getElem hl]
  ·by_cases hkn:k=n
   ·exact grow_end _ cap Alr (by omega) hkn (.inr ⟨_,rfl,fun j v hj=>by rw[Et];exact As2 j v hj⟩) FA
   ·refine (Atw b o n cap k vb vo vc cs vs w (by omega) Alr (by omega) hn hc JX As2 Mm FA hv1).mono ?_
    rintro e w' ⟨rfl,rfl⟩
    obtain⟨G,hG⟩:∃G,G=grownCap w (n+1) cap 82:=⟨_,rfl⟩
    rw[<-hG];have hGn:n+1<=G:=by rw[hG];exact grownCap_ge w _ _ _
    obtain⟨ROW,Aek⟩:∃ROW:Array Value,ROW=(cs.take (k*2)).toArray++Builtin.zeroCells #[.int .i64 0,.int .i64 0] (n+1-k)++Builtin.zeroCells #[.int .i64 0,.int .i64 0] (G-(n+1)):=⟨_,rfl⟩
    rw[<-Aek]
    have hRl:ROW.size=G*2:=by
     rw[Aek];simp[Builtin.zeroCells];omega
    have hR0:∀(j:Nat) v,j<k*2->cs[j]?=some v->ROW[j]?=some v:=by
     intro j v hj hv;rw[Aek,Array.getElem?_append_left (by simp;omega),Array.getElem?_append_left (by simp;omega)]
     simp only[List.getElem?_toArray];rw[List.getElem?_take,Ch hj];exact hv
    clear Aek;obtain⟨W0,hW0⟩:∃W0,W0=w.alloc (.cells ROW 82):=⟨_,rfl⟩
    have hN0:MQ w W0:=by rw[hW0];exact MQ.alloc w ROW _
    have hB0:bsz W0 w.heap.size=G*2:=by rw[hW0,(Hc.alloc w ROW 82).bsz,hRl]
    have hC0:∀j,W0.cell? ⟨w.heap.size,j,none⟩=ROW[j]?:=fun j=>by rw[hW0];exact (Hc.alloc w ROW 82).cell j
    rw[<-hW0];have XO:(cs.drop (k*2)).length=(n-k)*2:=by rw[List.length_drop,hc];omega
    have Bjd:∀j,j<G*2->(W0.cell? ⟨w.heap.size,j,none⟩).isSome=true:=fun j hj=>BF (by omega);obtain⟨W1,WZ⟩:∃W1,W1=(W0.drew.setCells w.heap.size (k*2) vs).drew:=⟨_,rfl⟩
    have hw1:C6 w.heap.size W0 W1:=by rw[WZ];exact ((C6.drew _ W0).trans (C6.setCells _ vs (k*2) W0.drew)).trans (C6.drew _ _)
    have hC1:∀j,W1.cell? ⟨w.heap.size,j,none⟩=(W0.drew.setCells w.heap.size (k*2) vs).cell? ⟨w.heap.size,j,none⟩:=fun j=>by rw[WZ];rfl
    have Bhq:∀j,j<G*2->(W1.cell? ⟨w.heap.size,j,none⟩).isSome=true:=fun j hj=>BF (by rw[hw1.bs];omega)
    rw[<-WZ];have hw2:=hw1.trans (C6.setCells w.heap.size (cs.drop (k*2)) ((k+1)*2) W1);refine fin_new undef _ G (hN0.wrote hw2) hGn (by rw[hw2.bs,hB0];exact Cd _) (fun j v hj=>?_) (one FA)
    rcases Ae9 hk hc JX hj with⟨h1,h2⟩|⟨h1,h2,h3⟩|⟨h1,h2⟩
    ·rw[World.cell?_setCells_out _ _ _ _ ⟨w.heap.size,j,none⟩ (fun _ _=>.inl (by show j<(k+1)*2;omega)),hC1,World.cell?_setCells_out _ _ _ _ ⟨w.heap.size,j,none⟩ (fun _ _=>.inl (by show j<k*2;omega))]
     show W0.cell? _=_;rw[hC0];exact hR0 j v h1 h2
    ·have hl:=Yr h3;rw[World.cell?_setCells_out _ _ _ _ ⟨w.heap.size,j,none⟩ (fun _ _=>.inl (by show j<(k+1)*2;omega)),hC1]
     have:=World.cell?_setCells_in w.heap.size vs (k*2) W0.drew (fun t ht=>Bjd _ (by omega)) (j-k*2) hl;rw[show k*2+(j-k*2)=j by omega] at this;rw[this,<-h3,List.getElem?_eq_getElem hl]
    ·have hl:=Yr h2;have:=World.cell?_setCells_in w.heap.size (cs.drop (k*2)) ((k+1)*2) W1 (fun t ht=>Bhq _ (by omega)) (j-(k+1)*2) hl;rw[show (k+1)*2+(j-(k+1)*2)=j by omega] at this;rw[this,<-h2,List.getElem?_eq_getElem hl]
 |[],ps=>exact ps.elim
 |[_],ps=>exact ps.2.elim
 |[_,_],ps=>exact ps.2.2.elim
 |_::_::_::_::_,ps=>exact ps.2.2.2.elim
end
section
open Go.Shelf Go.RowKit Go.Lib
def Bb5:Go.Shelf.Ren:=⟨fun|196=>124|259=>153|n=>n,fun|0=>0|3=>3|4=>4|5=>5|9=>9|12=>12|46=>48|53=>29|119=>212|138=>214|139=>215|n=>n,fun|3=>0|4=>1|n=>n⟩
theorem laysVS:Lays.n196 prog Bb5:={
 mixed:=by kernel_rfl
 f196:=Tryz.func124.trans (congrArg some (by kernel_rfl))
 f259:=Tryz.func153.trans (congrArg some (by kernel_rfl))
 t0:=Tryz.underlying0
 a0:=Tryz.isAgg0
 z0:=Tryz.sizeOf0
 v0:=Tryz.zeroValue0
 t3:=Tryz.underlying3
 a3:=Tryz.isAgg3
 z3:=Tryz.sizeOf3
 v3:=Tryz.zeroValue3
 t4:=Tryz.underlying4
 a4:=Tryz.isAgg4
 z4:=Tryz.sizeOf4
 v4:=Tryz.zeroValue4
 t5:=Tryz.underlying5
 a5:=Tryz.isAgg5
 z5:=Tryz.sizeOf5
 v5:=Tryz.zeroValue5
 t9:=Tryz.underlying9
 a9:=Tryz.isAgg9
 z9:=Tryz.sizeOf9
 v9:=Tryz.zeroValue9
 t12:=Tryz.underlying12
 a12:=Tryz.isAgg12
 z12:=Tryz.sizeOf12
 v12:=Tryz.zeroValue12
 t46:=Tryz.underlying48
 a46:=Tryz.isAgg48
 z46:=Tryz.sizeOf48
 v46:=Tryz.zeroValue48
 t53:=Tryz.underlying29
 a53:=Tryz.isAgg29
 z53:=Tryz.sizeOf29
 v53:=Tryz.zeroValue29
 t119:=Tryz.underlying212
 a119:=Tryz.isAgg212
 z119:=Tryz.sizeOf212
 t138:=Tryz.underlying214
 a138:=Tryz.isAgg214
 z138:=Tryz.sizeOf214
 v138:=Tryz.zeroValue214
 t139:=Tryz.underlying215
 a139:=Tryz.isAgg215
 z139:=Tryz.sizeOf215
 v139:=Tryz.zeroValue215
 g3:=by kernel_rfl
 g4:=by kernel_rfl }
def gU:Vt:=⟨fun b=>b=0\/b=1,fun w=>0<w.heap.size/\1<w.heap.size/\Lib.Utf8Tabs 0 1 w,fun w w' h ⟨s1,s2,h1,h2⟩=>by
 have e1:=h _ (.inl rfl) s1;have e2:=h _ (.inr rfl) s2
 have hs:∀b,b<w.heap.size->w'.heap[b]?=w.heap[b]?->b<w'.heap.size:=by
  intro b hb he;rw[Array.getElem?_eq_getElem hb] at he;rcases Is b w'.heap.size with q|q
  ·exact q
  ·rw[Array.getElem?_eq_none q] at he;cases he
 refine⟨hs _ s1 e1,hs _ s2 e2,fun c hc=>?_,fun i hi=>?_⟩
 ·have:=h1 c hc;unfold World.cell? at this ⊢;simp only[e1] at this ⊢;exact this
 ·obtain⟨a,b⟩:=h2 i hi;unfold World.cell? at a b ⊢;simp only[e2] at a b ⊢;exact⟨a,b⟩⟩
theorem Ago(args:Ae)(res:Bq)(h:Ajt args=some res):C3 gU prog 124 args res:=by
 refine⟨⟨_,Tryz.func124,by kernel_rfl⟩,fun w Y bt us hi hok _=>?_⟩;unfold Ajt at h;split at h
 rotate_left
 ·cases h
 rename_i s;cases hq:decide (s.size<=9223372036854775807)
 ·rw[hq] at h;cases h
 rw[hq] at h;cases h;have hs:=of_decide_eq_true hq;have ps:=hi.args
 match us,ps with
 |[u],ps=>
  have hu:u=.string s:=by
   have:Az w _ (Bm s) u:=ps.1.2;exact this.val
  subst hu;refine (Any.utf8_ValidString laysVS s w hs hok.2.2).mono ?_
  rintro e w' ⟨rfl,hb⟩
  exact⟨[.bool (Lib.validD s.data.toList)],fun _=>none,rfl,DS hb rfl⟩
 |[],ps=>exact ps.elim
 |_::_::_,ps=>exact ps.2.elim
theorem A2b{p:Option (Ae->Option Bq)}(hp:∀g,p=some g->∀args res,g args=some res->C3 gU prog 79 args res):TG gU prog (CP p):=by
 intro f g args res hx hg;have hx0:(bif Yh.any (Nat.beq f) then none else Adb p f)=some g:=hx;cases hb:Yh.any (Nat.beq f)
 rotate_left
 ·rw[hb,cond_true] at hx0;cases hx0
 rw[hb,cond_false] at hx0;unfold Adb at hx0;cases hP:Nat.beq f 79
 rotate_left
 ·rw[hP,cond_true] at hx0;rw[Dz hP];exact hp g hx0 args res hg
 rw[hP,cond_false] at hx0;have Za:Au4 f=some g:=hx0;unfold Au4 at Za;cases h1:Nat.beq f 124
 rotate_left
 ·rw[h1,cond_true] at Za;cases Za;rw[Dz h1];exact Ago args res hg
 rw[h1,cond_false] at Za;cases h5:Nat.beq f 54
 rotate_left
 ·rw[h5,cond_true] at Za;cases Za;rw[Dz h5];exact Ak0 hg
 rw[h5,cond_false] at Za;cases hI:Nat.beq f 99
 rotate_left
 ·rw[hI,cond_true] at Za;cases Za;rw[Dz hI];exact Anw gU args res hg
 rw[hI,cond_false] at Za;cases h6:Nat.beq f 190
 rotate_left
 ·rw[h6,cond_true] at Za;cases Za;rw[Dz h6];exact Ao5 gU args res hg
 rw[h6,cond_false] at Za;cases h7:Nat.beq f 229
 rotate_left
 ·rw[h7,cond_true] at Za;cases Za;rw[Dz h7];exact Aoz gU args res hg
 rw[h7,cond_false] at Za;cases hA:Nat.beq f 203
 rotate_left
 ·rw[hA,cond_true] at Za;cases Za;rw[Dz hA];exact Akr gU args res hg
 rw[hA,cond_false] at Za;cases h9:Nat.beq f 177
 rotate_left
 ·rw[h9,cond_true] at Za;cases Za;rw[Dz h9];exact Apv gU args res hg
 rw[h9,cond_false] at Za;cases h3:Nat.beq f 1000000
 ·rw[h3,cond_false] at Za;cases Za
 ·rw[h3,cond_true] at Za;cases Za;cases hg
theorem A7d:TG gU prog C0:=A2b (fun _ h=>by cases h)
end
section
open Go Go.RowKit
def AJ(v:JV):Value:=.agg #[.int .i64 v.1,.string (Ab v.2.1),.bool v.2.2]
def Nc:Nat->List (Al × JV)->List MapEntry
 |_,[]=>[]
 |i,m::r=>{ key:=.string (Ab m.1),val:=AJ m.2,born:=i }::Nc (i+1) r
theorem ZH:∀(i:Nat)(a b:List (Al × JV)),Nc i (a++b)=Nc i a++Nc (i+a.length) b
 |_,[],_=>rfl
 |i,m::r,b=>by
  show _::Nc (i+1) (r++b)=_;rw[ZH (i+1) r b];show _=_::(Nc (i+1) r++Nc (i+(r.length+1)) b);rw[show i+1+r.length=i+(r.length+1) by omega]
def Q7(nm:Al)(ms:List (Al × JV)):Option JV:=(ms.find? fun m=>m.1==nm).map (·.2)
theorem PO{a b:Al}(ha:Db a)(hb:Db b)(h:Ab a=Ab b):a=b:=by
 have:=congrArg Dk h
 rwa [Dj ha,Dj hb] at this
theorem Auv(a b:ByteArray):(a==b)=decide (a=b):=by
 have e:(a==b)=(a.data==b.data):=by
  cases a;cases b;rfl
 rw[e,Bool.eq_iff_iff,beq_iff_eq,decide_eq_true_iff];constructor
 ·intro h;cases a;cases b;exact congrArg ByteArray.mk h
 ·intro h;rw[h]
theorem BS{nm:Al}(hn:Db nm):∀(ms:List (Al × JV)) (i j:Nat),(∀m∈ms,Db m.1)->∃r,Instr.findNow .string (.string (Ab nm)) (Nc i ms) j=some r/\(match Q7 nm ms with|none=>r=none|some v=>∃k,r=some (k,AJ v))
 |[],_,_,_=>⟨none,rfl,rfl⟩
 |m::r,i,j,hB=>by
  by_cases h:m.1=nm
  ·refine⟨some (j,AJ m.2),?_,?_⟩
   ·show (match Instr.sameNow .string (.string (Ab nm)) (.string (Ab m.1)) with|some true=>some (some (j,AJ m.2))|some false=>Instr.findNow .string (.string (Ab nm)) (Nc (i+1) r) (j+1)|none=>none)=_
    have e:Instr.sameNow .string (.string (Ab nm)) (.string (Ab m.1))=some true:=by
     show some (Ab nm==Ab m.1)=some true;rw[h,Auv];simp
    rw[e]
   ·have e:Q7 nm (m::r)=some m.2:=by
     unfold Q7;rw[List.find?_cons_of_pos (by simp[h])];rfl
    rw[e];exact⟨j,rfl⟩
  ·obtain⟨q,hq,hl⟩:=BS hn r (i+1) (j+1) fun m hm=>hB m (Tu _ hm);refine⟨q,?_,?_⟩
   ·show (match Instr.sameNow .string (.string (Ab nm)) (.string (Ab m.1)) with|some true=>some (some (j,AJ m.2))|some false=>Instr.findNow .string (.string (Ab nm)) (Nc (i+1) r) (j+1)|none=>none)=_
    have e:Instr.sameNow .string (.string (Ab nm)) (.string (Ab m.1))=some false:=by
     show some (Ab nm==Ab m.1)=some false;have:Ab nm≠Ab m.1:=fun e=>h (PO hn (hB m (HS ..)) e).symm;rw[Auv];simp[this]
    rw[e];exact hq
   ·have e:Q7 nm (m::r)=Q7 nm r:=by
     unfold Q7;rw[List.find?_cons_of_neg (by simp[h])]
    rw[e];exact hl
def WJ(w:World)(b:Nat)(ms:List (Al × JV)):Prop:=w.heap[b]?=some (.map (Nc 0 ms).toArray ms.length)
theorem UV{w:World}{b:Nat}{ms:List (Al × JV)}(h:WJ w b ms):(getObj b).run prog w=.ok (.map (Nc 0 ms).toArray ms.length) w:=by simp[getObj,Sem.run,show w.heap[b]?=_ from h]
def Ag8(nm:Al)(ms:List (Al × JV)):Value:=match Q7 nm ms with|some v=>AJ v|none=>AJ (0,[],false)
theorem TS{w:World}{b:Nat}{ms:List (Al × JV)}(h:WJ w b ms)(hB:∀m∈ms,Db m.1){nm:Al}(hn:Db nm)(ok:Bool):(Instr.lookup 179 (.map (some b)) (.string (Ab nm)) ok).run prog w=.ok (if ok then .tuple #[Ag8 nm ms,.bool (Q7 nm ms).isSome] else Ag8 nm ms) w:=by
 have hu:=run_underlying (w:=w) Tryz.underlying179;have hk:=run_underlying (w:=w) Tryz.underlying9;have hck:∀c (n:Nat),(Instr.checkKey c (n+1) 9 (.string (Ab nm))).run prog w=.ok () w:=fun c n=>by simp[Instr.checkKey,hk]
 have hc:∀c,(Instr.checkKey c 10000 9 (.string (Ab nm))).run prog w=.ok () w:=fun c=>hck c 9999;obtain⟨r,hr,hl⟩:=BS hn ms 0 0 hB;have hz:(zeroValue 221).run prog w=.ok (AJ (0,[],false)) w:=Tryz.zeroValue221 w;unfold Ag8;cases hq:Q7 nm ms with
 |none=>
  rw[hq] at hl;simp only at hl;subst hl;cases ok<;>simp[Instr.lookup,hu,hk,UV h,hc,Instr.findKey,hr,hz]<;>rfl
 |some v=>
  rw[hq] at hl;obtain⟨k,hl⟩:=hl;subst hl;cases ok<;>simp[Instr.lookup,hu,hk,UV h,hc,Instr.findKey,hr]
theorem Ai8{w:World}{b:Nat}{ms:List (Al × JV)}(h:WJ w b ms)(hB:∀m∈ms,Db m.1){nm:Al}(hn:Db nm)(hno:Q7 nm ms=none)(v:JV):(Instr.mapUpdate 179 (.map (some b)) (.string (Ab nm)) (AJ v)).run prog w=.ok () { w with heap:=w.heap.setIfInBounds b (.map (Nc 0 (ms++[(nm,v)])).toArray (ms++[(nm,v)]).length) }:=by
 have hu:=run_underlying (w:=w) Tryz.underlying179;have hk:=run_underlying (w:=w) Tryz.underlying9;have hck:∀c (n:Nat),(Instr.checkKey c (n+1) 9 (.string (Ab nm))).run prog w=.ok () w:=fun c n=>by simp[Instr.checkKey,hk]
 have hc:∀c,(Instr.checkKey c 10000 9 (.string (Ab nm))).run prog w=.ok () w:=fun c=>hck c 9999;obtain⟨r,hr,hl⟩:=BS hn ms 0 0 hB;rw[hno] at hl;simp only at hl;subst hl
 have e:Nc 0 (ms++[(nm,v)])=Nc 0 ms++[{ key:=.string (Ab nm),val:=AJ v,born:=ms.length }]:=by
  rw[ZH];show _++[_]=_;rw[Ir]
 have hs:∀o,(setObj b o).run prog w=.ok () { w with heap:=w.heap.setIfInBounds b o }:=fun o=>by
  simp[setObj,Sem.run,show w.heap[b]?=_ from h]
 rw[e];simp[Instr.mapUpdate,hu,hk,UV h,hc,Instr.findKey,hr,hs]
end
section
open Go Go.RowKit
structure Rg(w:World)(b:Nat):Prop where
 ok:gU.ok w
 bl:∀k,gU.bl k->k<w.heap.size/\k≠b
theorem SH{f:FuncId}{t:ByteArray}{r r':Al}{args vals:Ae}{us rs:List Value}{fu d:Nat}(e:Ac C0 prog fu d f (.pbox (Cv t r)::args)=some ⟨vals,[Cv t r']⟩)(ha:Bw UT args us)(hr:Bw UT vals rs){w:World}{b o:Nat}(hU:Rg w b)(h:JJ w b o t r):Calls prog f (.pointer (some ⟨b,o,none⟩)::us).toArray w fun e w'=>e=.returned (Hm rs)/\JJ w' b o t r'/\Gq w w' b o 2:=by
 have hs:C3 gU prog f (.pbox ([Value.string t,.int .i64 (Ck t r:Int)].map .sc)::args) ⟨vals,[[Value.string t,.int .i64 (Ck t r':Int)].map .sc]⟩:=Ju ngR mxR A7d d f _ _ e;refine (Aam hs ha hr (w:=w) (b:=b) (o:=o) hU.ok hU.bl h.lt ?_ ?_).mono ?_
 ·intro j v hv
  match j,hv with
  |0,hv=>cases hv;exact h.c0
  |1,hv=>cases hv;exact h.c1
 ·intro j hj
  match j,hj with
  |0,_=>exact h.f0
  |1,_=>exact h.f1
 ·rintro e w' ⟨rfl,_,h4,h5,hk⟩
  exact⟨rfl,⟨F4 h.lt hk.size,h4 0 _ rfl,h4 1 _ rfl,h5 0 (Nat.zero_lt_succ _),h5 1 (Nat.succ_lt_succ (Nat.zero_lt_succ _))⟩,hk⟩
theorem Lu{t:ByteArray}{r:Al}(hS:El t r)(ht:t.size<=1000000){w:World}{b o:Nat}(hU:Rg w b)(h:JJ w b o t r):
  Calls prog 154 #[.pointer (some ⟨b,o,none⟩)] w fun e w'=>e=.returned (.tuple #[])/\JJ w' b o t (Bx r)/\Gq w w' b o 2:=by
 have e:=Xy (fu:=1000001) (d:=0) hS ht (by omega);exact SH (us:=[]) (rs:=[]) e trivial trivial hU h
def A5m(t:ByteArray)(r r':Al)(e:Ending):Prop:=
 match Hn 8 r with
 |.ok (v,q)=>r'=q/\El (Ab r) q/\e=.returned (.tuple #[AJ v,.int .i64 0])
 |.error er=>er≠0/\El t r'/\∃u:JV,e=.returned (.tuple #[AJ u,.int .i64 er])
theorem Aq0{t:ByteArray}{r:Al}(hS:El t r)(ht:t.size<=1000000){w:World}{b o:Nat}(hU:Rg w b)(h:JJ w b o t r):
  Calls prog 178 #[.pointer (some ⟨b,o,none⟩),.int .i64 1] w fun e w'=>∃r',JJ w' b o t r'/\Gq w w' b o 2 /\
   A5m t r r' e:=by
 unfold A5m;obtain⟨res,e,hr⟩:=A20 (fu:=1000001) (d:=0) ht (by omega) 8 1 (by omega) (by omega) r hS;cases hv:Hn 8 r with
 |error er=>
  rw[hv] at hr;obtain⟨he,c1,c2,c3,q,hq,rfl⟩:=hr;refine (SH (us:=[.int .i64 1]) (rs:=[.agg #[.int .i64 c1,.string c2,.bool c3],.int .i64 er]) e ⟨.inl rfl,trivial⟩ ⟨.inr ⟨[.int .i64 c1,.string c2,.bool c3],rfl,rfl⟩,.inl rfl,trivial⟩ hU h).mono ?_
  rintro e w' ⟨rfl,ha,hk⟩
  exact⟨q,ha,hk,he,hq,(c1,Dk c2,c3),by unfold AJ;simp only[Hl];rfl⟩
 |ok x=>
  obtain⟨v,q⟩:=x;rw[hv] at hr;obtain⟨hq,rfl⟩:=hr;refine (SH (us:=[.int .i64 1]) (rs:=[AJ v,.int .i64 0]) e ⟨.inl rfl,trivial⟩ ⟨.inr ⟨[.int .i64 v.1,.string (Ab v.2.1),.bool v.2.2],rfl,rfl⟩,.inl rfl,trivial⟩ hU h).mono ?_
  rintro e w' ⟨rfl,ha,hk⟩
  exact⟨q,ha,hk,rfl,hq,rfl⟩
end
section
open Go Go.RowKit Go.Lib
theorem Rg.keep{w w':World}{b o n:Nat}(h:Rg w b)(k:Gq w w' b o n):Rg w' b:=
 ⟨gU.stable w w' (fun j hj hl=>k.other j hl (h.bl j hj).2) h.ok,fun j hj=>⟨F4 (h.bl j hj).1 k.size,(h.bl j hj).2⟩⟩
theorem WJ.keep{w w':World}{b mb o n:Nat}{ms:List (Al × JV)}(h:WJ w mb ms)(k:Gq w w' b o n)(Gx:mb≠b):WJ w' mb ms:=by have Ci:mb<w.heap.size:=(Array.getElem?_eq_some_iff.1 h).1;exact (k.other mb Ci Gx).trans h
structure E7(w w':World)(b mb:Nat):Prop where
 os:w'.os=w.os
 tape:w'.tape=w.tape
 output:w'.output=w.output
 size:w.heap.size<=w'.heap.size
 other:∀k,k<w.heap.size->k≠b->k≠mb->w'.heap[k]?=w.heap[k]?
theorem E7.of{w w':World}{b mb o n:Nat}(k:Gq w w' b o n):E7 w w' b mb:=⟨k.os,k.tape,k.output,k.size,fun j hj hb _=>k.other j hj hb⟩
theorem Rg.below{w w':World}{b:Nat}(h:Rg w b)(k:Below w.heap.size w w'):Rg w' b:=
 ⟨gU.stable w w' (fun j _ hl=>k.block j hl) h.ok,fun j hj=>⟨F4 (h.bl j hj).1 k.size,(h.bl j hj).2⟩⟩
theorem WJ.below{w w':World}{mb:Nat}{ms:List (Al × JV)}(h:WJ w mb ms)(k:Below w.heap.size w w'):WJ w' mb ms:=by have Ci:mb<w.heap.size:=(Array.getElem?_eq_some_iff.1 h).1;exact (k.block mb Ci).trans h
theorem E7.trans{w w' w'':World}{b mb:Nat}(h:E7 w w' b mb)(k:E7 w' w'' b mb):E7 w w'' b mb:=
 ⟨k.os.trans h.os,k.tape.trans h.tape,k.output.trans h.output,Nat.le_trans h.size k.size,fun i hi h1 h2=>(k.other i (F4 hi h.size) h1 h2).trans (h.other i hi h1 h2)⟩
theorem Aio:∀(n:Nat)(out l s q:Al),Db out->Db l->Mp n out l=(some s,q)->Db s
  |0,_,_,_,_,_,_,h=>by cases h
  |_+1,_,[],_,_,_,_,h=>by cases h
  |n+1,out,c::l,s,q,ho,hl,h=>by
    have e:Mp (n+1) out (c::l)=if c<32 then (none,c::l) else if c=34 then (some out,l) else if c=92 then
        (match Ua l with
         |(some x,r')=>Mp n (out++Lib.encodeRuneZ x) r'
         |(none,r')=>(none,r')) else Mp n (out++[c]) l:=rfl
    have Wc:=D6 hl
    rw[e] at h
    split at h
    · cases h
    split at h
    · cases h;exact ho
    split at h
    · have h2:=BQ (El.self Wc.2)
      rcases hq:Ua l with⟨o,r⟩
      rw[hq] at h2 h
      cases o with
      |none=>cases h
      |some x=>exact Aio n _ r s q (Sw ho (fun y hy=>by have:=Lib.encodeRuneZ_byte x y hy;omega)) (by have:=h2.B;exact this) h
    · exact Aio n _ l s q (Sw ho (fun y hy=>by simp at hy;omega)) Wc.2 h
theorem Al4{l s q:Al}(hl:Db l)(h:Gu l=(some s,q)):Db s:=by
 cases l with
 |nil=>cases h
 |cons c l=>
  have e:Gu (c::l)=if c=34 then Mp (l.length+1) [] l else (none,c::l):=rfl
  rw[e] at h;split at h
  ·exact Aio _ _ _ _ _ (fun x hx=>by cases hx) (D6 hl).2 h
  ·cases h
theorem E7.below{w w':World}{b mb:Nat}(k:Below w.heap.size w w'):E7 w w' b mb:=⟨k.os,k.tape,k.output,k.size,fun i hi _ _=>k.block i hi⟩
theorem Ay0{P:Program}{t k e:TypeId}(hu:P.underlying t=some (.map k e))(mb:Nat)(w:World):(binOp .neq t (.map (some mb)) (.map none)).run P w=.ok (.bool true) w:=by
 have h:∀d,(Op.equalIn (d+1) t (.map (some mb)) (.map none)).run P w=.ok false w:=fun d=>by
  simp[Op.equalIn,run_underlying hu]
 simp only[binOp];simp[Op.equal,Op.maxDepth,h 9999]
theorem Ar2(nm:Al)(ms:List (Al × JV)):(ms.any fun m=>m.1==nm)=(Q7 nm ms).isSome:=by
 unfold Q7
 induction ms with
 |nil=>rfl
 |cons m r ih=>
  by_cases h:m.1=nm
  ·rw[List.find?_cons_of_pos (by simp[h])];simp[h]
  ·rw[List.find?_cons_of_neg (by simp[h]),<-ih];simp[h]
theorem CW(V:Al->JR (JV × Al))(kp:Bool)(l:Al):KG V kp l=match A4 [125] (Bx l) with|some r=>.ok ([],r)|none=>Zl V kp ((Bx l).length+1) [] (Bx l):=by
 unfold KG;rw[F8];cases Bx l with
 |nil=>rfl
 |cons y s=>
  by_cases hy:y=125
  ·subst hy;rfl
  ·simp only[Br hy];split
   ·rename_i e;injection e with e1 _;exact absurd e1 hy
   ·rfl
theorem UL{W:World}{mb b:Nat}{ob:Obj}(Gx:mb≠b):({ W with heap:=W.heap.setIfInBounds mb ob }:World).heap[b]?=W.heap[b]?:=Array.getElem?_setIfInBounds_ne Gx
theorem JJ.put{W:World}{b o mb:Nat}{t:ByteArray}{r:Al}{ob:Obj}(h:JJ W b o t r)(Gx:mb≠b):JJ { W with heap:=W.heap.setIfInBounds mb ob } b o t r:=by
 have e:=UL (W:=W) (ob:=ob) Gx;refine⟨by simpa using h.lt,(World.cell?_of_block e).trans h.c0,(World.cell?_of_block e).trans h.c1,?_,?_⟩
 ·have:=h.f0;unfold World.frozen? at this ⊢;simp only[e] at this ⊢;exact this
 ·have:=h.f1;unfold World.frozen? at this ⊢;simp only[e] at this ⊢;exact this
theorem Rg.put{W:World}{b mb:Nat}{ob:Obj}(h:Rg W b)(hmU:¬gU.bl mb):Rg { W with heap:=W.heap.setIfInBounds mb ob } b:=
 ⟨gU.stable W _ (fun j hj _=>UL (fun e=>hmU (e ▸ hj))) h.ok,fun j hj=>⟨by simpa using (h.bl j hj).1,(h.bl j hj).2⟩⟩
theorem E7.put{W:World}{b mb:Nat}{ob:Obj}:E7 W { W with heap:=W.heap.setIfInBounds mb ob } b mb:=
 ⟨rfl,rfl,rfl,by simp,fun k _ _ h=>UL (fun e=>h e.symm)⟩
theorem WJ.put{W:World}{mb n:Nat}{ms ms':List (Al × JV)}(h:WJ W mb ms)(hn:ms'.length=n):WJ { W with heap:=W.heap.setIfInBounds mb (.map (Nc 0 ms').toArray n) } mb ms':=by have Ci:mb<W.heap.size:=(Array.getElem?_eq_some_iff.1 h).1;subst hn;exact Array.getElem?_setIfInBounds_self_of_lt Ci
def RoP(w':World)(mb:Nat)(l r':Al)(e:Ending):Prop:=
 match A4 [123] l with
 |some l'=>(match KG (Hn 8) true l' with
  |.ok (ms,q)=>r'=q/\e=.returned (.int .i64 0)/\WJ w' mb ms
  |.error er=>er≠0/\e=.returned (.int .i64 er))
 |none=>e=.returned (.int .i64 2)
set_option maxHeartbeats 4000000 in
theorem Axf{t:ByteArray}{l:Al}(hS:El t l)(ht:t.size<=1000000){w:World}{b o mb:Nat}(hU:Rg w b)(h:JJ w b o t l)(hM:WJ w mb [])(hmb:mb≠b)(hmU:¬gU.bl mb):
  Calls prog 155 #[.pointer (some ⟨b,o,none⟩),.int .i64 1,.map (some mb)] w fun e w'=>E7 w w' b mb/\∃r',El t r'/\JJ w' b o t r' /\
   RoP w' mb l r' e:=by
 have mixed:prog.follows Departure.mixedOrders=true:=by kernel_rfl
 have hac:=Kb hS ht (w0:=[123]) (fun x hx=>by simp at hx;omega) (by decide) h
 go_enter Tryz.func155,Tryz.ntmps155
 go_wp2_with (go_at_call 176;refine hac.mono ?_)
 rintro e W1 ⟨rfl,h1,k1⟩
 cases hq:A4 [123] l with
 |none=>
  rw[hq] at h1
  go_wp2
  go_ret
  exact⟨E7.of k1,l,hS,h1,by unfold RoP;rw[hq];rfl⟩
 |some l'=>
  rw[hq] at h1;have XA:=A8 hS hq;have hsk:=Lu XA ht (hU.keep k1) h1
  go_wp2_with (go_at_call 154;refine hsk.mono ?_)
  rintro e W2 ⟨rfl,h2,k2⟩
  have DR:=Cl XA;have Beq:=Kb DR ht (w0:=[125]) (fun x hx=>by simp at hx;omega) (by decide) h2
  go_wp2_with (go_at_call 176;refine Beq.mono ?_)
  rintro e W3 ⟨rfl,h3,k3⟩
  cases N9:A4 [125] (Bx l') with
  |some r3=>
   rw[N9] at h3
   go_wp2
   go_ret
   refine⟨((E7.of k1).trans (E7.of k2)).trans (E7.of k3),r3,A8 DR N9,h3,?_⟩;unfold RoP;rw[hq];simp only;rw[CW,N9];exact⟨rfl,rfl,((hM.keep k1 hmb).keep k2 hmb).keep k3 hmb⟩
  |none=>
   rw[N9] at h3
   have hRo:∀w' r' e,(match Zl (Hn 8) true ((Bx l').length+1) [] (Bx l') with
     |.ok (ms,q)=>r'=q/\e=.returned (.int .i64 0)/\WJ w' mb ms
     |.error er=>er≠0/\e=.returned (.int .i64 er))->RoP w' mb l r' e:=by
    intro w' r' e h;unfold RoP;rw[hq];simp only;rw[CW,N9];exact h
   have hU3:=((hU.keep k1).keep k2).keep k3;have hM3:=((hM.keep k1 hmb).keep k2 hmb).keep k3 hmb;have Pf:E7 w W3 b mb:=((E7.of k1).trans (E7.of k2)).trans (E7.of k3)
   go_wp2
   go_loopw [] (fun wr=>∃(n:Nat) (ms:List (Al × JV)) (x:Al),Zl (Hn 8) true ((Bx l').length+1) [] (Bx l')=Zl (Hn 8) true n ms x/\x.length<n/\El t x/\JJ wr b o t x/\WJ wr mb ms/\(∀m∈ms,Db m.1)/\Rg wr b/\E7 w wr b mb) (fun wr=>match wr.cell? ⟨b,o+1,none⟩ with|some (.int _ p)=>t.size-p.toNat|_=>0)
   case atStart=>
    exact⟨_,[],Bx l',rfl,Nat.lt_succ_self _,DR,h3,hM3,(fun m hm=>by cases hm),hU3,Pf⟩
   case round=>
    obtain⟨n,ms,x,Fw,hn,hSx,hat,hMx,hBx,hUx,hkx⟩:=hrel;have hrd:Calls prog 177 #[.pointer (some ⟨b,o,none⟩)] wr fun e w'=>e=.returned (.tuple #[.string (Ab ((Gu x).1.getD [])),.bool (Gu x).1.isSome])/\JJ w' b o t (Gu x).2/\Gq wr w' b o 2:=Aes hSx ht hat
    go_wp2_with (go_at_call 177;refine hrd.mono ?_)
    rintro e W4 ⟨rfl,h4,k4⟩
    obtain⟨m,rfl⟩:∃m,n=m+1:=⟨n-1,by omega⟩
    rw[IK (Hn 8) true m ms x] at Fw;have Uv:E7 w W4 b mb:=hkx.trans (E7.of k4);have RO:=Kd hSx;rcases hx:Gu x with⟨o4,q4⟩;rw[hx] at h4 Fw RO;cases o4 with
    |none=>
     go_wp2
     go_ret
     exact⟨Uv,q4,RO,h4,hRo _ _ _ (by rw[Fw];exact⟨by decide,rfl⟩)⟩
    |some nm=>
     have RE:=Al4 hSx.B hx;have hM4:=hMx.keep k4 hmb;have hlk:=TS hM4 hBx RE true;simp only[Zzm,Ar2] at Fw;cases hl:Q7 nm ms with
     |some v=>
      rw[hl] at hlk Fw;have hvm:Ag8 nm ms=.agg #[.int .i64 v.1,.string (Ab v.2.1),.bool v.2.2]:=by unfold Ag8;rw[hl];rfl
      rw[hvm] at hlk
      go_wp2
      go_ret
      have Nx:=fun ob=>(Below.refl W4.heap.size W4).alloc (Cd _) ob;exact⟨Uv.trans (E7.below (Nx _)),q4,RO,h4.below (Nx _) h4.lt,hRo _ _ _ (by rw[Fw];exact⟨by decide,rfl⟩)⟩
     |none=>
      rw[hl] at hlk Fw;have hvm:Ag8 nm ms=.agg #[.int .i64 0,.string ⟨#[]⟩,.bool false]:=by unfold Ag8;rw[hl];rfl
      rw[hvm] at hlk;have Nx:Below W4.heap.size W4 (W4.alloc (.cells #[.int .i64 0,.string ⟨#[]⟩,.bool false] 221)):=(Below.refl W4.heap.size W4).alloc (Cd _) _;have h5:=h4.below Nx h4.lt;have hM5:=hM4.below Nx;have hU5:=(hUx.keep k4).below Nx;have XY:=Uv.trans (E7.below (b:=b) (mb:=mb) Nx);have A31:=Lu RO ht hU5 h5
      go_wp2_with (go_at_call 154;refine A31.mono ?_)
      rintro e W6 ⟨rfl,h6,k6⟩
      have Jg:=Cl RO;have Bjr:=Kb Jg ht (w0:=[58]) (fun x hx=>by simp at hx;omega) (by decide) h6
      go_wp2_with (go_at_call 176;refine Bjr.mono ?_)
      rintro e W7 ⟨rfl,h7,k7⟩
      have hk7:=(XY.trans (E7.of k6)).trans (E7.of k7);cases hq7:A4 [58] (Bx q4) with
      |none=>
       rw[hq7] at h7
       go_wp2
       go_ret
       exact⟨hk7,Bx q4,Jg,h7,hRo _ _ _ (by rw[Fw];simp only[Option.isSome_none,Bool.false_eq_true,if_false,hq7];exact⟨by decide,rfl⟩)⟩
      |some r7=>
       rw[hq7] at h7;have hS7:=A8 Jg hq7;have hU7:=(hU5.keep k6).keep k7;have hM7:=(hM5.keep k6 hmb).keep k7 hmb;have Bif:=Lu hS7 ht hU7 h7
       go_wp2_with (go_at_call 154;refine Bif.mono ?_)
       rintro e W8 ⟨rfl,h8,k8⟩
       have hS8:=Cl hS7;have hvc:=Aq0 hS8 ht (hU7.keep k8) h8
       go_wp2_with (go_at_call 178;refine hvc.mono ?_)
       rintro e W9 ⟨r9,h9,k9,hv9⟩
       have hk9:=(hk7.trans (E7.of k8)).trans (E7.of k9)
       have Aql:Zl (Hn 8) true ((Bx l').length+1) [] (Bx l')=match Hn 8 (Bx r7) with
         |.error e=>.error e
         |.ok (v,r2)=>match A4 [125] (Bx r2) with
          |some r3=>.ok (ms++[(nm,v)],r3)
          |none=>match A4 [44] (Bx r2) with
           |some r3=>Zl (Hn 8) true m (ms++[(nm,v)]) (Bx r3)
           |none=>.error 2:=by
        rw[Fw];simp only[Option.isSome_none,Bool.false_eq_true,if_false,hq7]
        all_goals (rcases Hn 8 (Bx r7) with e|⟨v,r2⟩;rfl;simp only;cases A4 [125] (Bx r2)<;>cases A4 [44] (Bx r2)<;>rfl)
       unfold A5m at hv9;cases hv:Hn 8 (Bx r7) with
       |error er=>
        rw[hv] at hv9 Aql;obtain⟨he,hs9,u,rfl⟩:=hv9;unfold AJ;have hbe:(er != (0:Int))=true:=by simp[he]
        go_wp2
        go_ret
        have Akv:=fun ob=>(Below.refl W9.heap.size W9).alloc (Cd _) ob;exact⟨hk9.trans (E7.below (Akv _)),r9,hs9,h9.below (Akv _) h9.lt,hRo _ _ _ (by rw[Aql];exact⟨he,rfl⟩)⟩
       |ok x9=>
        obtain⟨v9,q9⟩:=x9;rw[hv] at hv9 Aql;obtain⟨rfl,hq9,rfl⟩:=hv9;unfold AJ;have Akv:Below W9.heap.size W9 (W9.alloc (.cells #[.int .i64 v9.1,.string (Ab v9.2.1),.bool v9.2.2] 221)):=(Below.refl W9.heap.size W9).alloc (Cd _) _;have h10:=h9.below Akv h9.lt;have Bag:=((hM7.keep k8 hmb).keep k9 hmb).below Akv;have Bg5:=((hU7.keep k8).keep k9).below Akv;have Bhv:=hk9.trans (E7.below (b:=b) (mb:=mb) Akv);have hup:=Ai8 Bag hBx RE hl v9;unfold AJ at hup;have Gx:=Ay0 Tryz.underlying179 mb;have hS9:=hS8.trans hq9;have h11:=h10.put (mb:=mb) (ob:=.map (Nc 0 (ms++[(nm,v9)])).toArray (ms.length+1)) hmb;have Ba0:=Bg5.put (ob:=.map (Nc 0 (ms++[(nm,v9)])).toArray (ms.length+1)) hmU;have hln:(ms++[(nm,v9)]).length=ms.length+1:=by simp
        rw[hln] at hup;have Bac:=Bag.put (ms':=ms++[(nm,v9)]) hln;have Biz:=Bhv.trans (E7.put (b:=b) (ob:=.map (Nc 0 (ms++[(nm,v9)])).toArray (ms.length+1)));have Bbd:=Lu hS9 ht Ba0 h11
        go_wp2_with (go_at_call 154;refine Bbd.mono ?_)
        rintro e W12 ⟨rfl,h12,k12⟩
        have Avs:=Cl hS9;have Bbv:=Kb Avs ht (w0:=[125]) (fun x hx=>by simp at hx;omega) (by decide) h12
        go_wp2_with (go_at_call 176;refine Bbv.mono ?_)
        rintro e W13 ⟨rfl,h13,k13⟩
        have A91:=(Biz.trans (E7.of k12)).trans (E7.of k13);cases Aqe:A4 [125] (Bx r9) with
        |some r13=>
         rw[Aqe] at h13
         go_wp2
         go_ret
         exact⟨A91,r13,A8 Avs Aqe,h13,hRo _ _ _ (by rw[Aql];simp only;rw[Aqe];exact⟨rfl,rfl,(Bac.keep k12 hmb).keep k13 hmb⟩)⟩
        |none=>
         rw[Aqe] at h13;have A80:=Kb Avs ht (w0:=[44]) (fun x hx=>by simp at hx;omega) (by decide) h13
         go_wp2_with (go_at_call 176;refine A80.mono ?_)
         rintro e W14 ⟨rfl,h14,k14⟩
         have A9n:=A91.trans (E7.of k14);cases Ao4:A4 [44] (Bx r9) with
         |none=>
          rw[Ao4] at h14
          go_wp2
          go_ret
          exact⟨A9n,Bx r9,Avs,h14,hRo _ _ _ (by rw[Aql];simp only;rw[Aqe];simp only;rw[Ao4];exact⟨by decide,rfl⟩)⟩
         |some r14=>
          rw[Ao4] at h14;have A8z:=A8 Avs Ao4;have A8r:=((Ba0.keep k12).keep k13).keep k14;have Bh9:=((Bac.keep k12 hmb).keep k13 hmb).keep k14 hmb;have A8k:=Lu A8z ht A8r h14
          go_wp2_with (go_at_call 154;refine A8k.mono ?_)
          rintro e W15 ⟨rfl,h15,k15⟩
          have Bfp:=Cl A8z
          have hlr:(Bx r14).length+1<=x.length:=by
           have Acn:=Kd (El.self hSx.B);rw[hx] at Acn;have g1:=(Cl (A8 (Cl Acn) hq7))
           have g2:=((Cl (g1.trans hq9))).le;have g3:=AK r14;have g4:=Ag7 Ao4;omega
          have hxl:=hSx.len
          go_wp2
          refine⟨⟨m,ms++[(nm,v9)],Bx r14,by rw[Aql];simp only[Aqe,Ao4],by omega,Bfp,h15,Bh9.keep k15 hmb,fun y hy=>?_,A8r.keep k15,A9n.trans (E7.of k15)⟩,?_⟩
          ·rcases B2.1 hy with hy|hy
           ·exact hBx y hy
           ·simp at hy;subst hy;exact RE
          ·have hp3:Ck t x<Ck t (Bx r14):=by unfold Ck;omega
           have hp4:Ck t (Bx r14)<=t.size:=Nat.sub_le _ _;simp only[h15.c1,hat.c1,Iq];omega
end
def Bg(c:Int):Al->List Al
 |[]=>[[]]
 |x::r=>if x=c then []::Bg c r else match Bg c r with
  |h::t=>(x::h)::t
  |[]=>[[x]]
theorem R9(c:Int)(l:Al):Bg c l≠[]:=by
 cases l with
 |nil=>simp[Bg]
 |cons x r=>
  unfold Bg;split
  ·simp
  ·cases Bg c r<;>simp
def Bz(c:Int)(l:Al):Al:=l.takeWhile (fun x=>x != c)
theorem OW(c:Int):∀(l:Al),Bg c l=if (Bz c l).length<l.length then Bz c l::Bg c (l.drop ((Bz c l).length+1)) else [l]
 |[]=>rfl
 |x::r=>by
  by_cases h:x=c
  ·subst h;have e:Bz x (x::r)=[]:=by unfold Bz;rw[List.takeWhile_cons_of_neg (by simp)]
   have e2:Bg x (x::r)=[]::Bg x r:=by
    show (if x=x then []::Bg x r else _)=_;rw[Ch rfl]
   rw[e,Ch (by simp),e2];rfl
  ·have e:Bz c (x::r)=x::Bz c r:=by unfold Bz;rw[List.takeWhile_cons_of_pos (by simp[h])]
   have e2:Bg c (x::r)=match Bg c r with|a::t=>(x::a)::t|[]=>[[x]]:=by
    show (if x=c then []::Bg c r else _)=_;rw[Br h]
   rw[e,e2,OW c r];by_cases g:(Bz c r).length<r.length
   ·rw[Ch g,Ch (by simp;omega)]
    rfl
   ·rw[Br g,Br (by simp;omega)]
def DZ(x:Int):Bool:=decide (48<=x)&&decide (x<=57)
def ltB(x:Int):Bool:=(decide (97<=x)&&decide (x<=122))||DZ x
def L4(l:Al):Bool:=decide (1<=l.length)&&decide (l.length<=63) && !(l.head?==some 45) && !(l.getLast?==some 45)&&l.all (fun x=>ltB x||x==45)
def Vd(l:Al):Int:=
 if 100<l.length then 8 else if (Bg 46 l).all L4=false then 2 else if ((Bg 46 l).getLastD []).all DZ=true then 2 else 0
def GH(l:Al):Int:=l.foldl (fun n x=>10*n+(x-48)) 0
def Kq(l:Al):Bool:=decide (1<=l.length)&&decide (l.length<=5) && !(l.head?==some 48)&&l.all DZ
def dfl(s:Bool):Int:=if s=true then 443 else 80
def CI(s:Bool)(r:Al):Int:=
 let nm:=Bz 58 r
 if Vd nm≠0 then Vd nm else if nm.length=r.length then 0 else
  if Kq (r.drop (nm.length+1))=true/\GH (r.drop (nm.length+1))<=65535/\GH (r.drop (nm.length+1))≠dfl s then 0 else 2
def Fn(l:Al):Int:=
 if [104,116,116,112,115,58,47,47].isPrefixOf l=true then CI true (l.drop 8)
 else if [104,116,116,112,58,47,47].isPrefixOf l=true then CI false (l.drop 7) else 2
section
variable {xs:FuncId->Option (Ae->Option Bq)}(fu d:Nat)(call:Ap)
theorem Ww{p:Option (Ae->Option Bq)}(fu d:Nat)(Z Y:ByteArray):Ac (CP p) prog fu (d+1) 199 [Z,Y]=(fun (call:Ap)=>D8 (call 207 [Z,Y]) fun a b=>Bn a fun a=>Ak b<|Ax (!a) (Bh [Z,false]) (Ar (decide (Int.toNat (↑(ByteArray.size Y):Int)<=ByteArray.size Z)&&decide (ByteArray.size Z<=ByteArray.size Z))<|Aa (ByteArray.extract Z (Int.toNat (↑(ByteArray.size Y):Int)) (ByteArray.size Z)) fun a=>Bh [a,true])) (Ac (CP p) prog fu d):=by kernel_rfl
theorem ES{p:Option (Ae->Option Bq)}(fu d:Nat)(Z Y:ByteArray):Ac (CP p) prog fu (d+1) 179 [Z,Y]=(fun (call:Ap)=>D8 (call 199 [Z,Y]) fun a b=>Bi a fun a=>G2 b fun b=>Bh [a,b]) (Ac (CP p) prog fu d):=by kernel_rfl
theorem KO{p:Option (Ae->Option Bq)}(fu d:Nat)(Z Y:ByteArray):Ac (CP p) prog fu (d+1) 200 [Z,Y]=(fun (call:Ap)=>Gs .i64 (call 212 [Z,Y]) fun a=>Ax (decide (a>=0)) (Ar (decide (0<=a))<|Ar (decide (a.toNat<=ByteArray.size Z))<|Aa (ByteArray.extract Z 0 a.toNat) fun b=>Aa (wrap .i64 (a+(↑(ByteArray.size Y):Int))) fun a=>Ar (decide (0<=a))<|Ar (decide (a.toNat<=ByteArray.size Z)&&decide (ByteArray.size Z<=ByteArray.size Z))<|Aa (ByteArray.extract Z a.toNat (ByteArray.size Z)) fun a=>Bh [b,a,true]) (Bh [Z,Bm ⟨#[]⟩,false])) (Ac (CP p) prog fu d):=by kernel_rfl
theorem XQ{p:Option (Ae->Option Bq)}(fu d:Nat)(Z Y:ByteArray):Ac (CP p) prog fu (d+1) 180 [Z,Y]=(fun (call:Ap)=>D8 (call 200 [Z,Y]) fun a b=>Bi a fun a=>Ad b fun b c=>Bi b fun b=>G2 c fun c=>Bh [a,b,c]) (Ac (CP p) prog fu d):=by kernel_rfl
theorem QI{p:Option (Ae->Option Bq)}(fu d:Nat)(Z Y:ByteArray):Ac (CP p) prog fu (d+1) 230 [Z,Y]=(fun (call:Ap)=>Gs .i64 (call 212 [Z,Y]) fun a=>Bh [a]) (Ac (CP p) prog fu d):=by kernel_rfl
theorem EU{p:Option (Ae->Option Bq)}(fu d:Nat)(Y Z:ByteArray):Ac (CP p) prog fu (d+1) 212 [Y,Z]=(fun (call:Ap)=>Ax ((↑(ByteArray.size Z):Int)==0) (Bh [(0:Int)]) (Ax (Array.toList (ByteArray.data Z)==Array.toList (ByteArray.data Y)) (Bh [(0:Int)]) (Ax ((↑(ByteArray.size Z):Int)==1) (Ea ((Array.toList (ByteArray.data Z))[0]?) fun a=>Gs .i64 (call 190 [Y,.sc (.int .u8 (↑(UInt8.toNat a):Int))]) fun a=>Bh [a]) (Ax (decide ((↑(ByteArray.size Z):Int)>=(↑(ByteArray.size Y):Int))) (Bh [(-1:Int)]) none)))) (Ac (CP p) prog fu d):=by kernel_rfl
def Gd(Z Y:ByteArray)(X W:Int)(V:Nat)(U T:ByteArray)(S Q:Int)(P:Nat)(O:Int)(N:Ae):Option Bq:=Kj fu call 213 Tryz.f213 [Z,Y,X,W] [.r,.r,.r,.r,.r,.r,.r,.r,.l,.l] V ⟨lk [(0,U),(1,T),(2,S),(3,Q),(9,.view 9 1 0 P),(10,O)],Ct [(9,.ar false N)]⟩
theorem Zs(S Q:ByteArray)(P O:Int)(N:Nat)(Y V:ByteArray)(U T:Int)(X:Nat)(Z:Int)(W:Ae):Gd fu call S Q P O (N+1) Y V U T X Z W=(Ax (decide (Z<T)) (Gs .i64 (call 230 [Y,V]) fun a=>Ax (decide (a<0)) (Ar (decide (0<=Z)&&decide (Z<(↑X:Int)))<|Ar (decide (0+Z.toNat*1+1<=W.length))<|Aa (B3 W [Y] (0+Z.toNat*1)) fun a=>Aa (wrap .i64 (Z+1)) fun b=>Ar (decide (0<=b))<|Ar (decide (b.toNat<=X))<|Aa (b.toNat-0) fun b=>Ar (decide (b*1<=a.length))<|Bh [.own 1 b (a.take (b*1))]) (Aa (wrap .i64 (a+U)) fun b=>Ar (decide (0<=b))<|Ar (decide (b.toNat<=ByteArray.size Y))<|Aa (ByteArray.extract Y 0 b.toNat) fun b=>Ar (decide (0<=Z)&&decide (Z<(↑X:Int)))<|Ar (decide (0+Z.toNat*1+1<=W.length))<|Aa (B3 W [b] (0+Z.toNat*1)) fun b=>Aa (wrap .i64 (a+(↑(ByteArray.size V):Int))) fun a=>Ar (decide (0<=a))<|Ar (decide (a.toNat<=ByteArray.size Y)&&decide (ByteArray.size Y<=ByteArray.size Y))<|Aa (ByteArray.extract Y a.toNat (ByteArray.size Y)) fun a=>Aa (wrap .i64 (Z+1)) fun c=>Gd fu call S Q P O N a V U T X c b)) (Ar (decide (0<=Z)&&decide (Z<(↑X:Int)))<|Ar (decide (0+Z.toNat*1+1<=W.length))<|Aa (B3 W [Y] (0+Z.toNat*1)) fun a=>Aa (wrap .i64 (Z+1)) fun b=>Ar (decide (0<=b))<|Ar (decide (b.toNat<=X))<|Aa (b.toNat-0) fun b=>Ar (decide (b*1<=a.length))<|Bh [.own 1 b (a.take (b*1))])):=by kernel_rfl
theorem GQ{p:Option (Ae->Option Bq)}(fu d:Nat)(Z X:ByteArray)(W Y:Int):Ac (CP p) prog fu (d+1) 213 [Z,X,W,Y]=(fun (call:Ap)=>Ax (Y==0) (Bh [.own 1 0 []]) (Ax (Array.toList (ByteArray.data X)==Array.toList (ByteArray.data (ByteArray.mk #[]))) (D8 (call 228 [Z,Y]) fun a b=>Lh 1 a fun a c=>Ak b<|Ar (decide (a*1<=c.length))<|Bh [.own 1 a (c.take (a*1))]) (Ax (decide (Y<0)) (Gs .i64 (call 229 [Z,X]) fun a=>Aa (wrap .i64 (a+1)) fun a=>Aa (wrap .i64 ((↑(ByteArray.size Z):Int)+1)) fun b=>Aa (if b<a then b else a) fun a=>Ar (decide (0<=a)&&decide (a<=a)&&decide (a*16<=1099511627776)&&decide (a<=1099511627776))<|Aa (wrap .i64 (a-1)) fun b=>Gd fu call Z X W Y fu Z X W b a.toNat 0 (T9 a.toNat [Bm ⟨#[]⟩])) (Aa (wrap .i64 ((↑(ByteArray.size Z):Int)+1)) fun a=>Aa (if a<Y then a else Y) fun a=>Ar (decide (0<=a)&&decide (a<=a)&&decide (a*16<=1099511627776)&&decide (a<=1099511627776))<|Aa (wrap .i64 (a-1)) fun b=>Gd fu call Z X W Y fu Z X W b a.toNat 0 (T9 a.toNat [Bm ⟨#[]⟩]))))) (Ac (CP p) prog fu d):=by kernel_rfl
theorem QJ{p:Option (Ae->Option Bq)}(fu d:Nat)(Z Y:ByteArray):Ac (CP p) prog fu (d+1) 201 [Z,Y]=(fun (call:Ap)=>D8 (call 213 [Z,Y,(0:Int),(-1:Int)]) fun a b=>Lh 1 a fun a c=>Ak b<|Ar (decide (a*1<=c.length))<|Bh [.own 1 a (c.take (a*1))]) (Ac (CP p) prog fu d):=by kernel_rfl
def Bs(Z:ByteArray)(Y:Nat)(X:ByteArray)(W V:Int):Option Bq:=Kj fu call 202 Tryz.f202 [Z] [.r,.r,.l,.r,.l] Y ⟨lk [(0,X),(16,W),(17,V)],Ct []⟩
theorem Qq(W:ByteArray)(V:Nat)(Y:ByteArray)(X Z:Int):Bs fu call W (V+1) Y X Z=(Ax (decide (Z<X)) (Ar (decide (0<=Z))<|Ea ((Array.toList (ByteArray.data Y))[Z.toNat]?) fun a=>Ax (decide (97<=(↑(UInt8.toNat a):Int))) (Ax (decide ((↑(UInt8.toNat a):Int)<=122)) (Ax ((↑(UInt8.toNat a):Int)==45) (Ax (decide (Z>0)) (Aa (wrap .i64 ((↑(ByteArray.size Y):Int)-1)) fun a=>Aa (wrap .i64 (Z+1)) fun a=>Bs fu call W V Y X a) (Aa (wrap .i64 (Z+1)) fun a=>Bs fu call W V Y X a)) (Aa (wrap .i64 (Z+1)) fun a=>Bs fu call W V Y X a)) (Ax (decide (48<=(↑(UInt8.toNat a):Int))) (Ax ((↑(UInt8.toNat a):Int)==45) (Ax (decide (Z>0)) (Aa (wrap .i64 ((↑(ByteArray.size Y):Int)-1)) fun b=>Ax (!decide ((↑(UInt8.toNat a):Int)<=57)) (Ax (!decide (Z<b)) (Bh [false]) (Aa (wrap .i64 (Z+1)) fun a=>Bs fu call W V Y X a)) (Aa (wrap .i64 (Z+1)) fun a=>Bs fu call W V Y X a)) (Ax (!decide ((↑(UInt8.toNat a):Int)<=57)) (Bh [false]) (Aa (wrap .i64 (Z+1)) fun a=>Bs fu call W V Y X a))) (Ax (!decide ((↑(UInt8.toNat a):Int)<=57)) (Bh [false]) (Aa (wrap .i64 (Z+1)) fun a=>Bs fu call W V Y X a))) (Ax ((↑(UInt8.toNat a):Int)==45) (Ax (decide (Z>0)) (Aa (wrap .i64 ((↑(ByteArray.size Y):Int)-1)) fun a=>Ax (!decide (Z<a)) (Bh [false]) (Aa (wrap .i64 (Z+1)) fun a=>Bs fu call W V Y X a)) (Bh [false])) (Bh [false])))) (Ax (decide (48<=(↑(UInt8.toNat a):Int))) (Ax ((↑(UInt8.toNat a):Int)==45) (Ax (decide (Z>0)) (Aa (wrap .i64 ((↑(ByteArray.size Y):Int)-1)) fun b=>Ax (!decide ((↑(UInt8.toNat a):Int)<=57)) (Ax (!decide (Z<b)) (Bh [false]) (Aa (wrap .i64 (Z+1)) fun a=>Bs fu call W V Y X a)) (Aa (wrap .i64 (Z+1)) fun a=>Bs fu call W V Y X a)) (Ax (!decide ((↑(UInt8.toNat a):Int)<=57)) (Bh [false]) (Aa (wrap .i64 (Z+1)) fun a=>Bs fu call W V Y X a))) (Ax (!decide ((↑(UInt8.toNat a):Int)<=57)) (Bh [false]) (Aa (wrap .i64 (Z+1)) fun a=>Bs fu call W V Y X a))) (Ax ((↑(UInt8.toNat a):Int)==45) (Ax (decide (Z>0)) (Aa (wrap .i64 ((↑(ByteArray.size Y):Int)-1)) fun a=>Ax (!decide (Z<a)) (Bh [false]) (Aa (wrap .i64 (Z+1)) fun a=>Bs fu call W V Y X a)) (Bh [false])) (Bh [false])))) (Bh [true])):=by kernel_rfl
theorem LE{p:Option (Ae->Option Bq)}(fu d:Nat)(Z:ByteArray):Ac (CP p) prog fu (d+1) 202 [Z]=(fun (call:Ap)=>Ax (decide ((↑(ByteArray.size Z):Int)<1)) (Bh [false]) (Ax (decide ((↑(ByteArray.size Z):Int)>63)) (Bh [false]) (Bs fu call Z fu Z ((↑(ByteArray.size Z):Int)) 0))) (Ac (CP p) prog fu d):=by kernel_rfl
def Kc(Z:ByteArray)(Y X W:Nat)(V U:Int)(T:Ae):Option Bq:=Kj fu call 181 Tryz.f181 [Z] [.r,.r,.r,.l,.r,.l] Y ⟨lk [(3,.view 3 1 0 X),(11,.view 3 1 0 W),(12,V),(13,U)],Ct [(3,.ar false T)]⟩
theorem Sx(U:ByteArray)(T Y W:Nat)(V Z:Int)(X:Ae):Kc fu call U (T+1) Y W V Z X=(Ax (decide (Z<V)) (Ar (decide (0<=Z)&&decide (Z<(↑W:Int)))<|Bi (X.getD (0+Z.toNat*1) .top) fun a=>D8 (call 202 [a]) fun a b=>Bn a fun a=>Ak b<|Ax (!a) (Bh [(2:Int)]) (Aa (wrap .i64 (Z+1)) fun a=>Kc fu call U T Y W V a X)) (Aa (wrap .i64 ((↑Y:Int)-1)) fun a=>Ar (decide (0<=a)&&decide (a<(↑Y:Int)))<|Bi (X.getD (0+a.toNat*1) .top) fun a=>D8 (call 203 [a,Bm ⟨#[48,49,50,51,52,53,54,55,56,57]⟩]) fun a b=>Bi a fun a=>Ak b<|Ax (Array.toList (ByteArray.data a)==Array.toList (ByteArray.data (ByteArray.mk #[]))) (Bh [(2:Int)]) (Bh [(0:Int)]))):=by kernel_rfl
theorem QG{p:Option (Ae->Option Bq)}(fu d:Nat)(Z:ByteArray):Ac (CP p) prog fu (d+1) 181 [Z]=(fun (call:Ap)=>Ax (decide ((↑(ByteArray.size Z):Int)>100)) (Bh [(8:Int)]) (D8 (call 201 [Z,Bm ⟨#[46]⟩]) fun a b=>Lh 1 a fun a c=>Ak b<|Kc fu call Z fu a a (↑a:Int) 0 c)) (Ac (CP p) prog fu d):=by kernel_rfl
theorem BT{p:Option (Ae->Option Bq)}(fu d:Nat)(Z:Bool):Ac (CP p) prog fu (d+1) 182 [Z]=(fun (call:Ap)=>Ax Z (Bh [(443:Int)]) (Bh [(80:Int)])) (Ac (CP p) prog fu d):=by kernel_rfl
def Ht(Z:ByteArray)(Y:Nat)(X:ByteArray)(W V U:Int):Option Bq:=Kj fu call 183 Tryz.f183 [Z] [.r,.r,.r,.l,.r,.l] Y ⟨lk [(0,X),(4,W),(21,V),(22,U)],Ct []⟩
theorem N6(V:ByteArray)(U:Nat)(X:ByteArray)(Y W Z:Int):Ht fu call V (U+1) X Y W Z=(Ax (decide (Z<W)) (Ar (decide (0<=Z))<|Ea ((Array.toList (ByteArray.data X))[Z.toNat]?) fun a=>Ax (decide ((↑(UInt8.toNat a):Int)<48)) (Bh [(0:Int),false]) (Ax (decide ((↑(UInt8.toNat a):Int)>57)) (Bh [(0:Int),false]) (Aa (wrap .i64 (10*Y)) fun b=>Aa (wrap .u8 ((↑(UInt8.toNat a):Int)-48)) fun a=>Aa (wrap .i64 a) fun a=>Aa (wrap .i64 (b+a)) fun a=>Aa (wrap .i64 (Z+1)) fun b=>Ht fu call V U X a W b))) (Bh [Y,C5 (decide (Y<=65535))])):=by kernel_rfl
theorem GM{p:Option (Ae->Option Bq)}(fu d:Nat)(Z:ByteArray):Ac (CP p) prog fu (d+1) 183 [Z]=(fun (call:Ap)=>Ax (decide ((↑(ByteArray.size Z):Int)<1)) (Bh [(0:Int),false]) (Ax (decide ((↑(ByteArray.size Z):Int)>5)) (Bh [(0:Int),false]) (Ea ((Array.toList (ByteArray.data Z))[0]?) fun a=>Ax ((↑(UInt8.toNat a):Int)==48) (Bh [(0:Int),false]) (Ht fu call Z fu Z 0 ((↑(ByteArray.size Z):Int)) 0)))) (Ac (CP p) prog fu d):=by kernel_rfl
theorem UB{p:Option (Ae->Option Bq)}(fu d:Nat)(Z:ByteArray):Ac (CP p) prog fu (d+1) 157 [Z]=(fun (call:Ap)=>D8 (call 179 [Z,Bm ⟨#[104,116,116,112,115,58,47,47]⟩]) fun a b=>Bi a fun a=>G2 b fun b=>Ax (!b) (D8 (call 179 [Z,Bm ⟨#[104,116,116,112,58,47,47]⟩]) fun a c=>Bi a fun a=>G2 c fun c=>Ax (!c) (Bh [.agg [false,Bm ⟨#[]⟩,(0:Int)],(2:Int)]) (D8 (call 180 [a,Bm ⟨#[58]⟩]) fun a c=>Bi a fun a=>Ad c fun c e=>Bi c fun c=>G2 e fun e=>Gs .i64 (call 181 [a]) fun f=>Ax (f != 0) (Bh [.agg [false,Bm ⟨#[]⟩,(0:Int)],f]) (Gs .i64 (call 182 [b]) fun f=>Ax e (D8 (call 183 [c]) fun c e=>Bk .i64 c fun c=>G2 e fun e=>Ax (!e) (Bh [.agg [false,Bm ⟨#[]⟩,(0:Int)],(2:Int)]) (Ax (c==f) (Bh [.agg [false,Bm ⟨#[]⟩,(0:Int)],(2:Int)]) (Bh [.agg [b,a,c],(0:Int)]))) (Bh [.agg [b,a,f],(0:Int)])))) (D8 (call 180 [a,Bm ⟨#[58]⟩]) fun a c=>Bi a fun a=>Ad c fun c e=>Bi c fun c=>G2 e fun e=>Gs .i64 (call 181 [a]) fun f=>Ax (f != 0) (Bh [.agg [false,Bm ⟨#[]⟩,(0:Int)],f]) (Gs .i64 (call 182 [b]) fun f=>Ax e (D8 (call 183 [c]) fun c e=>Bk .i64 c fun c=>G2 e fun e=>Ax (!e) (Bh [.agg [false,Bm ⟨#[]⟩,(0:Int)],(2:Int)]) (Ax (c==f) (Bh [.agg [false,Bm ⟨#[]⟩,(0:Int)],(2:Int)]) (Bh [.agg [b,a,c],(0:Int)]))) (Bh [.agg [b,a,f],(0:Int)])))) (Ac (CP p) prog fu d):=by kernel_rfl
def Dd(Z:ByteArray)(Y:Nat)(X:ByteArray)(W:Nat)(V:Ae):Option Bq:=Kj fu call 156 Tryz.f156 [Z] [.r,.r,.r,.l,.l] Y ⟨lk [(0,X),(4,.view 4 1 0 W)],Ct [(4,.ar false V)]⟩
def Dc(Z:ByteArray)(Y X:Nat)(W:ByteArray)(V:Nat)(U T:Int)(S Q:Int)(P:Ae):Option Bq:=Kj fu call 156 Tryz.f156 [Z] [.r,.r,.r,.l,.l,.i Y,.r,.l,.r,.r,.l,.r,.l] X ⟨lk [(0,W),(4,.view 4 1 0 V),(5,U),(6,.sc (.int .u32 T)),(28,S),(29,Q)],Ct [(4,.ar false P)]⟩
def De(Z:ByteArray)(Y X:Nat)(W:ByteArray)(V:Nat)(U:Int)(T S:Nat)(Q P:Int)(O N:Ae):Option Bq:=Kj fu call 156 Tryz.f156 [Z] [.r,.r,.r,.l,.l,.i Y,.r,.l,.r,.r,.r,.r,.l,.r,.l] X ⟨lk [(0,W),(4,.view 4 1 0 V),(5,U),(9,.ptr 9 0),(58,.view 9 1 T S),(59,Q),(60,P)],Ct [(4,.ar false O),(9,.ar false N)]⟩
theorem J0(W:ByteArray)(V:Nat)(Z:ByteArray)(Y:Nat)(X:Ae):Dd fu call W (V+1) Z Y X=(Ax (decide ((↑(ByteArray.size Z):Int)>0)) (Aa (if (↑(ByteArray.size Z):Int)<4 then (↑(ByteArray.size Z):Int) else 4) fun a=>Dc fu call W V fu Z Y a 0 a 0 X) (Ar (decide (Y*1<=X.length))<|Bh [.own 1 Y (X.take (Y*1)),(0:Int)])):=by kernel_rfl
theorem J6(V:ByteArray)(U P:Nat)(X:ByteArray)(T:Nat)(W Y:Int)(S Z:Int)(Q:Ae):Dc fu call V U (P+1) X T W Y S Z Q=(Ax (decide (Z<S)) (Ar (decide (0<=Z))<|Ea ((Array.toList (ByteArray.data X))[Z.toNat]?) fun a=>Gs .i64 (call 175 [Bm ⟨#[65,66,67,68,69,70,71,72,73,74,75,76,77,78,79,80,81,82,83,84,85,86,87,88,89,90,97,98,99,100,101,102,103,104,105,106,107,108,109,110,111,112,113,114,115,116,117,118,119,120,121,122,48,49,50,51,52,53,54,55,56,57,45,95]⟩,.sc (.int .u8 (↑(UInt8.toNat a):Int))]) fun a=>Ax (decide (a<0)) (Bh [.own 1 0 [],(2:Int)]) (Aa (wrap .u32 a) fun a=>Aa (wrap .i64 (6*Z)) fun b=>Aa (wrap .i64 (18-b)) fun b=>Ar (decide (0<=b))<|Aa (D9 .u32 a b) fun a=>Aa (Xf .u32 Y a) fun a=>Aa (wrap .i64 (Z+1)) fun b=>Dc fu call V U P X T W a S b Q)) (Aa (F3 .u32 Y 16) fun a=>Aa (wrap .u8 a) fun a=>Aa (F3 .u32 Y 8) fun b=>Aa (wrap .u8 b) fun b=>Aa (wrap .u8 Y) fun c=>Aa (wrap .i64 (W-1)) fun e=>Ar (decide (0<=e))<|Ar (decide (e.toNat<=3)&&true)<|Aa (0+e.toNat*1) fun f=>Aa (3-e.toNat) fun e=>De fu call V U fu X T W f e (↑e:Int) 0 Q ([.sc (.int .u8 a),.sc (.int .u8 b),.sc (.int .u8 c)]))):=by kernel_rfl
theorem Jz(T:ByteArray)(S N:Nat)(Z:ByteArray)(Y:Nat)(W:Int)(Q P:Nat)(O V:Int)(U X:Ae):De fu call T S (N+1) Z Y W Q P O V U X=(Ax (decide (V<O)) (Ar (decide (0<=V)&&decide (V<(↑P:Int)))<|Bk .u8 (X.getD (Q+V.toNat*1) .top) fun a=>Ax (a != 0) (Bh [.own 1 0 [],(2:Int)]) (Aa (wrap .i64 (V+1)) fun a=>De fu call T S N Z Y W Q P O a U X)) (Aa (wrap .i64 (W-1)) fun a=>Ar (decide (3<=X.length)&&true)<|Ar (decide (0<=a))<|Ar (decide (a.toNat<=3))<|Aa (a.toNat-0) fun a=>Ar (decide (0+a*1<=X.length))<|Ar (decide (Y*1<=U.length)&&decide (List.length (List.take (a*1) (X.drop 0))=a*1)&&decide ((Y+a)*1<=1099511627776)&&decide (Y+a<=1099511627776))<|Aa (Y+a) fun b=>Aa (List.take (Y*1) U++List.take (a*1) (X.drop 0)) fun a=>Ar (decide (0<=W))<|Ar (decide (W.toNat<=ByteArray.size Z)&&decide (ByteArray.size Z<=ByteArray.size Z))<|Aa (ByteArray.extract Z W.toNat (ByteArray.size Z)) fun c=>Dd fu call T S c b a)):=by kernel_rfl
theorem Wz{p:Option (Ae->Option Bq)}(fu d:Nat)(Z:ByteArray):Ac (CP p) prog fu (d+1) 156 [Z]=(fun (call:Ap)=>Aa (Int.tmod (↑(ByteArray.size Z):Int) 4) fun a=>Ax (a==1) (Bh [.own 1 0 [],(2:Int)]) (Aa (wrap .i64 (Int.tdiv (↑(ByteArray.size Z):Int) 4)) fun a=>Aa (wrap .i64 (a*3)) fun a=>Aa (wrap .i64 (a+2)) fun a=>Ar (decide (0<=a)&&decide (a*1<=1099511627776)&&decide (a<=1099511627776))<|Dd fu call Z fu Z 0 ([]))) (Ac (CP p) prog fu d):=by kernel_rfl
end
theorem Asi{a b:Int}(ha:0<=a/\a<=255)(hb:0<=b/\b<=255):(a.toNat.toUInt8==b.toNat.toUInt8)=decide (a=b):=by
 rw[Bool.eq_iff_iff,beq_iff_eq,decide_eq_true_iff];constructor
 ·intro h;have:=congrArg UInt8.toNat h;have e1:a.toNat.toUInt8.toNat=a.toNat % 256:=by rw[Nat.toUInt8,UInt8.toNat_ofNat']
  have e2:b.toNat.toUInt8.toNat=b.toNat % 256:=by rw[Nat.toUInt8,UInt8.toNat_ofNat']
  rw[e1,e2] at this;omega
 ·rintro rfl;rfl
theorem Pc{c:Int}(hc:0<=c/\c<=255):((c.toNat.toUInt8.toNat:Nat):Int)=c:=by rw[Nat.toUInt8,UInt8.toNat_ofNat'];omega
theorem Ae0{c x:Int}(r:Al)(e:x≠c):Bz c (x::r)=x::Bz c r:=by unfold Bz;rw[List.takeWhile_cons_of_pos (by simp[e])]
theorem Ab7{c:Int}(r:Al):Bz c (c::r)=[]:=by unfold Bz;rw[List.takeWhile_cons_of_neg (by simp)]
theorem Tm(c:Int)(l:Al):Bz c l=l.take (Bz c l).length:=by have h:Bz c l <+: l:=List.takeWhile_prefix _;exact List.prefix_iff_eq_take.1 h
theorem RL(c:Int)(l:Al):(Bz c l).length<=l.length:=by have h:Bz c l <+: l:=List.takeWhile_prefix _;exact h.length_le
theorem Al5(c:Int)(l:Al)(h:¬(Bz c l).length<l.length):Bz c l=l:=by have:=RL c l;rw[Tm c l,Iu (by omega)]
def NE(c:Int)(l:Al):Int:=if (Bz c l).length<l.length then ((Bz c l).length:Int) else -1
theorem Am4{c:Int}(hc:0<=c/\c<=255):∀{l:Al},Db l->Lib.indexByte (l.map fun n=>n.toNat.toUInt8) c.toNat.toUInt8=NE c l
 |[],_=>rfl
 |x::r,h=>by
  obtain⟨hx,hr⟩:=D6 h;have ih:=Am4 hc hr;show (if (x.toNat.toUInt8==c.toNat.toUInt8)=true then (0:Int) else if (Lib.indexByte (r.map fun n=>n.toNat.toUInt8) c.toNat.toUInt8 == -1)=true then -1 else Lib.indexByte (r.map fun n=>n.toNat.toUInt8) c.toNat.toUInt8+1)=_;rw[Asi hx hc,ih];by_cases e:x=c
  ·subst e;unfold NE;rw[Ab7];simp
  ·unfold NE;rw[Ae0 r e];simp only[FJ,e,if_false,Tt];by_cases g:(Bz c r).length<r.length
   ·simp only[Ch g,Ch (show (Bz c r).length+1<r.length+1 by omega)];rw[Br (show ¬(((((Bz c r).length:Int)) == -1)=true) by rw[beq_iff_eq];omega)]
    omega
   ·simp only[Br g,Br (show ¬(Bz c r).length+1<r.length+1 by omega)];rfl
theorem Aai{c:Int}(hc:0<=c/\c<=255):∀{l:Al},Db l->(l.map fun n=>n.toNat.toUInt8).count c.toNat.toUInt8+1=(Bg c l).length
 |[],_=>rfl
 |x::r,h=>by
  obtain⟨hx,hr⟩:=D6 h;have ih:=Aai hc hr;rw[Xv,List.count_cons,Asi hx hc];unfold Bg;by_cases e:x=c
  ·rw[Ch e,Ch (by simp[e]),Tt,<-ih]
  ·rw[Br e,Br (by simp[e])];cases hs:Bg c r with
   |nil=>exact absurd hs (R9 c r)
   |cons a t=>
    rw[hs] at ih
    simpa using ih
theorem CZ(c:Int):∀(l:Al),(Bg c l).length<=l.length+1
 |[]=>Cd _
 |x::r=>by
  have ih:=CZ c r;unfold Bg;split
  ·simp;omega
  ·cases hs:Bg c r with
   |nil=>simp
   |cons a t=>rw[hs] at ih;simp at ih ⊢;omega
theorem Aa7(c:Int)(l:Al):1<=(Bg c l).length:=by
 have:=R9 c l;cases hs:Bg c l with
 |nil=>exact absurd hs this
 |cons a t=>simp
theorem Amg{a:Ae}{n:Nat}{x y:PV}{r:Ae}(h:a.length=n):(a++x::r).set n y=a++y::r:=by
 subst h
 induction a with
 |nil=>rfl
 |cons z a ih=>simp[ih]
theorem dle(n:Nat):decide (n<=n)=true:=by simp
section
variable {fu d:Nat}{p:Option (Ae->Option Bq)}
theorem Alp{c:Int}(hc:0<=c/\c<=255){l:Al}(hl:Db l):Ac (CP p) prog fu (d+2) 212 [Bm (Ab l),Bm (Ab [c])]=some ⟨[As (NE c l)],[]⟩:=by
 have e:Ac (CP p) prog fu (d+1) 190 [Bm (Ab l),.sc (.int .u8 c)]=some ⟨[As (Lib.indexByte (Ab l).data.toList c.toNat.toUInt8)],[]⟩:=rfl;have e0:(Ab l).data.toList=l.map fun n=>n.toNat.toUInt8:=rfl;rw[e0,Am4 hc hl] at e;have h0:((((Ab [c]).size:Nat):Int)==0)=false:=by rw[Ai];rfl
 have h1:((((Ab [c]).size:Nat):Int)==1)=true:=by rw[Ai];rfl
 have h2:(Array.toList (Ab [c]).data)[0]?=some c.toNat.toUInt8:=rfl;have h3:=Pc hc;rw[EU];by_cases g:[c]=l
 ·subst g;have h4:(Array.toList (Ab [c]).data==Array.toList (Ab [c]).data)=true:=by simp
  have h5:NE c [c]=0:=by unfold NE;rw[Ab7];rfl
  simp only[Be,Bd,h0,h4,h5]
 ·have h4:(Array.toList (Ab [c]).data==Array.toList (Ab l).data)=false:=by
   rw[Bool.eq_false_iff,ne_eq,beq_iff_eq];intro q;apply g
   have q2:Ab [c]=Ab l:=by
    cases hx:Ab [c];cases hy:Ab l;rw[hx,hy] at q;exact congrArg ByteArray.mk (Array.toList_inj.1 q)
   have q3:=congrArg Dk q2
   rwa [Dj hl,Dj (fun x hx=>by simp at hx;omega)] at q3
  simp only[Be,Bd,h0,h4,h1,h2,h3,e]
theorem Arq{c:Int}(hc:0<=c/\c<=255){l:Al}(hl:Db l):Ac (CP p) prog fu (d+3) 230 [Bm (Ab l),Bm (Ab [c])]=some ⟨[As (NE c l)],[]⟩:=by have e:Ac (CP p) prog fu (d+2) 212 [Bm (Ab l),Bm (Ab [c])]=_:=Alp (fu:=fu) (d:=d) (p:=p) hc hl;rw[QI];simp only[Be,Bd,e]
theorem Wt{l:Al}(hl:Db l)(n:Nat):(Ab l).extract 0 n=Ab (l.take n):=by rw[JQ,Dj hl]
theorem Xx{l:Al}(hl:Db l)(n:Nat):(Ab l).extract n l.length=Ab (l.drop n):=by
 have:=OM (s:=Ab l) (a:=n)
 rwa [Ai,Dj hl] at this
theorem A85{c:Int}(hc:0<=c/\c<=255){l:Al}(hl:Db l)(hs:l.length<=1000000):Ac (CP p) prog fu (d+4) 180 [Bm (Ab l),Bm (Ab [c])]=some ⟨[Bm (Ab (Bz c l)),Bm (Ab (l.drop ((Bz c l).length+1))),C5 (decide ((Bz c l).length<l.length))],[]⟩:=by
 have e:Ac (CP p) prog fu (d+2) 212 [Bm (Ab l),Bm (Ab [c])]=_:=Alp (fu:=fu) (d:=d) (p:=p) hc hl
 have e2:Ac (CP p) prog fu (d+3) 200 [Bm (Ab l),Bm (Ab [c])]=some ⟨[Bm (Ab (Bz c l)),Bm (Ab (l.drop ((Bz c l).length+1))),C5 (decide ((Bz c l).length<l.length))],[]⟩:=by
  refine (KO (p:=p) fu (d+2) _ _).trans ?_;by_cases g:(Bz c l).length<l.length
  ·have hi:NE c l=(Bz c l).length:=by unfold NE;rw[Ch g]
   rw[hi] at e;have a1:decide (((Bz c l).length:Int)>=0)=true:=by simp
   have a2:decide ((0:Int)<=((Bz c l).length:Int))=true:=by simp
   have a3:decide (Int.toNat ((Bz c l).length:Int)<=l.length)=true:=by simp;omega
   have a4:(Ab l).extract 0 (Int.toNat ((Bz c l).length:Int))=Ab (Bz c l):=by
    rw[Iq,Wt hl,<-Tm]
   have a5:wrap .i64 (((Bz c l).length:Int)+(([c].length:Nat):Int))=(((Bz c l).length+1:Nat):Int):=by
    rw[wrap_i64 (by simp;omega) (by simp;omega)];simp
   have a6:decide ((0:Int)<=(((Bz c l).length+1:Nat):Int))=true:=by simp;omega
   have a7:decide (Int.toNat (((Bz c l).length+1:Nat):Int)<=l.length)=true:=by simp;omega
   have a8:(Ab l).extract (Int.toNat (((Bz c l).length+1:Nat):Int)) l.length=Ab (l.drop ((Bz c l).length+1)):=by
    rw[Iq,Xx hl]
   have a9:decide ((Bz c l).length<l.length)=true:=by simpa using g
   simp only[Be,Bd,e,Ai,dle,a1,a2,a3,a4,a5,a6,a7,a8,a9]
  ·have hi:NE c l = -1:=by unfold NE;rw[Br g]
   rw[hi] at e;have a1:decide ((-1:Int)>=0)=false:=rfl;have a9:decide ((Bz c l).length<l.length)=false:=by simpa using g
   have a10:l.drop ((Bz c l).length+1)=[]:=List.drop_eq_nil_of_le (by omega);have a11:(ByteArray.mk #[])=Ab []:=rfl;rw[a9,a10,Al5 c l g];simp only[Be,Bd,e,a1,a11]
 rw[XQ];simp only[Be,Bd,e2]
theorem A2f{l w:Al}(hl:Db l)(hw:Db w):Ac (CP p) prog fu (d+4) 179 [Bm (Ab l),Bm (Ab w)]=some ⟨[Bm (Ab (if w.isPrefixOf l=true then l.drop w.length else l)),C5 (w.isPrefixOf l)],[]⟩:=by
 have e:Ac (CP p) prog fu (d+2) 207 [Bm (Ab l),Bm (Ab w)]=some ⟨[C5 (w.isPrefixOf l)],[]⟩:=A2n (xs:=Adb p) (fu:=fu) (d:=d+1) hl hw
 have e2:Ac (CP p) prog fu (d+3) 199 [Bm (Ab l),Bm (Ab w)]=some ⟨[Bm (Ab (if w.isPrefixOf l=true then l.drop w.length else l)),C5 (w.isPrefixOf l)],[]⟩:=by
  refine (Ww (p:=p) fu (d+2) _ _).trans ?_;cases hp:w.isPrefixOf l
  ·rw[hp] at e;simp only[Be,Bd,e,Hb,Bool.false_eq_true,if_false]
  ·rw[hp] at e;have Ys:w.length<=l.length:=(List.isPrefixOf_iff_prefix.1 hp).length_le;have a1:decide (Int.toNat ((w.length:Nat):Int)<=l.length)=true:=by simp;omega
   have a2:(Ab l).extract (Int.toNat ((w.length:Nat):Int)) l.length=Ab (l.drop w.length):=by rw[Iq,Xx hl]
   simp only[Be,Bd,e,Ai,dle,a1,a2,F1,if_true]
 rw[ES];simp only[Be,Bd,e2]
def Y4(x:Al):PV:=Bm (Ab x)
theorem Aih{c:Int}(hc:0<=c/\c<=255){a0 a1:ByteArray}{a2 a3:Int}{N:Nat}(hN:N<=1000000):∀(nn:Nat)(r:Al)(done:List Al),r.length+1<=nn->r.length<=1000000->Db r->done.length+(Bg c r).length=N ->
  Gd fu (Ac (CP p) prog fu (d+3)) a0 a1 a2 a3 nn (Ab r) (Ab [c]) 0 ((N:Int)-1) N (done.length:Int) (done.map Y4++List.replicate (Bg c r).length (Bm ⟨#[]⟩))=some ⟨[.own 1 N ((done++Bg c r).map Y4)],[]⟩:=by
 intro nn
 induction nn with
 |zero=>intro r done h;omega
 |succ k ih=>
  intro r done hk hr6 hr hn;have e:Ac (CP p) prog fu (d+3) 230 [Bm (Ab r),Bm (Ab [c])]=_:=Arq (fu:=fu) (d:=d) (p:=p) hc hr;rw[Zs];have Fw:=OW c r;by_cases g:(Bz c r).length<r.length
  ·rw[Ch g] at Fw;have hi:NE c r=(Bz c r).length:=by unfold NE;rw[Ch g]
   rw[hi] at e;have hp:=Aa7 c (r.drop ((Bz c r).length+1));have Wc:(Bg c r).length=(Bg c (r.drop ((Bz c r).length+1))).length+1:=by rw[Fw];simp
   have a0:decide ((done.length:Int)<(N:Int)-1)=true:=by simp;omega
   have a1:decide (((Bz c r).length:Int)<0)=false:=by simp
   have a2:wrap .i64 (((Bz c r).length:Int)+0)=((Bz c r).length:Int):=Bl
   have a3:decide ((0:Int)<=((Bz c r).length:Int))=true:=by simp
   have a4:decide (Int.toNat ((Bz c r).length:Int)<=r.length)=true:=by simp;omega
   have a5:(Ab r).extract 0 (Int.toNat ((Bz c r).length:Int))=Ab (Bz c r):=by rw[Iq,Wt hr,<-Tm]
   have a6:(decide ((0:Int)<=(done.length:Int))&&decide ((done.length:Int)<(N:Int)))=true:=by simp;omega
   have a7:decide (0+Int.toNat (done.length:Int)*1+1<=List.length (done.map Y4++List.replicate (Bg c r).length (PV.sc (.string ⟨#[]⟩))))=true:=by simp;omega
   have a8:B3 (done.map Y4++List.replicate (Bg c r).length (PV.sc (.string ⟨#[]⟩))) [PV.sc (.string (Ab (Bz c r)))] (0+Int.toNat (done.length:Int)*1)=(done++[Bz c r]).map Y4++List.replicate (Bg c (r.drop ((Bz c r).length+1))).length (PV.sc (.string ⟨#[]⟩)):=by
    rw[Iv (by simp;omega),Wc,List.replicate_succ,Iq,Ir,Jc,Amg (by simp)]
    simp[Y4]
   have a9:wrap .i64 (((Bz c r).length:Int)+(([c].length:Nat):Int))=(((Bz c r).length+1:Nat):Int):=by
    rw[wrap_i64 (by simp;omega) (by simp;omega)];simp
   have b1:decide ((0:Int)<=(((Bz c r).length+1:Nat):Int))=true:=by simp;omega
   have b2:decide (Int.toNat (((Bz c r).length+1:Nat):Int)<=r.length)=true:=by simp;omega
   have b3:(Ab r).extract (Int.toNat (((Bz c r).length+1:Nat):Int)) r.length=Ab (r.drop ((Bz c r).length+1)):=by rw[Iq,Xx hr]
   have b4:wrap .i64 ((done.length:Int)+1)=(((done++[Bz c r]).length:Nat):Int):=by
    rw[Bj];simp
   have hd:=ih (r.drop ((Bz c r).length+1)) (done++[Bz c r]) (by simp;omega) (by simp;omega) ((fun x hx=>hr x (List.mem_of_mem_drop hx))) (by simp;omega)
   simp only[Be,Bd,e,Ai,dle,a0,a1,a2,a3,a4,a5,a6,a7,a8,a9,b1,b2,b3,b4];rw[hd,Fw];simp
  ·rw[Br g] at Fw;have Wc:(Bg c r).length=1:=by rw[Fw];rfl
   have a0:decide ((done.length:Int)<(N:Int)-1)=false:=by simp;omega
   have a6:(decide ((0:Int)<=(done.length:Int))&&decide ((done.length:Int)<(N:Int)))=true:=by simp;omega
   have a7:decide (0+Int.toNat (done.length:Int)*1+1<=List.length (done.map Y4++List.replicate (Bg c r).length (PV.sc (.string ⟨#[]⟩))))=true:=by simp;omega
   have a8:B3 (done.map Y4++List.replicate (Bg c r).length (PV.sc (.string ⟨#[]⟩))) [PV.sc (.string (Ab r))] (0+Int.toNat (done.length:Int)*1)=(done++[r]).map Y4:=by
    rw[Iv (by simp;omega),Wc,show List.replicate 1 (PV.sc (Value.string ⟨#[]⟩))=[PV.sc (.string ⟨#[]⟩)] from rfl,Iq,Ir,Jc,Amg (by simp)]
    simp[Y4]
   have b4:wrap .i64 ((done.length:Int)+1)=(N:Int):=by
    rw[Bj];omega
   have b5:decide ((0:Int)<=(N:Int))=true:=by simp
   have b6:decide (Int.toNat (N:Int)<=N)=true:=by simp
   have b7:Int.toNat (N:Int)-0=N:=by simp
   have b8:decide (N*1<=List.length ((done++[r]).map Y4))=true:=by simp;omega
   have b9:List.take (N*1) ((done++[r]).map Y4)=(done++[r]).map Y4:=Iu (by simp;omega)
   simp only[Be,Bd,a0,a6,a7,a8,b4,b5,b6,b7,b8,b9];rw[Fw]
theorem Azk{c:Int}(hc:0<=c/\c<=255){l:Al}(hl:Db l)(hs:l.length<=999999)(Bv:l.length+1<=fu):Ac (CP p) prog fu (d+5) 201 [Bm (Ab l),Bm (Ab [c])]=some ⟨[.own 1 (Bg c l).length ((Bg c l).map Y4)],[]⟩:=by
 have e:Ac (CP p) prog fu (d+4) 213 [Bm (Ab l),Bm (Ab [c]),As 0,As (-1)]=some ⟨[.own 1 (Bg c l).length ((Bg c l).map Y4)],[]⟩:=by
  refine (GQ (p:=p) fu (d+3) _ _ _ _).trans ?_;have hn:=CZ c l;have hp:=Aa7 c l;have hcn:=Aai hc hl
  have e1:Ac (CP p) prog fu (d+3) 229 [Bm (Ab l),Bm (Ab [c])]=some ⟨[As (((Bg c l).length:Int)-1)],[]⟩:=by
   have:Ac (CP p) prog fu (d+3) 229 [Bm (Ab l),Bm (Ab [c])]=some ⟨[As (Lib.countByte (Ab l).data.toList c.toNat.toUInt8)],[]⟩:=rfl;rw[this]
   have e0:(Lib.countByte (Ab l).data.toList c.toNat.toUInt8:Int)=((Bg c l).length:Int)-1:=by
    have:Lib.countByte (Ab l).data.toList c.toNat.toUInt8+1=(Bg c l).length:=hcn;omega
   rw[e0]
  have a1:(((-1:Int))==0)=false:=rfl;have a2:(Array.toList (Ab [c]).data==Array.toList (ByteArray.mk #[]).data)=false:=rfl;have a3:decide ((-1:Int)<0)=true:=rfl;have a4:wrap .i64 (((Bg c l).length:Int)-1+1)=(Bg c l).length:=Bl
  have a5:wrap .i64 ((l.length:Int)+1)=l.length+1:=by rw[Bj]
  have a6:(if ((l.length:Int)+1)<((Bg c l).length:Int) then ((l.length:Int)+1) else ((Bg c l).length:Int))=(Bg c l).length:=by rw[Br (by omega)]
  have a7:decide ((0:Int)<=((Bg c l).length:Int))=true:=by simp
  have b7:decide (((Bg c l).length:Int)<=((Bg c l).length:Int))=true:=by simp
  have c7:decide (((Bg c l).length:Int)*16<=1099511627776)=true:=by simp;omega
  have d7:decide (((Bg c l).length:Int)<=1099511627776)=true:=by simp;omega
  have a8:wrap .i64 (((Bg c l).length:Int)-1)=((Bg c l).length:Int)-1:=Bj
  have a9:T9 (Bg c l).length [PV.sc (.string ⟨#[]⟩)]=List.replicate (Bg c l).length (PV.sc (.string ⟨#[]⟩)):=by
   unfold T9
   induction (Bg c l).length with
   |zero=>rfl
   |succ k ih=>rw[List.replicate_succ,List.flatten_cons,ih];rfl
  have a10:Int.toNat ((Bg c l).length:Int)=(Bg c l).length:=Iq _;have hd:=Aih (fu:=fu) (d:=d) (p:=p) hc (a0:=Ab l) (a1:=Ab [c]) (a2:=0) (a3:= -1) (N:=(Bg c l).length) (by omega) fu l [] Bv (by omega) hl (by simp);simp only[Be,Bd,e1,Ai,dle,a1,a2,a3,a4,a5,a6,a7,b7,c7,d7,a8,a9,a10];exact hd
 have b1:decide ((Bg c l).length*1<=List.length ((Bg c l).map Y4))=true:=by simp
 have b2:List.take ((Bg c l).length*1) ((Bg c l).map Y4)=(Bg c l).map Y4:=Iu (by simp);rw[QJ];simp only[Be,Bd,e,b1,b2]
end
theorem Abs:∀n:Fin 256,Lib.indexByte Acu.data.toList (n.val:Int).toNat.toUInt8=if Cm (n.val:Int)<64 then Cm (n.val:Int) else -1:=by decide +kernel
theorem Awn{c:Int}(hc:0<=c/\c<=255):Lib.indexByte Acu.data.toList c.toNat.toUInt8=if Cm c<64 then Cm c else -1:=by obtain⟨n,rfl⟩:=Int.eq_ofNat_of_zero_le hc.1;exact Abs ⟨n,by omega⟩
theorem Bav{y v:Int}(k:Nat)(hk:k<=18)(h0:0<=y)(hm:y % ((2 ^ (k+6):Nat):Int)=0)(hy:y<16777216)(hv0:0<=v)(hv:v<64):Xf .u32 y (D9 .u32 (wrap .u32 v) (k:Int))=y+v*((2 ^ k:Nat):Int):=by
 obtain⟨y,rfl⟩:=Int.eq_ofNat_of_zero_le h0;obtain⟨v,rfl⟩:=Int.eq_ofNat_of_zero_le hv0
 have e1:wrap .u32 (v:Int)=v:=by
  simp only[wrap,IntKind.bits,IntKind.signed,VO,Bool.false_eq_true,if_false];omega
 have Bob:2 ^ k<=2 ^ 18:=Nat.pow_le_pow_right (by omega) hk
 have hvk:v*2 ^ k<2 ^ k*64:=by
  rw[Nat.mul_comm];exact Nat.mul_lt_mul_of_pos_left (by omega) (Nat.pos_of_ne_zero (by simp))
 have e2:D9 .u32 (v:Int) (k:Int)=((v*2 ^ k:Nat):Int):=by
  show wrap .u32 ((v:Int)*2 ^ (min (k:Int).toNat IntKind.u32.bits))=_
  have:min (k:Int).toNat IntKind.u32.bits=k:=by
   rw[Iq];exact Nat.min_eq_left (by show k<=32;omega)
  rw[this];have:(v:Int)*2 ^ k=((v*2 ^ k:Nat):Int):=by simp
  rw[this];simp only[wrap,IntKind.bits,IntKind.signed,VO,Bool.false_eq_true,if_false];omega
 rw[e1,e2];have e3:=Bgt y (v*2 ^ k) (by omega) (by omega);refine e3.trans ?_
 have hd:y=y / 2 ^ (k+6)*2 ^ (k+6):=by
  have:y % 2 ^ (k+6)=0:=by exact_mod_cast hm
  have:=Nat.div_add_mod y (2 ^ (k+6));rw[Nat.mul_comm] at this;omega
 have Ci:v*2 ^ k<2 ^ (k+6):=by rw[Nat.pow_add];exact hvk
 have:=Nat.shiftLeft_add_eq_or_of_lt Ci (y / 2 ^ (k+6));rw[Nat.shiftLeft_eq,<-hd] at this;rw[<-this];simp
section
variable {fu d:Nat}{p:Option (Ae->Option Bq)}
theorem A5k{c:Int}(hc:0<=c/\c<=255):Ac (CP p) prog fu (d+2) 175 [Bm Acu,.sc (.int .u8 c)]=some ⟨[As (if Cm c<64 then Cm c else -1)],[]⟩:=by have e:Ac (CP p) prog fu (d+1) 190 [Bm Acu,.sc (.int .u8 c)]=some ⟨[As (Lib.indexByte Acu.data.toList c.toNat.toUInt8)],[]⟩:=rfl;rw[Awn hc] at e;refine (Q6 (p:=p) fu (d+1) _ _).trans ?_;simp only[Be,Bd,e]
theorem R5{a0:ByteArray}{m0 nn:Nat}{l:Al}{y1:Nat}{y6:Ae}{i n:Nat}{y3 c:Int}(Xd:i<n)(hn:n<=4)(hl:Db l)(hc:l[i]?=some c)(h0:0<=y3)(hm:y3 % ((2 ^ (24-6*i):Nat):Int)=0)(hy:y3<16777216):
  Dc fu (Ac (CP p) prog fu (d+2)) a0 m0 (nn+1) (Ab l) y1 (n:Int) y3 (n:Int) (i:Int) y6=if Cm c<64 then Dc fu (Ac (CP p) prog fu (d+2)) a0 m0 nn (Ab l) y1 (n:Int) (y3+Cm c*((2 ^ (18-6*i):Nat):Int)) (n:Int) ((i+1:Nat):Int) y6 else some ⟨[.own 1 0 [],As 2],[]⟩:=by
 have QV:=hl c (List.mem_of_getElem? hc);have hv:=Vu c;have e:=A5k (fu:=fu) (d:=d) (p:=p) QV;have a1:decide ((i:Int)<(n:Int))=true:=by simp;omega
 have a2:decide ((0:Int)<=(i:Int))=true:=by simp
 have a3:(Array.toList (Ab l).data)[Int.toNat (i:Int)]?=some c.toNat.toUInt8:=by
  rw[Iq];show (l.map fun n=>n.toNat.toUInt8)[i]?=_;rw[List.getElem?_map,hc];rfl
 have a4:=Pc QV;have ea:(ByteArray.mk #[65,66,67,68,69,70,71,72,73,74,75,76,77,78,79,80,81,82,83,84,85,86,87,88,89,90,97,98,99,100,101,102,103,104,105,106,107,108,109,110,111,112,113,114,115,116,117,118,119,120,121,122,48,49,50,51,52,53,54,55,56,57,45,95])=Acu:=rfl;rw[J6,ea];by_cases hv6:Cm c<64
 ·rw[Ch hv6] at e;have b1:decide (Cm c<0)=false:=by simp;omega
  have b2:wrap .i64 (6*(i:Int))=6*(i:Int):=Bj;have b3:wrap .i64 (18-6*(i:Int))=((18-6*i:Nat):Int):=Bl
  have b4:decide ((0:Int)<=((18-6*i:Nat):Int))=true:=by simp
  have b5:=Bav (y:=y3) (v:=Cm c) (18-6*i) (by omega) h0 (by rw[show 18-6*i+6=24-6*i by omega];exact hm) hy hv.1 hv6
  have b6:wrap .i64 ((i:Int)+1)=((i+1:Nat):Int):=Bl
  rw[Ch hv6];simp only[Be,Bd,a1,a2,a3,a4,e,b1,b2,b3,b4,b5,b6]
 ·rw[Br hv6] at e;have b1:decide ((-1:Int)<0)=true:=rfl;rw[Br hv6];simp only[Be,Bd,a1,a2,a3,a4,e,b1]
theorem Bbb{y:Int}(h0:0<=y)(hy:y<16777216):wrap .u8 (F3 .u32 y 16)=y / 65536 % 256:=by
 show wrap .u8 (y.fdiv (2 ^ (min (16:Int).toNat IntKind.u32.bits)))=_;have:(2:Int) ^ (min (16:Int).toNat IntKind.u32.bits)=65536:=by decide
 rw[this,Int.fdiv_eq_ediv_of_nonneg _ (by omega)];simp only[wrap,IntKind.bits,IntKind.signed,VO,Bool.false_eq_true,if_false];omega
theorem Bf1{y:Int}(h0:0<=y)(hy:y<16777216):wrap .u8 (F3 .u32 y 8)=y / 256 % 256:=by
 show wrap .u8 (y.fdiv (2 ^ (min (8:Int).toNat IntKind.u32.bits)))=_;have:(2:Int) ^ (min (8:Int).toNat IntKind.u32.bits)=256:=by decide
 rw[this,Int.fdiv_eq_ediv_of_nonneg _ (by omega)];simp only[wrap,IntKind.bits,IntKind.signed,VO,Bool.false_eq_true,if_false];omega
theorem Bhd{y:Int}(h0:0<=y)(hy:y<16777216):wrap .u8 y=y % 256:=by simp only[wrap,IntKind.bits,IntKind.signed,VO,Bool.false_eq_true,if_false];omega
theorem Aji{a0:ByteArray}{m0 nn:Nat}{s:ByteArray}{y1:Nat}{y6:Ae}{n:Nat}{y3:Int}(hn:2<=n)(hn4:n<=4)(h0:0<=y3)(hy:y3<16777216):
  Dc fu (Ac (CP p) prog fu (d+2)) a0 m0 (nn+1) s y1 (n:Int) y3 (n:Int) (n:Int) y6=De fu (Ac (CP p) prog fu (d+2)) a0 m0 fu s y1 (n:Int) (n-1) (4-n) ((4-n:Nat):Int) 0 y6 [.sc (.int .u8 (y3 / 65536 % 256)),.sc (.int .u8 (y3 / 256 % 256)),.sc (.int .u8 (y3 % 256))]:=by
 have a1:decide ((n:Int)<(n:Int))=false:=by simp
 have e1:=Bbb h0 hy;have e2:=Bf1 h0 hy;have e3:=Bhd h0 hy;have b1:wrap .i64 ((n:Int)-1)=((n-1:Nat):Int):=Bl
 have b2:decide ((0:Int)<=((n-1:Nat):Int))=true:=by simp
 have b3:decide (Int.toNat ((n-1:Nat):Int)<=3)=true:=by simp;omega
 have b4:0+Int.toNat ((n-1:Nat):Int)*1=n-1:=by rw[Iq];omega
 have b5:3-Int.toNat ((n-1:Nat):Int)=4-n:=by rw[Iq];omega
 rw[J6];simp only[Be,Bd,a1,e1,e2,e3,b1,b2,b3,b4,b5]
end
section
variable {fu d:Nat}{p:Option (Ae->Option Bq)}
abbrev grp(A B C:Int):Ae:=[.sc (.int .u8 A),.sc (.int .u8 B),.sc (.int .u8 C)]
abbrev Biq:Option Bq:=some ⟨[.own 1 0 [],As 2],[]⟩
theorem A5d{call:Ap}{a0 s:ByteArray}{m0 nn y1:Nat}{n i j:Nat}{y7:Ae}{A B C X:Int}(hij:i<j)(hj:j<=4)(h:List.getD (grp A B C) (n+i) .top=.sc (.int .u8 X)){q:Int}:
  De fu call a0 m0 (nn+1) s y1 q n j (j:Int) (i:Int) y7 (grp A B C)=if X=0 then De fu call a0 m0 nn s y1 q n j (j:Int) ((i+1:Nat):Int) y7 (grp A B C) else Biq:=by
 have a1:decide ((i:Int)<(j:Int))=true:=by simp;omega
 have a2:(decide ((0:Int)<=(i:Int))&&decide ((i:Int)<(j:Int)))=true:=by simp;omega
 have a2':decide ((0:Int)<=(i:Int))=true:=by simp
 have a3:List.getD (grp A B C) (n+Int.toNat (i:Int)*1) PV.top=.sc (.int .u8 X):=by rw[Iq,Jc];exact h
 have a4:wrap .i64 ((i:Int)+1)=((i+1:Nat):Int):=Bl
 rw[Jz];by_cases hx:X=0
 ·subst hx;have a5:((0:Int) != 0)=false:=rfl;rw[Ch rfl];simp only[Be,Bd,a1,a2,a2',a3,a4,a5]
 ·have a5:(X != 0)=true:=by simp[hx]
  rw[Br hx];simp only[Be,Bd,a1,a2,a2',a3,a5]
theorem Ajh{call:Ap}{a0:ByteArray}{m0 nn:Nat}{n j:Nat}{l acc:Al}{A B C:Int}(hn:2<=n)(hn4:n<=4)(hl:Db l)(hnl:n<=l.length)(VH:acc.length<=1000000){st:Nat}:
  De fu call a0 m0 (nn+1) (Ab l) acc.length (n:Int) st j (j:Int) (j:Int) (Af .u8 acc) (grp A B C)=Dd fu call a0 m0 (Ab (l.drop n)) (acc++[A,B,C].take (n-1)).length (Af .u8 (acc++[A,B,C].take (n-1))):=by
 have a1:decide ((j:Int)<(j:Int))=false:=by simp
 have a2:wrap .i64 ((n:Int)-1)=((n-1:Nat):Int):=Bl
 have a3:(decide (3<=List.length (grp A B C))&&true)=true:=rfl;have a4:decide ((0:Int)<=((n-1:Nat):Int))=true:=by simp
 have a5:decide (Int.toNat ((n-1:Nat):Int)<=3)=true:=by simp;omega
 have a6:Int.toNat ((n-1:Nat):Int)-0=n-1:=by rw[Iq];omega
 have a7:decide (0+(n-1)*1<=List.length (grp A B C))=true:=by simp;omega
 have a8:decide (acc.length*1<=List.length (Af .u8 acc))=true:=by rw[An];simp
 have a9:decide (List.length (List.take ((n-1)*1) (List.drop 0 (grp A B C)))=(n-1)*1)=true:=by simp;omega
 have b1:decide ((acc.length+(n-1))*1<=1099511627776)=true:=by simp;omega
 have b2:decide (acc.length+(n-1)<=1099511627776)=true:=by simp;omega
 have b3:List.take (acc.length*1) (Af .u8 acc)++List.take ((n-1)*1) (List.drop 0 (grp A B C))=Af .u8 (acc++[A,B,C].take (n-1)):=by
  have e0:Af .u8 (acc++[A,B,C].take (n-1))=Af .u8 acc++Af .u8 ([A,B,C].take (n-1)):=List.flatMap_append;rw[Iu (by rw[An];omega),e0,Ls,Jc]
  congr 1
  match n,hn,hn4 with
  |2,_,_=>rfl
  |3,_,_=>rfl
  |4,_,_=>rfl
 have b4:decide ((0:Int)<=(n:Int))=true:=by simp
 have b5:decide (Int.toNat (n:Int)<=l.length)=true:=by simp;omega
 have b6:(Ab l).extract (Int.toNat (n:Int)) l.length=Ab (l.drop n):=by rw[Iq,Xx hl]
 have b7:acc.length+(n-1)=(acc++[A,B,C].take (n-1)).length:=by simp;omega
 rw[Jz];simp only[Be,Bd,Ai,dle,a1,a2,a3,a4,a5,a6,a7,a8,a9,b1,b2,b3,b4,b5,b6];rw[b7]
theorem Avi{a0:ByteArray}(Bv:10<=fu):∀(m:Nat)(l acc:Al)(nn:Nat),l.length<=4*m->m+1<=nn->Db l->l.length % 4≠1->acc.length+l.length<=1000000 ->
  Dd fu (Ac (CP p) prog fu (d+2)) a0 nn (Ab l) acc.length (Af .u8 acc)=some (match To l with|none=>⟨[.own 1 0 [],As 2],[]⟩|some b=>⟨[.own 1 (acc++b).length (Af .u8 (acc++b)),As 0],[]⟩):=by
 obtain⟨fu,rfl⟩:∃k,fu=k+10:=⟨fu-10,by omega⟩
 have zero:∀(acc:Al) (nn:Nat),acc.length<=1000000->Dd (fu+10) (Ac (CP p) prog (fu+10) (d+2)) a0 (nn+1) (Ab []) acc.length (Af .u8 acc)=some ⟨[.own 1 acc.length (Af .u8 acc),As 0],[]⟩:=by
  intro acc nn h;have a1:decide ((((Ab []).size:Nat):Int)>0)=false:=rfl;have a2:decide (acc.length*1<=List.length (Af .u8 acc))=true:=by rw[An];simp
  have a3:List.take (acc.length*1) (Af .u8 acc)=Af .u8 acc:=Iu (by rw[An];omega)
  rw[J0];simp only[Be,Bd,a1,a2,a3]
 intro m
 induction m with
 |zero=>
  intro l acc nn hl Hs hB h1 VH;have:l=[]:=List.eq_nil_of_length_eq_zero (by omega);subst this;obtain⟨k,rfl⟩:∃k,nn=k+1:=⟨nn-1,by omega⟩
  rw[zero acc k (by omega)];simp[To]
 |succ m ih=>
  intro l acc nn hl Hs hB h1 VH;obtain⟨k,rfl⟩:∃k,nn=k+1:=⟨nn-1,by omega⟩
  have head:∀(n:Nat),l.length>0->n=min l.length 4->Dd (fu+10) (Ac (CP p) prog (fu+10) (d+2)) a0 (k+1) (Ab l) acc.length (Af .u8 acc)=Dc (fu+10) (Ac (CP p) prog (fu+10) (d+2)) a0 k (fu+10) (Ab l) acc.length (n:Int) 0 (n:Int) 0 (Af .u8 acc):=by
   intro n hp hn;have a1:decide (((l.length:Nat):Int)>0)=true:=by simp;omega
   have a2:(if ((l.length:Nat):Int)<4 then ((l.length:Nat):Int) else 4)=(n:Int):=by split<;>omega
   rw[J0];simp only[Be,Bd,Ai,a1,a2]
  match l,hl,hB,h1,VH,head with
  |[],_,_,_,VH,_=>
   rw[zero acc k (by simpa using VH)];simp[To]
  |[x],_,_,h1,_,_=>exact absurd rfl h1
  |[a,b],_,hB,_,VH,head=>
   have va:=Vu a;have vb:=Vu b;rw[head 2 (by simp) rfl,show (0:Int)=((0:Nat):Int) from rfl];rw[R5 (c:=a) (by omega) (by omega) hB rfl (by simp) (by simp) (by simp)];unfold To;by_cases ha:Cm a<64
   ·rw[Ch ha,R5 (c:=b) (by omega) (by omega) hB rfl (by simp<;>omega) (by simp<;>omega) (by simp<;>omega)]
    by_cases hb:Cm b<64
    ·rw[Ch hb,Aji (by omega) (by omega) (by simp<;>omega) (by simp<;>omega)]
     rw[show (0:Int)=((0:Nat):Int) from rfl];rw[A5d (X:=(((0:Nat):Int)+Cm a*((2 ^ (18-6*0):Nat):Int)+Cm b*((2 ^ (18-6*1):Nat):Int)) / 256 % 256) (by omega) (by omega) rfl];by_cases hz:Cm b % 16=0
     ·rw[Ch (by simp<;>omega)]
      rw[A5d (X:=(((0:Nat):Int)+Cm a*((2 ^ (18-6*0):Nat):Int)+Cm b*((2 ^ (18-6*1):Nat):Int)) % 256) (by omega) (by omega) rfl];rw[Ch (by simp<;>omega),Ajh (by omega) (by omega) hB (by simp) (by omega)]
      rw[Ch ⟨ha,hb,hz⟩];have hr:=ih [] (acc++[Cm a*4+Cm b / 16]) k (by simp) (by omega) (fun x hx=>by cases hx) (by simp) (by simp at VH ⊢;omega)
      have e:(((0:Nat):Int)+Cm a*((2 ^ (18-6*0):Nat):Int)+Cm b*((2 ^ (18-6*1):Nat):Int)) / 65536 % 256=Cm a*4+Cm b / 16:=by simp;omega
      rw[e];refine hr.trans ?_;simp[To]
     ·rw[Br (by simp<;>omega),Br (fun h=>hz h.2.2)]
    ·rw[Br hb,Br (fun h=>hb h.2.1)]
   ·rw[Br ha,Br (fun h=>ha h.1)]
  |[a,b,c],_,hB,_,VH,head=>
   have va:=Vu a;have vb:=Vu b;have vc:=Vu c;rw[head 3 (by simp) rfl,show (0:Int)=((0:Nat):Int) from rfl];rw[R5 (c:=a) (by omega) (by omega) hB rfl (by simp) (by simp) (by simp)];unfold To;by_cases ha:Cm a<64
   ·rw[Ch ha,R5 (c:=b) (by omega) (by omega) hB rfl (by simp<;>omega) (by simp<;>omega) (by simp<;>omega)]
    by_cases hb:Cm b<64
    ·rw[Ch hb,R5 (c:=c) (by omega) (by omega) hB rfl (by simp<;>omega) (by simp<;>omega) (by simp<;>omega)]
     by_cases hc:Cm c<64
     ·rw[Ch hc,Aji (by omega) (by omega) (by simp<;>omega) (by simp<;>omega)]
      rw[show (0:Int)=((0:Nat):Int) from rfl];rw[A5d (X:=(((0:Nat):Int)+Cm a*((2 ^ (18-6*0):Nat):Int)+Cm b*((2 ^ (18-6*1):Nat):Int)+Cm c*((2 ^ (18-6*2):Nat):Int)) % 256) (by omega) (by omega) rfl];by_cases hz:Cm c % 4=0
      ·rw[Ch (by simp<;>omega),Ajh (by omega) (by omega) hB (by simp) (by omega)]
       rw[Ch ⟨ha,hb,hc,hz⟩];have hr:=ih [] (acc++[Cm a*4+Cm b / 16,Cm b % 16*16+Cm c / 4]) k (by simp) (by omega) (fun x hx=>by cases hx) (by simp) (by simp at VH ⊢;omega)
       have e:(((0:Nat):Int)+Cm a*((2 ^ (18-6*0):Nat):Int)+Cm b*((2 ^ (18-6*1):Nat):Int)+Cm c*((2 ^ (18-6*2):Nat):Int)) / 65536 % 256=Cm a*4+Cm b / 16:=by simp;omega
       have e2:(((0:Nat):Int)+Cm a*((2 ^ (18-6*0):Nat):Int)+Cm b*((2 ^ (18-6*1):Nat):Int)+Cm c*((2 ^ (18-6*2):Nat):Int)) / 256 % 256=Cm b % 16*16+Cm c / 4:=by simp;omega
       rw[e,e2];refine hr.trans ?_;simp[To]
      ·rw[Br (by simp<;>omega),Br (fun h=>hz h.2.2.2)]
     ·rw[Br hc,Br (fun h=>hc h.2.2.1)]
    ·rw[Br hb,Br (fun h=>hb h.2.1)]
   ·rw[Br ha,Br (fun h=>ha h.1)]
  |a::b::c::e::t,hl,hB,h1,VH,head=>
   have va:=Vu a;have vb:=Vu b;have vc:=Vu c;have ve:=Vu e;rw[head 4 (by simp) (by simp<;>omega),show (0:Int)=((0:Nat):Int) from rfl]
   rw[R5 (c:=a) (by omega) (by omega) hB rfl (by simp) (by simp) (by simp)];unfold To;by_cases ha:Cm a<64
   ·rw[Ch ha,R5 (c:=b) (by omega) (by omega) hB rfl (by simp<;>omega) (by simp<;>omega) (by simp<;>omega)]
    by_cases hb:Cm b<64
    ·rw[Ch hb,R5 (c:=c) (by omega) (by omega) hB rfl (by simp<;>omega) (by simp<;>omega) (by simp<;>omega)]
     by_cases hc:Cm c<64
     ·rw[Ch hc,R5 (c:=e) (by omega) (by omega) hB rfl (by simp<;>omega) (by simp<;>omega) (by simp<;>omega)]
      by_cases he:Cm e<64
      ·rw[Ch he,Aji (by omega) (by omega) (by simp<;>omega) (by simp<;>omega)]
       rw[show (0:Int)=((4-4:Nat):Int) from rfl,Ajh (by omega) (by omega) hB (by simp) (by omega)];rw[Ch ⟨ha,hb,hc,he⟩];have hr:=ih t (acc++[Cm a*4+Cm b / 16,Cm b % 16*16+Cm c / 4,Cm c % 4*64+Cm e]) k (by simp at hl;omega) (by omega) (fun x hx=>hB x (by simp[hx])) (by simp at h1;omega) (by simp at VH ⊢;omega)
       have e1:(((4-4:Nat):Int)+Cm a*((2 ^ (18-6*0):Nat):Int)+Cm b*((2 ^ (18-6*1):Nat):Int)+Cm c*((2 ^ (18-6*2):Nat):Int)+Cm e*((2 ^ (18-6*3):Nat):Int)) / 65536 % 256=Cm a*4+Cm b / 16:=by simp;omega
       have e2:(((4-4:Nat):Int)+Cm a*((2 ^ (18-6*0):Nat):Int)+Cm b*((2 ^ (18-6*1):Nat):Int)+Cm c*((2 ^ (18-6*2):Nat):Int)+Cm e*((2 ^ (18-6*3):Nat):Int)) / 256 % 256=Cm b % 16*16+Cm c / 4:=by simp;omega
       have e3:(((4-4:Nat):Int)+Cm a*((2 ^ (18-6*0):Nat):Int)+Cm b*((2 ^ (18-6*1):Nat):Int)+Cm c*((2 ^ (18-6*2):Nat):Int)+Cm e*((2 ^ (18-6*3):Nat):Int)) % 256=Cm c % 4*64+Cm e:=by simp;omega
       rw[e1,e2,e3];refine hr.trans ?_;cases To t<;>simp
      ·rw[Br he,Br (fun h=>he h.2.2.2)]
     ·rw[Br hc,Br (fun h=>hc h.2.2.1)]
    ·rw[Br hb,Br (fun h=>hb h.2.1)]
   ·rw[Br ha,Br (fun h=>ha h.1)]
theorem Asn:∀{l:Al},l.length % 4=1->To l=none
 |[],h=>by simp at h
 |[_],_=>rfl
 |[_,_],h=>by simp at h
 |[_,_,_],h=>by simp at h
 |p::q::r::s::t,h=>by
  have:=Asn (l:=t) (by simp at h;omega)
  unfold To;rw[this];simp
theorem A6z{l:Al}(hB:Db l)(hl:l.length<=1000000)(Bv:10<=fu)(MH:l.length<=fu):Ac (CP p) prog fu (d+3) 156 [Bm (Ab l)]=some (match To l with|none=>⟨[.own 1 0 [],As 2],[]⟩|some b=>⟨[.own 1 b.length (Af .u8 b),As 0],[]⟩):=by
 rw[Wz];have a0:Int.tmod ((l.length:Nat):Int) 4=((l.length % 4:Nat):Int):=by rw[Int.tmod_eq_emod_of_nonneg (by omega)];omega
 by_cases h1:l.length % 4=1
 ·have a1:(((l.length % 4:Nat):Int)==1)=true:=by rw[h1];rfl
  rw[Asn h1];simp only[Be,Bd,Ai,a0,a1]
 ·have a1:(((l.length % 4:Nat):Int)==1)=false:=by simp;omega
  have a2:Int.tdiv ((l.length:Nat):Int) 4=((l.length / 4:Nat):Int):=by rw[Int.tdiv_eq_ediv_of_nonneg (by omega)];omega
  have a3:wrap .i64 ((l.length / 4:Nat):Int)=((l.length / 4:Nat):Int):=Bj;have a4:wrap .i64 (((l.length / 4:Nat):Int)*3)=((l.length / 4:Nat):Int)*3:=Bj;have a5:wrap .i64 (((l.length / 4:Nat):Int)*3+2)=((l.length / 4:Nat):Int)*3+2:=Bj;have a6:decide ((0:Int)<=((l.length / 4:Nat):Int)*3+2)=true:=by simp;omega
  have a7:decide ((((l.length / 4:Nat):Int)*3+2)*1<=1099511627776)=true:=by simp;omega
  have a8:decide (((l.length / 4:Nat):Int)*3+2<=1099511627776)=true:=by simp;omega
  have hd:=Avi (d:=d) (p:=p) (a0:=Ab l) Bv (l.length / 4+1) l [] fu (by omega) (by omega) hB h1 (by simp<;>omega)
  simp only[Be,Bd,Ai,a0,a1,a2,a3,a4,a5,a6,a7,a8];refine hd.trans ?_;cases To l<;>simp
end
theorem dT{q:Prop}[Decidable q](h:q):decide q=true:=decide_eq_true h
theorem dF{q:Prop}[Decidable q](h:¬q):decide q=false:=decide_eq_false h
theorem bT{q:Prop}[Decidable q](h:q):(!decide q)=false:=by simp[h]
theorem bF{q:Prop}[Decidable q](h:¬q):(!decide q)=true:=by simp[h]
def okB(n i:Nat)(c:Int):Bool:=ltB c||(c==45&&decide (0<i)&&decide (i+1<n))
def NY(n:Nat):Nat->Al->Bool
 |_,[]=>true
 |i,c::r=>okB n i c&&NY n (i+1) r
theorem Aah(n i:Nat)(c:Int)(r:Al):NY n i (c::r)=(okB n i c&&NY n (i+1) r):=rfl
theorem Auk:ltB 45=false:=rfl
theorem Alt(n:Nat):∀(r:Al)(i:Nat),i+r.length=n->NY n i r=(r.all (fun x=>ltB x||x==45) && !(decide (i=0)&&r.head?==some 45) && !(r.getLast?==some 45))
 |[],i,_=>by simp[NY]
 |[c],i,h=>by
  simp only[Tt,YX] at h;unfold NY okB;by_cases hc:c=45
  ·subst hc;have:¬i+1<n:=by omega
   simp[NY,Auk,this]
  ·have hcb:(c==45)=false:=by simp[hc]
   simp[NY,hcb]
 |c::x::r,i,h=>by
  have ih:=Alt n (x::r) (i+1) (by simp at h ⊢;omega)
  have hl:(c::x::r).getLast?=(x::r).getLast?:=by simp
  unfold NY;rw[ih,hl];have h1:i+1<n:=by simp at h;omega
  unfold okB;by_cases hc:c=45
  ·subst hc;by_cases hi:i=0
   ·subst hi;simp[Auk]
   ·have:0<i:=by omega
    simp[Auk,h1,hi,this]
  ·have hcb:(c==45)=false:=by simp[hc]
   simp[hcb,Bool.and_assoc]
theorem A0q{l:Al}(h1:1<=l.length)(h2:l.length<=63):L4 l=NY l.length 0 l:=by rw[Alt _ l 0 (by simp)];unfold L4;rw[dT h1,dT h2];cases l.all (fun x=>ltB x||x==45)<;>cases (l.head?==some 45)<;>cases (l.getLast?==some 45)<;>rfl
section
variable {fu d:Nat}{p:Option (Ae->Option Bq)}
theorem Ag3{call:Ap}{a0:ByteArray}{l:Al}(hB:Db l)(hs:l.length<=63):∀(r:Al)(i nn:Nat),l.drop i=r->r.length+1<=nn ->
  Bs fu call a0 nn (Ab l) (l.length:Int) (i:Int)=some ⟨[C5 (NY l.length i r)],[]⟩
 |[],i,nn,hd,hn=>by
  obtain⟨k,rfl⟩:∃k,nn=k+1:=⟨nn-1,by omega⟩
  have hi:=drop_nil hd;have a1:decide ((i:Int)<(l.length:Int))=false:=by simp;omega
  rw[Qq];simp only[Be,Bd,a1];rfl
 |c::r,i,nn,hd,hn=>by
  obtain⟨k,rfl⟩:∃k,nn=k+1:=⟨nn-1,by omega⟩
  obtain⟨hi,hc,Uc⟩:=Dx hd;have ih:=Ag3 (call:=call) (a0:=a0) hB hs r (i+1) k Uc (by simp at hn;omega)
  have QV:=hB c (List.mem_of_getElem? hc);have a1:decide ((i:Int)<(l.length:Int))=true:=by simp;omega
  have a2:decide ((0:Int)<=(i:Int))=true:=by simp
  have a3:(Array.toList (Ab l).data)[Int.toNat (i:Int)]?=some c.toNat.toUInt8:=by
   rw[Iq];show (l.map fun n=>n.toNat.toUInt8)[i]?=_;rw[List.getElem?_map,hc];rfl
  have a4:=Pc QV;have a5:wrap .i64 ((i:Int)+1)=((i+1:Nat):Int):=Bl
  have a6:wrap .i64 ((l.length:Int)-1)=(l.length:Int)-1:=Bj
  have good:okB l.length i c=true->(Bs fu call a0 k (Ab l) (l.length:Int) ((i+1:Nat):Int)=some ⟨[C5 (NY l.length i (c::r))],[]⟩):=by
   intro h;rw[ih,Aah,h,Zzm]
  have bad:okB l.length i c=false->some (Bq.mk [PV.sc (.bool false)] [])=some ⟨[C5 (NY l.length i (c::r))],[]⟩:=by
   intro h;rw[Aah,h,VO]
  rw[Qq];by_cases hA:97<=c/\c<=122
  ·have q1:=dT hA.1;have q2:=dT hA.2;have q3:(c==45)=false:=by simp;omega
   have q4:=dT (q:=(48:Int)<=c) (by omega);have q5:=bF (q:=c<=57) (by omega);simp only[Be,Bd,a1,a2,a3,a4,a5,a6,Ai,q1,q2,q3,q4,q5];exact good (by unfold okB ltB;simp[hA])
  by_cases hD:48<=c/\c<=57
  ·have q1:=dF (q:=(97:Int)<=c) (by omega);have q2:=dT (q:=c<=122) (by omega);have q3:(c==45)=false:=by simp;omega
   have q4:=dT hD.1;have q5:=bT hD.2;simp only[Be,Bd,a1,a2,a3,a4,a5,a6,Ai,q1,q2,q3,q4,q5];exact good (by unfold okB ltB DZ;simp[hD])
  have Ci:ltB c=false:=by
   unfold ltB DZ;simp;exact⟨fun h=>by omega,fun h=>by omega⟩
  by_cases hM:c=45
  ·subst hM;have q1:decide ((97:Int)<=45)=false:=rfl;have q2:decide ((45:Int)<=122)=true:=rfl;have q3:((45:Int)==45)=true:=rfl;have q4:decide ((48:Int)<=45)=false:=rfl;have q5:(!decide ((45:Int)<=57))=false:=rfl;by_cases h0:0<i
   ·have q6:=dT (q:=(i:Int)>0) (by omega);by_cases h1:i+1<l.length
    ·have q7:=bT (q:=(i:Int)<(l.length:Int)-1) (by omega);simp only[Be,Bd,a1,a2,a3,a4,a5,a6,Ai,q1,q2,q3,q4,q5,q6,q7];exact good (by unfold okB;simp[h0,h1])
    ·have q7:=bF (q:=(i:Int)<(l.length:Int)-1) (by omega);simp only[Be,Bd,a1,a2,a3,a4,a5,a6,Ai,q1,q2,q3,q4,q5,q6,q7];exact bad (by unfold okB;simp[h1,Ci])
   ·have q6:=dF (q:=(i:Int)>0) (by omega);simp only[Be,Bd,a1,a2,a3,a4,a5,a6,Ai,q1,q2,q3,q4,q5,q6];exact bad (by unfold okB;simp[h0,Ci])
  have q3:(c==45)=false:=by simp[hM]
  have Aqx:okB l.length i c=false:=by unfold okB;simp[Ci,hM]
  by_cases h97:97<=c
  ·have q1:=dT h97;have q2:=dF (q:=c<=122) (by omega);have q4:=dT (q:=(48:Int)<=c) (by omega);have q5:=bF (q:=c<=57) (by omega);simp only[Be,Bd,a1,a2,a3,a4,a5,a6,Ai,q1,q2,q3,q4,q5];exact bad Aqx
  ·have q1:=dF h97;have q2:=dT (q:=c<=122) (by omega);by_cases h48:48<=c
   ·have q4:=dT h48;have q5:=bF (q:=c<=57) (by omega);simp only[Be,Bd,a1,a2,a3,a4,a5,a6,Ai,q1,q2,q3,q4,q5];exact bad Aqx
   ·have q4:=dF h48;have q5:=bT (q:=c<=57) (by omega);simp only[Be,Bd,a1,a2,a3,a4,a5,a6,Ai,q1,q2,q3,q4,q5];exact bad Aqx
theorem Azx{l:Al}(hB:Db l)(Bv:100<=fu):Ac (CP p) prog fu (d+1) 202 [Bm (Ab l)]=some ⟨[C5 (L4 l)],[]⟩:=by
 rw[LE];by_cases h1:1<=l.length
 ·by_cases h2:l.length<=63
  ·have a1:decide (((l.length:Nat):Int)<1)=false:=by simp;omega
   have a2:decide (((l.length:Nat):Int)>63)=false:=by simp;omega
   rw[A0q h1 h2];simp only[Be,Bd,Ai,a1,a2];exact Ag3 hB h2 l 0 fu rfl (by omega)
  ·have a1:decide (((l.length:Nat):Int)<1)=false:=by simp;omega
   have a2:decide (((l.length:Nat):Int)>63)=true:=by simp;omega
   have e:L4 l=false:=by unfold L4;simp[h2]
   rw[e];simp only[Be,Bd,Ai,a1,a2]
 ·have a1:decide (((l.length:Nat):Int)<1)=true:=by simp;omega
  have e:L4 l=false:=by unfold L4;simp[h1]
  rw[e];simp only[Be,Bd,Ai,a1]
theorem Ar0(l cs:List UInt8):(Lib.trimS l cs==[])=l.all (cs.contains ·):=by
 have key:∀(q:UInt8->Bool) (m:List UInt8),m.dropWhile q=[]↔m.all q=true:=by
  intro q m
  induction m with
  |nil=>simp
  |cons x m ih=>
   by_cases hx:q x=true
   ·rw[List.dropWhile_cons_of_pos hx,ih];simp[hx]
   ·rw[List.dropWhile_cons_of_neg hx];simp[hx]
 unfold Lib.trimS Lib.trimLeftS Lib.trimRightS;rw[Bool.eq_iff_iff,beq_iff_eq,key,List.all_reverse,<-key,key,List.all_eq_true]
 have h2:∀(q:UInt8->Bool) (m:List UInt8),(m.dropWhile q).all q=true↔m.all q=true:=by
  intro q m
  induction m with
  |nil=>simp
  |cons x m ih=>
   by_cases hx:q x=true
   ·rw[List.dropWhile_cons_of_pos hx,ih];simp[hx]
   ·rw[List.dropWhile_cons_of_neg hx]
 rw[<-List.all_eq_true,h2,List.all_reverse]
def AH:ByteArray:=⟨#[48,49,50,51,52,53,54,55,56,57]⟩
theorem A4r:∀n:Fin 256,AH.data.toList.contains (n.val:Int).toNat.toUInt8=DZ (n.val:Int):=by decide +kernel
theorem A4l{l:Al}(h:Db l):((l.map fun n=>n.toNat.toUInt8).all (AH.data.toList.contains ·))=l.all DZ:=by
 induction l with
 |nil=>rfl
 |cons c r ih=>
  obtain⟨hc,hr⟩:=D6 h;obtain⟨n,rfl⟩:=Int.eq_ofNat_of_zero_le hc.1;rw[Xv,List.all_cons,List.all_cons,ih hr]
  congr 1
  exact A4r ⟨n,by omega⟩
theorem A5j{l:Al}(hB:Db l)(hs:l.length<=1000000):∃x,Ac (CP p) prog fu (d+1) 203 [Bm (Ab l),Bm AH]=some ⟨[Bm x],[]⟩/\(Array.toList x.data==Array.toList (ByteArray.mk #[]).data)=l.all DZ:=by
 refine⟨⟨(Lib.trimS (Ab l).data.toList AH.data.toList).toArray⟩,?_,?_⟩
 ·have e:Ac (CP p) prog fu (d+1) 203 [Bm (Ab l),Bm AH]=Ag5 [Bm (Ab l),Bm AH]:=rfl;rw[e];unfold Ag5
  have:(Nat.ble AH.size 1000&&AH.data.toList.all (fun b=>decide (b.toNat<128))&&decide ((Ab l).size<=1000000000))=true:=by
   rw[Ai];have h1:(Nat.ble AH.size 1000&&AH.data.toList.all (fun b=>decide (b.toNat<128)))=true:=by decide +kernel
   rw[h1,dT (q:=l.length<=1000000000) (by omega)];rfl
  simp only[this,cond_true]
 ·show (Lib.trimS (Ab l).data.toList AH.data.toList==[])=_;rw[Ar0];exact A4l hB
theorem BN(c:Int):∀{l:Al},Db l->∀x∈Bg c l,Db x/\x.length<=l.length
 |[],_,x,hx=>by simp[Bg] at hx;subst hx;exact⟨(fun y hy=>nomatch hy),Cd _⟩
 |a::r,h,x,hx=>by
  obtain⟨ha,hr⟩:=D6 h;have ih:=BN c hr;unfold Bg at hx;split at hx
  ·rcases Ce.1 hx with rfl|hx
   ·exact⟨(fun y hy=>nomatch hy),Nat.zero_le _⟩
   ·exact⟨(ih x hx).1,Nat.le_succ_of_le (ih x hx).2⟩
  ·cases hs:Bg c r with
   |nil=>exact absurd hs (R9 c r)
   |cons b t=>
    rw[hs] at hx ih;rcases Ce.1 hx with rfl|hx
    ·obtain⟨q1,q2⟩:=ih b (by simp);refine⟨fun y hy=>?_,by simp;omega⟩
     rcases Ce.1 hy with rfl|hy
     ·exact ha
     ·exact q1 y hy
    ·exact⟨(ih x (by simp[hx])).1,Nat.le_succ_of_le (ih x (by simp[hx])).2⟩
theorem Aho{a0:ByteArray}(Bv:200<=fu){ls:List Al}(hB:∀x∈ls,Db x/\x.length<=1000)(h0:ls≠[])(hN:ls.length<=1000):∀(r:List Al) (i nn:Nat),ls.drop i=r->r.length+1<=nn ->
  Kc fu (Ac (CP p) prog fu (d+1)) a0 nn ls.length ls.length (ls.length:Int) (i:Int) (ls.map Y4)=some ⟨[As (if r.all L4=false then 2 else if (ls.getLastD []).all DZ=true then 2 else 0)],[]⟩
 |[],i,nn,hd,hn=>by
  obtain⟨k,rfl⟩:∃k,nn=k+1:=⟨nn-1,by omega⟩
  have hi:=drop_nil hd;have Agp:0<ls.length:=List.length_pos_iff.2 h0;have a1:decide ((i:Int)<(ls.length:Int))=false:=by simp;omega
  have a2:wrap .i64 ((ls.length:Int)-1)=((ls.length-1:Nat):Int):=Bl
  have a3:decide ((0:Int)<=((ls.length-1:Nat):Int))=true:=by simp
  have a4:decide (((ls.length-1:Nat):Int)<(ls.length:Int))=true:=by simp;omega
  have VS:ls.getLastD []=ls[ls.length-1]'(by omega):=by
   rw[List.getLastD_eq_getLast?,List.getLast?_eq_getElem?,List.getElem?_eq_getElem (by omega)];rfl
  have a5:List.getD (ls.map Y4) (0+Int.toNat ((ls.length-1:Nat):Int)*1) PV.top=Bm (Ab (ls.getLastD [])):=by
   rw[Iq,Ir,Jc,List.getD_eq_getElem?_getD,List.getElem?_map,List.getElem?_eq_getElem (by omega),VS];rfl
  have hm:=hB (ls.getLastD []) (by rw[VS];exact List.getElem_mem _)
  obtain⟨x,e,hx⟩:=A5j (fu:=fu) (d:=d) (p:=p) hm.1 (by omega);have e2:Ac (CP p) prog fu (d+1) 203 [Bm (Ab (ls.getLastD [])),Bm ⟨#[48,49,50,51,52,53,54,55,56,57]⟩]=some ⟨[Bm x],[]⟩:=e;rw[Sx];cases hq:(ls.getLastD []).all DZ
  ·rw[hq] at hx;simp only[Be,Bd,a1,a2,a3,a4,a5,e2,hx,List.all_nil,Bool.true_eq_false,if_false,Bool.false_eq_true]
  ·rw[hq] at hx;simp only[Be,Bd,a1,a2,a3,a4,a5,e2,hx,List.all_nil,Bool.true_eq_false,if_false,if_true]
 |x::r,i,nn,hd,hn=>by
  obtain⟨k,rfl⟩:∃k,nn=k+1:=⟨nn-1,by omega⟩
  obtain⟨hi,hc,Uc⟩:=Dx hd;have ih:=Aho (a0:=a0) Bv hB h0 hN r (i+1) k Uc (by simp at hn;omega)
  have hm:=hB x (List.mem_of_getElem? hc);have e:Ac (CP p) prog fu (d+1) 202 [Bm (Ab x)]=_:=Azx (fu:=fu) (d:=d) (p:=p) hm.1 (by omega);have a1:decide ((i:Int)<(ls.length:Int))=true:=by simp;omega
  have a2:decide ((0:Int)<=(i:Int))=true:=by simp
  have a5:List.getD (ls.map Y4) (0+Int.toNat (i:Int)*1) PV.top=Bm (Ab x):=by
   rw[Iq,Ir,Jc,List.getD_eq_getElem?_getD,List.getElem?_map,hc];rfl
  have a6:wrap .i64 ((i:Int)+1)=((i+1:Nat):Int):=Bl
  rw[Sx];cases hq:L4 x
  ·rw[hq] at e;have:((x::r).all L4=false):=by simp[hq]
   rw[Ch this];simp only[Be,Bd,a1,a2,a5,e,Hb]
  ·rw[hq] at e;have:(x::r).all L4=r.all L4:=by simp[hq]
   rw[this];simp only[Be,Bd,a1,a2,a5,e,F1,a6];exact ih
theorem A4x{l:Al}(hB:Db l)(hs:l.length<=1000000)(Bv:200<=fu):Ac (CP p) prog fu (d+6) 181 [Bm (Ab l)]=some ⟨[As (Vd l)],[]⟩:=by
 rw[QG];unfold Vd;by_cases h:100<l.length
 ·have a1:decide (((l.length:Nat):Int)>100)=true:=by simp;omega
  rw[Ch h];simp only[Be,Bd,Ai,a1]
 ·have a1:decide (((l.length:Nat):Int)>100)=false:=by simp;omega
  have e:Ac (CP p) prog fu (d+5) 201 [Bm (Ab l),Bm ⟨#[46]⟩]=_:=Azk (fu:=fu) (d:=d) (p:=p) (c:=46) (by omega) hB (by omega) (by omega);have hn:=CZ 46 l;have hd:=Aho (a0:=Ab l) (fu:=fu) (d:=d+4) (p:=p) (by omega) (ls:=Bg 46 l) (fun x hx=>⟨(BN 46 hB x hx).1,by have:=(BN 46 hB x hx).2;omega⟩) (R9 46 l) (by omega) (Bg 46 l) 0 fu rfl (by omega)
  rw[Br h];simp only[Be,Bd,Ai,a1,e];exact hd
theorem Ay5(s:Bool):Ac (CP p) prog fu (d+1) 182 [C5 s]=some ⟨[As (dfl s)],[]⟩:=by rw[BT];cases s<;>simp only[Be,Bd]<;>rfl
theorem JI(c:Int):DZ c=true↔48<=c/\c<=57:=by unfold DZ;simp
theorem ZI{call:Ap}{a0:ByteArray}{l:Al}(hB:Db l)(hs:l.length<=5):∀(r:Al)(i nn:Nat)(n:Int),l.drop i=r->r.length+1<=nn->0<=n->n<10 ^ i ->
  Ht fu call a0 nn (Ab l) n (l.length:Int) (i:Int)=some (if r.all DZ=true then ⟨[As (r.foldl (fun n x=>10*n+(x-48)) n),C5 (decide (r.foldl (fun n x=>10*n+(x-48)) n<=65535))],[]⟩ else ⟨[As 0,C5 false],[]⟩)
 |[],i,nn,n,hd,hn,h0,h1=>by
  obtain⟨k,rfl⟩:∃k,nn=k+1:=⟨nn-1,by omega⟩
  have hi:=drop_nil hd;have a1:decide ((i:Int)<(l.length:Int))=false:=by simp;omega
  rw[N6];simp only[Be,Bd,a1];rfl
 |c::r,i,nn,n,hd,hn,h0,h1=>by
  obtain⟨k,rfl⟩:∃k,nn=k+1:=⟨nn-1,by omega⟩
  obtain⟨hi,hc,Uc⟩:=Dx hd;have QV:=hB c (List.mem_of_getElem? hc)
  have hp:(10:Int) ^ i<=10 ^ 4:=by
   have h:=Nat.pow_le_pow_right (n:=10) (by omega) (show i<=4 by omega)
   exact_mod_cast h
  have hp2:(10:Int) ^ (i+1)=10 ^ i*10:=Int.pow_succ ..;have a1:decide ((i:Int)<(l.length:Int))=true:=by simp;omega
  have a2:decide ((0:Int)<=(i:Int))=true:=by simp
  have a3:(Array.toList (Ab l).data)[Int.toNat (i:Int)]?=some c.toNat.toUInt8:=by
   rw[Iq];show (l.map fun n=>n.toNat.toUInt8)[i]?=_;rw[List.getElem?_map,hc];rfl
  have a4:=Pc QV;rw[N6];by_cases hq:48<=c/\c<=57
  ·have q1:=dF (q:=c<48) (by omega);have q2:=dF (q:=c>57) (by omega);have a5:wrap .i64 (10*n)=10*n:=Bj;have a6:wrap .u8 (c-48)=c-48:=Pg (by omega) (by omega);have a7:wrap .i64 (c-48)=c-48:=Bj;have a8:wrap .i64 (10*n+(c-48))=10*n+(c-48):=Bj;have a9:wrap .i64 ((i:Int)+1)=((i+1:Nat):Int):=Bl
   have ih:=ZI (call:=call) (a0:=a0) hB hs r (i+1) k (10*n+(c-48)) Uc (by simp at hn;omega) (by omega) (by omega)
   have e:(c::r).all DZ=r.all DZ:=by rw[List.all_cons,(JI c).2 hq,Zzm]
   simp only[Be,Bd,a1,a2,a3,a4,q1,q2,a5,a6,a7,a8,a9];rw[ih,e];rfl
  ·have e:(c::r).all DZ=false:=by
    have:DZ c=false:=by
     cases hb:DZ c
     ·rfl
     ·exact absurd ((JI c).1 hb) hq
    rw[List.all_cons,this,VO]
   rw[e];by_cases h48:c<48
   ·have q1:=dT h48;simp only[Be,Bd,a1,a2,a3,a4,q1,Bool.false_eq_true,if_false]
   ·have q1:=dF h48;have q2:=dT (q:=c>57) (by omega);simp only[Be,Bd,a1,a2,a3,a4,q1,q2,Bool.false_eq_true,if_false]
theorem A6n{l:Al}(hB:Db l)(Bv:100<=fu):Ac (CP p) prog fu (d+1) 183 [Bm (Ab l)]=some (if Kq l=true then ⟨[As (GH l),C5 (decide (GH l<=65535))],[]⟩ else ⟨[As 0,C5 false],[]⟩):=by
 rw[GM];by_cases h1:1<=l.length
 ·by_cases h2:l.length<=5
  ·have a1:decide (((l.length:Nat):Int)<1)=false:=by simp;omega
   have a2:decide (((l.length:Nat):Int)>5)=false:=by simp;omega
   cases l with
   |nil=>simp at h1
   |cons c r=>
    have QV:=hB c (by simp);have a3:(Array.toList (Ab (c::r)).data)[0]?=some c.toNat.toUInt8:=rfl;have a4:=Pc QV;by_cases h0:c=48
    ·subst h0;have e:Kq (48::r)=false:=by unfold Kq;simp
     have q:((48:Int)==48)=true:=rfl;rw[e];simp only[Be,Bd,Ai,a1,a2,a3,a4,q,Bool.false_eq_true,if_false]
    ·have q:(c==48)=false:=by simp[h0]
     have e:Kq (c::r)=(c::r).all DZ:=by
      unfold Kq;rw[dT h1,dT h2];simp[h0]
     have hl:=ZI (call:=Ac (CP p) prog fu d) (fu:=fu) (a0:=Ab (c::r)) hB h2 (c::r) 0 fu 0 rfl (by omega) (by omega) (by decide);rw[e];simp only[Be,Bd,Ai,a1,a2,a3,a4,q];exact hl
  ·have a1:decide (((l.length:Nat):Int)<1)=false:=by simp;omega
   have a2:decide (((l.length:Nat):Int)>5)=true:=by simp;omega
   have e:Kq l=false:=by unfold Kq;simp[h2]
   rw[e];simp only[Be,Bd,Ai,a1,a2,Bool.false_eq_true,if_false]
 ·have a1:decide (((l.length:Nat):Int)<1)=true:=by simp;omega
  have e:Kq l=false:=by unfold Kq;simp[h1]
  rw[e];simp only[Be,Bd,Ai,a1,Bool.false_eq_true,if_false]
theorem Bai{l:Al}(hB:Db l)(hs:l.length<=1000000)(Bv:200<=fu):∃o1 o2 o3,Ac (CP p) prog fu (d+7) 157 [Bm (Ab l)]=some ⟨[.agg [C5 o1,Bm o2,As o3],As (Fn l)],[]⟩:=by
  have hsp:=A2f (fu:=fu) (d:=d+2) (p:=p) hB (w:=[104,116,116,112,115,58,47,47]) (fun x hx=>by simp at hx;omega)
  have Xq:=A2f (fu:=fu) (d:=d+2) (p:=p) hB (w:=[104,116,116,112,58,47,47]) (fun x hx=>by simp at hx;omega)
  have e1:Ac (CP p) prog fu (d+6) 179 [Bm (Ab l),Bm ⟨#[104,116,116,112,115,58,47,47]⟩]=_:=hsp
  have e2:Ac (CP p) prog fu (d+6) 179 [Bm (Ab l),Bm ⟨#[104,116,116,112,58,47,47]⟩]=_:=Xq
  have tail:∀(s:Bool) (r:Al),Db r->r.length<=1000000->∃o1 o2 o3,(Aw (Ac (CP p) prog fu (d+6) 180 [PV.sc (Value.string (Ab r)),PV.sc (Value.string ⟨#[58]⟩)]) fun x17 x18=>
    Ak (x18) <|
    Ad (x17) fun x19 x20=>
    Bi (x19) fun x21=>
    Ad (x20) fun x22 x23=>
    Bi (x22) fun x24=>
    Ad (x23) fun x25 x26=>
    Bn (x25) fun x27=>
    Ak (x26) <|
    Aw (Ac (CP p) prog fu (d+6) 181 [PV.sc (Value.string x21)]) fun x28 x29=>
    Ak (x29) <|
    Ad (x28) fun x30 x31=>
    Bk (IntKind.i64) (x30) fun x32=>
    Ak (x31) <|
    Ax (x32 != (0:Int))
     (
     some (Bq.mk [PV.agg [PV.sc (Value.bool false),PV.sc (Value.string ⟨#[]⟩),PV.sc (Value.int IntKind.i64 (0:Int))],PV.sc (Value.int IntKind.i64 x32)] []))
     (
     Aw (Ac (CP p) prog fu (d+6) 182 [PV.sc (Value.bool s)]) fun x33 x34=>
     Ak (x34) <|
     Ad (x33) fun x35 x36=>
     Bk (IntKind.i64) (x35) fun x37=>
     Ak (x36) <|
     Ax (x27)
      (
      Aw (Ac (CP p) prog fu (d+6) 183 [PV.sc (Value.string x24)]) fun x38 x39=>
      Ak (x39) <|
      Ad (x38) fun x40 x41=>
      Bk (IntKind.i64) (x40) fun x42=>
      Ad (x41) fun x43 x44=>
      Bn (x43) fun x45=>
      Ak (x44) <|
      Ax (!x45)
       (
       some (Bq.mk [PV.agg [PV.sc (Value.bool false),PV.sc (Value.string ⟨#[]⟩),PV.sc (Value.int IntKind.i64 (0:Int))],PV.sc (Value.int IntKind.i64 (2:Int))] []))
       (
       Ax (x42==x37)
        (
        some (Bq.mk [PV.agg [PV.sc (Value.bool false),PV.sc (Value.string ⟨#[]⟩),PV.sc (Value.int IntKind.i64 (0:Int))],PV.sc (Value.int IntKind.i64 (2:Int))] []))
        (
        some (Bq.mk [PV.agg [PV.sc (Value.bool s),PV.sc (Value.string x21),PV.sc (Value.int IntKind.i64 x42)],PV.sc (Value.int IntKind.i64 (0:Int))] []))))
      (
      some (Bq.mk [PV.agg [PV.sc (Value.bool s),PV.sc (Value.string x21),PV.sc (Value.int IntKind.i64 x37)],PV.sc (Value.int IntKind.i64 (0:Int))] []))))=some ⟨[.agg [C5 o1,Bm o2,As o3],As (CI s r)],[]⟩:=by
    intro s r hr hrl
    have c1:Ac (CP p) prog fu (d+6) 180 [Bm (Ab r),Bm ⟨#[58]⟩]=_:=A85 (fu:=fu) (d:=d+2) (p:=p) (c:=58) (by omega) hr hrl
    have Nx:=RL 58 r
    have hbB:Db (Bz 58 r):=by rw[Tm];exact fun x hx=>hr x (List.mem_of_mem_take hx)
    have hdB:Db (r.drop ((Bz 58 r).length+1)):=fun x hx=>hr x (List.mem_of_mem_drop hx)
    have c2:Ac (CP p) prog fu (d+6) 181 [Bm (Ab (Bz 58 r))]=_:=A4x (fu:=fu) (d:=d) (p:=p) hbB (by omega) Bv
    have c3:Ac (CP p) prog fu (d+6) 182 [C5 s]=_:=Ay5 (fu:=fu) (d:=d+5) (p:=p) s
    have c4:Ac (CP p) prog fu (d+6) 183 [Bm (Ab (r.drop ((Bz 58 r).length+1)))]=_:=A6n (fu:=fu) (d:=d+5) (p:=p) hdB (by omega)
    unfold CI
    by_cases hh:Vd (Bz 58 r)=0
    · have b1:(Vd (Bz 58 r) != 0)=false:=by simp[hh]
      simp only[ne_eq,hh,not_true_eq_false,if_false]
      by_cases hw:(Bz 58 r).length<r.length
      · rw[dT hw] at c1
        rw[Br (show ¬(Bz 58 r).length=r.length by omega)]
        by_cases hp:Kq (r.drop ((Bz 58 r).length+1))=true
        · rw[Ch hp] at c4
          by_cases hv:GH (r.drop ((Bz 58 r).length+1))<=65535
          · rw[dT hv] at c4
            by_cases hdp:GH (r.drop ((Bz 58 r).length+1))=dfl s
            · have b2:(GH (r.drop ((Bz 58 r).length+1))==dfl s)=true:=by simp[hdp]
              rw[Br (by rintro⟨_,_,h⟩;exact h hdp)]
              exact⟨_,_,_,by simp only[Be,Bd,c1,c2,hh,c3,c4,b2,F1,show ((0:Int) != 0)=false from rfl];rfl⟩
            · have b2:(GH (r.drop ((Bz 58 r).length+1))==dfl s)=false:=by simp[hdp]
              rw[Ch ⟨hp,hv,hdp⟩]
              exact⟨_,_,_,by simp only[Be,Bd,c1,c2,hh,c3,c4,b2,F1,show ((0:Int) != 0)=false from rfl];rfl⟩
          · rw[dF hv] at c4
            rw[Br (by rintro⟨_,h,_⟩;exact hv h)]
            exact⟨_,_,_,by simp only[Be,Bd,c1,c2,hh,c3,c4,Hb,show ((0:Int) != 0)=false from rfl];rfl⟩
        · rw[Br hp] at c4
          rw[Br (by rintro⟨h,_,_⟩;exact hp h)]
          exact⟨_,_,_,by simp only[Be,Bd,c1,c2,hh,c3,c4,Hb,show ((0:Int) != 0)=false from rfl];rfl⟩
      · rw[dF hw] at c1
        rw[Ch (show (Bz 58 r).length=r.length by omega)]
        exact⟨_,_,_,by simp only[Be,Bd,c1,c2,hh,c3,show ((0:Int) != 0)=false from rfl];rfl⟩
    · have b1:(Vd (Bz 58 r) != 0)=true:=by simp[hh]
      simp only[ne_eq,hh,not_false_eq_true,if_true]
      exact⟨_,_,_,by simp only[Be,Bd,c1,c2,b1];rfl⟩
  have er:=UB (p:=p) fu (d+6) (Ab l)
  unfold Fn
  cases h1:List.isPrefixOf [104,116,116,112,115,58,47,47] l
  · rw[h1] at e1
    simp only[Bool.false_eq_true,if_false] at e1 ⊢
    cases h2:List.isPrefixOf [104,116,116,112,58,47,47] l
    · rw[h2] at e2
      simp only[Bool.false_eq_true,if_false] at e2 ⊢
      exact⟨_,_,_,er.trans (by simp only[Be,Bd,e1,e2,Hb];rfl)⟩
    · rw[h2] at e2
      simp only[if_true] at e2 ⊢
      obtain⟨o1,o2,o3,ht⟩:=tail false (l.drop 7) (fun x hx=>hB x (List.mem_of_mem_drop hx)) (by simp;omega)
      refine⟨o1,o2,o3,er.trans ?_⟩
      simp only[DN,MM,DO,KT,Abd,Acd,Ac5,e1,e2,Hb,F1]
      exact ht
  · rw[h1] at e1
    simp only[if_true] at e1 ⊢
    obtain⟨o1,o2,o3,ht⟩:=tail true (l.drop 8) (fun x hx=>hB x (List.mem_of_mem_drop hx)) (by simp;omega)
    refine⟨o1,o2,o3,er.trans ?_⟩
    simp only[DN,MM,DO,KT,Abd,Acd,Ac5,e1,Hb,F1]
    exact ht
end
section
open Go Go.RowKit Go.Lib
def RtP(w':World)(l:Al)(e:Ending):Prop:=
 match Age 8 l with
 |.ok ms=>∃mb,e=.returned (.tuple #[.map (some mb),.int .i64 0])/\WJ w' mb ms
 |.error er=>er≠0/\∃m,e=.returned (.tuple #[m,.int .i64 er])
theorem NS(l:Al):Age 8 l=match A4 [123] (Bx l) with
  |some r=>(match KG (Hn 8) true r with
   |.error e=>.error e
   |.ok (ms,r')=>if Bx r'=[] then .ok ms else .error 2)
  |none=>.error 2:=by
 unfold Age;rw[F8];cases Bx l with
 |nil=>rfl
 |cons y s=>
  by_cases hy:y=123
  ·subst hy;rfl
  ·simp only[Br hy];split
   ·rename_i e;injection e with e1 _;exact absurd e1 hy
   ·rfl
theorem E7.toBelow{w w':World}{b mb B:Nat}(k:E7 w w' b mb)(hb:B<=b)(hmb:B<=mb)(hB:B<=w.heap.size):Below B w w':=
 ⟨k.os,k.tape,k.output,k.size,fun i hi=>k.other i (by omega) (by omega) (by omega)⟩
theorem UR{w:World}(hU:gU.ok w)(hUl:∀k,gU.bl k->k<w.heap.size){w':World}(hb:Below w.heap.size w w'){b:Nat}(hbb:w.heap.size<=b):Rg w' b:=
 ⟨gU.stable w w' (fun j _ hl=>hb.block j hl) hU,fun k hk=>⟨F4 (hUl k hk) hb.size,by have:=hUl k hk;omega⟩⟩
set_option maxHeartbeats 4000000 in
theorem A0o{t:ByteArray}(ht:t.size<=1000000){w:World}(hU:gU.ok w)(hUl:∀k,gU.bl k->k<w.heap.size):
  Calls prog 125 #[.string t] w fun e w'=>Below w.heap.size w w'/\RtP w' (Dk t) e:=by
 have mixed:prog.follows Departure.mixedOrders=true:=by kernel_rfl
 have hmm:=@run_makeMap prog;have Gj:Below w.heap.size w (w.alloc (.cells #[.string t,.int .i64 0] 218)):=(Below.refl _ w).alloc (Cd _) _;have Kw:Below w.heap.size w ((w.alloc (.cells #[.string t,.int .i64 0] 218)).alloc (.map #[] 0)):=Gj.alloc Gj.size _;have QS:(w.alloc (.cells #[.string t,.int .i64 0] 218)).heap.size=w.heap.size+1:=Array.size_push _
 have h2:JJ ((w.alloc (.cells #[.string t,.int .i64 0] 218)).alloc (.map #[] 0)) w.heap.size 0 t (Dk t):=by
  have hg:((w.alloc (.cells #[.string t,.int .i64 0] 218)).alloc (.map #[] 0)).heap[w.heap.size]?=some (.cells #[.string t,.int .i64 0] 218):=by
   show ((w.heap.push _).push _)[w.heap.size]?=_;rw[Array.getElem?_push_lt (by simp)];simp
  have hp:Ck t (Dk t)=0:=by unfold Ck;rw[Cr];omega
  refine⟨?_,?_,?_,?_,?_⟩
  ·show w.heap.size<((w.heap.push _).push _).size;rw[Array.size_push,Array.size_push];omega
  ·unfold World.cell?;simp only[hg];rfl
  ·unfold World.cell?;simp only[hg,hp];rfl
  ·unfold World.frozen?;simp only[hg];rfl
  ·unfold World.frozen?;simp only[hg];rfl
 have hM2:WJ ((w.alloc (.cells #[.string t,.int .i64 0] 218)).alloc (.map #[] 0)) (w.heap.size+1) []:=by
  show ((w.heap.push _).push (Obj.map #[] 0))[w.heap.size+1]?=some (.map #[] 0);have:w.heap.size+1=(w.heap.push (Obj.cells #[.string t,.int .i64 0] 218)).size:=by simp
  rw[this];exact Array.getElem?_push_size
 have hU2:=UR hU hUl Kw (Cd _);have hmU:¬gU.bl (w.heap.size+1):=fun h=>by have:=hUl _ h;omega
 have hS:=El.all t;have hsk:=Lu hS ht hU2 h2
 go_enter Tryz.func125,Tryz.ntmps125
 go_wp2_with (go_at_call 154;refine hsk.mono ?_)
 rintro e W3 ⟨rfl,h3,k3⟩
 have hS3:=Cl hS;have hM3:=hM2.keep k3 (by omega);have hU3:=hU2.keep k3;have hro:=Axf hS3 ht hU3 h3 hM3 (by omega) hmU;have Pf:Below w.heap.size w W3:=Kw.trans ((E7.of (mb:=w.heap.size+1) k3).toBelow (Cd _) (by omega) Kw.size)
 go_wp2_with (go_at_call 155;refine hro.mono ?_)
 rintro e W4 ⟨k4,r4,RO,h4,hr4⟩
 have Uv:Below w.heap.size w W4:=Pf.trans (k4.toBelow (Cd _) (by omega) Pf.size);have hU4:Rg W4 w.heap.size:=UR hU hUl Uv (Cd _)
 have hRt:∀W e,(match A4 [123] (Bx (Dk t)) with
  |some r=>(match KG (Hn 8) true r with
   |.error er=>er≠0/\∃m,e=.returned (.tuple #[m,.int .i64 er])
   |.ok (ms,r')=>if Bx r'=[] then ∃mb,e=.returned (.tuple #[.map (some mb),.int .i64 0])/\WJ W mb ms else ∃m,e=.returned (.tuple #[m,.int .i64 2]))
  |none=>∃m,e=.returned (.tuple #[m,.int .i64 2]))->RtP W (Dk t) e:=by
  intro W e;unfold RtP;rw[NS];cases A4 [123] (Bx (Dk t)) with
  |none=>exact fun h=>⟨by decide,h⟩
  |some r=>
   cases hob:KG (Hn 8) true r with
   |error er=>simp only[hob];exact id
   |ok x=>
    obtain⟨ms,r'⟩:=x;simp only[hob];by_cases g:Bx r'=[]
    ·simp only[Ch g];exact id
    ·simp only[Br g];exact fun h=>⟨by decide,h⟩
 unfold RoP at hr4;cases hq:A4 [123] (Bx (Dk t)) with
 |none=>
  rw[hq] at hr4 hRt;subst hr4
  go_wp2
  go_ret2
  exact⟨Uv,hRt _ _ ⟨_,rfl⟩⟩
 |some r=>
  rw[hq] at hr4 hRt;simp only at hr4 hRt;cases ho:KG (Hn 8) true r with
  |error er=>
   rw[ho] at hr4 hRt;obtain⟨he,rfl⟩:=hr4;have hbe:(er != (0:Int))=true:=by simp[he]
   go_wp2
   go_ret2
   exact⟨Uv,hRt _ _ ⟨he,_,rfl⟩⟩
  |ok x=>
   obtain⟨ms,r'⟩:=x;rw[ho] at hr4 hRt;obtain⟨rfl,rfl,hM4⟩:=hr4;have A31:=Lu RO ht hU4 h4
   go_wp2_with (go_at_call 154;refine A31.mono ?_)
   rintro e W5 ⟨rfl,h5,k5⟩
   have XY:Below w.heap.size w W5:=Uv.trans ((E7.of (mb:=w.heap.size+1) k5).toBelow (Cd _) (by omega) Uv.size);have hM5:=hM4.keep k5 (by omega);obtain⟨Ci,hc0,FA,hf0,hf1⟩:=h5;have Nr:=Cl RO;have hl5:=Nr.len;cases hx:Bx r4 with
   |nil=>
    rw[hx] at FA hRt;rw[JG] at FA
    go_wp2
    go_region_o
    go_wp2
    go_ret2
    exact⟨XY.drew,hRt _ _ (by rw[Ch trivial];exact⟨_,rfl,hM5⟩)⟩
   |cons c q=>
    rw[hx] at FA hRt hl5
    have Bnt:(Ck t (c::q):Int)<t.size:=by
     unfold Ck;rw[Tt] at hl5 ⊢;omega
    have Bgp:¬(c::q=[]):=by simp
    go_wp2
    go_region_o
    go_wp2
    go_ret2
    exact⟨XY.drew,hRt _ _ (by rw[Br Bgp];exact⟨_,rfl⟩)⟩
end
end
end Go.Proofs.YtohcncipgljdkaaGreatDoor.Pv
