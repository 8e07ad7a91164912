/-
  The proof of RegistrationLeaves, part 5.
-/
import Derived.Test.YtamoegpkglhedaaGreatDoorLD
import Derived.Test.YtamoegpkglhedaaGreatDoorRows
import Derived.Deep.CutBlock
import Derived.Laws.ResultCell
import Derived.Laws.Bits64b
set_option linter.unusedSimpArgs false
set_option linter.unusedVariables false
namespace Go.Proofs.YtamoegpkglhedaaGreatDoor.Pv
open Go.IntKind (wrap)
open Go.Proofs.Tryz (prog)
set_option maxRecDepth 1000000
noncomputable section
section
variable {xs:FuncId->Option (Ad->Option A1)}(fu d:Nat)(call:Aq)
theorem T5{p:FuncId->Option (Ad->Option A1)}(fu d:Nat)(Z Y:ByteArray):Ac (CP p) prog fu (d+1) 164 [Z,Y]=(fun (call:Aq)=>D6 (call 179 [Z,Y]) fun a b=>Bu a fun a=>Ap b<|Ax (!a) (Bj [Z,false]) (Ar (decide (Int.toNat (↑(ByteArray.size Y):Int)<=ByteArray.size Z)&&decide (ByteArray.size Z<=ByteArray.size Z))<|Aa (ByteArray.extract Z (Int.toNat (↑(ByteArray.size Y):Int)) (ByteArray.size Z)) fun a=>Bj [a,true])) (Ac (CP p) prog fu d):=by kernel_rfl
theorem AC{p:FuncId->Option (Ad->Option A1)}(fu d:Nat)(Z Y:ByteArray):Ac (CP p) prog fu (d+1) 141 [Z,Y]=(fun (call:Aq)=>D6 (call 164 [Z,Y]) fun a b=>Bv a fun a=>Qp b fun b=>Bj [a,b]) (Ac (CP p) prog fu d):=by kernel_rfl
theorem GO{p:FuncId->Option (Ad->Option A1)}(fu d:Nat)(Z Y:ByteArray):Ac (CP p) prog fu (d+1) 165 [Z,Y]=(fun (call:Aq)=>Gz .i64 (call 184 [Z,Y]) fun a=>Ax (decide (a>=0)) (Ar (decide (0<=a))<|Ar (decide (a.toNat<=ByteArray.size Z))<|Aa (ByteArray.extract Z 0 a.toNat) fun b=>Aa (wrap .i64 (a+(↑(ByteArray.size Y):Int))) fun a=>Ar (decide (0<=a))<|Ar (decide (a.toNat<=ByteArray.size Z)&&decide (ByteArray.size Z<=ByteArray.size Z))<|Aa (ByteArray.extract Z a.toNat (ByteArray.size Z)) fun a=>Bj [b,a,true]) (Bj [Z,Bo ⟨#[]⟩,false])) (Ac (CP p) prog fu d):=by kernel_rfl
theorem RV{p:FuncId->Option (Ad->Option A1)}(fu d:Nat)(Z Y:ByteArray):Ac (CP p) prog fu (d+1) 142 [Z,Y]=(fun (call:Aq)=>D6 (call 165 [Z,Y]) fun a b=>Bv a fun a=>Ai b fun b c=>Bv b fun b=>Qp c fun c=>Bj [a,b,c]) (Ac (CP p) prog fu d):=by kernel_rfl
theorem LR{p:FuncId->Option (Ad->Option A1)}(fu d:Nat)(Z Y:ByteArray):Ac (CP p) prog fu (d+1) 210 [Z,Y]=(fun (call:Aq)=>Gz .i64 (call 184 [Z,Y]) fun a=>Bj [a]) (Ac (CP p) prog fu d):=by kernel_rfl
theorem AJ{p:FuncId->Option (Ad->Option A1)}(fu d:Nat)(Y Z:ByteArray):Ac (CP p) prog fu (d+1) 184 [Y,Z]=(fun (call:Aq)=>Ax ((↑(ByteArray.size Z):Int)==0) (Bj [(0:Int)]) (Ax (Array.toList (ByteArray.data Z)==Array.toList (ByteArray.data Y)) (Bj [(0:Int)]) (Ax ((↑(ByteArray.size Z):Int)==1) (Ds ((Array.toList (ByteArray.data Z))[0]?) fun a=>Gz .i64 (call 155 [Y,.sc (.int .u8 (↑(UInt8.toNat a):Int))]) fun a=>Bj [a]) (Ax (decide ((↑(ByteArray.size Z):Int)>=(↑(ByteArray.size Y):Int))) (Bj [(-1:Int)]) none)))) (Ac (CP p) prog fu d):=by kernel_rfl
def Fm(Z Y:ByteArray)(X W:Int)(V:Nat)(U T:ByteArray)(S Q:Int)(P:Nat)(O:Int)(N:Ad):Option A1:=Ll fu call 185 Tryz.f185 [Z,Y,X,W] [.r,.r,.r,.r,.r,.r,.r,.r,.l,.l] V ⟨lk [(0,U),(1,T),(2,S),(3,Q),(9,.view 9 1 0 P),(10,O)],Fw [(9,.ar false N)]⟩
theorem Xe(S Q:ByteArray)(P O:Int)(N:Nat)(Y V:ByteArray)(U T:Int)(X:Nat)(Z:Int)(W:Ad):Fm fu call S Q P O (N+1) Y V U T X Z W=(Ax (decide (Z<T)) (Gz .i64 (call 210 [Y,V]) fun a=>Ax (decide (a<0)) (Ar (decide (0<=Z)&&decide (Z<(↑X:Int)))<|Ar (decide (0+Z.toNat*1+1<=W.length))<|Aa (B1 W [Y] (0+Z.toNat*1)) fun a=>Aa (wrap .i64 (Z+1)) fun b=>Ar (decide (0<=b))<|Ar (decide (b.toNat<=X))<|Aa (b.toNat-0) fun b=>Ar (decide (b*1<=a.length))<|Bj [.own 1 b (a.take (b*1))]) (Aa (wrap .i64 (a+U)) fun b=>Ar (decide (0<=b))<|Ar (decide (b.toNat<=ByteArray.size Y))<|Aa (ByteArray.extract Y 0 b.toNat) fun b=>Ar (decide (0<=Z)&&decide (Z<(↑X:Int)))<|Ar (decide (0+Z.toNat*1+1<=W.length))<|Aa (B1 W [b] (0+Z.toNat*1)) fun b=>Aa (wrap .i64 (a+(↑(ByteArray.size V):Int))) fun a=>Ar (decide (0<=a))<|Ar (decide (a.toNat<=ByteArray.size Y)&&decide (ByteArray.size Y<=ByteArray.size Y))<|Aa (ByteArray.extract Y a.toNat (ByteArray.size Y)) fun a=>Aa (wrap .i64 (Z+1)) fun c=>Fm fu call S Q P O N a V U T X c b)) (Ar (decide (0<=Z)&&decide (Z<(↑X:Int)))<|Ar (decide (0+Z.toNat*1+1<=W.length))<|Aa (B1 W [Y] (0+Z.toNat*1)) fun a=>Aa (wrap .i64 (Z+1)) fun b=>Ar (decide (0<=b))<|Ar (decide (b.toNat<=X))<|Aa (b.toNat-0) fun b=>Ar (decide (b*1<=a.length))<|Bj [.own 1 b (a.take (b*1))])):=by kernel_rfl
theorem CL{p:FuncId->Option (Ad->Option A1)}(fu d:Nat)(Z X:ByteArray)(W Y:Int):Ac (CP p) prog fu (d+1) 185 [Z,X,W,Y]=(fun (call:Aq)=>Ax (Y==0) (Bj [.own 1 0 []]) (Ax (Array.toList (ByteArray.data X)==Array.toList (ByteArray.data (ByteArray.mk #[]))) (D6 (call 208 [Z,Y]) fun a b=>Lg 1 a fun a c=>Ap b<|Ar (decide (a*1<=c.length))<|Bj [.own 1 a (c.take (a*1))]) (Ax (decide (Y<0)) (Gz .i64 (call 209 [Z,X]) fun a=>Aa (wrap .i64 (a+1)) fun a=>Aa (wrap .i64 ((↑(ByteArray.size Z):Int)+1)) fun b=>Aa (if b<a then b else a) fun a=>Ar (decide (0<=a)&&decide (a<=a)&&decide (a*16<=1099511627776)&&decide (a<=1099511627776))<|Aa (wrap .i64 (a-1)) fun b=>Fm fu call Z X W Y fu Z X W b a.toNat 0 (R1 a.toNat [Bo ⟨#[]⟩])) (Aa (wrap .i64 ((↑(ByteArray.size Z):Int)+1)) fun a=>Aa (if a<Y then a else Y) fun a=>Ar (decide (0<=a)&&decide (a<=a)&&decide (a*16<=1099511627776)&&decide (a<=1099511627776))<|Aa (wrap .i64 (a-1)) fun b=>Fm fu call Z X W Y fu Z X W b a.toNat 0 (R1 a.toNat [Bo ⟨#[]⟩]))))) (Ac (CP p) prog fu d):=by kernel_rfl
theorem KZ{p:FuncId->Option (Ad->Option A1)}(fu d:Nat)(Z Y:ByteArray):Ac (CP p) prog fu (d+1) 166 [Z,Y]=(fun (call:Aq)=>D6 (call 185 [Z,Y,(0:Int),(-1:Int)]) fun a b=>Lg 1 a fun a c=>Ap b<|Ar (decide (a*1<=c.length))<|Bj [.own 1 a (c.take (a*1))]) (Ac (CP p) prog fu d):=by kernel_rfl
def Ec(Z:ByteArray)(Y:Nat)(X:ByteArray)(W V:Int):Option A1:=Ll fu call 167 Tryz.f167 [Z] [.r,.r,.l,.r,.l] Y ⟨lk [(0,X),(16,W),(17,V)],Fw []⟩
theorem Oy(W:ByteArray)(V:Nat)(Y:ByteArray)(X Z:Int):Ec fu call W (V+1) Y X Z=(Ax (decide (Z<X)) (Ar (decide (0<=Z))<|Ds ((Array.toList (ByteArray.data Y))[Z.toNat]?) fun a=>(fun e:Option A1=>(fun f:Option A1=>(fun c:Option A1=>Ax (decide (97<=(↑(UInt8.toNat a):Int))) (Ax (decide ((↑(UInt8.toNat a):Int)<=122)) (Ax ((↑(UInt8.toNat a):Int)==45) (Ax (decide (Z>0)) (Aa (wrap .i64 ((↑(ByteArray.size Y):Int)-1)) fun a=>Aa (wrap .i64 (Z+1)) fun a=>Ec fu call W V Y X a) e) e) c) c) (Ax (decide (48<=(↑(UInt8.toNat a):Int))) (Ax ((↑(UInt8.toNat a):Int)==45) (Ax (decide (Z>0)) (Aa (wrap .i64 ((↑(ByteArray.size Y):Int)-1)) fun b=>Ax (!decide ((↑(UInt8.toNat a):Int)<=57)) (Ax (!decide (Z<b)) (Bj [false]) e) e) f) f) (Ax ((↑(UInt8.toNat a):Int)==45) (Ax (decide (Z>0)) (Aa (wrap .i64 ((↑(ByteArray.size Y):Int)-1)) fun a=>Ax (!decide (Z<a)) (Bj [false]) (Aa (wrap .i64 (Z+1)) fun a=>Ec fu call W V Y X a)) (Bj [false])) (Bj [false])))) (Ax (!decide ((↑(UInt8.toNat a):Int)<=57)) (Bj [false]) e)) (Aa (wrap .i64 (Z+1)) fun a=>Ec fu call W V Y X a)) (Bj [true])):=by kernel_rfl
theorem DS{p:FuncId->Option (Ad->Option A1)}(fu d:Nat)(Z:ByteArray):Ac (CP p) prog fu (d+1) 167 [Z]=(fun (call:Aq)=>Ax (decide ((↑(ByteArray.size Z):Int)<1)) (Bj [false]) (Ax (decide ((↑(ByteArray.size Z):Int)>63)) (Bj [false]) (Ec fu call Z fu Z ((↑(ByteArray.size Z):Int)) 0))) (Ac (CP p) prog fu d):=by kernel_rfl
def Je(Z:ByteArray)(Y X W:Nat)(V U:Int)(T:Ad):Option A1:=Ll fu call 143 Tryz.f143 [Z] [.r,.r,.r,.l,.r,.l] Y ⟨lk [(3,.view 3 1 0 X),(11,.view 3 1 0 W),(12,V),(13,U)],Fw [(3,.ar false T)]⟩
theorem Re(U:ByteArray)(T Y W:Nat)(V Z:Int)(X:Ad):Je fu call U (T+1) Y W V Z X=(Ax (decide (Z<V)) (Ar (decide (0<=Z)&&decide (Z<(↑W:Int)))<|Bv (X.getD (0+Z.toNat*1) .top) fun a=>D6 (call 167 [a]) fun a b=>Bu a fun a=>Ap b<|Ax (!a) (Bj [(2:Int)]) (Aa (wrap .i64 (Z+1)) fun a=>Je fu call U T Y W V a X)) (Aa (wrap .i64 ((↑Y:Int)-1)) fun a=>Ar (decide (0<=a)&&decide (a<(↑Y:Int)))<|Bv (X.getD (0+a.toNat*1) .top) fun a=>D6 (call 168 [a,Bo ⟨#[48,49,50,51,52,53,54,55,56,57]⟩]) fun a b=>Bv a fun a=>Ap b<|Ax (Array.toList (ByteArray.data a)==Array.toList (ByteArray.data (ByteArray.mk #[]))) (Bj [(2:Int)]) (Bj [(0:Int)]))):=by kernel_rfl
theorem KY{p:FuncId->Option (Ad->Option A1)}(fu d:Nat)(Z:ByteArray):Ac (CP p) prog fu (d+1) 143 [Z]=(fun (call:Aq)=>Ax (decide ((↑(ByteArray.size Z):Int)>100)) (Bj [(8:Int)]) (D6 (call 166 [Z,Bo ⟨#[46]⟩]) fun a b=>Lg 1 a fun a c=>Ap b<|Je fu call Z fu a a (↑a:Int) 0 c)) (Ac (CP p) prog fu d):=by kernel_rfl
theorem Yj{p:FuncId->Option (Ad->Option A1)}(fu d:Nat)(Z:Bool):Ac (CP p) prog fu (d+1) 144 [Z]=(fun (call:Aq)=>Ax Z (Bj [(443:Int)]) (Bj [(80:Int)])) (Ac (CP p) prog fu d):=by kernel_rfl
def G5(Z:ByteArray)(Y:Nat)(X:ByteArray)(W V U:Int):Option A1:=Ll fu call 145 Tryz.f145 [Z] [.r,.r,.r,.l,.r,.l] Y ⟨lk [(0,X),(4,W),(21,V),(22,U)],Fw []⟩
theorem My(V:ByteArray)(U:Nat)(X:ByteArray)(Y W Z:Int):G5 fu call V (U+1) X Y W Z=(Ax (decide (Z<W)) (Ar (decide (0<=Z))<|Ds ((Array.toList (ByteArray.data X))[Z.toNat]?) fun a=>Ax (decide ((↑(UInt8.toNat a):Int)<48)) (Bj [(0:Int),false]) (Ax (decide ((↑(UInt8.toNat a):Int)>57)) (Bj [(0:Int),false]) (Aa (wrap .i64 (10*Y)) fun b=>Aa (wrap .u8 ((↑(UInt8.toNat a):Int)-48)) fun a=>Aa (wrap .i64 a) fun a=>Aa (wrap .i64 (b+a)) fun a=>Aa (wrap .i64 (Z+1)) fun b=>G5 fu call V U X a W b))) (Bj [Y,C9 (decide (Y<=65535))])):=by kernel_rfl
theorem CS{p:FuncId->Option (Ad->Option A1)}(fu d:Nat)(Z:ByteArray):Ac (CP p) prog fu (d+1) 145 [Z]=(fun (call:Aq)=>(fun b:Option A1=>Ax (decide ((↑(ByteArray.size Z):Int)<1)) b (Ax (decide ((↑(ByteArray.size Z):Int)>5)) b (Ds ((Array.toList (ByteArray.data Z))[0]?) fun a=>Ax ((↑(UInt8.toNat a):Int)==48) b (G5 fu call Z fu Z 0 ((↑(ByteArray.size Z):Int)) 0)))) (Bj [(0:Int),false])) (Ac (CP p) prog fu d):=by kernel_rfl
theorem MS{p:FuncId->Option (Ad->Option A1)}(fu d:Nat)(Z:ByteArray):Ac (CP p) prog fu (d+1) 122 [Z]=(fun (call:Aq)=>D6 (call 141 [Z,Bo ⟨#[104,116,116,112,115,58,47,47]⟩]) fun a b=>Bv a fun a=>Qp b fun b=>(fun h:PV=>(fun g:Option A1=>Ax (!b) (D6 (call 141 [Z,Bo ⟨#[104,116,116,112,58,47,47]⟩]) fun a c=>Bv a fun a=>Qp c fun c=>Ax (!c) g (D6 (call 142 [a,Bo ⟨#[58]⟩]) fun a c=>Bv a fun a=>Ai c fun c e=>Bv c fun c=>Qp e fun e=>Gz .i64 (call 143 [a]) fun f=>Ax (f != 0) (Bj [h,f]) (Gz .i64 (call 144 [b]) fun f=>Ax e (D6 (call 145 [c]) fun c e=>Bc .i64 c fun c=>Qp e fun e=>Ax (!e) g (Ax (c==f) g (Bj [.agg [b,a,c],(0:Int)]))) (Bj [.agg [b,a,f],(0:Int)])))) (D6 (call 142 [a,Bo ⟨#[58]⟩]) fun a c=>Bv a fun a=>Ai c fun c e=>Bv c fun c=>Qp e fun e=>Gz .i64 (call 143 [a]) fun f=>Ax (f != 0) (Bj [h,f]) (Gz .i64 (call 144 [b]) fun f=>Ax e (D6 (call 145 [c]) fun c e=>Bc .i64 c fun c=>Qp e fun e=>Ax (!e) g (Ax (c==f) g (Bj [.agg [b,a,c],(0:Int)]))) (Bj [.agg [b,a,f],(0:Int)])))) (Bj [h,(2:Int)])) (.agg [false,Bo ⟨#[]⟩,(0:Int)])) (Ac (CP p) prog fu d):=by kernel_rfl
def Cu(Z:ByteArray)(Y:Nat)(X:ByteArray)(W:Nat)(V:Ad):Option A1:=Ll fu call 121 Tryz.f121 [Z] [.r,.r,.r,.l,.l] Y ⟨lk [(0,X),(4,.view 4 1 0 W)],Fw [(4,.ar false V)]⟩
def Cv(Z:ByteArray)(Y X:Nat)(W:ByteArray)(V:Nat)(U T:Int)(S Q:Int)(P:Ad):Option A1:=Ll fu call 121 Tryz.f121 [Z] [.r,.r,.r,.l,.l,.i Y,.r,.l,.r,.r,.l,.r,.l] X ⟨lk [(0,W),(4,.view 4 1 0 V),(5,U),(6,.sc (.int .u32 T)),(28,S),(29,Q)],Fw [(4,.ar false P)]⟩
def Cw(Z:ByteArray)(Y X:Nat)(W:ByteArray)(V:Nat)(U:Int)(T S:Nat)(Q P:Int)(O N:Ad):Option A1:=Ll fu call 121 Tryz.f121 [Z] [.r,.r,.r,.l,.l,.i Y,.r,.l,.r,.r,.r,.r,.l,.r,.l] X ⟨lk [(0,W),(4,.view 4 1 0 V),(5,U),(9,.ptr 9 0),(58,.view 9 1 T S),(59,Q),(60,P)],Fw [(4,.ar false O),(9,.ar false N)]⟩
theorem Ja(W:ByteArray)(V:Nat)(Z:ByteArray)(Y:Nat)(X:Ad):Cu fu call W (V+1) Z Y X=(Ax (decide ((↑(ByteArray.size Z):Int)>0)) (Aa (if (↑(ByteArray.size Z):Int)<4 then (↑(ByteArray.size Z):Int) else 4) fun a=>Cv fu call W V fu Z Y a 0 a 0 X) (Ar (decide (Y*1<=X.length))<|Bj [.own 1 Y (X.take (Y*1)),(0:Int)])):=by kernel_rfl
theorem It(V:ByteArray)(U P:Nat)(X:ByteArray)(T:Nat)(W Y:Int)(S Z:Int)(Q:Ad):Cv fu call V U (P+1) X T W Y S Z Q=(Ax (decide (Z<S)) (Ar (decide (0<=Z))<|Ds ((Array.toList (ByteArray.data X))[Z.toNat]?) fun a=>Gz .i64 (call 137 [Bo ⟨#[65,66,67,68,69,70,71,72,73,74,75,76,77,78,79,80,81,82,83,84,85,86,87,88,89,90,97,98,99,100,101,102,103,104,105,106,107,108,109,110,111,112,113,114,115,116,117,118,119,120,121,122,48,49,50,51,52,53,54,55,56,57,45,95]⟩,.sc (.int .u8 (↑(UInt8.toNat a):Int))]) fun a=>Ax (decide (a<0)) (Bj [.own 1 0 [],(2:Int)]) (Aa (wrap .u32 a) fun a=>Aa (wrap .i64 (6*Z)) fun b=>Aa (wrap .i64 (18-b)) fun b=>Ar (decide (0<=b))<|Aa (Fb .u32 a b) fun a=>Aa (CQ .u32 Y a) fun a=>Aa (wrap .i64 (Z+1)) fun b=>Cv fu call V U P X T W a S b Q)) (Aa (Gl .u32 Y 16) fun a=>Aa (wrap .u8 a) fun a=>Aa (Gl .u32 Y 8) fun b=>Aa (wrap .u8 b) fun b=>Aa (wrap .u8 Y) fun c=>Aa (wrap .i64 (W-1)) fun e=>Ar (decide (0<=e))<|Ar (decide (e.toNat<=3)&&true)<|Aa (0+e.toNat*1) fun f=>Aa (3-e.toNat) fun e=>Cw fu call V U fu X T W f e (↑e:Int) 0 Q ([.sc (.int .u8 a),.sc (.int .u8 b),.sc (.int .u8 c)]))):=by kernel_rfl
theorem Iy(T:ByteArray)(S N:Nat)(Z:ByteArray)(Y:Nat)(W:Int)(Q P:Nat)(O V:Int)(U X:Ad):Cw fu call T S (N+1) Z Y W Q P O V U X=(Ax (decide (V<O)) (Ar (decide (0<=V)&&decide (V<(↑P:Int)))<|Bc .u8 (X.getD (Q+V.toNat*1) .top) fun a=>Ax (a != 0) (Bj [.own 1 0 [],(2:Int)]) (Aa (wrap .i64 (V+1)) fun a=>Cw fu call T S N Z Y W Q P O a U X)) (Aa (wrap .i64 (W-1)) fun a=>Ar (decide (3<=X.length)&&true)<|Ar (decide (0<=a))<|Ar (decide (a.toNat<=3))<|Aa (a.toNat-0) fun a=>Ar (decide (0+a*1<=X.length))<|Ar (decide (Y*1<=U.length)&&decide (List.length (List.take (a*1) (X.drop 0))=a*1)&&decide ((Y+a)*1<=1099511627776)&&decide (Y+a<=1099511627776))<|Aa (Y+a) fun b=>Aa (List.take (Y*1) U++List.take (a*1) (X.drop 0)) fun a=>Ar (decide (0<=W))<|Ar (decide (W.toNat<=ByteArray.size Z)&&decide (ByteArray.size Z<=ByteArray.size Z))<|Aa (ByteArray.extract Z W.toNat (ByteArray.size Z)) fun c=>Cu fu call T S c b a)):=by kernel_rfl
theorem T9{p:FuncId->Option (Ad->Option A1)}(fu d:Nat)(Z:ByteArray):Ac (CP p) prog fu (d+1) 121 [Z]=(fun (call:Aq)=>Aa (Int.tmod (↑(ByteArray.size Z):Int) 4) fun a=>Ax (a==1) (Bj [.own 1 0 [],(2:Int)]) (Aa (wrap .i64 (Int.tdiv (↑(ByteArray.size Z):Int) 4)) fun a=>Aa (wrap .i64 (a*3)) fun a=>Aa (wrap .i64 (a+2)) fun a=>Ar (decide (0<=a)&&decide (a*1<=1099511627776)&&decide (a<=1099511627776))<|Cu fu call Z fu Z 0 ([]))) (Ac (CP p) prog fu d):=by kernel_rfl
end
theorem Apa{a b:Int}(ha:0<=a/\a<=255)(hb:0<=b/\b<=255):(a.toNat.toUInt8==b.toNat.toUInt8)=decide (a=b):=by
 rw[Bool.eq_iff_iff,beq_iff_eq,decide_eq_true_iff];constructor
 ·intro h;have:=congrArg UInt8.toNat h;have e1:a.toNat.toUInt8.toNat=a.toNat % 256:=by rw[Nat.toUInt8,UInt8.toNat_ofNat']
  have e2:b.toNat.toUInt8.toNat=b.toNat % 256:=by rw[Nat.toUInt8,UInt8.toNat_ofNat']
  rw[e1,e2] at this;omega
 ·rintro rfl;rfl
theorem Nk{c:Int}(hc:0<=c/\c<=255):((c.toNat.toUInt8.toNat:Nat):Int)=c:=by rw[Nat.toUInt8,UInt8.toNat_ofNat'];omega
theorem Acc{c x:Int}(r:Aj)(e:x≠c):Bh c (x::r)=x::Bh c r:=by unfold Bh;rw[List.takeWhile_cons_of_pos (by simp[e])]
theorem VX{c:Int}(r:Aj):Bh c (c::r)=[]:=by unfold Bh;rw[List.takeWhile_cons_of_neg (by simp)]
theorem Q2(c:Int)(l:Aj):Bh c l=l.take (Bh c l).length:=by have h:Bh c l <+: l:=List.takeWhile_prefix _;exact List.prefix_iff_eq_take.1 h
theorem ME(c:Int)(l:Aj):(Bh c l).length<=l.length:=by have h:Bh c l <+: l:=List.takeWhile_prefix _;exact h.length_le
theorem Ahv(c:Int)(l:Aj)(h:¬(Bh c l).length<l.length):Bh c l=l:=by have:=ME c l;rw[Q2 c l,Ji (by omega)]
def IK(c:Int)(l:Aj):Int:=if (Bh c l).length<l.length then ((Bh c l).length:Int) else -1
theorem Ai0{c:Int}(hc:0<=c/\c<=255):∀{l:Aj},Cp l->Lib.indexByte (l.map fun n=>n.toNat.toUInt8) c.toNat.toUInt8=IK c l
 |[],_=>rfl
 |x::r,h=>by
  obtain⟨hx,hr⟩:=Dk h;have ih:=Ai0 hc hr;show (if (x.toNat.toUInt8==c.toNat.toUInt8)=true then (0:Int) else if (Lib.indexByte (r.map fun n=>n.toNat.toUInt8) c.toNat.toUInt8 == -1)=true then -1 else Lib.indexByte (r.map fun n=>n.toNat.toUInt8) c.toNat.toUInt8+1)=_;rw[Apa hx hc,ih];by_cases e:x=c
  ·subst e;unfold IK;rw[VX];simp
  ·unfold IK;rw[Acc r e];simp only[Xi,e,if_false,On];by_cases g:(Bh c r).length<r.length
   ·simp only[Cy g,Cy (show (Bh c r).length+1<r.length+1 by omega)];rw[Bl (show ¬(((((Bh c r).length:Int)) == -1)=true) by rw[beq_iff_eq];omega)]
    omega
   ·simp only[Bl g,Bl (show ¬(Bh c r).length+1<r.length+1 by omega)];rfl
theorem TY{c:Int}(hc:0<=c/\c<=255):∀{l:Aj},Cp l->(l.map fun n=>n.toNat.toUInt8).count c.toNat.toUInt8+1=(Ay c l).length
 |[],_=>rfl
 |x::r,h=>by
  obtain⟨hx,hr⟩:=Dk h;have ih:=TY hc hr;rw[U7,List.count_cons,Apa hx hc];unfold Ay;by_cases e:x=c
  ·rw[Cy e,Cy (by simp[e]),On,<-ih]
  ·rw[Bl e,Bl (by simp[e])];cases hs:Ay c r with
   |nil=>exact absurd hs (Qt c r)
   |cons a t=>
    rw[hs] at ih
    simpa using ih
theorem Zw(c:Int):∀(l:Aj),(Ay c l).length<=l.length+1
 |[]=>Cn _
 |x::r=>by
  have ih:=Zw c r;unfold Ay;split
  ·simp;omega
  ·cases hs:Ay c r with
   |nil=>simp
   |cons a t=>rw[hs] at ih;simp at ih ⊢;omega
theorem TK(c:Int)(l:Aj):1<=(Ay c l).length:=by
 have:=Qt c l;cases hs:Ay c l with
 |nil=>exact absurd hs this
 |cons a t=>simp
theorem Ajb{a:Ad}{n:Nat}{x y:PV}{r:Ad}(h:a.length=n):(a++x::r).set n y=a++y::r:=by
 subst h
 induction a with
 |nil=>rfl
 |cons z a ih=>simp[ih]
theorem dle(n:Nat):decide (n<=n)=true:=by simp
section
variable {fu d:Nat}{p:FuncId->Option (Ad->Option A1)}
theorem Ahs{c:Int}(hc:0<=c/\c<=255){l:Aj}(hl:Cp l):Ac (CP p) prog fu (d+2) 184 [Bo (Ab l),Bo (Ab [c])]=some ⟨[Aw (IK c l)],[]⟩:=by
 have e:Ac (CP p) prog fu (d+1) 155 [Bo (Ab l),.sc (.int .u8 c)]=some ⟨[Aw (Lib.indexByte (Ab l).data.toList c.toNat.toUInt8)],[]⟩:=rfl;have e0:(Ab l).data.toList=l.map fun n=>n.toNat.toUInt8:=rfl;rw[e0,Ai0 hc hl] at e;have h0:((((Ab [c]).size:Nat):Int)==0)=false:=by rw[Ag];rfl
 have h1:((((Ab [c]).size:Nat):Int)==1)=true:=by rw[Ag];rfl
 have h2:(Array.toList (Ab [c]).data)[0]?=some c.toNat.toUInt8:=rfl;have h3:=Nk hc;rw[AJ];by_cases g:[c]=l
 ·subst g;have h4:(Array.toList (Ab [c]).data==Array.toList (Ab [c]).data)=true:=by simp
  have h5:IK c [c]=0:=by unfold IK;rw[VX];rfl
  simp only[A4,A3,h0,h4,h5]
 ·have h4:(Array.toList (Ab [c]).data==Array.toList (Ab l).data)=false:=by
   rw[Bool.eq_false_iff,ne_eq,beq_iff_eq];intro q;apply g
   have q2:Ab [c]=Ab l:=by
    cases hx:Ab [c];cases hy:Ab l;rw[hx,hy] at q;exact congrArg ByteArray.mk (Array.toList_inj.1 q)
   have q3:=congrArg Ci q2
   rwa [C8 hl,C8 (fun x hx=>by simp at hx;omega)] at q3
  simp only[A4,A3,h0,h4,h1,h2,h3,e]
theorem Anc{c:Int}(hc:0<=c/\c<=255){l:Aj}(hl:Cp l):Ac (CP p) prog fu (d+3) 210 [Bo (Ab l),Bo (Ab [c])]=some ⟨[Aw (IK c l)],[]⟩:=by have e:Ac (CP p) prog fu (d+2) 184 [Bo (Ab l),Bo (Ab [c])]=_:=Ahs (fu:=fu) (d:=d) (p:=p) hc hl;rw[LR];simp only[A4,A3,e]
theorem Uy{l:Aj}(hl:Cp l)(n:Nat):(Ab l).extract 0 n=Ab (l.take n):=by rw[GJ,C8 hl]
theorem Vt{l:Aj}(hl:Cp l)(n:Nat):(Ab l).extract n l.length=Ab (l.drop n):=by
 have:=KN (s:=Ab l) (a:=n)
 rwa [Ag,C8 hl] at this
theorem A3s{c:Int}(hc:0<=c/\c<=255){l:Aj}(hl:Cp l)(hs:l.length<=1000000):Ac (CP p) prog fu (d+4) 142 [Bo (Ab l),Bo (Ab [c])]=some ⟨[Bo (Ab (Bh c l)),Bo (Ab (l.drop ((Bh c l).length+1))),C9 (decide ((Bh c l).length<l.length))],[]⟩:=by
 have e:Ac (CP p) prog fu (d+2) 184 [Bo (Ab l),Bo (Ab [c])]=_:=Ahs (fu:=fu) (d:=d) (p:=p) hc hl
 have e2:Ac (CP p) prog fu (d+3) 165 [Bo (Ab l),Bo (Ab [c])]=some ⟨[Bo (Ab (Bh c l)),Bo (Ab (l.drop ((Bh c l).length+1))),C9 (decide ((Bh c l).length<l.length))],[]⟩:=by
  refine (GO (p:=p) fu (d+2) _ _).trans ?_;by_cases g:(Bh c l).length<l.length
  ·have hi:IK c l=(Bh c l).length:=by unfold IK;rw[Cy g]
   rw[hi] at e;have a1:decide (((Bh c l).length:Int)>=0)=true:=by simp
   have a2:decide ((0:Int)<=((Bh c l).length:Int))=true:=by simp
   have a3:decide (Int.toNat ((Bh c l).length:Int)<=l.length)=true:=by simp;omega
   have a4:(Ab l).extract 0 (Int.toNat ((Bh c l).length:Int))=Ab (Bh c l):=by
    rw[Jg,Uy hl,<-Q2]
   have a5:wrap .i64 (((Bh c l).length:Int)+(([c].length:Nat):Int))=(((Bh c l).length+1:Nat):Int):=by
    rw[Fz (by simp;omega) (by simp;omega)];simp
   have a6:decide ((0:Int)<=(((Bh c l).length+1:Nat):Int))=true:=by simp;omega
   have a7:decide (Int.toNat (((Bh c l).length+1:Nat):Int)<=l.length)=true:=by simp;omega
   have a8:(Ab l).extract (Int.toNat (((Bh c l).length+1:Nat):Int)) l.length=Ab (l.drop ((Bh c l).length+1)):=by
    rw[Jg,Vt hl]
   have a9:decide ((Bh c l).length<l.length)=true:=by simpa using g
   simp only[A4,A3,e,Ag,dle,a1,a2,a3,a4,a5,a6,a7,a8,a9]
  ·have hi:IK c l = -1:=by unfold IK;rw[Bl g]
   rw[hi] at e;have a1:decide ((-1:Int)>=0)=false:=rfl;have a9:decide ((Bh c l).length<l.length)=false:=by simpa using g
   have a10:l.drop ((Bh c l).length+1)=[]:=List.drop_eq_nil_of_le (by omega);have a11:(ByteArray.mk #[])=Ab []:=rfl;rw[a9,a10,Ahv c l g];simp only[A4,A3,e,a1,a11]
 rw[RV];simp only[A4,A3,e2]
theorem Ax3{l w:Aj}(hl:Cp l)(hw:Cp w):Ac (CP p) prog fu (d+4) 141 [Bo (Ab l),Bo (Ab w)]=some ⟨[Bo (Ab (if w.isPrefixOf l=true then l.drop w.length else l)),C9 (w.isPrefixOf l)],[]⟩:=by
 have e:Ac (CP p) prog fu (d+2) 179 [Bo (Ab l),Bo (Ab w)]=some ⟨[C9 (w.isPrefixOf l)],[]⟩:=Ayb (xs:=RN p) (fu:=fu) (d:=d+1) hl hw
 have e2:Ac (CP p) prog fu (d+3) 164 [Bo (Ab l),Bo (Ab w)]=some ⟨[Bo (Ab (if w.isPrefixOf l=true then l.drop w.length else l)),C9 (w.isPrefixOf l)],[]⟩:=by
  refine (T5 (p:=p) fu (d+2) _ _).trans ?_;cases hp:w.isPrefixOf l
  ·rw[hp] at e;simp only[A4,A3,e,Km,Bool.false_eq_true,if_false]
  ·rw[hp] at e;have FS:w.length<=l.length:=(List.isPrefixOf_iff_prefix.1 hp).length_le;have a1:decide (Int.toNat ((w.length:Nat):Int)<=l.length)=true:=by simp;omega
   have a2:(Ab l).extract (Int.toNat ((w.length:Nat):Int)) l.length=Ab (l.drop w.length):=by rw[Jg,Vt hl]
   simp only[A4,A3,e,Ag,dle,a1,a2,Hn,if_true]
 rw[AC];simp only[A4,A3,e2]
def Wh(x:Aj):PV:=Bo (Ab x)
theorem Afo{c:Int}(hc:0<=c/\c<=255){a0 a1:ByteArray}{a2 a3:Int}{N:Nat}(hN:N<=1000000):∀(nn:Nat)(r:Aj)(done:List Aj),r.length+1<=nn->r.length<=1000000->Cp r->done.length+(Ay c r).length=N ->
  Fm fu (Ac (CP p) prog fu (d+3)) a0 a1 a2 a3 nn (Ab r) (Ab [c]) 0 ((N:Int)-1) N (done.length:Int) (done.map Wh++List.replicate (Ay c r).length (Bo ⟨#[]⟩))=some ⟨[.own 1 N ((done++Ay c r).map Wh)],[]⟩:=by
 intro nn
 induction nn with
 |zero=>intro r done h;omega
 |succ k ih=>
  intro r done hk hr6 hr hn;have e:Ac (CP p) prog fu (d+3) 210 [Bo (Ab r),Bo (Ab [c])]=_:=Anc (fu:=fu) (d:=d) (p:=p) hc hr;rw[Xe];have G0:=IW c r;by_cases g:(Bh c r).length<r.length
  ·rw[Cy g] at G0;have hi:IK c r=(Bh c r).length:=by unfold IK;rw[Cy g]
   rw[hi] at e;have hp:=TK c (r.drop ((Bh c r).length+1));have Wd:(Ay c r).length=(Ay c (r.drop ((Bh c r).length+1))).length+1:=by rw[G0];simp
   have a0:decide ((done.length:Int)<(N:Int)-1)=true:=by simp;omega
   have a1:decide (((Bh c r).length:Int)<0)=false:=by simp
   have a2:wrap .i64 (((Bh c r).length:Int)+0)=((Bh c r).length:Int):=Bk
   have a3:decide ((0:Int)<=((Bh c r).length:Int))=true:=by simp
   have a4:decide (Int.toNat ((Bh c r).length:Int)<=r.length)=true:=by simp;omega
   have a5:(Ab r).extract 0 (Int.toNat ((Bh c r).length:Int))=Ab (Bh c r):=by rw[Jg,Uy hr,<-Q2]
   have a6:(decide ((0:Int)<=(done.length:Int))&&decide ((done.length:Int)<(N:Int)))=true:=by simp;omega
   have a7:decide (0+Int.toNat (done.length:Int)*1+1<=List.length (done.map Wh++List.replicate (Ay c r).length (PV.sc (.string ⟨#[]⟩))))=true:=by simp;omega
   have a8:B1 (done.map Wh++List.replicate (Ay c r).length (PV.sc (.string ⟨#[]⟩))) [PV.sc (.string (Ab (Bh c r)))] (0+Int.toNat (done.length:Int)*1)=(done++[Bh c r]).map Wh++List.replicate (Ay c (r.drop ((Bh c r).length+1))).length (PV.sc (.string ⟨#[]⟩)):=by
    rw[Ku (by simp;omega),Wd,List.replicate_succ,Jg,Ig,J6,Ajb (by simp)]
    simp[Wh]
   have a9:wrap .i64 (((Bh c r).length:Int)+(([c].length:Nat):Int))=(((Bh c r).length+1:Nat):Int):=by
    rw[Fz (by simp;omega) (by simp;omega)];simp
   have b1:decide ((0:Int)<=(((Bh c r).length+1:Nat):Int))=true:=by simp;omega
   have b2:decide (Int.toNat (((Bh c r).length+1:Nat):Int)<=r.length)=true:=by simp;omega
   have b3:(Ab r).extract (Int.toNat (((Bh c r).length+1:Nat):Int)) r.length=Ab (r.drop ((Bh c r).length+1)):=by rw[Jg,Vt hr]
   have b4:wrap .i64 ((done.length:Int)+1)=(((done++[Bh c r]).length:Nat):Int):=by
    rw[Bb];simp
   have hd:=ih (r.drop ((Bh c r).length+1)) (done++[Bh c r]) (by simp;omega) (by simp;omega) ((fun x hx=>hr x (List.mem_of_mem_drop hx))) (by simp;omega)
   simp only[A4,A3,e,Ag,dle,a0,a1,a2,a3,a4,a5,a6,a7,a8,a9,b1,b2,b3,b4];rw[hd,G0];simp
  ·rw[Bl g] at G0;have Wd:(Ay c r).length=1:=by rw[G0];rfl
   have a0:decide ((done.length:Int)<(N:Int)-1)=false:=by simp;omega
   have a6:(decide ((0:Int)<=(done.length:Int))&&decide ((done.length:Int)<(N:Int)))=true:=by simp;omega
   have a7:decide (0+Int.toNat (done.length:Int)*1+1<=List.length (done.map Wh++List.replicate (Ay c r).length (PV.sc (.string ⟨#[]⟩))))=true:=by simp;omega
   have a8:B1 (done.map Wh++List.replicate (Ay c r).length (PV.sc (.string ⟨#[]⟩))) [PV.sc (.string (Ab r))] (0+Int.toNat (done.length:Int)*1)=(done++[r]).map Wh:=by
    rw[Ku (by simp;omega),Wd,show List.replicate 1 (PV.sc (Value.string ⟨#[]⟩))=[PV.sc (.string ⟨#[]⟩)] from rfl,Jg,Ig,J6,Ajb (by simp)]
    simp[Wh]
   have b4:wrap .i64 ((done.length:Int)+1)=(N:Int):=by
    rw[Bb];omega
   have b5:decide ((0:Int)<=(N:Int))=true:=by simp
   have b6:decide (Int.toNat (N:Int)<=N)=true:=by simp
   have b7:Int.toNat (N:Int)-0=N:=by simp
   have b8:decide (N*1<=List.length ((done++[r]).map Wh))=true:=by simp;omega
   have b9:List.take (N*1) ((done++[r]).map Wh)=(done++[r]).map Wh:=Ji (by simp;omega)
   simp only[A4,A3,a0,a6,a7,a8,b4,b5,b6,b7,b8,b9];rw[G0]
theorem Avo{c:Int}(hc:0<=c/\c<=255){l:Aj}(hl:Cp l)(hs:l.length<=999999)(Bq:l.length+1<=fu):Ac (CP p) prog fu (d+5) 166 [Bo (Ab l),Bo (Ab [c])]=some ⟨[.own 1 (Ay c l).length ((Ay c l).map Wh)],[]⟩:=by
 have e:Ac (CP p) prog fu (d+4) 185 [Bo (Ab l),Bo (Ab [c]),Aw 0,Aw (-1)]=some ⟨[.own 1 (Ay c l).length ((Ay c l).map Wh)],[]⟩:=by
  refine (CL (p:=p) fu (d+3) _ _ _ _).trans ?_;have hn:=Zw c l;have hp:=TK c l;have hcn:=TY hc hl
  have e1:Ac (CP p) prog fu (d+3) 209 [Bo (Ab l),Bo (Ab [c])]=some ⟨[Aw (((Ay c l).length:Int)-1)],[]⟩:=by
   have:Ac (CP p) prog fu (d+3) 209 [Bo (Ab l),Bo (Ab [c])]=some ⟨[Aw (Lib.countByte (Ab l).data.toList c.toNat.toUInt8)],[]⟩:=rfl;rw[this]
   have e0:(Lib.countByte (Ab l).data.toList c.toNat.toUInt8:Int)=((Ay c l).length:Int)-1:=by
    have:Lib.countByte (Ab l).data.toList c.toNat.toUInt8+1=(Ay c l).length:=hcn;omega
   rw[e0]
  have a1:(((-1:Int))==0)=false:=rfl;have a2:(Array.toList (Ab [c]).data==Array.toList (ByteArray.mk #[]).data)=false:=rfl;have a3:decide ((-1:Int)<0)=true:=rfl;have a4:wrap .i64 (((Ay c l).length:Int)-1+1)=(Ay c l).length:=Bk
  have a5:wrap .i64 ((l.length:Int)+1)=l.length+1:=by rw[Bb]
  have a6:(if ((l.length:Int)+1)<((Ay c l).length:Int) then ((l.length:Int)+1) else ((Ay c l).length:Int))=(Ay c l).length:=by rw[Bl (by omega)]
  have a7:decide ((0:Int)<=((Ay c l).length:Int))=true:=by simp
  have b7:decide (((Ay c l).length:Int)<=((Ay c l).length:Int))=true:=by simp
  have c7:decide (((Ay c l).length:Int)*16<=1099511627776)=true:=by simp;omega
  have d7:decide (((Ay c l).length:Int)<=1099511627776)=true:=by simp;omega
  have a8:wrap .i64 (((Ay c l).length:Int)-1)=((Ay c l).length:Int)-1:=Bb
  have a9:R1 (Ay c l).length [PV.sc (.string ⟨#[]⟩)]=List.replicate (Ay c l).length (PV.sc (.string ⟨#[]⟩)):=by
   unfold R1
   induction (Ay c l).length with
   |zero=>rfl
   |succ k ih=>rw[List.replicate_succ,List.flatten_cons,ih];rfl
  have a10:Int.toNat ((Ay c l).length:Int)=(Ay c l).length:=Jg _;have hd:=Afo (fu:=fu) (d:=d) (p:=p) hc (a0:=Ab l) (a1:=Ab [c]) (a2:=0) (a3:= -1) (N:=(Ay c l).length) (by omega) fu l [] Bq (by omega) hl (by simp);simp only[A4,A3,e1,Ag,dle,a1,a2,a3,a4,a5,a6,a7,b7,c7,d7,a8,a9,a10];exact hd
 have b1:decide ((Ay c l).length*1<=List.length ((Ay c l).map Wh))=true:=by simp
 have b2:List.take ((Ay c l).length*1) ((Ay c l).map Wh)=(Ay c l).map Wh:=Ji (by simp);rw[KZ];simp only[A4,A3,e,b1,b2]
end
theorem WJ:∀n:Fin 256,Lib.indexByte ZB.data.toList (n.val:Int).toNat.toUInt8=if B7 (n.val:Int)<64 then B7 (n.val:Int) else -1:=by decide +kernel
theorem Aqj{c:Int}(hc:0<=c/\c<=255):Lib.indexByte ZB.data.toList c.toNat.toUInt8=if B7 c<64 then B7 c else -1:=by obtain⟨n,rfl⟩:=Int.eq_ofNat_of_zero_le hc.1;exact WJ ⟨n,by omega⟩
theorem A55{y v:Int}(k:Nat)(hk:k<=18)(h0:0<=y)(hm:y % ((2 ^ (k+6):Nat):Int)=0)(hy:y<16777216)(hv0:0<=v)(hv:v<64):CQ .u32 y (Fb .u32 (wrap .u32 v) (k:Int))=y+v*((2 ^ k:Nat):Int):=by
 obtain⟨y,rfl⟩:=Int.eq_ofNat_of_zero_le h0;obtain⟨v,rfl⟩:=Int.eq_ofNat_of_zero_le hv0
 have e1:wrap .u32 (v:Int)=v:=by
  simp only[wrap,IntKind.bits,IntKind.signed,RH,Bool.false_eq_true,if_false];omega
 have Bf3:2 ^ k<=2 ^ 18:=Nat.pow_le_pow_right (by omega) hk
 have hvk:v*2 ^ k<2 ^ k*64:=by
  rw[Nat.mul_comm];exact Nat.mul_lt_mul_of_pos_left (by omega) (Nat.pos_of_ne_zero (by simp))
 have e2:Fb .u32 (v:Int) (k:Int)=((v*2 ^ k:Nat):Int):=by
  show wrap .u32 ((v:Int)*2 ^ (min (k:Int).toNat IntKind.u32.bits))=_
  have:min (k:Int).toNat IntKind.u32.bits=k:=by
   rw[Jg];exact Nat.min_eq_left (by show k<=32;omega)
  rw[this];have:(v:Int)*2 ^ k=((v*2 ^ k:Nat):Int):=by simp
  rw[this];simp only[wrap,IntKind.bits,IntKind.signed,RH,Bool.false_eq_true,if_false];omega
 rw[e1,e2];have e3:=Bdj y (v*2 ^ k) (by omega) (by omega);refine e3.trans ?_
 have hd:y=y / 2 ^ (k+6)*2 ^ (k+6):=by
  have:y % 2 ^ (k+6)=0:=by exact_mod_cast hm
  have:=Nat.div_add_mod y (2 ^ (k+6));rw[Nat.mul_comm] at this;omega
 have Cm:v*2 ^ k<2 ^ (k+6):=by rw[Nat.pow_add];exact hvk
 have:=Nat.shiftLeft_add_eq_or_of_lt Cm (y / 2 ^ (k+6));rw[Nat.shiftLeft_eq,<-hd] at this;rw[<-this];simp
section
variable {fu d:Nat}{p:FuncId->Option (Ad->Option A1)}
theorem A0y{c:Int}(hc:0<=c/\c<=255):Ac (CP p) prog fu (d+2) 137 [Bo ZB,.sc (.int .u8 c)]=some ⟨[Aw (if B7 c<64 then B7 c else -1)],[]⟩:=by have e:Ac (CP p) prog fu (d+1) 155 [Bo ZB,.sc (.int .u8 c)]=some ⟨[Aw (Lib.indexByte ZB.data.toList c.toNat.toUInt8)],[]⟩:=rfl;rw[Aqj hc] at e;refine (Pu (p:=p) fu (d+1) _ _).trans ?_;simp only[A4,A3,e]
theorem Ql{a0:ByteArray}{m0 nn:Nat}{l:Aj}{y1:Nat}{y6:Ad}{i n:Nat}{y3 c:Int}(DH:i<n)(hn:n<=4)(hl:Cp l)(hc:l[i]?=some c)(h0:0<=y3)(hm:y3 % ((2 ^ (24-6*i):Nat):Int)=0)(hy:y3<16777216):
  Cv fu (Ac (CP p) prog fu (d+2)) a0 m0 (nn+1) (Ab l) y1 (n:Int) y3 (n:Int) (i:Int) y6=if B7 c<64 then Cv fu (Ac (CP p) prog fu (d+2)) a0 m0 nn (Ab l) y1 (n:Int) (y3+B7 c*((2 ^ (18-6*i):Nat):Int)) (n:Int) ((i+1:Nat):Int) y6 else some ⟨[.own 1 0 [],Aw 2],[]⟩:=by
 have AO:=hl c (List.mem_of_getElem? hc);have hv:=Tn c;have e:=A0y (fu:=fu) (d:=d) (p:=p) AO;have a1:decide ((i:Int)<(n:Int))=true:=by simp;omega
 have a2:decide ((0:Int)<=(i:Int))=true:=by simp
 have a3:(Array.toList (Ab l).data)[Int.toNat (i:Int)]?=some c.toNat.toUInt8:=by
  rw[Jg];show (l.map fun n=>n.toNat.toUInt8)[i]?=_;rw[List.getElem?_map,hc];rfl
 have a4:=Nk AO;have ea:(ByteArray.mk #[65,66,67,68,69,70,71,72,73,74,75,76,77,78,79,80,81,82,83,84,85,86,87,88,89,90,97,98,99,100,101,102,103,104,105,106,107,108,109,110,111,112,113,114,115,116,117,118,119,120,121,122,48,49,50,51,52,53,54,55,56,57,45,95])=ZB:=rfl;rw[It,ea];by_cases hv6:B7 c<64
 ·rw[Cy hv6] at e;have b1:decide (B7 c<0)=false:=by simp;omega
  have b2:wrap .i64 (6*(i:Int))=6*(i:Int):=Bb;have b3:wrap .i64 (18-6*(i:Int))=((18-6*i:Nat):Int):=Bk
  have b4:decide ((0:Int)<=((18-6*i:Nat):Int))=true:=by simp
  have b5:=A55 (y:=y3) (v:=B7 c) (18-6*i) (by omega) h0 (by rw[show 18-6*i+6=24-6*i by omega];exact hm) hy hv.1 hv6
  have b6:wrap .i64 ((i:Int)+1)=((i+1:Nat):Int):=Bk
  rw[Cy hv6];simp only[A4,A3,a1,a2,a3,a4,e,b1,b2,b3,b4,b5,b6]
 ·rw[Bl hv6] at e;have b1:decide ((-1:Int)<0)=true:=rfl;rw[Bl hv6];simp only[A4,A3,a1,a2,a3,a4,e,b1]
theorem A7i{y:Int}(h0:0<=y)(hy:y<16777216):wrap .u8 (Gl .u32 y 16)=y / 65536 % 256:=by
 show wrap .u8 (y.fdiv (2 ^ (min (16:Int).toNat IntKind.u32.bits)))=_;have:(2:Int) ^ (min (16:Int).toNat IntKind.u32.bits)=65536:=by decide
 rw[this,Int.fdiv_eq_ediv_of_nonneg _ (by omega)];simp only[wrap,IntKind.bits,IntKind.signed,RH,Bool.false_eq_true,if_false];omega
theorem Bdh{y:Int}(h0:0<=y)(hy:y<16777216):wrap .u8 (Gl .u32 y 8)=y / 256 % 256:=by
 show wrap .u8 (y.fdiv (2 ^ (min (8:Int).toNat IntKind.u32.bits)))=_;have:(2:Int) ^ (min (8:Int).toNat IntKind.u32.bits)=256:=by decide
 rw[this,Int.fdiv_eq_ediv_of_nonneg _ (by omega)];simp only[wrap,IntKind.bits,IntKind.signed,RH,Bool.false_eq_true,if_false];omega
theorem Bcl{y:Int}(h0:0<=y)(hy:y<16777216):wrap .u8 y=y % 256:=by simp only[wrap,IntKind.bits,IntKind.signed,RH,Bool.false_eq_true,if_false];omega
theorem Ag2{a0:ByteArray}{m0 nn:Nat}{s:ByteArray}{y1:Nat}{y6:Ad}{n:Nat}{y3:Int}(hn:2<=n)(hn4:n<=4)(h0:0<=y3)(hy:y3<16777216):
  Cv fu (Ac (CP p) prog fu (d+2)) a0 m0 (nn+1) s y1 (n:Int) y3 (n:Int) (n:Int) y6=Cw fu (Ac (CP p) prog fu (d+2)) a0 m0 fu s y1 (n:Int) (n-1) (4-n) ((4-n:Nat):Int) 0 y6 [.sc (.int .u8 (y3 / 65536 % 256)),.sc (.int .u8 (y3 / 256 % 256)),.sc (.int .u8 (y3 % 256))]:=by
 have a1:decide ((n:Int)<(n:Int))=false:=by simp
 have e1:=A7i h0 hy;have e2:=Bdh h0 hy;have e3:=Bcl h0 hy;have b1:wrap .i64 ((n:Int)-1)=((n-1:Nat):Int):=Bk
 have b2:decide ((0:Int)<=((n-1:Nat):Int))=true:=by simp
 have b3:decide (Int.toNat ((n-1:Nat):Int)<=3)=true:=by simp;omega
 have b4:0+Int.toNat ((n-1:Nat):Int)*1=n-1:=by rw[Jg];omega
 have b5:3-Int.toNat ((n-1:Nat):Int)=4-n:=by rw[Jg];omega
 rw[It];simp only[A4,A3,a1,e1,e2,e3,b1,b2,b3,b4,b5]
end
section
variable {fu d:Nat}{p:FuncId->Option (Ad->Option A1)}
abbrev grp(A B C:Int):Ad:=[.sc (.int .u8 A),.sc (.int .u8 B),.sc (.int .u8 C)]
abbrev Bdb:Option A1:=some ⟨[.own 1 0 [],Aw 2],[]⟩
theorem A10{call:Aq}{a0 s:ByteArray}{m0 nn y1:Nat}{n i j:Nat}{y7:Ad}{A B C X:Int}(hij:i<j)(hj:j<=4)(h:List.getD (grp A B C) (n+i) .top=.sc (.int .u8 X)){q:Int}:
  Cw fu call a0 m0 (nn+1) s y1 q n j (j:Int) (i:Int) y7 (grp A B C)=if X=0 then Cw fu call a0 m0 nn s y1 q n j (j:Int) ((i+1:Nat):Int) y7 (grp A B C) else Bdb:=by
 have a1:decide ((i:Int)<(j:Int))=true:=by simp;omega
 have a2:(decide ((0:Int)<=(i:Int))&&decide ((i:Int)<(j:Int)))=true:=by simp;omega
 have a2':decide ((0:Int)<=(i:Int))=true:=by simp
 have a3:List.getD (grp A B C) (n+Int.toNat (i:Int)*1) PV.top=.sc (.int .u8 X):=by rw[Jg,J6];exact h
 have a4:wrap .i64 ((i:Int)+1)=((i+1:Nat):Int):=Bk
 rw[Iy];by_cases hx:X=0
 ·subst hx;have a5:((0:Int) != 0)=false:=rfl;rw[Cy rfl];simp only[A4,A3,a1,a2,a2',a3,a4,a5]
 ·have a5:(X != 0)=true:=by simp[hx]
  rw[Bl hx];simp only[A4,A3,a1,a2,a2',a3,a5]
theorem Agf{call:Aq}{a0:ByteArray}{m0 nn:Nat}{n j:Nat}{l acc:Aj}{A B C:Int}(hn:2<=n)(hn4:n<=4)(hl:Cp l)(hnl:n<=l.length)(PD:acc.length<=1000000){st:Nat}:
  Cw fu call a0 m0 (nn+1) (Ab l) acc.length (n:Int) st j (j:Int) (j:Int) (Ae .u8 acc) (grp A B C)=Cu fu call a0 m0 (Ab (l.drop n)) (acc++[A,B,C].take (n-1)).length (Ae .u8 (acc++[A,B,C].take (n-1))):=by
 have a1:decide ((j:Int)<(j:Int))=false:=by simp
 have a2:wrap .i64 ((n:Int)-1)=((n-1:Nat):Int):=Bk
 have a3:(decide (3<=List.length (grp A B C))&&true)=true:=rfl;have a4:decide ((0:Int)<=((n-1:Nat):Int))=true:=by simp
 have a5:decide (Int.toNat ((n-1:Nat):Int)<=3)=true:=by simp;omega
 have a6:Int.toNat ((n-1:Nat):Int)-0=n-1:=by rw[Jg];omega
 have a7:decide (0+(n-1)*1<=List.length (grp A B C))=true:=by simp;omega
 have a8:decide (acc.length*1<=List.length (Ae .u8 acc))=true:=by rw[Al];simp
 have a9:decide (List.length (List.take ((n-1)*1) (List.drop 0 (grp A B C)))=(n-1)*1)=true:=by simp;omega
 have b1:decide ((acc.length+(n-1))*1<=1099511627776)=true:=by simp;omega
 have b2:decide (acc.length+(n-1)<=1099511627776)=true:=by simp;omega
 have b3:List.take (acc.length*1) (Ae .u8 acc)++List.take ((n-1)*1) (List.drop 0 (grp A B C))=Ae .u8 (acc++[A,B,C].take (n-1)):=by
  have e0:Ae .u8 (acc++[A,B,C].take (n-1))=Ae .u8 acc++Ae .u8 ([A,B,C].take (n-1)):=List.flatMap_append;rw[Ji (by rw[Al];omega),e0,Ou,J6]
  congr 1
  match n,hn,hn4 with
  |2,_,_=>rfl
  |3,_,_=>rfl
  |4,_,_=>rfl
 have b4:decide ((0:Int)<=(n:Int))=true:=by simp
 have b5:decide (Int.toNat (n:Int)<=l.length)=true:=by simp;omega
 have b6:(Ab l).extract (Int.toNat (n:Int)) l.length=Ab (l.drop n):=by rw[Jg,Vt hl]
 have b7:acc.length+(n-1)=(acc++[A,B,C].take (n-1)).length:=by simp;omega
 rw[Iy];simp only[A4,A3,Ag,dle,a1,a2,a3,a4,a5,a6,a7,a8,a9,b1,b2,b3,b4,b5,b6];rw[b7]
theorem Anj{a0:ByteArray}(Bq:10<=fu):∀(m:Nat)(l acc:Aj)(nn:Nat),l.length<=4*m->m+1<=nn->Cp l->l.length % 4≠1->acc.length+l.length<=1000000 ->
  Cu fu (Ac (CP p) prog fu (d+2)) a0 nn (Ab l) acc.length (Ae .u8 acc)=some (match R2 l with|none=>⟨[.own 1 0 [],Aw 2],[]⟩|some b=>⟨[.own 1 (acc++b).length (Ae .u8 (acc++b)),Aw 0],[]⟩):=by
 obtain⟨fu,rfl⟩:∃k,fu=k+10:=⟨fu-10,by omega⟩
 have zero:∀(acc:Aj) (nn:Nat),acc.length<=1000000->Cu (fu+10) (Ac (CP p) prog (fu+10) (d+2)) a0 (nn+1) (Ab []) acc.length (Ae .u8 acc)=some ⟨[.own 1 acc.length (Ae .u8 acc),Aw 0],[]⟩:=by
  intro acc nn h;have a1:decide ((((Ab []).size:Nat):Int)>0)=false:=rfl;have a2:decide (acc.length*1<=List.length (Ae .u8 acc))=true:=by rw[Al];simp
  have a3:List.take (acc.length*1) (Ae .u8 acc)=Ae .u8 acc:=Ji (by rw[Al];omega)
  rw[Ja];simp only[A4,A3,a1,a2,a3]
 intro m
 induction m with
 |zero=>
  intro l acc nn hl Gy hB h1 PD;have:l=[]:=List.eq_nil_of_length_eq_zero (by omega);subst this;obtain⟨k,rfl⟩:∃k,nn=k+1:=⟨nn-1,by omega⟩
  rw[zero acc k (by omega)];simp[R2]
 |succ m ih=>
  intro l acc nn hl Gy hB h1 PD;obtain⟨k,rfl⟩:∃k,nn=k+1:=⟨nn-1,by omega⟩
  have head:∀(n:Nat),l.length>0->n=min l.length 4->Cu (fu+10) (Ac (CP p) prog (fu+10) (d+2)) a0 (k+1) (Ab l) acc.length (Ae .u8 acc)=Cv (fu+10) (Ac (CP p) prog (fu+10) (d+2)) a0 k (fu+10) (Ab l) acc.length (n:Int) 0 (n:Int) 0 (Ae .u8 acc):=by
   intro n hp hn;have a1:decide (((l.length:Nat):Int)>0)=true:=by simp;omega
   have a2:(if ((l.length:Nat):Int)<4 then ((l.length:Nat):Int) else 4)=(n:Int):=by split<;>omega
   rw[Ja];simp only[A4,A3,Ag,a1,a2]
  match l,hl,hB,h1,PD,head with
  |[],_,_,_,PD,_=>
   rw[zero acc k (by simpa using PD)];simp[R2]
  |[x],_,_,h1,_,_=>exact absurd rfl h1
  |[a,b],_,hB,_,PD,head=>
   have va:=Tn a;have vb:=Tn b;rw[head 2 (by simp) rfl,show (0:Int)=((0:Nat):Int) from rfl];rw[Ql (c:=a) (by omega) (by omega) hB rfl (by simp) (by simp) (by simp)];unfold R2;by_cases ha:B7 a<64
   ·rw[Cy ha,Ql (c:=b) (by omega) (by omega) hB rfl (by simp<;>omega) (by simp<;>omega) (by simp<;>omega)]
    by_cases hb:B7 b<64
    ·rw[Cy hb,Ag2 (by omega) (by omega) (by simp<;>omega) (by simp<;>omega)]
     rw[show (0:Int)=((0:Nat):Int) from rfl];rw[A10 (X:=(((0:Nat):Int)+B7 a*((2 ^ (18-6*0):Nat):Int)+B7 b*((2 ^ (18-6*1):Nat):Int)) / 256 % 256) (by omega) (by omega) rfl];by_cases hz:B7 b % 16=0
     ·rw[Cy (by simp<;>omega)]
      rw[A10 (X:=(((0:Nat):Int)+B7 a*((2 ^ (18-6*0):Nat):Int)+B7 b*((2 ^ (18-6*1):Nat):Int)) % 256) (by omega) (by omega) rfl];rw[Cy (by simp<;>omega),Agf (by omega) (by omega) hB (by simp) (by omega)]
      rw[Cy ⟨ha,hb,hz⟩];have hr:=ih [] (acc++[B7 a*4+B7 b / 16]) k (by simp) (by omega) (fun x hx=>by cases hx) (by simp) (by simp at PD ⊢;omega)
      have e:(((0:Nat):Int)+B7 a*((2 ^ (18-6*0):Nat):Int)+B7 b*((2 ^ (18-6*1):Nat):Int)) / 65536 % 256=B7 a*4+B7 b / 16:=by simp;omega
      rw[e];refine hr.trans ?_;simp[R2]
     ·rw[Bl (by simp<;>omega),Bl (fun h=>hz h.2.2)]
    ·rw[Bl hb,Bl (fun h=>hb h.2.1)]
   ·rw[Bl ha,Bl (fun h=>ha h.1)]
  |[a,b,c],_,hB,_,PD,head=>
   have va:=Tn a;have vb:=Tn b;have vc:=Tn c;rw[head 3 (by simp) rfl,show (0:Int)=((0:Nat):Int) from rfl];rw[Ql (c:=a) (by omega) (by omega) hB rfl (by simp) (by simp) (by simp)];unfold R2;by_cases ha:B7 a<64
   ·rw[Cy ha,Ql (c:=b) (by omega) (by omega) hB rfl (by simp<;>omega) (by simp<;>omega) (by simp<;>omega)]
    by_cases hb:B7 b<64
    ·rw[Cy hb,Ql (c:=c) (by omega) (by omega) hB rfl (by simp<;>omega) (by simp<;>omega) (by simp<;>omega)]
     by_cases hc:B7 c<64
     ·rw[Cy hc,Ag2 (by omega) (by omega) (by simp<;>omega) (by simp<;>omega)]
      rw[show (0:Int)=((0:Nat):Int) from rfl];rw[A10 (X:=(((0:Nat):Int)+B7 a*((2 ^ (18-6*0):Nat):Int)+B7 b*((2 ^ (18-6*1):Nat):Int)+B7 c*((2 ^ (18-6*2):Nat):Int)) % 256) (by omega) (by omega) rfl];by_cases hz:B7 c % 4=0
      ·rw[Cy (by simp<;>omega),Agf (by omega) (by omega) hB (by simp) (by omega)]
       rw[Cy ⟨ha,hb,hc,hz⟩];have hr:=ih [] (acc++[B7 a*4+B7 b / 16,B7 b % 16*16+B7 c / 4]) k (by simp) (by omega) (fun x hx=>by cases hx) (by simp) (by simp at PD ⊢;omega)
       have e:(((0:Nat):Int)+B7 a*((2 ^ (18-6*0):Nat):Int)+B7 b*((2 ^ (18-6*1):Nat):Int)+B7 c*((2 ^ (18-6*2):Nat):Int)) / 65536 % 256=B7 a*4+B7 b / 16:=by simp;omega
       have e2:(((0:Nat):Int)+B7 a*((2 ^ (18-6*0):Nat):Int)+B7 b*((2 ^ (18-6*1):Nat):Int)+B7 c*((2 ^ (18-6*2):Nat):Int)) / 256 % 256=B7 b % 16*16+B7 c / 4:=by simp;omega
       rw[e,e2];refine hr.trans ?_;simp[R2]
      ·rw[Bl (by simp<;>omega),Bl (fun h=>hz h.2.2.2)]
     ·rw[Bl hc,Bl (fun h=>hc h.2.2.1)]
    ·rw[Bl hb,Bl (fun h=>hb h.2.1)]
   ·rw[Bl ha,Bl (fun h=>ha h.1)]
  |a::b::c::e::t,hl,hB,h1,PD,head=>
   have va:=Tn a;have vb:=Tn b;have vc:=Tn c;have ve:=Tn e;rw[head 4 (by simp) (by simp<;>omega),show (0:Int)=((0:Nat):Int) from rfl]
   rw[Ql (c:=a) (by omega) (by omega) hB rfl (by simp) (by simp) (by simp)];unfold R2;by_cases ha:B7 a<64
   ·rw[Cy ha,Ql (c:=b) (by omega) (by omega) hB rfl (by simp<;>omega) (by simp<;>omega) (by simp<;>omega)]
    by_cases hb:B7 b<64
    ·rw[Cy hb,Ql (c:=c) (by omega) (by omega) hB rfl (by simp<;>omega) (by simp<;>omega) (by simp<;>omega)]
     by_cases hc:B7 c<64
     ·rw[Cy hc,Ql (c:=e) (by omega) (by omega) hB rfl (by simp<;>omega) (by simp<;>omega) (by simp<;>omega)]
      by_cases he:B7 e<64
      ·rw[Cy he,Ag2 (by omega) (by omega) (by simp<;>omega) (by simp<;>omega)]
       rw[show (0:Int)=((4-4:Nat):Int) from rfl,Agf (by omega) (by omega) hB (by simp) (by omega)];rw[Cy ⟨ha,hb,hc,he⟩];have hr:=ih t (acc++[B7 a*4+B7 b / 16,B7 b % 16*16+B7 c / 4,B7 c % 4*64+B7 e]) k (by simp at hl;omega) (by omega) (fun x hx=>hB x (by simp[hx])) (by simp at h1;omega) (by simp at PD ⊢;omega)
       have e1:(((4-4:Nat):Int)+B7 a*((2 ^ (18-6*0):Nat):Int)+B7 b*((2 ^ (18-6*1):Nat):Int)+B7 c*((2 ^ (18-6*2):Nat):Int)+B7 e*((2 ^ (18-6*3):Nat):Int)) / 65536 % 256=B7 a*4+B7 b / 16:=by simp;omega
       have e2:(((4-4:Nat):Int)+B7 a*((2 ^ (18-6*0):Nat):Int)+B7 b*((2 ^ (18-6*1):Nat):Int)+B7 c*((2 ^ (18-6*2):Nat):Int)+B7 e*((2 ^ (18-6*3):Nat):Int)) / 256 % 256=B7 b % 16*16+B7 c / 4:=by simp;omega
       have e3:(((4-4:Nat):Int)+B7 a*((2 ^ (18-6*0):Nat):Int)+B7 b*((2 ^ (18-6*1):Nat):Int)+B7 c*((2 ^ (18-6*2):Nat):Int)+B7 e*((2 ^ (18-6*3):Nat):Int)) % 256=B7 c % 4*64+B7 e:=by simp;omega
       rw[e1,e2,e3];refine hr.trans ?_;cases R2 t<;>simp
      ·rw[Bl he,Bl (fun h=>he h.2.2.2)]
     ·rw[Bl hc,Bl (fun h=>hc h.2.2.1)]
    ·rw[Bl hb,Bl (fun h=>hb h.2.1)]
   ·rw[Bl ha,Bl (fun h=>ha h.1)]
theorem Arq:∀{l:Aj},l.length % 4=1->R2 l=none
 |[],h=>by simp at h
 |[_],_=>rfl
 |[_,_],h=>by simp at h
 |[_,_,_],h=>by simp at h
 |p::q::r::s::t,h=>by
  have:=Arq (l:=t) (by simp at h;omega)
  unfold R2;rw[this];simp
theorem Azc{l:Aj}(hB:Cp l)(hl:l.length<=1000000)(Bq:10<=fu)(IX:l.length<=fu):Ac (CP p) prog fu (d+3) 121 [Bo (Ab l)]=some (match R2 l with|none=>⟨[.own 1 0 [],Aw 2],[]⟩|some b=>⟨[.own 1 b.length (Ae .u8 b),Aw 0],[]⟩):=by
 rw[T9];have a0:Int.tmod ((l.length:Nat):Int) 4=((l.length % 4:Nat):Int):=by rw[Int.tmod_eq_emod_of_nonneg (by omega)];omega
 by_cases h1:l.length % 4=1
 ·have a1:(((l.length % 4:Nat):Int)==1)=true:=by rw[h1];rfl
  rw[Arq h1];simp only[A4,A3,Ag,a0,a1]
 ·have a1:(((l.length % 4:Nat):Int)==1)=false:=by simp;omega
  have a2:Int.tdiv ((l.length:Nat):Int) 4=((l.length / 4:Nat):Int):=by rw[Int.tdiv_eq_ediv_of_nonneg (by omega)];omega
  have a3:wrap .i64 ((l.length / 4:Nat):Int)=((l.length / 4:Nat):Int):=Bb;have a4:wrap .i64 (((l.length / 4:Nat):Int)*3)=((l.length / 4:Nat):Int)*3:=Bb;have a5:wrap .i64 (((l.length / 4:Nat):Int)*3+2)=((l.length / 4:Nat):Int)*3+2:=Bb;have a6:decide ((0:Int)<=((l.length / 4:Nat):Int)*3+2)=true:=by simp;omega
  have a7:decide ((((l.length / 4:Nat):Int)*3+2)*1<=1099511627776)=true:=by simp;omega
  have a8:decide (((l.length / 4:Nat):Int)*3+2<=1099511627776)=true:=by simp;omega
  have hd:=Anj (d:=d) (p:=p) (a0:=Ab l) Bq (l.length / 4+1) l [] fu (by omega) (by omega) hB h1 (by simp<;>omega)
  simp only[A4,A3,Ag,a0,a1,a2,a3,a4,a5,a6,a7,a8];refine hd.trans ?_;cases R2 l<;>simp
end
theorem dT{q:Prop}[Decidable q](h:q):decide q=true:=decide_eq_true h
theorem dF{q:Prop}[Decidable q](h:¬q):decide q=false:=decide_eq_false h
theorem bT{q:Prop}[Decidable q](h:q):(!decide q)=false:=by simp[h]
theorem bF{q:Prop}[Decidable q](h:¬q):(!decide q)=true:=by simp[h]
def okB(n i:Nat)(c:Int):Bool:=ltB c||(c==45&&decide (0<i)&&decide (i+1<n))
def HR(n:Nat):Nat->Aj->Bool
 |_,[]=>true
 |i,c::r=>okB n i c&&HR n (i+1) r
theorem VA(n i:Nat)(c:Int)(r:Aj):HR n i (c::r)=(okB n i c&&HR n (i+1) r):=rfl
theorem Aq9:ltB 45=false:=rfl
theorem Ai6(n:Nat):∀(r:Aj)(i:Nat),i+r.length=n->HR n i r=(r.all (fun x=>ltB x||x==45) && !(decide (i=0)&&r.head?==some 45) && !(r.getLast?==some 45))
 |[],i,_=>by simp[HR]
 |[c],i,h=>by
  simp only[On,LP] at h;unfold HR okB;by_cases hc:c=45
  ·subst hc;have:¬i+1<n:=by omega
   simp[HR,Aq9,this]
  ·have hcb:(c==45)=false:=by simp[hc]
   simp[HR,hcb]
 |c::x::r,i,h=>by
  have ih:=Ai6 n (x::r) (i+1) (by simp at h ⊢;omega)
  have hl:(c::x::r).getLast?=(x::r).getLast?:=by simp
  unfold HR;rw[ih,hl];have h1:i+1<n:=by simp at h;omega
  unfold okB;by_cases hc:c=45
  ·subst hc;by_cases hi:i=0
   ·subst hi;simp[Aq9]
   ·have:0<i:=by omega
    simp[Aq9,h1,hi,this]
  ·have hcb:(c==45)=false:=by simp[hc]
   simp[hcb,Bool.and_assoc]
theorem Awn{l:Aj}(h1:1<=l.length)(h2:l.length<=63):Kr l=HR l.length 0 l:=by rw[Ai6 _ l 0 (by simp)];unfold Kr;rw[dT h1,dT h2];cases l.all (fun x=>ltB x||x==45)<;>cases (l.head?==some 45)<;>cases (l.getLast?==some 45)<;>rfl
section
variable {fu d:Nat}{p:FuncId->Option (Ad->Option A1)}
theorem Add{call:Aq}{a0:ByteArray}{l:Aj}(hB:Cp l)(hs:l.length<=63):∀(r:Aj)(i nn:Nat),l.drop i=r->r.length+1<=nn ->
  Ec fu call a0 nn (Ab l) (l.length:Int) (i:Int)=some ⟨[C9 (HR l.length i r)],[]⟩
 |[],i,nn,hd,hn=>by
  obtain⟨k,rfl⟩:∃k,nn=k+1:=⟨nn-1,by omega⟩
  have hi:=drop_nil hd;have a1:decide ((i:Int)<(l.length:Int))=false:=by simp;omega
  rw[Oy];simp only[A4,A3,a1];rfl
 |c::r,i,nn,hd,hn=>by
  obtain⟨k,rfl⟩:∃k,nn=k+1:=⟨nn-1,by omega⟩
  obtain⟨hi,hc,OL⟩:=Dx hd;have ih:=Add (call:=call) (a0:=a0) hB hs r (i+1) k OL (by simp at hn;omega)
  have AO:=hB c (List.mem_of_getElem? hc);have a1:decide ((i:Int)<(l.length:Int))=true:=by simp;omega
  have a2:decide ((0:Int)<=(i:Int))=true:=by simp
  have a3:(Array.toList (Ab l).data)[Int.toNat (i:Int)]?=some c.toNat.toUInt8:=by
   rw[Jg];show (l.map fun n=>n.toNat.toUInt8)[i]?=_;rw[List.getElem?_map,hc];rfl
  have a4:=Nk AO;have a5:wrap .i64 ((i:Int)+1)=((i+1:Nat):Int):=Bk
  have a6:wrap .i64 ((l.length:Int)-1)=(l.length:Int)-1:=Bb
  have good:okB l.length i c=true->(Ec fu call a0 k (Ab l) (l.length:Int) ((i+1:Nat):Int)=some ⟨[C9 (HR l.length i (c::r))],[]⟩):=by
   intro h;rw[ih,VA,h,WU]
  have bad:okB l.length i c=false->some (A1.mk [PV.sc (.bool false)] [])=some ⟨[C9 (HR l.length i (c::r))],[]⟩:=by
   intro h;rw[VA,h,RH]
  rw[Oy];by_cases hA:97<=c/\c<=122
  ·have q1:=dT hA.1;have q2:=dT hA.2;have q3:(c==45)=false:=by simp;omega
   have q4:=dT (q:=(48:Int)<=c) (by omega);have q5:=bF (q:=c<=57) (by omega);simp only[A4,A3,a1,a2,a3,a4,a5,a6,Ag,q1,q2,q3,q4,q5];exact good (by unfold okB ltB;simp[hA])
  by_cases hD:48<=c/\c<=57
  ·have q1:=dF (q:=(97:Int)<=c) (by omega);have q2:=dT (q:=c<=122) (by omega);have q3:(c==45)=false:=by simp;omega
   have q4:=dT hD.1;have q5:=bT hD.2;simp only[A4,A3,a1,a2,a3,a4,a5,a6,Ag,q1,q2,q3,q4,q5];exact good (by unfold okB ltB Z9;simp[hD])
  have Cm:ltB c=false:=by
   unfold ltB Z9;simp;exact⟨fun h=>by omega,fun h=>by omega⟩
  by_cases hM:c=45
  ·subst hM;have q1:decide ((97:Int)<=45)=false:=rfl;have q2:decide ((45:Int)<=122)=true:=rfl;have q3:((45:Int)==45)=true:=rfl;have q4:decide ((48:Int)<=45)=false:=rfl;have q5:(!decide ((45:Int)<=57))=false:=rfl;by_cases h0:0<i
   ·have q6:=dT (q:=(i:Int)>0) (by omega);by_cases h1:i+1<l.length
    ·have q7:=bT (q:=(i:Int)<(l.length:Int)-1) (by omega);simp only[A4,A3,a1,a2,a3,a4,a5,a6,Ag,q1,q2,q3,q4,q5,q6,q7];exact good (by unfold okB;simp[h0,h1])
    ·have q7:=bF (q:=(i:Int)<(l.length:Int)-1) (by omega);simp only[A4,A3,a1,a2,a3,a4,a5,a6,Ag,q1,q2,q3,q4,q5,q6,q7];exact bad (by unfold okB;simp[h1,Cm])
   ·have q6:=dF (q:=(i:Int)>0) (by omega);simp only[A4,A3,a1,a2,a3,a4,a5,a6,Ag,q1,q2,q3,q4,q5,q6];exact bad (by unfold okB;simp[h0,Cm])
  have q3:(c==45)=false:=by simp[hM]
  have Ajv:okB l.length i c=false:=by unfold okB;simp[Cm,hM]
  by_cases h97:97<=c
  ·have q1:=dT h97;have q2:=dF (q:=c<=122) (by omega);have q4:=dT (q:=(48:Int)<=c) (by omega);have q5:=bF (q:=c<=57) (by omega);simp only[A4,A3,a1,a2,a3,a4,a5,a6,Ag,q1,q2,q3,q4,q5];exact bad Ajv
  ·have q1:=dF h97;have q2:=dT (q:=c<=122) (by omega);by_cases h48:48<=c
   ·have q4:=dT h48;have q5:=bF (q:=c<=57) (by omega);simp only[A4,A3,a1,a2,a3,a4,a5,a6,Ag,q1,q2,q3,q4,q5];exact bad Ajv
   ·have q4:=dF h48;have q5:=bT (q:=c<=57) (by omega);simp only[A4,A3,a1,a2,a3,a4,a5,a6,Ag,q1,q2,q3,q4,q5];exact bad Ajv
theorem Avd{l:Aj}(hB:Cp l)(Bq:100<=fu):Ac (CP p) prog fu (d+1) 167 [Bo (Ab l)]=some ⟨[C9 (Kr l)],[]⟩:=by
 rw[DS];by_cases h1:1<=l.length
 ·by_cases h2:l.length<=63
  ·have a1:decide (((l.length:Nat):Int)<1)=false:=by simp;omega
   have a2:decide (((l.length:Nat):Int)>63)=false:=by simp;omega
   rw[Awn h1 h2];simp only[A4,A3,Ag,a1,a2];exact Add hB h2 l 0 fu rfl (by omega)
  ·have a1:decide (((l.length:Nat):Int)<1)=false:=by simp;omega
   have a2:decide (((l.length:Nat):Int)>63)=true:=by simp;omega
   have e:Kr l=false:=by unfold Kr;simp[h2]
   rw[e];simp only[A4,A3,Ag,a1,a2]
 ·have a1:decide (((l.length:Nat):Int)<1)=true:=by simp;omega
  have e:Kr l=false:=by unfold Kr;simp[h1]
  rw[e];simp only[A4,A3,Ag,a1]
theorem Ara(l cs:List UInt8):(Lib.trimS l cs==[])=l.all (cs.contains ·):=by
 have key:∀(q:UInt8->Bool) (m:List UInt8),m.dropWhile q=[]↔m.all q=true:=by
  intro q m
  induction m with
  |nil=>simp
  |cons x m ih=>
   by_cases hx:q x=true
   ·rw[List.dropWhile_cons_of_pos hx,ih];simp[hx]
   ·rw[List.dropWhile_cons_of_neg hx];simp[hx]
 unfold Lib.trimS Lib.trimLeftS Lib.trimRightS;rw[Bool.eq_iff_iff,beq_iff_eq,key,List.all_reverse,<-key,key,List.all_eq_true]
 have h2:∀(q:UInt8->Bool) (m:List UInt8),(m.dropWhile q).all q=true↔m.all q=true:=by
  intro q m
  induction m with
  |nil=>simp
  |cons x m ih=>
   by_cases hx:q x=true
   ·rw[List.dropWhile_cons_of_pos hx,ih];simp[hx]
   ·rw[List.dropWhile_cons_of_neg hx]
 rw[<-List.all_eq_true,h2,List.all_reverse]
def Yu:ByteArray:=⟨#[48,49,50,51,52,53,54,55,56,57]⟩
theorem A03:∀n:Fin 256,Yu.data.toList.contains (n.val:Int).toNat.toUInt8=Z9 (n.val:Int):=by decide +kernel
theorem Azw{l:Aj}(h:Cp l):((l.map fun n=>n.toNat.toUInt8).all (Yu.data.toList.contains ·))=l.all Z9:=by
 induction l with
 |nil=>rfl
 |cons c r ih=>
  obtain⟨hc,hr⟩:=Dk h;obtain⟨n,rfl⟩:=Int.eq_ofNat_of_zero_le hc.1;rw[U7,List.all_cons,List.all_cons,ih hr]
  congr 1
  exact A03 ⟨n,by omega⟩
theorem Ayw{l:Aj}(hB:Cp l)(hs:l.length<=1000000):∃x,Ac (CP p) prog fu (d+1) 168 [Bo (Ab l),Bo Yu]=some ⟨[Bo x],[]⟩/\(Array.toList x.data==Array.toList (ByteArray.mk #[]).data)=l.all Z9:=by
 refine⟨⟨(Lib.trimS (Ab l).data.toList Yu.data.toList).toArray⟩,?_,?_⟩
 ·have e:Ac (CP p) prog fu (d+1) 168 [Bo (Ab l),Bo Yu]=Adn [Bo (Ab l),Bo Yu]:=rfl;rw[e];unfold Adn
  have:(Nat.ble Yu.size 1000&&Yu.data.toList.all (fun b=>decide (b.toNat<128))&&decide ((Ab l).size<=1000000000))=true:=by
   rw[Ag];have h1:(Nat.ble Yu.size 1000&&Yu.data.toList.all (fun b=>decide (b.toNat<128)))=true:=by decide +kernel
   rw[h1,dT (q:=l.length<=1000000000) (by omega)];rfl
  simp only[this,cond_true]
 ·show (Lib.trimS (Ab l).data.toList Yu.data.toList==[])=_;rw[Ara];exact Azw hB
theorem Xu(c:Int):∀{l:Aj},Cp l->∀x∈Ay c l,Cp x/\x.length<=l.length
 |[],_,x,hx=>by simp[Ay] at hx;subst hx;exact⟨(fun y hy=>nomatch hy),Cn _⟩
 |a::r,h,x,hx=>by
  obtain⟨ha,hr⟩:=Dk h;have ih:=Xu c hr;unfold Ay at hx;split at hx
  ·rcases List.mem_cons.1 hx with rfl|hx
   ·exact⟨(fun y hy=>nomatch hy),Nat.zero_le _⟩
   ·exact⟨(ih x hx).1,Nat.le_succ_of_le (ih x hx).2⟩
  ·cases hs:Ay c r with
   |nil=>exact absurd hs (Qt c r)
   |cons b t=>
    rw[hs] at hx ih;rcases List.mem_cons.1 hx with rfl|hx
    ·obtain⟨q1,q2⟩:=ih b (by simp);refine⟨fun y hy=>?_,by simp;omega⟩
     rcases List.mem_cons.1 hy with rfl|hy
     ·exact ha
     ·exact q1 y hy
    ·exact⟨(ih x (by simp[hx])).1,Nat.le_succ_of_le (ih x (by simp[hx])).2⟩
theorem Adj{a0:ByteArray}(Bq:200<=fu){ls:List Aj}(hB:∀x∈ls,Cp x/\x.length<=1000)(h0:ls≠[])(hN:ls.length<=1000):∀(r:List Aj) (i nn:Nat),ls.drop i=r->r.length+1<=nn ->
  Je fu (Ac (CP p) prog fu (d+1)) a0 nn ls.length ls.length (ls.length:Int) (i:Int) (ls.map Wh)=some ⟨[Aw (if r.all Kr=false then 2 else if (ls.getLastD []).all Z9=true then 2 else 0)],[]⟩
 |[],i,nn,hd,hn=>by
  obtain⟨k,rfl⟩:∃k,nn=k+1:=⟨nn-1,by omega⟩
  have hi:=drop_nil hd;have Aas:0<ls.length:=List.length_pos_iff.2 h0;have a1:decide ((i:Int)<(ls.length:Int))=false:=by simp;omega
  have a2:wrap .i64 ((ls.length:Int)-1)=((ls.length-1:Nat):Int):=Bk
  have a3:decide ((0:Int)<=((ls.length-1:Nat):Int))=true:=by simp
  have a4:decide (((ls.length-1:Nat):Int)<(ls.length:Int))=true:=by simp;omega
  have NT:ls.getLastD []=ls[ls.length-1]'(by omega):=by
   rw[List.getLastD_eq_getLast?,List.getLast?_eq_getElem?,List.getElem?_eq_getElem (by omega)];rfl
  have a5:List.getD (ls.map Wh) (0+Int.toNat ((ls.length-1:Nat):Int)*1) PV.top=Bo (Ab (ls.getLastD [])):=by
   rw[Jg,Ig,J6,List.getD_eq_getElem?_getD,List.getElem?_map,List.getElem?_eq_getElem (by omega),NT];rfl
  have hm:=hB (ls.getLastD []) (by rw[NT];exact List.getElem_mem _)
  obtain⟨x,e,hx⟩:=Ayw (fu:=fu) (d:=d) (p:=p) hm.1 (by omega);have e2:Ac (CP p) prog fu (d+1) 168 [Bo (Ab (ls.getLastD [])),Bo ⟨#[48,49,50,51,52,53,54,55,56,57]⟩]=some ⟨[Bo x],[]⟩:=e;rw[Re];cases hq:(ls.getLastD []).all Z9
  ·rw[hq] at hx;simp only[A4,A3,a1,a2,a3,a4,a5,e2,hx,List.all_nil,Bool.true_eq_false,if_false,Bool.false_eq_true]
  ·rw[hq] at hx;simp only[A4,A3,a1,a2,a3,a4,a5,e2,hx,List.all_nil,Bool.true_eq_false,if_false,if_true]
 |x::r,i,nn,hd,hn=>by
  obtain⟨k,rfl⟩:∃k,nn=k+1:=⟨nn-1,by omega⟩
  obtain⟨hi,hc,OL⟩:=Dx hd;have ih:=Adj (a0:=a0) Bq hB h0 hN r (i+1) k OL (by simp at hn;omega)
  have hm:=hB x (List.mem_of_getElem? hc);have e:Ac (CP p) prog fu (d+1) 167 [Bo (Ab x)]=_:=Avd (fu:=fu) (d:=d) (p:=p) hm.1 (by omega);have a1:decide ((i:Int)<(ls.length:Int))=true:=by simp;omega
  have a2:decide ((0:Int)<=(i:Int))=true:=by simp
  have a5:List.getD (ls.map Wh) (0+Int.toNat (i:Int)*1) PV.top=Bo (Ab x):=by
   rw[Jg,Ig,J6,List.getD_eq_getElem?_getD,List.getElem?_map,hc];rfl
  have a6:wrap .i64 ((i:Int)+1)=((i+1:Nat):Int):=Bk
  rw[Re];cases hq:Kr x
  ·rw[hq] at e;have:((x::r).all Kr=false):=by simp[hq]
   rw[Cy this];simp only[A4,A3,a1,a2,a5,e,Km]
  ·rw[hq] at e;have:(x::r).all Kr=r.all Kr:=by simp[hq]
   rw[this];simp only[A4,A3,a1,a2,a5,e,Hn,a6];exact ih
theorem A1j{l:Aj}(hB:Cp l)(hs:l.length<=1000000)(Bq:200<=fu):Ac (CP p) prog fu (d+6) 143 [Bo (Ab l)]=some ⟨[Aw (Sv l)],[]⟩:=by
 rw[KY];unfold Sv;by_cases h:100<l.length
 ·have a1:decide (((l.length:Nat):Int)>100)=true:=by simp;omega
  rw[Cy h];simp only[A4,A3,Ag,a1]
 ·have a1:decide (((l.length:Nat):Int)>100)=false:=by simp;omega
  have e:Ac (CP p) prog fu (d+5) 166 [Bo (Ab l),Bo ⟨#[46]⟩]=_:=Avo (fu:=fu) (d:=d) (p:=p) (c:=46) (by omega) hB (by omega) (by omega);have hn:=Zw 46 l;have hd:=Adj (a0:=Ab l) (fu:=fu) (d:=d+4) (p:=p) (by omega) (ls:=Ay 46 l) (fun x hx=>⟨(Xu 46 hB x hx).1,by have:=(Xu 46 hB x hx).2;omega⟩) (Qt 46 l) (by omega) (Ay 46 l) 0 fu rfl (by omega)
  rw[Bl h];simp only[A4,A3,Ag,a1,e];exact hd
theorem At7(s:Bool):Ac (CP p) prog fu (d+1) 144 [C9 s]=some ⟨[Aw (dfl s)],[]⟩:=by rw[Yj];cases s<;>simp only[A4,A3]<;>rfl
theorem GN(c:Int):Z9 c=true↔48<=c/\c<=57:=by unfold Z9;simp
theorem UV{call:Aq}{a0:ByteArray}{l:Aj}(hB:Cp l)(hs:l.length<=5):∀(r:Aj)(i nn:Nat)(n:Int),l.drop i=r->r.length+1<=nn->0<=n->n<10 ^ i ->
  G5 fu call a0 nn (Ab l) n (l.length:Int) (i:Int)=some (if r.all Z9=true then ⟨[Aw (r.foldl (fun n x=>10*n+(x-48)) n),C9 (decide (r.foldl (fun n x=>10*n+(x-48)) n<=65535))],[]⟩ else ⟨[Aw 0,C9 false],[]⟩)
 |[],i,nn,n,hd,hn,h0,h1=>by
  obtain⟨k,rfl⟩:∃k,nn=k+1:=⟨nn-1,by omega⟩
  have hi:=drop_nil hd;have a1:decide ((i:Int)<(l.length:Int))=false:=by simp;omega
  rw[My];simp only[A4,A3,a1];rfl
 |c::r,i,nn,n,hd,hn,h0,h1=>by
  obtain⟨k,rfl⟩:∃k,nn=k+1:=⟨nn-1,by omega⟩
  obtain⟨hi,hc,OL⟩:=Dx hd;have AO:=hB c (List.mem_of_getElem? hc)
  have hp:(10:Int) ^ i<=10 ^ 4:=by
   have h:=Nat.pow_le_pow_right (n:=10) (by omega) (show i<=4 by omega)
   exact_mod_cast h
  have hp2:(10:Int) ^ (i+1)=10 ^ i*10:=Int.pow_succ ..;have a1:decide ((i:Int)<(l.length:Int))=true:=by simp;omega
  have a2:decide ((0:Int)<=(i:Int))=true:=by simp
  have a3:(Array.toList (Ab l).data)[Int.toNat (i:Int)]?=some c.toNat.toUInt8:=by
   rw[Jg];show (l.map fun n=>n.toNat.toUInt8)[i]?=_;rw[List.getElem?_map,hc];rfl
  have a4:=Nk AO;rw[My];by_cases hq:48<=c/\c<=57
  ·have q1:=dF (q:=c<48) (by omega);have q2:=dF (q:=c>57) (by omega);have a5:wrap .i64 (10*n)=10*n:=Bb;have a6:wrap .u8 (c-48)=c-48:=Nw (by omega) (by omega);have a7:wrap .i64 (c-48)=c-48:=Bb;have a8:wrap .i64 (10*n+(c-48))=10*n+(c-48):=Bb;have a9:wrap .i64 ((i:Int)+1)=((i+1:Nat):Int):=Bk
   have ih:=UV (call:=call) (a0:=a0) hB hs r (i+1) k (10*n+(c-48)) OL (by simp at hn;omega) (by omega) (by omega)
   have e:(c::r).all Z9=r.all Z9:=by rw[List.all_cons,(GN c).2 hq,WU]
   simp only[A4,A3,a1,a2,a3,a4,q1,q2,a5,a6,a7,a8,a9];rw[ih,e];rfl
  ·have e:(c::r).all Z9=false:=by
    have:Z9 c=false:=by
     cases hb:Z9 c
     ·rfl
     ·exact absurd ((GN c).1 hb) hq
    rw[List.all_cons,this,RH]
   rw[e];by_cases h48:c<48
   ·have q1:=dT h48;simp only[A4,A3,a1,a2,a3,a4,q1,Bool.false_eq_true,if_false]
   ·have q1:=dF h48;have q2:=dT (q:=c>57) (by omega);simp only[A4,A3,a1,a2,a3,a4,q1,q2,Bool.false_eq_true,if_false]
theorem Ay8{l:Aj}(hB:Cp l)(Bq:100<=fu):Ac (CP p) prog fu (d+1) 145 [Bo (Ab l)]=some (if Ju l=true then ⟨[Aw (DC l),C9 (decide (DC l<=65535))],[]⟩ else ⟨[Aw 0,C9 false],[]⟩):=by
 rw[CS];by_cases h1:1<=l.length
 ·by_cases h2:l.length<=5
  ·have a1:decide (((l.length:Nat):Int)<1)=false:=by simp;omega
   have a2:decide (((l.length:Nat):Int)>5)=false:=by simp;omega
   cases l with
   |nil=>simp at h1
   |cons c r=>
    have AO:=hB c (by simp);have a3:(Array.toList (Ab (c::r)).data)[0]?=some c.toNat.toUInt8:=rfl;have a4:=Nk AO;by_cases h0:c=48
    ·subst h0;have e:Ju (48::r)=false:=by unfold Ju;simp
     have q:((48:Int)==48)=true:=rfl;rw[e];simp only[A4,A3,Ag,a1,a2,a3,a4,q,Bool.false_eq_true,if_false]
    ·have q:(c==48)=false:=by simp[h0]
     have e:Ju (c::r)=(c::r).all Z9:=by
      unfold Ju;rw[dT h1,dT h2];simp[h0]
     have hl:=UV (call:=Ac (CP p) prog fu d) (fu:=fu) (a0:=Ab (c::r)) hB h2 (c::r) 0 fu 0 rfl (by omega) (by omega) (by decide);rw[e];simp only[A4,A3,Ag,a1,a2,a3,a4,q];exact hl
  ·have a1:decide (((l.length:Nat):Int)<1)=false:=by simp;omega
   have a2:decide (((l.length:Nat):Int)>5)=true:=by simp;omega
   have e:Ju l=false:=by unfold Ju;simp[h2]
   rw[e];simp only[A4,A3,Ag,a1,a2,Bool.false_eq_true,if_false]
 ·have a1:decide (((l.length:Nat):Int)<1)=true:=by simp;omega
  have e:Ju l=false:=by unfold Ju;simp[h1]
  rw[e];simp only[A4,A3,Ag,a1,Bool.false_eq_true,if_false]
theorem A3e{l:Aj}(hB:Cp l)(hs:l.length<=1000000)(Bq:200<=fu):∃o1 o2 o3,Ac (CP p) prog fu (d+7) 122 [Bo (Ab l)]=some ⟨[.agg [C9 o1,Bo o2,Aw o3],Aw (Gd l)],[]⟩:=by
  have hsp:=Ax3 (fu:=fu) (d:=d+2) (p:=p) hB (w:=[104,116,116,112,115,58,47,47]) (fun x hx=>by simp at hx;omega)
  have U5:=Ax3 (fu:=fu) (d:=d+2) (p:=p) hB (w:=[104,116,116,112,58,47,47]) (fun x hx=>by simp at hx;omega)
  have e1:Ac (CP p) prog fu (d+6) 141 [Bo (Ab l),Bo ⟨#[104,116,116,112,115,58,47,47]⟩]=_:=hsp
  have e2:Ac (CP p) prog fu (d+6) 141 [Bo (Ab l),Bo ⟨#[104,116,116,112,58,47,47]⟩]=_:=U5
  have tail:∀(s:Bool) (r:Aj),Cp r->r.length<=1000000->∃o1 o2 o3,(Bm (Ac (CP p) prog fu (d+6) 142 [PV.sc (Value.string (Ab r)),PV.sc (Value.string ⟨#[58]⟩)]) fun x17 x18=>
    Ap (x18) <|
    Ai (x17) fun x19 x20=>
    Bv (x19) fun x21=>
    Ai (x20) fun x22 x23=>
    Bv (x22) fun x24=>
    Ai (x23) fun x25 x26=>
    Bu (x25) fun x27=>
    Ap (x26) <|
    Bm (Ac (CP p) prog fu (d+6) 143 [PV.sc (Value.string x21)]) fun x28 x29=>
    Ap (x29) <|
    Ai (x28) fun x30 x31=>
    Bc (IntKind.i64) (x30) fun x32=>
    Ap (x31) <|
    Ax (x32 != (0:Int))
     (
     some (A1.mk [PV.agg [PV.sc (Value.bool false),PV.sc (Value.string ⟨#[]⟩),PV.sc (Value.int IntKind.i64 (0:Int))],PV.sc (Value.int IntKind.i64 x32)] []))
     (
     Bm (Ac (CP p) prog fu (d+6) 144 [PV.sc (Value.bool s)]) fun x33 x34=>
     Ap (x34) <|
     Ai (x33) fun x35 x36=>
     Bc (IntKind.i64) (x35) fun x37=>
     Ap (x36) <|
     Ax (x27)
      (
      Bm (Ac (CP p) prog fu (d+6) 145 [PV.sc (Value.string x24)]) fun x38 x39=>
      Ap (x39) <|
      Ai (x38) fun x40 x41=>
      Bc (IntKind.i64) (x40) fun x42=>
      Ai (x41) fun x43 x44=>
      Bu (x43) fun x45=>
      Ap (x44) <|
      Ax (!x45)
       (
       some (A1.mk [PV.agg [PV.sc (Value.bool false),PV.sc (Value.string ⟨#[]⟩),PV.sc (Value.int IntKind.i64 (0:Int))],PV.sc (Value.int IntKind.i64 (2:Int))] []))
       (
       Ax (x42==x37)
        (
        some (A1.mk [PV.agg [PV.sc (Value.bool false),PV.sc (Value.string ⟨#[]⟩),PV.sc (Value.int IntKind.i64 (0:Int))],PV.sc (Value.int IntKind.i64 (2:Int))] []))
        (
        some (A1.mk [PV.agg [PV.sc (Value.bool s),PV.sc (Value.string x21),PV.sc (Value.int IntKind.i64 x42)],PV.sc (Value.int IntKind.i64 (0:Int))] []))))
      (
      some (A1.mk [PV.agg [PV.sc (Value.bool s),PV.sc (Value.string x21),PV.sc (Value.int IntKind.i64 x37)],PV.sc (Value.int IntKind.i64 (0:Int))] []))))=some ⟨[.agg [C9 o1,Bo o2,Aw o3],Aw (Yb s r)],[]⟩:=by
    intro s r hr hrl
    have c1:Ac (CP p) prog fu (d+6) 142 [Bo (Ab r),Bo ⟨#[58]⟩]=_:=A3s (fu:=fu) (d:=d+2) (p:=p) (c:=58) (by omega) hr hrl
    have Wi:=ME 58 r
    have hbB:Cp (Bh 58 r):=by rw[Q2];exact fun x hx=>hr x (List.mem_of_mem_take hx)
    have hdB:Cp (r.drop ((Bh 58 r).length+1)):=fun x hx=>hr x (List.mem_of_mem_drop hx)
    have c2:Ac (CP p) prog fu (d+6) 143 [Bo (Ab (Bh 58 r))]=_:=A1j (fu:=fu) (d:=d) (p:=p) hbB (by omega) Bq
    have c3:Ac (CP p) prog fu (d+6) 144 [C9 s]=_:=At7 (fu:=fu) (d:=d+5) (p:=p) s
    have c4:Ac (CP p) prog fu (d+6) 145 [Bo (Ab (r.drop ((Bh 58 r).length+1)))]=_:=Ay8 (fu:=fu) (d:=d+5) (p:=p) hdB (by omega)
    unfold Yb
    by_cases hh:Sv (Bh 58 r)=0
    · have b1:(Sv (Bh 58 r) != 0)=false:=by simp[hh]
      simp only[ne_eq,hh,not_true_eq_false,if_false]
      by_cases hw:(Bh 58 r).length<r.length
      · rw[dT hw] at c1
        rw[Bl (show ¬(Bh 58 r).length=r.length by omega)]
        by_cases hp:Ju (r.drop ((Bh 58 r).length+1))=true
        · rw[Cy hp] at c4
          by_cases hv:DC (r.drop ((Bh 58 r).length+1))<=65535
          · rw[dT hv] at c4
            by_cases hdp:DC (r.drop ((Bh 58 r).length+1))=dfl s
            · have b2:(DC (r.drop ((Bh 58 r).length+1))==dfl s)=true:=by simp[hdp]
              rw[Bl (by rintro⟨_,_,h⟩;exact h hdp)]
              exact⟨_,_,_,by simp only[A4,A3,c1,c2,hh,c3,c4,b2,Hn,show ((0:Int) != 0)=false from rfl];rfl⟩
            · have b2:(DC (r.drop ((Bh 58 r).length+1))==dfl s)=false:=by simp[hdp]
              rw[Cy ⟨hp,hv,hdp⟩]
              exact⟨_,_,_,by simp only[A4,A3,c1,c2,hh,c3,c4,b2,Hn,show ((0:Int) != 0)=false from rfl];rfl⟩
          · rw[dF hv] at c4
            rw[Bl (by rintro⟨_,h,_⟩;exact hv h)]
            exact⟨_,_,_,by simp only[A4,A3,c1,c2,hh,c3,c4,Km,show ((0:Int) != 0)=false from rfl];rfl⟩
        · rw[Bl hp] at c4
          rw[Bl (by rintro⟨h,_,_⟩;exact hp h)]
          exact⟨_,_,_,by simp only[A4,A3,c1,c2,hh,c3,c4,Km,show ((0:Int) != 0)=false from rfl];rfl⟩
      · rw[dF hw] at c1
        rw[Cy (show (Bh 58 r).length=r.length by omega)]
        exact⟨_,_,_,by simp only[A4,A3,c1,c2,hh,c3,show ((0:Int) != 0)=false from rfl];rfl⟩
    · have b1:(Sv (Bh 58 r) != 0)=true:=by simp[hh]
      simp only[ne_eq,hh,not_false_eq_true,if_true]
      exact⟨_,_,_,by simp only[A4,A3,c1,c2,b1];rfl⟩
  have er:=MS (p:=p) fu (d+6) (Ab l)
  unfold Gd
  cases h1:List.isPrefixOf [104,116,116,112,115,58,47,47] l
  · rw[h1] at e1
    simp only[Bool.false_eq_true,if_false] at e1 ⊢
    cases h2:List.isPrefixOf [104,116,116,112,58,47,47] l
    · rw[h2] at e2
      simp only[Bool.false_eq_true,if_false] at e2 ⊢
      exact⟨_,_,_,er.trans (by simp only[A4,A3,e1,e2,Km];rfl)⟩
    · rw[h2] at e2
      simp only[if_true] at e2 ⊢
      obtain⟨o1,o2,o3,ht⟩:=tail false (l.drop 7) (fun x hx=>hB x (List.mem_of_mem_drop hx)) (by simp;omega)
      refine⟨o1,o2,o3,er.trans ?_⟩
      simp only[Zh,HN,Z1,EC,YV,WS,WF,e1,e2,Km,Hn]
      exact ht
  · rw[h1] at e1
    simp only[if_true] at e1 ⊢
    obtain⟨o1,o2,o3,ht⟩:=tail true (l.drop 8) (fun x hx=>hB x (List.mem_of_mem_drop hx)) (by simp;omega)
    refine⟨o1,o2,o3,er.trans ?_⟩
    simp only[Zh,HN,Z1,EC,YV,WS,WF,e1,Km,Hn]
    exact ht
end
section
open Go Go.RowKit Go.Lib
def RtP(w':World)(l:Aj)(e:Ending):Prop:=
 match Acs 8 l with
 |.ok ms=>∃mb,e=.returned (.tuple #[.map (some mb),.int .i64 0])/\QH w' mb ms
 |.error er=>er≠0/\∃m,e=.returned (.tuple #[m,.int .i64 er])
theorem HL(l:Aj):Acs 8 l=match A6 [123] (Bd l) with
  |some r=>(match DO (Gu 8) true r with
   |.error e=>.error e
   |.ok (ms,r')=>if Bd r'=[] then .ok ms else .error 2)
  |none=>.error 2:=by
 unfold Acs;rw[Fk];cases Bd l with
 |nil=>rfl
 |cons y s=>
  by_cases hy:y=123
  ·subst hy;rfl
  ·simp only[Bl hy];split
   ·rename_i e;injection e with e1 _;exact absurd e1 hy
   ·rfl
theorem Et.toBelow{w w':World}{b mb B:Nat}(k:Et w w' b mb)(hb:B<=b)(YX:B<=mb)(hB:B<=w.heap.size):Below B w w':=
 ⟨k.os,k.tape,k.output,k.size,fun i hi=>k.other i (by omega) (by omega) (by omega)⟩
theorem NB{w:World}(hU:gU.ok w)(hUl:∀k,gU.bl k->k<w.heap.size){w':World}(hb:Below w.heap.size w w'){b:Nat}(hbb:w.heap.size<=b):Pk w' b:=
 ⟨gU.stable w w' (fun j _ hl=>hb.block j hl) hU,fun k hk=>⟨Gb (hUl k hk) hb.size,by have:=hUl k hk;omega⟩⟩
set_option maxHeartbeats 4000000 in
theorem At2{t:ByteArray}(ht:t.size<=1000000){w:World}(hU:gU.ok w)(hUl:∀k,gU.bl k->k<w.heap.size):
  Calls prog 92 #[.string t] w fun e w'=>Below w.heap.size w w'/\RtP w' (Ci t) e:=by
 have mixed:prog.follows Departure.mixedOrders=true:=by kernel_rfl
 have hmm:=@run_makeMap prog;have Fv:Below w.heap.size w (w.alloc (.cells #[.string t,.int .i64 0] 200)):=(Below.refl _ w).alloc (Cn _) _;have Ir:Below w.heap.size w ((w.alloc (.cells #[.string t,.int .i64 0] 200)).alloc (.map #[] 0)):=Fv.alloc Fv.size _;have hs1:(w.alloc (.cells #[.string t,.int .i64 0] 200)).heap.size=w.heap.size+1:=Array.size_push _
 have h2:FV ((w.alloc (.cells #[.string t,.int .i64 0] 200)).alloc (.map #[] 0)) w.heap.size 0 t (Ci t):=by
  have hg:((w.alloc (.cells #[.string t,.int .i64 0] 200)).alloc (.map #[] 0)).heap[w.heap.size]?=some (.cells #[.string t,.int .i64 0] 200):=by
   show ((w.heap.push _).push _)[w.heap.size]?=_;rw[Array.getElem?_push_lt (by simp)];simp
  have hp:B4 t (Ci t)=0:=by unfold B4;rw[Dc];omega
  refine⟨?_,?_,?_,?_,?_⟩
  ·show w.heap.size<((w.heap.push _).push _).size;rw[Array.size_push,Array.size_push];omega
  ·unfold World.cell?;simp only[hg];rfl
  ·unfold World.cell?;simp only[hg,hp];rfl
  ·unfold World.frozen?;simp only[hg];rfl
  ·unfold World.frozen?;simp only[hg];rfl
 have hM2:QH ((w.alloc (.cells #[.string t,.int .i64 0] 200)).alloc (.map #[] 0)) (w.heap.size+1) []:=by
  show ((w.heap.push _).push (Obj.map #[] 0))[w.heap.size+1]?=some (.map #[] 0);have:w.heap.size+1=(w.heap.push (Obj.cells #[.string t,.int .i64 0] 200)).size:=by simp
  rw[this];exact Array.getElem?_push_size
 have hU2:=NB hU hUl Ir (Cn _);have hmU:¬gU.bl (w.heap.size+1):=fun h=>by have:=hUl _ h;omega
 have hS:=Dy.all t;have hsk:=Kw hS ht hU2 h2
 go_enter Tryz.func92,Tryz.ntmps92
 go_wp2_with (go_at_call 119;refine hsk.mono ?_)
 rintro e W3 ⟨rfl,h3,k3⟩
 have hS3:=B9 hS;have hM3:=hM2.keep k3 (by omega);have hU3:=hU2.keep k3;have hro:=Atz hS3 ht hU3 h3 hM3 (by omega) hmU;have Pa:Below w.heap.size w W3:=Ir.trans ((Et.of (mb:=w.heap.size+1) k3).toBelow (Cn _) (by omega) Ir.size)
 go_wp2_with (go_at_call 120;refine hro.mono ?_)
 rintro e W4 ⟨k4,r4,hS4,h4,hr4⟩
 have Zl:Below w.heap.size w W4:=Pa.trans (k4.toBelow (Cn _) (by omega) Pa.size);have hU4:Pk W4 w.heap.size:=NB hU hUl Zl (Cn _)
 have hRt:∀W e,(match A6 [123] (Bd (Ci t)) with
  |some r=>(match DO (Gu 8) true r with
   |.error er=>er≠0/\∃m,e=.returned (.tuple #[m,.int .i64 er])
   |.ok (ms,r')=>if Bd r'=[] then ∃mb,e=.returned (.tuple #[.map (some mb),.int .i64 0])/\QH W mb ms else ∃m,e=.returned (.tuple #[m,.int .i64 2]))
  |none=>∃m,e=.returned (.tuple #[m,.int .i64 2]))->RtP W (Ci t) e:=by
  intro W e;unfold RtP;rw[HL];cases A6 [123] (Bd (Ci t)) with
  |none=>exact fun h=>⟨by decide,h⟩
  |some r=>
   cases hob:DO (Gu 8) true r with
   |error er=>simp only[hob];exact id
   |ok x=>
    obtain⟨ms,r'⟩:=x;simp only[hob];by_cases g:Bd r'=[]
    ·simp only[Cy g];exact id
    ·simp only[Bl g];exact fun h=>⟨by decide,h⟩
 unfold RoP at hr4;cases hq:A6 [123] (Bd (Ci t)) with
 |none=>
  rw[hq] at hr4 hRt;subst hr4
  go_wp2
  go_ret2
  exact⟨Zl,hRt _ _ ⟨_,rfl⟩⟩
 |some r=>
  rw[hq] at hr4 hRt;simp only at hr4 hRt;cases ho:DO (Gu 8) true r with
  |error er=>
   rw[ho] at hr4 hRt;obtain⟨he,rfl⟩:=hr4;have hbe:(er != (0:Int))=true:=by simp[he]
   go_wp2
   go_ret2
   exact⟨Zl,hRt _ _ ⟨he,_,rfl⟩⟩
  |ok x=>
   obtain⟨ms,r'⟩:=x;rw[ho] at hr4 hRt;obtain⟨rfl,rfl,hM4⟩:=hr4;have Azi:=Kw hS4 ht hU4 h4
   go_wp2_with (go_at_call 119;refine Azi.mono ?_)
   rintro e W5 ⟨rfl,h5,k5⟩
   have hk5:Below w.heap.size w W5:=Zl.trans ((Et.of (mb:=w.heap.size+1) k5).toBelow (Cn _) (by omega) Zl.size);have hM5:=hM4.keep k5 (by omega);obtain⟨Cm,hc0,RL,hf0,hf1⟩:=h5;have hS5:=B9 hS4;have hl5:=hS5.len;cases hx:Bd r4 with
   |nil=>
    rw[hx] at RL hRt;rw[ET] at RL
    go_wp2
    go_region_o
    go_wp2
    go_ret2
    exact⟨hk5.drew,hRt _ _ (by rw[Cy trivial];exact⟨_,rfl,hM5⟩)⟩
   |cons c q=>
    rw[hx] at RL hRt hl5
    have Bgh:(B4 t (c::q):Int)<t.size:=by
     unfold B4;rw[On] at hl5 ⊢;omega
    have A9z:¬(c::q=[]):=by simp
    go_wp2
    go_region_o
    go_wp2
    go_ret2
    exact⟨hk5.drew,hRt _ _ (by rw[Bl A9z];exact⟨_,rfl⟩)⟩
end
section
open Go Go.RowKit Go.Lib
def Tm:Aj:=[116,121,112,101]
def Zk:Aj:=[99,104,97,108,108,101,110,103,101]
def nmO:Aj:=[111,114,105,103,105,110]
def Dd(nm:Aj)(ms:List (Aj × JV)):JV:=(Pw nm ms).getD (0,[],false)
theorem PY{w:World}{b:Nat}{ms:List (Aj × JV)}(h:QH w b ms)(hB:∀m∈ms,Cp m.1){nm:Aj}(hn:Cp nm):(Instr.lookup 167 (.map (some b)) (.string (Ab nm)) false).run prog w=.ok (.agg #[.int .i64 (Dd nm ms).1,.string (Ab (Dd nm ms).2.1),.bool (Dd nm ms).2.2]) w:=by have:=MT h hB hn false;rw[this];unfold Acq Dd;cases Pw nm ms<;>rfl
theorem al4(w:World)(o0 x1 x2 x3:Obj):((((w.alloc o0).alloc x1).alloc x2).alloc x3).drew.heap[w.heap.size]?=some o0/\((((w.alloc o0).alloc x1).alloc x2).alloc x3).drew.heap[w.heap.size+1]?=some x1/\((((w.alloc o0).alloc x1).alloc x2).alloc x3).drew.heap[w.heap.size+1+1]?=some x2/\((((w.alloc o0).alloc x1).alloc x2).alloc x3).drew.heap[w.heap.size+1+1+1]?=some x3:=by
 show ((((w.heap.push o0).push x1).push x2).push x3)[w.heap.size]?=some o0/\((((w.heap.push o0).push x1).push x2).push x3)[w.heap.size+1]?=some x1/\((((w.heap.push o0).push x1).push x2).push x3)[w.heap.size+1+1]?=some x2/\((((w.heap.push o0).push x1).push x2).push x3)[w.heap.size+1+1+1]?=some x3;refine⟨?_,?_,?_,?_⟩
 ·rw[Array.getElem?_push_lt (by simp;omega),Array.getElem_push_lt (by simp;omega),Array.getElem_push_lt (by simp),Array.getElem_push_eq]
 ·have:w.heap.size+1=(w.heap.push o0).size:=by simp
  rw[Array.getElem?_push_lt (by simp),Array.getElem_push_lt (by simp)];simp only[this,Array.getElem_push_eq]
 ·have:w.heap.size+1+1=((w.heap.push o0).push x1).size:=by simp
  rw[Array.getElem?_push_lt (by simp)];simp only[this,Array.getElem_push_eq]
 ·have:w.heap.size+1+1+1=(((w.heap.push o0).push x1).push x2).size:=by simp
  rw[this];exact Array.getElem?_push_size
theorem al2(w:World)(x1 x2:Obj):((w.alloc x1).alloc x2).drew.heap[w.heap.size]?=some x1/\((w.alloc x1).alloc x2).drew.heap[w.heap.size+1]?=some x2:=by
 show ((w.heap.push x1).push x2)[w.heap.size]?=some x1/\((w.heap.push x1).push x2)[w.heap.size+1]?=some x2;refine⟨?_,?_⟩
 ·simp[Array.getElem?_push]
 ·have:w.heap.size+1=(w.heap.push x1).size:=by simp
  rw[this];exact Array.getElem?_push_size
def nmX:Aj:=[99,114,111,115,115,79,114,105,103,105,110]
def nmP:Aj:=[116,111,112,79,114,105,103,105,110]
def Aj6(v:JV):Obj:=.cells #[.int .i64 v.1,.string (Ab v.2.1),.bool v.2.2] 203
def cd0:Obj:=.cells #[.int .i64 0,.slice none 0 0,.string ⟨#[]⟩,.bool false,.string ⟨#[]⟩] 81
def tyC:Aj:=[112,97,115,115,107,101,121,46,99,114,101,97,116,101]
def tyG:Aj:=[112,97,115,115,107,101,121,46,103,101,116]
abbrev CD:=Int × Aj × Aj × Bool × Aj
def MU(k:Int)(C O X P:JV):JR CD:=
 match R2 C.2.1 with
 |none=>.error 2
 |some b=>if b.length<1\/64<b.length then .error 9 else if Gd O.2.1≠0 then .error (Gd O.2.1) else if X.2.2=true/\Gd P.2.1≠0 then .error (Gd P.2.1) else .ok (k,b,O.2.1,X.2.2,P.2.1)
def P9(T C O X P:JV):JR CD:=
 if T.1≠4\/C.1≠4\/O.1≠4 then .error 4
 else if X.1≠0/\X.1≠2 then .error 4
 else if (X.2.2=true/\P.1≠4)\/(X.2.2=false/\P.1≠0) then .error 4
 else if T.2.1=tyC then MU 1 C O X P else if T.2.1=tyG then MU 2 C O X P else .error 3
def EH(w:World)(a:Addr)(b:Aj):Prop:=a.spot=none/\a.block<w.heap.size/\∀j x,b[j]?=some x->w.cell? (a.add j)=some (.int .u8 x)
def ItP(w w':World)(r:JR CD)(e:Ending):Prop:=
 match r with
 |.ok (k,b,o,x,p)=>∃ad cap,e=.returned (.tuple #[.agg #[.int .i64 k,.slice (some ad) b.length cap,.string (Ab o),.bool x,.string (Ab p)],.int .i64 0])/\b.length<=cap/\w.heap.size<=ad.block/\EH w' ad b
 |.error er=>er≠0/\e=.returned (.tuple #[.agg #[.int .i64 0,.slice none 0 0,.string ⟨#[]⟩,.bool false,.string ⟨#[]⟩],.int .i64 er])
def DbP(w w':World)(s:Aj)(e:Ending):Prop:=
 match R2 s with
 |none=>∃ad cap,e=.returned (.tuple #[.slice ad 0 cap,.int .i64 2])
 |some b=>∃ad cap,e=.returned (.tuple #[.slice ad b.length cap,.int .i64 0])/\(b≠[]->∃a,ad=some a/\b.length<=cap/\w.heap.size<=a.block/\EH w' a b)
theorem PP{w:World}{b:Nat}{v:JV}(h:w.heap[b]?=some (Aj6 v)):w.cell? ⟨b,0,none⟩=some (.int .i64 v.1)/\w.cell? ⟨b,1,none⟩=some (.string (Ab v.2.1))/\w.cell? ⟨b,2,none⟩=some (.bool v.2.2):=by refine⟨?_,?_,?_⟩<;>(unfold World.cell?;simp only[h];rfl)
theorem Anq{w:World}{b:Nat}(h:w.heap[b]?=some cd0):(w.cell? ⟨b,0,none⟩=some (.int .i64 0)/\w.cell? ⟨b,1,none⟩=some (.slice none 0 0)/\w.cell? ⟨b,2,none⟩=some (.string ⟨#[]⟩)/\w.cell? ⟨b,3,none⟩=some (.bool false)/\w.cell? ⟨b,4,none⟩=some (.string ⟨#[]⟩))/\w.frozen? ⟨b,0,none⟩=false/\w.frozen? ⟨b,1,none⟩=false/\w.frozen? ⟨b,2,none⟩=false/\w.frozen? ⟨b,3,none⟩=false/\w.frozen? ⟨b,4,none⟩=false:=by refine⟨⟨?_,?_,?_,?_,?_⟩,?_,?_,?_,?_,?_⟩<;>first|(unfold World.cell?;simp only[h];rfl)|(unfold World.frozen?;simp only[h];rfl)
theorem Ajp(s:ByteArray):s.toList=s.data.toList:=by
 have h:∀(n i:Nat) (r:List UInt8),n=s.size-i->ByteArray.toList.loop s i r=r.reverse++s.data.toList.drop i:=by
  intro n
  induction n with
  |zero=>
   intro i r hn;unfold ByteArray.toList.loop;rw[Bl (by omega),List.drop_eq_nil_of_le (by rw[<-Lib.size_eq];omega),List.append_nil]
  |succ n ih=>
   intro i r hn;have hi:i<s.size:=by omega
   unfold ByteArray.toList.loop;rw[Cy hi,ih (i+1) _ (by omega),List.reverse_cons,Zzv]
   congr 1
   have hl:i<s.data.toList.length:=by rw[<-Lib.size_eq];exact hi
   rw[List.drop_eq_getElem_cons hl]
   have e:s.get! i=s.data.toList[i]:=by
    show (s.data[i]!)=_;rw[getElem!_pos s.data i hi];rfl
   rw[e];rfl
 have:=h _ 0 [] rfl;exact this
theorem QV{a b:Aj}(ha:Cp a)(hb:Cp b):((Ab a).toList==b.map fun n=>n.toNat.toUInt8)=decide (a=b):=by
 rw[Ajp,Bool.eq_iff_iff,beq_iff_eq,decide_eq_true_iff];constructor
 ·intro h;have e:Ab a=Ab b:=congrArg (fun l:List UInt8=>(⟨l.toArray⟩:ByteArray)) (show (Ab a).data.toList=(Ab b).data.toList from h);exact KF ha hb e
 ·rintro rfl;rfl
def Bax(w:World)(vT vC vO:JV)(s4 s5 s6:Value)(wx:World):Prop:=
 ∃bT bC bO,s4=.pointer (some ⟨bT,0,none⟩)/\s5=.pointer (some ⟨bC,0,none⟩)/\s6=.pointer (some ⟨bO,0,none⟩)/\w.heap.size<bT/\w.heap.size<bC/\w.heap.size<bO/\wx.heap[w.heap.size]?=some cd0/\wx.heap[bT]?=some (Aj6 vT)/\wx.heap[bC]?=some (Aj6 vC)/\wx.heap[bO]?=some (Aj6 vO)/\Below w.heap.size w wx
def Bdn(w wc:World)(vX vP:JV)(s7 s8:Value)(wx:World):Prop:=
 ∃bX bP,s7=.pointer (some ⟨bX,0,none⟩)/\s8=.pointer (some ⟨bP,0,none⟩)/\wc.heap.size<=bX/\wc.heap.size<=bP/\wx.heap[bX]?=some (Aj6 vX)/\wx.heap[bP]?=some (Aj6 vP)/\Below wc.heap.size wc wx
theorem Azf{w:World}{b:Nat}{x0 x1 x2 x3 x4:Value}(h:w.heap[b]?=some (.cells #[x0,x1,x2,x3,x4] 81)):(w.cell? ⟨b,0,none⟩=some x0/\w.cell? ⟨b,1,none⟩=some x1/\w.cell? ⟨b,2,none⟩=some x2/\w.cell? ⟨b,3,none⟩=some x3/\w.cell? ⟨b,4,none⟩=some x4)/\w.frozen? ⟨b,0,none⟩=false/\w.frozen? ⟨b,1,none⟩=false/\w.frozen? ⟨b,2,none⟩=false/\w.frozen? ⟨b,3,none⟩=false/\w.frozen? ⟨b,4,none⟩=false:=by refine⟨⟨?_,?_,?_,?_,?_⟩,?_,?_,?_,?_,?_⟩<;>first|(unfold World.cell?;simp only[h];rfl)|(unfold World.frozen?;simp only[h];rfl)
theorem XT{w:World}{b:Nat}{x0 x1 x2 x3 x4:Value}(h0:w.cell? ⟨b,0,none⟩=some x0)(h1:w.cell? ⟨b,1,none⟩=some x1)(h2:w.cell? ⟨b,2,none⟩=some x2)(h3:w.cell? ⟨b,3,none⟩=some x3)(h4:w.cell? ⟨b,4,none⟩=some x4):(loadVar 81 ⟨b,0,none⟩).run prog w=.ok (.agg #[x0,x1,x2,x3,x4]) w:=by
 have hf:∀j,j<5->w.cell? ((⟨b,0,none⟩:Addr).add j)=some (([x0,x1,x2,x3,x4][j]?).getD undef):=by
  intro j hj;rw[Ff,Ig]
  match j,hj with
  |0,_=>exact h0
  |1,_=>exact h1
  |2,_=>exact h2
  |3,_=>exact h3
  |4,_=>exact h4
 simp only[loadVar,Sem.run_bind,Tryz.isAgg81,Result.andThen_ok,if_true,Tryz.sizeOf81,run_loadCells w _ 5 _ hf];rfl
theorem Gk{w:World}{b i j:Nat}{v:Value}(h:i≠j):(w.setCell ⟨b,j,none⟩ v).cell? ⟨b,i,none⟩=w.cell? ⟨b,i,none⟩:=World.cell?_setCell_other _ _ _ _ (fun e=>h (by injection e with _ e2;exact e2.symm))
theorem RZ(w:World)(b:Nat)(x0 x1 x2 x3 x4:Value)(h:(w.cell? ⟨b,0,none⟩).isSome=true/\(w.cell? ⟨b,1,none⟩).isSome=true/\(w.cell? ⟨b,2,none⟩).isSome=true/\(w.cell? ⟨b,3,none⟩).isSome=true/\(w.cell? ⟨b,4,none⟩).isSome=true):(loadVar 81 ⟨b,0,none⟩).run prog (((((w.setCell ⟨b,0,none⟩ x0).setCell ⟨b,1,none⟩ x1).setCell ⟨b,2,none⟩ x2).setCell ⟨b,3,none⟩ x3).setCell ⟨b,4,none⟩ x4)=.ok (.agg #[x0,x1,x2,x3,x4]) (((((w.setCell ⟨b,0,none⟩ x0).setCell ⟨b,1,none⟩ x1).setCell ⟨b,2,none⟩ x2).setCell ⟨b,3,none⟩ x3).setCell ⟨b,4,none⟩ x4):=by
 obtain⟨g0,g1,g2,g3,g4⟩:=h;obtain⟨y0,g0⟩:=Option.isSome_iff_exists.1 g0;obtain⟨y1,g1⟩:=Option.isSome_iff_exists.1 g1;obtain⟨y2,g2⟩:=Option.isSome_iff_exists.1 g2;obtain⟨y3,g3⟩:=Option.isSome_iff_exists.1 g3;obtain⟨y4,g4⟩:=Option.isSome_iff_exists.1 g4;apply XT
 ·rw[Gk (by decide),Gk (by decide),Gk (by decide),Gk (by decide)];exact World.cell?_setCell_same _ _ _ g0
 ·rw[Gk (by decide),Gk (by decide),Gk (by decide)];exact World.cell?_setCell_same _ _ _ ((Gk (by decide)).trans g1)
 ·rw[Gk (by decide),Gk (by decide)];exact World.cell?_setCell_same _ _ _ ((Gk (by decide)).trans ((Gk (by decide)).trans g2))
 ·rw[Gk (by decide)];exact World.cell?_setCell_same _ _ _ ((Gk (by decide)).trans ((Gk (by decide)).trans ((Gk (by decide)).trans g3)))
 ·exact World.cell?_setCell_same _ _ _ ((Gk (by decide)).trans ((Gk (by decide)).trans ((Gk (by decide)).trans ((Gk (by decide)).trans g4))))
theorem Rf{B:Nat}{a w:World}(h:Below B a w){b:Nat}(hb:B<=b)(x0 x1 x2 x3 x4:Value):Below B a (((((w.setCell ⟨b,0,none⟩ x0).setCell ⟨b,1,none⟩ x1).setCell ⟨b,2,none⟩ x2).setCell ⟨b,3,none⟩ x3).setCell ⟨b,4,none⟩ x4):=
 ((((h.setCell (p:=⟨b,0,none⟩) hb x0).setCell (p:=⟨b,1,none⟩) hb x1).setCell (p:=⟨b,2,none⟩) hb x2).setCell (p:=⟨b,3,none⟩) hb x3).setCell (p:=⟨b,4,none⟩) hb x4
theorem Up{R:Ending->World->Prop}{a:Act}{W:World}{v:Value}{b:Nat}(h2:a.tmps.getD 2 undef=.pointer (some ⟨b,0,none⟩))(hd:a.defers=[])(hl:(loadVar 81 ⟨b,0,none⟩).run prog W=.ok v W)(hR:R (.returned (.tuple #[v,a.tmps.getD 3 undef])) W):bodyPost prog Tryz.f93 R .ret a W:=by refine bodyPost_ret ?_ hd hR;rw[results_cell_tmp rfl,h2];have e:(asAddr (.pointer (some ⟨b,0,none⟩))).run prog W=.ok ⟨b,0,none⟩ W:=rfl;rw[e,Result.andThen_ok,hl,Result.andThen_ok]
theorem EH.below{w w':World}{a:Addr}{b:Aj}{B:Nat}(h:EH w a b)(k:Below B w w')(ha:a.block<B):EH w' a b:=
 ⟨h.1,Gb h.2.1 k.size,fun j x hx=>(k.cell (p:=a.add j) (by rw[Fx];exact ha)).trans (h.2.2 j x hx)⟩
theorem EH.set{w:World}{a:Addr}{b:Aj}{b0 j:Nat}{v:Value}(h:EH w a b)(G6:a.block≠b0):EH (w.setCell ⟨b0,j,none⟩ v) a b:=
 ⟨h.1,by rw[World.size_setCell];exact h.2.1,fun i x hx=>(World.cell?_setCell_other _ _ _ _ (fun e=>G6 (by rw[<-Fx a i,<-e]))).trans (h.2.2 i x hx)⟩
theorem EH.set5{w:World}{a:Addr}{b:Aj}{b0:Nat}{x0 x1 x2 x3 x4:Value}(h:EH w a b)(G6:a.block≠b0):EH (((((w.setCell ⟨b0,0,none⟩ x0).setCell ⟨b0,1,none⟩ x1).setCell ⟨b0,2,none⟩ x2).setCell ⟨b0,3,none⟩ x3).setCell ⟨b0,4,none⟩ x4) a b:=
 ((((h.set G6).set G6).set G6).set G6).set G6
def RC(w:World)(b:Nat):Prop:=(w.cell? ⟨b,0,none⟩=some (.int .i64 0)/\w.cell? ⟨b,1,none⟩=some (.slice none 0 0)/\w.cell? ⟨b,2,none⟩=some (.string ⟨#[]⟩)/\w.cell? ⟨b,3,none⟩=some (.bool false)/\w.cell? ⟨b,4,none⟩=some (.string ⟨#[]⟩))/\w.frozen? ⟨b,0,none⟩=false/\w.frozen? ⟨b,1,none⟩=false/\w.frozen? ⟨b,2,none⟩=false/\w.frozen? ⟨b,3,none⟩=false/\w.frozen? ⟨b,4,none⟩=false
theorem RC.below{w w':World}{b B:Nat}(h:RC w b)(k:Below B w w')(hb:b<B):RC w' b:=by have e:∀j,w'.cell? ⟨b,j,none⟩=w.cell? ⟨b,j,none⟩:=fun j=>k.cell (p:=⟨b,j,none⟩) hb;have f:∀j,w'.frozen? ⟨b,j,none⟩=w.frozen? ⟨b,j,none⟩:=fun j=>k.frozen (p:=⟨b,j,none⟩) hb;unfold RC;rw[e,e,e,e,e,f,f,f,f,f];exact h
theorem RC.some{w:World}{b:Nat}(h:RC w b):(w.cell? ⟨b,0,none⟩).isSome=true/\(w.cell? ⟨b,1,none⟩).isSome=true/\(w.cell? ⟨b,2,none⟩).isSome=true/\(w.cell? ⟨b,3,none⟩).isSome=true/\(w.cell? ⟨b,4,none⟩).isSome=true:=by obtain⟨⟨h0,h1,h2,h3,h4⟩,_⟩:=h;rw[h0,h1,h2,h3,h4];exact⟨rfl,rfl,rfl,rfl,rfl⟩
theorem Atb{w:World}{b:Nat}{v:Value}{x:Obj}(hb:b<w.heap.size)(h:∃x0 x1 x2 x3 x4,v=.agg #[x0,x1,x2,x3,x4]/\w.cell? ⟨b,0,none⟩=some x0/\w.cell? ⟨b,1,none⟩=some x1/\w.cell? ⟨b,2,none⟩=some x2/\w.cell? ⟨b,3,none⟩=some x3/\w.cell? ⟨b,4,none⟩=some x4):(loadVar 81 ⟨b,0,none⟩).run prog (w.alloc x)=.ok v (w.alloc x):=by obtain⟨x0,x1,x2,x3,x4,rfl,h0,h1,h2,h3,h4⟩:=h;have k:Below w.heap.size w (w.alloc x):=(Below.refl _ w).alloc (Cn _) _;exact XT ((k.cell (p:=⟨b,0,none⟩) hb).trans h0) ((k.cell (p:=⟨b,1,none⟩) hb).trans h1) ((k.cell (p:=⟨b,2,none⟩) hb).trans h2) ((k.cell (p:=⟨b,3,none⟩) hb).trans h3) ((k.cell (p:=⟨b,4,none⟩) hb).trans h4)
theorem CY(w:World)(b:Nat)(hb:b<w.heap.size)(x0 x1 x2 x3 x4:Value)(x:Obj)(h:RC w b):(loadVar 81 ⟨b,0,none⟩).run prog ((((((w.setCell ⟨b,0,none⟩ x0).setCell ⟨b,1,none⟩ x1).setCell ⟨b,2,none⟩ x2).setCell ⟨b,3,none⟩ x3).setCell ⟨b,4,none⟩ x4).alloc x)=.ok (.agg #[x0,x1,x2,x3,x4]) ((((((w.setCell ⟨b,0,none⟩ x0).setCell ⟨b,1,none⟩ x1).setCell ⟨b,2,none⟩ x2).setCell ⟨b,3,none⟩ x3).setCell ⟨b,4,none⟩ x4).alloc x):=by
 refine Atb (by simp only[World.size_setCell];exact hb) ⟨x0,x1,x2,x3,x4,rfl,?_⟩
 obtain⟨⟨g0,g1,g2,g3,g4⟩,_⟩:=h;refine⟨?_,?_,?_,?_,?_⟩
 ·rw[Gk (by decide),Gk (by decide),Gk (by decide),Gk (by decide)];exact World.cell?_setCell_same _ _ _ g0
 ·rw[Gk (by decide),Gk (by decide),Gk (by decide)];exact World.cell?_setCell_same _ _ _ ((Gk (by decide)).trans g1)
 ·rw[Gk (by decide),Gk (by decide)];exact World.cell?_setCell_same _ _ _ ((Gk (by decide)).trans ((Gk (by decide)).trans g2))
 ·rw[Gk (by decide)];exact World.cell?_setCell_same _ _ _ ((Gk (by decide)).trans ((Gk (by decide)).trans ((Gk (by decide)).trans g3)))
 ·exact World.cell?_setCell_same _ _ _ ((Gk (by decide)).trans ((Gk (by decide)).trans ((Gk (by decide)).trans ((Gk (by decide)).trans g4))))
theorem Rj{B:Nat}{a w:World}(h:Below B a w){b:Nat}(hb:B<=b)(hB:B<=w.heap.size)(x0 x1 x2 x3 x4:Value)(x:Obj):Below B a ((((((w.setCell ⟨b,0,none⟩ x0).setCell ⟨b,1,none⟩ x1).setCell ⟨b,2,none⟩ x2).setCell ⟨b,3,none⟩ x3).setCell ⟨b,4,none⟩ x4).alloc x):=
 have k:=Rf h hb x0 x1 x2 x3 x4
 k.alloc (by simp only[World.size_setCell];exact hB) _
theorem EH.set5al{w:World}{a:Addr}{b:Aj}{b0:Nat}{x0 x1 x2 x3 x4:Value}{x:Obj}(h:EH w a b)(G6:a.block≠b0):EH ((((((w.setCell ⟨b0,0,none⟩ x0).setCell ⟨b0,1,none⟩ x1).setCell ⟨b0,2,none⟩ x2).setCell ⟨b0,3,none⟩ x3).setCell ⟨b0,4,none⟩ x4).alloc x) a b:=
 have q:=h.set5 (x0:=x0) (x1:=x1) (x2:=x2) (x3:=x3) (x4:=x4) G6
 q.below ((Below.refl _ _).alloc (Cn _) _) q.2.1
theorem al1(w:World)(x:Obj):(w.alloc x).heap[w.heap.size]?=some x:=Array.getElem?_push_size
def okW(w:World):Prop:=gU.ok w/\∀k,gU.bl k->k<w.heap.size
theorem okW.below{w w':World}(h:okW w)(k:Below w.heap.size w w'):okW w':=⟨gU.stable w w' (fun j hj hl=>k.block j hl) h.1,fun j hj=>Gb (h.2 j hj) k.size⟩
structure Hid(p:Prop):Prop where
 v:p
set_option maxHeartbeats 8000000 in
theorem Atr(Bbu:∀(W:World)(s:Aj),okW W->Cp s->s.length<=1000000->Calls prog 121 #[.string (Ab s)] W fun e w'=>Below W.heap.size W w'/\DbP W w' s e)(A4o:∀(W:World)(s:Aj),okW W->Cp s->s.length<=1000000->Calls prog 122 #[.string (Ab s)] W fun e w'=>Below W.heap.size W w'/\∃o1 o2 o3,e=.returned (.tuple #[.agg #[.bool o1,.string o2,.int .i64 o3],.int .i64 (Gd s)])){ms:List (Aj × JV)}(hB:∀m∈ms,Cp m.1)(hB2:∀m∈ms,Cp m.2.2.1/\m.2.2.1.length<=1000000){mb:Nat}{w:World}(hU:okW w)(hM:QH w mb ms):
  Calls prog 93 #[.map (some mb)] w fun e w'=>Below w.heap.size w w'/\ItP w w' (P9 (Dd Tm ms) (Dd Zk ms) (Dd nmO ms) (Dd nmX ms) (Dd nmP ms)) e:=by
 have hgB:∀nm,Cp (Dd nm ms).2.1/\(Dd nm ms).2.1.length<=1000000:=by
  intro nm;unfold Dd Pw;cases hq:ms.find? fun m=>m.1==nm with
  |none=>exact⟨(fun x hx=>nomatch hx),Nat.zero_le _⟩
  |some m=>exact hB2 m (List.mem_of_find?_eq_some hq)
 obtain⟨hTB,hTL⟩:=hgB Tm;obtain⟨hCB,hCL⟩:=hgB Zk;obtain⟨hOB,hOL⟩:=hgB nmO;obtain⟨hXB,hXL⟩:=hgB nmX;obtain⟨hPB,hPL⟩:=hgB nmP;clear hgB;have mixed:prog.follows Departure.mixedOrders=true:=by kernel_rfl
 have key:∀{W:World},QH W mb ms->(Instr.lookup 167 (.map (some mb)) (.string ⟨#[116,121,112,101]⟩) false).run prog W=.ok (.agg #[.int .i64 (Dd Tm ms).1,.string (Ab (Dd Tm ms).2.1),.bool (Dd Tm ms).2.2]) W/\(Instr.lookup 167 (.map (some mb)) (.string ⟨#[99,104,97,108,108,101,110,103,101]⟩) false).run prog W=.ok (.agg #[.int .i64 (Dd Zk ms).1,.string (Ab (Dd Zk ms).2.1),.bool (Dd Zk ms).2.2]) W/\(Instr.lookup 167 (.map (some mb)) (.string ⟨#[111,114,105,103,105,110]⟩) false).run prog W=.ok (.agg #[.int .i64 (Dd nmO ms).1,.string (Ab (Dd nmO ms).2.1),.bool (Dd nmO ms).2.2]) W:=
  fun h=>⟨PY h hB (nm:=Tm) (fun x hx=>by simp[Tm] at hx;omega),PY h hB (nm:=Zk) (fun x hx=>by simp[Zk] at hx;omega),PY h hB (nm:=nmO) (fun x hx=>by simp[nmO] at hx;omega)⟩
 have key2:∀{W:World},QH W mb ms->(Instr.lookup 167 (.map (some mb)) (.string ⟨#[99,114,111,115,115,79,114,105,103,105,110]⟩) false).run prog W=.ok (.agg #[.int .i64 (Dd nmX ms).1,.string (Ab (Dd nmX ms).2.1),.bool (Dd nmX ms).2.2]) W/\(Instr.lookup 167 (.map (some mb)) (.string ⟨#[116,111,112,79,114,105,103,105,110]⟩) false).run prog W=.ok (.agg #[.int .i64 (Dd nmP ms).1,.string (Ab (Dd nmP ms).2.1),.bool (Dd nmP ms).2.2]) W:=
  fun h=>⟨PY h hB (nm:=nmX) (fun x hx=>by simp[nmX] at hx;omega),PY h hB (nm:=nmP) (fun x hx=>by simp[nmP] at hx;omega)⟩
 have b0:Below w.heap.size w (w.alloc (.cells #[.int .i64 0,.slice none 0 0,.string ⟨#[]⟩,.bool false,.string ⟨#[]⟩] 81)):=(Below.refl _ w).alloc (Cn _) _;have b1:=b0.alloc b0.size (.cells #[.int .i64 0,.string ⟨#[]⟩,.bool false] 203);have b2:=b1.alloc b1.size (.cells #[.int .i64 0,.string ⟨#[]⟩,.bool false] 203);have b3:=b2.alloc b2.size (.cells #[.int .i64 0,.string ⟨#[]⟩,.bool false] 203);obtain⟨k0,k1,k2⟩:=key (hM.below b0.drew);obtain⟨l0,l1,l2⟩:=key (hM.below b1.drew);obtain⟨m0,m1,m2⟩:=key (hM.below b2.drew);obtain⟨n0,n1,n2⟩:=key (hM.below b3.drew)
 have bb:∀x1 x2 x3,Below w.heap.size w ((((w.alloc (.cells #[.int .i64 0,.slice none 0 0,.string ⟨#[]⟩,.bool false,.string ⟨#[]⟩] 81)).alloc x1).alloc x2).alloc x3).drew:=fun x1 x2 x3=>by
  have c1:=b0.alloc b0.size x1;have c2:=c1.alloc c1.size x2;exact (c2.alloc c2.size x3).drew
 obtain⟨_,p1,q1⟩:=key (hM.below (bb (.cells #[.int .i64 (Dd Tm ms).1,.string (Ab (Dd Tm ms).2.1),.bool (Dd Tm ms).2.2] 203) (.cells #[.int .i64 0,.string ⟨#[]⟩,.bool false] 203) (.cells #[.int .i64 0,.string ⟨#[]⟩,.bool false] 203)));obtain⟨_,p2,q2⟩:=key (hM.below (bb (.cells #[.int .i64 0,.string ⟨#[]⟩,.bool false] 203) (.cells #[.int .i64 (Dd Tm ms).1,.string (Ab (Dd Tm ms).2.1),.bool (Dd Tm ms).2.2] 203) (.cells #[.int .i64 0,.string ⟨#[]⟩,.bool false] 203)));obtain⟨_,p3,q3⟩:=key (hM.below (bb (.cells #[.int .i64 0,.string ⟨#[]⟩,.bool false] 203) (.cells #[.int .i64 0,.string ⟨#[]⟩,.bool false] 203) (.cells #[.int .i64 (Dd Tm ms).1,.string (Ab (Dd Tm ms).2.1),.bool (Dd Tm ms).2.2] 203)))
 obtain⟨_,_,q4⟩:=key (hM.below (bb (.cells #[.int .i64 (Dd Tm ms).1,.string (Ab (Dd Tm ms).2.1),.bool (Dd Tm ms).2.2] 203) (.cells #[.int .i64 (Dd Zk ms).1,.string (Ab (Dd Zk ms).2.1),.bool (Dd Zk ms).2.2] 203) (.cells #[.int .i64 0,.string ⟨#[]⟩,.bool false] 203)));obtain⟨_,_,q5⟩:=key (hM.below (bb (.cells #[.int .i64 (Dd Tm ms).1,.string (Ab (Dd Tm ms).2.1),.bool (Dd Tm ms).2.2] 203) (.cells #[.int .i64 0,.string ⟨#[]⟩,.bool false] 203) (.cells #[.int .i64 (Dd Zk ms).1,.string (Ab (Dd Zk ms).2.1),.bool (Dd Zk ms).2.2] 203)));obtain⟨_,_,q6⟩:=key (hM.below (bb (.cells #[.int .i64 (Dd Zk ms).1,.string (Ab (Dd Zk ms).2.1),.bool (Dd Zk ms).2.2] 203) (.cells #[.int .i64 (Dd Tm ms).1,.string (Ab (Dd Tm ms).2.1),.bool (Dd Tm ms).2.2] 203) (.cells #[.int .i64 0,.string ⟨#[]⟩,.bool false] 203)))
 obtain⟨_,_,q7⟩:=key (hM.below (bb (.cells #[.int .i64 (Dd Zk ms).1,.string (Ab (Dd Zk ms).2.1),.bool (Dd Zk ms).2.2] 203) (.cells #[.int .i64 0,.string ⟨#[]⟩,.bool false] 203) (.cells #[.int .i64 (Dd Tm ms).1,.string (Ab (Dd Tm ms).2.1),.bool (Dd Tm ms).2.2] 203)));obtain⟨_,_,q8⟩:=key (hM.below (bb (.cells #[.int .i64 0,.string ⟨#[]⟩,.bool false] 203) (.cells #[.int .i64 (Dd Tm ms).1,.string (Ab (Dd Tm ms).2.1),.bool (Dd Tm ms).2.2] 203) (.cells #[.int .i64 (Dd Zk ms).1,.string (Ab (Dd Zk ms).2.1),.bool (Dd Zk ms).2.2] 203)));obtain⟨_,_,q9⟩:=key (hM.below (bb (.cells #[.int .i64 0,.string ⟨#[]⟩,.bool false] 203) (.cells #[.int .i64 (Dd Zk ms).1,.string (Ab (Dd Zk ms).2.1),.bool (Dd Zk ms).2.2] 203) (.cells #[.int .i64 (Dd Tm ms).1,.string (Ab (Dd Tm ms).2.1),.bool (Dd Tm ms).2.2] 203)))
 have hbb:∀x1 x2 x3,Below w.heap.size w ((((w.alloc cd0).alloc x1).alloc x2).alloc x3).drew:=bb;clear key bb;generalize Dd Tm ms=vT at *
 generalize Dd Zk ms=vC at *
 generalize Dd nmO ms=vO at *
 generalize Dd nmX ms=vX at *
 generalize Dd nmP ms=vP at *
 go_enter Tryz.func93,Tryz.ntmps93
 go_upto_region 1 with fail
 go_cut [4,5,6] (fun s4 s5 s6 wx=>Bax w vT vC vO s4 s5 s6 wx)
 case first=>
  go_region_o
  all_goals (go_wp2_with fail;go_meet;(refine⟨_,_,_,rfl,rfl,rfl,by omega,by omega,by omega,?_,?_,?_,?_,hbb _ _ _⟩<;>first|exact (al4 _ _ _ _ _).1|exact (al4 _ _ _ _ _).2.1|exact (al4 _ _ _ _ _).2.2.1|exact (al4 _ _ _ _ _).2.2.2))
 case rest=>
  rename World=>w2
  obtain⟨bT,bC,bO,rfl,rfl,rfl,hbT,hbC,hbO,hc,hT,hC,hO,hbw⟩:=hcut;clear k0 k1 k2 l0 l1 l2 m0 m1 m2 n0 n1 n2 p1 p2 p3 q1 q2 q3 q4 q5 q6 q7 q8 q9;have hMc:=hM.below hbw;have d1:Below w2.heap.size w2 (w2.alloc (.cells #[.int .i64 0,.string ⟨#[]⟩,.bool false] 203)):=(Below.refl _ w2).alloc (Cn _) _;have d2:=d1.alloc d1.size (.cells #[.int .i64 0,.string ⟨#[]⟩,.bool false] 203)
  have dd:∀x1 x2,Below w2.heap.size w2 ((w2.alloc x1).alloc x2).drew:=fun x1 x2=>by
   have c1:Below w2.heap.size w2 (w2.alloc x1):=(Below.refl _ w2).alloc (Cn _) _;exact (c1.alloc c1.size x2).drew
  obtain⟨k0,k1⟩:=key2 (hMc.below (Below.refl w2.heap.size w2).drew);obtain⟨l0,l1⟩:=key2 (hMc.below d1.drew);obtain⟨m0,m1⟩:=key2 (hMc.below d2.drew);obtain⟨_,p1⟩:=key2 (hMc.below (dd (.cells #[.int .i64 vX.1,.string (Ab vX.2.1),.bool vX.2.2] 203) (.cells #[.int .i64 0,.string ⟨#[]⟩,.bool false] 203)));obtain⟨_,p2⟩:=key2 (hMc.below (dd (.cells #[.int .i64 0,.string ⟨#[]⟩,.bool false] 203) (.cells #[.int .i64 vX.1,.string (Ab vX.2.1),.bool vX.2.2] 203)));clear key2
  go_upto_region 2 with fail
  go_cut [7,8] (fun s7 s8 wx=>Bdn w w2 vX vP s7 s8 wx)
  case first=>
   go_region_o
   all_goals (go_wp2_with fail;go_meet;(refine⟨_,_,rfl,rfl,by omega,by omega,?_,?_,dd _ _⟩<;>first|exact (al2 _ _ _).1|exact (al2 _ _ _).2))
  case rest=>
   clear k0 k1 l0 l1 m0 m1 p1 p2;obtain⟨bX,bP,rfl,rfl,hbX,hbP,hX,hP,Adi⟩:=hcut
   rename World=>wd
   have hwc:w.heap.size<w2.heap.size:=by
    rcases Id w.heap.size w2.heap.size with q|q
    ·exact q
    ·rw[Array.getElem?_eq_none q] at hc;cases hc
   have Cm:∀{b:Nat} {o:Obj},w2.heap[b]?=some o->b<w2.heap.size:=fun {b o} h=>by
    rcases Id b w2.heap.size with q|q
    ·exact q
    ·rw[Array.getElem?_eq_none q] at h;cases h
   obtain⟨⟨c0,c1,c2,c3,c4⟩,f0,f1,f2,f3,f4⟩:=Anq ((Adi.block _ (Cm hc)).trans hc);have hrc:RC wd w.heap.size:=⟨⟨c0,c1,c2,c3,c4⟩,f0,f1,f2,f3,f4⟩
   have hsm:=hrc.some;obtain⟨T0,T1,T2⟩:=PP ((Adi.block _ (Cm hT)).trans hT);obtain⟨C0,C1,C2⟩:=PP ((Adi.block _ (Cm hC)).trans hC);obtain⟨O0,O1,O2⟩:=PP ((Adi.block _ (Cm hO)).trans hO);obtain⟨X0,X1,X2⟩:=PP hX;obtain⟨P0,P1,P2⟩:=PP hP;have hbd:Below w.heap.size w wd:=hbw.trans ((Adi).mono hbw.size);by_cases hT4:vT.1=4
   rotate_left
   ·have hq:(vT.1 != 4)=true:=by simp[hT4]
    have hI:P9 vT vC vO vX vP=.error 4:=by unfold P9;rw[Cy (.inl hT4)]
    rename Exit->Act->World->Prop=>Q0;clear_value (hF:Q0=_)
    replace hF:=Hid.mk hF
    go_wp2
    (try simp only[Exit.inBlock,Exit.then]);rw[hF.v]
    exact Up (b:=w.heap.size) rfl rfl (RZ wd w.heap.size _ _ _ _ _ hsm) ⟨Rf hbd (Cn _) _ _ _ _ _,by rw[hI];exact⟨by decide,rfl⟩⟩
   by_cases hC4:vC.1=4
   rotate_left
   ·have hq:(vC.1 != 4)=true:=by simp[hC4]
    have hI:P9 vT vC vO vX vP=.error 4:=by unfold P9;rw[Cy (.inr (.inl hC4))]
    rename Exit->Act->World->Prop=>Q0;clear_value (hF:Q0=_)
    replace hF:=Hid.mk hF
    go_wp2
    (try simp only[Exit.inBlock,Exit.then]);rw[hF.v]
    exact Up (b:=w.heap.size) rfl rfl (RZ wd w.heap.size _ _ _ _ _ hsm) ⟨Rf hbd (Cn _) _ _ _ _ _,by rw[hI];exact⟨by decide,rfl⟩⟩
   by_cases hO4:vO.1=4
   rotate_left
   ·have hq:(vO.1 != 4)=true:=by simp[hO4]
    have hI:P9 vT vC vO vX vP=.error 4:=by unfold P9;rw[Cy (.inr (.inr hO4))]
    rename Exit->Act->World->Prop=>Q0;clear_value (hF:Q0=_)
    replace hF:=Hid.mk hF
    go_wp2
    (try simp only[Exit.inBlock,Exit.then]);rw[hF.v]
    exact Up (b:=w.heap.size) rfl rfl (RZ wd w.heap.size _ _ _ _ _ hsm) ⟨Rf hbd (Cn _) _ _ _ _ _,by rw[hI];exact⟨by decide,rfl⟩⟩
   have LZ:P9 vT vC vO vX vP=if vX.1≠0/\vX.1≠2 then .error 4
    else if (vX.2.2=true/\vP.1≠4)\/(vX.2.2=false/\vP.1≠0) then .error 4
    else if vT.2.1=tyC then MU 1 vC vO vX vP else if vT.2.1=tyG then MU 2 vC vO vX vP else .error 3:=by
    unfold P9;rw[Bl (by rintro (h|h|h)<;>first|exact h hT4|exact h hC4|exact h hO4)]
   go_upto_region 5 with fail
   go_cut [47] (fun s47 wx=>∃q:Bool,s47=.bool q/\(q=true↔(vX.1≠0/\vX.1≠2))/\wx=wd)
   case first=>
    by_cases h0:vX.1=0
    ·have h1:(vX.1 != 0)=false:=by simp[h0]
     go_wp2_with fail
     go_meet
     exact⟨false,rfl,by simp[h0],rfl⟩
    ·have h1:(vX.1 != 0)=true:=by simp[h0]
     by_cases h2:vX.1=2
     ·have h3:(vX.1 != 2)=false:=by simp[h2]
      go_wp2_with fail
      go_meet
      exact⟨false,rfl,by simp[h2],rfl⟩
     ·have h3:(vX.1 != 2)=true:=by simp[h2]
      go_wp2_with fail
      go_meet
      exact⟨true,rfl,by simp[h0,h2],rfl⟩
   case rest=>
    obtain⟨q5,rfl,hq5,hwe⟩:=hcut;subst hwe;cases q5 with
    |true=>
     have hx1:=hq5.1 rfl;have hI:P9 vT vC vO vX vP=.error 4:=by rw[LZ,Cy hx1]
     rename Exit->Act->World->Prop=>Q0;clear_value (hF:Q0=_)
     replace hF:=Hid.mk hF
     go_wp2
     (try simp only[Exit.inBlock,Exit.then]);rw[hF.v]
     exact Up (b:=w.heap.size) rfl rfl (RZ wc w.heap.size _ _ _ _ _ hsm) ⟨Rf hbd (Cn _) _ _ _ _ _,by rw[hI];exact⟨by decide,rfl⟩⟩
    |false=>
     have hx1:¬(vX.1≠0/\vX.1≠2):=fun h=>Bool.noConfusion (hq5.2 h);rw[Bl hx1] at LZ
     go_upto_region 7 with fail
     go_cut [65] (fun s65 wx=>∃q:Bool,s65=.bool q/\(q=true↔((vX.2.2=true/\vP.1≠4)\/(vX.2.2=false/\vP.1≠0)))/\wx=wc)
     case first=>
      cases hxt:vX.2.2 with
      |true=>
       rw[hxt] at X2;by_cases h4:vP.1=4
       ·have h1:(vP.1 != 4)=false:=by simp[h4]
        go_wp2_with fail
        go_meet
        exact⟨false,rfl,by simp[h4,hxt],rfl⟩
       ·have h1:(vP.1 != 4)=true:=by simp[h4]
        go_wp2_with fail
        go_meet
        exact⟨true,rfl,by simp[h4,hxt],rfl⟩
      |false=>
       rw[hxt] at X2;by_cases h4:vP.1=0
       ·have h1:(vP.1 != 0)=false:=by simp[h4]
        go_wp2_with fail
        go_meet
        exact⟨false,rfl,by simp[h4,hxt],rfl⟩
       ·have h1:(vP.1 != 0)=true:=by simp[h4]
        go_wp2_with fail
        go_meet
        exact⟨true,rfl,by simp[h4,hxt],rfl⟩
     case rest=>
      obtain⟨q7,rfl,hq7,hwe⟩:=hcut;subst hwe;cases q7 with
      |true=>
       have JU:=hq7.1 rfl;have hI:P9 vT vC vO vX vP=.error 4:=by rw[LZ,Cy JU]
       rename Exit->Act->World->Prop=>Q0;clear_value (hF:Q0=_)
       replace hF:=Hid.mk hF
       go_wp2
       (try simp only[Exit.inBlock,Exit.then]);rw[hF.v]
       exact Up (b:=w.heap.size) rfl rfl (RZ wc w.heap.size _ _ _ _ _ hsm) ⟨Rf hbd (Cn _) _ _ _ _ _,by rw[hI];exact⟨by decide,rfl⟩⟩
      |false=>
       have JU:¬((vX.2.2=true/\vP.1≠4)\/(vX.2.2=false/\vP.1≠0)):=fun h=>Bool.noConfusion (hq7.2 h);rw[Bl JU] at LZ;clear hq5 hq7 hx1 JU;have hwd:w.heap.size<wc.heap.size:=Gb hwc Adi.size;have Bf9:bT<wc.heap.size:=Gb (Cm hT) Adi.size;have Bfz:bC<wc.heap.size:=Gb (Cm hC) Adi.size;have hbC:((Ab vT.2.1).toList==[112,97,115,115,107,101,121,46,99,114,101,97,116,101])=decide (vT.2.1=tyC):=QV hTB (b:=tyC) (fun x hx=>by simp[tyC] at hx;omega)
       have hbG:((Ab vT.2.1).toList==[112,97,115,115,107,101,121,46,103,101,116])=decide (vT.2.1=tyG):=QV hTB (b:=tyG) (fun x hx=>by simp[tyG] at hx;omega)
       rename World=>wB
       go_upto_block 0 with fail
       go_cut [9] (fun s9 wx=>∃K:Int,P9 vT vC vO vX vP=MU K vC vO vX vP/\s9=.pointer (some ⟨wB.heap.size,0,none⟩)/\wx=wB.alloc (.cells #[.int .i64 K,.slice none 0 0,.string (Ab vO.2.1),.bool vX.2.2,.string (Ab vP.2.1)] 81))
       case first=>
        by_cases hTc:vT.2.1=tyC
        rotate_left
        ·rw[decide_eq_false hTc] at hbC;rw[Bl hTc] at LZ;by_cases hTg:vT.2.1=tyG
         rotate_left
         ·rw[decide_eq_false hTg] at hbG;have hI:P9 vT vC vO vX vP=.error 3:=by rw[LZ,Bl hTg]
          rename Exit->Act->World->Prop=>Q0;clear_value (hF:Q0=_)
          replace hF:=Hid.mk hF
          go_wp2
          (try simp only[Exit.inBlock,Exit.then]);rw[hF.v]
          exact Up (b:=w.heap.size) rfl rfl (CY wB w.heap.size hwd _ _ _ _ _ _ hrc) ⟨Rj hbd (Cn _) hbd.size _ _ _ _ _ _,by rw[hI];exact⟨by decide,rfl⟩⟩
         ·rw[decide_eq_true hTg] at hbG;rw[Cy hTg] at LZ;clear hTg hTc
          go_wp2_with fail
          go_meet
          exact⟨2,LZ,rfl,rfl⟩
        ·rw[decide_eq_true hTc] at hbC;rw[Cy hTc] at LZ;clear hTc hbG
         go_wp2_with fail
         go_meet
         exact⟨1,LZ,rfl,rfl⟩
       case rest=>
        clear LZ hbC hbG;obtain⟨K,LZ,rfl,hwe⟩:=hcut;subst hwe
        rename World=>wc
        have hbA:=hbd.alloc hbd.size (.cells #[.int .i64 K,.slice none 0 0,.string (Ab vO.2.1),.bool vX.2.2,.string (Ab vP.2.1)] 81);have hsA:(wc.alloc (.cells #[.int .i64 K,.slice none 0 0,.string (Ab vO.2.1),.bool vX.2.2,.string (Ab vP.2.1)] 81)).heap.size=wc.heap.size+1:=Array.size_push _;have hkA:=al1 wc (.cells #[.int .i64 K,.slice none 0 0,.string (Ab vO.2.1),.bool vX.2.2,.string (Ab vP.2.1)] 81);have hrA:=hrc.below ((Below.refl wc.heap.size wc).alloc (Cn _) (.cells #[.int .i64 K,.slice none 0 0,.string (Ab vO.2.1),.bool vX.2.2,.string (Ab vP.2.1)] 81)) hwd
        go_wp2_with (go_at_call 121;refine (Bbu _ vC.2.1 (hU.below hbA) hCB hCL).mono ?_)
        rintro e W3 ⟨JX,hp3⟩
        have ZT:Below w.heap.size w W3:=hbA.trans (JX.mono hbA.size);have hr3:=hrA.below JX (by rw[hsA];omega)
        have hm3:=hr3.some;obtain⟨⟨r30,r31,r32,r33,r34⟩,s30,s31,s32,s33,s34⟩:=hr3;have hs3:wc.heap.size+1<=W3.heap.size:=by have:=JX.size;rw[hsA] at this;exact this
        have Pa:=(JX.block _ (by rw[hsA];omega)).trans hkA
        obtain⟨⟨k0,k1,k2,k3,k4⟩,kf0,kf1,kf2,kf3,kf4⟩:=Azf Pa;unfold DbP at hp3;cases hdc:R2 vC.2.1 with
        |none=>
         rw[hdc] at hp3;obtain⟨ad,capN,rfl⟩:=hp3;have hI:P9 vT vC vO vX vP=.error 2:=by rw[LZ];unfold MU;rw[hdc]
         rename Exit->Act->World->Prop=>Q0;clear_value (hF:Q0=_)
         replace hF:=Hid.mk hF
         go_wp2
         (try simp only[Exit.inBlock,Exit.then]);rw[hF.v]
         exact Up (b:=w.heap.size) rfl rfl (RZ W3 w.heap.size _ _ _ _ _ hm3) ⟨Rf ZT (Cn _) _ _ _ _ _,by rw[hI];exact⟨by decide,rfl⟩⟩
        |some b=>
         rw[hdc] at hp3;obtain⟨ad,cap,rfl,Wi⟩:=hp3;by_cases Fv:b.length<1
         ·have hI:P9 vT vC vO vX vP=.error 9:=by rw[LZ];unfold MU;rw[hdc];simp only;rw[Cy (.inl Fv)]
          have KX:(b.length:Int)<1:=by omega
          rename Exit->Act->World->Prop=>Q0;clear_value (hF:Q0=_)
          replace hF:=Hid.mk hF
          go_wp2
          (try simp only[Exit.inBlock,Exit.then]);rw[hF.v]
          exact Up (b:=w.heap.size) rfl rfl (RZ W3 w.heap.size _ _ _ _ _ hm3) ⟨Rf ZT (Cn _) _ _ _ _ _,by rw[hI];exact⟨by decide,rfl⟩⟩
         by_cases Ir:64<b.length
         ·have hI:P9 vT vC vO vX vP=.error 9:=by rw[LZ];unfold MU;rw[hdc];simp only;rw[Cy (.inr Ir)]
          have KX:¬(b.length:Int)<1:=by omega
          have Oc:(b.length:Int)>64:=by omega
          rename Exit->Act->World->Prop=>Q0;clear_value (hF:Q0=_)
          replace hF:=Hid.mk hF
          go_wp2
          (try simp only[Exit.inBlock,Exit.then]);rw[hF.v]
          exact Up (b:=w.heap.size) rfl rfl (RZ W3 w.heap.size _ _ _ _ _ hm3) ⟨Rf ZT (Cn _) _ _ _ _ _,by rw[hI];exact⟨by decide,rfl⟩⟩
         have KX:¬(b.length:Int)<1:=by omega
         have Oc:¬(b.length:Int)>64:=by omega
         obtain⟨a,rfl,hac,haw,hla⟩:=Wi (by rintro rfl;exact Fv (by decide))
         have Bie:wc.heap.size+1<=a.block:=by rw[hsA] at haw;exact haw
         have hI2:P9 vT vC vO vX vP=if Gd vO.2.1≠0 then .error (Gd vO.2.1) else if vX.2.2=true/\Gd vP.2.1≠0 then .error (Gd vP.2.1) else .ok (K,b,vO.2.1,vX.2.2,vP.2.1):=by
          rw[LZ];unfold MU;rw[hdc];simp only;rw[Bl (by omega)]
         have Aaw:Below w.heap.size w (W3.setCell ⟨wc.heap.size,1,none⟩ (.slice (some a) b.length cap)):=ZT.setCell (p:=⟨wc.heap.size,1,none⟩) (Nat.le_of_lt hwd) _;have Bcd:Below wc.heap.size W3 (W3.setCell ⟨wc.heap.size,1,none⟩ (.slice (some a) b.length cap)):=(Below.refl wc.heap.size W3).setCell (p:=⟨wc.heap.size,1,none⟩) (Cn _) _;have hr4:=(show RC W3 w.heap.size from ⟨⟨r30,r31,r32,r33,r34⟩,s30,s31,s32,s33,s34⟩).below Bcd hwd;have Ba9:=hla.set (b0:=wc.heap.size) (j:=1) (v:=.slice (some a) b.length cap) (by omega);have hs4:(W3.setCell ⟨wc.heap.size,1,none⟩ (.slice (some a) b.length cap)).heap.size=W3.heap.size:=World.size_setCell ..;have j0:(W3.setCell ⟨wc.heap.size,1,none⟩ (.slice (some a) b.length cap)).cell? ⟨wc.heap.size,0,none⟩=some (.int .i64 K):=(Gk (by decide)).trans k0
         have j1:(W3.setCell ⟨wc.heap.size,1,none⟩ (.slice (some a) b.length cap)).cell? ⟨wc.heap.size,1,none⟩=some (.slice (some a) b.length cap):=World.cell?_setCell_same _ _ _ k1;have j2:(W3.setCell ⟨wc.heap.size,1,none⟩ (.slice (some a) b.length cap)).cell? ⟨wc.heap.size,2,none⟩=some (.string (Ab vO.2.1)):=(Gk (by decide)).trans k2;have j3:(W3.setCell ⟨wc.heap.size,1,none⟩ (.slice (some a) b.length cap)).cell? ⟨wc.heap.size,3,none⟩=some (.bool vX.2.2):=(Gk (by decide)).trans k3;have j4:(W3.setCell ⟨wc.heap.size,1,none⟩ (.slice (some a) b.length cap)).cell? ⟨wc.heap.size,4,none⟩=some (.string (Ab vP.2.1)):=(Gk (by decide)).trans k4
         go_wp2_with (go_at_call 122;refine (A4o _ vO.2.1 (hU.below Aaw) hOB hOL).mono ?_)
         rintro e W5 ⟨hb5,o1,o2,o3,rfl⟩
         have hs5:W3.heap.size<=W5.heap.size:=by have:=hb5.size;rw[hs4] at this;exact this
         have Ama:Below w.heap.size w W5:=Aaw.trans (hb5.mono Aaw.size);have hr5:=hr4.below hb5 (by rw[hs4];omega)
         have Bbt:=hr5;obtain⟨⟨r50,r51,r52,r53,r54⟩,s50,s51,s52,s53,s54⟩:=Bbt;have hw5:w.heap.size<W5.heap.size:=by omega
         have hc5:wc.heap.size<W5.heap.size:=by omega
         have Aza:=Ba9.below hb5 (by rw[hs4];exact hla.2.1)
         have O7:wc.heap.size<(W3.setCell ⟨wc.heap.size,1,none⟩ (.slice (some a) b.length cap)).heap.size:=by rw[hs4];omega
         have i0:=(hb5.cell (p:=⟨wc.heap.size,0,none⟩) O7).trans j0;have i1:=(hb5.cell (p:=⟨wc.heap.size,1,none⟩) O7).trans j1;have i2:=(hb5.cell (p:=⟨wc.heap.size,2,none⟩) O7).trans j2;have i3:=(hb5.cell (p:=⟨wc.heap.size,3,none⟩) O7).trans j3;have i4:=(hb5.cell (p:=⟨wc.heap.size,4,none⟩) O7).trans j4;have hbL:=(Below.refl W5.heap.size W5).alloc (Cn _) (.cells #[.bool o1,.string o2,.int .i64 o3] 117);have A1e:Below w.heap.size w (W5.alloc (.cells #[.bool o1,.string o2,.int .i64 o3] 117)):=Ama.alloc Ama.size _;by_cases ho:Gd vO.2.1=0
         rotate_left
         ·have hoB:(Gd vO.2.1 != 0)=true:=by simp[ho]
          have hI:P9 vT vC vO vX vP=.error (Gd vO.2.1):=by rw[hI2,Cy ho]
          rename Exit->Act->World->Prop=>Q0;clear_value (hF:Q0=_)
          replace hF:=Hid.mk hF
          go_wp2
          (try simp only[Exit.inBlock,Exit.then]);rw[hF.v]
          exact Up (b:=w.heap.size) rfl rfl (CY W5 w.heap.size hw5 _ _ _ _ _ _ hr5) ⟨Rj Ama (Cn _) Ama.size _ _ _ _ _ _,by rw[hI];exact⟨ho,rfl⟩⟩
         have hoB:(Gd vO.2.1 != 0)=false:=by simp[ho]
         rw[Bl (by simp[ho])] at hI2;have A7g:=Aza.below hbL (by have:=Aza.2.1;exact this)
         cases hxt:vX.2.2 with
         |false=>
          rw[hxt] at i3;have hI:P9 vT vC vO vX vP=.ok (K,b,vO.2.1,false,vP.2.1):=by rw[hI2,Bl (by simp[hxt]),hxt]
          rename Exit->Act->World->Prop=>Q0;clear_value (hF:Q0=_)
          replace hF:=Hid.mk hF
          go_wp2
          (try simp only[Exit.inBlock,Exit.then]);rw[hF.v]
          exact Up (b:=w.heap.size) rfl rfl (CY W5 w.heap.size hw5 _ _ _ _ _ _ hr5) ⟨Rj Ama (Cn _) Ama.size _ _ _ _ _ _,by rw[hI];exact⟨a,cap,rfl,hac,by omega,Aza.set5al (by omega)⟩⟩
         |true=>
          rw[hxt] at i3
          go_wp2_with (go_at_call 122;refine (A4o _ vP.2.1 (hU.below A1e) hPB hPL).mono ?_)
          rintro e W7 ⟨hb7,p1,p2,p3,rfl⟩
          have hsL:(W5.alloc (.cells #[.bool o1,.string o2,.int .i64 o3] 117)).heap.size=W5.heap.size+1:=Array.size_push _;have Alr:Below w.heap.size w W7:=A1e.trans (hb7.mono A1e.size);have hr7:=(hr5.below hbL hw5).below hb7 (by rw[hsL];omega)
          have Bb0:=hr7;obtain⟨⟨r70,r71,r72,r73,r74⟩,s70,s71,s72,s73,s74⟩:=Bb0;have A1l:=A7g.below hb7 (by have:=A7g.2.1;exact this)
          have Ajz:=(hbL.trans (hb7.mono hbL.size))
          have l0:=(Ajz.cell (p:=⟨wc.heap.size,0,none⟩) (show wc.heap.size<W5.heap.size by omega)).trans i0;have l1:=(Ajz.cell (p:=⟨wc.heap.size,1,none⟩) (show wc.heap.size<W5.heap.size by omega)).trans i1;have l2:=(Ajz.cell (p:=⟨wc.heap.size,2,none⟩) (show wc.heap.size<W5.heap.size by omega)).trans i2;have l3:=(Ajz.cell (p:=⟨wc.heap.size,3,none⟩) (show wc.heap.size<W5.heap.size by omega)).trans i3;have l4:=(Ajz.cell (p:=⟨wc.heap.size,4,none⟩) (show wc.heap.size<W5.heap.size by omega)).trans i4;have hs7:=Ajz.size;have hw7:w.heap.size<W7.heap.size:=by omega
          have hc7:wc.heap.size<W7.heap.size:=by omega
          have hbM:=(Below.refl W7.heap.size W7).alloc (Cn _) (.cells #[.bool p1,.string p2,.int .i64 p3] 117);have Biw:Below w.heap.size w (W7.alloc (.cells #[.bool p1,.string p2,.int .i64 p3] 117)):=Alr.alloc Alr.size _;by_cases hp:Gd vP.2.1=0
          rotate_left
          ·have hoB:(Gd vP.2.1 != 0)=true:=by simp[hp]
           have hI:P9 vT vC vO vX vP=.error (Gd vP.2.1):=by rw[hI2,Cy ⟨hxt,hp⟩]
           rename Exit->Act->World->Prop=>Q0;clear_value (hF:Q0=_)
           replace hF:=Hid.mk hF
           go_wp2
           (try simp only[Exit.inBlock,Exit.then]);rw[hF.v]
           exact Up (b:=w.heap.size) rfl rfl (CY W7 w.heap.size hw7 _ _ _ _ _ _ hr7) ⟨Rj Alr (Cn _) Alr.size _ _ _ _ _ _,by rw[hI];exact⟨hp,rfl⟩⟩
          have hpB:(Gd vP.2.1 != 0)=false:=by simp[hp]
          have Bgg:=A1l.below hbM (by have:=A1l.2.1;exact this)
          have hI:P9 vT vC vO vX vP=.ok (K,b,vO.2.1,true,vP.2.1):=by rw[hI2,Bl (by simp[hp]),hxt]
          rename Exit->Act->World->Prop=>Q0;clear_value (hF:Q0=_)
          replace hF:=Hid.mk hF
          go_wp2
          (try simp only[Exit.inBlock,Exit.then]);rw[hF.v]
          exact Up (b:=w.heap.size) rfl rfl (CY W7 w.heap.size hw7 _ _ _ _ _ _ hr7) ⟨Rj Alr (Cn _) Alr.size _ _ _ _ _ _,by rw[hI];exact⟨a,cap,rfl,hac,by omega,A1l.set5al (by omega)⟩⟩
end
section
open Go Go.RowKit Go.Lib
def ZU(L:Nat)(s:Aj):Prop:=Cp s/\s.length<=4*L
theorem PK:∀(n:Nat)(out l s q:Aj),Cp l->Lj n out l=(some s,q)->s.length<=out.length+4*l.length
  |0,_,_,_,_,_,h=>by cases h
  |_+1,_,[],_,_,_,h=>by cases h
  |n+1,out,c::l,s,q,hl,h=>by
    have e:Lj (n+1) out (c::l)=if c<32 then (none,c::l) else if c=34 then (some out,l) else if c=92 then
        (match Sf l with
         |(some x,r')=>Lj n (out++Lib.encodeRuneZ x) r'
         |(none,r')=>(none,r')) else Lj n (out++[c]) l:=rfl
    have Wd:=Dk hl
    rw[e] at h
    split at h
    · cases h
    split at h
    · cases h;simp
    split at h
    · have h2:=Y6 (Dy.self Wd.2)
      rcases hq:Sf l with⟨o,r⟩
      rw[hq] at h2 h
      cases o with
      |none=>cases h
      |some x=>
        have:=PK n _ r s q h2.B h
        have h3:=Lib.encodeRuneZ_length x
        have h4:r.length<=l.length:=h2.le
        simp at this ⊢
        omega
    · have:=PK n _ l s q Wd.2 h
      simp at this ⊢
      omega
theorem Adl{l s q:Aj}(hl:Cp l)(h:F1 l=(some s,q)):ZU l.length s:=by
 refine⟨Aia hl h,?_⟩;cases l with
 |nil=>cases h
 |cons c l=>
  have e:F1 (c::l)=if c=34 then Lj (l.length+1) [] l else (none,c::l):=rfl
  rw[e] at h;split at h
  ·have:=PK _ _ _ _ _ (Dk hl).2 h;simp at this ⊢;omega
  ·cases h
theorem ZU.mono{L M:Nat}{s:Aj}(h:ZU L s)(hm:L<=M):ZU M s:=⟨h.1,by have:=h.2;omega⟩
theorem ZU.nil(L:Nat):ZU L []:=⟨(fun x hx=>nomatch hx),Nat.zero_le _⟩
theorem Asi{l r:Aj}{v:JV}(hl:Cp l)(hs:l.length<=1000000)(h:Gu 8 l=.ok (v,r)):Dy (Ab l) r:=by
 obtain⟨res,_,hr⟩:=Aw4 (fu:=1000001) (d:=0) (t:=Ab l) (by rw[Ag];exact hs) (by rw[Ag];omega) 8 1 (by omega) (by omega) l (Dy.self hl)
 rw[h] at hr;exact hr.1
theorem As5:∀{k:Nat}{l r:Aj}{v:JV},Cp l->Gu k l=.ok (v,r)->ZU l.length v.2.1:=by
 intro k l r v hl h;unfold Gu at h;split at h
 ·split at h
  ·cases h
  ·split at h
   ·cases h
   ·cases h;exact ZU.nil _
 ·split at h
  ·cases h
  ·split at h
   ·cases h
   ·cases h;exact ZU.nil _
 ·rename_i r0;unfold EU at h;rcases hq:F1 (34::r0) with⟨o,q⟩;rw[hq] at h;cases o with
  |none=>cases h
  |some s=>cases h;exact Adl hl hq
 ·repeat' split at h
  all_goals first|(cases h;exact ZU.nil _)|cases h
theorem Aul{L:Nat}(hL:L<=1000000):∀(n:Nat)(ms:List (Aj × JV)) (l r:Aj)(ms':List (Aj × JV)),Cp l->l.length<=L->(∀m∈ms,ZU L m.1/\ZU L m.2.2.1)->Xh (Gu 8) true n ms l=.ok (ms',r)->∀m∈ms',ZU L m.1/\ZU L m.2.2.1:=by
 intro n
 induction n with
 |zero=>intro ms l r ms' _ _ _ h;cases h
 |succ n ih=>
  intro ms l r ms' hl hs hm h;rw[DK] at h;rcases hx:F1 l with⟨o,q⟩;rw[hx] at h;cases o with
  |none=>cases h
  |some nm=>
   have SM:=Adl hl hx;have hq:=Jc (Dy.self hl);rw[hx] at hq;simp only at h;split at h
   ·cases h
   cases h1:A6 [58] (Bd q) with
   |none=>rw[h1] at h;cases h
   |some r1=>
    rw[h1] at h;have RE:=B9 (Bg (B9 hq) h1);simp only at h;cases hv:Gu 8 (Bd r1) with
    |error e=>rw[hv] at h;cases h
    |ok x=>
     obtain⟨v,r2⟩:=x;rw[hv] at h;have FS:=RE.le;have hvo:=As5 RE.B hv;have VW:=RE.trans (Asi RE.B (by omega) hv)
     have Si:∀m∈ms++[(nm,v)],ZU L m.1/\ZU L m.2.2.1:=by
      intro m M6;rcases Bn.1 M6 with M6|M6
      ·exact hm m M6
      ·simp at M6;subst M6;exact⟨SM.mono hs,hvo.mono (by omega)⟩
     simp only at h;cases h2:A6 [125] (Bd r2) with
     |some r3=>rw[h2] at h;cases h;exact Si
     |none=>
      rw[h2] at h;simp only at h;cases h3:A6 [44] (Bd r2) with
      |none=>rw[h3] at h;cases h
      |some r3=>
       rw[h3] at h;have hr3:=B9 (Bg (B9 VW) h3);exact ih _ _ _ _ hr3.B (by have:=hr3.le;omega) Si h
theorem Au2{l:Aj}{ms:List (Aj × JV)}(hl:Cp l)(hs:l.length<=1000000)(h:Acs 8 l=.ok ms):∀m∈ms,ZU l.length m.1/\ZU l.length m.2.2.1:=by
 rw[HL] at h;have h0:=B9 (Dy.self hl);cases h1:A6 [123] (Bd l) with
 |none=>rw[h1] at h;cases h
 |some r=>
  rw[h1] at h;have hr:=Bg h0 h1;simp only at h;rw[Zf] at h;have VW:=B9 hr;cases h2:A6 [125] (Bd r) with
  |some r'=>
   rw[h2] at h;simp only at h;split at h
   ·cases h;exact fun m hm=>by cases hm
   ·cases h
  |none=>
   rw[h2] at h;simp only at h;cases h3:Xh (Gu 8) true ((Bd r).length+1) [] (Bd r) with
   |error e=>rw[h3] at h;cases h
   |ok x=>
    obtain⟨ms',r'⟩:=x;rw[h3] at h;simp only at h;split at h
    ·cases h;exact Aul hs _ _ _ _ _ VW.B VW.le (fun m hm=>by cases hm) h3
    ·cases h
def SZ(ms:List (Aj × JV)):JR CD:=P9 (Dd Tm ms) (Dd Zk ms) (Dd nmO ms) (Dd nmX ms) (Dd nmP ms)
def Mc(t:ByteArray):JR CD:=
 if 1024<t.size then .error 8 else if Lib.validD t.data.toList=false then .error 6 else match Acs 8 (Ci t) with
  |.error e=>.error e
  |.ok ms=>SZ ms
theorem Au0{G:BE}{P:Program}{f:FuncId}{args vals:Ad}{us rs:List Value}(hs:Cx G P f args ⟨vals,[]⟩)(ha:Be OT args us)(hr:Be OT vals rs){w:World}(hG:G.ok w)(hGl:∀k,G.bl k->k<w.heap.size):Calls P f us.toArray w fun e w'=>e=.returned (J1 rs)/\Below w.heap.size w w':=by
 have hi:Ins w (fun _=>False) YM args us:=⟨fun _ h=>h.elim,fun _ h=>h.elim,fun k h=>absurd h (Sn k),fun i j i' j' b o o' h=>(by cases h),fun i q h=>(by cases h),DY ha⟩
 refine (hs.2 w _ _ _ hi hG (fun k hk=>⟨hGl k hk,Sn k⟩)).mono ?_
 rintro e w' ⟨ws,own,rfl,out⟩
 have hv:=OH hr out.vals;subst hv;exact⟨rfl,out.os,out.tape,out.output,out.ext.size,fun k hk=>out.ext.keep k hk (Sn k)⟩
theorem Akc(W:World)(s:Aj)(hW:okW W)(hB:Cp s)(hs:s.length<=1000000):Calls prog 122 #[.string (Ab s)] W fun e w'=>Below W.heap.size W w'/\∃o1 o2 o3,e=.returned (.tuple #[.agg #[.bool o1,.string o2,.int .i64 o3],.int .i64 (Gd s)]):=by
 obtain⟨o1,o2,o3,e⟩:=A3e (fu:=1000001) (d:=0) (p:=pN) hB hs (by omega);have hsd:Cx gU prog 122 [Bo (Ab s)] ⟨[.agg ([Value.bool o1,.string o2,.int .i64 o3].map .sc),Aw (Gd s)],[]⟩:=Dh ngR mxR A0z 7 _ _ _ e;refine (Au0 (us:=[.string (Ab s)]) (rs:=[.agg #[.bool o1,.string o2,.int .i64 o3],.int .i64 (Gd s)]) hsd ⟨.inl rfl,trivial⟩ ⟨.inr ⟨_,rfl,rfl⟩,.inl rfl,trivial⟩ hW.1 hW.2).mono ?_
 rintro e w' ⟨rfl,hb⟩
 exact⟨hb,o1,o2,o3,rfl⟩
theorem Ak2(W:World)(s:Aj)(hW:okW W)(hB:Cp s)(hs:s.length<=1000000):Calls prog 121 #[.string (Ab s)] W fun e w'=>Below W.heap.size W w'/\DbP W w' s e:=by
 have e:=Azc (fu:=1000001) (d:=0) (p:=pN) hB hs (by omega) (by omega);have hi:Ins W (fun _=>False) YM [Bo (Ab s)] [.string (Ab s)]:=⟨fun _ h=>h.elim,fun _ h=>h.elim,fun k h=>absurd h (Sn k),fun i j i' j' b o o' h=>(by cases h),fun i q h=>(by cases h),DY (show Be OT [Bo (Ab s)] [.string (Ab s)] from ⟨.inl rfl,trivial⟩)⟩
 have hsd:Cx gU prog 121 [Bo (Ab s)] _:=Dh ngR mxR A0z 3 _ _ _ e;refine (hsd.2 W _ _ _ hi hW.1 (fun k hk=>⟨hW.2 k hk,Sn k⟩)).mono ?_
 rintro e w' ⟨ws,own,rfl,out⟩
 refine⟨⟨out.os,out.tape,out.output,out.ext.size,fun k hk=>out.ext.keep k hk (Sn k)⟩,?_⟩;have hv:=out.vals;have hfr:=out.fresh;generalize hA:MX YM own (fun _=>False)=A at hv;unfold DbP;cases hd:R2 s with
 |none=>
  rw[hd] at hv
  match ws,hv with
  |[u1,u2],hv=>
   obtain⟨h1,h2,_⟩:=hv;have e2:u2=.int .i64 2:=At.val (show At w' A (Aw 2) u2 from h2);rcases (show Ht w' A (own 0) (.own 1 0 []) u1 from h1) with⟨_,_,_,ad,rfl⟩|⟨b,o,cap,ho,rfl,h⟩
   ·rw[e2];exact⟨ad,0,rfl⟩
   ·rw[e2];exact⟨_,cap,rfl⟩
  |[],hv=>exact hv.elim
  |[_],hv=>exact hv.2.elim
  |_::_::_::_,hv=>exact hv.2.2.elim
 |some b=>
  rw[hd] at hv
  match ws,hv with
  |[u1,u2],hv=>
   obtain⟨h1,h2,_⟩:=hv;have e2:u2=.int .i64 0:=At.val (show At w' A (Aw 0) u2 from h2);rw[e2];rcases (show Ht w' A (own 0) (.own 1 b.length (Ae .u8 b)) u1 from h1) with⟨_,hn,_,ad,rfl⟩|⟨bb,o,cap,ho,rfl,hc,hf,Cm,hr,hz⟩
   ·have XR:b=[]:=List.eq_nil_of_length_eq_zero hn;subst XR;exact⟨ad,0,rfl,fun h=>absurd rfl h⟩
   ·refine⟨some ⟨bb,o,none⟩,cap,rfl,fun _=>⟨⟨bb,o,none⟩,rfl,hc,?_,rfl,Cm,fun j x hx=>?_⟩⟩
    ·have:=(hfr 0 bb o ho).2;rcases Id bb W.heap.size with q|q
     ·obtain⟨⟨i,k,o',h⟩,_⟩:=this q;cases h
     ·exact q
    ·have hj:(Ae .u8 b)[j]?=some (.sc (.int .u8 x)):=by
      rw[FX,List.getElem?_map,hx];rfl
     obtain⟨v,hv1,_,hv2⟩:=hr j _ hj;rw[hv1];exact congrArg some hv2.val
  |[],hv=>exact hv.elim
  |[_],hv=>exact hv.2.elim
  |_::_::_::_,hv=>exact hv.2.2.elim
def PaP(w w':World)(t:ByteArray)(e:Ending):Prop:=ItP w w' (Mc t) e
theorem Abq{R:Ending->World->Prop}{a:Act}{W:World}{v:Value}{b:Nat}(h2:a.tmps.getD 2 undef=.pointer (some ⟨b,0,none⟩))(hd:a.defers=[])(hl:(loadVar 81 ⟨b,0,none⟩).run prog W=.ok v W)(hR:R (.returned (.tuple #[v,a.tmps.getD 3 undef])) W):bodyPost prog Tryz.f57 R .ret a W:=by refine bodyPost_ret ?_ hd hR;rw[results_cell_tmp rfl,h2];have e:(asAddr (.pointer (some ⟨b,0,none⟩))).run prog W=.ok ⟨b,0,none⟩ W:=rfl;rw[e,Result.andThen_ok,hl,Result.andThen_ok]
def VsP(w w':World)(t:ByteArray)(e:Ending):Prop:=e=.returned (.bool (Lib.validD t.data.toList))/\Below w.heap.size w w'
def RtQ(w w':World)(t:ByteArray)(e:Ending):Prop:=Below w.heap.size w w'/\RtP w' (Ci t) e
def ItQ(w w':World)(r:JR CD)(e:Ending):Prop:=Below w.heap.size w w'/\ItP w w' r e
set_option maxHeartbeats 4000000 in
theorem Ata{t:ByteArray}(ht:t.size<=9223372036854775807){w:World}(hU:okW w):Calls prog 57 #[.string t] w fun e w'=>Below w.heap.size w w'/\PaP w w' t e:=by
 have mixed:prog.follows Departure.mixedOrders=true:=by kernel_rfl
 have Fv:Below w.heap.size w (w.alloc (.cells #[.int .i64 0,.slice none 0 0,.string ⟨#[]⟩,.bool false,.string ⟨#[]⟩] 81)):=(Below.refl _ w).alloc (Cn _) _;have hg1:=al1 w (.cells #[.int .i64 0,.slice none 0 0,.string ⟨#[]⟩,.bool false,.string ⟨#[]⟩] 81);have hs1:(w.alloc (.cells #[.int .i64 0,.slice none 0 0,.string ⟨#[]⟩,.bool false,.string ⟨#[]⟩] 81)).heap.size=w.heap.size+1:=Array.size_push _;have RE:RC (w.alloc (.cells #[.int .i64 0,.slice none 0 0,.string ⟨#[]⟩,.bool false,.string ⟨#[]⟩] 81)) w.heap.size:=Anq hg1;have hU1:=hU.below Fv
 have hvc:Calls prog 91 #[.string t] (w.alloc (.cells #[.int .i64 0,.slice none 0 0,.string ⟨#[]⟩,.bool false,.string ⟨#[]⟩] 81)) fun e w'=>VsP (w.alloc (.cells #[.int .i64 0,.slice none 0 0,.string ⟨#[]⟩,.bool false,.string ⟨#[]⟩] 81)) w' t e:=(Any.utf8_ValidString laysVS t (w.alloc (.cells #[.int .i64 0,.slice none 0 0,.string ⟨#[]⟩,.bool false,.string ⟨#[]⟩] 81)) ht hU1.1.2.2).mono (fun _ _ h=>h)
 go_enter Tryz.func57,Tryz.ntmps57
 by_cases Eb:1024<t.size
 ·have hI:Mc t=.error 8:=by unfold Mc;rw[Cy Eb]
  have hq:(t.size:Int)>1024:=by omega
  go_wp2
  (try simp only[Exit.inBlock,Exit.then])
  obtain⟨⟨r0,r1,r2,r3,r4⟩,_⟩:=RE;exact Abq (b:=w.heap.size) rfl rfl (XT r0 r1 r2 r3 r4) ⟨Fv,by unfold PaP;rw[hI];exact⟨by decide,rfl⟩⟩
 have hq:¬(t.size:Int)>1024:=by omega
 go_wp2_with (go_at_call 91;refine hvc.mono ?_)
 rintro e W2 ⟨rfl,Ir⟩
 have Avu:Below w.heap.size w W2:=Fv.trans (Ir.mono Fv.size);have VW:=RE.below Ir (by rw[hs1];omega)
 have JM:w.heap.size+1<=W2.heap.size:=by have:=Ir.size;rw[hs1] at this;exact this
 have hw2:w.heap.size<W2.heap.size:=by omega
 have hU2:=hU.below Avu;cases hvd:Lib.validD t.data.toList with
 |false=>
  have hI:Mc t=.error 6:=by unfold Mc;rw[Bl Eb,hvd,Cy rfl]
  obtain⟨⟨r0,r1,r2,r3,r4⟩,s0,s1,s2,s3,s4⟩:=id VW
  go_wp2
  (try simp only[Exit.inBlock,Exit.then])
  exact Abq (b:=w.heap.size) rfl rfl (RZ W2 w.heap.size _ _ _ _ _ VW.some) ⟨Rf Avu (Cn _) _ _ _ _ _,by unfold PaP;rw[hI];exact⟨by decide,rfl⟩⟩
 |true=>
  have LZ:Mc t=match Acs 8 (Ci t) with | .error e=>.error e | .ok ms=>SZ ms:=by unfold Mc;rw[Bl Eb,hvd,Bl (by decide)]
  have hrt:Calls prog 92 #[.string t] W2 fun e w'=>RtQ W2 w' t e:=At2 (by omega) hU2.1 hU2.2
  go_wp2_with (go_at_call 92;refine hrt.mono ?_)
  rintro e W3 ⟨JX,hp3⟩
  have ZT:Below w.heap.size w W3:=Avu.trans (JX.mono Avu.size);have hr3:=VW.below JX hw2;have hw3:w.heap.size<W3.heap.size:=Gb hw2 JX.size;have hU3:=hU.below ZT;unfold RtP at hp3;cases A0x:Acs 8 (Ci t) with
  |error er=>
   rw[A0x] at hp3 LZ;obtain⟨he,m,rfl⟩:=hp3;have hbe:(er != (0:Int))=true:=by simp[he]
   obtain⟨⟨r0,r1,r2,r3,r4⟩,s0,s1,s2,s3,s4⟩:=id hr3
   go_wp2
   (try simp only[Exit.inBlock,Exit.then])
   exact Abq (b:=w.heap.size) rfl rfl (RZ W3 w.heap.size _ _ _ _ _ hr3.some) ⟨Rf ZT (Cn _) _ _ _ _ _,by unfold PaP;rw[LZ];exact⟨he,rfl⟩⟩
  |ok ms=>
   rw[A0x] at hp3 LZ;obtain⟨mb,rfl,hM3⟩:=hp3;have Sx:(Ci t).length<=1000000:=by rw[Dc];omega
   have hok:=Au2 (DG t) Sx A0x;have hl4:4*(Ci t).length<=1000000:=by rw[Dc];omega
   have DH:Calls prog 93 #[.map (some mb)] W3 fun e w'=>ItQ W3 w' (SZ ms) e:=Atr Ak2 Akc (fun m hm=>(hok m hm).1.1) (fun m hm=>⟨(hok m hm).2.1,by have:=(hok m hm).2.2;omega⟩) hU3 hM3
   go_wp2_with (go_at_call 93;refine DH.mono ?_)
   rintro e W4 ⟨hb4,hp4⟩
   have Aaw:Below w.heap.size w W4:=ZT.trans (hb4.mono ZT.size);have hr4:=hr3.below hb4 hw3;have hw4:w.heap.size<W4.heap.size:=Gb hw3 hb4.size;unfold ItP at hp4;cases hmm:SZ ms with
   |error er=>
    rw[hmm] at hp4 LZ;obtain⟨he,rfl⟩:=hp4;have hbe:(er != (0:Int))=true:=by simp[he]
    obtain⟨⟨r0,r1,r2,r3,r4⟩,s0,s1,s2,s3,s4⟩:=id hr4
    go_wp2
    (try simp only[Exit.inBlock,Exit.then])
    exact Abq (b:=w.heap.size) rfl rfl (CY W4 w.heap.size hw4 _ _ _ _ _ _ hr4) ⟨Rj Aaw (Cn _) Aaw.size _ _ _ _ _ _,by unfold PaP;rw[LZ];exact⟨he,rfl⟩⟩
   |ok x=>
    obtain⟨k,b,o,x,p⟩:=x;rw[hmm] at hp4 LZ;obtain⟨ad,cap,rfl,hc,hwa,hla⟩:=hp4;obtain⟨⟨r0,r1,r2,r3,r4⟩,s0,s1,s2,s3,s4⟩:=id hr4
    go_wp2
    (try simp only[Exit.inBlock,Exit.then])
    exact Abq (b:=w.heap.size) rfl rfl (CY W4 w.heap.size hw4 _ _ _ _ _ _ hr4) ⟨Rj Aaw (Cn _) Aaw.size _ _ _ _ _ _,by unfold PaP;rw[LZ];exact⟨ad,cap,rfl,hc,by omega,hla.set5al (by omega)⟩⟩
def ID(args:Ad):Option A1:=
 match args with
 |[.sc (.string t)]=>bif decide (t.size<=9223372036854775807) then some (match Mc t with
  |.ok (k,b,o,x,p)=>⟨[.agg [Aw k,.lst false 1 b.length (Ae .u8 b),Bo (Ab o),C9 x,Bo (Ab p)],Aw 0],[]⟩
  |.error e=>⟨[.agg [Aw 0,.lst false 1 0 [],Bo ⟨#[]⟩,C9 false,Bo ⟨#[]⟩],Aw e],[]⟩) else none
 |_=>none
theorem PQ{w w':World}{Y:Nat->Prop}{bt:GQ}{args vals:Ad}{vs:List Value}(hb:Below w.heap.size w w')(hv:TZ w' (MX bt (fun _=>none) Y) (fun _=>none) w.heap.size 0 vals vs)(ho:AV w' (MX bt (fun _=>none) Y) (fun _=>none) bt (Ph vals) 0 args []):
  Out w w' Y bt args (fun _=>none) ⟨vals,[]⟩ vs where
 os:=hb.os
 tape:=hb.tape
 output:=hb.output
 ext:=⟨hb.size,fun b h _=>hb.block b h,fun b h=>Ij.same (hb.block b h)⟩
 rng:=fun b j h _=>⟨by unfold World.cell?;simp only[hb.block b h],by unfold World.frozen?;simp only[hb.block b h]⟩
 vals:=hv
 outs:=ho
 fresh:=fun j b o h=>by cases h
 inj:=fun j j' b o o' h=>by cases h
theorem JQ(args:Ad)(res:A1)(h:ID args=some res):Cx gU prog 57 args res:=by
 refine⟨⟨_,Tryz.func57,by kernel_rfl⟩,fun w Y bt us hi hok hgl=>?_⟩;unfold ID at h;split at h
 rotate_left
 ·cases h
 rename_i t;cases hq:decide (t.size<=9223372036854775807)
 ·rw[hq] at h;cases h
 rw[hq,cond_true] at h;have hs:=of_decide_eq_true hq;have ps:=hi.args
 match us,ps with
 |[u],ps=>
  have hu:u=.string t:=At.val (show At w _ (Bo t) u from ps.1.2);subst hu;refine (Ata hs ⟨hok,fun k hk=>(hgl k hk).1⟩).mono ?_
  rintro e w' ⟨hb,hp⟩
  unfold PaP at hp;unfold ItP at hp;cases LH:Mc t with
  |error er=>
   rw[LH] at hp h;obtain⟨_,rfl⟩:=hp;cases h;refine⟨[.agg #[.int .i64 0,.slice none 0 0,.string ⟨#[]⟩,.bool false,.string ⟨#[]⟩],.int .i64 er],fun _=>none,rfl,PQ hb ⟨⟨_,rfl,?_⟩,At.sc _,trivial⟩ rfl⟩;exact⟨At.sc _,At.lnil _ _,At.sc _,At.sc _,At.sc _,trivial⟩
  |ok x=>
   obtain⟨k,b,o,x,p⟩:=x;rw[LH] at hp h;obtain⟨ad,cap,rfl,hc,hwa,hla⟩:=hp;cases h;refine⟨[.agg #[.int .i64 k,.slice (some ad) b.length cap,.string (Ab o),.bool x,.string (Ab p)],.int .i64 0],fun _=>none,rfl,PQ hb ⟨⟨_,rfl,?_⟩,At.sc _,trivial⟩ rfl⟩;refine⟨At.sc _,?_,At.sc _,At.sc _,At.sc _,trivial⟩;refine At.lst 1 b.length (Ae .u8 b) ad cap (fun j=>.int .u8 (b.getD j 0)) hla.1 hla.2.1 ?_ hc ?_ ?_ ?_
   ·rintro (⟨j,o,h⟩|⟨i,o,h⟩|h)
    ·cases h
    ·have:=hi.lt ad.block ⟨i,0,o,h⟩;omega
    ·have:=hi.Ylt _ h;omega
   ·intro j c hj;rw[FX,List.getElem?_map] at hj;obtain⟨y,hy,rfl⟩:=Option.map_eq_some_iff.1 hj;rw[hla.2.2 j y hy];simp[List.getD_eq_getElem?_getD,hy]
   ·intro j c hj;rfl
   ·intro j c hj;rw[FX,List.getElem?_map] at hj;obtain⟨y,hy,rfl⟩:=Option.map_eq_some_iff.1 hj;have:b.getD j 0=y:=by simp[List.getD_eq_getElem?_getD,hy]
    rw[this];exact At.sc _
 |[],ps=>exact ps.elim
 |_::_::_,ps=>exact ps.2.elim
def pB:FuncId->Option (Ad->Option A1):=fun f=>bif Nat.beq f 57 then some ID else none
abbrev Cb:Gw:=CP pB
abbrev xsb:=RN pB
theorem Ac8:ES gU prog Cb:=Ar0 (fun f _ g h args res hg=>by
 unfold pB at h;cases hq:Nat.beq f 57
 ·rw[hq] at h;cases h
 ·rw[hq] at h;cases h;rw[C6 hq];exact JQ args res hg)
end
section
variable {xs:FuncId->Option (Ad->Option A1)}(fu d:Nat)(call:Aq)
theorem Yg(Z:Int):O9 (CX xs) fu d 52 [Z] fun call=>Ax (decide (Z>=0)) (Bj [C9 (decide (Z<=4))]) (Bj [false]):=by show _=_;kernel_rfl
def Gh(Z:Int)(Y:Nat)(X:Int)(W:Nat)(V U:Int)(T:Ad):Option A1:=Ll fu call 85 Tryz.f85 [Ah Z] [.r,.r,.r,.l,.r,.l] Y ⟨lk [(0,Ah X),(3,.view 3 1 0 W),(4,V),(5,U)],Fw [(3,.ar false T)]⟩
theorem L5(U:Int)(T:Nat)(V:Int)(Z:Nat)(Y X:Int)(W:Ad):Gh fu call U (T+1) V Z Y X W=(Ax (decide (X>=0)) (Aa (wrap .i64 (4*X)) fun a=>Aa (wrap .u64 a) fun a=>Ar (decide (0<=a))<|Aa (Gl .u64 V a) fun a=>Aa (D3 .u64 a 15) fun a=>Aa (wrap .i64 a) fun a=>ZzA Z 1 8 W [a] fun b c=>Aa (wrap .i64 (15-a)) fun a=>Aa (wrap .i64 (Y+a)) fun a=>Aa (wrap .i64 (X-1)) fun e=>Gh fu call U T V b a e c) (Aa (wrap .i64 (Int.tdiv Y 16)) fun a=>Aa (Int.tmod Y 16) fun b=>Ar (decide (Z*1<=W.length)&&true&&decide ((Z+2)*8<=1099511627776)&&decide (Z+2<=1099511627776))<|Aa (Z+2) fun c=>Aa (List.take (Z*1) W++[Aw a,Aw b]) fun a=>Ar (decide (c*1<=a.length))<|Bj [.own 1 c (a.take (c*1))])):=by kernel_rfl
theorem Z5(Z:Int):O9 (CX xs) fu d 85 [Ah Z] fun call=>Gh fu call Z fu Z 0 0 15 ([]):=by show _=_;kernel_rfl
def Hw(Z Y:Int)(X W V:Int)(U:Nat)(T S:Int)(Q P O:Int):Option A1:=Ll fu call 86 Tryz.f86 [Z,Y,X,W,Ah V] [.r,.l,.r,.l] U ⟨lk [(0,T),(1,S),(3,Q),(4,Ah P),(11,O)],Fw []⟩
theorem Ol(U T:Int)(S Q P:Int)(O:Nat)(X W:Int)(Z V Y:Int):Hw fu call U T S Q P (O+1) X W Z V Y=(Aa (if 15<Z then 15 else Z) fun a=>Ax (decide (Y<a)) (Aa (wrap .u64 X) fun a=>Aa (wrap .u64 W) fun b=>Aa (wrap .u64 Y) fun c=>D6 (call 50 [A5 1 4 [Ah a,Ah b,Ah c,Ah V]]) fun a b=>Lg 1 a fun a c=>Ap b<|Ar (decide (0+a*1<=c.length))<|Gz .u64 (call 45 [(1:Int),A5 1 a (List.take (a*1) (c.drop 0))]) fun a=>Aa (wrap .i64 (Y+1)) fun b=>Hw fu call U T S Q P O X W Z a b) (Bj [Ah V])):=by kernel_rfl
theorem DU(Y X:Int)(Z W V:Int):O9 (CX xs) fu d 86 [Y,X,Z,W,Ah V] fun call=>Aa (if Z<0 then 0 else Z) fun a=>Hw fu call Y X Z W V fu Y X W V a:=by show _=_;kernel_rfl
theorem Yi(Z Y X:Int):O9 (CX xs) fu d 87 [Ah Z,Y,X] fun call=>Aa (wrap .u64 Y) fun a=>Aa (wrap .u64 X) fun b=>D6 (call 50 [A5 1 2 [Ah a,Ah b]]) fun a b=>Lg 1 a fun a c=>Ap b<|Ar (decide (0+a*1<=c.length))<|Gz .u64 (call 73 [Ah Z,(1:Int),A5 1 a (List.take (a*1) (c.drop 0))]) fun a=>Bj [Ah a]:=by show _=_;kernel_rfl
theorem CF(Z:Int)(Y:Nat)(X:Ad):O9 (CX xs) fu d 116 [Z,A5 1 Y X] fun call=>Aa (wrap .u64 Z) fun a=>D6 (call 50 [A5 1 1 [Ah a]]) fun a b=>Lg 1 a fun a c=>Ap b<|D6 (call 50 [A5 1 Y X]) fun b e=>Lg 1 b fun b f=>Ap e<|Ar (decide (0+b*1<=f.length))<|Ar (decide (a*1<=c.length)&&decide (List.length (List.take (b*1) (f.drop 0))=b*1)&&decide ((a+b)*1<=1099511627776)&&decide (a+b<=1099511627776))<|Aa (a+b) fun e=>Aa (List.take (a*1) c++List.take (b*1) (f.drop 0)) fun a=>Ar (decide (0+e*1<=a.length))<|Gz .u64 (call 45 [(2:Int),A5 1 e (List.take (e*1) (a.drop 0))]) fun a=>Bj [Ah a]:=by show _=_;kernel_rfl
def G1(Z Y:Int)(X:Nat)(W V:Int)(U:Nat)(T:Int)(S:Ad):Option A1:=Ll fu call 88 Tryz.f88 [Ah Z,Y] [.r,.r,.l,.r,.l] X ⟨lk [(0,Ah W),(1,V),(5,.view 5 1 0 U),(6,T)],Fw [(5,.ar false S)]⟩
theorem M4(U T:Int)(S:Nat)(V Z:Int)(Y:Nat)(X:Int)(W:Ad):G1 fu call U T (S+1) V Z Y X W=(Ax (decide (X<18)) (Gz .u64 (call 87 [Ah V,Z,X]) fun a=>Gz .u64 (call 86 [Z,X,(0:Int),(15:Int),Ah a]) fun a=>ZzA Y 1 8 W [Ah a] fun a b=>Aa (wrap .i64 (X+1)) fun c=>G1 fu call U T S V Z a c b) (Ar (decide (0+Y*1<=W.length))<|Gz .u64 (call 116 [Z,A5 1 Y (List.take (Y*1) (W.drop 0))]) fun a=>Bj [Ah a])):=by kernel_rfl
theorem DB(Z Y:Int):O9 (CX xs) fu d 88 [Ah Z,Y] fun call=>G1 fu call Z Y fu Z Y 0 0 ([]):=by show _=_;kernel_rfl
def Fi(Z Y X:Int)(W:Nat)(V U:Int)(T S:Nat)(Q:Int)(P O:Ad):Option A1:=Ll fu call 53 Tryz.f53 [Ah Z,Y,Ah X] [.r,.r,.r,.l,.r,.l] W ⟨lk [(0,Ah V),(1,U),(7,.view 7 1 0 T),(8,.view 8 1 0 S),(9,Q)],Fw [(7,.ar false P),(8,.ar false O)]⟩
theorem Jt(S Q P:Int)(O:Nat)(V X:Int)(U Y:Nat)(Z:Int)(T W:Ad):Fi fu call S Q P (O+1) V X U Y Z T W=(Ax (decide (Z<18)) (Ar (decide (0<=Z)&&decide (Z<(↑U:Int)))<|Bc .i64 (T.getD (0+Z.toNat*1) .top) fun a=>Gz .u64 (call 87 [Ah V,X,Z]) fun b=>Gz .u64 (call 86 [X,Z,(0:Int),a,Ah b]) fun a=>ZzA Y 1 8 W [Ah a] fun a b=>Aa (wrap .i64 (Z+1)) fun c=>Fi fu call S Q P O V X U a c T b) (Ar (decide (Y*1<=W.length))<|Bj [.own 1 Y (W.take (Y*1))])):=by kernel_rfl
theorem V1(Z Y X:Int):O9 (CX xs) fu d 53 [Ah Z,Y,Ah X] fun call=>D6 (call 85 [Ah X]) fun a b=>Lg 1 a fun a c=>Ap b<|Fi fu call Z Y X fu Z Y a 0 0 c ([]):=by show _=_;kernel_rfl
theorem Xn(Z Y X:Int):O9 (CX xs) fu d 89 [Z,Ah Y,Ah X] fun call=>Aa (wrap .u64 Z) fun a=>D6 (call 50 [A5 1 3 [Ah a,Ah Y,Ah X]]) fun a b=>Lg 1 a fun a c=>Ap b<|Ar (decide (0+a*1<=c.length))<|Gz .u64 (call 45 [(3:Int),A5 1 a (List.take (a*1) (c.drop 0))]) fun a=>Bj [Ah a]:=by show _=_;kernel_rfl
theorem Qy(Y Z X:Int):O9 (CX xs) fu d 54 [Ah Y,Z,X] fun call=>Ax (Z==0) (Gz .u64 (call 88 [Ah Y,X]) fun a=>Bj [Ah a]) (Aa (wrap .i64 (Z-1)) fun a=>Aa (wrap .i64 (2*X)) fun b=>Gz .u64 (call 54 [Ah Y,a,b]) fun a=>Aa (wrap .i64 (Z-1)) fun b=>Aa (wrap .i64 (2*X)) fun c=>Aa (wrap .i64 (c+1)) fun c=>Gz .u64 (call 54 [Ah Y,b,c]) fun b=>Gz .u64 (call 89 [Z,Ah a,Ah b]) fun a=>Bj [Ah a]):=by show _=_;kernel_rfl
theorem Xq(Y Z:Int):O9 (CX xs) fu d 41 [Ah Y,Z] fun call=>D6 (call 52 [Z]) fun a b=>Bu a fun a=>Ap b<|Ax (!a) (Bj [.agg [(0:Int),Ah 0],(9:Int)]) (Gz .u64 (call 54 [Ah Y,Z,(0:Int)]) fun a=>Bj [.agg [Z,Ah a],(0:Int)]):=by show _=_;kernel_rfl
def G4(Z Y:Int)(X W:Int)(V:Nat)(U T:Int)(S Q P:Int)(O N:Nat)(M L:Ad)(K:Int)(J I:Nat)(H G:Ad):Option A1:=Ll fu call 26 Tryz.f26 [Ah Z,Y,X,Ah W] [.r,.r,.r,.l,.r,.l] V ⟨lk [(0,Ah U),(1,T),(2,S),(8,.ptr 8 0),(10,.ptr 10 0),(11,Q)],Fw [(8,.st [P,.view 112 1 0 O,.view 164 1 0 N]),(112,.ar false M),(164,.ar false L),(10,.st [K,.view 114 1 0 J,.view 166 1 0 I]),(114,.ar false H),(166,.ar false G)]⟩
theorem Mx(P O:Int)(N M:Int)(L:Nat)(U T:Int)(S Z K:Int)(J I:Nat)(H G:Ad)(Q:Int)(Y X:Nat)(W V:Ad):G4 fu call P O N M (L+1) U T S Z K J I H G Q Y X W V=(Ax (decide (Z<T)) (Aa (wrap .u64 Z) fun a=>Ar (decide (0<=a))<|Aa (Gl .i64 S a) fun a=>Aa (D7 .i64 a 1) fun a=>Gz .u64 (call 54 [Ah U,Z,a]) fun a=>ZzA X 1 8 V [Ah a] fun a b=>Aa (wrap .i64 (Z+1)) fun c=>G4 fu call P O N M L U T S c K J I H G Q Y a W b) (Ar (decide (Y*1<=W.length))<|Ar (decide (X*1<=V.length))<|Bj [.agg [Q,.own 1 Y (W.take (Y*1)),.own 1 X (V.take (X*1))],(0:Int)])):=by kernel_rfl
theorem CC(X Y:Int)(Z W:Int):O9 (CX xs) fu d 26 [Ah X,Y,Z,Ah W] fun call=>D6 (call 52 [Y]) fun a b=>Bu a fun a=>(fun e:Option A1=>Ap b<|Ax (!a) e (Ax (decide (Z<0)) e (Aa (wrap .u64 Y) fun a=>Ar (decide (0<=a))<|Aa (Fb .i64 1 a) fun a=>Ax (decide (Z>=a)) e (D6 (call 53 [Ah X,Z,Ah W]) fun a b=>Lg 1 a fun a c=>Ap b<|G4 fu call X Y Z W fu X Y Z 0 0 0 0 ([]) ([]) Z a 0 c ([]))))) (Bj [.agg [(0:Int),.own 1 0 [],.own 1 0 []],(9:Int)]):=by show _=_;kernel_rfl
theorem Uz(Z Y:Int):O9 (CX xs) fu d 51 [.agg [Z,Ah Y]] fun call=>D6 (call 52 [Z]) fun a b=>Bu a fun a=>Ap b<|Ax (!a) (Bj [.own 1 0 [],(9:Int)]) (Aa (wrap .u8 Z) fun a=>D6 (call 50 [A5 1 1 [Ah Y]]) fun b c=>Lg 1 b fun b e=>Ap c<|Ar (decide (0+b*1<=e.length))<|Ar (decide (List.length (List.take (b*1) (e.drop 0))=b*1)&&decide ((1+b)*1<=1099511627776)&&decide (1+b<=1099511627776))<|Aa (1+b) fun c=>Aa ([.sc (.int .u8 a)]++List.take (b*1) (e.drop 0)) fun a=>Ar (decide (c*1<=a.length))<|Bj [.own 1 c (a.take (c*1)),(0:Int)]):=by show _=_;kernel_rfl
theorem N6(Y:Int)(X:Nat)(W:Ad)(Z:Nat)(V:Ad):O9 (CX xs) fu d 27 [.agg [Y,A5 1 X W,A5 1 Z V]] fun call=>(fun g:Option A1=>Ax (decide ((↑Z:Int)>4)) g (Ax (decide (Y<0)) g (Aa (wrap .u64 (↑Z:Int)) fun a=>Ar (decide (0<=a))<|Aa (Fb .i64 1 a) fun a=>Ax (decide (Y>=a)) g (Ax ((↑X:Int) != 18) (Bj [.own 1 0 [],(4:Int)]) (Aa (wrap .u8 Y) fun a=>Aa (wrap .u8 (↑Z:Int)) fun b=>D6 (call 50 [A5 1 X W]) fun c e=>Lg 1 c fun c f=>Ap e<|Ar (decide (0+c*1<=f.length))<|Ar (decide (List.length (List.take (c*1) (f.drop 0))=c*1)&&decide ((2+c)*1<=1099511627776)&&decide (2+c<=1099511627776))<|Aa (2+c) fun e=>Aa ([.sc (.int .u8 a),.sc (.int .u8 b)]++List.take (c*1) (f.drop 0)) fun a=>D6 (call 50 [A5 1 Z V]) fun b c=>Lg 1 b fun b f=>Ap c<|Ar (decide (0+b*1<=f.length))<|Ar (decide (e*1<=a.length)&&decide (List.length (List.take (b*1) (f.drop 0))=b*1)&&decide ((e+b)*1<=1099511627776)&&decide (e+b<=1099511627776))<|Aa (e+b) fun c=>Aa (List.take (e*1) a++List.take (b*1) (f.drop 0)) fun a=>Ar (decide (c*1<=a.length))<|Bj [.own 1 c (a.take (c*1)),(0:Int)]))))) (Bj [.own 1 0 [],(9:Int)]):=by show _=_;kernel_rfl
end
theorem Vl{α:Type}(f:Nat->α)(i:Nat):(List.range (i+1)).map f=(List.range i).map f++[f i]:=by rw[List.range_succ,List.map_append];rfl
section
variable {fu d:Nat}{xs:FuncId->Option (Ad->Option A1)}
theorem CH(h:Int):Ac (CX xs) prog fu (d+1) 52 [Aw h]=some ⟨[C9 (!D2 h)],[]⟩:=by
 rw[Yg];unfold D2;by_cases h0:h<0
 ·simp(disch:=omega)only[A4,A3,h0,decide_true,Bool.true_or,Hn]
 ·have e:decide (h<=4) = !decide (h>4):=by
   by_cases c:h<=4
   ·have:¬h>4:=by omega
    simp[c,this]
   ·have:h>4:=by omega
    simp[c,this]
  simp(disch:=omega)only[A4,A3,h0,decide_false,Bool.false_or,e]
theorem Afp{ws:Aj}(hl:ws.length<=100)(Bq:1000<=fu)(dom:Int):Ac (CX xs) prog fu (d+4) 45 [Aw dom,.lst false 1 (Ao ws).length (Ae .u8 (Ao ws))]=some ⟨[Ah (D8 dom (Ao ws))],[]⟩:=
 EJ (xs:=xs) (Uv ws) (by rw[Ed];omega) (by omega) (by rw[Ed];omega) dom
theorem JH{call:Aq}{a0 m:Int}:∀(k nn:Nat)(i:Nat),i+k=16->k<nn ->
  Gh fu call a0 nn m ((List.range i).map (Gx m)).length (Kz m i) (15-(i:Int)) (Ae .i64 ((List.range i).map (Gx m)))=some ⟨[.own 1 18 (Ae .i64 (YD m))],[]⟩
 |_,0,_,_,h=>by omega
 |0,nn+1,i,hi,hn=>by
  have e:i=16:=by omega
  subst e;have hs:=K3 m 16
  have wq:wrap .i64 (Int.tdiv (Kz m 16) 16)=Kz m 16 / 16:=by
   rw[Int.tdiv_eq_ediv_of_nonneg (by omega),Bb]
  have wm:Int.tmod (Kz m 16) 16=Kz m 16 % 16:=Int.tmod_eq_emod_of_nonneg (by omega)
  have e2:Ae .i64 ((List.range 16).map (Gx m))++[PV.sc (.int .i64 (Kz m 16 / 16)),PV.sc (.int .i64 (Kz m 16 % 16))]=Ae .i64 (YD m):=by
   unfold YD;rw[Ae,Ae,List.flatMap_append];rfl
  have L:(Ae .i64 (YD m)).length=18:=by rw[Al,Ahf]
  have tk:List.take 18 (Ae .i64 (YD m))=Ae .i64 (YD m):=Ji (by omega);have l16:((List.range 16).map (Gx m)).length=16:=by simp
  have L16:=Al .i64 ((List.range 16).map (Gx m));have t16:=LX .i64 ((List.range 16).map (Gx m));rw[l16] at L16 t16 ⊢;rw[L5,Hh _ _ _ (by omega)];simp(disch:=omega)only[A4,A3,wq,wm,J6,t16,e2,L16,Nat.reduceAdd,L,tk]
 |k+1,nn+1,i,hi,hn=>by
  have ih:=JH (call:=call) (a0:=a0) (m:=m) k nn (i+1) (by omega) (by omega);have hb:=Sq m i;have hs:=K3 m i;have w1:wrap .i64 (4*(15-(i:Int)))=60-4*(i:Int):=Bk
  have w2:wrap .u64 (60-4*(i:Int))=60-4*(i:Int):=Ey;have hd:wrap .i64 (D3 .u64 (Gl .u64 m (60-4*(i:Int))) 15)=Gx m i:=rfl;have w15:wrap .i64 (15-Gx m i)=15-Gx m i:=Bb;have ws:wrap .i64 (Kz m i+(15-Gx m i))=Kz m (i+1):=by rw[Bb];rfl
  have wi:wrap .i64 (15-(i:Int)-1)=15-((i+1:Nat):Int):=Bk
  have L:=Al .i64 ((List.range i).map (Gx m));have l16:((List.range i).map (Gx m)).length=i:=by simp
  rw[Vl,Xk,List.length_singleton,<-Um] at ih;rw[L5];simp(disch:=omega)only[A4,A3,w1,w2,hd,w15,ws,wi,J6,LX,L];exact ih
theorem Ajk(Bq:1000<=fu)(m:Int):Ac (CX xs) prog fu (d+1) 85 [Ah m]=some ⟨[.own 1 18 (Ae .i64 (YD m))],[]⟩:=by rw[Z5];exact JH (fu:=fu) (a0:=m) (m:=m) 16 fu 0 (by omega) (by omega)
theorem UK{leaf chain:Int}{a0 a1 a2 a3 a4:Int}(Bq:1000<=fu){t:Int}(ht:t<=15):∀(k nn:Nat)(p x:Int),(k:Int)=t-p->0<=p->k<nn ->
  Hw fu (Ac (CX xs) prog fu (d+4)) a0 a1 a2 a3 a4 nn leaf chain t x p=some ⟨[Ah (Tp leaf chain k p x)],[]⟩
 |_,0,_,_,_,_,h=>by omega
 |0,nn+1,p,x,hk,hp,hn=>by
  rw[Ol];simp only[F5];rw[Bl (by omega),Hh _ _ _ (by omega)];rfl
 |k+1,nn+1,p,x,hk,hp,hn=>by
  have w:wrap .i64 (p+1)=p+1:=Bb;have wd:Ac (CX xs) prog fu (d+4) 50 [.lst false 1 4 [Ah (wrap .u64 leaf),Ah (wrap .u64 chain),Ah (wrap .u64 p),Ah x]]=_:=Ia (xs:=xs) (ws:=[wrap .u64 leaf,wrap .u64 chain,wrap .u64 p,x]) (by simp) (by omega) (by simp;omega)
  have hs:=Afp (xs:=xs) (fu:=fu) (d:=d) (ws:=[wrap .u64 leaf,wrap .u64 chain,wrap .u64 p,x]) (by simp) Bq 1;have ih:=UK (leaf:=leaf) (chain:=chain) (a0:=a0) (a1:=a1) (a2:=a2) (a3:=a3) (a4:=a4) Bq ht k nn (p+1) (D8 1 (Ao [wrap .u64 leaf,wrap .u64 chain,wrap .u64 p,x])) (by omega) (by omega) (by omega);have L:=Al .u8 (Ao [wrap .u64 leaf,wrap .u64 chain,wrap .u64 p,x]);have eR:Tp leaf chain (k+1) p x=Tp leaf chain k (p+1) (D8 1 (Ao [wrap .u64 leaf,wrap .u64 chain,wrap .u64 p,x])):=rfl;rw[eR];generalize Ao [wrap .u64 leaf,wrap .u64 chain,wrap .u64 p,x]=W at wd hs ih L ⊢;have e15:(if (15:Int)<t then 15 else t)=t:=Bl (by omega);rw[Ol]
  simp(disch:=omega)only[A4,A3,e15,wd,J6,Ig,Ou,LX,L,hs,w];exact ih
theorem Aiu{leaf chain:Int}(Bq:1000<=fu)(k:Nat)(f t x:Int)(hk:(k:Int)=t-f)(h0:0<=f)(h1:t<=15):Ac (CX xs) prog fu (d+5) 86 [Aw leaf,Aw chain,Aw f,Aw t,Ah x]=some ⟨[Ah (Tp leaf chain k f x)],[]⟩:=by rw[DU];simp only[F5];rw[Bl (by omega)];exact UK Bq h1 k fu f x hk h0 (by omega)
theorem NQ(Bq:1000<=fu)(seed leaf chain:Int):Ac (CX xs) prog fu (d+5) 87 [Ah seed,Aw leaf,Aw chain]=some ⟨[Ah (WX seed leaf chain)],[]⟩:=by
 have wd:Ac (CX xs) prog fu (d+4) 50 [.lst false 1 2 [Ah (wrap .u64 leaf),Ah (wrap .u64 chain)]]=_:=Ia (xs:=xs) (ws:=[wrap .u64 leaf,wrap .u64 chain]) (by simp) (by omega) (by simp;omega)
 have hs:=Aja (xs:=xs) (fu:=fu) (d:=d) (Uv [wrap .u64 leaf,wrap .u64 chain]) (by rw[Ed];simp) (by omega) (by rw[Ed];simp;omega) seed 1
 have L:=Al .u8 (Ao [wrap .u64 leaf,wrap .u64 chain]);rw[Yi];unfold WX;generalize Ao [wrap .u64 leaf,wrap .u64 chain]=W at wd hs L ⊢;simp(disch:=omega)only[A4,A3,wd,J6,Ig,Ou,LX,L,hs]
theorem Apm(Bq:1000<=fu)(w:Int):Ac (CX xs) prog fu (d+1) 50 [.lst false 1 1 [Ah w]]=some ⟨[.own 1 8 (Ae .u8 (Bp w))],[]⟩:=by
 have:=Ia (xs:=xs) (fu:=fu) (d:=d) (ws:=[w]) (by simp) (by omega) (by simp;omega)
 simp only[Ao,Kb,List.flatMap_nil,List.append_nil,On,LP,B5] at this;exact this
theorem Ar2(Bq:1000<=fu)(leaf:Int){E:Aj}(hE:E.length<=50):Ac (CX xs) prog fu (d+5) 116 [Aw leaf,.lst false 1 E.length (Ae .u64 E)]=some ⟨[Ah (BF leaf E)],[]⟩:=by
 have w1:=Apm (xs:=xs) (fu:=fu) (d:=d+3) Bq (wrap .u64 leaf);have w2:=Ia (xs:=xs) (fu:=fu) (d:=d+3) (ws:=E) (by omega) (by omega) (by omega);have hs:=Afp (xs:=xs) (fu:=fu) (d:=d) (ws:=wrap .u64 leaf::E) (by simp;omega) Bq 2
 have eW:Ao (wrap .u64 leaf::E)=Bp (wrap .u64 leaf)++Ao E:=rfl
 have eC:Ae .u8 (Bp (wrap .u64 leaf))++Ae .u8 (Ao E)=Ae .u8 (Ao (wrap .u64 leaf::E)):=by
  rw[eW,Ae,Ae,Ae,List.flatMap_append]
 have l0:(Bp (wrap .u64 leaf)).length=8:=B5 _;have l1:=Ed E;have l2:(Ao (wrap .u64 leaf::E)).length=8+(Ao E).length:=by rw[eW,Xk,l0]
 have L0:=Al .u8 (Bp (wrap .u64 leaf));rw[l0] at L0;have L1:=Al .u8 (Ao E);have L2:=Al .u8 (Ao (wrap .u64 leaf::E));have t8:List.take 8 (Ae .u8 (Bp (wrap .u64 leaf)))=Ae .u8 (Bp (wrap .u64 leaf)):=Ji (by omega);have tW:List.take (8+(Ao E).length) (Ae .u8 (Ao (wrap .u64 leaf::E)))=Ae .u8 (Ao (wrap .u64 leaf::E)):=Ji (by omega);rw[l2] at hs;rw[CF];simp(disch:=omega)only[A4,A3,w1,w2,J6,Ig,Ou,LX,t8,L0,L1,eC,L2,tW,hs];rfl
theorem NS{a0 a1 seed leaf:Int}(Bq:1000<=fu):∀(k nn i:Nat),i+k=18->k<nn ->
  G1 fu (Ac (CX xs) prog fu (d+5)) a0 a1 nn seed leaf ((List.range i).map (LE seed leaf)).length i (Ae .u64 ((List.range i).map (LE seed leaf)))=some ⟨[Ah (Y5 seed leaf)],[]⟩
 |_,0,_,_,h=>by omega
 |0,nn+1,i,hi,hn=>by
  have e:i=18:=by omega
  subst e;have l18:((List.range 18).map (LE seed leaf)).length=18:=by simp
  have en:=Ar2 (xs:=xs) (fu:=fu) (d:=d) Bq leaf (E:=(List.range 18).map (LE seed leaf)) (by omega);have L:=Al .u64 ((List.range 18).map (LE seed leaf));rw[M4,Hh _ _ _ (by omega)];simp(disch:=omega)only[A4,A3,J6,Ig,Ou,LX,L,en];rfl
 |k+1,nn+1,i,hi,hn=>by
  have ih:=NS (a0:=a0) (a1:=a1) (seed:=seed) (leaf:=leaf) Bq k nn (i+1) (by omega) (by omega);have sc:=NQ (xs:=xs) (fu:=fu) (d:=d) Bq seed leaf i;have rn:=Aiu (xs:=xs) (fu:=fu) (d:=d) (leaf:=leaf) (chain:=i) Bq 15 0 15 (WX seed leaf i) (by omega) (by omega) (by omega);have w:wrap .i64 ((i:Int)+1)=((i+1:Nat):Int):=Bk
  have L:=Al .u64 ((List.range i).map (LE seed leaf));have li:((List.range i).map (LE seed leaf)).length=i:=by simp
  rw[Vl,Xk,List.length_singleton,<-Um] at ih;rw[M4];simp(disch:=omega)only[A4,A3,sc,rn,J6,LX,L,w];exact ih
theorem Arl(Bq:1000<=fu)(seed leaf:Int):Ac (CX xs) prog fu (d+6) 88 [Ah seed,Aw leaf]=some ⟨[Ah (Y5 seed leaf)],[]⟩:=by rw[DB];exact NS (fu:=fu) (d:=d) Bq 18 fu 0 (by omega) (by omega)
theorem A5q(m:Int){i:Nat}(h:i<18):(YD m)[i]?=some (dg m i):=by
 unfold dg;rw[List.getD_eq_getElem?_getD,List.getElem?_eq_getElem (by rw[Ahf];omega)]
 rfl
theorem Y1{a0 a1 a2 seed leaf m:Int}(Bq:1000<=fu):∀(k nn i:Nat),i+k=18->k<nn ->
  Fi fu (Ac (CX xs) prog fu (d+5)) a0 a1 a2 nn seed leaf 18 ((List.range i).map (OE seed leaf m)).length i (Ae .i64 (YD m)) (Ae .u64 ((List.range i).map (OE seed leaf m)))=some ⟨[.own 1 18 (Ae .u64 (X4 seed leaf m))],[]⟩
 |_,0,_,_,h=>by omega
 |0,nn+1,i,hi,hn=>by
  have e:i=18:=by omega
  subst e;have l18:((List.range 18).map (OE seed leaf m)).length=18:=by simp
  have L:=Al .u64 ((List.range 18).map (OE seed leaf m));rw[Jt,Hh _ _ _ (by omega)];simp(disch:=omega)only[A4,A3,J6,LX,L];rw[l18];rfl
 |k+1,nn+1,i,hi,hn=>by
  have ih:=Y1 (a0:=a0) (a1:=a1) (a2:=a2) (seed:=seed) (leaf:=leaf) (m:=m) Bq k nn (i+1) (by omega) (by omega);have hb:=Ua m i;have sc:=NQ (xs:=xs) (fu:=fu) (d:=d) Bq seed leaf i;have rn:=Aiu (xs:=xs) (fu:=fu) (d:=d) (leaf:=leaf) (chain:=i) Bq (dg m i).toNat 0 (dg m i) (WX seed leaf i) (by omega) (by omega) (by omega);have w:wrap .i64 ((i:Int)+1)=((i+1:Nat):Int):=Bk
  have L:=Al .u64 ((List.range i).map (OE seed leaf m));have li:((List.range i).map (OE seed leaf m)).length=i:=by simp
  rw[Vl,Xk,List.length_singleton,<-Um] at ih;rw[Jt];simp(disch:=omega)only[A4,A3,Jg,J6,Ig,EA (A5q m (show i<18 by omega)),sc,rn,LX,L,w];exact ih
theorem WI(Bq:1000<=fu)(seed leaf m:Int):Ac (CX xs) prog fu (d+6) 53 [Ah seed,Aw leaf,Ah m]=some ⟨[.own 1 18 (Ae .u64 (X4 seed leaf m))],[]⟩:=by rw[V1];have sp:=Ajk (xs:=xs) (fu:=fu) (d:=d+4) Bq m;simp only[A4,A3,sp];exact Y1 (fu:=fu) (d:=d) Bq 18 fu 0 (by omega) (by omega)
theorem Afd(Bq:1000<=fu)(level a b:Int):Ac (CX xs) prog fu (d+5) 89 [Aw level,Ah a,Ah b]=some ⟨[Ah (L6 level a b)],[]⟩:=by
 have wd:Ac (CX xs) prog fu (d+4) 50 [.lst false 1 3 [Ah (wrap .u64 level),Ah a,Ah b]]=_:=Ia (xs:=xs) (ws:=[wrap .u64 level,a,b]) (by simp) (by omega) (by simp;omega)
 have hs:=Afp (xs:=xs) (fu:=fu) (d:=d) (ws:=[wrap .u64 level,a,b]) (by simp) Bq 3;have L:=Al .u8 (Ao [wrap .u64 level,a,b]);rw[Xn];unfold L6;generalize Ao [wrap .u64 level,a,b]=W at wd hs L ⊢;simp(disch:=omega)only[A4,A3,wd,J6,Ig,Ou,LX,L,hs]
theorem EV(Bq:1000<=fu)(seed:Int):∀(l:Nat)(i B:Int),0<=i->i<=B->(2 ^ l:Nat)*(B+1)<=1000000000->l<=20->Ac (CX xs) prog fu (d+7+l) 54 [Ah seed,Aw l,Aw i]=some ⟨[Ah (H4 seed l i)],[]⟩
 |0,i,B,h0,h1,h2,hl=>by
  have lf:=Arl (xs:=xs) (fu:=fu) (d:=d) Bq seed i;refine (Qy fu (d+6) seed 0 i).trans ?_;simp only[A4,A3,Ny,if_true,lf];rfl
 |l+1,i,B,h0,h1,h2,hl=>by
  have hq:(2 ^ (l+1):Nat)=2 ^ l*2:=Nat.pow_succ _ _;have Aas:0<2 ^ l:=Nat.pow_pos (by omega);rw[hq] at h2;generalize hQ:2 ^ l=q at h2 Aas
  have hb:((q*2:Nat):Int)*(B+1)=(q:Int)*(2*B+1+1):=by
   rw[Int.natCast_mul,Int.mul_assoc]
   congr 1
   omega
  rw[hb] at h2
  have hBq:2*B+1+1<=(q:Int)*(2*B+1+1):=by
   have:=Int.mul_le_mul_of_nonneg_right (show (1:Int)<=q by omega) (show (0:Int)<=2*B+1+1 by omega);omega
  have n1:=EV Bq seed l (2*i) (2*B+1) (by omega) (by omega) (by rw[hQ];exact h2) (by omega)
  have n2:=EV Bq seed l (2*i+1) (2*B+1) (by omega) (by omega) (by rw[hQ];exact h2) (by omega)
  have pr:=Afd (xs:=xs) (fu:=fu) (d:=d+2+l) Bq ((l+1:Nat):Int) (H4 seed l (2*i)) (H4 seed l (2*i+1));rw[show d+2+l+5=d+7+l by omega] at pr;have w1:wrap .i64 (((l+1:Nat):Int)-1)=(l:Int):=Bk
  have w2:wrap .i64 (2*i)=2*i:=Bb;have w3:wrap .i64 (2*i+1)=2*i+1:=Bb;have ne:¬(((l+1:Nat):Int)=0):=by omega
  refine (Qy fu (d+7+l) seed ((l+1:Nat):Int) i).trans ?_;simp only[A4,A3,Ny,ne,if_false,w1,w2,w3,n1,n2,pr];rfl
end
theorem wu{h:Int}(h0:0<=h)(h4:h<=4):wrap .u64 h=h:=Ey
theorem Aet{leaf h:Int}(h0:0<=h)(h4:h<=4)(ho:J9 leaf h=false):0<=leaf/\leaf<2 ^ h.toNat:=by
 unfold J9 at ho;simp only[Bool.or_eq_false_iff,decide_eq_false_iff_not] at ho;have:h=0\/h=1\/h=2\/h=3\/h=4:=by omega
 rcases this with rfl|rfl|rfl|rfl|rfl
 ·have e:Fb .i64 1 0=1:=by decide
  rw[e] at ho;exact⟨by omega,by show leaf<1;omega⟩
 ·have e:Fb .i64 1 1=2:=by decide
  rw[e] at ho;exact⟨by omega,by show leaf<2;omega⟩
 ·have e:Fb .i64 1 2=4:=by decide
  rw[e] at ho;exact⟨by omega,by show leaf<4;omega⟩
 ·have e:Fb .i64 1 3=8:=by decide
  rw[e] at ho;exact⟨by omega,by show leaf<8;omega⟩
 ·have e:Fb .i64 1 4=16:=by decide
  rw[e] at ho;exact⟨by omega,by show leaf<16;omega⟩
theorem A0v{h:Int}(h0:0<=h)(h4:h<=4):(2:Int) ^ h.toNat<=16:=by
 have:h=0\/h=1\/h=2\/h=3\/h=4:=by omega
 rcases this with rfl|rfl|rfl|rfl|rfl<;>decide
theorem Aff{leaf:Int}(h0:0<=leaf)(h1:leaf<16){k:Nat}(hk:k<4):0<=Mp leaf k/\Mp leaf k<=15:=by
 have H:∀n:Fin 16,∀k:Fin 4,0<=Mp (n.val:Int) k.val/\Mp (n.val:Int) k.val<=15:=by decide
 obtain⟨n,rfl⟩:=Int.eq_ofNat_of_zero_le h0;exact H ⟨n,by omega⟩ ⟨k,hk⟩
section
variable {fu d:Nat}{xs:FuncId->Option (Ad->Option A1)}
theorem QE(Bq:1000<=fu)(seed h:Int):Ac (CX xs) prog fu (d+12) 41 [Ah seed,Aw h]=some ⟨[.agg (Pd seed h).cells,Aw (if D2 h=true then 9 else 0)],[]⟩:=by
 refine (Xq fu (d+11) seed h).trans ?_;have h1:=CH (xs:=xs) (fu:=fu) (d:=d+10) h;unfold Pd;cases c1:D2 h
 ·rw[c1] at h1;have hb:=Ko c1
  have nd:=EV (xs:=xs) (fu:=fu) (d:=d+4-h.toNat) Bq seed h.toNat 0 0 (by omega) (by omega) (by
   have:h=0\/h=1\/h=2\/h=3\/h=4:=by omega
   rcases this with rfl|rfl|rfl|rfl|rfl<;>decide) (by omega)
  rw[show d+4-h.toNat+7+h.toNat=d+11 by omega,show ((h.toNat:Nat):Int)=h by omega] at nd;simp only[A4,A3,h1,nd];rfl
 ·rw[c1] at h1;simp only[A4,A3,h1];rfl
theorem OU{a0 a1 a2 a3:Int}{seed leaf h:Int}(hh:0<=h/\h<=4)(hl:0<=leaf/\leaf<16)(Bq:1000<=fu){y4 y9:Int}{y5 y6:Nat}{y7 y8:Ad}{ch:Aj}:∀(k nn i:Nat),i+k=h.toNat->k<nn ->
  G4 fu (Ac (CX xs) prog fu (d+11)) a0 a1 a2 a3 nn seed h leaf i y4 y5 y6 y7 y8 leaf ch.length ((List.range i).map fun k=>H4 seed k (Mp leaf k)).length (Ae .u64 ch) (Ae .u64 ((List.range i).map fun k=>H4 seed k (Mp leaf k)))=some ⟨[.agg (Sg.mk leaf ch ((List.range h.toNat).map fun k=>H4 seed k (Mp leaf k))).owned,Aw 0],[]⟩
 |_,0,_,_,h=>by omega
 |0,nn+1,i,hi,hn=>by
  have e:i=h.toNat:=by omega
  subst e;have L1:=Al .u64 ch;have L2:=Al .u64 ((List.range h.toNat).map fun k=>H4 seed k (Mp leaf k));rw[Mx,Hh _ _ _ (by omega)];simp(disch:=omega)only[A4,A3,J6,LX,L1,L2];rfl
 |k+1,nn+1,i,hi,hn=>by
  have ih:=OU (a0:=a0) (a1:=a1) (a2:=a2) (a3:=a3) (seed:=seed) (y4:=y4) (y9:=y9) (y5:=y5) (y6:=y6) (y7:=y7) (y8:=y8) (ch:=ch) hh hl Bq k nn (i+1) (by omega) (by omega);have sb:=Aff hl.1 hl.2 (k:=i) (by omega)
  have nd:=EV (xs:=xs) (fu:=fu) (d:=d+4-i) Bq seed i (Mp leaf i) 15 sb.1 sb.2 (by
   have:i=0\/i=1\/i=2\/i=3:=by omega
   rcases this with rfl|rfl|rfl|rfl<;>decide) (by omega)
  rw[show d+4-i+7+i=d+11 by omega] at nd;have es:D7 .i64 (Gl .i64 leaf (i:Int)) 1=Mp leaf i:=rfl;have w:wrap .i64 ((i:Int)+1)=((i+1:Nat):Int):=Bk
  have wi:wrap .u64 (i:Int)=i:=Ey;have L:=Al .u64 ((List.range i).map fun k=>H4 seed k (Mp leaf k));have li:((List.range i).map fun k=>H4 seed k (Mp leaf k)).length=i:=by simp
  rw[Vl,Xk,List.length_singleton,<-Um] at ih;rw[Mx];simp(disch:=omega)only[A4,A3,wi,es,nd,J6,LX,L,w];exact ih
theorem Ac0(Bq:1000<=fu)(seed h leaf m:Int):Ac (CX xs) prog fu (d+12) 26 [Ah seed,Aw h,Aw leaf,Ah m]=some ⟨YB (Ajr seed h leaf m),[]⟩:=by
 refine (CC fu (d+11) seed h leaf m).trans ?_;have h1:=CH (xs:=xs) (fu:=fu) (d:=d+10) h;unfold Ajr;cases c1:D2 h
 ·rw[c1] at h1;have hb:=Ko c1;have w:=wu hb.1 hb.2;rw[Bl (by simp)];by_cases hn:leaf<0
  ·have ho:J9 leaf h=true:=by unfold J9;simp[hn]
   rw[Cy ho];simp(disch:=omega)only[A4,A3,h1];rfl
  ·by_cases hg:leaf>=Fb .i64 1 h
   ·have ho:J9 leaf h=true:=by unfold J9;simp[hg]
    rw[Cy ho];simp (disch:=first|omega|exact hg) only[A4,A3,h1,w];rfl
   ·have ho:J9 leaf h=false:=by unfold J9;simp only[Bool.or_eq_false_iff,decide_eq_false_iff_not];exact⟨hn,hg⟩
    have Cm:=Aet hb.1 hb.2 ho;have h16:=A0v hb.1 hb.2;rw[Bl (by rw[ho];simp)]
    have sl:=WI (xs:=xs) (fu:=fu) (d:=d+5) Bq seed leaf m;have lp:=OU (xs:=xs) (fu:=fu) (d:=d) (a0:=seed) (a1:=h) (a2:=leaf) (a3:=m) (seed:=seed) (leaf:=leaf) (h:=h) hb (by omega) Bq (y4:=0) (y9:=0) (y5:=0) (y6:=0) (y7:=[]) (y8:=[]) (ch:=X4 seed leaf m) h.toNat fu 0 (by omega) (by omega);have l18:(X4 seed leaf m).length=18:=by simp[X4]
    rw[l18] at lp;simp (disch:=first|omega|exact hg) only[A4,A3,h1,w,sl];exact lp
 ·rw[c1] at h1;rw[Cy rfl];simp(disch:=omega)only[A4,A3,h1];rfl
theorem QM(Bq:1000<=fu)(k:Ky):Ac (CX xs) prog fu (d+2) 51 [.agg k.cells]=some ⟨(if D2 k.h=true then [.own 1 0 [],Aw 9] else [.own 1 9 (Ae .u8 (Vw k)),Aw 0]),[]⟩:=by
 refine (Uz fu (d+1) k.h k.root).trans ?_;have h1:=CH (xs:=xs) (fu:=fu) (d:=d) k.h;have wd:=Apm (xs:=xs) (fu:=fu) (d:=d) Bq k.root;have L:=Al .u8 (Bp k.root);rw[B5] at L;have t8:List.take 8 (Ae .u8 (Bp k.root))=Ae .u8 (Bp k.root):=Ji (by omega)
 have t9:List.take 9 ([PV.sc (.int .u8 (wrap .u8 k.h))]++Ae .u8 (Bp k.root))=Ae .u8 (Vw k):=by
  rw[Ji (by rw[Xk,L];simp)]
  rfl
 have L9:([PV.sc (.int .u8 (wrap .u8 k.h))]++Ae .u8 (Bp k.root)).length=9:=by rw[Xk,L];rfl
 cases c1:D2 k.h
 ·rw[c1] at h1;rw[Bl (by simp)];simp(disch:=omega)only[A4,A3,h1,wd,J6,Ig,Ou,L,t8,Nat.reduceAdd,L9,t9]
 ·rw[c1] at h1;rw[Cy rfl];simp(disch:=omega)only[A4,A3,h1]
end
section
variable {fu d:Nat}{xs:FuncId->Option (Ad->Option A1)}
theorem Asf(n:Nat):D2 (n:Int)=decide ((n:Int)>4):=by
 unfold D2;have:¬((n:Int)<0):=by omega
 simp[this]
theorem Aem(Bq:1000<=fu)(s:Sg)(hp:s.path.length<=1000000000):Ac (CX xs) prog fu (d+2) 27 [.agg s.cells]=some ⟨(if D2 s.path.length=true then [.own 1 0 [],Aw 9] else if J9 s.leaf s.path.length=true then [.own 1 0 [],Aw 9] else if s.chains.length≠18 then [.own 1 0 [],Aw 4] else [.own 1 (sgB s).length (Ae .u8 (sgB s)),Aw 0]),[]⟩:=by
 refine (N6 fu (d+1) s.leaf s.chains.length (Ae .u64 s.chains) s.path.length (Ae .u64 s.path)).trans ?_;rw[Asf];by_cases c1:(s.path.length:Int)>4
 ·rw[Cy (by simp[c1])];simp(disch:=omega)only[A4,A3]
 ·rw[Bl (by simp[c1])];have w:=wu (h:=s.path.length) (by omega) (by omega);by_cases hn:s.leaf<0
  ·have ho:J9 s.leaf s.path.length=true:=by unfold J9;simp[hn]
   rw[Cy ho];simp(disch:=omega)only[A4,A3]
  ·by_cases hg:s.leaf>=Fb .i64 1 s.path.length
   ·have ho:J9 s.leaf s.path.length=true:=by unfold J9;simp[hg]
    rw[Cy ho];simp (disch:=first|omega|exact hg) only[A4,A3,w]
   ·have ho:J9 s.leaf s.path.length=false:=by unfold J9;simp only[Bool.or_eq_false_iff,decide_eq_false_iff_not];exact⟨hn,hg⟩
    rw[Bl (by rw[ho];simp)]
    by_cases c3:s.chains.length=18
    ·have w1:=Ia (xs:=xs) (fu:=fu) (d:=d) (ws:=s.chains) (by omega) (by omega) (by omega);have w2:=Ia (xs:=xs) (fu:=fu) (d:=d) (ws:=s.path) (by omega) (by omega) (by omega);have l1:=Ed s.chains;have l2:=Ed s.path;have L1:=Al .u8 (Ao s.chains);have L2:=Al .u8 (Ao s.path)
     have eB:Ae .u8 (sgB s)=[PV.sc (.int .u8 (wrap .u8 s.leaf)),PV.sc (.int .u8 (wrap .u8 s.path.length))]++Ae .u8 (Ao s.chains)++Ae .u8 (Ao s.path):=by
      unfold sgB;simp
     have eL:(sgB s).length=2+(Ao s.chains).length+(Ao s.path).length:=by
      unfold sgB;simp;omega
     rw[Bl (by omega),eB,eL];have t2:List.take (2+(Ao s.chains).length) ([PV.sc (.int .u8 (wrap .u8 s.leaf)),PV.sc (.int .u8 (wrap .u8 s.path.length))]++Ae .u8 (Ao s.chains))=[PV.sc (.int .u8 (wrap .u8 s.leaf)),PV.sc (.int .u8 (wrap .u8 s.path.length))]++Ae .u8 (Ao s.chains):=Ji (by rw[Xk,L1];simp)
     have t3:List.take (2+(Ao s.chains).length+(Ao s.path).length) ([PV.sc (.int .u8 (wrap .u8 s.leaf)),PV.sc (.int .u8 (wrap .u8 s.path.length))]++Ae .u8 (Ao s.chains)++Ae .u8 (Ao s.path))=[PV.sc (.int .u8 (wrap .u8 s.leaf)),PV.sc (.int .u8 (wrap .u8 s.path.length))]++Ae .u8 (Ao s.chains)++Ae .u8 (Ao s.path):=Ji (by rw[Xk,Xk,L1,L2];simp)
     have k2:([PV.sc (.int .u8 (wrap .u8 s.leaf)),PV.sc (.int .u8 (wrap .u8 s.path.length))]++Ae .u8 (Ao s.chains)).length=2+(Ao s.chains).length:=by rw[Xk,L1];rfl
     have k3:([PV.sc (.int .u8 (wrap .u8 s.leaf)),PV.sc (.int .u8 (wrap .u8 s.path.length))]++Ae .u8 (Ao s.chains)++Ae .u8 (Ao s.path)).length=2+(Ao s.chains).length+(Ao s.path).length:=by rw[Xk,k2,L2]
     simp (disch:=first|omega|exact hg) only[A4,A3,w,G2,w1,w2,J6,Ig,Ou,L1,L2,LX,t2,t3,k2,k3];rw[Cy (by omega)]
    ·rw[Cy c3];simp (disch:=first|omega|exact hg) only[A4,A3,w,G2];rw[Bl (by omega)]
end
theorem Apr(seed leaf m:Int):Abo leaf m (X4 seed leaf m)=Y5 seed leaf:=by
 unfold Abo Y5 FH
 congr 1
 refine List.map_congr_left fun i hi=>?_;have hi:=List.mem_range.1 hi;have hb:=Ua m i;unfold Acl LE
 have e:(X4 seed leaf m).getD i 0=OE seed leaf m i:=by
  unfold X4;rw[List.getD_eq_getElem?_getD,List.getElem?_map,List.getElem?_range hi];rfl
 rw[e];unfold OE;have:=Abd leaf i (dg m i).toNat (15-dg m i).toNat 0 (WX seed leaf i);rw[show (dg m i).toNat+(15-dg m i).toNat=15 by omega,show (0:Int)+((dg m i).toNat:Nat)=dg m i by omega] at this;exact this.symm
theorem Ala:∀n:Fin 16,∀k:Fin 4,
  (D3 .i64 (Gl .i64 (n.val:Int) k.val) 1=0/\Gl .i64 (n.val:Int) k.val=2*Gl .i64 (n.val:Int) ((k.val+1:Nat):Int)/\Mp n.val k.val=2*Gl .i64 (n.val:Int) ((k.val+1:Nat):Int)+1) \/
  (D3 .i64 (Gl .i64 (n.val:Int) k.val) 1≠0/\Gl .i64 (n.val:Int) k.val=2*Gl .i64 (n.val:Int) ((k.val+1:Nat):Int)+1/\Mp n.val k.val=2*Gl .i64 (n.val:Int) ((k.val+1:Nat):Int)):=by decide
theorem NF(seed:Int){leaf:Int}(h0:0<=leaf)(h1:leaf<16):∀(k i:Nat),i+k<=4 ->
  Y9 leaf i (H4 seed i (Gl .i64 leaf i)) ((List.range' i k).map fun j=>H4 seed j (Mp leaf j))=H4 seed (i+k) (Gl .i64 leaf ((i+k:Nat):Int))
 |0,i,_=>rfl
 |k+1,i,h=>by
  rw[List.range'_succ,U7,Y4];obtain⟨n,rfl⟩:=Int.eq_ofNat_of_zero_le h0;have ih:=NF seed h0 h1 k (i+1) (by omega);rw[show i+(k+1)=i+1+k by omega,<-ih]
  congr 1
  rcases Ala ⟨n,by omega⟩ ⟨i,by omega⟩ with⟨a,b,c⟩|⟨a,b,c⟩
  ·simp only at a b c;rw[Cy a,b,c];rfl
  ·simp only at a b c;rw[Bl a,b,c];rfl
theorem Apo{seed h leaf m:Int}(hh:D2 h=false)(ho:J9 leaf h=false):SI (Pd seed h) m ⟨leaf,X4 seed leaf m,(List.range h.toNat).map fun k=>H4 seed k (Mp leaf k)⟩=0:=by
 have hb:=Ko hh;have hl:=Aet hb.1 hb.2 ho;have h16:=A0v hb.1 hb.2
 have eP:Pd seed h=⟨h,H4 seed h.toNat 0⟩:=by
  unfold Pd;rw[hh];rfl
 rw[eP];unfold SI;simp only;rw[Bl (show ¬D2 h=true by rw[hh];simp),Bl (show ¬J9 leaf h=true by rw[ho];simp),Bl (show ¬(X4 seed leaf m).length≠18 by simp[X4]),Bl (by rw[List.length_map,List.length_range];omega),Apr]
 have c:=NF seed hl.1 (show leaf<16 by omega) h.toNat 0 (by omega)
 have e0:Gl .i64 leaf ((0:Nat):Int)=leaf:=by
  show leaf.fdiv (2 ^ (min ((0:Nat):Int).toNat IntKind.i64.bits))=leaf;have:(2:Int) ^ (min ((0:Nat):Int).toNat IntKind.i64.bits)=1:=by decide
  rw[this,Int.fdiv_one]
 have eh:Gl .i64 leaf ((0+h.toNat:Nat):Int)=0:=by
  have H:∀n:Fin 16,∀k:Fin 5,(n.val:Int)<2 ^ k.val->Gl .i64 (n.val:Int) ((0+k.val:Nat):Int)=0:=by decide
  obtain⟨n,hn⟩:=Int.eq_ofNat_of_zero_le hl.1;have:=H ⟨n,by omega⟩ ⟨h.toNat,by omega⟩ (by simp only;rw[<-hn];exact hl.2)
  rw[hn];exact this
 rw[e0,eh,Ig] at c;have er:List.range' 0 h.toNat=List.range h.toNat:=List.range_eq_range'.symm;rw[er] at c;have el:H4 seed 0 leaf=Y5 seed leaf:=rfl;rw[el] at c;rw[c];unfold okE;rw[Cy rfl]
def sq{α:Type}(x:Nat)(k:Nat->α):α:=Nat.rec (motive:=fun _=>α) (k 0) (fun n _=>k (Nat.succ n)) x
theorem S7{α:Type}(x:Nat)(k:Nat->α):sq x k=k x:=by cases x<;>rfl
def fIz{α:Type}(n:Int)(K:Int->α):α:=match n with | .ofNat a=>sq a fun a=>K (.ofNat a) | .negSucc a=>sq a fun a=>K (.negSucc a)
theorem Ay5{α:Type}(n:Int)(K:Int->α):fIz n K=K n:=by cases n<;>simp only[fIz,S7]
def fLz{α β:Type}:List β->(List β->α)->α
 |[],K=>K []
 |x::l,K=>fLz l fun l=>K (x::l)
theorem Ae5{α β:Type}:∀(l:List β)(K:List β->α),fLz l K=K l
 |[],_=>rfl
 |x::l,K=>by rw[fLz,Ae5 l]
def fCz{α:Type}(p:PV)(K:PV->α):α:=
 match p with
 |.sc (.bool b)=>bif b then K (C9 true) else K (C9 false)
 |.sc (.string ⟨⟨l⟩⟩)=>fLz l fun l=>K (Bo ⟨⟨l⟩⟩)
 |.lst z es n c=>sq n fun n=>fLz c fun c=>K (.lst z es n c)
 |.own es n c=>sq n fun n=>fLz c fun c=>K (.own es n c)
 |.view id es o n=>sq o fun o=>sq n fun n=>K (.view id es o n)
 |p=>K p
theorem An2{α:Type}(p:PV)(K:PV->α):fCz p K=K p:=by unfold fCz;split<;>first|rfl|simp only[Ay5,Ae5,S7]|(rename_i b;cases b<;>rfl)
def Ajn{α:Type}:Ad->(Ad->α)->α
 |[],K=>K []
 |x::l,K=>fCz x fun x=>Ajn l fun l=>K (x::l)
theorem WQ{α:Type}:∀(l:Ad)(K:Ad->α),Ajn l K=K l
 |[],_=>rfl
 |x::l,K=>by rw[Ajn,An2,WQ l]
def fVz{α:Type}(p:PV)(K:PV->α):α:=
 match p with
 |.agg c=>Ajn c fun c=>K (.agg c)
 |.pbox c=>Ajn c fun c=>K (.pbox c)
 |p=>fCz p K
theorem Aql{α:Type}(p:PV)(K:PV->α):fVz p K=K p:=by unfold fVz;split<;>simp only[An2,WQ]
def Akq{α:Type}:Ad->(Ad->α)->α
 |[],K=>K []
 |x::l,K=>fVz x fun x=>Akq l fun l=>K (x::l)
theorem LW{α:Type}:∀(l:Ad)(K:Ad->α),Akq l K=K l
 |[],_=>rfl
 |x::l,K=>by rw[Akq,Aql,LW l]
def fTz{α:Type}:List (Nat × PV)->(List (Nat × PV)->α)->α
 |[],K=>K []
 |(i,x)::l,K=>sq i fun i=>fVz x fun x=>fTz l fun l=>K ((i,x)::l)
theorem Ap5{α:Type}:∀(l:List (Nat × PV)) (K:List (Nat × PV)->α),fTz l K=K l
 |[],_=>rfl
 |(i,x)::l,K=>by rw[fTz,S7,Aql,Ap5 l]
def fBz{α:Type}(b:B2)(K:B2->α):α:=
 match b with
 |.st c=>Ajn c fun c=>K (.st c)
 |.ar z c=>fLz c fun c=>K (.ar z c)
 |b=>K b
theorem Az8{α:Type}(p:B2)(K:B2->α):fBz p K=K p:=by unfold fBz;split<;>first|rfl|simp only[Ae5,WQ]
def fHz{α:Type}:List (Nat × B2)->(List (Nat × B2)->α)->α
 |[],K=>K []
 |(i,x)::l,K=>sq i fun i=>fBz x fun x=>fHz l fun l=>K ((i,x)::l)
theorem Arx{α:Type}:∀(l:List (Nat × B2)) (K:List (Nat × B2)->α),fHz l K=K l
 |[],_=>rfl
 |(i,x)::l,K=>by rw[fHz,S7,Az8,Arx l]
mutual
def bqP:PV->PV->Bool
 |.sc (.int k n),.sc (.int k' n')=>decide (k=k')&&decide (n=n')
 |.sc (.bool a),.sc (.bool b)=>decide (a=b)
 |.sc (.string ⟨⟨a⟩⟩),.sc (.string ⟨⟨b⟩⟩)=>decide (a=b)
 |.lst z e n c,.lst z' e' n' c'=>decide (z=z')&&Nat.beq e e'&&Nat.beq n n'&&bqL c c'
 |.own e n c,.own e' n' c'=>Nat.beq e e'&&Nat.beq n n'&&bqL c c'
 |.agg c,.agg c'=>bqL c c'
 |.pbox c,.pbox c'=>bqL c c'
 |_,_=>false
def bqL:Ad->Ad->Bool
 |[],[]=>true
 |p::l,q::r=>bqP p q&&bqL l r
 |_,_=>false
end
mutual
theorem Azb:∀(p q:PV),bqP p q=true->p=q:=by
 intro p q h;unfold bqP at h;split at h
 ·simp only[Er,Xi] at h;obtain⟨rfl,rfl⟩:=h;rfl
 ·simp only[Xi] at h;subst h;rfl
 ·simp only[Xi] at h;subst h;rfl
 ·simp only[Er,Xi] at h;obtain⟨⟨⟨rfl,h2⟩,h3⟩,h4⟩:=h;rw[C6 h2,C6 h3,Yt _ _ h4]
 ·simp only[Er] at h;obtain⟨⟨h2,h3⟩,h4⟩:=h;rw[C6 h2,C6 h3,Yt _ _ h4]
 ·rw[Yt _ _ h]
 ·rw[Yt _ _ h]
 ·cases h
theorem Yt:∀(l r:Ad),bqL l r=true->l=r
 |[],[],_=>rfl
 |p::l,q::r,h=>by
  simp only[bqL,Er] at h;rw[Azb p q h.1,Yt l r h.2]
 |[],_::_,h=>by cases h
 |_::_,[],h=>by cases h
end
def bqO:List Ad->List Ad->Bool
 |[],[]=>true
 |p::l,q::r=>bqL p q&&bqO l r
 |_,_=>false
theorem Ao3:∀(l r:List Ad),bqO l r=true->l=r
 |[],[],_=>rfl
 |p::l,q::r,h=>by
  simp only[bqO,Er] at h;rw[Yt p q h.1,Ao3 l r h.2]
 |[],_::_,h=>by cases h
 |_::_,[],h=>by cases h
def Aiw(x y:Option A1):Option A1:=
 match x,y with
 |some a,some b=>bif bqL a.vals b.vals&&bqO a.outs b.outs then some a else V8 (some a) (some b)
 |x,y=>V8 x y
theorem Ab5(x y:Option A1):Aiw x y=V8 x y:=by
 unfold Aiw;split
 ·rename_i a b;cases h:bqL a.vals b.vals&&bqO a.outs b.outs
  ·rfl
  ·simp only[Er] at h;obtain⟨v,o⟩:=a;obtain⟨v',o'⟩:=b;obtain rfl:=Yt _ _ h.1;obtain rfl:=Ao3 _ _ h.2;rw[cond_true,YP]
 ·rfl
def Ao0(ops:Array Oper)(o:Oper)(s:St)(F:St->Option A1):Option A1:=
 match o.guard with
 |none=>F s
 |some (j,_)=>
  match (ops[j]?).bind (·.dst) with
  |none=>F s
  |some d=>
   match s.tm d with
   |.ub=>Aiw (F ⟨C7 s.tm d (C9 true),s.hp⟩) (F ⟨C7 s.tm d (C9 false),s.hp⟩)
   |_=>F s
theorem Aqz(ops:Array Oper)(o:Oper)(s:St)(F:St->Option A1):Ao0 ops o s F=PB ops o s F:=by simp only[Ao0,PB,Ab5];rfl
def ZP(C:Gw)(P:Program)(N:Nat)(call:Aq)(ops:Array Oper):List Oper->St->(St->Option A1)->Option A1
 |[],s,K=>K s
 |o::r,s,K=>Ao0 ops o s fun s1=>El C P N call ops o s1 fun s'=>ZP C P N call ops r s' K
theorem UA{C:Gw}{P:Program}{N:Nat}{call:Aq}{ops:Array Oper}:∀(l:List Oper)(s:St)(K:St->Option A1),ZP C P N call ops l s K=HD C P N call ops l s K
 |[],_,_=>rfl
 |o::r,s,K=>by
  rw[ZP,HD,Aqz]
  congr 1
  funext s1
  congr 1
  funext s'
  exact UA r s' K
def Ant(s:St)(c:Operand)(kt kf:St->Option A1):Option A1:=
 match c with
 |.tmp d=>
  match s.tm d with
  |.sc (.bool b)=>Ax b (kt ⟨C7 s.tm d (C9 true),s.hp⟩) (kf ⟨C7 s.tm d (C9 false),s.hp⟩)
  |.ub=>Aiw (kt s) (kf s)
  |_=>none
 |.const (.bool true)=>kt s
 |.const (.bool false)=>kf s
 |_=>none
theorem Aqe(s:St)(c:Operand)(kt kf:St->Option A1):Ant s c kt kf=Aa4 s c kt kf:=by simp only[Ant,Aa4,Ab5];rfl
def IY(N:Nat)(ls:Bz)(q:Bool)(s:St)(K:St->Option A1):Option A1:=
 let s2:=bif q then s else ls.foldl (OG N) (ls.foldl (FD N) s)
 let m:=ls.foldl (EN N s2) (A34 N s2.hp 8)
 Ar (Em (m.map (·.1))&&Em (m.map (·.2))) (fTz (ls.map fun i=>(i,Agl m (s2.tm i))) fun t=>fHz (N5 m s2.hp m) fun h=>K ⟨lk t,Fw h⟩)
theorem Abk(N:Nat)(ls:Bz)(q:Bool)(s:St)(K:St->Option A1):IY N ls q s K=NJ N ls q s K:=by simp only[IY,NJ,Ap5,Arx]
def Wm(C:Gw)(P:Program)(fu N:Nat)(call:Aq):Code->Nat->(Nat->Nat)->Nat->(St->Option A1)->(Nat->St->Option A1)->(St->Option A1)->St->Option A1
 |.skip,_,_,_,kn,_,_,s=>kn s
 |.region _ ops draw,_,_,_,kn,_,_,s=>KV (draw && !PE C P ops) (Ar (GW C P ops) (Aor (DN C P ops (Jd ops.toList [])) fun sm=>I9 C P N call ops sm [] (List.range ops.size) s kn)) (KV draw (Pn C P N call ops ops.toList s kn) (ZP C P N call ops ops.toList s kn))
 |.seq a b,ln,lx,lr,kn,kx,kr,s=>Wm C P fu N call a (Kx b ln lx lr) lx lr (fun s'=>KV (Ads P a b) (IY N (I7 (Kx b ln lx lr) N) (Vb a b) s' (DR fu fun s''=>Wm C P fu N call b ln lx lr kn kx kr s'')) (Wm C P fu N call b ln lx lr kn kx kr s')) kx kr s
 |.cond c a b,ln,lx,lr,kn,kx,kr,s=>Ant s c (Wm C P fu N call a ln lx lr kn kx kr) (Wm C P fu N call b ln lx lr kn kx kr)
 |.block id c,ln,lx,lr,kn,kx,kr,s=>Wm C P fu N call c ln (fun j=>bif Nat.beq j id then ln else lx j) lr kn (fun j s'=>bif Nat.beq j id then kn s' else kx j s') kr s
 |.loop c,ln,lx,lr,_,kx,kr,s=>
  IY N (I7 (Kx (.loop c) ln lx lr) N) false s (Af0 (fun k s'=>Wm C P fu N call c (Kx (.loop c) ln lx lr) lx lr k kx kr s') (IY N (I7 (Kx (.loop c) ln lx lr) N) false) fu)
 |.exit id,_,_,_,_,kx,_,s=>kx id s
 |.ret,_,_,_,_,_,kr,s=>kr s
 |_,_,_,_,_,_,_,_=>none
theorem Atd{C:Gw}{P:Program}{fu N:Nat}{call:Aq}:∀(c:Code)(ln:Nat)(lx:Nat->Nat)(lr:Nat)(kn:St->Option A1)(kx:Nat->St->Option A1)(kr:St->Option A1)(s:St),Wm C P fu N call c ln lx lr kn kx kr s=Mo C P fu N call c ln lx lr kn kx kr s:=by
 intro c
 induction c with
 |seq a b iha ihb=>
  intro ln lx lr kn kx kr s;rw[Wm,Mo,iha]
  congr 1
  funext s'
  simp only[Abk,ihb];cases Vb a b<;>rfl
 |cond d a b iha ihb=>intros;rw[Wm,Mo,Aqe];congr 1<;>funext s'<;>first|rw[iha]|rw[ihb]
 |region _ ops draw=>intros;simp only[Wm,Mo,UA]
 |block id c ih=>intros;rw[Wm,Mo,ih]
 |loop c ih=>
  intros
  have e:∀N ls,IY N ls false=NJ N ls false:=fun N ls=>by funext s K;exact Abk _ _ _ _ _
  rw[Wm,Mo];simp only[e,ih];rfl
 |_=>intros;first|rfl|(simp only[Wm,Mo])
def VQ(C:Gw)(P:Program)(fu:Nat)(call:Aq)(f:FuncId)(fn:Func)(c:Code)(args:Ad):Option A1:=
  Aj3 P fn.ntmps 0 fn.params.toList args fun tms bs=>Ar (Nat.ble args.length fn.ntmps&&B6 (fun _=>none) bs)
    (let lr:=Ye P 0 fn.params.toList (MC fn.results.toList)
     Wm C P fu fn.ntmps call c lr (fun _=>0) lr (SD C P f fn args) (fun _ _=>none) (SD C P f fn args) ⟨lk tms,Fw bs⟩)
def Hy(C:Gw)(P:Program)(fu:Nat):Nat->FuncId->Ad->Option A1
 |0,_,_=>none
 |d+1,f,args=>Akq args fun args=>
  match C.ext f with
  |some g=>g args
  |none=>
   match P.funcs[f]? with
   |none=>none
   |some fn=>match fn.body with
    |none=>none
    |some c=>match VQ C.core P fu (Hy C P fu d) f fn c args with
     |none=>none
     |some r=>Akq r.vals fun v=>some ⟨v,r.outs⟩
theorem Zu{C:Gw}{P:Program}{fu:Nat}:∀(d:Nat)(f:FuncId)(args:Ad),Hy C P fu d f args=Ac C P fu d f args
 |0,_,_=>rfl
 |d+1,f,args=>by
  have e:Hy C P fu d=Ac C P fu d:=by funext f args;exact Zu d f args
  have q:∀fn c,VQ C.core P fu (Ac C P fu d) f fn c args=Al1 C.core P fu (Ac C P fu d) f fn c args:=fun fn c=>by simp only[VQ,Al1,Atd]
  rw[Hy,Ac,LW,e];cases C.ext f with
  |some g=>rfl
  |none=>
   cases P.funcs[f]? with
   |none=>rfl
   |some fn=>
    simp only;cases fn.body with
    |none=>rfl
    |some c=>
     simp only[q];cases Al1 C.core P fu (Ac C P fu d) f fn c args with
     |none=>rfl
     |some r=>simp only[LW]
def Zt(C:Gw)(P:Program)(fu N:Nat)(call:Aq):List Dir->Code->Nat->(Nat->Nat)->Nat->(St->Option A1)->(Nat->St->Option A1)->(St->Option A1)->Nat->St->Option A1
 |[],.loop c,ln,lx,lr,_,kx,kr,n,s=>Af0 (fun k s'=>Wm C P fu N call c (Kx (.loop c) ln lx lr) lx lr k kx kr s') (IY N (I7 (Kx (.loop c) ln lx lr) N) false) n s
 |.l::p,.seq a b,ln,lx,lr,kn,kx,kr,n,s=>Zt C P fu N call p a (Kx b ln lx lr) lx lr (fun s'=>KV (Ads P a b) (IY N (I7 (Kx b ln lx lr) N) (Vb a b) s' (DR fu fun s''=>Wm C P fu N call b ln lx lr kn kx kr s'')) (Wm C P fu N call b ln lx lr kn kx kr s')) kx kr n s
 |.r::p,.seq _ b,ln,lx,lr,kn,kx,kr,n,s=>Zt C P fu N call p b ln lx lr kn kx kr n s
 |.l::p,.cond _ a _,ln,lx,lr,kn,kx,kr,n,s=>Zt C P fu N call p a ln lx lr kn kx kr n s
 |.r::p,.cond _ _ b,ln,lx,lr,kn,kx,kr,n,s=>Zt C P fu N call p b ln lx lr kn kx kr n s
 |.l::p,.block id c,ln,lx,lr,kn,kx,kr,n,s=>Zt C P fu N call p c ln (fun j=>bif Nat.beq j id then ln else lx j) lr kn (fun j s'=>bif Nat.beq j id then kn s' else kx j s') kr n s
 |_,_,_,_,_,_,_,_,_,_=>none
def A1s(C:Gw)(P:Program)(fu:Nat)(call:Aq)(f:FuncId)(fn:Func)(c:Code)(args:Ad)(p:List Dir)(n:Nat)(s:St):Option A1:=
 let lr:=Ye P 0 fn.params.toList (MC fn.results.toList)
 Zt C P fu fn.ntmps call p c lr (fun _=>0) lr (SD C P f fn args) (fun _ _=>none) (SD C P f fn args) n s
abbrev Fl:Nat:=18446744073709551616
def OY(x k:Nat):Nat:=Nat.lor (Nat.mod (Nat.shiftLeft x k) 18446744073709551616) (Nat.shiftRight x (Nat.sub 64 k))
def rdN{α:Type}(a b c d:Nat)(K:Nat->Nat->Nat->Nat->α):α:=
 sq (Nat.mod (Nat.add a b) 18446744073709551616) fun a=>sq (Nat.xor (OY b 13) a) fun b=>sq (OY a 32) fun a=>sq (Nat.mod (Nat.add c d) 18446744073709551616) fun c=>sq (Nat.xor (OY d 16) c) fun d=>
 sq (Nat.mod (Nat.add a d) 18446744073709551616) fun a=>sq (Nat.xor (OY d 21) a) fun d=>sq (Nat.mod (Nat.add c b) 18446744073709551616) fun c=>sq (Nat.xor (OY b 17) c) fun b=>sq (OY c 32) fun c=>K a b c d
def abN{α:Type}(a b c d m:Nat)(K:Nat->Nat->Nat->Nat->α):α:=
 sq (Nat.xor d m) fun d=>rdN a b c d fun a b c d=>rdN a b c d fun a b c d=>sq (Nat.xor a m) fun a=>K a b c d
def abL{α:Type}:Bz->Nat->Nat->Nat->Nat->(Nat->Nat->Nat->Nat->α)->α
 |[],a,b,c,d,K=>K a b c d
 |m::r,a,b,c,d,K=>abN a b c d m fun a b c d=>abL r a b c d K
def Ajw(k0 k1:Nat)(ws:Bz):Nat:=
 abL ws (Nat.xor k0 8317987319222330741) (Nat.xor k1 7237128888997146477) (Nat.xor k0 7816392313619706465) (Nat.xor k1 8387220255154660723) fun a b c d=>
 sq (Nat.xor c 255) fun c=>rdN a b c d fun a b c d=>rdN a b c d fun a b c d=>rdN a b c d fun a b c d=>rdN a b c d fun a b c d=>
 Nat.xor (Nat.xor (Nat.xor a b) c) d
theorem xN{a b:Nat}(ha:a<Fl)(hb:b<Fl):D7 .u64 (↑a) (↑b)=((Nat.xor a b:Nat):Int)/\Nat.xor a b<Fl:=
 ⟨bits_xor_u64_nat a b ha hb,Nat.xor_lt_two_pow (n:=64) ha hb⟩
theorem aN(a b:Nat):wrap .u64 ((a:Int)+(b:Int))=((Nat.mod (Nat.add a b) Fl:Nat):Int)/\Nat.mod (Nat.add a b) Fl<Fl:=
 ⟨by rw[IntKind.wrap_u64];show _=(((a+b) % 18446744073709551616:Nat):Int);omega,Nat.mod_lt _ (by decide)⟩
theorem rN{a k:Nat}(ha:a<Fl)(hk:k<=64):rot (↑a) (↑k)=((OY a k:Nat):Int)/\OY a k<Fl:=by
 have e1:Fb .u64 (a:Int) (k:Int)=((Nat.mod (Nat.shiftLeft a k) Fl:Nat):Int):=by
  show IntKind.u64.wrap ((a:Int)*2 ^ (min k 64))=(((a <<< k) % Fl:Nat):Int);rw[Nat.min_eq_left hk,IntKind.wrap_u64,Nat.shiftLeft_eq];simp
 have e2:Gl .u64 (a:Int) (64-(k:Int))=((Nat.shiftRight a (Nat.sub 64 k):Nat):Int):=by
  have h64:(64-(k:Int))=((64-k:Nat):Int):=by omega
  rw[h64];show Int.fdiv (a:Int) (2 ^ (min (64-k) 64))=((a >>> (64-k):Nat):Int);rw[Nat.min_eq_left (by omega),Nat.shiftRight_eq_div_pow,Int.fdiv_eq_ediv_of_nonneg _ (by exact_mod_cast Nat.zero_le _)];simp
 have b1:Nat.mod (Nat.shiftLeft a k) Fl<Fl:=Nat.mod_lt _ (by decide);have b2:Nat.shiftRight a (Nat.sub 64 k)<Fl:=Nat.lt_of_le_of_lt (Nat.shiftRight_le a _) ha;unfold rot;rw[e1,e2];exact⟨bits_or_u64_nat _ _ b1 b2,Nat.or_lt_two_pow (n:=64) b1 b2⟩
theorem Zr{a b c d:Nat}(ha:a<Fl)(hb:b<Fl)(hc:c<Fl)(hd:d<Fl):∃a' b' c' d':Nat,(a'<Fl/\b'<Fl/\c'<Fl/\d'<Fl)/\MJ ⟨a,b,c,d⟩=⟨a',b',c',d'⟩/\∀{α:Type}(K:Nat->Nat->Nat->Nat->α),rdN a b c d K=K a' b' c' d':=by obtain⟨e1,h1⟩:=aN a b;obtain⟨e2,h2⟩:=rN (k:=13) hb (by omega);obtain⟨e3,h3⟩:=xN h2 h1;obtain⟨e4,h4⟩:=rN (k:=32) h1 (by omega);obtain⟨e5,h5⟩:=aN c d;obtain⟨e6,h6⟩:=rN (k:=16) hd (by omega);obtain⟨e7,h7⟩:=xN h6 h5;obtain⟨f1,g1⟩:=aN (OY (Nat.mod (Nat.add a b) Fl) 32) (Nat.xor (OY d 16) (Nat.mod (Nat.add c d) Fl));obtain⟨f2,g2⟩:=rN (k:=21) h7 (by omega);obtain⟨f3,g3⟩:=xN g2 g1;obtain⟨f4,g4⟩:=aN (Nat.mod (Nat.add c d) Fl) (Nat.xor (OY b 13) (Nat.mod (Nat.add a b) Fl));obtain⟨f5,g5⟩:=rN (k:=17) h3 (by omega);obtain⟨f6,g6⟩:=xN g5 g4;obtain⟨f7,g7⟩:=rN (k:=32) g4 (by omega);have e2:rot (b:Int) 13=_:=e2;have e4:rot _ 32=_:=e4;have e6:rot (d:Int) 16=_:=e6;have f2:rot _ 21=_:=f2;have f5:rot _ 17=_:=f5;have f7:rot _ 32=_:=f7;refine⟨_,_,_,_,⟨g1,g6,g7,g3⟩,?_,fun K=>by simp only[rdN,S7]⟩;simp only[MJ,A5u,A31,e1,e2,e3,e4,e5,e6,e7,f1,f2,f3,f4,f5,f6,f7]
theorem Ath{a b c d m:Nat}(ha:a<Fl)(hb:b<Fl)(hc:c<Fl)(hd:d<Fl)(hm:m<Fl):∃a' b' c' d':Nat,(a'<Fl/\b'<Fl/\c'<Fl/\d'<Fl)/\Lm ⟨a,b,c,d⟩ m=⟨a',b',c',d'⟩/\∀{α:Type}(K:Nat->Nat->Nat->Nat->α),abN a b c d m K=K a' b' c' d':=by obtain⟨e1,h1⟩:=xN hd hm;obtain⟨a1,b1,c1,d1,⟨p1,p2,p3,p4⟩,p5,p6⟩:=Zr ha hb hc h1;obtain⟨a2,b2,c2,d2,⟨q1,q2,q3,q4⟩,q5,q6⟩:=Zr p1 p2 p3 p4;obtain⟨e2,h2⟩:=xN q1 hm;refine⟨_,b2,c2,d2,⟨h2,q2,q3,q4⟩,?_,fun K=>by simp only[abN,S7,p6,q6]⟩;simp only[Lm,WD,e1,p5,q5,Ayr,e2]
theorem Aa0:∀(ws:Bz),(∀w∈ws,w<Fl)->∀{a b c d:Nat},a<Fl->b<Fl->c<Fl->d<Fl->∃a' b' c' d':Nat,(a'<Fl/\b'<Fl/\c'<Fl/\d'<Fl)/\(ws.map fun n:Nat=>(n:Int)).foldl Lm ⟨a,b,c,d⟩=⟨a',b',c',d'⟩/\∀{α:Type}(K:Nat->Nat->Nat->Nat->α),abL ws a b c d K=K a' b' c' d'
 |[],_,a,b,c,d,ha,hb,hc,hd=>⟨a,b,c,d,⟨ha,hb,hc,hd⟩,rfl,fun K=>rfl⟩
 |m::r,h,a,b,c,d,ha,hb,hc,hd=>by
  obtain⟨a1,b1,c1,d1,⟨p1,p2,p3,p4⟩,p5,p6⟩:=Ath ha hb hc hd (h m (by simp));obtain⟨a2,b2,c2,d2,q,q5,q6⟩:=Aa0 r (fun w hw=>h w (by simp[hw])) p1 p2 p3 p4;refine⟨a2,b2,c2,d2,q,?_,fun K=>by simp only[abL,p6,q6]⟩;rw[U7,List.foldl_cons,p5,q5]
def Auw(k0 k1:Int)(ws:Aj):Int:=Acb (Abp (ws.foldl Lm (Afc k0 k1)))
theorem Aa6{k0 k1:Nat}(h0:k0<Fl)(h1:k1<Fl){ws:Bz}(hw:∀w∈ws,w<Fl):Auw k0 k1 (ws.map fun n:Nat=>(n:Int))=((Ajw k0 k1 ws:Nat):Int)/\Ajw k0 k1 ws<Fl:=by
 obtain⟨e1,g1⟩:=xN (b:=8317987319222330741) h0 (by decide);obtain⟨e2,g2⟩:=xN (b:=7237128888997146477) h1 (by decide);obtain⟨e3,g3⟩:=xN (b:=7816392313619706465) h0 (by decide);obtain⟨e4,g4⟩:=xN (b:=8387220255154660723) h1 (by decide);have e1:D7 .u64 (k0:Int) 8317987319222330741=_:=e1;have e2:D7 .u64 (k1:Int) 7237128888997146477=_:=e2;have e3:D7 .u64 (k0:Int) 7816392313619706465=_:=e3;have e4:D7 .u64 (k1:Int) 8387220255154660723=_:=e4;obtain⟨a,b,c,d,⟨p1,p2,p3,p4⟩,p5,p6⟩:=Aa0 ws hw g1 g2 g3 g4;obtain⟨f1,q1⟩:=xN (b:=255) p3 (by decide);have f1:D7 .u64 (c:Int) 255=_:=f1;obtain⟨a1,b1,c1,d1,⟨r1,r2,r3,r4⟩,r5,r6⟩:=Zr p1 p2 q1 p4;obtain⟨a2,b2,c2,d2,⟨s1,s2,s3,s4⟩,s5,s6⟩:=Zr r1 r2 r3 r4;obtain⟨a3,b3,c3,d3,⟨t1,t2,t3,t4⟩,t5,t6⟩:=Zr s1 s2 s3 s4;obtain⟨a4,b4,c4,d4,⟨u1,u2,u3,u4⟩,u5,u6⟩:=Zr t1 t2 t3 t4;obtain⟨v1,w1⟩:=xN u1 u2;obtain⟨v2,w2⟩:=xN w1 u3
 obtain⟨v3,w3⟩:=xN w2 u4;have E:Ajw k0 k1 ws=Nat.xor (Nat.xor (Nat.xor a4 b4) c4) d4:=by simp only[Ajw,p6,S7,r6,s6,t6,u6]
 rw[E];refine⟨?_,w3⟩;simp only[Auw,Afc,e1,e2,e3,e4,p5,Abp,f1,WD,r5,s5,t5,u5,Acb,v1,v2,v3]
def bsN(x:Nat):Nat:=bif Nat.ble x 255 then Nat.mul x 72057594037927936 else
 Nat.add (Nat.mod (Nat.div x 72057594037927936) 256) (Nat.add (Nat.mul (Nat.mod (Nat.div x 281474976710656) 256) 256) (Nat.add (Nat.mul (Nat.mod (Nat.div x 1099511627776) 256) 65536) (Nat.add (Nat.mul (Nat.mod (Nat.div x 4294967296) 256) 16777216)
  (Nat.add (Nat.mul (Nat.mod (Nat.div x 16777216) 256) 4294967296) (Nat.add (Nat.mul (Nat.mod (Nat.div x 65536) 256) 1099511627776) (Nat.add (Nat.mul (Nat.mod (Nat.div x 256) 256) 281474976710656) (Nat.mul (Nat.mod x 256) 72057594037927936)))))))
theorem KB(x:Nat){k:Nat}(hk:k<=7):Dw (x:Int) k=(((x / 2 ^ (56-8*k)) % 256:Nat):Int):=by
 have h:(56-8*(k:Int))=((56-8*k:Nat):Int):=by omega
 unfold Dw;rw[h];show IntKind.u8.wrap (Int.fdiv (x:Int) (2 ^ (min (56-8*k) 64)))=_;rw[Nat.min_eq_left (by omega),Int.fdiv_eq_ediv_of_nonneg _ (by exact_mod_cast Nat.zero_le _)];simp[wrap,IntKind.bits,IntKind.signed]
theorem Ay9(x:Nat):bsN x=x / 72057594037927936 % 256+(x / 281474976710656 % 256*256+(x / 1099511627776 % 256*65536+(x / 4294967296 % 256*16777216+(x / 16777216 % 256*4294967296+(x / 65536 % 256*1099511627776+(x / 256 % 256*281474976710656+x % 256*72057594037927936)))))):=by
 unfold bsN;cases h:Nat.ble x 255
 ·exact cond_false _ _
 ·have:=Oj h;rw[cond_true,Nat.div_eq_of_lt (b:=72057594037927936) (by omega),Nat.div_eq_of_lt (b:=281474976710656) (by omega),Nat.div_eq_of_lt (b:=1099511627776) (by omega),Nat.div_eq_of_lt (b:=4294967296) (by omega),Nat.div_eq_of_lt (b:=16777216) (by omega),Nat.div_eq_of_lt (b:=65536) (by omega),Nat.div_eq_of_lt (b:=256) (by omega),Nat.mod_eq_of_lt (a:=x) (b:=256) (by omega)];simp only[Nat.zero_mod,Nat.zero_mul,Ig];rfl
theorem Az7{y0 y1 y2 y3 y4 y5 y6 y7:Nat}(l0:y0<256)(l1:y1<256)(l2:y2<256)(l3:y3<256)(l4:y4<256)(l5:y5<256)(l6:y6<256)(l7:y7<256):
  (y0:Int)+256*(y1+256*(y2+256*(y3+256*(y4+256*(y5+256*(y6+256*(y7+256*0)))))))=((y0+(y1*256+(y2*65536+(y3*16777216+(y4*4294967296+(y5*1099511627776+(y6*281474976710656+y7*72057594037927936)))))):Nat):Int) /\
  y0+(y1*256+(y2*65536+(y3*16777216+(y4*4294967296+(y5*1099511627776+(y6*281474976710656+y7*72057594037927936))))))<18446744073709551616:=⟨by omega,by omega⟩
theorem Ai9{x:Nat}(hx:x<Fl):Pc (Bp (x:Int))=((bsN x:Nat):Int)/\bsN x<Fl:=by
 have l:∀y:Nat,y % 256<256:=fun y=>Nat.mod_lt _ (by decide);have w:Pc (Bp (x:Int))=Dw x 0+256*(Dw x 1+256*(Dw x 2+256*(Dw x 3+256*(Dw x 4+256*(Dw x 5+256*(Dw x 6+256*(Dw x 7+256*0))))))):=rfl;have p0:2 ^ (56-8*0)=72057594037927936:=by decide
 have p1:2 ^ (56-8*1)=281474976710656:=by decide
 have p2:2 ^ (56-8*2)=1099511627776:=by decide
 have p3:2 ^ (56-8*3)=4294967296:=by decide
 have p4:2 ^ (56-8*4)=16777216:=by decide
 have p5:2 ^ (56-8*5)=65536:=by decide
 have p6:2 ^ (56-8*6)=256:=by decide
 have p7:2 ^ (56-8*7)=1:=by decide
 rw[w,KB x (k:=0) (by omega),KB x (k:=1) (by omega),KB x (k:=2) (by omega),KB x (k:=3) (by omega),KB x (k:=4) (by omega),KB x (k:=5) (by omega),KB x (k:=6) (by omega),KB x (k:=7) (by omega),p0,p1,p2,p3,p4,p5,p6,p7,Nat.div_one,Ay9];exact Az7 (l _) (l _) (l _) (l _) (l _) (l _) (l _) (l _)
theorem QY:∀(ws:Aj)(v:W4)(r:Aj),GF ws.length v (Ao ws++r)=(ws.map fun w=>Pc (Bp w)).foldl Lm v
 |[],v,r=>rfl
 |w::ws,v,r=>by
  have e:Ao (w::ws)++r=Bp w++(Ao ws++r):=by simp[Ao]
  have l8:(Bp w).length=8:=B5 w;rw[e,On,GF,List.take_left' l8,List.drop_left' l8,QY ws,U7,List.foldl_cons]
def hwN(k0 k1:Nat)(ws:Bz):Nat:=Ajw k0 k1 (ws.map bsN++[Nat.mul 72057594037927936 (Nat.mod (Nat.mul 8 ws.length) 256)])
theorem Ahp{k0 k1:Nat}(h0:k0<Fl)(h1:k1<Fl){ws:Bz}(hw:∀w∈ws,w<Fl):Ab0 k0 k1 (Ao (ws.map fun n:Nat=>(n:Int)))=((hwN k0 k1 ws:Nat):Int)/\hwN k0 k1 ws<Fl:=by
 have L:=Ed (ws.map fun n:Nat=>(n:Int));rw[List.length_map] at L;have e1:(Ao (ws.map fun n:Nat=>(n:Int))).length / 8=(ws.map fun n:Nat=>(n:Int)).length:=by rw[L,List.length_map];omega
 have e2:=QY (ws.map fun n:Nat=>(n:Int)) (Afc k0 k1) [];rw[List.append_nil] at e2
 have e3:K0 (Ao (ws.map fun n:Nat=>(n:Int)))=((Nat.mul 72057594037927936 (Nat.mod (Nat.mul 8 ws.length) 256):Nat):Int):=by
  unfold K0;rw[L,List.drop_eq_nil_of_le (by rw[L];omega)]
  show (0:Int)+72057594037927936*(((8*ws.length:Nat):Int) % 256)=((72057594037927936*((8*ws.length) % 256):Nat):Int);omega
 have e4:((ws.map fun n:Nat=>(n:Int)).map fun w=>Pc (Bp w))=(ws.map bsN).map fun n:Nat=>(n:Int):=by
  rw[List.map_map,List.map_map];exact List.map_congr_left fun x hx=>(Ai9 (hw x hx)).1
 have hws:∀w∈ws.map bsN++[Nat.mul 72057594037927936 (Nat.mod (Nat.mul 8 ws.length) 256)],w<Fl:=by
  intro w hm;rcases Bn.1 hm with hm|hm
  ·obtain⟨x,hx,rfl⟩:=List.mem_map.1 hm;exact (Ai9 (hw x hx)).2
  ·obtain rfl:=Sc.1 hm;show 72057594037927936*((8*ws.length) % 256)<18446744073709551616;omega
 have s:=Aa6 h0 h1 hws;rw[List.map_append,List.map_singleton,Auw,List.foldl_append,<-e4] at s;refine⟨?_,s.2⟩;unfold hwN;rw[<-s.1,Ab0,e1,e2,e3];rfl
theorem w64{x:Nat}(h:x<Fl):wrap .u64 (x:Int)=x:=wrap_u64 (by omega) (by have:x<18446744073709551616:=h;omega)
theorem Afq{dom:Nat}(hd:dom<Fl){ws:Bz}(hw:∀w∈ws,w<Fl):D8 (dom:Int) (Ao (ws.map fun n:Nat=>(n:Int)))=((hwN dom 0 ws:Nat):Int)/\hwN dom 0 ws<Fl:=by unfold D8;rw[w64 hd];exact Ahp (k1:=0) hd (by decide) hw
theorem A9q{P:Nat->Prop}{a b:Nat}(ha:P a)(hb:P b):∀w∈[a,b],P w:=fun w h=>by simp at h;rcases h with rfl|rfl<;>assumption
theorem A9u{P:Nat->Prop}{a b c:Nat}(ha:P a)(hb:P b)(hc:P c):∀w∈[a,b,c],P w:=fun w h=>by simp at h;rcases h with rfl|rfl|rfl<;>assumption
theorem Bb7{P:Nat->Prop}{a b c d:Nat}(ha:P a)(hb:P b)(hc:P c)(hd:P d):∀w∈[a,b,c,d],P w:=fun w h=>by simp at h;rcases h with rfl|rfl|rfl|rfl<;>assumption
def SF(leaf chain:Nat):Nat->Nat->Nat->Nat
 |0,_,x=>x
 |k+1,p,x=>sq (hwN 1 0 [leaf,chain,p,x]) fun y=>SF leaf chain k (Nat.succ p) y
theorem Ahg{leaf chain:Nat}(hl:leaf<Fl)(hc:chain<Fl):∀(k:Nat){p x:Nat},p+k<Fl->x<Fl->Tp leaf chain k p x=((SF leaf chain k p x:Nat):Int)/\SF leaf chain k p x<Fl
 |0,p,x,_,hx=>⟨rfl,hx⟩
 |k+1,p,x,hp,hx=>by
  have h:=Afq (dom:=1) (by decide) (Bb7 hl hc (show p<Fl by omega) hx);have ih:=Ahg hl hc k (p:=p+1) (by omega) h.2;have e:D8 1 (Ao [(leaf:Int),(chain:Int),(p:Int),(x:Int)])=_:=h.1;have e1:((p:Int)+1)=((p+1:Nat):Int):=by omega
  rw[Tp,w64 hl,w64 hc,w64 (show p<Fl by omega),e,e1,SF,S7];exact ih
def Au9(seed leaf chain:Nat):Nat:=hwN seed 2 [leaf,chain]
theorem Aw5{seed leaf chain:Nat}(hs:seed<Fl)(hl:leaf<Fl)(hc:chain<Fl):WX seed leaf chain=((Au9 seed leaf chain:Nat):Int)/\Au9 seed leaf chain<Fl:=by
 have e1:wrap .u64 (1+wrap .u64 1)=((2:Nat):Int):=by decide
 have e2:[(leaf:Int),(chain:Int)]=[leaf,chain].map fun n:Nat=>(n:Int):=rfl;unfold WX Apu;rw[w64 hl,w64 hc,e1,e2];exact Ahp (k1:=2) hs (by decide) (A9q hl hc)
def Aid(leaf:Nat)(E:Bz):Nat:=hwN 2 0 (leaf::E)
theorem Apz{leaf:Nat}(hl:leaf<Fl){E:Bz}(hE:∀e∈E,e<Fl):BF leaf (E.map fun n:Nat=>(n:Int))=((Aid leaf E:Nat):Int)/\Aid leaf E<Fl:=by unfold BF;rw[w64 hl];exact Afq (dom:=2) (ws:=leaf::E) (by decide) (fun w hw=>(List.mem_cons.1 hw).elim (fun e=>e ▸ hl) (hE w))
def Ac5(seed leaf c:Nat):Nat:=sq (Au9 seed leaf c) fun s=>SF leaf c 15 0 s
def YR(seed leaf:Nat):Nat:=Aid leaf ((List.range 18).map (Ac5 seed leaf))
theorem Aos{seed leaf:Nat}(hs:seed<Fl)(hl:leaf<Fl):Y5 seed leaf=((YR seed leaf:Nat):Int)/\YR seed leaf<Fl:=by
 have hp:∀c,c<18->LE seed leaf c=((Ac5 seed leaf c:Nat):Int)/\Ac5 seed leaf c<Fl:=fun c hc=>by
  have Q1:c<Fl:=Gb hc (by decide);have h:=Aw5 hs hl Q1;unfold LE Ac5;rw[h.1,S7];exact Ahg hl Q1 15 (p:=0) (by decide) h.2
 have e:(List.range 18).map (LE seed leaf)=((List.range 18).map (Ac5 seed leaf)).map fun n:Nat=>(n:Int):=by
  rw[List.map_map];exact List.map_congr_left fun c hc=>(hp c (List.mem_range.1 hc)).1
 unfold Y5;rw[e];exact Apz hl fun x hx=>by obtain⟨c,hc,rfl⟩:=List.mem_map.1 hx;exact (hp c (List.mem_range.1 hc)).2
def Anv(l a b:Nat):Nat:=hwN 3 0 [l,a,b]
theorem Aoi{l a b:Nat}(hl:l<Fl)(ha:a<Fl)(hb:b<Fl):L6 l a b=((Anv l a b:Nat):Int)/\Anv l a b<Fl:=by have e2:[(l:Int),(a:Int),(b:Int)]=[l,a,b].map fun n:Nat=>(n:Int):=rfl;unfold L6;rw[w64 hl,e2];exact Afq (dom:=3) (by decide) (A9u hl ha hb)
def DL(seed:Nat):Nat->Nat->Nat
 |0,i=>YR seed i
 |l+1,i=>sq (Nat.mul 2 i) fun j=>sq (DL seed l j) fun a=>sq (DL seed l (Nat.succ j)) fun b=>Anv (Nat.succ l) a b
theorem XJ{seed:Nat}(hs:seed<Fl):∀(l i:Nat),l<1000->i*2 ^ l+2 ^ l<Fl->H4 seed l i=((DL seed l i:Nat):Int)/\DL seed l i<Fl
 |0,i,_,hi=>Aos hs (by omega)
 |l+1,i,hl,hi=>by
  have p:2 ^ (l+1)=2*2 ^ l:=by rw[Nat.pow_succ,Nat.mul_comm]
  have m1:(2*i)*2 ^ l=i*2 ^ (l+1):=by rw[p,<-Nat.mul_assoc,Nat.mul_comm 2 i]
  have m2:(2*i+1)*2 ^ l=i*2 ^ (l+1)+2 ^ l:=by rw[Nat.add_mul,m1,Nat.one_mul]
  have pp:0<2 ^ l:=Nat.two_pow_pos l;have h1:=XJ hs l (2*i) (by omega) (by rw[m1];omega)
  have h2:=XJ hs l (2*i+1) (by omega) (by rw[m2];omega)
  have e1:(2*(i:Int))=((2*i:Nat):Int):=by omega
  have e2:(2*(i:Int)+1)=((2*i+1:Nat):Int):=by omega
  have h3:=Aoi (l:=l+1) (by show l+1<18446744073709551616;omega) h1.2 h2.2
  rw[H4,e2,e1,h1.1,h2.1,DL,S7,S7,S7];exact h3
def TD(seed leaf:Nat)(m:Int)(c:Nat):Nat:=sq (Au9 seed leaf c) fun s=>SF leaf c (dg m c).toNat 0 s
theorem A0c{seed leaf:Nat}(hs:seed<Fl)(hl:leaf<Fl)(m:Int){c:Nat}(hc:c<Fl):OE seed leaf m c=((TD seed leaf m c:Nat):Int)/\TD seed leaf m c<Fl:=by have h:=Aw5 hs hl hc;have b:=Ua m c;unfold OE TD;rw[h.1,S7];exact Ahg hl hc _ (p:=0) (by show 0+_<18446744073709551616;omega) h.2
def BA(l:Bz):Aj:=l.map fun n:Nat=>(n:Int)
def Ay6(leaf:Nat)(m:Int)(s:Aj):Nat:=Aid leaf ((List.range 18).map fun c=>SF leaf c (15-dg m c).toNat (dg m c).toNat (s.getD c 0).toNat)
theorem A5o{leaf:Nat}(hl:leaf<Fl)(m:Int){s:Aj}(hs:∀x∈s,0<=x/\x<=18446744073709551615):Abo leaf m s=((Ay6 leaf m s:Nat):Int)/\Ay6 leaf m s<Fl:=by
 have hp:∀c,c<18->Acl leaf m s c=((SF leaf c (15-dg m c).toNat (dg m c).toNat (s.getD c 0).toNat:Nat):Int)/\SF leaf c (15-dg m c).toNat (dg m c).toNat (s.getD c 0).toNat<Fl:=fun c hc=>by
  have Q1:c<Fl:=Gb hc (by decide);have b:=Ua m c
  have hx:0<=s.getD c 0/\s.getD c 0<=18446744073709551615:=by
   rw[List.getD_eq_getElem?_getD];cases h:s[c]? with
   |none=>simp
   |some x=>exact hs x (List.mem_of_getElem? h)
  have hx0:((s.getD c 0).toNat:Int)=s.getD c 0:=Int.toNat_of_nonneg hx.1;have hg:((dg m c).toNat:Int)=dg m c:=Int.toNat_of_nonneg b.1;have h:=Ahg hl Q1 (15-dg m c).toNat (p:=(dg m c).toNat) (x:=(s.getD c 0).toNat) (by show _<18446744073709551616;omega) (by show _<18446744073709551616;omega)
  rw[hx0,hg] at h;exact h
 have e:FH leaf m s=((List.range 18).map fun c=>SF leaf c (15-dg m c).toNat (dg m c).toNat (s.getD c 0).toNat).map fun n:Nat=>(n:Int):=by
  unfold FH;rw[List.map_map];exact List.map_congr_left fun c hc=>(hp c (List.mem_range.1 hc)).1
 unfold Abo;rw[e];exact Apz hl fun x hx=>by obtain⟨c,hc,rfl⟩:=List.mem_map.1 hx;exact (hp c (List.mem_range.1 hc)).2
def PC(leaf:Int):Nat->Nat->Aj->Nat
 |_,x,[]=>x
 |i,x,s::r=>sq (if D3 .i64 (Gl .i64 leaf i) 1=0 then Anv (Nat.succ i) x s.toNat else Anv (Nat.succ i) s.toNat x) fun y=>PC leaf (Nat.succ i) y r
theorem YY{leaf:Int}:∀(s:Aj){i x:Nat},(∀y∈s,0<=y/\y<=18446744073709551615)->i+s.length<1000->x<Fl->Y9 leaf i x s=((PC leaf i x s:Nat):Int)/\PC leaf i x s<Fl
 |[],i,x,_,_,hx=>⟨rfl,hx⟩
 |y::r,i,x,hs,hi,hx=>by
  obtain⟨y0,y1⟩:=hs y (by simp);obtain⟨z,rfl⟩:=Int.eq_ofNat_of_zero_le y0;have hz:z<Fl:=by show z<18446744073709551616;omega
  have hi1:i+1<Fl:=by show i+1<18446744073709551616;omega
  simp only[On] at hi;rw[Y4,PC,S7];split
  ·have h:=Aoi hi1 hx hz;rw[h.1];exact YY r (fun y hy=>hs y (by simp[hy])) (by omega) h.2
  ·have h:=Aoi hi1 hz hx;rw[h.1];exact YY r (fun y hy=>hs y (by simp[hy])) (by omega) h.2
def SG(n:Int):Bool:=decide (0<=n)&&decide (n<=18446744073709551615)
theorem XW{n:Int}(h:SG n=true):((n.toNat:Nat):Int)=n/\n.toNat<Fl:=by unfold SG at h;simp only[Er,Xi] at h;exact⟨Int.toNat_of_nonneg h.1,by show n.toNat<18446744073709551616;omega⟩
def GZ(k:IntKind)(hi:Int):Ad->Option Aj
 |[]=>some []
 |.sc (.int k' n)::r=>bif decide (k'=k)&&decide (0<=n)&&decide (n<=hi) then (GZ k hi r).map (n :: ·) else none
 |_=>none
theorem V0{k:IntKind}{hi:Int}:∀{c:Ad}{l:Aj},GZ k hi c=some l->c=Ae k l/\∀x∈l,0<=x/\x<=hi:=by
 intro c
 fun_induction GZ k hi c with
 |case1=>intro l h;cases h;exact⟨rfl,fun x hx=>nomatch hx⟩
 |case2 k' n r hb ih=>
  intro l h;cases hr:GZ k hi r with
  |none=>rw[hr] at h;cases h
  |some l'=>
   rw[hr] at h;cases h;obtain⟨rfl,h2⟩:=ih hr;simp only[Er,Xi] at hb;obtain⟨⟨rfl,h3⟩,h4⟩:=hb;exact⟨rfl,fun x hx=>(List.mem_cons.1 hx).elim (fun e=>e ▸ ⟨h3,h4⟩) (h2 x)⟩
 |case3=>intro l h;cases h
 |case4=>intro l h;cases h
abbrev II:=GZ .u64 18446744073709551615
abbrev Axp:=GZ .u8 255
def leN:Bz->Nat
 |[]=>0
 |b::r=>Nat.add b (Nat.mul 256 (leN r))
def wdN:Nat->Bz->Nat->Bz
 |0,l,t=>[Nat.add (leN l) t]
 |n+1,l,t=>leN (l.take 8)::wdN n (l.drop 8) t
def HC(l:Aj):Bz:=l.map Int.toNat
theorem Av9:∀{l:Aj},Cp l->Pc l=((leN (HC l):Nat):Int)
 |[],_=>rfl
 |b::r,h=>by
  have h1:=h b (by simp);have e:((b.toNat:Nat):Int)=b:=Int.toNat_of_nonneg h1.1;have ih:=Av9 (l:=r) fun x hx=>h x (by simp[hx]);show b+256*Pc r=((b.toNat+256*leN (HC r):Nat):Int);rw[ih];omega
theorem Axd{l:Aj}(h:Cp l){n:Nat}(hn:l.length<=n):leN (HC l)<256 ^ n:=by
 have b:=(Rc h).2;rw[Av9 h] at b;have b':leN (HC l)<256 ^ l.length:=by exact_mod_cast b
 exact Gb b' (Nat.pow_le_pow_right (by decide) hn)
theorem A6c:∀(n:Nat){l:Aj}{v:W4}{t:Nat},Cp l->8*n<=l.length->l.length<8*n+8->t<=255*72057594037927936 ->
  Lm (GF n v l) (Pc (l.drop (8*n))+(t:Int))=((wdN n (HC l) t).map fun n:Nat=>(n:Int)).foldl Lm v/\∀w∈wdN n (HC l) t,w<Fl
 |0,l,v,t,hb,_,h8,ht=>by
  have h:=Av9 hb;have hl:=Axd hb (n:=7) (by omega);refine⟨?_,fun w hw=>?_⟩
  ·show Lm v (Pc l+(t:Int))=Lm v ((leN (HC l)+t:Nat):Int);rw[h]
   congr 1
  ·obtain rfl:=Sc.1 hw;show leN (HC l)+t<18446744073709551616;have:(256:Nat) ^ 7=72057594037927936:=by decide
   omega
 |n+1,l,v,t,hb,hn,h8,ht=>by
  have Fv:Cp (l.take 8):=fun x hx=>hb x (List.mem_of_mem_take hx);have Ir:Cp (l.drop 8):=fun x hx=>hb x (List.mem_of_mem_drop hx);have h1:=Av9 Fv;have h2:=Axd Fv (n:=8) (by rw[List.length_take];omega)
  have d:(l.drop 8).length=l.length-8:=List.length_drop;have ih:=A6c n (l:=l.drop 8) (v:=Lm v (Pc (l.take 8))) (t:=t) Ir (by omega) (by omega) ht;have e1:(l.drop 8).drop (8*n)=l.drop (8*(n+1)):=by rw[List.drop_drop,show 8+8*n=8*(n+1) by omega]
  have e2:HC (l.take 8)=(HC l).take 8:=List.map_take;have e3:HC (l.drop 8)=(HC l).drop 8:=List.map_drop;rw[e1,e3,h1,e2] at ih;rw[e2] at h1 h2;refine⟨?_,fun w hw=>?_⟩
  ·rw[GF,wdN,U7,List.foldl_cons,<-ih.1,h1]
  ·rcases List.mem_cons.1 hw with rfl|hw
   ·exact h2
   ·exact ih.2 w hw
def A0f(k0 k1:Nat)(l:Aj):Nat:=Ajw k0 k1 (wdN (l.length / 8) (HC l) (72057594037927936*(l.length % 256)))
theorem A51{k0 k1:Nat}(h0:k0<Fl)(h1:k1<Fl){l:Aj}(hb:Cp l):Ab0 k0 k1 l=((A0f k0 k1 l:Nat):Int):=by
 have h:=A6c (l.length / 8) (l:=l) (v:=Afc k0 k1) (t:=72057594037927936*(l.length % 256)) hb (by omega) (by omega) (by omega);have s:=Aa6 h0 h1 h.2
 have e:K0 l=Pc (l.drop (8*(l.length / 8)))+((72057594037927936*(l.length % 256):Nat):Int):=by
  unfold K0
  first|rfl|(congr 1;omega)|congr 1
 unfold A0f;rw[<-s.1,Auw,<-h.1,Ab0,e]
def Auz(args:Ad):Option A1:=
 match args with
 |[.sc (.int .u64 k0),.sc (.int .u64 k1),.lst false 1 n c]=>bif SG k0&&SG k1&&Nat.beq c.length n&&Nat.ble n 1000000 then
   (match Axp c with|some l=>some ⟨[Ah (A0f k0.toNat k1.toNat l:Nat)],[]⟩|none=>none) else none
 |_=>none
def Auf(args:Ad):Option A1:=
 match args with
 |[.lst false 1 n c]=>bif Nat.beq c.length n&&Nat.ble n 1000000 then
   (match II c with|some l=>some ⟨[.own 1 (Ao l).length (Ae .u8 (Ao l))],[]⟩|none=>none) else none
 |_=>none
def Ays(args:Ad):Option A1:=
 match args with
 |[.sc (.int .u64 seed),.sc (.int .i64 h)]=>bif SG seed && !D2 h then some ⟨[.agg [Aw h,Ah (DL seed.toNat h.toNat 0:Nat)],Aw 0],[]⟩ else none
 |_=>none
def A17(args:Ad):Option A1:=
 match args with
 |[.sc (.int .u64 seed),.sc (.int .i64 h),.sc (.int .i64 leaf),.sc (.int .u64 m)]=>bif SG seed && !D2 h && !J9 leaf h then
   some ⟨[.agg [Aw leaf,.own 1 18 (Ae .u64 (BA ((List.range 18).map (TD seed.toNat leaf.toNat m)))),.own 1 h.toNat (Ae .u64 (BA ((List.range h.toNat).map fun k=>DL seed.toNat k (Mp leaf k).toNat)))],Aw 0],[]⟩ else none
 |_=>none
def A1a(h root m leaf:Int)(ch pa:Aj):Int:=if D2 h=true then 9 else if J9 leaf h=true then 9 else if ch.length≠18 then 4 else if (pa.length:Int)≠h then 4 else okE ((PC leaf 0 (Ay6 leaf.toNat m ch) pa:Nat):Int) root
def Ayh(args:Ad):Option A1:=
 match args with
 |[.agg [.sc (.int .i64 h),.sc (.int .u64 root)],.sc (.int .u64 m),.agg [.sc (.int .i64 leaf),.lst false 1 nc c,.lst false 1 np p]]=>bif Nat.beq c.length nc&&Nat.beq p.length np&&Nat.ble np 100 then
   (match II c,II p with|some ch,some pa=>some ⟨[Aw (A1a h root m leaf ch pa)],[]⟩|_,_=>none) else none
 |_=>none
theorem Axe{leaf h:Int}(hh:D2 h=false)(ho:J9 leaf h=false):0<=leaf/\leaf<=15:=by
 have hb:=Ko hh;unfold J9 at ho;simp only[Bool.or_eq_false_iff,decide_eq_false_iff_not] at ho;rcases (by omega:h=0\/h=1\/h=2\/h=3\/h=4) with rfl|rfl|rfl|rfl|rfl
 all_goals (have e:=ho.2;simp[Fb,wrap,IntKind.bits,IntKind.signed] at e;omega)
theorem Azx:∀(l:Fin 16)(k:Fin 4),0<=Mp (l.val:Int) k.val/\Mp (l.val:Int) k.val<=15:=by decide +kernel
theorem A40(h root m leaf:Int){ch pa:Aj}(hc:∀x∈ch,0<=x/\x<=18446744073709551615)(hp:∀x∈pa,0<=x/\x<=18446744073709551615)(hl:pa.length<=100):SI ⟨h,root⟩ m ⟨leaf,ch,pa⟩=A1a h root m leaf ch pa:=by
 unfold SI A1a;simp only;split
 ·rfl
 rename_i h1;split
 ·rfl
 rename_i h2;split
 ·rfl
 split
 ·rfl
 have o:=Axe (by simpa using h1) (by simpa using h2);obtain⟨k,rfl⟩:=Int.eq_ofNat_of_zero_le o.1;have hk:k<Fl:=by show k<18446744073709551616;omega
 have r:=A5o hk m hc;have c:=YY (leaf:=(k:Int)) pa (i:=0) hp (by omega) r.2;rw[r.1,c.1];rfl
theorem TC{args:Ad}{res:A1}(h:Auz args=some res):Cx gU prog 98 args res/\Cx gU prog 79 args res:=by
 unfold Auz at h;split at h
 rotate_left
 ·cases h
 rename_i k0 k1 n c;cases hb:(SG k0&&SG k1&&Nat.beq c.length n&&Nat.ble n 1000000)
 ·rw[hb] at h;cases h
 rw[hb,cond_true] at h;simp only[Er] at hb;obtain⟨⟨⟨b0,b1⟩,b2⟩,b3⟩:=hb;cases hl:Axp c with
 |none=>rw[hl] at h;cases h
 |some l=>
  rw[hl] at h;cases h;obtain⟨rfl,hB⟩:=V0 hl;have hn:n=l.length:=by rw[<-C6 b2,Al]
  subst hn;have FS:=Oj b3;obtain⟨e0,q0⟩:=XW b0;obtain⟨e1,q1⟩:=XW b1;have e:=A51 q0 q1 hB;rw[e0,e1] at e;rw[<-e];exact⟨Dh ngR mxR Ac8 _ _ _ _ (Arp (xs:=xsb) (fu:=2000000) (d:=1) hB (by omega) (by omega) (by omega) k0 k1),Dh ngR mxR Ac8 _ _ _ _ (ZS (xs:=xsb) (fu:=2000000) (d:=1) hB (by omega) (by omega) (by omega) k0 k1)⟩
theorem TW{args:Ad}{res:A1}(h:Auf args=some res):Cx gU prog 66 args res/\Cx gU prog 50 args res:=by
 unfold Auf at h;split at h
 rotate_left
 ·cases h
 rename_i n c;cases hb:(Nat.beq c.length n&&Nat.ble n 1000000)
 ·rw[hb] at h;cases h
 rw[hb,cond_true] at h;simp only[Er] at hb;cases hl:II c with
 |none=>rw[hl] at h;cases h
 |some l=>
  rw[hl] at h;cases h;obtain⟨rfl,_⟩:=V0 hl;have hn:n=l.length:=by rw[<-C6 hb.1,Al]
  subst hn;have FS:=Oj hb.2;exact⟨Dh ngR mxR Ac8 _ _ _ _ (Xt (xs:=xsb) (fu:=2000000) (d:=1) (by omega) (by omega) (by omega)),Dh ngR mxR Ac8 _ _ _ _ (Ia (xs:=xsb) (fu:=2000000) (d:=1) (by omega) (by omega) (by omega))⟩
theorem Aju{args:Ad}{res:A1}(h:Ays args=some res):Cx gU prog 41 args res:=by
 unfold Ays at h;split at h
 rotate_left
 ·cases h
 rename_i seed h0;cases hb:(SG seed && !D2 h0)
 ·rw[hb] at h;cases h
 rw[hb,cond_true] at h;cases h;simp only[Er,Bool.not_eq_true'] at hb;have hl:=Ko hb.2;obtain⟨e0,q0⟩:=XW hb.1
 have nd:=(XJ q0 h0.toNat 0 (by omega) (by
  have:=Nat.pow_le_pow_right (n:=2) (by decide) (show h0.toNat<=4 by omega);show 0*2 ^ h0.toNat+2 ^ h0.toNat<18446744073709551616;omega)).1
 rw[e0] at nd;have e:=QE (xs:=xsb) (fu:=2000000) (d:=1) (by omega) seed h0;unfold Pd at e;rw[hb.2,Bl (by simp),Bl (by simp),show H4 seed h0.toNat 0=_ from nd] at e;exact Dh ngR mxR Ac8 _ _ _ _ e
theorem Ajt{args:Ad}{res:A1}(h:A17 args=some res):Cx gU prog 26 args res:=by
 unfold A17 at h;split at h
 rotate_left
 ·cases h
 rename_i seed h0 leaf m;cases hb:(SG seed && !D2 h0 && !J9 leaf h0)
 ·rw[hb] at h;cases h
 rw[hb,cond_true] at h;cases h;simp only[Er,Bool.not_eq_true'] at hb;obtain⟨⟨b1,b2⟩,b3⟩:=hb;have hl:=Ko b2;have ho:=Axe b2 b3;obtain⟨e0,q0⟩:=XW b1;obtain⟨k,rfl⟩:=Int.eq_ofNat_of_zero_le ho.1;have hk:k<Fl:=by show k<18446744073709551616;omega
 have e1:X4 seed k m=BA ((List.range 18).map (TD seed.toNat (k:Int).toNat m)):=by
  unfold X4 BA;rw[List.map_map];refine List.map_congr_left fun c hc=>?_;have:=(A0c q0 hk m (c:=c) (by have:=List.mem_range.1 hc;show c<18446744073709551616;omega)).1
  rw[e0] at this;exact this
 have e2:((List.range h0.toNat).map fun j=>H4 seed j (Mp k j))=BA ((List.range h0.toNat).map fun j=>DL seed.toNat j (Mp k j).toNat):=by
  unfold BA;rw[List.map_map];refine List.map_congr_left fun j hj=>?_;have hj4:j<4:=by have:=List.mem_range.1 hj;omega
  have s:=Azx ⟨k,by omega⟩ ⟨j,hj4⟩;simp only at s;have es:(((Mp k j).toNat:Nat):Int)=Mp k j:=Int.toNat_of_nonneg s.1;have p:2 ^ j<=8:=by rcases (by omega:j=0\/j=1\/j=2\/j=3) with rfl|rfl|rfl|rfl<;>decide
  have p2:(Mp k j).toNat*2 ^ j<=15*8:=Nat.mul_le_mul (by omega) p;have:=(XJ q0 j (Mp k j).toNat (by omega) (by show _<18446744073709551616;omega)).1
  rw[e0,es] at this;exact this
 have e:=Ac0 (xs:=xsb) (fu:=2000000) (d:=1) (by omega) seed h0 k m;unfold Ajr at e;rw[b2,b3,Bl (by simp),Bl (by simp),e1,e2] at e;have l1:(BA ((List.range 18).map (TD seed.toNat (k:Int).toNat m))).length=18:=by simp[BA]
 have l2:(BA ((List.range h0.toNat).map fun j=>DL seed.toNat j (Mp k j).toNat)).length=h0.toNat:=by simp[BA]
 simp only[YB,Sg.owned,l1,l2] at e;exact Dh ngR mxR Ac8 _ _ _ _ e
theorem Ajq{args:Ad}{res:A1}(h:Ayh args=some res):Cx gU prog 103 args res:=by
 unfold Ayh at h;split at h
 rotate_left
 ·cases h
 rename_i h0 root m leaf nc c np p;cases hb:(Nat.beq c.length nc&&Nat.beq p.length np&&Nat.ble np 100)
 ·rw[hb] at h;cases h
 rw[hb,cond_true] at h;simp only[Er] at hb;cases h1:II c with
 |none=>rw[h1] at h;cases h
 |some ch=>
  cases h2:II p with
  |none=>rw[h1,h2] at h;cases h
  |some pa=>
   rw[h1,h2] at h;cases h;obtain⟨rfl,c1⟩:=V0 h1;obtain⟨rfl,c2⟩:=V0 h2;have n1:nc=ch.length:=by rw[<-C6 hb.1.1,Al]
   have n2:np=pa.length:=by rw[<-C6 hb.1.2,Al]
   subst n1 n2;rw[<-A40 h0 root m leaf c1 c2 (Oj hb.2)];exact Dh ngR mxR Ac8 _ _ _ _ (TG (xs:=xsb) (fu:=2000000) (d:=1) (by omega) ⟨h0,root⟩ m ⟨leaf,ch,pa⟩)
def At3(f:FuncId):Option (Ad->Option A1):=
 bif Nat.beq f 41 then some Ays else bif Nat.beq f 26 then some A17 else bif Nat.beq f 103 then some Ayh else bif Nat.beq f 98 then some Auz else bif Nat.beq f 79 then some Auz else bif Nat.beq f 66 then some Auf else bif Nat.beq f 50 then some Auf else Cb.ext f
def C2:Gw:={ Cb with ext:=At3 }
theorem QD{f g:Nat}(h:Nat.beq f g=true):f=g:=C6 h
theorem A6t:ES gU prog C2:=by
 intro f g args res hg h;have hg:At3 f=some g:=hg;unfold At3 at hg;cases h1:Nat.beq f 41
 rotate_left
 ·rw[h1] at hg;cases hg;rw[QD h1];exact Aju h
 cases h2:Nat.beq f 26
 rotate_left
 ·rw[h1,h2] at hg;cases hg;rw[QD h2];exact Ajt h
 cases h3:Nat.beq f 103
 rotate_left
 ·rw[h1,h2,h3] at hg;cases hg;rw[QD h3];exact Ajq h
 cases h4:Nat.beq f 98
 rotate_left
 ·rw[h1,h2,h3,h4] at hg;cases hg;rw[QD h4];exact (TC h).1
 cases h5:Nat.beq f 79
 rotate_left
 ·rw[h1,h2,h3,h4,h5] at hg;cases hg;rw[QD h5];exact (TC h).2
 cases h6:Nat.beq f 66
 rotate_left
 ·rw[h1,h2,h3,h4,h5,h6] at hg;cases hg;rw[QD h6];exact (TW h).1
 cases h7:Nat.beq f 50
 rotate_left
 ·rw[h1,h2,h3,h4,h5,h6,h7] at hg;cases hg;rw[QD h7];exact (TW h).2
 rw[h1,h2,h3,h4,h5,h6,h7] at hg;exact Ac8 f g args res hg h
theorem closed{fu d:Nat}{f:FuncId}{args:Ad}{r:A1}(h:Hy C2 prog fu d f args=some r):Ac C2 prog fu d f args=some r:=(Zu d f args).symm.trans h
end
end Go.Proofs.YtamoegpkglhedaaGreatDoor.Pv
