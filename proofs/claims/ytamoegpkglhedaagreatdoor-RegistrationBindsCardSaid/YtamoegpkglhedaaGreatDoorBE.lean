/-
  The proof of RegistrationBinds, part 5.
-/
import Derived.Test.YtamoegpkglhedaaGreatDoorBD
import Derived.Test.YtamoegpkglhedaaGreatDoorRows
import Derived.Deep.CutBlock
import Derived.Laws.ResultCell
import Derived.Laws.Bits64b
set_option linter.unusedSimpArgs false
set_option linter.unusedVariables false
namespace Go.Proofs.YtamoegpkglhedaaGreatDoor.Pv
open Go.IntKind (wrap)
open Go.Proofs.Tryz (prog)
set_option maxRecDepth 1000000
noncomputable section
section
variable {xs:FuncId->Option (Ae->Option A4)}(fu d:Nat)(call:Aq)
theorem Vi{p:FuncId->Option (Ae->Option A4)}(fu d:Nat)(Z Y:ByteArray):Ac (CP p) prog fu (d+1) 164 [Z,Y]=(fun (call:Aq)=>Dv (call 179 [Z,Y]) fun a b=>Bm a fun a=>Ao b<|Ay (!a) (Bg [Z,false]) (Ar (decide (Int.toNat (↑(ByteArray.size Y):Int)<=ByteArray.size Z)&&decide (ByteArray.size Z<=ByteArray.size Z))<|Aa (ByteArray.extract Z (Int.toNat (↑(ByteArray.size Y):Int)) (ByteArray.size Z)) fun a=>Bg [a,true])) (Ac (CP p) prog fu d):=by kernel_rfl
theorem BM{p:FuncId->Option (Ae->Option A4)}(fu d:Nat)(Z Y:ByteArray):Ac (CP p) prog fu (d+1) 141 [Z,Y]=(fun (call:Aq)=>Dv (call 164 [Z,Y]) fun a b=>Bu a fun a=>Q6 b fun b=>Bg [a,b]) (Ac (CP p) prog fu d):=by kernel_rfl
theorem HE{p:FuncId->Option (Ae->Option A4)}(fu d:Nat)(Z Y:ByteArray):Ac (CP p) prog fu (d+1) 165 [Z,Y]=(fun (call:Aq)=>Ge .i64 (call 184 [Z,Y]) fun a=>Ay (decide (a>=0)) (Ar (decide (0<=a))<|Ar (decide (a.toNat<=ByteArray.size Z))<|Aa (ByteArray.extract Z 0 a.toNat) fun b=>Aa (wrap .i64 (a+(↑(ByteArray.size Y):Int))) fun a=>Ar (decide (0<=a))<|Ar (decide (a.toNat<=ByteArray.size Z)&&decide (ByteArray.size Z<=ByteArray.size Z))<|Aa (ByteArray.extract Z a.toNat (ByteArray.size Z)) fun a=>Bg [b,a,true]) (Bg [Z,Bk ⟨#[]⟩,false])) (Ac (CP p) prog fu d):=by kernel_rfl
theorem UE{p:FuncId->Option (Ae->Option A4)}(fu d:Nat)(Z Y:ByteArray):Ac (CP p) prog fu (d+1) 142 [Z,Y]=(fun (call:Aq)=>Dv (call 165 [Z,Y]) fun a b=>Bu a fun a=>Ai b fun b c=>Bu b fun b=>Q6 c fun c=>Bg [a,b,c]) (Ac (CP p) prog fu d):=by kernel_rfl
theorem NA{p:FuncId->Option (Ae->Option A4)}(fu d:Nat)(Z Y:ByteArray):Ac (CP p) prog fu (d+1) 210 [Z,Y]=(fun (call:Aq)=>Ge .i64 (call 184 [Z,Y]) fun a=>Bg [a]) (Ac (CP p) prog fu d):=by kernel_rfl
theorem BP{p:FuncId->Option (Ae->Option A4)}(fu d:Nat)(Y Z:ByteArray):Ac (CP p) prog fu (d+1) 184 [Y,Z]=(fun (call:Aq)=>Ay ((↑(ByteArray.size Z):Int)==0) (Bg [(0:Int)]) (Ay (Array.toList (ByteArray.data Z)==Array.toList (ByteArray.data Y)) (Bg [(0:Int)]) (Ay ((↑(ByteArray.size Z):Int)==1) (Dj ((Array.toList (ByteArray.data Z))[0]?) fun a=>Ge .i64 (call 155 [Y,.sc (.int .u8 (↑(UInt8.toNat a):Int))]) fun a=>Bg [a]) (Ay (decide ((↑(ByteArray.size Z):Int)>=(↑(ByteArray.size Y):Int))) (Bg [(-1:Int)]) none)))) (Ac (CP p) prog fu d):=by kernel_rfl
def Fv(Z Y:ByteArray)(X W:Int)(V:Nat)(U T:ByteArray)(S Q:Int)(P:Nat)(O:Int)(N:Ae):Option A4:=K0 fu call 185 Tryz.f185 [Z,Y,X,W] [.r,.r,.r,.r,.r,.r,.r,.r,.l,.l] V ⟨lk [(0,U),(1,T),(2,S),(3,Q),(9,.view 9 1 0 P),(10,O)],Fx [(9,.ar false N)]⟩
theorem Xl(S Q:ByteArray)(P O:Int)(N:Nat)(Y V:ByteArray)(U T:Int)(X:Nat)(Z:Int)(W:Ae):Fv fu call S Q P O (N+1) Y V U T X Z W=(Ay (decide (Z<T)) (Ge .i64 (call 210 [Y,V]) fun a=>Ay (decide (a<0)) (Ar (decide (0<=Z)&&decide (Z<(↑X:Int)))<|Ar (decide (0+Z.toNat*1+1<=W.length))<|Aa (B5 W [Y] (0+Z.toNat*1)) fun a=>Aa (wrap .i64 (Z+1)) fun b=>Ar (decide (0<=b))<|Ar (decide (b.toNat<=X))<|Aa (b.toNat-0) fun b=>Ar (decide (b*1<=a.length))<|Bg [.own 1 b (a.take (b*1))]) (Aa (wrap .i64 (a+U)) fun b=>Ar (decide (0<=b))<|Ar (decide (b.toNat<=ByteArray.size Y))<|Aa (ByteArray.extract Y 0 b.toNat) fun b=>Ar (decide (0<=Z)&&decide (Z<(↑X:Int)))<|Ar (decide (0+Z.toNat*1+1<=W.length))<|Aa (B5 W [b] (0+Z.toNat*1)) fun b=>Aa (wrap .i64 (a+(↑(ByteArray.size V):Int))) fun a=>Ar (decide (0<=a))<|Ar (decide (a.toNat<=ByteArray.size Y)&&decide (ByteArray.size Y<=ByteArray.size Y))<|Aa (ByteArray.extract Y a.toNat (ByteArray.size Y)) fun a=>Aa (wrap .i64 (Z+1)) fun c=>Fv fu call S Q P O N a V U T X c b)) (Ar (decide (0<=Z)&&decide (Z<(↑X:Int)))<|Ar (decide (0+Z.toNat*1+1<=W.length))<|Aa (B5 W [Y] (0+Z.toNat*1)) fun a=>Aa (wrap .i64 (Z+1)) fun b=>Ar (decide (0<=b))<|Ar (decide (b.toNat<=X))<|Aa (b.toNat-0) fun b=>Ar (decide (b*1<=a.length))<|Bg [.own 1 b (a.take (b*1))])):=by kernel_rfl
theorem DD{p:FuncId->Option (Ae->Option A4)}(fu d:Nat)(Z X:ByteArray)(W Y:Int):Ac (CP p) prog fu (d+1) 185 [Z,X,W,Y]=(fun (call:Aq)=>Ay (Y==0) (Bg [.own 1 0 []]) (Ay (Array.toList (ByteArray.data X)==Array.toList (ByteArray.data (ByteArray.mk #[]))) (Dv (call 208 [Z,Y]) fun a b=>Lg 1 a fun a c=>Ao b<|Ar (decide (a*1<=c.length))<|Bg [.own 1 a (c.take (a*1))]) (Ay (decide (Y<0)) (Ge .i64 (call 209 [Z,X]) fun a=>Aa (wrap .i64 (a+1)) fun a=>Aa (wrap .i64 ((↑(ByteArray.size Z):Int)+1)) fun b=>Aa (if b<a then b else a) fun a=>Ar (decide (0<=a)&&decide (a<=a)&&decide (a*16<=1099511627776)&&decide (a<=1099511627776))<|Aa (wrap .i64 (a-1)) fun b=>Fv fu call Z X W Y fu Z X W b a.toNat 0 (Si a.toNat [Bk ⟨#[]⟩])) (Aa (wrap .i64 ((↑(ByteArray.size Z):Int)+1)) fun a=>Aa (if a<Y then a else Y) fun a=>Ar (decide (0<=a)&&decide (a<=a)&&decide (a*16<=1099511627776)&&decide (a<=1099511627776))<|Aa (wrap .i64 (a-1)) fun b=>Fv fu call Z X W Y fu Z X W b a.toNat 0 (Si a.toNat [Bk ⟨#[]⟩]))))) (Ac (CP p) prog fu d):=by kernel_rfl
theorem MK{p:FuncId->Option (Ae->Option A4)}(fu d:Nat)(Z Y:ByteArray):Ac (CP p) prog fu (d+1) 166 [Z,Y]=(fun (call:Aq)=>Dv (call 185 [Z,Y,(0:Int),(-1:Int)]) fun a b=>Lg 1 a fun a c=>Ao b<|Ar (decide (a*1<=c.length))<|Bg [.own 1 a (c.take (a*1))]) (Ac (CP p) prog fu d):=by kernel_rfl
def Ek(Z:ByteArray)(Y:Nat)(X:ByteArray)(W V:Int):Option A4:=K0 fu call 167 Tryz.f167 [Z] [.r,.r,.l,.r,.l] Y ⟨lk [(0,X),(16,W),(17,V)],Fx []⟩
theorem Ou(W:ByteArray)(V:Nat)(Y:ByteArray)(X Z:Int):Ek fu call W (V+1) Y X Z=(Ay (decide (Z<X)) (Ar (decide (0<=Z))<|Dj ((Array.toList (ByteArray.data Y))[Z.toNat]?) fun a=>(fun e:Option A4=>(fun f:Option A4=>(fun c:Option A4=>Ay (decide (97<=(↑(UInt8.toNat a):Int))) (Ay (decide ((↑(UInt8.toNat a):Int)<=122)) (Ay ((↑(UInt8.toNat a):Int)==45) (Ay (decide (Z>0)) (Aa (wrap .i64 ((↑(ByteArray.size Y):Int)-1)) fun a=>Aa (wrap .i64 (Z+1)) fun a=>Ek fu call W V Y X a) e) e) c) c) (Ay (decide (48<=(↑(UInt8.toNat a):Int))) (Ay ((↑(UInt8.toNat a):Int)==45) (Ay (decide (Z>0)) (Aa (wrap .i64 ((↑(ByteArray.size Y):Int)-1)) fun b=>Ay (!decide ((↑(UInt8.toNat a):Int)<=57)) (Ay (!decide (Z<b)) (Bg [false]) e) e) f) f) (Ay ((↑(UInt8.toNat a):Int)==45) (Ay (decide (Z>0)) (Aa (wrap .i64 ((↑(ByteArray.size Y):Int)-1)) fun a=>Ay (!decide (Z<a)) (Bg [false]) (Aa (wrap .i64 (Z+1)) fun a=>Ek fu call W V Y X a)) (Bg [false])) (Bg [false])))) (Ay (!decide ((↑(UInt8.toNat a):Int)<=57)) (Bg [false]) e)) (Aa (wrap .i64 (Z+1)) fun a=>Ek fu call W V Y X a)) (Bg [true])):=by kernel_rfl
theorem EX{p:FuncId->Option (Ae->Option A4)}(fu d:Nat)(Z:ByteArray):Ac (CP p) prog fu (d+1) 167 [Z]=(fun (call:Aq)=>Ay (decide ((↑(ByteArray.size Z):Int)<1)) (Bg [false]) (Ay (decide ((↑(ByteArray.size Z):Int)>63)) (Bg [false]) (Ek fu call Z fu Z ((↑(ByteArray.size Z):Int)) 0))) (Ac (CP p) prog fu d):=by kernel_rfl
def Jm(Z:ByteArray)(Y X W:Nat)(V U:Int)(T:Ae):Option A4:=K0 fu call 143 Tryz.f143 [Z] [.r,.r,.r,.l,.r,.l] Y ⟨lk [(3,.view 3 1 0 X),(11,.view 3 1 0 W),(12,V),(13,U)],Fx [(3,.ar false T)]⟩
theorem Rj(U:ByteArray)(T Y W:Nat)(V Z:Int)(X:Ae):Jm fu call U (T+1) Y W V Z X=(Ay (decide (Z<V)) (Ar (decide (0<=Z)&&decide (Z<(↑W:Int)))<|Bu (X.getD (0+Z.toNat*1) .top) fun a=>Dv (call 167 [a]) fun a b=>Bm a fun a=>Ao b<|Ay (!a) (Bg [(2:Int)]) (Aa (wrap .i64 (Z+1)) fun a=>Jm fu call U T Y W V a X)) (Aa (wrap .i64 ((↑Y:Int)-1)) fun a=>Ar (decide (0<=a)&&decide (a<(↑Y:Int)))<|Bu (X.getD (0+a.toNat*1) .top) fun a=>Dv (call 168 [a,Bk ⟨#[48,49,50,51,52,53,54,55,56,57]⟩]) fun a b=>Bu a fun a=>Ao b<|Ay (Array.toList (ByteArray.data a)==Array.toList (ByteArray.data (ByteArray.mk #[]))) (Bg [(2:Int)]) (Bg [(0:Int)]))):=by kernel_rfl
theorem MM{p:FuncId->Option (Ae->Option A4)}(fu d:Nat)(Z:ByteArray):Ac (CP p) prog fu (d+1) 143 [Z]=(fun (call:Aq)=>Ay (decide ((↑(ByteArray.size Z):Int)>100)) (Bg [(8:Int)]) (Dv (call 166 [Z,Bk ⟨#[46]⟩]) fun a b=>Lg 1 a fun a c=>Ao b<|Jm fu call Z fu a a (↑a:Int) 0 c)) (Ac (CP p) prog fu d):=by kernel_rfl
theorem Y5{p:FuncId->Option (Ae->Option A4)}(fu d:Nat)(Z:Bool):Ac (CP p) prog fu (d+1) 144 [Z]=(fun (call:Aq)=>Ay Z (Bg [(443:Int)]) (Bg [(80:Int)])) (Ac (CP p) prog fu d):=by kernel_rfl
def G8(Z:ByteArray)(Y:Nat)(X:ByteArray)(W V U:Int):Option A4:=K0 fu call 145 Tryz.f145 [Z] [.r,.r,.r,.l,.r,.l] Y ⟨lk [(0,X),(4,W),(21,V),(22,U)],Fx []⟩
theorem Nd(V:ByteArray)(U:Nat)(X:ByteArray)(Y W Z:Int):G8 fu call V (U+1) X Y W Z=(Ay (decide (Z<W)) (Ar (decide (0<=Z))<|Dj ((Array.toList (ByteArray.data X))[Z.toNat]?) fun a=>Ay (decide ((↑(UInt8.toNat a):Int)<48)) (Bg [(0:Int),false]) (Ay (decide ((↑(UInt8.toNat a):Int)>57)) (Bg [(0:Int),false]) (Aa (wrap .i64 (10*Y)) fun b=>Aa (wrap .u8 ((↑(UInt8.toNat a):Int)-48)) fun a=>Aa (wrap .i64 a) fun a=>Aa (wrap .i64 (b+a)) fun a=>Aa (wrap .i64 (Z+1)) fun b=>G8 fu call V U X a W b))) (Bg [Y,Cz (decide (Y<=65535))])):=by kernel_rfl
theorem DQ{p:FuncId->Option (Ae->Option A4)}(fu d:Nat)(Z:ByteArray):Ac (CP p) prog fu (d+1) 145 [Z]=(fun (call:Aq)=>(fun b:Option A4=>Ay (decide ((↑(ByteArray.size Z):Int)<1)) b (Ay (decide ((↑(ByteArray.size Z):Int)>5)) b (Dj ((Array.toList (ByteArray.data Z))[0]?) fun a=>Ay ((↑(UInt8.toNat a):Int)==48) b (G8 fu call Z fu Z 0 ((↑(ByteArray.size Z):Int)) 0)))) (Bg [(0:Int),false])) (Ac (CP p) prog fu d):=by kernel_rfl
theorem PT{p:FuncId->Option (Ae->Option A4)}(fu d:Nat)(Z:ByteArray):Ac (CP p) prog fu (d+1) 122 [Z]=(fun (call:Aq)=>Dv (call 141 [Z,Bk ⟨#[104,116,116,112,115,58,47,47]⟩]) fun a b=>Bu a fun a=>Q6 b fun b=>(fun h:PV=>(fun g:Option A4=>Ay (!b) (Dv (call 141 [Z,Bk ⟨#[104,116,116,112,58,47,47]⟩]) fun a c=>Bu a fun a=>Q6 c fun c=>Ay (!c) g (Dv (call 142 [a,Bk ⟨#[58]⟩]) fun a c=>Bu a fun a=>Ai c fun c e=>Bu c fun c=>Q6 e fun e=>Ge .i64 (call 143 [a]) fun f=>Ay (f != 0) (Bg [h,f]) (Ge .i64 (call 144 [b]) fun f=>Ay e (Dv (call 145 [c]) fun c e=>Ba .i64 c fun c=>Q6 e fun e=>Ay (!e) g (Ay (c==f) g (Bg [.agg [b,a,c],(0:Int)]))) (Bg [.agg [b,a,f],(0:Int)])))) (Dv (call 142 [a,Bk ⟨#[58]⟩]) fun a c=>Bu a fun a=>Ai c fun c e=>Bu c fun c=>Q6 e fun e=>Ge .i64 (call 143 [a]) fun f=>Ay (f != 0) (Bg [h,f]) (Ge .i64 (call 144 [b]) fun f=>Ay e (Dv (call 145 [c]) fun c e=>Ba .i64 c fun c=>Q6 e fun e=>Ay (!e) g (Ay (c==f) g (Bg [.agg [b,a,c],(0:Int)]))) (Bg [.agg [b,a,f],(0:Int)])))) (Bg [h,(2:Int)])) (.agg [false,Bk ⟨#[]⟩,(0:Int)])) (Ac (CP p) prog fu d):=by kernel_rfl
def C7(Z:ByteArray)(Y:Nat)(X:ByteArray)(W:Nat)(V:Ae):Option A4:=K0 fu call 121 Tryz.f121 [Z] [.r,.r,.r,.l,.l] Y ⟨lk [(0,X),(4,.view 4 1 0 W)],Fx [(4,.ar false V)]⟩
def C4(Z:ByteArray)(Y X:Nat)(W:ByteArray)(V:Nat)(U T:Int)(S Q:Int)(P:Ae):Option A4:=K0 fu call 121 Tryz.f121 [Z] [.r,.r,.r,.l,.l,.i Y,.r,.l,.r,.r,.l,.r,.l] X ⟨lk [(0,W),(4,.view 4 1 0 V),(5,U),(6,.sc (.int .u32 T)),(28,S),(29,Q)],Fx [(4,.ar false P)]⟩
def C5(Z:ByteArray)(Y X:Nat)(W:ByteArray)(V:Nat)(U:Int)(T S:Nat)(Q P:Int)(O N:Ae):Option A4:=K0 fu call 121 Tryz.f121 [Z] [.r,.r,.r,.l,.l,.i Y,.r,.l,.r,.r,.r,.r,.l,.r,.l] X ⟨lk [(0,W),(4,.view 4 1 0 V),(5,U),(9,.ptr 9 0),(58,.view 9 1 T S),(59,Q),(60,P)],Fx [(4,.ar false O),(9,.ar false N)]⟩
theorem I8(W:ByteArray)(V:Nat)(Z:ByteArray)(Y:Nat)(X:Ae):C7 fu call W (V+1) Z Y X=(Ay (decide ((↑(ByteArray.size Z):Int)>0)) (Aa (if (↑(ByteArray.size Z):Int)<4 then (↑(ByteArray.size Z):Int) else 4) fun a=>C4 fu call W V fu Z Y a 0 a 0 X) (Ar (decide (Y*1<=X.length))<|Bg [.own 1 Y (X.take (Y*1)),(0:Int)])):=by kernel_rfl
theorem Iz(V:ByteArray)(U P:Nat)(X:ByteArray)(T:Nat)(W Y:Int)(S Z:Int)(Q:Ae):C4 fu call V U (P+1) X T W Y S Z Q=(Ay (decide (Z<S)) (Ar (decide (0<=Z))<|Dj ((Array.toList (ByteArray.data X))[Z.toNat]?) fun a=>Ge .i64 (call 137 [Bk ⟨#[65,66,67,68,69,70,71,72,73,74,75,76,77,78,79,80,81,82,83,84,85,86,87,88,89,90,97,98,99,100,101,102,103,104,105,106,107,108,109,110,111,112,113,114,115,116,117,118,119,120,121,122,48,49,50,51,52,53,54,55,56,57,45,95]⟩,.sc (.int .u8 (↑(UInt8.toNat a):Int))]) fun a=>Ay (decide (a<0)) (Bg [.own 1 0 [],(2:Int)]) (Aa (wrap .u32 a) fun a=>Aa (wrap .i64 (6*Z)) fun b=>Aa (wrap .i64 (18-b)) fun b=>Ar (decide (0<=b))<|Aa (Fp .u32 a b) fun a=>Aa (DU .u32 Y a) fun a=>Aa (wrap .i64 (Z+1)) fun b=>C4 fu call V U P X T W a S b Q)) (Aa (Gw .u32 Y 16) fun a=>Aa (wrap .u8 a) fun a=>Aa (Gw .u32 Y 8) fun b=>Aa (wrap .u8 b) fun b=>Aa (wrap .u8 Y) fun c=>Aa (wrap .i64 (W-1)) fun e=>Ar (decide (0<=e))<|Ar (decide (e.toNat<=3)&&true)<|Aa (0+e.toNat*1) fun f=>Aa (3-e.toNat) fun e=>C5 fu call V U fu X T W f e (↑e:Int) 0 Q ([.sc (.int .u8 a),.sc (.int .u8 b),.sc (.int .u8 c)]))):=by kernel_rfl
theorem I3(T:ByteArray)(S N:Nat)(Z:ByteArray)(Y:Nat)(W:Int)(Q P:Nat)(O V:Int)(U X:Ae):C5 fu call T S (N+1) Z Y W Q P O V U X=(Ay (decide (V<O)) (Ar (decide (0<=V)&&decide (V<(↑P:Int)))<|Ba .u8 (X.getD (Q+V.toNat*1) .top) fun a=>Ay (a != 0) (Bg [.own 1 0 [],(2:Int)]) (Aa (wrap .i64 (V+1)) fun a=>C5 fu call T S N Z Y W Q P O a U X)) (Aa (wrap .i64 (W-1)) fun a=>Ar (decide (3<=X.length)&&true)<|Ar (decide (0<=a))<|Ar (decide (a.toNat<=3))<|Aa (a.toNat-0) fun a=>Ar (decide (0+a*1<=X.length))<|Ar (decide (Y*1<=U.length)&&decide (List.length (List.take (a*1) (X.drop 0))=a*1)&&decide ((Y+a)*1<=1099511627776)&&decide (Y+a<=1099511627776))<|Aa (Y+a) fun b=>Aa (List.take (Y*1) U++List.take (a*1) (X.drop 0)) fun a=>Ar (decide (0<=W))<|Ar (decide (W.toNat<=ByteArray.size Z)&&decide (ByteArray.size Z<=ByteArray.size Z))<|Aa (ByteArray.extract Z W.toNat (ByteArray.size Z)) fun c=>C7 fu call T S c b a)):=by kernel_rfl
theorem Uk{p:FuncId->Option (Ae->Option A4)}(fu d:Nat)(Z:ByteArray):Ac (CP p) prog fu (d+1) 121 [Z]=(fun (call:Aq)=>Aa (Int.tmod (↑(ByteArray.size Z):Int) 4) fun a=>Ay (a==1) (Bg [.own 1 0 [],(2:Int)]) (Aa (wrap .i64 (Int.tdiv (↑(ByteArray.size Z):Int) 4)) fun a=>Aa (wrap .i64 (a*3)) fun a=>Aa (wrap .i64 (a+2)) fun a=>Ar (decide (0<=a)&&decide (a*1<=1099511627776)&&decide (a<=1099511627776))<|C7 fu call Z fu Z 0 ([]))) (Ac (CP p) prog fu d):=by kernel_rfl
end
theorem Asf{a b:Int}(ha:0<=a/\a<=255)(hb:0<=b/\b<=255):(a.toNat.toUInt8==b.toNat.toUInt8)=decide (a=b):=by
 rw[Bool.eq_iff_iff,beq_iff_eq,decide_eq_true_iff];constructor
 ·intro h;have:=congrArg UInt8.toNat h;have e1:a.toNat.toUInt8.toNat=a.toNat % 256:=by rw[Nat.toUInt8,UInt8.toNat_ofNat']
  have e2:b.toNat.toUInt8.toNat=b.toNat % 256:=by rw[Nat.toUInt8,UInt8.toNat_ofNat']
  rw[e1,e2] at this;omega
 ·rintro rfl;rfl
theorem Ny{c:Int}(hc:0<=c/\c<=255):((c.toNat.toUInt8.toNat:Nat):Int)=c:=by rw[Nat.toUInt8,UInt8.toNat_ofNat'];omega
theorem Ade{c x:Int}(r:Aj)(e:x≠c):Bp c (x::r)=x::Bp c r:=by unfold Bp;rw[List.takeWhile_cons_of_pos (by simp[e])]
theorem Aba{c:Int}(r:Aj):Bp c (c::r)=[]:=by unfold Bp;rw[List.takeWhile_cons_of_neg (by simp)]
theorem Sc(c:Int)(l:Aj):Bp c l=l.take (Bp c l).length:=by have h:Bp c l <+: l:=List.takeWhile_prefix _;exact List.prefix_iff_eq_take.1 h
theorem NQ(c:Int)(l:Aj):(Bp c l).length<=l.length:=by have h:Bp c l <+: l:=List.takeWhile_prefix _;exact h.length_le
theorem Aks(c:Int)(l:Aj)(h:¬(Bp c l).length<l.length):Bp c l=l:=by have:=NQ c l;rw[Sc c l,H5 (by omega)]
def JW(c:Int)(l:Aj):Int:=if (Bp c l).length<l.length then ((Bp c l).length:Int) else -1
theorem Ai2{c:Int}(hc:0<=c/\c<=255):∀{l:Aj},Cm l->Lib.indexByte (l.map fun n=>n.toNat.toUInt8) c.toNat.toUInt8=JW c l
 |[],_=>rfl
 |x::r,h=>by
  obtain⟨hx,hr⟩:=Ds h;have ih:=Ai2 hc hr;show (if (x.toNat.toUInt8==c.toNat.toUInt8)=true then (0:Int) else if (Lib.indexByte (r.map fun n=>n.toNat.toUInt8) c.toNat.toUInt8 == -1)=true then -1 else Lib.indexByte (r.map fun n=>n.toNat.toUInt8) c.toNat.toUInt8+1)=_;rw[Asf hx hc,ih];by_cases e:x=c
  ·subst e;unfold JW;rw[Aba];simp
  ·unfold JW;rw[Ade r e];simp only[Yd,e,if_false,Po];by_cases g:(Bp c r).length<r.length
   ·simp only[Cx g,Cx (show (Bp c r).length+1<r.length+1 by omega)];rw[Br (show ¬(((((Bp c r).length:Int)) == -1)=true) by rw[beq_iff_eq];omega)]
    omega
   ·simp only[Br g,Br (show ¬(Bp c r).length+1<r.length+1 by omega)];rfl
theorem UH{c:Int}(hc:0<=c/\c<=255):∀{l:Aj},Cm l->(l.map fun n=>n.toNat.toUInt8).count c.toNat.toUInt8+1=(Az c l).length
 |[],_=>rfl
 |x::r,h=>by
  obtain⟨hx,hr⟩:=Ds h;have ih:=UH hc hr;rw[Vv,List.count_cons,Asf hx hc];unfold Az;by_cases e:x=c
  ·rw[Cx e,Cx (by simp[e]),Po,<-ih]
  ·rw[Br e,Br (by simp[e])];cases hs:Az c r with
   |nil=>exact absurd hs (Q1 c r)
   |cons a t=>
    rw[hs] at ih
    simpa using ih
theorem AG(c:Int):∀(l:Aj),(Az c l).length<=l.length+1
 |[]=>Cs _
 |x::r=>by
  have ih:=AG c r;unfold Az;split
  ·simp;omega
  ·cases hs:Az c r with
   |nil=>simp
   |cons a t=>rw[hs] at ih;simp at ih ⊢;omega
theorem VS(c:Int)(l:Aj):1<=(Az c l).length:=by
 have:=Q1 c l;cases hs:Az c l with
 |nil=>exact absurd hs this
 |cons a t=>simp
theorem Aj6{a:Ae}{n:Nat}{x y:PV}{r:Ae}(h:a.length=n):(a++x::r).set n y=a++y::r:=by
 subst h
 induction a with
 |nil=>rfl
 |cons z a ih=>simp[ih]
theorem dle(n:Nat):decide (n<=n)=true:=by simp
section
variable {fu d:Nat}{p:FuncId->Option (Ae->Option A4)}
theorem Ak6{c:Int}(hc:0<=c/\c<=255){l:Aj}(hl:Cm l):Ac (CP p) prog fu (d+2) 184 [Bk (Ab l),Bk (Ab [c])]=some ⟨[Aw (JW c l)],[]⟩:=by
 have e:Ac (CP p) prog fu (d+1) 155 [Bk (Ab l),.sc (.int .u8 c)]=some ⟨[Aw (Lib.indexByte (Ab l).data.toList c.toNat.toUInt8)],[]⟩:=rfl;have e0:(Ab l).data.toList=l.map fun n=>n.toNat.toUInt8:=rfl;rw[e0,Ai2 hc hl] at e;have h0:((((Ab [c]).size:Nat):Int)==0)=false:=by rw[Ag];rfl
 have h1:((((Ab [c]).size:Nat):Int)==1)=true:=by rw[Ag];rfl
 have h2:(Array.toList (Ab [c]).data)[0]?=some c.toNat.toUInt8:=rfl;have h3:=Ny hc;rw[BP];by_cases g:[c]=l
 ·subst g;have h4:(Array.toList (Ab [c]).data==Array.toList (Ab [c]).data)=true:=by simp
  have h5:JW c [c]=0:=by unfold JW;rw[Aba];rfl
  simp only[A5,A6,h0,h4,h5]
 ·have h4:(Array.toList (Ab [c]).data==Array.toList (Ab l).data)=false:=by
   rw[Bool.eq_false_iff,ne_eq,beq_iff_eq];intro q;apply g
   have q2:Ab [c]=Ab l:=by
    cases hx:Ab [c];cases hy:Ab l;rw[hx,hy] at q;exact congrArg ByteArray.mk (Array.toList_inj.1 q)
   have q3:=congrArg B0 q2
   rwa [Dd hl,Dd (fun x hx=>by simp at hx;omega)] at q3
  simp only[A5,A6,h0,h4,h1,h2,h3,e]
theorem Asd{c:Int}(hc:0<=c/\c<=255){l:Aj}(hl:Cm l):Ac (CP p) prog fu (d+3) 210 [Bk (Ab l),Bk (Ab [c])]=some ⟨[Aw (JW c l)],[]⟩:=by have e:Ac (CP p) prog fu (d+2) 184 [Bk (Ab l),Bk (Ab [c])]=_:=Ak6 (fu:=fu) (d:=d) (p:=p) hc hl;rw[NA];simp only[A5,A6,e]
theorem U6{l:Aj}(hl:Cm l)(n:Nat):(Ab l).extract 0 n=Ab (l.take n):=by rw[FM,Dd hl]
theorem Wf{l:Aj}(hl:Cm l)(n:Nat):(Ab l).extract n l.length=Ab (l.drop n):=by
 have:=KS (s:=Ab l) (a:=n)
 rwa [Ag,Dd hl] at this
theorem Ban{c:Int}(hc:0<=c/\c<=255){l:Aj}(hl:Cm l)(hs:l.length<=1000000):Ac (CP p) prog fu (d+4) 142 [Bk (Ab l),Bk (Ab [c])]=some ⟨[Bk (Ab (Bp c l)),Bk (Ab (l.drop ((Bp c l).length+1))),Cz (decide ((Bp c l).length<l.length))],[]⟩:=by
 have e:Ac (CP p) prog fu (d+2) 184 [Bk (Ab l),Bk (Ab [c])]=_:=Ak6 (fu:=fu) (d:=d) (p:=p) hc hl
 have e2:Ac (CP p) prog fu (d+3) 165 [Bk (Ab l),Bk (Ab [c])]=some ⟨[Bk (Ab (Bp c l)),Bk (Ab (l.drop ((Bp c l).length+1))),Cz (decide ((Bp c l).length<l.length))],[]⟩:=by
  refine (HE (p:=p) fu (d+2) _ _).trans ?_;by_cases g:(Bp c l).length<l.length
  ·have hi:JW c l=(Bp c l).length:=by unfold JW;rw[Cx g]
   rw[hi] at e;have a1:decide (((Bp c l).length:Int)>=0)=true:=by simp
   have a2:decide ((0:Int)<=((Bp c l).length:Int))=true:=by simp
   have a3:decide (Int.toNat ((Bp c l).length:Int)<=l.length)=true:=by simp;omega
   have a4:(Ab l).extract 0 (Int.toNat ((Bp c l).length:Int))=Ab (Bp c l):=by
    rw[Jp,U6 hl,<-Sc]
   have a5:wrap .i64 (((Bp c l).length:Int)+(([c].length:Nat):Int))=(((Bp c l).length+1:Nat):Int):=by
    rw[F8 (by simp;omega) (by simp;omega)];simp
   have a6:decide ((0:Int)<=(((Bp c l).length+1:Nat):Int))=true:=by simp;omega
   have a7:decide (Int.toNat (((Bp c l).length+1:Nat):Int)<=l.length)=true:=by simp;omega
   have a8:(Ab l).extract (Int.toNat (((Bp c l).length+1:Nat):Int)) l.length=Ab (l.drop ((Bp c l).length+1)):=by
    rw[Jp,Wf hl]
   have a9:decide ((Bp c l).length<l.length)=true:=by simpa using g
   simp only[A5,A6,e,Ag,dle,a1,a2,a3,a4,a5,a6,a7,a8,a9]
  ·have hi:JW c l = -1:=by unfold JW;rw[Br g]
   rw[hi] at e;have a1:decide ((-1:Int)>=0)=false:=rfl;have a9:decide ((Bp c l).length<l.length)=false:=by simpa using g
   have a10:l.drop ((Bp c l).length+1)=[]:=List.drop_eq_nil_of_le (by omega);have a11:(ByteArray.mk #[])=Ab []:=rfl;rw[a9,a10,Aks c l g];simp only[A5,A6,e,a1,a11]
 rw[UE];simp only[A5,A6,e2]
theorem A0s{l w:Aj}(hl:Cm l)(hw:Cm w):Ac (CP p) prog fu (d+4) 141 [Bk (Ab l),Bk (Ab w)]=some ⟨[Bk (Ab (if w.isPrefixOf l=true then l.drop w.length else l)),Cz (w.isPrefixOf l)],[]⟩:=by
 have e:Ac (CP p) prog fu (d+2) 179 [Bk (Ab l),Bk (Ab w)]=some ⟨[Cz (w.isPrefixOf l)],[]⟩:=A0k (xs:=UD p) (fu:=fu) (d:=d+1) hl hw
 have e2:Ac (CP p) prog fu (d+3) 164 [Bk (Ab l),Bk (Ab w)]=some ⟨[Bk (Ab (if w.isPrefixOf l=true then l.drop w.length else l)),Cz (w.isPrefixOf l)],[]⟩:=by
  refine (Vi (p:=p) fu (d+2) _ _).trans ?_;cases hp:w.isPrefixOf l
  ·rw[hp] at e;simp only[A5,A6,e,Kd,Bool.false_eq_true,if_false]
  ·rw[hp] at e;have ET:w.length<=l.length:=(List.isPrefixOf_iff_prefix.1 hp).length_le;have a1:decide (Int.toNat ((w.length:Nat):Int)<=l.length)=true:=by simp;omega
   have a2:(Ab l).extract (Int.toNat ((w.length:Nat):Int)) l.length=Ab (l.drop w.length):=by rw[Jp,Wf hl]
   simp only[A5,A6,e,Ag,dle,a1,a2,G9,if_true]
 rw[BM];simp only[A5,A6,e2]
def Wx(x:Aj):PV:=Bk (Ab x)
theorem Aia{c:Int}(hc:0<=c/\c<=255){a0 a1:ByteArray}{a2 a3:Int}{N:Nat}(hN:N<=1000000):∀(nn:Nat)(r:Aj)(done:List Aj),r.length+1<=nn->r.length<=1000000->Cm r->done.length+(Az c r).length=N ->
  Fv fu (Ac (CP p) prog fu (d+3)) a0 a1 a2 a3 nn (Ab r) (Ab [c]) 0 ((N:Int)-1) N (done.length:Int) (done.map Wx++List.replicate (Az c r).length (Bk ⟨#[]⟩))=some ⟨[.own 1 N ((done++Az c r).map Wx)],[]⟩:=by
 intro nn
 induction nn with
 |zero=>intro r done h;omega
 |succ k ih=>
  intro r done hk hr6 hr hn;have e:Ac (CP p) prog fu (d+3) 210 [Bk (Ab r),Bk (Ab [c])]=_:=Asd (fu:=fu) (d:=d) (p:=p) hc hr;rw[Xl];have Hr:=LC c r;by_cases g:(Bp c r).length<r.length
  ·rw[Cx g] at Hr;have hi:JW c r=(Bp c r).length:=by unfold JW;rw[Cx g]
   rw[hi] at e;have hp:=VS c (r.drop ((Bp c r).length+1));have Ww:(Az c r).length=(Az c (r.drop ((Bp c r).length+1))).length+1:=by rw[Hr];simp
   have a0:decide ((done.length:Int)<(N:Int)-1)=true:=by simp;omega
   have a1:decide (((Bp c r).length:Int)<0)=false:=by simp
   have a2:wrap .i64 (((Bp c r).length:Int)+0)=((Bp c r).length:Int):=Bq
   have a3:decide ((0:Int)<=((Bp c r).length:Int))=true:=by simp
   have a4:decide (Int.toNat ((Bp c r).length:Int)<=r.length)=true:=by simp;omega
   have a5:(Ab r).extract 0 (Int.toNat ((Bp c r).length:Int))=Ab (Bp c r):=by rw[Jp,U6 hr,<-Sc]
   have a6:(decide ((0:Int)<=(done.length:Int))&&decide ((done.length:Int)<(N:Int)))=true:=by simp;omega
   have a7:decide (0+Int.toNat (done.length:Int)*1+1<=List.length (done.map Wx++List.replicate (Az c r).length (PV.sc (.string ⟨#[]⟩))))=true:=by simp;omega
   have a8:B5 (done.map Wx++List.replicate (Az c r).length (PV.sc (.string ⟨#[]⟩))) [PV.sc (.string (Ab (Bp c r)))] (0+Int.toNat (done.length:Int)*1)=(done++[Bp c r]).map Wx++List.replicate (Az c (r.drop ((Bp c r).length+1))).length (PV.sc (.string ⟨#[]⟩)):=by
    rw[Le (by simp;omega),Ww,List.replicate_succ,Jp,Ip,Kb,Aj6 (by simp)]
    simp[Wx]
   have a9:wrap .i64 (((Bp c r).length:Int)+(([c].length:Nat):Int))=(((Bp c r).length+1:Nat):Int):=by
    rw[F8 (by simp;omega) (by simp;omega)];simp
   have b1:decide ((0:Int)<=(((Bp c r).length+1:Nat):Int))=true:=by simp;omega
   have b2:decide (Int.toNat (((Bp c r).length+1:Nat):Int)<=r.length)=true:=by simp;omega
   have b3:(Ab r).extract (Int.toNat (((Bp c r).length+1:Nat):Int)) r.length=Ab (r.drop ((Bp c r).length+1)):=by rw[Jp,Wf hr]
   have b4:wrap .i64 ((done.length:Int)+1)=(((done++[Bp c r]).length:Nat):Int):=by
    rw[Bb];simp
   have hd:=ih (r.drop ((Bp c r).length+1)) (done++[Bp c r]) (by simp;omega) (by simp;omega) ((fun x hx=>hr x (List.mem_of_mem_drop hx))) (by simp;omega)
   simp only[A5,A6,e,Ag,dle,a0,a1,a2,a3,a4,a5,a6,a7,a8,a9,b1,b2,b3,b4];rw[hd,Hr];simp
  ·rw[Br g] at Hr;have Ww:(Az c r).length=1:=by rw[Hr];rfl
   have a0:decide ((done.length:Int)<(N:Int)-1)=false:=by simp;omega
   have a6:(decide ((0:Int)<=(done.length:Int))&&decide ((done.length:Int)<(N:Int)))=true:=by simp;omega
   have a7:decide (0+Int.toNat (done.length:Int)*1+1<=List.length (done.map Wx++List.replicate (Az c r).length (PV.sc (.string ⟨#[]⟩))))=true:=by simp;omega
   have a8:B5 (done.map Wx++List.replicate (Az c r).length (PV.sc (.string ⟨#[]⟩))) [PV.sc (.string (Ab r))] (0+Int.toNat (done.length:Int)*1)=(done++[r]).map Wx:=by
    rw[Le (by simp;omega),Ww,show List.replicate 1 (PV.sc (Value.string ⟨#[]⟩))=[PV.sc (.string ⟨#[]⟩)] from rfl,Jp,Ip,Kb,Aj6 (by simp)]
    simp[Wx]
   have b4:wrap .i64 ((done.length:Int)+1)=(N:Int):=by
    rw[Bb];omega
   have b5:decide ((0:Int)<=(N:Int))=true:=by simp
   have b6:decide (Int.toNat (N:Int)<=N)=true:=by simp
   have b7:Int.toNat (N:Int)-0=N:=by simp
   have b8:decide (N*1<=List.length ((done++[r]).map Wx))=true:=by simp;omega
   have b9:List.take (N*1) ((done++[r]).map Wx)=(done++[r]).map Wx:=H5 (by simp;omega)
   simp only[A5,A6,a0,a6,a7,a8,b4,b5,b6,b7,b8,b9];rw[Hr]
theorem Aw1{c:Int}(hc:0<=c/\c<=255){l:Aj}(hl:Cm l)(hs:l.length<=999999)(Bi:l.length+1<=fu):Ac (CP p) prog fu (d+5) 166 [Bk (Ab l),Bk (Ab [c])]=some ⟨[.own 1 (Az c l).length ((Az c l).map Wx)],[]⟩:=by
 have e:Ac (CP p) prog fu (d+4) 185 [Bk (Ab l),Bk (Ab [c]),Aw 0,Aw (-1)]=some ⟨[.own 1 (Az c l).length ((Az c l).map Wx)],[]⟩:=by
  refine (DD (p:=p) fu (d+3) _ _ _ _).trans ?_;have hn:=AG c l;have hp:=VS c l;have hcn:=UH hc hl
  have e1:Ac (CP p) prog fu (d+3) 209 [Bk (Ab l),Bk (Ab [c])]=some ⟨[Aw (((Az c l).length:Int)-1)],[]⟩:=by
   have:Ac (CP p) prog fu (d+3) 209 [Bk (Ab l),Bk (Ab [c])]=some ⟨[Aw (Lib.countByte (Ab l).data.toList c.toNat.toUInt8)],[]⟩:=rfl;rw[this]
   have e0:(Lib.countByte (Ab l).data.toList c.toNat.toUInt8:Int)=((Az c l).length:Int)-1:=by
    have:Lib.countByte (Ab l).data.toList c.toNat.toUInt8+1=(Az c l).length:=hcn;omega
   rw[e0]
  have a1:(((-1:Int))==0)=false:=rfl;have a2:(Array.toList (Ab [c]).data==Array.toList (ByteArray.mk #[]).data)=false:=rfl;have a3:decide ((-1:Int)<0)=true:=rfl;have a4:wrap .i64 (((Az c l).length:Int)-1+1)=(Az c l).length:=Bq
  have a5:wrap .i64 ((l.length:Int)+1)=l.length+1:=by rw[Bb]
  have a6:(if ((l.length:Int)+1)<((Az c l).length:Int) then ((l.length:Int)+1) else ((Az c l).length:Int))=(Az c l).length:=by rw[Br (by omega)]
  have a7:decide ((0:Int)<=((Az c l).length:Int))=true:=by simp
  have b7:decide (((Az c l).length:Int)<=((Az c l).length:Int))=true:=by simp
  have c7:decide (((Az c l).length:Int)*16<=1099511627776)=true:=by simp;omega
  have d7:decide (((Az c l).length:Int)<=1099511627776)=true:=by simp;omega
  have a8:wrap .i64 (((Az c l).length:Int)-1)=((Az c l).length:Int)-1:=Bb
  have a9:Si (Az c l).length [PV.sc (.string ⟨#[]⟩)]=List.replicate (Az c l).length (PV.sc (.string ⟨#[]⟩)):=by
   unfold Si
   induction (Az c l).length with
   |zero=>rfl
   |succ k ih=>rw[List.replicate_succ,List.flatten_cons,ih];rfl
  have a10:Int.toNat ((Az c l).length:Int)=(Az c l).length:=Jp _;have hd:=Aia (fu:=fu) (d:=d) (p:=p) hc (a0:=Ab l) (a1:=Ab [c]) (a2:=0) (a3:= -1) (N:=(Az c l).length) (by omega) fu l [] Bi (by omega) hl (by simp);simp only[A5,A6,e1,Ag,dle,a1,a2,a3,a4,a5,a6,a7,b7,c7,d7,a8,a9,a10];exact hd
 have b1:decide ((Az c l).length*1<=List.length ((Az c l).map Wx))=true:=by simp
 have b2:List.take ((Az c l).length*1) ((Az c l).map Wx)=(Az c l).map Wx:=H5 (by simp);rw[MK];simp only[A5,A6,e,b1,b2]
end
theorem Aap:∀n:Fin 256,Lib.indexByte Aal.data.toList (n.val:Int).toNat.toUInt8=if Cd (n.val:Int)<64 then Cd (n.val:Int) else -1:=by decide +kernel
theorem Aqp{c:Int}(hc:0<=c/\c<=255):Lib.indexByte Aal.data.toList c.toNat.toUInt8=if Cd c<64 then Cd c else -1:=by obtain⟨n,rfl⟩:=Int.eq_ofNat_of_zero_le hc.1;exact Aap ⟨n,by omega⟩
theorem A6f{y v:Int}(k:Nat)(hk:k<=18)(h0:0<=y)(hm:y % ((2 ^ (k+6):Nat):Int)=0)(hy:y<16777216)(hv0:0<=v)(hv:v<64):DU .u32 y (Fp .u32 (wrap .u32 v) (k:Int))=y+v*((2 ^ k:Nat):Int):=by
 obtain⟨y,rfl⟩:=Int.eq_ofNat_of_zero_le h0;obtain⟨v,rfl⟩:=Int.eq_ofNat_of_zero_le hv0
 have e1:wrap .u32 (v:Int)=v:=by
  simp only[wrap,IntKind.bits,IntKind.signed,SU,Bool.false_eq_true,if_false];omega
 have Bjw:2 ^ k<=2 ^ 18:=Nat.pow_le_pow_right (by omega) hk
 have hvk:v*2 ^ k<2 ^ k*64:=by
  rw[Nat.mul_comm];exact Nat.mul_lt_mul_of_pos_left (by omega) (Nat.pos_of_ne_zero (by simp))
 have e2:Fp .u32 (v:Int) (k:Int)=((v*2 ^ k:Nat):Int):=by
  show wrap .u32 ((v:Int)*2 ^ (min (k:Int).toNat IntKind.u32.bits))=_
  have:min (k:Int).toNat IntKind.u32.bits=k:=by
   rw[Jp];exact Nat.min_eq_left (by show k<=32;omega)
  rw[this];have:(v:Int)*2 ^ k=((v*2 ^ k:Nat):Int):=by simp
  rw[this];simp only[wrap,IntKind.bits,IntKind.signed,SU,Bool.false_eq_true,if_false];omega
 rw[e1,e2];have e3:=Bfn y (v*2 ^ k) (by omega) (by omega);refine e3.trans ?_
 have hd:y=y / 2 ^ (k+6)*2 ^ (k+6):=by
  have:y % 2 ^ (k+6)=0:=by exact_mod_cast hm
  have:=Nat.div_add_mod y (2 ^ (k+6));rw[Nat.mul_comm] at this;omega
 have Cq:v*2 ^ k<2 ^ (k+6):=by rw[Nat.pow_add];exact hvk
 have:=Nat.shiftLeft_add_eq_or_of_lt Cq (y / 2 ^ (k+6));rw[Nat.shiftLeft_eq,<-hd] at this;rw[<-this];simp
section
variable {fu d:Nat}{p:FuncId->Option (Ae->Option A4)}
theorem A2x{c:Int}(hc:0<=c/\c<=255):Ac (CP p) prog fu (d+2) 137 [Bk Aal,.sc (.int .u8 c)]=some ⟨[Aw (if Cd c<64 then Cd c else -1)],[]⟩:=by have e:Ac (CP p) prog fu (d+1) 155 [Bk Aal,.sc (.int .u8 c)]=some ⟨[Aw (Lib.indexByte Aal.data.toList c.toNat.toUInt8)],[]⟩:=rfl;rw[Aqp hc] at e;refine (Qj (p:=p) fu (d+1) _ _).trans ?_;simp only[A5,A6,e]
theorem Qr{a0:ByteArray}{m0 nn:Nat}{l:Aj}{y1:Nat}{y6:Ae}{i n:Nat}{y3 c:Int}(HX:i<n)(hn:n<=4)(hl:Cm l)(hc:l[i]?=some c)(h0:0<=y3)(hm:y3 % ((2 ^ (24-6*i):Nat):Int)=0)(hy:y3<16777216):
  C4 fu (Ac (CP p) prog fu (d+2)) a0 m0 (nn+1) (Ab l) y1 (n:Int) y3 (n:Int) (i:Int) y6=if Cd c<64 then C4 fu (Ac (CP p) prog fu (d+2)) a0 m0 nn (Ab l) y1 (n:Int) (y3+Cd c*((2 ^ (18-6*i):Nat):Int)) (n:Int) ((i+1:Nat):Int) y6 else some ⟨[.own 1 0 [],Aw 2],[]⟩:=by
 have ES:=hl c (List.mem_of_getElem? hc);have hv:=Ua c;have e:=A2x (fu:=fu) (d:=d) (p:=p) ES;have a1:decide ((i:Int)<(n:Int))=true:=by simp;omega
 have a2:decide ((0:Int)<=(i:Int))=true:=by simp
 have a3:(Array.toList (Ab l).data)[Int.toNat (i:Int)]?=some c.toNat.toUInt8:=by
  rw[Jp];show (l.map fun n=>n.toNat.toUInt8)[i]?=_;rw[List.getElem?_map,hc];rfl
 have a4:=Ny ES;have ea:(ByteArray.mk #[65,66,67,68,69,70,71,72,73,74,75,76,77,78,79,80,81,82,83,84,85,86,87,88,89,90,97,98,99,100,101,102,103,104,105,106,107,108,109,110,111,112,113,114,115,116,117,118,119,120,121,122,48,49,50,51,52,53,54,55,56,57,45,95])=Aal:=rfl;rw[Iz,ea];by_cases hv6:Cd c<64
 ·rw[Cx hv6] at e;have b1:decide (Cd c<0)=false:=by simp;omega
  have b2:wrap .i64 (6*(i:Int))=6*(i:Int):=Bb;have b3:wrap .i64 (18-6*(i:Int))=((18-6*i:Nat):Int):=Bq
  have b4:decide ((0:Int)<=((18-6*i:Nat):Int))=true:=by simp
  have b5:=A6f (y:=y3) (v:=Cd c) (18-6*i) (by omega) h0 (by rw[show 18-6*i+6=24-6*i by omega];exact hm) hy hv.1 hv6
  have b6:wrap .i64 ((i:Int)+1)=((i+1:Nat):Int):=Bq
  rw[Cx hv6];simp only[A5,A6,a1,a2,a3,a4,e,b1,b2,b3,b4,b5,b6]
 ·rw[Br hv6] at e;have b1:decide ((-1:Int)<0)=true:=rfl;rw[Br hv6];simp only[A5,A6,a1,a2,a3,a4,e,b1]
theorem A76{y:Int}(h0:0<=y)(hy:y<16777216):wrap .u8 (Gw .u32 y 16)=y / 65536 % 256:=by
 show wrap .u8 (y.fdiv (2 ^ (min (16:Int).toNat IntKind.u32.bits)))=_;have:(2:Int) ^ (min (16:Int).toNat IntKind.u32.bits)=65536:=by decide
 rw[this,Int.fdiv_eq_ediv_of_nonneg _ (by omega)];simp only[wrap,IntKind.bits,IntKind.signed,SU,Bool.false_eq_true,if_false];omega
theorem Bct{y:Int}(h0:0<=y)(hy:y<16777216):wrap .u8 (Gw .u32 y 8)=y / 256 % 256:=by
 show wrap .u8 (y.fdiv (2 ^ (min (8:Int).toNat IntKind.u32.bits)))=_;have:(2:Int) ^ (min (8:Int).toNat IntKind.u32.bits)=256:=by decide
 rw[this,Int.fdiv_eq_ediv_of_nonneg _ (by omega)];simp only[wrap,IntKind.bits,IntKind.signed,SU,Bool.false_eq_true,if_false];omega
theorem Bb3{y:Int}(h0:0<=y)(hy:y<16777216):wrap .u8 y=y % 256:=by simp only[wrap,IntKind.bits,IntKind.signed,SU,Bool.false_eq_true,if_false];omega
theorem Aga{a0:ByteArray}{m0 nn:Nat}{s:ByteArray}{y1:Nat}{y6:Ae}{n:Nat}{y3:Int}(hn:2<=n)(hn4:n<=4)(h0:0<=y3)(hy:y3<16777216):
  C4 fu (Ac (CP p) prog fu (d+2)) a0 m0 (nn+1) s y1 (n:Int) y3 (n:Int) (n:Int) y6=C5 fu (Ac (CP p) prog fu (d+2)) a0 m0 fu s y1 (n:Int) (n-1) (4-n) ((4-n:Nat):Int) 0 y6 [.sc (.int .u8 (y3 / 65536 % 256)),.sc (.int .u8 (y3 / 256 % 256)),.sc (.int .u8 (y3 % 256))]:=by
 have a1:decide ((n:Int)<(n:Int))=false:=by simp
 have e1:=A76 h0 hy;have e2:=Bct h0 hy;have e3:=Bb3 h0 hy;have b1:wrap .i64 ((n:Int)-1)=((n-1:Nat):Int):=Bq
 have b2:decide ((0:Int)<=((n-1:Nat):Int))=true:=by simp
 have b3:decide (Int.toNat ((n-1:Nat):Int)<=3)=true:=by simp;omega
 have b4:0+Int.toNat ((n-1:Nat):Int)*1=n-1:=by rw[Jp];omega
 have b5:3-Int.toNat ((n-1:Nat):Int)=4-n:=by rw[Jp];omega
 rw[Iz];simp only[A5,A6,a1,e1,e2,e3,b1,b2,b3,b4,b5]
end
section
variable {fu d:Nat}{p:FuncId->Option (Ae->Option A4)}
abbrev grp(A B C:Int):Ae:=[.sc (.int .u8 A),.sc (.int .u8 B),.sc (.int .u8 C)]
abbrev Bdj:Option A4:=some ⟨[.own 1 0 [],Aw 2],[]⟩
theorem A30{call:Aq}{a0 s:ByteArray}{m0 nn y1:Nat}{n i j:Nat}{y7:Ae}{A B C X:Int}(hij:i<j)(hj:j<=4)(h:List.getD (grp A B C) (n+i) .top=.sc (.int .u8 X)){q:Int}:
  C5 fu call a0 m0 (nn+1) s y1 q n j (j:Int) (i:Int) y7 (grp A B C)=if X=0 then C5 fu call a0 m0 nn s y1 q n j (j:Int) ((i+1:Nat):Int) y7 (grp A B C) else Bdj:=by
 have a1:decide ((i:Int)<(j:Int))=true:=by simp;omega
 have a2:(decide ((0:Int)<=(i:Int))&&decide ((i:Int)<(j:Int)))=true:=by simp;omega
 have a2':decide ((0:Int)<=(i:Int))=true:=by simp
 have a3:List.getD (grp A B C) (n+Int.toNat (i:Int)*1) PV.top=.sc (.int .u8 X):=by rw[Jp,Kb];exact h
 have a4:wrap .i64 ((i:Int)+1)=((i+1:Nat):Int):=Bq
 rw[I3];by_cases hx:X=0
 ·subst hx;have a5:((0:Int) != 0)=false:=rfl;rw[Cx rfl];simp only[A5,A6,a1,a2,a2',a3,a4,a5]
 ·have a5:(X != 0)=true:=by simp[hx]
  rw[Br hx];simp only[A5,A6,a1,a2,a2',a3,a5]
theorem Ah8{call:Aq}{a0:ByteArray}{m0 nn:Nat}{n j:Nat}{l acc:Aj}{A B C:Int}(hn:2<=n)(hn4:n<=4)(hl:Cm l)(hnl:n<=l.length)(OT:acc.length<=1000000){st:Nat}:
  C5 fu call a0 m0 (nn+1) (Ab l) acc.length (n:Int) st j (j:Int) (j:Int) (Ad .u8 acc) (grp A B C)=C7 fu call a0 m0 (Ab (l.drop n)) (acc++[A,B,C].take (n-1)).length (Ad .u8 (acc++[A,B,C].take (n-1))):=by
 have a1:decide ((j:Int)<(j:Int))=false:=by simp
 have a2:wrap .i64 ((n:Int)-1)=((n-1:Nat):Int):=Bq
 have a3:(decide (3<=List.length (grp A B C))&&true)=true:=rfl;have a4:decide ((0:Int)<=((n-1:Nat):Int))=true:=by simp
 have a5:decide (Int.toNat ((n-1:Nat):Int)<=3)=true:=by simp;omega
 have a6:Int.toNat ((n-1:Nat):Int)-0=n-1:=by rw[Jp];omega
 have a7:decide (0+(n-1)*1<=List.length (grp A B C))=true:=by simp;omega
 have a8:decide (acc.length*1<=List.length (Ad .u8 acc))=true:=by rw[Ak];simp
 have a9:decide (List.length (List.take ((n-1)*1) (List.drop 0 (grp A B C)))=(n-1)*1)=true:=by simp;omega
 have b1:decide ((acc.length+(n-1))*1<=1099511627776)=true:=by simp;omega
 have b2:decide (acc.length+(n-1)<=1099511627776)=true:=by simp;omega
 have b3:List.take (acc.length*1) (Ad .u8 acc)++List.take ((n-1)*1) (List.drop 0 (grp A B C))=Ad .u8 (acc++[A,B,C].take (n-1)):=by
  have e0:Ad .u8 (acc++[A,B,C].take (n-1))=Ad .u8 acc++Ad .u8 ([A,B,C].take (n-1)):=List.flatMap_append;rw[H5 (by rw[Ak];omega),e0,Ma,Kb]
  congr 1
  match n,hn,hn4 with
  |2,_,_=>rfl
  |3,_,_=>rfl
  |4,_,_=>rfl
 have b4:decide ((0:Int)<=(n:Int))=true:=by simp
 have b5:decide (Int.toNat (n:Int)<=l.length)=true:=by simp;omega
 have b6:(Ab l).extract (Int.toNat (n:Int)) l.length=Ab (l.drop n):=by rw[Jp,Wf hl]
 have b7:acc.length+(n-1)=(acc++[A,B,C].take (n-1)).length:=by simp;omega
 rw[I3];simp only[A5,A6,Ag,dle,a1,a2,a3,a4,a5,a6,a7,a8,a9,b1,b2,b3,b4,b5,b6];rw[b7]
theorem As4{a0:ByteArray}(Bi:10<=fu):∀(m:Nat)(l acc:Aj)(nn:Nat),l.length<=4*m->m+1<=nn->Cm l->l.length % 4≠1->acc.length+l.length<=1000000 ->
  C7 fu (Ac (CP p) prog fu (d+2)) a0 nn (Ab l) acc.length (Ad .u8 acc)=some (match Sf l with|none=>⟨[.own 1 0 [],Aw 2],[]⟩|some b=>⟨[.own 1 (acc++b).length (Ad .u8 (acc++b)),Aw 0],[]⟩):=by
 obtain⟨fu,rfl⟩:∃k,fu=k+10:=⟨fu-10,by omega⟩
 have zero:∀(acc:Aj) (nn:Nat),acc.length<=1000000->C7 (fu+10) (Ac (CP p) prog (fu+10) (d+2)) a0 (nn+1) (Ab []) acc.length (Ad .u8 acc)=some ⟨[.own 1 acc.length (Ad .u8 acc),Aw 0],[]⟩:=by
  intro acc nn h;have a1:decide ((((Ab []).size:Nat):Int)>0)=false:=rfl;have a2:decide (acc.length*1<=List.length (Ad .u8 acc))=true:=by rw[Ak];simp
  have a3:List.take (acc.length*1) (Ad .u8 acc)=Ad .u8 acc:=H5 (by rw[Ak];omega)
  rw[I8];simp only[A5,A6,a1,a2,a3]
 intro m
 induction m with
 |zero=>
  intro l acc nn hl Gz hB h1 OT;have:l=[]:=List.eq_nil_of_length_eq_zero (by omega);subst this;obtain⟨k,rfl⟩:∃k,nn=k+1:=⟨nn-1,by omega⟩
  rw[zero acc k (by omega)];simp[Sf]
 |succ m ih=>
  intro l acc nn hl Gz hB h1 OT;obtain⟨k,rfl⟩:∃k,nn=k+1:=⟨nn-1,by omega⟩
  have head:∀(n:Nat),l.length>0->n=min l.length 4->C7 (fu+10) (Ac (CP p) prog (fu+10) (d+2)) a0 (k+1) (Ab l) acc.length (Ad .u8 acc)=C4 (fu+10) (Ac (CP p) prog (fu+10) (d+2)) a0 k (fu+10) (Ab l) acc.length (n:Int) 0 (n:Int) 0 (Ad .u8 acc):=by
   intro n hp hn;have a1:decide (((l.length:Nat):Int)>0)=true:=by simp;omega
   have a2:(if ((l.length:Nat):Int)<4 then ((l.length:Nat):Int) else 4)=(n:Int):=by split<;>omega
   rw[I8];simp only[A5,A6,Ag,a1,a2]
  match l,hl,hB,h1,OT,head with
  |[],_,_,_,OT,_=>
   rw[zero acc k (by simpa using OT)];simp[Sf]
  |[x],_,_,h1,_,_=>exact absurd rfl h1
  |[a,b],_,hB,_,OT,head=>
   have va:=Ua a;have vb:=Ua b;rw[head 2 (by simp) rfl,show (0:Int)=((0:Nat):Int) from rfl];rw[Qr (c:=a) (by omega) (by omega) hB rfl (by simp) (by simp) (by simp)];unfold Sf;by_cases ha:Cd a<64
   ·rw[Cx ha,Qr (c:=b) (by omega) (by omega) hB rfl (by simp<;>omega) (by simp<;>omega) (by simp<;>omega)]
    by_cases hb:Cd b<64
    ·rw[Cx hb,Aga (by omega) (by omega) (by simp<;>omega) (by simp<;>omega)]
     rw[show (0:Int)=((0:Nat):Int) from rfl];rw[A30 (X:=(((0:Nat):Int)+Cd a*((2 ^ (18-6*0):Nat):Int)+Cd b*((2 ^ (18-6*1):Nat):Int)) / 256 % 256) (by omega) (by omega) rfl];by_cases hz:Cd b % 16=0
     ·rw[Cx (by simp<;>omega)]
      rw[A30 (X:=(((0:Nat):Int)+Cd a*((2 ^ (18-6*0):Nat):Int)+Cd b*((2 ^ (18-6*1):Nat):Int)) % 256) (by omega) (by omega) rfl];rw[Cx (by simp<;>omega),Ah8 (by omega) (by omega) hB (by simp) (by omega)]
      rw[Cx ⟨ha,hb,hz⟩];have hr:=ih [] (acc++[Cd a*4+Cd b / 16]) k (by simp) (by omega) (fun x hx=>by cases hx) (by simp) (by simp at OT ⊢;omega)
      have e:(((0:Nat):Int)+Cd a*((2 ^ (18-6*0):Nat):Int)+Cd b*((2 ^ (18-6*1):Nat):Int)) / 65536 % 256=Cd a*4+Cd b / 16:=by simp;omega
      rw[e];refine hr.trans ?_;simp[Sf]
     ·rw[Br (by simp<;>omega),Br (fun h=>hz h.2.2)]
    ·rw[Br hb,Br (fun h=>hb h.2.1)]
   ·rw[Br ha,Br (fun h=>ha h.1)]
  |[a,b,c],_,hB,_,OT,head=>
   have va:=Ua a;have vb:=Ua b;have vc:=Ua c;rw[head 3 (by simp) rfl,show (0:Int)=((0:Nat):Int) from rfl];rw[Qr (c:=a) (by omega) (by omega) hB rfl (by simp) (by simp) (by simp)];unfold Sf;by_cases ha:Cd a<64
   ·rw[Cx ha,Qr (c:=b) (by omega) (by omega) hB rfl (by simp<;>omega) (by simp<;>omega) (by simp<;>omega)]
    by_cases hb:Cd b<64
    ·rw[Cx hb,Qr (c:=c) (by omega) (by omega) hB rfl (by simp<;>omega) (by simp<;>omega) (by simp<;>omega)]
     by_cases hc:Cd c<64
     ·rw[Cx hc,Aga (by omega) (by omega) (by simp<;>omega) (by simp<;>omega)]
      rw[show (0:Int)=((0:Nat):Int) from rfl];rw[A30 (X:=(((0:Nat):Int)+Cd a*((2 ^ (18-6*0):Nat):Int)+Cd b*((2 ^ (18-6*1):Nat):Int)+Cd c*((2 ^ (18-6*2):Nat):Int)) % 256) (by omega) (by omega) rfl];by_cases hz:Cd c % 4=0
      ·rw[Cx (by simp<;>omega),Ah8 (by omega) (by omega) hB (by simp) (by omega)]
       rw[Cx ⟨ha,hb,hc,hz⟩];have hr:=ih [] (acc++[Cd a*4+Cd b / 16,Cd b % 16*16+Cd c / 4]) k (by simp) (by omega) (fun x hx=>by cases hx) (by simp) (by simp at OT ⊢;omega)
       have e:(((0:Nat):Int)+Cd a*((2 ^ (18-6*0):Nat):Int)+Cd b*((2 ^ (18-6*1):Nat):Int)+Cd c*((2 ^ (18-6*2):Nat):Int)) / 65536 % 256=Cd a*4+Cd b / 16:=by simp;omega
       have e2:(((0:Nat):Int)+Cd a*((2 ^ (18-6*0):Nat):Int)+Cd b*((2 ^ (18-6*1):Nat):Int)+Cd c*((2 ^ (18-6*2):Nat):Int)) / 256 % 256=Cd b % 16*16+Cd c / 4:=by simp;omega
       rw[e,e2];refine hr.trans ?_;simp[Sf]
      ·rw[Br (by simp<;>omega),Br (fun h=>hz h.2.2.2)]
     ·rw[Br hc,Br (fun h=>hc h.2.2.1)]
    ·rw[Br hb,Br (fun h=>hb h.2.1)]
   ·rw[Br ha,Br (fun h=>ha h.1)]
  |a::b::c::e::t,hl,hB,h1,OT,head=>
   have va:=Ua a;have vb:=Ua b;have vc:=Ua c;have ve:=Ua e;rw[head 4 (by simp) (by simp<;>omega),show (0:Int)=((0:Nat):Int) from rfl]
   rw[Qr (c:=a) (by omega) (by omega) hB rfl (by simp) (by simp) (by simp)];unfold Sf;by_cases ha:Cd a<64
   ·rw[Cx ha,Qr (c:=b) (by omega) (by omega) hB rfl (by simp<;>omega) (by simp<;>omega) (by simp<;>omega)]
    by_cases hb:Cd b<64
    ·rw[Cx hb,Qr (c:=c) (by omega) (by omega) hB rfl (by simp<;>omega) (by simp<;>omega) (by simp<;>omega)]
     by_cases hc:Cd c<64
     ·rw[Cx hc,Qr (c:=e) (by omega) (by omega) hB rfl (by simp<;>omega) (by simp<;>omega) (by simp<;>omega)]
      by_cases he:Cd e<64
      ·rw[Cx he,Aga (by omega) (by omega) (by simp<;>omega) (by simp<;>omega)]
       rw[show (0:Int)=((4-4:Nat):Int) from rfl,Ah8 (by omega) (by omega) hB (by simp) (by omega)];rw[Cx ⟨ha,hb,hc,he⟩];have hr:=ih t (acc++[Cd a*4+Cd b / 16,Cd b % 16*16+Cd c / 4,Cd c % 4*64+Cd e]) k (by simp at hl;omega) (by omega) (fun x hx=>hB x (by simp[hx])) (by simp at h1;omega) (by simp at OT ⊢;omega)
       have e1:(((4-4:Nat):Int)+Cd a*((2 ^ (18-6*0):Nat):Int)+Cd b*((2 ^ (18-6*1):Nat):Int)+Cd c*((2 ^ (18-6*2):Nat):Int)+Cd e*((2 ^ (18-6*3):Nat):Int)) / 65536 % 256=Cd a*4+Cd b / 16:=by simp;omega
       have e2:(((4-4:Nat):Int)+Cd a*((2 ^ (18-6*0):Nat):Int)+Cd b*((2 ^ (18-6*1):Nat):Int)+Cd c*((2 ^ (18-6*2):Nat):Int)+Cd e*((2 ^ (18-6*3):Nat):Int)) / 256 % 256=Cd b % 16*16+Cd c / 4:=by simp;omega
       have e3:(((4-4:Nat):Int)+Cd a*((2 ^ (18-6*0):Nat):Int)+Cd b*((2 ^ (18-6*1):Nat):Int)+Cd c*((2 ^ (18-6*2):Nat):Int)+Cd e*((2 ^ (18-6*3):Nat):Int)) % 256=Cd c % 4*64+Cd e:=by simp;omega
       rw[e1,e2,e3];refine hr.trans ?_;cases Sf t<;>simp
      ·rw[Br he,Br (fun h=>he h.2.2.2)]
     ·rw[Br hc,Br (fun h=>hc h.2.2.1)]
    ·rw[Br hb,Br (fun h=>hb h.2.1)]
   ·rw[Br ha,Br (fun h=>ha h.1)]
theorem Ar4:∀{l:Aj},l.length % 4=1->Sf l=none
 |[],h=>by simp at h
 |[_],_=>rfl
 |[_,_],h=>by simp at h
 |[_,_,_],h=>by simp at h
 |p::q::r::s::t,h=>by
  have:=Ar4 (l:=t) (by simp at h;omega)
  unfold Sf;rw[this];simp
theorem A3u{l:Aj}(hB:Cm l)(hl:l.length<=1000000)(Bi:10<=fu)(LH:l.length<=fu):Ac (CP p) prog fu (d+3) 121 [Bk (Ab l)]=some (match Sf l with|none=>⟨[.own 1 0 [],Aw 2],[]⟩|some b=>⟨[.own 1 b.length (Ad .u8 b),Aw 0],[]⟩):=by
 rw[Uk];have a0:Int.tmod ((l.length:Nat):Int) 4=((l.length % 4:Nat):Int):=by rw[Int.tmod_eq_emod_of_nonneg (by omega)];omega
 by_cases h1:l.length % 4=1
 ·have a1:(((l.length % 4:Nat):Int)==1)=true:=by rw[h1];rfl
  rw[Ar4 h1];simp only[A5,A6,Ag,a0,a1]
 ·have a1:(((l.length % 4:Nat):Int)==1)=false:=by simp;omega
  have a2:Int.tdiv ((l.length:Nat):Int) 4=((l.length / 4:Nat):Int):=by rw[Int.tdiv_eq_ediv_of_nonneg (by omega)];omega
  have a3:wrap .i64 ((l.length / 4:Nat):Int)=((l.length / 4:Nat):Int):=Bb;have a4:wrap .i64 (((l.length / 4:Nat):Int)*3)=((l.length / 4:Nat):Int)*3:=Bb;have a5:wrap .i64 (((l.length / 4:Nat):Int)*3+2)=((l.length / 4:Nat):Int)*3+2:=Bb;have a6:decide ((0:Int)<=((l.length / 4:Nat):Int)*3+2)=true:=by simp;omega
  have a7:decide ((((l.length / 4:Nat):Int)*3+2)*1<=1099511627776)=true:=by simp;omega
  have a8:decide (((l.length / 4:Nat):Int)*3+2<=1099511627776)=true:=by simp;omega
  have hd:=As4 (d:=d) (p:=p) (a0:=Ab l) Bi (l.length / 4+1) l [] fu (by omega) (by omega) hB h1 (by simp<;>omega)
  simp only[A5,A6,Ag,a0,a1,a2,a3,a4,a5,a6,a7,a8];refine hd.trans ?_;cases Sf l<;>simp
end
theorem dT{q:Prop}[Decidable q](h:q):decide q=true:=decide_eq_true h
theorem dF{q:Prop}[Decidable q](h:¬q):decide q=false:=decide_eq_false h
theorem bT{q:Prop}[Decidable q](h:q):(!decide q)=false:=by simp[h]
theorem bF{q:Prop}[Decidable q](h:¬q):(!decide q)=true:=by simp[h]
def okB(n i:Nat)(c:Int):Bool:=ltB c||(c==45&&decide (0<i)&&decide (i+1<n))
def JT(n:Nat):Nat->Aj->Bool
 |_,[]=>true
 |i,c::r=>okB n i c&&JT n (i+1) r
theorem WH(n i:Nat)(c:Int)(r:Aj):JT n i (c::r)=(okB n i c&&JT n (i+1) r):=rfl
theorem Aph:ltB 45=false:=rfl
theorem Akd(n:Nat):∀(r:Aj)(i:Nat),i+r.length=n->JT n i r=(r.all (fun x=>ltB x||x==45) && !(decide (i=0)&&r.head?==some 45) && !(r.getLast?==some 45))
 |[],i,_=>by simp[JT]
 |[c],i,h=>by
  simp only[Po,NS] at h;unfold JT okB;by_cases hc:c=45
  ·subst hc;have:¬i+1<n:=by omega
   simp[JT,Aph,this]
  ·have hcb:(c==45)=false:=by simp[hc]
   simp[JT,hcb]
 |c::x::r,i,h=>by
  have ih:=Akd n (x::r) (i+1) (by simp at h ⊢;omega)
  have hl:(c::x::r).getLast?=(x::r).getLast?:=by simp
  unfold JT;rw[ih,hl];have h1:i+1<n:=by simp at h;omega
  unfold okB;by_cases hc:c=45
  ·subst hc;by_cases hi:i=0
   ·subst hi;simp[Aph]
   ·have:0<i:=by omega
    simp[Aph,h1,hi,this]
  ·have hcb:(c==45)=false:=by simp[hc]
   simp[hcb,Bool.and_assoc]
theorem Ayc{l:Aj}(h1:1<=l.length)(h2:l.length<=63):K9 l=JT l.length 0 l:=by rw[Akd _ l 0 (by simp)];unfold K9;rw[dT h1,dT h2];cases l.all (fun x=>ltB x||x==45)<;>cases (l.head?==some 45)<;>cases (l.getLast?==some 45)<;>rfl
section
variable {fu d:Nat}{p:FuncId->Option (Ae->Option A4)}
theorem Afh{call:Aq}{a0:ByteArray}{l:Aj}(hB:Cm l)(hs:l.length<=63):∀(r:Aj)(i nn:Nat),l.drop i=r->r.length+1<=nn ->
  Ek fu call a0 nn (Ab l) (l.length:Int) (i:Int)=some ⟨[Cz (JT l.length i r)],[]⟩
 |[],i,nn,hd,hn=>by
  obtain⟨k,rfl⟩:∃k,nn=k+1:=⟨nn-1,by omega⟩
  have hi:=drop_nil hd;have a1:decide ((i:Int)<(l.length:Int))=false:=by simp;omega
  rw[Ou];simp only[A5,A6,a1];rfl
 |c::r,i,nn,hd,hn=>by
  obtain⟨k,rfl⟩:∃k,nn=k+1:=⟨nn-1,by omega⟩
  obtain⟨hi,hc,SH⟩:=D8 hd;have ih:=Afh (call:=call) (a0:=a0) hB hs r (i+1) k SH (by simp at hn;omega)
  have ES:=hB c (List.mem_of_getElem? hc);have a1:decide ((i:Int)<(l.length:Int))=true:=by simp;omega
  have a2:decide ((0:Int)<=(i:Int))=true:=by simp
  have a3:(Array.toList (Ab l).data)[Int.toNat (i:Int)]?=some c.toNat.toUInt8:=by
   rw[Jp];show (l.map fun n=>n.toNat.toUInt8)[i]?=_;rw[List.getElem?_map,hc];rfl
  have a4:=Ny ES;have a5:wrap .i64 ((i:Int)+1)=((i+1:Nat):Int):=Bq
  have a6:wrap .i64 ((l.length:Int)-1)=(l.length:Int)-1:=Bb
  have good:okB l.length i c=true->(Ek fu call a0 k (Ab l) (l.length:Int) ((i+1:Nat):Int)=some ⟨[Cz (JT l.length i (c::r))],[]⟩):=by
   intro h;rw[ih,WH,h,YD]
  have bad:okB l.length i c=false->some (A4.mk [PV.sc (.bool false)] [])=some ⟨[Cz (JT l.length i (c::r))],[]⟩:=by
   intro h;rw[WH,h,SU]
  rw[Ou];by_cases hA:97<=c/\c<=122
  ·have q1:=dT hA.1;have q2:=dT hA.2;have q3:(c==45)=false:=by simp;omega
   have q4:=dT (q:=(48:Int)<=c) (by omega);have q5:=bF (q:=c<=57) (by omega);simp only[A5,A6,a1,a2,a3,a4,a5,a6,Ag,q1,q2,q3,q4,q5];exact good (by unfold okB ltB;simp[hA])
  by_cases hD:48<=c/\c<=57
  ·have q1:=dF (q:=(97:Int)<=c) (by omega);have q2:=dT (q:=c<=122) (by omega);have q3:(c==45)=false:=by simp;omega
   have q4:=dT hD.1;have q5:=bT hD.2;simp only[A5,A6,a1,a2,a3,a4,a5,a6,Ag,q1,q2,q3,q4,q5];exact good (by unfold okB ltB BN;simp[hD])
  have Cq:ltB c=false:=by
   unfold ltB BN;simp;exact⟨fun h=>by omega,fun h=>by omega⟩
  by_cases hM:c=45
  ·subst hM;have q1:decide ((97:Int)<=45)=false:=rfl;have q2:decide ((45:Int)<=122)=true:=rfl;have q3:((45:Int)==45)=true:=rfl;have q4:decide ((48:Int)<=45)=false:=rfl;have q5:(!decide ((45:Int)<=57))=false:=rfl;by_cases h0:0<i
   ·have q6:=dT (q:=(i:Int)>0) (by omega);by_cases h1:i+1<l.length
    ·have q7:=bT (q:=(i:Int)<(l.length:Int)-1) (by omega);simp only[A5,A6,a1,a2,a3,a4,a5,a6,Ag,q1,q2,q3,q4,q5,q6,q7];exact good (by unfold okB;simp[h0,h1])
    ·have q7:=bF (q:=(i:Int)<(l.length:Int)-1) (by omega);simp only[A5,A6,a1,a2,a3,a4,a5,a6,Ag,q1,q2,q3,q4,q5,q6,q7];exact bad (by unfold okB;simp[h1,Cq])
   ·have q6:=dF (q:=(i:Int)>0) (by omega);simp only[A5,A6,a1,a2,a3,a4,a5,a6,Ag,q1,q2,q3,q4,q5,q6];exact bad (by unfold okB;simp[h0,Cq])
  have q3:(c==45)=false:=by simp[hM]
  have Ald:okB l.length i c=false:=by unfold okB;simp[Cq,hM]
  by_cases h97:97<=c
  ·have q1:=dT h97;have q2:=dF (q:=c<=122) (by omega);have q4:=dT (q:=(48:Int)<=c) (by omega);have q5:=bF (q:=c<=57) (by omega);simp only[A5,A6,a1,a2,a3,a4,a5,a6,Ag,q1,q2,q3,q4,q5];exact bad Ald
  ·have q1:=dF h97;have q2:=dT (q:=c<=122) (by omega);by_cases h48:48<=c
   ·have q4:=dT h48;have q5:=bF (q:=c<=57) (by omega);simp only[A5,A6,a1,a2,a3,a4,a5,a6,Ag,q1,q2,q3,q4,q5];exact bad Ald
   ·have q4:=dF h48;have q5:=bT (q:=c<=57) (by omega);simp only[A5,A6,a1,a2,a3,a4,a5,a6,Ag,q1,q2,q3,q4,q5];exact bad Ald
theorem Av7{l:Aj}(hB:Cm l)(Bi:100<=fu):Ac (CP p) prog fu (d+1) 167 [Bk (Ab l)]=some ⟨[Cz (K9 l)],[]⟩:=by
 rw[EX];by_cases h1:1<=l.length
 ·by_cases h2:l.length<=63
  ·have a1:decide (((l.length:Nat):Int)<1)=false:=by simp;omega
   have a2:decide (((l.length:Nat):Int)>63)=false:=by simp;omega
   rw[Ayc h1 h2];simp only[A5,A6,Ag,a1,a2];exact Afh hB h2 l 0 fu rfl (by omega)
  ·have a1:decide (((l.length:Nat):Int)<1)=false:=by simp;omega
   have a2:decide (((l.length:Nat):Int)>63)=true:=by simp;omega
   have e:K9 l=false:=by unfold K9;simp[h2]
   rw[e];simp only[A5,A6,Ag,a1,a2]
 ·have a1:decide (((l.length:Nat):Int)<1)=true:=by simp;omega
  have e:K9 l=false:=by unfold K9;simp[h1]
  rw[e];simp only[A5,A6,Ag,a1]
theorem Aq8(l cs:List UInt8):(Lib.trimS l cs==[])=l.all (cs.contains ·):=by
 have key:∀(q:UInt8->Bool) (m:List UInt8),m.dropWhile q=[]↔m.all q=true:=by
  intro q m
  induction m with
  |nil=>simp
  |cons x m ih=>
   by_cases hx:q x=true
   ·rw[List.dropWhile_cons_of_pos hx,ih];simp[hx]
   ·rw[List.dropWhile_cons_of_neg hx];simp[hx]
 unfold Lib.trimS Lib.trimLeftS Lib.trimRightS;rw[Bool.eq_iff_iff,beq_iff_eq,key,List.all_reverse,<-key,key,List.all_eq_true]
 have h2:∀(q:UInt8->Bool) (m:List UInt8),(m.dropWhile q).all q=true↔m.all q=true:=by
  intro q m
  induction m with
  |nil=>simp
  |cons x m ih=>
   by_cases hx:q x=true
   ·rw[List.dropWhile_cons_of_pos hx,ih];simp[hx]
   ·rw[List.dropWhile_cons_of_neg hx]
 rw[<-List.all_eq_true,h2,List.all_reverse]
def Y4:ByteArray:=⟨#[48,49,50,51,52,53,54,55,56,57]⟩
theorem A06:∀n:Fin 256,Y4.data.toList.contains (n.val:Int).toNat.toUInt8=BN (n.val:Int):=by decide +kernel
theorem A2v{l:Aj}(h:Cm l):((l.map fun n=>n.toNat.toUInt8).all (Y4.data.toList.contains ·))=l.all BN:=by
 induction l with
 |nil=>rfl
 |cons c r ih=>
  obtain⟨hc,hr⟩:=Ds h;obtain⟨n,rfl⟩:=Int.eq_ofNat_of_zero_le hc.1;rw[Vv,List.all_cons,List.all_cons,ih hr]
  congr 1
  exact A06 ⟨n,by omega⟩
theorem A0z{l:Aj}(hB:Cm l)(hs:l.length<=1000000):∃x,Ac (CP p) prog fu (d+1) 168 [Bk (Ab l),Bk Y4]=some ⟨[Bk x],[]⟩/\(Array.toList x.data==Array.toList (ByteArray.mk #[]).data)=l.all BN:=by
 refine⟨⟨(Lib.trimS (Ab l).data.toList Y4.data.toList).toArray⟩,?_,?_⟩
 ·have e:Ac (CP p) prog fu (d+1) 168 [Bk (Ab l),Bk Y4]=Aet [Bk (Ab l),Bk Y4]:=rfl;rw[e];unfold Aet
  have:(Nat.ble Y4.size 1000&&Y4.data.toList.all (fun b=>decide (b.toNat<128))&&decide ((Ab l).size<=1000000000))=true:=by
   rw[Ag];have h1:(Nat.ble Y4.size 1000&&Y4.data.toList.all (fun b=>decide (b.toNat<128)))=true:=by decide +kernel
   rw[h1,dT (q:=l.length<=1000000000) (by omega)];rfl
  simp only[this,cond_true]
 ·show (Lib.trimS (Ab l).data.toList Y4.data.toList==[])=_;rw[Aq8];exact A2v hB
theorem Zf(c:Int):∀{l:Aj},Cm l->∀x∈Az c l,Cm x/\x.length<=l.length
 |[],_,x,hx=>by simp[Az] at hx;subst hx;exact⟨(fun y hy=>nomatch hy),Cs _⟩
 |a::r,h,x,hx=>by
  obtain⟨ha,hr⟩:=Ds h;have ih:=Zf c hr;unfold Az at hx;split at hx
  ·rcases List.mem_cons.1 hx with rfl|hx
   ·exact⟨(fun y hy=>nomatch hy),Nat.zero_le _⟩
   ·exact⟨(ih x hx).1,Nat.le_succ_of_le (ih x hx).2⟩
  ·cases hs:Az c r with
   |nil=>exact absurd hs (Q1 c r)
   |cons b t=>
    rw[hs] at hx ih;rcases List.mem_cons.1 hx with rfl|hx
    ·obtain⟨q1,q2⟩:=ih b (by simp);refine⟨fun y hy=>?_,by simp;omega⟩
     rcases List.mem_cons.1 hy with rfl|hy
     ·exact ha
     ·exact q1 y hy
    ·exact⟨(ih x (by simp[hx])).1,Nat.le_succ_of_le (ih x (by simp[hx])).2⟩
theorem Ace{a0:ByteArray}(Bi:200<=fu){ls:List Aj}(hB:∀x∈ls,Cm x/\x.length<=1000)(h0:ls≠[])(hN:ls.length<=1000):∀(r:List Aj) (i nn:Nat),ls.drop i=r->r.length+1<=nn ->
  Jm fu (Ac (CP p) prog fu (d+1)) a0 nn ls.length ls.length (ls.length:Int) (i:Int) (ls.map Wx)=some ⟨[Aw (if r.all K9=false then 2 else if (ls.getLastD []).all BN=true then 2 else 0)],[]⟩
 |[],i,nn,hd,hn=>by
  obtain⟨k,rfl⟩:∃k,nn=k+1:=⟨nn-1,by omega⟩
  have hi:=drop_nil hd;have Ad6:0<ls.length:=List.length_pos_iff.2 h0;have a1:decide ((i:Int)<(ls.length:Int))=false:=by simp;omega
  have a2:wrap .i64 ((ls.length:Int)-1)=((ls.length-1:Nat):Int):=Bq
  have a3:decide ((0:Int)<=((ls.length-1:Nat):Int))=true:=by simp
  have a4:decide (((ls.length-1:Nat):Int)<(ls.length:Int))=true:=by simp;omega
  have PH:ls.getLastD []=ls[ls.length-1]'(by omega):=by
   rw[List.getLastD_eq_getLast?,List.getLast?_eq_getElem?,List.getElem?_eq_getElem (by omega)];rfl
  have a5:List.getD (ls.map Wx) (0+Int.toNat ((ls.length-1:Nat):Int)*1) PV.top=Bk (Ab (ls.getLastD [])):=by
   rw[Jp,Ip,Kb,List.getD_eq_getElem?_getD,List.getElem?_map,List.getElem?_eq_getElem (by omega),PH];rfl
  have hm:=hB (ls.getLastD []) (by rw[PH];exact List.getElem_mem _)
  obtain⟨x,e,hx⟩:=A0z (fu:=fu) (d:=d) (p:=p) hm.1 (by omega);have e2:Ac (CP p) prog fu (d+1) 168 [Bk (Ab (ls.getLastD [])),Bk ⟨#[48,49,50,51,52,53,54,55,56,57]⟩]=some ⟨[Bk x],[]⟩:=e;rw[Rj];cases hq:(ls.getLastD []).all BN
  ·rw[hq] at hx;simp only[A5,A6,a1,a2,a3,a4,a5,e2,hx,List.all_nil,Bool.true_eq_false,if_false,Bool.false_eq_true]
  ·rw[hq] at hx;simp only[A5,A6,a1,a2,a3,a4,a5,e2,hx,List.all_nil,Bool.true_eq_false,if_false,if_true]
 |x::r,i,nn,hd,hn=>by
  obtain⟨k,rfl⟩:∃k,nn=k+1:=⟨nn-1,by omega⟩
  obtain⟨hi,hc,SH⟩:=D8 hd;have ih:=Ace (a0:=a0) Bi hB h0 hN r (i+1) k SH (by simp at hn;omega)
  have hm:=hB x (List.mem_of_getElem? hc);have e:Ac (CP p) prog fu (d+1) 167 [Bk (Ab x)]=_:=Av7 (fu:=fu) (d:=d) (p:=p) hm.1 (by omega);have a1:decide ((i:Int)<(ls.length:Int))=true:=by simp;omega
  have a2:decide ((0:Int)<=(i:Int))=true:=by simp
  have a5:List.getD (ls.map Wx) (0+Int.toNat (i:Int)*1) PV.top=Bk (Ab x):=by
   rw[Jp,Ip,Kb,List.getD_eq_getElem?_getD,List.getElem?_map,hc];rfl
  have a6:wrap .i64 ((i:Int)+1)=((i+1:Nat):Int):=Bq
  rw[Rj];cases hq:K9 x
  ·rw[hq] at e;have:((x::r).all K9=false):=by simp[hq]
   rw[Cx this];simp only[A5,A6,a1,a2,a5,e,Kd]
  ·rw[hq] at e;have:(x::r).all K9=r.all K9:=by simp[hq]
   rw[this];simp only[A5,A6,a1,a2,a5,e,G9,a6];exact ih
theorem A39{l:Aj}(hB:Cm l)(hs:l.length<=1000000)(Bi:200<=fu):Ac (CP p) prog fu (d+6) 143 [Bk (Ab l)]=some ⟨[Aw (S2 l)],[]⟩:=by
 rw[MM];unfold S2;by_cases h:100<l.length
 ·have a1:decide (((l.length:Nat):Int)>100)=true:=by simp;omega
  rw[Cx h];simp only[A5,A6,Ag,a1]
 ·have a1:decide (((l.length:Nat):Int)>100)=false:=by simp;omega
  have e:Ac (CP p) prog fu (d+5) 166 [Bk (Ab l),Bk ⟨#[46]⟩]=_:=Aw1 (fu:=fu) (d:=d) (p:=p) (c:=46) (by omega) hB (by omega) (by omega);have hn:=AG 46 l;have hd:=Ace (a0:=Ab l) (fu:=fu) (d:=d+4) (p:=p) (by omega) (ls:=Az 46 l) (fun x hx=>⟨(Zf 46 hB x hx).1,by have:=(Zf 46 hB x hx).2;omega⟩) (Q1 46 l) (by omega) (Az 46 l) 0 fu rfl (by omega)
  rw[Br h];simp only[A5,A6,Ag,a1,e];exact hd
theorem Av1(s:Bool):Ac (CP p) prog fu (d+1) 144 [Cz s]=some ⟨[Aw (dfl s)],[]⟩:=by rw[Y5];cases s<;>simp only[A5,A6]<;>rfl
theorem FU(c:Int):BN c=true↔48<=c/\c<=57:=by unfold BN;simp
theorem WQ{call:Aq}{a0:ByteArray}{l:Aj}(hB:Cm l)(hs:l.length<=5):∀(r:Aj)(i nn:Nat)(n:Int),l.drop i=r->r.length+1<=nn->0<=n->n<10 ^ i ->
  G8 fu call a0 nn (Ab l) n (l.length:Int) (i:Int)=some (if r.all BN=true then ⟨[Aw (r.foldl (fun n x=>10*n+(x-48)) n),Cz (decide (r.foldl (fun n x=>10*n+(x-48)) n<=65535))],[]⟩ else ⟨[Aw 0,Cz false],[]⟩)
 |[],i,nn,n,hd,hn,h0,h1=>by
  obtain⟨k,rfl⟩:∃k,nn=k+1:=⟨nn-1,by omega⟩
  have hi:=drop_nil hd;have a1:decide ((i:Int)<(l.length:Int))=false:=by simp;omega
  rw[Nd];simp only[A5,A6,a1];rfl
 |c::r,i,nn,n,hd,hn,h0,h1=>by
  obtain⟨k,rfl⟩:∃k,nn=k+1:=⟨nn-1,by omega⟩
  obtain⟨hi,hc,SH⟩:=D8 hd;have ES:=hB c (List.mem_of_getElem? hc)
  have hp:(10:Int) ^ i<=10 ^ 4:=by
   have h:=Nat.pow_le_pow_right (n:=10) (by omega) (show i<=4 by omega)
   exact_mod_cast h
  have hp2:(10:Int) ^ (i+1)=10 ^ i*10:=Int.pow_succ ..;have a1:decide ((i:Int)<(l.length:Int))=true:=by simp;omega
  have a2:decide ((0:Int)<=(i:Int))=true:=by simp
  have a3:(Array.toList (Ab l).data)[Int.toNat (i:Int)]?=some c.toNat.toUInt8:=by
   rw[Jp];show (l.map fun n=>n.toNat.toUInt8)[i]?=_;rw[List.getElem?_map,hc];rfl
  have a4:=Ny ES;rw[Nd];by_cases hq:48<=c/\c<=57
  ·have q1:=dF (q:=c<48) (by omega);have q2:=dF (q:=c>57) (by omega);have a5:wrap .i64 (10*n)=10*n:=Bb;have a6:wrap .u8 (c-48)=c-48:=Oa (by omega) (by omega);have a7:wrap .i64 (c-48)=c-48:=Bb;have a8:wrap .i64 (10*n+(c-48))=10*n+(c-48):=Bb;have a9:wrap .i64 ((i:Int)+1)=((i+1:Nat):Int):=Bq
   have ih:=WQ (call:=call) (a0:=a0) hB hs r (i+1) k (10*n+(c-48)) SH (by simp at hn;omega) (by omega) (by omega)
   have e:(c::r).all BN=r.all BN:=by rw[List.all_cons,(FU c).2 hq,YD]
   simp only[A5,A6,a1,a2,a3,a4,q1,q2,a5,a6,a7,a8,a9];rw[ih,e];rfl
  ·have e:(c::r).all BN=false:=by
    have:BN c=false:=by
     cases hb:BN c
     ·rfl
     ·exact absurd ((FU c).1 hb) hq
    rw[List.all_cons,this,SU]
   rw[e];by_cases h48:c<48
   ·have q1:=dT h48;simp only[A5,A6,a1,a2,a3,a4,q1,Bool.false_eq_true,if_false]
   ·have q1:=dF h48;have q2:=dT (q:=c>57) (by omega);simp only[A5,A6,a1,a2,a3,a4,q1,q2,Bool.false_eq_true,if_false]
theorem A2t{l:Aj}(hB:Cm l)(Bi:100<=fu):Ac (CP p) prog fu (d+1) 145 [Bk (Ab l)]=some (if Jw l=true then ⟨[Aw (DI l),Cz (decide (DI l<=65535))],[]⟩ else ⟨[Aw 0,Cz false],[]⟩):=by
 rw[DQ];by_cases h1:1<=l.length
 ·by_cases h2:l.length<=5
  ·have a1:decide (((l.length:Nat):Int)<1)=false:=by simp;omega
   have a2:decide (((l.length:Nat):Int)>5)=false:=by simp;omega
   cases l with
   |nil=>simp at h1
   |cons c r=>
    have ES:=hB c (by simp);have a3:(Array.toList (Ab (c::r)).data)[0]?=some c.toNat.toUInt8:=rfl;have a4:=Ny ES;by_cases h0:c=48
    ·subst h0;have e:Jw (48::r)=false:=by unfold Jw;simp
     have q:((48:Int)==48)=true:=rfl;rw[e];simp only[A5,A6,Ag,a1,a2,a3,a4,q,Bool.false_eq_true,if_false]
    ·have q:(c==48)=false:=by simp[h0]
     have e:Jw (c::r)=(c::r).all BN:=by
      unfold Jw;rw[dT h1,dT h2];simp[h0]
     have hl:=WQ (call:=Ac (CP p) prog fu d) (fu:=fu) (a0:=Ab (c::r)) hB h2 (c::r) 0 fu 0 rfl (by omega) (by omega) (by decide);rw[e];simp only[A5,A6,Ag,a1,a2,a3,a4,q];exact hl
  ·have a1:decide (((l.length:Nat):Int)<1)=false:=by simp;omega
   have a2:decide (((l.length:Nat):Int)>5)=true:=by simp;omega
   have e:Jw l=false:=by unfold Jw;simp[h2]
   rw[e];simp only[A5,A6,Ag,a1,a2,Bool.false_eq_true,if_false]
 ·have a1:decide (((l.length:Nat):Int)<1)=true:=by simp;omega
  have e:Jw l=false:=by unfold Jw;simp[h1]
  rw[e];simp only[A5,A6,Ag,a1,Bool.false_eq_true,if_false]
theorem A7w{l:Aj}(hB:Cm l)(hs:l.length<=1000000)(Bi:200<=fu):∃o1 o2 o3,Ac (CP p) prog fu (d+7) 122 [Bk (Ab l)]=some ⟨[.agg [Cz o1,Bk o2,Aw o3],Aw (Gk l)],[]⟩:=by
  have hsp:=A0s (fu:=fu) (d:=d+2) (p:=p) hB (w:=[104,116,116,112,115,58,47,47]) (fun x hx=>by simp at hx;omega)
  have Vm:=A0s (fu:=fu) (d:=d+2) (p:=p) hB (w:=[104,116,116,112,58,47,47]) (fun x hx=>by simp at hx;omega)
  have e1:Ac (CP p) prog fu (d+6) 141 [Bk (Ab l),Bk ⟨#[104,116,116,112,115,58,47,47]⟩]=_:=hsp
  have e2:Ac (CP p) prog fu (d+6) 141 [Bk (Ab l),Bk ⟨#[104,116,116,112,58,47,47]⟩]=_:=Vm
  have tail:∀(s:Bool) (r:Aj),Cm r->r.length<=1000000->∃o1 o2 o3,(Bv (Ac (CP p) prog fu (d+6) 142 [PV.sc (Value.string (Ab r)),PV.sc (Value.string ⟨#[58]⟩)]) fun x17 x18=>
    Ao (x18) <|
    Ai (x17) fun x19 x20=>
    Bu (x19) fun x21=>
    Ai (x20) fun x22 x23=>
    Bu (x22) fun x24=>
    Ai (x23) fun x25 x26=>
    Bm (x25) fun x27=>
    Ao (x26) <|
    Bv (Ac (CP p) prog fu (d+6) 143 [PV.sc (Value.string x21)]) fun x28 x29=>
    Ao (x29) <|
    Ai (x28) fun x30 x31=>
    Ba (IntKind.i64) (x30) fun x32=>
    Ao (x31) <|
    Ay (x32 != (0:Int))
     (
     some (A4.mk [PV.agg [PV.sc (Value.bool false),PV.sc (Value.string ⟨#[]⟩),PV.sc (Value.int IntKind.i64 (0:Int))],PV.sc (Value.int IntKind.i64 x32)] []))
     (
     Bv (Ac (CP p) prog fu (d+6) 144 [PV.sc (Value.bool s)]) fun x33 x34=>
     Ao (x34) <|
     Ai (x33) fun x35 x36=>
     Ba (IntKind.i64) (x35) fun x37=>
     Ao (x36) <|
     Ay (x27)
      (
      Bv (Ac (CP p) prog fu (d+6) 145 [PV.sc (Value.string x24)]) fun x38 x39=>
      Ao (x39) <|
      Ai (x38) fun x40 x41=>
      Ba (IntKind.i64) (x40) fun x42=>
      Ai (x41) fun x43 x44=>
      Bm (x43) fun x45=>
      Ao (x44) <|
      Ay (!x45)
       (
       some (A4.mk [PV.agg [PV.sc (Value.bool false),PV.sc (Value.string ⟨#[]⟩),PV.sc (Value.int IntKind.i64 (0:Int))],PV.sc (Value.int IntKind.i64 (2:Int))] []))
       (
       Ay (x42==x37)
        (
        some (A4.mk [PV.agg [PV.sc (Value.bool false),PV.sc (Value.string ⟨#[]⟩),PV.sc (Value.int IntKind.i64 (0:Int))],PV.sc (Value.int IntKind.i64 (2:Int))] []))
        (
        some (A4.mk [PV.agg [PV.sc (Value.bool s),PV.sc (Value.string x21),PV.sc (Value.int IntKind.i64 x42)],PV.sc (Value.int IntKind.i64 (0:Int))] []))))
      (
      some (A4.mk [PV.agg [PV.sc (Value.bool s),PV.sc (Value.string x21),PV.sc (Value.int IntKind.i64 x37)],PV.sc (Value.int IntKind.i64 (0:Int))] []))))=some ⟨[.agg [Cz o1,Bk o2,Aw o3],Aw (Y0 s r)],[]⟩:=by
    intro s r hr hrl
    have c1:Ac (CP p) prog fu (d+6) 142 [Bk (Ab r),Bk ⟨#[58]⟩]=_:=Ban (fu:=fu) (d:=d+2) (p:=p) (c:=58) (by omega) hr hrl
    have Wn:=NQ 58 r
    have hbB:Cm (Bp 58 r):=by rw[Sc];exact fun x hx=>hr x (List.mem_of_mem_take hx)
    have hdB:Cm (r.drop ((Bp 58 r).length+1)):=fun x hx=>hr x (List.mem_of_mem_drop hx)
    have c2:Ac (CP p) prog fu (d+6) 143 [Bk (Ab (Bp 58 r))]=_:=A39 (fu:=fu) (d:=d) (p:=p) hbB (by omega) Bi
    have c3:Ac (CP p) prog fu (d+6) 144 [Cz s]=_:=Av1 (fu:=fu) (d:=d+5) (p:=p) s
    have c4:Ac (CP p) prog fu (d+6) 145 [Bk (Ab (r.drop ((Bp 58 r).length+1)))]=_:=A2t (fu:=fu) (d:=d+5) (p:=p) hdB (by omega)
    unfold Y0
    by_cases hh:S2 (Bp 58 r)=0
    · have b1:(S2 (Bp 58 r) != 0)=false:=by simp[hh]
      simp only[ne_eq,hh,not_true_eq_false,if_false]
      by_cases hw:(Bp 58 r).length<r.length
      · rw[dT hw] at c1
        rw[Br (show ¬(Bp 58 r).length=r.length by omega)]
        by_cases hp:Jw (r.drop ((Bp 58 r).length+1))=true
        · rw[Cx hp] at c4
          by_cases hv:DI (r.drop ((Bp 58 r).length+1))<=65535
          · rw[dT hv] at c4
            by_cases hdp:DI (r.drop ((Bp 58 r).length+1))=dfl s
            · have b2:(DI (r.drop ((Bp 58 r).length+1))==dfl s)=true:=by simp[hdp]
              rw[Br (by rintro⟨_,_,h⟩;exact h hdp)]
              exact⟨_,_,_,by simp only[A5,A6,c1,c2,hh,c3,c4,b2,G9,show ((0:Int) != 0)=false from rfl];rfl⟩
            · have b2:(DI (r.drop ((Bp 58 r).length+1))==dfl s)=false:=by simp[hdp]
              rw[Cx ⟨hp,hv,hdp⟩]
              exact⟨_,_,_,by simp only[A5,A6,c1,c2,hh,c3,c4,b2,G9,show ((0:Int) != 0)=false from rfl];rfl⟩
          · rw[dF hv] at c4
            rw[Br (by rintro⟨_,h,_⟩;exact hv h)]
            exact⟨_,_,_,by simp only[A5,A6,c1,c2,hh,c3,c4,Kd,show ((0:Int) != 0)=false from rfl];rfl⟩
        · rw[Br hp] at c4
          rw[Br (by rintro⟨h,_,_⟩;exact hp h)]
          exact⟨_,_,_,by simp only[A5,A6,c1,c2,hh,c3,c4,Kd,show ((0:Int) != 0)=false from rfl];rfl⟩
      · rw[dF hw] at c1
        rw[Cx (show (Bp 58 r).length=r.length by omega)]
        exact⟨_,_,_,by simp only[A5,A6,c1,c2,hh,c3,show ((0:Int) != 0)=false from rfl];rfl⟩
    · have b1:(S2 (Bp 58 r) != 0)=true:=by simp[hh]
      simp only[ne_eq,hh,not_false_eq_true,if_true]
      exact⟨_,_,_,by simp only[A5,A6,c1,c2,b1];rfl⟩
  have er:=PT (p:=p) fu (d+6) (Ab l)
  unfold Gk
  cases h1:List.isPrefixOf [104,116,116,112,115,58,47,47] l
  · rw[h1] at e1
    simp only[Bool.false_eq_true,if_false] at e1 ⊢
    cases h2:List.isPrefixOf [104,116,116,112,58,47,47] l
    · rw[h2] at e2
      simp only[Bool.false_eq_true,if_false] at e2 ⊢
      exact⟨_,_,_,er.trans (by simp only[A5,A6,e1,e2,Kd];rfl)⟩
    · rw[h2] at e2
      simp only[if_true] at e2 ⊢
      obtain⟨o1,o2,o3,ht⟩:=tail false (l.drop 7) (fun x hx=>hB x (List.mem_of_mem_drop hx)) (by simp;omega)
      refine⟨o1,o2,o3,er.trans ?_⟩
      simp only[AV,IF,AR,FR,Aa1,YQ,YB,e1,e2,Kd,G9]
      exact ht
  · rw[h1] at e1
    simp only[if_true] at e1 ⊢
    obtain⟨o1,o2,o3,ht⟩:=tail true (l.drop 8) (fun x hx=>hB x (List.mem_of_mem_drop hx)) (by simp;omega)
    refine⟨o1,o2,o3,er.trans ?_⟩
    simp only[AV,IF,AR,FR,Aa1,YQ,YB,e1,Kd,G9]
    exact ht
end
section
open Go Go.RowKit Go.Lib
def RtP(w':World)(l:Aj)(e:Ending):Prop:=
 match Ac4 8 l with
 |.ok ms=>∃mb,e=.returned (.tuple #[.map (some mb),.int .i64 0])/\OP w' mb ms
 |.error er=>er≠0/\∃m,e=.returned (.tuple #[m,.int .i64 er])
theorem JB(l:Aj):Ac4 8 l=match A8 [123] (Bh l) with
  |some r=>(match GL (G1 8) true r with
   |.error e=>.error e
   |.ok (ms,r')=>if Bh r'=[] then .ok ms else .error 2)
  |none=>.error 2:=by
 unfold Ac4;rw[Ft];cases Bh l with
 |nil=>rfl
 |cons y s=>
  by_cases hy:y=123
  ·subst hy;rfl
  ·simp only[Br hy];split
   ·rename_i e;injection e with e1 _;exact absurd e1 hy
   ·rfl
theorem E5.toBelow{w w':World}{b mb B:Nat}(k:E5 w w' b mb)(hb:B<=b)(ZT:B<=mb)(hB:B<=w.heap.size):Below B w w':=
 ⟨k.os,k.tape,k.output,k.size,fun i hi=>k.other i (by omega) (by omega) (by omega)⟩
theorem QL{w:World}(hU:gU.ok w)(hUl:∀k,gU.bl k->k<w.heap.size){w':World}(hb:Below w.heap.size w w'){b:Nat}(hbb:w.heap.size<=b):Qd w' b:=
 ⟨gU.stable w w' (fun j _ hl=>hb.block j hl) hU,fun k hk=>⟨Gf (hUl k hk) hb.size,by have:=hUl k hk;omega⟩⟩
set_option maxHeartbeats 4000000 in
theorem Aw2{t:ByteArray}(ht:t.size<=1000000){w:World}(hU:gU.ok w)(hUl:∀k,gU.bl k->k<w.heap.size):
  Calls prog 92 #[.string t] w fun e w'=>Below w.heap.size w w'/\RtP w' (B0 t) e:=by
 have mixed:prog.follows Departure.mixedOrders=true:=by kernel_rfl
 have hmm:=@run_makeMap prog;have F3:Below w.heap.size w (w.alloc (.cells #[.string t,.int .i64 0] 200)):=(Below.refl _ w).alloc (Cs _) _;have Iy:Below w.heap.size w ((w.alloc (.cells #[.string t,.int .i64 0] 200)).alloc (.map #[] 0)):=F3.alloc F3.size _;have hs1:(w.alloc (.cells #[.string t,.int .i64 0] 200)).heap.size=w.heap.size+1:=Array.size_push _
 have h2:GQ ((w.alloc (.cells #[.string t,.int .i64 0] 200)).alloc (.map #[] 0)) w.heap.size 0 t (B0 t):=by
  have hg:((w.alloc (.cells #[.string t,.int .i64 0] 200)).alloc (.map #[] 0)).heap[w.heap.size]?=some (.cells #[.string t,.int .i64 0] 200):=by
   show ((w.heap.push _).push _)[w.heap.size]?=_;rw[Array.getElem?_push_lt (by simp)];simp
  have hp:B9 t (B0 t)=0:=by unfold B9;rw[Cv];omega
  refine⟨?_,?_,?_,?_,?_⟩
  ·show w.heap.size<((w.heap.push _).push _).size;rw[Array.size_push,Array.size_push];omega
  ·unfold World.cell?;simp only[hg];rfl
  ·unfold World.cell?;simp only[hg,hp];rfl
  ·unfold World.frozen?;simp only[hg];rfl
  ·unfold World.frozen?;simp only[hg];rfl
 have hM2:OP ((w.alloc (.cells #[.string t,.int .i64 0] 200)).alloc (.map #[] 0)) (w.heap.size+1) []:=by
  show ((w.heap.push _).push (Obj.map #[] 0))[w.heap.size+1]?=some (.map #[] 0);have:w.heap.size+1=(w.heap.push (Obj.cells #[.string t,.int .i64 0] 200)).size:=by simp
  rw[this];exact Array.getElem?_push_size
 have hU2:=QL hU hUl Iy (Cs _);have hmU:¬gU.bl (w.heap.size+1):=fun h=>by have:=hUl _ h;omega
 have hS:=D7.all t;have hsk:=Ld hS ht hU2 h2
 go_enter Tryz.func92,Tryz.ntmps92
 go_wp2_with (go_at_call 119;refine hsk.mono ?_)
 rintro e W3 ⟨rfl,h3,k3⟩
 have hS3:=Ce hS;have hM3:=hM2.keep k3 (by omega);have hU3:=hU2.keep k3;have hro:=Ayl hS3 ht hU3 h3 hM3 (by omega) hmU;have Pp:Below w.heap.size w W3:=Iy.trans ((E5.of (mb:=w.heap.size+1) k3).toBelow (Cs _) (by omega) Iy.size)
 go_wp2_with (go_at_call 120;refine hro.mono ?_)
 rintro e W4 ⟨k4,r4,hS4,h4,hr4⟩
 have AW:Below w.heap.size w W4:=Pp.trans (k4.toBelow (Cs _) (by omega) Pp.size);have hU4:Qd W4 w.heap.size:=QL hU hUl AW (Cs _)
 have hRt:∀W e,(match A8 [123] (Bh (B0 t)) with
  |some r=>(match GL (G1 8) true r with
   |.error er=>er≠0/\∃m,e=.returned (.tuple #[m,.int .i64 er])
   |.ok (ms,r')=>if Bh r'=[] then ∃mb,e=.returned (.tuple #[.map (some mb),.int .i64 0])/\OP W mb ms else ∃m,e=.returned (.tuple #[m,.int .i64 2]))
  |none=>∃m,e=.returned (.tuple #[m,.int .i64 2]))->RtP W (B0 t) e:=by
  intro W e;unfold RtP;rw[JB];cases A8 [123] (Bh (B0 t)) with
  |none=>exact fun h=>⟨by decide,h⟩
  |some r=>
   cases hob:GL (G1 8) true r with
   |error er=>simp only[hob];exact id
   |ok x=>
    obtain⟨ms,r'⟩:=x;simp only[hob];by_cases g:Bh r'=[]
    ·simp only[Cx g];exact id
    ·simp only[Br g];exact fun h=>⟨by decide,h⟩
 unfold RoP at hr4;cases hq:A8 [123] (Bh (B0 t)) with
 |none=>
  rw[hq] at hr4 hRt;subst hr4
  go_wp2
  go_ret2
  exact⟨AW,hRt _ _ ⟨_,rfl⟩⟩
 |some r=>
  rw[hq] at hr4 hRt;simp only at hr4 hRt;cases ho:GL (G1 8) true r with
  |error er=>
   rw[ho] at hr4 hRt;obtain⟨he,rfl⟩:=hr4;have hbe:(er != (0:Int))=true:=by simp[he]
   go_wp2
   go_ret2
   exact⟨AW,hRt _ _ ⟨he,_,rfl⟩⟩
  |ok x=>
   obtain⟨ms,r'⟩:=x;rw[ho] at hr4 hRt;obtain⟨rfl,rfl,hM4⟩:=hr4;have A24:=Ld hS4 ht hU4 h4
   go_wp2_with (go_at_call 119;refine A24.mono ?_)
   rintro e W5 ⟨rfl,h5,k5⟩
   have hk5:Below w.heap.size w W5:=AW.trans ((E5.of (mb:=w.heap.size+1) k5).toBelow (Cs _) (by omega) AW.size);have hM5:=hM4.keep k5 (by omega);obtain⟨Cq,hc0,TB,hf0,hf1⟩:=h5;have hS5:=Ce hS4;have hl5:=hS5.len;cases hx:Bh r4 with
   |nil=>
    rw[hx] at TB hRt;rw[HJ] at TB
    go_wp2
    go_region_o
    go_wp2
    go_ret2
    exact⟨hk5.drew,hRt _ _ (by rw[Cx trivial];exact⟨_,rfl,hM5⟩)⟩
   |cons c q=>
    rw[hx] at TB hRt hl5
    have Bkv:(B9 t (c::q):Int)<t.size:=by
     unfold B9;rw[Po] at hl5 ⊢;omega
    have Bch:¬(c::q=[]):=by simp
    go_wp2
    go_region_o
    go_wp2
    go_ret2
    exact⟨hk5.drew,hRt _ _ (by rw[Br Bch];exact⟨_,rfl⟩)⟩
end
section
open Go Go.RowKit Go.Lib
def Ue:Aj:=[116,121,112,101]
def AB:Aj:=[99,104,97,108,108,101,110,103,101]
def nmO:Aj:=[111,114,105,103,105,110]
def Dg(nm:Aj)(ms:List (Aj × JV)):JV:=(Pz nm ms).getD (0,[],false)
theorem PK{w:World}{b:Nat}{ms:List (Aj × JV)}(h:OP w b ms)(hB:∀m∈ms,Cm m.1){nm:Aj}(hn:Cm nm):(Instr.lookup 167 (.map (some b)) (.string (Ab nm)) false).run prog w=.ok (.agg #[.int .i64 (Dg nm ms).1,.string (Ab (Dg nm ms).2.1),.bool (Dg nm ms).2.2]) w:=by have:=QH h hB hn false;rw[this];unfold Ac5 Dg;cases Pz nm ms<;>rfl
theorem al4(w:World)(o0 x1 x2 x3:Obj):((((w.alloc o0).alloc x1).alloc x2).alloc x3).drew.heap[w.heap.size]?=some o0/\((((w.alloc o0).alloc x1).alloc x2).alloc x3).drew.heap[w.heap.size+1]?=some x1/\((((w.alloc o0).alloc x1).alloc x2).alloc x3).drew.heap[w.heap.size+1+1]?=some x2/\((((w.alloc o0).alloc x1).alloc x2).alloc x3).drew.heap[w.heap.size+1+1+1]?=some x3:=by
 show ((((w.heap.push o0).push x1).push x2).push x3)[w.heap.size]?=some o0/\((((w.heap.push o0).push x1).push x2).push x3)[w.heap.size+1]?=some x1/\((((w.heap.push o0).push x1).push x2).push x3)[w.heap.size+1+1]?=some x2/\((((w.heap.push o0).push x1).push x2).push x3)[w.heap.size+1+1+1]?=some x3;refine⟨?_,?_,?_,?_⟩
 ·rw[Array.getElem?_push_lt (by simp;omega),Array.getElem_push_lt (by simp;omega),Array.getElem_push_lt (by simp),Array.getElem_push_eq]
 ·have:w.heap.size+1=(w.heap.push o0).size:=by simp
  rw[Array.getElem?_push_lt (by simp),Array.getElem_push_lt (by simp)];simp only[this,Array.getElem_push_eq]
 ·have:w.heap.size+1+1=((w.heap.push o0).push x1).size:=by simp
  rw[Array.getElem?_push_lt (by simp)];simp only[this,Array.getElem_push_eq]
 ·have:w.heap.size+1+1+1=(((w.heap.push o0).push x1).push x2).size:=by simp
  rw[this];exact Array.getElem?_push_size
theorem al2(w:World)(x1 x2:Obj):((w.alloc x1).alloc x2).drew.heap[w.heap.size]?=some x1/\((w.alloc x1).alloc x2).drew.heap[w.heap.size+1]?=some x2:=by
 show ((w.heap.push x1).push x2)[w.heap.size]?=some x1/\((w.heap.push x1).push x2)[w.heap.size+1]?=some x2;refine⟨?_,?_⟩
 ·simp[Array.getElem?_push]
 ·have:w.heap.size+1=(w.heap.push x1).size:=by simp
  rw[this];exact Array.getElem?_push_size
def nmX:Aj:=[99,114,111,115,115,79,114,105,103,105,110]
def nmP:Aj:=[116,111,112,79,114,105,103,105,110]
def Anw(v:JV):Obj:=.cells #[.int .i64 v.1,.string (Ab v.2.1),.bool v.2.2] 203
def cd0:Obj:=.cells #[.int .i64 0,.slice none 0 0,.string ⟨#[]⟩,.bool false,.string ⟨#[]⟩] 81
def tyC:Aj:=[112,97,115,115,107,101,121,46,99,114,101,97,116,101]
def tyG:Aj:=[112,97,115,115,107,101,121,46,103,101,116]
abbrev CD:=Int × Aj × Aj × Bool × Aj
def OI(k:Int)(C O X P:JV):JR CD:=
 match Sf C.2.1 with
 |none=>.error 2
 |some b=>if b.length<1\/64<b.length then .error 9 else if Gk O.2.1≠0 then .error (Gk O.2.1) else if X.2.2=true/\Gk P.2.1≠0 then .error (Gk P.2.1) else .ok (k,b,O.2.1,X.2.2,P.2.1)
def Qn(T C O X P:JV):JR CD:=
 if T.1≠4\/C.1≠4\/O.1≠4 then .error 4
 else if X.1≠0/\X.1≠2 then .error 4
 else if (X.2.2=true/\P.1≠4)\/(X.2.2=false/\P.1≠0) then .error 4
 else if T.2.1=tyC then OI 1 C O X P else if T.2.1=tyG then OI 2 C O X P else .error 3
def GZ(w:World)(a:Addr)(b:Aj):Prop:=a.spot=none/\a.block<w.heap.size/\∀j x,b[j]?=some x->w.cell? (a.add j)=some (.int .u8 x)
def ItP(w w':World)(r:JR CD)(e:Ending):Prop:=
 match r with
 |.ok (k,b,o,x,p)=>∃ad cap,e=.returned (.tuple #[.agg #[.int .i64 k,.slice (some ad) b.length cap,.string (Ab o),.bool x,.string (Ab p)],.int .i64 0])/\b.length<=cap/\w.heap.size<=ad.block/\GZ w' ad b
 |.error er=>er≠0/\e=.returned (.tuple #[.agg #[.int .i64 0,.slice none 0 0,.string ⟨#[]⟩,.bool false,.string ⟨#[]⟩],.int .i64 er])
def DbP(w w':World)(s:Aj)(e:Ending):Prop:=
 match Sf s with
 |none=>∃ad cap,e=.returned (.tuple #[.slice ad 0 cap,.int .i64 2])
 |some b=>∃ad cap,e=.returned (.tuple #[.slice ad b.length cap,.int .i64 0])/\(b≠[]->∃a,ad=some a/\b.length<=cap/\w.heap.size<=a.block/\GZ w' a b)
theorem PE{w:World}{b:Nat}{v:JV}(h:w.heap[b]?=some (Anw v)):w.cell? ⟨b,0,none⟩=some (.int .i64 v.1)/\w.cell? ⟨b,1,none⟩=some (.string (Ab v.2.1))/\w.cell? ⟨b,2,none⟩=some (.bool v.2.2):=by refine⟨?_,?_,?_⟩<;>(unfold World.cell?;simp only[h];rfl)
theorem Asj{w:World}{b:Nat}(h:w.heap[b]?=some cd0):(w.cell? ⟨b,0,none⟩=some (.int .i64 0)/\w.cell? ⟨b,1,none⟩=some (.slice none 0 0)/\w.cell? ⟨b,2,none⟩=some (.string ⟨#[]⟩)/\w.cell? ⟨b,3,none⟩=some (.bool false)/\w.cell? ⟨b,4,none⟩=some (.string ⟨#[]⟩))/\w.frozen? ⟨b,0,none⟩=false/\w.frozen? ⟨b,1,none⟩=false/\w.frozen? ⟨b,2,none⟩=false/\w.frozen? ⟨b,3,none⟩=false/\w.frozen? ⟨b,4,none⟩=false:=by refine⟨⟨?_,?_,?_,?_,?_⟩,?_,?_,?_,?_,?_⟩<;>first|(unfold World.cell?;simp only[h];rfl)|(unfold World.frozen?;simp only[h];rfl)
theorem Alk(s:ByteArray):s.toList=s.data.toList:=by
 have h:∀(n i:Nat) (r:List UInt8),n=s.size-i->ByteArray.toList.loop s i r=r.reverse++s.data.toList.drop i:=by
  intro n
  induction n with
  |zero=>
   intro i r hn;unfold ByteArray.toList.loop;rw[Br (by omega),List.drop_eq_nil_of_le (by rw[<-Lib.size_eq];omega),List.append_nil]
  |succ n ih=>
   intro i r hn;have hi:i<s.size:=by omega
   unfold ByteArray.toList.loop;rw[Cx hi,ih (i+1) _ (by omega),List.reverse_cons,Zzv]
   congr 1
   have hl:i<s.data.toList.length:=by rw[<-Lib.size_eq];exact hi
   rw[List.drop_eq_getElem_cons hl]
   have e:s.get! i=s.data.toList[i]:=by
    show (s.data[i]!)=_;rw[getElem!_pos s.data i hi];rfl
   rw[e];rfl
 have:=h _ 0 [] rfl;exact this
theorem RO{a b:Aj}(ha:Cm a)(hb:Cm b):((Ab a).toList==b.map fun n=>n.toNat.toUInt8)=decide (a=b):=by
 rw[Alk,Bool.eq_iff_iff,beq_iff_eq,decide_eq_true_iff];constructor
 ·intro h;have e:Ab a=Ab b:=congrArg (fun l:List UInt8=>(⟨l.toArray⟩:ByteArray)) (show (Ab a).data.toList=(Ab b).data.toList from h);exact KM ha hb e
 ·rintro rfl;rfl
def Be3(w:World)(vT vC vO:JV)(s4 s5 s6:Value)(wx:World):Prop:=
 ∃bT bC bO,s4=.pointer (some ⟨bT,0,none⟩)/\s5=.pointer (some ⟨bC,0,none⟩)/\s6=.pointer (some ⟨bO,0,none⟩)/\w.heap.size<bT/\w.heap.size<bC/\w.heap.size<bO/\wx.heap[w.heap.size]?=some cd0/\wx.heap[bT]?=some (Anw vT)/\wx.heap[bC]?=some (Anw vC)/\wx.heap[bO]?=some (Anw vO)/\Below w.heap.size w wx
def Bgs(w wc:World)(vX vP:JV)(s7 s8:Value)(wx:World):Prop:=
 ∃bX bP,s7=.pointer (some ⟨bX,0,none⟩)/\s8=.pointer (some ⟨bP,0,none⟩)/\wc.heap.size<=bX/\wc.heap.size<=bP/\wx.heap[bX]?=some (Anw vX)/\wx.heap[bP]?=some (Anw vP)/\Below wc.heap.size wc wx
theorem A3t{w:World}{b:Nat}{x0 x1 x2 x3 x4:Value}(h:w.heap[b]?=some (.cells #[x0,x1,x2,x3,x4] 81)):(w.cell? ⟨b,0,none⟩=some x0/\w.cell? ⟨b,1,none⟩=some x1/\w.cell? ⟨b,2,none⟩=some x2/\w.cell? ⟨b,3,none⟩=some x3/\w.cell? ⟨b,4,none⟩=some x4)/\w.frozen? ⟨b,0,none⟩=false/\w.frozen? ⟨b,1,none⟩=false/\w.frozen? ⟨b,2,none⟩=false/\w.frozen? ⟨b,3,none⟩=false/\w.frozen? ⟨b,4,none⟩=false:=by refine⟨⟨?_,?_,?_,?_,?_⟩,?_,?_,?_,?_,?_⟩<;>first|(unfold World.cell?;simp only[h];rfl)|(unfold World.frozen?;simp only[h];rfl)
theorem YW{w:World}{b:Nat}{x0 x1 x2 x3 x4:Value}(h0:w.cell? ⟨b,0,none⟩=some x0)(h1:w.cell? ⟨b,1,none⟩=some x1)(h2:w.cell? ⟨b,2,none⟩=some x2)(h3:w.cell? ⟨b,3,none⟩=some x3)(h4:w.cell? ⟨b,4,none⟩=some x4):(loadVar 81 ⟨b,0,none⟩).run prog w=.ok (.agg #[x0,x1,x2,x3,x4]) w:=by
 have hf:∀j,j<5->w.cell? ((⟨b,0,none⟩:Addr).add j)=some (([x0,x1,x2,x3,x4][j]?).getD undef):=by
  intro j hj;rw[Fo,Ip]
  match j,hj with
  |0,_=>exact h0
  |1,_=>exact h1
  |2,_=>exact h2
  |3,_=>exact h3
  |4,_=>exact h4
 simp only[loadVar,Sem.run_bind,Tryz.isAgg81,Result.andThen_ok,if_true,Tryz.sizeOf81,run_loadCells w _ 5 _ hf];rfl
theorem Gy{w:World}{b i j:Nat}{v:Value}(h:i≠j):(w.setCell ⟨b,j,none⟩ v).cell? ⟨b,i,none⟩=w.cell? ⟨b,i,none⟩:=World.cell?_setCell_other _ _ _ _ (fun e=>h (by injection e with _ e2;exact e2.symm))
theorem TP(w:World)(b:Nat)(x0 x1 x2 x3 x4:Value)(h:(w.cell? ⟨b,0,none⟩).isSome=true/\(w.cell? ⟨b,1,none⟩).isSome=true/\(w.cell? ⟨b,2,none⟩).isSome=true/\(w.cell? ⟨b,3,none⟩).isSome=true/\(w.cell? ⟨b,4,none⟩).isSome=true):(loadVar 81 ⟨b,0,none⟩).run prog (((((w.setCell ⟨b,0,none⟩ x0).setCell ⟨b,1,none⟩ x1).setCell ⟨b,2,none⟩ x2).setCell ⟨b,3,none⟩ x3).setCell ⟨b,4,none⟩ x4)=.ok (.agg #[x0,x1,x2,x3,x4]) (((((w.setCell ⟨b,0,none⟩ x0).setCell ⟨b,1,none⟩ x1).setCell ⟨b,2,none⟩ x2).setCell ⟨b,3,none⟩ x3).setCell ⟨b,4,none⟩ x4):=by
 obtain⟨g0,g1,g2,g3,g4⟩:=h;obtain⟨y0,g0⟩:=Option.isSome_iff_exists.1 g0;obtain⟨y1,g1⟩:=Option.isSome_iff_exists.1 g1;obtain⟨y2,g2⟩:=Option.isSome_iff_exists.1 g2;obtain⟨y3,g3⟩:=Option.isSome_iff_exists.1 g3;obtain⟨y4,g4⟩:=Option.isSome_iff_exists.1 g4;apply YW
 ·rw[Gy (by decide),Gy (by decide),Gy (by decide),Gy (by decide)];exact World.cell?_setCell_same _ _ _ g0
 ·rw[Gy (by decide),Gy (by decide),Gy (by decide)];exact World.cell?_setCell_same _ _ _ ((Gy (by decide)).trans g1)
 ·rw[Gy (by decide),Gy (by decide)];exact World.cell?_setCell_same _ _ _ ((Gy (by decide)).trans ((Gy (by decide)).trans g2))
 ·rw[Gy (by decide)];exact World.cell?_setCell_same _ _ _ ((Gy (by decide)).trans ((Gy (by decide)).trans ((Gy (by decide)).trans g3)))
 ·exact World.cell?_setCell_same _ _ _ ((Gy (by decide)).trans ((Gy (by decide)).trans ((Gy (by decide)).trans ((Gy (by decide)).trans g4))))
theorem Ru{B:Nat}{a w:World}(h:Below B a w){b:Nat}(hb:B<=b)(x0 x1 x2 x3 x4:Value):Below B a (((((w.setCell ⟨b,0,none⟩ x0).setCell ⟨b,1,none⟩ x1).setCell ⟨b,2,none⟩ x2).setCell ⟨b,3,none⟩ x3).setCell ⟨b,4,none⟩ x4):=
 ((((h.setCell (p:=⟨b,0,none⟩) hb x0).setCell (p:=⟨b,1,none⟩) hb x1).setCell (p:=⟨b,2,none⟩) hb x2).setCell (p:=⟨b,3,none⟩) hb x3).setCell (p:=⟨b,4,none⟩) hb x4
theorem Uq{R:Ending->World->Prop}{a:Act}{W:World}{v:Value}{b:Nat}(h2:a.tmps.getD 2 undef=.pointer (some ⟨b,0,none⟩))(hd:a.defers=[])(hl:(loadVar 81 ⟨b,0,none⟩).run prog W=.ok v W)(hR:R (.returned (.tuple #[v,a.tmps.getD 3 undef])) W):bodyPost prog Tryz.f93 R .ret a W:=by refine bodyPost_ret ?_ hd hR;rw[results_cell_tmp rfl,h2];have e:(asAddr (.pointer (some ⟨b,0,none⟩))).run prog W=.ok ⟨b,0,none⟩ W:=rfl;rw[e,Result.andThen_ok,hl,Result.andThen_ok]
theorem GZ.below{w w':World}{a:Addr}{b:Aj}{B:Nat}(h:GZ w a b)(k:Below B w w')(ha:a.block<B):GZ w' a b:=
 ⟨h.1,Gf h.2.1 k.size,fun j x hx=>(k.cell (p:=a.add j) (by rw[F4];exact ha)).trans (h.2.2 j x hx)⟩
theorem GZ.set{w:World}{a:Addr}{b:Aj}{b0 j:Nat}{v:Value}(h:GZ w a b)(Hp:a.block≠b0):GZ (w.setCell ⟨b0,j,none⟩ v) a b:=
 ⟨h.1,by rw[World.size_setCell];exact h.2.1,fun i x hx=>(World.cell?_setCell_other _ _ _ _ (fun e=>Hp (by rw[<-F4 a i,<-e]))).trans (h.2.2 i x hx)⟩
theorem GZ.set5{w:World}{a:Addr}{b:Aj}{b0:Nat}{x0 x1 x2 x3 x4:Value}(h:GZ w a b)(Hp:a.block≠b0):GZ (((((w.setCell ⟨b0,0,none⟩ x0).setCell ⟨b0,1,none⟩ x1).setCell ⟨b0,2,none⟩ x2).setCell ⟨b0,3,none⟩ x3).setCell ⟨b0,4,none⟩ x4) a b:=
 ((((h.set Hp).set Hp).set Hp).set Hp).set Hp
def RC(w:World)(b:Nat):Prop:=(w.cell? ⟨b,0,none⟩=some (.int .i64 0)/\w.cell? ⟨b,1,none⟩=some (.slice none 0 0)/\w.cell? ⟨b,2,none⟩=some (.string ⟨#[]⟩)/\w.cell? ⟨b,3,none⟩=some (.bool false)/\w.cell? ⟨b,4,none⟩=some (.string ⟨#[]⟩))/\w.frozen? ⟨b,0,none⟩=false/\w.frozen? ⟨b,1,none⟩=false/\w.frozen? ⟨b,2,none⟩=false/\w.frozen? ⟨b,3,none⟩=false/\w.frozen? ⟨b,4,none⟩=false
theorem RC.below{w w':World}{b B:Nat}(h:RC w b)(k:Below B w w')(hb:b<B):RC w' b:=by have e:∀j,w'.cell? ⟨b,j,none⟩=w.cell? ⟨b,j,none⟩:=fun j=>k.cell (p:=⟨b,j,none⟩) hb;have f:∀j,w'.frozen? ⟨b,j,none⟩=w.frozen? ⟨b,j,none⟩:=fun j=>k.frozen (p:=⟨b,j,none⟩) hb;unfold RC;rw[e,e,e,e,e,f,f,f,f,f];exact h
theorem RC.some{w:World}{b:Nat}(h:RC w b):(w.cell? ⟨b,0,none⟩).isSome=true/\(w.cell? ⟨b,1,none⟩).isSome=true/\(w.cell? ⟨b,2,none⟩).isSome=true/\(w.cell? ⟨b,3,none⟩).isSome=true/\(w.cell? ⟨b,4,none⟩).isSome=true:=by obtain⟨⟨h0,h1,h2,h3,h4⟩,_⟩:=h;rw[h0,h1,h2,h3,h4];exact⟨rfl,rfl,rfl,rfl,rfl⟩
theorem Axj{w:World}{b:Nat}{v:Value}{x:Obj}(hb:b<w.heap.size)(h:∃x0 x1 x2 x3 x4,v=.agg #[x0,x1,x2,x3,x4]/\w.cell? ⟨b,0,none⟩=some x0/\w.cell? ⟨b,1,none⟩=some x1/\w.cell? ⟨b,2,none⟩=some x2/\w.cell? ⟨b,3,none⟩=some x3/\w.cell? ⟨b,4,none⟩=some x4):(loadVar 81 ⟨b,0,none⟩).run prog (w.alloc x)=.ok v (w.alloc x):=by obtain⟨x0,x1,x2,x3,x4,rfl,h0,h1,h2,h3,h4⟩:=h;have k:Below w.heap.size w (w.alloc x):=(Below.refl _ w).alloc (Cs _) _;exact YW ((k.cell (p:=⟨b,0,none⟩) hb).trans h0) ((k.cell (p:=⟨b,1,none⟩) hb).trans h1) ((k.cell (p:=⟨b,2,none⟩) hb).trans h2) ((k.cell (p:=⟨b,3,none⟩) hb).trans h3) ((k.cell (p:=⟨b,4,none⟩) hb).trans h4)
theorem DY(w:World)(b:Nat)(hb:b<w.heap.size)(x0 x1 x2 x3 x4:Value)(x:Obj)(h:RC w b):(loadVar 81 ⟨b,0,none⟩).run prog ((((((w.setCell ⟨b,0,none⟩ x0).setCell ⟨b,1,none⟩ x1).setCell ⟨b,2,none⟩ x2).setCell ⟨b,3,none⟩ x3).setCell ⟨b,4,none⟩ x4).alloc x)=.ok (.agg #[x0,x1,x2,x3,x4]) ((((((w.setCell ⟨b,0,none⟩ x0).setCell ⟨b,1,none⟩ x1).setCell ⟨b,2,none⟩ x2).setCell ⟨b,3,none⟩ x3).setCell ⟨b,4,none⟩ x4).alloc x):=by
 refine Axj (by simp only[World.size_setCell];exact hb) ⟨x0,x1,x2,x3,x4,rfl,?_⟩
 obtain⟨⟨g0,g1,g2,g3,g4⟩,_⟩:=h;refine⟨?_,?_,?_,?_,?_⟩
 ·rw[Gy (by decide),Gy (by decide),Gy (by decide),Gy (by decide)];exact World.cell?_setCell_same _ _ _ g0
 ·rw[Gy (by decide),Gy (by decide),Gy (by decide)];exact World.cell?_setCell_same _ _ _ ((Gy (by decide)).trans g1)
 ·rw[Gy (by decide),Gy (by decide)];exact World.cell?_setCell_same _ _ _ ((Gy (by decide)).trans ((Gy (by decide)).trans g2))
 ·rw[Gy (by decide)];exact World.cell?_setCell_same _ _ _ ((Gy (by decide)).trans ((Gy (by decide)).trans ((Gy (by decide)).trans g3)))
 ·exact World.cell?_setCell_same _ _ _ ((Gy (by decide)).trans ((Gy (by decide)).trans ((Gy (by decide)).trans ((Gy (by decide)).trans g4))))
theorem Rc{B:Nat}{a w:World}(h:Below B a w){b:Nat}(hb:B<=b)(hB:B<=w.heap.size)(x0 x1 x2 x3 x4:Value)(x:Obj):Below B a ((((((w.setCell ⟨b,0,none⟩ x0).setCell ⟨b,1,none⟩ x1).setCell ⟨b,2,none⟩ x2).setCell ⟨b,3,none⟩ x3).setCell ⟨b,4,none⟩ x4).alloc x):=
 have k:=Ru h hb x0 x1 x2 x3 x4
 k.alloc (by simp only[World.size_setCell];exact hB) _
theorem GZ.set5al{w:World}{a:Addr}{b:Aj}{b0:Nat}{x0 x1 x2 x3 x4:Value}{x:Obj}(h:GZ w a b)(Hp:a.block≠b0):GZ ((((((w.setCell ⟨b0,0,none⟩ x0).setCell ⟨b0,1,none⟩ x1).setCell ⟨b0,2,none⟩ x2).setCell ⟨b0,3,none⟩ x3).setCell ⟨b0,4,none⟩ x4).alloc x) a b:=
 have q:=h.set5 (x0:=x0) (x1:=x1) (x2:=x2) (x3:=x3) (x4:=x4) Hp
 q.below ((Below.refl _ _).alloc (Cs _) _) q.2.1
theorem al1(w:World)(x:Obj):(w.alloc x).heap[w.heap.size]?=some x:=Array.getElem?_push_size
def okW(w:World):Prop:=gU.ok w/\∀k,gU.bl k->k<w.heap.size
theorem okW.below{w w':World}(h:okW w)(k:Below w.heap.size w w'):okW w':=⟨gU.stable w w' (fun j hj hl=>k.block j hl) h.1,fun j hj=>Gf (h.2 j hj) k.size⟩
structure Hid(p:Prop):Prop where
 v:p
set_option maxHeartbeats 8000000 in
theorem Ayn(Bd4:∀(W:World)(s:Aj),okW W->Cm s->s.length<=1000000->Calls prog 121 #[.string (Ab s)] W fun e w'=>Below W.heap.size W w'/\DbP W w' s e)(A75:∀(W:World)(s:Aj),okW W->Cm s->s.length<=1000000->Calls prog 122 #[.string (Ab s)] W fun e w'=>Below W.heap.size W w'/\∃o1 o2 o3,e=.returned (.tuple #[.agg #[.bool o1,.string o2,.int .i64 o3],.int .i64 (Gk s)])){ms:List (Aj × JV)}(hB:∀m∈ms,Cm m.1)(hB2:∀m∈ms,Cm m.2.2.1/\m.2.2.1.length<=1000000){mb:Nat}{w:World}(hU:okW w)(hM:OP w mb ms):
  Calls prog 93 #[.map (some mb)] w fun e w'=>Below w.heap.size w w'/\ItP w w' (Qn (Dg Ue ms) (Dg AB ms) (Dg nmO ms) (Dg nmX ms) (Dg nmP ms)) e:=by
 have hgB:∀nm,Cm (Dg nm ms).2.1/\(Dg nm ms).2.1.length<=1000000:=by
  intro nm;unfold Dg Pz;cases hq:ms.find? fun m=>m.1==nm with
  |none=>exact⟨(fun x hx=>nomatch hx),Nat.zero_le _⟩
  |some m=>exact hB2 m (List.mem_of_find?_eq_some hq)
 obtain⟨hTB,hTL⟩:=hgB Ue;obtain⟨hCB,hCL⟩:=hgB AB;obtain⟨hOB,hOL⟩:=hgB nmO;obtain⟨hXB,hXL⟩:=hgB nmX;obtain⟨hPB,hPL⟩:=hgB nmP;clear hgB;have mixed:prog.follows Departure.mixedOrders=true:=by kernel_rfl
 have key:∀{W:World},OP W mb ms->(Instr.lookup 167 (.map (some mb)) (.string ⟨#[116,121,112,101]⟩) false).run prog W=.ok (.agg #[.int .i64 (Dg Ue ms).1,.string (Ab (Dg Ue ms).2.1),.bool (Dg Ue ms).2.2]) W/\(Instr.lookup 167 (.map (some mb)) (.string ⟨#[99,104,97,108,108,101,110,103,101]⟩) false).run prog W=.ok (.agg #[.int .i64 (Dg AB ms).1,.string (Ab (Dg AB ms).2.1),.bool (Dg AB ms).2.2]) W/\(Instr.lookup 167 (.map (some mb)) (.string ⟨#[111,114,105,103,105,110]⟩) false).run prog W=.ok (.agg #[.int .i64 (Dg nmO ms).1,.string (Ab (Dg nmO ms).2.1),.bool (Dg nmO ms).2.2]) W:=
  fun h=>⟨PK h hB (nm:=Ue) (fun x hx=>by simp[Ue] at hx;omega),PK h hB (nm:=AB) (fun x hx=>by simp[AB] at hx;omega),PK h hB (nm:=nmO) (fun x hx=>by simp[nmO] at hx;omega)⟩
 have key2:∀{W:World},OP W mb ms->(Instr.lookup 167 (.map (some mb)) (.string ⟨#[99,114,111,115,115,79,114,105,103,105,110]⟩) false).run prog W=.ok (.agg #[.int .i64 (Dg nmX ms).1,.string (Ab (Dg nmX ms).2.1),.bool (Dg nmX ms).2.2]) W/\(Instr.lookup 167 (.map (some mb)) (.string ⟨#[116,111,112,79,114,105,103,105,110]⟩) false).run prog W=.ok (.agg #[.int .i64 (Dg nmP ms).1,.string (Ab (Dg nmP ms).2.1),.bool (Dg nmP ms).2.2]) W:=
  fun h=>⟨PK h hB (nm:=nmX) (fun x hx=>by simp[nmX] at hx;omega),PK h hB (nm:=nmP) (fun x hx=>by simp[nmP] at hx;omega)⟩
 have b0:Below w.heap.size w (w.alloc (.cells #[.int .i64 0,.slice none 0 0,.string ⟨#[]⟩,.bool false,.string ⟨#[]⟩] 81)):=(Below.refl _ w).alloc (Cs _) _;have b1:=b0.alloc b0.size (.cells #[.int .i64 0,.string ⟨#[]⟩,.bool false] 203);have b2:=b1.alloc b1.size (.cells #[.int .i64 0,.string ⟨#[]⟩,.bool false] 203);have b3:=b2.alloc b2.size (.cells #[.int .i64 0,.string ⟨#[]⟩,.bool false] 203);obtain⟨k0,k1,k2⟩:=key (hM.below b0.drew);obtain⟨l0,l1,l2⟩:=key (hM.below b1.drew);obtain⟨m0,m1,m2⟩:=key (hM.below b2.drew);obtain⟨n0,n1,n2⟩:=key (hM.below b3.drew)
 have bb:∀x1 x2 x3,Below w.heap.size w ((((w.alloc (.cells #[.int .i64 0,.slice none 0 0,.string ⟨#[]⟩,.bool false,.string ⟨#[]⟩] 81)).alloc x1).alloc x2).alloc x3).drew:=fun x1 x2 x3=>by
  have c1:=b0.alloc b0.size x1;have c2:=c1.alloc c1.size x2;exact (c2.alloc c2.size x3).drew
 obtain⟨_,p1,q1⟩:=key (hM.below (bb (.cells #[.int .i64 (Dg Ue ms).1,.string (Ab (Dg Ue ms).2.1),.bool (Dg Ue ms).2.2] 203) (.cells #[.int .i64 0,.string ⟨#[]⟩,.bool false] 203) (.cells #[.int .i64 0,.string ⟨#[]⟩,.bool false] 203)));obtain⟨_,p2,q2⟩:=key (hM.below (bb (.cells #[.int .i64 0,.string ⟨#[]⟩,.bool false] 203) (.cells #[.int .i64 (Dg Ue ms).1,.string (Ab (Dg Ue ms).2.1),.bool (Dg Ue ms).2.2] 203) (.cells #[.int .i64 0,.string ⟨#[]⟩,.bool false] 203)));obtain⟨_,p3,q3⟩:=key (hM.below (bb (.cells #[.int .i64 0,.string ⟨#[]⟩,.bool false] 203) (.cells #[.int .i64 0,.string ⟨#[]⟩,.bool false] 203) (.cells #[.int .i64 (Dg Ue ms).1,.string (Ab (Dg Ue ms).2.1),.bool (Dg Ue ms).2.2] 203)))
 obtain⟨_,_,q4⟩:=key (hM.below (bb (.cells #[.int .i64 (Dg Ue ms).1,.string (Ab (Dg Ue ms).2.1),.bool (Dg Ue ms).2.2] 203) (.cells #[.int .i64 (Dg AB ms).1,.string (Ab (Dg AB ms).2.1),.bool (Dg AB ms).2.2] 203) (.cells #[.int .i64 0,.string ⟨#[]⟩,.bool false] 203)));obtain⟨_,_,q5⟩:=key (hM.below (bb (.cells #[.int .i64 (Dg Ue ms).1,.string (Ab (Dg Ue ms).2.1),.bool (Dg Ue ms).2.2] 203) (.cells #[.int .i64 0,.string ⟨#[]⟩,.bool false] 203) (.cells #[.int .i64 (Dg AB ms).1,.string (Ab (Dg AB ms).2.1),.bool (Dg AB ms).2.2] 203)));obtain⟨_,_,q6⟩:=key (hM.below (bb (.cells #[.int .i64 (Dg AB ms).1,.string (Ab (Dg AB ms).2.1),.bool (Dg AB ms).2.2] 203) (.cells #[.int .i64 (Dg Ue ms).1,.string (Ab (Dg Ue ms).2.1),.bool (Dg Ue ms).2.2] 203) (.cells #[.int .i64 0,.string ⟨#[]⟩,.bool false] 203)))
 obtain⟨_,_,q7⟩:=key (hM.below (bb (.cells #[.int .i64 (Dg AB ms).1,.string (Ab (Dg AB ms).2.1),.bool (Dg AB ms).2.2] 203) (.cells #[.int .i64 0,.string ⟨#[]⟩,.bool false] 203) (.cells #[.int .i64 (Dg Ue ms).1,.string (Ab (Dg Ue ms).2.1),.bool (Dg Ue ms).2.2] 203)));obtain⟨_,_,q8⟩:=key (hM.below (bb (.cells #[.int .i64 0,.string ⟨#[]⟩,.bool false] 203) (.cells #[.int .i64 (Dg Ue ms).1,.string (Ab (Dg Ue ms).2.1),.bool (Dg Ue ms).2.2] 203) (.cells #[.int .i64 (Dg AB ms).1,.string (Ab (Dg AB ms).2.1),.bool (Dg AB ms).2.2] 203)));obtain⟨_,_,q9⟩:=key (hM.below (bb (.cells #[.int .i64 0,.string ⟨#[]⟩,.bool false] 203) (.cells #[.int .i64 (Dg AB ms).1,.string (Ab (Dg AB ms).2.1),.bool (Dg AB ms).2.2] 203) (.cells #[.int .i64 (Dg Ue ms).1,.string (Ab (Dg Ue ms).2.1),.bool (Dg Ue ms).2.2] 203)))
 have hbb:∀x1 x2 x3,Below w.heap.size w ((((w.alloc cd0).alloc x1).alloc x2).alloc x3).drew:=bb;clear key bb;generalize Dg Ue ms=vT at *
 generalize Dg AB ms=vC at *
 generalize Dg nmO ms=vO at *
 generalize Dg nmX ms=vX at *
 generalize Dg nmP ms=vP at *
 go_enter Tryz.func93,Tryz.ntmps93
 go_upto_region 1 with fail
 go_cut [4,5,6] (fun s4 s5 s6 wx=>Be3 w vT vC vO s4 s5 s6 wx)
 case first=>
  go_region_o
  all_goals (go_wp2_with fail;go_meet;(refine⟨_,_,_,rfl,rfl,rfl,by omega,by omega,by omega,?_,?_,?_,?_,hbb _ _ _⟩<;>first|exact (al4 _ _ _ _ _).1|exact (al4 _ _ _ _ _).2.1|exact (al4 _ _ _ _ _).2.2.1|exact (al4 _ _ _ _ _).2.2.2))
 case rest=>
  rename World=>w2
  obtain⟨bT,bC,bO,rfl,rfl,rfl,hbT,hbC,hbO,hc,hT,hC,hO,hbw⟩:=hcut;clear k0 k1 k2 l0 l1 l2 m0 m1 m2 n0 n1 n2 p1 p2 p3 q1 q2 q3 q4 q5 q6 q7 q8 q9;have hMc:=hM.below hbw;have d1:Below w2.heap.size w2 (w2.alloc (.cells #[.int .i64 0,.string ⟨#[]⟩,.bool false] 203)):=(Below.refl _ w2).alloc (Cs _) _;have d2:=d1.alloc d1.size (.cells #[.int .i64 0,.string ⟨#[]⟩,.bool false] 203)
  have dd:∀x1 x2,Below w2.heap.size w2 ((w2.alloc x1).alloc x2).drew:=fun x1 x2=>by
   have c1:Below w2.heap.size w2 (w2.alloc x1):=(Below.refl _ w2).alloc (Cs _) _;exact (c1.alloc c1.size x2).drew
  obtain⟨k0,k1⟩:=key2 (hMc.below (Below.refl w2.heap.size w2).drew);obtain⟨l0,l1⟩:=key2 (hMc.below d1.drew);obtain⟨m0,m1⟩:=key2 (hMc.below d2.drew);obtain⟨_,p1⟩:=key2 (hMc.below (dd (.cells #[.int .i64 vX.1,.string (Ab vX.2.1),.bool vX.2.2] 203) (.cells #[.int .i64 0,.string ⟨#[]⟩,.bool false] 203)));obtain⟨_,p2⟩:=key2 (hMc.below (dd (.cells #[.int .i64 0,.string ⟨#[]⟩,.bool false] 203) (.cells #[.int .i64 vX.1,.string (Ab vX.2.1),.bool vX.2.2] 203)));clear key2
  go_upto_region 2 with fail
  go_cut [7,8] (fun s7 s8 wx=>Bgs w w2 vX vP s7 s8 wx)
  case first=>
   go_region_o
   all_goals (go_wp2_with fail;go_meet;(refine⟨_,_,rfl,rfl,by omega,by omega,?_,?_,dd _ _⟩<;>first|exact (al2 _ _ _).1|exact (al2 _ _ _).2))
  case rest=>
   clear k0 k1 l0 l1 m0 m1 p1 p2;obtain⟨bX,bP,rfl,rfl,hbX,hbP,hX,hP,Ad5⟩:=hcut
   rename World=>wd
   have hwc:w.heap.size<w2.heap.size:=by
    rcases Ik w.heap.size w2.heap.size with q|q
    ·exact q
    ·rw[Array.getElem?_eq_none q] at hc;cases hc
   have Cq:∀{b:Nat} {o:Obj},w2.heap[b]?=some o->b<w2.heap.size:=fun {b o} h=>by
    rcases Ik b w2.heap.size with q|q
    ·exact q
    ·rw[Array.getElem?_eq_none q] at h;cases h
   obtain⟨⟨c0,c1,c2,c3,c4⟩,f0,f1,f2,f3,f4⟩:=Asj ((Ad5.block _ (Cq hc)).trans hc);have hrc:RC wd w.heap.size:=⟨⟨c0,c1,c2,c3,c4⟩,f0,f1,f2,f3,f4⟩
   have hsm:=hrc.some;obtain⟨T0,T1,T2⟩:=PE ((Ad5.block _ (Cq hT)).trans hT);obtain⟨C0,C1,C2⟩:=PE ((Ad5.block _ (Cq hC)).trans hC);obtain⟨O0,O1,O2⟩:=PE ((Ad5.block _ (Cq hO)).trans hO);obtain⟨X0,X1,X2⟩:=PE hX;obtain⟨P0,P1,P2⟩:=PE hP;have hbd:Below w.heap.size w wd:=hbw.trans ((Ad5).mono hbw.size);by_cases hT4:vT.1=4
   rotate_left
   ·have hq:(vT.1 != 4)=true:=by simp[hT4]
    have hI:Qn vT vC vO vX vP=.error 4:=by unfold Qn;rw[Cx (.inl hT4)]
    rename Exit->Act->World->Prop=>Q0;clear_value (hF:Q0=_)
    replace hF:=Hid.mk hF
    go_wp2
    (try simp only[Exit.inBlock,Exit.then]);rw[hF.v]
    exact Uq (b:=w.heap.size) rfl rfl (TP wd w.heap.size _ _ _ _ _ hsm) ⟨Ru hbd (Cs _) _ _ _ _ _,by rw[hI];exact⟨by decide,rfl⟩⟩
   by_cases hC4:vC.1=4
   rotate_left
   ·have hq:(vC.1 != 4)=true:=by simp[hC4]
    have hI:Qn vT vC vO vX vP=.error 4:=by unfold Qn;rw[Cx (.inr (.inl hC4))]
    rename Exit->Act->World->Prop=>Q0;clear_value (hF:Q0=_)
    replace hF:=Hid.mk hF
    go_wp2
    (try simp only[Exit.inBlock,Exit.then]);rw[hF.v]
    exact Uq (b:=w.heap.size) rfl rfl (TP wd w.heap.size _ _ _ _ _ hsm) ⟨Ru hbd (Cs _) _ _ _ _ _,by rw[hI];exact⟨by decide,rfl⟩⟩
   by_cases hO4:vO.1=4
   rotate_left
   ·have hq:(vO.1 != 4)=true:=by simp[hO4]
    have hI:Qn vT vC vO vX vP=.error 4:=by unfold Qn;rw[Cx (.inr (.inr hO4))]
    rename Exit->Act->World->Prop=>Q0;clear_value (hF:Q0=_)
    replace hF:=Hid.mk hF
    go_wp2
    (try simp only[Exit.inBlock,Exit.then]);rw[hF.v]
    exact Uq (b:=w.heap.size) rfl rfl (TP wd w.heap.size _ _ _ _ _ hsm) ⟨Ru hbd (Cs _) _ _ _ _ _,by rw[hI];exact⟨by decide,rfl⟩⟩
   have NF:Qn vT vC vO vX vP=if vX.1≠0/\vX.1≠2 then .error 4
    else if (vX.2.2=true/\vP.1≠4)\/(vX.2.2=false/\vP.1≠0) then .error 4
    else if vT.2.1=tyC then OI 1 vC vO vX vP else if vT.2.1=tyG then OI 2 vC vO vX vP else .error 3:=by
    unfold Qn;rw[Br (by rintro (h|h|h)<;>first|exact h hT4|exact h hC4|exact h hO4)]
   go_upto_region 5 with fail
   go_cut [47] (fun s47 wx=>∃q:Bool,s47=.bool q/\(q=true↔(vX.1≠0/\vX.1≠2))/\wx=wd)
   case first=>
    by_cases h0:vX.1=0
    ·have h1:(vX.1 != 0)=false:=by simp[h0]
     go_wp2_with fail
     go_meet
     exact⟨false,rfl,by simp[h0],rfl⟩
    ·have h1:(vX.1 != 0)=true:=by simp[h0]
     by_cases h2:vX.1=2
     ·have h3:(vX.1 != 2)=false:=by simp[h2]
      go_wp2_with fail
      go_meet
      exact⟨false,rfl,by simp[h2],rfl⟩
     ·have h3:(vX.1 != 2)=true:=by simp[h2]
      go_wp2_with fail
      go_meet
      exact⟨true,rfl,by simp[h0,h2],rfl⟩
   case rest=>
    obtain⟨q5,rfl,hq5,hwe⟩:=hcut;subst hwe;cases q5 with
    |true=>
     have hx1:=hq5.1 rfl;have hI:Qn vT vC vO vX vP=.error 4:=by rw[NF,Cx hx1]
     rename Exit->Act->World->Prop=>Q0;clear_value (hF:Q0=_)
     replace hF:=Hid.mk hF
     go_wp2
     (try simp only[Exit.inBlock,Exit.then]);rw[hF.v]
     exact Uq (b:=w.heap.size) rfl rfl (TP wc w.heap.size _ _ _ _ _ hsm) ⟨Ru hbd (Cs _) _ _ _ _ _,by rw[hI];exact⟨by decide,rfl⟩⟩
    |false=>
     have hx1:¬(vX.1≠0/\vX.1≠2):=fun h=>Bool.noConfusion (hq5.2 h);rw[Br hx1] at NF
     go_upto_region 7 with fail
     go_cut [65] (fun s65 wx=>∃q:Bool,s65=.bool q/\(q=true↔((vX.2.2=true/\vP.1≠4)\/(vX.2.2=false/\vP.1≠0)))/\wx=wc)
     case first=>
      cases hxt:vX.2.2 with
      |true=>
       rw[hxt] at X2;by_cases h4:vP.1=4
       ·have h1:(vP.1 != 4)=false:=by simp[h4]
        go_wp2_with fail
        go_meet
        exact⟨false,rfl,by simp[h4,hxt],rfl⟩
       ·have h1:(vP.1 != 4)=true:=by simp[h4]
        go_wp2_with fail
        go_meet
        exact⟨true,rfl,by simp[h4,hxt],rfl⟩
      |false=>
       rw[hxt] at X2;by_cases h4:vP.1=0
       ·have h1:(vP.1 != 0)=false:=by simp[h4]
        go_wp2_with fail
        go_meet
        exact⟨false,rfl,by simp[h4,hxt],rfl⟩
       ·have h1:(vP.1 != 0)=true:=by simp[h4]
        go_wp2_with fail
        go_meet
        exact⟨true,rfl,by simp[h4,hxt],rfl⟩
     case rest=>
      obtain⟨q7,rfl,hq7,hwe⟩:=hcut;subst hwe;cases q7 with
      |true=>
       have LD:=hq7.1 rfl;have hI:Qn vT vC vO vX vP=.error 4:=by rw[NF,Cx LD]
       rename Exit->Act->World->Prop=>Q0;clear_value (hF:Q0=_)
       replace hF:=Hid.mk hF
       go_wp2
       (try simp only[Exit.inBlock,Exit.then]);rw[hF.v]
       exact Uq (b:=w.heap.size) rfl rfl (TP wc w.heap.size _ _ _ _ _ hsm) ⟨Ru hbd (Cs _) _ _ _ _ _,by rw[hI];exact⟨by decide,rfl⟩⟩
      |false=>
       have LD:¬((vX.2.2=true/\vP.1≠4)\/(vX.2.2=false/\vP.1≠0)):=fun h=>Bool.noConfusion (hq7.2 h);rw[Br LD] at NF;clear hq5 hq7 hx1 LD;have hwd:w.heap.size<wc.heap.size:=Gf hwc Ad5.size;have Bkx:bT<wc.heap.size:=Gf (Cq hT) Ad5.size;have Bjh:bC<wc.heap.size:=Gf (Cq hC) Ad5.size;have hbC:((Ab vT.2.1).toList==[112,97,115,115,107,101,121,46,99,114,101,97,116,101])=decide (vT.2.1=tyC):=RO hTB (b:=tyC) (fun x hx=>by simp[tyC] at hx;omega)
       have hbG:((Ab vT.2.1).toList==[112,97,115,115,107,101,121,46,103,101,116])=decide (vT.2.1=tyG):=RO hTB (b:=tyG) (fun x hx=>by simp[tyG] at hx;omega)
       rename World=>wB
       go_upto_block 0 with fail
       go_cut [9] (fun s9 wx=>∃K:Int,Qn vT vC vO vX vP=OI K vC vO vX vP/\s9=.pointer (some ⟨wB.heap.size,0,none⟩)/\wx=wB.alloc (.cells #[.int .i64 K,.slice none 0 0,.string (Ab vO.2.1),.bool vX.2.2,.string (Ab vP.2.1)] 81))
       case first=>
        by_cases hTc:vT.2.1=tyC
        rotate_left
        ·rw[decide_eq_false hTc] at hbC;rw[Br hTc] at NF;by_cases hTg:vT.2.1=tyG
         rotate_left
         ·rw[decide_eq_false hTg] at hbG;have hI:Qn vT vC vO vX vP=.error 3:=by rw[NF,Br hTg]
          rename Exit->Act->World->Prop=>Q0;clear_value (hF:Q0=_)
          replace hF:=Hid.mk hF
          go_wp2
          (try simp only[Exit.inBlock,Exit.then]);rw[hF.v]
          exact Uq (b:=w.heap.size) rfl rfl (DY wB w.heap.size hwd _ _ _ _ _ _ hrc) ⟨Rc hbd (Cs _) hbd.size _ _ _ _ _ _,by rw[hI];exact⟨by decide,rfl⟩⟩
         ·rw[decide_eq_true hTg] at hbG;rw[Cx hTg] at NF;clear hTg hTc
          go_wp2_with fail
          go_meet
          exact⟨2,NF,rfl,rfl⟩
        ·rw[decide_eq_true hTc] at hbC;rw[Cx hTc] at NF;clear hTc hbG
         go_wp2_with fail
         go_meet
         exact⟨1,NF,rfl,rfl⟩
       case rest=>
        clear NF hbC hbG;obtain⟨K,NF,rfl,hwe⟩:=hcut;subst hwe
        rename World=>wc
        have hbA:=hbd.alloc hbd.size (.cells #[.int .i64 K,.slice none 0 0,.string (Ab vO.2.1),.bool vX.2.2,.string (Ab vP.2.1)] 81);have hsA:(wc.alloc (.cells #[.int .i64 K,.slice none 0 0,.string (Ab vO.2.1),.bool vX.2.2,.string (Ab vP.2.1)] 81)).heap.size=wc.heap.size+1:=Array.size_push _;have hkA:=al1 wc (.cells #[.int .i64 K,.slice none 0 0,.string (Ab vO.2.1),.bool vX.2.2,.string (Ab vP.2.1)] 81);have hrA:=hrc.below ((Below.refl wc.heap.size wc).alloc (Cs _) (.cells #[.int .i64 K,.slice none 0 0,.string (Ab vO.2.1),.bool vX.2.2,.string (Ab vP.2.1)] 81)) hwd
        go_wp2_with (go_at_call 121;refine (Bd4 _ vC.2.1 (hU.below hbA) hCB hCL).mono ?_)
        rintro e W3 ⟨LB,hp3⟩
        have ZD:Below w.heap.size w W3:=hbA.trans (LB.mono hbA.size);have hr3:=hrA.below LB (by rw[hsA];omega)
        have hm3:=hr3.some;obtain⟨⟨r30,r31,r32,r33,r34⟩,s30,s31,s32,s33,s34⟩:=hr3;have hs3:wc.heap.size+1<=W3.heap.size:=by have:=LB.size;rw[hsA] at this;exact this
        have Pp:=(LB.block _ (by rw[hsA];omega)).trans hkA
        obtain⟨⟨k0,k1,k2,k3,k4⟩,kf0,kf1,kf2,kf3,kf4⟩:=A3t Pp;unfold DbP at hp3;cases hdc:Sf vC.2.1 with
        |none=>
         rw[hdc] at hp3;obtain⟨ad,capN,rfl⟩:=hp3;have hI:Qn vT vC vO vX vP=.error 2:=by rw[NF];unfold OI;rw[hdc]
         rename Exit->Act->World->Prop=>Q0;clear_value (hF:Q0=_)
         replace hF:=Hid.mk hF
         go_wp2
         (try simp only[Exit.inBlock,Exit.then]);rw[hF.v]
         exact Uq (b:=w.heap.size) rfl rfl (TP W3 w.heap.size _ _ _ _ _ hm3) ⟨Ru ZD (Cs _) _ _ _ _ _,by rw[hI];exact⟨by decide,rfl⟩⟩
        |some b=>
         rw[hdc] at hp3;obtain⟨ad,cap,rfl,Wn⟩:=hp3;by_cases F3:b.length<1
         ·have hI:Qn vT vC vO vX vP=.error 9:=by rw[NF];unfold OI;rw[hdc];simp only;rw[Cx (.inl F3)]
          have MR:(b.length:Int)<1:=by omega
          rename Exit->Act->World->Prop=>Q0;clear_value (hF:Q0=_)
          replace hF:=Hid.mk hF
          go_wp2
          (try simp only[Exit.inBlock,Exit.then]);rw[hF.v]
          exact Uq (b:=w.heap.size) rfl rfl (TP W3 w.heap.size _ _ _ _ _ hm3) ⟨Ru ZD (Cs _) _ _ _ _ _,by rw[hI];exact⟨by decide,rfl⟩⟩
         by_cases Iy:64<b.length
         ·have hI:Qn vT vC vO vX vP=.error 9:=by rw[NF];unfold OI;rw[hdc];simp only;rw[Cx (.inr Iy)]
          have MR:¬(b.length:Int)<1:=by omega
          have Ot:(b.length:Int)>64:=by omega
          rename Exit->Act->World->Prop=>Q0;clear_value (hF:Q0=_)
          replace hF:=Hid.mk hF
          go_wp2
          (try simp only[Exit.inBlock,Exit.then]);rw[hF.v]
          exact Uq (b:=w.heap.size) rfl rfl (TP W3 w.heap.size _ _ _ _ _ hm3) ⟨Ru ZD (Cs _) _ _ _ _ _,by rw[hI];exact⟨by decide,rfl⟩⟩
         have MR:¬(b.length:Int)<1:=by omega
         have Ot:¬(b.length:Int)>64:=by omega
         obtain⟨a,rfl,hac,haw,hla⟩:=Wn (by rintro rfl;exact F3 (by decide))
         have Blm:wc.heap.size+1<=a.block:=by rw[hsA] at haw;exact haw
         have hI2:Qn vT vC vO vX vP=if Gk vO.2.1≠0 then .error (Gk vO.2.1) else if vX.2.2=true/\Gk vP.2.1≠0 then .error (Gk vP.2.1) else .ok (K,b,vO.2.1,vX.2.2,vP.2.1):=by
          rw[NF];unfold OI;rw[hdc];simp only;rw[Br (by omega)]
         have Ad4:Below w.heap.size w (W3.setCell ⟨wc.heap.size,1,none⟩ (.slice (some a) b.length cap)):=ZD.setCell (p:=⟨wc.heap.size,1,none⟩) (Nat.le_of_lt hwd) _;have Bdy:Below wc.heap.size W3 (W3.setCell ⟨wc.heap.size,1,none⟩ (.slice (some a) b.length cap)):=(Below.refl wc.heap.size W3).setCell (p:=⟨wc.heap.size,1,none⟩) (Cs _) _;have hr4:=(show RC W3 w.heap.size from ⟨⟨r30,r31,r32,r33,r34⟩,s30,s31,s32,s33,s34⟩).below Bdy hwd;have Be4:=hla.set (b0:=wc.heap.size) (j:=1) (v:=.slice (some a) b.length cap) (by omega);have hs4:(W3.setCell ⟨wc.heap.size,1,none⟩ (.slice (some a) b.length cap)).heap.size=W3.heap.size:=World.size_setCell ..;have j0:(W3.setCell ⟨wc.heap.size,1,none⟩ (.slice (some a) b.length cap)).cell? ⟨wc.heap.size,0,none⟩=some (.int .i64 K):=(Gy (by decide)).trans k0
         have j1:(W3.setCell ⟨wc.heap.size,1,none⟩ (.slice (some a) b.length cap)).cell? ⟨wc.heap.size,1,none⟩=some (.slice (some a) b.length cap):=World.cell?_setCell_same _ _ _ k1;have j2:(W3.setCell ⟨wc.heap.size,1,none⟩ (.slice (some a) b.length cap)).cell? ⟨wc.heap.size,2,none⟩=some (.string (Ab vO.2.1)):=(Gy (by decide)).trans k2;have j3:(W3.setCell ⟨wc.heap.size,1,none⟩ (.slice (some a) b.length cap)).cell? ⟨wc.heap.size,3,none⟩=some (.bool vX.2.2):=(Gy (by decide)).trans k3;have j4:(W3.setCell ⟨wc.heap.size,1,none⟩ (.slice (some a) b.length cap)).cell? ⟨wc.heap.size,4,none⟩=some (.string (Ab vP.2.1)):=(Gy (by decide)).trans k4
         go_wp2_with (go_at_call 122;refine (A75 _ vO.2.1 (hU.below Ad4) hOB hOL).mono ?_)
         rintro e W5 ⟨hb5,o1,o2,o3,rfl⟩
         have hs5:W3.heap.size<=W5.heap.size:=by have:=hb5.size;rw[hs4] at this;exact this
         have An9:Below w.heap.size w W5:=Ad4.trans (hb5.mono Ad4.size);have hr5:=hr4.below hb5 (by rw[hs4];omega)
         have Bdk:=hr5;obtain⟨⟨r50,r51,r52,r53,r54⟩,s50,s51,s52,s53,s54⟩:=Bdk;have hw5:w.heap.size<W5.heap.size:=by omega
         have hc5:wc.heap.size<W5.heap.size:=by omega
         have A4r:=Be4.below hb5 (by rw[hs4];exact hla.2.1)
         have Se:wc.heap.size<(W3.setCell ⟨wc.heap.size,1,none⟩ (.slice (some a) b.length cap)).heap.size:=by rw[hs4];omega
         have i0:=(hb5.cell (p:=⟨wc.heap.size,0,none⟩) Se).trans j0;have i1:=(hb5.cell (p:=⟨wc.heap.size,1,none⟩) Se).trans j1;have i2:=(hb5.cell (p:=⟨wc.heap.size,2,none⟩) Se).trans j2;have i3:=(hb5.cell (p:=⟨wc.heap.size,3,none⟩) Se).trans j3;have i4:=(hb5.cell (p:=⟨wc.heap.size,4,none⟩) Se).trans j4;have hbL:=(Below.refl W5.heap.size W5).alloc (Cs _) (.cells #[.bool o1,.string o2,.int .i64 o3] 117);have A1b:Below w.heap.size w (W5.alloc (.cells #[.bool o1,.string o2,.int .i64 o3] 117)):=An9.alloc An9.size _;by_cases ho:Gk vO.2.1=0
         rotate_left
         ·have hoB:(Gk vO.2.1 != 0)=true:=by simp[ho]
          have hI:Qn vT vC vO vX vP=.error (Gk vO.2.1):=by rw[hI2,Cx ho]
          rename Exit->Act->World->Prop=>Q0;clear_value (hF:Q0=_)
          replace hF:=Hid.mk hF
          go_wp2
          (try simp only[Exit.inBlock,Exit.then]);rw[hF.v]
          exact Uq (b:=w.heap.size) rfl rfl (DY W5 w.heap.size hw5 _ _ _ _ _ _ hr5) ⟨Rc An9 (Cs _) An9.size _ _ _ _ _ _,by rw[hI];exact⟨ho,rfl⟩⟩
         have hoB:(Gk vO.2.1 != 0)=false:=by simp[ho]
         rw[Br (by simp[ho])] at hI2;have A7b:=A4r.below hbL (by have:=A4r.2.1;exact this)
         cases hxt:vX.2.2 with
         |false=>
          rw[hxt] at i3;have hI:Qn vT vC vO vX vP=.ok (K,b,vO.2.1,false,vP.2.1):=by rw[hI2,Br (by simp[hxt]),hxt]
          rename Exit->Act->World->Prop=>Q0;clear_value (hF:Q0=_)
          replace hF:=Hid.mk hF
          go_wp2
          (try simp only[Exit.inBlock,Exit.then]);rw[hF.v]
          exact Uq (b:=w.heap.size) rfl rfl (DY W5 w.heap.size hw5 _ _ _ _ _ _ hr5) ⟨Rc An9 (Cs _) An9.size _ _ _ _ _ _,by rw[hI];exact⟨a,cap,rfl,hac,by omega,A4r.set5al (by omega)⟩⟩
         |true=>
          rw[hxt] at i3
          go_wp2_with (go_at_call 122;refine (A75 _ vP.2.1 (hU.below A1b) hPB hPL).mono ?_)
          rintro e W7 ⟨hb7,p1,p2,p3,rfl⟩
          have hsL:(W5.alloc (.cells #[.bool o1,.string o2,.int .i64 o3] 117)).heap.size=W5.heap.size+1:=Array.size_push _;have Alg:Below w.heap.size w W7:=A1b.trans (hb7.mono A1b.size);have hr7:=(hr5.below hbL hw5).below hb7 (by rw[hsL];omega)
          have Bfb:=hr7;obtain⟨⟨r70,r71,r72,r73,r74⟩,s70,s71,s72,s73,s74⟩:=Bfb;have A13:=A7b.below hb7 (by have:=A7b.2.1;exact this)
          have Ama:=(hbL.trans (hb7.mono hbL.size))
          have l0:=(Ama.cell (p:=⟨wc.heap.size,0,none⟩) (show wc.heap.size<W5.heap.size by omega)).trans i0;have l1:=(Ama.cell (p:=⟨wc.heap.size,1,none⟩) (show wc.heap.size<W5.heap.size by omega)).trans i1;have l2:=(Ama.cell (p:=⟨wc.heap.size,2,none⟩) (show wc.heap.size<W5.heap.size by omega)).trans i2;have l3:=(Ama.cell (p:=⟨wc.heap.size,3,none⟩) (show wc.heap.size<W5.heap.size by omega)).trans i3;have l4:=(Ama.cell (p:=⟨wc.heap.size,4,none⟩) (show wc.heap.size<W5.heap.size by omega)).trans i4;have hs7:=Ama.size;have hw7:w.heap.size<W7.heap.size:=by omega
          have hc7:wc.heap.size<W7.heap.size:=by omega
          have hbM:=(Below.refl W7.heap.size W7).alloc (Cs _) (.cells #[.bool p1,.string p2,.int .i64 p3] 117);have Blz:Below w.heap.size w (W7.alloc (.cells #[.bool p1,.string p2,.int .i64 p3] 117)):=Alg.alloc Alg.size _;by_cases hp:Gk vP.2.1=0
          rotate_left
          ·have hoB:(Gk vP.2.1 != 0)=true:=by simp[hp]
           have hI:Qn vT vC vO vX vP=.error (Gk vP.2.1):=by rw[hI2,Cx ⟨hxt,hp⟩]
           rename Exit->Act->World->Prop=>Q0;clear_value (hF:Q0=_)
           replace hF:=Hid.mk hF
           go_wp2
           (try simp only[Exit.inBlock,Exit.then]);rw[hF.v]
           exact Uq (b:=w.heap.size) rfl rfl (DY W7 w.heap.size hw7 _ _ _ _ _ _ hr7) ⟨Rc Alg (Cs _) Alg.size _ _ _ _ _ _,by rw[hI];exact⟨hp,rfl⟩⟩
          have hpB:(Gk vP.2.1 != 0)=false:=by simp[hp]
          have Bl0:=A13.below hbM (by have:=A13.2.1;exact this)
          have hI:Qn vT vC vO vX vP=.ok (K,b,vO.2.1,true,vP.2.1):=by rw[hI2,Br (by simp[hp]),hxt]
          rename Exit->Act->World->Prop=>Q0;clear_value (hF:Q0=_)
          replace hF:=Hid.mk hF
          go_wp2
          (try simp only[Exit.inBlock,Exit.then]);rw[hF.v]
          exact Uq (b:=w.heap.size) rfl rfl (DY W7 w.heap.size hw7 _ _ _ _ _ _ hr7) ⟨Rc Alg (Cs _) Alg.size _ _ _ _ _ _,by rw[hI];exact⟨a,cap,rfl,hac,by omega,A13.set5al (by omega)⟩⟩
end
section
open Go Go.RowKit Go.Lib
def OkT(L:Nat)(s:Aj):Prop:=Cm s/\s.length<=4*L
theorem PC:∀(n:Nat)(out l s q:Aj),Cm l->L7 n out l=(some s,q)->s.length<=out.length+4*l.length
  |0,_,_,_,_,_,h=>by cases h
  |_+1,_,[],_,_,_,h=>by cases h
  |n+1,out,c::l,s,q,hl,h=>by
    have e:L7 (n+1) out (c::l)=if c<32 then (none,c::l) else if c=34 then (some out,l) else if c=92 then
        (match Sx l with
         |(some x,r')=>L7 n (out++Lib.encodeRuneZ x) r'
         |(none,r')=>(none,r')) else L7 n (out++[c]) l:=rfl
    have Ww:=Ds hl
    rw[e] at h
    split at h
    · cases h
    split at h
    · cases h;simp
    split at h
    · have h2:=Zn (D7.self Ww.2)
      rcases hq:Sx l with⟨o,r⟩
      rw[hq] at h2 h
      cases o with
      |none=>cases h
      |some x=>
        have:=PC n _ r s q h2.B h
        have h3:=Lib.encodeRuneZ_length x
        have h4:r.length<=l.length:=h2.le
        simp at this ⊢
        omega
    · have:=PC n _ l s q Ww.2 h
      simp at this ⊢
      omega
theorem Adv{l s q:Aj}(hl:Cm l)(h:Gb l=(some s,q)):OkT l.length s:=by
 refine⟨Aje hl h,?_⟩;cases l with
 |nil=>cases h
 |cons c l=>
  have e:Gb (c::l)=if c=34 then L7 (l.length+1) [] l else (none,c::l):=rfl
  rw[e] at h;split at h
  ·have:=PC _ _ _ _ _ (Ds hl).2 h;simp at this ⊢;omega
  ·cases h
theorem OkT.mono{L M:Nat}{s:Aj}(h:OkT L s)(hm:L<=M):OkT M s:=⟨h.1,by have:=h.2;omega⟩
theorem OkT.nil(L:Nat):OkT L []:=⟨(fun x hx=>nomatch hx),Nat.zero_le _⟩
theorem Apz{l r:Aj}{v:JV}(hl:Cm l)(hs:l.length<=1000000)(h:G1 8 l=.ok (v,r)):D7 (Ab l) r:=by
 obtain⟨res,_,hr⟩:=Azh (fu:=1000001) (d:=0) (t:=Ab l) (by rw[Ag];exact hs) (by rw[Ag];omega) 8 1 (by omega) (by omega) l (D7.self hl)
 rw[h] at hr;exact hr.1
theorem Axv:∀{k:Nat}{l r:Aj}{v:JV},Cm l->G1 k l=.ok (v,r)->OkT l.length v.2.1:=by
 intro k l r v hl h;unfold G1 at h;split at h
 ·split at h
  ·cases h
  ·split at h
   ·cases h
   ·cases h;exact OkT.nil _
 ·split at h
  ·cases h
  ·split at h
   ·cases h
   ·cases h;exact OkT.nil _
 ·rename_i r0;unfold GF at h;rcases hq:Gb (34::r0) with⟨o,q⟩;rw[hq] at h;cases o with
  |none=>cases h
  |some s=>cases h;exact Adv hl hq
 ·repeat' split at h
  all_goals first|(cases h;exact OkT.nil _)|cases h
theorem Ayf{L:Nat}(hL:L<=1000000):∀(n:Nat)(ms:List (Aj × JV)) (l r:Aj)(ms':List (Aj × JV)),Cm l->l.length<=L->(∀m∈ms,OkT L m.1/\OkT L m.2.2.1)->X8 (G1 8) true n ms l=.ok (ms',r)->∀m∈ms',OkT L m.1/\OkT L m.2.2.1:=by
 intro n
 induction n with
 |zero=>intro ms l r ms' _ _ _ h;cases h
 |succ n ih=>
  intro ms l r ms' hl hs hm h;rw[HI] at h;rcases hx:Gb l with⟨o,q⟩;rw[hx] at h;cases o with
  |none=>cases h
  |some nm=>
   have TS:=Adv hl hx;have hq:=Jj (D7.self hl);rw[hx] at hq;simp only at h;split at h
   ·cases h
   cases h1:A8 [58] (Bh q) with
   |none=>rw[h1] at h;cases h
   |some r1=>
    rw[h1] at h;have TE:=Ce (Bl (Ce hq) h1);simp only at h;cases hv:G1 8 (Bh r1) with
    |error e=>rw[hv] at h;cases h
    |ok x=>
     obtain⟨v,r2⟩:=x;rw[hv] at h;have ET:=TE.le;have hvo:=Axv TE.B hv;have UU:=TE.trans (Apz TE.B (by omega) hv)
     have Sv:∀m∈ms++[(nm,v)],OkT L m.1/\OkT L m.2.2.1:=by
      intro m M8;rcases Bx.1 M8 with M8|M8
      ·exact hm m M8
      ·simp at M8;subst M8;exact⟨TS.mono hs,hvo.mono (by omega)⟩
     simp only at h;cases h2:A8 [125] (Bh r2) with
     |some r3=>rw[h2] at h;cases h;exact Sv
     |none=>
      rw[h2] at h;simp only at h;cases h3:A8 [44] (Bh r2) with
      |none=>rw[h3] at h;cases h
      |some r3=>
       rw[h3] at h;have hr3:=Ce (Bl (Ce UU) h3);exact ih _ _ _ _ hr3.B (by have:=hr3.le;omega) Sv h
theorem Ayg{l:Aj}{ms:List (Aj × JV)}(hl:Cm l)(hs:l.length<=1000000)(h:Ac4 8 l=.ok ms):∀m∈ms,OkT l.length m.1/\OkT l.length m.2.2.1:=by
 rw[JB] at h;have h0:=Ce (D7.self hl);cases h1:A8 [123] (Bh l) with
 |none=>rw[h1] at h;cases h
 |some r=>
  rw[h1] at h;have hr:=Bl h0 h1;simp only at h;rw[AK] at h;have UU:=Ce hr;cases h2:A8 [125] (Bh r) with
  |some r'=>
   rw[h2] at h;simp only at h;split at h
   ·cases h;exact fun m hm=>by cases hm
   ·cases h
  |none=>
   rw[h2] at h;simp only at h;cases h3:X8 (G1 8) true ((Bh r).length+1) [] (Bh r) with
   |error e=>rw[h3] at h;cases h
   |ok x=>
    obtain⟨ms',r'⟩:=x;rw[h3] at h;simp only at h;split at h
    ·cases h;exact Ayf hs _ _ _ _ _ UU.B UU.le (fun m hm=>by cases hm) h3
    ·cases h
def VF(ms:List (Aj × JV)):JR CD:=Qn (Dg Ue ms) (Dg AB ms) (Dg nmO ms) (Dg nmX ms) (Dg nmP ms)
def Mg(t:ByteArray):JR CD:=
 if 1024<t.size then .error 8 else if Lib.validD t.data.toList=false then .error 6 else match Ac4 8 (B0 t) with
  |.error e=>.error e
  |.ok ms=>VF ms
theorem Awf{G:CK}{P:Program}{f:FuncId}{args vals:Ae}{us rs:List Value}(hs:C6 G P f args ⟨vals,[]⟩)(ha:Bj RU args us)(hr:Bj RU vals rs){w:World}(hG:G.ok w)(hGl:∀k,G.bl k->k<w.heap.size):Calls P f us.toArray w fun e w'=>e=.returned (J9 rs)/\Below w.heap.size w w':=by
 have hi:Ins w (fun _=>False) Abd args us:=⟨fun _ h=>h.elim,fun _ h=>h.elim,fun k h=>absurd h (Tp k),fun i j i' j' b o o' h=>(by cases h),fun i q h=>(by cases h),FP ha⟩
 refine (hs.2 w _ _ _ hi hG (fun k hk=>⟨hGl k hk,Tp k⟩)).mono ?_
 rintro e w' ⟨ws,own,rfl,out⟩
 have hv:=RT hr out.vals;subst hv;exact⟨rfl,out.os,out.tape,out.output,out.ext.size,fun k hk=>out.ext.keep k hk (Tp k)⟩
theorem Alq(W:World)(s:Aj)(hW:okW W)(hB:Cm s)(hs:s.length<=1000000):Calls prog 122 #[.string (Ab s)] W fun e w'=>Below W.heap.size W w'/\∃o1 o2 o3,e=.returned (.tuple #[.agg #[.bool o1,.string o2,.int .i64 o3],.int .i64 (Gk s)]):=by
 obtain⟨o1,o2,o3,e⟩:=A7w (fu:=1000001) (d:=0) (p:=pN) hB hs (by omega);have hsd:C6 gU prog 122 [Bk (Ab s)] ⟨[.agg ([Value.bool o1,.string o2,.int .i64 o3].map .sc),Aw (Gk s)],[]⟩:=Dm ngR mxR A2h 7 _ _ _ e;refine (Awf (us:=[.string (Ab s)]) (rs:=[.agg #[.bool o1,.string o2,.int .i64 o3],.int .i64 (Gk s)]) hsd ⟨.inl rfl,trivial⟩ ⟨.inr ⟨_,rfl,rfl⟩,.inl rfl,trivial⟩ hW.1 hW.2).mono ?_
 rintro e w' ⟨rfl,hb⟩
 exact⟨hb,o1,o2,o3,rfl⟩
theorem Amj(W:World)(s:Aj)(hW:okW W)(hB:Cm s)(hs:s.length<=1000000):Calls prog 121 #[.string (Ab s)] W fun e w'=>Below W.heap.size W w'/\DbP W w' s e:=by
 have e:=A3u (fu:=1000001) (d:=0) (p:=pN) hB hs (by omega) (by omega);have hi:Ins W (fun _=>False) Abd [Bk (Ab s)] [.string (Ab s)]:=⟨fun _ h=>h.elim,fun _ h=>h.elim,fun k h=>absurd h (Tp k),fun i j i' j' b o o' h=>(by cases h),fun i q h=>(by cases h),FP (show Bj RU [Bk (Ab s)] [.string (Ab s)] from ⟨.inl rfl,trivial⟩)⟩
 have hsd:C6 gU prog 121 [Bk (Ab s)] _:=Dm ngR mxR A2h 3 _ _ _ e;refine (hsd.2 W _ _ _ hi hW.1 (fun k hk=>⟨hW.2 k hk,Tp k⟩)).mono ?_
 rintro e w' ⟨ws,own,rfl,out⟩
 refine⟨⟨out.os,out.tape,out.output,out.ext.size,fun k hk=>out.ext.keep k hk (Tp k)⟩,?_⟩;have hv:=out.vals;have hfr:=out.fresh;generalize hA:QQ Abd own (fun _=>False)=A at hv;unfold DbP;cases hd:Sf s with
 |none=>
  rw[hd] at hv
  match ws,hv with
  |[u1,u2],hv=>
   obtain⟨h1,h2,_⟩:=hv;have e2:u2=.int .i64 2:=Au.val (show Au w' A (Aw 2) u2 from h2);rcases (show Hs w' A (own 0) (.own 1 0 []) u1 from h1) with⟨_,_,_,ad,rfl⟩|⟨b,o,cap,ho,rfl,h⟩
   ·rw[e2];exact⟨ad,0,rfl⟩
   ·rw[e2];exact⟨_,cap,rfl⟩
  |[],hv=>exact hv.elim
  |[_],hv=>exact hv.2.elim
  |_::_::_::_,hv=>exact hv.2.2.elim
 |some b=>
  rw[hd] at hv
  match ws,hv with
  |[u1,u2],hv=>
   obtain⟨h1,h2,_⟩:=hv;have e2:u2=.int .i64 0:=Au.val (show Au w' A (Aw 0) u2 from h2);rw[e2];rcases (show Hs w' A (own 0) (.own 1 b.length (Ad .u8 b)) u1 from h1) with⟨_,hn,_,ad,rfl⟩|⟨bb,o,cap,ho,rfl,hc,hf,Cq,hr,hz⟩
   ·have ZE:b=[]:=List.eq_nil_of_length_eq_zero hn;subst ZE;exact⟨ad,0,rfl,fun h=>absurd rfl h⟩
   ·refine⟨some ⟨bb,o,none⟩,cap,rfl,fun _=>⟨⟨bb,o,none⟩,rfl,hc,?_,rfl,Cq,fun j x hx=>?_⟩⟩
    ·have:=(hfr 0 bb o ho).2;rcases Ik bb W.heap.size with q|q
     ·obtain⟨⟨i,k,o',h⟩,_⟩:=this q;cases h
     ·exact q
    ·have hj:(Ad .u8 b)[j]?=some (.sc (.int .u8 x)):=by
      rw[HS,List.getElem?_map,hx];rfl
     obtain⟨v,hv1,_,hv2⟩:=hr j _ hj;rw[hv1];exact congrArg some hv2.val
  |[],hv=>exact hv.elim
  |[_],hv=>exact hv.2.elim
  |_::_::_::_,hv=>exact hv.2.2.elim
def PaP(w w':World)(t:ByteArray)(e:Ending):Prop:=ItP w w' (Mg t) e
theorem Adr{R:Ending->World->Prop}{a:Act}{W:World}{v:Value}{b:Nat}(h2:a.tmps.getD 2 undef=.pointer (some ⟨b,0,none⟩))(hd:a.defers=[])(hl:(loadVar 81 ⟨b,0,none⟩).run prog W=.ok v W)(hR:R (.returned (.tuple #[v,a.tmps.getD 3 undef])) W):bodyPost prog Tryz.f57 R .ret a W:=by refine bodyPost_ret ?_ hd hR;rw[results_cell_tmp rfl,h2];have e:(asAddr (.pointer (some ⟨b,0,none⟩))).run prog W=.ok ⟨b,0,none⟩ W:=rfl;rw[e,Result.andThen_ok,hl,Result.andThen_ok]
def VsP(w w':World)(t:ByteArray)(e:Ending):Prop:=e=.returned (.bool (Lib.validD t.data.toList))/\Below w.heap.size w w'
def RtQ(w w':World)(t:ByteArray)(e:Ending):Prop:=Below w.heap.size w w'/\RtP w' (B0 t) e
def ItQ(w w':World)(r:JR CD)(e:Ending):Prop:=Below w.heap.size w w'/\ItP w w' r e
set_option maxHeartbeats 4000000 in
theorem Ax8{t:ByteArray}(ht:t.size<=9223372036854775807){w:World}(hU:okW w):Calls prog 57 #[.string t] w fun e w'=>Below w.heap.size w w'/\PaP w w' t e:=by
 have mixed:prog.follows Departure.mixedOrders=true:=by kernel_rfl
 have F3:Below w.heap.size w (w.alloc (.cells #[.int .i64 0,.slice none 0 0,.string ⟨#[]⟩,.bool false,.string ⟨#[]⟩] 81)):=(Below.refl _ w).alloc (Cs _) _;have hg1:=al1 w (.cells #[.int .i64 0,.slice none 0 0,.string ⟨#[]⟩,.bool false,.string ⟨#[]⟩] 81);have hs1:(w.alloc (.cells #[.int .i64 0,.slice none 0 0,.string ⟨#[]⟩,.bool false,.string ⟨#[]⟩] 81)).heap.size=w.heap.size+1:=Array.size_push _;have TE:RC (w.alloc (.cells #[.int .i64 0,.slice none 0 0,.string ⟨#[]⟩,.bool false,.string ⟨#[]⟩] 81)) w.heap.size:=Asj hg1;have hU1:=hU.below F3
 have hvc:Calls prog 91 #[.string t] (w.alloc (.cells #[.int .i64 0,.slice none 0 0,.string ⟨#[]⟩,.bool false,.string ⟨#[]⟩] 81)) fun e w'=>VsP (w.alloc (.cells #[.int .i64 0,.slice none 0 0,.string ⟨#[]⟩,.bool false,.string ⟨#[]⟩] 81)) w' t e:=(Any.utf8_ValidString laysVS t (w.alloc (.cells #[.int .i64 0,.slice none 0 0,.string ⟨#[]⟩,.bool false,.string ⟨#[]⟩] 81)) ht hU1.1.2.2).mono (fun _ _ h=>h)
 go_enter Tryz.func57,Tryz.ntmps57
 by_cases Eh:1024<t.size
 ·have hI:Mg t=.error 8:=by unfold Mg;rw[Cx Eh]
  have hq:(t.size:Int)>1024:=by omega
  go_wp2
  (try simp only[Exit.inBlock,Exit.then])
  obtain⟨⟨r0,r1,r2,r3,r4⟩,_⟩:=TE;exact Adr (b:=w.heap.size) rfl rfl (YW r0 r1 r2 r3 r4) ⟨F3,by unfold PaP;rw[hI];exact⟨by decide,rfl⟩⟩
 have hq:¬(t.size:Int)>1024:=by omega
 go_wp2_with (go_at_call 91;refine hvc.mono ?_)
 rintro e W2 ⟨rfl,Iy⟩
 have Azc:Below w.heap.size w W2:=F3.trans (Iy.mono F3.size);have UU:=TE.below Iy (by rw[hs1];omega)
 have HY:w.heap.size+1<=W2.heap.size:=by have:=Iy.size;rw[hs1] at this;exact this
 have hw2:w.heap.size<W2.heap.size:=by omega
 have hU2:=hU.below Azc;cases hvd:Lib.validD t.data.toList with
 |false=>
  have hI:Mg t=.error 6:=by unfold Mg;rw[Br Eh,hvd,Cx rfl]
  obtain⟨⟨r0,r1,r2,r3,r4⟩,s0,s1,s2,s3,s4⟩:=id UU
  go_wp2
  (try simp only[Exit.inBlock,Exit.then])
  exact Adr (b:=w.heap.size) rfl rfl (TP W2 w.heap.size _ _ _ _ _ UU.some) ⟨Ru Azc (Cs _) _ _ _ _ _,by unfold PaP;rw[hI];exact⟨by decide,rfl⟩⟩
 |true=>
  have NF:Mg t=match Ac4 8 (B0 t) with | .error e=>.error e | .ok ms=>VF ms:=by unfold Mg;rw[Br Eh,hvd,Br (by decide)]
  have hrt:Calls prog 92 #[.string t] W2 fun e w'=>RtQ W2 w' t e:=Aw2 (by omega) hU2.1 hU2.2
  go_wp2_with (go_at_call 92;refine hrt.mono ?_)
  rintro e W3 ⟨LB,hp3⟩
  have ZD:Below w.heap.size w W3:=Azc.trans (LB.mono Azc.size);have hr3:=UU.below LB hw2;have hw3:w.heap.size<W3.heap.size:=Gf hw2 LB.size;have hU3:=hU.below ZD;unfold RtP at hp3;cases A31:Ac4 8 (B0 t) with
  |error er=>
   rw[A31] at hp3 NF;obtain⟨he,m,rfl⟩:=hp3;have hbe:(er != (0:Int))=true:=by simp[he]
   obtain⟨⟨r0,r1,r2,r3,r4⟩,s0,s1,s2,s3,s4⟩:=id hr3
   go_wp2
   (try simp only[Exit.inBlock,Exit.then])
   exact Adr (b:=w.heap.size) rfl rfl (TP W3 w.heap.size _ _ _ _ _ hr3.some) ⟨Ru ZD (Cs _) _ _ _ _ _,by unfold PaP;rw[NF];exact⟨he,rfl⟩⟩
  |ok ms=>
   rw[A31] at hp3 NF;obtain⟨mb,rfl,hM3⟩:=hp3;have Tq:(B0 t).length<=1000000:=by rw[Cv];omega
   have hok:=Ayg (Yn t) Tq A31;have hl4:4*(B0 t).length<=1000000:=by rw[Cv];omega
   have HX:Calls prog 93 #[.map (some mb)] W3 fun e w'=>ItQ W3 w' (VF ms) e:=Ayn Amj Alq (fun m hm=>(hok m hm).1.1) (fun m hm=>⟨(hok m hm).2.1,by have:=(hok m hm).2.2;omega⟩) hU3 hM3
   go_wp2_with (go_at_call 93;refine HX.mono ?_)
   rintro e W4 ⟨hb4,hp4⟩
   have Ad4:Below w.heap.size w W4:=ZD.trans (hb4.mono ZD.size);have hr4:=hr3.below hb4 hw3;have hw4:w.heap.size<W4.heap.size:=Gf hw3 hb4.size;unfold ItP at hp4;cases hmm:VF ms with
   |error er=>
    rw[hmm] at hp4 NF;obtain⟨he,rfl⟩:=hp4;have hbe:(er != (0:Int))=true:=by simp[he]
    obtain⟨⟨r0,r1,r2,r3,r4⟩,s0,s1,s2,s3,s4⟩:=id hr4
    go_wp2
    (try simp only[Exit.inBlock,Exit.then])
    exact Adr (b:=w.heap.size) rfl rfl (DY W4 w.heap.size hw4 _ _ _ _ _ _ hr4) ⟨Rc Ad4 (Cs _) Ad4.size _ _ _ _ _ _,by unfold PaP;rw[NF];exact⟨he,rfl⟩⟩
   |ok x=>
    obtain⟨k,b,o,x,p⟩:=x;rw[hmm] at hp4 NF;obtain⟨ad,cap,rfl,hc,hwa,hla⟩:=hp4;obtain⟨⟨r0,r1,r2,r3,r4⟩,s0,s1,s2,s3,s4⟩:=id hr4
    go_wp2
    (try simp only[Exit.inBlock,Exit.then])
    exact Adr (b:=w.heap.size) rfl rfl (DY W4 w.heap.size hw4 _ _ _ _ _ _ hr4) ⟨Rc Ad4 (Cs _) Ad4.size _ _ _ _ _ _,by unfold PaP;rw[NF];exact⟨ad,cap,rfl,hc,by omega,hla.set5al (by omega)⟩⟩
def JD(args:Ae):Option A4:=
 match args with
 |[.sc (.string t)]=>bif decide (t.size<=9223372036854775807) then some (match Mg t with
  |.ok (k,b,o,x,p)=>⟨[.agg [Aw k,.lst false 1 b.length (Ad .u8 b),Bk (Ab o),Cz x,Bk (Ab p)],Aw 0],[]⟩
  |.error e=>⟨[.agg [Aw 0,.lst false 1 0 [],Bk ⟨#[]⟩,Cz false,Bk ⟨#[]⟩],Aw e],[]⟩) else none
 |_=>none
theorem QW{w w':World}{Y:Nat->Prop}{bt:HW}{args vals:Ae}{vs:List Value}(hb:Below w.heap.size w w')(hv:XI w' (QQ bt (fun _=>none) Y) (fun _=>none) w.heap.size 0 vals vs)(ho:CM w' (QQ bt (fun _=>none) Y) (fun _=>none) bt (Pq vals) 0 args []):
  Out w w' Y bt args (fun _=>none) ⟨vals,[]⟩ vs where
 os:=hb.os
 tape:=hb.tape
 output:=hb.output
 ext:=⟨hb.size,fun b h _=>hb.block b h,fun b h=>Io.same (hb.block b h)⟩
 rng:=fun b j h _=>⟨by unfold World.cell?;simp only[hb.block b h],by unfold World.frozen?;simp only[hb.block b h]⟩
 vals:=hv
 outs:=ho
 fresh:=fun j b o h=>by cases h
 inj:=fun j j' b o o' h=>by cases h
theorem LU(args:Ae)(res:A4)(h:JD args=some res):C6 gU prog 57 args res:=by
 refine⟨⟨_,Tryz.func57,by kernel_rfl⟩,fun w Y bt us hi hok hgl=>?_⟩;unfold JD at h;split at h
 rotate_left
 ·cases h
 rename_i t;cases hq:decide (t.size<=9223372036854775807)
 ·rw[hq] at h;cases h
 rw[hq,cond_true] at h;have hs:=of_decide_eq_true hq;have ps:=hi.args
 match us,ps with
 |[u],ps=>
  have hu:u=.string t:=Au.val (show Au w _ (Bk t) u from ps.1.2);subst hu;refine (Ax8 hs ⟨hok,fun k hk=>(hgl k hk).1⟩).mono ?_
  rintro e w' ⟨hb,hp⟩
  unfold PaP at hp;unfold ItP at hp;cases ME:Mg t with
  |error er=>
   rw[ME] at hp h;obtain⟨_,rfl⟩:=hp;cases h;refine⟨[.agg #[.int .i64 0,.slice none 0 0,.string ⟨#[]⟩,.bool false,.string ⟨#[]⟩],.int .i64 er],fun _=>none,rfl,QW hb ⟨⟨_,rfl,?_⟩,Au.sc _,trivial⟩ rfl⟩;exact⟨Au.sc _,Au.lnil _ _,Au.sc _,Au.sc _,Au.sc _,trivial⟩
  |ok x=>
   obtain⟨k,b,o,x,p⟩:=x;rw[ME] at hp h;obtain⟨ad,cap,rfl,hc,hwa,hla⟩:=hp;cases h;refine⟨[.agg #[.int .i64 k,.slice (some ad) b.length cap,.string (Ab o),.bool x,.string (Ab p)],.int .i64 0],fun _=>none,rfl,QW hb ⟨⟨_,rfl,?_⟩,Au.sc _,trivial⟩ rfl⟩;refine⟨Au.sc _,?_,Au.sc _,Au.sc _,Au.sc _,trivial⟩;refine Au.lst 1 b.length (Ad .u8 b) ad cap (fun j=>.int .u8 (b.getD j 0)) hla.1 hla.2.1 ?_ hc ?_ ?_ ?_
   ·rintro (⟨j,o,h⟩|⟨i,o,h⟩|h)
    ·cases h
    ·have:=hi.lt ad.block ⟨i,0,o,h⟩;omega
    ·have:=hi.Ylt _ h;omega
   ·intro j c hj;rw[HS,List.getElem?_map] at hj;obtain⟨y,hy,rfl⟩:=Option.map_eq_some_iff.1 hj;rw[hla.2.2 j y hy];simp[List.getD_eq_getElem?_getD,hy]
   ·intro j c hj;rfl
   ·intro j c hj;rw[HS,List.getElem?_map] at hj;obtain⟨y,hy,rfl⟩:=Option.map_eq_some_iff.1 hj;have:b.getD j 0=y:=by simp[List.getD_eq_getElem?_getD,hy]
    rw[this];exact Au.sc _
 |[],ps=>exact ps.elim
 |_::_::_,ps=>exact ps.2.elim
def pB:FuncId->Option (Ae->Option A4):=fun f=>bif Nat.beq f 57 then some JD else none
abbrev Cb:G3:=CP pB
abbrev xsb:=UD pB
theorem Adz:GX gU prog Cb:=Arj (fun f _ g h args res hg=>by
 unfold pB at h;cases hq:Nat.beq f 57
 ·rw[hq] at h;cases h
 ·rw[hq] at h;cases h;rw[Dc hq];exact LU args res hg)
end
section
variable {xs:FuncId->Option (Ae->Option A4)}(fu d:Nat)(call:Aq)
theorem Z1(Z:Int):Pn (CX xs) fu d 52 [Z] fun call=>Ay (decide (Z>=0)) (Bg [Cz (decide (Z<=4))]) (Bg [false]):=by show _=_;kernel_rfl
def Gv(Z:Int)(Y:Nat)(X:Int)(W:Nat)(V U:Int)(T:Ae):Option A4:=K0 fu call 85 Tryz.f85 [Ah Z] [.r,.r,.r,.l,.r,.l] Y ⟨lk [(0,Ah X),(3,.view 3 1 0 W),(4,V),(5,U)],Fx [(3,.ar false T)]⟩
theorem M1(U:Int)(T:Nat)(V:Int)(Z:Nat)(Y X:Int)(W:Ae):Gv fu call U (T+1) V Z Y X W=(Ay (decide (X>=0)) (Aa (wrap .i64 (4*X)) fun a=>Aa (wrap .u64 a) fun a=>Ar (decide (0<=a))<|Aa (Gw .u64 V a) fun a=>Aa (Du .u64 a 15) fun a=>Aa (wrap .i64 a) fun a=>ZzA Z 1 8 W [a] fun b c=>Aa (wrap .i64 (15-a)) fun a=>Aa (wrap .i64 (Y+a)) fun a=>Aa (wrap .i64 (X-1)) fun e=>Gv fu call U T V b a e c) (Aa (wrap .i64 (Int.tdiv Y 16)) fun a=>Aa (Int.tmod Y 16) fun b=>Ar (decide (Z*1<=W.length)&&true&&decide ((Z+2)*8<=1099511627776)&&decide (Z+2<=1099511627776))<|Aa (Z+2) fun c=>Aa (List.take (Z*1) W++[Aw a,Aw b]) fun a=>Ar (decide (c*1<=a.length))<|Bg [.own 1 c (a.take (c*1))])):=by kernel_rfl
theorem BT(Z:Int):Pn (CX xs) fu d 85 [Ah Z] fun call=>Gv fu call Z fu Z 0 0 15 ([]):=by show _=_;kernel_rfl
def Hz(Z Y:Int)(X W V:Int)(U:Nat)(T S:Int)(Q P O:Int):Option A4:=K0 fu call 86 Tryz.f86 [Z,Y,X,W,Ah V] [.r,.l,.r,.l] U ⟨lk [(0,T),(1,S),(3,Q),(4,Ah P),(11,O)],Fx []⟩
theorem Oe(U T:Int)(S Q P:Int)(O:Nat)(X W:Int)(Z V Y:Int):Hz fu call U T S Q P (O+1) X W Z V Y=(Aa (if 15<Z then 15 else Z) fun a=>Ay (decide (Y<a)) (Aa (wrap .u64 X) fun a=>Aa (wrap .u64 W) fun b=>Aa (wrap .u64 Y) fun c=>Dv (call 50 [As 1 4 [Ah a,Ah b,Ah c,Ah V]]) fun a b=>Lg 1 a fun a c=>Ao b<|Ar (decide (0+a*1<=c.length))<|Ge .u64 (call 45 [(1:Int),As 1 a (List.take (a*1) (c.drop 0))]) fun a=>Aa (wrap .i64 (Y+1)) fun b=>Hz fu call U T S Q P O X W Z a b) (Bg [Ah V])):=by kernel_rfl
theorem HR(Y X:Int)(Z W V:Int):Pn (CX xs) fu d 86 [Y,X,Z,W,Ah V] fun call=>Aa (if Z<0 then 0 else Z) fun a=>Hz fu call Y X Z W V fu Y X W V a:=by show _=_;kernel_rfl
theorem Zk(Z Y X:Int):Pn (CX xs) fu d 87 [Ah Z,Y,X] fun call=>Aa (wrap .u64 Y) fun a=>Aa (wrap .u64 X) fun b=>Dv (call 50 [As 1 2 [Ah a,Ah b]]) fun a b=>Lg 1 a fun a c=>Ao b<|Ar (decide (0+a*1<=c.length))<|Ge .u64 (call 73 [Ah Z,(1:Int),As 1 a (List.take (a*1) (c.drop 0))]) fun a=>Bg [Ah a]:=by show _=_;kernel_rfl
theorem CR(Z:Int)(Y:Nat)(X:Ae):Pn (CX xs) fu d 116 [Z,As 1 Y X] fun call=>Aa (wrap .u64 Z) fun a=>Dv (call 50 [As 1 1 [Ah a]]) fun a b=>Lg 1 a fun a c=>Ao b<|Dv (call 50 [As 1 Y X]) fun b e=>Lg 1 b fun b f=>Ao e<|Ar (decide (0+b*1<=f.length))<|Ar (decide (a*1<=c.length)&&decide (List.length (List.take (b*1) (f.drop 0))=b*1)&&decide ((a+b)*1<=1099511627776)&&decide (a+b<=1099511627776))<|Aa (a+b) fun e=>Aa (List.take (a*1) c++List.take (b*1) (f.drop 0)) fun a=>Ar (decide (0+e*1<=a.length))<|Ge .u64 (call 45 [(2:Int),As 1 e (List.take (e*1) (a.drop 0))]) fun a=>Bg [Ah a]:=by show _=_;kernel_rfl
def G5(Z Y:Int)(X:Nat)(W V:Int)(U:Nat)(T:Int)(S:Ae):Option A4:=K0 fu call 88 Tryz.f88 [Ah Z,Y] [.r,.r,.l,.r,.l] X ⟨lk [(0,Ah W),(1,V),(5,.view 5 1 0 U),(6,T)],Fx [(5,.ar false S)]⟩
theorem Nq(U T:Int)(S:Nat)(V Z:Int)(Y:Nat)(X:Int)(W:Ae):G5 fu call U T (S+1) V Z Y X W=(Ay (decide (X<18)) (Ge .u64 (call 87 [Ah V,Z,X]) fun a=>Ge .u64 (call 86 [Z,X,(0:Int),(15:Int),Ah a]) fun a=>ZzA Y 1 8 W [Ah a] fun a b=>Aa (wrap .i64 (X+1)) fun c=>G5 fu call U T S V Z a c b) (Ar (decide (0+Y*1<=W.length))<|Ge .u64 (call 116 [Z,As 1 Y (List.take (Y*1) (W.drop 0))]) fun a=>Bg [Ah a])):=by kernel_rfl
theorem DV(Z Y:Int):Pn (CX xs) fu d 88 [Ah Z,Y] fun call=>G5 fu call Z Y fu Z Y 0 0 ([]):=by show _=_;kernel_rfl
def Fq(Z Y X:Int)(W:Nat)(V U:Int)(T S:Nat)(Q:Int)(P O:Ae):Option A4:=K0 fu call 53 Tryz.f53 [Ah Z,Y,Ah X] [.r,.r,.r,.l,.r,.l] W ⟨lk [(0,Ah V),(1,U),(7,.view 7 1 0 T),(8,.view 8 1 0 S),(9,Q)],Fx [(7,.ar false P),(8,.ar false O)]⟩
theorem J4(S Q P:Int)(O:Nat)(V X:Int)(U Y:Nat)(Z:Int)(T W:Ae):Fq fu call S Q P (O+1) V X U Y Z T W=(Ay (decide (Z<18)) (Ar (decide (0<=Z)&&decide (Z<(↑U:Int)))<|Ba .i64 (T.getD (0+Z.toNat*1) .top) fun a=>Ge .u64 (call 87 [Ah V,X,Z]) fun b=>Ge .u64 (call 86 [X,Z,(0:Int),a,Ah b]) fun a=>ZzA Y 1 8 W [Ah a] fun a b=>Aa (wrap .i64 (Z+1)) fun c=>Fq fu call S Q P O V X U a c T b) (Ar (decide (Y*1<=W.length))<|Bg [.own 1 Y (W.take (Y*1))])):=by kernel_rfl
theorem Wr(Z Y X:Int):Pn (CX xs) fu d 53 [Ah Z,Y,Ah X] fun call=>Dv (call 85 [Ah X]) fun a b=>Lg 1 a fun a c=>Ao b<|Fq fu call Z Y X fu Z Y a 0 0 c ([]):=by show _=_;kernel_rfl
theorem Zc(Z Y X:Int):Pn (CX xs) fu d 89 [Z,Ah Y,Ah X] fun call=>Aa (wrap .u64 Z) fun a=>Dv (call 50 [As 1 3 [Ah a,Ah Y,Ah X]]) fun a b=>Lg 1 a fun a c=>Ao b<|Ar (decide (0+a*1<=c.length))<|Ge .u64 (call 45 [(3:Int),As 1 a (List.take (a*1) (c.drop 0))]) fun a=>Bg [Ah a]:=by show _=_;kernel_rfl
theorem Q9(Y Z X:Int):Pn (CX xs) fu d 54 [Ah Y,Z,X] fun call=>Ay (Z==0) (Ge .u64 (call 88 [Ah Y,X]) fun a=>Bg [Ah a]) (Aa (wrap .i64 (Z-1)) fun a=>Aa (wrap .i64 (2*X)) fun b=>Ge .u64 (call 54 [Ah Y,a,b]) fun a=>Aa (wrap .i64 (Z-1)) fun b=>Aa (wrap .i64 (2*X)) fun c=>Aa (wrap .i64 (c+1)) fun c=>Ge .u64 (call 54 [Ah Y,b,c]) fun b=>Ge .u64 (call 89 [Z,Ah a,Ah b]) fun a=>Bg [Ah a]):=by show _=_;kernel_rfl
theorem Zj(Y Z:Int):Pn (CX xs) fu d 41 [Ah Y,Z] fun call=>Dv (call 52 [Z]) fun a b=>Bm a fun a=>Ao b<|Ay (!a) (Bg [.agg [(0:Int),Ah 0],(9:Int)]) (Ge .u64 (call 54 [Ah Y,Z,(0:Int)]) fun a=>Bg [.agg [Z,Ah a],(0:Int)]):=by show _=_;kernel_rfl
def G7(Z Y:Int)(X W:Int)(V:Nat)(U T:Int)(S Q P:Int)(O N:Nat)(M L:Ae)(K:Int)(J I:Nat)(H G:Ae):Option A4:=K0 fu call 26 Tryz.f26 [Ah Z,Y,X,Ah W] [.r,.r,.r,.l,.r,.l] V ⟨lk [(0,Ah U),(1,T),(2,S),(8,.ptr 8 0),(10,.ptr 10 0),(11,Q)],Fx [(8,.st [P,.view 112 1 0 O,.view 164 1 0 N]),(112,.ar false M),(164,.ar false L),(10,.st [K,.view 114 1 0 J,.view 166 1 0 I]),(114,.ar false H),(166,.ar false G)]⟩
theorem Nm(P O:Int)(N M:Int)(L:Nat)(U T:Int)(S Z K:Int)(J I:Nat)(H G:Ae)(Q:Int)(Y X:Nat)(W V:Ae):G7 fu call P O N M (L+1) U T S Z K J I H G Q Y X W V=(Ay (decide (Z<T)) (Aa (wrap .u64 Z) fun a=>Ar (decide (0<=a))<|Aa (Gw .i64 S a) fun a=>Aa (Ee .i64 a 1) fun a=>Ge .u64 (call 54 [Ah U,Z,a]) fun a=>ZzA X 1 8 V [Ah a] fun a b=>Aa (wrap .i64 (Z+1)) fun c=>G7 fu call P O N M L U T S c K J I H G Q Y a W b) (Ar (decide (Y*1<=W.length))<|Ar (decide (X*1<=V.length))<|Bg [.agg [Q,.own 1 Y (W.take (Y*1)),.own 1 X (V.take (X*1))],(0:Int)])):=by kernel_rfl
theorem EF(X Y:Int)(Z W:Int):Pn (CX xs) fu d 26 [Ah X,Y,Z,Ah W] fun call=>Dv (call 52 [Y]) fun a b=>Bm a fun a=>(fun e:Option A4=>Ao b<|Ay (!a) e (Ay (decide (Z<0)) e (Aa (wrap .u64 Y) fun a=>Ar (decide (0<=a))<|Aa (Fp .i64 1 a) fun a=>Ay (decide (Z>=a)) e (Dv (call 53 [Ah X,Z,Ah W]) fun a b=>Lg 1 a fun a c=>Ao b<|G7 fu call X Y Z W fu X Y Z 0 0 0 0 ([]) ([]) Z a 0 c ([]))))) (Bg [.agg [(0:Int),.own 1 0 [],.own 1 0 []],(9:Int)]):=by show _=_;kernel_rfl
theorem Us(Z Y:Int):Pn (CX xs) fu d 51 [.agg [Z,Ah Y]] fun call=>Dv (call 52 [Z]) fun a b=>Bm a fun a=>Ao b<|Ay (!a) (Bg [.own 1 0 [],(9:Int)]) (Aa (wrap .u8 Z) fun a=>Dv (call 50 [As 1 1 [Ah Y]]) fun b c=>Lg 1 b fun b e=>Ao c<|Ar (decide (0+b*1<=e.length))<|Ar (decide (List.length (List.take (b*1) (e.drop 0))=b*1)&&decide ((1+b)*1<=1099511627776)&&decide (1+b<=1099511627776))<|Aa (1+b) fun c=>Aa ([.sc (.int .u8 a)]++List.take (b*1) (e.drop 0)) fun a=>Ar (decide (c*1<=a.length))<|Bg [.own 1 c (a.take (c*1)),(0:Int)]):=by show _=_;kernel_rfl
theorem Oq(Y:Int)(X:Nat)(W:Ae)(Z:Nat)(V:Ae):Pn (CX xs) fu d 27 [.agg [Y,As 1 X W,As 1 Z V]] fun call=>(fun g:Option A4=>Ay (decide ((↑Z:Int)>4)) g (Ay (decide (Y<0)) g (Aa (wrap .u64 (↑Z:Int)) fun a=>Ar (decide (0<=a))<|Aa (Fp .i64 1 a) fun a=>Ay (decide (Y>=a)) g (Ay ((↑X:Int) != 18) (Bg [.own 1 0 [],(4:Int)]) (Aa (wrap .u8 Y) fun a=>Aa (wrap .u8 (↑Z:Int)) fun b=>Dv (call 50 [As 1 X W]) fun c e=>Lg 1 c fun c f=>Ao e<|Ar (decide (0+c*1<=f.length))<|Ar (decide (List.length (List.take (c*1) (f.drop 0))=c*1)&&decide ((2+c)*1<=1099511627776)&&decide (2+c<=1099511627776))<|Aa (2+c) fun e=>Aa ([.sc (.int .u8 a),.sc (.int .u8 b)]++List.take (c*1) (f.drop 0)) fun a=>Dv (call 50 [As 1 Z V]) fun b c=>Lg 1 b fun b f=>Ao c<|Ar (decide (0+b*1<=f.length))<|Ar (decide (e*1<=a.length)&&decide (List.length (List.take (b*1) (f.drop 0))=b*1)&&decide ((e+b)*1<=1099511627776)&&decide (e+b<=1099511627776))<|Aa (e+b) fun c=>Aa (List.take (e*1) a++List.take (b*1) (f.drop 0)) fun a=>Ar (decide (c*1<=a.length))<|Bg [.own 1 c (a.take (c*1)),(0:Int)]))))) (Bg [.own 1 0 [],(9:Int)]):=by show _=_;kernel_rfl
end
theorem V0{α:Type}(f:Nat->α)(i:Nat):(List.range (i+1)).map f=(List.range i).map f++[f i]:=by rw[List.range_succ,List.map_append];rfl
section
variable {fu d:Nat}{xs:FuncId->Option (Ae->Option A4)}
theorem DA(h:Int):Ac (CX xs) prog fu (d+1) 52 [Aw h]=some ⟨[Cz (!Dt h)],[]⟩:=by
 rw[Z1];unfold Dt;by_cases h0:h<0
 ·simp(disch:=omega)only[A5,A6,h0,decide_true,Bool.true_or,G9]
 ·have e:decide (h<=4) = !decide (h>4):=by
   by_cases c:h<=4
   ·have:¬h>4:=by omega
    simp[c,this]
   ·have:h>4:=by omega
    simp[c,this]
  simp(disch:=omega)only[A5,A6,h0,decide_false,Bool.false_or,e]
theorem Agd{ws:Aj}(hl:ws.length<=100)(Bi:1000<=fu)(dom:Int):Ac (CX xs) prog fu (d+4) 45 [Aw dom,.lst false 1 (Ap ws).length (Ad .u8 (Ap ws))]=some ⟨[Ah (B6 dom (Ap ws))],[]⟩:=
 GJ (xs:=xs) (Va ws) (by rw[El];omega) (by omega) (by rw[El];omega) dom
theorem LT{call:Aq}{a0 m:Int}:∀(k nn:Nat)(i:Nat),i+k=16->k<nn ->
  Gv fu call a0 nn m ((List.range i).map (G4 m)).length (K5 m i) (15-(i:Int)) (Ad .i64 ((List.range i).map (G4 m)))=some ⟨[.own 1 18 (Ad .i64 (XZ m))],[]⟩
 |_,0,_,_,h=>by omega
 |0,nn+1,i,hi,hn=>by
  have e:i=16:=by omega
  subst e;have hs:=Lx m 16
  have wq:wrap .i64 (Int.tdiv (K5 m 16) 16)=K5 m 16 / 16:=by
   rw[Int.tdiv_eq_ediv_of_nonneg (by omega),Bb]
  have wm:Int.tmod (K5 m 16) 16=K5 m 16 % 16:=Int.tmod_eq_emod_of_nonneg (by omega)
  have e2:Ad .i64 ((List.range 16).map (G4 m))++[PV.sc (.int .i64 (K5 m 16 / 16)),PV.sc (.int .i64 (K5 m 16 % 16))]=Ad .i64 (XZ m):=by
   unfold XZ;rw[Ad,Ad,List.flatMap_append];rfl
  have L:(Ad .i64 (XZ m)).length=18:=by rw[Ak,Akh]
  have tk:List.take 18 (Ad .i64 (XZ m))=Ad .i64 (XZ m):=H5 (by omega);have l16:((List.range 16).map (G4 m)).length=16:=by simp
  have L16:=Ak .i64 ((List.range 16).map (G4 m));have t16:=NY .i64 ((List.range 16).map (G4 m));rw[l16] at L16 t16 ⊢;rw[M1,Hk _ _ _ (by omega)];simp(disch:=omega)only[A5,A6,wq,wm,Kb,t16,e2,L16,Nat.reduceAdd,L,tk]
 |k+1,nn+1,i,hi,hn=>by
  have ih:=LT (call:=call) (a0:=a0) (m:=m) k nn (i+1) (by omega) (by omega);have hb:=Tu m i;have hs:=Lx m i;have w1:wrap .i64 (4*(15-(i:Int)))=60-4*(i:Int):=Bq
  have w2:wrap .u64 (60-4*(i:Int))=60-4*(i:Int):=E9;have hd:wrap .i64 (Du .u64 (Gw .u64 m (60-4*(i:Int))) 15)=G4 m i:=rfl;have w15:wrap .i64 (15-G4 m i)=15-G4 m i:=Bb;have ws:wrap .i64 (K5 m i+(15-G4 m i))=K5 m (i+1):=by rw[Bb];rfl
  have wi:wrap .i64 (15-(i:Int)-1)=15-((i+1:Nat):Int):=Bq
  have L:=Ak .i64 ((List.range i).map (G4 m));have l16:((List.range i).map (G4 m)).length=i:=by simp
  rw[V0,Vo,List.length_singleton,<-Uu] at ih;rw[M1];simp(disch:=omega)only[A5,A6,w1,w2,hd,w15,ws,wi,Kb,NY,L];exact ih
theorem Ale(Bi:1000<=fu)(m:Int):Ac (CX xs) prog fu (d+1) 85 [Ah m]=some ⟨[.own 1 18 (Ad .i64 (XZ m))],[]⟩:=by rw[BT];exact LT (fu:=fu) (a0:=m) (m:=m) 16 fu 0 (by omega) (by omega)
theorem UW{leaf chain:Int}{a0 a1 a2 a3 a4:Int}(Bi:1000<=fu){t:Int}(ht:t<=15):∀(k nn:Nat)(p x:Int),(k:Int)=t-p->0<=p->k<nn ->
  Hz fu (Ac (CX xs) prog fu (d+4)) a0 a1 a2 a3 a4 nn leaf chain t x p=some ⟨[Ah (Tx leaf chain k p x)],[]⟩
 |_,0,_,_,_,_,h=>by omega
 |0,nn+1,p,x,hk,hp,hn=>by
  rw[Oe];simp only[F5];rw[Br (by omega),Hk _ _ _ (by omega)];rfl
 |k+1,nn+1,p,x,hk,hp,hn=>by
  have w:wrap .i64 (p+1)=p+1:=Bb;have wd:Ac (CX xs) prog fu (d+4) 50 [.lst false 1 4 [Ah (wrap .u64 leaf),Ah (wrap .u64 chain),Ah (wrap .u64 p),Ah x]]=_:=Ic (xs:=xs) (ws:=[wrap .u64 leaf,wrap .u64 chain,wrap .u64 p,x]) (by simp) (by omega) (by simp;omega)
  have hs:=Agd (xs:=xs) (fu:=fu) (d:=d) (ws:=[wrap .u64 leaf,wrap .u64 chain,wrap .u64 p,x]) (by simp) Bi 1;have ih:=UW (leaf:=leaf) (chain:=chain) (a0:=a0) (a1:=a1) (a2:=a2) (a3:=a3) (a4:=a4) Bi ht k nn (p+1) (B6 1 (Ap [wrap .u64 leaf,wrap .u64 chain,wrap .u64 p,x])) (by omega) (by omega) (by omega);have L:=Ak .u8 (Ap [wrap .u64 leaf,wrap .u64 chain,wrap .u64 p,x]);have eR:Tx leaf chain (k+1) p x=Tx leaf chain k (p+1) (B6 1 (Ap [wrap .u64 leaf,wrap .u64 chain,wrap .u64 p,x])):=rfl;rw[eR];generalize Ap [wrap .u64 leaf,wrap .u64 chain,wrap .u64 p,x]=W at wd hs ih L ⊢;have e15:(if (15:Int)<t then 15 else t)=t:=Br (by omega);rw[Oe]
  simp(disch:=omega)only[A5,A6,e15,wd,Kb,Ip,Ma,NY,L,hs,w];exact ih
theorem Ajk{leaf chain:Int}(Bi:1000<=fu)(k:Nat)(f t x:Int)(hk:(k:Int)=t-f)(h0:0<=f)(h1:t<=15):Ac (CX xs) prog fu (d+5) 86 [Aw leaf,Aw chain,Aw f,Aw t,Ah x]=some ⟨[Ah (Tx leaf chain k f x)],[]⟩:=by rw[HR];simp only[F5];rw[Br (by omega)];exact UW Bi h1 k fu f x hk h0 (by omega)
theorem RV(Bi:1000<=fu)(seed leaf chain:Int):Ac (CX xs) prog fu (d+5) 87 [Ah seed,Aw leaf,Aw chain]=some ⟨[Ah (Aaa seed leaf chain)],[]⟩:=by
 have wd:Ac (CX xs) prog fu (d+4) 50 [.lst false 1 2 [Ah (wrap .u64 leaf),Ah (wrap .u64 chain)]]=_:=Ic (xs:=xs) (ws:=[wrap .u64 leaf,wrap .u64 chain]) (by simp) (by omega) (by simp;omega)
 have hs:=Ajq (xs:=xs) (fu:=fu) (d:=d) (Va [wrap .u64 leaf,wrap .u64 chain]) (by rw[El];simp) (by omega) (by rw[El];simp;omega) seed 1
 have L:=Ak .u8 (Ap [wrap .u64 leaf,wrap .u64 chain]);rw[Zk];unfold Aaa;generalize Ap [wrap .u64 leaf,wrap .u64 chain]=W at wd hs L ⊢;simp(disch:=omega)only[A5,A6,wd,Kb,Ip,Ma,NY,L,hs]
theorem Ak7(Bi:1000<=fu)(w:Int):Ac (CX xs) prog fu (d+1) 50 [.lst false 1 1 [Ah w]]=some ⟨[.own 1 8 (Ad .u8 (Bf w))],[]⟩:=by
 have:=Ic (xs:=xs) (fu:=fu) (d:=d) (ws:=[w]) (by simp) (by omega) (by simp;omega)
 simp only[Ap,K8,List.flatMap_nil,List.append_nil,Po,NS,B4] at this;exact this
theorem Arl(Bi:1000<=fu)(leaf:Int){E:Aj}(hE:E.length<=50):Ac (CX xs) prog fu (d+5) 116 [Aw leaf,.lst false 1 E.length (Ad .u64 E)]=some ⟨[Ah (CI leaf E)],[]⟩:=by
 have w1:=Ak7 (xs:=xs) (fu:=fu) (d:=d+3) Bi (wrap .u64 leaf);have w2:=Ic (xs:=xs) (fu:=fu) (d:=d+3) (ws:=E) (by omega) (by omega) (by omega);have hs:=Agd (xs:=xs) (fu:=fu) (d:=d) (ws:=wrap .u64 leaf::E) (by simp;omega) Bi 2
 have eW:Ap (wrap .u64 leaf::E)=Bf (wrap .u64 leaf)++Ap E:=rfl
 have eC:Ad .u8 (Bf (wrap .u64 leaf))++Ad .u8 (Ap E)=Ad .u8 (Ap (wrap .u64 leaf::E)):=by
  rw[eW,Ad,Ad,Ad,List.flatMap_append]
 have l0:(Bf (wrap .u64 leaf)).length=8:=B4 _;have l1:=El E;have l2:(Ap (wrap .u64 leaf::E)).length=8+(Ap E).length:=by rw[eW,Vo,l0]
 have L0:=Ak .u8 (Bf (wrap .u64 leaf));rw[l0] at L0;have L1:=Ak .u8 (Ap E);have L2:=Ak .u8 (Ap (wrap .u64 leaf::E));have t8:List.take 8 (Ad .u8 (Bf (wrap .u64 leaf)))=Ad .u8 (Bf (wrap .u64 leaf)):=H5 (by omega);have tW:List.take (8+(Ap E).length) (Ad .u8 (Ap (wrap .u64 leaf::E)))=Ad .u8 (Ap (wrap .u64 leaf::E)):=H5 (by omega);rw[l2] at hs;rw[CR];simp(disch:=omega)only[A5,A6,w1,w2,Kb,Ip,Ma,NY,t8,L0,L1,eC,L2,tW,hs];rfl
theorem QJ{a0 a1 seed leaf:Int}(Bi:1000<=fu):∀(k nn i:Nat),i+k=18->k<nn ->
  G5 fu (Ac (CX xs) prog fu (d+5)) a0 a1 nn seed leaf ((List.range i).map (MG seed leaf)).length i (Ad .u64 ((List.range i).map (MG seed leaf)))=some ⟨[Ah (Yz seed leaf)],[]⟩
 |_,0,_,_,h=>by omega
 |0,nn+1,i,hi,hn=>by
  have e:i=18:=by omega
  subst e;have l18:((List.range 18).map (MG seed leaf)).length=18:=by simp
  have en:=Arl (xs:=xs) (fu:=fu) (d:=d) Bi leaf (E:=(List.range 18).map (MG seed leaf)) (by omega);have L:=Ak .u64 ((List.range 18).map (MG seed leaf));rw[Nq,Hk _ _ _ (by omega)];simp(disch:=omega)only[A5,A6,Kb,Ip,Ma,NY,L,en];rfl
 |k+1,nn+1,i,hi,hn=>by
  have ih:=QJ (a0:=a0) (a1:=a1) (seed:=seed) (leaf:=leaf) Bi k nn (i+1) (by omega) (by omega);have sc:=RV (xs:=xs) (fu:=fu) (d:=d) Bi seed leaf i;have rn:=Ajk (xs:=xs) (fu:=fu) (d:=d) (leaf:=leaf) (chain:=i) Bi 15 0 15 (Aaa seed leaf i) (by omega) (by omega) (by omega);have w:wrap .i64 ((i:Int)+1)=((i+1:Nat):Int):=Bq
  have L:=Ak .u64 ((List.range i).map (MG seed leaf));have li:((List.range i).map (MG seed leaf)).length=i:=by simp
  rw[V0,Vo,List.length_singleton,<-Uu] at ih;rw[Nq];simp(disch:=omega)only[A5,A6,sc,rn,Kb,NY,L,w];exact ih
theorem Ap3(Bi:1000<=fu)(seed leaf:Int):Ac (CX xs) prog fu (d+6) 88 [Ah seed,Aw leaf]=some ⟨[Ah (Yz seed leaf)],[]⟩:=by rw[DV];exact QJ (fu:=fu) (d:=d) Bi 18 fu 0 (by omega) (by omega)
theorem Bam(m:Int){i:Nat}(h:i<18):(XZ m)[i]?=some (dg m i):=by
 unfold dg;rw[List.getD_eq_getElem?_getD,List.getElem?_eq_getElem (by rw[Akh];omega)]
 rfl
theorem Zu{a0 a1 a2 seed leaf m:Int}(Bi:1000<=fu):∀(k nn i:Nat),i+k=18->k<nn ->
  Fq fu (Ac (CX xs) prog fu (d+5)) a0 a1 a2 nn seed leaf 18 ((List.range i).map (RX seed leaf m)).length i (Ad .i64 (XZ m)) (Ad .u64 ((List.range i).map (RX seed leaf m)))=some ⟨[.own 1 18 (Ad .u64 (X9 seed leaf m))],[]⟩
 |_,0,_,_,h=>by omega
 |0,nn+1,i,hi,hn=>by
  have e:i=18:=by omega
  subst e;have l18:((List.range 18).map (RX seed leaf m)).length=18:=by simp
  have L:=Ak .u64 ((List.range 18).map (RX seed leaf m));rw[J4,Hk _ _ _ (by omega)];simp(disch:=omega)only[A5,A6,Kb,NY,L];rw[l18];rfl
 |k+1,nn+1,i,hi,hn=>by
  have ih:=Zu (a0:=a0) (a1:=a1) (a2:=a2) (seed:=seed) (leaf:=leaf) (m:=m) Bi k nn (i+1) (by omega) (by omega);have hb:=Up m i;have sc:=RV (xs:=xs) (fu:=fu) (d:=d) Bi seed leaf i;have rn:=Ajk (xs:=xs) (fu:=fu) (d:=d) (leaf:=leaf) (chain:=i) Bi (dg m i).toNat 0 (dg m i) (Aaa seed leaf i) (by omega) (by omega) (by omega);have w:wrap .i64 ((i:Int)+1)=((i+1:Nat):Int):=Bq
  have L:=Ak .u64 ((List.range i).map (RX seed leaf m));have li:((List.range i).map (RX seed leaf m)).length=i:=by simp
  rw[V0,Vo,List.length_singleton,<-Uu] at ih;rw[J4];simp(disch:=omega)only[A5,A6,Jp,Kb,Ip,GG (Bam m (show i<18 by omega)),sc,rn,NY,L,w];exact ih
theorem ZH(Bi:1000<=fu)(seed leaf m:Int):Ac (CX xs) prog fu (d+6) 53 [Ah seed,Aw leaf,Ah m]=some ⟨[.own 1 18 (Ad .u64 (X9 seed leaf m))],[]⟩:=by rw[Wr];have sp:=Ale (xs:=xs) (fu:=fu) (d:=d+4) Bi m;simp only[A5,A6,sp];exact Zu (fu:=fu) (d:=d) Bi 18 fu 0 (by omega) (by omega)
theorem Agu(Bi:1000<=fu)(level a b:Int):Ac (CX xs) prog fu (d+5) 89 [Aw level,Ah a,Ah b]=some ⟨[Ah (Mk level a b)],[]⟩:=by
 have wd:Ac (CX xs) prog fu (d+4) 50 [.lst false 1 3 [Ah (wrap .u64 level),Ah a,Ah b]]=_:=Ic (xs:=xs) (ws:=[wrap .u64 level,a,b]) (by simp) (by omega) (by simp;omega)
 have hs:=Agd (xs:=xs) (fu:=fu) (d:=d) (ws:=[wrap .u64 level,a,b]) (by simp) Bi 3;have L:=Ak .u8 (Ap [wrap .u64 level,a,b]);rw[Zc];unfold Mk;generalize Ap [wrap .u64 level,a,b]=W at wd hs L ⊢;simp(disch:=omega)only[A5,A6,wd,Kb,Ip,Ma,NY,L,hs]
theorem FS(Bi:1000<=fu)(seed:Int):∀(l:Nat)(i B:Int),0<=i->i<=B->(2 ^ l:Nat)*(B+1)<=1000000000->l<=20->Ac (CX xs) prog fu (d+7+l) 54 [Ah seed,Aw l,Aw i]=some ⟨[Ah (Ib seed l i)],[]⟩
 |0,i,B,h0,h1,h2,hl=>by
  have lf:=Ap3 (xs:=xs) (fu:=fu) (d:=d) Bi seed i;refine (Q9 fu (d+6) seed 0 i).trans ?_;simp only[A5,A6,Od,if_true,lf];rfl
 |l+1,i,B,h0,h1,h2,hl=>by
  have hq:(2 ^ (l+1):Nat)=2 ^ l*2:=Nat.pow_succ _ _;have Ad6:0<2 ^ l:=Nat.pow_pos (by omega);rw[hq] at h2;generalize hQ:2 ^ l=q at h2 Ad6
  have hb:((q*2:Nat):Int)*(B+1)=(q:Int)*(2*B+1+1):=by
   rw[Int.natCast_mul,Int.mul_assoc]
   congr 1
   omega
  rw[hb] at h2
  have hBq:2*B+1+1<=(q:Int)*(2*B+1+1):=by
   have:=Int.mul_le_mul_of_nonneg_right (show (1:Int)<=q by omega) (show (0:Int)<=2*B+1+1 by omega);omega
  have n1:=FS Bi seed l (2*i) (2*B+1) (by omega) (by omega) (by rw[hQ];exact h2) (by omega)
  have n2:=FS Bi seed l (2*i+1) (2*B+1) (by omega) (by omega) (by rw[hQ];exact h2) (by omega)
  have pr:=Agu (xs:=xs) (fu:=fu) (d:=d+2+l) Bi ((l+1:Nat):Int) (Ib seed l (2*i)) (Ib seed l (2*i+1));rw[show d+2+l+5=d+7+l by omega] at pr;have w1:wrap .i64 (((l+1:Nat):Int)-1)=(l:Int):=Bq
  have w2:wrap .i64 (2*i)=2*i:=Bb;have w3:wrap .i64 (2*i+1)=2*i+1:=Bb;have ne:¬(((l+1:Nat):Int)=0):=by omega
  refine (Q9 fu (d+7+l) seed ((l+1:Nat):Int) i).trans ?_;simp only[A5,A6,Od,ne,if_false,w1,w2,w3,n1,n2,pr];rfl
end
theorem wu{h:Int}(h0:0<=h)(h4:h<=4):wrap .u64 h=h:=E9
theorem Ag2{leaf h:Int}(h0:0<=h)(h4:h<=4)(ho:Jh leaf h=false):0<=leaf/\leaf<2 ^ h.toNat:=by
 unfold Jh at ho;simp only[Bool.or_eq_false_iff,decide_eq_false_iff_not] at ho;have:h=0\/h=1\/h=2\/h=3\/h=4:=by omega
 rcases this with rfl|rfl|rfl|rfl|rfl
 ·have e:Fp .i64 1 0=1:=by decide
  rw[e] at ho;exact⟨by omega,by show leaf<1;omega⟩
 ·have e:Fp .i64 1 1=2:=by decide
  rw[e] at ho;exact⟨by omega,by show leaf<2;omega⟩
 ·have e:Fp .i64 1 2=4:=by decide
  rw[e] at ho;exact⟨by omega,by show leaf<4;omega⟩
 ·have e:Fp .i64 1 3=8:=by decide
  rw[e] at ho;exact⟨by omega,by show leaf<8;omega⟩
 ·have e:Fp .i64 1 4=16:=by decide
  rw[e] at ho;exact⟨by omega,by show leaf<16;omega⟩
theorem A3p{h:Int}(h0:0<=h)(h4:h<=4):(2:Int) ^ h.toNat<=16:=by
 have:h=0\/h=1\/h=2\/h=3\/h=4:=by omega
 rcases this with rfl|rfl|rfl|rfl|rfl<;>decide
theorem Af9{leaf:Int}(h0:0<=leaf)(h1:leaf<16){k:Nat}(hk:k<4):0<=M4 leaf k/\M4 leaf k<=15:=by
 have H:∀n:Fin 16,∀k:Fin 4,0<=M4 (n.val:Int) k.val/\M4 (n.val:Int) k.val<=15:=by decide
 obtain⟨n,rfl⟩:=Int.eq_ofNat_of_zero_le h0;exact H ⟨n,by omega⟩ ⟨k,hk⟩
section
variable {fu d:Nat}{xs:FuncId->Option (Ae->Option A4)}
theorem OQ(Bi:1000<=fu)(seed h:Int):Ac (CX xs) prog fu (d+12) 41 [Ah seed,Aw h]=some ⟨[.agg (Sk seed h).cells,Aw (if Dt h=true then 9 else 0)],[]⟩:=by
 refine (Zj fu (d+11) seed h).trans ?_;have h1:=DA (xs:=xs) (fu:=fu) (d:=d+10) h;unfold Sk;cases c1:Dt h
 ·rw[c1] at h1;have hb:=Iu c1
  have nd:=FS (xs:=xs) (fu:=fu) (d:=d+4-h.toNat) Bi seed h.toNat 0 0 (by omega) (by omega) (by
   have:h=0\/h=1\/h=2\/h=3\/h=4:=by omega
   rcases this with rfl|rfl|rfl|rfl|rfl<;>decide) (by omega)
  rw[show d+4-h.toNat+7+h.toNat=d+11 by omega,show ((h.toNat:Nat):Int)=h by omega] at nd;simp only[A5,A6,h1,nd];rfl
 ·rw[c1] at h1;simp only[A5,A6,h1];rfl
theorem PU{a0 a1 a2 a3:Int}{seed leaf h:Int}(hh:0<=h/\h<=4)(hl:0<=leaf/\leaf<16)(Bi:1000<=fu){y4 y9:Int}{y5 y6:Nat}{y7 y8:Ae}{ch:Aj}:∀(k nn i:Nat),i+k=h.toNat->k<nn ->
  G7 fu (Ac (CX xs) prog fu (d+11)) a0 a1 a2 a3 nn seed h leaf i y4 y5 y6 y7 y8 leaf ch.length ((List.range i).map fun k=>Ib seed k (M4 leaf k)).length (Ad .u64 ch) (Ad .u64 ((List.range i).map fun k=>Ib seed k (M4 leaf k)))=some ⟨[.agg (Sg.mk leaf ch ((List.range h.toNat).map fun k=>Ib seed k (M4 leaf k))).owned,Aw 0],[]⟩
 |_,0,_,_,h=>by omega
 |0,nn+1,i,hi,hn=>by
  have e:i=h.toNat:=by omega
  subst e;have L1:=Ak .u64 ch;have L2:=Ak .u64 ((List.range h.toNat).map fun k=>Ib seed k (M4 leaf k));rw[Nm,Hk _ _ _ (by omega)];simp(disch:=omega)only[A5,A6,Kb,NY,L1,L2];rfl
 |k+1,nn+1,i,hi,hn=>by
  have ih:=PU (a0:=a0) (a1:=a1) (a2:=a2) (a3:=a3) (seed:=seed) (y4:=y4) (y9:=y9) (y5:=y5) (y6:=y6) (y7:=y7) (y8:=y8) (ch:=ch) hh hl Bi k nn (i+1) (by omega) (by omega);have sb:=Af9 hl.1 hl.2 (k:=i) (by omega)
  have nd:=FS (xs:=xs) (fu:=fu) (d:=d+4-i) Bi seed i (M4 leaf i) 15 sb.1 sb.2 (by
   have:i=0\/i=1\/i=2\/i=3:=by omega
   rcases this with rfl|rfl|rfl|rfl<;>decide) (by omega)
  rw[show d+4-i+7+i=d+11 by omega] at nd;have es:Ee .i64 (Gw .i64 leaf (i:Int)) 1=M4 leaf i:=rfl;have w:wrap .i64 ((i:Int)+1)=((i+1:Nat):Int):=Bq
  have wi:wrap .u64 (i:Int)=i:=E9;have L:=Ak .u64 ((List.range i).map fun k=>Ib seed k (M4 leaf k));have li:((List.range i).map fun k=>Ib seed k (M4 leaf k)).length=i:=by simp
  rw[V0,Vo,List.length_singleton,<-Uu] at ih;rw[Nm];simp(disch:=omega)only[A5,A6,wi,es,nd,Kb,NY,L,w];exact ih
theorem RZ(Bi:1000<=fu)(seed h leaf m:Int):Ac (CX xs) prog fu (d+12) 26 [Ah seed,Aw h,Aw leaf,Ah m]=some ⟨EN (Add seed h leaf m),[]⟩:=by
 refine (EF fu (d+11) seed h leaf m).trans ?_;have h1:=DA (xs:=xs) (fu:=fu) (d:=d+10) h;unfold Add;cases c1:Dt h
 ·rw[c1] at h1;have hb:=Iu c1;have w:=wu hb.1 hb.2;rw[Br (by simp)];by_cases hn:leaf<0
  ·have ho:Jh leaf h=true:=by unfold Jh;simp[hn]
   rw[Cx ho];simp(disch:=omega)only[A5,A6,h1];rfl
  ·by_cases hg:leaf>=Fp .i64 1 h
   ·have ho:Jh leaf h=true:=by unfold Jh;simp[hg]
    rw[Cx ho];simp (disch:=first|omega|exact hg) only[A5,A6,h1,w];rfl
   ·have ho:Jh leaf h=false:=by unfold Jh;simp only[Bool.or_eq_false_iff,decide_eq_false_iff_not];exact⟨hn,hg⟩
    have Cq:=Ag2 hb.1 hb.2 ho;have h16:=A3p hb.1 hb.2;rw[Br (by rw[ho];simp)]
    have sl:=ZH (xs:=xs) (fu:=fu) (d:=d+5) Bi seed leaf m;have lp:=PU (xs:=xs) (fu:=fu) (d:=d) (a0:=seed) (a1:=h) (a2:=leaf) (a3:=m) (seed:=seed) (leaf:=leaf) (h:=h) hb (by omega) Bi (y4:=0) (y9:=0) (y5:=0) (y6:=0) (y7:=[]) (y8:=[]) (ch:=X9 seed leaf m) h.toNat fu 0 (by omega) (by omega);have l18:(X9 seed leaf m).length=18:=by simp[X9]
    rw[l18] at lp;simp (disch:=first|omega|exact hg) only[A5,A6,h1,w,sl];exact lp
 ·rw[c1] at h1;rw[Cx rfl];simp(disch:=omega)only[A5,A6,h1];rfl
theorem SK(Bi:1000<=fu)(k:Ky):Ac (CX xs) prog fu (d+2) 51 [.agg k.cells]=some ⟨(if Dt k.h=true then [.own 1 0 [],Aw 9] else [.own 1 9 (Ad .u8 (Vy k)),Aw 0]),[]⟩:=by
 refine (Us fu (d+1) k.h k.root).trans ?_;have h1:=DA (xs:=xs) (fu:=fu) (d:=d) k.h;have wd:=Ak7 (xs:=xs) (fu:=fu) (d:=d) Bi k.root;have L:=Ak .u8 (Bf k.root);rw[B4] at L;have t8:List.take 8 (Ad .u8 (Bf k.root))=Ad .u8 (Bf k.root):=H5 (by omega)
 have t9:List.take 9 ([PV.sc (.int .u8 (wrap .u8 k.h))]++Ad .u8 (Bf k.root))=Ad .u8 (Vy k):=by
  rw[H5 (by rw[Vo,L];simp)]
  rfl
 have L9:([PV.sc (.int .u8 (wrap .u8 k.h))]++Ad .u8 (Bf k.root)).length=9:=by rw[Vo,L];rfl
 cases c1:Dt k.h
 ·rw[c1] at h1;rw[Br (by simp)];simp(disch:=omega)only[A5,A6,h1,wd,Kb,Ip,Ma,L,t8,Nat.reduceAdd,L9,t9]
 ·rw[c1] at h1;rw[Cx rfl];simp(disch:=omega)only[A5,A6,h1]
end
section
variable {fu d:Nat}{xs:FuncId->Option (Ae->Option A4)}
theorem Aqw(n:Nat):Dt (n:Int)=decide ((n:Int)>4):=by
 unfold Dt;have:¬((n:Int)<0):=by omega
 simp[this]
theorem DS(Bi:1000<=fu)(s:Sg)(hp:s.path.length<=1000000000):Ac (CX xs) prog fu (d+2) 27 [.agg s.cells]=some ⟨(if Dt s.path.length=true then [.own 1 0 [],Aw 9] else if Jh s.leaf s.path.length=true then [.own 1 0 [],Aw 9] else if s.chains.length≠18 then [.own 1 0 [],Aw 4] else [.own 1 (sgB s).length (Ad .u8 (sgB s)),Aw 0]),[]⟩:=by
 refine (Oq fu (d+1) s.leaf s.chains.length (Ad .u64 s.chains) s.path.length (Ad .u64 s.path)).trans ?_;rw[Aqw];by_cases c1:(s.path.length:Int)>4
 ·rw[Cx (by simp[c1])];simp(disch:=omega)only[A5,A6]
 ·rw[Br (by simp[c1])];have w:=wu (h:=s.path.length) (by omega) (by omega);by_cases hn:s.leaf<0
  ·have ho:Jh s.leaf s.path.length=true:=by unfold Jh;simp[hn]
   rw[Cx ho];simp(disch:=omega)only[A5,A6]
  ·by_cases hg:s.leaf>=Fp .i64 1 s.path.length
   ·have ho:Jh s.leaf s.path.length=true:=by unfold Jh;simp[hg]
    rw[Cx ho];simp (disch:=first|omega|exact hg) only[A5,A6,w]
   ·have ho:Jh s.leaf s.path.length=false:=by unfold Jh;simp only[Bool.or_eq_false_iff,decide_eq_false_iff_not];exact⟨hn,hg⟩
    rw[Br (by rw[ho];simp)]
    by_cases c3:s.chains.length=18
    ·have w1:=Ic (xs:=xs) (fu:=fu) (d:=d) (ws:=s.chains) (by omega) (by omega) (by omega);have w2:=Ic (xs:=xs) (fu:=fu) (d:=d) (ws:=s.path) (by omega) (by omega) (by omega);have l1:=El s.chains;have l2:=El s.path;have L1:=Ak .u8 (Ap s.chains);have L2:=Ak .u8 (Ap s.path)
     have eB:Ad .u8 (sgB s)=[PV.sc (.int .u8 (wrap .u8 s.leaf)),PV.sc (.int .u8 (wrap .u8 s.path.length))]++Ad .u8 (Ap s.chains)++Ad .u8 (Ap s.path):=by
      unfold sgB;simp
     have eL:(sgB s).length=2+(Ap s.chains).length+(Ap s.path).length:=by
      unfold sgB;simp;omega
     rw[Br (by omega),eB,eL];have t2:List.take (2+(Ap s.chains).length) ([PV.sc (.int .u8 (wrap .u8 s.leaf)),PV.sc (.int .u8 (wrap .u8 s.path.length))]++Ad .u8 (Ap s.chains))=[PV.sc (.int .u8 (wrap .u8 s.leaf)),PV.sc (.int .u8 (wrap .u8 s.path.length))]++Ad .u8 (Ap s.chains):=H5 (by rw[Vo,L1];simp)
     have t3:List.take (2+(Ap s.chains).length+(Ap s.path).length) ([PV.sc (.int .u8 (wrap .u8 s.leaf)),PV.sc (.int .u8 (wrap .u8 s.path.length))]++Ad .u8 (Ap s.chains)++Ad .u8 (Ap s.path))=[PV.sc (.int .u8 (wrap .u8 s.leaf)),PV.sc (.int .u8 (wrap .u8 s.path.length))]++Ad .u8 (Ap s.chains)++Ad .u8 (Ap s.path):=H5 (by rw[Vo,Vo,L1,L2];simp)
     have k2:([PV.sc (.int .u8 (wrap .u8 s.leaf)),PV.sc (.int .u8 (wrap .u8 s.path.length))]++Ad .u8 (Ap s.chains)).length=2+(Ap s.chains).length:=by rw[Vo,L1];rfl
     have k3:([PV.sc (.int .u8 (wrap .u8 s.leaf)),PV.sc (.int .u8 (wrap .u8 s.path.length))]++Ad .u8 (Ap s.chains)++Ad .u8 (Ap s.path)).length=2+(Ap s.chains).length+(Ap s.path).length:=by rw[Vo,k2,L2]
     simp (disch:=first|omega|exact hg) only[A5,A6,w,G6,w1,w2,Kb,Ip,Ma,L1,L2,NY,t2,t3,k2,k3];rw[Cx (by omega)]
    ·rw[Cx c3];simp (disch:=first|omega|exact hg) only[A5,A6,w,G6];rw[Br (by omega)]
end
theorem Arc(seed leaf m:Int):Ab4 leaf m (X9 seed leaf m)=Yz seed leaf:=by
 unfold Ab4 Yz FC
 congr 1
 refine List.map_congr_left fun i hi=>?_;have hi:=List.mem_range.1 hi;have hb:=Up m i;unfold Abz MG
 have e:(X9 seed leaf m).getD i 0=RX seed leaf m i:=by
  unfold X9;rw[List.getD_eq_getElem?_getD,List.getElem?_map,List.getElem?_range hi];rfl
 rw[e];unfold RX;have:=Adm leaf i (dg m i).toNat (15-dg m i).toNat 0 (Aaa seed leaf i);rw[show (dg m i).toNat+(15-dg m i).toNat=15 by omega,show (0:Int)+((dg m i).toNat:Nat)=dg m i by omega] at this;exact this.symm
theorem Amo:∀n:Fin 16,∀k:Fin 4,
  (Du .i64 (Gw .i64 (n.val:Int) k.val) 1=0/\Gw .i64 (n.val:Int) k.val=2*Gw .i64 (n.val:Int) ((k.val+1:Nat):Int)/\M4 n.val k.val=2*Gw .i64 (n.val:Int) ((k.val+1:Nat):Int)+1) \/
  (Du .i64 (Gw .i64 (n.val:Int) k.val) 1≠0/\Gw .i64 (n.val:Int) k.val=2*Gw .i64 (n.val:Int) ((k.val+1:Nat):Int)+1/\M4 n.val k.val=2*Gw .i64 (n.val:Int) ((k.val+1:Nat):Int)):=by decide
theorem QO(seed:Int){leaf:Int}(h0:0<=leaf)(h1:leaf<16):∀(k i:Nat),i+k<=4 ->
  Y2 leaf i (Ib seed i (Gw .i64 leaf i)) ((List.range' i k).map fun j=>Ib seed j (M4 leaf j))=Ib seed (i+k) (Gw .i64 leaf ((i+k:Nat):Int))
 |0,i,_=>rfl
 |k+1,i,h=>by
  rw[List.range'_succ,Vv,Zm];obtain⟨n,rfl⟩:=Int.eq_ofNat_of_zero_le h0;have ih:=QO seed h0 h1 k (i+1) (by omega);rw[show i+(k+1)=i+1+k by omega,<-ih]
  congr 1
  rcases Amo ⟨n,by omega⟩ ⟨i,by omega⟩ with⟨a,b,c⟩|⟨a,b,c⟩
  ·simp only at a b c;rw[Cx a,b,c];rfl
  ·simp only at a b c;rw[Br a,b,c];rfl
theorem Auk{seed h leaf m:Int}(hh:Dt h=false)(ho:Jh leaf h=false):MX (Sk seed h) m ⟨leaf,X9 seed leaf m,(List.range h.toNat).map fun k=>Ib seed k (M4 leaf k)⟩=0:=by
 have hb:=Iu hh;have hl:=Ag2 hb.1 hb.2 ho;have h16:=A3p hb.1 hb.2
 have eP:Sk seed h=⟨h,Ib seed h.toNat 0⟩:=by
  unfold Sk;rw[hh];rfl
 rw[eP];unfold MX;simp only;rw[Br (show ¬Dt h=true by rw[hh];simp),Br (show ¬Jh leaf h=true by rw[ho];simp),Br (show ¬(X9 seed leaf m).length≠18 by simp[X9]),Br (by rw[List.length_map,List.length_range];omega),Arc]
 have c:=QO seed hl.1 (show leaf<16 by omega) h.toNat 0 (by omega)
 have e0:Gw .i64 leaf ((0:Nat):Int)=leaf:=by
  show leaf.fdiv (2 ^ (min ((0:Nat):Int).toNat IntKind.i64.bits))=leaf;have:(2:Int) ^ (min ((0:Nat):Int).toNat IntKind.i64.bits)=1:=by decide
  rw[this,Int.fdiv_one]
 have eh:Gw .i64 leaf ((0+h.toNat:Nat):Int)=0:=by
  have H:∀n:Fin 16,∀k:Fin 5,(n.val:Int)<2 ^ k.val->Gw .i64 (n.val:Int) ((0+k.val:Nat):Int)=0:=by decide
  obtain⟨n,hn⟩:=Int.eq_ofNat_of_zero_le hl.1;have:=H ⟨n,by omega⟩ ⟨h.toNat,by omega⟩ (by simp only;rw[<-hn];exact hl.2)
  rw[hn];exact this
 rw[e0,eh,Ip] at c;have er:List.range' 0 h.toNat=List.range h.toNat:=List.range_eq_range'.symm;rw[er] at c;have el:Ib seed 0 leaf=Yz seed leaf:=rfl;rw[el] at c;rw[c];unfold okE;rw[Cx rfl]
def sq{α:Type}(x:Nat)(k:Nat->α):α:=Nat.rec (motive:=fun _=>α) (k 0) (fun n _=>k (Nat.succ n)) x
theorem Ts{α:Type}(x:Nat)(k:Nat->α):sq x k=k x:=by cases x<;>rfl
def fIz{α:Type}(n:Int)(K:Int->α):α:=match n with | .ofNat a=>sq a fun a=>K (.ofNat a) | .negSucc a=>sq a fun a=>K (.negSucc a)
theorem A1t{α:Type}(n:Int)(K:Int->α):fIz n K=K n:=by cases n<;>simp only[fIz,Ts]
def fLz{α β:Type}:List β->(List β->α)->α
 |[],K=>K []
 |x::l,K=>fLz l fun l=>K (x::l)
theorem Ahf{α β:Type}:∀(l:List β)(K:List β->α),fLz l K=K l
 |[],_=>rfl
 |x::l,K=>by rw[fLz,Ahf l]
def fCz{α:Type}(p:PV)(K:PV->α):α:=
 match p with
 |.sc (.bool b)=>bif b then K (Cz true) else K (Cz false)
 |.sc (.string ⟨⟨l⟩⟩)=>fLz l fun l=>K (Bk ⟨⟨l⟩⟩)
 |.lst z es n c=>sq n fun n=>fLz c fun c=>K (.lst z es n c)
 |.own es n c=>sq n fun n=>fLz c fun c=>K (.own es n c)
 |.view id es o n=>sq o fun o=>sq n fun n=>K (.view id es o n)
 |p=>K p
theorem At0{α:Type}(p:PV)(K:PV->α):fCz p K=K p:=by unfold fCz;split<;>first|rfl|simp only[A1t,Ahf,Ts]|(rename_i b;cases b<;>rfl)
def Als{α:Type}:Ae->(Ae->α)->α
 |[],K=>K []
 |x::l,K=>fCz x fun x=>Als l fun l=>K (x::l)
theorem ZN{α:Type}:∀(l:Ae)(K:Ae->α),Als l K=K l
 |[],_=>rfl
 |x::l,K=>by rw[Als,At0,ZN l]
def fVz{α:Type}(p:PV)(K:PV->α):α:=
 match p with
 |.agg c=>Als c fun c=>K (.agg c)
 |.pbox c=>Als c fun c=>K (.pbox c)
 |p=>fCz p K
theorem Aql{α:Type}(p:PV)(K:PV->α):fVz p K=K p:=by unfold fVz;split<;>simp only[At0,ZN]
def Am2{α:Type}:Ae->(Ae->α)->α
 |[],K=>K []
 |x::l,K=>fVz x fun x=>Am2 l fun l=>K (x::l)
theorem NE{α:Type}:∀(l:Ae)(K:Ae->α),Am2 l K=K l
 |[],_=>rfl
 |x::l,K=>by rw[Am2,Aql,NE l]
def fTz{α:Type}:List (Nat × PV)->(List (Nat × PV)->α)->α
 |[],K=>K []
 |(i,x)::l,K=>sq i fun i=>fVz x fun x=>fTz l fun l=>K ((i,x)::l)
theorem Asu{α:Type}:∀(l:List (Nat × PV)) (K:List (Nat × PV)->α),fTz l K=K l
 |[],_=>rfl
 |(i,x)::l,K=>by rw[fTz,Ts,Aql,Asu l]
def fBz{α:Type}(b:B7)(K:B7->α):α:=
 match b with
 |.st c=>Als c fun c=>K (.st c)
 |.ar z c=>fLz c fun c=>K (.ar z c)
 |b=>K b
theorem A1w{α:Type}(p:B7)(K:B7->α):fBz p K=K p:=by unfold fBz;split<;>first|rfl|simp only[Ahf,ZN]
def fHz{α:Type}:List (Nat × B7)->(List (Nat × B7)->α)->α
 |[],K=>K []
 |(i,x)::l,K=>sq i fun i=>fBz x fun x=>fHz l fun l=>K ((i,x)::l)
theorem Aqb{α:Type}:∀(l:List (Nat × B7)) (K:List (Nat × B7)->α),fHz l K=K l
 |[],_=>rfl
 |(i,x)::l,K=>by rw[fHz,Ts,A1w,Aqb l]
mutual
def bqP:PV->PV->Bool
 |.sc (.int k n),.sc (.int k' n')=>decide (k=k')&&decide (n=n')
 |.sc (.bool a),.sc (.bool b)=>decide (a=b)
 |.sc (.string ⟨⟨a⟩⟩),.sc (.string ⟨⟨b⟩⟩)=>decide (a=b)
 |.lst z e n c,.lst z' e' n' c'=>decide (z=z')&&Nat.beq e e'&&Nat.beq n n'&&bqL c c'
 |.own e n c,.own e' n' c'=>Nat.beq e e'&&Nat.beq n n'&&bqL c c'
 |.agg c,.agg c'=>bqL c c'
 |.pbox c,.pbox c'=>bqL c c'
 |_,_=>false
def bqL:Ae->Ae->Bool
 |[],[]=>true
 |p::l,q::r=>bqP p q&&bqL l r
 |_,_=>false
end
mutual
theorem A3i:∀(p q:PV),bqP p q=true->p=q:=by
 intro p q h;unfold bqP at h;split at h
 ·simp only[E0,Yd] at h;obtain⟨rfl,rfl⟩:=h;rfl
 ·simp only[Yd] at h;subst h;rfl
 ·simp only[Yd] at h;subst h;rfl
 ·simp only[E0,Yd] at h;obtain⟨⟨⟨rfl,h2⟩,h3⟩,h4⟩:=h;rw[Dc h2,Dc h3,Zb _ _ h4]
 ·simp only[E0] at h;obtain⟨⟨h2,h3⟩,h4⟩:=h;rw[Dc h2,Dc h3,Zb _ _ h4]
 ·rw[Zb _ _ h]
 ·rw[Zb _ _ h]
 ·cases h
theorem Zb:∀(l r:Ae),bqL l r=true->l=r
 |[],[],_=>rfl
 |p::l,q::r,h=>by
  simp only[bqL,E0] at h;rw[A3i p q h.1,Zb l r h.2]
 |[],_::_,h=>by cases h
 |_::_,[],h=>by cases h
end
def bqO:List Ae->List Ae->Bool
 |[],[]=>true
 |p::l,q::r=>bqL p q&&bqO l r
 |_,_=>false
theorem Aum:∀(l r:List Ae),bqO l r=true->l=r
 |[],[],_=>rfl
 |p::l,q::r,h=>by
  simp only[bqO,E0] at h;rw[Zb p q h.1,Aum l r h.2]
 |[],_::_,h=>by cases h
 |_::_,[],h=>by cases h
def Aj2(x y:Option A4):Option A4:=
 match x,y with
 |some a,some b=>bif bqL a.vals b.vals&&bqO a.outs b.outs then some a else Wt (some a) (some b)
 |x,y=>Wt x y
theorem Ac8(x y:Option A4):Aj2 x y=Wt x y:=by
 unfold Aj2;split
 ·rename_i a b;cases h:bqL a.vals b.vals&&bqO a.outs b.outs
  ·rfl
  ·simp only[E0] at h;obtain⟨v,o⟩:=a;obtain⟨v',o'⟩:=b;obtain rfl:=Zb _ _ h.1;obtain rfl:=Aum _ _ h.2;rw[cond_true,Aaz]
 ·rfl
def Apy(ops:Array Oper)(o:Oper)(s:St)(F:St->Option A4):Option A4:=
 match o.guard with
 |none=>F s
 |some (j,_)=>
  match (ops[j]?).bind (·.dst) with
  |none=>F s
  |some d=>
   match s.tm d with
   |.ub=>Aj2 (F ⟨Db s.tm d (Cz true),s.hp⟩) (F ⟨Db s.tm d (Cz false),s.hp⟩)
   |_=>F s
theorem Ari(ops:Array Oper)(o:Oper)(s:St)(F:St->Option A4):Apy ops o s F=OB ops o s F:=by simp only[Apy,OB,Ac8];rfl
def XY(C:G3)(P:Program)(N:Nat)(call:Aq)(ops:Array Oper):List Oper->St->(St->Option A4)->Option A4
 |[],s,K=>K s
 |o::r,s,K=>Apy ops o s fun s1=>Es C P N call ops o s1 fun s'=>XY C P N call ops r s' K
theorem UY{C:G3}{P:Program}{N:Nat}{call:Aq}{ops:Array Oper}:∀(l:List Oper)(s:St)(K:St->Option A4),XY C P N call ops l s K=JI C P N call ops l s K
 |[],_,_=>rfl
 |o::r,s,K=>by
  rw[XY,JI,Ari]
  congr 1
  funext s1
  congr 1
  funext s'
  exact UY r s' K
def Are(s:St)(c:Operand)(kt kf:St->Option A4):Option A4:=
 match c with
 |.tmp d=>
  match s.tm d with
  |.sc (.bool b)=>Ay b (kt ⟨Db s.tm d (Cz true),s.hp⟩) (kf ⟨Db s.tm d (Cz false),s.hp⟩)
  |.ub=>Aj2 (kt s) (kf s)
  |_=>none
 |.const (.bool true)=>kt s
 |.const (.bool false)=>kf s
 |_=>none
theorem Apu(s:St)(c:Operand)(kt kf:St->Option A4):Are s c kt kf=Afi s c kt kf:=by simp only[Are,Afi,Ac8];rfl
def KO(N:Nat)(ls:B2)(q:Bool)(s:St)(K:St->Option A4):Option A4:=
 let s2:=bif q then s else ls.foldl (SR N) (ls.foldl (FY N) s)
 let m:=ls.foldl (GM N s2) (A9u N s2.hp 8)
 Ar (Et (m.map (·.1))&&Et (m.map (·.2))) (fTz (ls.map fun i=>(i,Agj m (s2.tm i))) fun t=>fHz (Pg m s2.hp m) fun h=>K ⟨lk t,Fx h⟩)
theorem Abv(N:Nat)(ls:B2)(q:Bool)(s:St)(K:St->Option A4):KO N ls q s K=OO N ls q s K:=by simp only[KO,OO,Asu,Aqb]
def Xk(C:G3)(P:Program)(fu N:Nat)(call:Aq):Code->Nat->(Nat->Nat)->Nat->(St->Option A4)->(Nat->St->Option A4)->(St->Option A4)->St->Option A4
 |.skip,_,_,_,kn,_,_,s=>kn s
 |.region _ ops draw,_,_,_,kn,_,_,s=>MB (draw && !SB C P ops) (Ar (JC C P ops) (Aq5 (HM C P ops (Jt ops.toList [])) fun sm=>I6 C P N call ops sm [] (List.range ops.size) s kn)) (MB draw (P4 C P N call ops ops.toList s kn) (XY C P N call ops ops.toList s kn))
 |.seq a b,ln,lx,lr,kn,kx,kr,s=>Xk C P fu N call a (K2 b ln lx lr) lx lr (fun s'=>MB (Ad7 P a b) (KO N (I1 (K2 b ln lx lr) N) (Wl a b) s' (FJ fu fun s''=>Xk C P fu N call b ln lx lr kn kx kr s'')) (Xk C P fu N call b ln lx lr kn kx kr s')) kx kr s
 |.cond c a b,ln,lx,lr,kn,kx,kr,s=>Are s c (Xk C P fu N call a ln lx lr kn kx kr) (Xk C P fu N call b ln lx lr kn kx kr)
 |.block id c,ln,lx,lr,kn,kx,kr,s=>Xk C P fu N call c ln (fun j=>bif Nat.beq j id then ln else lx j) lr kn (fun j s'=>bif Nat.beq j id then kn s' else kx j s') kr s
 |.loop c,ln,lx,lr,_,kx,kr,s=>
  KO N (I1 (K2 (.loop c) ln lx lr) N) false s (Aih (fun k s'=>Xk C P fu N call c (K2 (.loop c) ln lx lr) lx lr k kx kr s') (KO N (I1 (K2 (.loop c) ln lx lr) N) false) fu)
 |.exit id,_,_,_,_,kx,_,s=>kx id s
 |.ret,_,_,_,_,_,kr,s=>kr s
 |_,_,_,_,_,_,_,_=>none
theorem Ayb{C:G3}{P:Program}{fu N:Nat}{call:Aq}:∀(c:Code)(ln:Nat)(lx:Nat->Nat)(lr:Nat)(kn:St->Option A4)(kx:Nat->St->Option A4)(kr:St->Option A4)(s:St),Xk C P fu N call c ln lx lr kn kx kr s=M3 C P fu N call c ln lx lr kn kx kr s:=by
 intro c
 induction c with
 |seq a b iha ihb=>
  intro ln lx lr kn kx kr s;rw[Xk,M3,iha]
  congr 1
  funext s'
  simp only[Abv,ihb];cases Wl a b<;>rfl
 |cond d a b iha ihb=>intros;rw[Xk,M3,Apu];congr 1<;>funext s'<;>first|rw[iha]|rw[ihb]
 |region _ ops draw=>intros;simp only[Xk,M3,UY]
 |block id c ih=>intros;rw[Xk,M3,ih]
 |loop c ih=>
  intros
  have e:∀N ls,KO N ls false=OO N ls false:=fun N ls=>by funext s K;exact Abv _ _ _ _ _
  rw[Xk,M3];simp only[e,ih];rfl
 |_=>intros;first|rfl|(simp only[Xk,M3])
def WA(C:G3)(P:Program)(fu:Nat)(call:Aq)(f:FuncId)(fn:Func)(c:Code)(args:Ae):Option A4:=
  Anq P fn.ntmps 0 fn.params.toList args fun tms bs=>Ar (Nat.ble args.length fn.ntmps&&Ca (fun _=>none) bs)
    (let lr:=Zz P 0 fn.params.toList (NX fn.results.toList)
     Xk C P fu fn.ntmps call c lr (fun _=>0) lr (UF C P f fn args) (fun _ _=>none) (UF C P f fn args) ⟨lk tms,Fx bs⟩)
def H3(C:G3)(P:Program)(fu:Nat):Nat->FuncId->Ae->Option A4
 |0,_,_=>none
 |d+1,f,args=>Am2 args fun args=>
  match C.ext f with
  |some g=>g args
  |none=>
   match P.funcs[f]? with
   |none=>none
   |some fn=>match fn.body with
    |none=>none
    |some c=>match WA C.core P fu (H3 C P fu d) f fn c args with
     |none=>none
     |some r=>Am2 r.vals fun v=>some ⟨v,r.outs⟩
theorem AQ{C:G3}{P:Program}{fu:Nat}:∀(d:Nat)(f:FuncId)(args:Ae),H3 C P fu d f args=Ac C P fu d f args
 |0,_,_=>rfl
 |d+1,f,args=>by
  have e:H3 C P fu d=Ac C P fu d:=by funext f args;exact AQ d f args
  have q:∀fn c,WA C.core P fu (Ac C P fu d) f fn c args=Al2 C.core P fu (Ac C P fu d) f fn c args:=fun fn c=>by simp only[WA,Al2,Ayb]
  rw[H3,Ac,NE,e];cases C.ext f with
  |some g=>rfl
  |none=>
   cases P.funcs[f]? with
   |none=>rfl
   |some fn=>
    simp only;cases fn.body with
    |none=>rfl
    |some c=>
     simp only[q];cases Al2 C.core P fu (Ac C P fu d) f fn c args with
     |none=>rfl
     |some r=>simp only[NE]
def Z8(C:G3)(P:Program)(fu N:Nat)(call:Aq):List Dir->Code->Nat->(Nat->Nat)->Nat->(St->Option A4)->(Nat->St->Option A4)->(St->Option A4)->Nat->St->Option A4
 |[],.loop c,ln,lx,lr,_,kx,kr,n,s=>Aih (fun k s'=>Xk C P fu N call c (K2 (.loop c) ln lx lr) lx lr k kx kr s') (KO N (I1 (K2 (.loop c) ln lx lr) N) false) n s
 |.l::p,.seq a b,ln,lx,lr,kn,kx,kr,n,s=>Z8 C P fu N call p a (K2 b ln lx lr) lx lr (fun s'=>MB (Ad7 P a b) (KO N (I1 (K2 b ln lx lr) N) (Wl a b) s' (FJ fu fun s''=>Xk C P fu N call b ln lx lr kn kx kr s'')) (Xk C P fu N call b ln lx lr kn kx kr s')) kx kr n s
 |.r::p,.seq _ b,ln,lx,lr,kn,kx,kr,n,s=>Z8 C P fu N call p b ln lx lr kn kx kr n s
 |.l::p,.cond _ a _,ln,lx,lr,kn,kx,kr,n,s=>Z8 C P fu N call p a ln lx lr kn kx kr n s
 |.r::p,.cond _ _ b,ln,lx,lr,kn,kx,kr,n,s=>Z8 C P fu N call p b ln lx lr kn kx kr n s
 |.l::p,.block id c,ln,lx,lr,kn,kx,kr,n,s=>Z8 C P fu N call p c ln (fun j=>bif Nat.beq j id then ln else lx j) lr kn (fun j s'=>bif Nat.beq j id then kn s' else kx j s') kr n s
 |_,_,_,_,_,_,_,_,_,_=>none
def A34(C:G3)(P:Program)(fu:Nat)(call:Aq)(f:FuncId)(fn:Func)(c:Code)(args:Ae)(p:List Dir)(n:Nat)(s:St):Option A4:=
 let lr:=Zz P 0 fn.params.toList (NX fn.results.toList)
 Z8 C P fu fn.ntmps call p c lr (fun _=>0) lr (UF C P f fn args) (fun _ _=>none) (UF C P f fn args) n s
abbrev Fu:Nat:=18446744073709551616
def RB(x k:Nat):Nat:=Nat.lor (Nat.mod (Nat.shiftLeft x k) 18446744073709551616) (Nat.shiftRight x (Nat.sub 64 k))
def rdN{α:Type}(a b c d:Nat)(K:Nat->Nat->Nat->Nat->α):α:=
 sq (Nat.mod (Nat.add a b) 18446744073709551616) fun a=>sq (Nat.xor (RB b 13) a) fun b=>sq (RB a 32) fun a=>sq (Nat.mod (Nat.add c d) 18446744073709551616) fun c=>sq (Nat.xor (RB d 16) c) fun d=>
 sq (Nat.mod (Nat.add a d) 18446744073709551616) fun a=>sq (Nat.xor (RB d 21) a) fun d=>sq (Nat.mod (Nat.add c b) 18446744073709551616) fun c=>sq (Nat.xor (RB b 17) c) fun b=>sq (RB c 32) fun c=>K a b c d
def abN{α:Type}(a b c d m:Nat)(K:Nat->Nat->Nat->Nat->α):α:=
 sq (Nat.xor d m) fun d=>rdN a b c d fun a b c d=>rdN a b c d fun a b c d=>sq (Nat.xor a m) fun a=>K a b c d
def abL{α:Type}:B2->Nat->Nat->Nat->Nat->(Nat->Nat->Nat->Nat->α)->α
 |[],a,b,c,d,K=>K a b c d
 |m::r,a,b,c,d,K=>abN a b c d m fun a b c d=>abL r a b c d K
def Ala(k0 k1:Nat)(ws:B2):Nat:=
 abL ws (Nat.xor k0 8317987319222330741) (Nat.xor k1 7237128888997146477) (Nat.xor k0 7816392313619706465) (Nat.xor k1 8387220255154660723) fun a b c d=>
 sq (Nat.xor c 255) fun c=>rdN a b c d fun a b c d=>rdN a b c d fun a b c d=>rdN a b c d fun a b c d=>rdN a b c d fun a b c d=>
 Nat.xor (Nat.xor (Nat.xor a b) c) d
theorem xN{a b:Nat}(ha:a<Fu)(hb:b<Fu):Ee .u64 (↑a) (↑b)=((Nat.xor a b:Nat):Int)/\Nat.xor a b<Fu:=
 ⟨bits_xor_u64_nat a b ha hb,Nat.xor_lt_two_pow (n:=64) ha hb⟩
theorem aN(a b:Nat):wrap .u64 ((a:Int)+(b:Int))=((Nat.mod (Nat.add a b) Fu:Nat):Int)/\Nat.mod (Nat.add a b) Fu<Fu:=
 ⟨by rw[IntKind.wrap_u64];show _=(((a+b) % 18446744073709551616:Nat):Int);omega,Nat.mod_lt _ (by decide)⟩
theorem rN{a k:Nat}(ha:a<Fu)(hk:k<=64):rot (↑a) (↑k)=((RB a k:Nat):Int)/\RB a k<Fu:=by
 have e1:Fp .u64 (a:Int) (k:Int)=((Nat.mod (Nat.shiftLeft a k) Fu:Nat):Int):=by
  show IntKind.u64.wrap ((a:Int)*2 ^ (min k 64))=(((a <<< k) % Fu:Nat):Int);rw[Nat.min_eq_left hk,IntKind.wrap_u64,Nat.shiftLeft_eq];simp
 have e2:Gw .u64 (a:Int) (64-(k:Int))=((Nat.shiftRight a (Nat.sub 64 k):Nat):Int):=by
  have h64:(64-(k:Int))=((64-k:Nat):Int):=by omega
  rw[h64];show Int.fdiv (a:Int) (2 ^ (min (64-k) 64))=((a >>> (64-k):Nat):Int);rw[Nat.min_eq_left (by omega),Nat.shiftRight_eq_div_pow,Int.fdiv_eq_ediv_of_nonneg _ (by exact_mod_cast Nat.zero_le _)];simp
 have b1:Nat.mod (Nat.shiftLeft a k) Fu<Fu:=Nat.mod_lt _ (by decide);have b2:Nat.shiftRight a (Nat.sub 64 k)<Fu:=Nat.lt_of_le_of_lt (Nat.shiftRight_le a _) ha;unfold rot;rw[e1,e2];exact⟨bits_or_u64_nat _ _ b1 b2,Nat.or_lt_two_pow (n:=64) b1 b2⟩
theorem AU{a b c d:Nat}(ha:a<Fu)(hb:b<Fu)(hc:c<Fu)(hd:d<Fu):∃a' b' c' d':Nat,(a'<Fu/\b'<Fu/\c'<Fu/\d'<Fu)/\NJ ⟨a,b,c,d⟩=⟨a',b',c',d'⟩/\∀{α:Type}(K:Nat->Nat->Nat->Nat->α),rdN a b c d K=K a' b' c' d':=by obtain⟨e1,h1⟩:=aN a b;obtain⟨e2,h2⟩:=rN (k:=13) hb (by omega);obtain⟨e3,h3⟩:=xN h2 h1;obtain⟨e4,h4⟩:=rN (k:=32) h1 (by omega);obtain⟨e5,h5⟩:=aN c d;obtain⟨e6,h6⟩:=rN (k:=16) hd (by omega);obtain⟨e7,h7⟩:=xN h6 h5;obtain⟨f1,g1⟩:=aN (RB (Nat.mod (Nat.add a b) Fu) 32) (Nat.xor (RB d 16) (Nat.mod (Nat.add c d) Fu));obtain⟨f2,g2⟩:=rN (k:=21) h7 (by omega);obtain⟨f3,g3⟩:=xN g2 g1;obtain⟨f4,g4⟩:=aN (Nat.mod (Nat.add c d) Fu) (Nat.xor (RB b 13) (Nat.mod (Nat.add a b) Fu));obtain⟨f5,g5⟩:=rN (k:=17) h3 (by omega);obtain⟨f6,g6⟩:=xN g5 g4;obtain⟨f7,g7⟩:=rN (k:=32) g4 (by omega);have e2:rot (b:Int) 13=_:=e2;have e4:rot _ 32=_:=e4;have e6:rot (d:Int) 16=_:=e6;have f2:rot _ 21=_:=f2;have f5:rot _ 17=_:=f5;have f7:rot _ 32=_:=f7;refine⟨_,_,_,_,⟨g1,g6,g7,g3⟩,?_,fun K=>by simp only[rdN,Ts]⟩;simp only[NJ,A6s,A9k,e1,e2,e3,e4,e5,e6,e7,f1,f2,f3,f4,f5,f6,f7]
theorem Ayd{a b c d m:Nat}(ha:a<Fu)(hb:b<Fu)(hc:c<Fu)(hd:d<Fu)(hm:m<Fu):∃a' b' c' d':Nat,(a'<Fu/\b'<Fu/\c'<Fu/\d'<Fu)/\L5 ⟨a,b,c,d⟩ m=⟨a',b',c',d'⟩/\∀{α:Type}(K:Nat->Nat->Nat->Nat->α),abN a b c d m K=K a' b' c' d':=by obtain⟨e1,h1⟩:=xN hd hm;obtain⟨a1,b1,c1,d1,⟨p1,p2,p3,p4⟩,p5,p6⟩:=AU ha hb hc h1;obtain⟨a2,b2,c2,d2,⟨q1,q2,q3,q4⟩,q5,q6⟩:=AU p1 p2 p3 p4;obtain⟨e2,h2⟩:=xN q1 hm;refine⟨_,b2,c2,d2,⟨h2,q2,q3,q4⟩,?_,fun K=>by simp only[abN,Ts,p6,q6]⟩;simp only[L5,YL,e1,p5,q5,A0y,e2]
theorem Acv:∀(ws:B2),(∀w∈ws,w<Fu)->∀{a b c d:Nat},a<Fu->b<Fu->c<Fu->d<Fu->∃a' b' c' d':Nat,(a'<Fu/\b'<Fu/\c'<Fu/\d'<Fu)/\(ws.map fun n:Nat=>(n:Int)).foldl L5 ⟨a,b,c,d⟩=⟨a',b',c',d'⟩/\∀{α:Type}(K:Nat->Nat->Nat->Nat->α),abL ws a b c d K=K a' b' c' d'
 |[],_,a,b,c,d,ha,hb,hc,hd=>⟨a,b,c,d,⟨ha,hb,hc,hd⟩,rfl,fun K=>rfl⟩
 |m::r,h,a,b,c,d,ha,hb,hc,hd=>by
  obtain⟨a1,b1,c1,d1,⟨p1,p2,p3,p4⟩,p5,p6⟩:=Ayd ha hb hc hd (h m (by simp));obtain⟨a2,b2,c2,d2,q,q5,q6⟩:=Acv r (fun w hw=>h w (by simp[hw])) p1 p2 p3 p4;refine⟨a2,b2,c2,d2,q,?_,fun K=>by simp only[abL,p6,q6]⟩;rw[Vv,List.foldl_cons,p5,q5]
def Aw9(k0 k1:Int)(ws:Aj):Int:=Ab9 (Ac6 (ws.foldl L5 (Aim k0 k1)))
theorem Aen{k0 k1:Nat}(h0:k0<Fu)(h1:k1<Fu){ws:B2}(hw:∀w∈ws,w<Fu):Aw9 k0 k1 (ws.map fun n:Nat=>(n:Int))=((Ala k0 k1 ws:Nat):Int)/\Ala k0 k1 ws<Fu:=by
 obtain⟨e1,g1⟩:=xN (b:=8317987319222330741) h0 (by decide);obtain⟨e2,g2⟩:=xN (b:=7237128888997146477) h1 (by decide);obtain⟨e3,g3⟩:=xN (b:=7816392313619706465) h0 (by decide);obtain⟨e4,g4⟩:=xN (b:=8387220255154660723) h1 (by decide);have e1:Ee .u64 (k0:Int) 8317987319222330741=_:=e1;have e2:Ee .u64 (k1:Int) 7237128888997146477=_:=e2;have e3:Ee .u64 (k0:Int) 7816392313619706465=_:=e3;have e4:Ee .u64 (k1:Int) 8387220255154660723=_:=e4;obtain⟨a,b,c,d,⟨p1,p2,p3,p4⟩,p5,p6⟩:=Acv ws hw g1 g2 g3 g4;obtain⟨f1,q1⟩:=xN (b:=255) p3 (by decide);have f1:Ee .u64 (c:Int) 255=_:=f1;obtain⟨a1,b1,c1,d1,⟨r1,r2,r3,r4⟩,r5,r6⟩:=AU p1 p2 q1 p4;obtain⟨a2,b2,c2,d2,⟨s1,s2,s3,s4⟩,s5,s6⟩:=AU r1 r2 r3 r4;obtain⟨a3,b3,c3,d3,⟨t1,t2,t3,t4⟩,t5,t6⟩:=AU s1 s2 s3 s4;obtain⟨a4,b4,c4,d4,⟨u1,u2,u3,u4⟩,u5,u6⟩:=AU t1 t2 t3 t4;obtain⟨v1,w1⟩:=xN u1 u2;obtain⟨v2,w2⟩:=xN w1 u3
 obtain⟨v3,w3⟩:=xN w2 u4;have E:Ala k0 k1 ws=Nat.xor (Nat.xor (Nat.xor a4 b4) c4) d4:=by simp only[Ala,p6,Ts,r6,s6,t6,u6]
 rw[E];refine⟨?_,w3⟩;simp only[Aw9,Aim,e1,e2,e3,e4,p5,Ac6,f1,YL,r5,s5,t5,u5,Ab9,v1,v2,v3]
def bsN(x:Nat):Nat:=bif Nat.ble x 255 then Nat.mul x 72057594037927936 else
 Nat.add (Nat.mod (Nat.div x 72057594037927936) 256) (Nat.add (Nat.mul (Nat.mod (Nat.div x 281474976710656) 256) 256) (Nat.add (Nat.mul (Nat.mod (Nat.div x 1099511627776) 256) 65536) (Nat.add (Nat.mul (Nat.mod (Nat.div x 4294967296) 256) 16777216)
  (Nat.add (Nat.mul (Nat.mod (Nat.div x 16777216) 256) 4294967296) (Nat.add (Nat.mul (Nat.mod (Nat.div x 65536) 256) 1099511627776) (Nat.add (Nat.mul (Nat.mod (Nat.div x 256) 256) 281474976710656) (Nat.mul (Nat.mod x 256) 72057594037927936)))))))
theorem LO(x:Nat){k:Nat}(hk:k<=7):D6 (x:Int) k=(((x / 2 ^ (56-8*k)) % 256:Nat):Int):=by
 have h:(56-8*(k:Int))=((56-8*k:Nat):Int):=by omega
 unfold D6;rw[h];show IntKind.u8.wrap (Int.fdiv (x:Int) (2 ^ (min (56-8*k) 64)))=_;rw[Nat.min_eq_left (by omega),Int.fdiv_eq_ediv_of_nonneg _ (by exact_mod_cast Nat.zero_le _)];simp[wrap,IntKind.bits,IntKind.signed]
theorem A17(x:Nat):bsN x=x / 72057594037927936 % 256+(x / 281474976710656 % 256*256+(x / 1099511627776 % 256*65536+(x / 4294967296 % 256*16777216+(x / 16777216 % 256*4294967296+(x / 65536 % 256*1099511627776+(x / 256 % 256*281474976710656+x % 256*72057594037927936)))))):=by
 unfold bsN;cases h:Nat.ble x 255
 ·exact cond_false _ _
 ·have:=Pf h;rw[cond_true,Nat.div_eq_of_lt (b:=72057594037927936) (by omega),Nat.div_eq_of_lt (b:=281474976710656) (by omega),Nat.div_eq_of_lt (b:=1099511627776) (by omega),Nat.div_eq_of_lt (b:=4294967296) (by omega),Nat.div_eq_of_lt (b:=16777216) (by omega),Nat.div_eq_of_lt (b:=65536) (by omega),Nat.div_eq_of_lt (b:=256) (by omega),Nat.mod_eq_of_lt (a:=x) (b:=256) (by omega)];simp only[Nat.zero_mod,Nat.zero_mul,Ip];rfl
theorem A3y{y0 y1 y2 y3 y4 y5 y6 y7:Nat}(l0:y0<256)(l1:y1<256)(l2:y2<256)(l3:y3<256)(l4:y4<256)(l5:y5<256)(l6:y6<256)(l7:y7<256):
  (y0:Int)+256*(y1+256*(y2+256*(y3+256*(y4+256*(y5+256*(y6+256*(y7+256*0)))))))=((y0+(y1*256+(y2*65536+(y3*16777216+(y4*4294967296+(y5*1099511627776+(y6*281474976710656+y7*72057594037927936)))))):Nat):Int) /\
  y0+(y1*256+(y2*65536+(y3*16777216+(y4*4294967296+(y5*1099511627776+(y6*281474976710656+y7*72057594037927936))))))<18446744073709551616:=⟨by omega,by omega⟩
theorem Akl{x:Nat}(hx:x<Fu):Px (Bf (x:Int))=((bsN x:Nat):Int)/\bsN x<Fu:=by
 have l:∀y:Nat,y % 256<256:=fun y=>Nat.mod_lt _ (by decide);have w:Px (Bf (x:Int))=D6 x 0+256*(D6 x 1+256*(D6 x 2+256*(D6 x 3+256*(D6 x 4+256*(D6 x 5+256*(D6 x 6+256*(D6 x 7+256*0))))))):=rfl;have p0:2 ^ (56-8*0)=72057594037927936:=by decide
 have p1:2 ^ (56-8*1)=281474976710656:=by decide
 have p2:2 ^ (56-8*2)=1099511627776:=by decide
 have p3:2 ^ (56-8*3)=4294967296:=by decide
 have p4:2 ^ (56-8*4)=16777216:=by decide
 have p5:2 ^ (56-8*5)=65536:=by decide
 have p6:2 ^ (56-8*6)=256:=by decide
 have p7:2 ^ (56-8*7)=1:=by decide
 rw[w,LO x (k:=0) (by omega),LO x (k:=1) (by omega),LO x (k:=2) (by omega),LO x (k:=3) (by omega),LO x (k:=4) (by omega),LO x (k:=5) (by omega),LO x (k:=6) (by omega),LO x (k:=7) (by omega),p0,p1,p2,p3,p4,p5,p6,p7,Nat.div_one,A17];exact A3y (l _) (l _) (l _) (l _) (l _) (l _) (l _) (l _)
theorem SJ:∀(ws:Aj)(v:W4)(r:Aj),FH ws.length v (Ap ws++r)=(ws.map fun w=>Px (Bf w)).foldl L5 v
 |[],v,r=>rfl
 |w::ws,v,r=>by
  have e:Ap (w::ws)++r=Bf w++(Ap ws++r):=by simp[Ap]
  have l8:(Bf w).length=8:=B4 w;rw[e,Po,FH,List.take_left' l8,List.drop_left' l8,SJ ws,Vv,List.foldl_cons]
def hwN(k0 k1:Nat)(ws:B2):Nat:=Ala k0 k1 (ws.map bsN++[Nat.mul 72057594037927936 (Nat.mod (Nat.mul 8 ws.length) 256)])
theorem Ak5{k0 k1:Nat}(h0:k0<Fu)(h1:k1<Fu){ws:B2}(hw:∀w∈ws,w<Fu):Afn k0 k1 (Ap (ws.map fun n:Nat=>(n:Int)))=((hwN k0 k1 ws:Nat):Int)/\hwN k0 k1 ws<Fu:=by
 have L:=El (ws.map fun n:Nat=>(n:Int));rw[List.length_map] at L;have e1:(Ap (ws.map fun n:Nat=>(n:Int))).length / 8=(ws.map fun n:Nat=>(n:Int)).length:=by rw[L,List.length_map];omega
 have e2:=SJ (ws.map fun n:Nat=>(n:Int)) (Aim k0 k1) [];rw[List.append_nil] at e2
 have e3:Lk (Ap (ws.map fun n:Nat=>(n:Int)))=((Nat.mul 72057594037927936 (Nat.mod (Nat.mul 8 ws.length) 256):Nat):Int):=by
  unfold Lk;rw[L,List.drop_eq_nil_of_le (by rw[L];omega)]
  show (0:Int)+72057594037927936*(((8*ws.length:Nat):Int) % 256)=((72057594037927936*((8*ws.length) % 256):Nat):Int);omega
 have e4:((ws.map fun n:Nat=>(n:Int)).map fun w=>Px (Bf w))=(ws.map bsN).map fun n:Nat=>(n:Int):=by
  rw[List.map_map,List.map_map];exact List.map_congr_left fun x hx=>(Akl (hw x hx)).1
 have hws:∀w∈ws.map bsN++[Nat.mul 72057594037927936 (Nat.mod (Nat.mul 8 ws.length) 256)],w<Fu:=by
  intro w hm;rcases Bx.1 hm with hm|hm
  ·obtain⟨x,hx,rfl⟩:=List.mem_map.1 hm;exact (Akl (hw x hx)).2
  ·obtain rfl:=R8.1 hm;show 72057594037927936*((8*ws.length) % 256)<18446744073709551616;omega
 have s:=Aen h0 h1 hws;rw[List.map_append,List.map_singleton,Aw9,List.foldl_append,<-e4] at s;refine⟨?_,s.2⟩;unfold hwN;rw[<-s.1,Afn,e1,e2,e3];rfl
theorem w64{x:Nat}(h:x<Fu):wrap .u64 (x:Int)=x:=wrap_u64 (by omega) (by have:x<18446744073709551616:=h;omega)
theorem Ahg{dom:Nat}(hd:dom<Fu){ws:B2}(hw:∀w∈ws,w<Fu):B6 (dom:Int) (Ap (ws.map fun n:Nat=>(n:Int)))=((hwN dom 0 ws:Nat):Int)/\hwN dom 0 ws<Fu:=by unfold B6;rw[w64 hd];exact Ak5 (k1:=0) hd (by decide) hw
theorem Bb6{P:Nat->Prop}{a b:Nat}(ha:P a)(hb:P b):∀w∈[a,b],P w:=fun w h=>by simp at h;rcases h with rfl|rfl<;>assumption
theorem Bgd{P:Nat->Prop}{a b c:Nat}(ha:P a)(hb:P b)(hc:P c):∀w∈[a,b,c],P w:=fun w h=>by simp at h;rcases h with rfl|rfl|rfl<;>assumption
theorem Bdm{P:Nat->Prop}{a b c d:Nat}(ha:P a)(hb:P b)(hc:P c)(hd:P d):∀w∈[a,b,c,d],P w:=fun w h=>by simp at h;rcases h with rfl|rfl|rfl|rfl<;>assumption
def TN(leaf chain:Nat):Nat->Nat->Nat->Nat
 |0,_,x=>x
 |k+1,p,x=>sq (hwN 1 0 [leaf,chain,p,x]) fun y=>TN leaf chain k (Nat.succ p) y
theorem Akf{leaf chain:Nat}(hl:leaf<Fu)(hc:chain<Fu):∀(k:Nat){p x:Nat},p+k<Fu->x<Fu->Tx leaf chain k p x=((TN leaf chain k p x:Nat):Int)/\TN leaf chain k p x<Fu
 |0,p,x,_,hx=>⟨rfl,hx⟩
 |k+1,p,x,hp,hx=>by
  have h:=Ahg (dom:=1) (by decide) (Bdm hl hc (show p<Fu by omega) hx);have ih:=Akf hl hc k (p:=p+1) (by omega) h.2;have e:B6 1 (Ap [(leaf:Int),(chain:Int),(p:Int),(x:Int)])=_:=h.1;have e1:((p:Int)+1)=((p+1:Nat):Int):=by omega
  rw[Tx,w64 hl,w64 hc,w64 (show p<Fu by omega),e,e1,TN,Ts];exact ih
def Axm(seed leaf chain:Nat):Nat:=hwN seed 2 [leaf,chain]
theorem Azo{seed leaf chain:Nat}(hs:seed<Fu)(hl:leaf<Fu)(hc:chain<Fu):Aaa seed leaf chain=((Axm seed leaf chain:Nat):Int)/\Axm seed leaf chain<Fu:=by
 have e1:wrap .u64 (1+wrap .u64 1)=((2:Nat):Int):=by decide
 have e2:[(leaf:Int),(chain:Int)]=[leaf,chain].map fun n:Nat=>(n:Int):=rfl;unfold Aaa Atb;rw[w64 hl,w64 hc,e1,e2];exact Ak5 (k1:=2) hs (by decide) (Bb6 hl hc)
def Ajs(leaf:Nat)(E:B2):Nat:=hwN 2 0 (leaf::E)
theorem As9{leaf:Nat}(hl:leaf<Fu){E:B2}(hE:∀e∈E,e<Fu):CI leaf (E.map fun n:Nat=>(n:Int))=((Ajs leaf E:Nat):Int)/\Ajs leaf E<Fu:=by unfold CI;rw[w64 hl];exact Ahg (dom:=2) (ws:=leaf::E) (by decide) (fun w hw=>(List.mem_cons.1 hw).elim (fun e=>e ▸ hl) (hE w))
def Acm(seed leaf c:Nat):Nat:=sq (Axm seed leaf c) fun s=>TN leaf c 15 0 s
def YZ(seed leaf:Nat):Nat:=Ajs leaf ((List.range 18).map (Acm seed leaf))
theorem Arp{seed leaf:Nat}(hs:seed<Fu)(hl:leaf<Fu):Yz seed leaf=((YZ seed leaf:Nat):Int)/\YZ seed leaf<Fu:=by
 have hp:∀c,c<18->MG seed leaf c=((Acm seed leaf c:Nat):Int)/\Acm seed leaf c<Fu:=fun c hc=>by
  have Rd:c<Fu:=Gf hc (by decide);have h:=Azo hs hl Rd;unfold MG Acm;rw[h.1,Ts];exact Akf hl Rd 15 (p:=0) (by decide) h.2
 have e:(List.range 18).map (MG seed leaf)=((List.range 18).map (Acm seed leaf)).map fun n:Nat=>(n:Int):=by
  rw[List.map_map];exact List.map_congr_left fun c hc=>(hp c (List.mem_range.1 hc)).1
 unfold Yz;rw[e];exact As9 hl fun x hx=>by obtain⟨c,hc,rfl⟩:=List.mem_map.1 hx;exact (hp c (List.mem_range.1 hc)).2
def Aru(l a b:Nat):Nat:=hwN 3 0 [l,a,b]
theorem At5{l a b:Nat}(hl:l<Fu)(ha:a<Fu)(hb:b<Fu):Mk l a b=((Aru l a b:Nat):Int)/\Aru l a b<Fu:=by have e2:[(l:Int),(a:Int),(b:Int)]=[l,a,b].map fun n:Nat=>(n:Int):=rfl;unfold Mk;rw[w64 hl,e2];exact Ahg (dom:=3) (by decide) (Bgd hl ha hb)
def CG(seed:Nat):Nat->Nat->Nat
 |0,i=>YZ seed i
 |l+1,i=>sq (Nat.mul 2 i) fun j=>sq (CG seed l j) fun a=>sq (CG seed l (Nat.succ j)) fun b=>Aru (Nat.succ l) a b
theorem QN{seed:Nat}(hs:seed<Fu):∀(l i:Nat),l<1000->i*2 ^ l+2 ^ l<Fu->Ib seed l i=((CG seed l i:Nat):Int)/\CG seed l i<Fu
 |0,i,_,hi=>Arp hs (by omega)
 |l+1,i,hl,hi=>by
  have p:2 ^ (l+1)=2*2 ^ l:=by rw[Nat.pow_succ,Nat.mul_comm]
  have m1:(2*i)*2 ^ l=i*2 ^ (l+1):=by rw[p,<-Nat.mul_assoc,Nat.mul_comm 2 i]
  have m2:(2*i+1)*2 ^ l=i*2 ^ (l+1)+2 ^ l:=by rw[Nat.add_mul,m1,Nat.one_mul]
  have pp:0<2 ^ l:=Nat.two_pow_pos l;have h1:=QN hs l (2*i) (by omega) (by rw[m1];omega)
  have h2:=QN hs l (2*i+1) (by omega) (by rw[m2];omega)
  have e1:(2*(i:Int))=((2*i:Nat):Int):=by omega
  have e2:(2*(i:Int)+1)=((2*i+1:Nat):Int):=by omega
  have h3:=At5 (l:=l+1) (by show l+1<18446744073709551616;omega) h1.2 h2.2
  rw[Ib,e2,e1,h1.1,h2.1,CG,Ts,Ts,Ts];exact h3
def UT(seed leaf:Nat)(m:Int)(c:Nat):Nat:=sq (Axm seed leaf c) fun s=>TN leaf c (dg m c).toNat 0 s
theorem A2e{seed leaf:Nat}(hs:seed<Fu)(hl:leaf<Fu)(m:Int){c:Nat}(hc:c<Fu):RX seed leaf m c=((UT seed leaf m c:Nat):Int)/\UT seed leaf m c<Fu:=by have h:=Azo hs hl hc;have b:=Up m c;unfold RX UT;rw[h.1,Ts];exact Akf hl hc _ (p:=0) (by show 0+_<18446744073709551616;omega) h.2
def BZ(l:B2):Aj:=l.map fun n:Nat=>(n:Int)
def A2a(leaf:Nat)(m:Int)(s:Aj):Nat:=Ajs leaf ((List.range 18).map fun c=>TN leaf c (15-dg m c).toNat (dg m c).toNat (s.getD c 0).toNat)
theorem A88{leaf:Nat}(hl:leaf<Fu)(m:Int){s:Aj}(hs:∀x∈s,0<=x/\x<=18446744073709551615):Ab4 leaf m s=((A2a leaf m s:Nat):Int)/\A2a leaf m s<Fu:=by
 have hp:∀c,c<18->Abz leaf m s c=((TN leaf c (15-dg m c).toNat (dg m c).toNat (s.getD c 0).toNat:Nat):Int)/\TN leaf c (15-dg m c).toNat (dg m c).toNat (s.getD c 0).toNat<Fu:=fun c hc=>by
  have Rd:c<Fu:=Gf hc (by decide);have b:=Up m c
  have hx:0<=s.getD c 0/\s.getD c 0<=18446744073709551615:=by
   rw[List.getD_eq_getElem?_getD];cases h:s[c]? with
   |none=>simp
   |some x=>exact hs x (List.mem_of_getElem? h)
  have hx0:((s.getD c 0).toNat:Int)=s.getD c 0:=Int.toNat_of_nonneg hx.1;have hg:((dg m c).toNat:Int)=dg m c:=Int.toNat_of_nonneg b.1;have h:=Akf hl Rd (15-dg m c).toNat (p:=(dg m c).toNat) (x:=(s.getD c 0).toNat) (by show _<18446744073709551616;omega) (by show _<18446744073709551616;omega)
  rw[hx0,hg] at h;exact h
 have e:FC leaf m s=((List.range 18).map fun c=>TN leaf c (15-dg m c).toNat (dg m c).toNat (s.getD c 0).toNat).map fun n:Nat=>(n:Int):=by
  unfold FC;rw[List.map_map];exact List.map_congr_left fun c hc=>(hp c (List.mem_range.1 hc)).1
 unfold Ab4;rw[e];exact As9 hl fun x hx=>by obtain⟨c,hc,rfl⟩:=List.mem_map.1 hx;exact (hp c (List.mem_range.1 hc)).2
def PD(leaf:Int):Nat->Nat->Aj->Nat
 |_,x,[]=>x
 |i,x,s::r=>sq (if Du .i64 (Gw .i64 leaf i) 1=0 then Aru (Nat.succ i) x s.toNat else Aru (Nat.succ i) s.toNat x) fun y=>PD leaf (Nat.succ i) y r
theorem Abf{leaf:Int}:∀(s:Aj){i x:Nat},(∀y∈s,0<=y/\y<=18446744073709551615)->i+s.length<1000->x<Fu->Y2 leaf i x s=((PD leaf i x s:Nat):Int)/\PD leaf i x s<Fu
 |[],i,x,_,_,hx=>⟨rfl,hx⟩
 |y::r,i,x,hs,hi,hx=>by
  obtain⟨y0,y1⟩:=hs y (by simp);obtain⟨z,rfl⟩:=Int.eq_ofNat_of_zero_le y0;have hz:z<Fu:=by show z<18446744073709551616;omega
  have hi1:i+1<Fu:=by show i+1<18446744073709551616;omega
  simp only[Po] at hi;rw[Zm,PD,Ts];split
  ·have h:=At5 hi1 hx hz;rw[h.1];exact Abf r (fun y hy=>hs y (by simp[hy])) (by omega) h.2
  ·have h:=At5 hi1 hz hx;rw[h.1];exact Abf r (fun y hy=>hs y (by simp[hy])) (by omega) h.2
def TG(n:Int):Bool:=decide (0<=n)&&decide (n<=18446744073709551615)
theorem YI{n:Int}(h:TG n=true):((n.toNat:Nat):Int)=n/\n.toNat<Fu:=by unfold TG at h;simp only[E0,Yd] at h;exact⟨Int.toNat_of_nonneg h.1,by show n.toNat<18446744073709551616;omega⟩
def JM(k:IntKind)(hi:Int):Ae->Option Aj
 |[]=>some []
 |.sc (.int k' n)::r=>bif decide (k'=k)&&decide (0<=n)&&decide (n<=hi) then (JM k hi r).map (n :: ·) else none
 |_=>none
theorem Vr{k:IntKind}{hi:Int}:∀{c:Ae}{l:Aj},JM k hi c=some l->c=Ad k l/\∀x∈l,0<=x/\x<=hi:=by
 intro c
 fun_induction JM k hi c with
 |case1=>intro l h;cases h;exact⟨rfl,fun x hx=>nomatch hx⟩
 |case2 k' n r hb ih=>
  intro l h;cases hr:JM k hi r with
  |none=>rw[hr] at h;cases h
  |some l'=>
   rw[hr] at h;cases h;obtain⟨rfl,h2⟩:=ih hr;simp only[E0,Yd] at hb;obtain⟨⟨rfl,h3⟩,h4⟩:=hb;exact⟨rfl,fun x hx=>(List.mem_cons.1 hx).elim (fun e=>e ▸ ⟨h3,h4⟩) (h2 x)⟩
 |case3=>intro l h;cases h
 |case4=>intro l h;cases h
abbrev JH:=JM .u64 18446744073709551615
abbrev A0m:=JM .u8 255
def leN:B2->Nat
 |[]=>0
 |b::r=>Nat.add b (Nat.mul 256 (leN r))
def wdN:Nat->B2->Nat->B2
 |0,l,t=>[Nat.add (leN l) t]
 |n+1,l,t=>leN (l.take 8)::wdN n (l.drop 8) t
def JE(l:Aj):B2:=l.map Int.toNat
theorem Axx:∀{l:Aj},Cm l->Px l=((leN (JE l):Nat):Int)
 |[],_=>rfl
 |b::r,h=>by
  have h1:=h b (by simp);have e:((b.toNat:Nat):Int)=b:=Int.toNat_of_nonneg h1.1;have ih:=Axx (l:=r) fun x hx=>h x (by simp[hx]);show b+256*Px r=((b.toNat+256*leN (JE r):Nat):Int);rw[ih];omega
theorem A0g{l:Aj}(h:Cm l){n:Nat}(hn:l.length<=n):leN (JE l)<256 ^ n:=by
 have b:=(Q8 h).2;rw[Axx h] at b;have b':leN (JE l)<256 ^ l.length:=by exact_mod_cast b
 exact Gf b' (Nat.pow_le_pow_right (by decide) hn)
theorem Bal:∀(n:Nat){l:Aj}{v:W4}{t:Nat},Cm l->8*n<=l.length->l.length<8*n+8->t<=255*72057594037927936 ->
  L5 (FH n v l) (Px (l.drop (8*n))+(t:Int))=((wdN n (JE l) t).map fun n:Nat=>(n:Int)).foldl L5 v/\∀w∈wdN n (JE l) t,w<Fu
 |0,l,v,t,hb,_,h8,ht=>by
  have h:=Axx hb;have hl:=A0g hb (n:=7) (by omega);refine⟨?_,fun w hw=>?_⟩
  ·show L5 v (Px l+(t:Int))=L5 v ((leN (JE l)+t:Nat):Int);rw[h]
   congr 1
  ·obtain rfl:=R8.1 hw;show leN (JE l)+t<18446744073709551616;have:(256:Nat) ^ 7=72057594037927936:=by decide
   omega
 |n+1,l,v,t,hb,hn,h8,ht=>by
  have F3:Cm (l.take 8):=fun x hx=>hb x (List.mem_of_mem_take hx);have Iy:Cm (l.drop 8):=fun x hx=>hb x (List.mem_of_mem_drop hx);have h1:=Axx F3;have h2:=A0g F3 (n:=8) (by rw[List.length_take];omega)
  have d:(l.drop 8).length=l.length-8:=List.length_drop;have ih:=Bal n (l:=l.drop 8) (v:=L5 v (Px (l.take 8))) (t:=t) Iy (by omega) (by omega) ht;have e1:(l.drop 8).drop (8*n)=l.drop (8*(n+1)):=by rw[List.drop_drop,show 8+8*n=8*(n+1) by omega]
  have e2:JE (l.take 8)=(JE l).take 8:=List.map_take;have e3:JE (l.drop 8)=(JE l).drop 8:=List.map_drop;rw[e1,e3,h1,e2] at ih;rw[e2] at h1 h2;refine⟨?_,fun w hw=>?_⟩
  ·rw[FH,wdN,Vv,List.foldl_cons,<-ih.1,h1]
  ·rcases List.mem_cons.1 hw with rfl|hw
   ·exact h2
   ·exact ih.2 w hw
def A3b(k0 k1:Nat)(l:Aj):Nat:=Ala k0 k1 (wdN (l.length / 8) (JE l) (72057594037927936*(l.length % 256)))
theorem A7z{k0 k1:Nat}(h0:k0<Fu)(h1:k1<Fu){l:Aj}(hb:Cm l):Afn k0 k1 l=((A3b k0 k1 l:Nat):Int):=by
 have h:=Bal (l.length / 8) (l:=l) (v:=Aim k0 k1) (t:=72057594037927936*(l.length % 256)) hb (by omega) (by omega) (by omega);have s:=Aen h0 h1 h.2
 have e:Lk l=Px (l.drop (8*(l.length / 8)))+((72057594037927936*(l.length % 256):Nat):Int):=by
  unfold Lk
  first|rfl|(congr 1;omega)|congr 1
 unfold A3b;rw[<-s.1,Aw9,<-h.1,Afn,e]
def Ayi(args:Ae):Option A4:=
 match args with
 |[.sc (.int .u64 k0),.sc (.int .u64 k1),.lst false 1 n c]=>bif TG k0&&TG k1&&Nat.beq c.length n&&Nat.ble n 1000000 then
   (match A0m c with|some l=>some ⟨[Ah (A3b k0.toNat k1.toNat l:Nat)],[]⟩|none=>none) else none
 |_=>none
def Av0(args:Ae):Option A4:=
 match args with
 |[.lst false 1 n c]=>bif Nat.beq c.length n&&Nat.ble n 1000000 then
   (match JH c with|some l=>some ⟨[.own 1 (Ap l).length (Ad .u8 (Ap l))],[]⟩|none=>none) else none
 |_=>none
def A1m(args:Ae):Option A4:=
 match args with
 |[.sc (.int .u64 seed),.sc (.int .i64 h)]=>bif TG seed && !Dt h then some ⟨[.agg [Aw h,Ah (CG seed.toNat h.toNat 0:Nat)],Aw 0],[]⟩ else none
 |_=>none
def A1s(args:Ae):Option A4:=
 match args with
 |[.sc (.int .u64 seed),.sc (.int .i64 h),.sc (.int .i64 leaf),.sc (.int .u64 m)]=>bif TG seed && !Dt h && !Jh leaf h then
   some ⟨[.agg [Aw leaf,.own 1 18 (Ad .u64 (BZ ((List.range 18).map (UT seed.toNat leaf.toNat m)))),.own 1 h.toNat (Ad .u64 (BZ ((List.range h.toNat).map fun k=>CG seed.toNat k (M4 leaf k).toNat)))],Aw 0],[]⟩ else none
 |_=>none
def A1z(h root m leaf:Int)(ch pa:Aj):Int:=if Dt h=true then 9 else if Jh leaf h=true then 9 else if ch.length≠18 then 4 else if (pa.length:Int)≠h then 4 else okE ((PD leaf 0 (A2a leaf.toNat m ch) pa:Nat):Int) root
def A2l(args:Ae):Option A4:=
 match args with
 |[.agg [.sc (.int .i64 h),.sc (.int .u64 root)],.sc (.int .u64 m),.agg [.sc (.int .i64 leaf),.lst false 1 nc c,.lst false 1 np p]]=>bif Nat.beq c.length nc&&Nat.beq p.length np&&Nat.ble np 100 then
   (match JH c,JH p with|some ch,some pa=>some ⟨[Aw (A1z h root m leaf ch pa)],[]⟩|_,_=>none) else none
 |_=>none
theorem Azs{leaf h:Int}(hh:Dt h=false)(ho:Jh leaf h=false):0<=leaf/\leaf<=15:=by
 have hb:=Iu hh;unfold Jh at ho;simp only[Bool.or_eq_false_iff,decide_eq_false_iff_not] at ho;rcases (by omega:h=0\/h=1\/h=2\/h=3\/h=4) with rfl|rfl|rfl|rfl|rfl
 all_goals (have e:=ho.2;simp[Fp,wrap,IntKind.bits,IntKind.signed] at e;omega)
theorem A1q:∀(l:Fin 16)(k:Fin 4),0<=M4 (l.val:Int) k.val/\M4 (l.val:Int) k.val<=15:=by decide +kernel
theorem A62(h root m leaf:Int){ch pa:Aj}(hc:∀x∈ch,0<=x/\x<=18446744073709551615)(hp:∀x∈pa,0<=x/\x<=18446744073709551615)(hl:pa.length<=100):MX ⟨h,root⟩ m ⟨leaf,ch,pa⟩=A1z h root m leaf ch pa:=by
 unfold MX A1z;simp only;split
 ·rfl
 rename_i h1;split
 ·rfl
 rename_i h2;split
 ·rfl
 split
 ·rfl
 have o:=Azs (by simpa using h1) (by simpa using h2);obtain⟨k,rfl⟩:=Int.eq_ofNat_of_zero_le o.1;have hk:k<Fu:=by show k<18446744073709551616;omega
 have r:=A88 hk m hc;have c:=Abf (leaf:=(k:Int)) pa (i:=0) hp (by omega) r.2;rw[r.1,c.1];rfl
theorem UR{args:Ae}{res:A4}(h:Ayi args=some res):C6 gU prog 98 args res/\C6 gU prog 79 args res:=by
 unfold Ayi at h;split at h
 rotate_left
 ·cases h
 rename_i k0 k1 n c;cases hb:(TG k0&&TG k1&&Nat.beq c.length n&&Nat.ble n 1000000)
 ·rw[hb] at h;cases h
 rw[hb,cond_true] at h;simp only[E0] at hb;obtain⟨⟨⟨b0,b1⟩,b2⟩,b3⟩:=hb;cases hl:A0m c with
 |none=>rw[hl] at h;cases h
 |some l=>
  rw[hl] at h;cases h;obtain⟨rfl,hB⟩:=Vr hl;have hn:n=l.length:=by rw[<-Dc b2,Ak]
  subst hn;have ET:=Pf b3;obtain⟨e0,q0⟩:=YI b0;obtain⟨e1,q1⟩:=YI b1;have e:=A7z q0 q1 hB;rw[e0,e1] at e;rw[<-e];exact⟨Dm ngR mxR Adz _ _ _ _ (App (xs:=xsb) (fu:=2000000) (d:=1) hB (by omega) (by omega) (by omega) k0 k1),Dm ngR mxR Adz _ _ _ _ (Aa5 (xs:=xsb) (fu:=2000000) (d:=1) hB (by omega) (by omega) (by omega) k0 k1)⟩
theorem WL{args:Ae}{res:A4}(h:Av0 args=some res):C6 gU prog 66 args res/\C6 gU prog 50 args res:=by
 unfold Av0 at h;split at h
 rotate_left
 ·cases h
 rename_i n c;cases hb:(Nat.beq c.length n&&Nat.ble n 1000000)
 ·rw[hb] at h;cases h
 rw[hb,cond_true] at h;simp only[E0] at hb;cases hl:JH c with
 |none=>rw[hl] at h;cases h
 |some l=>
  rw[hl] at h;cases h;obtain⟨rfl,_⟩:=Vr hl;have hn:n=l.length:=by rw[<-Dc hb.1,Ak]
  subst hn;have ET:=Pf hb.2;exact⟨Dm ngR mxR Adz _ _ _ _ (Yq (xs:=xsb) (fu:=2000000) (d:=1) (by omega) (by omega) (by omega)),Dm ngR mxR Adz _ _ _ _ (Ic (xs:=xsb) (fu:=2000000) (d:=1) (by omega) (by omega) (by omega))⟩
theorem Alh{args:Ae}{res:A4}(h:A1m args=some res):C6 gU prog 41 args res:=by
 unfold A1m at h;split at h
 rotate_left
 ·cases h
 rename_i seed h0;cases hb:(TG seed && !Dt h0)
 ·rw[hb] at h;cases h
 rw[hb,cond_true] at h;cases h;simp only[E0,Bool.not_eq_true'] at hb;have hl:=Iu hb.2;obtain⟨e0,q0⟩:=YI hb.1
 have nd:=(QN q0 h0.toNat 0 (by omega) (by
  have:=Nat.pow_le_pow_right (n:=2) (by decide) (show h0.toNat<=4 by omega);show 0*2 ^ h0.toNat+2 ^ h0.toNat<18446744073709551616;omega)).1
 rw[e0] at nd;have e:=OQ (xs:=xsb) (fu:=2000000) (d:=1) (by omega) seed h0;unfold Sk at e;rw[hb.2,Br (by simp),Br (by simp),show Ib seed h0.toNat 0=_ from nd] at e;exact Dm ngR mxR Adz _ _ _ _ e
theorem Ano{args:Ae}{res:A4}(h:A1s args=some res):C6 gU prog 26 args res:=by
 unfold A1s at h;split at h
 rotate_left
 ·cases h
 rename_i seed h0 leaf m;cases hb:(TG seed && !Dt h0 && !Jh leaf h0)
 ·rw[hb] at h;cases h
 rw[hb,cond_true] at h;cases h;simp only[E0,Bool.not_eq_true'] at hb;obtain⟨⟨b1,b2⟩,b3⟩:=hb;have hl:=Iu b2;have ho:=Azs b2 b3;obtain⟨e0,q0⟩:=YI b1;obtain⟨k,rfl⟩:=Int.eq_ofNat_of_zero_le ho.1;have hk:k<Fu:=by show k<18446744073709551616;omega
 have e1:X9 seed k m=BZ ((List.range 18).map (UT seed.toNat (k:Int).toNat m)):=by
  unfold X9 BZ;rw[List.map_map];refine List.map_congr_left fun c hc=>?_;have:=(A2e q0 hk m (c:=c) (by have:=List.mem_range.1 hc;show c<18446744073709551616;omega)).1
  rw[e0] at this;exact this
 have e2:((List.range h0.toNat).map fun j=>Ib seed j (M4 k j))=BZ ((List.range h0.toNat).map fun j=>CG seed.toNat j (M4 k j).toNat):=by
  unfold BZ;rw[List.map_map];refine List.map_congr_left fun j hj=>?_;have hj4:j<4:=by have:=List.mem_range.1 hj;omega
  have s:=A1q ⟨k,by omega⟩ ⟨j,hj4⟩;simp only at s;have es:(((M4 k j).toNat:Nat):Int)=M4 k j:=Int.toNat_of_nonneg s.1;have p:2 ^ j<=8:=by rcases (by omega:j=0\/j=1\/j=2\/j=3) with rfl|rfl|rfl|rfl<;>decide
  have p2:(M4 k j).toNat*2 ^ j<=15*8:=Nat.mul_le_mul (by omega) p;have:=(QN q0 j (M4 k j).toNat (by omega) (by show _<18446744073709551616;omega)).1
  rw[e0,es] at this;exact this
 have e:=RZ (xs:=xsb) (fu:=2000000) (d:=1) (by omega) seed h0 k m;unfold Add at e;rw[b2,b3,Br (by simp),Br (by simp),e1,e2] at e;have l1:(BZ ((List.range 18).map (UT seed.toNat (k:Int).toNat m))).length=18:=by simp[BZ]
 have l2:(BZ ((List.range h0.toNat).map fun j=>CG seed.toNat j (M4 k j).toNat)).length=h0.toNat:=by simp[BZ]
 simp only[EN,Sg.owned,l1,l2] at e;exact Dm ngR mxR Adz _ _ _ _ e
theorem Anu{args:Ae}{res:A4}(h:A2l args=some res):C6 gU prog 103 args res:=by
 unfold A2l at h;split at h
 rotate_left
 ·cases h
 rename_i h0 root m leaf nc c np p;cases hb:(Nat.beq c.length nc&&Nat.beq p.length np&&Nat.ble np 100)
 ·rw[hb] at h;cases h
 rw[hb,cond_true] at h;simp only[E0] at hb;cases h1:JH c with
 |none=>rw[h1] at h;cases h
 |some ch=>
  cases h2:JH p with
  |none=>rw[h1,h2] at h;cases h
  |some pa=>
   rw[h1,h2] at h;cases h;obtain⟨rfl,c1⟩:=Vr h1;obtain⟨rfl,c2⟩:=Vr h2;have n1:nc=ch.length:=by rw[<-Dc hb.1.1,Ak]
   have n2:np=pa.length:=by rw[<-Dc hb.1.2,Ak]
   subst n1 n2;rw[<-A62 h0 root m leaf c1 c2 (Pf hb.2)];exact Dm ngR mxR Adz _ _ _ _ (ID (xs:=xsb) (fu:=2000000) (d:=1) (by omega) ⟨h0,root⟩ m ⟨leaf,ch,pa⟩)
def Awz(f:FuncId):Option (Ae->Option A4):=
 bif Nat.beq f 41 then some A1m else bif Nat.beq f 26 then some A1s else bif Nat.beq f 103 then some A2l else bif Nat.beq f 98 then some Ayi else bif Nat.beq f 79 then some Ayi else bif Nat.beq f 66 then some Av0 else bif Nat.beq f 50 then some Av0 else Cb.ext f
def C2:G3:={ Cb with ext:=Awz }
theorem QD{f g:Nat}(h:Nat.beq f g=true):f=g:=Dc h
theorem Bas:GX gU prog C2:=by
 intro f g args res hg h;have hg:Awz f=some g:=hg;unfold Awz at hg;cases h1:Nat.beq f 41
 rotate_left
 ·rw[h1] at hg;cases hg;rw[QD h1];exact Alh h
 cases h2:Nat.beq f 26
 rotate_left
 ·rw[h1,h2] at hg;cases hg;rw[QD h2];exact Ano h
 cases h3:Nat.beq f 103
 rotate_left
 ·rw[h1,h2,h3] at hg;cases hg;rw[QD h3];exact Anu h
 cases h4:Nat.beq f 98
 rotate_left
 ·rw[h1,h2,h3,h4] at hg;cases hg;rw[QD h4];exact (UR h).1
 cases h5:Nat.beq f 79
 rotate_left
 ·rw[h1,h2,h3,h4,h5] at hg;cases hg;rw[QD h5];exact (UR h).2
 cases h6:Nat.beq f 66
 rotate_left
 ·rw[h1,h2,h3,h4,h5,h6] at hg;cases hg;rw[QD h6];exact (WL h).1
 cases h7:Nat.beq f 50
 rotate_left
 ·rw[h1,h2,h3,h4,h5,h6,h7] at hg;cases hg;rw[QD h7];exact (WL h).2
 rw[h1,h2,h3,h4,h5,h6,h7] at hg;exact Adz f g args res hg h
theorem closed{fu d:Nat}{f:FuncId}{args:Ae}{r:A4}(h:H3 C2 prog fu d f args=some r):Ac C2 prog fu d f args=some r:=(AQ d f args).symm.trans h
end
end Go.Proofs.YtamoegpkglhedaaGreatDoor.Pv
