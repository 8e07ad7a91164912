/-
  The proof of SigninAny, part 5.
-/
import Derived.Test.YthlonbjmnomlcaaGreatDoorAD
import Derived.Test.YthlonbjmnomlcaaGreatDoorRows
import Derived.Laws.ResultCell
set_option linter.unusedSimpArgs false
set_option linter.unusedVariables false
namespace Go.Proofs.YthlonbjmnomlcaaGreatDoor.Pv
open Go.IntKind (wrap)
open Go.Proofs.Tryz (prog)
set_option maxRecDepth 1000000
noncomputable section
section
variable {B:FuncId->Option (Ae->Option A8)}(u d:Nat)(F:Ao)
theorem Ym{p:Option (Ae->Option A8)}(u d:Nat)(Z Y:ByteArray):Ac (CP p) prog u (d+1) 172 [Z,Y]=(λ(F:Ao)=>De (F 180 [Z,Y]) λa b=>Be a λa=>Ah b<|Aq (!a) (Bd [Z,false]) (Aw (decide (Int.toNat (↑(ByteArray.size Y):Int)<=ByteArray.size Z)&&decide (ByteArray.size Z<=ByteArray.size Z))<|Aa (ByteArray.extract Z (Int.toNat (↑(ByteArray.size Y):Int)) (ByteArray.size Z)) λa=>Bd [a,true])) (Ac (CP p) prog u d):=Κ
theorem HB{p:Option (Ae->Option A8)}(u d:Nat)(Z Y:ByteArray):Ac (CP p) prog u (d+1) 152 [Z,Y]=(λ(F:Ao)=>De (F 172 [Z,Y]) λa b=>As a λa=>Hm b λb=>Bd [a,b]) (Ac (CP p) prog u d):=Κ
theorem MD{p:Option (Ae->Option A8)}(u d:Nat)(Z Y:ByteArray):Ac (CP p) prog u (d+1) 173 [Z,Y]=(λ(F:Ao)=>Gm .i64 (F 185 [Z,Y]) λa=>Aq (decide (a>=0)) (Aw (decide (0<=a))<|Aw (decide (a.toNat<=ByteArray.size Z))<|Aa (ByteArray.extract Z 0 a.toNat) λb=>Aa (wrap .i64 (a+(↑(ByteArray.size Y):Int))) λa=>Aw (decide (0<=a))<|Aw (decide (a.toNat<=ByteArray.size Z)&&decide (ByteArray.size Z<=ByteArray.size Z))<|Aa (ByteArray.extract Z a.toNat (ByteArray.size Z)) λa=>Bd [b,a,true]) (Bd [Z,Bf ⟨#[]⟩,false])) (Ac (CP p) prog u d):=Κ
theorem Aap{p:Option (Ae->Option A8)}(u d:Nat)(Z Y:ByteArray):Ac (CP p) prog u (d+1) 153 [Z,Y]=(λ(F:Ao)=>De (F 173 [Z,Y]) λa b=>As a λa=>Ad b λb c=>As b λb=>Hm c λc=>Bd [a,b,c]) (Ac (CP p) prog u d):=Κ
theorem TI{p:Option (Ae->Option A8)}(u d:Nat)(Z Y:ByteArray):Ac (CP p) prog u (d+1) 203 [Z,Y]=(λ(F:Ao)=>Gm .i64 (F 185 [Z,Y]) λa=>Bd [a]) (Ac (CP p) prog u d):=Κ
theorem GS{p:Option (Ae->Option A8)}(u d:Nat)(Y Z:ByteArray):Ac (CP p) prog u (d+1) 185 [Y,Z]=(λ(F:Ao)=>Aq ((↑(ByteArray.size Z):Int)==0) (Bd [(0:Int)]) (Aq (Array.toList (ByteArray.data Z)==Array.toList (ByteArray.data Y)) (Bd [(0:Int)]) (Aq ((↑(ByteArray.size Z):Int)==1) (Dj ((Array.toList (ByteArray.data Z))[0]?) λa=>Gm .i64 (F 163 [Y,.sc (.int .u8 (↑(UInt8.toNat a):Int))]) λa=>Bd [a]) (Aq (decide ((↑(ByteArray.size Z):Int)>=(↑(ByteArray.size Y):Int))) (Bd [(-1:Int)]) none)))) (Ac (CP p) prog u d):=Κ
def Gr(Z Y:ByteArray)(X W:Int)(V:Nat)(U T:ByteArray)(S Q:Int)(P:Nat)(O:Int)(N:Ae):Option A8:=H6 u F 186 Tryz.f186 [Z,Y,X,W] [.r,.r,.r,.r,.r,.r,.r,.r,.l,.l] V ⟨lk [(0,U),(1,T),(2,S),(3,Q),(9,.view 9 1 0 P),(10,O)],Fe [(9,.ar false N)]⟩
theorem BK(S Q:ByteArray)(P O:Int)(N:Nat)(Y V:ByteArray)(U T:Int)(X:Nat)(Z:Int)(W:Ae):Gr u F S Q P O (N+1) Y V U T X Z W=(Aq (decide (Z<T)) (Gm .i64 (F 203 [Y,V]) λa=>Aq (decide (a<0)) (Aw (decide (0<=Z)&&decide (Z<(↑X:Int)))<|Aw (decide (0+Z.toNat*1+1<=W.length))<|Aa (B1 W [Y] (0+Z.toNat*1)) λa=>Aa (wrap .i64 (Z+1)) λb=>Aw (decide (0<=b))<|Aw (decide (b.toNat<=X))<|Aa (b.toNat-0) λb=>Aw (decide (b*1<=a.length))<|Bd [.own 1 b (a.take (b*1))]) (Aa (wrap .i64 (a+U)) λb=>Aw (decide (0<=b))<|Aw (decide (b.toNat<=ByteArray.size Y))<|Aa (ByteArray.extract Y 0 b.toNat) λb=>Aw (decide (0<=Z)&&decide (Z<(↑X:Int)))<|Aw (decide (0+Z.toNat*1+1<=W.length))<|Aa (B1 W [b] (0+Z.toNat*1)) λb=>Aa (wrap .i64 (a+(↑(ByteArray.size V):Int))) λa=>Aw (decide (0<=a))<|Aw (decide (a.toNat<=ByteArray.size Y)&&decide (ByteArray.size Y<=ByteArray.size Y))<|Aa (ByteArray.extract Y a.toNat (ByteArray.size Y)) λa=>Aa (wrap .i64 (Z+1)) λc=>Gr u F S Q P O N a V U T X c b)) (Aw (decide (0<=Z)&&decide (Z<(↑X:Int)))<|Aw (decide (0+Z.toNat*1+1<=W.length))<|Aa (B1 W [Y] (0+Z.toNat*1)) λa=>Aa (wrap .i64 (Z+1)) λb=>Aw (decide (0<=b))<|Aw (decide (b.toNat<=X))<|Aa (b.toNat-0) λb=>Aw (decide (b*1<=a.length))<|Bd [.own 1 b (a.take (b*1))])):=Κ
theorem JH{p:Option (Ae->Option A8)}(u d:Nat)(Z X:ByteArray)(W Y:Int):Ac (CP p) prog u (d+1) 186 [Z,X,W,Y]=(λ(F:Ao)=>Aq (Y==0) (Bd [.own 1 0 []]) (Aq (Array.toList (ByteArray.data X)==Array.toList (ByteArray.data (ByteArray.mk #[]))) (De (F 201 [Z,Y]) λa b=>Na 1 a λa c=>Ah b<|Aw (decide (a*1<=c.length))<|Bd [.own 1 a (c.take (a*1))]) (Aq (decide (Y<0)) (Gm .i64 (F 202 [Z,X]) λa=>Aa (wrap .i64 (a+1)) λa=>Aa (wrap .i64 ((↑(ByteArray.size Z):Int)+1)) λb=>Aa (if b<a then b else a) λa=>Aw (decide (0<=a)&&decide (a<=a)&&decide (a*16<=1099511627776)&&decide (a<=1099511627776))<|Aa (wrap .i64 (a-1)) λb=>Gr u F Z X W Y u Z X W b a.toNat 0 (Vu a.toNat [Bf ⟨#[]⟩])) (Aa (wrap .i64 ((↑(ByteArray.size Z):Int)+1)) λa=>Aa (if a<Y then a else Y) λa=>Aw (decide (0<=a)&&decide (a<=a)&&decide (a*16<=1099511627776)&&decide (a<=1099511627776))<|Aa (wrap .i64 (a-1)) λb=>Gr u F Z X W Y u Z X W b a.toNat 0 (Vu a.toNat [Bf ⟨#[]⟩]))))) (Ac (CP p) prog u d):=Κ
theorem TQ{p:Option (Ae->Option A8)}(u d:Nat)(Z Y:ByteArray):Ac (CP p) prog u (d+1) 174 [Z,Y]=(λ(F:Ao)=>De (F 186 [Z,Y,(0:Int),(-1:Int)]) λa b=>Na 1 a λa c=>Ah b<|Aw (decide (a*1<=c.length))<|Bd [.own 1 a (c.take (a*1))]) (Ac (CP p) prog u d):=Κ
def Ew(Z:ByteArray)(Y:Nat)(X:ByteArray)(W V:Int):Option A8:=H6 u F 175 Tryz.f175 [Z] [.r,.r,.l,.r,.l] Y ⟨lk [(0,X),(16,W),(17,V)],Fe []⟩
theorem Q6(W:ByteArray)(V:Nat)(Y:ByteArray)(X Z:Int):Ew u F W (V+1) Y X Z=(Aq (decide (Z<X)) (Aw (decide (0<=Z))<|Dj ((Array.toList (ByteArray.data Y))[Z.toNat]?) λa=>(λe:Option A8=>(λf:Option A8=>(λc:Option A8=>Aq (decide (97<=(↑(UInt8.toNat a):Int))) (Aq (decide ((↑(UInt8.toNat a):Int)<=122)) (Aq ((↑(UInt8.toNat a):Int)==45) (Aq (decide (Z>0)) (Aa (wrap .i64 ((↑(ByteArray.size Y):Int)-1)) λa=>Aa (wrap .i64 (Z+1)) λa=>Ew u F W V Y X a) e) e) c) c) (Aq (decide (48<=(↑(UInt8.toNat a):Int))) (Aq ((↑(UInt8.toNat a):Int)==45) (Aq (decide (Z>0)) (Aa (wrap .i64 ((↑(ByteArray.size Y):Int)-1)) λb=>Aq (!decide ((↑(UInt8.toNat a):Int)<=57)) (Aq (!decide (Z<b)) (Bd [false]) e) e) f) f) (Aq ((↑(UInt8.toNat a):Int)==45) (Aq (decide (Z>0)) (Aa (wrap .i64 ((↑(ByteArray.size Y):Int)-1)) λa=>Aq (!decide (Z<a)) (Bd [false]) (Aa (wrap .i64 (Z+1)) λa=>Ew u F W V Y X a)) (Bd [false])) (Bd [false])))) (Aq (!decide ((↑(UInt8.toNat a):Int)<=57)) (Bd [false]) e)) (Aa (wrap .i64 (Z+1)) λa=>Ew u F W V Y X a)) (Bd [true])):=Κ
theorem MG{p:Option (Ae->Option A8)}(u d:Nat)(Z:ByteArray):Ac (CP p) prog u (d+1) 175 [Z]=(λ(F:Ao)=>Aq (decide ((↑(ByteArray.size Z):Int)<1)) (Bd [false]) (Aq (decide ((↑(ByteArray.size Z):Int)>63)) (Bd [false]) (Ew u F Z u Z ((↑(ByteArray.size Z):Int)) 0))) (Ac (CP p) prog u d):=Κ
def K3(Z:ByteArray)(Y X W:Nat)(V U:Int)(T:Ae):Option A8:=H6 u F 154 Tryz.f154 [Z] [.r,.r,.r,.l,.r,.l] Y ⟨lk [(3,.view 3 1 0 X),(11,.view 3 1 0 W),(12,V),(13,U)],Fe [(3,.ar false T)]⟩
theorem T5(U:ByteArray)(T Y W:Nat)(V Z:Int)(X:Ae):K3 u F U (T+1) Y W V Z X=(Aq (decide (Z<V)) (Aw (decide (0<=Z)&&decide (Z<(↑W:Int)))<|As (X.getD (0+Z.toNat*1) .top) λa=>De (F 175 [a]) λa b=>Be a λa=>Ah b<|Aq (!a) (Bd [(2:Int)]) (Aa (wrap .i64 (Z+1)) λa=>K3 u F U T Y W V a X)) (Aa (wrap .i64 ((↑Y:Int)-1)) λa=>Aw (decide (0<=a)&&decide (a<(↑Y:Int)))<|As (X.getD (0+a.toNat*1) .top) λa=>De (F 176 [a,Bf ⟨#[48,49,50,51,52,53,54,55,56,57]⟩]) λa b=>As a λa=>Ah b<|Aq (Array.toList (ByteArray.data a)==Array.toList (ByteArray.data (ByteArray.mk #[]))) (Bd [(2:Int)]) (Bd [(0:Int)]))):=Κ
theorem TD{p:Option (Ae->Option A8)}(u d:Nat)(Z:ByteArray):Ac (CP p) prog u (d+1) 154 [Z]=(λ(F:Ao)=>Aq (decide ((↑(ByteArray.size Z):Int)>100)) (Bd [(8:Int)]) (De (F 174 [Z,Bf ⟨#[46]⟩]) λa b=>Na 1 a λa c=>Ah b<|K3 u F Z u a a (↑a:Int) 0 c)) (Ac (CP p) prog u d):=Κ
theorem FC{p:Option (Ae->Option A8)}(u d:Nat)(Z:Bool):Ac (CP p) prog u (d+1) 155 [Z]=(λ(F:Ao)=>Aq Z (Bd [(443:Int)]) (Bd [(80:Int)])) (Ac (CP p) prog u d):=Κ
def Ib(Z:ByteArray)(Y:Nat)(X:ByteArray)(W V U:Int):Option A8:=H6 u F 156 Tryz.f156 [Z] [.r,.r,.r,.l,.r,.l] Y ⟨lk [(0,X),(4,W),(21,V),(22,U)],Fe []⟩
theorem Pg(V:ByteArray)(U:Nat)(X:ByteArray)(Y W Z:Int):Ib u F V (U+1) X Y W Z=(Aq (decide (Z<W)) (Aw (decide (0<=Z))<|Dj ((Array.toList (ByteArray.data X))[Z.toNat]?) λa=>Aq (decide ((↑(UInt8.toNat a):Int)<48)) (Bd [(0:Int),false]) (Aq (decide ((↑(UInt8.toNat a):Int)>57)) (Bd [(0:Int),false]) (Aa (wrap .i64 (10*Y)) λb=>Aa (wrap .u8 ((↑(UInt8.toNat a):Int)-48)) λa=>Aa (wrap .i64 a) λa=>Aa (wrap .i64 (b+a)) λa=>Aa (wrap .i64 (Z+1)) λb=>Ib u F V U X a W b))) (Bd [Y,Cn (decide (Y<=65535))])):=Κ
theorem IJ{p:Option (Ae->Option A8)}(u d:Nat)(Z:ByteArray):Ac (CP p) prog u (d+1) 156 [Z]=(λ(F:Ao)=>(λb:Option A8=>Aq (decide ((↑(ByteArray.size Z):Int)<1)) b (Aq (decide ((↑(ByteArray.size Z):Int)>5)) b (Dj ((Array.toList (ByteArray.data Z))[0]?) λa=>Aq ((↑(UInt8.toNat a):Int)==48) b (Ib u F Z u Z 0 ((↑(ByteArray.size Z):Int)) 0)))) (Bd [(0:Int),false])) (Ac (CP p) prog u d):=Κ
theorem YX{p:Option (Ae->Option A8)}(u d:Nat)(Z:ByteArray):Ac (CP p) prog u (d+1) 132 [Z]=(λ(F:Ao)=>De (F 152 [Z,Bf ⟨#[104,116,116,112,115,58,47,47]⟩]) λa b=>As a λa=>Hm b λb=>(λh:PV=>(λg:Option A8=>Aq (!b) (De (F 152 [Z,Bf ⟨#[104,116,116,112,58,47,47]⟩]) λa c=>As a λa=>Hm c λc=>Aq (!c) g (De (F 153 [a,Bf ⟨#[58]⟩]) λa c=>As a λa=>Ad c λc e=>As c λc=>Hm e λe=>Gm .i64 (F 154 [a]) λf=>Aq (f != 0) (Bd [h,f]) (Gm .i64 (F 155 [b]) λf=>Aq e (De (F 156 [c]) λc e=>Bn .i64 c λc=>Hm e λe=>Aq (!e) g (Aq (c==f) g (Bd [.agg [b,a,c],(0:Int)]))) (Bd [.agg [b,a,f],(0:Int)])))) (De (F 153 [a,Bf ⟨#[58]⟩]) λa c=>As a λa=>Ad c λc e=>As c λc=>Hm e λe=>Gm .i64 (F 154 [a]) λf=>Aq (f != 0) (Bd [h,f]) (Gm .i64 (F 155 [b]) λf=>Aq e (De (F 156 [c]) λc e=>Bn .i64 c λc=>Hm e λe=>Aq (!e) g (Aq (c==f) g (Bd [.agg [b,a,c],(0:Int)]))) (Bd [.agg [b,a,f],(0:Int)])))) (Bd [h,(2:Int)])) (.agg [false,Bf ⟨#[]⟩,(0:Int)])) (Ac (CP p) prog u d):=Κ
def Da(Z:ByteArray)(Y:Nat)(X:ByteArray)(W:Nat)(V:Ae):Option A8:=H6 u F 131 Tryz.f131 [Z] [.r,.r,.r,.l,.l] Y ⟨lk [(0,X),(4,.view 4 1 0 W)],Fe [(4,.ar false V)]⟩
def Db(Z:ByteArray)(Y X:Nat)(W:ByteArray)(V:Nat)(U T:Int)(S Q:Int)(P:Ae):Option A8:=H6 u F 131 Tryz.f131 [Z] [.r,.r,.r,.l,.l,.i Y,.r,.l,.r,.r,.l,.r,.l] X ⟨lk [(0,W),(4,.view 4 1 0 V),(5,U),(6,.sc (.int .u32 T)),(28,S),(29,Q)],Fe [(4,.ar false P)]⟩
def C9(Z:ByteArray)(Y X:Nat)(W:ByteArray)(V:Nat)(U:Int)(T S:Nat)(Q P:Int)(O N:Ae):Option A8:=H6 u F 131 Tryz.f131 [Z] [.r,.r,.r,.l,.l,.i Y,.r,.l,.r,.r,.r,.r,.l,.r,.l] X ⟨lk [(0,W),(4,.view 4 1 0 V),(5,U),(9,.ptr 9 0),(58,.view 9 1 T S),(59,Q),(60,P)],Fe [(4,.ar false O),(9,.ar false N)]⟩
theorem Km(W:ByteArray)(V:Nat)(Z:ByteArray)(Y:Nat)(X:Ae):Da u F W (V+1) Z Y X=(Aq (decide ((↑(ByteArray.size Z):Int)>0)) (Aa (if (↑(ByteArray.size Z):Int)<4 then (↑(ByteArray.size Z):Int) else 4) λa=>Db u F W V u Z Y a 0 a 0 X) (Aw (decide (Y*1<=X.length))<|Bd [.own 1 Y (X.take (Y*1)),(0:Int)])):=Κ
theorem Kq(V:ByteArray)(U P:Nat)(X:ByteArray)(T:Nat)(W Y:Int)(S Z:Int)(Q:Ae):Db u F V U (P+1) X T W Y S Z Q=(Aq (decide (Z<S)) (Aw (decide (0<=Z))<|Dj ((Array.toList (ByteArray.data X))[Z.toNat]?) λa=>Gm .i64 (F 148 [Bf ⟨#[65,66,67,68,69,70,71,72,73,74,75,76,77,78,79,80,81,82,83,84,85,86,87,88,89,90,97,98,99,100,101,102,103,104,105,106,107,108,109,110,111,112,113,114,115,116,117,118,119,120,121,122,48,49,50,51,52,53,54,55,56,57,45,95]⟩,.sc (.int .u8 (↑(UInt8.toNat a):Int))]) λa=>Aq (decide (a<0)) (Bd [.own 1 0 [],(2:Int)]) (Aa (wrap .u32 a) λa=>Aa (wrap .i64 (6*Z)) λb=>Aa (wrap .i64 (18-b)) λb=>Aw (decide (0<=b))<|Aa (Dx .u32 a b) λa=>Aa (Vg .u32 Y a) λa=>Aa (wrap .i64 (Z+1)) λb=>Db u F V U P X T W a S b Q)) (Aa (Gs .u32 Y 16) λa=>Aa (wrap .u8 a) λa=>Aa (Gs .u32 Y 8) λb=>Aa (wrap .u8 b) λb=>Aa (wrap .u8 Y) λc=>Aa (wrap .i64 (W-1)) λe=>Aw (decide (0<=e))<|Aw (decide (e.toNat<=3)&&true)<|Aa (0+e.toNat*1) λf=>Aa (3-e.toNat) λe=>C9 u F V U u X T W f e (↑e:Int) 0 Q ([.sc (.int .u8 a),.sc (.int .u8 b),.sc (.int .u8 c)]))):=Κ
theorem Kf(T:ByteArray)(S N:Nat)(Z:ByteArray)(Y:Nat)(W:Int)(Q P:Nat)(O V:Int)(U X:Ae):C9 u F T S (N+1) Z Y W Q P O V U X=(Aq (decide (V<O)) (Aw (decide (0<=V)&&decide (V<(↑P:Int)))<|Bn .u8 (X.getD (Q+V.toNat*1) .top) λa=>Aq (a != 0) (Bd [.own 1 0 [],(2:Int)]) (Aa (wrap .i64 (V+1)) λa=>C9 u F T S N Z Y W Q P O a U X)) (Aa (wrap .i64 (W-1)) λa=>Aw (decide (3<=X.length)&&true)<|Aw (decide (0<=a))<|Aw (decide (a.toNat<=3))<|Aa (a.toNat-0) λa=>Aw (decide (0+a*1<=X.length))<|Aw (decide (Y*1<=U.length)&&decide (List.length (List.take (a*1) (X.drop 0))=a*1)&&decide ((Y+a)*1<=1099511627776)&&decide (Y+a<=1099511627776))<|Aa (Y+a) λb=>Aa (List.take (Y*1) U++List.take (a*1) (X.drop 0)) λa=>Aw (decide (0<=W))<|Aw (decide (W.toNat<=ByteArray.size Z)&&decide (ByteArray.size Z<=ByteArray.size Z))<|Aa (ByteArray.extract Z W.toNat (ByteArray.size Z)) λc=>Da u F T S c b a)):=Κ
theorem Y3{p:Option (Ae->Option A8)}(u d:Nat)(Z:ByteArray):Ac (CP p) prog u (d+1) 131 [Z]=(λ(F:Ao)=>Aa (Int.tmod (↑(ByteArray.size Z):Int) 4) λa=>Aq (a==1) (Bd [.own 1 0 [],(2:Int)]) (Aa (wrap .i64 (Int.tdiv (↑(ByteArray.size Z):Int) 4)) λa=>Aa (wrap .i64 (a*3)) λa=>Aa (wrap .i64 (a+2)) λa=>Aw (decide (0<=a)&&decide (a*1<=1099511627776)&&decide (a<=1099511627776))<|Da u F Z u Z 0 ([]))) (Ac (CP p) prog u d):=Κ
end
theorem Avu{a b:Int}(e:0<=a/\a<=255)(f:0<=b/\b<=255):(a.toNat.toUInt8==b.toNat.toUInt8)=decide (a=b):=by
 rw[Bool.eq_iff_iff,beq_iff_eq,decide_eq_true_iff];constructor
 ·intro h;have:=congrArg UInt8.toNat h;have c:a.toNat.toUInt8.toNat=a.toNat % 256:=by rw[Nat.toUInt8,UInt8.toNat_ofNat']
  have d:b.toNat.toUInt8.toNat=b.toNat % 256:=by rw[Nat.toUInt8,UInt8.toNat_ofNat']
  rw[c,d] at this;omega
 ·rintro rfl;rfl
theorem M2{c:Int}(a:0<=c/\c<=255):((c.toNat.toUInt8.toNat:Nat):Int)=c:=by rw[Nat.toUInt8,UInt8.toNat_ofNat'];omega
theorem Akq{c x:Int}(r:Ak)(e:x≠c):Bz c (x::r)=x::Bz c r:=by unfold Bz;rw[List.takeWhile_cons_of_pos (by simp[e])]
theorem Adn{c:Int}(r:Ak):Bz c (c::r)=[]:=by unfold Bz;rw[List.takeWhile_cons_of_neg Ψ]
theorem Uj(c:Int)(l:Ak):Bz c l=l.take (Bz c l).length:=by have h:Bz c l <+: l:=List.takeWhile_prefix _;exact List.prefix_iff_eq_take.1 h
theorem UN(c:Int)(l:Ak):(Bz c l).length<=l.length:=by have h:Bz c l <+: l:=List.takeWhile_prefix _;exact h.length_le
theorem An6(c:Int)(l:Ak)(h:¬(Bz c l).length<l.length):Bz c l=l:=by have:=UN c l;rw[Uj c l,Jo Ω]
def PU(c:Int)(l:Ak):Int:=if (Bz c l).length<l.length then ((Bz c l).length:Int) else -1
theorem Aoq{c:Int}(a:0<=c/\c<=255):∀{l:Ak},Ce l->Lib.indexByte (l.map λn=>n.toNat.toUInt8) c.toNat.toUInt8=PU c l
 |[],_=>rfl
 |x::r,h=>by
  obtain⟨b,d⟩:=Ca h;have f:=Aoq a d;show (if (x.toNat.toUInt8==c.toNat.toUInt8)=true then (0:Int) else if (Lib.indexByte (r.map λn=>n.toNat.toUInt8) c.toNat.toUInt8 == -1)=true then -1 else Lib.indexByte (r.map λn=>n.toNat.toUInt8) c.toNat.toUInt8+1)=_;rw[Avu b a,f];by_cases e:x=c
  ·subst e;unfold PU;rw[Adn];simp
  ·unfold PU;rw[Akq r e];simp only[JI,e,if_false,Ox];by_cases g:(Bz c r).length<r.length
   ·simp only[Bq g,Bq (show (Bz c r).length+1<r.length+1 by omega)];rw[Bb (show ¬(((((Bz c r).length:Int)) == -1)=true) by rw[beq_iff_eq];omega)]
    omega
   ·simp only[Bb g,Bb (show ¬(Bz c r).length+1<r.length+1 by omega)];rfl
theorem Ac2{c:Int}(d:0<=c/\c<=255):∀{l:Ak},Ce l->(l.map λn=>n.toNat.toUInt8).count c.toNat.toUInt8+1=(Bh c l).length
 |[],_=>rfl
 |x::r,h=>by
  obtain⟨g,i⟩:=Ca h;have b:=Ac2 d i;rw[CZ,List.count_cons,Avu g d];unfold Bh;by_cases e:x=c
  ·rw[Bq e,Bq (by simp[e]),Ox,<-b]
  ·rw[Bb e,Bb (by simp[e])];cases f:Bh c r with
   |nil=>exact absurd f (To c r)
   |cons a t=>
    rw[f] at b
    simpa using b
theorem FU(c:Int):∀(l:Ak),(Bh c l).length<=l.length+1
 |[]=>Cg _
 |x::r=>by
  have b:=FU c r;unfold Bh;split
  ·simp;omega
  ·cases d:Bh c r with
   |nil=>simp
   |cons a t=>rw[d] at b;simp at b ⊢;omega
theorem Aba(c:Int)(l:Ak):1<=(Bh c l).length:=by
 have:=To c l;cases b:Bh c l with
 |nil=>exact absurd b this
 |cons a t=>simp
theorem Aou{a:Ae}{n:Nat}{x y:PV}{r:Ae}(h:a.length=n):(a++x::r).set n y=a++y::r:=by
 subst h
 induction a with
 |nil=>rfl
 |cons z a b=>simp[b]
theorem dle(n:Nat):decide (n<=n)=true:=Ψ
section
variable {u d:Nat}{p:Option (Ae->Option A8)}
theorem Apt{c:Int}(f:0<=c/\c<=255){l:Ak}(h:Ce l):Ac (CP p) prog u (d+2) 185 [Bf (Ab l),Bf (Ab [c])]=some ⟨[A0 (PU c l)],[]⟩:=by
 have e:Ac (CP p) prog u (d+1) 163 [Bf (Ab l),.sc (.int .u8 c)]=some ⟨[A0 (Lib.indexByte (Ab l).data.toList c.toNat.toUInt8)],[]⟩:=rfl;have j:(Ab l).data.toList=l.map λn=>n.toNat.toUInt8:=rfl;rw[j,Aoq f h] at e;have i:((((Ab [c]).size:Nat):Int)==0)=false:=by rw[Ai];rfl
 have k:((((Ab [c]).size:Nat):Int)==1)=true:=by rw[Ai];rfl
 have m:(Array.toList (Ab [c]).data)[0]?=some c.toNat.toUInt8:=rfl;have o:=M2 f;rw[GS];by_cases g:[c]=l
 ·subst g;have a:(Array.toList (Ab [c]).data==Array.toList (Ab [c]).data)=true:=Ψ
  have r:PU c [c]=0:=by unfold PU;rw[Adn];rfl
  simp only[Av,Au,i,a,r]
 ·have a:(Array.toList (Ab [c]).data==Array.toList (Ab l).data)=false:=by
   rw[Bool.eq_false_iff,ne_eq,beq_iff_eq];intro q;apply g
   have s:Ab [c]=Ab l:=by
    cases b:Ab [c];cases t:Ab l;rw[b,t] at q;exact congrArg ByteArray.mk (Array.toList_inj.1 q)
   have v:=congrArg Ci s
   rwa [Ct h,Ct (λx b=>by simp at b;omega)] at v
  simp only[Av,Au,i,a,k,m,o,e]
theorem Av0{c:Int}(a:0<=c/\c<=255){l:Ak}(b:Ce l):Ac (CP p) prog u (d+3) 203 [Bf (Ab l),Bf (Ab [c])]=some ⟨[A0 (PU c l)],[]⟩:=by have e:Ac (CP p) prog u (d+2) 185 [Bf (Ab l),Bf (Ab [c])]=_:=Apt (u:=u) (d:=d) (p:=p) a b;rw[TI];simp only[Av,Au,e]
theorem Yn{l:Ak}(a:Ce l)(n:Nat):(Ab l).extract 0 n=Ab (l.take n):=by rw[KU,Ct a]
theorem Zv{l:Ak}(b:Ce l)(n:Nat):(Ab l).extract n l.length=Ab (l.drop n):=by
 have:=RY (s:=Ab l) (a:=n)
 rwa [Ai,Ct b] at this
theorem Bc2{c:Int}(j:0<=c/\c<=255){l:Ak}(a:Ce l)(v:l.length<=1000000):Ac (CP p) prog u (d+4) 153 [Bf (Ab l),Bf (Ab [c])]=some ⟨[Bf (Ab (Bz c l)),Bf (Ab (l.drop ((Bz c l).length+1))),Cn (decide ((Bz c l).length<l.length))],[]⟩:=by
 have e:Ac (CP p) prog u (d+2) 185 [Bf (Ab l),Bf (Ab [c])]=_:=Apt (u:=u) (d:=d) (p:=p) j a
 have k:Ac (CP p) prog u (d+3) 173 [Bf (Ab l),Bf (Ab [c])]=some ⟨[Bf (Ab (Bz c l)),Bf (Ab (l.drop ((Bz c l).length+1))),Cn (decide ((Bz c l).length<l.length))],[]⟩:=by
  refine (MD (p:=p) u (d+2) _ _).trans ?_;by_cases g:(Bz c l).length<l.length
  ·have hi:PU c l=(Bz c l).length:=by unfold PU;rw[Bq g]
   rw[hi] at e;have b:decide (((Bz c l).length:Int)>=0)=true:=Ψ
   have m:decide ((0:Int)<=((Bz c l).length:Int))=true:=Ψ
   have n:decide (Int.toNat ((Bz c l).length:Int)<=l.length)=true:=by simp;omega
   have o:(Ab l).extract 0 (Int.toNat ((Bz c l).length:Int))=Ab (Bz c l):=by
    rw[H8,Yn a,<-Uj]
   have q:wrap .i64 (((Bz c l).length:Int)+(([c].length:Nat):Int))=(((Bz c l).length+1:Nat):Int):=by
    rw[E0 (by simp;omega) (by simp;omega)];simp
   have r:decide ((0:Int)<=(((Bz c l).length+1:Nat):Int))=true:=by simp;omega
   have s:decide (Int.toNat (((Bz c l).length+1:Nat):Int)<=l.length)=true:=by simp;omega
   have t:(Ab l).extract (Int.toNat (((Bz c l).length+1:Nat):Int)) l.length=Ab (l.drop ((Bz c l).length+1)):=by
    rw[H8,Zv a]
   have f:decide ((Bz c l).length<l.length)=true:=by simpa using g
   simp only[Av,Au,e,Ai,dle,b,m,n,o,q,r,s,t,f]
  ·have hi:PU c l = -1:=by unfold PU;rw[Bb g]
   rw[hi] at e;have b:decide ((-1:Int)>=0)=false:=rfl;have f:decide ((Bz c l).length<l.length)=false:=by simpa using g
   have h:l.drop ((Bz c l).length+1)=[]:=List.drop_eq_nil_of_le Ω;have i:(ByteArray.mk #[])=Ab []:=rfl;rw[f,h,An6 c l g];simp only[Av,Au,e,b,i]
 rw[Aap];simp only[Av,Au,k]
theorem A4i{l w:Ak}(a:Ce l)(b:Ce w):Ac (CP p) prog u (d+4) 152 [Bf (Ab l),Bf (Ab w)]=some ⟨[Bf (Ab (if w.isPrefixOf l=true then l.drop w.length else l)),Cn (w.isPrefixOf l)],[]⟩:=by
 have e:Ac (CP p) prog u (d+2) 180 [Bf (Ab l),Bf (Ab w)]=some ⟨[Cn (w.isPrefixOf l)],[]⟩:=A45 (B:=Aff p) (u:=u) (d:=d+1) a b
 have c:Ac (CP p) prog u (d+3) 172 [Bf (Ab l),Bf (Ab w)]=some ⟨[Bf (Ab (if w.isPrefixOf l=true then l.drop w.length else l)),Cn (w.isPrefixOf l)],[]⟩:=by
  refine (Ym (p:=p) u (d+2) _ _).trans ?_;cases hp:w.isPrefixOf l
  ·rw[hp] at e;simp only[Av,Au,e,Gg,Bool.false_eq_true,if_false]
  ·rw[hp] at e;have IV:w.length<=l.length:=(List.isPrefixOf_iff_prefix.1 hp).length_le;have f:decide (Int.toNat ((w.length:Nat):Int)<=l.length)=true:=by simp;omega
   have g:(Ab l).extract (Int.toNat ((w.length:Nat):Int)) l.length=Ab (l.drop w.length):=by rw[H8,Zv a]
   simp only[Av,Au,e,Ai,dle,f,g,Es,if_true]
 rw[HB];simp only[Av,Au,c]
def BG(x:Ak):PV:=Bf (Ab x)
theorem Alc{c:Int}(l:0<=c/\c<=255){a0 a1:ByteArray}{a2 a3:Int}{N:Nat}(E:N<=1000000):∀(nn:Nat)(r:Ak)(done:List Ak),r.length+1<=nn->r.length<=1000000->Ce r->done.length+(Bh c r).length=N ->
  Gr u (Ac (CP p) prog u (d+3)) a0 a1 a2 a3 nn (Ab r) (Ab [c]) 0 ((N:Int)-1) N (done.length:Int) (done.map BG++List.replicate (Bh c r).length (Bf ⟨#[]⟩))=some ⟨[.own 1 N ((done++Bh c r).map BG)],[]⟩:=by
 intro nn
 induction nn with
 |zero=>intro r done h;omega
 |succ k m=>
  intro r done G n a H;have e:Ac (CP p) prog u (d+3) 203 [Bf (Ab r),Bf (Ab [c])]=_:=Av0 (u:=u) (d:=d) (p:=p) l a;rw[BK];have Iy:=SI c r;by_cases g:(Bz c r).length<r.length
  ·rw[Bq g] at Iy;have hi:PU c r=(Bz c r).length:=by unfold PU;rw[Bq g]
   rw[hi] at e;have hp:=Aba c (r.drop ((Bz c r).length+1));have Tn:(Bh c r).length=(Bh c (r.drop ((Bz c r).length+1))).length+1:=by rw[Iy];simp
   have a0:decide ((done.length:Int)<(N:Int)-1)=true:=by simp;omega
   have a1:decide (((Bz c r).length:Int)<0)=false:=Ψ
   have a2:wrap .i64 (((Bz c r).length:Int)+0)=((Bz c r).length:Int):=Bi
   have a3:decide ((0:Int)<=((Bz c r).length:Int))=true:=Ψ
   have o:decide (Int.toNat ((Bz c r).length:Int)<=r.length)=true:=by simp;omega
   have q:(Ab r).extract 0 (Int.toNat ((Bz c r).length:Int))=Ab (Bz c r):=by rw[H8,Yn a,<-Uj]
   have b:(decide ((0:Int)<=(done.length:Int))&&decide ((done.length:Int)<(N:Int)))=true:=by simp;omega
   have f:decide (0+Int.toNat (done.length:Int)*1+1<=List.length (done.map BG++List.replicate (Bh c r).length (PV.sc (.string ⟨#[]⟩))))=true:=by simp;omega
   have i:B1 (done.map BG++List.replicate (Bh c r).length (PV.sc (.string ⟨#[]⟩))) [PV.sc (.string (Ab (Bz c r)))] (0+Int.toNat (done.length:Int)*1)=(done++[Bz c r]).map BG++List.replicate (Bh c (r.drop ((Bz c r).length+1))).length (PV.sc (.string ⟨#[]⟩)):=by
    rw[Mr (by simp;omega),Tn,List.replicate_succ,H8,Ka,Jy,Aou Ψ]
    simp[BG]
   have s:wrap .i64 (((Bz c r).length:Int)+(([c].length:Nat):Int))=(((Bz c r).length+1:Nat):Int):=by
    rw[E0 (by simp;omega) (by simp;omega)];simp
   have t:decide ((0:Int)<=(((Bz c r).length+1:Nat):Int))=true:=by simp;omega
   have v:decide (Int.toNat (((Bz c r).length+1:Nat):Int)<=r.length)=true:=by simp;omega
   have w:(Ab r).extract (Int.toNat (((Bz c r).length+1:Nat):Int)) r.length=Ab (r.drop ((Bz c r).length+1)):=by rw[H8,Zv a]
   have j:wrap .i64 ((done.length:Int)+1)=(((done++[Bz c r]).length:Nat):Int):=by
    rw[Bc];simp
   have hd:=m (r.drop ((Bz c r).length+1)) (done++[Bz c r]) (by simp;omega) (by simp;omega) ((λx y=>a x (List.mem_of_mem_drop y))) (by simp;omega)
   simp only[Av,Au,e,Ai,dle,a0,a1,a2,a3,o,q,b,f,i,s,t,v,w,j];rw[hd,Iy];simp
  ·rw[Bb g] at Iy;have Tn:(Bh c r).length=1:=by rw[Iy];rfl
   have a0:decide ((done.length:Int)<(N:Int)-1)=false:=by simp;omega
   have b:(decide ((0:Int)<=(done.length:Int))&&decide ((done.length:Int)<(N:Int)))=true:=by simp;omega
   have f:decide (0+Int.toNat (done.length:Int)*1+1<=List.length (done.map BG++List.replicate (Bh c r).length (PV.sc (.string ⟨#[]⟩))))=true:=by simp;omega
   have i:B1 (done.map BG++List.replicate (Bh c r).length (PV.sc (.string ⟨#[]⟩))) [PV.sc (.string (Ab r))] (0+Int.toNat (done.length:Int)*1)=(done++[r]).map BG:=by
    rw[Mr (by simp;omega),Tn,show List.replicate 1 (PV.sc (Value.string ⟨#[]⟩))=[PV.sc (.string ⟨#[]⟩)] from rfl,H8,Ka,Jy,Aou Ψ]
    simp[BG]
   have j:wrap .i64 ((done.length:Int)+1)=(N:Int):=by
    rw[Bc];omega
   have z:decide ((0:Int)<=(N:Int))=true:=Ψ
   have A:decide (Int.toNat (N:Int)<=N)=true:=Ψ
   have C:Int.toNat (N:Int)-0=N:=Ψ
   have b8:decide (N*1<=List.length ((done++[r]).map BG))=true:=by simp;omega
   have D:List.take (N*1) ((done++[r]).map BG)=(done++[r]).map BG:=Jo (by simp;omega)
   simp only[Av,Au,a0,b,f,i,j,z,A,C,b8,D];rw[Iy]
theorem A1u{c:Int}(f:0<=c/\c<=255){l:Ak}(g:Ce l)(C:l.length<=999999)(Bg:l.length+1<=u):Ac (CP p) prog u (d+5) 174 [Bf (Ab l),Bf (Ab [c])]=some ⟨[.own 1 (Bh c l).length ((Bh c l).map BG)],[]⟩:=by
 have e:Ac (CP p) prog u (d+4) 186 [Bf (Ab l),Bf (Ab [c]),A0 0,A0 (-1)]=some ⟨[.own 1 (Bh c l).length ((Bh c l).map BG)],[]⟩:=by
  refine (JH (p:=p) u (d+3) _ _ _ _).trans ?_;have D:=FU c l;have hp:=Aba c l;have a:=Ac2 f g
  have h:Ac (CP p) prog u (d+3) 202 [Bf (Ab l),Bf (Ab [c])]=some ⟨[A0 (((Bh c l).length:Int)-1)],[]⟩:=by
   have:Ac (CP p) prog u (d+3) 202 [Bf (Ab l),Bf (Ab [c])]=some ⟨[A0 (Lib.countByte (Ab l).data.toList c.toNat.toUInt8)],[]⟩:=rfl;rw[this]
   have i:(Lib.countByte (Ab l).data.toList c.toNat.toUInt8:Int)=((Bh c l).length:Int)-1:=by
    have:Lib.countByte (Ab l).data.toList c.toNat.toUInt8+1=(Bh c l).length:=a;omega
   rw[i]
  have j:(((-1:Int))==0)=false:=rfl;have m:(Array.toList (Ab [c]).data==Array.toList (ByteArray.mk #[]).data)=false:=rfl;have n:decide ((-1:Int)<0)=true:=rfl;have o:wrap .i64 (((Bh c l).length:Int)-1+1)=(Bh c l).length:=Bi
  have q:wrap .i64 ((l.length:Int)+1)=l.length+1:=by rw[Bc]
  have r:(if ((l.length:Int)+1)<((Bh c l).length:Int) then ((l.length:Int)+1) else ((Bh c l).length:Int))=(Bh c l).length:=by rw[Bb Ω]
  have s:decide ((0:Int)<=((Bh c l).length:Int))=true:=Ψ
  have t:decide (((Bh c l).length:Int)<=((Bh c l).length:Int))=true:=Ψ
  have c7:decide (((Bh c l).length:Int)*16<=1099511627776)=true:=by simp;omega
  have v:decide (((Bh c l).length:Int)<=1099511627776)=true:=by simp;omega
  have w:wrap .i64 (((Bh c l).length:Int)-1)=((Bh c l).length:Int)-1:=Bc
  have x:Vu (Bh c l).length [PV.sc (.string ⟨#[]⟩)]=List.replicate (Bh c l).length (PV.sc (.string ⟨#[]⟩)):=by
   unfold Vu
   induction (Bh c l).length with
   |zero=>rfl
   |succ k y=>rw[List.replicate_succ,List.flatten_cons,y];rfl
  have b:Int.toNat ((Bh c l).length:Int)=(Bh c l).length:=H8 _;have hd:=Alc (u:=u) (d:=d) (p:=p) f (a0:=Ab l) (a1:=Ab [c]) (a2:=0) (a3:= -1) (N:=(Bh c l).length) Ω u l [] Bg Ω g Ψ;simp only[Av,Au,h,Ai,dle,j,m,n,o,q,r,s,t,c7,v,w,x,b];exact hd
 have z:decide ((Bh c l).length*1<=List.length ((Bh c l).map BG))=true:=Ψ
 have A:List.take ((Bh c l).length*1) ((Bh c l).map BG)=(Bh c l).map BG:=Jo Ψ;rw[TQ];simp only[Av,Au,e,z,A]
end
theorem Ads:∀n:Fin 256,Lib.indexByte Z4.data.toList (n.val:Int).toNat.toUInt8=if Bo (n.val:Int)<64 then Bo (n.val:Int) else -1:=by decide +kernel
theorem Awl{c:Int}(a:0<=c/\c<=255):Lib.indexByte Z4.data.toList c.toNat.toUInt8=if Bo c<64 then Bo c else -1:=by obtain⟨n,rfl⟩:=Int.eq_ofNat_of_zero_le a.1;exact Ads ⟨n,Ω⟩
theorem Bas{y v:Int}(k:Nat)(c:k<=18)(d:0<=y)(e:y % ((2 ^ (k+6):Nat):Int)=0)(i:y<16777216)(a:0<=v)(j:v<64):Vg .u32 y (Dx .u32 (wrap .u32 v) (k:Int))=y+v*((2 ^ k:Nat):Int):=by
 obtain⟨y,rfl⟩:=Int.eq_ofNat_of_zero_le d;obtain⟨v,rfl⟩:=Int.eq_ofNat_of_zero_le a
 have f:wrap .u32 (v:Int)=v:=by
  simp only[wrap,IntKind.bits,IntKind.signed,NT,Bool.false_eq_true,if_false];omega
 have Bny:2 ^ k<=2 ^ 18:=Nat.pow_le_pow_right Ω c
 have b:v*2 ^ k<2 ^ k*64:=by
  rw[Nat.mul_comm];exact Nat.mul_lt_mul_of_pos_left Ω (Nat.pos_of_ne_zero Ψ)
 have g:Dx .u32 (v:Int) (k:Int)=((v*2 ^ k:Nat):Int):=by
  show wrap .u32 ((v:Int)*2 ^ (min (k:Int).toNat IntKind.u32.bits))=_
  have:min (k:Int).toNat IntKind.u32.bits=k:=by
   rw[H8];exact Nat.min_eq_left (by show k<=32;omega)
  rw[this];have:(v:Int)*2 ^ k=((v*2 ^ k:Nat):Int):=Ψ
  rw[this];simp only[wrap,IntKind.bits,IntKind.signed,NT,Bool.false_eq_true,if_false];omega
 rw[f,g];have h:=Bjz y (v*2 ^ k) Ω Ω;refine h.trans ?_
 have hd:y=y / 2 ^ (k+6)*2 ^ (k+6):=by
  have:y % 2 ^ (k+6)=0:=by exact_mod_cast e
  have:=Nat.div_add_mod y (2 ^ (k+6));rw[Nat.mul_comm] at this;omega
 have Cs:v*2 ^ k<2 ^ (k+6):=by rw[Nat.pow_add];exact b
 have:=Nat.shiftLeft_add_eq_or_of_lt Cs (y / 2 ^ (k+6));rw[Nat.shiftLeft_eq,<-hd] at this;rw[<-this];simp
section
variable {u d:Nat}{p:Option (Ae->Option A8)}
theorem A7f{c:Int}(a:0<=c/\c<=255):Ac (CP p) prog u (d+2) 148 [Bf Z4,.sc (.int .u8 c)]=some ⟨[A0 (if Bo c<64 then Bo c else -1)],[]⟩:=by have e:Ac (CP p) prog u (d+1) 163 [Bf Z4,.sc (.int .u8 c)]=some ⟨[A0 (Lib.indexByte Z4.data.toList c.toNat.toUInt8)],[]⟩:=rfl;rw[Awl a] at e;refine (Sk (p:=p) u (d+1) _ _).trans ?_;simp only[Av,Au,e]
theorem Tf{a0:ByteArray}{m0 nn:Nat}{l:Ak}{y1:Nat}{y6:Ae}{i n:Nat}{y3 c:Int}(KH:i<n)(D:n<=4)(m:Ce l)(f:l[i]?=some c)(o:0<=y3)(q:y3 % ((2 ^ (24-6*i):Nat):Int)=0)(r:y3<16777216):
  Db u (Ac (CP p) prog u (d+2)) a0 m0 (nn+1) (Ab l) y1 (n:Int) y3 (n:Int) (i:Int) y6=if Bo c<64 then Db u (Ac (CP p) prog u (d+2)) a0 m0 nn (Ab l) y1 (n:Int) (y3+Bo c*((2 ^ (18-6*i):Nat):Int)) (n:Int) ((i+1:Nat):Int) y6 else some ⟨[.own 1 0 [],A0 2],[]⟩:=by
 have KI:=m c (List.mem_of_getElem? f);have s:=It c;have e:=A7f (u:=u) (d:=d) (p:=p) KI;have g:decide ((i:Int)<(n:Int))=true:=by simp;omega
 have h:decide ((0:Int)<=(i:Int))=true:=Ψ
 have j:(Array.toList (Ab l).data)[Int.toNat (i:Int)]?=some c.toNat.toUInt8:=by
  rw[H8];show (l.map λn=>n.toNat.toUInt8)[i]?=_;rw[List.getElem?_map,f];rfl
 have k:=M2 KI;have t:(ByteArray.mk #[65,66,67,68,69,70,71,72,73,74,75,76,77,78,79,80,81,82,83,84,85,86,87,88,89,90,97,98,99,100,101,102,103,104,105,106,107,108,109,110,111,112,113,114,115,116,117,118,119,120,121,122,48,49,50,51,52,53,54,55,56,57,45,95])=Z4:=rfl;rw[Kq,t];by_cases a:Bo c<64
 ·rw[Bq a] at e;have b:decide (Bo c<0)=false:=by simp;omega
  have w:wrap .i64 (6*(i:Int))=6*(i:Int):=Bc;have x:wrap .i64 (18-6*(i:Int))=((18-6*i:Nat):Int):=Bi
  have z:decide ((0:Int)<=((18-6*i:Nat):Int))=true:=Ψ
  have A:=Bas (y:=y3) (v:=Bo c) (18-6*i) Ω o (by rw[show 18-6*i+6=24-6*i by omega];exact q) r s.1 a
  have C:wrap .i64 ((i:Int)+1)=((i+1:Nat):Int):=Bi
  rw[Bq a];simp only[Av,Au,g,h,j,k,e,b,w,x,z,A,C]
 ·rw[Bb a] at e;have b:decide ((-1:Int)<0)=true:=rfl;rw[Bb a];simp only[Av,Au,g,h,j,k,e,b]
theorem Bck{y:Int}(a:0<=y)(b:y<16777216):wrap .u8 (Gs .u32 y 16)=y / 65536 % 256:=by
 show wrap .u8 (y.fdiv (2 ^ (min (16:Int).toNat IntKind.u32.bits)))=_;have:(2:Int) ^ (min (16:Int).toNat IntKind.u32.bits)=65536:=Δ
 rw[this,Int.fdiv_eq_ediv_of_nonneg _ Ω];simp only[wrap,IntKind.bits,IntKind.signed,NT,Bool.false_eq_true,if_false];omega
theorem Bhd{y:Int}(a:0<=y)(b:y<16777216):wrap .u8 (Gs .u32 y 8)=y / 256 % 256:=by
 show wrap .u8 (y.fdiv (2 ^ (min (8:Int).toNat IntKind.u32.bits)))=_;have:(2:Int) ^ (min (8:Int).toNat IntKind.u32.bits)=256:=Δ
 rw[this,Int.fdiv_eq_ediv_of_nonneg _ Ω];simp only[wrap,IntKind.bits,IntKind.signed,NT,Bool.false_eq_true,if_false];omega
theorem Bim{y:Int}(a:0<=y)(b:y<16777216):wrap .u8 y=y % 256:=by simp only[wrap,IntKind.bits,IntKind.signed,NT,Bool.false_eq_true,if_false];omega
theorem Alm{a0:ByteArray}{m0 nn:Nat}{s:ByteArray}{y1:Nat}{y6:Ae}{n:Nat}{y3:Int}(o:2<=n)(c:n<=4)(a:0<=y3)(b:y3<16777216):
  Db u (Ac (CP p) prog u (d+2)) a0 m0 (nn+1) s y1 (n:Int) y3 (n:Int) (n:Int) y6=C9 u (Ac (CP p) prog u (d+2)) a0 m0 u s y1 (n:Int) (n-1) (4-n) ((4-n:Nat):Int) 0 y6 [.sc (.int .u8 (y3 / 65536 % 256)),.sc (.int .u8 (y3 / 256 % 256)),.sc (.int .u8 (y3 % 256))]:=by
 have e:decide ((n:Int)<(n:Int))=false:=Ψ
 have f:=Bck a b;have g:=Bhd a b;have h:=Bim a b;have i:wrap .i64 ((n:Int)-1)=((n-1:Nat):Int):=Bi
 have j:decide ((0:Int)<=((n-1:Nat):Int))=true:=Ψ
 have k:decide (Int.toNat ((n-1:Nat):Int)<=3)=true:=by simp;omega
 have l:0+Int.toNat ((n-1:Nat):Int)*1=n-1:=by rw[H8];omega
 have m:3-Int.toNat ((n-1:Nat):Int)=4-n:=by rw[H8];omega
 rw[Kq];simp only[Av,Au,e,f,g,h,i,j,k,l,m]
end
section
variable {u d:Nat}{p:Option (Ae->Option A8)}
abbrev grp(A B C:Int):Ae:=[.sc (.int .u8 A),.sc (.int .u8 B),.sc (.int .u8 C)]
abbrev Bhx:Option A8:=some ⟨[.own 1 0 [],A0 2],[]⟩
theorem A8e{F:Ao}{a0 s:ByteArray}{m0 nn y1:Nat}{n i j:Nat}{y7:Ae}{A B C X:Int}(g:i<j)(l:j<=4)(h:List.getD (grp A B C) (n+i) .top=.sc (.int .u8 X)){q:Int}:
  C9 u F a0 m0 (nn+1) s y1 q n j (j:Int) (i:Int) y7 (grp A B C)=if X=0 then C9 u F a0 m0 nn s y1 q n j (j:Int) ((i+1:Nat):Int) y7 (grp A B C) else Bhx:=by
 have d:decide ((i:Int)<(j:Int))=true:=by simp;omega
 have e:(decide ((0:Int)<=(i:Int))&&decide ((i:Int)<(j:Int)))=true:=by simp;omega
 have a:decide ((0:Int)<=(i:Int))=true:=Ψ
 have f:List.getD (grp A B C) (n+Int.toNat (i:Int)*1) PV.top=.sc (.int .u8 X):=by rw[H8,Jy];exact h
 have k:wrap .i64 ((i:Int)+1)=((i+1:Nat):Int):=Bi
 rw[Kf];by_cases b:X=0
 ·subst b;have c:((0:Int) != 0)=false:=rfl;rw[Bq rfl];simp only[Av,Au,d,e,a,f,k,c]
 ·have c:(X != 0)=true:=by simp[b]
  rw[Bb b];simp only[Av,Au,d,e,a,f,c]
theorem Amu{F:Ao}{a0:ByteArray}{m0 nn:Nat}{n j:Nat}{l a:Ak}{A B C:Int}(c:2<=n)(b:n<=4)(d:Ce l)(e:n<=l.length)(XG:a.length<=1000000){st:Nat}:
  C9 u F a0 m0 (nn+1) (Ab l) a.length (n:Int) st j (j:Int) (j:Int) (Af .u8 a) (grp A B C)=Da u F a0 m0 (Ab (l.drop n)) (a++[A,B,C].take (n-1)).length (Af .u8 (a++[A,B,C].take (n-1))):=by
 have f:decide ((j:Int)<(j:Int))=false:=Ψ
 have g:wrap .i64 ((n:Int)-1)=((n-1:Nat):Int):=Bi
 have h:(decide (3<=List.length (grp A B C))&&true)=true:=rfl;have i:decide ((0:Int)<=((n-1:Nat):Int))=true:=Ψ
 have k:decide (Int.toNat ((n-1:Nat):Int)<=3)=true:=by simp;omega
 have m:Int.toNat ((n-1:Nat):Int)-0=n-1:=by rw[H8];omega
 have o:decide (0+(n-1)*1<=List.length (grp A B C))=true:=by simp;omega
 have p:decide (a.length*1<=List.length (Af .u8 a))=true:=by rw[Am];simp
 have q:decide (List.length (List.take ((n-1)*1) (List.drop 0 (grp A B C)))=(n-1)*1)=true:=by simp;omega
 have r:decide ((a.length+(n-1))*1<=1099511627776)=true:=by simp;omega
 have s:decide (a.length+(n-1)<=1099511627776)=true:=by simp;omega
 have t:List.take (a.length*1) (Af .u8 a)++List.take ((n-1)*1) (List.drop 0 (grp A B C))=Af .u8 (a++[A,B,C].take (n-1)):=by
  have v:Af .u8 (a++[A,B,C].take (n-1))=Af .u8 a++Af .u8 ([A,B,C].take (n-1)):=List.flatMap_append;rw[Jo (by rw[Am];omega),v,Nr,Jy]
  congr 1
  match n,c,b with
  |2,_,_=>rfl
  |3,_,_=>rfl
  |4,_,_=>rfl
 have w:decide ((0:Int)<=(n:Int))=true:=Ψ
 have x:decide (Int.toNat (n:Int)<=l.length)=true:=by simp;omega
 have y:(Ab l).extract (Int.toNat (n:Int)) l.length=Ab (l.drop n):=by rw[H8,Zv d]
 have z:a.length+(n-1)=(a++[A,B,C].take (n-1)).length:=by simp;omega
 rw[Kf];simp only[Av,Au,Ai,dle,f,g,h,i,k,m,o,p,q,r,s,t,w,x,y];rw[z]
theorem Awq{a0:ByteArray}(Bg:10<=u):∀(m:Nat)(l f:Ak)(nn:Nat),l.length<=4*m->m+1<=nn->Ce l->l.length % 4≠1->f.length+l.length<=1000000 ->
  Da u (Ac (CP p) prog u (d+2)) a0 nn (Ab l) f.length (Af .u8 f)=some (match Ly l with|none=>⟨[.own 1 0 [],A0 2],[]⟩|some b=>⟨[.own 1 (f++b).length (Af .u8 (f++b)),A0 0],[]⟩):=by
 obtain⟨u,rfl⟩:∃k,u=k+10:=⟨u-10,Ω⟩
 have zero:∀(f:Ak) (nn:Nat),f.length<=1000000->Da (u+10) (Ac (CP p) prog (u+10) (d+2)) a0 (nn+1) (Ab []) f.length (Af .u8 f)=some ⟨[.own 1 f.length (Af .u8 f),A0 0],[]⟩:=by
  intro f nn h;have z:decide ((((Ab []).size:Nat):Int)>0)=false:=rfl;have A:decide (f.length*1<=List.length (Af .u8 f))=true:=by rw[Am];simp
  have H:List.take (f.length*1) (Af .u8 f)=Af .u8 f:=Jo (by rw[Am];omega)
  rw[Km];simp only[Av,Au,z,A,H]
 intro m
 induction m with
 |zero=>
  intro l f nn w I g q XG;have:l=[]:=List.eq_nil_of_length_eq_zero Ω;subst this;obtain⟨k,rfl⟩:∃k,nn=k+1:=⟨nn-1,Ω⟩
  rw[zero f k Ω];simp[Ly]
 |succ m C=>
  intro l f nn w I g q XG;obtain⟨k,rfl⟩:∃k,nn=k+1:=⟨nn-1,Ω⟩
  have head:∀(n:Nat),l.length>0->n=min l.length 4->Da (u+10) (Ac (CP p) prog (u+10) (d+2)) a0 (k+1) (Ab l) f.length (Af .u8 f)=Db (u+10) (Ac (CP p) prog (u+10) (d+2)) a0 k (u+10) (Ab l) f.length (n:Int) 0 (n:Int) 0 (Af .u8 f):=by
   intro n hp M;have z:decide (((l.length:Nat):Int)>0)=true:=by simp;omega
   have A:(if ((l.length:Nat):Int)<4 then ((l.length:Nat):Int) else 4)=(n:Int):=by split<;>omega
   rw[Km];simp only[Av,Au,Ai,z,A]
  match l,w,g,q,XG,head with
  |[],_,_,_,XG,_=>
   rw[zero f k (by simpa using XG)];simp[Ly]
  |[x],_,_,q,_,_=>exact absurd rfl q
  |[a,b],_,g,_,XG,head=>
   have E:=It a;have G:=It b;rw[head 2 Ψ rfl,show (0:Int)=((0:Nat):Int) from rfl];rw[Tf (c:=a) Ω Ω g rfl Ψ Ψ Ψ];unfold Ly;by_cases i:Bo a<64
   ·rw[Bq i,Tf (c:=b) Ω Ω g rfl (by simp<;>omega) (by simp<;>omega) (by simp<;>omega)]
    by_cases j:Bo b<64
    ·rw[Bq j,Alm Ω Ω (by simp<;>omega) (by simp<;>omega)]
     rw[show (0:Int)=((0:Nat):Int) from rfl];rw[A8e (X:=(((0:Nat):Int)+Bo a*((2 ^ (18-6*0):Nat):Int)+Bo b*((2 ^ (18-6*1):Nat):Int)) / 256 % 256) Ω Ω rfl];by_cases r:Bo b % 16=0
     ·rw[Bq (by simp<;>omega)]
      rw[A8e (X:=(((0:Nat):Int)+Bo a*((2 ^ (18-6*0):Nat):Int)+Bo b*((2 ^ (18-6*1):Nat):Int)) % 256) Ω Ω rfl];rw[Bq (by simp<;>omega),Amu Ω Ω g Ψ Ω]
      rw[Bq ⟨i,j,r⟩];have s:=C [] (f++[Bo a*4+Bo b / 16]) k Ψ Ω (λx v=>by cases v) Ψ (by simp at XG ⊢;omega)
      have e:(((0:Nat):Int)+Bo a*((2 ^ (18-6*0):Nat):Int)+Bo b*((2 ^ (18-6*1):Nat):Int)) / 65536 % 256=Bo a*4+Bo b / 16:=by simp;omega
      rw[e];refine s.trans ?_;simp[Ly]
     ·rw[Bb (by simp<;>omega),Bb (λh=>r h.2.2)]
    ·rw[Bb j,Bb (λh=>j h.2.1)]
   ·rw[Bb i,Bb (λh=>i h.1)]
  |[a,b,c],_,g,_,XG,head=>
   have E:=It a;have G:=It b;have J:=It c;rw[head 3 Ψ rfl,show (0:Int)=((0:Nat):Int) from rfl];rw[Tf (c:=a) Ω Ω g rfl Ψ Ψ Ψ];unfold Ly;by_cases i:Bo a<64
   ·rw[Bq i,Tf (c:=b) Ω Ω g rfl (by simp<;>omega) (by simp<;>omega) (by simp<;>omega)]
    by_cases j:Bo b<64
    ·rw[Bq j,Tf (c:=c) Ω Ω g rfl (by simp<;>omega) (by simp<;>omega) (by simp<;>omega)]
     by_cases o:Bo c<64
     ·rw[Bq o,Alm Ω Ω (by simp<;>omega) (by simp<;>omega)]
      rw[show (0:Int)=((0:Nat):Int) from rfl];rw[A8e (X:=(((0:Nat):Int)+Bo a*((2 ^ (18-6*0):Nat):Int)+Bo b*((2 ^ (18-6*1):Nat):Int)+Bo c*((2 ^ (18-6*2):Nat):Int)) % 256) Ω Ω rfl];by_cases r:Bo c % 4=0
      ·rw[Bq (by simp<;>omega),Amu Ω Ω g Ψ Ω]
       rw[Bq ⟨i,j,o,r⟩];have s:=C [] (f++[Bo a*4+Bo b / 16,Bo b % 16*16+Bo c / 4]) k Ψ Ω (λx v=>by cases v) Ψ (by simp at XG ⊢;omega)
       have e:(((0:Nat):Int)+Bo a*((2 ^ (18-6*0):Nat):Int)+Bo b*((2 ^ (18-6*1):Nat):Int)+Bo c*((2 ^ (18-6*2):Nat):Int)) / 65536 % 256=Bo a*4+Bo b / 16:=by simp;omega
       have D:(((0:Nat):Int)+Bo a*((2 ^ (18-6*0):Nat):Int)+Bo b*((2 ^ (18-6*1):Nat):Int)+Bo c*((2 ^ (18-6*2):Nat):Int)) / 256 % 256=Bo b % 16*16+Bo c / 4:=by simp;omega
       rw[e,D];refine s.trans ?_;simp[Ly]
      ·rw[Bb (by simp<;>omega),Bb (λh=>r h.2.2.2)]
     ·rw[Bb o,Bb (λh=>o h.2.2.1)]
    ·rw[Bb j,Bb (λh=>j h.2.1)]
   ·rw[Bb i,Bb (λh=>i h.1)]
  |a::b::c::e::t,w,g,q,XG,head=>
   have E:=It a;have G:=It b;have J:=It c;have N:=It e;rw[head 4 Ψ (by simp<;>omega),show (0:Int)=((0:Nat):Int) from rfl]
   rw[Tf (c:=a) Ω Ω g rfl Ψ Ψ Ψ];unfold Ly;by_cases i:Bo a<64
   ·rw[Bq i,Tf (c:=b) Ω Ω g rfl (by simp<;>omega) (by simp<;>omega) (by simp<;>omega)]
    by_cases j:Bo b<64
    ·rw[Bq j,Tf (c:=c) Ω Ω g rfl (by simp<;>omega) (by simp<;>omega) (by simp<;>omega)]
     by_cases o:Bo c<64
     ·rw[Bq o,Tf (c:=e) Ω Ω g rfl (by simp<;>omega) (by simp<;>omega) (by simp<;>omega)]
      by_cases y:Bo e<64
      ·rw[Bq y,Alm Ω Ω (by simp<;>omega) (by simp<;>omega)]
       rw[show (0:Int)=((4-4:Nat):Int) from rfl,Amu Ω Ω g Ψ Ω];rw[Bq ⟨i,j,o,y⟩];have s:=C t (f++[Bo a*4+Bo b / 16,Bo b % 16*16+Bo c / 4,Bo c % 4*64+Bo e]) k (by simp at w;omega) Ω (λx v=>g x (by simp[v])) (by simp at q;omega) (by simp at XG ⊢;omega)
       have K:(((4-4:Nat):Int)+Bo a*((2 ^ (18-6*0):Nat):Int)+Bo b*((2 ^ (18-6*1):Nat):Int)+Bo c*((2 ^ (18-6*2):Nat):Int)+Bo e*((2 ^ (18-6*3):Nat):Int)) / 65536 % 256=Bo a*4+Bo b / 16:=by simp;omega
       have D:(((4-4:Nat):Int)+Bo a*((2 ^ (18-6*0):Nat):Int)+Bo b*((2 ^ (18-6*1):Nat):Int)+Bo c*((2 ^ (18-6*2):Nat):Int)+Bo e*((2 ^ (18-6*3):Nat):Int)) / 256 % 256=Bo b % 16*16+Bo c / 4:=by simp;omega
       have L:(((4-4:Nat):Int)+Bo a*((2 ^ (18-6*0):Nat):Int)+Bo b*((2 ^ (18-6*1):Nat):Int)+Bo c*((2 ^ (18-6*2):Nat):Int)+Bo e*((2 ^ (18-6*3):Nat):Int)) % 256=Bo c % 4*64+Bo e:=by simp;omega
       rw[K,D,L];refine s.trans ?_;cases Ly t<;>simp
      ·rw[Bb y,Bb (λh=>y h.2.2.2)]
     ·rw[Bb o,Bb (λh=>o h.2.2.1)]
    ·rw[Bb j,Bb (λh=>j h.2.1)]
   ·rw[Bb i,Bb (λh=>i h.1)]
theorem Aw7:∀{l:Ak},l.length % 4=1->Ly l=none
 |[],h=>by simp at h
 |[_],_=>rfl
 |[_,_],h=>by simp at h
 |[_,_,_],h=>by simp at h
 |p::q::r::s::t,h=>by
  have:=Aw7 (l:=t) (by simp at h;omega)
  unfold Ly;rw[this];simp
theorem A61{l:Ak}(f:Ce l)(o:l.length<=1000000)(Bg:10<=u)(DO:l.length<=u):Ac (CP p) prog u (d+3) 131 [Bf (Ab l)]=some (match Ly l with|none=>⟨[.own 1 0 [],A0 2],[]⟩|some b=>⟨[.own 1 b.length (Af .u8 b),A0 0],[]⟩):=by
 rw[Y3];have e:Int.tmod ((l.length:Nat):Int) 4=((l.length % 4:Nat):Int):=by rw[Int.tmod_eq_emod_of_nonneg Ω];omega
 by_cases a:l.length % 4=1
 ·have c:(((l.length % 4:Nat):Int)==1)=true:=by rw[a];rfl
  rw[Aw7 a];simp only[Av,Au,Ai,e,c]
 ·have c:(((l.length % 4:Nat):Int)==1)=false:=by simp;omega
  have g:Int.tdiv ((l.length:Nat):Int) 4=((l.length / 4:Nat):Int):=by rw[Int.tdiv_eq_ediv_of_nonneg Ω];omega
  have h:wrap .i64 ((l.length / 4:Nat):Int)=((l.length / 4:Nat):Int):=Bc;have i:wrap .i64 (((l.length / 4:Nat):Int)*3)=((l.length / 4:Nat):Int)*3:=Bc;have j:wrap .i64 (((l.length / 4:Nat):Int)*3+2)=((l.length / 4:Nat):Int)*3+2:=Bc;have k:decide ((0:Int)<=((l.length / 4:Nat):Int)*3+2)=true:=by simp;omega
  have m:decide ((((l.length / 4:Nat):Int)*3+2)*1<=1099511627776)=true:=by simp;omega
  have n:decide (((l.length / 4:Nat):Int)*3+2<=1099511627776)=true:=by simp;omega
  have hd:=Awq (d:=d) (p:=p) (a0:=Ab l) Bg (l.length / 4+1) l [] u Ω Ω f a (by simp<;>omega)
  simp only[Av,Au,Ai,e,c,g,h,i,j,k,m,n];refine hd.trans ?_;cases Ly l<;>simp
end
theorem dT{q:Prop}[Decidable q](h:q):decide q=true:=decide_eq_true h
theorem dF{q:Prop}[Decidable q](h:¬q):decide q=false:=decide_eq_false h
theorem bT{q:Prop}[Decidable q](h:q):(!decide q)=false:=by simp[h]
theorem bF{q:Prop}[Decidable q](h:¬q):(!decide q)=true:=by simp[h]
def okB(n i:Nat)(c:Int):Bool:=ltB c||(c==45&&decide (0<i)&&decide (i+1<n))
def PL(n:Nat):Nat->Ak->Bool
 |_,[]=>true
 |i,c::r=>okB n i c&&PL n (i+1) r
theorem Adb(n i:Nat)(c:Int)(r:Ak):PL n i (c::r)=(okB n i c&&PL n (i+1) r):=rfl
theorem Avw:ltB 45=false:=rfl
theorem Apb(n:Nat):∀(r:Ak)(i:Nat),i+r.length=n->PL n i r=(r.all (λx=>ltB x||x==45) && !(decide (i=0)&&r.head?==some 45) && !(r.getLast?==some 45))
 |[],i,_=>by simp[PL]
 |[c],i,h=>by
  simp only[Ox,SS] at h;unfold PL okB;by_cases b:c=45
  ·subst b;have:¬i+1<n:=Ω
   simp[PL,Avw,this]
  ·have a:(c==45)=false:=by simp[b]
   simp[PL,a]
 |c::x::r,i,h=>by
  have d:=Apb n (x::r) (i+1) (by simp at h ⊢;omega)
  have e:(c::x::r).getLast?=(x::r).getLast?:=Ψ
  unfold PL;rw[d,e];have f:i+1<n:=by simp at h;omega
  unfold okB;by_cases b:c=45
  ·subst b;by_cases hi:i=0
   ·subst hi;simp[Avw]
   ·have:0<i:=Ω
    simp[Avw,f,hi,this]
  ·have a:(c==45)=false:=by simp[b]
   simp[a,Bool.and_assoc]
theorem A27{l:Ak}(a:1<=l.length)(b:l.length<=63):M1 l=PL l.length 0 l:=by rw[Apb _ l 0 Ψ];unfold M1;rw[dT a,dT b];cases l.all (λx=>ltB x||x==45)<;>cases (l.head?==some 45)<;>cases (l.getLast?==some 45)<;>rfl
section
variable {u d:Nat}{p:Option (Ae->Option A8)}
theorem Aha{F:Ao}{a0:ByteArray}{l:Ak}(D:Ce l)(J:l.length<=63):∀(r:Ak)(i nn:Nat),l.drop i=r->r.length+1<=nn ->
  Ew u F a0 nn (Ab l) (l.length:Int) (i:Int)=some ⟨[Cn (PL l.length i r)],[]⟩
 |[],i,nn,hd,E=>by
  obtain⟨k,rfl⟩:∃k,nn=k+1:=⟨nn-1,Ω⟩
  have hi:=drop_nil hd;have j:decide ((i:Int)<(l.length:Int))=false:=by simp;omega
  rw[Q6];simp only[Av,Au,j];rfl
 |c::r,i,nn,hd,E=>by
  obtain⟨k,rfl⟩:∃k,nn=k+1:=⟨nn-1,Ω⟩
  obtain⟨hi,G,Ta⟩:=Cl hd;have K:=Aha (F:=F) (a0:=a0) D J r (i+1) k Ta (by simp at E;omega)
  have KI:=D c (List.mem_of_getElem? G);have j:decide ((i:Int)<(l.length:Int))=true:=by simp;omega
  have m:decide ((0:Int)<=(i:Int))=true:=Ψ
  have o:(Array.toList (Ab l).data)[Int.toNat (i:Int)]?=some c.toNat.toUInt8:=by
   rw[H8];show (l.map λn=>n.toNat.toUInt8)[i]?=_;rw[List.getElem?_map,G];rfl
  have p:=M2 KI;have s:wrap .i64 ((i:Int)+1)=((i+1:Nat):Int):=Bi
  have t:wrap .i64 ((l.length:Int)-1)=(l.length:Int)-1:=Bc
  have good:okB l.length i c=true->(Ew u F a0 k (Ab l) (l.length:Int) ((i+1:Nat):Int)=some ⟨[Cn (PL l.length i (c::r))],[]⟩):=by
   intro h;rw[K,Adb,h,Zzm]
  have f:okB l.length i c=false->some (A8.mk [PV.sc (.bool false)] [])=some ⟨[Cn (PL l.length i (c::r))],[]⟩:=by
   intro h;rw[Adb,h,NT]
  rw[Q6];by_cases y:97<=c/\c<=122
  ·have d:=dT y.1;have e:=dT y.2;have g:(c==45)=false:=by simp;omega
   have a:=dT (q:=(48:Int)<=c) Ω;have b:=bF (q:=c<=57) Ω;simp only[Av,Au,j,m,o,p,s,t,Ai,d,e,g,a,b];exact good (by unfold okB ltB;simp[y])
  by_cases z:48<=c/\c<=57
  ·have d:=dF (q:=(97:Int)<=c) Ω;have e:=dT (q:=c<=122) Ω;have g:(c==45)=false:=by simp;omega
   have a:=dT z.1;have b:=bT z.2;simp only[Av,Au,j,m,o,p,s,t,Ai,d,e,g,a,b];exact good (by unfold okB ltB Uy;simp[z])
  have Cs:ltB c=false:=by
   unfold ltB Uy;simp;exact⟨λh=>Ω,λh=>Ω⟩
  by_cases A:c=45
  ·subst A;have d:decide ((97:Int)<=45)=false:=rfl;have e:decide ((45:Int)<=122)=true:=rfl;have g:((45:Int)==45)=true:=rfl;have a:decide ((48:Int)<=45)=false:=rfl;have b:(!decide ((45:Int)<=57))=false:=rfl;by_cases H:0<i
   ·have x:=dT (q:=(i:Int)>0) Ω;by_cases I:i+1<l.length
    ·have C:=bT (q:=(i:Int)<(l.length:Int)-1) Ω;simp only[Av,Au,j,m,o,p,s,t,Ai,d,e,g,a,b,x,C];exact good (by unfold okB;simp[H,I])
    ·have C:=bF (q:=(i:Int)<(l.length:Int)-1) Ω;simp only[Av,Au,j,m,o,p,s,t,Ai,d,e,g,a,b,x,C];exact f (by unfold okB;simp[I,Cs])
   ·have x:=dF (q:=(i:Int)>0) Ω;simp only[Av,Au,j,m,o,p,s,t,Ai,d,e,g,a,b,x];exact f (by unfold okB;simp[H,Cs])
  have g:(c==45)=false:=by simp[A]
  have Arg:okB l.length i c=false:=by unfold okB;simp[Cs,A]
  by_cases v:97<=c
  ·have d:=dT v;have e:=dF (q:=c<=122) Ω;have a:=dT (q:=(48:Int)<=c) Ω;have b:=bF (q:=c<=57) Ω;simp only[Av,Au,j,m,o,p,s,t,Ai,d,e,g,a,b];exact f Arg
  ·have d:=dF v;have e:=dT (q:=c<=122) Ω;by_cases w:48<=c
   ·have a:=dT w;have b:=bF (q:=c<=57) Ω;simp only[Av,Au,j,m,o,p,s,t,Ai,d,e,g,a,b];exact f Arg
   ·have a:=dF w;have b:=bT (q:=c<=57) Ω;simp only[Av,Au,j,m,o,p,s,t,Ai,d,e,g,a,b];exact f Arg
theorem A22{l:Ak}(g:Ce l)(Bg:100<=u):Ac (CP p) prog u (d+1) 175 [Bf (Ab l)]=some ⟨[Cn (M1 l)],[]⟩:=by
 rw[MG];by_cases f:1<=l.length
 ·by_cases b:l.length<=63
  ·have a:decide (((l.length:Nat):Int)<1)=false:=by simp;omega
   have c:decide (((l.length:Nat):Int)>63)=false:=by simp;omega
   rw[A27 f b];simp only[Av,Au,Ai,a,c];exact Aha g b l 0 u rfl Ω
  ·have a:decide (((l.length:Nat):Int)<1)=false:=by simp;omega
   have c:decide (((l.length:Nat):Int)>63)=true:=by simp;omega
   have e:M1 l=false:=by unfold M1;simp[b]
   rw[e];simp only[Av,Au,Ai,a,c]
 ·have a:decide (((l.length:Nat):Int)<1)=true:=by simp;omega
  have e:M1 l=false:=by unfold M1;simp[f]
  rw[e];simp only[Av,Au,Ai,a]
theorem Au8(l cs:List UInt8):(Lib.trimS l cs==[])=l.all (cs.contains ·):=by
 have b:∀(q:UInt8->Bool) (m:List UInt8),m.dropWhile q=[]↔m.all q=true:=by
  intro q m
  induction m with
  |nil=>simp
  |cons x m c=>
   by_cases a:q x=true
   ·rw[List.dropWhile_cons_of_pos a,c];simp[a]
   ·rw[List.dropWhile_cons_of_neg a];simp[a]
 unfold Lib.trimS Lib.trimLeftS Lib.trimRightS;rw[Bool.eq_iff_iff,beq_iff_eq,b,List.all_reverse,<-b,b,List.all_eq_true]
 have d:∀(q:UInt8->Bool) (m:List UInt8),(m.dropWhile q).all q=true↔m.all q=true:=by
  intro q m
  induction m with
  |nil=>simp
  |cons x m c=>
   by_cases a:q x=true
   ·rw[List.dropWhile_cons_of_pos a,c];simp[a]
   ·rw[List.dropWhile_cons_of_neg a]
 rw[<-List.all_eq_true,d,List.all_reverse]
def EW:ByteArray:=⟨#[48,49,50,51,52,53,54,55,56,57]⟩
theorem A66:∀n:Fin 256,EW.data.toList.contains (n.val:Int).toNat.toUInt8=Uy (n.val:Int):=by decide +kernel
theorem A5u{l:Ak}(h:Ce l):((l.map λn=>n.toNat.toUInt8).all (EW.data.toList.contains ·))=l.all Uy:=by
 induction l with
 |nil=>rfl
 |cons c r a=>
  obtain⟨b,d⟩:=Ca h;obtain⟨n,rfl⟩:=Int.eq_ofNat_of_zero_le b.1;rw[CZ,List.all_cons,List.all_cons,a d]
  congr 1
  exact A66 ⟨n,Ω⟩
theorem A8r{l:Ak}(a:Ce l)(f:l.length<=1000000):∃x,Ac (CP p) prog u (d+1) 176 [Bf (Ab l),Bf EW]=some ⟨[Bf x],[]⟩/\(Array.toList x.data==Array.toList (ByteArray.mk #[]).data)=l.all Uy:=by
 refine⟨⟨(Lib.trimS (Ab l).data.toList EW.data.toList).toArray⟩,?_,?_⟩
 ·have e:Ac (CP p) prog u (d+1) 176 [Bf (Ab l),Bf EW]=Ah5 [Bf (Ab l),Bf EW]:=rfl;rw[e];unfold Ah5
  have:(Nat.ble EW.size 1000&&EW.data.toList.all (λb=>decide (b.toNat<128))&&decide ((Ab l).size<=1000000000))=true:=by
   rw[Ai];have c:(Nat.ble EW.size 1000&&EW.data.toList.all (λb=>decide (b.toNat<128)))=true:=by decide +kernel
   rw[c,dT (q:=l.length<=1000000000) Ω];rfl
  simp only[this,cond_true]
 ·show (Lib.trimS (Ab l).data.toList EW.data.toList==[])=_;rw[Au8];exact A5u a
theorem DF(c:Int):∀{l:Ak},Ce l->∀x∈Bh c l,Ce x/\x.length<=l.length
 |[],_,x,d=>by simp[Bh] at d;subst d;exact⟨(λy e=>nomatch e),Cg _⟩
 |a::r,h,x,d=>by
  obtain⟨i,j⟩:=Ca h;have f:=DF c j;unfold Bh at d;split at d
  ·rcases List.mem_cons.1 d with rfl|d
   ·exact⟨(λy e=>nomatch e),Nat.zero_le _⟩
   ·exact⟨(f x d).1,Nat.le_succ_of_le (f x d).2⟩
  ·cases g:Bh c r with
   |nil=>exact absurd g (To c r)
   |cons b t=>
    rw[g] at d f;rcases List.mem_cons.1 d with rfl|d
    ·obtain⟨k,m⟩:=f b Ψ;refine⟨λy e=>?_,by simp;omega⟩
     rcases List.mem_cons.1 e with rfl|e
     ·exact i
     ·exact k y e
    ·exact⟨(f x (by simp[d])).1,Nat.le_succ_of_le (f x (by simp[d])).2⟩
theorem Aiu{a0:ByteArray}(Bg:200<=u){ls:List Ak}(h:∀x∈ls,Ce x/\x.length<=1000)(l:ls≠[])(t:ls.length<=1000):∀(r:List Ak) (i nn:Nat),ls.drop i=r->r.length+1<=nn ->
  K3 u (Ac (CP p) prog u (d+1)) a0 nn ls.length ls.length (ls.length:Int) (i:Int) (ls.map BG)=some ⟨[A0 (if r.all M1=false then 2 else if (ls.getLastD []).all Uy=true then 2 else 0)],[]⟩
 |[],i,nn,hd,m=>by
  obtain⟨k,rfl⟩:∃k,nn=k+1:=⟨nn-1,Ω⟩
  have hi:=drop_nil hd;have Ai2:0<ls.length:=List.length_pos_iff.2 l;have b:decide ((i:Int)<(ls.length:Int))=false:=by simp;omega
  have c:wrap .i64 ((ls.length:Int)-1)=((ls.length-1:Nat):Int):=Bi
  have n:decide ((0:Int)<=((ls.length-1:Nat):Int))=true:=Ψ
  have o:decide (((ls.length-1:Nat):Int)<(ls.length:Int))=true:=by simp;omega
  have UX:ls.getLastD []=ls[ls.length-1]'(Ω):=by
   rw[List.getLastD_eq_getLast?,List.getLast?_eq_getElem?,List.getElem?_eq_getElem Ω];rfl
  have f:List.getD (ls.map BG) (0+Int.toNat ((ls.length-1:Nat):Int)*1) PV.top=Bf (Ab (ls.getLastD [])):=by
   rw[H8,Ka,Jy,List.getD_eq_getElem?_getD,List.getElem?_map,List.getElem?_eq_getElem Ω,UX];rfl
  have j:=h (ls.getLastD []) (by rw[UX];exact List.getElem_mem _)
  obtain⟨x,e,g⟩:=A8r (u:=u) (d:=d) (p:=p) j.1 Ω;have q:Ac (CP p) prog u (d+1) 176 [Bf (Ab (ls.getLastD [])),Bf ⟨#[48,49,50,51,52,53,54,55,56,57]⟩]=some ⟨[Bf x],[]⟩:=e;rw[T5];cases a:(ls.getLastD []).all Uy
  ·rw[a] at g;simp only[Av,Au,b,c,n,o,f,q,g,List.all_nil,Bool.true_eq_false,if_false,Bool.false_eq_true]
  ·rw[a] at g;simp only[Av,Au,b,c,n,o,f,q,g,List.all_nil,Bool.true_eq_false,if_false,if_true]
 |x::r,i,nn,hd,m=>by
  obtain⟨k,rfl⟩:∃k,nn=k+1:=⟨nn-1,Ω⟩
  obtain⟨hi,s,Ta⟩:=Cl hd;have v:=Aiu (a0:=a0) Bg h l t r (i+1) k Ta (by simp at m;omega)
  have j:=h x (List.mem_of_getElem? s);have e:Ac (CP p) prog u (d+1) 175 [Bf (Ab x)]=_:=A22 (u:=u) (d:=d) (p:=p) j.1 Ω;have b:decide ((i:Int)<(ls.length:Int))=true:=by simp;omega
  have c:decide ((0:Int)<=(i:Int))=true:=Ψ
  have f:List.getD (ls.map BG) (0+Int.toNat (i:Int)*1) PV.top=Bf (Ab x):=by
   rw[H8,Ka,Jy,List.getD_eq_getElem?_getD,List.getElem?_map,s];rfl
  have w:wrap .i64 ((i:Int)+1)=((i+1:Nat):Int):=Bi
  rw[T5];cases a:M1 x
  ·rw[a] at e;have:((x::r).all M1=false):=by simp[a]
   rw[Bq this];simp only[Av,Au,b,c,f,e,Gg]
  ·rw[a] at e;have:(x::r).all M1=r.all M1:=by simp[a]
   rw[this];simp only[Av,Au,b,c,f,e,Es,w];exact v
theorem A6y{l:Ak}(a:Ce l)(g:l.length<=1000000)(Bg:200<=u):Ac (CP p) prog u (d+6) 154 [Bf (Ab l)]=some ⟨[A0 (Ws l)],[]⟩:=by
 rw[TD];unfold Ws;by_cases h:100<l.length
 ·have b:decide (((l.length:Nat):Int)>100)=true:=by simp;omega
  rw[Bq h];simp only[Av,Au,Ai,b]
 ·have b:decide (((l.length:Nat):Int)>100)=false:=by simp;omega
  have e:Ac (CP p) prog u (d+5) 174 [Bf (Ab l),Bf ⟨#[46]⟩]=_:=A1u (u:=u) (d:=d) (p:=p) (c:=46) Ω a Ω Ω;have i:=FU 46 l;have hd:=Aiu (a0:=Ab l) (u:=u) (d:=d+4) (p:=p) Ω (ls:=Bh 46 l) (λx f=>⟨(DF 46 a x f).1,by have:=(DF 46 a x f).2;omega⟩) (To 46 l) Ω (Bh 46 l) 0 u rfl Ω
  rw[Bb h];simp only[Av,Au,Ai,b,e];exact hd
theorem A11(s:Bool):Ac (CP p) prog u (d+1) 155 [Cn s]=some ⟨[A0 (dfl s)],[]⟩:=by rw[FC];cases s<;>simp only[Av,Au]<;>rfl
theorem MT(c:Int):Uy c=true↔48<=c/\c<=57:=by unfold Uy;simp
theorem Abo{F:Ao}{a0:ByteArray}{l:Ak}(o:Ce l)(v:l.length<=5):∀(r:Ak)(i nn:Nat)(n:Int),l.drop i=r->r.length+1<=nn->0<=n->n<10 ^ i ->
  Ib u F a0 nn (Ab l) n (l.length:Int) (i:Int)=some (if r.all Uy=true then ⟨[A0 (r.foldl (λn x=>10*n+(x-48)) n),Cn (decide (r.foldl (λn x=>10*n+(x-48)) n<=65535))],[]⟩ else ⟨[A0 0,Cn false],[]⟩)
 |[],i,nn,n,hd,p,w,y=>by
  obtain⟨k,rfl⟩:∃k,nn=k+1:=⟨nn-1,Ω⟩
  have hi:=drop_nil hd;have a:decide ((i:Int)<(l.length:Int))=false:=by simp;omega
  rw[Pg];simp only[Av,Au,a];rfl
 |c::r,i,nn,n,hd,p,w,y=>by
  obtain⟨k,rfl⟩:∃k,nn=k+1:=⟨nn-1,Ω⟩
  obtain⟨hi,s,Ta⟩:=Cl hd;have KI:=o c (List.mem_of_getElem? s)
  have hp:(10:Int) ^ i<=10 ^ 4:=by
   have h:=Nat.pow_le_pow_right (n:=10) Ω (show i<=4 by omega)
   exact_mod_cast h
  have z:(10:Int) ^ (i+1)=10 ^ i*10:=Int.pow_succ ..;have a:decide ((i:Int)<(l.length:Int))=true:=by simp;omega
  have f:decide ((0:Int)<=(i:Int))=true:=Ψ
  have g:(Array.toList (Ab l).data)[Int.toNat (i:Int)]?=some c.toNat.toUInt8:=by
   rw[H8];show (l.map λn=>n.toNat.toUInt8)[i]?=_;rw[List.getElem?_map,s];rfl
  have j:=M2 KI;rw[Pg];by_cases t:48<=c/\c<=57
  ·have b:=dF (q:=c<48) Ω;have m:=dF (q:=c>57) Ω;have A:wrap .i64 (10*n)=10*n:=Bc;have C:wrap .u8 (c-48)=c-48:=I8 Ω Ω;have D:wrap .i64 (c-48)=c-48:=Bc;have E:wrap .i64 (10*n+(c-48))=10*n+(c-48):=Bc;have G:wrap .i64 ((i:Int)+1)=((i+1:Nat):Int):=Bi
   have H:=Abo (F:=F) (a0:=a0) o v r (i+1) k (10*n+(c-48)) Ta (by simp at p;omega) Ω Ω
   have e:(c::r).all Uy=r.all Uy:=by rw[List.all_cons,(MT c).2 t,Zzm]
   simp only[Av,Au,a,f,g,j,b,m,A,C,D,E,G];rw[H,e];rfl
  ·have e:(c::r).all Uy=false:=by
    have:Uy c=false:=by
     cases I:Uy c
     ·rfl
     ·exact absurd ((MT c).1 I) t
    rw[List.all_cons,this,NT]
   rw[e];by_cases d:c<48
   ·have b:=dT d;simp only[Av,Au,a,f,g,j,b,Bool.false_eq_true,if_false]
   ·have b:=dF d;have m:=dT (q:=c>57) Ω;simp only[Av,Au,a,f,g,j,b,m,Bool.false_eq_true,if_false]
theorem A6x{l:Ak}(i:Ce l)(Bg:100<=u):Ac (CP p) prog u (d+1) 156 [Bf (Ab l)]=some (if Lg l=true then ⟨[A0 (KA l),Cn (decide (KA l<=65535))],[]⟩ else ⟨[A0 0,Cn false],[]⟩):=by
 rw[IJ];by_cases f:1<=l.length
 ·by_cases g:l.length<=5
  ·have a:decide (((l.length:Nat):Int)<1)=false:=by simp;omega
   have b:decide (((l.length:Nat):Int)>5)=false:=by simp;omega
   cases l with
   |nil=>simp at f
   |cons c r=>
    have KI:=i c Ψ;have j:(Array.toList (Ab (c::r)).data)[0]?=some c.toNat.toUInt8:=rfl;have k:=M2 KI;by_cases h:c=48
    ·subst h;have e:Lg (48::r)=false:=by unfold Lg;simp
     have q:((48:Int)==48)=true:=rfl;rw[e];simp only[Av,Au,Ai,a,b,j,k,q,Bool.false_eq_true,if_false]
    ·have q:(c==48)=false:=by simp[h]
     have e:Lg (c::r)=(c::r).all Uy:=by
      unfold Lg;rw[dT f,dT g];simp[h]
     have m:=Abo (F:=Ac (CP p) prog u d) (u:=u) (a0:=Ab (c::r)) i g (c::r) 0 u 0 rfl Ω Ω Δ;rw[e];simp only[Av,Au,Ai,a,b,j,k,q];exact m
  ·have a:decide (((l.length:Nat):Int)<1)=false:=by simp;omega
   have b:decide (((l.length:Nat):Int)>5)=true:=by simp;omega
   have e:Lg l=false:=by unfold Lg;simp[g]
   rw[e];simp only[Av,Au,Ai,a,b,Bool.false_eq_true,if_false]
 ·have a:decide (((l.length:Nat):Int)<1)=true:=by simp;omega
  have e:Lg l=false:=by unfold Lg;simp[f]
  rw[e];simp only[Av,Au,Ai,a,Bool.false_eq_true,if_false]
theorem Bc5{l:Ak}(y:Ce l)(hs:l.length<=1000000)(Bg:200<=u):∃g i j,Ac (CP p) prog u (d+7) 132 [Bf (Ab l)]=some ⟨[.agg [Cn g,Bf i,A0 j],A0 (Fg l)],[]⟩:=by
  have A:=A4i (u:=u) (d:=d+2) (p:=p) y (w:=[104,116,116,112,115,58,47,47]) (λx a=>by simp at a;omega)
  have Zo:=A4i (u:=u) (d:=d+2) (p:=p) y (w:=[104,116,116,112,58,47,47]) (λx a=>by simp at a;omega)
  have k:Ac (CP p) prog u (d+6) 152 [Bf (Ab l),Bf ⟨#[104,116,116,112,115,58,47,47]⟩]=_:=A
  have n:Ac (CP p) prog u (d+6) 152 [Bf (Ab l),Bf ⟨#[104,116,116,112,58,47,47]⟩]=_:=Zo
  have tail:∀(s:Bool) (r:Ak),Ce r->r.length<=1000000->∃g i j,(An (Ac (CP p) prog u (d+6) 153 [PV.sc (Value.string (Ab r)),PV.sc (Value.string ⟨#[58]⟩)]) λC D=>
    Ah (D) <|
    Ad (C) λE G=>
    As (E) λm=>
    Ad (G) λH I=>
    As (H) λJ=>
    Ad (I) λK L=>
    Be (K) λM=>
    Ah (L) <|
    An (Ac (CP p) prog u (d+6) 154 [PV.sc (Value.string m)]) λN O=>
    Ah (O) <|
    Ad (N) λP Q=>
    Bn (IntKind.i64) (P) λo=>
    Ah (Q) <|
    Aq (o != (0:Int))
     (
     some (A8.mk [PV.agg [PV.sc (Value.bool false),PV.sc (Value.string ⟨#[]⟩),PV.sc (Value.int IntKind.i64 (0:Int))],PV.sc (Value.int IntKind.i64 o)] []))
     (
     An (Ac (CP p) prog u (d+6) 155 [PV.sc (Value.bool s)]) λR S=>
     Ah (S) <|
     Ad (R) λT U=>
     Bn (IntKind.i64) (T) λq=>
     Ah (U) <|
     Aq (M)
      (
      An (Ac (CP p) prog u (d+6) 156 [PV.sc (Value.string J)]) λV W=>
      Ah (W) <|
      Ad (V) λX Y=>
      Bn (IntKind.i64) (X) λt=>
      Ad (Y) λZ x44=>
      Be (Z) λx45=>
      Ah (x44) <|
      Aq (!x45)
       (
       some (A8.mk [PV.agg [PV.sc (Value.bool false),PV.sc (Value.string ⟨#[]⟩),PV.sc (Value.int IntKind.i64 (0:Int))],PV.sc (Value.int IntKind.i64 (2:Int))] []))
       (
       Aq (t==q)
        (
        some (A8.mk [PV.agg [PV.sc (Value.bool false),PV.sc (Value.string ⟨#[]⟩),PV.sc (Value.int IntKind.i64 (0:Int))],PV.sc (Value.int IntKind.i64 (2:Int))] []))
        (
        some (A8.mk [PV.agg [PV.sc (Value.bool s),PV.sc (Value.string m),PV.sc (Value.int IntKind.i64 t)],PV.sc (Value.int IntKind.i64 (0:Int))] []))))
      (
      some (A8.mk [PV.agg [PV.sc (Value.bool s),PV.sc (Value.string m),PV.sc (Value.int IntKind.i64 q)],PV.sc (Value.int IntKind.i64 (0:Int))] []))))=some ⟨[.agg [Cn g,Bf i,A0 j],A0 (DH s r)],[]⟩:=by
    intro s r hr hrl
    have c1:Ac (CP p) prog u (d+6) 153 [Bf (Ab r),Bf ⟨#[58]⟩]=_:=Bc2 (u:=u) (d:=d+2) (p:=p) (c:=58) Ω hr hrl
    have Vm:=UN 58 r
    have hbB:Ce (Bz 58 r):=by rw[Uj];exact λx a=>hr x (List.mem_of_mem_take a)
    have hdB:Ce (r.drop ((Bz 58 r).length+1)):=λx a=>hr x (List.mem_of_mem_drop a)
    have c2:Ac (CP p) prog u (d+6) 154 [Bf (Ab (Bz 58 r))]=_:=A6y (u:=u) (d:=d) (p:=p) hbB Ω Bg
    have v:Ac (CP p) prog u (d+6) 155 [Cn s]=_:=A11 (u:=u) (d:=d+5) (p:=p) s
    have f:Ac (CP p) prog u (d+6) 156 [Bf (Ab (r.drop ((Bz 58 r).length+1)))]=_:=A6x (u:=u) (d:=d+5) (p:=p) hdB Ω
    unfold DH
    by_cases b:Ws (Bz 58 r)=0
    · have b1:(Ws (Bz 58 r) != 0)=false:=by simp[b]
      simp only[ne_eq,b,not_true_eq_false,if_false]
      by_cases hw:(Bz 58 r).length<r.length
      · rw[dT hw] at c1
        rw[Bb (show ¬(Bz 58 r).length=r.length by omega)]
        by_cases hp:Lg (r.drop ((Bz 58 r).length+1))=true
        · rw[Bq hp] at f
          by_cases z:KA (r.drop ((Bz 58 r).length+1))<=65535
          · rw[dT z] at f
            by_cases e:KA (r.drop ((Bz 58 r).length+1))=dfl s
            · have b2:(KA (r.drop ((Bz 58 r).length+1))==dfl s)=true:=by simp[e]
              rw[Bb (by rintro⟨_,_,h⟩;exact h e)]
              exact⟨_,_,_,by simp only[Av,Au,c1,c2,b,v,f,b2,Es,show ((0:Int) != 0)=false from rfl];rfl⟩
            · have b2:(KA (r.drop ((Bz 58 r).length+1))==dfl s)=false:=by simp[e]
              rw[Bq ⟨hp,z,e⟩]
              exact⟨_,_,_,by simp only[Av,Au,c1,c2,b,v,f,b2,Es,show ((0:Int) != 0)=false from rfl];rfl⟩
          · rw[dF z] at f
            rw[Bb (by rintro⟨_,h,_⟩;exact z h)]
            exact⟨_,_,_,by simp only[Av,Au,c1,c2,b,v,f,Gg,show ((0:Int) != 0)=false from rfl];rfl⟩
        · rw[Bb hp] at f
          rw[Bb (by rintro⟨h,_,_⟩;exact hp h)]
          exact⟨_,_,_,by simp only[Av,Au,c1,c2,b,v,f,Gg,show ((0:Int) != 0)=false from rfl];rfl⟩
      · rw[dF hw] at c1
        rw[Bq (show (Bz 58 r).length=r.length by omega)]
        exact⟨_,_,_,by simp only[Av,Au,c1,c2,b,v,show ((0:Int) != 0)=false from rfl];rfl⟩
    · have b1:(Ws (Bz 58 r) != 0)=true:=by simp[b]
      simp only[ne_eq,b,not_false_eq_true,if_true]
      exact⟨_,_,_,by simp only[Av,Au,c1,c2,b1];rfl⟩
  have er:=YX (p:=p) u (d+6) (Ab l)
  unfold Fg
  cases h1:List.isPrefixOf [104,116,116,112,115,58,47,47] l
  · rw[h1] at k
    simp only[Bool.false_eq_true,if_false] at k ⊢
    cases h2:List.isPrefixOf [104,116,116,112,58,47,47] l
    · rw[h2] at n
      simp only[Bool.false_eq_true,if_false] at n ⊢
      exact⟨_,_,_,er.trans (by simp only[Av,Au,k,n,Gg];rfl)⟩
    · rw[h2] at n
      simp only[if_true] at n ⊢
      obtain⟨g,i,j,ht⟩:=tail false (l.drop 7) (λx a=>y x (List.mem_of_mem_drop a)) (by simp;omega)
      refine⟨g,i,j,er.trans ?_⟩
      simp only[Zx,IY,Z1,MS,Af6,Aeu,Aec,k,n,Gg,Es]
      exact ht
  · rw[h1] at k
    simp only[if_true] at k ⊢
    obtain⟨g,i,j,ht⟩:=tail true (l.drop 8) (λx a=>y x (List.mem_of_mem_drop a)) (by simp;omega)
    refine⟨g,i,j,er.trans ?_⟩
    simp only[Zx,IY,Z1,MS,Af6,Aeu,Aec,k,Gg,Es]
    exact ht
end
section
open Go Go.RowKit Go.Lib
def RtP(w':World)(l:Ak)(e:Ending):Prop:=
 match TL 8 l with
 |.ok c=>∃a,e=.returned (.tuple #[.map (some a),.int .i64 0])/\XV w' a c
 |.error b=>b≠0/\∃m,e=.returned (.tuple #[m,.int .i64 b])
theorem Tp(l:Ak):TL 8 l=match Ar [123] (Ax l) with
  |some r=>(match Ya (Cx 8) true r with
   |.error e=>.error e
   |.ok (b,r')=>if Ax r'=[] then .ok b else .error 2)
  |none=>.error 2:=by
 unfold TL;rw[C4];cases Ax l with
 |nil=>rfl
 |cons y s=>
  by_cases a:y=123
  ·subst a;rfl
  ·simp only[Bb a];split
   ·rename_i e;injection e with c _;exact absurd c a
   ·rfl
theorem Fh.toBelow{w w':World}{b mb B:Nat}(k:Fh w w' b mb)(c:B<=b)(a:B<=mb)(d:B<=w.heap.size):Below B w w':=
 ⟨k.os,k.tape,k.output,k.size,λi hi=>k.other i Ω Ω Ω⟩
theorem XR{w:World}(e:gU.ok w)(a:∀k,gU.bl k->k<w.heap.size){w':World}(c:Below w.heap.size w w'){b:Nat}(f:w.heap.size<=b):Ss w' b:=
 ⟨gU.stable w w' (λj _ g=>c.block j g) e,λk d=>⟨H2 (a k d) c.size,by have:=a k d;omega⟩⟩
set_option maxHeartbeats 4000000 in
theorem A1g{t:ByteArray}(ht:t.size<=1000000){w:World}(J:gU.ok w)(d:∀k,gU.bl k->k<w.heap.size):
  Calls prog 104 #[.string t] w λe w'=>Below w.heap.size w w'/\RtP w' (Ci t) e:=by
 have mixed:prog.follows Departure.mixedOrders=true:=Κ
 have R:=@run_makeMap prog;have Gf:Below w.heap.size w (w.alloc (.cells #[.string t,.int .i64 0] 190)):=(Below.refl _ w).alloc (Cg _) _;have Jv:Below w.heap.size w ((w.alloc (.cells #[.string t,.int .i64 0] 190)).alloc (.map #[] 0)):=Gf.alloc Gf.size _;have S:(w.alloc (.cells #[.string t,.int .i64 0] 190)).heap.size=w.heap.size+1:=Array.size_push _
 have T:MI ((w.alloc (.cells #[.string t,.int .i64 0] 190)).alloc (.map #[] 0)) w.heap.size 0 t (Ci t):=by
  have o:((w.alloc (.cells #[.string t,.int .i64 0] 190)).alloc (.map #[] 0)).heap[w.heap.size]?=some (.cells #[.string t,.int .i64 0] 190):=by
   show ((w.heap.push _).push _)[w.heap.size]?=_;rw[Array.getElem?_push_lt Ψ];simp
  have hp:Bm t (Ci t)=0:=by unfold Bm;rw[Cb];omega
  refine⟨?_,?_,?_,?_,?_⟩
  ·show w.heap.size<((w.heap.push _).push _).size;rw[Array.size_push,Array.size_push];omega
  ·unfold World.cell?;simp only[o];rfl
  ·unfold World.cell?;simp only[o,hp];rfl
  ·unfold World.frozen?;simp only[o];rfl
  ·unfold World.frozen?;simp only[o];rfl
 have p:XV ((w.alloc (.cells #[.string t,.int .i64 0] 190)).alloc (.map #[] 0)) (w.heap.size+1) []:=by
  show ((w.heap.push _).push (Obj.map #[] 0))[w.heap.size+1]?=some (.map #[] 0);have:w.heap.size+1=(w.heap.push (Obj.cells #[.string t,.int .i64 0] 190)).size:=Ψ
  rw[this];exact Array.getElem?_push_size
 have f:=XR J d Jv (Cg _);have s:¬gU.bl (w.heap.size+1):=λh=>by have:=d _ h;omega
 have K:=Dw.all t;have v:=Mu K ht f T
 go_enter Tryz.func104,Tryz.ntmps104
 go_wp2_with (go_at_call 129;refine v.mono ?_)
 rintro e U ⟨rfl,V,y⟩
 have z:=B4 K;have A:=p.keep y Ω;have C:=f.keep y;have D:=A0c z ht C V A Ω s;have Rp:Below w.heap.size w U:=Jv.trans ((Fh.of (mb:=w.heap.size+1) y).toBelow (Cg _) Ω Jv.size)
 go_wp2_with (go_at_call 130;refine D.mono ?_)
 rintro e W4 ⟨X,Y,UE,Z,b⟩
 have FM:Below w.heap.size w W4:=Rp.trans (X.toBelow (Cg _) Ω Rp.size);have E:Ss W4 w.heap.size:=XR J d FM (Cg _)
 have a:∀W e,(match Ar [123] (Ax (Ci t)) with
  |some r=>(match Ya (Cx 8) true r with
   |.error i=>i≠0/\∃m,e=.returned (.tuple #[m,.int .i64 i])
   |.ok (G,r')=>if Ax r'=[] then ∃L,e=.returned (.tuple #[.map (some L),.int .i64 0])/\XV W L G else ∃m,e=.returned (.tuple #[m,.int .i64 2]))
  |none=>∃m,e=.returned (.tuple #[m,.int .i64 2]))->RtP W (Ci t) e:=by
  intro W e;unfold RtP;rw[Tp];cases Ar [123] (Ax (Ci t)) with
  |none=>exact λh=>⟨Δ,h⟩
  |some r=>
   cases j:Ya (Cx 8) true r with
   |error i=>simp only[j];exact id
   |ok x=>
    obtain⟨G,r'⟩:=x;simp only[j];by_cases g:Ax r'=[]
    ·simp only[Bq g];exact id
    ·simp only[Bb g];exact λh=>⟨Δ,h⟩
 unfold RoP at b;cases M:Ar [123] (Ax (Ci t)) with
 |none=>
  rw[M] at b a;subst b
  go_wp2
  go_ret2
  exact⟨FM,a _ _ ⟨_,rfl⟩⟩
 |some r=>
  rw[M] at b a;simp only at b a;cases N:Ya (Cx 8) true r with
  |error i=>
   rw[N] at b a;obtain⟨O,rfl⟩:=b;have hbe:(i != (0:Int))=true:=by simp[O]
   go_wp2
   go_ret2
   exact⟨FM,a _ _ ⟨O,_,rfl⟩⟩
  |ok x=>
   obtain⟨G,r'⟩:=x;rw[N] at b a;obtain⟨rfl,rfl,H⟩:=b;have A7y:=Mu UE ht E Z
   go_wp2_with (go_at_call 129;refine A7y.mono ?_)
   rintro e W5 ⟨rfl,h5,P⟩
   have l:Below w.heap.size w W5:=FM.trans ((Fh.of (mb:=w.heap.size+1) P).toBelow (Cg _) Ω FM.size);have I:=H.keep P Ω;obtain⟨Cs,hc0,ZK,hf0,hf1⟩:=h5;have Oq:=B4 UE;have n:=Oq.len;cases Q:Ax Y with
   |nil=>
    rw[Q] at ZK a;rw[Qg] at ZK
    go_wp2
    go_region_o
    go_wp2
    go_ret2
    exact⟨l.drew,a _ _ (by rw[Bq trivial];exact⟨_,rfl,I⟩)⟩
   |cons c q=>
    rw[Q] at ZK a n
    have Bno:(Bm t (c::q):Int)<t.size:=by
     unfold Bm;rw[Ox] at n ⊢;omega
    have Bi4:¬(c::q=[]):=Ψ
    go_wp2
    go_region_o
    go_wp2
    go_ret2
    exact⟨l.drew,a _ _ (by rw[Bb Bi4];exact⟨_,rfl⟩)⟩
end
section
open Go Go.RowKit Go.Lib
def On:Ak:=[116,121,112,101]
def Te:Ak:=[99,104,97,108,108,101,110,103,101]
def JQ:Ak:=[111,114,105,103,105,110]
def B0(nm:Ak)(ms:List (Ak × JV)):JV:=(Ji nm ms).getD (0,[],false)
theorem VP{w:World}{b:Nat}{ms:List (Ak × JV)}(h:XV w b ms)(a:∀m∈ms,Ce m.1){nm:Ak}(c:Ce nm):(Instr.lookup 152 (.map (some b)) (.string (Ab nm)) false).run prog w=.ok (.agg #[.int .i64 (B0 nm ms).1,.string (Ab (B0 nm ms).2.1),.bool (B0 nm ms).2.2]) w:=by have:=WC h a c false;rw[this];unfold Ajh B0;cases Ji nm ms<;>rfl
theorem al4(w:World)(a x1 x2 x3:Obj):((((w.alloc a).alloc x1).alloc x2).alloc x3).drew.heap[w.heap.size]?=some a/\((((w.alloc a).alloc x1).alloc x2).alloc x3).drew.heap[w.heap.size+1]?=some x1/\((((w.alloc a).alloc x1).alloc x2).alloc x3).drew.heap[w.heap.size+1+1]?=some x2/\((((w.alloc a).alloc x1).alloc x2).alloc x3).drew.heap[w.heap.size+1+1+1]?=some x3:=by
 show ((((w.heap.push a).push x1).push x2).push x3)[w.heap.size]?=some a/\((((w.heap.push a).push x1).push x2).push x3)[w.heap.size+1]?=some x1/\((((w.heap.push a).push x1).push x2).push x3)[w.heap.size+1+1]?=some x2/\((((w.heap.push a).push x1).push x2).push x3)[w.heap.size+1+1+1]?=some x3;refine⟨?_,?_,?_,?_⟩
 ·rw[Array.getElem?_push_lt (by simp;omega),Array.getElem_push_lt (by simp;omega),Array.getElem_push_lt Ψ,Array.getElem_push_eq]
 ·have:w.heap.size+1=(w.heap.push a).size:=Ψ
  rw[Array.getElem?_push_lt Ψ,Array.getElem_push_lt Ψ];simp only[this,Array.getElem_push_eq]
 ·have:w.heap.size+1+1=((w.heap.push a).push x1).size:=Ψ
  rw[Array.getElem?_push_lt Ψ];simp only[this,Array.getElem_push_eq]
 ·have:w.heap.size+1+1+1=(((w.heap.push a).push x1).push x2).size:=Ψ
  rw[this];exact Array.getElem?_push_size
theorem al2(w:World)(x1 x2:Obj):((w.alloc x1).alloc x2).drew.heap[w.heap.size]?=some x1/\((w.alloc x1).alloc x2).drew.heap[w.heap.size+1]?=some x2:=by
 show ((w.heap.push x1).push x2)[w.heap.size]?=some x1/\((w.heap.push x1).push x2)[w.heap.size+1]?=some x2;refine⟨?_,?_⟩
 ·simp[Array.getElem?_push]
 ·have:w.heap.size+1=(w.heap.push x1).size:=Ψ
  rw[this];exact Array.getElem?_push_size
def QC:Ak:=[99,114,111,115,115,79,114,105,103,105,110]
def Zm:Ak:=[116,111,112,79,114,105,103,105,110]
def As2(v:JV):Obj:=.cells #[.int .i64 v.1,.string (Ab v.2.1),.bool v.2.2] 193
def cd0:Obj:=.cells #[.int .i64 0,.slice none 0 0,.string ⟨#[]⟩,.bool false,.string ⟨#[]⟩] 67
def tyC:Ak:=[112,97,115,115,107,101,121,46,99,114,101,97,116,101]
def tyG:Ak:=[112,97,115,115,107,101,121,46,103,101,116]
abbrev CD:=Int × Ak × Ak × Bool × Ak
def ED(k:Int)(C O X P:JV):JR CD:=
 match Ly C.2.1 with
 |none=>.error 2
 |some b=>if b.length<1\/64<b.length then .error 9 else if Fg O.2.1≠0 then .error (Fg O.2.1) else if X.2.2=true/\Fg P.2.1≠0 then .error (Fg P.2.1) else .ok (k,b,O.2.1,X.2.2,P.2.1)
def Lr(T C O X P:JV):JR CD:=
 if T.1≠4\/C.1≠4\/O.1≠4 then .error 4
 else if X.1≠0/\X.1≠2 then .error 4
 else if (X.2.2=true/\P.1≠4)\/(X.2.2=false/\P.1≠0) then .error 4
 else if T.2.1=tyC then ED 1 C O X P else if T.2.1=tyG then ED 2 C O X P else .error 3
def NH(w:World)(a:Addr)(b:Ak):Prop:=a.spot=none/\a.block<w.heap.size/\∀j x,b[j]?=some x->w.cell? (a.add j)=some (.int .u8 x)
def ItP(w w':World)(r:JR CD)(e:Ending):Prop:=
 match r with
 |.ok (k,b,o,x,p)=>∃ad a,e=.returned (.tuple #[.agg #[.int .i64 k,.slice (some ad) b.length a,.string (Ab o),.bool x,.string (Ab p)],.int .i64 0])/\b.length<=a/\w.heap.size<=ad.block/\NH w' ad b
 |.error c=>c≠0/\e=.returned (.tuple #[.agg #[.int .i64 0,.slice none 0 0,.string ⟨#[]⟩,.bool false,.string ⟨#[]⟩],.int .i64 c])
def DbP(w w':World)(s:Ak)(e:Ending):Prop:=
 match Ly s with
 |none=>∃ad c,e=.returned (.tuple #[.slice ad 0 c,.int .i64 2])
 |some b=>∃ad c,e=.returned (.tuple #[.slice ad b.length c,.int .i64 0])/\(b≠[]->∃a,ad=some a/\b.length<=c/\w.heap.size<=a.block/\NH w' a b)
theorem YP{w:World}{b:Nat}{v:JV}(h:w.heap[b]?=some (As2 v)):w.cell? ⟨b,0,none⟩=some (.int .i64 v.1)/\w.cell? ⟨b,1,none⟩=some (.string (Ab v.2.1))/\w.cell? ⟨b,2,none⟩=some (.bool v.2.2):=by refine⟨?_,?_,?_⟩<;>(unfold World.cell?;simp only[h];rfl)
theorem Aw2{w:World}{b:Nat}(h:w.heap[b]?=some cd0):(w.cell? ⟨b,0,none⟩=some (.int .i64 0)/\w.cell? ⟨b,1,none⟩=some (.slice none 0 0)/\w.cell? ⟨b,2,none⟩=some (.string ⟨#[]⟩)/\w.cell? ⟨b,3,none⟩=some (.bool false)/\w.cell? ⟨b,4,none⟩=some (.string ⟨#[]⟩))/\w.frozen? ⟨b,0,none⟩=false/\w.frozen? ⟨b,1,none⟩=false/\w.frozen? ⟨b,2,none⟩=false/\w.frozen? ⟨b,3,none⟩=false/\w.frozen? ⟨b,4,none⟩=false:=by refine⟨⟨?_,?_,?_,?_,?_⟩,?_,?_,?_,?_,?_⟩<;>first|(unfold World.cell?;simp only[h];rfl)|(unfold World.frozen?;simp only[h];rfl)
theorem Aqp(s:ByteArray):s.toList=s.data.toList:=by
 have h:∀(n i:Nat) (r:List UInt8),n=s.size-i->ByteArray.toList.loop s i r=r.reverse++s.data.toList.drop i:=by
  intro n
  induction n with
  |zero=>
   intro i r a;unfold ByteArray.toList.loop;rw[Bb Ω,List.drop_eq_nil_of_le (by rw[<-Lib.size_eq];omega),List.append_nil]
  |succ n b=>
   intro i r a;have hi:i<s.size:=Ω
   unfold ByteArray.toList.loop;rw[Bq hi,b (i+1) _ Ω,List.reverse_cons,Zzv]
   congr 1
   have c:i<s.data.toList.length:=by rw[<-Lib.size_eq];exact hi
   rw[List.drop_eq_getElem_cons c]
   have e:s.get! i=s.data.toList[i]:=by
    show (s.data[i]!)=_;rw[getElem!_pos s.data i hi];rfl
   rw[e];rfl
 have:=h _ 0 [] rfl;exact this
theorem YN{a b:Ak}(c:Ce a)(d:Ce b):((Ab a).toList==b.map λn=>n.toNat.toUInt8)=decide (a=b):=by
 rw[Aqp,Bool.eq_iff_iff,beq_iff_eq,decide_eq_true_iff];constructor
 ·intro h;have e:Ab a=Ab b:=congrArg (λl:List UInt8=>(⟨l.toArray⟩:ByteArray)) (show (Ab a).data.toList=(Ab b).data.toList from h);exact RA c d e
 ·rintro rfl;rfl
def Bia(w:World)(vT vC vO:JV)(s4 b c:Value)(a:World):Prop:=
 ∃bT bC bO,s4=.pointer (some ⟨bT,0,none⟩)/\b=.pointer (some ⟨bC,0,none⟩)/\c=.pointer (some ⟨bO,0,none⟩)/\w.heap.size<bT/\w.heap.size<bC/\w.heap.size<bO/\a.heap[w.heap.size]?=some cd0/\a.heap[bT]?=some (As2 vT)/\a.heap[bC]?=some (As2 vC)/\a.heap[bO]?=some (As2 vO)/\Below w.heap.size w a
def Bfp(w wc:World)(vX vP:JV)(s7 b:Value)(a:World):Prop:=
 ∃bX bP,s7=.pointer (some ⟨bX,0,none⟩)/\b=.pointer (some ⟨bP,0,none⟩)/\wc.heap.size<=bX/\wc.heap.size<=bP/\a.heap[bX]?=some (As2 vX)/\a.heap[bP]?=some (As2 vP)/\Below wc.heap.size wc a
theorem Av3{w:World}{b:Nat}{x0 x1 x2 x3 x4:Value}(h:w.heap[b]?=some (.cells #[x0,x1,x2,x3,x4] 67)):(w.cell? ⟨b,0,none⟩=some x0/\w.cell? ⟨b,1,none⟩=some x1/\w.cell? ⟨b,2,none⟩=some x2/\w.cell? ⟨b,3,none⟩=some x3/\w.cell? ⟨b,4,none⟩=some x4)/\w.frozen? ⟨b,0,none⟩=false/\w.frozen? ⟨b,1,none⟩=false/\w.frozen? ⟨b,2,none⟩=false/\w.frozen? ⟨b,3,none⟩=false/\w.frozen? ⟨b,4,none⟩=false:=by refine⟨⟨?_,?_,?_,?_,?_⟩,?_,?_,?_,?_,?_⟩<;>first|(unfold World.cell?;simp only[h];rfl)|(unfold World.frozen?;simp only[h];rfl)
theorem Aef{w:World}{b:Nat}{x0 x1 x2 x3 x4:Value}(a:w.cell? ⟨b,0,none⟩=some x0)(c:w.cell? ⟨b,1,none⟩=some x1)(d:w.cell? ⟨b,2,none⟩=some x2)(e:w.cell? ⟨b,3,none⟩=some x3)(f:w.cell? ⟨b,4,none⟩=some x4):(loadVar 67 ⟨b,0,none⟩).run prog w=.ok (.agg #[x0,x1,x2,x3,x4]) w:=by
 have g:∀j,j<5->w.cell? ((⟨b,0,none⟩:Addr).add j)=some (([x0,x1,x2,x3,x4][j]?).getD undef):=by
  intro j h;rw[Gk,Ka]
  match j,h with
  |0,_=>exact a
  |1,_=>exact c
  |2,_=>exact d
  |3,_=>exact e
  |4,_=>exact f
 simp only[loadVar,Sem.run_bind,Tryz.isAgg67,Result.andThen_ok,if_true,Tryz.sizeOf67,run_loadCells w _ 5 _ g];rfl
theorem G7{w:World}{b i j:Nat}{v:Value}(h:i≠j):(w.setCell ⟨b,j,none⟩ v).cell? ⟨b,i,none⟩=w.cell? ⟨b,i,none⟩:=World.cell?_setCell_other _ _ _ _ (λe=>h (by injection e with _ a;exact a.symm))
theorem PN(w:World)(b:Nat)(x0 x1 x2 x3 x4:Value)(h:(w.cell? ⟨b,0,none⟩).isSome=true/\(w.cell? ⟨b,1,none⟩).isSome=true/\(w.cell? ⟨b,2,none⟩).isSome=true/\(w.cell? ⟨b,3,none⟩).isSome=true/\(w.cell? ⟨b,4,none⟩).isSome=true):(loadVar 67 ⟨b,0,none⟩).run prog (((((w.setCell ⟨b,0,none⟩ x0).setCell ⟨b,1,none⟩ x1).setCell ⟨b,2,none⟩ x2).setCell ⟨b,3,none⟩ x3).setCell ⟨b,4,none⟩ x4)=.ok (.agg #[x0,x1,x2,x3,x4]) (((((w.setCell ⟨b,0,none⟩ x0).setCell ⟨b,1,none⟩ x1).setCell ⟨b,2,none⟩ x2).setCell ⟨b,3,none⟩ x3).setCell ⟨b,4,none⟩ x4):=by
 obtain⟨a,c,d,e,f⟩:=h;obtain⟨g,a⟩:=Option.isSome_iff_exists.1 a;obtain⟨i,c⟩:=Option.isSome_iff_exists.1 c;obtain⟨j,d⟩:=Option.isSome_iff_exists.1 d;obtain⟨k,e⟩:=Option.isSome_iff_exists.1 e;obtain⟨l,f⟩:=Option.isSome_iff_exists.1 f;apply Aef
 ·rw[G7 Δ,G7 Δ,G7 Δ,G7 Δ];exact World.cell?_setCell_same _ _ _ a
 ·rw[G7 Δ,G7 Δ,G7 Δ];exact World.cell?_setCell_same _ _ _ ((G7 Δ).trans c)
 ·rw[G7 Δ,G7 Δ];exact World.cell?_setCell_same _ _ _ ((G7 Δ).trans ((G7 Δ).trans d))
 ·rw[G7 Δ];exact World.cell?_setCell_same _ _ _ ((G7 Δ).trans ((G7 Δ).trans ((G7 Δ).trans e)))
 ·exact World.cell?_setCell_same _ _ _ ((G7 Δ).trans ((G7 Δ).trans ((G7 Δ).trans ((G7 Δ).trans f))))
theorem Nt{B:Nat}{a w:World}(h:Below B a w){b:Nat}(c:B<=b)(x0 x1 x2 x3 x4:Value):Below B a (((((w.setCell ⟨b,0,none⟩ x0).setCell ⟨b,1,none⟩ x1).setCell ⟨b,2,none⟩ x2).setCell ⟨b,3,none⟩ x3).setCell ⟨b,4,none⟩ x4):=
 ((((h.setCell (p:=⟨b,0,none⟩) c x0).setCell (p:=⟨b,1,none⟩) c x1).setCell (p:=⟨b,2,none⟩) c x2).setCell (p:=⟨b,3,none⟩) c x3).setCell (p:=⟨b,4,none⟩) c x4
theorem M8{R:Ending->World->Prop}{a:Act}{W:World}{v:Value}{b:Nat}(c:a.tmps.getD 2 undef=.pointer (some ⟨b,0,none⟩))(hd:a.defers=[])(d:(loadVar 67 ⟨b,0,none⟩).run prog W=.ok v W)(f:R (.returned (.tuple #[v,a.tmps.getD 3 undef])) W):bodyPost prog Tryz.f105 R .ret a W:=by refine bodyPost_ret ?_ hd f;rw[results_cell_tmp rfl,c];have e:(asAddr (.pointer (some ⟨b,0,none⟩))).run prog W=.ok ⟨b,0,none⟩ W:=rfl;rw[e,Result.andThen_ok,d,Result.andThen_ok]
theorem NH.below{w w':World}{a:Addr}{b:Ak}{B:Nat}(h:NH w a b)(k:Below B w w')(c:a.block<B):NH w' a b:=
 ⟨h.1,H2 h.2.1 k.size,λj x d=>(k.cell (p:=a.add j) (by rw[G5];exact c)).trans (h.2.2 j x d)⟩
theorem NH.set{w:World}{a:Addr}{b:Ak}{b0 j:Nat}{v:Value}(h:NH w a b)(c:a.block≠b0):NH (w.setCell ⟨b0,j,none⟩ v) a b:=
 ⟨h.1,by rw[World.size_setCell];exact h.2.1,λi x d=>(World.cell?_setCell_other _ _ _ _ (λe=>c (by rw[<-G5 a i,<-e]))).trans (h.2.2 i x d)⟩
theorem NH.set5{w:World}{a:Addr}{b:Ak}{b0:Nat}{x0 x1 x2 x3 x4:Value}(h:NH w a b)(c:a.block≠b0):NH (((((w.setCell ⟨b0,0,none⟩ x0).setCell ⟨b0,1,none⟩ x1).setCell ⟨b0,2,none⟩ x2).setCell ⟨b0,3,none⟩ x3).setCell ⟨b0,4,none⟩ x4) a b:=
 ((((h.set c).set c).set c).set c).set c
def RC(w:World)(b:Nat):Prop:=(w.cell? ⟨b,0,none⟩=some (.int .i64 0)/\w.cell? ⟨b,1,none⟩=some (.slice none 0 0)/\w.cell? ⟨b,2,none⟩=some (.string ⟨#[]⟩)/\w.cell? ⟨b,3,none⟩=some (.bool false)/\w.cell? ⟨b,4,none⟩=some (.string ⟨#[]⟩))/\w.frozen? ⟨b,0,none⟩=false/\w.frozen? ⟨b,1,none⟩=false/\w.frozen? ⟨b,2,none⟩=false/\w.frozen? ⟨b,3,none⟩=false/\w.frozen? ⟨b,4,none⟩=false
theorem RC.below{w w':World}{b B:Nat}(h:RC w b)(k:Below B w w')(a:b<B):RC w' b:=by have e:∀j,w'.cell? ⟨b,j,none⟩=w.cell? ⟨b,j,none⟩:=λj=>k.cell (p:=⟨b,j,none⟩) a;have f:∀j,w'.frozen? ⟨b,j,none⟩=w.frozen? ⟨b,j,none⟩:=λj=>k.frozen (p:=⟨b,j,none⟩) a;unfold RC;rw[e,e,e,e,e,f,f,f,f,f];exact h
theorem RC.some{w:World}{b:Nat}(h:RC w b):(w.cell? ⟨b,0,none⟩).isSome=true/\(w.cell? ⟨b,1,none⟩).isSome=true/\(w.cell? ⟨b,2,none⟩).isSome=true/\(w.cell? ⟨b,3,none⟩).isSome=true/\(w.cell? ⟨b,4,none⟩).isSome=true:=by obtain⟨⟨a,c,d,e,f⟩,_⟩:=h;rw[a,c,d,e,f];exact⟨rfl,rfl,rfl,rfl,rfl⟩
theorem A26{w:World}{b:Nat}{v:Value}{x:Obj}(a:b<w.heap.size)(h:∃x0 x1 x2 x3 x4,v=.agg #[x0,x1,x2,x3,x4]/\w.cell? ⟨b,0,none⟩=some x0/\w.cell? ⟨b,1,none⟩=some x1/\w.cell? ⟨b,2,none⟩=some x2/\w.cell? ⟨b,3,none⟩=some x3/\w.cell? ⟨b,4,none⟩=some x4):(loadVar 67 ⟨b,0,none⟩).run prog (w.alloc x)=.ok v (w.alloc x):=by obtain⟨x0,x1,x2,x3,x4,rfl,c,d,e,f,g⟩:=h;have k:Below w.heap.size w (w.alloc x):=(Below.refl _ w).alloc (Cg _) _;exact Aef ((k.cell (p:=⟨b,0,none⟩) a).trans c) ((k.cell (p:=⟨b,1,none⟩) a).trans d) ((k.cell (p:=⟨b,2,none⟩) a).trans e) ((k.cell (p:=⟨b,3,none⟩) a).trans f) ((k.cell (p:=⟨b,4,none⟩) a).trans g)
theorem Ul(w:World)(b:Nat)(a:b<w.heap.size)(x0 x1 x2 x3 x4:Value)(x:Obj)(h:RC w b):(loadVar 67 ⟨b,0,none⟩).run prog ((((((w.setCell ⟨b,0,none⟩ x0).setCell ⟨b,1,none⟩ x1).setCell ⟨b,2,none⟩ x2).setCell ⟨b,3,none⟩ x3).setCell ⟨b,4,none⟩ x4).alloc x)=.ok (.agg #[x0,x1,x2,x3,x4]) ((((((w.setCell ⟨b,0,none⟩ x0).setCell ⟨b,1,none⟩ x1).setCell ⟨b,2,none⟩ x2).setCell ⟨b,3,none⟩ x3).setCell ⟨b,4,none⟩ x4).alloc x):=by
 refine A26 (by simp only[World.size_setCell];exact a) ⟨x0,x1,x2,x3,x4,rfl,?_⟩
 obtain⟨⟨c,d,e,f,g⟩,_⟩:=h;refine⟨?_,?_,?_,?_,?_⟩
 ·rw[G7 Δ,G7 Δ,G7 Δ,G7 Δ];exact World.cell?_setCell_same _ _ _ c
 ·rw[G7 Δ,G7 Δ,G7 Δ];exact World.cell?_setCell_same _ _ _ ((G7 Δ).trans d)
 ·rw[G7 Δ,G7 Δ];exact World.cell?_setCell_same _ _ _ ((G7 Δ).trans ((G7 Δ).trans e))
 ·rw[G7 Δ];exact World.cell?_setCell_same _ _ _ ((G7 Δ).trans ((G7 Δ).trans ((G7 Δ).trans f)))
 ·exact World.cell?_setCell_same _ _ _ ((G7 Δ).trans ((G7 Δ).trans ((G7 Δ).trans ((G7 Δ).trans g))))
theorem Kc{B:Nat}{a w:World}(h:Below B a w){b:Nat}(c:B<=b)(d:B<=w.heap.size)(x0 x1 x2 x3 x4:Value)(x:Obj):Below B a ((((((w.setCell ⟨b,0,none⟩ x0).setCell ⟨b,1,none⟩ x1).setCell ⟨b,2,none⟩ x2).setCell ⟨b,3,none⟩ x3).setCell ⟨b,4,none⟩ x4).alloc x):=
 have k:=Nt h c x0 x1 x2 x3 x4
 k.alloc (by simp only[World.size_setCell];exact d) _
theorem NH.set5al{w:World}{a:Addr}{b:Ak}{b0:Nat}{x0 x1 x2 x3 x4:Value}{x:Obj}(h:NH w a b)(c:a.block≠b0):NH ((((((w.setCell ⟨b0,0,none⟩ x0).setCell ⟨b0,1,none⟩ x1).setCell ⟨b0,2,none⟩ x2).setCell ⟨b0,3,none⟩ x3).setCell ⟨b0,4,none⟩ x4).alloc x) a b:=
 have q:=h.set5 (x0:=x0) (x1:=x1) (x2:=x2) (x3:=x3) (x4:=x4) c
 q.below ((Below.refl _ _).alloc (Cg _) _) q.2.1
theorem al1(w:World)(x:Obj):(w.alloc x).heap[w.heap.size]?=some x:=Array.getElem?_push_size
def okW(w:World):Prop:=gU.ok w/\∀k,gU.bl k->k<w.heap.size
theorem okW.below{w w':World}(h:okW w)(k:Below w.heap.size w w'):okW w':=⟨gU.stable w w' (λj a b=>k.block j b) h.1,λj a=>H2 (h.2 j a) k.size⟩
structure Hid(p:Prop):Prop where
 v:p
set_option maxHeartbeats 8000000 in
theorem A14(Bed:∀(W:World)(s:Ak),okW W->Ce s->s.length<=1000000->Calls prog 131 #[.string (Ab s)] W λe w'=>Below W.heap.size W w'/\DbP W w' s e)(A1m:∀(W:World)(s:Ak),okW W->Ce s->s.length<=1000000->Calls prog 132 #[.string (Ab s)] W λe w'=>Below W.heap.size W w'/\∃o1 o2 o3,e=.returned (.tuple #[.agg #[.bool o1,.string o2,.int .i64 o3],.int .i64 (Fg s)])){ms:List (Ak × JV)}(hB:∀m∈ms,Ce m.1)(hB2:∀m∈ms,Ce m.2.2.1/\m.2.2.1.length<=1000000){mb:Nat}{w:World}(hU:okW w)(Q:XV w mb ms):
  Calls prog 105 #[.map (some mb)] w λe w'=>Below w.heap.size w w'/\ItP w w' (Lr (B0 On ms) (B0 Te ms) (B0 JQ ms) (B0 QC ms) (B0 Zm ms)) e:=by
 have R:∀nm,Ce (B0 nm ms).2.1/\(B0 nm ms).2.1.length<=1000000:=by
  intro nm;unfold B0 Ji;cases hq:ms.find? λm=>m.1==nm with
  |none=>exact⟨(λx K=>nomatch K),Nat.zero_le _⟩
  |some m=>exact hB2 m (List.mem_of_find?_eq_some hq)
 obtain⟨hTB,hTL⟩:=R On;obtain⟨hCB,hCL⟩:=R Te;obtain⟨hOB,hOL⟩:=R JQ;obtain⟨hXB,hXL⟩:=R QC;obtain⟨hPB,hPL⟩:=R Zm;clear R;have mixed:prog.follows Departure.mixedOrders=true:=Κ
 have r:∀{W:World},XV W mb ms->(Instr.lookup 152 (.map (some mb)) (.string ⟨#[116,121,112,101]⟩) false).run prog W=.ok (.agg #[.int .i64 (B0 On ms).1,.string (Ab (B0 On ms).2.1),.bool (B0 On ms).2.2]) W/\(Instr.lookup 152 (.map (some mb)) (.string ⟨#[99,104,97,108,108,101,110,103,101]⟩) false).run prog W=.ok (.agg #[.int .i64 (B0 Te ms).1,.string (Ab (B0 Te ms).2.1),.bool (B0 Te ms).2.2]) W/\(Instr.lookup 152 (.map (some mb)) (.string ⟨#[111,114,105,103,105,110]⟩) false).run prog W=.ok (.agg #[.int .i64 (B0 JQ ms).1,.string (Ab (B0 JQ ms).2.1),.bool (B0 JQ ms).2.2]) W:=
  λh=>⟨VP h hB (nm:=On) (λx K=>by simp[On] at K;omega),VP h hB (nm:=Te) (λx K=>by simp[Te] at K;omega),VP h hB (nm:=JQ) (λx K=>by simp[JQ] at K;omega)⟩
 have key2:∀{W:World},XV W mb ms->(Instr.lookup 152 (.map (some mb)) (.string ⟨#[99,114,111,115,115,79,114,105,103,105,110]⟩) false).run prog W=.ok (.agg #[.int .i64 (B0 QC ms).1,.string (Ab (B0 QC ms).2.1),.bool (B0 QC ms).2.2]) W/\(Instr.lookup 152 (.map (some mb)) (.string ⟨#[116,111,112,79,114,105,103,105,110]⟩) false).run prog W=.ok (.agg #[.int .i64 (B0 Zm ms).1,.string (Ab (B0 Zm ms).2.1),.bool (B0 Zm ms).2.2]) W:=
  λh=>⟨VP h hB (nm:=QC) (λx K=>by simp[QC] at K;omega),VP h hB (nm:=Zm) (λx K=>by simp[Zm] at K;omega)⟩
 have b0:Below w.heap.size w (w.alloc (.cells #[.int .i64 0,.slice none 0 0,.string ⟨#[]⟩,.bool false,.string ⟨#[]⟩] 67)):=(Below.refl _ w).alloc (Cg _) _;have b1:=b0.alloc b0.size (.cells #[.int .i64 0,.string ⟨#[]⟩,.bool false] 193);have b2:=b1.alloc b1.size (.cells #[.int .i64 0,.string ⟨#[]⟩,.bool false] 193);have b3:=b2.alloc b2.size (.cells #[.int .i64 0,.string ⟨#[]⟩,.bool false] 193);obtain⟨k0,k1,k2⟩:=r (Q.below b0.drew);obtain⟨l0,l1,l2⟩:=r (Q.below b1.drew);obtain⟨m0,m1,m2⟩:=r (Q.below b2.drew);obtain⟨n0,n1,n2⟩:=r (Q.below b3.drew)
 have T:∀x1 x2 x3,Below w.heap.size w ((((w.alloc (.cells #[.int .i64 0,.slice none 0 0,.string ⟨#[]⟩,.bool false,.string ⟨#[]⟩] 67)).alloc x1).alloc x2).alloc x3).drew:=λx1 x2 x3=>by
  have c1:=b0.alloc b0.size x1;have c2:=c1.alloc c1.size x2;exact (c2.alloc c2.size x3).drew
 obtain⟨_,p1,q1⟩:=r (Q.below (T (.cells #[.int .i64 (B0 On ms).1,.string (Ab (B0 On ms).2.1),.bool (B0 On ms).2.2] 193) (.cells #[.int .i64 0,.string ⟨#[]⟩,.bool false] 193) (.cells #[.int .i64 0,.string ⟨#[]⟩,.bool false] 193)));obtain⟨_,p2,q2⟩:=r (Q.below (T (.cells #[.int .i64 0,.string ⟨#[]⟩,.bool false] 193) (.cells #[.int .i64 (B0 On ms).1,.string (Ab (B0 On ms).2.1),.bool (B0 On ms).2.2] 193) (.cells #[.int .i64 0,.string ⟨#[]⟩,.bool false] 193)));obtain⟨_,p3,q3⟩:=r (Q.below (T (.cells #[.int .i64 0,.string ⟨#[]⟩,.bool false] 193) (.cells #[.int .i64 0,.string ⟨#[]⟩,.bool false] 193) (.cells #[.int .i64 (B0 On ms).1,.string (Ab (B0 On ms).2.1),.bool (B0 On ms).2.2] 193)))
 obtain⟨_,_,q4⟩:=r (Q.below (T (.cells #[.int .i64 (B0 On ms).1,.string (Ab (B0 On ms).2.1),.bool (B0 On ms).2.2] 193) (.cells #[.int .i64 (B0 Te ms).1,.string (Ab (B0 Te ms).2.1),.bool (B0 Te ms).2.2] 193) (.cells #[.int .i64 0,.string ⟨#[]⟩,.bool false] 193)));obtain⟨_,_,q5⟩:=r (Q.below (T (.cells #[.int .i64 (B0 On ms).1,.string (Ab (B0 On ms).2.1),.bool (B0 On ms).2.2] 193) (.cells #[.int .i64 0,.string ⟨#[]⟩,.bool false] 193) (.cells #[.int .i64 (B0 Te ms).1,.string (Ab (B0 Te ms).2.1),.bool (B0 Te ms).2.2] 193)));obtain⟨_,_,q6⟩:=r (Q.below (T (.cells #[.int .i64 (B0 Te ms).1,.string (Ab (B0 Te ms).2.1),.bool (B0 Te ms).2.2] 193) (.cells #[.int .i64 (B0 On ms).1,.string (Ab (B0 On ms).2.1),.bool (B0 On ms).2.2] 193) (.cells #[.int .i64 0,.string ⟨#[]⟩,.bool false] 193)))
 obtain⟨_,_,q7⟩:=r (Q.below (T (.cells #[.int .i64 (B0 Te ms).1,.string (Ab (B0 Te ms).2.1),.bool (B0 Te ms).2.2] 193) (.cells #[.int .i64 0,.string ⟨#[]⟩,.bool false] 193) (.cells #[.int .i64 (B0 On ms).1,.string (Ab (B0 On ms).2.1),.bool (B0 On ms).2.2] 193)));obtain⟨_,_,q8⟩:=r (Q.below (T (.cells #[.int .i64 0,.string ⟨#[]⟩,.bool false] 193) (.cells #[.int .i64 (B0 On ms).1,.string (Ab (B0 On ms).2.1),.bool (B0 On ms).2.2] 193) (.cells #[.int .i64 (B0 Te ms).1,.string (Ab (B0 Te ms).2.1),.bool (B0 Te ms).2.2] 193)));obtain⟨_,_,q9⟩:=r (Q.below (T (.cells #[.int .i64 0,.string ⟨#[]⟩,.bool false] 193) (.cells #[.int .i64 (B0 Te ms).1,.string (Ab (B0 Te ms).2.1),.bool (B0 Te ms).2.2] 193) (.cells #[.int .i64 (B0 On ms).1,.string (Ab (B0 On ms).2.1),.bool (B0 On ms).2.2] 193)))
 have hbb:∀x1 x2 x3,Below w.heap.size w ((((w.alloc cd0).alloc x1).alloc x2).alloc x3).drew:=T;clear r T;generalize B0 On ms=vT at *
 generalize B0 Te ms=vC at *
 generalize B0 JQ ms=vO at *
 generalize B0 QC ms=vX at *
 generalize B0 Zm ms=vP at *
 go_enter Tryz.func105,Tryz.ntmps105
 go_upto_region 1 with fail
 go_cut [4,5,6] (λs4 s5 s6 wx=>Bia w vT vC vO s4 s5 s6 wx)
 case first=>
  go_region_o
  all_goals (go_wp2_with fail;go_meet;(refine⟨_,_,_,rfl,rfl,rfl,Ω,Ω,Ω,?_,?_,?_,?_,hbb _ _ _⟩<;>first|exact (al4 _ _ _ _ _).1|exact (al4 _ _ _ _ _).2.1|exact (al4 _ _ _ _ _).2.2.1|exact (al4 _ _ _ _ _).2.2.2))
 case rest=>
  rename World=>C
  obtain⟨bT,bC,bO,rfl,rfl,rfl,hbT,hbC,hbO,hc,hT,hC,hO,hbw⟩:=hcut;clear k0 k1 k2 l0 l1 l2 m0 m1 m2 n0 n1 n2 p1 p2 p3 q1 q2 q3 q4 q5 q6 q7 q8 q9;have U:=Q.below hbw;have d1:Below C.heap.size C (C.alloc (.cells #[.int .i64 0,.string ⟨#[]⟩,.bool false] 193)):=(Below.refl _ C).alloc (Cg _) _;have d2:=d1.alloc d1.size (.cells #[.int .i64 0,.string ⟨#[]⟩,.bool false] 193)
  have dd:∀x1 x2,Below C.heap.size C ((C.alloc x1).alloc x2).drew:=λx1 x2=>by
   have c1:Below C.heap.size C (C.alloc x1):=(Below.refl _ C).alloc (Cg _) _;exact (c1.alloc c1.size x2).drew
  obtain⟨k0,k1⟩:=key2 (U.below (Below.refl C.heap.size C).drew);obtain⟨l0,l1⟩:=key2 (U.below d1.drew);obtain⟨m0,m1⟩:=key2 (U.below d2.drew);obtain⟨_,p1⟩:=key2 (U.below (dd (.cells #[.int .i64 vX.1,.string (Ab vX.2.1),.bool vX.2.2] 193) (.cells #[.int .i64 0,.string ⟨#[]⟩,.bool false] 193)));obtain⟨_,p2⟩:=key2 (U.below (dd (.cells #[.int .i64 0,.string ⟨#[]⟩,.bool false] 193) (.cells #[.int .i64 vX.1,.string (Ab vX.2.1),.bool vX.2.2] 193)));clear key2
  go_upto_region 2 with fail
  go_cut [7,8] (λs7 s8 wx=>Bfp w C vX vP s7 s8 wx)
  case first=>
   go_region_o
   all_goals (go_wp2_with fail;go_meet;(refine⟨_,_,rfl,rfl,Ω,Ω,?_,?_,dd _ _⟩<;>first|exact (al2 _ _ _).1|exact (al2 _ _ _).2))
  case rest=>
   clear k0 k1 l0 l1 m0 m1 p1 p2;obtain⟨bX,bP,rfl,rfl,hbX,hbP,hX,hP,Ajo⟩:=hcut
   rename World=>wd
   have hwc:w.heap.size<C.heap.size:=by
    rcases Jt w.heap.size C.heap.size with q|q
    ·exact q
    ·rw[Array.getElem?_eq_none q] at hc;cases hc
   have Cs:∀{b:Nat} {o:Obj},C.heap[b]?=some o->b<C.heap.size:=λ{b o} h=>by
    rcases Jt b C.heap.size with q|q
    ·exact q
    ·rw[Array.getElem?_eq_none q] at h;cases h
   obtain⟨⟨c0,c1,c2,c3,c4⟩,f0,f1,f2,f3,f4⟩:=Aw2 ((Ajo.block _ (Cs hc)).trans hc);have hrc:RC wd w.heap.size:=⟨⟨c0,c1,c2,c3,c4⟩,f0,f1,f2,f3,f4⟩
   have V:=hrc.some;obtain⟨T0,T1,T2⟩:=YP ((Ajo.block _ (Cs hT)).trans hT);obtain⟨C0,C1,C2⟩:=YP ((Ajo.block _ (Cs hC)).trans hC);obtain⟨O0,O1,O2⟩:=YP ((Ajo.block _ (Cs hO)).trans hO);obtain⟨X0,X1,X2⟩:=YP hX;obtain⟨P0,P1,P2⟩:=YP hP;have y:Below w.heap.size w wd:=hbw.trans ((Ajo).mono hbw.size);by_cases hT4:vT.1=4
   rotate_left
   ·have hq:(vT.1 != 4)=true:=by simp[hT4]
    have g:Lr vT vC vO vX vP=.error 4:=by unfold Lr;rw[Bq (.inl hT4)]
    rename Exit->Act->World->Prop=>i;clear_value (c:i=_)
    replace c:=Hid.mk c
    go_wp2
    (try simp only[Exit.inBlock,Exit.then]);rw[c.v]
    exact M8 (b:=w.heap.size) rfl rfl (PN wd w.heap.size _ _ _ _ _ V) ⟨Nt y (Cg _) _ _ _ _ _,by rw[g];exact⟨Δ,rfl⟩⟩
   by_cases hC4:vC.1=4
   rotate_left
   ·have hq:(vC.1 != 4)=true:=by simp[hC4]
    have g:Lr vT vC vO vX vP=.error 4:=by unfold Lr;rw[Bq (.inr (.inl hC4))]
    rename Exit->Act->World->Prop=>i;clear_value (c:i=_)
    replace c:=Hid.mk c
    go_wp2
    (try simp only[Exit.inBlock,Exit.then]);rw[c.v]
    exact M8 (b:=w.heap.size) rfl rfl (PN wd w.heap.size _ _ _ _ _ V) ⟨Nt y (Cg _) _ _ _ _ _,by rw[g];exact⟨Δ,rfl⟩⟩
   by_cases hO4:vO.1=4
   rotate_left
   ·have hq:(vO.1 != 4)=true:=by simp[hO4]
    have g:Lr vT vC vO vX vP=.error 4:=by unfold Lr;rw[Bq (.inr (.inr hO4))]
    rename Exit->Act->World->Prop=>i;clear_value (c:i=_)
    replace c:=Hid.mk c
    go_wp2
    (try simp only[Exit.inBlock,Exit.then]);rw[c.v]
    exact M8 (b:=w.heap.size) rfl rfl (PN wd w.heap.size _ _ _ _ _ V) ⟨Nt y (Cg _) _ _ _ _ _,by rw[g];exact⟨Δ,rfl⟩⟩
   have UM:Lr vT vC vO vX vP=if vX.1≠0/\vX.1≠2 then .error 4
    else if (vX.2.2=true/\vP.1≠4)\/(vX.2.2=false/\vP.1≠0) then .error 4
    else if vT.2.1=tyC then ED 1 vC vO vX vP else if vT.2.1=tyG then ED 2 vC vO vX vP else .error 3:=by
    unfold Lr;rw[Bb (by rintro (h|h|h)<;>first|exact h hT4|exact h hC4|exact h hO4)]
   go_upto_region 5 with fail
   go_cut [47] (λs47 wx=>∃q:Bool,s47=.bool q/\(q=true↔(vX.1≠0/\vX.1≠2))/\wx=wd)
   case first=>
    by_cases h0:vX.1=0
    ·have h1:(vX.1 != 0)=false:=by simp[h0]
     go_wp2_with fail
     go_meet
     exact⟨false,rfl,by simp[h0],rfl⟩
    ·have h1:(vX.1 != 0)=true:=by simp[h0]
     by_cases h2:vX.1=2
     ·have h3:(vX.1 != 2)=false:=by simp[h2]
      go_wp2_with fail
      go_meet
      exact⟨false,rfl,by simp[h2],rfl⟩
     ·have h3:(vX.1 != 2)=true:=by simp[h2]
      go_wp2_with fail
      go_meet
      exact⟨true,rfl,by simp[h0,h2],rfl⟩
   case rest=>
    obtain⟨q5,rfl,hq5,hwe⟩:=hcut;subst hwe;cases q5 with
    |true=>
     have hx1:=hq5.1 rfl;have g:Lr vT vC vO vX vP=.error 4:=by rw[UM,Bq hx1]
     rename Exit->Act->World->Prop=>i;clear_value (c:i=_)
     replace c:=Hid.mk c
     go_wp2
     (try simp only[Exit.inBlock,Exit.then]);rw[c.v]
     exact M8 (b:=w.heap.size) rfl rfl (PN wc w.heap.size _ _ _ _ _ V) ⟨Nt y (Cg _) _ _ _ _ _,by rw[g];exact⟨Δ,rfl⟩⟩
    |false=>
     have hx1:¬(vX.1≠0/\vX.1≠2):=λh=>Bool.noConfusion (hq5.2 h);rw[Bb hx1] at UM
     go_upto_region 7 with fail
     go_cut [65] (λs65 wx=>∃q:Bool,s65=.bool q/\(q=true↔((vX.2.2=true/\vP.1≠4)\/(vX.2.2=false/\vP.1≠0)))/\wx=wc)
     case first=>
      cases f:vX.2.2 with
      |true=>
       rw[f] at X2;by_cases h4:vP.1=4
       ·have h1:(vP.1 != 4)=false:=by simp[h4]
        go_wp2_with fail
        go_meet
        exact⟨false,rfl,by simp[h4,f],rfl⟩
       ·have h1:(vP.1 != 4)=true:=by simp[h4]
        go_wp2_with fail
        go_meet
        exact⟨true,rfl,by simp[h4,f],rfl⟩
      |false=>
       rw[f] at X2;by_cases h4:vP.1=0
       ·have h1:(vP.1 != 0)=false:=by simp[h4]
        go_wp2_with fail
        go_meet
        exact⟨false,rfl,by simp[h4,f],rfl⟩
       ·have h1:(vP.1 != 0)=true:=by simp[h4]
        go_wp2_with fail
        go_meet
        exact⟨true,rfl,by simp[h4,f],rfl⟩
     case rest=>
      obtain⟨q7,rfl,hq7,hwe⟩:=hcut;subst hwe;cases q7 with
      |true=>
       have Zt:=hq7.1 rfl;have g:Lr vT vC vO vX vP=.error 4:=by rw[UM,Bq Zt]
       rename Exit->Act->World->Prop=>i;clear_value (c:i=_)
       replace c:=Hid.mk c
       go_wp2
       (try simp only[Exit.inBlock,Exit.then]);rw[c.v]
       exact M8 (b:=w.heap.size) rfl rfl (PN wc w.heap.size _ _ _ _ _ V) ⟨Nt y (Cg _) _ _ _ _ _,by rw[g];exact⟨Δ,rfl⟩⟩
      |false=>
       have Zt:¬((vX.2.2=true/\vP.1≠4)\/(vX.2.2=false/\vP.1≠0)):=λh=>Bool.noConfusion (hq7.2 h);rw[Bb Zt] at UM;clear hq5 hq7 hx1 Zt;have L:w.heap.size<wc.heap.size:=H2 hwc Ajo.size;have Bpf:bT<wc.heap.size:=H2 (Cs hT) Ajo.size;have Bmv:bC<wc.heap.size:=H2 (Cs hC) Ajo.size;have hbC:((Ab vT.2.1).toList==[112,97,115,115,107,101,121,46,99,114,101,97,116,101])=decide (vT.2.1=tyC):=YN hTB (b:=tyC) (λx K=>by simp[tyC] at K;omega)
       have hbG:((Ab vT.2.1).toList==[112,97,115,115,107,101,121,46,103,101,116])=decide (vT.2.1=tyG):=YN hTB (b:=tyG) (λx K=>by simp[tyG] at K;omega)
       by_cases S:vT.2.1=tyC
       rotate_left
       ·rw[decide_eq_false S] at hbC;rw[Bb S] at UM;by_cases X:vT.2.1=tyG
        rotate_left
        ·rw[decide_eq_false X] at hbG;have g:Lr vT vC vO vX vP=.error 3:=by rw[UM,Bb X]
         rename Exit->Act->World->Prop=>i;clear_value (c:i=_)
         replace c:=Hid.mk c
         go_wp2
         (try simp only[Exit.inBlock,Exit.then]);rw[c.v]
         exact M8 (b:=w.heap.size) rfl rfl (Ul wc w.heap.size L _ _ _ _ _ _ hrc) ⟨Kc y (Cg _) y.size _ _ _ _ _ _,by rw[g];exact⟨Δ,rfl⟩⟩
        ·rw[decide_eq_true X] at hbG;rw[Bq X] at UM;clear X S;have M:=y.alloc y.size (.cells #[.int .i64 2,.slice none 0 0,.string (Ab vO.2.1),.bool vX.2.2,.string (Ab vP.2.1)] 67);have D:(wc.alloc (.cells #[.int .i64 2,.slice none 0 0,.string (Ab vO.2.1),.bool vX.2.2,.string (Ab vP.2.1)] 67)).heap.size=wc.heap.size+1:=Array.size_push _;have hkA:=al1 wc (.cells #[.int .i64 2,.slice none 0 0,.string (Ab vO.2.1),.bool vX.2.2,.string (Ab vP.2.1)] 67);have hrA:=hrc.below ((Below.refl wc.heap.size wc).alloc (Cg _) (.cells #[.int .i64 2,.slice none 0 0,.string (Ab vO.2.1),.bool vX.2.2,.string (Ab vP.2.1)] 67)) L
         go_wp2_with (go_at_call 131;refine (Bed _ vC.2.1 (hU.below M) hCB hCL).mono ?_)
         rintro e k ⟨GV,z⟩
         have MA:Below w.heap.size w k:=M.trans (GV.mono M.size);have Y:=hrA.below GV (by rw[D];omega)
         have N:=Y.some;obtain⟨⟨r30,r31,r32,r33,r34⟩,s30,s31,s32,s33,s34⟩:=Y;have hs3:wc.heap.size+1<=k.heap.size:=by have:=GV.size;rw[D] at this;exact this
         have Rp:=(GV.block _ (by rw[D];omega)).trans hkA
         obtain⟨⟨k0,k1,k2,k3,k4⟩,kf0,kf1,kf2,kf3,kf4⟩:=Av3 Rp;unfold DbP at z;cases t:Ly vC.2.1 with
         |none=>
          rw[t] at z;obtain⟨ad,capN,rfl⟩:=z;have g:Lr vT vC vO vX vP=.error 2:=by rw[UM];unfold ED;rw[t]
          rename Exit->Act->World->Prop=>i;clear_value (c:i=_)
          replace c:=Hid.mk c
          go_wp2
          (try simp only[Exit.inBlock,Exit.then]);rw[c.v]
          exact M8 (b:=w.heap.size) rfl rfl (PN k w.heap.size _ _ _ _ _ N) ⟨Nt MA (Cg _) _ _ _ _ _,by rw[g];exact⟨Δ,rfl⟩⟩
         |some b=>
          rw[t] at z;obtain⟨ad,d,rfl,Vm⟩:=z;by_cases Gf:b.length<1
          ·have g:Lr vT vC vO vX vP=.error 9:=by rw[UM];unfold ED;rw[t];simp only;rw[Bq (.inl Gf)]
           have NU:(b.length:Int)<1:=Ω
           rename Exit->Act->World->Prop=>i;clear_value (c:i=_)
           replace c:=Hid.mk c
           go_wp2
           (try simp only[Exit.inBlock,Exit.then]);rw[c.v]
           exact M8 (b:=w.heap.size) rfl rfl (PN k w.heap.size _ _ _ _ _ N) ⟨Nt MA (Cg _) _ _ _ _ _,by rw[g];exact⟨Δ,rfl⟩⟩
          by_cases Jv:64<b.length
          ·have g:Lr vT vC vO vX vP=.error 9:=by rw[UM];unfold ED;rw[t];simp only;rw[Bq (.inr Jv)]
           have NU:¬(b.length:Int)<1:=Ω
           have Pt:(b.length:Int)>64:=Ω
           rename Exit->Act->World->Prop=>i;clear_value (c:i=_)
           replace c:=Hid.mk c
           go_wp2
           (try simp only[Exit.inBlock,Exit.then]);rw[c.v]
           exact M8 (b:=w.heap.size) rfl rfl (PN k w.heap.size _ _ _ _ _ N) ⟨Nt MA (Cg _) _ _ _ _ _,by rw[g];exact⟨Δ,rfl⟩⟩
          have NU:¬(b.length:Int)<1:=Ω
          have Pt:¬(b.length:Int)>64:=Ω
          obtain⟨a,rfl,Z,haw,hla⟩:=Vm (by rintro rfl;exact Gf Δ)
          have Bjc:wc.heap.size+1<=a.block:=by rw[D] at haw;exact haw
          have A:Lr vT vC vO vX vP=if Fg vO.2.1≠0 then .error (Fg vO.2.1) else if vX.2.2=true/\Fg vP.2.1≠0 then .error (Fg vP.2.1) else .ok (2,b,vO.2.1,vX.2.2,vP.2.1):=by
           rw[UM];unfold ED;rw[t];simp only;rw[Bb Ω]
          have TE:Below w.heap.size w (k.setCell ⟨wc.heap.size,1,none⟩ (.slice (some a) b.length d)):=MA.setCell (p:=⟨wc.heap.size,1,none⟩) (Nat.le_of_lt L) _;have A6d:Below wc.heap.size k (k.setCell ⟨wc.heap.size,1,none⟩ (.slice (some a) b.length d)):=(Below.refl wc.heap.size k).setCell (p:=⟨wc.heap.size,1,none⟩) (Cg _) _;have hr4:=(show RC k w.heap.size from ⟨⟨r30,r31,r32,r33,r34⟩,s30,s31,s32,s33,s34⟩).below A6d L;have A7n:=hla.set (b0:=wc.heap.size) (j:=1) (v:=.slice (some a) b.length d) Ω;have E:(k.setCell ⟨wc.heap.size,1,none⟩ (.slice (some a) b.length d)).heap.size=k.heap.size:=World.size_setCell ..;have j0:(k.setCell ⟨wc.heap.size,1,none⟩ (.slice (some a) b.length d)).cell? ⟨wc.heap.size,0,none⟩=some (.int .i64 2):=(G7 Δ).trans k0
          have j1:(k.setCell ⟨wc.heap.size,1,none⟩ (.slice (some a) b.length d)).cell? ⟨wc.heap.size,1,none⟩=some (.slice (some a) b.length d):=World.cell?_setCell_same _ _ _ k1;have j2:(k.setCell ⟨wc.heap.size,1,none⟩ (.slice (some a) b.length d)).cell? ⟨wc.heap.size,2,none⟩=some (.string (Ab vO.2.1)):=(G7 Δ).trans k2;have j3:(k.setCell ⟨wc.heap.size,1,none⟩ (.slice (some a) b.length d)).cell? ⟨wc.heap.size,3,none⟩=some (.bool vX.2.2):=(G7 Δ).trans k3;have j4:(k.setCell ⟨wc.heap.size,1,none⟩ (.slice (some a) b.length d)).cell? ⟨wc.heap.size,4,none⟩=some (.string (Ab vP.2.1)):=(G7 Δ).trans k4
          go_wp2_with (go_at_call 132;refine (A1m _ vO.2.1 (hU.below TE) hOB hOL).mono ?_)
          rintro e n ⟨l,o1,o2,o3,rfl⟩
          have hs5:k.heap.size<=n.heap.size:=by have:=l.size;rw[E] at this;exact this
          have QL:Below w.heap.size w n:=TE.trans (l.mono TE.size);have G:=hr4.below l (by rw[E];omega)
          have A8j:=G;obtain⟨⟨r50,r51,r52,r53,r54⟩,s50,s51,s52,s53,s54⟩:=A8j;have O:w.heap.size<n.heap.size:=Ω
          have hc5:wc.heap.size<n.heap.size:=Ω
          have Amt:=A7n.below l (by rw[E];exact hla.2.1)
          have So:wc.heap.size<(k.setCell ⟨wc.heap.size,1,none⟩ (.slice (some a) b.length d)).heap.size:=by rw[E];omega
          have i0:=(l.cell (p:=⟨wc.heap.size,0,none⟩) So).trans j0;have i1:=(l.cell (p:=⟨wc.heap.size,1,none⟩) So).trans j1;have i2:=(l.cell (p:=⟨wc.heap.size,2,none⟩) So).trans j2;have i3:=(l.cell (p:=⟨wc.heap.size,3,none⟩) So).trans j3;have i4:=(l.cell (p:=⟨wc.heap.size,4,none⟩) So).trans j4;have H:=(Below.refl n.heap.size n).alloc (Cg _) (.cells #[.bool o1,.string o2,.int .i64 o3] 94);have Am6:Below w.heap.size w (n.alloc (.cells #[.bool o1,.string o2,.int .i64 o3] 94)):=QL.alloc QL.size _;by_cases ho:Fg vO.2.1=0
          rotate_left
          ·have hoB:(Fg vO.2.1 != 0)=true:=by simp[ho]
           have g:Lr vT vC vO vX vP=.error (Fg vO.2.1):=by rw[A,Bq ho]
           rename Exit->Act->World->Prop=>i;clear_value (c:i=_)
           replace c:=Hid.mk c
           go_wp2
           (try simp only[Exit.inBlock,Exit.then]);rw[c.v]
           exact M8 (b:=w.heap.size) rfl rfl (Ul n w.heap.size O _ _ _ _ _ _ G) ⟨Kc QL (Cg _) QL.size _ _ _ _ _ _,by rw[g];exact⟨ho,rfl⟩⟩
          have hoB:(Fg vO.2.1 != 0)=false:=by simp[ho]
          rw[Bb (by simp[ho])] at A;have Awp:=Amt.below H (by have:=Amt.2.1;exact this)
          cases f:vX.2.2 with
          |false=>
           rw[f] at i3;have g:Lr vT vC vO vX vP=.ok (2,b,vO.2.1,false,vP.2.1):=by rw[A,Bb (by simp[f]),f]
           rename Exit->Act->World->Prop=>i;clear_value (c:i=_)
           replace c:=Hid.mk c
           go_wp2
           (try simp only[Exit.inBlock,Exit.then]);rw[c.v]
           exact M8 (b:=w.heap.size) rfl rfl (Ul n w.heap.size O _ _ _ _ _ _ G) ⟨Kc QL (Cg _) QL.size _ _ _ _ _ _,by rw[g];exact⟨a,d,rfl,Z,Ω,Amt.set5al Ω⟩⟩
          |true=>
           rw[f] at i3
           go_wp2_with (go_at_call 132;refine (A1m _ vP.2.1 (hU.below Am6) hPB hPL).mono ?_)
           rintro e J ⟨I,p1,p2,p3,rfl⟩
           have hsL:(n.alloc (.cells #[.bool o1,.string o2,.int .i64 o3] 94)).heap.size=n.heap.size+1:=Array.size_push _;have OS:Below w.heap.size w J:=Am6.trans (I.mono Am6.size);have P:=(G.below H O).below I (by rw[hsL];omega)
           have A7a:=P;obtain⟨⟨r70,r71,r72,r73,r74⟩,s70,s71,s72,s73,s74⟩:=A7a;have Amm:=Awp.below I (by have:=Awp.2.1;exact this)
           have PJ:=(H.trans (I.mono H.size))
           have l0:=(PJ.cell (p:=⟨wc.heap.size,0,none⟩) (show wc.heap.size<n.heap.size by omega)).trans i0;have l1:=(PJ.cell (p:=⟨wc.heap.size,1,none⟩) (show wc.heap.size<n.heap.size by omega)).trans i1;have l2:=(PJ.cell (p:=⟨wc.heap.size,2,none⟩) (show wc.heap.size<n.heap.size by omega)).trans i2;have l3:=(PJ.cell (p:=⟨wc.heap.size,3,none⟩) (show wc.heap.size<n.heap.size by omega)).trans i3;have l4:=(PJ.cell (p:=⟨wc.heap.size,4,none⟩) (show wc.heap.size<n.heap.size by omega)).trans i4;have hs7:=PJ.size;have hw7:w.heap.size<J.heap.size:=Ω
           have hc7:wc.heap.size<J.heap.size:=Ω
           have hbM:=(Below.refl J.heap.size J).alloc (Cg _) (.cells #[.bool p1,.string p2,.int .i64 p3] 94);have Bhc:Below w.heap.size w (J.alloc (.cells #[.bool p1,.string p2,.int .i64 p3] 94)):=OS.alloc OS.size _;by_cases hp:Fg vP.2.1=0
           rotate_left
           ·have hoB:(Fg vP.2.1 != 0)=true:=by simp[hp]
            have g:Lr vT vC vO vX vP=.error (Fg vP.2.1):=by rw[A,Bq ⟨f,hp⟩]
            rename Exit->Act->World->Prop=>i;clear_value (c:i=_)
            replace c:=Hid.mk c
            go_wp2
            (try simp only[Exit.inBlock,Exit.then]);rw[c.v]
            exact M8 (b:=w.heap.size) rfl rfl (Ul J w.heap.size hw7 _ _ _ _ _ _ P) ⟨Kc OS (Cg _) OS.size _ _ _ _ _ _,by rw[g];exact⟨hp,rfl⟩⟩
           have hpB:(Fg vP.2.1 != 0)=false:=by simp[hp]
           have Bj9:=Amm.below hbM (by have:=Amm.2.1;exact this)
           have g:Lr vT vC vO vX vP=.ok (2,b,vO.2.1,true,vP.2.1):=by rw[A,Bb (by simp[hp]),f]
           rename Exit->Act->World->Prop=>i;clear_value (c:i=_)
           replace c:=Hid.mk c
           go_wp2
           (try simp only[Exit.inBlock,Exit.then]);rw[c.v]
           exact M8 (b:=w.heap.size) rfl rfl (Ul J w.heap.size hw7 _ _ _ _ _ _ P) ⟨Kc OS (Cg _) OS.size _ _ _ _ _ _,by rw[g];exact⟨a,d,rfl,Z,Ω,Amm.set5al Ω⟩⟩
       ·rw[decide_eq_true S] at hbC;rw[Bq S] at UM;clear S hbG;have M:=y.alloc y.size (.cells #[.int .i64 1,.slice none 0 0,.string (Ab vO.2.1),.bool vX.2.2,.string (Ab vP.2.1)] 67);have D:(wc.alloc (.cells #[.int .i64 1,.slice none 0 0,.string (Ab vO.2.1),.bool vX.2.2,.string (Ab vP.2.1)] 67)).heap.size=wc.heap.size+1:=Array.size_push _;have hkA:=al1 wc (.cells #[.int .i64 1,.slice none 0 0,.string (Ab vO.2.1),.bool vX.2.2,.string (Ab vP.2.1)] 67);have hrA:=hrc.below ((Below.refl wc.heap.size wc).alloc (Cg _) (.cells #[.int .i64 1,.slice none 0 0,.string (Ab vO.2.1),.bool vX.2.2,.string (Ab vP.2.1)] 67)) L
        go_wp2_with (go_at_call 131;refine (Bed _ vC.2.1 (hU.below M) hCB hCL).mono ?_)
        rintro e k ⟨GV,z⟩
        have MA:Below w.heap.size w k:=M.trans (GV.mono M.size);have Y:=hrA.below GV (by rw[D];omega)
        have N:=Y.some;obtain⟨⟨r30,r31,r32,r33,r34⟩,s30,s31,s32,s33,s34⟩:=Y;have hs3:wc.heap.size+1<=k.heap.size:=by have:=GV.size;rw[D] at this;exact this
        have Rp:=(GV.block _ (by rw[D];omega)).trans hkA
        obtain⟨⟨k0,k1,k2,k3,k4⟩,kf0,kf1,kf2,kf3,kf4⟩:=Av3 Rp;unfold DbP at z;cases t:Ly vC.2.1 with
        |none=>
         rw[t] at z;obtain⟨ad,capN,rfl⟩:=z;have g:Lr vT vC vO vX vP=.error 2:=by rw[UM];unfold ED;rw[t]
         rename Exit->Act->World->Prop=>i;clear_value (c:i=_)
         replace c:=Hid.mk c
         go_wp2
         (try simp only[Exit.inBlock,Exit.then]);rw[c.v]
         exact M8 (b:=w.heap.size) rfl rfl (PN k w.heap.size _ _ _ _ _ N) ⟨Nt MA (Cg _) _ _ _ _ _,by rw[g];exact⟨Δ,rfl⟩⟩
        |some b=>
         rw[t] at z;obtain⟨ad,d,rfl,Vm⟩:=z;by_cases Gf:b.length<1
         ·have g:Lr vT vC vO vX vP=.error 9:=by rw[UM];unfold ED;rw[t];simp only;rw[Bq (.inl Gf)]
          have NU:(b.length:Int)<1:=Ω
          rename Exit->Act->World->Prop=>i;clear_value (c:i=_)
          replace c:=Hid.mk c
          go_wp2
          (try simp only[Exit.inBlock,Exit.then]);rw[c.v]
          exact M8 (b:=w.heap.size) rfl rfl (PN k w.heap.size _ _ _ _ _ N) ⟨Nt MA (Cg _) _ _ _ _ _,by rw[g];exact⟨Δ,rfl⟩⟩
         by_cases Jv:64<b.length
         ·have g:Lr vT vC vO vX vP=.error 9:=by rw[UM];unfold ED;rw[t];simp only;rw[Bq (.inr Jv)]
          have NU:¬(b.length:Int)<1:=Ω
          have Pt:(b.length:Int)>64:=Ω
          rename Exit->Act->World->Prop=>i;clear_value (c:i=_)
          replace c:=Hid.mk c
          go_wp2
          (try simp only[Exit.inBlock,Exit.then]);rw[c.v]
          exact M8 (b:=w.heap.size) rfl rfl (PN k w.heap.size _ _ _ _ _ N) ⟨Nt MA (Cg _) _ _ _ _ _,by rw[g];exact⟨Δ,rfl⟩⟩
         have NU:¬(b.length:Int)<1:=Ω
         have Pt:¬(b.length:Int)>64:=Ω
         obtain⟨a,rfl,Z,haw,hla⟩:=Vm (by rintro rfl;exact Gf Δ)
         have Bjc:wc.heap.size+1<=a.block:=by rw[D] at haw;exact haw
         have A:Lr vT vC vO vX vP=if Fg vO.2.1≠0 then .error (Fg vO.2.1) else if vX.2.2=true/\Fg vP.2.1≠0 then .error (Fg vP.2.1) else .ok (1,b,vO.2.1,vX.2.2,vP.2.1):=by
          rw[UM];unfold ED;rw[t];simp only;rw[Bb Ω]
         have TE:Below w.heap.size w (k.setCell ⟨wc.heap.size,1,none⟩ (.slice (some a) b.length d)):=MA.setCell (p:=⟨wc.heap.size,1,none⟩) (Nat.le_of_lt L) _;have A6d:Below wc.heap.size k (k.setCell ⟨wc.heap.size,1,none⟩ (.slice (some a) b.length d)):=(Below.refl wc.heap.size k).setCell (p:=⟨wc.heap.size,1,none⟩) (Cg _) _;have hr4:=(show RC k w.heap.size from ⟨⟨r30,r31,r32,r33,r34⟩,s30,s31,s32,s33,s34⟩).below A6d L;have A7n:=hla.set (b0:=wc.heap.size) (j:=1) (v:=.slice (some a) b.length d) Ω;have E:(k.setCell ⟨wc.heap.size,1,none⟩ (.slice (some a) b.length d)).heap.size=k.heap.size:=World.size_setCell ..;have j0:(k.setCell ⟨wc.heap.size,1,none⟩ (.slice (some a) b.length d)).cell? ⟨wc.heap.size,0,none⟩=some (.int .i64 1):=(G7 Δ).trans k0
         have j1:(k.setCell ⟨wc.heap.size,1,none⟩ (.slice (some a) b.length d)).cell? ⟨wc.heap.size,1,none⟩=some (.slice (some a) b.length d):=World.cell?_setCell_same _ _ _ k1;have j2:(k.setCell ⟨wc.heap.size,1,none⟩ (.slice (some a) b.length d)).cell? ⟨wc.heap.size,2,none⟩=some (.string (Ab vO.2.1)):=(G7 Δ).trans k2;have j3:(k.setCell ⟨wc.heap.size,1,none⟩ (.slice (some a) b.length d)).cell? ⟨wc.heap.size,3,none⟩=some (.bool vX.2.2):=(G7 Δ).trans k3;have j4:(k.setCell ⟨wc.heap.size,1,none⟩ (.slice (some a) b.length d)).cell? ⟨wc.heap.size,4,none⟩=some (.string (Ab vP.2.1)):=(G7 Δ).trans k4
         go_wp2_with (go_at_call 132;refine (A1m _ vO.2.1 (hU.below TE) hOB hOL).mono ?_)
         rintro e n ⟨l,o1,o2,o3,rfl⟩
         have hs5:k.heap.size<=n.heap.size:=by have:=l.size;rw[E] at this;exact this
         have QL:Below w.heap.size w n:=TE.trans (l.mono TE.size);have G:=hr4.below l (by rw[E];omega)
         have A8j:=G;obtain⟨⟨r50,r51,r52,r53,r54⟩,s50,s51,s52,s53,s54⟩:=A8j;have O:w.heap.size<n.heap.size:=Ω
         have hc5:wc.heap.size<n.heap.size:=Ω
         have Amt:=A7n.below l (by rw[E];exact hla.2.1)
         have So:wc.heap.size<(k.setCell ⟨wc.heap.size,1,none⟩ (.slice (some a) b.length d)).heap.size:=by rw[E];omega
         have i0:=(l.cell (p:=⟨wc.heap.size,0,none⟩) So).trans j0;have i1:=(l.cell (p:=⟨wc.heap.size,1,none⟩) So).trans j1;have i2:=(l.cell (p:=⟨wc.heap.size,2,none⟩) So).trans j2;have i3:=(l.cell (p:=⟨wc.heap.size,3,none⟩) So).trans j3;have i4:=(l.cell (p:=⟨wc.heap.size,4,none⟩) So).trans j4;have H:=(Below.refl n.heap.size n).alloc (Cg _) (.cells #[.bool o1,.string o2,.int .i64 o3] 94);have Am6:Below w.heap.size w (n.alloc (.cells #[.bool o1,.string o2,.int .i64 o3] 94)):=QL.alloc QL.size _;by_cases ho:Fg vO.2.1=0
         rotate_left
         ·have hoB:(Fg vO.2.1 != 0)=true:=by simp[ho]
          have g:Lr vT vC vO vX vP=.error (Fg vO.2.1):=by rw[A,Bq ho]
          rename Exit->Act->World->Prop=>i;clear_value (c:i=_)
          replace c:=Hid.mk c
          go_wp2
          (try simp only[Exit.inBlock,Exit.then]);rw[c.v]
          exact M8 (b:=w.heap.size) rfl rfl (Ul n w.heap.size O _ _ _ _ _ _ G) ⟨Kc QL (Cg _) QL.size _ _ _ _ _ _,by rw[g];exact⟨ho,rfl⟩⟩
         have hoB:(Fg vO.2.1 != 0)=false:=by simp[ho]
         rw[Bb (by simp[ho])] at A;have Awp:=Amt.below H (by have:=Amt.2.1;exact this)
         cases f:vX.2.2 with
         |false=>
          rw[f] at i3;have g:Lr vT vC vO vX vP=.ok (1,b,vO.2.1,false,vP.2.1):=by rw[A,Bb (by simp[f]),f]
          rename Exit->Act->World->Prop=>i;clear_value (c:i=_)
          replace c:=Hid.mk c
          go_wp2
          (try simp only[Exit.inBlock,Exit.then]);rw[c.v]
          exact M8 (b:=w.heap.size) rfl rfl (Ul n w.heap.size O _ _ _ _ _ _ G) ⟨Kc QL (Cg _) QL.size _ _ _ _ _ _,by rw[g];exact⟨a,d,rfl,Z,Ω,Amt.set5al Ω⟩⟩
         |true=>
          rw[f] at i3
          go_wp2_with (go_at_call 132;refine (A1m _ vP.2.1 (hU.below Am6) hPB hPL).mono ?_)
          rintro e J ⟨I,p1,p2,p3,rfl⟩
          have hsL:(n.alloc (.cells #[.bool o1,.string o2,.int .i64 o3] 94)).heap.size=n.heap.size+1:=Array.size_push _;have OS:Below w.heap.size w J:=Am6.trans (I.mono Am6.size);have P:=(G.below H O).below I (by rw[hsL];omega)
          have A7a:=P;obtain⟨⟨r70,r71,r72,r73,r74⟩,s70,s71,s72,s73,s74⟩:=A7a;have Amm:=Awp.below I (by have:=Awp.2.1;exact this)
          have PJ:=(H.trans (I.mono H.size))
          have l0:=(PJ.cell (p:=⟨wc.heap.size,0,none⟩) (show wc.heap.size<n.heap.size by omega)).trans i0;have l1:=(PJ.cell (p:=⟨wc.heap.size,1,none⟩) (show wc.heap.size<n.heap.size by omega)).trans i1;have l2:=(PJ.cell (p:=⟨wc.heap.size,2,none⟩) (show wc.heap.size<n.heap.size by omega)).trans i2;have l3:=(PJ.cell (p:=⟨wc.heap.size,3,none⟩) (show wc.heap.size<n.heap.size by omega)).trans i3;have l4:=(PJ.cell (p:=⟨wc.heap.size,4,none⟩) (show wc.heap.size<n.heap.size by omega)).trans i4;have hs7:=PJ.size;have hw7:w.heap.size<J.heap.size:=Ω
          have hc7:wc.heap.size<J.heap.size:=Ω
          have hbM:=(Below.refl J.heap.size J).alloc (Cg _) (.cells #[.bool p1,.string p2,.int .i64 p3] 94);have Bhc:Below w.heap.size w (J.alloc (.cells #[.bool p1,.string p2,.int .i64 p3] 94)):=OS.alloc OS.size _;by_cases hp:Fg vP.2.1=0
          rotate_left
          ·have hoB:(Fg vP.2.1 != 0)=true:=by simp[hp]
           have g:Lr vT vC vO vX vP=.error (Fg vP.2.1):=by rw[A,Bq ⟨f,hp⟩]
           rename Exit->Act->World->Prop=>i;clear_value (c:i=_)
           replace c:=Hid.mk c
           go_wp2
           (try simp only[Exit.inBlock,Exit.then]);rw[c.v]
           exact M8 (b:=w.heap.size) rfl rfl (Ul J w.heap.size hw7 _ _ _ _ _ _ P) ⟨Kc OS (Cg _) OS.size _ _ _ _ _ _,by rw[g];exact⟨hp,rfl⟩⟩
          have hpB:(Fg vP.2.1 != 0)=false:=by simp[hp]
          have Bj9:=Amm.below hbM (by have:=Amm.2.1;exact this)
          have g:Lr vT vC vO vX vP=.ok (1,b,vO.2.1,true,vP.2.1):=by rw[A,Bb (by simp[hp]),f]
          rename Exit->Act->World->Prop=>i;clear_value (c:i=_)
          replace c:=Hid.mk c
          go_wp2
          (try simp only[Exit.inBlock,Exit.then]);rw[c.v]
          exact M8 (b:=w.heap.size) rfl rfl (Ul J w.heap.size hw7 _ _ _ _ _ _ P) ⟨Kc OS (Cg _) OS.size _ _ _ _ _ _,by rw[g];exact⟨a,d,rfl,Z,Ω,Amm.set5al Ω⟩⟩
end
section
open Go Go.RowKit Go.Lib
def OkT(L:Nat)(s:Ak):Prop:=Ce s/\s.length<=4*L
theorem XW:∀(n:Nat)(a l s q:Ak),Ce l->Jh n a l=(some s,q)->s.length<=a.length+4*l.length
  |0,_,_,_,_,_,h=>by cases h
  |_+1,_,[],_,_,_,h=>by cases h
  |n+1,a,c::l,s,q,d,h=>by
    have e:Jh (n+1) a (c::l)=if c<32 then (none,c::l) else if c=34 then (some a,l) else if c=92 then
        (match Ob l with
         |(some x,r')=>Jh n (a++Lib.encodeRuneZ x) r'
         |(none,r')=>(none,r')) else Jh n (a++[c]) l:=rfl
    have Tn:=Ca d
    rw[e] at h
    split at h
    · cases h
    split at h
    · cases h;simp
    split at h
    · have b:=Yd (Dw.self Tn.2)
      rcases f:Ob l with⟨o,r⟩
      rw[f] at b h
      cases o with
      |none=>cases h
      |some x=>
        have:=XW n _ r s q b.B h
        have g:=Lib.encodeRuneZ_length x
        have i:r.length<=l.length:=b.le
        simp at this ⊢
        omega
    · have:=XW n _ l s q Tn.2 h
      simp at this ⊢
      omega
theorem Ag5{l s q:Ak}(a:Ce l)(h:Dp l=(some s,q)):OkT l.length s:=by
 refine⟨Ae9 a h,?_⟩;cases l with
 |nil=>cases h
 |cons c l=>
  have e:Dp (c::l)=if c=34 then Jh (l.length+1) [] l else (none,c::l):=rfl
  rw[e] at h;split at h
  ·have:=XW _ _ _ _ _ (Ca a).2 h;simp at this ⊢;omega
  ·cases h
theorem OkT.mono{L M:Nat}{s:Ak}(h:OkT L s)(a:L<=M):OkT M s:=⟨h.1,by have:=h.2;omega⟩
theorem OkT.nil(L:Nat):OkT L []:=⟨(λx a=>nomatch a),Nat.zero_le _⟩
theorem Avh{l r:Ak}{v:JV}(b:Ce l)(c:l.length<=1000000)(h:Cx 8 l=.ok (v,r)):Dw (Ab l) r:=by
 obtain⟨e,_,a⟩:=Avx (u:=1000001) (d:=0) (t:=Ab l) (by rw[Ai];exact c) (by rw[Ai];omega) 8 1 Ω Ω l (Dw.self b)
 rw[h] at a;exact a.1
theorem A09:∀{k:Nat}{l r:Ak}{v:JV},Ce l->Cx k l=.ok (v,r)->OkT l.length v.2.1:=by
 intro k l r v b h;unfold Cx at h;split at h
 ·split at h
  ·cases h
  ·split at h
   ·cases h
   ·cases h;exact OkT.nil _
 ·split at h
  ·cases h
  ·split at h
   ·cases h
   ·cases h;exact OkT.nil _
 ·rename_i c;unfold KY at h;rcases a:Dp (34::c) with⟨o,q⟩;rw[a] at h;cases o with
  |none=>cases h
  |some s=>cases h;exact Ag5 b a
 ·repeat' split at h
  all_goals first|(cases h;exact OkT.nil _)|cases h
theorem A12{L:Nat}(E:L<=1000000):∀(n:Nat)(ms:List (Ak × JV)) (l r:Ak)(ms':List (Ak × JV)),Ce l->l.length<=L->(∀m∈ms,OkT L m.1/\OkT L m.2.2.1)->P6 (Cx 8) true n ms l=.ok (ms',r)->∀m∈ms',OkT L m.1/\OkT L m.2.2.1:=by
 intro n
 induction n with
 |zero=>intro ms l r ms' _ _ _ h;cases h
 |succ n w=>
  intro ms l r ms' j y z h;rw[Ko] at h;rcases c:Dp l with⟨o,q⟩;rw[c] at h;cases o with
  |none=>cases h
  |some A=>
   have SX:=Ag5 j c;have k:=Hk (Dw.self j);rw[c] at k;simp only at h;split at h
   ·cases h
   cases d:Ar [58] (Ax q) with
   |none=>rw[d] at h;cases h
   |some C=>
    rw[d] at h;have ZL:=B4 (A6 (B4 k) d);simp only at h;cases b:Cx 8 (Ax C) with
    |error e=>rw[b] at h;cases h
    |ok x=>
     obtain⟨v,p⟩:=x;rw[b] at h;have IV:=ZL.le;have f:=A09 ZL.B b;have g:=ZL.trans (Avh ZL.B Ω b)
     have s:∀m∈ms++[(A,v)],OkT L m.1/\OkT L m.2.2.1:=by
      intro m My;rcases B2.1 My with My|My
      ·exact z m My
      ·simp at My;subst My;exact⟨SX.mono y,f.mono Ω⟩
     simp only at h;cases t:Ar [125] (Ax p) with
     |some D=>rw[t] at h;cases h;exact s
     |none=>
      rw[t] at h;simp only at h;cases i:Ar [44] (Ax p) with
      |none=>rw[i] at h;cases h
      |some D=>
       rw[i] at h;have a:=B4 (A6 (B4 g) i);exact w _ _ _ _ a.B (by have:=a.le;omega) s h
theorem Ap8{l:Ak}{ms:List (Ak × JV)}(g:Ce l)(i:l.length<=1000000)(h:TL 8 l=.ok ms):∀m∈ms,OkT l.length m.1/\OkT l.length m.2.2.1:=by
 rw[Tp] at h;have j:=B4 (Dw.self g);cases b:Ar [123] (Ax l) with
 |none=>rw[b] at h;cases h
 |some r=>
  rw[b] at h;have k:=A6 j b;simp only at h;rw[M5] at h;have a:=B4 k;cases f:Ar [125] (Ax r) with
  |some r'=>
   rw[f] at h;simp only at h;split at h
   ·cases h;exact λm c=>by cases c
   ·cases h
  |none=>
   rw[f] at h;simp only at h;cases d:P6 (Cx 8) true ((Ax r).length+1) [] (Ax r) with
   |error e=>rw[d] at h;cases h
   |ok x=>
    obtain⟨n,r'⟩:=x;rw[d] at h;simp only at h;split at h
    ·cases h;exact A12 i _ _ _ _ _ a.B a.le (λm c=>by cases c) d
    ·cases h
def SL(ms:List (Ak × JV)):JR CD:=Lr (B0 On ms) (B0 Te ms) (B0 JQ ms) (B0 QC ms) (B0 Zm ms)
def Kk(t:ByteArray):JR CD:=
 if 1024<t.size then .error 8 else if Lib.validD t.data.toList=false then .error 6 else match TL 8 (Ci t) with
  |.error e=>.error e
  |.ok a=>SL a
theorem A2x{G:KB}{P:Program}{f:FuncId}{args vals:Ae}{us rs:List Value}(g:Ej G P f args ⟨vals,[]⟩)(l:Bv ZF args us)(m:Bv ZF vals rs){w:World}(n:G.ok w)(c:∀k,G.bl k->k<w.heap.size):Calls P f us.toArray w λe w'=>e=.returned (Lv rs)/\Below w.heap.size w w':=by
 have hi:Ins w (λ_=>False) Ai1 args us:=⟨λ_ h=>h.elim,λ_ h=>h.elim,λk h=>absurd h (Yl k),λi j r s b o t h=>(by cases h),λi q h=>(by cases h),MJ l⟩
 refine (g.2 w _ _ _ hi n (λk d=>⟨c k d,Yl k⟩)).mono ?_
 rintro e w' ⟨v,own,rfl,a⟩
 have p:=VE m a.vals;subst p;exact⟨rfl,a.os,a.tape,a.output,a.ext.size,λk d=>a.ext.keep k d (Yl k)⟩
theorem Ar0(W:World)(s:Ak)(g:okW W)(h:Ce s)(i:s.length<=1000000):Calls prog 132 #[.string (Ab s)] W λe w'=>Below W.heap.size W w'/\∃a b c,e=.returned (.tuple #[.agg #[.bool a,.string b,.int .i64 c],.int .i64 (Fg s)]):=by
 obtain⟨a,b,c,e⟩:=Bc5 (u:=1000001) (d:=0) (p:=none) h i Ω;have f:Ej gU prog 132 [Bf (Ab s)] ⟨[.agg ([Value.bool a,.string b,.int .i64 c].map .sc),A0 (Fg s)],[]⟩:=Nm ngR mxR A7g 7 _ _ _ e;refine (A2x (us:=[.string (Ab s)]) (rs:=[.agg #[.bool a,.string b,.int .i64 c],.int .i64 (Fg s)]) f ⟨.inl rfl,trivial⟩ ⟨.inr ⟨_,rfl,rfl⟩,.inl rfl,trivial⟩ g.1 g.2).mono ?_
 rintro e w' ⟨rfl,j⟩
 exact⟨j,a,b,c,rfl⟩
theorem Ar7(W:World)(s:Ak)(E:okW W)(I:Ce s)(J:s.length<=1000000):Calls prog 131 #[.string (Ab s)] W λe w'=>Below W.heap.size W w'/\DbP W w' s e:=by
 have e:=A61 (u:=1000001) (d:=0) (p:=none) I J Ω Ω;have hi:Ins W (λ_=>False) Ai1 [Bf (Ab s)] [.string (Ab s)]:=⟨λ_ h=>h.elim,λ_ h=>h.elim,λk h=>absurd h (Yl k),λi j Q R b o K h=>(by cases h),λi q h=>(by cases h),MJ (show Bv ZF [Bf (Ab s)] [.string (Ab s)] from ⟨.inl rfl,trivial⟩)⟩
 have n:Ej gU prog 131 [Bf (Ab s)] _:=Nm ngR mxR A7g 3 _ _ _ e;refine (n.2 W _ _ _ hi E.1 (λk r=>⟨E.2 k r,Yl k⟩)).mono ?_
 rintro e w' ⟨G,own,rfl,c⟩
 refine⟨⟨c.os,c.tape,c.output,c.ext.size,λk r=>c.ext.keep k r (Yl k)⟩,?_⟩;have a:=c.vals;have t:=c.fresh;generalize S:YM Ai1 own (λ_=>False)=A at a;unfold DbP;cases hd:Ly s with
 |none=>
  rw[hd] at a
  match G,a with
  |[u1,g],a=>
   obtain⟨w,y,_⟩:=a;have l:g=.int .i64 2:=A9.val (show A9 w' A (A0 2) g from y);rcases (show I0 w' A (own 0) (.own 1 0 []) u1 from w) with⟨_,_,_,ad,rfl⟩|⟨b,o,f,H,rfl,h⟩
   ·rw[l];exact⟨ad,0,rfl⟩
   ·rw[l];exact⟨_,f,rfl⟩
  |[],a=>exact a.elim
  |[_],a=>exact a.2.elim
  |_::_::_::_,a=>exact a.2.2.elim
 |some b=>
  rw[hd] at a
  match G,a with
  |[u1,g],a=>
   obtain⟨w,y,_⟩:=a;have l:g=.int .i64 0:=A9.val (show A9 w' A (A0 0) g from y);rw[l];rcases (show I0 w' A (own 0) (.own 1 b.length (Af .u8 b)) u1 from w) with⟨_,L,_,ad,rfl⟩|⟨m,o,f,H,rfl,M,T,Cs,N,U⟩
   ·have z:b=[]:=List.eq_nil_of_length_eq_zero L;subst z;exact⟨ad,0,rfl,λh=>absurd rfl h⟩
   ·refine⟨some ⟨m,o,none⟩,f,rfl,λ_=>⟨⟨m,o,none⟩,rfl,M,?_,rfl,Cs,λj x O=>?_⟩⟩
    ·have:=(t 0 m o H).2;rcases Jt m W.heap.size with q|q
     ·obtain⟨⟨i,k,K,h⟩,_⟩:=this q;cases h
     ·exact q
    ·have P:(Af .u8 b)[j]?=some (.sc (.int .u8 x)):=by
      rw[NC,List.getElem?_map,O];rfl
     obtain⟨v,C,_,D⟩:=N j _ P;rw[C];exact congrArg some D.val
  |[],a=>exact a.elim
  |[_],a=>exact a.2.elim
  |_::_::_::_,a=>exact a.2.2.elim
def PaP(w w':World)(t:ByteArray)(e:Ending):Prop:=ItP w w' (Kk t) e
theorem Ais{R:Ending->World->Prop}{a:Act}{W:World}{v:Value}{b:Nat}(c:a.tmps.getD 2 undef=.pointer (some ⟨b,0,none⟩))(hd:a.defers=[])(d:(loadVar 67 ⟨b,0,none⟩).run prog W=.ok v W)(f:R (.returned (.tuple #[v,a.tmps.getD 3 undef])) W):bodyPost prog Tryz.f62 R .ret a W:=by refine bodyPost_ret ?_ hd f;rw[results_cell_tmp rfl,c];have e:(asAddr (.pointer (some ⟨b,0,none⟩))).run prog W=.ok ⟨b,0,none⟩ W:=rfl;rw[e,Result.andThen_ok,d,Result.andThen_ok]
def VsP(w w':World)(t:ByteArray)(e:Ending):Prop:=e=.returned (.bool (Lib.validD t.data.toList))/\Below w.heap.size w w'
def RtQ(w w':World)(t:ByteArray)(e:Ending):Prop:=Below w.heap.size w w'/\RtP w' (Ci t) e
def ItQ(w w':World)(r:JR CD)(e:Ending):Prop:=Below w.heap.size w w'/\ItP w w' r e
set_option maxHeartbeats 4000000 in
theorem A3k{t:ByteArray}(ht:t.size<=9223372036854775807){w:World}(L:okW w):Calls prog 62 #[.string t] w λe w'=>Below w.heap.size w w'/\PaP w w' t e:=by
 have mixed:prog.follows Departure.mixedOrders=true:=Κ
 have Gf:Below w.heap.size w (w.alloc (.cells #[.int .i64 0,.slice none 0 0,.string ⟨#[]⟩,.bool false,.string ⟨#[]⟩] 67)):=(Below.refl _ w).alloc (Cg _) _;have M:=al1 w (.cells #[.int .i64 0,.slice none 0 0,.string ⟨#[]⟩,.bool false,.string ⟨#[]⟩] 67);have n:(w.alloc (.cells #[.int .i64 0,.slice none 0 0,.string ⟨#[]⟩,.bool false,.string ⟨#[]⟩] 67)).heap.size=w.heap.size+1:=Array.size_push _;have ZL:RC (w.alloc (.cells #[.int .i64 0,.slice none 0 0,.string ⟨#[]⟩,.bool false,.string ⟨#[]⟩] 67)) w.heap.size:=Aw2 M;have N:=L.below Gf
 have O:Calls prog 103 #[.string t] (w.alloc (.cells #[.int .i64 0,.slice none 0 0,.string ⟨#[]⟩,.bool false,.string ⟨#[]⟩] 67)) λe w'=>VsP (w.alloc (.cells #[.int .i64 0,.slice none 0 0,.string ⟨#[]⟩,.bool false,.string ⟨#[]⟩] 67)) w' t e:=(Any.utf8_ValidString laysVS t (w.alloc (.cells #[.int .i64 0,.slice none 0 0,.string ⟨#[]⟩,.bool false,.string ⟨#[]⟩] 67)) ht N.1.2.2).mono (λ_ _ h=>h)
 go_enter Tryz.func62,Tryz.ntmps62
 by_cases Ef:1024<t.size
 ·have P:Kk t=.error 8:=by unfold Kk;rw[Bq Ef]
  have hq:(t.size:Int)>1024:=Ω
  go_wp2
  (try simp only[Exit.inBlock,Exit.then])
  obtain⟨⟨q,r,s,v,y⟩,_⟩:=ZL;exact Ais (b:=w.heap.size) rfl rfl (Aef q r s v y) ⟨Gf,by unfold PaP;rw[P];exact⟨Δ,rfl⟩⟩
 have hq:¬(t.size:Int)>1024:=Ω
 go_wp2_with (go_at_call 103;refine O.mono ?_)
 rintro e l ⟨rfl,Jv⟩
 have A2r:Below w.heap.size w l:=Gf.trans (Jv.mono Gf.size);have f:=ZL.below Jv (by rw[n];omega)
 have RX:w.heap.size+1<=l.heap.size:=by have:=Jv.size;rw[n] at this;exact this
 have z:w.heap.size<l.heap.size:=Ω
 have A:=L.below A2r;cases C:Lib.validD t.data.toList with
 |false=>
  have P:Kk t=.error 6:=by unfold Kk;rw[Bb Ef,C,Bq rfl]
  obtain⟨⟨q,r,s,v,y⟩,Q,s1,s2,R,S⟩:=id f
  go_wp2
  (try simp only[Exit.inBlock,Exit.then])
  exact Ais (b:=w.heap.size) rfl rfl (PN l w.heap.size _ _ _ _ _ f.some) ⟨Nt A2r (Cg _) _ _ _ _ _,by unfold PaP;rw[P];exact⟨Δ,rfl⟩⟩
 |true=>
  have UM:Kk t=match TL 8 (Ci t) with | .error e=>.error e | .ok J=>SL J:=by unfold Kk;rw[Bb Ef,C,Bb Δ]
  have T:Calls prog 104 #[.string t] l λe w'=>RtQ l w' t e:=A1g Ω A.1 A.2
  go_wp2_with (go_at_call 104;refine T.mono ?_)
  rintro e D ⟨GV,a⟩
  have MA:Below w.heap.size w D:=A2r.trans (GV.mono A2r.size);have g:=f.below GV z;have E:w.heap.size<D.heap.size:=H2 z GV.size;have U:=L.below MA;unfold RtP at a;cases A74:TL 8 (Ci t) with
  |error V=>
   rw[A74] at a UM;obtain⟨G,m,rfl⟩:=a;have W:(V != (0:Int))=true:=by simp[G]
   obtain⟨⟨q,r,s,v,y⟩,Q,s1,s2,R,S⟩:=id g
   go_wp2
   (try simp only[Exit.inBlock,Exit.then])
   exact Ais (b:=w.heap.size) rfl rfl (PN D w.heap.size _ _ _ _ _ g.some) ⟨Nt MA (Cg _) _ _ _ _ _,by unfold PaP;rw[UM];exact⟨G,rfl⟩⟩
  |ok J=>
   rw[A74] at a UM;obtain⟨mb,rfl,X⟩:=a;have Wh:(Ci t).length<=1000000:=by rw[Cb];omega
   have i:=Ap8 (AM t) Wh A74;have hl4:4*(Ci t).length<=1000000:=by rw[Cb];omega
   have KH:Calls prog 105 #[.map (some mb)] D λe w'=>ItQ D w' (SL J) e:=A14 Ar7 Ar0 (λm K=>(i m K).1.1) (λm K=>⟨(i m K).2.1,by have:=(i m K).2.2;omega⟩) U X
   go_wp2_with (go_at_call 105;refine KH.mono ?_)
   rintro e W4 ⟨j,c⟩
   have TE:Below w.heap.size w W4:=MA.trans (j.mono MA.size);have d:=g.below j E;have H:w.heap.size<W4.heap.size:=H2 E j.size;unfold ItP at c;cases I:SL J with
   |error V=>
    rw[I] at c UM;obtain⟨G,rfl⟩:=c;have W:(V != (0:Int))=true:=by simp[G]
    obtain⟨⟨q,r,s,v,y⟩,Q,s1,s2,R,S⟩:=id d
    go_wp2
    (try simp only[Exit.inBlock,Exit.then])
    exact Ais (b:=w.heap.size) rfl rfl (Ul W4 w.heap.size H _ _ _ _ _ _ d) ⟨Kc TE (Cg _) TE.size _ _ _ _ _ _,by unfold PaP;rw[UM];exact⟨G,rfl⟩⟩
   |ok x=>
    obtain⟨k,b,o,x,p⟩:=x;rw[I] at c UM;obtain⟨ad,Y,rfl,hc,hwa,Z⟩:=c;obtain⟨⟨q,r,s,v,y⟩,Q,s1,s2,R,S⟩:=id d
    go_wp2
    (try simp only[Exit.inBlock,Exit.then])
    exact Ais (b:=w.heap.size) rfl rfl (Ul W4 w.heap.size H _ _ _ _ _ _ d) ⟨Kc TE (Cg _) TE.size _ _ _ _ _ _,by unfold PaP;rw[UM];exact⟨ad,Y,rfl,hc,Ω,Z.set5al Ω⟩⟩
def Dg(args:Ae):Option A8:=
 match args with
 |[.sc (.string t)]=>bif decide (t.size<=9223372036854775807) then some (match Kk t with
  |.ok (k,b,o,x,p)=>⟨[.agg [A0 k,.lst false 1 b.length (Af .u8 b),Bf (Ab o),Cn x,Bf (Ab p)],A0 0],[]⟩
  |.error e=>⟨[.agg [A0 0,.lst false 1 0 [],Bf ⟨#[]⟩,Cn false,Bf ⟨#[]⟩],A0 e],[]⟩) else none
 |_=>none
theorem WR{w w':World}{Y:Nat->Prop}{bt:OB}{args vals:Ae}{vs:List Value}(a:Below w.heap.size w w')(c:Aa1 w' (YM bt (λ_=>none) Y) (λ_=>none) w.heap.size 0 vals vs)(d:HT w' (YM bt (λ_=>none) Y) (λ_=>none) bt (R4 vals) 0 args []):
  Out w w' Y bt args (λ_=>none) ⟨vals,[]⟩ vs where
 os:=a.os
 tape:=a.tape
 output:=a.output
 ext:=⟨a.size,λb h _=>a.block b h,λb h=>Ku.same (a.block b h)⟩
 rng:=λb j h _=>⟨by unfold World.cell?;simp only[a.block b h],by unfold World.frozen?;simp only[a.block b h]⟩
 vals:=c
 outs:=d
 fresh:=λj b o h=>by cases h
 inj:=λj e b o f h=>by cases h
theorem Ajc(args:Ae)(f:A8)(h:Dg args=some f):Ej gU prog 62 args f:=by
 refine⟨⟨_,Tryz.func62,Κ⟩,λw Y E us hi m n=>?_⟩;unfold Dg at h;split at h
 rotate_left
 ·cases h
 rename_i t;cases q:decide (t.size<=9223372036854775807)
 ·rw[q] at h;cases h
 rw[q,cond_true] at h;have s:=of_decide_eq_true q;have ps:=hi.args
 match us,ps with
 |[u],ps=>
  have v:u=.string t:=A9.val (show A9 w _ (Bf t) u from ps.1.2);subst v;refine (A3k s ⟨m,λk z=>(n k z).1⟩).mono ?_
  rintro e w' ⟨r,hp⟩
  unfold PaP at hp;unfold ItP at hp;cases TJ:Kk t with
  |error A=>
   rw[TJ] at hp h;obtain⟨_,rfl⟩:=hp;cases h;refine⟨[.agg #[.int .i64 0,.slice none 0 0,.string ⟨#[]⟩,.bool false,.string ⟨#[]⟩],.int .i64 A],λ_=>none,rfl,WR r ⟨⟨_,rfl,?_⟩,A9.sc _,trivial⟩ rfl⟩;exact⟨A9.sc _,A9.lnil _ _,A9.sc _,A9.sc _,A9.sc _,trivial⟩
  |ok x=>
   obtain⟨k,b,o,x,p⟩:=x;rw[TJ] at hp h;obtain⟨ad,g,rfl,C,D,a⟩:=hp;cases h;refine⟨[.agg #[.int .i64 k,.slice (some ad) b.length g,.string (Ab o),.bool x,.string (Ab p)],.int .i64 0],λ_=>none,rfl,WR r ⟨⟨_,rfl,?_⟩,A9.sc _,trivial⟩ rfl⟩;refine⟨A9.sc _,?_,A9.sc _,A9.sc _,A9.sc _,trivial⟩;refine A9.lst 1 b.length (Af .u8 b) ad g (λj=>.int .u8 (b.getD j 0)) a.1 a.2.1 ?_ C ?_ ?_ ?_
   ·rintro (⟨j,o,h⟩|⟨i,o,h⟩|h)
    ·cases h
    ·have:=hi.lt ad.block ⟨i,0,o,h⟩;omega
    ·have:=hi.Ylt _ h;omega
   ·intro j c d;rw[NC,List.getElem?_map] at d;obtain⟨y,l,rfl⟩:=Option.map_eq_some_iff.1 d;rw[a.2.2 j y l];simp[List.getD_eq_getElem?_getD,l]
   ·intro j c d;rfl
   ·intro j c d;rw[NC,List.getElem?_map] at d;obtain⟨y,l,rfl⟩:=Option.map_eq_some_iff.1 d;have:b.getD j 0=y:=by simp[List.getD_eq_getElem?_getD,l]
    rw[this];exact A9.sc _
 |[],ps=>exact ps.elim
 |_::_::_,ps=>exact ps.2.elim
abbrev C1:J7:=CP (some Dg)
abbrev ZM:=Aff (some Dg)
theorem extV:Aci gU prog C1:=A4l (λg h args a b=>by cases h;exact Ajc args a b)
end
section
variable {B:FuncId->Option (Ae->Option A8)}(u d:Nat)(F:Ao)
theorem EB{p:Option (Ae->Option A8)}(u d:Nat)(Z:Int):Ac (CP p) prog u (d+1) 48 [Z]=(λ(F:Ao)=>Aq (decide (Z>=0)) (Bd [Cn (decide (Z<=4))]) (Bd [false])) (Ac (CP p) prog u d):=Κ
def Hv(Z:Int)(Y:Nat)(X:Int)(W:Nat)(V U:Int)(T:Ae):Option A8:=H6 u F 89 Tryz.f89 [Ag Z] [.r,.r,.r,.l,.r,.l] Y ⟨lk [(0,Ag X),(3,.view 3 1 0 W),(4,V),(5,U)],Fe [(3,.ar false T)]⟩
theorem N5(U:Int)(T:Nat)(V:Int)(Z:Nat)(Y X:Int)(W:Ae):Hv u F U (T+1) V Z Y X W=(Aq (decide (X>=0)) (Aa (wrap .i64 (4*X)) λa=>Aa (wrap .u64 a) λa=>Aw (decide (0<=a))<|Aa (Gs .u64 V a) λa=>Aa (C5 .u64 a 15) λa=>Aa (wrap .i64 a) λa=>ZzA Z 1 8 W [a] λb c=>Aa (wrap .i64 (15-a)) λa=>Aa (wrap .i64 (Y+a)) λa=>Aa (wrap .i64 (X-1)) λe=>Hv u F U T V b a e c) (Aa (wrap .i64 (Int.tdiv Y 16)) λa=>Aa (Int.tmod Y 16) λb=>Aw (decide (Z*1<=W.length)&&true&&decide ((Z+2)*8<=1099511627776)&&decide (Z+2<=1099511627776))<|Aa (Z+2) λc=>Aa (List.take (Z*1) W++[A0 a,A0 b]) λa=>Aw (decide (c*1<=a.length))<|Bd [.own 1 c (a.take (c*1))])):=Κ
theorem GZ{p:Option (Ae->Option A8)}(u d:Nat)(Z:Int):Ac (CP p) prog u (d+1) 89 [Ag Z]=(λ(F:Ao)=>Hv u F Z u Z 0 0 15 ([])) (Ac (CP p) prog u d):=Κ
def Ja(Z Y:Int)(X W V:Int)(U:Nat)(T S:Int)(Q P O:Int):Option A8:=H6 u F 90 Tryz.f90 [Z,Y,X,W,Ag V] [.r,.l,.r,.l] U ⟨lk [(0,T),(1,S),(3,Q),(4,Ag P),(11,O)],Fe []⟩
theorem Qr(U T:Int)(S Q P:Int)(O:Nat)(X W:Int)(Z V Y:Int):Ja u F U T S Q P (O+1) X W Z V Y=(Aa (if 15<Z then 15 else Z) λa=>Aq (decide (Y<a)) (Aa (wrap .u64 X) λa=>Aa (wrap .u64 W) λb=>Aa (wrap .u64 Y) λc=>De (F 45 [Ap 1 4 [Ag a,Ag b,Ag c,Ag V]]) λa b=>Na 1 a λa c=>Ah b<|Aw (decide (0+a*1<=c.length))<|Gm .u64 (F 47 [(1:Int),Ap 1 a (List.take (a*1) (c.drop 0))]) λa=>Aa (wrap .i64 (Y+1)) λb=>Ja u F U T S Q P O X W Z a b) (Bd [Ag V])):=Κ
theorem MR{p:Option (Ae->Option A8)}(u d:Nat)(Y X:Int)(Z W V:Int):Ac (CP p) prog u (d+1) 90 [Y,X,Z,W,Ag V]=(λ(F:Ao)=>Aa (if Z<0 then 0 else Z) λa=>Ja u F Y X Z W V u Y X W V a) (Ac (CP p) prog u d):=Κ
theorem ES{p:Option (Ae->Option A8)}(u d:Nat)(Z Y X:Int):Ac (CP p) prog u (d+1) 91 [Ag Z,Y,X]=(λ(F:Ao)=>Aa (wrap .u64 Y) λa=>Aa (wrap .u64 X) λb=>De (F 45 [Ap 1 2 [Ag a,Ag b]]) λa b=>Na 1 a λa c=>Ah b<|Aw (decide (0+a*1<=c.length))<|Gm .u64 (F 51 [Ag Z,(1:Int),Ap 1 a (List.take (a*1) (c.drop 0))]) λa=>Bd [Ag a]) (Ac (CP p) prog u d):=Κ
theorem IU{p:Option (Ae->Option A8)}(u d:Nat)(Z:Int)(Y:Nat)(X:Ae):Ac (CP p) prog u (d+1) 123 [Z,Ap 1 Y X]=(λ(F:Ao)=>Aa (wrap .u64 Z) λa=>De (F 45 [Ap 1 1 [Ag a]]) λa b=>Na 1 a λa c=>Ah b<|De (F 45 [Ap 1 Y X]) λb e=>Na 1 b λb f=>Ah e<|Aw (decide (0+b*1<=f.length))<|Aw (decide (a*1<=c.length)&&decide (List.length (List.take (b*1) (f.drop 0))=b*1)&&decide ((a+b)*1<=1099511627776)&&decide (a+b<=1099511627776))<|Aa (a+b) λe=>Aa (List.take (a*1) c++List.take (b*1) (f.drop 0)) λa=>Aw (decide (0+e*1<=a.length))<|Gm .u64 (F 47 [(2:Int),Ap 1 e (List.take (e*1) (a.drop 0))]) λa=>Bd [Ag a]) (Ac (CP p) prog u d):=Κ
def Ic(Z Y:Int)(X:Nat)(W V:Int)(U:Nat)(T:Int)(S:Ae):Option A8:=H6 u F 92 Tryz.f92 [Ag Z,Y] [.r,.r,.l,.r,.l] X ⟨lk [(0,Ag W),(1,V),(5,.view 5 1 0 U),(6,T)],Fe [(5,.ar false S)]⟩
theorem Ot(U T:Int)(S:Nat)(V Z:Int)(Y:Nat)(X:Int)(W:Ae):Ic u F U T (S+1) V Z Y X W=(Aq (decide (X<18)) (Gm .u64 (F 91 [Ag V,Z,X]) λa=>Gm .u64 (F 90 [Z,X,(0:Int),(15:Int),Ag a]) λa=>ZzA Y 1 8 W [Ag a] λa b=>Aa (wrap .i64 (X+1)) λc=>Ic u F U T S V Z a c b) (Aw (decide (0+Y*1<=W.length))<|Gm .u64 (F 123 [Z,Ap 1 Y (List.take (Y*1) (W.drop 0))]) λa=>Bd [Ag a])):=Κ
theorem JJ{p:Option (Ae->Option A8)}(u d:Nat)(Z Y:Int):Ac (CP p) prog u (d+1) 92 [Ag Z,Y]=(λ(F:Ao)=>Ic u F Z Y u Z Y 0 0 ([])) (Ac (CP p) prog u d):=Κ
def Gi(Z Y X:Int)(W:Nat)(V U:Int)(T S:Nat)(Q:Int)(P O:Ae):Option A8:=H6 u F 49 Tryz.f49 [Ag Z,Y,Ag X] [.r,.r,.r,.l,.r,.l] W ⟨lk [(0,Ag V),(1,U),(7,.view 7 1 0 T),(8,.view 8 1 0 S),(9,Q)],Fe [(7,.ar false P),(8,.ar false O)]⟩
theorem K6(S Q P:Int)(O:Nat)(V X:Int)(U Y:Nat)(Z:Int)(T W:Ae):Gi u F S Q P (O+1) V X U Y Z T W=(Aq (decide (Z<18)) (Aw (decide (0<=Z)&&decide (Z<(↑U:Int)))<|Bn .i64 (T.getD (0+Z.toNat*1) .top) λa=>Gm .u64 (F 91 [Ag V,X,Z]) λb=>Gm .u64 (F 90 [X,Z,(0:Int),a,Ag b]) λa=>ZzA Y 1 8 W [Ag a] λa b=>Aa (wrap .i64 (Z+1)) λc=>Gi u F S Q P O V X U a c T b) (Aw (decide (Y*1<=W.length))<|Bd [.own 1 Y (W.take (Y*1))])):=Κ
theorem Zq{p:Option (Ae->Option A8)}(u d:Nat)(Z Y X:Int):Ac (CP p) prog u (d+1) 49 [Ag Z,Y,Ag X]=(λ(F:Ao)=>De (F 89 [Ag X]) λa b=>Na 1 a λa c=>Ah b<|Gi u F Z Y X u Z Y a 0 0 c ([])) (Ac (CP p) prog u d):=Κ
def Gw(Z Y:Int)(X:Nat)(W:Ae)(V:Nat)(U:Int)(T:Nat)(S:Ae)(Q P:Nat)(O:Int)(N M:Ae):Option A8:=H6 u F 98 Tryz.f98 [Z,Ag Y,Ap 1 X W] [.r,.r,.r,.r,.l,.r,.l] V ⟨lk [(0,U),(2,Ap 1 T S),(8,.view 8 1 0 Q),(9,.view 9 1 0 P),(10,O)],Fe [(8,.ar false N),(9,.ar false M)]⟩
theorem Mj(Q P:Int)(O:Nat)(N:Ae)(M:Nat)(X:Int)(V:Nat)(U:Ae)(T Y:Nat)(Z:Int)(S W:Ae):Gw u F Q P O N (M+1) X V U T Y Z S W=(Aq (decide (Z<18)) (Aw (decide (0<=Z)&&decide (Z<(↑T:Int)))<|Bn .i64 (S.getD (0+Z.toNat*1) .top) λa=>Aw (decide (0<=Z)&&decide (Z<(↑V:Int)))<|Bn .u64 (U.getD (Z.toNat*1) .top) λb=>Gm .u64 (F 90 [X,Z,a,(15:Int),Ag b]) λa=>ZzA Y 1 8 W [Ag a] λa b=>Aa (wrap .i64 (Z+1)) λc=>Gw u F Q P O N M X V U T a c S b) (Aw (decide (0+Y*1<=W.length))<|Gm .u64 (F 123 [X,Ap 1 Y (List.take (Y*1) (W.drop 0))]) λa=>Bd [Ag a,(0:Int)])):=Κ
theorem CN{p:Option (Ae->Option A8)}(u d:Nat)(Y X:Int)(Z:Nat)(W:Ae):Ac (CP p) prog u (d+1) 98 [Y,Ag X,Ap 1 Z W]=(λ(F:Ao)=>Aq ((↑Z:Int) != 18) (Bd [Ag 0,(4:Int)]) (De (F 89 [Ag X]) λa b=>Na 1 a λa c=>Ah b<|Gw u F Y X Z W u Y Z W a 0 0 c ([]))) (Ac (CP p) prog u d):=Κ
theorem EP{p:Option (Ae->Option A8)}(u d:Nat)(Z Y X:Int):Ac (CP p) prog u (d+1) 93 [Z,Ag Y,Ag X]=(λ(F:Ao)=>Aa (wrap .u64 Z) λa=>De (F 45 [Ap 1 3 [Ag a,Ag Y,Ag X]]) λa b=>Na 1 a λa c=>Ah b<|Aw (decide (0+a*1<=c.length))<|Gm .u64 (F 47 [(3:Int),Ap 1 a (List.take (a*1) (c.drop 0))]) λa=>Bd [Ag a]) (Ac (CP p) prog u d):=Κ
theorem Tx{p:Option (Ae->Option A8)}(u d:Nat)(Y Z X:Int):Ac (CP p) prog u (d+1) 50 [Ag Y,Z,X]=(λ(F:Ao)=>Aq (Z==0) (Gm .u64 (F 92 [Ag Y,X]) λa=>Bd [Ag a]) (Aa (wrap .i64 (Z-1)) λa=>Aa (wrap .i64 (2*X)) λb=>Gm .u64 (F 50 [Ag Y,a,b]) λa=>Aa (wrap .i64 (Z-1)) λb=>Aa (wrap .i64 (2*X)) λc=>Aa (wrap .i64 (c+1)) λc=>Gm .u64 (F 50 [Ag Y,b,c]) λb=>Gm .u64 (F 93 [Z,Ag a,Ag b]) λa=>Bd [Ag a])) (Ac (CP p) prog u d):=Κ
theorem DV{p:Option (Ae->Option A8)}(u d:Nat)(Y Z:Int):Ac (CP p) prog u (d+1) 40 [Ag Y,Z]=(λ(F:Ao)=>De (F 48 [Z]) λa b=>Be a λa=>Ah b<|Aq (!a) (Bd [.agg [(0:Int),Ag 0],(9:Int)]) (Gm .u64 (F 50 [Ag Y,Z,(0:Int)]) λa=>Bd [.agg [Z,Ag a],(0:Int)])) (Ac (CP p) prog u d):=Κ
def Id(Z Y:Int)(X W:Int)(V:Nat)(U T:Int)(S Q P:Int)(O N:Nat)(M L:Ae)(K:Int)(J I:Nat)(H G:Ae):Option A8:=H6 u F 21 Tryz.f21 [Ag Z,Y,X,Ag W] [.r,.r,.r,.l,.r,.l] V ⟨lk [(0,Ag U),(1,T),(2,S),(8,.ptr 8 0),(10,.ptr 10 0),(11,Q)],Fe [(8,.st [P,.view 112 1 0 O,.view 164 1 0 N]),(112,.ar false M),(164,.ar false L),(10,.st [K,.view 114 1 0 J,.view 166 1 0 I]),(114,.ar false H),(166,.ar false G)]⟩
theorem Pi(P O:Int)(N M:Int)(L:Nat)(U T:Int)(S Z K:Int)(J I:Nat)(H G:Ae)(Q:Int)(Y X:Nat)(W V:Ae):Id u F P O N M (L+1) U T S Z K J I H G Q Y X W V=(Aq (decide (Z<T)) (Aa (wrap .u64 Z) λa=>Aw (decide (0<=a))<|Aa (Gs .i64 S a) λa=>Aa (E4 .i64 a 1) λa=>Gm .u64 (F 50 [Ag U,Z,a]) λa=>ZzA X 1 8 V [Ag a] λa b=>Aa (wrap .i64 (Z+1)) λc=>Id u F P O N M L U T S c K J I H G Q Y a W b) (Aw (decide (Y*1<=W.length))<|Aw (decide (X*1<=V.length))<|Bd [.agg [Q,.own 1 Y (W.take (Y*1)),.own 1 X (V.take (X*1))],(0:Int)])):=Κ
theorem JB{p:Option (Ae->Option A8)}(u d:Nat)(X Y:Int)(Z W:Int):Ac (CP p) prog u (d+1) 21 [Ag X,Y,Z,Ag W]=(λ(F:Ao)=>De (F 48 [Y]) λa b=>Be a λa=>(λe:Option A8=>Ah b<|Aq (!a) e (Aq (decide (Z<0)) e (Aa (wrap .u64 Y) λa=>Aw (decide (0<=a))<|Aa (Dx .i64 1 a) λa=>Aq (decide (Z>=a)) e (De (F 49 [Ag X,Z,Ag W]) λa b=>Na 1 a λa c=>Ah b<|Id u F X Y Z W u X Y Z 0 0 0 0 ([]) ([]) Z a 0 c ([]))))) (Bd [.agg [(0:Int),.own 1 0 [],.own 1 0 []],(9:Int)])) (Ac (CP p) prog u d):=Κ
def Fy(Z Y:Int)(X W:Int)(V:Nat)(U:Ae)(T:Nat)(S:Ae)(Q:Nat)(P O:Int)(N M L:Int)(K:Nat)(J:Ae)(I:Nat)(H:Ae):Option A8:=H6 u F 56 Tryz.f56 [.agg [Z,Ag Y],Ag X,.agg [W,Ap 1 V U,Ap 1 T S]] [.r,.r,.r,.r,.l,.r,.l] Q ⟨lk [(3,.ptr 3 0),(5,.ptr 5 0),(7,Ag P),(9,O)],Fe [(3,.st [N,Ag M]),(5,.st [L,Ap 1 K J,Ap 1 I H])]⟩
theorem Ng(S Q:Int)(P O:Int)(N:Nat)(M:Ae)(L:Nat)(K:Ae)(J:Nat)(W Z:Int)(V U T:Int)(I:Nat)(H:Ae)(Y:Nat)(X:Ae):Fy u F S Q P O N M L K (J+1) W Z V U T I H Y X=(Aq (decide (Z<V)) (Aa (wrap .u64 Z) λa=>Aw (decide (0<=a))<|Aa (Gs .i64 T a) λa=>Aa (C5 .i64 a 1) λa=>Aq (a==0) (Aa (wrap .i64 (Z+1)) λa=>Aw (decide (0<=Z)&&decide (Z<(↑Y:Int)))<|Bn .u64 (X.getD (Z.toNat*1) .top) λb=>Gm .u64 (F 93 [a,Ag W,Ag b]) λa=>Aa (wrap .i64 (Z+1)) λb=>Fy u F S Q P O N M L K J a b V U T I H Y X) (Aa (wrap .i64 (Z+1)) λa=>Aw (decide (0<=Z)&&decide (Z<(↑Y:Int)))<|Bn .u64 (X.getD (Z.toNat*1) .top) λb=>Gm .u64 (F 93 [a,Ag b,Ag W]) λa=>Aa (wrap .i64 (Z+1)) λb=>Fy u F S Q P O N M L K J a b V U T I H Y X)) (Aq (W != U) (Bd [(15:Int)]) (Bd [(0:Int)]))):=Κ
theorem DS{p:Option (Ae->Option A8)}(u d:Nat)(Z U:Int)(T Y:Int)(X:Nat)(W:Ae)(V:Nat)(S:Ae):Ac (CP p) prog u (d+1) 56 [.agg [Z,Ag U],Ag T,.agg [Y,Ap 1 X W,Ap 1 V S]]=(λ(F:Ao)=>De (F 48 [Z]) λa b=>Be a λa=>(λc:Option A8=>Ah b<|Aq (!a) c (Aq (decide (Y<0)) c (Aa (wrap .u64 Z) λa=>Aw (decide (0<=a))<|Aa (Dx .i64 1 a) λa=>Aq (decide (Y>=a)) c (Aq ((↑X:Int) != 18) (Bd [(4:Int)]) (Aq ((↑V:Int) != Z) (Bd [(4:Int)]) (De (F 98 [Y,Ag T,Ap 1 X W]) λa b=>Bn .u64 a λa=>Br .i64 b λb=>Fy u F Z U T Y X W V S u a 0 Z U Y X W V S)))))) (Bd [(9:Int)])) (Ac (CP p) prog u d):=Κ
theorem Y5{p:Option (Ae->Option A8)}(u d:Nat)(Z Y:Int):Ac (CP p) prog u (d+1) 46 [.agg [Z,Ag Y]]=(λ(F:Ao)=>De (F 48 [Z]) λa b=>Be a λa=>Ah b<|Aq (!a) (Bd [.own 1 0 [],(9:Int)]) (Aa (wrap .u8 Z) λa=>De (F 45 [Ap 1 1 [Ag Y]]) λb c=>Na 1 b λb e=>Ah c<|Aw (decide (0+b*1<=e.length))<|Aw (decide (List.length (List.take (b*1) (e.drop 0))=b*1)&&decide ((1+b)*1<=1099511627776)&&decide (1+b<=1099511627776))<|Aa (1+b) λc=>Aa ([.sc (.int .u8 a)]++List.take (b*1) (e.drop 0)) λa=>Aw (decide (c*1<=a.length))<|Bd [.own 1 c (a.take (c*1)),(0:Int)])) (Ac (CP p) prog u d):=Κ
theorem Zl{p:Option (Ae->Option A8)}(u d Z:Nat)(Y:Ae):Ac (CP p) prog u (d+1) 97 [Ap 1 Z Y]=(λ(F:Ao)=>(λe:Option A8=>Aq ((↑Z:Int) != 9) e (Aw (decide (0<(↑Z:Int)))<|Bn .u8 (Y.getD 0 .top) λa=>Aa (wrap .i64 a) λa=>De (F 48 [a]) λa b=>Be a λa=>Ah b<|Aq (!a) e (Aw (decide (0<(↑Z:Int)))<|Bn .u8 (Y.getD 0 .top) λa=>Aa (wrap .i64 a) λa=>Aw (decide (1<=Z)&&decide (Z<=Z))<|Aa (Z-1) λb=>Aa (List.take (b*1) (Y.drop 1)) λc=>Gm .u64 (F 96 [Ap 1 b c]) λb=>Bd [.agg [a,Ag b],(0:Int)]))) (Bd [.agg [(0:Int),Ag 0],(2:Int)])) (Ac (CP p) prog u d):=Κ
theorem Qi{p:Option (Ae->Option A8)}(u d:Nat)(Y:Int)(X:Nat)(W:Ae)(Z:Nat)(V:Ae):Ac (CP p) prog u (d+1) 24 [.agg [Y,Ap 1 X W,Ap 1 Z V]]=(λ(F:Ao)=>(λg:Option A8=>Aq (decide ((↑Z:Int)>4)) g (Aq (decide (Y<0)) g (Aa (wrap .u64 (↑Z:Int)) λa=>Aw (decide (0<=a))<|Aa (Dx .i64 1 a) λa=>Aq (decide (Y>=a)) g (Aq ((↑X:Int) != 18) (Bd [.own 1 0 [],(4:Int)]) (Aa (wrap .u8 Y) λa=>Aa (wrap .u8 (↑Z:Int)) λb=>De (F 45 [Ap 1 X W]) λc e=>Na 1 c λc f=>Ah e<|Aw (decide (0+c*1<=f.length))<|Aw (decide (List.length (List.take (c*1) (f.drop 0))=c*1)&&decide ((2+c)*1<=1099511627776)&&decide (2+c<=1099511627776))<|Aa (2+c) λe=>Aa ([.sc (.int .u8 a),.sc (.int .u8 b)]++List.take (c*1) (f.drop 0)) λa=>De (F 45 [Ap 1 Z V]) λb c=>Na 1 b λb f=>Ah c<|Aw (decide (0+b*1<=f.length))<|Aw (decide (e*1<=a.length)&&decide (List.length (List.take (b*1) (f.drop 0))=b*1)&&decide ((e+b)*1<=1099511627776)&&decide (e+b<=1099511627776))<|Aa (e+b) λc=>Aa (List.take (e*1) a++List.take (b*1) (f.drop 0)) λa=>Aw (decide (c*1<=a.length))<|Bd [.own 1 c (a.take (c*1)),(0:Int)]))))) (Bd [.own 1 0 [],(9:Int)])) (Ac (CP p) prog u d):=Κ
def Ir(Z:Nat)(Y:Ae)(X W:Nat)(V:Ae)(U:Int)(T S:Nat)(Q P:Ae):Option A8:=H6 u F 55 Tryz.f55 [Ap 1 Z Y] [.r] X ⟨lk [(0,Ap 1 W V),(2,.ptr 2 0)],Fe [(2,.st [U,.view 162 1 0 T,.view 242 1 0 S]),(162,.ar false Q),(242,.ar false P)]⟩
def Dl(Z:Nat)(Y:Ae)(X W:Nat)(V:Ae)(U T:Int)(S Q:Nat)(P O:Ae)(N:Int)(M L:Nat)(K J:Ae):Option A8:=H6 u F 55 Tryz.f55 [Ap 1 Z Y] [.r,.r,.r,.l,.r,.l] X ⟨lk [(0,Ap 1 W V),(2,.ptr 2 0),(4,.ptr 4 0),(5,U)],Fe [(2,.st [T,.view 162 1 0 S,.view 242 1 0 Q]),(162,.ar false P),(242,.ar false O),(4,.st [N,.view 164 1 0 M,.view 244 1 0 L]),(164,.ar false K),(244,.ar false J)]⟩
theorem N9(W:Nat)(V:Ae)(Z:Nat)(F7:0<Z)(Y:Nat)(X:Ae)(U:Int)(T S:Nat)(Q P:Ae):Ir u F W V Z Y X U T S Q P=(Aw (decide (0<(↑Y:Int)))<|Bn .u8 (X.getD 0 .top) λa=>Aa (wrap .i64 a) λa=>Dl u F W V u Y X 0 U T S Q P a 0 0 ([]) ([])):=by cases Z with|zero=>exact absurd F7 (Nat.lt_irrefl 0)|succ Z=>kernel_rfl
theorem Oh(Q:Nat)(P:Ae)(O W:Nat)(V:Ae)(Z N:Int)(M L:Nat)(K J:Ae)(S:Int)(Y X:Nat)(U T:Ae):Dl u F Q P (O+1) W V Z N M L K J S Y X U T=(Aw (decide (1<(↑W:Int)))<|Bn .u8 (V.getD 1 .top) λa=>Aa (wrap .i64 a) λa=>Aa (wrap .i64 (18+a)) λa=>Aq (decide (Z<a)) (Aa (wrap .i64 (8*Z)) λa=>Aa (wrap .i64 (2+a)) λa=>Aa (wrap .i64 (8*Z)) λb=>Aa (wrap .i64 (10+b)) λb=>Aw (decide (0<=a))<|Aw (decide (0<=b))<|Aw (decide (a.toNat<=b.toNat)&&decide (b.toNat<=W))<|Aa (b.toNat-a.toNat) λb=>Aa (List.take (b*1) (V.drop (a.toNat*1))) λa=>Gm .u64 (F 96 [Ap 1 b a]) λa=>Aq (decide (Z<18)) (ZzA Y 1 8 U [Ag a] λa b=>Aa (wrap .i64 (Z+1)) λc=>Dl u F Q P O W V c N M L K J S a X b T) (ZzA X 1 8 T [Ag a] λa b=>Aa (wrap .i64 (Z+1)) λc=>Dl u F Q P O W V c N M L K J S Y a U b)) (Aw (decide (Y*1<=U.length))<|Aw (decide (X*1<=T.length))<|Bd [.agg [S,.own 1 Y (U.take (Y*1)),.own 1 X (T.take (X*1))],(0:Int)])):=Κ
theorem Ra{p:Option (Ae->Option A8)}(u d Z:Nat)(Y:Ae):Ac (CP p) prog u (d+1) 55 [Ap 1 Z Y]=(λ(F:Ao)=>(λc:Option A8=>Aq (decide ((↑Z:Int)<2)) c (Aw (decide (1<(↑Z:Int)))<|Bn .u8 (Y.getD 1 .top) λa=>Aa (wrap .i64 a) λa=>Aq (decide (a>4)) c (Aw (decide (0<(↑Z:Int)))<|Bn .u8 (Y.getD 0 .top) λa=>Aa (wrap .i64 a) λa=>Aw (decide (1<(↑Z:Int)))<|Bn .u8 (Y.getD 1 .top) λb=>Aa (wrap .u64 b) λb=>Aw (decide (0<=b))<|Aa (Dx .i64 1 b) λb=>Aq (decide (a>=b)) c (Aw (decide (1<(↑Z:Int)))<|Bn .u8 (Y.getD 1 .top) λa=>Aa (wrap .i64 a) λa=>Aa (wrap .i64 (18+a)) λa=>Aa (wrap .i64 (8*a)) λa=>Aa (wrap .i64 (2+a)) λa=>Aq ((↑Z:Int) != a) c (Ir u F Z Y u Z Y 0 0 0 ([]) ([])))))) (Bd [.agg [(0:Int),.own 1 0 [],.own 1 0 []],(2:Int)])) (Ac (CP p) prog u d):=Κ
def Hd(Z Y X:Int)(W:Nat)(V U T:Int)(S:Nat)(Q:Int)(P:Ae):Option A8:=H6 u F 25 Tryz.f25 [Ag Z,Ag Y,X] [.r,.r,.r,.l,.r,.l] W ⟨lk [(0,Ag V),(1,Ag U),(2,T),(7,.view 7 1 0 S),(8,Q)],Fe [(7,.ar false P)]⟩
theorem Is(T S Q:Int)(P:Nat)(W V Y:Int)(Z:Nat)(U:Int)(X:Ae):Hd u F T S Q (P+1) W V Y Z U X=(Aq (decide ((↑Z:Int)<Y)) (Aa (wrap .u64 U) λa=>De (F 45 [Ap 1 2 [Ag V,Ag a]]) λa b=>Na 1 a λa c=>Ah b<|Aw (decide (0+a*1<=c.length))<|Gm .u64 (F 51 [Ag W,(5:Int),Ap 1 a (List.take (a*1) (c.drop 0))]) λa=>De (F 45 [Ap 1 1 [Ag a]]) λa b=>Na 1 a λa c=>Ah b<|Aw (decide (0+a*1<=c.length))<|Aw (decide (Z*1<=X.length)&&decide (List.length (List.take (a*1) (c.drop 0))=a*1)&&decide ((Z+a)*1<=1099511627776)&&decide (Z+a<=1099511627776))<|Aa (Z+a) λb=>Aa (List.take (Z*1) X++List.take (a*1) (c.drop 0)) λa=>Aa (wrap .i64 (U+1)) λc=>Hd u F T S Q P W V Y b c a) (Aw (decide (0<=Y))<|Aw (decide (Y.toNat<=Z))<|Aa (Y.toNat-0) λa=>Aw (decide (a*1<=X.length))<|Bd [.own 1 a (X.take (a*1))])):=Κ
theorem DQ{p:Option (Ae->Option A8)}(u d:Nat)(Y X Z:Int):Ac (CP p) prog u (d+1) 25 [Ag Y,Ag X,Z]=(λ(F:Ao)=>Aa (if Z<0 then 0 else Z) λa=>Aa (if 1024<a then 1024 else a) λa=>Hd u F Y X Z u Y X a 0 0 ([])) (Ac (CP p) prog u d):=Κ
end
section
variable {B:FuncId->Option (Ae->Option A8)}(u d:Nat)(F:Ao)
def Dk(Z:Nat)(Y:Ae)(X W:Nat)(V:Ae)(U:ByteArray)(T:Int):Option A8:=H6 u F 43 Tryz.f43 [Ap 1 Z Y] [.r,.r,.l,.r,.l] X ⟨lk [(0,Ap 1 W V),(3,U),(4,T)],Fe []⟩
def Cq(Z:Nat)(Y:Ae)(X W V:Nat)(U:Ae)(T:ByteArray)(S Q P:Int):Option A8:=H6 u F 43 Tryz.f43 [Ap 1 Z Y] [.r,.r,.l,.r,.l,.i X,.r,.l,.l,.r,.r,.r,.r,.l] W ⟨lk [(0,Ap 1 V U),(3,T),(4,S),(5,Ag Q),(6,P)],Fe []⟩
theorem Gl(V:Nat)(U:Ae)(T Y:Nat)(X:Ae)(W:ByteArray)(Z:Int):Dk u F V U (T+1) Y X W Z=(Aq (decide (Z<(↑Y:Int))) (Aw (decide (0<=Z)&&decide (Z<(↑Y:Int)))<|Bn .u8 (X.getD (Z.toNat*1) .top) λa=>Aa (wrap .u64 a) λa=>Aa (Dx .u64 a 16) λa=>Aa (wrap .i64 (Z+1)) λb=>Aq (decide (b<(↑Y:Int))) (Aa (wrap .i64 (Z+1)) λb=>Aw (decide (0<=b)&&decide (b<(↑Y:Int)))<|Bn .u8 (X.getD (b.toNat*1) .top) λb=>Aa (wrap .u64 b) λb=>Aa (Dx .u64 b 8) λb=>Aa (Vg .u64 a b) λa=>Aa (wrap .i64 (Z+2)) λb=>Aq (decide (b<(↑Y:Int))) (Aa (wrap .i64 (Z+2)) λb=>Aw (decide (0<=b)&&decide (b<(↑Y:Int)))<|Bn .u8 (X.getD (b.toNat*1) .top) λb=>Aa (wrap .u64 b) λb=>Aa (Vg .u64 a b) λa=>Cq u F V U T u Y X W Z a 0) (Cq u F V U T u Y X W Z a 0)) (Aa (wrap .i64 (Z+2)) λb=>Aq (decide (b<(↑Y:Int))) (Aa (wrap .i64 (Z+2)) λb=>Aw (decide (0<=b)&&decide (b<(↑Y:Int)))<|Bn .u8 (X.getD (b.toNat*1) .top) λb=>Aa (wrap .u64 b) λb=>Aa (Vg .u64 a b) λa=>Cq u F V U T u Y X W Z a 0) (Cq u F V U T u Y X W Z a 0))) (Bd [W])):=Κ
theorem Jd(V:Nat)(U:Ae)(T P Z:Nat)(S:Ae)(Y:ByteArray)(X Q W:Int):Cq u F V U T (P+1) Z S Y X Q W=(Aq (decide (W<4)) (Aa (wrap .i64 ((↑Z:Int)-X)) λa=>Aq (decide (W<=a)) (Aa (wrap .u64 W) λa=>Aa (wrap .u64 (6*a)) λa=>Aa (wrap .u64 (18-a)) λa=>Aw (decide (0<=a))<|Aa (Gs .u64 Q a) λa=>Aa (C5 .u64 a 63) λa=>Aa (wrap .u64 (a+1)) λb=>Aw (decide (0<=a))<|Aw (decide (0<=b))<|Aw (decide (a.toNat<=b.toNat)&&decide (b.toNat<=64))<|Aa (ByteArray.extract (ByteArray.mk #[65,66,67,68,69,70,71,72,73,74,75,76,77,78,79,80,81,82,83,84,85,86,87,88,89,90,97,98,99,100,101,102,103,104,105,106,107,108,109,110,111,112,113,114,115,116,117,118,119,120,121,122,48,49,50,51,52,53,54,55,56,57,45,95]) a.toNat b.toNat) λa=>Aw (decide (ByteArray.size Y+ByteArray.size a<=9223372036854775807))<|Aa (Y++a) λa=>Aa (wrap .i64 (W+1)) λb=>Cq u F V U T P Z S a X Q b) (Aa (wrap .i64 (X+3)) λa=>Dk u F V U T Z S Y a)) (Aa (wrap .i64 (X+3)) λa=>Dk u F V U T Z S Y a)):=Κ
theorem V4{p:Option (Ae->Option A8)}(u d Z:Nat)(Y:Ae):Ac (CP p) prog u (d+1) 43 [Ap 1 Z Y]=(λ(F:Ao)=>Dk u F Z Y u Z Y (ByteArray.mk #[]) 0) (Ac (CP p) prog u d):=Κ
def Hf(Z:Int)(Y:Nat)(X W:Int):Option A8:=H6 u F 147 Tryz.f147 [.sc (.int .u8 Z)] [.r,.l,.r,.l] Y ⟨lk [(0,.sc (.int .u8 X)),(3,W)],Fe []⟩
theorem M9(X:Int)(W:Nat)(Y Z:Int):Hf u F X (W+1) Y Z=(Aq (decide (Z<64)) (Aw (decide (0<=Z))<|Dj ((Array.toList (ByteArray.data (ByteArray.mk #[65,66,67,68,69,70,71,72,73,74,75,76,77,78,79,80,81,82,83,84,85,86,87,88,89,90,97,98,99,100,101,102,103,104,105,106,107,108,109,110,111,112,113,114,115,116,117,118,119,120,121,122,48,49,50,51,52,53,54,55,56,57,45,95])))[Z.toNat]?) λa=>Aq ((↑(UInt8.toNat a):Int)==Y) (Aa (wrap .u64 Z) λa=>Bd [Ag a]) (Aa (wrap .i64 (Z+1)) λa=>Hf u F X W Y a)) (Bd [Ag 64])):=Κ
theorem EG{p:Option (Ae->Option A8)}(u d:Nat)(Z:Int):Ac (CP p) prog u (d+1) 147 [.sc (.int .u8 Z)]=(λ(F:Ao)=>Hf u F Z u Z 0) (Ac (CP p) prog u d):=Κ
def Ea(Z:ByteArray)(Y:Nat)(X:ByteArray)(W:Nat)(V U T:Int)(S:Ae):Option A8:=H6 u F 127 Tryz.f127 [Z] [.r,.r,.r,.l,.r,.l] Y ⟨lk [(0,X),(4,.view 4 1 0 W),(5,Ag V),(6,Ag U),(7,T)],Fe [(4,.ar false S)]⟩
theorem Jg(V:ByteArray)(U:Nat)(X:ByteArray)(Z:Nat)(T S W:Int)(Y:Ae):Ea u F V (U+1) X Z T S W Y=((λg:Option A8=>Aq (decide (W<(↑(ByteArray.size X):Int))) (Aw (decide (0<=W))<|Dj ((Array.toList (ByteArray.data X))[W.toNat]?) λa=>Gm .u64 (F 147 [.sc (.int .u8 (↑(UInt8.toNat a):Int))]) λa=>Aq (decide (a>63)) g (Aa (Dx .u64 T 6) λb=>Aa (Vg .u64 b a) λa=>Aa (C5 .u64 a 65535) λa=>Aa (wrap .u64 (S+6)) λb=>Aq (decide (b>=8)) (Aa (wrap .u64 (b-8)) λb=>Aw (decide (0<=b))<|Aa (Gs .u64 a b) λc=>Aa (wrap .u8 c) λc=>ZzA Z 1 1 Y [.sc (.int .u8 c)] λc e=>Aa (wrap .i64 (W+1)) λf=>Ea u F V U X c a b f e) (Aa (wrap .i64 (W+1)) λc=>Ea u F V U X Z a b c Y))) (Aw (decide (0+Z*1<=Y.length))<|De (F 43 [Ap 1 Z (List.take (Z*1) (Y.drop 0))]) λa b=>As a λa=>Ah b<|Aq (!Array.toList (ByteArray.data a)==Array.toList (ByteArray.data X)) g (Aw (decide (Z*1<=Y.length))<|Bd [.own 1 Z (Y.take (Z*1)),(0:Int)]))) (Bd [.own 1 0 [],(2:Int)])):=Κ
theorem V6{p:Option (Ae->Option A8)}(u d:Nat)(Z:ByteArray):Ac (CP p) prog u (d+1) 127 [Z]=(λ(F:Ao)=>Ea u F Z u Z 0 0 0 0 ([])) (Ac (CP p) prog u d):=Κ
theorem CG{p:Option (Ae->Option A8)}(u d:Nat)(Z:Int):Ac (CP p) prog u (d+1) 41 [Z]=(λ(F:Ao)=>Aq (Z==1) (Bd [Bf ⟨#[112,97,115,115,107,101,121,46,99,114,101,97,116,101]⟩]) (Aq (Z==2) (Bd [Bf ⟨#[112,97,115,115,107,101,121,46,103,101,116]⟩]) (Bd [Bf ⟨#[]⟩]))) (Ac (CP p) prog u d):=Κ
theorem Yj{p:Option (Ae->Option A8)}(u d:Nat)(Z:ByteArray):Ac (CP p) prog u (d+1) 23 [Z]=(λ(F:Ao)=>Aw (decide (ByteArray.size Z<=1099511627776))<|Aw (decide (0+ByteArray.size Z*1<=List.length (D1 Z)))<|Gm .u64 (F 47 [(11:Int),Ap 1 (ByteArray.size Z) (List.take (ByteArray.size Z*1) (List.drop 0 (D1 Z)))]) λa=>Bd [Ag a]) (Ac (CP p) prog u d):=Κ
theorem KS{p:Option (Ae->Option A8)}(u d:Nat)(Z:ByteArray):Ac (CP p) prog u (d+1) 34 [Z]=(λ(F:Ao)=>Aw (decide (ByteArray.size Z<=1099511627776))<|Aw (decide (0+ByteArray.size Z*1<=List.length (D1 Z)))<|Gm .u64 (F 69 [(11:Int),Ap 1 (ByteArray.size Z) (List.take (ByteArray.size Z*1) (List.drop 0 (D1 Z)))]) λa=>Bd [Ag a]) (Ac (CP p) prog u d):=Κ
end
theorem Azn(a b:Nat)(e:a<18446744073709551616)(f:b<18446744073709551616):C5 .u64 ((a:Nat):Int) ((b:Nat):Int)=((a &&& b:Nat):Int):=by
 have g:a &&& b<2 ^ 64:=Nat.and_lt_two_pow _ Ω
 have c:(BitVec.ofInt 64 (a:Int)).toNat=a:=by
  rw[BitVec.ofInt_natCast,BitVec.toNat_ofNat];exact Nat.mod_eq_of_lt Ω
 have d:(BitVec.ofInt 64 (b:Int)).toNat=b:=by
  rw[BitVec.ofInt_natCast,BitVec.toNat_ofNat];exact Nat.mod_eq_of_lt Ω
 show IntKind.u64.wrap ((BitVec.ofInt 64 (a:Int) &&& BitVec.ofInt 64 (b:Int)).toNat:Int)=_;rw[BitVec.toNat_and,c,d];simp only[wrap,IntKind.bits,IntKind.signed,NT,Bool.false_eq_true,if_false];omega
theorem A63{x:Int}(a:0<=x)(b:x<16777216):C5 .u64 x 63=x % 64:=by obtain⟨n,rfl⟩:=Int.eq_ofNat_of_zero_le a;have:=Azn n 63 Ω Ω;refine this.trans ?_;rw[show (63:Nat)=2 ^ 6-1 by decide,Nat.and_two_pow_sub_one_eq_mod n 6];omega
theorem Arr{x:Int}(a:0<=x)(b:x<16777216):C5 .u64 x 65535=x % 65536:=by obtain⟨n,rfl⟩:=Int.eq_ofNat_of_zero_le a;have:=Azn n 65535 Ω Ω;refine this.trans ?_;rw[show (65535:Nat)=2 ^ 16-1 by decide,Nat.and_two_pow_sub_one_eq_mod n 16];omega
theorem A43{x:Int}{k:Nat}(a:k<=64):Gs .u64 x (k:Int)=x / ((2 ^ k:Nat):Int):=by
 show x.fdiv (2 ^ (min (k:Int).toNat IntKind.u64.bits))=_
 have:min (k:Int).toNat IntKind.u64.bits=k:=by
  rw[H8];exact Nat.min_eq_left (by show k<=64;omega)
 rw[this];have e:(2:Int) ^ k=((2 ^ k:Nat):Int):=Ψ
 rw[e,Int.fdiv_eq_ediv_of_nonneg _ (Int.natCast_nonneg _)]
theorem Awe:∀n:Fin 64,Z4.extract n.val (n.val+1)=Ab [J9 (n.val:Int)]:=by decide +kernel
theorem Kg(a b:Ak):Ab a++Ab b=Ab (a++b):=by apply ByteArray.ext;rw[ByteArray.data_append];unfold Ab;simp
def qch(x:Int)(k:Nat):Int:=J9 (x / ((2 ^ (18-6*k):Nat):Int) % 64)
section
variable {u d:Nat}{p:Option (Ae->Option A8)}
theorem Apk{ZH:Nat}{a0:Ae}{m0:Nat}{y0:Nat}{y1:Ae}{i:Nat}{x:Int}(b:0<=x)(s:x<16777216)(hi:i<y0)(t:y0<=1000000)(m:Nat)(w:m=min (y0-i) 3+1):∀(r k nn:Nat)(a:Ak),k+r=m->r+1<=nn->a.length+r<=10000000 ->
  Cq u (Ac (CP p) prog u d) ZH a0 m0 nn y0 y1 (Ab a) (i:Int) x (k:Int)=Dk u (Ac (CP p) prog u d) ZH a0 m0 y0 y1 (Ab (a++(List.range' k r).map (qch x))) ((i+3:Nat):Int)
 |0,k,nn,a,f,y,z=>by
  obtain⟨q,rfl⟩:∃q,nn=q+1:=⟨nn-1,Ω⟩
  have n:wrap .i64 ((i:Int)+3)=((i+3:Nat):Int):=Bi
  have e:a++(List.range' k 0).map (qch x)=a:=Ψ
  rw[e,Jd];by_cases Q:k<4
  ·have c:=dT (q:=(k:Int)<4) Ω;have g:wrap .i64 ((y0:Int)-(i:Int))=(y0:Int)-(i:Int):=Bc;have h:=dF (q:=(k:Int)<=(y0:Int)-(i:Int)) Ω;simp only[Av,Au,c,g,h,n]
  ·have c:=dF (q:=(k:Int)<4) Ω;simp only[Av,Au,c,n]
 |r+1,k,nn,a,f,y,z=>by
  obtain⟨q,rfl⟩:∃q,nn=q+1:=⟨nn-1,Ω⟩
  have FM:k<4:=Ω
  have c:=dT (q:=(k:Int)<4) Ω;have g:wrap .i64 ((y0:Int)-(i:Int))=(y0:Int)-(i:Int):=Bc;have h:=dT (q:=(k:Int)<=(y0:Int)-(i:Int)) Ω;have A:wrap .u64 (k:Int)=(k:Int):=Do;have C:wrap .u64 (6*(k:Int))=6*(k:Int):=Do;have D:wrap .u64 (18-6*(k:Int))=((18-6*k:Nat):Int):=by rw[Do];omega
  have E:decide ((0:Int)<=((18-6*k:Nat):Int))=true:=Ψ
  have G:=A43 (x:=x) (k:=18-6*k) Ω;have hp:0<2 ^ (18-6*k):=Nat.pow_pos Ω;have Ti:0<=x / ((2 ^ (18-6*k):Nat):Int):=Int.ediv_nonneg b (Int.natCast_nonneg _)
  have j:x / ((2 ^ (18-6*k):Nat):Int)<16777216:=by
   have:=Int.ediv_le_self ((2 ^ (18-6*k):Nat):Int) b;omega
  have o:=A63 Ti j;generalize H:x / ((2 ^ (18-6*k):Nat):Int) % 64=v at o;have l:0<=v:=Ω
  have I:v<64:=Ω
  have J:wrap .u64 (v+1)=v+1:=Do;have b8:=dT (q:=(0:Int)<=v) l;have K:=dT (q:=(0:Int)<=v+1) Ω;have c1:decide (Int.toNat v<=Int.toNat (v+1))=true:=dT Ω;have c2:decide (Int.toNat (v+1)<=64)=true:=dT Ω
  have L:Z4.extract (Int.toNat v) (Int.toNat (v+1))=Ab [qch x k]:=by
   have:=Awe ⟨Int.toNat v,Ω⟩;rw[show Int.toNat (v+1)=Int.toNat v+1 by omega];refine this.trans ?_;unfold qch;rw[H]
   congr 3
   show ((Int.toNat v:Nat):Int)=v;omega
  have M:decide ((Ab a).size+(Ab [qch x k]).size<=9223372036854775807)=true:=dT (by rw[Ai,Ai];simp;omega)
  have N:wrap .i64 ((k:Int)+1)=((k+1:Nat):Int):=Bi
  have O:=Apk (ZH:=ZH) (a0:=a0) (m0:=m0) (y1:=y1) b s hi t m w r (k+1) q (a++[qch x k]) Ω Ω (by simp;omega)
  have e:a++(List.range' k (r+1)).map (qch x)=(a++[qch x k])++(List.range' (k+1) r).map (qch x):=by
   rw[List.range'_succ];simp
  have P:(ByteArray.mk #[65,66,67,68,69,70,71,72,73,74,75,76,77,78,79,80,81,82,83,84,85,86,87,88,89,90,97,98,99,100,101,102,103,104,105,106,107,108,109,110,111,112,113,114,115,116,117,118,119,120,121,122,48,49,50,51,52,53,54,55,56,57,45,95])=Z4:=rfl;rw[e,Jd,P];simp only[Av,Au,c,g,h,A,C,D,E,G,o,J,b8,K,c1,c2,L,M,Kg,N];exact O
theorem An0{a b c:Int}(h:Ce [a,b,c])(m:Nat)(g:m<=4):(List.range' 0 m).map (qch (a*65536+b*256+c))=(LY a b c).take m:=by
 obtain⟨j,h⟩:=Ca h;obtain⟨k,h⟩:=Ca h;obtain⟨l,h⟩:=Ca h;have d:qch (a*65536+b*256+c) 0=J9 (a / 4):=by unfold qch;congr 1;simp;omega
 have e:qch (a*65536+b*256+c) 1=J9 (a % 4*16+b / 16):=by unfold qch;congr 1;simp;omega
 have f:qch (a*65536+b*256+c) 2=J9 (b % 16*4+c / 64):=by unfold qch;congr 1;simp;omega
 have i:qch (a*65536+b*256+c) 3=J9 (c % 64):=by unfold qch;congr 1;simp;omega
 match m,g with
 |0,_=>rfl
 |1,_=>simp[List.range',LY,d]
 |2,_=>simp[List.range',LY,d,e]
 |3,_=>simp[List.range',LY,d,e,f]
 |4,_=>simp[List.range',LY,d,e,f,i]
theorem Bdu{a b:Int}(d:0<=a/\a<=255)(e:0<=b/\b<=255):Vg .u64 (a*65536) (b*256)=a*65536+b*256:=by
 obtain⟨a,rfl⟩:=Int.eq_ofNat_of_zero_le d.1;have:=(GA (a:=b*256) (c:=(a:Int)*65536) 16 a Ω (by simp;omega) Ψ Ω).2
 rw[this];omega
theorem Bgi{y c:Int}(b:0<=y/\y<=65535)(d:0<=c/\c<=255):Vg .u64 (y*256) c=y*256+c:=by
 obtain⟨y,rfl⟩:=Int.eq_ofNat_of_zero_le b.1;have:=(GA (a:=c) (c:=(y:Int)*256) 8 y Ω (by simp;omega) Ψ Ω).2
 rw[this];omega
theorem A2m{ZH:Nat}{a0:Ae}{l:Ak}(s:Ce l)(hl:l.length<=100000)(Bg:10<=u):∀(q:Nat)(r:Ak)(i nn:Nat)(e:Ak),l.drop i=r->i<=l.length+3->r.length<=q->q+1<=nn->e.length+4*r.length<=1000000 ->
  Dk u (Ac (CP p) prog u d) ZH a0 nn l.length (Af .u8 l) (Ab e) (i:Int)=some ⟨[Bf (Ab (e++Fw r))],[]⟩:=by
 intro q
 induction q with
 |zero=>
  intro r i nn e hd v J S g;have h:r=[]:=List.eq_nil_of_length_eq_zero Ω;subst h;obtain⟨k,rfl⟩:∃k,nn=k+1:=⟨nn-1,Ω⟩
  have hi:=drop_nil hd;have j:=dF (q:=(i:Int)<(l.length:Int)) Ω;rw[Gl];simp only[Av,Au,j,Fw,List.append_nil]
 |succ q w=>
  intro r i nn e hd v J S g;obtain⟨k,rfl⟩:∃k,nn=k+1:=⟨nn-1,Ω⟩
  cases r with
  |nil=>
   have hi:=drop_nil hd;have j:=dF (q:=(i:Int)<(l.length:Int)) Ω;rw[Gl];simp only[Av,Au,j,Fw,List.append_nil]
  |cons a T=>
   obtain⟨hi,K,z⟩:=Cl hd;have m:=s a (List.mem_of_getElem? K);have Ef:=congrArg List.length hd;rw[List.length_drop] at Ef;have j:=dT (q:=(i:Int)<(l.length:Int)) Ω;have A:decide ((0:Int)<=(i:Int))=true:=Ψ
   have C:List.getD (Af .u8 l) (Int.toNat (i:Int)*1) PV.top=.sc (.int .u8 a):=by rw[H8,Jy];exact Sr K
   have D:wrap .u64 a=a:=Do
   have E:Dx .u64 a 16=a*65536:=by
    have:=NO (a:=a) (k:=16) m.1 Ω Ω (by simp;omega)
    rw[this];simp
   have G:wrap .i64 ((i:Int)+1)=((i+1:Nat):Int):=Bi
   have H:wrap .i64 ((i:Int)+2)=((i+2:Nat):Int):=Bi
   have L:decide ((0:Int)<=((i+1:Nat):Int))=true:=dT Ω;have U:decide ((0:Int)<=((i+2:Nat):Int))=true:=dT Ω;rw[Gl];cases T with
   |nil=>
    simp only[Ox,SS] at Ef;have o:=dF (q:=((i+1:Nat):Int)<(l.length:Int)) Ω;have c1:=dF (q:=((i+2:Nat):Int)<(l.length:Int)) Ω;have KH:=Apk (u:=u) (d:=d) (p:=p) (ZH:=ZH) (a0:=a0) (m0:=k) (y0:=l.length) (y1:=Af .u8 l) (i:=i) (x:=a*65536) Ω Ω hi Ω 2 Ω 2 0 u e rfl Ω (by simp at g;omega)
    have Pt:=An0 (a:=a) (b:=0) (c:=0) (λx f=>by simp at f;rcases f with rfl|rfl<;>omega) 2 Ω
    rw[show a*65536+0*256+0=a*65536 by omega] at Pt;rw[Pt] at KH;have h:=w [] (i+3) k (e++(LY a 0 0).take 2) (List.drop_eq_nil_of_le Ω) Ω Ψ Ω (by simp[LY] at g ⊢;omega)
    simp only[Av,Au,j,A,C,D,E,G,H,o,c1];refine KH.trans (h.trans ?_);simp[Fw,LY]
   |cons b V=>
    obtain⟨W,M,Ta⟩:=Cl z;have n:=s b (List.mem_of_getElem? M);have o:=dT (q:=((i+1:Nat):Int)<(l.length:Int)) Ω;have N:List.getD (Af .u8 l) (Int.toNat ((i+1:Nat):Int)*1) PV.top=.sc (.int .u8 b):=by rw[H8,Jy];exact Sr M
    have O:wrap .u64 b=b:=Do
    have P:Dx .u64 b 8=b*256:=by
     have:=NO (a:=b) (k:=8) n.1 Ω Ω (by simp;omega)
     rw[this];simp
    have Q:=Bdu m n;cases V with
    |nil=>
     simp only[Ox,SS] at Ef;have c1:=dF (q:=((i+2:Nat):Int)<(l.length:Int)) Ω;have KH:=Apk (u:=u) (d:=d) (p:=p) (ZH:=ZH) (a0:=a0) (m0:=k) (y0:=l.length) (y1:=Af .u8 l) (i:=i) (x:=a*65536+b*256) Ω Ω hi Ω 3 Ω 3 0 u e rfl Ω (by simp at g;omega)
     have Pt:=An0 (a:=a) (b:=b) (c:=0) (λx f=>by simp at f;rcases f with rfl|rfl|rfl<;>omega) 3 Ω
     rw[show a*65536+b*256+0=a*65536+b*256 by omega] at Pt;rw[Pt] at KH;have h:=w [] (i+3) k (e++(LY a b 0).take 3) (List.drop_eq_nil_of_le Ω) Ω Ψ Ω (by simp[LY] at g ⊢;omega)
     simp only[Av,Au,j,A,C,D,E,G,H,o,L,N,O,P,Q,c1];refine KH.trans (h.trans ?_);simp[Fw,LY]
    |cons c t=>
     obtain⟨X,R,I⟩:=Cl Ta;have KI:=s c (List.mem_of_getElem? R);simp only[Ox] at Ef;have c1:=dT (q:=((i+2:Nat):Int)<(l.length:Int)) Ω;have c2:List.getD (Af .u8 l) (Int.toNat ((i+2:Nat):Int)*1) PV.top=.sc (.int .u8 c):=by rw[H8,Jy];exact Sr R
     have Y:wrap .u64 c=c:=Do
     have Z:Vg .u64 (a*65536+b*256) c=a*65536+b*256+c:=by
      have:=Bgi (y:=a*256+b) (c:=c) Ω KI;rw[show (a*256+b)*256=a*65536+b*256 by omega] at this;exact this
     have KH:=Apk (u:=u) (d:=d) (p:=p) (ZH:=ZH) (a0:=a0) (m0:=k) (y0:=l.length) (y1:=Af .u8 l) (i:=i) (x:=a*65536+b*256+c) Ω Ω hi Ω 4 Ω 4 0 u e rfl Ω (by simp at g;omega)
     have Pt:=An0 (a:=a) (b:=b) (c:=c) (λx f=>by simp at f;rcases f with rfl|rfl|rfl<;>omega) 4 Ω
     rw[Pt] at KH;have h:=w t (i+3) k (e++(LY a b c).take 4) I Ω (by simp at J;omega) Ω (by simp[LY] at g ⊢;omega)
     simp only[Av,Au,j,A,C,D,E,G,H,o,L,N,O,P,Q,U,c1,c2,Y,Z];refine KH.trans (h.trans ?_);simp[Fw,LY]
theorem Ao6{l:Ak}(a:Ce l)(b:l.length<=100000)(Bg:10<=u)(DO:l.length+1<=u):Ac (CP p) prog u (d+1) 43 [.lst false 1 l.length (Af .u8 l)]=some ⟨[Bf (Ab (Fw l))],[]⟩:=by
 rw[V4];have:=A2m (u:=u) (d:=d) (p:=p) (ZH:=l.length) (a0:=Af .u8 l) a b Bg l.length l 0 u [] rfl Ω (Cg _) DO (by simp;omega)
 exact this
theorem A4f:∀{l:Ak},Ce l->Ce (Fw l)
 |[],_=>λx d=>nomatch d
 |[a],h=>by
  obtain⟨f,_⟩:=Ca h;intro x d;simp[Fw] at d;rcases d with rfl|rfl<;>apply Aa4<;>omega
 |[a,b],h=>by
  obtain⟨f,h⟩:=Ca h;obtain⟨g,_⟩:=Ca h;intro x d;simp[Fw] at d;rcases d with rfl|rfl|rfl<;>apply Aa4<;>omega
 |a::b::c::r,h=>by
  obtain⟨f,h⟩:=Ca h;obtain⟨g,h⟩:=Ca h;obtain⟨i,h⟩:=Ca h;intro x d;have e:Fw (a::b::c::r)=J9 (a / 4)::J9 (a % 4*16+b / 16)::J9 (b % 16*4+c / 64)::J9 (c % 64)::Fw r:=rfl;rw[e] at d;rcases List.mem_cons.1 d with rfl|d
  ·apply Aa4<;>omega
  rcases List.mem_cons.1 d with rfl|d
  ·apply Aa4<;>omega
  rcases List.mem_cons.1 d with rfl|d
  ·apply Aa4<;>omega
  rcases List.mem_cons.1 d with rfl|d
  ·apply Aa4<;>omega
  exact A4f h x d
def fI(c:Int):Ak->Int->Int
 |[],_=>64
 |x::r,i=>if x=c then i else fI c r (i+1)
theorem A70:∀n:Fin 256,fI (n.val:Int) (Ci Z4) 0=Bo (n.val:Int):=by decide +kernel
theorem Ap4{F:Ao}{a0 c:Int}:∀(r:Ak)(i nn:Nat),(Ci Z4).drop i=r->r.length+1<=nn->i<=64 ->
  Hf u F a0 nn c (i:Int)=some ⟨[Ag (fI c r i)],[]⟩
 |[],i,nn,hd,m,hi=>by
  obtain⟨k,rfl⟩:∃k,nn=k+1:=⟨nn-1,Ω⟩
  have h:=drop_nil hd;have f:(Ci Z4).length=64:=rfl;have a:=dF (q:=(i:Int)<64) Ω;rw[M9];simp only[Av,Au,a];rfl
 |x::r,i,nn,hd,m,hi=>by
  obtain⟨k,rfl⟩:∃k,nn=k+1:=⟨nn-1,Ω⟩
  obtain⟨p,g,j⟩:=Cl hd;have f:(Ci Z4).length=64:=rfl;have s:=Ap4 (F:=F) (a0:=a0) (c:=c) r (i+1) k j (by simp at m;omega) Ω
  have a:=dT (q:=(i:Int)<64) Ω;have n:decide ((0:Int)<=(i:Int))=true:=Ψ
  obtain⟨b,l,rfl⟩:∃b:UInt8,(Array.toList Z4.data)[i]?=some b/\(b.toNat:Int)=x:=by
   unfold Ci at g;rw[List.getElem?_map] at g;obtain⟨b,l,h⟩:=Option.map_eq_some_iff.1 g;exact⟨b,l,h⟩
  have o:(Array.toList Z4.data)[Int.toNat (i:Int)]?=some b:=by rw[H8];exact l
  have t:wrap .u64 (i:Int)=(i:Int):=Do;have v:wrap .i64 ((i:Int)+1)=((i+1:Nat):Int):=Bi
  have w:(ByteArray.mk #[65,66,67,68,69,70,71,72,73,74,75,76,77,78,79,80,81,82,83,84,85,86,87,88,89,90,97,98,99,100,101,102,103,104,105,106,107,108,109,110,111,112,113,114,115,116,117,118,119,120,121,122,48,49,50,51,52,53,54,55,56,57,45,95])=Z4:=rfl;rw[M9,w];by_cases d:(b.toNat:Int)=c
  ·have q:((b.toNat:Int)==c)=true:=by simp[d]
   have e:fI c ((b.toNat:Int)::r) i=i:=by
    show (if (b.toNat:Int)=c then (i:Int) else _)=_;rw[Bq d]
   rw[e];simp only[Av,Au,a,n,o,q,t]
  ·have q:((b.toNat:Int)==c)=false:=by simp[d]
   have e:fI c ((b.toNat:Int)::r) i=fI c r ((i+1:Nat):Int):=by
    show (if (b.toNat:Int)=c then (i:Int) else fI c r ((i:Int)+1))=_;rw[Bb d];rfl
   rw[e];simp only[Av,Au,a,n,o,q,v];exact s
theorem A67{c:Int}(a:0<=c/\c<=255)(Bg:100<=u):Ac (CP p) prog u (d+1) 147 [.sc (.int .u8 c)]=some ⟨[Ag (Bo c)],[]⟩:=by
 rw[EG];have h:=Ap4 (u:=u) (F:=Ac (CP p) prog u d) (a0:=c) (c:=c) (Ci Z4) 0 u rfl (by have:(Ci Z4).length=64:=rfl;omega) Ω
 refine h.trans ?_;obtain⟨n,rfl⟩:=Int.eq_ofNat_of_zero_le a.1;have:=A70 ⟨n,Ω⟩;have e:fI ((n:Nat):Int) (Ci Z4) ((0:Nat):Int)=Bo ((n:Nat):Int):=this;rw[e]
theorem Ala:∀{l:Ak}{n bits:Int}{b:Ak},Qp n bits l=some b->Ce b
 |[],_,_,_,h=>by cases h;exact λx a=>nomatch a
 |c::r,n,bits,b,h=>by
  unfold Qp at h;split at h
  ·cases h
  split at h
  ·cases d:Qp ((n*64+Bo c) % 65536) (bits-2) r with
   |none=>rw[d] at h;cases h
   |some e=>
    rw[d] at h;cases h;intro x a;rcases List.mem_cons.1 a with rfl|a
    ·omega
    ·exact Ala d x a
  ·exact Ala h
theorem A02(l:Ak):Ly l=match Qp 0 0 l with|none=>none|some b=>if Fw b=l then some b else none:=by
 cases hd:Ly l with
 |some b=>
  obtain⟨a,d⟩:=Aqe hd;have c:=Ao8 d 0 Ω;rw[a] at c;rw[c];simp only[a,if_true]
 |none=>
  cases e:Qp 0 0 l with
  |none=>rfl
  |some b=>
   simp only;split
   ·rename_i h;have:=Afk (Ala e);rw[h,hd] at this;cases this
   ·rfl
theorem Bic{n v:Int}(b:0<=n/\n<65536)(e:0<=v/\v<64):Vg .u64 (Dx .u64 n 6) v=n*64+v:=by
 have h:=NO (a:=n) (k:=6) b.1 Ω Ω (by simp;omega)
 have d:Dx .u64 n 6=n*64:=by rw[h];simp
 rw[d];obtain⟨n,rfl⟩:=Int.eq_ofNat_of_zero_le b.1;have:=(GA (a:=v) (c:=(n:Int)*64) 6 n Ω (by simp;omega) Ψ Ω).2
 rw[this];omega
theorem Adv{a0:ByteArray}{l:Ak}(C:Ce l)(M:l.length<=100000)(Bg:100<=u)(DO:l.length+1<=u):∀(r:Ak)(i nn:Nat)(n bits:Int)(a:Ak),l.drop i=r->r.length+1<=nn->0<=n->n<65536->(bits=0\/bits=2\/bits=4\/bits=6)->a.length+r.length<=l.length->Ce a ->
  Ea u (Ac (CP p) prog u (d+1)) a0 nn (Ab l) a.length n bits (i:Int) (Af .u8 a)=some (match Qp n bits r with|none=>⟨[.own 1 0 [],A0 2],[]⟩|some b=>if Fw (a++b)=l then ⟨[.own 1 (a++b).length (Af .u8 (a++b)),A0 0],[]⟩ else ⟨[.own 1 0 [],A0 2],[]⟩)
 |[],i,nn,n,bits,a,hd,H,N,O,V,j,f=>by
  obtain⟨k,rfl⟩:∃k,nn=k+1:=⟨nn-1,Ω⟩
  have hi:=drop_nil hd;have o:=dF (q:=(i:Int)<(((Ab l).size:Nat):Int)) (by rw[Ai];omega)
  have s:decide (0+a.length*1<=List.length (Af .u8 a))=true:=by rw[Am];simp
  have w:decide (a.length*1<=List.length (Af .u8 a))=true:=by rw[Am];simp
  have t:List.take (a.length*1) (List.drop 0 (Af .u8 a))=Af .u8 a:=Jo (by rw[Nr,Am];omega)
  have z:List.take (a.length*1) (Af .u8 a)=Af .u8 a:=Jo (by rw[Am];omega)
  have e:Ac (CP p) prog u (d+1) 43 [.lst false 1 a.length (Af .u8 a)]=_:=Ao6 (u:=u) (d:=d) (p:=p) f (by simp at j;omega) Ω (by simp at j;omega)
  rw[Jg];have I:Qp n bits []=some []:=rfl;rw[I];simp only[List.append_nil];by_cases m:Fw a=l
  ·have q:(Array.toList (Ab (Fw a)).data==Array.toList (Ab l).data)=true:=by rw[m];simp
   rw[Bq m];simp only[Av,Au,o,s,w,t,z,e,q,Es]
  ·have q:(Array.toList (Ab (Fw a)).data==Array.toList (Ab l).data)=false:=by
    rw[Bool.eq_false_iff,ne_eq,beq_iff_eq];intro h;apply m
    have W:Ab (Fw a)=Ab l:=by
     cases J:Ab (Fw a);cases P:Ab l;rw[J,P] at h;exact congrArg ByteArray.mk (Array.toList_inj.1 h)
    have X:=congrArg Ci W
    rwa [Ct C,Ct (A4f f)] at X
   rw[Bb m];simp only[Av,Au,o,s,w,t,z,e,q,Gg]
 |c::r,i,nn,n,bits,a,hd,H,N,O,V,j,f=>by
  obtain⟨k,rfl⟩:∃k,nn=k+1:=⟨nn-1,Ω⟩
  obtain⟨hi,m,A⟩:=Cl hd;have KI:=C c (List.mem_of_getElem? m);have Y:=It c;have e:Ac (CP p) prog u (d+1) 147 [.sc (.int .u8 c)]=_:=A67 (u:=u) (d:=d) (p:=p) KI Bg;have o:=dT (q:=(i:Int)<(((Ab l).size:Nat):Int)) (by rw[Ai];omega)
  have s:decide ((0:Int)<=(i:Int))=true:=Ψ
  have t:(Array.toList (Ab l).data)[Int.toNat (i:Int)]?=some c.toNat.toUInt8:=by
   rw[H8];show (l.map λn=>n.toNat.toUInt8)[i]?=_;rw[List.getElem?_map,m];rfl
  have K:=M2 KI;have Q:wrap .i64 ((i:Int)+1)=((i+1:Nat):Int):=Bi
  have I:Qp n bits (c::r)=if Bo c>63 then none else if bits+6>=8 then (Qp ((n*64+Bo c) % 65536) (bits-2) r).map (((n*64+Bo c) % 65536 / 2 ^ (bits-2).toNat % 256) :: ·) else Qp ((n*64+Bo c) % 65536) (bits+6) r:=rfl
  rw[Jg,I];by_cases g:Bo c>63
  ·have D:=dT g;rw[Bq g];simp only[Av,Au,o,s,t,K,e,D]
  ·have D:=dF g;have R:=Bic (n:=n) (v:=Bo c) ⟨N,O⟩ ⟨Y.1,Ω⟩;have S:=Arr (x:=n*64+Bo c) Ω Ω;have T:wrap .u64 (bits+6)=bits+6:=Do;rw[Bb g];by_cases E:bits+6>=8
   ·have L:=dT E;have Z:wrap .u64 (bits+6-8)=bits-2:=by rw[Do];omega
    have b7:=dT (q:=(0:Int)<=bits-2) Ω
    have b8:Gs .u64 ((n*64+Bo c) % 65536) (bits-2)=(n*64+Bo c) % 65536 / 2 ^ (bits-2).toNat:=by
     have:=A43 (x:=(n*64+Bo c) % 65536) (k:=(bits-2).toNat) Ω;rw[show (((bits-2).toNat:Nat):Int)=bits-2 by omega] at this;rw[this];simp
    have U:wrap .u8 ((n*64+Bo c) % 65536 / 2 ^ (bits-2).toNat)=(n*64+Bo c) % 65536 / 2 ^ (bits-2).toNat % 256:=by
     simp only[wrap,IntKind.bits,IntKind.signed,NT,Bool.false_eq_true,if_false];rfl
    generalize P:(n*64+Bo c) % 65536 / 2 ^ (bits-2).toNat % 256=y at U;have hyB:0<=y/\y<=255:=Ω
    have c1:decide (a.length*1<=List.length (Af .u8 a))=true:=by rw[Am];simp
    have c2:=dT (q:=(a.length+1)*1<=1099511627776) (by simp at j;omega)
    have c3:=dT (q:=a.length+1<=1099511627776) (by simp at j;omega)
    have c4:List.take (a.length*1) (Af .u8 a)++[PV.sc (.int .u8 y)]=Af .u8 (a++[y]):=by
     rw[Jo (by rw[Am];omega)]
     exact Mh .u8 a y
    have G:=Adv (a0:=a0) C M Bg DO r (i+1) k ((n*64+Bo c) % 65536) (bits-2) (a++[y]) A (by simp at H;omega) Ω Ω Ω (by simp at j ⊢;omega) (P4 f (λx J=>by simp at J;omega))
    rw[show (a++[y]).length=a.length+1 by simp] at G;rw[Bq E];simp only[Av,Au,o,s,t,K,e,D,R,S,T,L,Z,b7,b8,U,c1,c2,c3,c4,Q];refine G.trans ?_;cases Qp ((n*64+Bo c) % 65536) (bits-2) r with
    |none=>rfl
    |some b=>simp
   ·have L:=dF E;have G:=Adv (a0:=a0) C M Bg DO r (i+1) k ((n*64+Bo c) % 65536) (bits+6) a A (by simp at H;omega) Ω Ω Ω (by simp at j ⊢;omega) f
    rw[Bb E];simp only[Av,Au,o,s,t,K,e,D,R,S,T,L,Q];exact G
theorem A16{l:Ak}(a:Ce l)(c:l.length<=100000)(Bg:100<=u)(DO:l.length+1<=u):Ac (CP p) prog u (d+2) 127 [Bf (Ab l)]=some (match Ly l with|none=>⟨[.own 1 0 [],A0 2],[]⟩|some b=>⟨[.own 1 b.length (Af .u8 b),A0 0],[]⟩):=by
 rw[V6];have h:=Adv (u:=u) (d:=d) (p:=p) (a0:=Ab l) a c Bg DO l 0 u 0 0 [] rfl DO Ω Ω (.inl rfl) Ψ (λx e=>nomatch e);refine h.trans ?_;rw[A02];cases Qp 0 0 l with
 |none=>rfl
 |some b=>
  simp only[Zzq];split<;>rfl
end
section
variable {B:FuncId->Option (Ae->Option A8)}(u d:Nat)(F:Ao)
theorem NK{p:Option (Ae->Option A8)}(u d Z:Nat)(Y:Ae):Ac (CP p) prog u (d+1) 5 [Ap 1 Z Y]=(λ(F:Ao)=>Bd [.pbox [Ap 1 Z Y,(0:Int)]]) (Ac (CP p) prog u d):=Κ
theorem LE{p:Option (Ae->Option A8)}(u d:Nat)(Z Y:Int):Ac (CP p) prog u (d+1) 39 [Z,Y]=(λ(F:Ao)=>Aa (wrap .u64 Z) λa=>Aa (wrap .u64 Y) λb=>Aw (decide (b≠0))<|Aa (Int.tmod a b) λa=>Aa (wrap .i64 a) λa=>Bd [a]) (Ac (CP p) prog u d):=Κ
theorem Iq{p:Option (Ae->Option A8)}(u d Z:Nat)(Y:Ae)(X W:Int):Ac (CP p) prog u (d+1) 15 [.pbox [Ap 1 Z Y,X],W]=(λ(F:Ao)=>Aq (decide (X>=(↑Z:Int))) (some ⟨[(0:Int)],[[Ap 1 Z Y,X]]⟩) (Aa (wrap .i64 (X+1)) λa=>Aa (wrap .i64 (a-1)) λb=>Aw (decide (0<=b)&&decide (b<(↑Z:Int)))<|Bn .i64 (Y.getD (b.toNat*1) .top) λb=>Gm .i64 (F 39 [b,W]) λb=>some ⟨[b],[[Ap 1 Z Y,a]]⟩)) (Ac (CP p) prog u d):=Κ
end
section
variable {B:FuncId->Option (Ae->Option A8)}(u d:Nat)(F:Ao)
theorem GO{p:Option (Ae->Option A8)}(u d:Nat)(Y Z:Int):Ac (CP p) prog u (d+1) 9 [Y,Z]=(λ(F:Ao)=>Aa (wrap .u64 Y) λa=>Aa (wrap .u64 (a+1)) λa=>Aa (if 1024<Z then 1024 else Z) λb=>Aa (if b<0 then 0 else b) λb=>De (F 25 [Ag a,Ag 7,b]) λa b=>Na 1 a λa c=>Ah b<|Aw (decide (a*1<=c.length))<|Bd [.own 1 a (c.take (a*1))]) (Ac (CP p) prog u d):=Κ
end
section
variable {B:FuncId->Option (Ae->Option A8)}(u d:Nat)(F:Ao)
theorem Xt{p:Option (Ae->Option A8)}(u d:Nat)(Z:ByteArray)(Y X W:Int):Ac (CP p) prog u (d+1) 145 [.pbox [Z,Y,X],W]=(λ(F:Ao)=>Aq (X==0) (some ⟨[],[[Z,Y,W]]⟩) (some ⟨[],[[Z,Y,X]]⟩)) (Ac (CP p) prog u d):=Κ
theorem Xb{p:Option (Ae->Option A8)}(u d:Nat)(Y:ByteArray)(Z X:Int):Ac (CP p) prog u (d+1) 143 [.pbox [Y,Z,X]]=(λ(F:Ao)=>(λb:Option A8=>Aq (X != 0) b (Aq (decide (Z>=(↑(ByteArray.size Y):Int))) b (Aw (decide (0<=Z))<|Dj ((Array.toList (ByteArray.data Y))[Z.toNat]?) λa=>some ⟨[.sc (.int .u8 (↑(UInt8.toNat a):Int))],[[Y,Z,X]]⟩))) (some ⟨[.sc (.int .u8 0)],[[Y,Z,X]]⟩)) (Ac (CP p) prog u d):=Κ
def E7(Z:ByteArray)(Y X:Int)(W:Nat)(V:ByteArray)(U T:Int):Option A8:=H6 u F 141 Tryz.f141 [.pbox [Z,Y,X]] [.l] W ⟨lk [(0,.ptr 52000 0)],Fe [(52000,.st [V,U,T])]⟩
theorem Rv(Z:ByteArray)(Y X:Int)(W:Nat)(V:ByteArray)(U T:Int):E7 u F Z Y X (W+1) V U T=(An (F 143 [.pbox [V,U,T]]) λa b=>Br .u8 a λa=>Ad b λb c=>Ad b λb e=>As b λb=>Bw .i64 e λe f=>Br .i64 f λf=>(λg:Option A8=>Ah c<|Aq (a != 32) (Aq (a != 9) (Aq (a != 10) (Aq (a != 13) (some ⟨[],[[b,e,f]]⟩) g) g) g) g) (Aa (wrap .i64 (e+1)) λa=>E7 u F Z Y X W b a f)):=Κ
theorem Vp{p:Option (Ae->Option A8)}(u d:Nat)(Z:ByteArray)(Y X:Int):Ac (CP p) prog u (d+1) 141 [.pbox [Z,Y,X]]=(λ(F:Ao)=>E7 u F Z Y X u Z Y X) (Ac (CP p) prog u d):=Κ
theorem T6{p:Option (Ae->Option A8)}(u d:Nat)(Y:ByteArray)(X W Z:Int):Ac (CP p) prog u (d+1) 142 [.pbox [Y,X,W],.sc (.int .u8 Z)]=(λ(F:Ao)=>An (F 143 [.pbox [Y,X,W]]) λa b=>Br .u8 a λa=>Ad b λb c=>Ad b λb e=>As b λb=>Bw .i64 e λe f=>Br .i64 f λf=>(λg:Option A8=>Ah c<|Aq (a != Z) g (Aq (Z==0) g (Aa (wrap .i64 (e+1)) λa=>some ⟨[],[[b,a,f]]⟩))) (An (F 145 [.pbox [b,e,f],(2:Int)]) λa b=>Ah a<|Ad b λa b=>Ad a λa c=>As a λa=>Bw .i64 c λc e=>Br .i64 e λe=>Ah b<|some ⟨[],[[a,c,e]]⟩)) (Ac (CP p) prog u d):=Κ
def Du(Z:ByteArray)(Y X:Int)(W:Nat)(V U:Int)(T:ByteArray)(S Q:Int):Option A8:=H6 u F 177 Tryz.f177 [.pbox [Z,Y,X]] [.r,.r,.l,.r,.l] W ⟨lk [(0,.ptr 118000 0),(3,.sc (.int .i32 V)),(4,U)],Fe [(118000,.st [T,S,Q])]⟩
theorem Kl(X:ByteArray)(W V:Int)(U:Nat)(Z Y:Int)(T:ByteArray)(S Q:Int):Du u F X W V (U+1) Z Y T S Q=(Aq (decide (Y<4)) (An (F 143 [.pbox [T,S,Q]]) λa b=>Br .u8 a λa=>Ad b λb c=>Ad b λb e=>As b λb=>Bw .i64 e λe f=>Br .i64 f λf=>Ah c<|De (F 121 [.sc (.int .u8 a)]) λc g=>Be c λc=>(λi:Option A8=>(λh:Option A8=>Ah g<|Aq c (Aa (Dx .i32 Z 4) λc=>Aa (wrap .u8 (a-48)) λa=>Aa (wrap .i32 a) λa=>Aa (Vg .i32 c a) λa=>Aa (wrap .i64 (e+1)) λc=>Aa (wrap .i64 (Y+1)) λe=>Du u F X W V U a e b c f) (Aq (decide (a>=97)) (Aq (decide (a<=102)) (Aa (Dx .i32 Z 4) λc=>Aa (wrap .u8 (a-97)) λa=>Aa (wrap .u8 (a+10)) λa=>Aa (wrap .i32 a) λa=>Aa (Vg .i32 c a) λa=>Aa (wrap .i64 (e+1)) λc=>Aa (wrap .i64 (Y+1)) λe=>Du u F X W V U a e b c f) h) h)) (Aq (decide (a>=65)) (Aq (decide (a<=70)) (Aa (Dx .i32 Z 4) λc=>Aa (wrap .u8 (a-65)) λa=>Aa (wrap .u8 (a+10)) λa=>Aa (wrap .i32 a) λa=>Aa (Vg .i32 c a) λa=>Aa (wrap .i64 (e+1)) λc=>Aa (wrap .i64 (Y+1)) λe=>Du u F X W V U a e b c f) i) i)) (An (F 145 [.pbox [b,e,f],(2:Int)]) λa b=>Ah a<|Ad b λa b=>Ad a λa c=>As a λa=>Bw .i64 c λc e=>Br .i64 e λe=>Ah b<|some ⟨[.sc (.int .i32 0)],[[a,c,e]]⟩)) (some ⟨[.sc (.int .i32 Z)],[[T,S,Q]]⟩)):=Κ
theorem X9{p:Option (Ae->Option A8)}(u d:Nat)(Z:ByteArray)(Y X:Int):Ac (CP p) prog u (d+1) 177 [.pbox [Z,Y,X]]=(λ(F:Ao)=>Du u F Z Y X u 0 0 Z Y X) (Ac (CP p) prog u d):=Κ
theorem Uz{p:Option (Ae->Option A8)}(u d:Nat)(Z:ByteArray)(Y X:Int):Ac (CP p) prog u (d+1) 159 [.pbox [Z,Y,X]]=(λ(F:Ao)=>An (F 143 [.pbox [Z,Y,X]]) λa b=>Br .u8 a λa=>Ad b λb c=>Ad b λb e=>As b λb=>Bw .i64 e λe f=>Br .i64 f λf=>Ah c<|Aa (wrap .i64 (e+1)) λc=>(λk:Option A8=>Aq (a==34) k (Aq (a==92) k (Aq (a==47) k (Aq (a==98) (some ⟨[Bf ⟨#[8]⟩],[[b,c,f]]⟩) (Aq (a==102) (some ⟨[Bf ⟨#[12]⟩],[[b,c,f]]⟩) (Aq (a==110) (some ⟨[Bf ⟨#[10]⟩],[[b,c,f]]⟩) (Aq (a==114) (some ⟨[Bf ⟨#[13]⟩],[[b,c,f]]⟩) (Aq (a==116) (some ⟨[Bf ⟨#[9]⟩],[[b,c,f]]⟩) (Aq (a==117) (An (F 177 [.pbox [b,c,f]]) λa b=>Br .i32 a λa=>Ad b λb c=>Ad b λb e=>As b λb=>Bw .i64 e λe f=>Br .i64 f λf=>(λn:Option A8=>(λh:Option A8=>Ah c<|Aq (decide (a>=56320)) (Aq (decide (a<=57343)) (An (F 145 [.pbox [b,e,f],(2:Int)]) λb c=>Ah b<|Ad c λb c=>Ad b λb e=>As b λb=>Bw .i64 e λe f=>Br .i64 f λf=>(λm:Option A8=>Ah c<|Aq (decide (a>=55296)) (Aq (decide (a<=56319)) (An (F 142 [.pbox [b,e,f],.sc (.int .u8 92)]) λb c=>Ah b<|Ad c λb c=>Ad b λb e=>As b λb=>Bw .i64 e λe f=>Br .i64 f λf=>Ah c<|An (F 142 [.pbox [b,e,f],.sc (.int .u8 117)]) λb c=>Ah b<|Ad c λb c=>Ad b λb e=>As b λb=>Bw .i64 e λe f=>Br .i64 f λf=>Ah c<|An (F 177 [.pbox [b,e,f]]) λb c=>Br .i32 b λb=>Ad c λc e=>Ad c λc f=>As c λc=>Bw .i64 f λf g=>Br .i64 g λg=>(λi:Option A8=>Ah e<|Aq (decide (b<56320)) i (Aq (decide (b>57343)) i (Aa (wrap .i32 (a-55296)) λa=>Aa (Dx .i32 a 10) λa=>Aa (wrap .i32 (65536+a)) λa=>Aa (wrap .i32 (b-56320)) λb=>Aa (wrap .i32 (a+b)) λa=>Aa (runesBytes ((λx=>a::x) [])) λa=>some ⟨[a],[[c,f,g]]⟩))) (An (F 145 [.pbox [c,f,g],(2:Int)]) λa b=>Ah a<|Ad b λa b=>Ad a λa c=>As a λa=>Bw .i64 c λc e=>Br .i64 e λe=>Ah b<|some ⟨[Bf ⟨#[]⟩],[[a,c,e]]⟩)) m) m) (Aa (runesBytes ((λx=>a::x) [])) λa=>some ⟨[a],[[b,e,f]]⟩)) h) h) (Aq (decide (a>=55296)) (Aq (decide (a<=56319)) (An (F 142 [.pbox [b,e,f],.sc (.int .u8 92)]) λb c=>Ah b<|Ad c λb c=>Ad b λb e=>As b λb=>Bw .i64 e λe f=>Br .i64 f λf=>Ah c<|An (F 142 [.pbox [b,e,f],.sc (.int .u8 117)]) λb c=>Ah b<|Ad c λb c=>Ad b λb e=>As b λb=>Bw .i64 e λe f=>Br .i64 f λf=>Ah c<|An (F 177 [.pbox [b,e,f]]) λb c=>Br .i32 b λb=>Ad c λc e=>Ad c λc f=>As c λc=>Bw .i64 f λf g=>Br .i64 g λg=>(λj:Option A8=>Ah e<|Aq (decide (b<56320)) j (Aq (decide (b>57343)) j (Aa (wrap .i32 (a-55296)) λa=>Aa (Dx .i32 a 10) λa=>Aa (wrap .i32 (65536+a)) λa=>Aa (wrap .i32 (b-56320)) λb=>Aa (wrap .i32 (a+b)) λa=>Aa (runesBytes ((λx=>a::x) [])) λa=>some ⟨[a],[[c,f,g]]⟩))) (An (F 145 [.pbox [c,f,g],(2:Int)]) λa b=>Ah a<|Ad b λa b=>Ad a λa c=>As a λa=>Bw .i64 c λc e=>Br .i64 e λe=>Ah b<|some ⟨[Bf ⟨#[]⟩],[[a,c,e]]⟩)) n) n)) (Aa (runesBytes ((λx=>a::x) [])) λa=>some ⟨[a],[[b,e,f]]⟩)) (An (F 145 [.pbox [b,c,f],(2:Int)]) λa b=>Ah a<|Ad b λa b=>Ad a λa c=>As a λa=>Bw .i64 c λc e=>Br .i64 e λe=>Ah b<|some ⟨[Bf ⟨#[]⟩],[[a,c,e]]⟩)))))))))) (some ⟨[Bf (ByteArray.mk (List.toArray ((λx=>Nat.toUInt8 a.toNat::x) [])))],[[b,c,f]]⟩)) (Ac (CP p) prog u d):=Κ
def Dq(Z:ByteArray)(Y X:Int)(W:Nat)(V U:ByteArray)(T S:Int):Option A8:=H6 u F 144 Tryz.f144 [.pbox [Z,Y,X]] [.r,.r,.r,.l,.l] W ⟨lk [(0,.ptr 134000 0),(3,V)],Fe [(134000,.st [U,T,S])]⟩
theorem G1(V:ByteArray)(U T:Int)(S:Nat)(W Z:ByteArray)(Y X:Int):Dq u F V U T (S+1) W Z Y X=(Aq (X==0) (Aq (decide (Y>=(↑(ByteArray.size Z):Int))) (An (F 145 [.pbox [Z,Y,X],(2:Int)]) λa b=>Ah a<|Ad b λa b=>Ad a λa c=>As a λa=>Bw .i64 c λc e=>Br .i64 e λe=>Ah b<|some ⟨[Bf ⟨#[]⟩],[[a,c,e]]⟩) (Aw (decide (0<=Y))<|Dj ((Array.toList (ByteArray.data Z))[Y.toNat]?) λa=>Aq (decide ((↑(UInt8.toNat a):Int)<32)) (An (F 145 [.pbox [Z,Y,X],(2:Int)]) λa b=>Ah a<|Ad b λa b=>Ad a λa c=>As a λa=>Bw .i64 c λc e=>Br .i64 e λe=>Ah b<|some ⟨[Bf ⟨#[]⟩],[[a,c,e]]⟩) (Aw (decide (0<=Y))<|Dj ((Array.toList (ByteArray.data Z))[Y.toNat]?) λa=>Aa (wrap .i64 (Y+1)) λb=>Aq ((↑(UInt8.toNat a):Int)==34) (some ⟨[W],[[Z,b,X]]⟩) (Aq ((↑(UInt8.toNat a):Int)==92) (An (F 159 [.pbox [Z,b,X]]) λa b=>Ad a λa c=>As a λa=>Ah c<|Ad b λb c=>Ad b λb e=>As b λb=>Bw .i64 e λe f=>Br .i64 f λf=>Ah c<|Aw (decide (ByteArray.size W+ByteArray.size a<=9223372036854775807))<|Aa (W++a) λa=>Dq u F V U T S a b e f) (Aw (decide (ByteArray.size W+ByteArray.size (ByteArray.mk (List.toArray ((λx=>Nat.toUInt8 (Int.toNat (↑(UInt8.toNat a):Int))::x) [])))<=9223372036854775807))<|Aa (W++ByteArray.mk (List.toArray ((λx=>Nat.toUInt8 (Int.toNat (↑(UInt8.toNat a):Int))::x) []))) λa=>Dq u F V U T S a Z b X))))) (some ⟨[Bf ⟨#[]⟩],[[Z,Y,X]]⟩)):=Κ
theorem X4{p:Option (Ae->Option A8)}(u d:Nat)(Z:ByteArray)(Y X:Int):Ac (CP p) prog u (d+1) 144 [.pbox [Z,Y,X]]=(λ(F:Ao)=>An (F 142 [.pbox [Z,Y,X],.sc (.int .u8 34)]) λa b=>Ah a<|Ad b λa b=>Ad a λa c=>As a λa=>Bw .i64 c λc e=>Br .i64 e λe=>Ah b<|Dq u F Z Y X u (ByteArray.mk #[]) a c e) (Ac (CP p) prog u d):=Κ
def Fs(Z:ByteArray)(Y X:Int)(W:ByteArray)(V:Nat)(U:ByteArray)(T:Int)(S:ByteArray)(Q P:Int):Option A8:=H6 u F 161 Tryz.f161 [.pbox [Z,Y,X],W] [.r,.l] V ⟨lk [(0,.ptr 32000 0),(1,U),(4,T)],Fe [(32000,.st [S,Q,P])]⟩
theorem J4(U:ByteArray)(T S:Int)(Q:ByteArray)(P:Nat)(Y:ByteArray)(Z:Int)(X:ByteArray)(W V:Int):Fs u F U T S Q (P+1) Y Z X W V=(Aq (decide (Z<(↑(ByteArray.size Y):Int))) (Aw (decide (0<=Z))<|Dj ((Array.toList (ByteArray.data Y))[Z.toNat]?) λa=>An (F 142 [.pbox [X,W,V],.sc (.int .u8 (↑(UInt8.toNat a):Int))]) λa b=>Ah a<|Ad b λa b=>Ad a λa c=>As a λa=>Bw .i64 c λc e=>Br .i64 e λe=>Ah b<|Aa (wrap .i64 (Z+1)) λb=>Fs u F U T S Q P Y b a c e) (some ⟨[],[[X,W,V]]⟩)):=Κ
theorem Xr{p:Option (Ae->Option A8)}(u d:Nat)(Z:ByteArray)(Y X:Int)(W:ByteArray):Ac (CP p) prog u (d+1) 161 [.pbox [Z,Y,X],W]=(λ(F:Ao)=>Fs u F Z Y X W u W 0 Z Y X) (Ac (CP p) prog u d):=Κ
def D3(Z:ByteArray)(Y X:Int)(W:Nat)(V:ByteArray)(U T:Int):Option A8:=H6 u F 178 Tryz.f178 [.pbox [Z,Y,X]] [.r,.l] W ⟨lk [(0,.ptr 36000 0)],Fe [(36000,.st [V,U,T])]⟩
theorem Qv(Z:ByteArray)(Y X:Int)(W:Nat)(V:ByteArray)(U T:Int):D3 u F Z Y X (W+1) V U T=(An (F 143 [.pbox [V,U,T]]) λa b=>Br .u8 a λa=>Ad b λb c=>Ad b λb e=>As b λb=>Bw .i64 e λe f=>Br .i64 f λf=>Ah c<|De (F 121 [.sc (.int .u8 a)]) λa c=>Be a λa=>Ah c<|Aq a (Aa (wrap .i64 (e+1)) λa=>D3 u F Z Y X W b a f) (some ⟨[],[[b,e,f]]⟩)):=Κ
theorem Tv{p:Option (Ae->Option A8)}(u d:Nat)(Z:ByteArray)(Y X:Int):Ac (CP p) prog u (d+1) 178 [.pbox [Z,Y,X]]=(λ(F:Ao)=>An (F 143 [.pbox [Z,Y,X]]) λa b=>Br .u8 a λa=>Ad b λb c=>Ad b λb e=>As b λb=>Bw .i64 e λe f=>Br .i64 f λf=>Ah c<|De (F 121 [.sc (.int .u8 a)]) λa c=>Be a λa=>Ah c<|Aq (!a) (An (F 145 [.pbox [b,e,f],(2:Int)]) λa b=>Ah a<|Ad b λa b=>Ad a λa c=>As a λa=>Bw .i64 c λc e=>Br .i64 e λe=>Ah b<|D3 u F Z Y X u a c e) (D3 u F Z Y X u b e f)) (Ac (CP p) prog u d):=Κ
def Dc(Z:ByteArray)(Y X:Int)(W:Nat)(V:ByteArray)(U T:Int):Option A8:=H6 u F 162 Tryz.f162 [.pbox [Z,Y,X]] [.r] W ⟨lk [(0,.ptr 140000 0)],Fe [(140000,.st [V,U,T])]⟩
def E1(Z:ByteArray)(Y X:Int)(W:Nat)(V:ByteArray)(U T:Int):Option A8:=H6 u F 162 Tryz.f162 [.pbox [Z,Y,X]] [.r,.r] W ⟨lk [(0,.ptr 140000 0)],Fe [(140000,.st [V,U,T])]⟩
theorem Qs(Y:ByteArray)(X W:Int)(Z:Nat)(F7:0<Z)(V:ByteArray)(U T:Int):Dc u F Y X W Z V U T=(An (F 143 [.pbox [V,U,T]]) λa b=>Br .u8 a λa=>Ad b λb c=>Ad b λb e=>As b λb=>Bw .i64 e λe f=>Br .i64 f λf=>Ah c<|Aq (a==46) (Aa (wrap .i64 (e+1)) λa=>An (F 178 [.pbox [b,a,f]]) λa b=>Ah a<|Ad b λa b=>Ad a λa c=>As a λa=>Bw .i64 c λc e=>Br .i64 e λe=>Ah b<|E1 u F Y X W u a c e) (E1 u F Y X W u b e f)):=by cases Z with|zero=>exact absurd F7 (Nat.lt_irrefl 0)|succ Z=>kernel_rfl
theorem Qq(V:ByteArray)(U T:Int)(Z:Nat)(F7:0<Z)(Y:ByteArray)(X W:Int):E1 u F V U T Z Y X W=(An (F 143 [.pbox [Y,X,W]]) λa b=>Br .u8 a λa=>Ad b λb c=>Ad b λb e=>As b λb=>Bw .i64 e λe f=>Br .i64 f λf=>(λg:Option A8=>Ah c<|Aq (a==101) g (Aq (a==69) g (some ⟨[],[[b,e,f]]⟩))) (Aa (wrap .i64 (e+1)) λa=>An (F 143 [.pbox [b,a,f]]) λa b=>Br .u8 a λa=>Ad b λb c=>Ad b λb e=>As b λb=>Bw .i64 e λe f=>Br .i64 f λf=>(λh:Option A8=>Ah c<|Aq (a==43) h (Aq (a==45) h (An (F 178 [.pbox [b,e,f]]) λa b=>Ah a<|Ad b λa b=>Ad a λa c=>As a λa=>Bw .i64 c λc e=>Br .i64 e λe=>Ah b<|some ⟨[],[[a,c,e]]⟩))) (Aa (wrap .i64 (e+1)) λa=>An (F 178 [.pbox [b,a,f]]) λa b=>Ah a<|Ad b λa b=>Ad a λa c=>As a λa=>Bw .i64 c λc e=>Br .i64 e λe=>Ah b<|some ⟨[],[[a,c,e]]⟩))):=by cases Z with|zero=>exact absurd F7 (Nat.lt_irrefl 0)|succ Z=>kernel_rfl
theorem U9{p:Option (Ae->Option A8)}(u d:Nat)(Z:ByteArray)(Y X:Int):Ac (CP p) prog u (d+1) 162 [.pbox [Z,Y,X]]=(λ(F:Ao)=>An (F 143 [.pbox [Z,Y,X]]) λa b=>Br .u8 a λa=>Ad b λb c=>Ad b λb e=>As b λb=>Bw .i64 e λe f=>Br .i64 f λf=>Ah c<|Aq (a==45) (Aa (wrap .i64 (e+1)) λa=>An (F 143 [.pbox [b,a,f]]) λa b=>Br .u8 a λa=>Ad b λb c=>Ad b λb e=>As b λb=>Bw .i64 e λe f=>Br .i64 f λf=>Ah c<|Aq (a==48) (Aa (wrap .i64 (e+1)) λa=>Dc u F Z Y X u b a f) (An (F 178 [.pbox [b,e,f]]) λa b=>Ah a<|Ad b λa b=>Ad a λa c=>As a λa=>Bw .i64 c λc e=>Br .i64 e λe=>Ah b<|Dc u F Z Y X u a c e)) (An (F 143 [.pbox [b,e,f]]) λa b=>Br .u8 a λa=>Ad b λb c=>Ad b λb e=>As b λb=>Bw .i64 e λe f=>Br .i64 f λf=>Ah c<|Aq (a==48) (Aa (wrap .i64 (e+1)) λa=>Dc u F Z Y X u b a f) (An (F 178 [.pbox [b,e,f]]) λa b=>Ah a<|Ad b λa b=>Ad a λa c=>As a λa=>Bw .i64 c λc e=>Br .i64 e λe=>Ah b<|Dc u F Z Y X u a c e))) (Ac (CP p) prog u d):=Κ
def B8(Z:ByteArray)(Y X:Int)(W:Bool)(V:Int)(U:Nat)(T:Bool)(S Q:Int)(P:ByteArray)(O N:Int):Option A8:=H6 u F 160 Tryz.f160 [.pbox [Z,Y,X],W,V] [.r,.r,.r,.r,.r,.r,.l] U ⟨lk [(0,.ptr 134000 0),(1,T),(2,S),(6,.sc (.int .u8 Q))],Fe [(134000,.st [P,O,N])]⟩
theorem D2(V:ByteArray)(U T:Int)(S:Bool)(Q:Int)(P:Nat)(X:Bool)(Z Y:Int)(O:ByteArray)(N W:Int):B8 u F V U T S Q (P+1) X Z Y O N W=(Aq (W==0) (An (F 141 [.pbox [O,N,W]]) λa b=>Ah a<|Ad b λa b=>Ad a λa c=>As a λa=>Bw .i64 c λc e=>Br .i64 e λe=>Ah b<|Aq X (An (F 144 [.pbox [a,c,e]]) λa b=>Ad a λa c=>As a λa=>Ah c<|Ad b λa b=>Ad a λa c=>As a λa=>Bw .i64 c λc e=>Br .i64 e λe=>Ah b<|An (F 141 [.pbox [a,c,e]]) λa b=>Ah a<|Ad b λa b=>Ad a λa c=>As a λa=>Bw .i64 c λc e=>Br .i64 e λe=>Ah b<|An (F 142 [.pbox [a,c,e],.sc (.int .u8 58)]) λa b=>Ah a<|Ad b λa b=>Ad a λa c=>As a λa=>Bw .i64 c λc e=>Br .i64 e λe=>Ah b<|An (F 141 [.pbox [a,c,e]]) λa b=>Ah a<|Ad b λa b=>Ad a λa c=>As a λa=>Bw .i64 c λc e=>Br .i64 e λe=>Ah b<|Aa (wrap .i64 (Z+1)) λb=>An (F 146 [.pbox [a,c,e],b]) λa b=>Bw .i64 a λa c=>Ad c λa c=>As a λa=>Ah c<|Ad b λa b=>Ad a λa c=>As a λa=>Bw .i64 c λc e=>Br .i64 e λe=>Ah b<|An (F 141 [.pbox [a,c,e]]) λa b=>Ah a<|Ad b λa b=>Ad a λa c=>As a λa=>Bw .i64 c λc e=>Br .i64 e λe=>Ah b<|An (F 143 [.pbox [a,c,e]]) λa b=>Br .u8 a λa=>Ad b λb c=>Ad b λb e=>As b λb=>Bw .i64 e λe f=>Br .i64 f λf=>Ah c<|Aq (a != 44) (An (F 142 [.pbox [b,e,f],.sc (.int .u8 Y)]) λa b=>Ah a<|Ad b λa b=>Ad a λa c=>As a λa=>Bw .i64 c λc e=>Br .i64 e λe=>Ah b<|some ⟨[],[[a,c,e]]⟩) (Aa (wrap .i64 (e+1)) λa=>B8 u F V U T S Q P X Z Y b a f)) (Aa (wrap .i64 (Z+1)) λb=>An (F 146 [.pbox [a,c,e],b]) λa b=>Bw .i64 a λa c=>Ad c λa c=>As a λa=>Ah c<|Ad b λa b=>Ad a λa c=>As a λa=>Bw .i64 c λc e=>Br .i64 e λe=>Ah b<|An (F 141 [.pbox [a,c,e]]) λa b=>Ah a<|Ad b λa b=>Ad a λa c=>As a λa=>Bw .i64 c λc e=>Br .i64 e λe=>Ah b<|An (F 143 [.pbox [a,c,e]]) λa b=>Br .u8 a λa=>Ad b λb c=>Ad b λb e=>As b λb=>Bw .i64 e λe f=>Br .i64 f λf=>Ah c<|Aq (a != 44) (An (F 142 [.pbox [b,e,f],.sc (.int .u8 Y)]) λa b=>Ah a<|Ad b λa b=>Ad a λa c=>As a λa=>Bw .i64 c λc e=>Br .i64 e λe=>Ah b<|some ⟨[],[[a,c,e]]⟩) (Aa (wrap .i64 (e+1)) λa=>B8 u F V U T S Q P X Z Y b a f))) (some ⟨[],[[O,N,W]]⟩)):=Κ
theorem Mn{p:Option (Ae->Option A8)}(u d:Nat)(Z:ByteArray)(V Y:Int)(X:Bool)(W:Int):Ac (CP p) prog u (d+1) 160 [.pbox [Z,V,Y],X,W]=(λ(F:Ao)=>Aq (decide (W>8)) (An (F 145 [.pbox [Z,V,Y],(5:Int)]) λa b=>Ah a<|Ad b λa b=>Ad a λa c=>As a λa=>Bw .i64 c λc e=>Br .i64 e λe=>Ah b<|some ⟨[],[[a,c,e]]⟩) (Aa (wrap .i64 (V+1)) λa=>Aq X (An (F 141 [.pbox [Z,a,Y]]) λa b=>Ah a<|Ad b λa b=>Ad a λa c=>As a λa=>Bw .i64 c λc e=>Br .i64 e λe=>Ah b<|An (F 143 [.pbox [a,c,e]]) λa b=>Br .u8 a λa=>Ad b λb c=>Ad b λb e=>As b λb=>Bw .i64 e λe f=>Br .i64 f λf=>Ah c<|Aq (a==125) (Aa (wrap .i64 (e+1)) λa=>some ⟨[],[[b,a,f]]⟩) (B8 u F Z V Y X W u X W 125 b e f)) (An (F 141 [.pbox [Z,a,Y]]) λa b=>Ah a<|Ad b λa b=>Ad a λa c=>As a λa=>Bw .i64 c λc e=>Br .i64 e λe=>Ah b<|An (F 143 [.pbox [a,c,e]]) λa b=>Br .u8 a λa=>Ad b λb c=>Ad b λb e=>As b λb=>Bw .i64 e λe f=>Br .i64 f λf=>Ah c<|Aq (a==93) (Aa (wrap .i64 (e+1)) λa=>some ⟨[],[[b,a,f]]⟩) (B8 u F Z V Y X W u X W 93 b e f)))) (Ac (CP p) prog u d):=Κ
theorem Fo{p:Option (Ae->Option A8)}(u d:Nat)(Y:ByteArray)(X W Z:Int):Ac (CP p) prog u (d+1) 146 [.pbox [Y,X,W],Z]=(λ(F:Ao)=>An (F 143 [.pbox [Y,X,W]]) λa b=>Br .u8 a λa=>Ad b λb c=>Ad b λb e=>As b λb=>Bw .i64 e λe f=>Br .i64 f λf=>(λg:Option A8=>Ah c<|Aq (a==34) (An (F 144 [.pbox [b,e,f]]) λa b=>Ad a λa c=>As a λa=>Ah c<|Ad b λb c=>Ad b λb e=>As b λb=>Bw .i64 e λe f=>Br .i64 f λf=>Ah c<|some ⟨[(1:Int),a],[[b,e,f]]⟩) (Aq (a==123) g (Aq (a==91) g (Aq (a==116) (An (F 161 [.pbox [b,e,f],Bf ⟨#[116,114,117,101]⟩]) λa b=>Ah a<|Ad b λa b=>Ad a λa c=>As a λa=>Bw .i64 c λc e=>Br .i64 e λe=>Ah b<|some ⟨[(2:Int),Bf ⟨#[]⟩],[[a,c,e]]⟩) (Aq (a==102) (An (F 161 [.pbox [b,e,f],Bf ⟨#[102,97,108,115,101]⟩]) λa b=>Ah a<|Ad b λa b=>Ad a λa c=>As a λa=>Bw .i64 c λc e=>Br .i64 e λe=>Ah b<|some ⟨[(3:Int),Bf ⟨#[]⟩],[[a,c,e]]⟩) (Aq (a==110) (An (F 161 [.pbox [b,e,f],Bf ⟨#[110,117,108,108]⟩]) λa b=>Ah a<|Ad b λa b=>Ad a λa c=>As a λa=>Bw .i64 c λc e=>Br .i64 e λe=>Ah b<|some ⟨[(0:Int),Bf ⟨#[]⟩],[[a,c,e]]⟩) (An (F 162 [.pbox [b,e,f]]) λa b=>Ah a<|Ad b λa b=>Ad a λa c=>As a λa=>Bw .i64 c λc e=>Br .i64 e λe=>Ah b<|some ⟨[(0:Int),Bf ⟨#[]⟩],[[a,c,e]]⟩))))))) (An (F 160 [.pbox [b,e,f],Cn (a==123),Z]) λa b=>Ah a<|Ad b λa b=>Ad a λa c=>As a λa=>Bw .i64 c λc e=>Br .i64 e λe=>Ah b<|some ⟨[(0:Int),Bf ⟨#[]⟩],[[a,c,e]]⟩)) (Ac (CP p) prog u d):=Κ
def Ht(Z:Nat)(Y:Ae)(X:ByteArray)(W V:Nat)(U:Ae)(T:ByteArray)(S:Int)(Q:ByteArray)(P:Int)(O:ByteArray):Option A8:=H6 u F 126 Tryz.f126 [Ap 3 Z Y,X] [.r,.l,.r,.l] W ⟨lk [(0,Ap 3 V U),(1,T),(4,.ptr 4 0),(6,S)],Fe [(4,.st [Q,P,O])]⟩
theorem Nx(V:Nat)(U:Ae)(T:ByteArray)(S X:Nat)(Y:Ae)(W:ByteArray)(Z:Int)(Q:ByteArray)(P:Int)(O:ByteArray):Ht u F V U T (S+1) X Y W Z Q P O=(Aq (decide (Z<(↑X:Int))) (Aw (decide (0<=Z)&&decide (Z<(↑X:Int)))<|As (Y.getD (Z.toNat*3+0) .top) λa=>Aq (Array.toList (ByteArray.data a)==Array.toList (ByteArray.data W)) (Aw (decide (0<=Z)&&decide (Z<(↑X:Int)))<|As (Y.getD (Z.toNat*3) .top) λa=>Bn .i64 (Y.getD (Z.toNat*3+1) .top) λb=>As (Y.getD (Z.toNat*3+1+1) .top) λc=>Bd [.agg [a,b,c],true]) (Aa (wrap .i64 (Z+1)) λa=>Ht u F V U T S X Y W a Q P O)) (Bd [.agg [Bf ⟨#[]⟩,(0:Int),Bf ⟨#[]⟩],false])):=Κ
theorem GY{p:Option (Ae->Option A8)}(u d Z:Nat)(Y:Ae)(X:ByteArray):Ac (CP p) prog u (d+1) 126 [Ap 3 Z Y,X]=(λ(F:Ao)=>Ht u F Z Y X u Z Y X 0 (ByteArray.mk #[]) 0 (ByteArray.mk #[])) (Ac (CP p) prog u d):=Κ
def Bu(Z:ByteArray)(Y X:Int)(W V:Nat)(U:ByteArray)(T S:Int)(Q:Ae):Option A8:=H6 u F 124 Tryz.f124 [.pbox [Z,Y,X]] [.r,.r,.r,.r,.r,.l,.r,.r,.l] W ⟨lk [(0,.ptr 180000 0),(3,.view 3 3 0 V)],Fe [(180000,.st [U,T,S]),(3,.ar false Q)]⟩
theorem Eg(W:ByteArray)(V U:Int)(T Z:Nat)(S:ByteArray)(Q X:Int)(Y:Ae):Bu u F W V U (T+1) Z S Q X Y=(Aq (X==0) (An (F 141 [.pbox [S,Q,X]]) λa b=>Ah a<|Ad b λa b=>Ad a λa c=>As a λa=>Bw .i64 c λc e=>Br .i64 e λe=>Ah b<|An (F 144 [.pbox [a,c,e]]) λa b=>Ad a λa c=>As a λa=>Ah c<|Ad b λb c=>Ad b λb e=>As b λb=>Bw .i64 e λe f=>Br .i64 f λf=>Ah c<|Aw (decide (0+Z*3<=Y.length))<|De (F 126 [Ap 3 Z (List.take (Z*3) (Y.drop 0)),a]) λc g=>Dr c λc=>Ad c λc h=>As c λc=>Bw .i64 h λc h=>Ad h λc h=>As c λc=>Ah h<|Hm g λc=>Aq c (An (F 145 [.pbox [b,e,f],(10:Int)]) λb c=>Ah b<|Ad c λb c=>Ad b λb e=>As b λb=>Bw .i64 e λe f=>Br .i64 f λf=>Ah c<|An (F 141 [.pbox [b,e,f]]) λb c=>Ah b<|Ad c λb c=>Ad b λb e=>As b λb=>Bw .i64 e λe f=>Br .i64 f λf=>Ah c<|An (F 142 [.pbox [b,e,f],.sc (.int .u8 58)]) λb c=>Ah b<|Ad c λb c=>Ad b λb e=>As b λb=>Bw .i64 e λe f=>Br .i64 f λf=>Ah c<|An (F 141 [.pbox [b,e,f]]) λb c=>Ah b<|Ad c λb c=>Ad b λb e=>As b λb=>Bw .i64 e λe f=>Br .i64 f λf=>Ah c<|An (F 146 [.pbox [b,e,f],(1:Int)]) λb c=>Bw .i64 b λb e=>Ad e λe f=>As e λe=>Ah f<|Ad c λc f=>Ad c λc g=>As c λc=>Bw .i64 g λg h=>Br .i64 h λh=>Ah f<|ZzA Z 3 40 Y [a,b,e] λa b=>An (F 141 [.pbox [c,g,h]]) λc e=>Ah c<|Ad e λc e=>Ad c λc f=>As c λc=>Bw .i64 f λf g=>Br .i64 g λg=>Ah e<|An (F 143 [.pbox [c,f,g]]) λc e=>Br .u8 c λc=>Ad e λe f=>Ad e λe g=>As e λe=>Bw .i64 g λg h=>Br .i64 h λh=>Ah f<|Aq (c != 44) (An (F 142 [.pbox [e,g,h],.sc (.int .u8 125)]) λc e=>Ah c<|Ad e λc e=>Ad c λc f=>As c λc=>Bw .i64 f λf g=>Br .i64 g λg=>Ah e<|An (F 141 [.pbox [c,f,g]]) λc e=>Ah c<|Ad e λc e=>Ad c λc f=>As c λc=>Bw .i64 f λf g=>Br .i64 g λg=>Ah e<|Aq (decide (f<(↑(ByteArray.size c):Int))) (An (F 145 [.pbox [c,f,g],(2:Int)]) λc e=>Ah c<|Ad e λc e=>Ad c λc f=>As c λc=>Bw .i64 f λf g=>Br .i64 g λg=>Ah e<|Aw (decide (a*3<=b.length))<|some ⟨[.own 3 a (b.take (a*3))],[[c,f,g]]⟩) (Aw (decide (a*3<=b.length))<|some ⟨[.own 3 a (b.take (a*3))],[[c,f,g]]⟩)) (Aa (wrap .i64 (g+1)) λc=>Bu u F W V U T a e c h b)) (An (F 141 [.pbox [b,e,f]]) λb c=>Ah b<|Ad c λb c=>Ad b λb e=>As b λb=>Bw .i64 e λe f=>Br .i64 f λf=>Ah c<|An (F 142 [.pbox [b,e,f],.sc (.int .u8 58)]) λb c=>Ah b<|Ad c λb c=>Ad b λb e=>As b λb=>Bw .i64 e λe f=>Br .i64 f λf=>Ah c<|An (F 141 [.pbox [b,e,f]]) λb c=>Ah b<|Ad c λb c=>Ad b λb e=>As b λb=>Bw .i64 e λe f=>Br .i64 f λf=>Ah c<|An (F 146 [.pbox [b,e,f],(1:Int)]) λb c=>Bw .i64 b λb e=>Ad e λe f=>As e λe=>Ah f<|Ad c λc f=>Ad c λc g=>As c λc=>Bw .i64 g λg h=>Br .i64 h λh=>Ah f<|ZzA Z 3 40 Y [a,b,e] λa b=>An (F 141 [.pbox [c,g,h]]) λc e=>Ah c<|Ad e λc e=>Ad c λc f=>As c λc=>Bw .i64 f λf g=>Br .i64 g λg=>Ah e<|An (F 143 [.pbox [c,f,g]]) λc e=>Br .u8 c λc=>Ad e λe f=>Ad e λe g=>As e λe=>Bw .i64 g λg h=>Br .i64 h λh=>Ah f<|Aq (c != 44) (An (F 142 [.pbox [e,g,h],.sc (.int .u8 125)]) λc e=>Ah c<|Ad e λc e=>Ad c λc f=>As c λc=>Bw .i64 f λf g=>Br .i64 g λg=>Ah e<|An (F 141 [.pbox [c,f,g]]) λc e=>Ah c<|Ad e λc e=>Ad c λc f=>As c λc=>Bw .i64 f λf g=>Br .i64 g λg=>Ah e<|Aq (decide (f<(↑(ByteArray.size c):Int))) (An (F 145 [.pbox [c,f,g],(2:Int)]) λc e=>Ah c<|Ad e λc e=>Ad c λc f=>As c λc=>Bw .i64 f λf g=>Br .i64 g λg=>Ah e<|Aw (decide (a*3<=b.length))<|some ⟨[.own 3 a (b.take (a*3))],[[c,f,g]]⟩) (Aw (decide (a*3<=b.length))<|some ⟨[.own 3 a (b.take (a*3))],[[c,f,g]]⟩)) (Aa (wrap .i64 (g+1)) λc=>Bu u F W V U T a e c h b))) (An (F 141 [.pbox [S,Q,X]]) λa b=>Ah a<|Ad b λa b=>Ad a λa c=>As a λa=>Bw .i64 c λc e=>Br .i64 e λe=>Ah b<|Aq (decide (c<(↑(ByteArray.size a):Int))) (An (F 145 [.pbox [a,c,e],(2:Int)]) λa b=>Ah a<|Ad b λa b=>Ad a λa c=>As a λa=>Bw .i64 c λc e=>Br .i64 e λe=>Ah b<|Aw (decide (Z*3<=Y.length))<|some ⟨[.own 3 Z (Y.take (Z*3))],[[a,c,e]]⟩) (Aw (decide (Z*3<=Y.length))<|some ⟨[.own 3 Z (Y.take (Z*3))],[[a,c,e]]⟩))):=Κ
theorem S3{p:Option (Ae->Option A8)}(u d:Nat)(Z:ByteArray)(Y X:Int):Ac (CP p) prog u (d+1) 124 [.pbox [Z,Y,X]]=(λ(F:Ao)=>An (F 141 [.pbox [Z,Y,X]]) λa b=>Ah a<|Ad b λa b=>Ad a λa c=>As a λa=>Bw .i64 c λc e=>Br .i64 e λe=>Ah b<|An (F 142 [.pbox [a,c,e],.sc (.int .u8 123)]) λa b=>Ah a<|Ad b λa b=>Ad a λa c=>As a λa=>Bw .i64 c λc e=>Br .i64 e λe=>Ah b<|An (F 141 [.pbox [a,c,e]]) λa b=>Ah a<|Ad b λa b=>Ad a λa c=>As a λa=>Bw .i64 c λc e=>Br .i64 e λe=>Ah b<|An (F 143 [.pbox [a,c,e]]) λa b=>Br .u8 a λa=>Ad b λb c=>Ad b λb e=>As b λb=>Bw .i64 e λe f=>Br .i64 f λf=>Ah c<|Aq (a==125) (Aa (wrap .i64 (e+1)) λa=>An (F 141 [.pbox [b,a,f]]) λa b=>Ah a<|Ad b λa b=>Ad a λa c=>As a λa=>Bw .i64 c λc e=>Br .i64 e λe=>Ah b<|Aq (decide (c<(↑(ByteArray.size a):Int))) (An (F 145 [.pbox [a,c,e],(2:Int)]) λa b=>Ah a<|Ad b λa b=>Ad a λa c=>As a λa=>Bw .i64 c λc e=>Br .i64 e λe=>Ah b<|some ⟨[.own 3 0 []],[[a,c,e]]⟩) (some ⟨[.own 3 0 []],[[a,c,e]]⟩)) (Bu u F Z Y X u 0 b e f ([]))) (Ac (CP p) prog u d):=Κ
def E8(Z:Nat)(Y:Ae)(X W:Nat)(V:Ae)(U:Nat)(T:Int)(S:Ae):Option A8:=H6 u F 125 Tryz.f125 [Ap 3 Z Y] [.r,.r,.l,.r,.l] X ⟨lk [(0,Ap 3 W V),(3,.view 3 1 0 U),(4,T)],Fe [(3,.ar false S)]⟩
theorem Mc(U:Nat)(T:Ae)(S Y:Nat)(X:Ae)(W:Nat)(Z:Int)(V:Ae):E8 u F U T (S+1) Y X W Z V=(Aq (decide (Z<(↑W:Int))) (Aw (decide (0<=Z)&&decide (Z<(↑W:Int)))<|As (V.getD (0+Z.toNat*1) .top) λa=>De (F 126 [Ap 3 Y X,a]) λa b=>Dr a λa=>Ad a λa c=>As a λa=>Bw .i64 c λa c=>Ad c λc e=>As c λc=>Ah e<|Hm b λb=>Aq (!b) (Bd [false]) (Aq (a != 1) (Bd [false]) (Aa (wrap .i64 (Z+1)) λa=>E8 u F U T S Y X W a V))) (De (F 126 [Ap 3 Y X,Bf ⟨#[99,114,111,115,115,79,114,105,103,105,110]⟩]) λa b=>Dr a λa=>Ad a λa c=>As a λa=>Bw .i64 c λa c=>Ad c λc e=>As c λc=>Ah e<|Hm b λb=>De (F 126 [Ap 3 Y X,Bf ⟨#[116,111,112,79,114,105,103,105,110]⟩]) λc e=>Dr c λc=>Ad c λc f=>As c λc=>Bw .i64 f λc f=>Ad f λf g=>As f λf=>Ah g<|Hm e λe=>(λi:Option A8=>(λh:Option A8=>Aq b (Aq (a != 2) (Aq (a != 3) (Bd [false]) h) h) h) (Aq e (Aq (c != 1) (Bd [false]) i) i)) (Aq b (Bd [Cn (e==(a==2))]) (Bd [Cn (e==false)])))):=Κ
theorem CI{p:Option (Ae->Option A8)}(u d Z:Nat)(Y:Ae):Ac (CP p) prog u (d+1) 125 [Ap 3 Z Y]=(λ(F:Ao)=>E8 u F Z Y u Z Y 3 0 ([Bf ⟨#[116,121,112,101]⟩,Bf ⟨#[99,104,97,108,108,101,110,103,101]⟩,Bf ⟨#[111,114,105,103,105,110]⟩])) (Ac (CP p) prog u d):=Κ
theorem X6{p:Option (Ae->Option A8)}(u d:Nat)(Z:ByteArray):Ac (CP p) prog u (d+1) 94 [Z]=(λ(F:Ao)=>(λj:PV=>Aq (decide ((↑(ByteArray.size Z):Int)>1024)) (Bd [j,(8:Int)]) (De (F 103 [Z]) λa b=>Be a λa=>Ah b<|Aq (!a) (Bd [j,(6:Int)]) (An (F 124 [.pbox [Z,(0:Int),(0:Int)]]) λa b=>ZzO 3 a λa c e=>Ah e<|Ad b λb e=>Ad b λb f=>As b λb=>Bw .i64 f λb f=>Br .i64 f λb=>(λk:PV=>Ah e<|Aq (b != 0) (Bd [j,b]) (Aw (decide (0+a*3<=c.length))<|De (F 125 [k]) λb e=>Be b λb=>Ah e<|Aq (!b) (Bd [j,(4:Int)]) (Aw (decide (0+a*3<=c.length))<|De (F 126 [k,Bf ⟨#[116,121,112,101]⟩]) λb e=>Dr b λb=>Ad b λb f=>As b λb=>Bw .i64 f λb f=>Ad f λb f=>As b λb=>Ah f<|Hm e λe=>Aw (decide (0+a*3<=c.length))<|De (F 126 [k,Bf ⟨#[99,104,97,108,108,101,110,103,101]⟩]) λe f=>Dr e λe=>Ad e λe g=>As e λe=>Bw .i64 g λe g=>Ad g λe g=>As e λe=>Ah g<|Hm f λf=>Aw (decide (0+a*3<=c.length))<|De (F 126 [k,Bf ⟨#[111,114,105,103,105,110]⟩]) λf g=>Dr f λf=>Ad f λf h=>As f λf=>Bw .i64 h λf h=>Ad h λf h=>As f λf=>Ah h<|Hm g λg=>Aw (decide (0+a*3<=c.length))<|De (F 126 [k,Bf ⟨#[116,111,112,79,114,105,103,105,110]⟩]) λa c=>Dr a λa=>Ad a λa g=>As a λa=>Bw .i64 g λa g=>Ad g λa g=>As a λa=>Ah g<|Hm c λc=>De (F 41 [(1:Int)]) λg h=>As g λg=>(λo:Option A8=>Ah h<|Aq (!Array.toList (ByteArray.data b)==Array.toList (ByteArray.data g)) (De (F 41 [(2:Int)]) λg h=>As g λg=>Ah h<|Aq (!Array.toList (ByteArray.data b)==Array.toList (ByteArray.data g)) (Bd [j,(3:Int)]) (De (F 127 [e]) λb e=>Na 1 b λb g=>Br .i64 e λe=>Aq (e != 0) (Bd [j,e]) (Aq (decide ((↑b:Int)<1)) o (Aq (decide ((↑b:Int)>64)) o (De (F 42 [f]) λe h=>Dr e λe=>Ad e λe i=>Be e λe=>Ad i λe i=>As e λe=>Br .i64 i λe=>Br .i64 h λe=>Aq (e != 0) (Bd [j,e]) (De (F 42 [a]) λe h=>Dr e λe=>Ad e λe i=>Be e λe=>Ad i λe i=>As e λe=>Br .i64 i λe=>Br .i64 h λe=>(λm:Option A8=>Aq c (Aq (e != 0) (Bd [j,e]) m) m) (Aw (decide (b*1<=g.length))<|Bd [.agg [(2:Int),.own 1 b (g.take (b*1)),f,c,a],(0:Int)]))))))) (De (F 41 [(1:Int)]) λg h=>As g λg=>Ah h<|Aq (!Array.toList (ByteArray.data b)==Array.toList (ByteArray.data g)) (Bd [j,(3:Int)]) (De (F 127 [e]) λb e=>Na 1 b λb g=>Br .i64 e λe=>Aq (e != 0) (Bd [j,e]) (Aq (decide ((↑b:Int)<1)) o (Aq (decide ((↑b:Int)>64)) o (De (F 42 [f]) λe h=>Dr e λe=>Ad e λe i=>Be e λe=>Ad i λe i=>As e λe=>Br .i64 i λe=>Br .i64 h λe=>Aq (e != 0) (Bd [j,e]) (De (F 42 [a]) λe h=>Dr e λe=>Ad e λe i=>Be e λe=>Ad i λe i=>As e λe=>Br .i64 i λe=>Br .i64 h λe=>(λn:Option A8=>Aq c (Aq (e != 0) (Bd [j,e]) n) n) (Aw (decide (b*1<=g.length))<|Bd [.agg [(1:Int),.own 1 b (g.take (b*1)),f,c,a],(0:Int)])))))))) (Bd [j,(9:Int)])))) (Ap 3 a (List.take (a*3) (c.drop 0)))))) (.agg [(0:Int),.own 1 0 [],Bf ⟨#[]⟩,false,Bf ⟨#[]⟩])) (Ac (CP p) prog u d):=Κ
end
abbrev dkc(l:Ak)(a:Nat):Ae:=[.lst false 1 l.length (Af .i64 l),A0 (a:Int)]
section
variable {u d:Nat}{p:Option (Ae->Option A8)}
theorem Baj{l:Ak}:Ac (CP p) prog u (d+1) 5 [.lst false 1 l.length (Af .i64 l)]=some ⟨[.pbox (dkc l 0)],[]⟩:=by rw[NK];rfl
theorem Bj6(v n:Int)(a:0<n)(g:n<=9223372036854775807):∃r,0<=r/\r<n/\∀{u d:Nat}{p:Option (Ae->Option A8)},Ac (CP p) prog u (d+1) 39 [A0 v,A0 n]=some ⟨[A0 r],[]⟩:=by have b:=Vk v;have c:wrap .u64 n=n:=Do;have e:0<=Int.tmod (wrap .u64 v) n:=Int.tmod_nonneg _ b.1;have f:Int.tmod (wrap .u64 v) n<n:=Int.tmod_lt_of_pos _ a;refine⟨_,e,f,λ{u d p}=>?_⟩;rw[LE];simp only[Fv,c];rw[KR _ _ Ω,Bc]
theorem EF{l:Ak}(c:l.length<=maxLen)(a:Nat)(n:Int)(b:0<n)(e:n<=9223372036854775807):∃(v:Int)(f:Nat),0<=v/\v<n /\
  ∀{u d:Nat} {p:Option (Ae->Option A8)},Ac (CP p) prog u (d+2) 15 [.pbox (dkc l a),A0 n]=some ⟨[A0 v],[dkc l f]⟩:=by
 simp only[maxLen] at c;by_cases h:a<l.length
 ·obtain⟨r,g,i,j⟩:=Bj6 l[a] n b e;refine⟨r,a+1,g,i,λ{u d p}=>?_⟩;rw[Iq]
  have m:(Af .i64 l).getD (Int.toNat ((a:Int)+1-1)*1) .top=A0 l[a]:=by
   have:=Sr (k:=.i64) (List.getElem?_eq_getElem h);rw[show Int.toNat ((a:Int)+1-1)*1=a by omega];exact this
  simp(disch:=omega)only[Av,Au,E0,m,j];rfl
 ·refine⟨0,a,Ω,b,λ{u d p}=>?_⟩;rw[Iq];simp(disch:=omega)only[Av,Au]
end
section
variable {u d:Nat}{p:Option (Ae->Option A8)}
theorem Bge(Bg:1000<=u)(w:Int):Ac (CP p) prog u (d+1) 45 [.lst false 1 1 [Ag w]]=some ⟨[.own 1 8 (Af .u8 (B5 w))],[]⟩:=by
 have:=K1 (B:=Aff p) (u:=u) (d:=d) (ws:=[w]) Ψ Ω (by simp;omega)
 simp only[A7,L6,List.flatMap_nil,List.append_nil,Ox,SS,C3] at this;exact this
theorem A05(Bg:1000<=u){a0 a1 a2:Int}{key nonce:Int}{n:Nat}(G:n<=1024):∀(k nn:Nat)(i:Int)(l:Ak),n<=l.length+8*k->k<nn->Ce l->l.length<=2000 ->
  0<=i->i+k<=100000->∃r,Ce r/\r.length=n/\Hd u (Ac (CP p) prog u (d+4)) a0 a1 a2 nn key nonce (n:Int) l.length i (Af .u8 l)=some ⟨[.own 1 n (Af .u8 r)],[]⟩:=by
 intro k
 induction k with
 |zero=>
  intro nn i l x y b z A i1;obtain⟨m,rfl⟩:∃m,nn=m+1:=⟨nn-1,Ω⟩
  refine⟨l.take n,b.take n,by rw[List.length_take];omega,?_⟩
  have L:=Am .u8 l;have a:Int.toNat (n:Int)=n:=H8 _;rw[Is]
  repeat(with_reducible(first|apply Bl|apply A2|apply Bk|apply QZ|apply A1|apply Bj|apply H4);· first|constructor|(simp(disch:=omega)only[H5,L,a,Nat.sub_zero,Jy,Fj]<;>first|constructor|omega)|omega)
  try simp(disch:=omega)only[Aa,L,a,Nat.sub_zero,Jy,Fj]
 |succ k C=>
  intro nn i l x y b z A i1;obtain⟨m,rfl⟩:∃m,nn=m+1:=⟨nn-1,Ω⟩
  have L:=Am .u8 l;have a:Int.toNat (n:Int)=n:=H8 _;by_cases Cs:l.length<n
  rotate_left
  ·refine⟨l.take n,b.take n,by rw[List.length_take];omega,?_⟩
   rw[Is]
   repeat(with_reducible(first|apply Bl|apply A2|apply Bk|apply QZ|apply A1|apply Bj|apply H4);· first|constructor|(simp(disch:=omega)only[H5,L,a,Nat.sub_zero,Jy,Fj]<;>first|constructor|omega)|omega)
   try simp(disch:=omega)only[Aa,L,a,Nat.sub_zero,Jy,Fj]
  have e:wrap .u64 i=i:=Do;have f:wrap .i64 (i+1)=i+1:=Bc;have g:Ac (CP p) prog u (d+4) 45 [.lst false 1 2 [Ag nonce,Ag i]]=some ⟨[.own 1 (A7 [nonce,i]).length (Af .u8 (A7 [nonce,i]))],[]⟩:=K1 (B:=Aff p) (ws:=[nonce,i]) Ψ Ω (by simp;omega)
  have c:=Apr (B:=Aff p) (u:=u) (d:=d) (l:=A7 [nonce,i]) (Y6 _) (by rw[Ff];simp) Ω (by rw[Ff];simp;omega) key 5
  have h:=Am .u8 (A7 [nonce,i]);have j:=PH .u8 (A7 [nonce,i]);generalize A1n key 5 (A7 [nonce,i])=q at c;have o:=Bge (u:=u) (d:=d+3) (p:=p) Bg q;have Lq:(Af .u8 (B5 q)).length=8:=by rw[Am,C3]
  have s:List.take 8 (Af .u8 (B5 q))=Af .u8 (B5 q):=Jo Ω;have t:=PH .u8 l;have v:Af .u8 l++Af .u8 (B5 q)=Af .u8 (l++B5 q):=by rw[Af,Af,Af,List.flatMap_append]
  obtain⟨r,D,E,w⟩:=C m (i+1) (l++B5 q) (by rw[Vl,C3];omega) Ω (P4 b (LI q)) (by rw[Vl,C3];omega) Ω Ω
  refine⟨r,D,E,?_⟩;rw[Vl,C3] at w;rw[<-w,Is];generalize A7 [nonce,i]=W at *
  generalize W.length=H at *
  repeat(with_reducible(first|apply Bl|apply A2|apply Bk|apply QZ|apply A1|apply Bj|apply H4);· first|constructor|(simp(disch:=omega)only[H5,e,f,g,Nr,Ka,Jy,L,h,j,c,o,Lq,s,t,v]<;>first|constructor|omega)|omega)
  try simp(disch:=omega)only[Aa,e,f,g,Nr,Ka,Jy,L,h,j,c,o,Lq,s,t,v]
  all_goals rfl
theorem Ak5(Bg:1000<=u)(seed:Int){n:Nat}(c:n<=1024):∃r,Ce r/\r.length=n/\Ac (CP p) prog u (d+6) 9 [A0 seed,A0 n]=some ⟨[.own 1 n (Af .u8 r)],[]⟩:=by
 obtain⟨r,f,b,g⟩:=A05 (u:=u) (d:=d) (p:=p) Bg (a0:=wrap .u64 (wrap .u64 seed+1)) (a1:=7) (a2:=n) (key:=wrap .u64 (wrap .u64 seed+1)) (nonce:=7) c 128 u 0 [] Ω Ω (by intro x h;cases h) Ψ Ω Ω
 refine⟨r,f,b,?_⟩
 have e:Ac (CP p) prog u (d+5) 25 [Ag (wrap .u64 (wrap .u64 seed+1)),Ag 7,A0 n]=some ⟨[.own 1 n (Af .u8 r)],[]⟩:=by
  rw[DQ];have f1:(if (n:Int)<0 then (0:Int) else (n:Int))=n:=Bb Ω;have a:(if (1024:Int)<(n:Int) then (1024:Int) else (n:Int))=n:=Bb Ω;simp only[Fv,f1,a];exact g
 have f1:(if (n:Int)<0 then (0:Int) else (n:Int))=n:=Bb Ω;have a:(if (1024:Int)<(n:Int) then (1024:Int) else (n:Int))=n:=Bb Ω;have L:=Am .u8 r;have t:List.take n (Af .u8 r)=Af .u8 r:=by rw[<-b];exact PH .u8 r
 rw[GO];simp(disch:=omega)only[Av,Au,f1,a,e,Jy,L,t]
end
section
variable {B:FuncId->Option (Ae->Option A8)}(u d:Nat)(F:Ao)
theorem Pa{p:Option (Ae->Option A8)}(u d:Nat)(Z:Bool):Ac (CP p) prog u (d+1) 83 [Z]=(λ(F:Ao)=>Aq Z (Bd [Bf ⟨#[104,116,116,112,115,58,47,47]⟩]) (Bd [Bf ⟨#[104,116,116,112,58,47,47]⟩])) (Ac (CP p) prog u d):=Κ
theorem Uk{p:Option (Ae->Option A8)}(u d:Nat)(Z:Bool):Ac (CP p) prog u (d+1) 85 [Z]=(λ(F:Ao)=>Aq Z (Bd [(443:Int)]) (Bd [(80:Int)])) (Ac (CP p) prog u d):=Κ
def Hr(Z:ByteArray)(Y:Bool)(X:Nat)(W:ByteArray)(V:Bool)(U T:Int):Option A8:=H6 u F 86 Tryz.f86 [Z,Y] [.r,.r,.r,.l,.r,.l] X ⟨lk [(0,W),(1,V),(6,U),(7,T)],Fe []⟩
theorem Nv(V:ByteArray)(U:Bool)(T:Nat)(X:ByteArray)(W:Bool)(Y Z:Int):Hr u F V U (T+1) X W Y Z=(Aq (decide (Z<(↑(ByteArray.size X):Int))) (Aw (decide (0<=Z))<|Dj ((Array.toList (ByteArray.data X))[Z.toNat]?) λa=>De (F 121 [.sc (.int .u8 (↑(UInt8.toNat a):Int))]) λa b=>Be a λa=>Ah b<|Aq (!a) (Bd [(0:Int),false]) (Aa (wrap .i64 (10*Y)) λa=>Aw (decide (0<=Z))<|Dj ((Array.toList (ByteArray.data X))[Z.toNat]?) λb=>Aa (wrap .u8 ((↑(UInt8.toNat b):Int)-48)) λb=>Aa (wrap .i64 b) λb=>Aa (wrap .i64 (a+b)) λa=>Aa (wrap .i64 (Z+1)) λb=>Hr u F V U T X W a b)) (Aq (decide (Y<=65535)) (Gm .i64 (F 85 [W]) λa=>Bd [Y,Cn (Y != a)]) (Bd [Y,false]))):=Κ
theorem GM{p:Option (Ae->Option A8)}(u d:Nat)(Z:ByteArray)(Y:Bool):Ac (CP p) prog u (d+1) 86 [Z,Y]=(λ(F:Ao)=>(λb:Option A8=>Aq (decide ((↑(ByteArray.size Z):Int)<1)) b (Aq (decide ((↑(ByteArray.size Z):Int)>5)) b (Dj ((Array.toList (ByteArray.data Z))[0]?) λa=>Aq ((↑(UInt8.toNat a):Int)==48) b (Hr u F Z Y u Z Y 0 0)))) (Bd [(0:Int),false])) (Ac (CP p) prog u d):=Κ
def Fu(Z:ByteArray)(Y:Int)(X:Nat)(W:ByteArray)(V:Int)(U:Nat)(T S:Int)(Q:Ae):Option A8:=H6 u F 119 Tryz.f119 [Z,.sc (.int .u8 Y)] [.r,.r,.r,.l,.r,.l] X ⟨lk [(0,W),(1,.sc (.int .u8 V)),(5,.view 5 1 0 U),(6,T),(7,S)],Fe [(5,.ar false Q)]⟩
theorem Nl(T:ByteArray)(S:Int)(Q:Nat)(Z:ByteArray)(W:Int)(V:Nat)(X Y:Int)(U:Ae):Fu u F T S (Q+1) Z W V X Y U=(Aq (decide (Y<(↑(ByteArray.size Z):Int))) (Aw (decide (0<=Y))<|Dj ((Array.toList (ByteArray.data Z))[Y.toNat]?) λa=>Aq ((↑(UInt8.toNat a):Int)==W) (Aw (decide (0<=X))<|Aw (decide (0<=Y))<|Aw (decide (X.toNat<=Y.toNat)&&decide (Y.toNat<=ByteArray.size Z))<|Aa (ByteArray.extract Z X.toNat Y.toNat) λa=>ZzA V 1 16 U [a] λa b=>Aa (wrap .i64 (Y+1)) λc=>Aa (wrap .i64 (Y+1)) λe=>Fu u F T S Q Z W a c e b) (Aa (wrap .i64 (Y+1)) λa=>Fu u F T S Q Z W V X a U)) (Aw (decide (0<=X))<|Aw (decide (X.toNat<=ByteArray.size Z)&&decide (ByteArray.size Z<=ByteArray.size Z))<|Aa (ByteArray.extract Z X.toNat (ByteArray.size Z)) λa=>ZzA V 1 16 U [a] λa b=>Aw (decide (a*1<=b.length))<|Bd [.own 1 a (b.take (a*1))])):=Κ
theorem CY{p:Option (Ae->Option A8)}(u d:Nat)(Z:ByteArray)(Y:Int):Ac (CP p) prog u (d+1) 119 [Z,.sc (.int .u8 Y)]=(λ(F:Ao)=>Fu u F Z Y u Z Y 0 0 0 ([])) (Ac (CP p) prog u d):=Κ
theorem DY{p:Option (Ae->Option A8)}(u d:Nat)(Z:Int):Ac (CP p) prog u (d+1) 121 [.sc (.int .u8 Z)]=(λ(F:Ao)=>Aq (decide (Z>=48)) (Bd [Cn (decide (Z<=57))]) (Bd [false])) (Ac (CP p) prog u d):=Κ
def Oy(Z:ByteArray)(Y:Nat)(X:ByteArray):Option A8:=H6 u F 120 Tryz.f120 [Z] [.r] Y ⟨lk [(0,X)],Fe []⟩
def Dh(Z:ByteArray)(Y:Nat)(X:ByteArray)(W:Int):Option A8:=H6 u F 120 Tryz.f120 [Z] [.r,.r,.l,.r,.l] Y ⟨lk [(0,X),(3,W)],Fe []⟩
theorem Zj(Y:ByteArray)(Z:Nat)(F7:0<Z)(X:ByteArray):Oy u F Y Z X=(Dh u F Y u X 0):=by cases Z with|zero=>exact absurd F7 (Nat.lt_irrefl 0)|succ Z=>kernel_rfl
theorem Nd(X:ByteArray)(W:Nat)(Y:ByteArray)(Z:Int):Dh u F X (W+1) Y Z=(Aq (decide (Z<(↑(ByteArray.size Y):Int))) (Aw (decide (0<=Z))<|Dj ((Array.toList (ByteArray.data Y))[Z.toNat]?) λa=>Aq (decide ((↑(UInt8.toNat a):Int)>=97)) (Aw (decide (0<=Z))<|Dj ((Array.toList (ByteArray.data Y))[Z.toNat]?) λa=>Aq (!decide ((↑(UInt8.toNat a):Int)<=122)) (Aw (decide (0<=Z))<|Dj ((Array.toList (ByteArray.data Y))[Z.toNat]?) λa=>De (F 121 [.sc (.int .u8 (↑(UInt8.toNat a):Int))]) λa b=>Be a λa=>Ah b<|Aq (!a) (Aw (decide (0<=Z))<|Dj ((Array.toList (ByteArray.data Y))[Z.toNat]?) λa=>Aq ((↑(UInt8.toNat a):Int) != 45) (Bd [false]) (Aa (wrap .i64 (Z+1)) λa=>Dh u F X W Y a)) (Aa (wrap .i64 (Z+1)) λa=>Dh u F X W Y a)) (Aa (wrap .i64 (Z+1)) λa=>Dh u F X W Y a)) (Aw (decide (0<=Z))<|Dj ((Array.toList (ByteArray.data Y))[Z.toNat]?) λa=>De (F 121 [.sc (.int .u8 (↑(UInt8.toNat a):Int))]) λa b=>Be a λa=>Ah b<|Aq (!a) (Aw (decide (0<=Z))<|Dj ((Array.toList (ByteArray.data Y))[Z.toNat]?) λa=>Aq ((↑(UInt8.toNat a):Int) != 45) (Bd [false]) (Aa (wrap .i64 (Z+1)) λa=>Dh u F X W Y a)) (Aa (wrap .i64 (Z+1)) λa=>Dh u F X W Y a))) (Bd [true])):=Κ
theorem EJ{p:Option (Ae->Option A8)}(u d:Nat)(Z:ByteArray):Ac (CP p) prog u (d+1) 120 [Z]=(λ(F:Ao)=>Aq (decide ((↑(ByteArray.size Z):Int)<1)) (Bd [false]) (Aq (decide ((↑(ByteArray.size Z):Int)>63)) (Bd [false]) (Dj ((Array.toList (ByteArray.data Z))[0]?) λa=>Aq ((↑(UInt8.toNat a):Int)==45) (Bd [false]) (Aa (wrap .i64 ((↑(ByteArray.size Z):Int)-1)) λa=>Aw (decide (0<=a))<|Dj ((Array.toList (ByteArray.data Z))[a.toNat]?) λa=>Aq ((↑(UInt8.toNat a):Int)==45) (Bd [false]) (Oy u F Z u Z))))) (Ac (CP p) prog u d):=Κ
def F3(Z:ByteArray)(Y X:Nat)(W:Int)(V:Ae):Option A8:=H6 u F 84 Tryz.f84 [Z] [.r,.r,.r,.l,.r,.l] Y ⟨lk [(3,.view 3 1 0 X),(4,W)],Fe [(3,.ar false V)]⟩
def F5(Z:ByteArray)(Y:Nat)(X:ByteArray)(W:Int):Option A8:=H6 u F 84 Tryz.f84 [Z] [.r,.r,.r,.r,.r,.l,.r,.l] Y ⟨lk [(5,X),(6,W)],Fe []⟩
theorem Kh(W:ByteArray)(V Z:Nat)(Y:Int)(X:Ae):F3 u F W (V+1) Z Y X=(Aq (decide (Y<(↑Z:Int))) (Aw (decide (0<=Y)&&decide (Y<(↑Z:Int)))<|As (X.getD (0+Y.toNat*1) .top) λa=>De (F 120 [a]) λa b=>Be a λa=>Ah b<|Aq (!a) (Bd [(2:Int)]) (Aa (wrap .i64 (Y+1)) λa=>F3 u F W V Z a X)) (Aa (wrap .i64 ((↑Z:Int)-1)) λa=>Aw (decide (0<=a)&&decide (a<(↑Z:Int)))<|As (X.getD (0+a.toNat*1) .top) λa=>F5 u F W u a 0)):=Κ
theorem Kv(X:ByteArray)(W:Nat)(Y:ByteArray)(Z:Int):F5 u F X (W+1) Y Z=(Aq (decide (Z<(↑(ByteArray.size Y):Int))) (Aw (decide (0<=Z))<|Dj ((Array.toList (ByteArray.data Y))[Z.toNat]?) λa=>De (F 121 [.sc (.int .u8 (↑(UInt8.toNat a):Int))]) λa b=>Be a λa=>Ah b<|Aq (!a) (Bd [(0:Int)]) (Aa (wrap .i64 (Z+1)) λa=>F5 u F X W Y a)) (Bd [(2:Int)])):=Κ
theorem Zk{p:Option (Ae->Option A8)}(u d:Nat)(Z:ByteArray):Ac (CP p) prog u (d+1) 84 [Z]=(λ(F:Ao)=>Aq (decide ((↑(ByteArray.size Z):Int)>100)) (Bd [(8:Int)]) (De (F 119 [Z,.sc (.int .u8 46)]) λa b=>Na 1 a λa c=>Ah b<|F3 u F Z u a 0 c)) (Ac (CP p) prog u d):=Κ
def B3(Z:ByteArray)(Y:Nat)(X:ByteArray)(W V:Int)(U:Bool)(T:ByteArray)(S:Int)(Q:Bool)(P:ByteArray)(O:Int):Option A8:=H6 u F 42 Tryz.f42 [Z] [.r,.r,.r,.r,.r,.r,.l,.r,.l] Y ⟨lk [(2,.ptr 2 0),(4,.ptr 4 0),(6,X),(7,W),(8,V)],Fe [(2,.st [U,T,S]),(4,.st [Q,P,O])]⟩
theorem Iz(V:ByteArray)(U:Nat)(Z:ByteArray)(Y X:Int)(T:Bool)(S:ByteArray)(Q:Int)(W:Bool)(P:ByteArray)(O:Int):B3 u F V (U+1) Z Y X T S Q W P O=(Aq (decide (X>=0)) (Aw (decide (0<=X))<|Dj ((Array.toList (ByteArray.data Z))[X.toNat]?) λa=>Aq ((↑(UInt8.toNat a):Int)==58) (Aa (wrap .i64 (X-1)) λa=>B3 u F V U Z X a T S Q W P O) (Aa (wrap .i64 (X-1)) λa=>B3 u F V U Z Y a T S Q W P O)) (Aw (decide (0<=Y))<|Aw (decide (Y.toNat<=ByteArray.size Z))<|Aa (ByteArray.extract Z 0 Y.toNat) λa=>Gm .i64 (F 84 [a]) λa=>(λe:PV=>Aq (a != 0) (Bd [e,a]) (Aw (decide (0<=Y))<|Aw (decide (Y.toNat<=ByteArray.size Z))<|Aa (ByteArray.extract Z 0 Y.toNat) λa=>Gm .i64 (F 85 [W]) λb=>Aq (decide (Y<(↑(ByteArray.size Z):Int))) (Aa (wrap .i64 (Y+1)) λb=>Aw (decide (0<=b))<|Aw (decide (b.toNat<=ByteArray.size Z)&&decide (ByteArray.size Z<=ByteArray.size Z))<|Aa (ByteArray.extract Z b.toNat (ByteArray.size Z)) λb=>De (F 86 [b,W]) λb c=>Bn .i64 b λb=>Hm c λc=>Aq (!c) (Bd [e,(2:Int)]) (Bd [.agg [W,a,b],(0:Int)])) (Bd [.agg [W,a,b],(0:Int)]))) (.agg [false,Bf ⟨#[]⟩,(0:Int)]))):=Κ
theorem Uw{p:Option (Ae->Option A8)}(u d:Nat)(Z:ByteArray):Ac (CP p) prog u (d+1) 42 [Z]=(λ(F:Ao)=>(λe:Option A8=>Aq (decide ((↑(ByteArray.size Z):Int)>=8)) (Aw (decide (8<=ByteArray.size Z))<|Aa (ByteArray.extract Z 0 8) λa=>De (F 83 [Cn (Array.toList (ByteArray.data a)==Array.toList (ByteArray.data (ByteArray.mk #[104,116,116,112,115,58,47,47])))]) λb c=>As b λb=>Ah c<|Aq (decide ((↑(ByteArray.size Z):Int)<(↑(ByteArray.size b):Int))) e (Aw (decide (Int.toNat (↑(ByteArray.size b):Int)<=ByteArray.size Z))<|Aa (ByteArray.extract Z 0 (Int.toNat (↑(ByteArray.size b):Int))) λc=>Aq (!Array.toList (ByteArray.data c)==Array.toList (ByteArray.data b)) e (Aw (decide (Int.toNat (↑(ByteArray.size b):Int)<=ByteArray.size Z)&&decide (ByteArray.size Z<=ByteArray.size Z))<|Aa (ByteArray.extract Z (Int.toNat (↑(ByteArray.size b):Int)) (ByteArray.size Z)) λb=>Aa (wrap .i64 ((↑(ByteArray.size b):Int)-1)) λc=>B3 u F Z u b ((↑(ByteArray.size b):Int)) c false (ByteArray.mk #[]) 0 (Array.toList (ByteArray.data a)==Array.toList (ByteArray.data (ByteArray.mk #[104,116,116,112,115,58,47,47]))) (ByteArray.mk #[]) 0))) (De (F 83 [false]) λa b=>As a λa=>Ah b<|Aq (decide ((↑(ByteArray.size Z):Int)<(↑(ByteArray.size a):Int))) e (Aw (decide (Int.toNat (↑(ByteArray.size a):Int)<=ByteArray.size Z))<|Aa (ByteArray.extract Z 0 (Int.toNat (↑(ByteArray.size a):Int))) λb=>Aq (!Array.toList (ByteArray.data b)==Array.toList (ByteArray.data a)) e (Aw (decide (Int.toNat (↑(ByteArray.size a):Int)<=ByteArray.size Z)&&decide (ByteArray.size Z<=ByteArray.size Z))<|Aa (ByteArray.extract Z (Int.toNat (↑(ByteArray.size a):Int)) (ByteArray.size Z)) λa=>Aa (wrap .i64 ((↑(ByteArray.size a):Int)-1)) λb=>B3 u F Z u a ((↑(ByteArray.size a):Int)) b false (ByteArray.mk #[]) 0 false (ByteArray.mk #[]) 0)))) (Bd [.agg [false,Bf ⟨#[]⟩,(0:Int)],(2:Int)])) (Ac (CP p) prog u d):=Κ
theorem Vo{p:Option (Ae->Option A8)}(u d:Nat)(W:Int)(Y:Nat)(V:Ae)(X:ByteArray)(U:Bool)(Z:ByteArray):Ac (CP p) prog u (d+1) 17 [.agg [W,Ap 1 Y V,X,U,Z]]=(λ(F:Ao)=>De (F 41 [W]) λa b=>As a λa=>Ah b<|Aq (Array.toList (ByteArray.data a)==Array.toList (ByteArray.data (ByteArray.mk #[]))) (Bd [Bf ⟨#[]⟩,(3:Int)]) (Aq (decide ((↑Y:Int)<1)) (Bd [Bf ⟨#[]⟩,(9:Int)]) (Aq (decide ((↑Y:Int)>64)) (Bd [Bf ⟨#[]⟩,(9:Int)]) (De (F 42 [X]) λa b=>Dr a λa=>Ad a λa c=>Be a λa=>Ad c λa c=>As a λa=>Br .i64 c λa=>Br .i64 b λa=>Aq (a != 0) (Bd [Bf ⟨#[]⟩,a]) (De (F 41 [W]) λa b=>As a λa=>Ah b<|Aw (decide (9+ByteArray.size a<=9223372036854775807))<|Aa (ByteArray.mk #[123,34,116,121,112,101,34,58,34]++a) λa=>Aw (decide (ByteArray.size a+15<=9223372036854775807))<|Aa (a++ByteArray.mk #[34,44,34,99,104,97,108,108,101,110,103,101,34,58,34]) λa=>De (F 43 [Ap 1 Y V]) λb c=>As b λb=>Ah c<|Aw (decide (ByteArray.size a+ByteArray.size b<=9223372036854775807))<|Aa (a++b) λa=>Aw (decide (ByteArray.size a+12<=9223372036854775807))<|Aa (a++ByteArray.mk #[34,44,34,111,114,105,103,105,110,34,58,34]) λa=>Aw (decide (ByteArray.size a+ByteArray.size X<=9223372036854775807))<|Aa (a++X) λa=>Aw (decide (ByteArray.size a+16<=9223372036854775807))<|Aa (a++ByteArray.mk #[34,44,34,99,114,111,115,115,79,114,105,103,105,110,34,58]) λa=>Aq (!U) (Aq (!Array.toList (ByteArray.data Z)==Array.toList (ByteArray.data (ByteArray.mk #[]))) (Bd [Bf ⟨#[]⟩,(4:Int)]) (Aw (decide (ByteArray.size a+6<=9223372036854775807))<|Aa (a++ByteArray.mk #[102,97,108,115,101,125]) λa=>Bd [a,(0:Int)])) (De (F 42 [Z]) λb c=>Dr b λb=>Ad b λb e=>Be b λb=>Ad e λb e=>As b λb=>Br .i64 e λb=>Br .i64 c λb=>Aq (b != 0) (Bd [Bf ⟨#[]⟩,b]) (Aw (decide (ByteArray.size a+18<=9223372036854775807))<|Aa (a++ByteArray.mk #[116,114,117,101,44,34,116,111,112,79,114,105,103,105,110,34,58,34]) λa=>Aw (decide (ByteArray.size a+ByteArray.size Z<=9223372036854775807))<|Aa (a++Z) λa=>Aw (decide (ByteArray.size a+2<=9223372036854775807))<|Aa (a++ByteArray.mk #[34,125]) λa=>Bd [a,(0:Int)]))))))) (Ac (CP p) prog u d):=Κ
end
theorem Aok{l:Ak}(c:Ce l)(a b:Nat):(Ab l).extract a b=Ab ((l.drop a).take (b-a)):=by
 have h:(Ab l).extract a b=Ab (Ci ((Ab l).extract a b)):=(Hw _).symm;rw[h]
 congr 1
 unfold Ci;rw[ByteArray.data_extract,Array.toList_extract,List.extract_eq_take_drop,List.map_take,List.map_drop];have:(List.map (λb:UInt8=>(b.toNat:Int)) (Ab l).data.toList)=l:=Ct c;rw[this]
theorem T9{a b:Ak}(c:Ce a)(d:Ce b):(Array.toList (Ab a).data==Array.toList (Ab b).data)=decide (a=b):=by
 rw[Bool.eq_iff_iff,beq_iff_eq,decide_eq_true_iff];constructor
 ·intro h
  have e:Ab a=Ab b:=by
   cases f:Ab a;cases g:Ab b;rw[f,g] at h;exact congrArg ByteArray.mk (Array.toList_inj.1 h)
  have i:=congrArg Ci e
  rwa [Ct c,Ct d] at i
 ·rintro rfl;rfl
theorem Ajj{w l:Ak}(h:w.length<=l.length):decide (l.take w.length=w)=w.isPrefixOf l:=by rw[Bool.eq_iff_iff,decide_eq_true_iff,List.isPrefixOf_iff_prefix,List.prefix_iff_eq_take];exact⟨λh=>h.symm,λh=>h.symm⟩
theorem Abp(c:Int):∀{cur:Ak},(∀x∈cur,x≠c)->∀r,Bh c (cur++c::r)=cur::Bh c r
 |[],_,r=>by
  show (if c=c then []::Bh c r else _)=_;rw[Bq rfl]
 |x::cur,h,r=>by
  have b:=h x Ψ;have d:=Abp c (cur:=cur) (λy e=>h y (by simp[e])) r;show (if x=c then []::Bh c (cur++c::r) else match Bh c (cur++c::r) with|a::t=>(x::a)::t|[]=>[[x]])=_;rw[Bb b,d]
theorem YL(c:Int):∀{cur:Ak},(∀x∈cur,x≠c)->Bh c cur=[cur]
 |[],_=>rfl
 |x::cur,h=>by
  have b:=h x Ψ;have d:=YL c (cur:=cur) (λy e=>h y (by simp[e]));show (if x=c then []::Bh c cur else match Bh c cur with|a::t=>(x::a)::t|[]=>[[x]])=_;rw[Bb b,d]
section
variable {u d:Nat}{p:Option (Ae->Option A8)}
theorem QO{c:Int}:Ac (CP p) prog u (d+1) 121 [.sc (.int .u8 c)]=some ⟨[Cn (Uy c)],[]⟩:=by
 rw[DY];unfold Uy;by_cases h:48<=c
 ·have a:=dT (q:=c>=48) h;have b:=dT h;simp only[Av,Au,a,b,Zzm]
 ·have a:=dF (q:=c>=48) h;have b:=dF h;simp only[Av,Au,a,b,NT]
def lbB(x:Int):Bool:=ltB x||x==45
theorem Apc{a0:ByteArray}{l:Ak}(z:Ce l)(D:l.length<=63):∀(r:Ak)(i nn:Nat),l.drop i=r->r.length+1<=nn ->
  Dh u (Ac (CP p) prog u (d+1)) a0 nn (Ab l) (i:Int)=some ⟨[Cn (r.all lbB)],[]⟩
 |[],i,nn,hd,A=>by
  obtain⟨k,rfl⟩:∃k,nn=k+1:=⟨nn-1,Ω⟩
  have hi:=drop_nil hd;have b:decide ((i:Int)<(l.length:Int))=false:=dF Ω;rw[Nd];simp only[Av,Au,Ai,b];rfl
 |c::r,i,nn,hd,A=>by
  obtain⟨k,rfl⟩:∃k,nn=k+1:=⟨nn-1,Ω⟩
  obtain⟨hi,C,Ta⟩:=Cl hd;have v:=Apc (a0:=a0) z D r (i+1) k Ta (by simp at A;omega)
  have KI:=z c (List.mem_of_getElem? C);have b:decide ((i:Int)<(l.length:Int))=true:=dT Ω;have g:decide ((0:Int)<=(i:Int))=true:=Ψ
  have h:(Array.toList (Ab l).data)[Int.toNat (i:Int)]?=some c.toNat.toUInt8:=by
   rw[H8];show (l.map λn=>n.toNat.toUInt8)[i]?=_;rw[List.getElem?_map,C];rfl
  have j:=M2 KI;have m:wrap .i64 ((i:Int)+1)=((i+1:Nat):Int):=Bi
  have e:Ac (CP p) prog u (d+1) 121 [.sc (.int .u8 c)]=_:=QO (u:=u) (d:=d) (p:=p) (c:=c);have step:(c::r).all lbB=(lbB c&&r.all lbB):=List.all_cons;rw[Nd,step];by_cases w:97<=c/\c<=122
  ·have a:=dT (q:=c>=97) w.1;have x:=bT w.2;have f:lbB c=true:=by unfold lbB ltB;simp[w]
   rw[f,Zzm];simp only[Av,Au,Ai,b,g,h,j,m,a,x];exact v
  cases o:Uy c
  ·rw[o] at e
   have Cs:ltB c=false:=by
    unfold ltB;rw[o,Bool.or_false];simp;omega
   by_cases y:c=45
   ·subst y;have a:decide ((45:Int)>=97)=false:=rfl;have t:((45:Int) != 45)=false:=rfl;have f:lbB 45=true:=rfl;rw[f,Zzm];simp only[Av,Au,Ai,b,g,h,j,m,a,e,Gg,t];exact v
   ·have t:(c != 45)=true:=by simp[y]
    have f:lbB c=false:=by unfold lbB;simp[Cs,y]
    rw[f,NT];by_cases s:97<=c
    ·have a:=dT (q:=c>=97) s;have x:=bF (q:=c<=122) Ω;simp only[Av,Au,Ai,b,g,h,j,m,a,x,e,Gg,t]
    ·have a:=dF (q:=c>=97) s;simp only[Av,Au,Ai,b,g,h,j,m,a,e,Gg,t]
  ·rw[o] at e;have E:=(MT c).1 o;have f:lbB c=true:=by unfold lbB ltB;simp[o]
   have a:=dF (q:=c>=97) Ω;rw[f,Zzm];simp only[Av,Au,Ai,b,g,h,j,m,a,e,Es];exact v
theorem Av2{l:Ak}(f:Ce l)(Bg:100<=u):Ac (CP p) prog u (d+2) 120 [Bf (Ab l)]=some ⟨[Cn (M1 l)],[]⟩:=by
 rw[EJ];by_cases g:1<=l.length
 ·have a:decide (((l.length:Nat):Int)<1)=false:=dF Ω;by_cases h:l.length<=63
  ·have b:decide (((l.length:Nat):Int)>63)=false:=dF Ω
   have i:M1 l=(!(l.head?==some 45) && !(l.getLast?==some 45)&&l.all lbB):=by
    unfold M1;rw[dT g,dT h];rfl
   cases l with
   |nil=>simp at g
   |cons c r=>
    have KI:=f c Ψ;have j:(Array.toList (Ab (c::r)).data)[0]?=some c.toNat.toUInt8:=rfl;have k:=M2 KI;by_cases m:c=45
    ·subst m;have q:((45:Int)==45)=true:=rfl;have e:M1 (45::r)=false:=by rw[i];simp
     rw[e];simp only[Av,Au,Ai,a,b,j,k,q]
    ·have q:(c==45)=false:=by simp[m]
     obtain⟨z,o⟩:∃z,(c::r).getLast?=some z:=⟨_,List.getLast?_eq_some_getLast Ψ⟩
     have DB:(c::r)[(c::r).length-1]?=some z:=by rw[<-List.getLast?_eq_getElem?];exact o
     have s:=f z (List.mem_of_getElem? DB);have v:wrap .i64 (((c::r).length:Int)-1)=(((c::r).length-1:Nat):Int):=Bi
     have w:decide ((0:Int)<=(((c::r).length-1:Nat):Int))=true:=dT Ω
     have x:(Array.toList (Ab (c::r)).data)[Int.toNat (((c::r).length-1:Nat):Int)]?=some z.toNat.toUInt8:=by
      rw[H8];show ((c::r).map λn=>n.toNat.toUInt8)[(c::r).length-1]?=_;rw[List.getElem?_map,DB];rfl
     have y:=M2 s;by_cases A7j:z=45
     ·subst A7j;have t:((45:Int)==45)=true:=rfl;have e:M1 (c::r)=false:=by rw[i,o];simp
      rw[e];simp only[Av,Au,Ai,a,b,j,k,q,v,w,x,y,t]
     ·have t:(z==45)=false:=by simp[A7j]
      have e:M1 (c::r)=(c::r).all lbB:=by rw[i,o];simp[m,A7j]
      have A:=Apc (u:=u) (d:=d) (p:=p) (a0:=Ab (c::r)) f h (c::r) 0 u rfl Ω;rw[e];simp only[Av,Au,Ai,a,b,j,k,q,v,w,x,y,t];rw[Zj (F7:=Ω)];exact A
  ·have b:decide (((l.length:Nat):Int)>63)=true:=dT Ω;have e:M1 l=false:=by unfold M1;simp[h]
   rw[e];simp only[Av,Au,Ai,a,b]
 ·have a:decide (((l.length:Nat):Int)<1)=true:=dT Ω;have e:M1 l=false:=by unfold M1;simp[g]
  rw[e];simp only[Av,Au,Ai,a]
theorem Afv{F:Ao}{a0:ByteArray}{a1 c:Int}{l:Ak}(d:Ce l)(v:l.length<=100000):∀(r cur:Ak)(done:List Ak) (f nn:Nat),l.drop f=cur++r->(∀x∈cur,x≠c)->done.length<=f->f<=l.length->r.length+1<=nn ->
  Fu u F a0 a1 nn (Ab l) c done.length (f:Int) ((f+cur.length:Nat):Int) (done.map BG)=some ⟨[.own 1 (done++Bh c (cur++r)).length ((done++Bh c (cur++r)).map BG)],[]⟩
 |[],cur,done,f,nn,hd,g,GP,w,p=>by
  obtain⟨k,rfl⟩:∃k,nn=k+1:=⟨nn-1,Ω⟩
  rw[List.append_nil] at hd;have Ef:=congrArg List.length hd;rw[List.length_drop] at Ef;have h:decide (((f+cur.length:Nat):Int)<(l.length:Int))=false:=dF Ω;have i:decide ((0:Int)<=(f:Int))=true:=Ψ
  have j:decide (Int.toNat (f:Int)<=l.length)=true:=dT Ω
  have m:(Ab l).extract (Int.toNat (f:Int)) l.length=Ab cur:=by
   rw[Aok d,H8,hd,Jo Ω]
  have o:decide (done.length*1<=List.length (done.map BG))=true:=Ψ
  have A:decide ((done.length+1)*16<=1099511627776)=true:=dT Ω;have C:decide (done.length+1<=1099511627776)=true:=dT Ω
  have b8:List.take (done.length*1) (done.map BG)++[PV.sc (.string (Ab cur))]=(done++[cur]).map BG:=by
   rw[Jo Ψ];simp[BG]
  have D:decide ((done.length+1)*1<=List.length ((done++[cur]).map BG))=true:=Ψ
  have c1:List.take ((done.length+1)*1) ((done++[cur]).map BG)=(done++[cur]).map BG:=Jo Ψ;rw[Nl,List.append_nil,YL c g];simp only[Av,Au,Ai,dle,h,i,j,m,o,A,C,b8,D,c1];simp
 |x::r,cur,done,f,nn,hd,g,GP,w,p=>by
  obtain⟨k,rfl⟩:∃k,nn=k+1:=⟨nn-1,Ω⟩
  have Ef:=congrArg List.length hd;rw[List.length_drop] at Ef;simp only[Vl,Ox] at Ef
  have z:l[f+cur.length]?=some x:=by
   have:(l.drop f)[cur.length]?=some x:=by rw[hd];simp
   rwa [List.getElem?_drop] at this
  have s:=d x (List.mem_of_getElem? z);have h:decide (((f+cur.length:Nat):Int)<(l.length:Int))=true:=dT Ω;have i:decide ((0:Int)<=((f+cur.length:Nat):Int))=true:=dT Ω;have t:decide ((0:Int)<=(f:Int))=true:=Ψ
  have j:(Array.toList (Ab l).data)[Int.toNat ((f+cur.length:Nat):Int)]?=some x.toNat.toUInt8:=by
   rw[H8];show (l.map λn=>n.toNat.toUInt8)[f+cur.length]?=_;rw[List.getElem?_map,z];rfl
  have m:=M2 s;have o:wrap .i64 (((f+cur.length:Nat):Int)+1)=((f+cur.length+1:Nat):Int):=Bi
  rw[Nl];by_cases b:x=c
  ·subst b;have q:(x==x)=true:=Ψ
   have c1:decide (Int.toNat (f:Int)<=Int.toNat ((f+cur.length:Nat):Int))=true:=dT Ω;have c2:decide (Int.toNat ((f+cur.length:Nat):Int)<=l.length)=true:=dT Ω
   have E:(Ab l).extract (Int.toNat (f:Int)) (Int.toNat ((f+cur.length:Nat):Int))=Ab cur:=by
    rw[Aok d,H8,H8,hd,Nat.add_sub_cancel_left,List.take_left]
   have G:decide (done.length*1<=List.length (done.map BG))=true:=Ψ
   have H:decide ((done.length+1)*16<=1099511627776)=true:=dT Ω;have I:decide (done.length+1<=1099511627776)=true:=dT Ω
   have c7:List.take (done.length*1) (done.map BG)++[PV.sc (.string (Ab cur))]=(done++[cur]).map BG:=by
    rw[Jo Ψ];simp[BG]
   have Ta:l.drop (f+cur.length+1)=[]++r:=by
    rw[<-List.drop_drop,<-List.drop_drop,hd,List.drop_left];rfl
   have e:=Afv (F:=F) (a0:=a0) (a1:=a1) (c:=x) d v r [] (done++[cur]) (f+cur.length+1) k Ta (λy a=>nomatch a) (by simp;omega) Ω (by simp at p;omega)
   rw[Abp x g];simp only[Av,Au,Ai,h,i,t,j,m,q,c1,c2,E,G,H,I,c7,o];rw[show (done++[cur]).length=done.length+1 by simp,show f+cur.length+1+([]:Ak).length=f+cur.length+1 from rfl] at e;refine e.trans ?_;simp
  ·have q:(x==c)=false:=by simp[b]
   have e:=Afv (F:=F) (a0:=a0) (a1:=a1) d v r (cur++[x]) done f k (by rw[hd];simp) (λy a=>by
    rcases B2.1 a with a|a
    ·exact g y a
    ·simp at a;subst a;exact b) GP w (by simp at p;omega)
   simp only[Av,Au,Ai,h,i,j,m,q,o];rw[show f+(cur++[x]).length=f+cur.length+1 by simp;omega] at e
   refine e.trans ?_;simp
theorem Aul{c:Int}{l:Ak}(a:Ce l)(b:l.length<=100000)(Bg:l.length+1<=u):Ac (CP p) prog u (d+1) 119 [Bf (Ab l),.sc (.int .u8 c)]=some ⟨[.own 1 (Bh c l).length ((Bh c l).map BG)],[]⟩:=by rw[CY];have:=Afv (u:=u) (F:=Ac (CP p) prog u d) (a0:=Ab l) (a1:=c) (c:=c) a b l [] [] 0 u rfl (λy e=>nomatch e) (Cg _) Ω Bg;exact this
theorem Aj2{a0:ByteArray}{l:Ak}(b:Ce l)(q:l.length<=100000):∀(r:Ak)(i nn:Nat),l.drop i=r->r.length+1<=nn ->
  F5 u (Ac (CP p) prog u (d+1)) a0 nn (Ab l) (i:Int)=some ⟨[A0 (if r.all Uy=true then 2 else 0)],[]⟩
 |[],i,nn,hd,f=>by
  obtain⟨k,rfl⟩:∃k,nn=k+1:=⟨nn-1,Ω⟩
  have hi:=drop_nil hd;have a:decide ((i:Int)<(l.length:Int))=false:=dF Ω;rw[Kv];simp only[Av,Au,Ai,a];rfl
 |c::r,i,nn,hd,f=>by
  obtain⟨k,rfl⟩:∃k,nn=k+1:=⟨nn-1,Ω⟩
  obtain⟨hi,g,Ta⟩:=Cl hd;have s:=Aj2 (a0:=a0) b q r (i+1) k Ta (by simp at f;omega)
  have KI:=b c (List.mem_of_getElem? g);have a:decide ((i:Int)<(l.length:Int))=true:=dT Ω;have h:decide ((0:Int)<=(i:Int))=true:=Ψ
  have j:(Array.toList (Ab l).data)[Int.toNat (i:Int)]?=some c.toNat.toUInt8:=by
   rw[H8];show (l.map λn=>n.toNat.toUInt8)[i]?=_;rw[List.getElem?_map,g];rfl
  have m:=M2 KI;have t:wrap .i64 ((i:Int)+1)=((i+1:Nat):Int):=Bi
  have e:Ac (CP p) prog u (d+1) 121 [.sc (.int .u8 c)]=_:=QO (u:=u) (d:=d) (p:=p) (c:=c);rw[Kv,List.all_cons];cases o:Uy c
  ·rw[o] at e;simp only[Av,Au,Ai,a,h,j,m,e,Gg,NT,Bool.false_eq_true,if_false]
  ·rw[o] at e;simp only[Av,Au,Ai,a,h,j,m,e,Es,Zzm,t];exact s
theorem Ada{a0:ByteArray}(Bg:2000<=u){ls:List Ak}(g:∀x∈ls,Ce x/\x.length<=1000)(l:ls≠[])(o:ls.length<=1000):∀(r:List Ak) (i nn:Nat),ls.drop i=r->r.length+1<=nn ->
  F3 u (Ac (CP p) prog u (d+2)) a0 nn ls.length (i:Int) (ls.map BG)=some ⟨[A0 (if r.all M1=false then 2 else if (ls.getLastD []).all Uy=true then 2 else 0)],[]⟩
 |[],i,nn,hd,m=>by
  obtain⟨k,rfl⟩:∃k,nn=k+1:=⟨nn-1,Ω⟩
  have hi:=drop_nil hd;have Ai2:0<ls.length:=List.length_pos_iff.2 l;have a:decide ((i:Int)<(ls.length:Int))=false:=dF Ω;have b:wrap .i64 ((ls.length:Int)-1)=((ls.length-1:Nat):Int):=Bi
  have q:decide ((0:Int)<=((ls.length-1:Nat):Int))=true:=dT Ω;have s:decide (((ls.length-1:Nat):Int)<(ls.length:Int))=true:=dT Ω
  have UX:ls.getLastD []=ls[ls.length-1]'(Ω):=by
   rw[List.getLastD_eq_getLast?,List.getLast?_eq_getElem?,List.getElem?_eq_getElem Ω];rfl
  have c:List.getD (ls.map BG) (0+Int.toNat ((ls.length-1:Nat):Int)*1) PV.top=Bf (Ab (ls.getLastD [])):=by
   rw[H8,Ka,Jy,List.getD_eq_getElem?_getD,List.getElem?_map,List.getElem?_eq_getElem Ω,UX];rfl
  have h:=g (ls.getLastD []) (by rw[UX];exact List.getElem_mem _)
  have j:=Aj2 (u:=u) (d:=d+1) (p:=p) (a0:=a0) h.1 Ω (ls.getLastD []) 0 u rfl Ω;rw[Kh];simp only[Av,Au,a,b,q,s,c,List.all_nil,Bool.true_eq_false,if_false];exact j
 |x::r,i,nn,hd,m=>by
  obtain⟨k,rfl⟩:∃k,nn=k+1:=⟨nn-1,Ω⟩
  obtain⟨hi,n,Ta⟩:=Cl hd;have t:=Ada (a0:=a0) Bg g l o r (i+1) k Ta (by simp at m;omega)
  have h:=g x (List.mem_of_getElem? n);have e:Ac (CP p) prog u (d+2) 120 [Bf (Ab x)]=_:=Av2 (u:=u) (d:=d) (p:=p) h.1 Ω;have a:decide ((i:Int)<(ls.length:Int))=true:=dT Ω;have b:decide ((0:Int)<=(i:Int))=true:=Ψ
  have c:List.getD (ls.map BG) (0+Int.toNat (i:Int)*1) PV.top=Bf (Ab x):=by
   rw[H8,Ka,Jy,List.getD_eq_getElem?_getD,List.getElem?_map,n];rfl
  have v:wrap .i64 ((i:Int)+1)=((i+1:Nat):Int):=Bi
  rw[Kh];cases f:M1 x
  ·rw[f] at e;have:((x::r).all M1=false):=by simp[f]
   rw[Bq this];simp only[Av,Au,a,b,c,e,Gg]
  ·rw[f] at e;have:(x::r).all M1=r.all M1:=by simp[f]
   rw[this];simp only[Av,Au,a,b,c,e,Es,v];exact t
theorem A3b{l:Ak}(a:Ce l)(g:l.length<=1000000)(Bg:2000<=u):Ac (CP p) prog u (d+4) 84 [Bf (Ab l)]=some ⟨[A0 (Ws l)],[]⟩:=by
 rw[Zk];unfold Ws;by_cases h:100<l.length
 ·have b:decide (((l.length:Nat):Int)>100)=true:=dT Ω;rw[Bq h];simp only[Av,Au,Ai,b]
 ·have b:decide (((l.length:Nat):Int)>100)=false:=dF Ω;have e:Ac (CP p) prog u (d+3) 119 [Bf (Ab l),.sc (.int .u8 46)]=_:=Aul (u:=u) (d:=d+2) (p:=p) (c:=46) a Ω Ω;have i:=FU 46 l;have hd:=Ada (a0:=Ab l) (u:=u) (d:=d+1) (p:=p) Ω (ls:=Bh 46 l) (λx f=>⟨(DF 46 a x f).1,by have:=(DF 46 a x f).2;omega⟩) (To 46 l) Ω (Bh 46 l) 0 u rfl Ω
  rw[Bb h];simp only[Av,Au,Ai,b,e];exact hd
end
end
end Go.Proofs.YthlonbjmnomlcaaGreatDoor.Pv
