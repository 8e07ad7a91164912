/-
  The proof of SigninBinds, part 7.
-/
import Derived.Test.YtohcncipgljdkaaGreatDoorEF
import Derived.Test.YtohcncipgljdkaaGreatDoorRows
set_option linter.unusedSimpArgs false
set_option linter.unusedVariables false
namespace Go.Proofs.YtohcncipgljdkaaGreatDoor.Pv
open Go.IntKind (wrap)
open Go.Proofs.Tryz (prog)
set_option maxRecDepth 1000000
noncomputable section
section
variable {xs:FuncId->Option (Ae->Option Bv)}(fu d:Nat)(call:Ap)
def Nz(Z Y:Nat)(X W:Int)(V:Nat)(U:Bool)(T S:Ae)(Q:Int)(P:ByteArray)(O:Nat)(N:Ae)(M:Nat)(L:Ae)(K:Nat)(J:Ae)(I:Int)(H:Nat)(G:Ae)(E:ByteArray):Option Bv:=Kk fu call 21 Tryz.f21 [] [.r,.r,.r] Z ⟨lk [(1,.ptr 1 0),(2,.view 2 1 0 Y),(3,.ptr 3 0)],C4 [(1,.st [Ag X,W,.view 157 1 0 V,U]),(157,.ar true T),(2,.ar true S),(3,.st [Q,P,Am 1 O N,Am 1 M L,Am 1 K J,I,Am 1 H G,E])]⟩
def Ns(Z Y:Nat)(X:Int)(W:Ae)(V:Int)(U:ByteArray)(T:Nat)(S:Ae)(Q:Nat)(P:Ae)(O:Nat)(N:Ae)(M:Int)(L:Nat)(K:Ae)(J:ByteArray)(I:Nat)(H:Ae)(G E:Int)(D B:Int)(A:Bool)(z:Int)(w:Nat)(v:Ae)(u:Bool)(t y27:Int):Option Bv:=Kk fu call 21 Tryz.f21 [] [.r,.r,.r,.r] Z ⟨lk [(2,.view 2 1 0 Y),(3,.ptr 3 0),(4,.ptr 4 0),(5,X)],C4 [(2,.ar true W),(3,.st [V,U,Am 1 T S,Am 1 Q P,Am 1 O N,M,Am 1 L K,J]),(4,.st [Am 1 I H,G,Ag E,Ag D,B,A,Ag z,Am 2 w v,u,t,y27])]⟩
def Nq(Z:Nat)(Y X:Int)(W:Nat)(V:Ae)(U T:Int)(S Q:Int)(P:Bool)(O:Int)(N:Nat)(M:Ae)(L:Bool)(K J:Int)(I:Nat)(H:Ae)(G E:Int)(D B:Int)(A:Bool)(z:Int)(w:Nat)(v:Ae)(u:Bool)(t y27:Int):Option Bv:=Kk fu call 21 Tryz.f21 [] [.r,.r,.r,.r,.r] Z ⟨lk [(4,.ptr 4 0),(5,Y),(6,.ptr 6 0),(7,X)],C4 [(4,.st [Am 1 W V,U,Ag T,Ag S,Q,P,Ag O,Am 2 N M,L,K,J]),(6,.st [Am 1 I H,G,Ag E,Ag D,B,A,Ag z,Am 2 w v,u,t,y27])]⟩
theorem V1(Y:Nat)(Gc:0<Y)(Z:Nat)(H G:Int)(X:Nat)(E:Bool)(V W:Ae)(U:Int)(T:ByteArray)(S:Nat)(Q:Ae)(P:Nat)(O:Ae)(N:Nat)(M:Ae)(L:Int)(K:Nat)(J:Ae)(I:ByteArray):Nz fu call Y Z H G X E V W U T S Q P O N M L K J I=(Dl (call 27 []) fun a b=>Di a fun a=>Ad a fun a c=>Bd a fun a=>Ad c fun c e=>Bd c fun c=>Gg 1 e fun e f g=>Br .i64 g fun g h=>Ad h fun h i=>Ax h fun h=>Br .i64 i fun i j=>Br .i64 j fun j k=>Ad k fun k m=>Ax k fun k=>Br .i64 m fun m n=>Ad n fun n o=>Ax n fun n=>Gg 1 o fun o p q=>Br .i64 q fun q s=>Br .u64 s fun s t=>Br .i64 t fun t u=>Cg .u64 u fun u=>Ak b<|As (decide (0+X*1<=V.length))<|Dl (call 12 [.agg [Ag H,G,Am 1 X (List.take (X*1) (V.drop 0)),E],Ag 0]) fun b v=>Di b fun b=>Gg 1 b fun b w z=>Br .i64 z fun z A=>Br .u64 A fun A B=>Br .u64 B fun B D=>Br .i64 D fun D A5x=>Ad A5x fun Bg4 Bgo=>Ax Bg4 fun A4o=>Br .u64 Bgo fun A2y Bna=>Gg 2 Bna fun Bob A4u Bkm=>Ad Bkm fun A3n Blo=>Ax A3n fun A4e=>Br .i64 Blo fun A5s Blc=>Cg .i64 Blc fun A4m=>Ak v<|As (decide (0+Z*1<=W.length))<|Dl (call 23 [.agg [a,c,Am 1 e f,g,h,i,j,k,m,n,Am 1 o p,q,Ag s,t,Ag u],.agg [(0:Int),(0:Int),(0:Int),Am 3 0 [],(0:Int),Am 1 0 [],Am 1 0 []],.agg [Am 1 b w,z,Ag A,Ag B,D,A4o,Ag A2y,Am 2 Bob A4u,A4e,A5s,A4m],Am 1 Z (List.take (Z*1) (W.drop 0)),(5:Int),.agg [U,T,Am 1 S Q,Am 1 P O,Am 1 N M,L,Am 1 K J,I]]) fun a b=>Di a fun a=>Gg 1 a fun a c e=>Br .i64 e fun e f=>Br .u64 f fun f g=>Br .u64 g fun g h=>Br .i64 h fun h i=>Ad i fun i j=>Ax i fun i=>Br .u64 j fun j k=>Gg 2 k fun k m n=>Ad n fun n o=>Ax n fun n=>Br .i64 o fun o p=>Cg .i64 p fun p=>Cg .i64 b fun b=>Ns fu call fu Z b W U T S Q P O N M L K J I a c e f g h i j k m n o p):=by cases Y with|zero=>exact absurd Gc (Nat.lt_irrefl 0)|succ Y=>kernel_rfl
theorem Xd(Z:Nat)(Gc:0<Z)(Y:Nat)(I:Int)(X:Ae)(H:Int)(G:ByteArray)(E:Nat)(D:Ae)(B:Nat)(A:Ae)(z:Nat)(w:Ae)(v:Int)(u:Nat)(t:Ae)(y14:ByteArray)(W:Nat)(V:Ae)(U T:Int)(S Q:Int)(P:Bool)(O:Int)(N:Nat)(M:Ae)(L:Bool)(K J:Int):Ns fu call Z Y I X H G E D B A z w v u t y14 W V U T S Q P O N M L K J=(Dl (call 27 []) fun a b=>Di a fun a=>Ad a fun a c=>Bd a fun a=>Ad c fun c e=>Bd c fun c=>Gg 1 e fun e f g=>Br .i64 g fun g h=>Ad h fun h i=>Ax h fun h=>Br .i64 i fun i j=>Br .i64 j fun j k=>Ad k fun k m=>Ax k fun k=>Br .i64 m fun m n=>Ad n fun n o=>Ax n fun n=>Gg 1 o fun o p q=>Br .i64 q fun q s=>Br .u64 s fun s Bl9=>Br .i64 Bl9 fun Bg8 Bk4=>Cg .u64 Bk4 fun Bhu=>Ak b<|As (decide (0+Y*1<=X.length))<|Dl (call 23 [.agg [a,c,Am 1 e f,g,h,i,j,k,m,n,Am 1 o p,q,Ag s,Bg8,Ag Bhu],.agg [(0:Int),(0:Int),(0:Int),Am 3 0 [],(0:Int),Am 1 0 [],Am 1 0 []],.agg [Am 1 W V,U,Ag T,Ag S,Q,P,Ag O,Am 2 N M,L,K,J],Am 1 Y (List.take (Y*1) (X.drop 0)),(5:Int),.agg [H,G,Am 1 E D,Am 1 B A,Am 1 z w,v,Am 1 u t,y14]]) fun a b=>Di a fun a=>Gg 1 a fun a c e=>Br .i64 e fun e f=>Br .u64 f fun f g=>Br .u64 g fun g h=>Br .i64 h fun h i=>Ad i fun i j=>Ax i fun i=>Br .u64 j fun j k=>Gg 2 k fun k m n=>Ad n fun n o=>Ax n fun n=>Br .i64 o fun o p=>Cg .i64 p fun p=>Cg .i64 b fun b=>Nq fu call fu I b W V U T S Q P O N M L K J a c e f g h i j k m n o p):=by cases Z with|zero=>exact absurd Gc (Nat.lt_irrefl 0)|succ Z=>kernel_rfl
theorem V5(Z:Nat)(Gc:0<Z)(Y X:Int)(T:Nat)(S:Ae)(Q P:Int)(O N:Int)(M:Bool)(W:Int)(L:Nat)(K:Ae)(J:Bool)(I V:Int)(H:Nat)(G:Ae)(E D:Int)(B A:Int)(z:Bool)(w:Int)(v:Nat)(u:Ae)(U:Bool)(t y27:Int):Nq fu call Z Y X T S Q P O N M W L K J I V H G E D B A z w v u U t y27=(Aw (Y==0) (Aw (W==4) (Aw (V==5) (Aw (X==37) (Bk [U]) (Bk [false])) (Bk [false])) (Bk [false])) (Bk [false])):=by cases Z with|zero=>exact absurd Gc (Nat.lt_irrefl 0)|succ Z=>kernel_rfl
theorem Z9{p:Option (Ae->Option Bv)}(fu d:Nat):Ac (CP p) prog fu (d+1) 21 []=(fun (call:Ap)=>Dl (call 11 [(1:Int),(2:Int),false]) fun a b=>Di a fun a=>Br .u64 a fun a c=>Br .i64 c fun c e=>VY 1 e fun e f g=>Gv g fun g=>Ak b<|Dl (call 9 [(1:Int),(16:Int)]) fun b h=>Kf 1 b fun b i=>Ak h<|As (decide (0+e*1<=f.length))<|As (decide (0+b*1<=i.length))<|Dl (call 14 [.agg [Ag a,c,Am 1 e (List.take (e*1) (f.drop 0)),g],Bl ⟨#[101,120,97,109,112,108,101,46,99,111,109]⟩,Bl ⟨#[104,116,116,112,115,58,47,47,101,120,97,109,112,108,101,46,99,111,109]⟩,Am 1 b (List.take (b*1) (i.drop 0)),false,(2:Int),(0:Int),Bl ⟨#[117]⟩]) fun h j=>Di h fun h=>Br .i64 h fun h k=>Ad k fun k m=>Bd k fun k=>Gg 1 m fun m n o=>Gg 1 o fun o q s=>Gg 1 s fun s t u=>Br .i64 u fun u v=>Gg 1 v fun v w z=>Ad z fun z A=>Bd z fun z=>Ak A<|Ak j<|Nz fu call fu b a c e g f i h k m n o q s t u v w z) (Ac (CP p) prog fu d):=by kernel_rfl
end
def XE(a b:Al):Bool:=(a.map fun n=>n.toNat.toUInt8)==(b.map fun n=>n.toNat.toUInt8)
theorem Al5(a b:Al):(Array.toList (ByteArray.data (ByteArray.mk (List.toArray (a.map fun n=>n.toNat.toUInt8))))==Array.toList (ByteArray.data (ByteArray.mk (List.toArray (b.map fun n=>n.toNat.toUInt8)))))=XE a b:=by exact id rfl
theorem Si(a:Al):XE a a=true:=by unfold XE;simp
theorem Ayr{a b:Al}(ha:Cz a)(hb:Cz b):XE a b=true↔a=b:=by
 constructor
 ·intro h;have h:(a.map fun n=>n.toNat.toUInt8)=(b.map fun n=>n.toNat.toUInt8):=eq_of_beq h;have e:Ab a=Ab b:=by unfold Ab;rw[h]
  rw[<-C7 ha,<-C7 hb,e]
 ·rintro rfl
  exact Si a
def QE(b:Al)(c:Int):Int:=E3 13 (b++Bu c)
section
variable {fu d:Nat}
theorem Agv(a b:Al):Ac C1 prog fu (d+1) 46 [.lst false 1 a.length (Af .u8 a),.lst false 1 b.length (Af .u8 b)]=some ⟨[De (XE a b)],[]⟩:=by refine (WZ fu d a.length (Af .u8 a) b.length (Af .u8 b)).trans ?_;have La:=An .u8 a;have Lb:=An .u8 b;have ba:=Pn a;have bb:=Pn b;have q:=Al5 a b;simp(disch:=omega)only[Be,Bf,La,Lb,ba,bb,q]
theorem A54{s:ByteArray}(hs:s.size<=1000000)(B2:1000400<=fu):Ac C1 prog fu (d+6) 48 [Bl s]=some ⟨[Ag (E3 9 (Cs s))],[]⟩:=by
 refine (HU fu (d+5) s).trans ?_;have hh:=QX (xs:=WB) (fu:=fu) (d:=d) (l:=Cs s) (Va s) (by rw[Ca];omega) (by omega) (by rw[Ca];omega) 9
 have L:(D3 s).length=s.size:=by rw[H7,An,Ca]
 have t:List.take s.size (D3 s)=Af .u8 (Cs s):=by rw[H7,Hz (by rw[An,Ca];omega)]
 rw[Ca] at hh;simp(disch:=omega)only[Be,Bf,L,t,Me,J1,hh]
theorem Ass{s:ByteArray}(hs:s.size<=1000000)(B2:1000400<=fu):Ac C1 prog fu (d+6) 51 [Bl s]=some ⟨[Ag (E3 11 (Cs s))],[]⟩:=by
 refine (KW fu (d+5) s).trans ?_;have hh:=QX (xs:=WB) (fu:=fu) (d:=d) (l:=Cs s) (Va s) (by rw[Ca];omega) (by omega) (by rw[Ca];omega) 11
 have L:(D3 s).length=s.size:=by rw[H7,An,Ca]
 have t:List.take s.size (D3 s)=Af .u8 (Cs s):=by rw[H7,Hz (by rw[An,Ca];omega)]
 rw[Ca] at hh;simp(disch:=omega)only[Be,Bf,L,t,Me,J1,hh]
theorem Avq{s:ByteArray}(hs:s.size<=1000000)(B2:1000400<=fu):Ac C1 prog fu (d+5) 35 [Bl s]=some ⟨[Ag (E3 9 (Cs s))],[]⟩:=by
 refine (Zd fu (d+4) s).trans ?_;have hh:=JJ (xs:=WB) (fu:=fu) (d:=d) (l:=Cs s) (Va s) (by rw[Ca];omega) (by omega) (by rw[Ca];omega) 9
 have L:(D3 s).length=s.size:=by rw[H7,An,Ca]
 have t:List.take s.size (D3 s)=Af .u8 (Cs s):=by rw[H7,Hz (by rw[An,Ca];omega)]
 rw[Ca] at hh;simp(disch:=omega)only[Be,Bf,L,t,Me,J1,hh]
theorem YL{s:ByteArray}(hs:s.size<=1000000)(B2:1000400<=fu):Ac C1 prog fu (d+5) 39 [Bl s]=some ⟨[Ag (E3 11 (Cs s))],[]⟩:=by
 refine (V4 fu (d+4) s).trans ?_;have hh:=JJ (xs:=WB) (fu:=fu) (d:=d) (l:=Cs s) (Va s) (by rw[Ca];omega) (by omega) (by rw[Ca];omega) 11
 have L:(D3 s).length=s.size:=by rw[H7,An,Ca]
 have t:List.take s.size (D3 s)=Af .u8 (Cs s):=by rw[H7,Hz (by rw[An,Ca];omega)]
 rw[Ca] at hh;simp(disch:=omega)only[Be,Bf,L,t,Me,J1,hh]
theorem Ame{b:Al}(hb:Cz b)(hl:b.length<=100000)(B2:1000400<=fu)(c:Int):Ac C1 prog fu (d+5) 38 [.lst false 1 b.length (Af .u8 b),Ag c]=some ⟨[Ag (QE b c)],[]⟩:=by
 refine (Yg fu (d+4) b.length (Af .u8 b) c).trans ?_;unfold QE;have ow:=Ane (fu:=fu) (d:=d+3) (by omega) c;have Lq:(Af .u8 (Bu c)).length=8:=by rw[An,Cl]
 have tq:List.take 8 (Af .u8 (Bu c))=Af .u8 (Bu c):=Hz (by omega);have L:=An .u8 b;have t:=PL .u8 b;have ea:Af .u8 b++Af .u8 (Bu c)=Af .u8 (b++Bu c):=by rw[Af,Af,Af,List.flatMap_append]
 have Ws:(b++Bu c).length=b.length+8:=by rw[Wy,Cl]
 have hh:=JJ (xs:=WB) (fu:=fu) (d:=d) (l:=b++Bu c) (Yf hb (Uh c)) (by omega) (by omega) (by omega) 13;have L2:=An .u8 (b++Bu c);have t2:List.take (b.length+8) (Af .u8 (b++Bu c))=Af .u8 (b++Bu c):=Hz (by omega);rw[Ws] at hh;simp(disch:=omega)only[Be,Bf,ow,Me,Ie,J1,Lq,tq,L,t,ea,L2,t2,hh]
theorem Atm{n:Int}(h0:0<=n)(h1:n<=1000000):Ac C1 prog fu (d+1) 130 [.lst true 1 0 [],Ar n]=some ⟨[.own 1 0 []],[]⟩:=by
 refine (HH fu d n).trans ?_;have a1:=dF (q:=n<0) (by omega);have w1:wrap .i64 (n-0)=n:=B0
 by_cases h:n>0
 ·have a2:=dT h;have a3:=dT h0;have a4:=dT (q:=Int.toNat n*1<=1099511627776) (by omega);have a5:=dT (q:=n<=1099511627776) (by omega);simp only[Be,Bf,a1,w1,a2,a3,a4,a5]
 ·have a2:=dF h;simp only[Be,Bf,a1,w1,a2]
set_option maxHeartbeats 1000000 in
theorem A0c{a b:Al}(ha:a.length<=100000)(hb:b.length<=100000)(B2:1000<=fu):Ac C1 prog fu (d+2) 90 [.lst false 1 2 [.lst false 1 a.length (Af .u8 a),.lst false 1 b.length (Af .u8 b)]]=some ⟨[.own 1 (a.length+b.length) (Af .u8 (a++b))],[]⟩:=by
 obtain⟨f,rfl⟩:∃f,fu=f+3:=⟨fu-3,by omega⟩
 refine (AE (f+3) (d+1) 2 _).trans ?_;have La:=An .u8 a;have Lb:=An .u8 b;have w1:wrap .i64 (0+(a.length:Int))=((a.length:Nat):Int):=B0
 have w2:wrap .i64 (((a.length:Nat):Int)+(b.length:Int))=((a.length+b.length:Nat):Int):=B0
 have w3:wrap .i64 (0+1)=1:=by decide
 have w4:wrap .i64 (1+1)=2:=by decide
 have l0:decide ((0:Int)<((2:Nat):Int))=true:=rfl;have l1:decide ((1:Int)<((2:Nat):Int))=true:=rfl;have l2:decide ((2:Int)<((2:Nat):Int))=false:=rfl;have z0:decide ((0:Int)<=0)=true:=rfl;have z1:decide ((0:Int)<=1)=true:=rfl;have g0:List.getD [PV.lst false 1 a.length (Af .u8 a),PV.lst false 1 b.length (Af .u8 b)] (Int.toNat 0*1) PV.top=PV.lst false 1 a.length (Af .u8 a):=rfl;have g1:List.getD [PV.lst false 1 a.length (Af .u8 a),PV.lst false 1 b.length (Af .u8 b)] (Int.toNat 1*1) PV.top=PV.lst false 1 b.length (Af .u8 b):=rfl;have n1:=dF (q:=((a.length:Nat):Int)<0) (by omega);have n2:=dF (q:=((a.length+b.length:Nat):Int)<0) (by omega);have gr:=Atm (fu:=f+3) (d:=d) (n:=((a.length+b.length:Nat):Int)) (by omega) (by omega);have c1:decide (0*1<=List.length ([]:Ae))=true:=rfl;have c2:decide (List.length (Af .u8 a)=a.length*1)=true:=dT (by omega)
 have c3:=dT (q:=a.length*1<=1099511627776) (by omega);have c4:=dT (q:=a.length<=1099511627776) (by omega);have t0:List.take (0*1) ([]:Ae)=[]:=rfl;have e0:([]:Ae)++Af .u8 a=Af .u8 a:=VW _;have n0:0+a.length=a.length:=Ie _;have c5:decide (a.length*1<=List.length (Af .u8 a))=true:=dT (by omega);have c6:decide (List.length (Af .u8 b)=b.length*1)=true:=dT (by omega);have c7:=dT (q:=(a.length+b.length)*1<=1099511627776) (by omega);have c8:=dT (q:=a.length+b.length<=1099511627776) (by omega);have t1:List.take (a.length*1) (Af .u8 a)=Af .u8 a:=Hz (by omega);have ea:Af .u8 a++Af .u8 b=Af .u8 (a++b):=by rw[Af,Af,Af,List.flatMap_append]
 have L2:=An .u8 (a++b);rw[Wy] at L2;have c9:decide ((a.length+b.length)*1<=List.length (Af .u8 (a++b)))=true:=dT (by omega);have t2:List.take ((a.length+b.length)*1) (Af .u8 (a++b))=Af .u8 (a++b):=Hz (by omega)
 (try dsimp only)
 rw[Hr];simp only[Be,Bf,l0,z0,g0,w1,n1,w3]
 (try dsimp only)
 rw[Hr];simp only[Be,Bf,l1,z1,g1,w2,n2,w4]
 (try dsimp only)
 rw[Hr];simp only[Be,Bf,l2,gr];rw[Hu];simp only[Be,Bf,l0,z0,g0,c1,c2,c3,c4,t0,e0,n0,w3];rw[Hu];simp only[Be,Bf,l1,z1,g1,c5,c6,c7,c8,t1,ea,w4];rw[Hu];simp only[Be,Bf,l2,c9,t2]
theorem Axy{b:Al}(hb:Cz b)(hl:b.length<=100000)(B2:1000400<=fu)(c:Int):Ac C1 prog fu (d+6) 50 [.lst false 1 b.length (Af .u8 b),Ag c]=some ⟨[Ag (QE b c)],[]⟩:=by
 refine (FY fu (d+5) b.length (Af .u8 b) c).trans ?_;unfold QE;have ow:=owd (xs:=WB) (fu:=fu) (d:=d+4) (by omega) c;have Lq:(Af .u8 (Bu c)).length=8:=by rw[An,Cl]
 have c1:decide (0+8*1<=List.length (Af .u8 (Bu c)))=true:=dT (by omega);have tq:List.take (8*1) (List.drop 0 (Af .u8 (Bu c)))=Af .u8 (Bu c):=Hz (by rw[Me];omega)
 have Ws:(b++Bu c).length=b.length+8:=by rw[Wy,Cl]
 have cc:=A0c (fu:=fu) (d:=d+3) (a:=b) (b:=Bu c) hl (by rw[Cl];omega) (by omega)
 rw[Cl] at cc;have hh:=QX (xs:=WB) (fu:=fu) (d:=d) (l:=b++Bu c) (Yf hb (Uh c)) (by omega) (by omega) (by omega) 13;have L2:=An .u8 (b++Bu c);have c2:decide (0+(b.length+8)*1<=List.length (Af .u8 (b++Bu c)))=true:=dT (by omega);have t2:List.take ((b.length+8)*1) (List.drop 0 (Af .u8 (b++Bu c)))=Af .u8 (b++Bu c):=Hz (by rw[Me];omega)
 rw[Ws] at hh;simp only[Be,Bf,ow,c1,tq,cc,c2,t2,hh]
end
def Y7.owned(a:Y7):Ae:=[Ag a.rp,Ar a.fl,Ar a.ct,Ar a.rg,Ag a.md,.own 1 a.idn a.id,Ar a.kh,Ag a.kr]
abbrev ad0:Y7:=⟨0,0,0,0,0,0,[],0,0⟩
def vT(a:Y7):Int:=
 bif D2 .i64 a.fl 64==0 then (bif a.md != 0 then 4 else bif ((a.idn:Nat):Int) != 0 then 4 else bif !(a.kh==0&&(a.kr==0&&true)) then 4 else 0)
 else bif ((a.idn:Nat):Int) != 176 then 4 else if E2 a.kh=true then 9 else 0
def vE(a:Y7):Int:=
 bif Yp .i64 a.fl 93 != 0 then 9 else bif decide (a.ct<0) then 9 else bif decide (a.ct>16) then 9 else bif decide (a.rg<0) then 9 else bif decide (a.rg>=16) then 9 else
 bif D2 .i64 a.fl 16 != 0 then (bif D2 .i64 a.fl 8==0 then 18 else vT a) else vT a
theorem Auo(a:Int):(a != 0) = !(a==0):=rfl
section
variable {fu d:Nat}
theorem Abu(a:Y7)(k:Int):Ac C1 prog fu (d+1) 82 [.agg a.cells,Ar k]=some ⟨[De (D2 .i64 a.fl k != 0)],[]⟩:=
 (SR fu d a.rp a.fl a.ct a.rg a.md a.idn a.id a.kh a.kr k).trans (by simp only[Be,Bf])
set_option maxHeartbeats 1000000 in
theorem Ak3(B2:1000<=fu)(a:Y7):Ac C1 prog fu (d+3) 85 [.agg a.cells]=some ⟨[Ar (vE a)],[]⟩:=by
 have h8:=Abu (fu:=fu) (d:=d+1) a 8;have h16:=Abu (fu:=fu) (d:=d+1) a 16;have h64:=Abu (fu:=fu) (d:=d+1) a 64;have ek0:=Aos (xs:=WB) (fu:=fu) (d:=d) B2 ⟨a.kh,a.kr⟩;simp only[Ky.cells] at ek0
 obtain⟨kn,kc,ek⟩:∃n c,Ac C1 prog fu (d+2) 128 [.agg [Ar a.kh,Ag a.kr]]=some ⟨[.own 1 n c,Ar (if E2 a.kh=true then 9 else 0)],[]⟩:=by
  by_cases bh:E2 a.kh=true
  ·exact⟨_,_,by rw[Cr bh] at ek0;rw[Cr bh];exact ek0⟩
  ·exact⟨_,_,by rw[B3 bh] at ek0;rw[B3 bh];exact ek0⟩
 simp only[Y7.cells] at h8 h16 h64;refine (DY fu (d+2) a.rp a.fl a.ct a.rg a.md a.idn a.id a.kh a.kr).trans ?_;unfold vE;cases b1:Yp .i64 a.fl 93 != 0
 rotate_left
 ·simp only[Be,Bf,b1,cond_true]
 cases b2:decide (a.ct<0)
 rotate_left
 ·simp only[Be,Bf,b1,b2,cond_true,cond_false]
 cases b3:decide (a.ct>16)
 rotate_left
 ·simp only[Be,Bf,b1,b2,b3,cond_true,cond_false]
 cases b4:decide (a.rg<0)
 rotate_left
 ·simp only[Be,Bf,b1,b2,b3,b4,cond_true,cond_false]
 cases b5:decide (a.rg>=16)
 rotate_left
 ·simp only[Be,Bf,b1,b2,b3,b4,b5,cond_true,cond_false]
 simp only[Be,Bf,b1,b2,b3,b4,b5,cond_true,cond_false];clear b1 b2 b3 b4 b5;rw[Xq (Gc:=by omega)];unfold vT;simp only[Auo] at h8 h16 h64 ⊢;cases b16:D2 .i64 a.fl 16==0<;>cases b8:D2 .i64 a.fl 8==0<;>cases b64:D2 .i64 a.fl 64==0<;>simp only[Be,Bf,h8,h16,h64,b8,b16,b64,cond_true,cond_false]
 all_goals first
  |(cases bm:a.md==0<;>cases bi:((a.idn:Nat):Int)==0<;>cases bk:(a.kh==0&&a.kr==0)<;>simp only[Be,Bf,bm,bi,bk,cond_true,cond_false]<;>done)
  |(cases bl:((a.idn:Nat):Int) != 176<;>simp only[Be,Bf,bl,ek,cond_true,cond_false])
theorem OR(n lo hi:Int):Ac C1 prog fu (d+1) 110 [Ar n,Ar lo,Ar hi]=some ⟨[De (decide (lo<=n)&&decide (n<=hi))],[]⟩:=by
 refine (Zl fu d n lo hi).trans ?_;by_cases h:lo<=n
 ·simp(disch:=omega)only[Be,Bf,h,decide_true,XY]
 ·simp(disch:=omega)only[Be,Bf,h,decide_false,UR]
set_option maxHeartbeats 1000000 in
theorem ZL(B2:1000<=fu)(a:Y7):Ac C1 prog fu (d+3) 67 [.agg a.cells]=some ⟨[Ar (vE a)],[]⟩:=by
 have w1:=OR (fu:=fu) (d:=d+1) a.ct 0 16;have w2:=OR (fu:=fu) (d:=d+1) a.rg 0 15;have ek0:=TW (fu:=fu) (d:=d) B2 ⟨a.kh,a.kr⟩;simp only[Ky.cells] at ek0
 obtain⟨kn,kc,ek⟩:∃n c,Ac C1 prog fu (d+2) 68 [.agg [Ar a.kh,Ag a.kr]]=some ⟨[.own 1 n c,Ar (if E2 a.kh=true then 9 else 0)],[]⟩:=by
  by_cases bh:E2 a.kh=true
  ·exact⟨_,_,by rw[Cr bh] at ek0;rw[Cr bh];exact ek0⟩
  ·exact⟨_,_,by rw[B3 bh] at ek0;rw[B3 bh];exact ek0⟩
 refine (Rf fu (d+2) a.rp a.fl a.ct a.rg a.md a.idn a.id a.kh a.kr).trans ?_;unfold vE;cases b1:Yp .i64 a.fl 93 != 0
 rotate_left
 ·simp only[Be,Bf,b1,cond_true]
 have q1:(decide ((0:Int)<=a.ct)&&decide (a.ct<=16))=(!decide (a.ct<0) && !decide (a.ct>16)):=by rw[Bool.eq_iff_iff];simp<;>omega
 have q2:(decide ((0:Int)<=a.rg)&&decide (a.rg<=15))=(!decide (a.rg<0) && !decide (a.rg>=16)):=by rw[Bool.eq_iff_iff];simp<;>omega
 rw[q1] at w1;rw[q2] at w2;cases b2:decide (a.ct<0)
 rotate_left
 ·rw[b2] at w1;simp only[Fl,UR] at w1;simp only[Be,Bf,b1,w1,cond_true,cond_false]
 cases b3:decide (a.ct>16)
 rotate_left
 ·rw[b2,b3] at w1;simp only[Fl,Gw,Bool.and_false] at w1;simp only[Be,Bf,b1,w1,cond_true,cond_false]
 rw[b2,b3] at w1;simp only[Gw,Bool.and_true] at w1;cases b4:decide (a.rg<0)
 rotate_left
 ·rw[b4] at w2;simp only[Fl,UR] at w2;simp only[Be,Bf,b1,w1,w2,cond_true,cond_false]
 cases b5:decide (a.rg>=16)
 rotate_left
 ·rw[b4,b5] at w2;simp only[Fl,Gw,Bool.and_false] at w2;simp only[Be,Bf,b1,w1,w2,cond_true,cond_false]
 rw[b4,b5] at w2;simp only[Gw,Bool.and_true] at w2;unfold vT;have gz:decide (((a.idn:Nat):Int)>0) = !(((a.idn:Nat):Int)==0):=by rw[Bool.eq_iff_iff];simp<;>omega
 rw[Auo] at b1;simp only[Be,Bf,Auo,b1,w1,w2,gz,cond_true,cond_false];cases b16:D2 .i64 a.fl 16==0<;>cases b8:D2 .i64 a.fl 8==0<;>cases b64:D2 .i64 a.fl 64==0<;>simp only[Be,Bf,b8,b16,b64,cond_true,cond_false]
 all_goals first
  |(cases bm:a.md==0<;>cases bi:((a.idn:Nat):Int)==0<;>cases bk:(a.kh==0&&a.kr==0)<;>simp only[Be,Bf,bm,bi,bk,cond_true,cond_false]<;>done)
  |(cases bl:((a.idn:Nat):Int) != 176<;>simp only[Be,Bf,bl,ek,cond_true,cond_false])
end
def adN(b:Al):Y7:=⟨Ans (b.take 8),b.getD 8 0,b.getD 9 0,b.getD 10 0,0,0,[],0,0⟩
def adK(b:Al)(k:Ky):Y7:=⟨Ans (b.take 8),b.getD 8 0,b.getD 9 0,b.getD 10 0,Ans ((b.drop 11).take 8),176,Af .u8 ((b.drop 19).take 176),k.h,k.root⟩
def Zr(b:Al):Option Y7:=
 if b.length=11 then (if D2 .i64 (b.getD 8 0) 64=0 then (if vE (adN b)=0 then some (adN b) else none) else none)
 else if b.length=204 then (if D2 .i64 (b.getD 8 0) 64=0 then none else match Ah4 (b.drop 195) with|some k=>if vE (adK b k)=0 then some (adK b k) else none|none=>none)
 else none
theorem Ak4{b:Al}(h:b.length=11)(hf:D2 .i64 (b.getD 8 0) 64=0):Zr b=if vE (adN b)=0 then some (adN b) else none:=by unfold Zr;rw[Cr h,Cr hf]
theorem RE{b:Al}(hf:D2 .i64 (b.getD 8 0) 64≠0):Zr b=if b.length=204 then (match Ah4 (b.drop 195) with|some k=>if vE (adK b k)=0 then some (adK b k) else none|none=>none) else none:=by
 unfold Zr;by_cases h:b.length=11
 ·rw[Cr h,B3 hf,B3 (by omega)]
 ·rw[B3 h];by_cases h2:b.length=204
  ·rw[Cr h2,Cr h2,B3 hf]
  ·rw[B3 h2,B3 h2]
theorem Asy{b:Al}(h:b.length≠11)(hf:D2 .i64 (b.getD 8 0) 64=0):Zr b=none:=by
 unfold Zr;rw[B3 h];by_cases h2:b.length=204
 ·rw[Cr h2,Cr hf]
 ·rw[B3 h2]
theorem Ate{b:Al}(h:b.length≠11)(h2:b.length≠204):Zr b=none:=by unfold Zr;rw[B3 h,B3 h2]
def Atl(o:Option Y7):Ae:=match o with|some a=>[.agg a.owned,Ar 0]|none=>[.agg ad0.owned,Ar 2]
section
variable {fu d:Nat}
theorem Anc{call:Ap}{n:Nat}{c:Ae}{l:Al}(hl:l.length<=1000):∀(r:Al)(j nn:Nat)(x:Int),l.drop j=r->r.length<nn->j<=l.length ->
  Jv fu call n c nn x l.length (Af .u8 l) (l.length:Int) (j:Int)=some ⟨[Ag (r.foldl M6 x)],[]⟩:=by
 intro r
 induction r with
 |nil=>
  intro j nn x hd hn hj;obtain⟨m,rfl⟩:∃m,nn=m+1:=⟨nn-1,by omega⟩
  have:=drop_nil hd;rw[Tg,Gs _ _ _ (by omega)];rfl
 |cons y r ih=>
  intro j nn x hd hn hj;obtain⟨m,rfl⟩:∃m,nn=m+1:=⟨nn-1,by omega⟩
  obtain⟨Ck,hy,hd'⟩:=D8 hd;have g:=HJ (k:=.u8) hy;have nt:Int.toNat (j:Int)=j:=Jd _;have w1:wrap .i64 ((j:Int)+1)=((j+1:Nat):Int):=B0
  have e:=ih (j+1) m (M6 x y) hd' (by simp at hn;omega) (by omega)
  rw[Tg];simp(disch:=omega)only[Be,Bf,nt,J1,g,w1];exact e
theorem Aei(B2:1000<=fu){l:Al}(hl:l.length=8):Ac C1 prog fu (d+1) 81 [.lst false 1 8 (Af .u8 l)]=some ⟨[Ag (Ans l)],[]⟩:=by refine (PF fu d 8 (Af .u8 l)).trans ?_;have e:=Anc (fu:=fu) (call:=Ac C1 prog fu d) (n:=8) (c:=Af .u8 l) (l:=l) (by omega) l 0 fu 0 rfl (by omega) (by omega);rw[hl] at e;exact e
theorem Auc{l:Al}(h:l.length≠9):Ah4 l=none:=by unfold Ah4;rw[B3 (fun q=>h q.1)]
theorem Ajc{b:Al}(hb:Cz b)(i:Nat):0<=b.getD i 0/\b.getD i 0<=255:=by
 rw[List.getD_eq_getElem?_getD];cases h:b[i]? with
 |none=>exact⟨by simp,by simp⟩
 |some y=>exact hb y (List.mem_of_getElem? h)
theorem Ajv{b:Al}{i:Nat}(h:i<b.length):(Af .u8 b).getD i .top=.sc (.int .u8 (b.getD i 0)):=by have g:b[i]?=some b[i]:=List.getElem?_eq_getElem h;have e:=HJ (k:=.u8) g;rw[e,List.getD_eq_getElem?_getD,g];rfl
set_option maxHeartbeats 2000000 in
theorem Azj(B2:1000<=fu){b:Al}(hb:Cz b)(hl:b.length<=100000):Ac C1 prog fu (d+4) 47 [.lst false 1 b.length (Af .u8 b)]=some ⟨Atl (Zr b),[]⟩:=by
 refine (JW fu (d+3) b.length (Af .u8 b)).trans ?_;by_cases h11:b.length<11
 ·have a1:=dT (q:=((b.length:Nat):Int)<11) (by omega);rw[Ate (by omega) (by omega)];simp only[Be,Bf,a1];rfl
 have a1:=dF (q:=((b.length:Nat):Int)<11) (by omega);have c1:=dT (q:=8<=b.length) (by omega);have c2:=dT (q:=(8:Int)<((b.length:Nat):Int)) (by omega);have c3:=dT (q:=(9:Int)<((b.length:Nat):Int)) (by omega);have c4:=dT (q:=(10:Int)<((b.length:Nat):Int)) (by omega);have d1:List.take 8 (List.drop 0 (Af .u8 b))=Af .u8 (b.take 8):=by rw[Me,Ir]
 have wd:=Aei (fu:=fu) (d:=d+2) B2 (l:=b.take 8) (by rw[List.length_take];omega)
 have g8:=Ajv (b:=b) (i:=8) (by omega);have g9:=Ajv (b:=b) (i:=9) (by omega);have g10:=Ajv (b:=b) (i:=10) (by omega);have u8:wrap .i64 (b.getD 8 0)=b.getD 8 0:=by have:=Ajc hb 8;exact Bn
 have u9:wrap .i64 (b.getD 9 0)=b.getD 9 0:=by have:=Ajc hb 9;exact Bn
 have u10:wrap .i64 (b.getD 10 0)=b.getD 10 0:=by have:=Ajc hb 10;exact Bn
 have hs:=Abu (fu:=fu) (d:=d+2) (adN b) 64;simp only[Y7.cells,adN] at hs;cases hf:D2 .i64 (b.getD 8 0) 64 != 0 with
 |false=>
  rw[hf] at hs;have hf0:D2 .i64 (b.getD 8 0) 64=0:=by simpa using hf
  by_cases hgt:11<b.length
  ·have a2:=dT (q:=((b.length:Nat):Int)>11) (by omega);rw[Asy (by omega) hf0];simp only[Be,Bf,a1,c1,c2,c3,c4,d1,wd,g8,g9,g10,u8,u9,u10,hs,a2];rfl
  have a2:=dF (q:=((b.length:Nat):Int)>11) (by omega);have vd:=Ak3 (fu:=fu) (d:=d) B2 (adN b);rw[Ak4 (by omega) hf0];by_cases hv:vE (adN b)=0
  ·rw[Cr hv];rw[hv] at vd;simp only[Y7.cells,adN] at vd;have z:((0:Int) != 0)=false:=rfl;simp only[Be,Bf,a1,c1,c2,c3,c4,d1,wd,g8,g9,g10,u8,u9,u10,hs,a2,vd,z];rfl
  ·rw[B3 hv];have z:(vE (adN b) != 0)=true:=by simpa using hv
   generalize vE (adN b)=ve at vd z;simp only[Y7.cells,adN] at vd;simp only[Be,Bf,a1,c1,c2,c3,c4,d1,wd,g8,g9,g10,u8,u9,u10,hs,a2,vd,z];rfl
 |true=>
  rw[hf] at hs;have hf0:D2 .i64 (b.getD 8 0) 64≠0:=by simpa using hf
  by_cases Bs4:b.length<195
  ·have a2:=dT (q:=((b.length:Nat):Int)<195) (by omega);rw[RE hf0,B3 (by omega)];simp only[Be,Bf,a1,c1,c2,c3,c4,d1,wd,g8,g9,g10,u8,u9,u10,hs,a2];rfl
  have a2:=dF (q:=((b.length:Nat):Int)<195) (by omega);have a3:=dT (q:=195<=b.length) (by omega);have a4:=dT (q:=b.length<=b.length) (Ci _)
  have d2:List.take ((b.length-195)*1) (List.drop 195 (Af .u8 b))=Af .u8 (b.drop 195):=by
   rw[Ln];exact Hz (by rw[An,List.length_drop];omega)
  have dk:=Am8 (xs:=WB) (fu:=fu) (d:=d+1) B2 (l:=b.drop 195) (hb.drop 195);rw[List.length_drop] at dk;cases hk:Ah4 (b.drop 195) with
  |none=>
   rw[hk] at dk;simp only[Ai9,Ky.cells] at dk
   have e:Zr b=none:=by
    rw[RE hf0,hk];split<;>rfl
   have z:((2:Int) != 0)=true:=rfl;rw[e];simp only[Be,Bf,a1,c1,c2,c3,c4,d1,wd,g8,g9,g10,u8,u9,u10,hs,a2,a3,a4,d2,dk,z];rfl
  |some k=>
   rw[hk] at dk;simp only[Ai9,Ky.cells] at dk
   have Bfg:b.length=204:=by
    rcases Nat.decEq (b.drop 195).length 9 with q|q
    ·rw[Auc q] at hk;cases hk
    ·rw[List.length_drop] at q;omega
   have z0:((0:Int) != 0)=false:=rfl;have a5:=dT (q:=19<=b.length) (by omega);have d3:List.take 8 (List.drop 11 (Af .u8 b))=Af .u8 ((b.drop 11).take 8):=by rw[Ln,Ir]
   have wd2:=Aei (fu:=fu) (d:=d+2) B2 (l:=(b.drop 11).take 8) (by rw[List.length_take,List.length_drop];omega)
   have d4:List.take 176 (List.drop 19 (Af .u8 b))=Af .u8 ((b.drop 19).take 176):=by rw[Ln,Ir]
   have li:(Af .u8 ((b.drop 19).take 176)).length=176:=by rw[An,List.length_take,List.length_drop];omega
   have cb:=YG (xs:=WB) (fu:=fu) (d:=d+2) (n:=176) (c:=Af .u8 ((b.drop 19).take 176)) li (by omega);have c5:decide (0+176*1<=List.length (Af .u8 ((b.drop 19).take 176)))=true:=dT (by omega);have t1:List.take (176*1) (List.drop 0 (Af .u8 ((b.drop 19).take 176)))=Af .u8 ((b.drop 19).take 176):=Hz (by rw[Me];omega)
   have c6:decide (176*1<=List.length (Af .u8 ((b.drop 19).take 176)))=true:=dT (by omega);have t2:List.take (176*1) (Af .u8 ((b.drop 19).take 176))=Af .u8 ((b.drop 19).take 176):=Hz (by omega);have vd:=Ak3 (fu:=fu) (d:=d) B2 (adK b k);rw[RE hf0,Cr Bfg,hk];by_cases hv:vE (adK b k)=0
   ·simp only[hv,if_true];rw[hv] at vd;simp only[Y7.cells,adK] at vd;simp only[Be,Bf,a1,c1,c2,c3,c4,d1,wd,g8,g9,g10,u8,u9,u10,hs,a2,a3,a4,d2,dk,z0,a5,d3,wd2,d4,cb,c5,t1,vd,c6,t2];rfl
   ·simp only[hv,if_false];have z:(vE (adK b k) != 0)=true:=by simpa using hv
    generalize vE (adK b k)=ve at vd z;simp only[Y7.cells,adK] at vd;simp only[Be,Bf,a1,c1,c2,c3,c4,d1,wd,g8,g9,g10,u8,u9,u10,hs,a2,a3,a4,d2,dk,z0,a5,d3,wd2,d4,cb,c5,t1,vd,z];rfl
end
structure Cf where
 rp:ByteArray
 ti:ByteArray
 os:List ByteArray
 p:Pol
 sec:Int
 kh:Int
 kr:Int
def WK(l:List ByteArray):Ae:=l.flatMap fun s=>[Bl s]
theorem A6c{l:List ByteArray}{i:Nat}{s:ByteArray}(h:l[i]?=some s):(WK l).getD (i*1) .top=Bl s:=KU (k:=1) (fun _=>rfl) h (j:=0) (by omega)
def Cf.cells(c:Cf):Ae:=[Bl (c.rp),Bl (c.ti),.lst false 1 c.os.length (WK c.os),Ar c.p.vf,De (c.p.rs),Ar c.p.ht,Ar c.p.pr,De (c.p.sh),Ar c.p.fm,De (c.p.od),.lst false 1 c.p.dn.length (Af .u64 c.p.dn),Ar c.p.op,Ag c.sec,Ar c.kh,Ag c.kr]
structure Cf.ok(c:Cf):Prop where
 rp:c.rp.size<=100000
 os:c.os.length<=1000
 dn:c.p.dn.length<=1000
structure Rq where
 kind:Int
 cd:ByteArray
 ad:Al
 sg:Al
 cn:Nat
 cc:Ae
 fm:Int
 id:Al
 us:ByteArray
def Rq.cells(r:Rq):Ae:=[Ar r.kind,Bl (r.cd),.lst false 1 r.ad.length (Af .u8 r.ad),.lst false 1 r.sg.length (Af .u8 r.sg),.lst false 1 r.cn r.cc,Ar r.fm,.lst false 1 r.id.length (Af .u8 r.id),Bl (r.us)]
structure Rq.ok(r:Rq):Prop where
 cd:r.cd.size<=100000
 adB:Cz r.ad
 ad:r.ad.length<=90000
 sgB:Cz r.sg
structure Mn where
 k:Int
 na:Nat
 an:Ae
 st:List (Int × Int)
def Mn.cells(e:Mn):Ae:=[Ag e.k,.lst false 3 e.na e.an,.lst false 2 e.st.length (Rv e.st)]
def mnC(l:List Mn):Ae:=l.flatMap Mn.cells
structure Mt where
 v:Int
 i:Int
 x:Int
 es:List Mn
 lf:Int
 n1:Nat
 c1:Ae
 n2:Nat
 c2:Ae
def Mt.cells(m:Mt):Ae:=[Ar m.v,Ar m.i,Ar m.x,.lst false 3 m.es.length (mnC m.es),Ar m.lf,.lst false 1 m.n1 m.c1,.lst false 1 m.n2 m.c2]
structure Mt.ok(m:Mt):Prop where
 n:m.es.length<=1000
 e:∀e∈m.es,e.an.length=e.na*3/\e.na<=1000/\e.st.length<=1000
def stS(m:Mt)(model now:Int):Int:=Gr now (match m.es.find? fun e=>e.k==model with|some e=>e.st|none=>[])
theorem Awv(l:List Mn):(mnC l).length=l.length*3:=UN (f:=Mn.cells) (k:=3) (fun _=>rfl) l
def mnE(e:Mn):En:=⟨e.k,e.na,e.an,e.st.length,Rv e.st⟩
theorem XU:∀{l:List Mn},(∀e∈l,e.an.length=e.na*3/\e.na<=1000/\e.st.length<=1000)->Ye (mnC l)=some (l.map mnE)
 |[],_=>rfl
 |x::l,h=>by
  have h0:=h x (by simp);have ih:=XU (l:=l) fun y hy=>h y (by simp[hy])
  have b:(Nat.beq x.an.length (x.na*3)&&Nat.beq (Rv x.st).length (x.st.length*2)&&Nat.ble x.na 1000&&Nat.ble x.st.length 1000)=true:=by
   rw[O3,h0.1];simp only[Og,XY,Fc];exact⟨Nat.ble_eq_true_of_le h0.2.1,Nat.ble_eq_true_of_le h0.2.2⟩
  show Ye (Ag x.k :: .lst false 3 x.na x.an :: .lst false 2 x.st.length (Rv x.st)::mnC l)=_;rw[Ye,b,cond_true,ih];rfl
theorem RM:∀(l:List (Int × Int)),Rk (Rv l)=some l
 |[]=>rfl
 |s::l=>by
  show Rk (Ar s.1 :: Ar s.2::Rv l)=_;rw[Rk,RM l];rfl
theorem Alg(model:Int):∀(l:List Mn),Ai5 model (l.map mnE)=match l.find? fun e=>e.k==model with|some e=>Rv e.st|none=>[]
 |[]=>rfl
 |x::l=>by
  have ih:=Alg model l;unfold Ai5 at ih ⊢;by_cases h:x.k=model
  ·rw[X4,List.find?_cons_of_pos (by simpa [mnE] using h),List.find?_cons_of_pos (by simpa using h)];rfl
  ·rw[X4,List.find?_cons_of_neg (by simpa [mnE] using h),List.find?_cons_of_neg (by simpa using h)];exact ih
def inO(os:List ByteArray)(s:ByteArray):Bool:=os.any fun o=>Array.toList s.data==Array.toList o.data
def Zg(os:List ByteArray)(k:Int)(ch:Al)(r:Rq):Int:=
 bif r.kind != k then 3 else match M1 r.cd with
 |.error e=>bif e != 0 then e else 3
 |.ok (j,b,o,x,q)=>bif j != k then 3 else bif !XE b ch then 35 else bif !inO os (Ab o) then 34 else bif x then (bif !inO os (Ab q) then 34 else 0) else 0
section
variable {fu d:Nat}
theorem Aox(fu d:Nat)(args:Ae):Ac C1 prog fu (d+1) 54 args=Akp args:=by kernel_rfl
theorem Atd{m:Mt}(hm:m.ok)(model now:Int):Ac C1 prog fu (d+1) 54 [.agg m.cells,Ag model,Ar now]=some ⟨[Ar (stS m model now)],[]⟩:=by
 rw[Aox]
 have b:(Nat.beq (mnC m.es).length (m.es.length*3)&&Nat.ble m.es.length 1000)=true:=by
  rw[Awv];simp only[Og,XY];exact Nat.ble_eq_true_of_le hm.n
 show (bif (Nat.beq (mnC m.es).length (m.es.length*3)&&Nat.ble m.es.length 1000) then _ else none)=_;rw[b,cond_true,XU hm.e];simp only;rw[Alg];unfold stS;cases m.es.find? fun e=>e.k==model with
 |none=>rfl
 |some e=>
  simp only;rw[RM]
theorem Apf{call:Ap}{n:Nat}{c:Ae}{t s:ByteArray}{os:List ByteArray}(hl:os.length<=1000):∀(r:List ByteArray)(i nn:Nat),os.drop i=r->r.length<nn->i<=os.length ->
  ∃v:Int,decide (v>=0)=inO r s/\F8 fu call n c t nn os.length (WK os) s (os.length:Int) (i:Int)=some ⟨[Ar v],[]⟩:=by
 intro r
 induction r with
 |nil=>
  intro i nn hd hn hi;obtain⟨m,rfl⟩:∃m,nn=m+1:=⟨nn-1,by omega⟩
  have:=drop_nil hd;refine⟨-1,rfl,?_⟩;rw[Kt,Gs _ _ _ (by omega)]
 |cons o r ih=>
  intro i nn hd hn hi;obtain⟨m,rfl⟩:∃m,nn=m+1:=⟨nn-1,by omega⟩
  obtain⟨Ck,ho,hd'⟩:=D8 hd;have g:=A6c ho;have nt:Int.toNat (i:Int)=i:=Jd _;have w1:wrap .i64 ((i:Int)+1)=((i+1:Nat):Int):=B0
  have k1:=dT (q:=(i:Int)<((os.length:Nat):Int)) (by omega);have k2:=dT (q:=(0:Int)<=(i:Int)) (by omega);rw[Kt];cases hk:Array.toList s.data==Array.toList o.data with
  |true=>
   refine⟨(i:Int),by unfold inO;rw[List.any_cons,hk,Bool.true_or];exact dT (by omega),?_⟩
   simp only[Be,Bf,k1,k2,nt,g,hk]
  |false=>
   obtain⟨v,h1,h2⟩:=ih (i+1) m hd' (by simp at hn;omega) (by omega)
   refine⟨v,by rw[h1];unfold inO;rw[List.any_cons,hk,Bool.false_or],?_⟩
   simp only[Be,Bf,k1,k2,nt,g,hk,w1];exact h2
theorem A10(B2:2000<=fu){os:List ByteArray}(hl:os.length<=1000)(s:ByteArray):Ac C1 prog fu (d+2) 80 [.lst false 1 os.length (WK os),Bl s]=some ⟨[De (inO os s)],[]⟩:=by obtain⟨v,h1,h2⟩:=Apf (fu:=fu) (call:=Ac C1 prog fu d) (n:=os.length) (c:=WK os) (t:=s) (s:=s) hl os 0 fu rfl (by omega) (by omega);have e:Ac C1 prog fu (d+1) 127 [.lst false 1 os.length (WK os),Bl s]=some ⟨[Ar v],[]⟩:=(Zh fu d os.length (WK os) s).trans h2;refine (Vd fu (d+1) os.length (WK os) s).trans ?_;simp only[Be,Bf,e];rw[h1]
set_option maxHeartbeats 2000000 in
theorem Ayn(B2:1000400<=fu){c:Cf}(hc:c.ok)(ch:Al){r:Rq}(hr:r.ok):Ac C1 prog fu (d+3) 45 [.agg c.cells,.lst false 1 ch.length (Af .u8 ch),.agg r.cells]=some ⟨[Ar (Zg c.os 2 ch r)],[]⟩:=by
 refine (Vh fu (d+2) c.rp c.ti c.os.length (WK c.os) c.p.vf c.p.rs c.p.ht c.p.pr c.p.sh c.p.fm c.p.od c.p.dn.length (Af .u64 c.p.dn) c.p.op c.sec c.kh c.kr ch.length (Af .u8 ch) r.kind r.cd r.ad.length (Af .u8 r.ad) r.sg.length (Af .u8 r.sg) r.cn r.cc r.fm r.id.length (Af .u8 r.id) r.us).trans ?_;unfold Zg;cases h1:r.kind != 2
 rotate_left
 ·simp only[Be,Bf,h1,cond_true]
 have e:Ac C1 prog fu (d+2) 79 [Bl (r.cd)]=N8 [Bl (r.cd)]:=rfl;unfold N8 at e;simp only[dT (q:=r.cd.size<=9223372036854775807) (by have:=hr.cd;omega),cond_true] at e
 cases hp:M1 r.cd with
 |error ee=>
  rw[hp] at e;have e:Ac C1 prog fu (d+2) 79 [Bl (r.cd)]=some ⟨[.agg [Ar 0,.lst false 1 0 [],Bl ⟨#[]⟩,De false,Bl ⟨#[]⟩],Ar ee],[]⟩:=e;have z:((0:Int) != 2)=true:=rfl;cases h2:ee != 0
  ·simp only[Be,Bf,h1,e,h2,z,cond_false]
  ·simp only[Be,Bf,h1,e,h2,cond_true,cond_false]
 |ok v=>
  obtain⟨k,b,o,x,q⟩:=v;rw[hp] at e;have e:Ac C1 prog fu (d+2) 79 [Bl (r.cd)]=some ⟨[.agg [Ar k,.lst false 1 b.length (Af .u8 b),Bl (Ab o),De x,Bl (Ab q)],Ar 0],[]⟩:=e;have z:((0:Int) != 0)=false:=rfl;have be:=Agv (fu:=fu) (d:=d+1) b ch;have o1:=A10 (fu:=fu) (d:=d) (by omega) hc.os (Ab o);have o2:=A10 (fu:=fu) (d:=d) (by omega) hc.os (Ab q);simp only;cases h2:k != 2
  rotate_left
  ·simp only[Be,Bf,h1,e,z,h2,cond_true,cond_false]
  cases h3:XE b ch
  ·rw[h3] at be;simp only[Be,Bf,h1,e,z,h2,be,cond_true,cond_false]
  rw[h3] at be;cases h4:inO c.os (Ab o)
  ·rw[h4] at o1;simp only[Be,Bf,h1,e,z,h2,be,o1,cond_true,cond_false]
  rw[h4] at o1;cases x with
  |false=>simp only[Be,Bf,h1,e,z,h2,be,o1,cond_true,cond_false]
  |true=>
   cases h5:inO c.os (Ab q)
   ·rw[h5] at o2;simp only[Be,Bf,h1,e,z,h2,be,o1,o2,cond_true,cond_false]
   ·rw[h5] at o2;simp only[Be,Bf,h1,e,z,h2,be,o1,o2,cond_true,cond_false]
end
abbrev sd0:Sd:=⟨[],0,0,0,0,false,0,[],false,0,0⟩
def Akx(c:Cf)(m:Mt)(s:Sd)(now:Int)(r:Rq)(a:Y7)(g:Sg):Sd × Int:=
 bif Acp ⟨s.ht,s.root⟩ (QE r.ad (E3 11 (Cs r.cd))) g != 0 then (sd0,Acp ⟨s.ht,s.root⟩ (QE r.ad (E3 11 (Cs r.cd))) g) else
 bif a.ct != wrap .i64 (g.leaf+1) then (sd0,33) else
 bif Aek c.p a s.sh s.model (stS m s.model now) != 0 then (sd0,Aek c.p a s.sh s.model (stS m s.model now)) else
 bif (Ok s g.leaf a.rg now).2 != 0 then (bif (Ok s g.leaf a.rg now).2 != 37 then (sd0,(Ok s g.leaf a.rg now).2) else Ok s g.leaf a.rg now) else Ok s g.leaf a.rg now
def ZO(c:Cf)(m:Mt)(s:Sd)(now:Int)(r:Rq)(a:Y7):Sd × Int:=
 bif D2 .i64 a.fl 64 != 0 then (sd0,4) else
 bif a.rp != E3 9 (Cs c.rp) then (sd0,34) else
 match sgD r.sg with|none=>(sd0,2)|some g=>Akx c m s now r a g
def I3(c:Cf)(m:Mt)(s:Sd)(ch:Al)(now:Int)(r:Rq):Sd × Int:=
 bif decide (now<0) then (sd0,9) else bif decide (now>1099511627776) then (sd0,9) else
 bif Zg c.os 2 ch r != 0 then (sd0,Zg c.os 2 ch r) else
 bif !XE r.id s.id then (sd0,36) else
 match Zr r.ad with|none=>(sd0,2)|some a=>ZO c m s now r a
theorem Api{b:Al}{a:Y7}(h:Zr b=some a)(h2:D2 .i64 a.fl 64=0):a.idn=0/\a.id=[]:=by
 unfold Zr at h;split at h
 ·split at h
  ·split at h
   ·cases h;exact⟨rfl,rfl⟩
   ·cases h
  ·cases h
 ·split at h
  ·split at h
   ·cases h
   ·rename_i q;split at h
    ·split at h
     ·cases h;exact absurd h2 q
     ·cases h
    ·cases h
  ·cases h
def Sd.stc(s:Sd):Stc:=⟨s.id.length,Af .u8 s.id,s.ht,s.root,s.model,s.fmt,s.sh,s.used,s.rg.length,Rv s.rg,s.sus,s.since,s.last⟩
section
variable {fu d:Nat}
set_option maxHeartbeats 8000000 in
theorem K7(B2:1000400<=fu){c:Cf}(hc:c.ok){m:Mt}(hm:m.ok){s:Sd}(hs:s.ok)(ch:Al)(now:Int){r:Rq}(hr:r.ok):
  Ac C1 prog fu (d+9) 23 [.agg c.cells,.agg m.cells,.agg s.cells,.lst false 1 ch.length (Af .u8 ch),Ar now,.agg r.cells]=some ⟨[.agg (I3 c m s ch now r).1.cells,Ar (I3 c m s ch now r).2],[]⟩:=by
 refine (PQ fu (d+8) c.rp c.ti c.os.length (WK c.os) c.p.vf c.p.rs c.p.ht c.p.pr c.p.sh c.p.fm c.p.od c.p.dn.length (Af .u64 c.p.dn) c.p.op c.sec c.kh c.kr m.v m.i m.x m.es.length (mnC m.es) m.lf m.n1 m.c1 m.n2 m.c2 s.id.length (Af .u8 s.id) s.ht s.root s.model s.fmt s.sh s.used s.rg.length (Rv s.rg) s.sus s.since s.last ch.length (Af .u8 ch) now r.kind r.cd r.ad.length (Af .u8 r.ad) r.sg.length (Af .u8 r.sg) r.cn r.cc r.fm r.id.length (Af .u8 r.id) r.us).trans ?_;unfold I3;cases n1:decide (now<0)
 rotate_left
 ·simp only[Be,Bf,n1,cond_true];rfl
 cases n2:decide (now>1099511627776)
 rotate_left
 ·simp only[Be,Bf,n1,n2,cond_true,cond_false];rfl
 have cl:=Ayn (fu:=fu) (d:=d+5) B2 hc ch hr;simp only[Cf.cells,Rq.cells] at cl;cases h1:Zg c.os 2 ch r != 0
 rotate_left
 ·simp only[Be,Bf,n1,n2,cl,h1,cond_true,cond_false];rfl
 have be:=Agv (fu:=fu) (d:=d+7) r.id s.id;cases h2:XE r.id s.id
 ·rw[h2] at be;simp only[Be,Bf,n1,n2,cl,h1,be,cond_true,cond_false];rfl
 rw[h2] at be;have da:=Azj (fu:=fu) (d:=d+4) (by omega) hr.adB (by have:=hr.ad;omega)
 have z0:((0:Int) != 0)=false:=rfl;have z2:((2:Int) != 0)=true:=rfl;cases ha:Zr r.ad with
 |none=>
  rw[ha] at da;simp only[Atl,Y7.owned] at da;simp only[Be,Bf,n1,n2,cl,h1,be,da,z2,cond_true,cond_false];rfl
 |some a=>
  rw[ha] at da;simp only[Atl,Y7.owned] at da;simp only;unfold ZO;cases h3:D2 .i64 a.fl 64 != 0
  rotate_left
  ·simp only[Be,Bf,n1,n2,cl,h1,be,da,z0,h3,cond_true,cond_false];rfl
  obtain⟨i1,i2⟩:=Api ha (by simpa using h3);rw[i1,i2] at da;have rp:=A54 (fu:=fu) (d:=d+2) (s:=c.rp) (by have:=hc.rp;omega) B2
  cases h4:a.rp != E3 9 (Cs c.rp)
  rotate_left
  ·simp only[Be,Bf,n1,n2,cl,h1,be,da,z0,h3,rp,h4,cond_true,cond_false];rfl
  have ds:=Aot (xs:=WB) (fu:=fu) (d:=d+6) (by omega) hr.sgB;cases hg:sgD r.sg with
  |none=>
   rw[hg] at ds;simp only[Akz,Sg.owned] at ds;simp only[Be,Bf,n1,n2,cl,h1,be,da,z0,z2,h3,rp,h4,ds,cond_true,cond_false];rfl
  |some g=>
   rw[hg] at ds;simp only[Akz,Sg.owned] at ds;simp only;unfold Akx;have hh:=Ass (fu:=fu) (d:=d+2) (s:=r.cd) (by have:=hr.cd;omega) B2
   have hw:=Axy (fu:=fu) (d:=d+2) hr.adB (by have:=hr.ad;omega) B2 (E3 11 (Cs r.cd))
   have vf:=An3 (xs:=WB) (fu:=fu) (d:=d+0) (by omega) ⟨s.ht,s.root⟩ (QE r.ad (E3 11 (Cs r.cd))) g;simp only[Ky.cells,Sg.cells] at vf;have Lc:=An .u64 g.chains;have Lp:=An .u64 g.path;have k1:decide (0+g.chains.length*1<=List.length (Af .u64 g.chains))=true:=dT (by omega);have k2:decide (0+g.path.length*1<=List.length (Af .u64 g.path))=true:=dT (by omega);have t1:List.take (g.chains.length*1) (List.drop 0 (Af .u64 g.chains))=Af .u64 g.chains:=Hz (by rw[Me];omega)
   have t2:List.take (g.path.length*1) (List.drop 0 (Af .u64 g.path))=Af .u64 g.path:=Hz (by rw[Me];omega)
   obtain⟨W,hW⟩:∃W,Acp ⟨s.ht,s.root⟩ (QE r.ad (E3 11 (Cs r.cd))) g=W:=⟨_,rfl⟩
   rw[hW] at vf ⊢;cases h5:W != 0
   rotate_left
   ·simp only[Be,Bf,n1,n2,cl,h1,be,da,z0,h3,rp,h4,ds,hh,hw,k1,k2,t1,t2,vf,h5,cond_true,cond_false];rfl
   cases h6:a.ct != wrap .i64 (g.leaf+1)
   rotate_left
   ·simp only[Be,Bf,n1,n2,cl,h1,be,da,z0,h3,rp,h4,ds,hh,hw,k1,k2,t1,t2,vf,h5,h6,cond_true,cond_false];rfl
   have st:=Atd (fu:=fu) (d:=d+7) hm s.model now;simp only[Mt.cells] at st;have sg:=A4f (fu:=fu) (d:=d+4) c.p (by have:=hc.dn;simp only[maxLen];omega) (by have:=hc.dn;omega) a s.stc (stS m s.model now)
   simp only[Pol.cells,Y7.cells,Stc.cells,Sd.stc] at sg;rw[i1,i2] at sg;have c0:decide (0+0*1<=List.length ([]:Ae))=true:=rfl;have t0:List.take (0*1) (List.drop 0 ([]:Ae))=[]:=rfl;obtain⟨G,hG⟩:∃G,Aek c.p a s.sh s.model (stS m s.model now)=G:=⟨_,rfl⟩
   rw[hG] at sg ⊢;cases h7:G != 0
   rotate_left
   ·simp only[Be,Bf,n1,n2,cl,h1,be,da,z0,h3,rp,h4,ds,hh,hw,k1,k2,t1,t2,vf,h5,h6,st,c0,t0,sg,h7,cond_true,cond_false];rfl
   have ac:=An9 (fu:=fu) (d:=d+4) hs (by omega) g.leaf a.rg now;obtain⟨Z,hZ⟩:∃Z,Ok s g.leaf a.rg now=Z:=⟨_,rfl⟩
   rw[hZ] at ac ⊢;simp only[Sd.cells] at ac ⊢;cases h8:Z.2 != 0
   ·simp only[Be,Bf,n1,n2,cl,h1,be,da,z0,h3,rp,h4,ds,hh,hw,k1,k2,t1,t2,vf,h5,h6,st,c0,t0,sg,h7,ac,h8,cond_true,cond_false]
   cases h9:Z.2 != 37
   ·simp only[Be,Bf,n1,n2,cl,h1,be,da,z0,h3,rp,h4,ds,hh,hw,k1,k2,t1,t2,vf,h5,h6,st,c0,t0,sg,h7,ac,h8,h9,cond_true,cond_false]
   ·simp only[Be,Bf,n1,n2,cl,h1,be,da,z0,h3,rp,h4,ds,hh,hw,k1,k2,t1,t2,vf,h5,h6,st,c0,t0,sg,h7,ac,h8,h9,cond_true,cond_false];rfl
end
abbrev PA:ByteArray:=ByteArray.mk #[101,120,97,109,112,108,101,46,99,111,109]
abbrev tiS:ByteArray:=ByteArray.mk #[69,120,97,109,112,108,101]
abbrev GU:ByteArray:=ByteArray.mk #[104,116,116,112,115,58,47,47,101,120,97,109,112,108,101,46,99,111,109]
abbrev olS:ByteArray:=ByteArray.mk #[104,116,116,112,115,58,47,47,108,111,103,105,110,46,101,120,97,109,112,108,101,46,99,111,109]
abbrev CR(p:Pol)(sec:Int):Cf:=⟨PA,tiS,[GU,olS],p,sec,4,(Ts 31 4).root⟩
theorem SZ{p:Pol}(h:p.dn.length<=2)(sec:Int):(CR p sec).ok:=⟨by show PA.size<=_;decide,by show (2:Nat)<=1000;omega,by show p.dn.length<=1000;omega⟩
abbrev Hy:Pol:=⟨0,false,1,1,false,0,false,[],50⟩
def Kg(sh vf:Bool):Int:=if vf=true then (if sh=true then 13 else 5) else if sh=true then 9 else 1
def Rr(a:Y7):Al:=if vE a=0 then Bu a.rp++[wrap .u8 a.fl,wrap .u8 a.ct,wrap .u8 a.rg] else []
def asT(ch o:Al):ByteArray:=Ab (match Zx 2 ch o [] false with | .ok s=>s | .error _=>[])
def Z4(rp:ByteArray)(sh vf:Bool)(leaf f:Int):Y7:=⟨E3 9 (Cs rp),Kg sh vf,wrap .i64 (leaf+1),f,0,0,[],0,0⟩
def asG(seed h leaf m:Int):Al:=match Ai7 seed h leaf m with|some s=>sgB s|none=>[]
def Oc(seed h:Int)(id:Al)(sh:Bool)(rp:ByteArray)(o ch:Al)(vf:Bool)(leaf f:Int)(us:ByteArray):Rq:=
 ⟨2,asT ch o,Rr (Z4 rp sh vf leaf f),asG seed h leaf (QE (Rr (Z4 rp sh vf leaf f)) (E3 11 (Cs (asT ch o)))),0,[],0,id,us⟩
theorem Agw{ch o:Al}(ho:o.length<=50000):(asT ch o).size<=60000:=by
 unfold asT;rw[Ai];cases h:Zx 2 ch o [] false with
 |error e=>simp
 |ok s=>
  simp only;unfold Zx at h;have ty:tyS 2=some tyG:=rfl;rw[ty] at h;simp only at h;split at h
  ·cases h
  split at h
  ·cases h
  simp only[if_true] at h;cases h;have hel:=ID ch;rename_i hc _;simp only[fmH,PI,UL,fA3,fA4,tyG,Wy,Tm,WG];omega
theorem Agn(a:Y7):(Rr a).length<=11:=by
 unfold Rr;split
 ·rw[Wy,Cl];simp
 ·simp
theorem TH(v:Int):0<=wrap .u8 v/\wrap .u8 v<=255:=by
 have:wrap .u8 v=v % 256:=by simp[wrap,IntKind.bits,IntKind.signed]
 omega
theorem Arc(a:Y7):Cz (Rr a):=by
 unfold Rr;split
 ·refine Yf (Uh _) ?_;intro x hx;simp only[Ch,Zp,or_false] at hx;rcases hx with rfl|rfl|rfl<;>exact TH _
 ·intro x hx;cases hx
theorem A8w(seed h leaf m:Int):Cz (asG seed h leaf m):=by
 unfold asG;split
 ·exact A8x _
 ·intro x hx;cases hx
theorem Abh{seed h:Int}{id:Al}{sh:Bool}{rp:ByteArray}{o ch:Al}{vf:Bool}{leaf f:Int}{us:ByteArray}(ho:o.length<=50000):(Oc seed h id sh rp o ch vf leaf f us).ok:=
 ⟨by have:=Agw (ch:=ch) ho;show (asT ch o).size<=_;omega,Arc _,by have:=Agn (Z4 rp sh vf leaf f);show (Rr _).length<=_;omega,A8w _ _ _ _⟩
section
variable {fu d:Nat}
theorem Ahn(B2:1000<=fu)(seed h:Int):Ac C1 prog fu (d+13) 30 [Ag seed,Ar h]=some ⟨[.agg (Ts seed h).cells],[]⟩:=by refine (IU fu (d+12) seed h).trans ?_;have p:=Ajm (fu:=fu) (d:=d) B2 seed h;simp only[Ky.cells] at p ⊢;simp only[Be,Bf,p]
theorem A0t(n:Int):Ac C1 prog fu (d+2) 10 [.pbox (dkc [] 0),Ar n]=some ⟨[Ar 0],[dkc [] 0]⟩:=
 (Xj fu (d+1) 0 [] 0 n).trans rfl
theorem DL(B2:1000<=fu):Ac C1 prog fu (d+15) 27 []=some ⟨[.agg (CR Hy 5).cells],[]⟩:=by
 have nw:Ac C1 prog fu (d+14) 7 [.lst false 1 0 []]=some ⟨[.pbox (dkc [] 0)],[]⟩:=Bmk (l:=[]);have n0:=fun n=>A0t (fu:=fu) (d:=d+10) n;have n0':=fun n=>A0t (fu:=fu) (d:=d+11) n
 have pl:Ac C1 prog fu (d+13) 29 [.pbox (dkc [] 0)]=some ⟨[.agg Hy.own],[dkc [] 0]⟩:=by
  refine (T7 fu (d+12) 0 [] 0).trans ?_
  repeat(with_reducible(first|apply Bj|apply Ay|apply Bi|apply Ba|apply Bm|apply TY|apply Ar3|apply Kl|apply Ak6|apply Az|apply Bh|apply Hg);· first|constructor|(simp(disch:=omega)only[He,n0,wrap_i64]<;>first|constructor|omega)|omega)
  try simp(disch:=omega)only[Aa,n0,wrap_i64]
  rfl
 have ky:=Ahn (fu:=fu) (d:=d) B2 31 4;have k4:(Ts 31 4).cells=[Ar 4,Ag (Ts 31 4).root]:=by unfold Ky.cells;rw[MM (by decide)]
 rw[k4] at ky
 have cf:Ac C1 prog fu (d+14) 8 [.pbox (dkc [] 0)]=some ⟨[.agg (CR Hy 5).cells],[dkc [] 0]⟩:=by
  refine (To fu (d+13) 0 [] 0).trans ?_;simp only[Pol.own] at pl;have w1:wrap .u64 (5+wrap .u64 0)=5:=by decide
  repeat(with_reducible(first|apply Bj|apply Ay|apply Bi|apply Ba|apply Bm|apply TY|apply Ar3|apply Kl|apply Ak6|apply Az|apply Bh|apply Hg);· first|constructor|(simp(disch:=omega)only[He,pl,n0',ky,w1]<;>first|constructor|omega)|omega)
  try simp(disch:=omega)only[Aa,pl,n0',ky,w1]
  rfl
 refine (Zu fu (d+14)).trans ?_;simp only[Cf.cells] at cf ⊢;simp(disch:=omega)only[Be,Bf,nw,cf,Vn]
theorem A0m(B2:1000<=fu)(n h:Int)(sh:Bool):∃id,Cz id/\id.length=176/\Ac C1 prog fu (d+7) 11 [Ar n,Ar h,De sh]=some ⟨[.agg [Ag (wrap .u64 (1000+wrap .u64 n)),Ar h,.own 1 176 (Af .u8 id),De sh]],[]⟩:=by obtain⟨r,r1,r2,r3⟩:=Ar6 (fu:=fu) (d:=d) (p:=some N8) B2 (wrap .i64 (500+n)) (n:=176) (by omega);have r3:Ac C1 prog fu (d+6) 9 [Ar (wrap .i64 (500+n)),Ar 176]=_:=r3;refine⟨r,r1,r2,?_⟩;have L:=An .u8 r;have t:List.take (176*1) (Af .u8 r)=Af .u8 r:=Hz (by omega);have c1:decide (176*1<=List.length (Af .u8 r))=true:=dT (by omega);refine (Vq fu (d+6) n h sh).trans ?_;simp only[Be,Bf,r3,c1,t]
theorem Afk(seed h:Int)(n:Nat)(c:Ae)(sh vf:Bool):Ac C1 prog fu (d+1) 36 [.agg [Ag seed,Ar h,.lst false 1 n c,De sh],De vf]=some ⟨[Ar (Kg sh vf)],[]⟩:=by refine (Vt fu d seed h n c sh vf).trans ?_;cases vf<;>cases sh<;>rfl
theorem Ax6(B2:1000<=fu){a:Y7}(h64:D2 .i64 a.fl 64=0):Ac C1 prog fu (d+4) 34 [.agg a.cells]=some ⟨[.own 1 (Rr a).length (Af .u8 (Rr a)),Ar (vE a)],[]⟩:=by
 refine (J8 fu (d+3) a.rp a.fl a.ct a.rg a.md a.idn a.id a.kh a.kr).trans ?_;have vd:=ZL (fu:=fu) (d:=d) B2 a;simp only[Y7.cells] at vd;unfold Rr;by_cases hv:vE a=0
 ·rw[hv] at vd;rw[Cr hv];have z0:((0:Int) != 0)=false:=rfl;have f0:(D2 .i64 a.fl 64 != 0)=false:=by rw[h64];rfl
  have o1:=Ane (fu:=fu) (d:=d+2) B2 a.rp;have l1:(Af .u8 (Bu a.rp)).length=8:=by rw[An,Cl]
  have c1:decide (8*1<=List.length (Af .u8 (Bu a.rp)))=true:=dT (by omega);have t1:List.take (8*1) (Af .u8 (Bu a.rp))=Af .u8 (Bu a.rp):=Hz (by omega);have c2:decide ((8+3)*1<=1099511627776)=true:=rfl;have c3:decide (8+3<=1099511627776)=true:=rfl;have e:Af .u8 (Bu a.rp++[wrap .u8 a.fl,wrap .u8 a.ct,wrap .u8 a.rg])=Af .u8 (Bu a.rp)++[PV.sc (.int .u8 (wrap .u8 a.fl)),.sc (.int .u8 (wrap .u8 a.ct)),.sc (.int .u8 (wrap .u8 a.rg))]:=by simp[Af,List.flatMap_append]
  have l2:(Af .u8 (Bu a.rp)++[PV.sc (.int .u8 (wrap .u8 a.fl)),.sc (.int .u8 (wrap .u8 a.ct)),.sc (.int .u8 (wrap .u8 a.rg))]).length=11:=by rw[Wy,l1];rfl
  have c4:decide ((8+3)*1<=List.length (Af .u8 (Bu a.rp)++[PV.sc (.int .u8 (wrap .u8 a.fl)),.sc (.int .u8 (wrap .u8 a.ct)),.sc (.int .u8 (wrap .u8 a.rg))]))=true:=dT (by omega);have t2:List.take ((8+3)*1) (Af .u8 (Bu a.rp)++[PV.sc (.int .u8 (wrap .u8 a.fl)),.sc (.int .u8 (wrap .u8 a.ct)),.sc (.int .u8 (wrap .u8 a.rg))])=Af .u8 (Bu a.rp)++[PV.sc (.int .u8 (wrap .u8 a.fl)),.sc (.int .u8 (wrap .u8 a.ct)),.sc (.int .u8 (wrap .u8 a.rg))]:=Hz (by omega);have ll:(Bu a.rp++[wrap .u8 a.fl,wrap .u8 a.ct,wrap .u8 a.rg]).length=11:=by rw[Wy,Cl];rfl
  rw[ll,e,hv];simp only[Be,Bf,vd,z0,o1,c1,c2,c3,t1,f0,c4,t2]
 ·have z:(vE a != 0)=true:=by simpa using hv
  rw[B3 hv];simp only[Be,Bf,vd,z];rfl
theorem QN(sh vf:Bool):D2 .i64 (Kg sh vf) 64=0:=by cases sh<;>cases vf<;>decide
set_option maxHeartbeats 2000000 in
theorem MX(B2:1000400<=fu){seed h:Int}{id:Al}{sh:Bool}{rp:ByteArray}{o ch:Al}{vf:Bool}{leaf f:Int}{us:ByteArray}(hrp:rp.size<=100000)(hoB:Cz o)(ho:o.length<=50000)(OW:Cz ch)(hc:ch.length<=50000):
  Ac C1 prog fu (d+13) 14 [.agg [Ag seed,Ar h,.lst false 1 id.length (Af .u8 id),De sh],Bl rp,Bl (Ab o),.lst false 1 ch.length (Af .u8 ch),De vf,Ar leaf,Ar f,Bl us]=some ⟨[.agg (Oc seed h id sh rp o ch vf leaf f us).cells],[]⟩:=by
 refine (T9 fu (d+12) seed h id.length (Af .u8 id) sh rp (Ab o) ch.length (Af .u8 ch) vf leaf f us).trans ?_;have fm:Ac C1 prog fu (d+12) 33 [cdA 2 ch o [] false]=some (Auz (Zx 2 ch o [] false)):=YQ (fu:=fu) (d:=d+6) (p:=some N8) OW hoB (fun x hx=>nomatch hx) (by omega) (by omega) (by simp) (by omega) (by omega) (by omega) (by simp;omega)
 obtain⟨T,hT⟩:∃T,asT ch o=T:=⟨_,rfl⟩
 obtain⟨fe,fm⟩:∃fe,Ac C1 prog fu (d+12) 33 [.agg [Ar 2,.lst false 1 ch.length (Af .u8 ch),Bl (Ab o),De false,Bl ⟨#[]⟩]]=some ⟨[Bl T,Ar fe],[]⟩:=by
  unfold asT at hT;cases hq:Zx 2 ch o [] false with
  |ok s=>rw[hq] at fm hT;exact⟨0,by rw[<-hT];exact fm⟩
  |error e=>rw[hq] at fm hT;exact⟨e,by rw[<-hT];exact fm⟩
 have hTs:T.size<=60000:=by rw[<-hT];exact Agw ho
 have hr:=Avq (fu:=fu) (d:=d+7) (s:=rp) (by omega) B2;have fl:=Afk (fu:=fu) (d:=d+11) seed h id.length (Af .u8 id) sh vf;have en:Ac C1 prog fu (d+12) 34 [.agg [Ag (E3 9 (Cs rp)),Ar (Kg sh vf),Ar (wrap .i64 (leaf+1)),Ar f,Ag 0,.lst false 1 0 [],Ar 0,Ag 0]]=some ⟨[.own 1 (Rr (Z4 rp sh vf leaf f)).length (Af .u8 (Rr (Z4 rp sh vf leaf f))),Ar (vE (Z4 rp sh vf leaf f))],[]⟩:=Ax6 (fu:=fu) (d:=d+8) (by omega) (a:=Z4 rp sh vf leaf f) (QN sh vf);have hA1:=Arc (Z4 rp sh vf leaf f);have hA2:=Agn (Z4 rp sh vf leaf f);have hd:=YL (fu:=fu) (d:=d+7) (s:=T) (by omega) B2;have ms:=Ame (fu:=fu) (d:=d+7) hA1 (by omega) B2 (E3 11 (Cs T))
 obtain⟨M,hM⟩:∃M,QE (Rr (Z4 rp sh vf leaf f)) (E3 11 (Cs T))=M:=⟨_,rfl⟩
 rw[hM] at ms;have sg:=Atv (fu:=fu) (d:=d) (by omega) seed h leaf M;have LA:=An .u8 (Rr (Z4 rp sh vf leaf f));have cA:decide (0+(Rr (Z4 rp sh vf leaf f)).length*1<=List.length (Af .u8 (Rr (Z4 rp sh vf leaf f))))=true:=dT (by omega);have tA:List.take ((Rr (Z4 rp sh vf leaf f)).length*1) (List.drop 0 (Af .u8 (Rr (Z4 rp sh vf leaf f))))=Af .u8 (Rr (Z4 rp sh vf leaf f)):=Hz (by rw[Me];omega)
 have A1p:(Oc seed h id sh rp o ch vf leaf f us).cells=[Ar 2,Bl T,.lst false 1 (Rr (Z4 rp sh vf leaf f)).length (Af .u8 (Rr (Z4 rp sh vf leaf f))),.lst false 1 (asG seed h leaf M).length (Af .u8 (asG seed h leaf M)),.lst false 1 0 [],Ar 0,.lst false 1 id.length (Af .u8 id),Bl us]:=by
  unfold Oc Rq.cells;rw[hT,hM]
 rw[A1p];clear A1p hM hT;unfold asG;cases hs:Ai7 seed h leaf M with
 |none=>
  rw[hs] at sg;simp only[Aa4,Sg.owned] at sg;have es:=UC (fu:=fu) (d:=d+10) (by omega) ⟨0,[],[]⟩ (by simp);have q1:E2 (([]:Al).length:Int)=false:=by decide
  have q2:L7 0 (([]:Al).length:Int)=false:=by decide
  simp only at es;rw[q1,q2,B3 (by simp),B3 (by simp),Cr (by simp)] at es;have es:Ac C1 prog fu (d+12) 40 [.agg [Ar 0,.lst false 1 0 [],.lst false 1 0 []]]=some ⟨[.own 1 0 [],Ar 4],[]⟩:=es;have sg:Ac C1 prog fu (d+12) 37 [Ag seed,Ar h,Ar leaf,Ag M]=some ⟨[.agg [Ar 0,.own 1 0 [],.own 1 0 []],Ar 9],[]⟩:=sg;have c0:decide (0+0*1<=List.length ([]:Ae))=true:=rfl;have t0:List.take (0*1) (List.drop 0 ([]:Ae))=[]:=rfl;simp only[Be,Bf,fm,hr,fl,en,hd,cA,tA,ms,sg,c0,t0,es];rfl
 |some s=>
  rw[hs] at sg;simp only[Aa4,Sg.owned] at sg
  have HK:E2 h=false/\L7 leaf h=false/\s.leaf=leaf/\s.chains.length=18/\(s.path.length:Int)=h:=by
   unfold Ai7 at hs;cases hh:E2 h
   ·rw[hh,B3 (by simp)] at hs;cases hO:L7 leaf h
    ·rw[hO,B3 (by simp)] at hs;cases hs;have:=Rc hh;exact⟨rfl,rfl,rfl,by simp[EI],by simp;omega⟩
    ·rw[hO,Cr rfl] at hs;cases hs
   ·rw[hh,Cr rfl] at hs;cases hs
  obtain⟨g1,g2,g3,g4,g5⟩:=HK;have hb:=Rc g1;have es:=UC (fu:=fu) (d:=d+10) (by omega) s (by omega);rw[g5,g3,g1,g2,g4,B3 (by simp),B3 (by simp),B3 (by simp)] at es;simp only[Sg.cells] at es;have L1:=An .u64 s.chains;have L2:=An .u64 s.path;have L3:=An .u8 (sgB s);have c1:decide (0+s.chains.length*1<=List.length (Af .u64 s.chains))=true:=dT (by omega);have c2:decide (0+s.path.length*1<=List.length (Af .u64 s.path))=true:=dT (by omega);have c3:decide (0+(sgB s).length*1<=List.length (Af .u8 (sgB s)))=true:=dT (by omega);have t1:List.take (s.chains.length*1) (List.drop 0 (Af .u64 s.chains))=Af .u64 s.chains:=Hz (by rw[Me];omega)
  have t2:List.take (s.path.length*1) (List.drop 0 (Af .u64 s.path))=Af .u64 s.path:=Hz (by rw[Me];omega)
  have t3:List.take ((sgB s).length*1) (List.drop 0 (Af .u8 (sgB s)))=Af .u8 (sgB s):=Hz (by rw[Me];omega)
  simp only[Be,Bf,fm,hr,fl,en,hd,cA,tA,ms,sg,c1,c2,t1,t2,es,c3,t3]
end
theorem A31:sd0.ok:=⟨fun x hx=>(nomatch hx),by decide,by decide,by decide,trivial,by decide⟩
theorem Arr(c:Cf)(m:Mt)(s:Sd)(ch:Al)(now:Int)(r:Rq):(I3 c m s ch now r).1=sd0\/∃leaf f,(I3 c m s ch now r).1=(Ok s leaf f now).1:=by
 unfold I3;simp only[Bool.cond_eq_ite]
 repeat' split
 all_goals first
  |exact .inl rfl
  |skip
 all_goals
  unfold ZO;simp only[Bool.cond_eq_ite]
  repeat' split
 all_goals first
  |exact .inl rfl
  |skip
 all_goals
  unfold Akx;simp only[Bool.cond_eq_ite]
  repeat' split
 all_goals first
  |exact .inl rfl
  |exact .inr ⟨_,_,rfl⟩
theorem At5{c:Cf}{m:Mt}{s:Sd}{ch:Al}{now:Int}{r:Rq}(hs:s.ok)(hr:s.rg.length<1000):(I3 c m s ch now r).1.ok:=by
 rcases Arr c m s ch now r with h|⟨l,f,h⟩
 ·rw[h];exact A31
 ·rw[h];exact Axd hs hr l f now
theorem XS{rp:ByteArray}{sh vf:Bool}{leaf f:Int}(h0:0<=leaf)(h1:leaf<=15)(f0:0<=f)(f1:f<=15):vE (Z4 rp sh vf leaf f)=0/\Zr (Rr (Z4 rp sh vf leaf f))=some (Z4 rp sh vf leaf f):=by
 have w1:wrap .i64 (leaf+1)=leaf+1:=Bn
 have hv:vE (Z4 rp sh vf leaf f)=0:=by
  unfold vE Z4;simp only;rw[w1];have a1:decide (leaf+1<0)=false:=dF (by omega);have a2:decide (leaf+1>16)=false:=dF (by omega);have a3:decide (f<0)=false:=dF (by omega);have a4:decide (f>=16)=false:=dF (by omega);have q1:(Yp .i64 (Kg sh vf) 93 != 0)=false:=by cases sh<;>cases vf<;>decide
  have q2:(D2 .i64 (Kg sh vf) 16 != 0)=false:=by cases sh<;>cases vf<;>decide
  have q3:(D2 .i64 (Kg sh vf) 64==0)=true:=by cases sh<;>cases vf<;>decide
  unfold vT;simp only[a1,a2,a3,a4,q1,q2,q3,cond_true,cond_false];rfl
 refine⟨hv,?_⟩;obtain⟨a,ha⟩:∃a,Z4 rp sh vf leaf f=a:=⟨_,rfl⟩
 have hf:a.fl=Kg sh vf/\a.ct=leaf+1/\a.rg=f/\isU a.rp/\a.md=0/\a.idn=0/\a.id=[]/\a.kh=0/\a.kr=0:=by
  rw[<-ha];exact⟨rfl,w1,rfl,QZ _ _,rfl,rfl,rfl,rfl,rfl⟩
 rw[ha] at hv ⊢;clear ha;obtain⟨rp',fl,ct,rg,md,idn,id,kh,kr⟩:=a;obtain⟨e1,e2,e3,e4,e5,e6,e7,e8,e9⟩:=hf;simp only at e1 e2 e3 e4 e5 e6 e7 e8 e9;subst e5 e6 e7 e8 e9;have fl1:0<=fl/\fl<=255:=by rw[e1];cases sh<;>cases vf<;>decide
 have fl2:D2 .i64 fl 64=0:=by rw[e1];exact QN sh vf
 have w2:wrap .u8 fl=fl:=Ow (by omega) (by omega);have w3:wrap .u8 ct=ct:=Ow (by omega) (by omega);have w4:wrap .u8 rg=rg:=Ow (by omega) (by omega);unfold Rr;rw[Cr hv];simp only;rw[w2,w3,w4];have hl:(Bu rp').length=8:=Cl _;have l11:(Bu rp'++[fl,ct,rg]).length=11:=by rw[Wy,hl];rfl
 have g:∀i,i<3->(Bu rp'++[fl,ct,rg]).getD (8+i) 0=[fl,ct,rg].getD i 0:=by
  intro i hi;rw[List.getD_eq_getElem?_getD,List.getElem?_append_right (by omega),hl,show 8+i-8=i by omega,<-List.getD_eq_getElem?_getD]
 have g8:(Bu rp'++[fl,ct,rg]).getD 8 0=fl:=g 0 (by omega);have g9:(Bu rp'++[fl,ct,rg]).getD 9 0=ct:=g 1 (by omega);have g10:(Bu rp'++[fl,ct,rg]).getD 10 0=rg:=g 2 (by omega);have tk:(Bu rp'++[fl,ct,rg]).take 8=Bu rp':=List.take_left' hl
 have an:adN (Bu rp'++[fl,ct,rg])=⟨rp',fl,ct,rg,0,0,[],0,0⟩:=by
  unfold adN;rw[g8,g9,g10,tk,YJ e4.1 e4.2]
 rw[Ak4 l11 (by rw[g8];exact fl2),an,Cr hv]
theorem YK{ch o:Al}(hc:Cz ch)(h1:1<=ch.length)(h2:ch.length<=64)(XX:o.length<=100)(hO:E0 o=0):M1 (asT ch o)=.ok (2,ch,o,false,[]):=by
 have hf:Zx 2 ch o [] false=.ok (fmH tyG ch o++fA4):=by
  unfold Zx;have ty:tyS 2=some tyG:=rfl;rw[ty];simp only;rw[B3 (by omega),B3 (by simp[hO])];rfl
 have hl:(fmH tyG ch o++fA4).length<=1000:=by
  have hel:=ID ch;simp only[fmH,PI,UL,fA3,fA4,tyG,Wy,Tm,WG];omega
 have b:=Axv (w:=[]) hc hf (by rfl) (by simp only[VW,List.append_nil];omega)
 simp only[VW,List.append_nil] at b;unfold asT;rw[hf];exact b
theorem Acs{c:Cf}{m:Mt}{s:Sd}{seed h:Int}{sh:Bool}{o ch:Al}{vf:Bool}{leaf f now:Int}{us:ByteArray}(n0:0<=now)(n1:now<=1099511627776)(hc:Cz ch)(h1:1<=ch.length)(h2:ch.length<=64)(XX:o.length<=100)(hO:E0 o=0)(hh:E2 h=false)(hl:L7 leaf h=false)(l0:0<=leaf)(l1:leaf<=15)(f0:0<=f)(f1:f<=15)(hk:(⟨s.ht,s.root⟩:Ky)=Ts seed h)(Rs:inO c.os (Ab o)=true):
  I3 c m s ch now (Oc seed h s.id sh c.rp o ch vf leaf f us) =
   bif Aek c.p (Z4 c.rp sh vf leaf f) s.sh s.model (stS m s.model now) != 0 then (sd0,Aek c.p (Z4 c.rp sh vf leaf f) s.sh s.model (stS m s.model now)) else
   bif (Ok s leaf f now).2 != 0 then (bif (Ok s leaf f now).2 != 37 then (sd0,(Ok s leaf f now).2) else Ok s leaf f now) else Ok s leaf f now:=by
 have a1:decide (now<0)=false:=dF (by omega);have a2:decide (now>1099511627776)=false:=dF (by omega);obtain⟨dv,da⟩:=XS (rp:=c.rp) (sh:=sh) (vf:=vf) l0 l1 f0 f1;obtain⟨r,hr⟩:∃r,Oc seed h s.id sh c.rp o ch vf leaf f us=r:=⟨_,rfl⟩
 have rk:r.kind=2:=by rw[<-hr];rfl
 have rc:r.cd=asT ch o:=by rw[<-hr];rfl
 have ra:r.ad=Rr (Z4 c.rp sh vf leaf f):=by rw[<-hr];rfl
 have ri:r.id=s.id:=by rw[<-hr];rfl
 have rs:r.sg=asG seed h leaf (QE r.ad (E3 11 (Cs r.cd))):=by rw[ra,rc,<-hr];rfl
 rw[hr];clear hr
 have cl:Zg c.os 2 ch r=0:=by
  unfold Zg;rw[rk,rc,YK hc h1 h2 XX hO];simp only[Si,Rs];rfl
 obtain⟨M,hM⟩:∃M,QE r.ad (E3 11 (Cs r.cd))=M:=⟨_,rfl⟩
 rw[hM] at rs;obtain⟨g,s1,s2,s3,s4,s5,s6⟩:=Axc (seed:=seed) (h:=h) (leaf:=leaf) (m:=M) hh hl
 have sg:sgD r.sg=some g:=by
  rw[rs];unfold asG;rw[s1];exact Azy s2 (by rw[s5];exact hh) (by rw[s5,s3];exact hl) s4
 have q1:XE r.id s.id=true:=by rw[ri];exact Si _
 have q2:Zr r.ad=some (Z4 c.rp sh vf leaf f):=by rw[ra];exact da
 have vf0:Acp ⟨s.ht,s.root⟩ M g=0:=by rw[hk];exact s6
 have MJ:(Z4 c.rp sh vf leaf f).fl=Kg sh vf:=rfl;have hrp:(Z4 c.rp sh vf leaf f).rp=E3 9 (Cs c.rp):=rfl;have hct:(Z4 c.rp sh vf leaf f).ct=wrap .i64 (leaf+1):=rfl;have hrg:(Z4 c.rp sh vf leaf f).rg=f:=rfl;obtain⟨a,ha⟩:∃a,Z4 c.rp sh vf leaf f=a:=⟨_,rfl⟩
 rw[ha] at q2 MJ hrp hct hrg ⊢;clear ha da dv;have f6:(D2 .i64 a.fl 64 != 0)=false:=by rw[MJ,QN sh vf];rfl
 have rpE:(a.rp != E3 9 (Cs c.rp))=false:=by rw[hrp];simp
 have ct:(a.ct != wrap .i64 (g.leaf+1))=false:=by rw[s3,hct];simp
 have z0:((0:Int) != 0)=false:=rfl;unfold I3;rw[a1,a2,cl,q1,q2];simp only[cond_false,Fl,z0];unfold ZO;rw[f6,rpE,sg];simp only[cond_false];unfold Akx;rw[hM,vf0,ct,s3,hrg];simp only[cond_false,z0]
theorem A3k(id:Al)(R:Int):Ok ⟨id,2,R,0,0,false,0,[],false,1,1⟩ 2 0 5=(⟨id,2,R,0,0,false,4,[(0,2)],false,1,5⟩,0):=by kernel_rfl
theorem A2u(id:Al)(R:Int):Ok ⟨id,2,R,0,0,false,4,[(0,2)],false,1,5⟩ 2 0 5=(⟨id,2,R,0,0,false,4,[(0,2)],true,1,5⟩,37):=by kernel_rfl
theorem RJ(rp:ByteArray)(vf:Bool)(leaf f st:Int):Aek Hy (Z4 rp false vf leaf f) false 0 st=0:=by
 have h1:UZ 0 (Kg false vf)=0:=by cases vf<;>decide
 have h2:((D2 .i64 (Kg false vf) 8 != 0)==false)=true:=by cases vf<;>decide
 show (if UZ 0 (Kg false vf)=0 then if ((D2 .i64 (Kg false vf) 8 != 0)==false)=true then if (0:Int)=0 then 0 else Awm [] false 0 st else 40 else UZ 0 (Kg false vf))=0;rw[Cr h1,Cr h2,Cr rfl]
section
variable {fu d:Nat}
abbrev WD:Mt:=⟨0,0,0,[],0,0,[],0,[]⟩
theorem FL:WD.ok:=⟨by decide,fun e he=>(nomatch he)⟩
def QG(seed h:Int)(id:Al)(sh:Bool)(model:Int):Sd:=⟨id,(Ts seed h).h,(Ts seed h).root,model,0,sh,0,[],false,1,1⟩
theorem Aa3{seed h:Int}{id:Al}(hb:Cz id)(hl:id.length=176)(sh:Bool)(model:Int):(QG seed h id sh model).ok:=⟨hb,by show id.length<=_;omega,by show (0:Int)<=0;decide,by show (0:Int)<=_;decide,trivial,by show (0:Nat)<=1000;decide⟩
theorem CI(B2:1000<=fu)(seed h:Int)(id:Al)(sh:Bool)(model:Int):Ac C1 prog fu (d+14) 12 [.agg [Ag seed,Ar h,.lst false 1 id.length (Af .u8 id),De sh],Ag model]=some ⟨[.agg (QG seed h id sh model).cells],[]⟩:=by refine (Zo fu (d+13) seed h id.length (Af .u8 id) sh model).trans ?_;have ky:=Ahn (fu:=fu) (d:=d) B2 seed h;simp only[Ky.cells] at ky;simp only[Be,Bf,ky];rfl
theorem Aax:E0 (Cs GU)=0:=by decide +kernel
set_option maxHeartbeats 4000000 in
theorem Afy(B2:1000400<=fu):Ac C1 prog fu (d+27) 21 []=some ⟨[De true],[]⟩:=by
 refine (Z9 fu (d+26)).trans ?_;obtain⟨id,hib,QA,cr⟩:=A0m (fu:=fu) (d:=d+19) (by omega) 1 2 false;have w1:wrap .u64 (1000+wrap .u64 1)=1001:=by decide
 rw[w1] at cr;obtain⟨b,hbb,Tl,eb⟩:=Ar6 (fu:=fu) (d:=d+20) (p:=some N8) (by omega) 1 (n:=16) (by omega);have eb:Ac C1 prog fu (d+26) 9 [Ar 1,Ar 16]=some ⟨[.own 1 16 (Af .u8 b)],[]⟩:=eb;have Li:=An .u8 id;have Lb:=An .u8 b;have c1:decide (0+176*1<=List.length (Af .u8 id))=true:=dT (by omega);have t1:List.take (176*1) (List.drop 0 (Af .u8 id))=Af .u8 id:=Hz (by rw[Me];omega)
 have c2:decide (0+16*1<=List.length (Af .u8 b))=true:=dT (by omega);have t2:List.take (16*1) (List.drop 0 (Af .u8 b))=Af .u8 b:=Hz (by rw[Me];omega)
 have asr:=MX (fu:=fu) (d:=d+13) B2 (seed:=1001) (h:=2) (id:=id) (sh:=false) (rp:=PA) (o:=Cs GU) (ch:=b) (vf:=false) (leaf:=2) (f:=0) (us:=ByteArray.mk #[117]) (by decide) (Va _) (by rw[Ca];decide) hbb (by omega)
 rw[Es,QA,Tl] at asr;obtain⟨r,hr⟩:∃r,Oc 1001 2 id false PA (Cs GU) b false 2 0 (ByteArray.mk #[117])=r:=⟨_,rfl⟩
 have A87:r.ok:=by rw[<-hr];exact Abh (by rw[Ca];decide)
 rw[hr] at asr;have cf:=DL (fu:=fu) (d:=d+11) (by omega);have so:=CI (fu:=fu) (d:=d+12) (by omega) 1001 2 id false 0;rw[QA] at so;obtain⟨R,hR⟩:∃R,(Ts 1001 2).root=R:=⟨_,rfl⟩
 have hS0:QG 1001 2 id false 0=⟨id,2,R,0,0,false,0,[],false,1,1⟩:=by
  unfold QG;rw[MM (by decide),hR]
 have hk:(⟨2,R⟩:Ky)=Ts 1001 2:=by
  have:=MM (seed:=1001) (h:=2) (by decide);rw[<-hR];generalize Ts 1001 2=K at this;obtain⟨x,y⟩:=K;simp only at this;rw[this]
 obtain⟨S0,hS⟩:∃S0:Sd,S0=⟨id,2,R,0,0,false,0,[],false,1,1⟩:=⟨_,rfl⟩
 have s0ok:S0.ok:=by rw[hS,<-hS0];exact Aa3 hib QA _ _
 rw[hS0,<-hS] at so;have v1:=Acs (c:=CR Hy 5) (m:=WD) (s:=S0) (seed:=1001) (h:=2) (sh:=false) (o:=Cs GU) (ch:=b) (vf:=false) (leaf:=2) (f:=0) (now:=5) (us:=ByteArray.mk #[117]) (by decide) (by decide) hbb (by omega) (by omega) (by rw[Ca];decide) Aax (by decide) (by decide) (by decide) (by decide) (by decide) (by decide) (by rw[hS];exact hk) (by rw[Es];decide)
 have i0:S0.id=id:=by rw[hS]
 rw[i0,show (CR Hy 5).rp=PA from rfl,hr] at v1;obtain⟨S1,WE⟩:∃S1:Sd,S1=⟨id,2,R,0,0,false,4,[(0,2)],false,1,5⟩:=⟨_,rfl⟩
 have e1:I3 (CR Hy 5) WD S0 b 5 r=(S1,0):=by
  have a1:Ok S0 2 0 5=(S1,0):=by rw[hS,WE];exact A3k id R
  have q1:S0.sh=false:=by rw[hS]
  have q2:S0.model=0:=by rw[hS]
  rw[v1,a1,q1,q2,RJ];rfl
 have s1ok:S1.ok:=by
  have:=At5 (c:=CR Hy 5) (m:=WD) (s:=S0) (ch:=b) (now:=5) (r:=r) s0ok (by rw[hS];show (0:Nat)<1000;decide)
  rw[e1] at this;exact this
 have v2:=Acs (c:=CR Hy 5) (m:=WD) (s:=S1) (seed:=1001) (h:=2) (sh:=false) (o:=Cs GU) (ch:=b) (vf:=false) (leaf:=2) (f:=0) (now:=5) (us:=ByteArray.mk #[117]) (by decide) (by decide) hbb (by omega) (by omega) (by rw[Ca];decide) Aax (by decide) (by decide) (by decide) (by decide) (by decide) (by decide) (by rw[WE];exact hk) (by rw[Es];decide)
 have i1:S1.id=id:=by rw[WE]
 rw[i1,show (CR Hy 5).rp=PA from rfl,hr] at v2;obtain⟨S2,CH⟩:∃S2:Sd,S2=⟨id,2,R,0,0,false,4,[(0,2)],true,1,5⟩:=⟨_,rfl⟩
 have e2:I3 (CR Hy 5) WD S1 b 5 r=(S2,37):=by
  have a1:Ok S1 2 0 5=(S2,37):=by rw[WE,CH];exact A2u id R
  have q1:S1.sh=false:=by rw[WE]
  have q2:S1.model=0:=by rw[WE]
  rw[v2,a1,q1,q2,RJ];rfl
 have p1:=K7 (fu:=fu) (d:=d+17) B2 (SZ (p:=Hy) (by decide) 5) FL s0ok b 5 A87;have p2:=K7 (fu:=fu) (d:=d+17) B2 (SZ (p:=Hy) (by decide) 5) FL s1ok b 5 A87;rw[e1] at p1;rw[e2] at p2;rw[Tl] at p1 p2;simp only[Cf.cells,Sd.cells,Rq.cells] at asr cf so p1 p2;have m0:WD.cells=[Ar 0,Ar 0,Ar 0,.lst false 3 0 [],Ar 0,.lst false 1 0 [],.lst false 1 0 []]:=rfl;rw[m0] at p1 p2;have u1:S1.used=4:=by rw[WE]
 have u2:S1.last=5:=by rw[WE]
 have u3:S2.sus=true:=by rw[CH]
 have z0:((0:Int)==0)=true:=rfl;have z1:(S1.used==4)=true:=by rw[u1];rfl
 have z2:(S1.last==5)=true:=by rw[u2];rfl
 have z3:((37:Int)==37)=true:=rfl;simp only[Be,Bf,cr,eb,c1,t1,c2,t2,asr];rw[V1 (Gc:=by omega)];simp only[Be,Bf,cf,c1,t1,so,c2,t2,p1];rw[Xd (Gc:=by omega)];simp only[Be,Bf,cf,c2,t2,p2];rw[V5 (Gc:=by omega)];simp only[Be,Bf,z0,z1,z2,z3,u3]
end
section
variable {xs:FuncId->Option (Ae->Option Bv)}(fu d:Nat)(call:Ap)
def Iy(Z:Int)(Y:Nat)(X:Ae)(W:Nat)(V:Ae)(U T:Int)(S:Nat)(Q:Int)(P:Nat)(O:Ae)(N:Nat)(M:Ae)(L:Int)(K:ByteArray)(J I:Int)(H:Nat)(G:Bool)(E:Ae)(D:Int)(B:ByteArray)(A:Nat)(z:Ae)(w:Nat)(v:Ae)(u:Nat)(t:Ae)(ZY:Int)(y21:Nat)(y22:Ae)(y23:ByteArray):Option Bv:=Kk fu call 6 Tryz.f6 [Z,Am 1 Y X,Am 1 W V,U,.sc (.int .u8 T)] [.r,.r,.r,.r] S ⟨lk [(0,Q),(1,Am 1 P O),(2,Am 1 N M),(4,.sc (.int .u8 L)),(11,.ptr 11 0),(12,K),(13,.ptr 13 0)],C4 [(11,.st [Ag J,I,.view 488 1 0 H,G]),(488,.ar true E),(13,.st [D,B,Am 1 A z,Am 1 w v,Am 1 u t,ZY,Am 1 y21 y22,y23])]⟩
def Jb(Z:Int)(Y:Nat)(X:Ae)(W:Nat)(V:Ae)(U T:Int)(S:Nat)(Q:Int)(P:Nat)(O:Ae)(N:Nat)(M:Ae)(L:Int)(K:ByteArray)(J I H:Int)(G:Nat)(E:Bool)(D:Ae)(B:Int)(A:ByteArray)(z:Nat)(w:Ae)(v:Nat)(u:Ae)(t:Nat)(ZY:Ae)(y21:Int)(y22:Nat)(y23:Ae)(y24:ByteArray):Option Bv:=Kk fu call 6 Tryz.f6 [Z,Am 1 Y X,Am 1 W V,U,.sc (.int .u8 T)] [.r,.r,.r,.r,.r] S ⟨lk [(0,Q),(1,Am 1 P O),(2,Am 1 N M),(4,.sc (.int .u8 L)),(11,.ptr 11 0),(12,K),(13,.ptr 13 0),(15,J)],C4 [(11,.st [Ag I,H,.view 488 1 0 G,E]),(488,.ar true D),(13,.st [B,A,Am 1 z w,Am 1 v u,Am 1 t ZY,y21,Am 1 y22 y23,y24])]⟩
def D6(Z:Int)(Y:Nat)(X:Ae)(W:Nat)(V:Ae)(U T:Int)(S:Nat)(Q:Int)(P:Nat)(O:Ae)(N:Nat)(M:Ae)(L K:Int)(J I:Int)(H:Nat)(G:Bool)(E:Ae)(D:Int)(B:ByteArray)(A:Nat)(z:Ae)(w:Nat)(v:Ae)(u:Nat)(t:Ae)(ZY:Int)(y21:Nat)(y22:Ae)(y23:ByteArray):Option Bv:=Kk fu call 6 Tryz.f6 [Z,Am 1 Y X,Am 1 W V,U,.sc (.int .u8 T)] [.r,.r,.r,.r,.r,.r,.r,.r] S ⟨lk [(0,Q),(1,Am 1 P O),(2,Am 1 N M),(4,.sc (.int .u8 L)),(11,.ptr 11 0),(13,.ptr 13 0),(18,K)],C4 [(11,.st [Ag J,I,.view 488 1 0 H,G]),(488,.ar true E),(13,.st [D,B,Am 1 A z,Am 1 w v,Am 1 u t,ZY,Am 1 y21 y22,y23])]⟩
def Ez(Z:Int)(Y:Nat)(X:Ae)(W:Nat)(V:Ae)(U T:Int)(S Q:Nat)(P:Ae)(O N:Int)(M L:Int)(K:Nat)(J:Bool)(I:Ae):Option Bv:=Kk fu call 6 Tryz.f6 [Z,Am 1 Y X,Am 1 W V,U,.sc (.int .u8 T)] [.r,.r,.r,.r,.r,.r,.r,.r,.r,.r,.r,.r] S ⟨lk [(1,Am 1 Q P),(4,.sc (.int .u8 O)),(11,.ptr 11 0),(21,N)],C4 [(11,.st [Ag M,L,.view 488 1 0 K,J]),(488,.ar true I)]⟩
def I1(Z:Int)(Y:Nat)(X:Ae)(W:Nat)(V:Ae)(U T:Int)(S Q:Nat)(P:Ae)(O N M:Int)(L:Nat)(K:Bool)(J:Ae)(I:Int)(H:ByteArray)(G:Nat)(E:Ae)(D:Nat)(B:Ae)(A:Nat)(z:Ae)(w:Int)(v:Nat)(u:Ae)(t:ByteArray):Option Bv:=Kk fu call 6 Tryz.f6 [Z,Am 1 Y X,Am 1 W V,U,.sc (.int .u8 T)] [.r,.r,.r,.r,.r,.r,.r,.r,.r,.r,.r,.r,.r] S ⟨lk [(1,Am 1 Q P),(11,.ptr 11 0),(21,O),(22,.ptr 22 0)],C4 [(11,.st [Ag N,M,.view 488 1 0 L,K]),(488,.ar true J),(22,.st [I,H,Am 1 G E,Am 1 D B,Am 1 A z,w,Am 1 v u,t])]⟩
def I5(Z:Int)(Y:Nat)(X:Ae)(W:Nat)(V:Ae)(U T:Int)(S Q:Nat)(P:Ae)(O N:Int)(M L:Int)(K:Nat)(J:Bool)(I:Ae):Option Bv:=Kk fu call 6 Tryz.f6 [Z,Am 1 Y X,Am 1 W V,U,.sc (.int .u8 T)] [.r,.r,.r,.r,.r,.r,.r,.r,.r,.r,.r,.r,.r,.r] S ⟨lk [(1,Am 1 Q P),(11,.ptr 11 0),(21,O),(24,N)],C4 [(11,.st [Ag M,L,.view 488 1 0 K,J]),(488,.ar true I)]⟩
def I6(Z:Int)(Y:Nat)(X:Ae)(W:Nat)(V:Ae)(U T:Int)(S Q:Nat)(P:Ae)(O N:Int)(M L:Int)(K:Nat)(J:Bool)(I:Ae)(H:Int)(G:ByteArray)(E:Nat)(D:Ae)(B:Nat)(A:Ae)(z:Nat)(w:Ae)(v:Int)(u:Nat)(t:Ae)(ZY:ByteArray):Option Bv:=Kk fu call 6 Tryz.f6 [Z,Am 1 Y X,Am 1 W V,U,.sc (.int .u8 T)] [.r,.r,.r,.r,.r,.r,.r,.r,.r,.r,.r,.r,.r,.r,.r] S ⟨lk [(1,Am 1 Q P),(11,.ptr 11 0),(21,O),(24,N),(25,.ptr 25 0)],C4 [(11,.st [Ag M,L,.view 488 1 0 K,J]),(488,.ar true I),(25,.st [H,G,Am 1 E D,Am 1 B A,Am 1 z w,v,Am 1 u t,ZY])]⟩
def Iz(Z:Int)(Y:Nat)(X:Ae)(W:Nat)(V:Ae)(U T:Int)(S:Nat)(Q P O:Int):Option Bv:=Kk fu call 6 Tryz.f6 [Z,Am 1 Y X,Am 1 W V,U,.sc (.int .u8 T)] [.r,.r,.r,.r,.r,.r,.r,.r,.r,.r,.r,.r,.r,.r,.r,.r] S ⟨lk [(21,Q),(24,P),(27,O)],C4 []⟩
theorem Pp(D:Int)(B:Nat)(A:Ae)(z:Nat)(w:Ae)(v u:Int)(Y:Nat)(Gc:0<Y)(t:Int)(W:Nat)(V:Ae)(y3:Nat)(y4:Ae)(y5:Int)(y6:ByteArray)(U T:Int)(Z:Nat)(S:Bool)(X:Ae)(Q:Int)(P:ByteArray)(O:Nat)(N:Ae)(M:Nat)(L:Ae)(K:Nat)(J:Ae)(I:Int)(H:Nat)(G:Ae)(E:ByteArray):Iy fu call D B A z w v u Y t W V y3 y4 y5 y6 U T Z S X Q P O N M L K J I H G E=(Dl (call 27 []) fun a b=>Di a fun a=>Ad a fun a c=>Bd a fun a=>Ad c fun c e=>Bd c fun c=>Gg 1 e fun e f g=>Br .i64 g fun g h=>Ad h fun h i=>Ax h fun h=>Br .i64 i fun i j=>Br .i64 j fun j k=>Ad k fun k m=>Ax k fun k=>Br .i64 m fun m n=>Ad n fun n o=>Ax n fun n=>Gg 1 o fun o p q=>Br .i64 q fun q s=>Br .u64 s fun s Bkj=>Br .i64 Bkj fun Bn0 Bjx=>Cg .u64 Bjx fun A5x=>Ak b<|As (decide (0+Z*1<=X.length))<|Dl (call 12 [.agg [Ag U,T,Am 1 Z (List.take (Z*1) (X.drop 0)),S],Ag 0]) fun b A4o=>Di b fun b=>Gg 1 b fun b Bi9 A2y=>Br .i64 A2y fun A3n A4u=>Br .u64 A4u fun Bmx A4e=>Br .u64 A4e fun Bid A5s=>Br .i64 A5s fun Bmv A4m=>Ad A4m fun Bke Bkr=>Ax Bke fun Bg7=>Br .u64 Bkr fun Bkt Bh5=>Gg 2 Bh5 fun Bfm Be5 Bnp=>Ad Bnp fun Bne Bjg=>Ax Bne fun Bfs=>Br .i64 Bjg fun Bny Bey=>Cg .i64 Bey fun Bhn=>Ak A4o<|Dl (call 23 [.agg [a,c,Am 1 e f,g,h,i,j,k,m,n,Am 1 o p,q,Ag s,Bn0,Ag A5x],.agg [(0:Int),(0:Int),(0:Int),Am 3 0 [],(0:Int),Am 1 0 [],Am 1 0 []],.agg [Am 1 b Bi9,A3n,Ag Bmx,Ag Bid,Bmv,Bg7,Ag Bkt,Am 2 Bfm Be5,Bfs,Bny,Bhn],Am 1 W V,(5:Int),.agg [Q,P,Am 1 O N,Am 1 M L,Am 1 K J,I,Am 1 H G,E]]) fun a b=>Di a fun a=>Gg 1 a fun a c e=>Br .i64 e fun a c=>Br .u64 c fun a c=>Br .u64 c fun a c=>Br .i64 c fun a c=>Ad c fun a c=>Ax a fun a=>Br .u64 c fun a c=>Gg 2 c fun a c e=>Ad e fun a c=>Ax a fun a=>Br .i64 c fun a c=>Cg .i64 c fun a=>Cg .i64 b fun a=>Jb fu call D B A z w v u fu t W V y3 y4 y5 y6 a U T Z S X Q P O N M L K J I H G E):=by cases Y with|zero=>exact absurd Gc (Nat.lt_irrefl 0)|succ Y=>kernel_rfl
theorem Pc(E:Int)(D:Nat)(B:Ae)(A:Nat)(z:Ae)(w v:Int)(u:Nat)(Gc:0<u)(t:Int)(y1:Nat)(y2:Ae)(X:Nat)(W:Ae)(y5:Int)(y6:ByteArray)(y7 V U:Int)(Z:Nat)(T:Bool)(Y:Ae)(S:Int)(Q:ByteArray)(P:Nat)(O:Ae)(N:Nat)(M:Ae)(L:Nat)(K:Ae)(J:Int)(I:Nat)(H:Ae)(G:ByteArray):Jb fu call E D B A z w v u t y1 y2 X W y5 y6 y7 V U Z T Y S Q P O N M L K J I H G=(Aw (Array.toList (ByteArray.data y6)==Array.toList (ByteArray.data (ByteArray.mk #[104,116,116,112,115,58,47,47,101,120,97,109,112,108,101,46,99,111,109]))) (Aw (!(y7==0)==true) (Bk [false]) (Dl (call 27 []) fun a b=>Di a fun a=>Ad a fun a c=>Bd a fun a=>Ad c fun c e=>Bd c fun c=>Gg 1 e fun e f g=>Br .i64 g fun g h=>Ad h fun h i=>Ax h fun h=>Br .i64 i fun i j=>Br .i64 j fun j k=>Ad k fun k m=>Ax k fun k=>Br .i64 m fun m n=>Ad n fun n o=>Ax n fun n=>Gg 1 o fun o p q=>Br .i64 q fun q s=>Br .u64 s fun s Bm8=>Br .i64 Bm8 fun Bnd Blm=>Cg .u64 Blm fun Bi4=>Ak b<|As (decide (0+Z*1<=Y.length))<|Dl (call 12 [.agg [Ag V,U,Am 1 Z (List.take (Z*1) (Y.drop 0)),T],Ag 0]) fun b Bh7=>Di b fun b=>Gg 1 b fun b Bmb Bn3=>Br .i64 Bn3 fun Bj2 Bjd=>Br .u64 Bjd fun Be2 Bga=>Br .u64 Bga fun Bil Bn1=>Br .i64 Bn1 fun Bmw Bnq=>Ad Bnq fun Bks Bfl=>Ax Bks fun Bkp=>Br .u64 Bfl fun Bkx Bj0=>Gg 2 Bj0 fun Big Bfw Bmn=>Ad Bmn fun Bnh Bjc=>Ax Bnh fun Bnb=>Br .i64 Bjc fun Bh6 Bjq=>Cg .i64 Bjq fun Bix=>Ak Bh7<|Dl (call 23 [.agg [a,c,Am 1 e f,g,h,i,j,k,m,n,Am 1 o p,q,Ag s,Bnd,Ag Bi4],.agg [(0:Int),(0:Int),(0:Int),Am 3 0 [],(0:Int),Am 1 0 [],Am 1 0 []],.agg [Am 1 b Bmb,Bj2,Ag Be2,Ag Bil,Bmw,Bkp,Ag Bkx,Am 2 Big Bfw,Bnb,Bh6,Bix],Am 1 X W,(5:Int),.agg [S,Q,Am 1 P O,Am 1 N M,Am 1 L K,J,Am 1 I H,G]]) fun a b=>Di a fun a=>Gg 1 a fun a c e=>Br .i64 e fun a c=>Br .u64 c fun a c=>Br .u64 c fun a c=>Br .i64 c fun a c=>Ad c fun a c=>Ax a fun a=>Br .u64 c fun a c=>Gg 2 c fun a c e=>Ad e fun a c=>Ax a fun a=>Br .i64 c fun a c=>Cg .i64 c fun a=>Cg .i64 b fun a=>D6 fu call E D B A z w v fu t y1 y2 X W y5 a V U Z T Y S Q P O N M L K J I H G)) (Aw (!(y7==0)==(Array.toList (ByteArray.data y6)==Array.toList (ByteArray.data (ByteArray.mk #[104,116,116,112,115,58,47,47,108,111,103,105,110,46,101,120,97,109,112,108,101,46,99,111,109])))) (Bk [false]) (Aw (!Array.toList (ByteArray.data y6)==Array.toList (ByteArray.data (ByteArray.mk #[104,116,116,112,115,58,47,47,108,111,103,105,110,46,101,120,97,109,112,108,101,46,99,111,109]))) (Aw (y7 != 34) (Bk [false]) (Dl (call 27 []) fun a b=>Di a fun a=>Ad a fun a c=>Bd a fun a=>Ad c fun c e=>Bd c fun c=>Gg 1 e fun e f g=>Br .i64 g fun g h=>Ad h fun h i=>Ax h fun h=>Br .i64 i fun i j=>Br .i64 j fun j k=>Ad k fun k m=>Ax k fun k=>Br .i64 m fun m n=>Ad n fun n o=>Ax n fun n=>Gg 1 o fun o p q=>Br .i64 q fun q s=>Br .u64 s fun s Bnr=>Br .i64 Bnr fun Bfa Bhj=>Cg .u64 Bhj fun Bev=>Ak b<|As (decide (0+Z*1<=Y.length))<|Dl (call 12 [.agg [Ag V,U,Am 1 Z (List.take (Z*1) (Y.drop 0)),T],Ag 0]) fun b Bhr=>Di b fun b=>Gg 1 b fun b Blj Bh1=>Br .i64 Bh1 fun Bg6 Be6=>Br .u64 Be6 fun Bhh Be7=>Br .u64 Be7 fun Be1 Bjv=>Br .i64 Bjv fun Bji Bmt=>Ad Bmt fun Bhz Bjb=>Ax Bhz fun Bnn=>Br .u64 Bjb fun Bfz Blh=>Gg 2 Blh fun Bi3 Bn8 Bhd=>Ad Bhd fun Bf7 Blb=>Ax Bf7 fun Bgq=>Br .i64 Blb fun Bl7 Boe=>Cg .i64 Boe fun Bmp=>Ak Bhr<|Dl (call 23 [.agg [a,c,Am 1 e f,g,h,i,j,k,m,n,Am 1 o p,q,Ag s,Bfa,Ag Bev],.agg [(0:Int),(0:Int),(0:Int),Am 3 0 [],(0:Int),Am 1 0 [],Am 1 0 []],.agg [Am 1 b Blj,Bg6,Ag Bhh,Ag Be1,Bji,Bnn,Ag Bfz,Am 2 Bi3 Bn8,Bgq,Bl7,Bmp],Am 1 X W,(5:Int),.agg [S,Q,Am 1 P O,Am 1 N M,Am 1 L K,J,Am 1 I H,G]]) fun a b=>Di a fun a=>Gg 1 a fun a c e=>Br .i64 e fun a c=>Br .u64 c fun a c=>Br .u64 c fun a c=>Br .i64 c fun a c=>Ad c fun a c=>Ax a fun a=>Br .u64 c fun a c=>Gg 2 c fun a c e=>Ad e fun a c=>Ax a fun a=>Br .i64 c fun a c=>Cg .i64 c fun a=>Cg .i64 b fun a=>D6 fu call E D B A z w v fu t y1 y2 X W y5 a V U Z T Y S Q P O N M L K J I H G)) (Dl (call 27 []) fun a b=>Di a fun a=>Ad a fun a c=>Bd a fun a=>Ad c fun c e=>Bd c fun c=>Gg 1 e fun e f g=>Br .i64 g fun g h=>Ad h fun h i=>Ax h fun h=>Br .i64 i fun i j=>Br .i64 j fun j k=>Ad k fun k m=>Ax k fun k=>Br .i64 m fun m n=>Ad n fun n o=>Ax n fun n=>Gg 1 o fun o p q=>Br .i64 q fun q s=>Br .u64 s fun s Bm4=>Br .i64 Bm4 fun Bi6 Bja=>Cg .u64 Bja fun Bgv=>Ak b<|As (decide (0+Z*1<=Y.length))<|Dl (call 12 [.agg [Ag V,U,Am 1 Z (List.take (Z*1) (Y.drop 0)),T],Ag 0]) fun b Bj3=>Di b fun b=>Gg 1 b fun b Be4 Bgd=>Br .i64 Bgd fun Bm0 Bk7=>Br .u64 Bk7 fun Blv Biu=>Br .u64 Biu fun Bhi Bii=>Br .i64 Bii fun Ble Bjn=>Ad Bjn fun Bod Bfi=>Ax Bod fun Bih=>Br .u64 Bfi fun Bgh Bm6=>Gg 2 Bm6 fun Be9 Blg Bgc=>Ad Bgc fun Bl5 Bjk=>Ax Bl5 fun Bfj=>Br .i64 Bjk fun Bm5 Bmu=>Cg .i64 Bmu fun Bjh=>Ak Bj3<|Dl (call 23 [.agg [a,c,Am 1 e f,g,h,i,j,k,m,n,Am 1 o p,q,Ag s,Bi6,Ag Bgv],.agg [(0:Int),(0:Int),(0:Int),Am 3 0 [],(0:Int),Am 1 0 [],Am 1 0 []],.agg [Am 1 b Be4,Bm0,Ag Blv,Ag Bhi,Ble,Bih,Ag Bgh,Am 2 Be9 Blg,Bfj,Bm5,Bjh],Am 1 X W,(5:Int),.agg [S,Q,Am 1 P O,Am 1 N M,Am 1 L K,J,Am 1 I H,G]]) fun a b=>Di a fun a=>Gg 1 a fun a c e=>Br .i64 e fun a c=>Br .u64 c fun a c=>Br .u64 c fun a c=>Br .i64 c fun a c=>Ad c fun a c=>Ax a fun a=>Br .u64 c fun a c=>Gg 2 c fun a c e=>Ad e fun a c=>Ax a fun a=>Br .i64 c fun a c=>Cg .i64 c fun a=>Cg .i64 b fun a=>D6 fu call E D B A z w v fu t y1 y2 X W y5 a V U Z T Y S Q P O N M L K J I H G)))):=by cases u with|zero=>exact absurd Gc (Nat.lt_irrefl 0)|succ u=>kernel_rfl
theorem O5(Q:Int)(P:Nat)(O:Ae)(N:Nat)(M:Ae)(L K:Int)(S:Nat)(Gc:0<S)(J:Int)(W:Nat)(Y:Ae)(y3:Nat)(I:Ae)(H y6:Int)(V U:Int)(Z:Nat)(T:Bool)(X:Ae)(G:Int)(E:ByteArray)(D:Nat)(B:Ae)(A:Nat)(z:Ae)(w:Nat)(v:Ae)(u:Int)(t:Nat)(y22:Ae)(y23:ByteArray):D6 fu call Q P O N M L K S J W Y y3 I H y6 V U Z T X G E D B A z w v u t y22 y23=(As (decide (I.length=y3))<|D4 (K4 I) fun a=>As (decide (Y.length=W))<|D4 (K4 Y) fun b=>Aw (!Array.toList (ByteArray.data (ByteArray.mk (List.toArray a)))==Array.toList (ByteArray.data (ByteArray.mk (List.toArray b)))) (Aw (y6 != 35) (Bk [false]) (As (decide (0+Z*1<=X.length))<|Dl (call 12 [.agg [Ag V,U,Am 1 Z (List.take (Z*1) (X.drop 0)),T],Ag 0]) fun a b=>Di a fun a=>Gg 1 a fun a c e=>Br .i64 e fun e f=>Br .u64 f fun f g=>Br .u64 g fun g h=>Br .i64 h fun h i=>Ad i fun i j=>Ax i fun i=>Br .u64 j fun j k=>Gg 2 k fun k m n=>Ad n fun n o=>Ax n fun n=>Br .i64 o fun o p=>Cg .i64 p fun p=>Ak b<|Dl (call 17 [Am 1 a c,J]) fun a b=>Kf 1 a fun a c=>Ak b<|Dl (call 27 []) fun b q=>Di b fun b=>Ad b fun b s=>Bd b fun b=>Ad s fun s Bf6=>Bd s fun s=>Gg 1 Bf6 fun Bi8 Bi7 Blf=>Br .i64 Blf fun Bhk Bld=>Ad Bld fun Bgf Bfd=>Ax Bgf fun Bgb=>Br .i64 Bfd fun Blw Be0=>Br .i64 Be0 fun Bjj Bm3=>Ad Bm3 fun Bfp Bg5=>Ax Bfp fun Bk5=>Br .i64 Bg5 fun Bmg Bmo=>Ad Bmo fun Bgm Bn2=>Ax Bgm fun Bgt=>Gg 1 Bn2 fun Bjs Bgg Bnt=>Br .i64 Bnt fun Bf9 Bhb=>Br .u64 Bhb fun Bhq Bht=>Br .i64 Bht fun Bm9 Bkc=>Cg .u64 Bkc fun Be3=>Ak q<|As (decide (0+a*1<=c.length))<|Dl (call 23 [.agg [b,s,Am 1 Bi8 Bi7,Bhk,Bgb,Blw,Bjj,Bk5,Bmg,Bgt,Am 1 Bjs Bgg,Bf9,Ag Bhq,Bm9,Ag Be3],.agg [(0:Int),(0:Int),(0:Int),Am 3 0 [],(0:Int),Am 1 0 [],Am 1 0 []],.agg [Am 1 a (List.take (a*1) (c.drop 0)),e,Ag f,Ag g,h,i,Ag j,Am 2 k m,n,o,p],Am 1 W Y,(5:Int),.agg [G,E,Am 1 D B,Am 1 A z,Am 1 w v,u,Am 1 t y22,y23]]) fun a b=>Di a fun a=>Gg 1 a fun a c e=>Br .i64 e fun a c=>Br .u64 c fun a c=>Br .u64 c fun a c=>Br .i64 c fun a c=>Ad c fun a c=>Ax a fun a=>Br .u64 c fun a c=>Gg 2 c fun a c e=>Ad e fun a c=>Ax a fun a=>Br .i64 c fun a c=>Cg .i64 c fun a=>Cg .i64 b fun a=>Ez fu call Q P O N M L K fu W Y H a V U Z T X)) (As (decide (0+Z*1<=X.length))<|Dl (call 12 [.agg [Ag V,U,Am 1 Z (List.take (Z*1) (X.drop 0)),T],Ag 0]) fun a b=>Di a fun a=>Gg 1 a fun a c e=>Br .i64 e fun e f=>Br .u64 f fun f g=>Br .u64 g fun g h=>Br .i64 h fun h i=>Ad i fun i j=>Ax i fun i=>Br .u64 j fun j k=>Gg 2 k fun k m n=>Ad n fun n o=>Ax n fun n=>Br .i64 o fun o p=>Cg .i64 p fun p=>Ak b<|Dl (call 17 [Am 1 a c,J]) fun a b=>Kf 1 a fun a c=>Ak b<|Dl (call 27 []) fun b q=>Di b fun b=>Ad b fun b s=>Bd b fun b=>Ad s fun s Bnv=>Bd s fun s=>Gg 1 Bnv fun Bku Bi5 Bhx=>Br .i64 Bhx fun Bjl Bns=>Ad Bns fun Bnl Bkl=>Ax Bnl fun Bk6=>Br .i64 Bkl fun Bhg Bhy=>Br .i64 Bhy fun Bi2 Bj6=>Ad Bj6 fun Biz Bf1=>Ax Biz fun Bkd=>Br .i64 Bf1 fun Bjm Bhe=>Ad Bhe fun Bg1 Bg2=>Ax Bg1 fun Bfc=>Gg 1 Bg2 fun Bfh Bf5 Bng=>Br .i64 Bng fun Bfy Bm2=>Br .u64 Bm2 fun Bg3 Bnx=>Br .i64 Bnx fun Bhm Bhs=>Cg .u64 Bhs fun Bim=>Ak q<|As (decide (0+a*1<=c.length))<|Dl (call 23 [.agg [b,s,Am 1 Bku Bi5,Bjl,Bk6,Bhg,Bi2,Bkd,Bjm,Bfc,Am 1 Bfh Bf5,Bfy,Ag Bg3,Bhm,Ag Bim],.agg [(0:Int),(0:Int),(0:Int),Am 3 0 [],(0:Int),Am 1 0 [],Am 1 0 []],.agg [Am 1 a (List.take (a*1) (c.drop 0)),e,Ag f,Ag g,h,i,Ag j,Am 2 k m,n,o,p],Am 1 W Y,(5:Int),.agg [G,E,Am 1 D B,Am 1 A z,Am 1 w v,u,Am 1 t y22,y23]]) fun a b=>Di a fun a=>Gg 1 a fun a c e=>Br .i64 e fun a c=>Br .u64 c fun a c=>Br .u64 c fun a c=>Br .i64 c fun a c=>Ad c fun a c=>Ax a fun a=>Br .u64 c fun a c=>Gg 2 c fun a c e=>Ad e fun a c=>Ax a fun a=>Br .i64 c fun a c=>Cg .i64 c fun a=>Cg .i64 b fun a=>Ez fu call Q P O N M L K fu W Y H a V U Z T X)):=by cases S with|zero=>exact absurd Gc (Nat.lt_irrefl 0)|succ S=>kernel_rfl
theorem Qg(Q:Int)(P:Nat)(O:Ae)(N:Nat)(M:Ae)(L K:Int)(Y:Nat)(Gc:0<Y)(W:Nat)(V:Ae)(J I:Int)(U T:Int)(Z:Nat)(S:Bool)(X:Ae):Ez fu call Q P O N M L K Y W V J I U T Z S X=(Aa (Int.tmod J 4) fun a=>Aa (wrap .i64 a) fun a=>As (decide (0+Z*1<=X.length))<|Dl (call 14 [.agg [Ag U,T,Am 1 Z (List.take (Z*1) (X.drop 0)),S],Bl ⟨#[111,116,104,101,114,46,99,111,109]⟩,Bl ⟨#[104,116,116,112,115,58,47,47,101,120,97,109,112,108,101,46,99,111,109]⟩,Am 1 W V,true,a,(0:Int),Bl ⟨#[]⟩]) fun a b=>Di a fun a=>Br .i64 a fun a c=>Ad c fun c e=>Bd c fun c=>Gg 1 e fun e f g=>Gg 1 g fun g h i=>Gg 1 i fun i j k=>Br .i64 k fun k m=>Gg 1 m fun m n o=>Ad o fun o p=>Bd o fun o=>Ak p<|Ak b<|I1 fu call Q P O N M L K fu W V I U T Z S X a c e f g h i j k m n o):=by cases Y with|zero=>exact absurd Gc (Nat.lt_irrefl 0)|succ Y=>kernel_rfl
theorem P4(Q:Int)(P:Nat)(O:Ae)(N:Nat)(M:Ae)(L K:Int)(Y:Nat)(Gc:0<Y)(W:Nat)(V:Ae)(J U T:Int)(Z:Nat)(S:Bool)(X:Ae)(I:Int)(H:ByteArray)(G:Nat)(E:Ae)(D:Nat)(B:Ae)(A:Nat)(z:Ae)(w:Int)(v:Nat)(u:Ae)(t:ByteArray):I1 fu call Q P O N M L K Y W V J U T Z S X I H G E D B A z w v u t=(Dl (call 27 []) fun a b=>Di a fun a=>Ad a fun a c=>Bd a fun a=>Ad c fun c e=>Bd c fun c=>Gg 1 e fun e f g=>Br .i64 g fun g h=>Ad h fun h i=>Ax h fun h=>Br .i64 i fun i j=>Br .i64 j fun j k=>Ad k fun k m=>Ax k fun k=>Br .i64 m fun m n=>Ad n fun n o=>Ax n fun n=>Gg 1 o fun o p q=>Br .i64 q fun q s=>Br .u64 s fun s Bch=>Br .i64 Bch fun Bay Bcx=>Cg .u64 Bcx fun Bdh=>Ak b<|As (decide (0+Z*1<=X.length))<|Dl (call 12 [.agg [Ag U,T,Am 1 Z (List.take (Z*1) (X.drop 0)),S],Ag 0]) fun b A7o=>Di b fun b=>Gg 1 b fun b Bbz Bdf=>Br .i64 Bdf fun Bb8 Bbg=>Br .u64 Bbg fun Ba0 A8v=>Br .u64 A8v fun A7g Bac=>Br .i64 Bac fun A9d A8k=>Ad A8k fun A8j Bdd=>Ax A8j fun Bc1=>Br .u64 Bdd fun Bdg Bbu=>Gg 2 Bbu fun A9j Bb5 A8m=>Ad A8m fun Bb2 A9c=>Ax Bb2 fun Bcq=>Br .i64 A9c fun Bbh A76=>Cg .i64 A76 fun Bby=>Ak A7o<|Dl (call 23 [.agg [a,c,Am 1 e f,g,h,i,j,k,m,n,Am 1 o p,q,Ag s,Bay,Ag Bdh],.agg [(0:Int),(0:Int),(0:Int),Am 3 0 [],(0:Int),Am 1 0 [],Am 1 0 []],.agg [Am 1 b Bbz,Bb8,Ag Ba0,Ag A7g,A9d,Bc1,Ag Bdg,Am 2 A9j Bb5,Bcq,Bbh,Bby],Am 1 W V,(5:Int),.agg [I,H,Am 1 G E,Am 1 D B,Am 1 A z,w,Am 1 v u,t]]) fun a b=>Di a fun a=>Gg 1 a fun a c e=>Br .i64 e fun a c=>Br .u64 c fun a c=>Br .u64 c fun a c=>Br .i64 c fun a c=>Ad c fun a c=>Ax a fun a=>Br .u64 c fun a c=>Gg 2 c fun a c e=>Ad e fun a c=>Ax a fun a=>Br .i64 c fun a c=>Cg .i64 c fun a=>Cg .i64 b fun a=>I5 fu call Q P O N M L K fu W V J a U T Z S X):=by cases Y with|zero=>exact absurd Gc (Nat.lt_irrefl 0)|succ Y=>kernel_rfl
theorem Pi(Q:Int)(P:Nat)(O:Ae)(N:Nat)(M:Ae)(L K:Int)(Y:Nat)(Gc:0<Y)(W:Nat)(V:Ae)(J I:Int)(U T:Int)(Z:Nat)(S:Bool)(X:Ae):I5 fu call Q P O N M L K Y W V J I U T Z S X=(As (decide (0+Z*1<=X.length))<|Dl (call 28 [.agg [Ag U,T,Am 1 Z (List.take (Z*1) (X.drop 0)),S],Bl ⟨#[101,120,97,109,112,108,101,46,99,111,109]⟩,Bl ⟨#[104,116,116,112,115,58,47,47,101,120,97,109,112,108,101,46,99,111,109]⟩,Am 1 W V,(0:Int),true,(0:Int)]) fun a b=>Di a fun a=>Br .i64 a fun a c=>Ad c fun c e=>Bd c fun c=>Gg 1 e fun e f g=>Gg 1 g fun g h i=>Gg 1 i fun i j k=>Br .i64 k fun k m=>Gg 1 m fun m n o=>Ad o fun o p=>Bd o fun o=>Ak p<|Ak b<|I6 fu call Q P O N M L K fu W V J I U T Z S X a c e f g h i j k m n o):=by cases Y with|zero=>exact absurd Gc (Nat.lt_irrefl 0)|succ Y=>kernel_rfl
theorem O7(W:Int)(V:Nat)(U:Ae)(T:Nat)(S:Ae)(Q P:Int)(Z:Nat)(Gc:0<Z)(O:Nat)(N:Ae)(M L:Int)(K J:Int)(Y:Nat)(I:Bool)(X:Ae)(H:Int)(G:ByteArray)(E:Nat)(D:Ae)(B:Nat)(A:Ae)(z:Nat)(w:Ae)(v:Int)(u:Nat)(t:Ae)(ZY:ByteArray):I6 fu call W V U T S Q P Z O N M L K J Y I X H G E D B A z w v u t ZY=(Dl (call 27 []) fun a b=>Di a fun a=>Ad a fun a c=>Bd a fun a=>Ad c fun c e=>Bd c fun c=>Gg 1 e fun e f g=>Br .i64 g fun g h=>Ad h fun h i=>Ax h fun h=>Br .i64 i fun i j=>Br .i64 j fun j k=>Ad k fun k m=>Ax k fun k=>Br .i64 m fun m n=>Ad n fun n o=>Ax n fun n=>Gg 1 o fun o p q=>Br .i64 q fun q s=>Br .u64 s fun s Bat=>Br .i64 Bat fun Bcu Ba3=>Cg .u64 Ba3 fun Bbl=>Ak b<|As (decide (0+Y*1<=X.length))<|Dl (call 12 [.agg [Ag K,J,Am 1 Y (List.take (Y*1) (X.drop 0)),I],Ag 0]) fun b A8a=>Di b fun b=>Gg 1 b fun b Baa Bc6=>Br .i64 Bc6 fun A8t Bc4=>Br .u64 Bc4 fun Bad Ban=>Br .u64 Ban fun A8e Bbf=>Br .i64 Bbf fun Bc3 Bde=>Ad Bde fun Bbc A8q=>Ax Bbc fun A7u=>Br .u64 A8q fun Ba8 Baw=>Gg 2 Baw fun Bck Baf Bcy=>Ad Bcy fun Bcl Baj=>Ax Bcl fun A99=>Br .i64 Baj fun A8z A7p=>Cg .i64 A7p fun A75=>Ak A8a<|Dl (call 23 [.agg [a,c,Am 1 e f,g,h,i,j,k,m,n,Am 1 o p,q,Ag s,Bcu,Ag Bbl],.agg [(0:Int),(0:Int),(0:Int),Am 3 0 [],(0:Int),Am 1 0 [],Am 1 0 []],.agg [Am 1 b Baa,A8t,Ag Bad,Ag A8e,Bc3,A7u,Ag Ba8,Am 2 Bck Baf,A99,A8z,A75],Am 1 O N,(5:Int),.agg [H,G,Am 1 E D,Am 1 B A,Am 1 z w,v,Am 1 u t,ZY]]) fun a b=>Di a fun a=>Gg 1 a fun a c e=>Br .i64 e fun a c=>Br .u64 c fun a c=>Br .u64 c fun a c=>Br .i64 c fun a c=>Ad c fun a c=>Ax a fun a=>Br .u64 c fun a c=>Gg 2 c fun a c e=>Ad e fun a c=>Ax a fun a=>Br .i64 c fun a c=>Cg .i64 c fun a=>Cg .i64 b fun a=>Iz fu call W V U T S Q P fu M L a):=by cases Z with|zero=>exact absurd Gc (Nat.lt_irrefl 0)|succ Z=>kernel_rfl
theorem P3(V:Int)(U:Nat)(T:Ae)(S:Nat)(Q:Ae)(P O:Int)(Z:Nat)(Gc:0<Z)(Y X W:Int):Iz fu call V U T S Q P O Z Y X W=(Aw (Y != 0) (Aw (X==34) (Aw (W==3) (Dl (call 21 []) fun a b=>Ax a fun a=>Ak b<|Bk [a]) (Bk [false])) (Bk [false])) (Bk [false])):=by cases Z with|zero=>exact absurd Gc (Nat.lt_irrefl 0)|succ Z=>kernel_rfl
theorem Sh{p:Option (Ae->Option Bv)}(fu d:Nat)(Y:Int)(Z:Nat)(X:Ae)(W:Nat)(U:Ae)(T V:Int):Ac (CP p) prog fu (d+1) 6 [Y,Am 1 Z X,Am 1 W U,T,.sc (.int .u8 V)]=(fun (call:Ap)=>Aw (decide ((↑Z:Int)<1)) (Dl (call 21 []) fun a b=>Ax a fun a=>Ak b<|Bk [a]) (Aw (decide ((↑Z:Int)>64)) (Dl (call 21 []) fun a b=>Ax a fun a=>Ak b<|Bk [a]) (Aw (decide ((↑W:Int)>100)) (Dl (call 21 []) fun a b=>Ax a fun a=>Ak b<|Bk [a]) (Gt .i64 (call 20 [Y,(20:Int)]) fun a=>Dl (call 11 [a,(2:Int),false]) fun a b=>Di a fun a=>Br .u64 a fun a c=>Br .i64 c fun c e=>VY 1 e fun e f g=>Gv g fun g=>Ak b<|Dl (call 15 [T]) fun b h=>Bd b fun b=>Ak h<|Aa (Int.tmod V 4) fun h=>Aa (wrap .i64 h) fun h=>As (decide (0+e*1<=f.length))<|Dl (call 14 [.agg [Ag a,c,Am 1 e (List.take (e*1) (f.drop 0)),g],Bl ⟨#[101,120,97,109,112,108,101,46,99,111,109]⟩,b,Am 1 Z X,true,h,(0:Int),Bl ⟨#[]⟩]) fun h i=>Di h fun h=>Br .i64 h fun h j=>Ad j fun j k=>Bd j fun j=>Gg 1 k fun k m n=>Gg 1 n fun n o q=>Gg 1 q fun q s t=>Br .i64 t fun t u=>Gg 1 u fun u v w=>Ad w fun w z=>Bd w fun w=>Ak z<|Ak i<|Iy fu call Y Z X W U T V fu Y Z X W U V b a c e g f h j k m n o q s t u v w)))) (Ac (CP p) prog fu d):=by kernel_rfl
end
section
variable {xs:FuncId->Option (Ae->Option Bv)}(fu d:Nat)(call:Ap)
theorem Ri{p:Option (Ae->Option Bv)}(fu d:Nat)(W V:Int)(Y:Nat)(X:Ae)(T:Bool)(S Q:ByteArray)(P:Nat)(O:Ae)(Z:Int)(N:Bool)(U:Int):Ac (CP p) prog fu (d+1) 28 [.agg [Ag W,V,Am 1 Y X,T],S,Q,Am 1 P O,Z,N,U]=(fun (call:Ap)=>Dl (call 33 [.agg [(1:Int),Am 1 P O,Q,false,Bl ⟨#[]⟩]]) fun a b=>Bd a fun a=>Cg .i64 b fun b=>Gt .u64 (call 35 [S]) fun b=>Gt .i64 (call 36 [.agg [Ag W,V,Am 1 Y X,T],N]) fun c=>Aa (Xr .i64 c 64) fun c=>Dl (call 30 [Ag W,V]) fun e f=>Di e fun e=>Br .i64 e fun e g=>Cg .u64 g fun g=>Ak f<|Aw (Z==1) (Dl (call 34 [.agg [Ag b,c,(1:Int),(0:Int),Ag 3,Am 1 Y X,e,Ag g]]) fun b c=>Kf 1 b fun b e=>Cg .i64 c fun c=>Gt .u64 (call 39 [a]) fun c=>As (decide (0+b*1<=e.length))<|Gt .u64 (call 38 [Am 1 b (List.take (b*1) (e.drop 0)),Ag c]) fun c=>Aw (Z==1) (Dl (call 37 [Ag W,V,(0:Int),Ag c]) fun c f=>Di c fun c=>Br .i64 c fun c g=>VY 1 g fun g h i=>VY 1 i fun i j k=>Ak k<|Cg .i64 f fun f=>As (decide (0+g*1<=h.length))<|As (decide (0+i*1<=j.length))<|Dl (call 40 [.agg [c,Am 1 g (List.take (g*1) (h.drop 0)),Am 1 i (List.take (i*1) (j.drop 0))]]) fun c f=>Kf 1 c fun c g=>Cg .i64 f fun f=>As (decide (0+b*1<=e.length))<|As (decide (0+c*1<=g.length))<|Bk [.agg [(1:Int),a,Am 1 b (List.take (b*1) (e.drop 0)),Am 1 c (List.take (c*1) (g.drop 0)),Am 1 0 [],Z,Am 1 Y X,Bl ⟨#[]⟩]]) (Aw (Z==2) (Dl (call 37 [Ag 33,(4:Int),U,Ag c]) fun c f=>Di c fun c=>Br .i64 c fun c g=>VY 1 g fun g h i=>VY 1 i fun i j k=>Ak k<|Cg .i64 f fun f=>As (decide (0+g*1<=h.length))<|As (decide (0+i*1<=j.length))<|Dl (call 40 [.agg [c,Am 1 g (List.take (g*1) (h.drop 0)),Am 1 i (List.take (i*1) (j.drop 0))]]) fun c f=>Kf 1 c fun c g=>Cg .i64 f fun f=>Dl (call 60 []) fun f h=>Kf 1 f fun f i=>Ak h<|As (decide (0+b*1<=e.length))<|As (decide (0+c*1<=g.length))<|As (decide (0+f*1<=i.length))<|Bk [.agg [(1:Int),a,Am 1 b (List.take (b*1) (e.drop 0)),Am 1 c (List.take (c*1) (g.drop 0)),Am 1 f (List.take (f*1) (i.drop 0)),Z,Am 1 Y X,Bl ⟨#[]⟩]]) (As (decide (0+b*1<=e.length))<|Bk [.agg [(1:Int),a,Am 1 b (List.take (b*1) (e.drop 0)),Am 1 0 [],Am 1 0 [],Z,Am 1 Y X,Bl ⟨#[]⟩]]))) (Dl (call 34 [.agg [Ag b,c,(0:Int),(0:Int),Ag 3,Am 1 Y X,e,Ag g]]) fun b c=>Kf 1 b fun b e=>Cg .i64 c fun c=>Gt .u64 (call 39 [a]) fun c=>As (decide (0+b*1<=e.length))<|Gt .u64 (call 38 [Am 1 b (List.take (b*1) (e.drop 0)),Ag c]) fun c=>Aw (Z==1) (Dl (call 37 [Ag W,V,(0:Int),Ag c]) fun c f=>Di c fun c=>Br .i64 c fun c g=>VY 1 g fun g h i=>VY 1 i fun i j k=>Ak k<|Cg .i64 f fun f=>As (decide (0+g*1<=h.length))<|As (decide (0+i*1<=j.length))<|Dl (call 40 [.agg [c,Am 1 g (List.take (g*1) (h.drop 0)),Am 1 i (List.take (i*1) (j.drop 0))]]) fun c f=>Kf 1 c fun c g=>Cg .i64 f fun f=>As (decide (0+b*1<=e.length))<|As (decide (0+c*1<=g.length))<|Bk [.agg [(1:Int),a,Am 1 b (List.take (b*1) (e.drop 0)),Am 1 c (List.take (c*1) (g.drop 0)),Am 1 0 [],Z,Am 1 Y X,Bl ⟨#[]⟩]]) (Aw (Z==2) (Dl (call 37 [Ag 33,(4:Int),U,Ag c]) fun c f=>Di c fun c=>Br .i64 c fun c g=>VY 1 g fun g h i=>VY 1 i fun i j k=>Ak k<|Cg .i64 f fun f=>As (decide (0+g*1<=h.length))<|As (decide (0+i*1<=j.length))<|Dl (call 40 [.agg [c,Am 1 g (List.take (g*1) (h.drop 0)),Am 1 i (List.take (i*1) (j.drop 0))]]) fun c f=>Kf 1 c fun c g=>Cg .i64 f fun f=>Dl (call 60 []) fun f h=>Kf 1 f fun f i=>Ak h<|As (decide (0+b*1<=e.length))<|As (decide (0+c*1<=g.length))<|As (decide (0+f*1<=i.length))<|Bk [.agg [(1:Int),a,Am 1 b (List.take (b*1) (e.drop 0)),Am 1 c (List.take (c*1) (g.drop 0)),Am 1 f (List.take (f*1) (i.drop 0)),Z,Am 1 Y X,Bl ⟨#[]⟩]]) (As (decide (0+b*1<=e.length))<|Bk [.agg [(1:Int),a,Am 1 b (List.take (b*1) (e.drop 0)),Am 1 0 [],Am 1 0 [],Z,Am 1 Y X,Bl ⟨#[]⟩]])))) (Ac (CP p) prog fu d):=by kernel_rfl
end
theorem A5m:∀(x:Fin 256)(k:Fin 8),Ew .u8 (x.val:Int) (Eu .u8 1 (k.val:Int))≠(x.val:Int):=by decide +kernel
section
variable {fu d:Nat}
theorem A81{b:Al}(hb:Cz b)(hl:b.length<=1000){n:Int}(h0:0<=n)(h1:n<=1000000):∃r,Cz r/\r.length<=1001/\r≠b/\∀{fu d:Nat},Ac C1 prog fu (d+1) 41 [.lst false 1 b.length (Af .u8 b),Ar n]=some ⟨[.own 1 r.length (Af .u8 r)],[]⟩:=by
 by_cases hz:b.length=0
 ·refine⟨[wrap .u8 n],?_,by simp,?_,fun {fu d}=>(Sc fu d b.length (Af .u8 b) n).trans ?_⟩
  ·intro x hx;simp at hx;subst hx;exact TH n
  ·intro h;rw[<-h] at hz;simp at hz
  ·have b0:((b.length:Int)==0)=true:=by rw[hz];rfl
   simp(disch:=omega)only[Be,Bf,b0];rfl
 have m0:0<=Int.tmod n b.length:=Int.tmod_nonneg _ h0;have m1:Int.tmod n b.length<b.length:=Int.tmod_lt_of_pos _ (by omega);have m2:(Int.tmod n b.length).toNat<b.length:=by generalize Int.tmod n b.length=im at *;omega
 obtain⟨x,hx⟩:∃x,b[(Int.tmod n b.length).toNat]?=some x:=⟨_,List.getElem?_eq_getElem m2⟩
 have hg:=HJ (k:=.u8) hx;have xB:=hb x (List.mem_of_getElem? hx);have ib:=Aen (a:=n) (m:=7) (by omega) (by omega);obtain⟨a7,h7⟩:∃a7,D2 .i64 n 7=a7:=⟨_,rfl⟩
 rw[h7] at ib;have w4:wrap .u64 a7=a7:=Ej;have L:=An .u8 b;obtain⟨v,hv⟩:∃v,Ew .u8 x (Eu .u8 1 a7)=v:=⟨_,rfl⟩
 have hvb:0<=v/\v<=255:=by rw[<-hv];exact TH _
 have hvx:v≠x:=by
  obtain⟨x,rfl⟩:=Int.eq_ofNat_of_zero_le xB.1;obtain⟨a7,rfl⟩:=Int.eq_ofNat_of_zero_le (show 0<=a7 by omega);rw[<-hv];exact A5m ⟨x,by omega⟩ ⟨a7,by omega⟩
 have es:B6 (Af .u8 b) [.sc (.int .u8 v)] (Int.tmod n b.length).toNat=Af .u8 (b.set (Int.tmod n b.length).toNat v):=by
  rw[Id (by rw[L];exact m2)]
  have:=Aji (f:=Ayw .u8) (AF .u8) (p:=.sc (.int .u8 v)) (j:=0) (by omega) hx (y:=v) rfl;rw[J1,ZW] at this;exact this
 have t2:=PL .u8 (b.set (Int.tmod n b.length).toNat v);have l2:(b.set (Int.tmod n b.length).toNat v).length=b.length:=List.length_set;have L2:=An .u8 (b.set (Int.tmod n b.length).toNat v);rw[l2] at t2;refine⟨b.set (Int.tmod n b.length).toNat v,?_,by rw[l2];omega,?_,fun {fu d}=>(Sc fu d b.length (Af .u8 b) n).trans ?_⟩
 ·intro y hy;rcases List.mem_or_eq_of_mem_set hy with hy|hy
  ·exact hb y hy
  ·subst hy;exact hvb
 ·intro h;have:=congrArg (fun l=>l[(Int.tmod n b.length).toNat]?) h;simp only[List.getElem?_set_self m2,hx] at this;exact hvx (Option.some.inj this)
 have b0:((b.length:Int)==0)=false:=beq_eq_false_iff_ne.2 (by omega);rw[l2];generalize Int.tmod n b.length=im at *
 repeat(with_reducible(first|apply Bj|apply Ay|apply Bi|apply Az|apply Bh|apply Hg);· first|constructor|(simp(disch:=omega)only[He,b0,Ie,J1,L,hg,h7,w4,hv,es,L2,t2]<;>first|constructor|omega)|omega)
 try simp(disch:=omega)only[Aa,b0,Ie,J1,L,hg,h7,w4,hv,es,L2,t2]
 all_goals rfl
structure Rq.few(r:Rq):Prop where
 cd:r.cd.size<=60000
 adB:Cz r.ad
 ad:r.ad.length<=1000
 sgB:Cz r.sg
 sg:r.sg.length<=1000
 idB:Cz r.id
 id:r.id.length<=1000
 cn:r.cn=0
 cc:r.cc=[]
theorem Rq.few.ok{r:Rq}(h:r.few):r.ok:=⟨by have:=h.cd;omega,h.adB,by have:=h.ad;omega,h.sgB⟩
end
abbrev otS:ByteArray:=ByteArray.mk #[111,116,104,101,114,46,99,111,109]
theorem Aqp(a b:Al):XE a b=XE b a:=by
 have h:∀x y:List UInt8,(x==y)=(y==x):=fun x y=>by
  rw[Bool.eq_iff_iff,beq_iff_eq,beq_iff_eq];exact eq_comm
 exact h _ _
theorem Ari(k:Ky):(IW k).length=9:=by unfold IW;rw[Tm,Cl]
theorem A89:(E3 9 (Cs otS) != E3 9 (Cs PA))=true:=by decide +kernel
theorem QM{os:List ByteArray}{ch ch' o:Al}{r:Rq}(rk:r.kind=2)(rc:r.cd=asT ch o)(hc:Cz ch)(h1:1<=ch.length)(h2:ch.length<=64)(XX:o.length<=100)(hO:E0 o=0):Zg os 2 ch' r=bif !XE ch ch' then 35 else bif !inO os (Ab o) then 34 else 0:=by unfold Zg;rw[rk,rc,YK hc h1 h2 XX hO];rfl
theorem YR(c:Cf)(m:Mt)(s:Sd)(ch:Al)(r:Rq):I3 c m s ch 5 r=bif Zg c.os 2 ch r != 0 then (sd0,Zg c.os 2 ch r) else bif !XE r.id s.id then (sd0,36) else match Zr r.ad with|none=>(sd0,2)|some a=>ZO c m s 5 r a:=by have a1:decide ((5:Int)<0)=false:=rfl;have a2:decide ((5:Int)>1099511627776)=false:=rfl;unfold I3;rw[a1,a2];rfl
theorem Awz(id:Al)(R:Int){leaf:Int}(l0:0<=leaf)(l1:leaf<4):(Ok ⟨id,2,R,0,0,false,0,[],false,1,1⟩ leaf 0 5).2=0:=by rcases (by omega:leaf=0\/leaf=1\/leaf=2\/leaf=3) with rfl|rfl|rfl|rfl<;>kernel_rfl
theorem Aw0{l:Al}(h:∀n∈l,(Lit.int .u8 n).wf=true):Cz l:=fun x hx=>A08 (h x hx)
theorem A3c(seed:Int)(id:Al):∃R,QG seed 2 id false 0=⟨id,2,R,0,0,false,0,[],false,1,1⟩/\(⟨2,R⟩:Ky)=Ts seed 2:=by
 obtain⟨R,hR⟩:∃R,(Ts seed 2).root=R:=⟨_,rfl⟩
 refine⟨R,?_,?_⟩
 ·unfold QG;rw[MM (by decide),hR]
 ·have:=MM (seed:=seed) (h:=2) (by decide);rw[<-hR];generalize Ts seed 2=K at this;obtain⟨x,y⟩:=K;simp only at this;rw[this]
theorem Bma{seed:Int}{id b o:Al}(hb:Cz b)(h1:1<=b.length)(h2:b.length<=64)(XX:o.length<=100)(hO:E0 o=0){q:Int}(q0:0<=q)(q1:q<4)(us:ByteArray):(I3 (CR Hy 5) WD (QG seed 2 id false 0) b 5 (Oc seed 2 id false PA o b true q 0 us)).2=bif inO [GU,olS] (Ab o) then 0 else 34:=by
 cases Rs:inO [GU,olS] (Ab o)
 ·have cl:=QM (os:=[GU,olS]) (ch':=b) (r:=Oc seed 2 id false PA o b true q 0 us) rfl rfl hb h1 h2 XX hO;rw[Si,Rs] at cl;have cl:Zg (CR Hy 5).os 2 b (Oc seed 2 id false PA o b true q 0 us)=34:=cl;rw[YR,cl];rfl
 ·obtain⟨R,hS,hk⟩:=A3c seed id;have v:=Acs (c:=CR Hy 5) (m:=WD) (s:=QG seed 2 id false 0) (seed:=seed) (h:=2) (sh:=false) (o:=o) (ch:=b) (vf:=true) (leaf:=q) (f:=0) (now:=5) (us:=us) (by decide) (by decide) hb h1 h2 XX hO (by decide) (by rcases (by omega:q=0\/q=1\/q=2\/q=3) with rfl|rfl|rfl|rfl<;>decide) q0 (by omega) (by decide) (by decide) (by rw[hS];exact hk) Rs
  have i0:(QG seed 2 id false 0).id=id:=rfl;have a:=Awz id R q0 q1;have sh0:(QG seed 2 id false 0).sh=false:=rfl;have mo0:(QG seed 2 id false 0).model=0:=rfl;rw[i0,sh0,mo0,show (CR Hy 5).p=Hy from rfl,show (CR Hy 5).rp=PA from rfl,RJ,hS] at v;rw[hS,v];have z0:((0:Int) != 0)=false:=rfl;rw[a];simp only[z0,cond_false,cond_true];exact a
theorem Bkk{seed:Int}{s:Sd}{id b o oth:Al}(hb:Cz b)(h1:1<=b.length)(h2:b.length<=64)(XX:o.length<=100)(hO:E0 o=0)(q:Int)(us:ByteArray)(h:XE b oth=false):(I3 (CR Hy 5) WD s oth 5 (Oc seed 2 id false PA o b true q 0 us)).2=35:=by have cl:=QM (os:=[GU,olS]) (ch':=oth) (r:=Oc seed 2 id false PA o b true q 0 us) rfl rfl hb h1 h2 XX hO;rw[h] at cl;have cl:Zg (CR Hy 5).os 2 oth (Oc seed 2 id false PA o b true q 0 us)=35:=cl;rw[YR,cl];rfl
theorem Bm7{seed:Int}{s:Sd}{id b o:Al}(hb:Cz b)(h1:1<=b.length)(h2:b.length<=64)(XX:o.length<=100)(hO:E0 o=0)(q:Int)(us:ByteArray)(hi:Cz id)(hs:Cz s.id)(h:s.id≠id):((I3 (CR Hy 5) WD s b 5 (Oc seed 2 id false PA o b true q 0 us)).2 != 0)=true:=by
 have cl:=QM (os:=[GU,olS]) (ch':=b) (r:=Oc seed 2 id false PA o b true q 0 us) rfl rfl hb h1 h2 XX hO;rw[Si] at cl
 have ne:XE id s.id=false:=by
  cases hq:XE id s.id
  ·rfl
  ·exact absurd ((Ayr hi hs).1 hq).symm h
 have ne:XE (Oc seed 2 id false PA o b true q 0 us).id s.id=false:=ne;cases Rs:inO [GU,olS] (Ab o)
 ·rw[Rs] at cl;have cl:Zg (CR Hy 5).os 2 b (Oc seed 2 id false PA o b true q 0 us)=34:=cl;rw[YR,cl];rfl
 ·rw[Rs] at cl;have cl:Zg (CR Hy 5).os 2 b (Oc seed 2 id false PA o b true q 0 us)=0:=cl;rw[YR,cl,ne];rfl
theorem Bin{seed:Int}{id b o:Al}(hb:Cz b)(h1:1<=b.length)(h2:b.length<=64)(XX:o.length<=100)(hO:E0 o=0)(Rs:inO [GU,olS] (Ab o)=true){q:Int}(q0:0<=q)(q1:q<4)(us:ByteArray):(I3 (CR Hy 5) WD (QG seed 2 id false 0) b 5 (Oc seed 2 id false otS o b true q 0 us)).2=34:=by
 have cl:=QM (os:=[GU,olS]) (ch':=b) (r:=Oc seed 2 id false otS o b true q 0 us) rfl rfl hb h1 h2 XX hO;rw[Si,Rs] at cl;have cl:Zg (CR Hy 5).os 2 b (Oc seed 2 id false otS o b true q 0 us)=0:=cl;have ie:XE (Oc seed 2 id false otS o b true q 0 us).id (QG seed 2 id false 0).id=true:=Si _;obtain⟨_,da⟩:=XS (rp:=otS) (sh:=false) (vf:=true) (leaf:=q) (f:=0) q0 (by omega) (by decide) (by decide);have da:Zr (Oc seed 2 id false otS o b true q 0 us).ad=some (Z4 otS false true q 0):=da;rw[YR,cl,ie,da]
 have f6:(D2 .i64 (Z4 otS false true q 0).fl 64 != 0)=false:=by
  show (D2 .i64 (Kg false true) 64 != 0)=false;rw[QN];rfl
 have rp:((Z4 otS false true q 0).rp != E3 9 (Cs (CR Hy 5).rp))=true:=A89;have z0:((0:Int) != 0)=false:=rfl;simp only[z0,cond_false,Fl];unfold ZO;rw[f6,rp];rfl
theorem Bjp{s:Sd}{b:Al}{r:Rq}(h:r.kind=1):(I3 (CR Hy 5) WD s b 5 r).2=3:=by
 have cl:Zg (CR Hy 5).os 2 b r=3:=by
  unfold Zg;rw[h];rfl
 rw[YR,cl];rfl
section
variable {fu d:Nat}
theorem otX(v:Int):∃s:ByteArray,s.size<=40/\E0 (Cs s)=0/\∀{fu d:Nat},Ac C1 prog fu (d+2) 15 [Ar v]=some ⟨[Bl s],[]⟩:=by
 obtain⟨r,h0,h1,hm⟩:=A2p v 6 (by omega) (by omega);have e:=fun {fu d:Nat}=>Vo (p:=some N8) fu (d+1) v;have a1:=dT (q:=(0:Int)<=r) h0;have a2:=dT (q:=r<6) h1;simp only[Be,Bf,hm,a1,a2] at e;rcases (by omega:r=0\/r=1\/r=2\/r=3\/r=4\/r=5) with rfl|rfl|rfl|rfl|rfl|rfl
 all_goals exact⟨_,by decide,by decide +kernel,fun {fu d}=>e.trans rfl⟩
theorem Bbr{b:Al}(hb:Cz b)(hl:b.length<=1000)(n:Int):∃r,Cz r/\r.length<=1001/\r≠b/\∀{fu d:Nat},Ac C1 prog fu (d+2) 17 [.lst false 1 b.length (Af .u8 b),Ar n]=some ⟨[.own 1 r.length (Af .u8 r)],[]⟩:=by obtain⟨v,v0,v1,md⟩:=A2p n 4096 (by omega) (by omega);obtain⟨r,r1,r2,r3,fl⟩:=A81 hb hl v0 (by omega);refine⟨r,r1,r2,r3,fun {fu d}=>(GV fu (d+1) b.length (Af .u8 b) n).trans ?_⟩;have md:=md (fu:=fu) (d:=d) (p:=some N8);have fl:=fl (fu:=fu) (d:=d);have L:=An .u8 r;have c:decide (r.length*1<=List.length (Af .u8 r))=true:=dT (by omega);have t:List.take (r.length*1) (Af .u8 r)=Af .u8 r:=Hz (by omega);simp only[Be,Bf,md,fl,c,t]
set_option maxHeartbeats 2000000 in
theorem A33(B2:1000<=fu)(rp root:Int){id:Al}(hib:Cz id)(QA:id.length=176):∃bs,Cz bs/\bs.length=204/\Ac C1 prog fu (d+4) 34 [.agg [Ag rp,Ar 69,Ar 0,Ar 0,Ag 3,.lst false 1 176 (Af .u8 id),Ar 2,Ag root]]=some ⟨[.own 1 204 (Af .u8 bs),Ar 0],[]⟩:=by
 refine⟨Bu rp++[69,0,0]++Bu 3++id++IW ⟨2,root⟩,?_,?_,?_⟩
 ·refine Yf (Yf (Yf (Yf (Uh _) ?_) (Uh _)) hib) (fun x hx=>A2x x hx);intro x hx;simp only[Ch,Zp,or_false] at hx;omega
 ·simp only[Wy,Cl,QA,Ari,Tm,WG]
 refine (J8 fu (d+3) rp 69 0 0 3 176 (Af .u8 id) 2 root).trans ?_;have vd:=ZL (fu:=fu) (d:=d) B2 ⟨rp,69,0,0,3,176,Af .u8 id,2,root⟩;have v0:vE ⟨rp,69,0,0,3,176,Af .u8 id,2,root⟩=0:=by kernel_rfl
 rw[v0] at vd;simp only[Y7.cells] at vd;have e00:((0:Int) != 0)=false:=rfl;have ek:=TW (fu:=fu) (d:=d+1) B2 ⟨2,root⟩;rw[B3 (show ¬E2 2=true by decide)] at ek;simp only[Ky.cells] at ek;have o1:=Ane (fu:=fu) (d:=d+2) B2 rp;have o2:=Ane (fu:=fu) (d:=d+2) B2 3;have f3:(D2 .i64 69 64 != 0)=true:=by decide
 have u1:wrap .u8 69=69:=by decide
 have u2:wrap .u8 0=0:=by decide
 have l1:(Af .u8 (Bu rp)).length=8:=by rw[An,Cl]
 have l2:(Af .u8 (Bu 3)).length=8:=by rw[An,Cl]
 have l3:(Af .u8 id).length=176:=by rw[An,QA]
 have l4:(Af .u8 (IW ⟨2,root⟩)).length=9:=by rw[An,Ari]
 have t1:List.take 8 (Af .u8 (Bu rp))=Af .u8 (Bu rp):=Hz (by omega);have t2:List.take 8 (Af .u8 (Bu 3))=Af .u8 (Bu 3):=Hz (by omega);have t4:List.take 9 (Af .u8 (IW ⟨2,root⟩))=Af .u8 (IW ⟨2,root⟩):=Hz (by omega);have E:Af .u8 (Bu rp++[69,0,0]++Bu 3++id++IW ⟨2,root⟩)=Af .u8 (Bu rp)++[.sc (.int .u8 69),.sc (.int .u8 0),.sc (.int .u8 0)]++Af .u8 (Bu 3)++Af .u8 id++Af .u8 (IW ⟨2,root⟩):=by simp[Af,List.flatMap_append]
 rw[E];generalize Af .u8 (Bu rp)=x1 at *
 generalize Af .u8 (Bu 3)=x2 at *
 generalize Af .u8 id=x3 at *
 generalize Af .u8 (IW ⟨2,root⟩)=x4 at *
 have T1:List.take 11 (x1++[PV.sc (.int .u8 69),.sc (.int .u8 0),.sc (.int .u8 0)])=x1++[PV.sc (.int .u8 69),.sc (.int .u8 0),.sc (.int .u8 0)]:=Hz (by simp;omega)
 have T2:List.take 19 (x1++[PV.sc (.int .u8 69),.sc (.int .u8 0),.sc (.int .u8 0)]++x2)=x1++[PV.sc (.int .u8 69),.sc (.int .u8 0),.sc (.int .u8 0)]++x2:=Hz (by simp;omega)
 have T3:List.take 195 (x1++[PV.sc (.int .u8 69),.sc (.int .u8 0),.sc (.int .u8 0)]++x2++x3)=x1++[PV.sc (.int .u8 69),.sc (.int .u8 0),.sc (.int .u8 0)]++x2++x3:=Hz (by simp;omega)
 have T4:List.take 204 (x1++[PV.sc (.int .u8 69),.sc (.int .u8 0),.sc (.int .u8 0)]++x2++x3++x4)=x1++[PV.sc (.int .u8 69),.sc (.int .u8 0),.sc (.int .u8 0)]++x2++x3++x4:=Hz (by simp;omega)
 have L1:(x1++[PV.sc (.int .u8 69),.sc (.int .u8 0),.sc (.int .u8 0)]).length=11:=by simp;omega
 have L2:(x1++[PV.sc (.int .u8 69),.sc (.int .u8 0),.sc (.int .u8 0)]++x2).length=19:=by simp;omega
 have L3:(x1++[PV.sc (.int .u8 69),.sc (.int .u8 0),.sc (.int .u8 0)]++x2++x3).length=195:=by simp;omega
 have L4:(x1++[PV.sc (.int .u8 69),.sc (.int .u8 0),.sc (.int .u8 0)]++x2++x3++x4).length=204:=by simp;omega
 repeat(with_reducible(first|apply Bj|apply Ay|apply Bi|apply Ba|apply Bm|apply TY|apply Ar3|apply Kl|apply Fb|apply Az|apply Bh|apply Hg);· first|constructor|(simp(disch:=omega)only[He,vd,e00,o1,u1,u2,l1,t1,J1,Nat.reduceAdd,Nat.reduceMul,f3,ek,o2,Ie,Me,l2,t2,L1,T1,L2,T2,l3,L3,T3,l4,t4,L4,T4]<;>first|constructor|omega)|omega)
 try simp(disch:=omega)only[Aa,vd,e00,o1,u1,u2,l1,t1,J1,Nat.reduceAdd,Nat.reduceMul,f3,ek,o2,Ie,Me,l2,t2,L1,T1,L2,T2,l3,L3,T3,l4,t4,L4,T4]
 all_goals rfl
theorem Apk{ch o:Al}(ho:o.length<=50000):(Ab (match Zx 1 ch o [] false with | .ok s=>s | .error _=>[])).size<=60000:=by
 rw[Ai];cases h:Zx 1 ch o [] false with
 |error e=>simp
 |ok s=>
  simp only;unfold Zx at h;have ty:tyS 1=some tyC:=rfl;rw[ty] at h;simp only at h;split at h
  ·cases h
  split at h
  ·cases h
  simp only[if_true] at h;cases h;have hel:=ID ch;rename_i hc _;simp only[fmH,PI,UL,fA3,fA4,tyC,Wy,Tm,WG];omega
set_option maxHeartbeats 2000000 in
theorem Bh2(B2:1000400<=fu){seed:Int}{id ch:Al}(hib:Cz id)(QA:id.length=176)(OW:Cz ch)(hc:ch.length<=100):∃r:Rq,r.ok/\r.kind=1/\Ac C1 prog fu (d+14) 28 [.agg [Ag seed,Ar 2,.lst false 1 176 (Af .u8 id),De false],Bl PA,Bl GU,.lst false 1 ch.length (Af .u8 ch),Ar 0,De true,Ar 0]=some ⟨[.agg r.cells],[]⟩:=by
 have fm:Ac C1 prog fu (d+13) 33 [cdA 1 ch (Cs GU) [] false]=some (Auz (Zx 1 ch (Cs GU) [] false)):=YQ (fu:=fu) (d:=d+7) (p:=some N8) OW (Va _) (fun x hx=>nomatch hx) (by omega) (by rw[Ca];decide) (by simp) (by omega) (by omega) (by rw[Ca,show GU.size=19 from by decide];omega) (by simp;omega)
 obtain⟨T,hT⟩:∃T,Ab (match Zx 1 ch (Cs GU) [] false with | .ok s=>s | .error _=>[])=T:=⟨_,rfl⟩
 obtain⟨fe,fm⟩:∃fe,Ac C1 prog fu (d+13) 33 [.agg [Ar 1,.lst false 1 ch.length (Af .u8 ch),Bl GU,De false,Bl ⟨#[]⟩]]=some ⟨[Bl T,Ar fe],[]⟩:=by
  have cd:cdA 1 ch (Cs GU) [] false=.agg [Ar 1,.lst false 1 ch.length (Af .u8 ch),Bl (Ab (Cs GU)),De false,Bl ⟨#[]⟩]:=rfl;rw[cd,Es] at fm;cases hq:Zx 1 ch (Cs GU) [] false with
  |ok s=>rw[hq] at fm hT;exact⟨0,by rw[<-hT];exact fm⟩
  |error e=>rw[hq] at fm hT;exact⟨e,by rw[<-hT];exact fm⟩
 have hTs:T.size<=60000:=by rw[<-hT];exact Apk (by rw[Ca];decide)
 clear hT;have hr:=Avq (fu:=fu) (d:=d+8) (s:=PA) (by decide) B2;have fl:=Afk (fu:=fu) (d:=d+12) seed 2 176 (Af .u8 id) false true;have ky:=Ahn (fu:=fu) (d:=d) (by omega) seed 2;have k2:=MM (seed:=seed) (h:=2) (by decide);simp only[Ky.cells] at ky;rw[k2] at ky;obtain⟨bs,b1,b2,en⟩:=A33 (fu:=fu) (d:=d+9) (by omega) (E3 9 (Cs PA)) (Ts seed 2).root hib QA;have hd:=YL (fu:=fu) (d:=d+8) (s:=T) (by omega) B2;have ms:=Ame (fu:=fu) (d:=d+8) b1 (by omega) B2 (E3 11 (Cs T));rw[b2] at ms;have Lb:=An .u8 bs;have c1:decide (0+204*1<=List.length (Af .u8 bs))=true:=dT (by omega);have t1:List.take (204*1) (List.drop 0 (Af .u8 bs))=Af .u8 bs:=Hz (by rw[Me];omega)
 have io:Xr .i64 (Kg false true) 64=69:=by decide
 have z1:((0:Int)==1)=false:=rfl;have z2:((0:Int)==2)=false:=rfl;refine⟨⟨1,T,bs,[],0,[],0,id,ByteArray.mk #[]⟩,⟨by simp only;omega,b1,by simp only;omega,fun x hx=>nomatch hx⟩,rfl,(Ri fu (d+13) seed 2 176 (Af .u8 id) false PA GU ch.length (Af .u8 ch) 0 true 0).trans ?_⟩
 simp only[Be,Bf,fm,hr,fl,io,ky,z1,z2,en,hd,c1,t1,ms];simp only[Rq.cells,b2,QA];rfl
set_option maxHeartbeats 8000000 in
theorem Au2(B2:1000400<=fu){n at_ lf:Int}{b oth:Al}(hbB:Cz b)(h1:1<=b.length)(h2:b.length<=64){seed:Int}{id:Al}(hib:Cz id)(QA:id.length=176)(l0:0<=lf)(l1:lf<=255){g:Int}(hg:(g != 0)=true):
  Ez fu (Ac C1 prog fu (d+27)) n b.length (Af .u8 b) oth.length (Af .u8 oth) at_ lf fu b.length (Af .u8 b) lf g seed 2 176 false (Af .u8 id)=some ⟨[De true],[]⟩:=by
 have Li:=An .u8 id;have c1:decide (0+176*1<=List.length (Af .u8 id))=true:=dT (by omega);have t1:List.take (176*1) (List.drop 0 (Af .u8 id))=Af .u8 id:=Hz (by rw[Me];omega)
 have cf:=DL (fu:=fu) (d:=d+12) (by omega);have so:=CI (fu:=fu) (d:=d+13) (by omega) seed 2 id false 0;rw[QA] at so;have sok:=Aa3 (seed:=seed) (h:=2) hib QA false 0;have m0:WD.cells=[Ar 0,Ar 0,Ar 0,.lst false 3 0 [],Ar 0,.lst false 1 0 [],.lst false 1 0 []]:=rfl;have cok:=SZ (p:=Hy) (by decide) 5;have q0:0<=Int.tmod lf 4:=Int.tmod_nonneg _ l0;have q1:Int.tmod lf 4<4:=Int.tmod_lt_of_pos _ (by omega);obtain⟨q,hq⟩:∃q,Int.tmod lf 4=q:=⟨_,rfl⟩
 rw[hq] at q0 q1;have w:wrap .i64 q=q:=Bn;have asr:=MX (fu:=fu) (d:=d+14) B2 (seed:=seed) (h:=2) (id:=id) (sh:=false) (rp:=otS) (o:=Cs GU) (ch:=b) (vf:=true) (leaf:=q) (f:=0) (us:=ByteArray.mk #[]) (by decide) (Va _) (by rw[Ca];decide) hbB (by omega)
 rw[Es,QA] at asr;have A4:=Bin (seed:=seed) (id:=id) (o:=Cs GU) hbB h1 h2 (by rw[Ca];decide) Aax (by rw[Es];decide) q0 q1 (ByteArray.mk #[])
 have rok:(Oc seed 2 id false otS (Cs GU) b true q 0 (ByteArray.mk #[])).ok:=Abh (by rw[Ca];decide)
 generalize Oc seed 2 id false otS (Cs GU) b true q 0 (ByteArray.mk #[])=y at asr A4 rok;have p4:=K7 (fu:=fu) (d:=d+18) B2 cok FL sok b 5 rok;rw[A4,m0] at p4;obtain⟨z,zok,zk,re⟩:=Bh2 (fu:=fu) (d:=d+13) B2 (seed:=seed) hib QA hbB (by omega);have A5:=Bjp (s:=QG seed 2 id false 0) (b:=b) zk;have p5:=K7 (fu:=fu) (d:=d+18) B2 cok FL sok b 5 zok;rw[A5,m0] at p5;have aw:=Afy (fu:=fu) (d:=d) B2;generalize (I3 (CR Hy 5) WD (QG seed 2 id false 0) b 5 y).1=Y at p4;generalize (I3 (CR Hy 5) WD (QG seed 2 id false 0) b 5 z).1=Z at p5;clear A4 A5;generalize QG seed 2 id false 0=S at so p4 p5;generalize CR Hy 5=c at cf p4 p5;simp only[Cf.cells,Sd.cells,Rq.cells] at asr cf so p4 p5 re;have z34:((34:Int)==34)=true:=rfl;have z3:((3:Int)==3)=true:=rfl;rw[Qg (Gc:=by omega)];simp only[Be,Bf,hq,w,c1,t1,asr]
 rw[P4 (Gc:=by omega)];simp only[Be,Bf,cf,c1,t1,so,p4];rw[Pi (Gc:=by omega)];simp only[Be,Bf,c1,t1,re];rw[O7 (Gc:=by omega)];simp only[Be,Bf,cf,c1,t1,so,p5];rw[P3 (Gc:=by omega)];simp only[Be,Bf,hg,z34,z3,aw]
set_option maxHeartbeats 8000000 in
theorem As1(B2:1000400<=fu){n at_ lf:Int}{b oth:Al}(hbB:Cz b)(h1:1<=b.length)(h2:b.length<=64){seed:Int}{id:Al}(hib:Cz id)(QA:id.length=176)(l0:0<=lf)(l1:lf<=255){F:Int}(hF:XE oth b=false->F=35){r:Rq}(rok:r.ok)(hr:∀s:Sd,Cz s.id->s.id≠id->((I3 (CR Hy 5) WD s b 5 r).2 != 0)=true):
  D6 fu (Ac C1 prog fu (d+27)) n b.length (Af .u8 b) oth.length (Af .u8 oth) at_ lf fu n b.length (Af .u8 b) oth.length (Af .u8 oth) lf F seed 2 176 false (Af .u8 id) r.kind r.cd r.ad.length (Af .u8 r.ad) r.sg.length (Af .u8 r.sg) r.cn r.cc r.fm r.id.length (Af .u8 r.id) r.us=some ⟨[De true],[]⟩:=by
 have Li:=An .u8 id;have c1:decide (0+176*1<=List.length (Af .u8 id))=true:=dT (by omega);have t1:List.take (176*1) (List.drop 0 (Af .u8 id))=Af .u8 id:=Hz (by rw[Me];omega)
 have cf:=DL (fu:=fu) (d:=d+12) (by omega);have so:=CI (fu:=fu) (d:=d+13) (by omega) seed 2 id false 0;rw[QA] at so;have sok:=Aa3 (seed:=seed) (h:=2) hib QA false 0;have m0:WD.cells=[Ar 0,Ar 0,Ar 0,.lst false 3 0 [],Ar 0,.lst false 1 0 [],.lst false 1 0 []]:=rfl;have cok:=SZ (p:=Hy) (by decide) 5;obtain⟨fl,f1,f2,f3,fx⟩:=Bbr hib (by omega) n;have fx:=fx (fu:=fu) (d:=d+25);rw[QA] at fx;have i0:(QG seed 2 id false 0).id=id:=rfl;have s2:({ QG seed 2 id false 0 with id:=fl }:Sd).ok:=⟨f1,by show fl.length<=_;omega,sok.u0,sok.u1,sok.asc,sok.rgn⟩
 have p3:=K7 (fu:=fu) (d:=d+18) B2 cok FL s2 b 5 rok;have G:=hr _ (show Cz ({ QG seed 2 id false 0 with id:=fl }:Sd).id from f1) f3;rw[m0] at p3;have tail:=fun (g:Int) (hg:(g != 0)=true)=>Au2 (fu:=fu) (d:=d) B2 (n:=n) (at_:=at_) (oth:=oth) hbB h1 h2 (seed:=seed) hib QA l0 l1 hg;generalize I3 (CR Hy 5) WD { QG seed 2 id false 0 with id:=fl } b 5 r=Z at p3 G;have tail:=tail _ G;generalize CR Hy 5=c at cf p3;simp only[Cf.cells,Sd.cells,Rq.cells] at cf so p3;have Lf:=An .u8 fl;have c3:decide (0+fl.length*1<=List.length (Af .u8 fl))=true:=dT (by omega);have t3:List.take (fl.length*1) (List.drop 0 (Af .u8 fl))=Af .u8 fl:=Hz (by rw[Me];omega)
 rw[i0,QA] at so;have k1:decide (List.length (Af .u8 oth)=oth.length)=true:=dT (An _ _);have k2:decide (List.length (Af .u8 b)=b.length)=true:=dT (An _ _);have bo:=Pn oth;have bb:=Pn b;have be:=Al5 oth b;rw[O5 (Gc:=by omega)];cases he:XE oth b
 ·rw[he] at be;have F35:(F != 35)=false:=by rw[hF he];rfl
  simp only[Be,Bf,k1,k2,bo,bb,be,F35,c1,t1,so,fx,cf,c3,t3,p3];exact tail
 ·rw[he] at be;simp only[Be,Bf,k1,k2,bo,bb,be,c1,t1,so,fx,cf,c3,t3,p3];exact tail
set_option maxHeartbeats 8000000 in
theorem Ap8(B2:1000400<=fu)(n at_:Int){lf:Int}{b oth:Al}(hbB:Cz b)(l0:0<=lf)(l1:lf<=255):
  Ac C1 prog fu (d+28) 6 [Ar n,.lst false 1 b.length (Af .u8 b),.lst false 1 oth.length (Af .u8 oth),Ar at_,.sc (.int .u8 lf)]=some ⟨[De true],[]⟩:=by
 refine (Sh fu (d+27) n b.length (Af .u8 b) oth.length (Af .u8 oth) at_ lf).trans ?_;have aw:=Afy (fu:=fu) (d:=d) B2;by_cases g1:b.length<1
 ·have a1:=dT (q:=((b.length:Nat):Int)<1) (by omega);simp only[Be,Bf,a1,aw]
 have a1:=dF (q:=((b.length:Nat):Int)<1) (by omega);by_cases g2:64<b.length
 ·have a2:=dT (q:=((b.length:Nat):Int)>64) (by omega);simp only[Be,Bf,a1,a2,aw]
 have a2:=dF (q:=((b.length:Nat):Int)>64) (by omega);by_cases g3:100<oth.length
 ·have a3:=dT (q:=((oth.length:Nat):Int)>100) (by omega);simp only[Be,Bf,a1,a2,a3,aw]
 have a3:=dF (q:=((oth.length:Nat):Int)>100) (by omega);obtain⟨v,v0,v1,md⟩:=A2p n 20 (by omega) (by omega);have md:=md (fu:=fu) (d:=d+26) (p:=some N8);obtain⟨id,hib,QA,cr⟩:=A0m (fu:=fu) (d:=d+20) (by omega) v 2 false;obtain⟨seed,hs⟩:∃s,wrap .u64 (1000+wrap .u64 v)=s:=⟨_,rfl⟩
 rw[hs] at cr;obtain⟨o,os,oO,ot⟩:=otX at_;have ot:=ot (fu:=fu) (d:=d+25);have q0:0<=Int.tmod lf 4:=Int.tmod_nonneg _ l0;have q1:Int.tmod lf 4<4:=Int.tmod_lt_of_pos _ (by omega);obtain⟨q,hq⟩:∃q,Int.tmod lf 4=q:=⟨_,rfl⟩
 rw[hq] at q0 q1;have w:wrap .i64 q=q:=Bn;have asr:=MX (fu:=fu) (d:=d+14) B2 (seed:=seed) (h:=2) (id:=id) (sh:=false) (rp:=PA) (o:=Cs o) (ch:=b) (vf:=true) (leaf:=q) (f:=0) (us:=ByteArray.mk #[]) (by decide) (Va _) (by rw[Ca];omega) hbB (by omega)
 rw[Es,QA] at asr;have ol:(Cs o).length<=100:=by rw[Ca];omega
 have A1:=Bma (seed:=seed) (id:=id) (o:=Cs o) hbB (by omega) (by omega) ol oO q0 q1 (ByteArray.mk #[]);rw[Es] at A1;have A2:=fun h=>Bkk (seed:=seed) (s:=QG seed 2 id false 0) (id:=id) (o:=Cs o) (oth:=oth) hbB (by omega) (by omega) ol oO q (ByteArray.mk #[]) h;have A3:=fun (s:Sd) (hs:Cz s.id) (h:s.id≠id)=>Bm7 (seed:=seed) (s:=s) (id:=id) (o:=Cs o) hbB (by omega) (by omega) ol oO q (ByteArray.mk #[]) hib hs h;have rok:(Oc seed 2 id false PA (Cs o) b true q 0 (ByteArray.mk #[])).ok:=Abh (by omega);generalize Oc seed 2 id false PA (Cs o) b true q 0 (ByteArray.mk #[])=r at asr A1 A2 A3 rok;have Li:=An .u8 id;have c1:decide (0+176*1<=List.length (Af .u8 id))=true:=dT (by omega);have t1:List.take (176*1) (List.drop 0 (Af .u8 id))=Af .u8 id:=Hz (by rw[Me];omega)
 have cf:=DL (fu:=fu) (d:=d+12) (by omega);have so:=CI (fu:=fu) (d:=d+13) (by omega) seed 2 id false 0;rw[QA] at so;have sok:=Aa3 (seed:=seed) (h:=2) hib QA false 0;have m0:WD.cells=[Ar 0,Ar 0,Ar 0,.lst false 3 0 [],Ar 0,.lst false 1 0 [],.lst false 1 0 []]:=rfl;have cok:=SZ (p:=Hy) (by decide) 5;have p1:=K7 (fu:=fu) (d:=d+18) B2 cok FL sok b 5 rok;have p2:=K7 (fu:=fu) (d:=d+18) B2 cok FL sok oth 5 rok;rw[m0] at p1 p2;generalize I3 (CR Hy 5) WD (QG seed 2 id false 0) b 5 r=Z1 at p1 A1;generalize I3 (CR Hy 5) WD (QG seed 2 id false 0) oth 5 r=Z2 at p2 A2;have tail:=As1 (fu:=fu) (d:=d) B2 (n:=n) (at_:=at_) (oth:=oth) hbB (by omega) (by omega) (seed:=seed) hib QA l0 l1 (F:=Z2.2) (fun h=>A2 (by rw[Aqp];exact h)) rok A3
 clear A3;generalize QG seed 2 id false 0=S at so p1 p2;generalize hc:CR Hy 5=c at cf p1 p2;clear hc;simp only[Cf.cells,Sd.cells,Rq.cells] at asr cf so p1 p2;have Lb:=An .u8 b;simp only[Be,Bf,a1,a2,a3,md,cr,ot,hq,w,c1,t1,asr];rw[Pp (Gc:=by omega)];simp only[Be,Bf,cf,c1,t1,so,p1];rw[Pc (Gc:=by omega)];have n1:(!((0:Int)==0)==true)=false:=rfl;have n2:(!((34:Int)==0)==false)=false:=rfl;have n3:((34:Int) != 34)=false:=rfl;have io:inO [GU,olS] o=((Array.toList (ByteArray.data o)==Array.toList (ByteArray.data GU))||((Array.toList (ByteArray.data o)==Array.toList (ByteArray.data olS))||false)):=rfl;rw[io] at A1;cases b1:Array.toList (ByteArray.data o)==Array.toList (ByteArray.data GU)
 ·cases b2:Array.toList (ByteArray.data o)==Array.toList (ByteArray.data olS)
  ·rw[b1,b2] at A1;have A1:Z1.2=34:=A1;simp only[Be,Bf,b1,b2,A1,n2,n3,Gw,cf,c1,t1,so,p2];exact tail
  ·rw[b1,b2] at A1;have A1:Z1.2=0:=A1;simp only[Be,Bf,b1,b2,A1,n1,Fl,cf,c1,t1,so,p2];exact tail
 ·rw[b1] at A1;have A1:Z1.2=0:=A1;simp only[Be,Bf,b1,A1,n1,cf,c1,t1,so,p2];exact tail
end
theorem signinBinds_plain(qs:Ae)(h:Bx (WTv prog) [3,35,35,3,5] qs):∃fu d,Ac C1 prog fu d 6 qs=some ⟨[De true],[]⟩:=by obtain⟨q0,_,rfl,h0,g⟩:=h.cons_inv;obtain⟨q1,_,rfl,h1,g⟩:=g.cons_inv;obtain⟨q2,_,rfl,h2,g⟩:=g.cons_inv;obtain⟨q3,_,rfl,h3,g⟩:=g.cons_inv;obtain⟨q4,_,rfl,h4,g⟩:=g.cons_inv;obtain rfl:=g.nil_inv;clear h g;obtain⟨n,rfl,_⟩:=Aav (k:=.i64) (by kernel_rfl) (by kernel_rfl) h0;obtain⟨b,rfl,Tl,hbB⟩:=Afu (k:=.u8) (e:=5) (by kernel_rfl) (by kernel_rfl) (by kernel_rfl) (by kernel_rfl) h1;obtain⟨oth,rfl,_,_⟩:=Afu (k:=.u8) (e:=5) (by kernel_rfl) (by kernel_rfl) (by kernel_rfl) (by kernel_rfl) h2;obtain⟨at_,rfl,_⟩:=Aav (k:=.i64) (by kernel_rfl) (by kernel_rfl) h3;obtain⟨lf,rfl,hw⟩:=Aav (k:=.u8) (by kernel_rfl) (by kernel_rfl) h4;have lb:=A08 hw;exact⟨1000400,28,Ap8 (d:=0) (by omega) n at_ (Aw0 hbB) lb.1 lb.2⟩
end
end Go.Proofs.YtohcncipgljdkaaGreatDoor.Pv
