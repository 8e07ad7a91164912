/-
  The proof of SigninSigned, part 7.
-/
import Derived.Test.YtohcncipgljdkaaGreatDoorGF
import Derived.Test.YtohcncipgljdkaaGreatDoorRows
set_option linter.unusedSimpArgs false
set_option linter.unusedVariables false
namespace Go.Proofs.YtohcncipgljdkaaGreatDoor.Pv
open Go.IntKind (wrap)
open Go.Proofs.Tryz (prog)
set_option maxRecDepth 1000000
noncomputable section
section
variable {xs:FuncId->Option (Ae->Option Bq)}(fu d:Nat)(call:Ap)
def Gi(Z:Nat)(Y:Ae)(X:ByteArray)(W V:Nat)(U:Ae)(T:ByteArray)(S Q:Int):Option Bq:=Kj fu call 127 Tryz.f127 [Am 1 Z Y,X] [.r,.l,.r,.l] W ⟨lk [(0,Am 1 V U),(1,T),(7,S),(8,Q)],Ct []⟩
theorem Ld(U:Nat)(T:Ae)(S:ByteArray)(Q Y:Nat)(X:Ae)(W:ByteArray)(V Z:Int):Gi fu call U T S (Q+1) Y X W V Z=(Ax (decide (Z<V)) (Ar (decide (0<=Z)&&decide (Z<(↑Y:Int)))<|Bi (X.getD (Z.toNat*1) .top) fun a=>Ax (Array.toList (ByteArray.data W)==Array.toList (ByteArray.data a)) (Bh [Z]) (Aa (wrap .i64 (Z+1)) fun a=>Gi fu call U T S Q Y X W V a)) (Bh [(-1:Int)])):=by kernel_rfl
theorem Zx{p:Option (Ae->Option Bq)}(fu d Z:Nat)(Y:Ae)(X:ByteArray):Ac (CP p) prog fu (d+1) 127 [Am 1 Z Y,X]=(fun (call:Ap)=>Gi fu call Z Y X fu Z Y X (↑Z:Int) 0) (Ac (CP p) prog fu d):=by kernel_rfl
theorem Vm{p:Option (Ae->Option Bq)}(fu d Z:Nat)(Y:Ae)(X:ByteArray):Ac (CP p) prog fu (d+1) 80 [Am 1 Z Y,X]=(fun (call:Ap)=>Gs .i64 (call 127 [Am 1 Z Y,X]) fun a=>Bh [C5 (decide (a>=0))]) (Ac (CP p) prog fu d):=by kernel_rfl
theorem Vp{p:Option (Ae->Option Bq)}(fu d:Nat)(T S:ByteArray)(Z:Nat)(Y:Ae)(Q:Int)(P:Bool)(O N:Int)(M:Bool)(L:Int)(K:Bool)(J:Nat)(I:Ae)(H G:Int)(E D:Int)(X:Nat)(W:Ae)(V:Int)(U:ByteArray)(B:Nat)(A:Ae)(z:Nat)(w:Ae)(v:Nat)(u:Ae)(Be1:Int)(Bb3:Nat)(A4p:Ae)(A53:ByteArray):Ac (CP p) prog fu (d+1) 45 [.agg [T,S,Am 1 Z Y,Q,P,O,N,M,L,K,Am 1 J I,H,Ag G,E,Ag D],Am 1 X W,.agg [V,U,Am 1 B A,Am 1 z w,Am 1 v u,Be1,Am 1 Bb3 A4p,A53]]=(fun (call:Ap)=>Ax (V != 2) (Bh [(3:Int)]) (D8 (call 79 [U]) fun a b=>Eo a fun a=>Dw .i64 a fun a c=>Iw 1 c fun c e f=>Ad f fun f g=>Bi f fun f=>Ad g fun g h=>Bn g fun g=>Ad h fun h i=>Bi h fun h=>Ak i<|B8 .i64 b fun b=>Ax (b != 0) (Bh [b]) (Ax (a != 2) (Bh [(3:Int)]) (D8 (call 46 [Am 1 c e,Am 1 X W]) fun a b=>Bn a fun a=>Ak b<|Ax (!a) (Bh [(35:Int)]) (D8 (call 80 [Am 1 Z Y,f]) fun a b=>Bn a fun a=>Ak b<|Ax (!a) (Bh [(34:Int)]) (Ax g (D8 (call 80 [Am 1 Z Y,h]) fun a b=>Bn a fun a=>Ak b<|Ax (!a) (Bh [(34:Int)]) (Bh [(0:Int)])) (Bh [(0:Int)]))))))) (Ac (CP p) prog fu d):=by kernel_rfl
theorem QQ{p:Option (Ae->Option Bq)}(fu d:Nat)(Q Ajm:ByteArray)(A19:Nat)(Ak9:Ae)(P:Int)(O:Bool)(N M:Int)(L:Bool)(K:Int)(J:Bool)(I:Nat)(H:Ae)(G A2g:Int)(A18 A2j:Int)(Bct Bco A9r:Int)(A11:Nat)(Bce:Ae)(A98:Int)(A1t:Nat)(Bab:Ae)(A15:Nat)(Baj:Ae)(Y:Nat)(X:Ae)(W V:Int)(U E:Int)(D:Bool)(B:Int)(A:Nat)(z:Ae)(w:Bool)(v u:Int)(a3n:Nat)(a3:Ae)(Z A92:Int)(A3r:ByteArray)(T:Nat)(S:Ae)(Awf:Nat)(A6s:Ae)(A2a:Nat)(Bcm:Ae)(A9x:Int)(Av3:Nat)(A5w:Ae)(A88:ByteArray):Ac (CP p) prog fu (d+1) 23 [.agg [Q,Ajm,Am 1 A19 Ak9,P,O,N,M,L,K,J,Am 1 I H,G,Ag A2g,A18,Ag A2j],.agg [Bct,Bco,A9r,Am 3 A11 Bce,A98,Am 1 A1t Bab,Am 1 A15 Baj],.agg [Am 1 Y X,W,Ag V,Ag U,E,D,Ag B,Am 2 A z,w,v,u],Am 1 a3n a3,Z,.agg [A92,A3r,Am 1 T S,Am 1 Awf A6s,Am 1 A2a Bcm,A9x,Am 1 Av3 A5w,A88]]=(fun (call:Ap)=>Ax (decide (Z<0)) (Bh [.agg [Am 1 0 [],(0:Int),Ag 0,Ag 0,(0:Int),false,Ag 0,Am 2 0 [],false,(0:Int),(0:Int)],(9:Int)]) (Ax (decide (Z>1099511627776)) (Bh [.agg [Am 1 0 [],(0:Int),Ag 0,Ag 0,(0:Int),false,Ag 0,Am 2 0 [],false,(0:Int),(0:Int)],(9:Int)]) (Gs .i64 (call 45 [.agg [Q,Ajm,Am 1 A19 Ak9,P,O,N,M,L,K,J,Am 1 I H,G,Ag A2g,A18,Ag A2j],Am 1 a3n a3,.agg [A92,A3r,Am 1 T S,Am 1 Awf A6s,Am 1 A2a Bcm,A9x,Am 1 Av3 A5w,A88]]) fun a=>Ax (a != 0) (Bh [.agg [Am 1 0 [],(0:Int),Ag 0,Ag 0,(0:Int),false,Ag 0,Am 2 0 [],false,(0:Int),(0:Int)],a]) (D8 (call 46 [Am 1 Av3 A5w,Am 1 Y X]) fun a b=>Bn a fun a=>Ak b<|Ax (!a) (Bh [.agg [Am 1 0 [],(0:Int),Ag 0,Ag 0,(0:Int),false,Ag 0,Am 2 0 [],false,(0:Int),(0:Int)],(36:Int)]) (D8 (call 47 [Am 1 T S]) fun a b=>Eo a fun a=>Dw .u64 a fun a c=>Dw .i64 c fun c e=>Dw .i64 e fun e f=>Dw .i64 f fun f g=>Dw .u64 g fun g h=>XI 1 h fun h i j=>Dw .i64 j fun j k=>B8 .u64 k fun k=>B8 .i64 b fun b=>Ax (b != 0) (Bh [.agg [Am 1 0 [],(0:Int),Ag 0,Ag 0,(0:Int),false,Ag 0,Am 2 0 [],false,(0:Int),(0:Int)],b]) (Aa (Du .i64 c 64) fun b=>Ax (b != 0) (Bh [.agg [Am 1 0 [],(0:Int),Ag 0,Ag 0,(0:Int),false,Ag 0,Am 2 0 [],false,(0:Int),(0:Int)],(4:Int)]) (Gs .u64 (call 48 [Q]) fun b=>Ax (a != b) (Bh [.agg [Am 1 0 [],(0:Int),Ag 0,Ag 0,(0:Int),false,Ag 0,Am 2 0 [],false,(0:Int),(0:Int)],(34:Int)]) (D8 (call 49 [Am 1 Awf A6s]) fun b m=>Eo b fun b=>Dw .i64 b fun b n=>XI 1 n fun n o q=>XI 1 q fun q s t=>Ak t<|B8 .i64 m fun m=>Ax (m != 0) (Bh [.agg [Am 1 0 [],(0:Int),Ag 0,Ag 0,(0:Int),false,Ag 0,Am 2 0 [],false,(0:Int),(0:Int)],m]) (Gs .u64 (call 51 [A3r]) fun m=>Gs .u64 (call 50 [Am 1 T S,Ag m]) fun m=>Ar (decide (0+n*1<=o.length))<|Ar (decide (0+q*1<=s.length))<|Gs .i64 (call 52 [.agg [W,Ag V],Ag m,.agg [b,Am 1 n (List.take (n*1) (o.drop 0)),Am 1 q (List.take (q*1) (s.drop 0))]]) fun m=>Ax (m != 0) (Bh [.agg [Am 1 0 [],(0:Int),Ag 0,Ag 0,(0:Int),false,Ag 0,Am 2 0 [],false,(0:Int),(0:Int)],m]) (Aa (wrap .i64 (b+1)) fun m=>Ax (e != m) (Bh [.agg [Am 1 0 [],(0:Int),Ag 0,Ag 0,(0:Int),false,Ag 0,Am 2 0 [],false,(0:Int),(0:Int)],(33:Int)]) (Gs .i64 (call 54 [.agg [Bct,Bco,A9r,Am 3 A11 Bce,A98,Am 1 A1t Bab,Am 1 A15 Baj],Ag U,Z]) fun m=>Ar (decide (0+h*1<=i.length))<|Gs .i64 (call 53 [.agg [P,O,N,M,L,K,J,Am 1 I H,G],.agg [Ag a,c,e,f,Ag g,Am 1 h (List.take (h*1) (i.drop 0)),j,Ag k],.agg [Am 1 Y X,W,Ag V,Ag U,E,D,Ag B,Am 2 A z,w,v,u],m]) fun a=>Ax (a != 0) (Bh [.agg [Am 1 0 [],(0:Int),Ag 0,Ag 0,(0:Int),false,Ag 0,Am 2 0 [],false,(0:Int),(0:Int)],a]) (D8 (call 55 [.agg [Am 1 Y X,W,Ag V,Ag U,E,D,Ag B,Am 2 A z,w,v,u],b,f,Z]) fun a b=>Eo a fun a=>Iw 1 a fun a c e=>Dw .i64 e fun e f=>Dw .u64 f fun f g=>Dw .u64 g fun g h=>Dw .i64 h fun h i=>Ad i fun i j=>Bn i fun i=>Dw .u64 j fun j k=>Iw 2 k fun k m n=>Ad n fun n o=>Bn n fun n=>Dw .i64 o fun o q=>B8 .i64 q fun q=>B8 .i64 b fun b=>Ax (b != 0) (Ax (b != 37) (Bh [.agg [Am 1 0 [],(0:Int),Ag 0,Ag 0,(0:Int),false,Ag 0,Am 2 0 [],false,(0:Int),(0:Int)],b]) (Bh [.agg [Am 1 a c,e,Ag f,Ag g,h,i,Ag j,Am 2 k m,n,o,q],b])) (Bh [.agg [Am 1 a c,e,Ag f,Ag g,h,i,Ag j,Am 2 k m,n,o,q],b]))))))))))))) (Ac (CP p) prog fu d):=by kernel_rfl
theorem Yw{p:Option (Ae->Option Bq)}(fu d:Nat)(W:Int)(Z:ByteArray)(Y:Nat)(X:Ae)(V:Nat)(U:Ae)(T:Nat)(S:Ae)(Q:Int)(P:Nat)(O:Ae)(N:ByteArray):Ac (CP p) prog fu (d+1) 26 [.agg [W,Z,Am 1 Y X,Am 1 V U,Am 1 T S,Q,Am 1 P O,N]]=(fun (call:Ap)=>Gs .u64 (call 39 [Z]) fun a=>Gs .u64 (call 38 [Am 1 Y X,Ag a]) fun a=>Bh [Ag a]) (Ac (CP p) prog fu d):=by kernel_rfl
end
section
variable {xs:FuncId->Option (Ae->Option Bq)}(fu d:Nat)(call:Ap)
theorem JL{p:Option (Ae->Option Bq)}(fu d:Nat)(Z Y:Int):Ac (CP p) prog fu (d+1) 30 [Ag Z,Y]=(fun (call:Ap)=>D8 (call 61 [Ag Z,Y]) fun a b=>Eo a fun a=>Dw .i64 a fun a c=>B8 .u64 c fun c=>B8 .i64 b fun b=>Bh [.agg [a,Ag c]]) (Ac (CP p) prog fu d):=by kernel_rfl
theorem Vw{p:Option (Ae->Option Bq)}(fu d:Nat)(Z Y:Int)(X:Bool):Ac (CP p) prog fu (d+1) 11 [Z,Y,X]=(fun (call:Ap)=>Aa (wrap .u64 Z) fun a=>Aa (wrap .u64 (1000+a)) fun a=>Aa (wrap .i64 (500+Z)) fun b=>D8 (call 9 [b,(176:Int)]) fun b c=>Lh 1 b fun b e=>Ak c<|Ar (decide (b*1<=e.length))<|Bh [.agg [Ag a,Y,.own 1 b (e.take (b*1)),X]]) (Ac (CP p) prog fu d):=by kernel_rfl
theorem Vx{p:Option (Ae->Option Bq)}(fu d:Nat)(X W:Int)(V:Nat)(U:Ae)(Z Y:Bool):Ac (CP p) prog fu (d+1) 36 [.agg [Ag X,W,Am 1 V U,Z],Y]=(fun (call:Ap)=>Ax Y (Ax Z (Bh [(13:Int)]) (Bh [(5:Int)])) (Ax Z (Bh [(9:Int)]) (Bh [(1:Int)]))) (Ac (CP p) prog fu d):=by kernel_rfl
theorem Tz{p:Option (Ae->Option Bq)}(fu d:Nat)(Z Y:Int)(X:Nat)(W:Ae)(U:Bool)(T S:ByteArray)(Q:Nat)(P:Ae)(O:Bool)(V N:Int)(M:ByteArray):Ac (CP p) prog fu (d+1) 14 [.agg [Ag Z,Y,Am 1 X W,U],T,S,Am 1 Q P,O,V,N,M]=(fun (call:Ap)=>D8 (call 33 [.agg [(2:Int),Am 1 Q P,S,false,Bm ⟨#[]⟩]]) fun a b=>Bi a fun a=>B8 .i64 b fun b=>Gs .u64 (call 35 [T]) fun b=>Gs .i64 (call 36 [.agg [Ag Z,Y,Am 1 X W,U],O]) fun c=>Aa (wrap .i64 (V+1)) fun e=>D8 (call 34 [.agg [Ag b,c,e,N,Ag 0,Am 1 0 [],(0:Int),Ag 0]]) fun b c=>Lh 1 b fun b e=>B8 .i64 c fun c=>Gs .u64 (call 39 [a]) fun c=>Ar (decide (0+b*1<=e.length))<|Gs .u64 (call 38 [Am 1 b (List.take (b*1) (e.drop 0)),Ag c]) fun c=>D8 (call 37 [Ag Z,Y,V,Ag c]) fun c f=>Eo c fun c=>Dw .i64 c fun c g=>XI 1 g fun g h i=>XI 1 i fun i j k=>Ak k<|B8 .i64 f fun f=>Ar (decide (0+g*1<=h.length))<|Ar (decide (0+i*1<=j.length))<|D8 (call 40 [.agg [c,Am 1 g (List.take (g*1) (h.drop 0)),Am 1 i (List.take (i*1) (j.drop 0))]]) fun c f=>Lh 1 c fun c g=>B8 .i64 f fun f=>Ar (decide (0+b*1<=e.length))<|Ar (decide (0+c*1<=g.length))<|Bh [.agg [(2:Int),a,Am 1 b (List.take (b*1) (e.drop 0)),Am 1 c (List.take (c*1) (g.drop 0)),Am 1 0 [],(0:Int),Am 1 X W,M]]) (Ac (CP p) prog fu d):=by kernel_rfl
theorem Ud{p:Option (Ae->Option Bq)}(fu d:Nat)(W Y:Int)(V U T:Int)(Z:Nat)(X:Ae)(S Q:Int):Ac (CP p) prog fu (d+1) 34 [.agg [Ag W,Y,V,U,Ag T,Am 1 Z X,S,Ag Q]]=(fun (call:Ap)=>Gs .i64 (call 67 [.agg [Ag W,Y,V,U,Ag T,Am 1 Z X,S,Ag Q]]) fun a=>Ax (a != 0) (Bh [.own 1 0 [],a]) (D8 (call 62 [Am 1 1 [Ag W]]) fun a b=>Lh 1 a fun a c=>Ak b<|Aa (wrap .u8 Y) fun b=>Aa (wrap .u8 V) fun e=>Aa (wrap .u8 U) fun f=>Ar (decide (a*1<=c.length)&&true&&decide ((a+3)*1<=1099511627776)&&decide (a+3<=1099511627776))<|Aa (a+3) fun g=>Aa (List.take (a*1) c++[.sc (.int .u8 b),.sc (.int .u8 e),.sc (.int .u8 f)]) fun a=>Aa (Du .i64 Y 64) fun b=>Ax (b != 0) (D8 (call 68 [.agg [S,Ag Q]]) fun b c=>Lh 1 b fun b e=>B8 .i64 c fun c=>D8 (call 62 [Am 1 1 [Ag T]]) fun c f=>Lh 1 c fun c h=>Ak f<|Ar (decide (0+c*1<=h.length))<|Ar (decide (g*1<=a.length)&&decide (List.length (List.take (c*1) (h.drop 0))=c*1)&&decide ((g+c)*1<=1099511627776)&&decide (g+c<=1099511627776))<|Aa (g+c) fun f=>Aa (List.take (g*1) a++List.take (c*1) (h.drop 0)) fun a=>Ar (decide (f*1<=a.length)&&decide (X.length=Z*1)&&decide ((f+Z)*1<=1099511627776)&&decide (f+Z<=1099511627776))<|Aa (f+Z) fun c=>Aa (List.take (f*1) a++X) fun a=>Ar (decide (0+b*1<=e.length))<|Ar (decide (c*1<=a.length)&&decide (List.length (List.take (b*1) (e.drop 0))=b*1)&&decide ((c+b)*1<=1099511627776)&&decide (c+b<=1099511627776))<|Aa (c+b) fun f=>Aa (List.take (c*1) a++List.take (b*1) (e.drop 0)) fun a=>Ar (decide (f*1<=a.length))<|Bh [.own 1 f (a.take (f*1)),(0:Int)]) (Ar (decide (g*1<=a.length))<|Bh [.own 1 g (a.take (g*1)),(0:Int)]))) (Ac (CP p) prog fu d):=by kernel_rfl
theorem Tr{p:Option (Ae->Option Bq)}(fu d Z:Nat)(Y:Ae)(X:Int):Ac (CP p) prog fu (d+1) 41 [Am 1 Z Y,X]=(fun (call:Ap)=>Ax ((↑Z:Int)==0) (Aa (wrap .u8 X) fun a=>Bh [.own 1 1 [.sc (.int .u8 a)]]) (Ar (decide (Y.length=Z*1)&&decide (Z*1<=1099511627776)&&decide (Z<=1099511627776))<|Ar (decide ((↑Z:Int)≠0))<|Aa (Int.tmod X (↑Z:Int)) fun a=>Ar (decide (0<=a)&&decide (a<(↑Z:Int)))<|Bk .u8 (Y.getD (0+a.toNat*1) .top) fun b=>Aa (Du .i64 X 7) fun c=>Aa (wrap .u64 c) fun c=>Ar (decide (0<=c))<|Aa (D9 .u8 1 c) fun c=>Aa (Ez .u8 b c) fun b=>Ar (decide (0<=a)&&decide (a<(↑Z:Int)))<|Ar (decide (0+a.toNat*1+1<=Y.length))<|Aa (B3 Y [.sc (.int .u8 b)] (0+a.toNat*1)) fun a=>Ar (decide (Z*1<=a.length))<|Bh [.own 1 Z (a.take (Z*1))])) (Ac (CP p) prog fu d):=by kernel_rfl
theorem G5{p:Option (Ae->Option Bq)}(fu d Z:Nat)(Y:Ae)(X:Int):Ac (CP p) prog fu (d+1) 29 [.pbox [Am 1 Z Y,X]]=(fun (call:Ap)=>Aw (call 10 [.pbox [Am 1 Z Y,X],(3:Int)]) fun a b=>B8 .i64 a fun a=>Ad b fun b c=>Iw 1 b fun b e f=>B8 .i64 f fun f=>Ak c<|Aw (call 10 [.pbox [Am 1 b e,f],(2:Int)]) fun b c=>B8 .i64 b fun b=>Ad c fun c e=>Iw 1 c fun c f g=>B8 .i64 g fun g=>Ak e<|Aw (call 10 [.pbox [Am 1 c f,g],(2:Int)]) fun c e=>B8 .i64 c fun c=>Ad e fun e f=>Iw 1 e fun e g h=>B8 .i64 h fun h=>Ak f<|Aa (wrap .i64 (1+c)) fun c=>Aw (call 10 [.pbox [Am 1 e g,h],(3:Int)]) fun e f=>B8 .i64 e fun e=>Ad f fun f g=>Iw 1 f fun f h i=>B8 .i64 i fun i=>Ak g<|Aa (wrap .i64 (1+e)) fun e=>Aw (call 10 [.pbox [Am 1 f h,i],(2:Int)]) fun f g=>B8 .i64 f fun f=>Ad g fun g h=>Iw 1 g fun g i j=>B8 .i64 j fun j=>Ak h<|Aw (call 10 [.pbox [Am 1 g i,j],(3:Int)]) fun g h=>B8 .i64 g fun g=>Ad h fun h i=>Iw 1 h fun h j k=>B8 .i64 k fun k=>Ak i<|Aw (call 10 [.pbox [Am 1 h j,k],(2:Int)]) fun h i=>B8 .i64 h fun h=>Ad i fun i j=>Iw 1 i fun i k m=>B8 .i64 m fun m=>Ak j<|Aw (call 10 [.pbox [Am 1 i k,m],(3:Int)]) fun i j=>B8 .i64 i fun i=>Ad j fun j k=>Iw 1 j fun j m n=>B8 .i64 n fun n=>Ak k<|Ar (decide (0<=i)&&decide (i<3))<|Bk .i64 (List.getD [(50:Int),(5:Int),(500:Int)] (0+i.toNat*1) .top) fun i=>Aw (call 10 [.pbox [Am 1 j m,n],(4:Int)]) fun j k=>B8 .i64 j fun j=>Ad k fun k m=>Iw 1 k fun k n o=>B8 .i64 o fun o=>Ak m<|Ax (j==3) (Aw (call 10 [.pbox [Am 1 k n,o],(2:Int)]) fun j k=>B8 .i64 j fun j=>Ad k fun k m=>Iw 1 k fun k n o=>B8 .i64 o fun o=>Ak m<|Aa (wrap .i64 (1+j)) fun j=>Ar (decide (0<=j))<|Ar (decide (j.toNat<=2))<|Aa (j.toNat-0) fun j=>Ar (decide (j*1<=2))<|some ⟨[.agg [a,C5 (b==1),c,e,C5 (f==1),g,C5 (h==1),.own 1 j (List.take (j*1) [Ag 3,Ag 7]),i]],[[Am 1 k n,o]]⟩) (some ⟨[.agg [a,C5 (b==1),c,e,C5 (f==1),g,C5 (h==1),.own 1 0 [],i]],[[Am 1 k n,o]]⟩)) (Ac (CP p) prog fu d):=by kernel_rfl
theorem Kp{p:Option (Ae->Option Bq)}(fu d Z:Nat)(Y:Ae)(X:Int):Ac (CP p) prog fu (d+1) 8 [.pbox [Am 1 Z Y,X]]=(fun (call:Ap)=>Aw (call 29 [.pbox [Am 1 Z Y,X]]) fun a b=>Ad a fun a c=>Eo a fun a=>Dw .i64 a fun a e=>Ad e fun e f=>Bn e fun e=>Dw .i64 f fun f g=>Dw .i64 g fun g h=>Ad h fun h i=>Bn h fun h=>Dw .i64 i fun i j=>Ad j fun j k=>Bn j fun j=>XI 1 k fun k m n=>B8 .i64 n fun n=>Ak c<|Ad b fun b c=>Iw 1 b fun b o q=>B8 .i64 q fun q=>Ak c<|Aw (call 10 [.pbox [Am 1 b o,q],(3:Int)]) fun b c=>B8 .i64 b fun b=>Ad c fun c o=>Iw 1 c fun c q s=>B8 .i64 s fun s=>Ak o<|Aa (wrap .u64 b) fun b=>Aa (wrap .u64 (5+b)) fun b=>D8 (call 30 [Ag 31,(4:Int)]) fun o t=>Eo o fun o=>Dw .i64 o fun o u=>B8 .u64 u fun u=>Ak t<|Ar (decide (0+k*1<=m.length))<|some ⟨[.agg [Bm ⟨#[101,120,97,109,112,108,101,46,99,111,109]⟩,Bm ⟨#[69,120,97,109,112,108,101]⟩,Am 1 2 [Bm ⟨#[104,116,116,112,115,58,47,47,101,120,97,109,112,108,101,46,99,111,109]⟩,Bm ⟨#[104,116,116,112,115,58,47,47,108,111,103,105,110,46,101,120,97,109,112,108,101,46,99,111,109]⟩],a,e,f,g,h,i,j,Am 1 k (List.take (k*1) (m.drop 0)),n,Ag b,o,Ag u]],[[Am 1 c q,s]]⟩) (Ac (CP p) prog fu d):=by kernel_rfl
theorem Zq{p:Option (Ae->Option Bq)}(fu d:Nat)(Z Y:Int)(X:Nat)(W:Ae)(V:Bool)(U:Int):Ac (CP p) prog fu (d+1) 12 [.agg [Ag Z,Y,Am 1 X W,V],Ag U]=(fun (call:Ap)=>D8 (call 30 [Ag Z,Y]) fun a b=>Eo a fun a=>Dw .i64 a fun a c=>B8 .u64 c fun c=>Ak b<|Bh [.agg [Am 1 X W,a,Ag c,Ag U,(0:Int),V,Ag 0,Am 2 0 [],false,(1:Int),(1:Int)]]) (Ac (CP p) prog fu d):=by kernel_rfl
def Nj(Z:Nat)(Y X:ByteArray)(W:Nat)(V:Ae)(U:Int)(T:Bool)(S Q:Int)(P:Bool)(O:Int)(N:Bool)(M:Nat)(L:Ae)(K J:Int)(I H:Int):Option Bq:=Kj fu call 27 Tryz.f27 [] [.r] Z ⟨lk [(0,.ptr 0 0)],Ct [(0,.st [Y,X,Am 1 W V,U,T,S,Q,P,O,N,Am 1 M L,K,Ag J,I,Ag H])]⟩
theorem Vn(Z:Nat)(Hs:0<Z)(Y X:ByteArray)(W:Nat)(V:Ae)(U:Int)(T:Bool)(S Q:Int)(P:Bool)(O:Int)(N:Bool)(M:Nat)(L:Ae)(K J:Int)(I H:Int):Nj fu call Z Y X W V U T S Q P O N M L K J I H=(Bh [.agg [Y,X,Am 1 W V,U,T,S,Q,P,O,N,Am 1 M L,K,Ag J,I,Ag H]]):=by cases Z with|zero=>exact absurd Hs (Nat.lt_irrefl 0)|succ Z=>kernel_rfl
theorem Zr{p:Option (Ae->Option Bq)}(fu d:Nat):Ac (CP p) prog fu (d+1) 27 []=(fun (call:Ap)=>D8 (call 7 [Am 1 0 []]) fun a b=>AN a fun a=>Iw 1 a fun a c e=>B8 .i64 e fun e=>Ak b<|Aw (call 8 [.pbox [Am 1 a c,e]]) fun a b=>Ad a fun a c=>Eo a fun a=>Ad a fun a e=>Bi a fun a=>Ad e fun e f=>Bi e fun e=>Iw 1 f fun f g h=>Dw .i64 h fun h i=>Ad i fun i j=>Bn i fun i=>Dw .i64 j fun j k=>Dw .i64 k fun k m=>Ad m fun m n=>Bn m fun m=>Dw .i64 n fun n o=>Ad o fun o q=>Bn o fun o=>Iw 1 q fun q s t=>Dw .i64 t fun t u=>Dw .u64 u fun u v=>Dw .i64 v fun v w=>B8 .u64 w fun w=>Ak c<|Ad b fun b c=>Iw 1 b fun b z A=>B8 .i64 A fun b=>Ak c<|Nj fu call fu a e f g h i j k m n o q s t u v w) (Ac (CP p) prog fu d):=by kernel_rfl
end
section
variable {xs:FuncId->Option (Ae->Option Bq)}(fu d:Nat)(call:Ap)
def Og(Z Y:Nat)(X W:Int)(V:Nat)(U:Bool)(T S:Ae)(Q:Int)(P:ByteArray)(O:Nat)(N:Ae)(M:Nat)(L:Ae)(K:Nat)(J:Ae)(I:Int)(H:Nat)(G:Ae)(E:ByteArray):Option Bq:=Kj fu call 21 Tryz.f21 [] [.r,.r,.r] Z ⟨lk [(1,.ptr 1 0),(2,.view 2 1 0 Y),(3,.ptr 3 0)],Ct [(1,.st [Ag X,W,.view 157 1 0 V,U]),(157,.ar true T),(2,.ar true S),(3,.st [Q,P,Am 1 O N,Am 1 M L,Am 1 K J,I,Am 1 H G,E])]⟩
def Of(Z Y:Nat)(X:Int)(W:Ae)(V:Int)(U:ByteArray)(T:Nat)(S:Ae)(Q:Nat)(P:Ae)(O:Nat)(N:Ae)(M:Int)(L:Nat)(K:Ae)(J:ByteArray)(I:Nat)(H:Ae)(G E:Int)(D B:Int)(A:Bool)(z:Int)(w:Nat)(v:Ae)(u:Bool)(t DU:Int):Option Bq:=Kj fu call 21 Tryz.f21 [] [.r,.r,.r,.r] Z ⟨lk [(2,.view 2 1 0 Y),(3,.ptr 3 0),(4,.ptr 4 0),(5,X)],Ct [(2,.ar true W),(3,.st [V,U,Am 1 T S,Am 1 Q P,Am 1 O N,M,Am 1 L K,J]),(4,.st [Am 1 I H,G,Ag E,Ag D,B,A,Ag z,Am 2 w v,u,t,DU])]⟩
def Nw(Z:Nat)(Y X:Int)(W:Nat)(V:Ae)(U T:Int)(S Q:Int)(P:Bool)(O:Int)(N:Nat)(M:Ae)(L:Bool)(K J:Int)(I:Nat)(H:Ae)(G E:Int)(D B:Int)(A:Bool)(z:Int)(w:Nat)(v:Ae)(u:Bool)(t DU:Int):Option Bq:=Kj fu call 21 Tryz.f21 [] [.r,.r,.r,.r,.r] Z ⟨lk [(4,.ptr 4 0),(5,Y),(6,.ptr 6 0),(7,X)],Ct [(4,.st [Am 1 W V,U,Ag T,Ag S,Q,P,Ag O,Am 2 N M,L,K,J]),(6,.st [Am 1 I H,G,Ag E,Ag D,B,A,Ag z,Am 2 w v,u,t,DU])]⟩
theorem Xg(Y:Nat)(Hs:0<Y)(Z:Nat)(H G:Int)(X:Nat)(E:Bool)(V W:Ae)(U:Int)(T:ByteArray)(S:Nat)(Q:Ae)(P:Nat)(O:Ae)(N:Nat)(M:Ae)(L:Int)(K:Nat)(J:Ae)(I:ByteArray):Og fu call Y Z H G X E V W U T S Q P O N M L K J I=(D8 (call 27 []) fun a b=>Eo a fun a=>Ad a fun a c=>Bi a fun a=>Ad c fun c e=>Bi c fun c=>Iw 1 e fun e f g=>Dw .i64 g fun g h=>Ad h fun h i=>Bn h fun h=>Dw .i64 i fun i j=>Dw .i64 j fun j k=>Ad k fun k m=>Bn k fun k=>Dw .i64 m fun m n=>Ad n fun n o=>Bn n fun n=>Iw 1 o fun o p q=>Dw .i64 q fun q s=>Dw .u64 s fun s t=>Dw .i64 t fun t u=>B8 .u64 u fun u=>Ak b<|Ar (decide (0+X*1<=V.length))<|D8 (call 12 [.agg [Ag H,G,Am 1 X (List.take (X*1) (V.drop 0)),E],Ag 0]) fun b v=>Eo b fun b=>Iw 1 b fun b w z=>Dw .i64 z fun z A=>Dw .u64 A fun A B=>Dw .u64 B fun B D=>Dw .i64 D fun D Bg0=>Ad Bg0 fun Bf8 Bgm=>Bn Bf8 fun Bji=>Dw .u64 Bgm fun Bfi Bil=>Iw 2 Bil fun Bfm Bjn Bii=>Ad Bii fun Bed Bhb=>Bn Bed fun Bht=>Dw .i64 Bhb fun Bfk Bfs=>B8 .i64 Bfs fun Big=>Ak v<|Ar (decide (0+Z*1<=W.length))<|D8 (call 23 [.agg [a,c,Am 1 e f,g,h,i,j,k,m,n,Am 1 o p,q,Ag s,t,Ag u],.agg [(0:Int),(0:Int),(0:Int),Am 3 0 [],(0:Int),Am 1 0 [],Am 1 0 []],.agg [Am 1 b w,z,Ag A,Ag B,D,Bji,Ag Bfi,Am 2 Bfm Bjn,Bht,Bfk,Big],Am 1 Z (List.take (Z*1) (W.drop 0)),(5:Int),.agg [U,T,Am 1 S Q,Am 1 P O,Am 1 N M,L,Am 1 K J,I]]) fun a b=>Eo a fun a=>Iw 1 a fun a c e=>Dw .i64 e fun e f=>Dw .u64 f fun f g=>Dw .u64 g fun g h=>Dw .i64 h fun h i=>Ad i fun i j=>Bn i fun i=>Dw .u64 j fun j k=>Iw 2 k fun k m n=>Ad n fun n o=>Bn n fun n=>Dw .i64 o fun o p=>B8 .i64 p fun p=>B8 .i64 b fun b=>Of fu call fu Z b W U T S Q P O N M L K J I a c e f g h i j k m n o p):=by cases Y with|zero=>exact absurd Hs (Nat.lt_irrefl 0)|succ Y=>kernel_rfl
theorem Xj(Z:Nat)(Hs:0<Z)(Y:Nat)(I:Int)(X:Ae)(H:Int)(G:ByteArray)(E:Nat)(D:Ae)(B:Nat)(A:Ae)(z:Nat)(w:Ae)(v:Int)(u:Nat)(t:Ae)(y14:ByteArray)(W:Nat)(V:Ae)(U T:Int)(S Q:Int)(P:Bool)(O:Int)(N:Nat)(M:Ae)(L:Bool)(K J:Int):Of fu call Z Y I X H G E D B A z w v u t y14 W V U T S Q P O N M L K J=(D8 (call 27 []) fun a b=>Eo a fun a=>Ad a fun a c=>Bi a fun a=>Ad c fun c e=>Bi c fun c=>Iw 1 e fun e f g=>Dw .i64 g fun g h=>Ad h fun h i=>Bn h fun h=>Dw .i64 i fun i j=>Dw .i64 j fun j k=>Ad k fun k m=>Bn k fun k=>Dw .i64 m fun m n=>Ad n fun n o=>Bn n fun n=>Iw 1 o fun o p q=>Dw .i64 q fun q s=>Dw .u64 s fun s Be8=>Dw .i64 Be8 fun Bha Bju=>B8 .u64 Bju fun Bfx=>Ak b<|Ar (decide (0+Y*1<=X.length))<|D8 (call 23 [.agg [a,c,Am 1 e f,g,h,i,j,k,m,n,Am 1 o p,q,Ag s,Bha,Ag Bfx],.agg [(0:Int),(0:Int),(0:Int),Am 3 0 [],(0:Int),Am 1 0 [],Am 1 0 []],.agg [Am 1 W V,U,Ag T,Ag S,Q,P,Ag O,Am 2 N M,L,K,J],Am 1 Y (List.take (Y*1) (X.drop 0)),(5:Int),.agg [H,G,Am 1 E D,Am 1 B A,Am 1 z w,v,Am 1 u t,y14]]) fun a b=>Eo a fun a=>Iw 1 a fun a c e=>Dw .i64 e fun e f=>Dw .u64 f fun f g=>Dw .u64 g fun g h=>Dw .i64 h fun h i=>Ad i fun i j=>Bn i fun i=>Dw .u64 j fun j k=>Iw 2 k fun k m n=>Ad n fun n o=>Bn n fun n=>Dw .i64 o fun o p=>B8 .i64 p fun p=>B8 .i64 b fun b=>Nw fu call fu I b W V U T S Q P O N M L K J a c e f g h i j k m n o p):=by cases Z with|zero=>exact absurd Hs (Nat.lt_irrefl 0)|succ Z=>kernel_rfl
theorem Wl(Z:Nat)(Hs:0<Z)(Y X:Int)(T:Nat)(S:Ae)(Q P:Int)(O N:Int)(M:Bool)(W:Int)(L:Nat)(K:Ae)(J:Bool)(I V:Int)(H:Nat)(G:Ae)(E D:Int)(B A:Int)(z:Bool)(w:Int)(v:Nat)(u:Ae)(U:Bool)(t DU:Int):Nw fu call Z Y X T S Q P O N M W L K J I V H G E D B A z w v u U t DU=(Ax (Y==0) (Ax (W==4) (Ax (V==5) (Ax (X==37) (Bh [U]) (Bh [false])) (Bh [false])) (Bh [false])) (Bh [false])):=by cases Z with|zero=>exact absurd Hs (Nat.lt_irrefl 0)|succ Z=>kernel_rfl
theorem Z6{p:Option (Ae->Option Bq)}(fu d:Nat):Ac (CP p) prog fu (d+1) 21 []=(fun (call:Ap)=>D8 (call 11 [(1:Int),(2:Int),false]) fun a b=>Eo a fun a=>Dw .u64 a fun a c=>Dw .i64 c fun c e=>XI 1 e fun e f g=>G2 g fun g=>Ak b<|D8 (call 9 [(1:Int),(16:Int)]) fun b h=>Lh 1 b fun b i=>Ak h<|Ar (decide (0+e*1<=f.length))<|Ar (decide (0+b*1<=i.length))<|D8 (call 14 [.agg [Ag a,c,Am 1 e (List.take (e*1) (f.drop 0)),g],Bm ⟨#[101,120,97,109,112,108,101,46,99,111,109]⟩,Bm ⟨#[104,116,116,112,115,58,47,47,101,120,97,109,112,108,101,46,99,111,109]⟩,Am 1 b (List.take (b*1) (i.drop 0)),false,(2:Int),(0:Int),Bm ⟨#[117]⟩]) fun h j=>Eo h fun h=>Dw .i64 h fun h k=>Ad k fun k m=>Bi k fun k=>Iw 1 m fun m n o=>Iw 1 o fun o q s=>Iw 1 s fun s t u=>Dw .i64 u fun u v=>Iw 1 v fun v w z=>Ad z fun z A=>Bi z fun z=>Ak A<|Ak j<|Og fu call fu b a c e g f i h k m n o q s t u v w z) (Ac (CP p) prog fu d):=by kernel_rfl
end
def eqB(a b:Al):Bool:=(a.map fun n=>n.toNat.toUInt8)==(b.map fun n=>n.toNat.toUInt8)
theorem Ayv(a b:Al):(Array.toList (ByteArray.data (ByteArray.mk (List.toArray (a.map fun n=>n.toNat.toUInt8))))==Array.toList (ByteArray.data (ByteArray.mk (List.toArray (b.map fun n=>n.toNat.toUInt8)))))=eqB a b:=by exact id rfl
theorem Ahd(a:Al):eqB a a=true:=by unfold eqB;simp
def GL(b:Al)(c:Int):Int:=Fb 13 (b++B5 c)
section
variable {fu d:Nat}
theorem Af1(a b:Al):Ac C1 prog fu (d+1) 46 [.lst false 1 a.length (Af .u8 a),.lst false 1 b.length (Af .u8 b)]=some ⟨[C5 (eqB a b)],[]⟩:=by refine (YA fu d a.length (Af .u8 a) b.length (Af .u8 b)).trans ?_;have La:=An .u8 a;have Lb:=An .u8 b;have ba:=BC a;have bb:=BC b;have q:=Ayv a b;simp(disch:=omega)only[Be,Bd,La,Lb,ba,bb,q]
theorem A3o{s:ByteArray}(hs:s.size<=1000000)(Bv:1000400<=fu):Ac C1 prog fu (d+6) 48 [Bm s]=some ⟨[Ag (Fb 9 (Dk s))],[]⟩:=by
 refine (IA fu (d+5) s).trans ?_;have hh:=RP (xs:=WR) (fu:=fu) (d:=d) (l:=Dk s) (BM s) (by rw[Cr];omega) (by omega) (by rw[Cr];omega) 9
 have L:(D5 s).length=s.size:=by rw[Ip,An,Cr]
 have t:List.take s.size (D5 s)=Af .u8 (Dk s):=by rw[Ip,Iu (by rw[An,Cr];omega)]
 rw[Cr] at hh;simp(disch:=omega)only[Be,Bd,L,t,Ls,Jc,hh]
theorem Att{s:ByteArray}(hs:s.size<=1000000)(Bv:1000400<=fu):Ac C1 prog fu (d+6) 51 [Bm s]=some ⟨[Ag (Fb 11 (Dk s))],[]⟩:=by
 refine (KN fu (d+5) s).trans ?_;have hh:=RP (xs:=WR) (fu:=fu) (d:=d) (l:=Dk s) (BM s) (by rw[Cr];omega) (by omega) (by rw[Cr];omega) 11
 have L:(D5 s).length=s.size:=by rw[Ip,An,Cr]
 have t:List.take s.size (D5 s)=Af .u8 (Dk s):=by rw[Ip,Iu (by rw[An,Cr];omega)]
 rw[Cr] at hh;simp(disch:=omega)only[Be,Bd,L,t,Ls,Jc,hh]
theorem A6i{s:ByteArray}(hs:s.size<=1000000)(Bv:1000400<=fu):Ac C1 prog fu (d+5) 35 [Bm s]=some ⟨[Ag (Fb 9 (Dk s))],[]⟩:=by
 refine (Z4 fu (d+4) s).trans ?_;have hh:=JT (xs:=WR) (fu:=fu) (d:=d) (l:=Dk s) (BM s) (by rw[Cr];omega) (by omega) (by rw[Cr];omega) 9
 have L:(D5 s).length=s.size:=by rw[Ip,An,Cr]
 have t:List.take s.size (D5 s)=Af .u8 (Dk s):=by rw[Ip,Iu (by rw[An,Cr];omega)]
 rw[Cr] at hh;simp(disch:=omega)only[Be,Bd,L,t,Ls,Jc,hh]
theorem YY{s:ByteArray}(hs:s.size<=1000000)(Bv:1000400<=fu):Ac C1 prog fu (d+5) 39 [Bm s]=some ⟨[Ag (Fb 11 (Dk s))],[]⟩:=by
 refine (V8 fu (d+4) s).trans ?_;have hh:=JT (xs:=WR) (fu:=fu) (d:=d) (l:=Dk s) (BM s) (by rw[Cr];omega) (by omega) (by rw[Cr];omega) 11
 have L:(D5 s).length=s.size:=by rw[Ip,An,Cr]
 have t:List.take s.size (D5 s)=Af .u8 (Dk s):=by rw[Ip,Iu (by rw[An,Cr];omega)]
 rw[Cr] at hh;simp(disch:=omega)only[Be,Bd,L,t,Ls,Jc,hh]
theorem Amy{b:Al}(hb:Db b)(hl:b.length<=100000)(Bv:1000400<=fu)(c:Int):Ac C1 prog fu (d+5) 38 [.lst false 1 b.length (Af .u8 b),Ag c]=some ⟨[Ag (GL b c)],[]⟩:=by
 refine (X4 fu (d+4) b.length (Af .u8 b) c).trans ?_;unfold GL;have ow:=A0s (fu:=fu) (d:=d+3) (by omega) c;have Lq:(Af .u8 (B5 c)).length=8:=by rw[An,C8]
 have tq:List.take 8 (Af .u8 (B5 c))=Af .u8 (B5 c):=Iu (by omega);have L:=An .u8 b;have t:=LY .u8 b;have ea:Af .u8 b++Af .u8 (B5 c)=Af .u8 (b++B5 c):=by rw[Af,Af,Af,List.flatMap_append]
 have Wc:(b++B5 c).length=b.length+8:=by rw[Vk,C8]
 have hh:=JT (xs:=WR) (fu:=fu) (d:=d) (l:=b++B5 c) (Ab4 hb (KH c)) (by omega) (by omega) (by omega) 13;have L2:=An .u8 (b++B5 c);have t2:List.take (b.length+8) (Af .u8 (b++B5 c))=Af .u8 (b++B5 c):=Iu (by omega);rw[Wc] at hh;simp(disch:=omega)only[Be,Bd,ow,Ls,Ir,Jc,Lq,tq,L,t,ea,L2,t2,hh]
theorem Av5{n:Int}(h0:0<=n)(h1:n<=1000000):Ac C1 prog fu (d+1) 130 [.lst true 1 0 [],As n]=some ⟨[.own 1 0 []],[]⟩:=by
 refine (HP fu d n).trans ?_;have a1:=dF (q:=n<0) (by omega);have w1:wrap .i64 (n-0)=n:=Bl
 by_cases h:n>0
 ·have a2:=dT h;have a3:=dT h0;have a4:=dT (q:=Int.toNat n*1<=1099511627776) (by omega);have a5:=dT (q:=n<=1099511627776) (by omega);simp only[Be,Bd,a1,w1,a2,a3,a4,a5]
 ·have a2:=dF h;simp only[Be,Bd,a1,w1,a2]
set_option maxHeartbeats 1000000 in
theorem Azr{a b:Al}(ha:a.length<=100000)(hb:b.length<=100000)(Bv:1000<=fu):Ac C1 prog fu (d+2) 90 [.lst false 1 2 [.lst false 1 a.length (Af .u8 a),.lst false 1 b.length (Af .u8 b)]]=some ⟨[.own 1 (a.length+b.length) (Af .u8 (a++b))],[]⟩:=by
 obtain⟨f,rfl⟩:∃f,fu=f+3:=⟨fu-3,by omega⟩
 refine (AC (f+3) (d+1) 2 _).trans ?_;have La:=An .u8 a;have Lb:=An .u8 b;have w1:wrap .i64 (0+(a.length:Int))=((a.length:Nat):Int):=Bl
 have w2:wrap .i64 (((a.length:Nat):Int)+(b.length:Int))=((a.length+b.length:Nat):Int):=Bl
 have w3:wrap .i64 (0+1)=1:=by decide
 have w4:wrap .i64 (1+1)=2:=by decide
 have l0:decide ((0:Int)<((2:Nat):Int))=true:=rfl;have l1:decide ((1:Int)<((2:Nat):Int))=true:=rfl;have l2:decide ((2:Int)<((2:Nat):Int))=false:=rfl;have z0:decide ((0:Int)<=0)=true:=rfl;have z1:decide ((0:Int)<=1)=true:=rfl;have g0:List.getD [PV.lst false 1 a.length (Af .u8 a),PV.lst false 1 b.length (Af .u8 b)] (Int.toNat 0*1) PV.top=PV.lst false 1 a.length (Af .u8 a):=rfl;have g1:List.getD [PV.lst false 1 a.length (Af .u8 a),PV.lst false 1 b.length (Af .u8 b)] (Int.toNat 1*1) PV.top=PV.lst false 1 b.length (Af .u8 b):=rfl;have n1:=dF (q:=((a.length:Nat):Int)<0) (by omega);have n2:=dF (q:=((a.length+b.length:Nat):Int)<0) (by omega);have gr:=Av5 (fu:=f+3) (d:=d) (n:=((a.length+b.length:Nat):Int)) (by omega) (by omega);have c1:decide (0*1<=List.length ([]:Ae))=true:=rfl;have c2:decide (List.length (Af .u8 a)=a.length*1)=true:=dT (by omega)
 have c3:=dT (q:=a.length*1<=1099511627776) (by omega);have c4:=dT (q:=a.length<=1099511627776) (by omega);have t0:List.take (0*1) ([]:Ae)=[]:=rfl;have e0:([]:Ae)++Af .u8 a=Af .u8 a:=WU _;have n0:0+a.length=a.length:=Ir _;have c5:decide (a.length*1<=List.length (Af .u8 a))=true:=dT (by omega);have c6:decide (List.length (Af .u8 b)=b.length*1)=true:=dT (by omega);have c7:=dT (q:=(a.length+b.length)*1<=1099511627776) (by omega);have c8:=dT (q:=a.length+b.length<=1099511627776) (by omega);have t1:List.take (a.length*1) (Af .u8 a)=Af .u8 a:=Iu (by omega);have ea:Af .u8 a++Af .u8 b=Af .u8 (a++b):=by rw[Af,Af,Af,List.flatMap_append]
 have L2:=An .u8 (a++b);rw[Vk] at L2;have c9:decide ((a.length+b.length)*1<=List.length (Af .u8 (a++b)))=true:=dT (by omega);have t2:List.take ((a.length+b.length)*1) (Af .u8 (a++b))=Af .u8 (a++b):=Iu (by omega)
 (try dsimp only)
 rw[H3];simp only[Be,Bd,l0,z0,g0,w1,n1,w3]
 (try dsimp only)
 rw[H3];simp only[Be,Bd,l1,z1,g1,w2,n2,w4]
 (try dsimp only)
 rw[H3];simp only[Be,Bd,l2,gr];rw[H6];simp only[Be,Bd,l0,z0,g0,c1,c2,c3,c4,t0,e0,n0,w3];rw[H6];simp only[Be,Bd,l1,z1,g1,c5,c6,c7,c8,t1,ea,w4];rw[H6];simp only[Be,Bd,l2,c9,t2]
theorem Azq{b:Al}(hb:Db b)(hl:b.length<=100000)(Bv:1000400<=fu)(c:Int):Ac C1 prog fu (d+6) 50 [.lst false 1 b.length (Af .u8 b),Ag c]=some ⟨[Ag (GL b c)],[]⟩:=by
 refine (GE fu (d+5) b.length (Af .u8 b) c).trans ?_;unfold GL;have ow:=owd (xs:=WR) (fu:=fu) (d:=d+4) (by omega) c;have Lq:(Af .u8 (B5 c)).length=8:=by rw[An,C8]
 have c1:decide (0+8*1<=List.length (Af .u8 (B5 c)))=true:=dT (by omega);have tq:List.take (8*1) (List.drop 0 (Af .u8 (B5 c)))=Af .u8 (B5 c):=Iu (by rw[Ls];omega)
 have Wc:(b++B5 c).length=b.length+8:=by rw[Vk,C8]
 have cc:=Azr (fu:=fu) (d:=d+3) (a:=b) (b:=B5 c) hl (by rw[C8];omega) (by omega)
 rw[C8] at cc;have hh:=RP (xs:=WR) (fu:=fu) (d:=d) (l:=b++B5 c) (Ab4 hb (KH c)) (by omega) (by omega) (by omega) 13;have L2:=An .u8 (b++B5 c);have c2:decide (0+(b.length+8)*1<=List.length (Af .u8 (b++B5 c)))=true:=dT (by omega);have t2:List.take ((b.length+8)*1) (List.drop 0 (Af .u8 (b++B5 c)))=Af .u8 (b++B5 c):=Iu (by rw[Ls];omega)
 rw[Wc] at hh;simp only[Be,Bd,ow,c1,tq,cc,c2,t2,hh]
end
def Zy.owned(a:Zy):Ae:=[Ag a.rp,As a.fl,As a.ct,As a.rg,Ag a.md,.own 1 a.idn a.id,As a.kh,Ag a.kr]
abbrev ad0:Zy:=⟨0,0,0,0,0,0,[],0,0⟩
def vT(a:Zy):Int:=
 bif Du .i64 a.fl 64==0 then (bif a.md != 0 then 4 else bif ((a.idn:Nat):Int) != 0 then 4 else bif !(a.kh==0&&(a.kr==0&&true)) then 4 else 0)
 else bif ((a.idn:Nat):Int) != 176 then 4 else if E1 a.kh=true then 9 else 0
def vE(a:Zy):Int:=
 bif Y0 .i64 a.fl 93 != 0 then 9 else bif decide (a.ct<0) then 9 else bif decide (a.ct>16) then 9 else bif decide (a.rg<0) then 9 else bif decide (a.rg>=16) then 9 else
 bif Du .i64 a.fl 16 != 0 then (bif Du .i64 a.fl 8==0 then 18 else vT a) else vT a
theorem Avn(a:Int):(a != 0) = !(a==0):=rfl
section
variable {fu d:Nat}
theorem Abg(a:Zy)(k:Int):Ac C1 prog fu (d+1) 82 [.agg a.cells,As k]=some ⟨[C5 (Du .i64 a.fl k != 0)],[]⟩:=
 (UY fu d a.rp a.fl a.ct a.rg a.md a.idn a.id a.kh a.kr k).trans (by simp only[Be,Bd])
set_option maxHeartbeats 1000000 in
theorem All(Bv:1000<=fu)(a:Zy):Ac C1 prog fu (d+3) 85 [.agg a.cells]=some ⟨[As (vE a)],[]⟩:=by
 have h8:=Abg (fu:=fu) (d:=d+1) a 8;have h16:=Abg (fu:=fu) (d:=d+1) a 16;have h64:=Abg (fu:=fu) (d:=d+1) a 64;have ek0:=Apw (xs:=WR) (fu:=fu) (d:=d) Bv ⟨a.kh,a.kr⟩;simp only[Ky.cells] at ek0
 obtain⟨kn,kc,ek⟩:∃n c,Ac C1 prog fu (d+2) 128 [.agg [As a.kh,Ag a.kr]]=some ⟨[.own 1 n c,As (if E1 a.kh=true then 9 else 0)],[]⟩:=by
  by_cases bh:E1 a.kh=true
  ·exact⟨_,_,by rw[Ch bh] at ek0;rw[Ch bh];exact ek0⟩
  ·exact⟨_,_,by rw[Br bh] at ek0;rw[Br bh];exact ek0⟩
 simp only[Zy.cells] at h8 h16 h64;refine (DW fu (d+2) a.rp a.fl a.ct a.rg a.md a.idn a.id a.kh a.kr).trans ?_;unfold vE;cases b1:Y0 .i64 a.fl 93 != 0
 rotate_left
 ·simp only[Be,Bd,b1,cond_true]
 cases b2:decide (a.ct<0)
 rotate_left
 ·simp only[Be,Bd,b1,b2,cond_true,cond_false]
 cases b3:decide (a.ct>16)
 rotate_left
 ·simp only[Be,Bd,b1,b2,b3,cond_true,cond_false]
 cases b4:decide (a.rg<0)
 rotate_left
 ·simp only[Be,Bd,b1,b2,b3,b4,cond_true,cond_false]
 cases b5:decide (a.rg>=16)
 rotate_left
 ·simp only[Be,Bd,b1,b2,b3,b4,b5,cond_true,cond_false]
 simp only[Be,Bd,b1,b2,b3,b4,b5,cond_true,cond_false];clear b1 b2 b3 b4 b5;rw[Yu (Hs:=by omega)];unfold vT;simp only[Avn] at h8 h16 h64 ⊢;cases b16:Du .i64 a.fl 16==0<;>cases b8:Du .i64 a.fl 8==0<;>cases b64:Du .i64 a.fl 64==0<;>simp only[Be,Bd,h8,h16,h64,b8,b16,b64,cond_true,cond_false]
 all_goals first
  |(cases bm:a.md==0<;>cases bi:((a.idn:Nat):Int)==0<;>cases bk:(a.kh==0&&a.kr==0)<;>simp only[Be,Bd,bm,bi,bk,cond_true,cond_false]<;>done)
  |(cases bl:((a.idn:Nat):Int) != 176<;>simp only[Be,Bd,bl,ek,cond_true,cond_false])
theorem PL(n lo hi:Int):Ac C1 prog fu (d+1) 110 [As n,As lo,As hi]=some ⟨[C5 (decide (lo<=n)&&decide (n<=hi))],[]⟩:=by
 refine (Zj fu d n lo hi).trans ?_;by_cases h:lo<=n
 ·simp(disch:=omega)only[Be,Bd,h,decide_true,Zzm]
 ·simp(disch:=omega)only[Be,Bd,h,decide_false,VO]
set_option maxHeartbeats 1000000 in
theorem An7(Bv:1000<=fu)(a:Zy):Ac C1 prog fu (d+3) 67 [.agg a.cells]=some ⟨[As (vE a)],[]⟩:=by
 have w1:=PL (fu:=fu) (d:=d+1) a.ct 0 16;have w2:=PL (fu:=fu) (d:=d+1) a.rg 0 15;have ek0:=Ai3 (fu:=fu) (d:=d) Bv ⟨a.kh,a.kr⟩;simp only[Ky.cells] at ek0
 obtain⟨kn,kc,ek⟩:∃n c,Ac C1 prog fu (d+2) 68 [.agg [As a.kh,Ag a.kr]]=some ⟨[.own 1 n c,As (if E1 a.kh=true then 9 else 0)],[]⟩:=by
  by_cases bh:E1 a.kh=true
  ·exact⟨_,_,by rw[Ch bh] at ek0;rw[Ch bh];exact ek0⟩
  ·exact⟨_,_,by rw[Br bh] at ek0;rw[Br bh];exact ek0⟩
 refine (Ru fu (d+2) a.rp a.fl a.ct a.rg a.md a.idn a.id a.kh a.kr).trans ?_;unfold vE;cases b1:Y0 .i64 a.fl 93 != 0
 rotate_left
 ·simp only[Be,Bd,b1,cond_true]
 have q1:(decide ((0:Int)<=a.ct)&&decide (a.ct<=16))=(!decide (a.ct<0) && !decide (a.ct>16)):=by rw[Bool.eq_iff_iff];simp<;>omega
 have q2:(decide ((0:Int)<=a.rg)&&decide (a.rg<=15))=(!decide (a.rg<0) && !decide (a.rg>=16)):=by rw[Bool.eq_iff_iff];simp<;>omega
 rw[q1] at w1;rw[q2] at w2;cases b2:decide (a.ct<0)
 rotate_left
 ·rw[b2] at w1;simp only[F1,VO] at w1;simp only[Be,Bd,b1,w1,cond_true,cond_false]
 cases b3:decide (a.ct>16)
 rotate_left
 ·rw[b2,b3] at w1;simp only[F1,Hb,Bool.and_false] at w1;simp only[Be,Bd,b1,w1,cond_true,cond_false]
 rw[b2,b3] at w1;simp only[Hb,Bool.and_true] at w1;cases b4:decide (a.rg<0)
 rotate_left
 ·rw[b4] at w2;simp only[F1,VO] at w2;simp only[Be,Bd,b1,w1,w2,cond_true,cond_false]
 cases b5:decide (a.rg>=16)
 rotate_left
 ·rw[b4,b5] at w2;simp only[F1,Hb,Bool.and_false] at w2;simp only[Be,Bd,b1,w1,w2,cond_true,cond_false]
 rw[b4,b5] at w2;simp only[Hb,Bool.and_true] at w2;unfold vT;have gz:decide (((a.idn:Nat):Int)>0) = !(((a.idn:Nat):Int)==0):=by rw[Bool.eq_iff_iff];simp<;>omega
 rw[Avn] at b1;simp only[Be,Bd,Avn,b1,w1,w2,gz,cond_true,cond_false];cases b16:Du .i64 a.fl 16==0<;>cases b8:Du .i64 a.fl 8==0<;>cases b64:Du .i64 a.fl 64==0<;>simp only[Be,Bd,b8,b16,b64,cond_true,cond_false]
 all_goals first
  |(cases bm:a.md==0<;>cases bi:((a.idn:Nat):Int)==0<;>cases bk:(a.kh==0&&a.kr==0)<;>simp only[Be,Bd,bm,bi,bk,cond_true,cond_false]<;>done)
  |(cases bl:((a.idn:Nat):Int) != 176<;>simp only[Be,Bd,bl,ek,cond_true,cond_false])
end
def adN(b:Al):Zy:=⟨Abf (b.take 8),b.getD 8 0,b.getD 9 0,b.getD 10 0,0,0,[],0,0⟩
def adK(b:Al)(k:Ky):Zy:=⟨Abf (b.take 8),b.getD 8 0,b.getD 9 0,b.getD 10 0,Abf ((b.drop 11).take 8),176,Af .u8 ((b.drop 19).take 176),k.h,k.root⟩
def EX(b:Al):Option Zy:=
 if b.length=11 then (if Du .i64 (b.getD 8 0) 64=0 then (if vE (adN b)=0 then some (adN b) else none) else none)
 else if b.length=204 then (if Du .i64 (b.getD 8 0) 64=0 then none else match Aiw (b.drop 195) with|some k=>if vE (adK b k)=0 then some (adK b k) else none|none=>none)
 else none
theorem Al0{b:Al}(h:b.length=11)(hf:Du .i64 (b.getD 8 0) 64=0):EX b=if vE (adN b)=0 then some (adN b) else none:=by unfold EX;rw[Ch h,Ch hf]
theorem TI{b:Al}(hf:Du .i64 (b.getD 8 0) 64≠0):EX b=if b.length=204 then (match Aiw (b.drop 195) with|some k=>if vE (adK b k)=0 then some (adK b k) else none|none=>none) else none:=by
 unfold EX;by_cases h:b.length=11
 ·rw[Ch h,Br hf,Br (by omega)]
 ·rw[Br h];by_cases h2:b.length=204
  ·rw[Ch h2,Ch h2,Br hf]
  ·rw[Br h2,Br h2]
theorem Ars{b:Al}(h:b.length≠11)(hf:Du .i64 (b.getD 8 0) 64=0):EX b=none:=by
 unfold EX;rw[Br h];by_cases h2:b.length=204
 ·rw[Ch h2,Ch hf]
 ·rw[Br h2]
theorem Ar4{b:Al}(h:b.length≠11)(h2:b.length≠204):EX b=none:=by unfold EX;rw[Br h,Br h2]
def Ase(o:Option Zy):Ae:=match o with|some a=>[.agg a.owned,As 0]|none=>[.agg ad0.owned,As 2]
section
variable {fu d:Nat}
theorem Apl{call:Ap}{n:Nat}{c:Ae}{l:Al}(hl:l.length<=1000):∀(r:Al)(j nn:Nat)(x:Int),l.drop j=r->r.length<nn->j<=l.length ->
  Kl fu call n c nn x l.length (Af .u8 l) (l.length:Int) (j:Int)=some ⟨[Ag (r.foldl K5 x)],[]⟩:=by
 intro r
 induction r with
 |nil=>
  intro j nn x hd hn hj;obtain⟨m,rfl⟩:∃m,nn=m+1:=⟨nn-1,by omega⟩
  have:=drop_nil hd;rw[S5,F7 _ _ _ (by omega)];rfl
 |cons y r ih=>
  intro j nn x hd hn hj;obtain⟨m,rfl⟩:∃m,nn=m+1:=⟨nn-1,by omega⟩
  obtain⟨Ci,hy,hd'⟩:=Dx hd;have g:=R6 (k:=.u8) hy;have nt:Int.toNat (j:Int)=j:=Iq _;have w1:wrap .i64 ((j:Int)+1)=((j+1:Nat):Int):=Bl
  have e:=ih (j+1) m (K5 x y) hd' (by simp at hn;omega) (by omega)
  rw[S5];simp(disch:=omega)only[Be,Bd,nt,Jc,g,w1];exact e
theorem Ahh(Bv:1000<=fu){l:Al}(hl:l.length=8):Ac C1 prog fu (d+1) 81 [.lst false 1 8 (Af .u8 l)]=some ⟨[Ag (Abf l)],[]⟩:=by refine (QF fu d 8 (Af .u8 l)).trans ?_;have e:=Apl (fu:=fu) (call:=Ac C1 prog fu d) (n:=8) (c:=Af .u8 l) (l:=l) (by omega) l 0 fu 0 rfl (by omega) (by omega);rw[hl] at e;exact e
theorem Ass{l:Al}(h:l.length≠9):Aiw l=none:=by unfold Aiw;rw[Br (fun q=>h q.1)]
theorem Aim{b:Al}(hb:Db b)(i:Nat):0<=b.getD i 0/\b.getD i 0<=255:=by
 rw[List.getD_eq_getElem?_getD];cases h:b[i]? with
 |none=>exact⟨by simp,by simp⟩
 |some y=>exact hb y (List.mem_of_getElem? h)
theorem Ajw{b:Al}{i:Nat}(h:i<b.length):(Af .u8 b).getD i .top=.sc (.int .u8 (b.getD i 0)):=by have g:b[i]?=some b[i]:=List.getElem?_eq_getElem h;have e:=R6 (k:=.u8) g;rw[e,List.getD_eq_getElem?_getD,g];rfl
set_option maxHeartbeats 2000000 in
theorem A0w(Bv:1000<=fu){b:Al}(hb:Db b)(hl:b.length<=100000):Ac C1 prog fu (d+4) 47 [.lst false 1 b.length (Af .u8 b)]=some ⟨Ase (EX b),[]⟩:=by
 refine (KK fu (d+3) b.length (Af .u8 b)).trans ?_;by_cases h11:b.length<11
 ·have a1:=dT (q:=((b.length:Nat):Int)<11) (by omega);rw[Ar4 (by omega) (by omega)];simp only[Be,Bd,a1];rfl
 have a1:=dF (q:=((b.length:Nat):Int)<11) (by omega);have c1:=dT (q:=8<=b.length) (by omega);have c2:=dT (q:=(8:Int)<((b.length:Nat):Int)) (by omega);have c3:=dT (q:=(9:Int)<((b.length:Nat):Int)) (by omega);have c4:=dT (q:=(10:Int)<((b.length:Nat):Int)) (by omega);have d1:List.take 8 (List.drop 0 (Af .u8 b))=Af .u8 (b.take 8):=by rw[Ls,G8]
 have wd:=Ahh (fu:=fu) (d:=d+2) Bv (l:=b.take 8) (by rw[List.length_take];omega)
 have g8:=Ajw (b:=b) (i:=8) (by omega);have g9:=Ajw (b:=b) (i:=9) (by omega);have g10:=Ajw (b:=b) (i:=10) (by omega);have u8:wrap .i64 (b.getD 8 0)=b.getD 8 0:=by have:=Aim hb 8;exact Bj
 have u9:wrap .i64 (b.getD 9 0)=b.getD 9 0:=by have:=Aim hb 9;exact Bj
 have u10:wrap .i64 (b.getD 10 0)=b.getD 10 0:=by have:=Aim hb 10;exact Bj
 have hs:=Abg (fu:=fu) (d:=d+2) (adN b) 64;simp only[Zy.cells,adN] at hs;cases hf:Du .i64 (b.getD 8 0) 64 != 0 with
 |false=>
  rw[hf] at hs;have hf0:Du .i64 (b.getD 8 0) 64=0:=by simpa using hf
  by_cases hgt:11<b.length
  ·have a2:=dT (q:=((b.length:Nat):Int)>11) (by omega);rw[Ars (by omega) hf0];simp only[Be,Bd,a1,c1,c2,c3,c4,d1,wd,g8,g9,g10,u8,u9,u10,hs,a2];rfl
  have a2:=dF (q:=((b.length:Nat):Int)>11) (by omega);have vd:=All (fu:=fu) (d:=d) Bv (adN b);rw[Al0 (by omega) hf0];by_cases hv:vE (adN b)=0
  ·rw[Ch hv];rw[hv] at vd;simp only[Zy.cells,adN] at vd;have z:((0:Int) != 0)=false:=rfl;simp only[Be,Bd,a1,c1,c2,c3,c4,d1,wd,g8,g9,g10,u8,u9,u10,hs,a2,vd,z];rfl
  ·rw[Br hv];have z:(vE (adN b) != 0)=true:=by simpa using hv
   generalize vE (adN b)=ve at vd z;simp only[Zy.cells,adN] at vd;simp only[Be,Bd,a1,c1,c2,c3,c4,d1,wd,g8,g9,g10,u8,u9,u10,hs,a2,vd,z];rfl
 |true=>
  rw[hf] at hs;have hf0:Du .i64 (b.getD 8 0) 64≠0:=by simpa using hf
  by_cases Bo5:b.length<195
  ·have a2:=dT (q:=((b.length:Nat):Int)<195) (by omega);rw[TI hf0,Br (by omega)];simp only[Be,Bd,a1,c1,c2,c3,c4,d1,wd,g8,g9,g10,u8,u9,u10,hs,a2];rfl
  have a2:=dF (q:=((b.length:Nat):Int)<195) (by omega);have a3:=dT (q:=195<=b.length) (by omega);have a4:=dT (q:=b.length<=b.length) (Cd _)
  have d2:List.take ((b.length-195)*1) (List.drop 195 (Af .u8 b))=Af .u8 (b.drop 195):=by
   rw[I8];exact Iu (by rw[An,List.length_drop];omega)
  have dk:=Ao0 (xs:=WR) (fu:=fu) (d:=d+1) Bv (l:=b.drop 195) (hb.drop 195);rw[List.length_drop] at dk;cases hk:Aiw (b.drop 195) with
  |none=>
   rw[hk] at dk;simp only[Aj0,Ky.cells] at dk
   have e:EX b=none:=by
    rw[TI hf0,hk];split<;>rfl
   have z:((2:Int) != 0)=true:=rfl;rw[e];simp only[Be,Bd,a1,c1,c2,c3,c4,d1,wd,g8,g9,g10,u8,u9,u10,hs,a2,a3,a4,d2,dk,z];rfl
  |some k=>
   rw[hk] at dk;simp only[Aj0,Ky.cells] at dk
   have Bgl:b.length=204:=by
    rcases Nat.decEq (b.drop 195).length 9 with q|q
    ·rw[Ass q] at hk;cases hk
    ·rw[List.length_drop] at q;omega
   have z0:((0:Int) != 0)=false:=rfl;have a5:=dT (q:=19<=b.length) (by omega);have d3:List.take 8 (List.drop 11 (Af .u8 b))=Af .u8 ((b.drop 11).take 8):=by rw[I8,G8]
   have wd2:=Ahh (fu:=fu) (d:=d+2) Bv (l:=(b.drop 11).take 8) (by rw[List.length_take,List.length_drop];omega)
   have d4:List.take 176 (List.drop 19 (Af .u8 b))=Af .u8 ((b.drop 19).take 176):=by rw[I8,G8]
   have li:(Af .u8 ((b.drop 19).take 176)).length=176:=by rw[An,List.length_take,List.length_drop];omega
   have cb:=YV (xs:=WR) (fu:=fu) (d:=d+2) (n:=176) (c:=Af .u8 ((b.drop 19).take 176)) li (by omega);have c5:decide (0+176*1<=List.length (Af .u8 ((b.drop 19).take 176)))=true:=dT (by omega);have t1:List.take (176*1) (List.drop 0 (Af .u8 ((b.drop 19).take 176)))=Af .u8 ((b.drop 19).take 176):=Iu (by rw[Ls];omega)
   have c6:decide (176*1<=List.length (Af .u8 ((b.drop 19).take 176)))=true:=dT (by omega);have t2:List.take (176*1) (Af .u8 ((b.drop 19).take 176))=Af .u8 ((b.drop 19).take 176):=Iu (by omega);have vd:=All (fu:=fu) (d:=d) Bv (adK b k);rw[TI hf0,Ch Bgl,hk];by_cases hv:vE (adK b k)=0
   ·simp only[hv,if_true];rw[hv] at vd;simp only[Zy.cells,adK] at vd;simp only[Be,Bd,a1,c1,c2,c3,c4,d1,wd,g8,g9,g10,u8,u9,u10,hs,a2,a3,a4,d2,dk,z0,a5,d3,wd2,d4,cb,c5,t1,vd,c6,t2];rfl
   ·simp only[hv,if_false];have z:(vE (adK b k) != 0)=true:=by simpa using hv
    generalize vE (adK b k)=ve at vd z;simp only[Zy.cells,adK] at vd;simp only[Be,Bd,a1,c1,c2,c3,c4,d1,wd,g8,g9,g10,u8,u9,u10,hs,a2,a3,a4,d2,dk,z0,a5,d3,wd2,d4,cb,c5,t1,vd,z];rfl
end
structure Cf where
 rp:ByteArray
 ti:ByteArray
 os:List ByteArray
 p:WN
 sec:Int
 kh:Int
 kr:Int
def EF(l:List ByteArray):Ae:=l.flatMap fun s=>[Bm s]
theorem A4w{l:List ByteArray}{i:Nat}{s:ByteArray}(h:l[i]?=some s):(EF l).getD (i*1) .top=Bm s:=IE (k:=1) (fun _=>rfl) h (j:=0) (by omega)
def Cf.cells(c:Cf):Ae:=[Bm (c.rp),Bm (c.ti),.lst false 1 c.os.length (EF c.os),As c.p.vf,C5 (c.p.rs),As c.p.ht,As c.p.pr,C5 (c.p.sh),As c.p.fm,C5 (c.p.od),.lst false 1 c.p.dn.length (Af .u64 c.p.dn),As c.p.op,Ag c.sec,As c.kh,Ag c.kr]
structure Cf.ok(c:Cf):Prop where
 rp:c.rp.size<=100000
 os:c.os.length<=1000
 dn:c.p.dn.length<=1000
structure Rq where
 kind:Int
 cd:ByteArray
 ad:Al
 sg:Al
 cn:Nat
 cc:Ae
 fm:Int
 id:Al
 us:ByteArray
def Rq.cells(r:Rq):Ae:=[As r.kind,Bm (r.cd),.lst false 1 r.ad.length (Af .u8 r.ad),.lst false 1 r.sg.length (Af .u8 r.sg),.lst false 1 r.cn r.cc,As r.fm,.lst false 1 r.id.length (Af .u8 r.id),Bm (r.us)]
structure Rq.ok(r:Rq):Prop where
 cd:r.cd.size<=100000
 adB:Db r.ad
 ad:r.ad.length<=90000
 sgB:Db r.sg
structure Mn where
 k:Int
 na:Nat
 an:Ae
 st:List (Int × Int)
def Mn.cells(e:Mn):Ae:=[Ag e.k,.lst false 3 e.na e.an,.lst false 2 e.st.length (Pk e.st)]
def mnC(l:List Mn):Ae:=l.flatMap Mn.cells
structure Mt where
 v:Int
 i:Int
 x:Int
 es:List Mn
 lf:Int
 n1:Nat
 c1:Ae
 n2:Nat
 c2:Ae
def Mt.cells(m:Mt):Ae:=[As m.v,As m.i,As m.x,.lst false 3 m.es.length (mnC m.es),As m.lf,.lst false 1 m.n1 m.c1,.lst false 1 m.n2 m.c2]
structure Mt.ok(m:Mt):Prop where
 n:m.es.length<=1000
 e:∀e∈m.es,e.an.length=e.na*3/\e.na<=1000/\e.st.length<=1000
def stS(m:Mt)(model now:Int):Int:=G7 now (match m.es.find? fun e=>e.k==model with|some e=>e.st|none=>[])
theorem Axg(l:List Mn):(mnC l).length=l.length*3:=RT (f:=Mn.cells) (k:=3) (fun _=>rfl) l
def mnE(e:Mn):En:=⟨e.k,e.na,e.an,e.st.length,Pk e.st⟩
theorem Aao:∀{l:List Mn},(∀e∈l,e.an.length=e.na*3/\e.na<=1000/\e.st.length<=1000)->Ym (mnC l)=some (l.map mnE)
 |[],_=>rfl
 |x::l,h=>by
  have h0:=h x (by simp);have ih:=Aao (l:=l) fun y hy=>h y (by simp[hy])
  have b:(Nat.beq x.an.length (x.na*3)&&Nat.beq (Pk x.st).length (x.st.length*2)&&Nat.ble x.na 1000&&Nat.ble x.st.length 1000)=true:=by
   rw[Pj,h0.1];simp only[Oq,Zzm,Fe];exact⟨Nat.ble_eq_true_of_le h0.2.1,Nat.ble_eq_true_of_le h0.2.2⟩
  show Ym (Ag x.k :: .lst false 3 x.na x.an :: .lst false 2 x.st.length (Pk x.st)::mnC l)=_;rw[Ym,b,cond_true,ih];rfl
theorem WM:∀(l:List (Int × Int)),Rp (Pk l)=some l
 |[]=>rfl
 |s::l=>by
  show Rp (As s.1 :: As s.2::Pk l)=_;rw[Rp,WM l];rfl
theorem Ana(model:Int):∀(l:List Mn),Akl model (l.map mnE)=match l.find? fun e=>e.k==model with|some e=>Pk e.st|none=>[]
 |[]=>rfl
 |x::l=>by
  have ih:=Ana model l;unfold Akl at ih ⊢;by_cases h:x.k=model
  ·rw[Xv,List.find?_cons_of_pos (by simpa [mnE] using h),List.find?_cons_of_pos (by simpa using h)];rfl
  ·rw[Xv,List.find?_cons_of_neg (by simpa [mnE] using h),List.find?_cons_of_neg (by simpa using h)];exact ih
def inO(os:List ByteArray)(s:ByteArray):Bool:=os.any fun o=>Array.toList s.data==Array.toList o.data
def Aig(os:List ByteArray)(k:Int)(ch:Al)(r:Rq):Int:=
 bif r.kind != k then 3 else match Nk r.cd with
 |.error e=>bif e != 0 then e else 3
 |.ok (j,b,o,x,q)=>bif j != k then 3 else bif !eqB b ch then 35 else bif !inO os (Ab o) then 34 else bif x then (bif !inO os (Ab q) then 34 else 0) else 0
section
variable {fu d:Nat}
theorem Anp(fu d:Nat)(args:Ae):Ac C1 prog fu (d+1) 54 args=Anm args:=by kernel_rfl
theorem Asj{m:Mt}(hm:m.ok)(model now:Int):Ac C1 prog fu (d+1) 54 [.agg m.cells,Ag model,As now]=some ⟨[As (stS m model now)],[]⟩:=by
 rw[Anp]
 have b:(Nat.beq (mnC m.es).length (m.es.length*3)&&Nat.ble m.es.length 1000)=true:=by
  rw[Axg];simp only[Oq,Zzm];exact Nat.ble_eq_true_of_le hm.n
 show (bif (Nat.beq (mnC m.es).length (m.es.length*3)&&Nat.ble m.es.length 1000) then _ else none)=_;rw[b,cond_true,Aao hm.e];simp only;rw[Ana];unfold stS;cases m.es.find? fun e=>e.k==model with
 |none=>rfl
 |some e=>
  simp only;rw[WM]
theorem Ao6{call:Ap}{n:Nat}{c:Ae}{t s:ByteArray}{os:List ByteArray}(hl:os.length<=1000):∀(r:List ByteArray)(i nn:Nat),os.drop i=r->r.length<nn->i<=os.length ->
  ∃v:Int,decide (v>=0)=inO r s/\Gi fu call n c t nn os.length (EF os) s (os.length:Int) (i:Int)=some ⟨[As v],[]⟩:=by
 intro r
 induction r with
 |nil=>
  intro i nn hd hn hi;obtain⟨m,rfl⟩:∃m,nn=m+1:=⟨nn-1,by omega⟩
  have:=drop_nil hd;refine⟨-1,rfl,?_⟩;rw[Ld,F7 _ _ _ (by omega)]
 |cons o r ih=>
  intro i nn hd hn hi;obtain⟨m,rfl⟩:∃m,nn=m+1:=⟨nn-1,by omega⟩
  obtain⟨Ci,ho,hd'⟩:=Dx hd;have g:=A4w ho;have nt:Int.toNat (i:Int)=i:=Iq _;have w1:wrap .i64 ((i:Int)+1)=((i+1:Nat):Int):=Bl
  have k1:=dT (q:=(i:Int)<((os.length:Nat):Int)) (by omega);have k2:=dT (q:=(0:Int)<=(i:Int)) (by omega);rw[Ld];cases hk:Array.toList s.data==Array.toList o.data with
  |true=>
   refine⟨(i:Int),by unfold inO;rw[List.any_cons,hk,Bool.true_or];exact dT (by omega),?_⟩
   simp only[Be,Bd,k1,k2,nt,g,hk]
  |false=>
   obtain⟨v,h1,h2⟩:=ih (i+1) m hd' (by simp at hn;omega) (by omega)
   refine⟨v,by rw[h1];unfold inO;rw[List.any_cons,hk,Bool.false_or],?_⟩
   simp only[Be,Bd,k1,k2,nt,g,hk,w1];exact h2
theorem A21(Bv:2000<=fu){os:List ByteArray}(hl:os.length<=1000)(s:ByteArray):Ac C1 prog fu (d+2) 80 [.lst false 1 os.length (EF os),Bm s]=some ⟨[C5 (inO os s)],[]⟩:=by obtain⟨v,h1,h2⟩:=Ao6 (fu:=fu) (call:=Ac C1 prog fu d) (n:=os.length) (c:=EF os) (t:=s) (s:=s) hl os 0 fu rfl (by omega) (by omega);have e:Ac C1 prog fu (d+1) 127 [.lst false 1 os.length (EF os),Bm s]=some ⟨[As v],[]⟩:=(Zx fu d os.length (EF os) s).trans h2;refine (Vm fu (d+1) os.length (EF os) s).trans ?_;simp only[Be,Bd,e];rw[h1]
set_option maxHeartbeats 2000000 in
theorem Az6(Bv:1000400<=fu){c:Cf}(hc:c.ok)(ch:Al){r:Rq}(hr:r.ok):Ac C1 prog fu (d+3) 45 [.agg c.cells,.lst false 1 ch.length (Af .u8 ch),.agg r.cells]=some ⟨[As (Aig c.os 2 ch r)],[]⟩:=by
 refine (Vp fu (d+2) c.rp c.ti c.os.length (EF c.os) c.p.vf c.p.rs c.p.ht c.p.pr c.p.sh c.p.fm c.p.od c.p.dn.length (Af .u64 c.p.dn) c.p.op c.sec c.kh c.kr ch.length (Af .u8 ch) r.kind r.cd r.ad.length (Af .u8 r.ad) r.sg.length (Af .u8 r.sg) r.cn r.cc r.fm r.id.length (Af .u8 r.id) r.us).trans ?_;unfold Aig;cases h1:r.kind != 2
 rotate_left
 ·simp only[Be,Bd,h1,cond_true]
 have e:Ac C1 prog fu (d+2) 79 [Bm (r.cd)]=Da [Bm (r.cd)]:=rfl;unfold Da at e;simp only[dT (q:=r.cd.size<=9223372036854775807) (by have:=hr.cd;omega),cond_true] at e
 cases hp:Nk r.cd with
 |error ee=>
  rw[hp] at e;have e:Ac C1 prog fu (d+2) 79 [Bm (r.cd)]=some ⟨[.agg [As 0,.lst false 1 0 [],Bm ⟨#[]⟩,C5 false,Bm ⟨#[]⟩],As ee],[]⟩:=e;have z:((0:Int) != 2)=true:=rfl;cases h2:ee != 0
  ·simp only[Be,Bd,h1,e,h2,z,cond_false]
  ·simp only[Be,Bd,h1,e,h2,cond_true,cond_false]
 |ok v=>
  obtain⟨k,b,o,x,q⟩:=v;rw[hp] at e;have e:Ac C1 prog fu (d+2) 79 [Bm (r.cd)]=some ⟨[.agg [As k,.lst false 1 b.length (Af .u8 b),Bm (Ab o),C5 x,Bm (Ab q)],As 0],[]⟩:=e;have z:((0:Int) != 0)=false:=rfl;have be:=Af1 (fu:=fu) (d:=d+1) b ch;have o1:=A21 (fu:=fu) (d:=d) (by omega) hc.os (Ab o);have o2:=A21 (fu:=fu) (d:=d) (by omega) hc.os (Ab q);simp only;cases h2:k != 2
  rotate_left
  ·simp only[Be,Bd,h1,e,z,h2,cond_true,cond_false]
  cases h3:eqB b ch
  ·rw[h3] at be;simp only[Be,Bd,h1,e,z,h2,be,cond_true,cond_false]
  rw[h3] at be;cases h4:inO c.os (Ab o)
  ·rw[h4] at o1;simp only[Be,Bd,h1,e,z,h2,be,o1,cond_true,cond_false]
  rw[h4] at o1;cases x with
  |false=>simp only[Be,Bd,h1,e,z,h2,be,o1,cond_true,cond_false]
  |true=>
   cases h5:inO c.os (Ab q)
   ·rw[h5] at o2;simp only[Be,Bd,h1,e,z,h2,be,o1,o2,cond_true,cond_false]
   ·rw[h5] at o2;simp only[Be,Bd,h1,e,z,h2,be,o1,o2,cond_true,cond_false]
end
abbrev sd0:Sd:=⟨[],0,0,0,0,false,0,[],false,0,0⟩
def Ahl(c:Cf)(m:Mt)(s:Sd)(now:Int)(r:Rq)(a:Zy)(g:Sg):Sd × Int:=
 bif PY ⟨s.ht,s.root⟩ (GL r.ad (Fb 11 (Dk r.cd))) g != 0 then (sd0,PY ⟨s.ht,s.root⟩ (GL r.ad (Fb 11 (Dk r.cd))) g) else
 bif a.ct != wrap .i64 (g.leaf+1) then (sd0,33) else
 bif Aez c.p a s.sh s.model (stS m s.model now) != 0 then (sd0,Aez c.p a s.sh s.model (stS m s.model now)) else
 bif (Ig s g.leaf a.rg now).2 != 0 then (bif (Ig s g.leaf a.rg now).2 != 37 then (sd0,(Ig s g.leaf a.rg now).2) else Ig s g.leaf a.rg now) else Ig s g.leaf a.rg now
def Afa(c:Cf)(m:Mt)(s:Sd)(now:Int)(r:Rq)(a:Zy):Sd × Int:=
 bif Du .i64 a.fl 64 != 0 then (sd0,4) else
 bif a.rp != Fb 9 (Dk c.rp) then (sd0,34) else
 match sgD r.sg with|none=>(sd0,2)|some g=>Ahl c m s now r a g
def Pq(c:Cf)(m:Mt)(s:Sd)(ch:Al)(now:Int)(r:Rq):Sd × Int:=
 bif decide (now<0) then (sd0,9) else bif decide (now>1099511627776) then (sd0,9) else
 bif Aig c.os 2 ch r != 0 then (sd0,Aig c.os 2 ch r) else
 bif !eqB r.id s.id then (sd0,36) else
 match EX r.ad with|none=>(sd0,2)|some a=>Afa c m s now r a
theorem Aq1{b:Al}{a:Zy}(h:EX b=some a)(h2:Du .i64 a.fl 64=0):a.idn=0/\a.id=[]:=by
 unfold EX at h;split at h
 ·split at h
  ·split at h
   ·cases h;exact⟨rfl,rfl⟩
   ·cases h
  ·cases h
 ·split at h
  ·split at h
   ·cases h
   ·rename_i q;split at h
    ·split at h
     ·cases h;exact absurd h2 q
     ·cases h
    ·cases h
  ·cases h
def Sd.stc(s:Sd):Stc:=⟨s.id.length,Af .u8 s.id,s.ht,s.root,s.model,s.fmt,s.sh,s.used,s.rg.length,Pk s.rg,s.sus,s.since,s.last⟩
section
variable {fu d:Nat}
set_option maxHeartbeats 8000000 in
theorem HQ(Bv:1000400<=fu){c:Cf}(hc:c.ok){m:Mt}(hm:m.ok){s:Sd}(hs:s.ok)(ch:Al)(now:Int){r:Rq}(hr:r.ok):
  Ac C1 prog fu (d+9) 23 [.agg c.cells,.agg m.cells,.agg s.cells,.lst false 1 ch.length (Af .u8 ch),As now,.agg r.cells]=some ⟨[.agg (Pq c m s ch now r).1.cells,As (Pq c m s ch now r).2],[]⟩:=by
 refine (QQ fu (d+8) c.rp c.ti c.os.length (EF c.os) c.p.vf c.p.rs c.p.ht c.p.pr c.p.sh c.p.fm c.p.od c.p.dn.length (Af .u64 c.p.dn) c.p.op c.sec c.kh c.kr m.v m.i m.x m.es.length (mnC m.es) m.lf m.n1 m.c1 m.n2 m.c2 s.id.length (Af .u8 s.id) s.ht s.root s.model s.fmt s.sh s.used s.rg.length (Pk s.rg) s.sus s.since s.last ch.length (Af .u8 ch) now r.kind r.cd r.ad.length (Af .u8 r.ad) r.sg.length (Af .u8 r.sg) r.cn r.cc r.fm r.id.length (Af .u8 r.id) r.us).trans ?_;unfold Pq;cases n1:decide (now<0)
 rotate_left
 ·simp only[Be,Bd,n1,cond_true];rfl
 cases n2:decide (now>1099511627776)
 rotate_left
 ·simp only[Be,Bd,n1,n2,cond_true,cond_false];rfl
 have cl:=Az6 (fu:=fu) (d:=d+5) Bv hc ch hr;simp only[Cf.cells,Rq.cells] at cl;cases h1:Aig c.os 2 ch r != 0
 rotate_left
 ·simp only[Be,Bd,n1,n2,cl,h1,cond_true,cond_false];rfl
 have be:=Af1 (fu:=fu) (d:=d+7) r.id s.id;cases h2:eqB r.id s.id
 ·rw[h2] at be;simp only[Be,Bd,n1,n2,cl,h1,be,cond_true,cond_false];rfl
 rw[h2] at be;have da:=A0w (fu:=fu) (d:=d+4) (by omega) hr.adB (by have:=hr.ad;omega)
 have z0:((0:Int) != 0)=false:=rfl;have z2:((2:Int) != 0)=true:=rfl;cases ha:EX r.ad with
 |none=>
  rw[ha] at da;simp only[Ase,Zy.owned] at da;simp only[Be,Bd,n1,n2,cl,h1,be,da,z2,cond_true,cond_false];rfl
 |some a=>
  rw[ha] at da;simp only[Ase,Zy.owned] at da;simp only;unfold Afa;cases h3:Du .i64 a.fl 64 != 0
  rotate_left
  ·simp only[Be,Bd,n1,n2,cl,h1,be,da,z0,h3,cond_true,cond_false];rfl
  obtain⟨i1,i2⟩:=Aq1 ha (by simpa using h3);rw[i1,i2] at da;have rp:=A3o (fu:=fu) (d:=d+2) (s:=c.rp) (by have:=hc.rp;omega) Bv
  cases h4:a.rp != Fb 9 (Dk c.rp)
  rotate_left
  ·simp only[Be,Bd,n1,n2,cl,h1,be,da,z0,h3,rp,h4,cond_true,cond_false];rfl
  have ds:=Aos (xs:=WR) (fu:=fu) (d:=d+6) (by omega) hr.sgB;cases hg:sgD r.sg with
  |none=>
   rw[hg] at ds;simp only[ZN,Sg.owned] at ds;simp only[Be,Bd,n1,n2,cl,h1,be,da,z0,z2,h3,rp,h4,ds,cond_true,cond_false];rfl
  |some g=>
   rw[hg] at ds;simp only[ZN,Sg.owned] at ds;simp only;unfold Ahl;have hh:=Att (fu:=fu) (d:=d+2) (s:=r.cd) (by have:=hr.cd;omega) Bv
   have hw:=Azq (fu:=fu) (d:=d+2) hr.adB (by have:=hr.ad;omega) Bv (Fb 11 (Dk r.cd))
   have vf:=Anr (xs:=WR) (fu:=fu) (d:=d+0) (by omega) ⟨s.ht,s.root⟩ (GL r.ad (Fb 11 (Dk r.cd))) g;simp only[Ky.cells,Sg.cells] at vf;have Lc:=An .u64 g.chains;have Lp:=An .u64 g.path;have k1:decide (0+g.chains.length*1<=List.length (Af .u64 g.chains))=true:=dT (by omega);have k2:decide (0+g.path.length*1<=List.length (Af .u64 g.path))=true:=dT (by omega);have t1:List.take (g.chains.length*1) (List.drop 0 (Af .u64 g.chains))=Af .u64 g.chains:=Iu (by rw[Ls];omega)
   have t2:List.take (g.path.length*1) (List.drop 0 (Af .u64 g.path))=Af .u64 g.path:=Iu (by rw[Ls];omega)
   obtain⟨W,hW⟩:∃W,PY ⟨s.ht,s.root⟩ (GL r.ad (Fb 11 (Dk r.cd))) g=W:=⟨_,rfl⟩
   rw[hW] at vf ⊢;cases h5:W != 0
   rotate_left
   ·simp only[Be,Bd,n1,n2,cl,h1,be,da,z0,h3,rp,h4,ds,hh,hw,k1,k2,t1,t2,vf,h5,cond_true,cond_false];rfl
   cases h6:a.ct != wrap .i64 (g.leaf+1)
   rotate_left
   ·simp only[Be,Bd,n1,n2,cl,h1,be,da,z0,h3,rp,h4,ds,hh,hw,k1,k2,t1,t2,vf,h5,h6,cond_true,cond_false];rfl
   have st:=Asj (fu:=fu) (d:=d+7) hm s.model now;simp only[Mt.cells] at st;have sg:=A7b (fu:=fu) (d:=d+4) c.p (by have:=hc.dn;simp only[maxLen];omega) (by have:=hc.dn;omega) a s.stc (stS m s.model now)
   simp only[WN.cells,Zy.cells,Stc.cells,Sd.stc] at sg;rw[i1,i2] at sg;have c0:decide (0+0*1<=List.length ([]:Ae))=true:=rfl;have t0:List.take (0*1) (List.drop 0 ([]:Ae))=[]:=rfl;obtain⟨G,hG⟩:∃G,Aez c.p a s.sh s.model (stS m s.model now)=G:=⟨_,rfl⟩
   rw[hG] at sg ⊢;cases h7:G != 0
   rotate_left
   ·simp only[Be,Bd,n1,n2,cl,h1,be,da,z0,h3,rp,h4,ds,hh,hw,k1,k2,t1,t2,vf,h5,h6,st,c0,t0,sg,h7,cond_true,cond_false];rfl
   have ac:=Aqr (fu:=fu) (d:=d+4) hs (by omega) g.leaf a.rg now;obtain⟨Z,hZ⟩:∃Z,Ig s g.leaf a.rg now=Z:=⟨_,rfl⟩
   rw[hZ] at ac ⊢;simp only[Sd.cells] at ac ⊢;cases h8:Z.2 != 0
   ·simp only[Be,Bd,n1,n2,cl,h1,be,da,z0,h3,rp,h4,ds,hh,hw,k1,k2,t1,t2,vf,h5,h6,st,c0,t0,sg,h7,ac,h8,cond_true,cond_false]
   cases h9:Z.2 != 37
   ·simp only[Be,Bd,n1,n2,cl,h1,be,da,z0,h3,rp,h4,ds,hh,hw,k1,k2,t1,t2,vf,h5,h6,st,c0,t0,sg,h7,ac,h8,h9,cond_true,cond_false]
   ·simp only[Be,Bd,n1,n2,cl,h1,be,da,z0,h3,rp,h4,ds,hh,hw,k1,k2,t1,t2,vf,h5,h6,st,c0,t0,sg,h7,ac,h8,h9,cond_true,cond_false];rfl
end
abbrev exS:ByteArray:=ByteArray.mk #[101,120,97,109,112,108,101,46,99,111,109]
abbrev tiS:ByteArray:=ByteArray.mk #[69,120,97,109,112,108,101]
abbrev oxS:ByteArray:=ByteArray.mk #[104,116,116,112,115,58,47,47,101,120,97,109,112,108,101,46,99,111,109]
abbrev olS:ByteArray:=ByteArray.mk #[104,116,116,112,115,58,47,47,108,111,103,105,110,46,101,120,97,109,112,108,101,46,99,111,109]
abbrev cfW(p:WN)(sec:Int):Cf:=⟨exS,tiS,[oxS,olS],p,sec,4,(V9 31 4).root⟩
theorem Ajp{p:WN}(h:p.dn.length<=2)(sec:Int):(cfW p sec).ok:=⟨by show exS.size<=_;decide,by show (2:Nat)<=1000;omega,by show p.dn.length<=1000;omega⟩
abbrev NM:WN:=⟨0,false,1,1,false,0,false,[],50⟩
def Nl(sh vf:Bool):Int:=if vf=true then (if sh=true then 13 else 5) else if sh=true then 9 else 1
def Q0(a:Zy):Al:=if vE a=0 then B5 a.rp++[wrap .u8 a.fl,wrap .u8 a.ct,wrap .u8 a.rg] else []
def asT(ch o:Al):ByteArray:=Ab (match QL 2 ch o [] false with | .ok s=>s | .error _=>[])
def BV(rp:ByteArray)(sh vf:Bool)(leaf f:Int):Zy:=⟨Fb 9 (Dk rp),Nl sh vf,wrap .i64 (leaf+1),f,0,0,[],0,0⟩
def asG(seed h leaf m:Int):Al:=match Afc seed h leaf m with|some s=>sgB s|none=>[]
def XM(seed h:Int)(id:Al)(sh:Bool)(rp:ByteArray)(o ch:Al)(vf:Bool)(leaf f:Int)(us:ByteArray):Rq:=
 ⟨2,asT ch o,Q0 (BV rp sh vf leaf f),asG seed h leaf (GL (Q0 (BV rp sh vf leaf f)) (Fb 11 (Dk (asT ch o)))),0,[],0,id,us⟩
theorem WG{ch o:Al}(ho:o.length<=50000):(asT ch o).size<=60000:=by
 unfold asT;rw[Ai];cases h:QL 2 ch o [] false with
 |error e=>simp
 |ok s=>
  simp only;unfold QL at h;have ty:tyS 2=some tyG:=rfl;rw[ty] at h;simp only at h;split at h
  ·cases h
  split at h
  ·cases h
  simp only[if_true] at h;cases h;have hel:=RF ch;rename_i hc _;simp only[fmH,RA,WP,fA3,fA4,tyG,Vk,Tt,YX];omega
theorem VZ(a:Zy):(Q0 a).length<=11:=by
 unfold Q0;split
 ·rw[Vk,C8];simp
 ·simp
theorem UI(v:Int):0<=wrap .u8 v/\wrap .u8 v<=255:=by
 have:wrap .u8 v=v % 256:=by simp[wrap,IntKind.bits,IntKind.signed]
 omega
theorem Ajc(a:Zy):Db (Q0 a):=by
 unfold Q0;split
 ·refine Ab4 (KH _) ?_;intro x hx;simp only[Ce,AE,or_false] at hx;rcases hx with rfl|rfl|rfl<;>exact UI _
 ·intro x hx;cases hx
theorem A1l(seed h leaf m:Int):Db (asG seed h leaf m):=by
 unfold asG;split
 ·exact Bbm _
 ·intro x hx;cases hx
theorem Axs{seed h:Int}{id:Al}{sh:Bool}{rp:ByteArray}{o ch:Al}{vf:Bool}{leaf f:Int}{us:ByteArray}(ho:o.length<=50000):(XM seed h id sh rp o ch vf leaf f us).ok:=
 ⟨by have:=WG (ch:=ch) ho;show (asT ch o).size<=_;omega,Ajc _,by have:=VZ (BV rp sh vf leaf f);show (Q0 _).length<=_;omega,A1l _ _ _ _⟩
section
variable {fu d:Nat}
theorem Akn(Bv:1000<=fu)(seed h:Int):Ac C1 prog fu (d+13) 30 [Ag seed,As h]=some ⟨[.agg (V9 seed h).cells],[]⟩:=by refine (JL fu (d+12) seed h).trans ?_;have p:=Aic (fu:=fu) (d:=d) Bv seed h;simp only[Ky.cells] at p ⊢;simp only[Be,Bd,p]
theorem Bhs{l:Al}(hl:l.length<=maxLen)(a:Nat):∃(p:WN)(a':Nat),p.dn.length<=2 /\
  ∀{fu d:Nat},Ac C1 prog fu (d+3) 29 [.pbox (HW l a)]=some ⟨[.agg p.own],[HW l a']⟩:=by
 obtain⟨v1,a1,l1,u1,e1⟩:=Ko hl a 3 (by omega) (by omega);obtain⟨v2,a2,l2,u2,e2⟩:=Ko hl a1 2 (by omega) (by omega);obtain⟨v3,a3,l3,u3,e3⟩:=Ko hl a2 2 (by omega) (by omega);obtain⟨v4,a4,l4,u4,e4⟩:=Ko hl a3 3 (by omega) (by omega);obtain⟨v5,a5,l5,u5,e5⟩:=Ko hl a4 2 (by omega) (by omega);obtain⟨v6,a6,l6,u6,e6⟩:=Ko hl a5 3 (by omega) (by omega);obtain⟨v7,a7,l7,u7,e7⟩:=Ko hl a6 2 (by omega) (by omega);obtain⟨v8,a8,l8,u8,e8⟩:=Ko hl a7 3 (by omega) (by omega);obtain⟨v9,a9,l9,u9,e9⟩:=Ko hl a8 4 (by omega) (by omega);obtain⟨v10,a10,l10,u10,e10⟩:=Ko hl a9 2 (by omega) (by omega)
 obtain⟨op,hop⟩:∃op,List.getD [PV.sc (Value.int IntKind.i64 (50:Int)),PV.sc (Value.int IntKind.i64 (5:Int)),PV.sc (Value.int IntKind.i64 (500:Int))] ((0:Nat)+Int.toNat v8*(1:Nat)) PV.top=As op:=by
  rcases (by omega:v8=0\/v8=1\/v8=2) with h|h|h<;>subst h
  ·exact⟨50,rfl⟩
  ·exact⟨5,rfl⟩
  ·exact⟨500,rfl⟩
 by_cases h9:v9=3
 ·refine⟨⟨v1,v2==1,1+v3,1+v4,v5==1,v6,v7==1,[3,7].take (1+v10).toNat,op⟩,a10,?_,fun {fu d}=>?_⟩
  ·simp only[List.length_take];exact Nat.min_le_right _ _
  ·have e1:=e1 (fu:=fu) (d:=d) (p:=some Da);have e2:=e2 (fu:=fu) (d:=d) (p:=some Da);have e3:=e3 (fu:=fu) (d:=d) (p:=some Da);have e4:=e4 (fu:=fu) (d:=d) (p:=some Da);have e5:=e5 (fu:=fu) (d:=d) (p:=some Da);have e6:=e6 (fu:=fu) (d:=d) (p:=some Da);have e7:=e7 (fu:=fu) (d:=d) (p:=some Da);have e8:=e8 (fu:=fu) (d:=d) (p:=some Da);have e9:=e9 (fu:=fu) (d:=d) (p:=some Da);have e10:=e10 (fu:=fu) (d:=d) (p:=some Da)
   refine (G5 fu (d+2) l.length (Af .i64 l) (a:Int)).trans ?_;have b9:(v9==3)=true:=by rw[h9];rfl
   repeat(with_reducible(first|apply A9|apply Au|apply Bb|apply A5|apply Bf|apply K3|apply Ql|apply Jt|apply RR|apply At|apply Ba|apply Gn);· first|constructor|(simp(disch:=omega)only[Gp,e1,e2,e3,e4,e5,e6,e7,e8,e9,e10,hop,b9,wrap_i64]<;>first|constructor|omega)|omega)
   try simp(disch:=omega)only[Aa,e1,e2,e3,e4,e5,e6,e7,e8,e9,e10,hop,b9,wrap_i64]
   rcases (by omega:v10=0\/v10=1) with h|h<;>subst h<;>rfl
 ·refine⟨⟨v1,v2==1,1+v3,1+v4,v5==1,v6,v7==1,[],op⟩,a9,?_,fun {fu d}=>?_⟩
  ·simp
  ·have e1:=e1 (fu:=fu) (d:=d) (p:=some Da);have e2:=e2 (fu:=fu) (d:=d) (p:=some Da);have e3:=e3 (fu:=fu) (d:=d) (p:=some Da);have e4:=e4 (fu:=fu) (d:=d) (p:=some Da);have e5:=e5 (fu:=fu) (d:=d) (p:=some Da);have e6:=e6 (fu:=fu) (d:=d) (p:=some Da);have e7:=e7 (fu:=fu) (d:=d) (p:=some Da);have e8:=e8 (fu:=fu) (d:=d) (p:=some Da);have e9:=e9 (fu:=fu) (d:=d) (p:=some Da)
   refine (G5 fu (d+2) l.length (Af .i64 l) (a:Int)).trans ?_;have b9:(v9==3)=false:=beq_eq_false_iff_ne.2 h9
   repeat(with_reducible(first|apply A9|apply Au|apply Bb|apply A5|apply Bf|apply K3|apply Ql|apply Jt|apply RR|apply At|apply Ba|apply Gn);· first|constructor|(simp(disch:=omega)only[Gp,e1,e2,e3,e4,e5,e6,e7,e8,e9,hop,b9,wrap_i64]<;>first|constructor|omega)|omega)
   try simp(disch:=omega)only[Aa,e1,e2,e3,e4,e5,e6,e7,e8,e9,hop,b9,wrap_i64]
   rfl
theorem Bio(Bv:1000<=fu){l:Al}(hl:l.length<=maxLen)(a:Nat):∃(p:WN)(sec:Int)(a':Nat),p.dn.length<=2 /\
  Ac C1 prog fu (d+14) 8 [.pbox (HW l a)]=some ⟨[.agg (cfW p sec).cells],[HW l a']⟩:=by
 obtain⟨p,a1,hp,e1⟩:=Bhs hl a;have e1:Ac C1 prog fu (d+13) 29 [.pbox (HW l a)]=some ⟨[.agg p.own],[HW l a1]⟩:=e1 (fu:=fu) (d:=d+10);obtain⟨v,a2,l2,u2,e2⟩:=Ko hl a1 3 (by omega) (by omega);have e2:Ac C1 prog fu (d+13) 10 [.pbox (HW l a1),As 3]=_:=e2 (fu:=fu) (d:=d+11) (p:=some Da);have ky:=Akn (fu:=fu) (d:=d) Bv 31 4;have k4:(V9 31 4).cells=[As 4,Ag (V9 31 4).root]:=by unfold Ky.cells;rw[Abu (by decide)]
 rw[k4] at ky;refine⟨p,wrap .u64 (5+wrap .u64 v),a2,hp,?_⟩;refine (Kp fu (d+13) l.length (Af .i64 l) (a:Int)).trans ?_;simp only[WN.own] at e1;have L:=An .u64 p.dn;have t:List.take (p.dn.length*1) (List.drop 0 (Af .u64 p.dn))=Af .u64 p.dn:=Iu (by rw[Ls];omega)
 have c1:decide (0+p.dn.length*1<=List.length (Af .u64 p.dn))=true:=dT (by omega);simp only[Be,Bd,e1,e2,ky,c1,t];rfl
theorem A1u(n:Int):Ac C1 prog fu (d+2) 10 [.pbox (HW [] 0),As n]=some ⟨[As 0],[HW [] 0]⟩:=
 (Ia fu (d+1) 0 [] 0 n).trans rfl
theorem Aoj(Bv:1000<=fu):Ac C1 prog fu (d+15) 27 []=some ⟨[.agg (cfW NM 5).cells],[]⟩:=by
 have nw:Ac C1 prog fu (d+14) 7 [.lst false 1 0 []]=some ⟨[.pbox (HW [] 0)],[]⟩:=A9c (l:=[]);have n0:=fun n=>A1u (fu:=fu) (d:=d+10) n;have n0':=fun n=>A1u (fu:=fu) (d:=d+11) n
 have pl:Ac C1 prog fu (d+13) 29 [.pbox (HW [] 0)]=some ⟨[.agg NM.own],[HW [] 0]⟩:=by
  refine (G5 fu (d+12) 0 [] 0).trans ?_
  repeat(with_reducible(first|apply A9|apply Au|apply Bb|apply A5|apply Bf|apply K3|apply Ql|apply Jt|apply RR|apply At|apply Ba|apply Gn);· first|constructor|(simp(disch:=omega)only[Gp,n0,wrap_i64]<;>first|constructor|omega)|omega)
  try simp(disch:=omega)only[Aa,n0,wrap_i64]
  rfl
 have ky:=Akn (fu:=fu) (d:=d) Bv 31 4;have k4:(V9 31 4).cells=[As 4,Ag (V9 31 4).root]:=by unfold Ky.cells;rw[Abu (by decide)]
 rw[k4] at ky
 have cf:Ac C1 prog fu (d+14) 8 [.pbox (HW [] 0)]=some ⟨[.agg (cfW NM 5).cells],[HW [] 0]⟩:=by
  refine (Kp fu (d+13) 0 [] 0).trans ?_;simp only[WN.own] at pl;have w1:wrap .u64 (5+wrap .u64 0)=5:=by decide
  repeat(with_reducible(first|apply A9|apply Au|apply Bb|apply A5|apply Bf|apply K3|apply Ql|apply Jt|apply RR|apply At|apply Ba|apply Gn);· first|constructor|(simp(disch:=omega)only[Gp,pl,n0',ky,w1]<;>first|constructor|omega)|omega)
  try simp(disch:=omega)only[Aa,pl,n0',ky,w1]
  rfl
 refine (Zr fu (d+14)).trans ?_;simp only[Cf.cells] at cf ⊢;simp(disch:=omega)only[Be,Bd,nw,cf,Vn]
theorem Awa(Bv:1000<=fu)(n h:Int)(sh:Bool):∃id,Db id/\id.length=176/\Ac C1 prog fu (d+7) 11 [As n,As h,C5 sh]=some ⟨[.agg [Ag (wrap .u64 (1000+wrap .u64 n)),As h,.own 1 176 (Af .u8 id),C5 sh]],[]⟩:=by obtain⟨r,r1,r2,r3⟩:=Abm (fu:=fu) (d:=d) (p:=some Da) Bv (wrap .i64 (500+n)) (n:=176) (by omega);have r3:Ac C1 prog fu (d+6) 9 [As (wrap .i64 (500+n)),As 176]=_:=r3;refine⟨r,r1,r2,?_⟩;have L:=An .u8 r;have t:List.take (176*1) (Af .u8 r)=Af .u8 r:=Iu (by omega);have c1:decide (176*1<=List.length (Af .u8 r))=true:=dT (by omega);refine (Vw fu (d+6) n h sh).trans ?_;simp only[Be,Bd,r3,c1,t]
theorem Awx(seed h:Int)(n:Nat)(c:Ae)(sh vf:Bool):Ac C1 prog fu (d+1) 36 [.agg [Ag seed,As h,.lst false 1 n c,C5 sh],C5 vf]=some ⟨[As (Nl sh vf)],[]⟩:=by refine (Vx fu d seed h n c sh vf).trans ?_;cases vf<;>cases sh<;>rfl
theorem Aym(Bv:1000<=fu){a:Zy}(h64:Du .i64 a.fl 64=0):Ac C1 prog fu (d+4) 34 [.agg a.cells]=some ⟨[.own 1 (Q0 a).length (Af .u8 (Q0 a)),As (vE a)],[]⟩:=by
 refine (Ud fu (d+3) a.rp a.fl a.ct a.rg a.md a.idn a.id a.kh a.kr).trans ?_;have vd:=An7 (fu:=fu) (d:=d) Bv a;simp only[Zy.cells] at vd;unfold Q0;by_cases hv:vE a=0
 ·rw[hv] at vd;rw[Ch hv];have z0:((0:Int) != 0)=false:=rfl;have f0:(Du .i64 a.fl 64 != 0)=false:=by rw[h64];rfl
  have o1:=A0s (fu:=fu) (d:=d+2) Bv a.rp;have l1:(Af .u8 (B5 a.rp)).length=8:=by rw[An,C8]
  have c1:decide (8*1<=List.length (Af .u8 (B5 a.rp)))=true:=dT (by omega);have t1:List.take (8*1) (Af .u8 (B5 a.rp))=Af .u8 (B5 a.rp):=Iu (by omega);have c2:decide ((8+3)*1<=1099511627776)=true:=rfl;have c3:decide (8+3<=1099511627776)=true:=rfl;have e:Af .u8 (B5 a.rp++[wrap .u8 a.fl,wrap .u8 a.ct,wrap .u8 a.rg])=Af .u8 (B5 a.rp)++[PV.sc (.int .u8 (wrap .u8 a.fl)),.sc (.int .u8 (wrap .u8 a.ct)),.sc (.int .u8 (wrap .u8 a.rg))]:=by simp[Af,List.flatMap_append]
  have l2:(Af .u8 (B5 a.rp)++[PV.sc (.int .u8 (wrap .u8 a.fl)),.sc (.int .u8 (wrap .u8 a.ct)),.sc (.int .u8 (wrap .u8 a.rg))]).length=11:=by rw[Vk,l1];rfl
  have c4:decide ((8+3)*1<=List.length (Af .u8 (B5 a.rp)++[PV.sc (.int .u8 (wrap .u8 a.fl)),.sc (.int .u8 (wrap .u8 a.ct)),.sc (.int .u8 (wrap .u8 a.rg))]))=true:=dT (by omega);have t2:List.take ((8+3)*1) (Af .u8 (B5 a.rp)++[PV.sc (.int .u8 (wrap .u8 a.fl)),.sc (.int .u8 (wrap .u8 a.ct)),.sc (.int .u8 (wrap .u8 a.rg))])=Af .u8 (B5 a.rp)++[PV.sc (.int .u8 (wrap .u8 a.fl)),.sc (.int .u8 (wrap .u8 a.ct)),.sc (.int .u8 (wrap .u8 a.rg))]:=Iu (by omega);have ll:(B5 a.rp++[wrap .u8 a.fl,wrap .u8 a.ct,wrap .u8 a.rg]).length=11:=by rw[Vk,C8];rfl
  rw[ll,e,hv];simp only[Be,Bd,vd,z0,o1,c1,c2,c3,t1,f0,c4,t2]
 ·have z:(vE a != 0)=true:=by simpa using hv
  rw[Br hv];simp only[Be,Bd,vd,z];rfl
theorem Acm(sh vf:Bool):Du .i64 (Nl sh vf) 64=0:=by cases sh<;>cases vf<;>decide
set_option maxHeartbeats 2000000 in
theorem Aa3(Bv:1000400<=fu){seed h:Int}{id:Al}{sh:Bool}{rp:ByteArray}{o ch:Al}{vf:Bool}{leaf f:Int}{us:ByteArray}(hrp:rp.size<=100000)(hoB:Db o)(ho:o.length<=50000)(QV:Db ch)(hc:ch.length<=50000):
  Ac C1 prog fu (d+13) 14 [.agg [Ag seed,As h,.lst false 1 id.length (Af .u8 id),C5 sh],Bm rp,Bm (Ab o),.lst false 1 ch.length (Af .u8 ch),C5 vf,As leaf,As f,Bm us]=some ⟨[.agg (XM seed h id sh rp o ch vf leaf f us).cells],[]⟩:=by
 refine (Tz fu (d+12) seed h id.length (Af .u8 id) sh rp (Ab o) ch.length (Af .u8 ch) vf leaf f us).trans ?_;have fm:Ac C1 prog fu (d+12) 33 [cdA 2 ch o [] false]=some (Ay7 (QL 2 ch o [] false)):=Aqj (fu:=fu) (d:=d+6) (p:=some Da) QV hoB (fun x hx=>nomatch hx) (by omega) (by omega) (by simp) (by omega) (by omega) (by omega) (by simp;omega)
 obtain⟨T,hT⟩:∃T,asT ch o=T:=⟨_,rfl⟩
 obtain⟨fe,fm⟩:∃fe,Ac C1 prog fu (d+12) 33 [.agg [As 2,.lst false 1 ch.length (Af .u8 ch),Bm (Ab o),C5 false,Bm ⟨#[]⟩]]=some ⟨[Bm T,As fe],[]⟩:=by
  unfold asT at hT;cases hq:QL 2 ch o [] false with
  |ok s=>rw[hq] at fm hT;exact⟨0,by rw[<-hT];exact fm⟩
  |error e=>rw[hq] at fm hT;exact⟨e,by rw[<-hT];exact fm⟩
 have hTs:T.size<=60000:=by rw[<-hT];exact WG ho
 have hr:=A6i (fu:=fu) (d:=d+7) (s:=rp) (by omega) Bv;have fl:=Awx (fu:=fu) (d:=d+11) seed h id.length (Af .u8 id) sh vf;have en:Ac C1 prog fu (d+12) 34 [.agg [Ag (Fb 9 (Dk rp)),As (Nl sh vf),As (wrap .i64 (leaf+1)),As f,Ag 0,.lst false 1 0 [],As 0,Ag 0]]=some ⟨[.own 1 (Q0 (BV rp sh vf leaf f)).length (Af .u8 (Q0 (BV rp sh vf leaf f))),As (vE (BV rp sh vf leaf f))],[]⟩:=Aym (fu:=fu) (d:=d+8) (by omega) (a:=BV rp sh vf leaf f) (Acm sh vf);have hA1:=Ajc (BV rp sh vf leaf f);have hA2:=VZ (BV rp sh vf leaf f);have hd:=YY (fu:=fu) (d:=d+7) (s:=T) (by omega) Bv;have ms:=Amy (fu:=fu) (d:=d+7) hA1 (by omega) Bv (Fb 11 (Dk T))
 obtain⟨M,hM⟩:∃M,GL (Q0 (BV rp sh vf leaf f)) (Fb 11 (Dk T))=M:=⟨_,rfl⟩
 rw[hM] at ms;have sg:=Ats (fu:=fu) (d:=d) (by omega) seed h leaf M;have LA:=An .u8 (Q0 (BV rp sh vf leaf f));have cA:decide (0+(Q0 (BV rp sh vf leaf f)).length*1<=List.length (Af .u8 (Q0 (BV rp sh vf leaf f))))=true:=dT (by omega);have tA:List.take ((Q0 (BV rp sh vf leaf f)).length*1) (List.drop 0 (Af .u8 (Q0 (BV rp sh vf leaf f))))=Af .u8 (Q0 (BV rp sh vf leaf f)):=Iu (by rw[Ls];omega)
 have A2s:(XM seed h id sh rp o ch vf leaf f us).cells=[As 2,Bm T,.lst false 1 (Q0 (BV rp sh vf leaf f)).length (Af .u8 (Q0 (BV rp sh vf leaf f))),.lst false 1 (asG seed h leaf M).length (Af .u8 (asG seed h leaf M)),.lst false 1 0 [],As 0,.lst false 1 id.length (Af .u8 id),Bm us]:=by
  unfold XM Rq.cells;rw[hT,hM]
 rw[A2s];clear A2s hM hT;unfold asG;cases hs:Afc seed h leaf M with
 |none=>
  rw[hs] at sg;simp only[Acj,Sg.owned] at sg;have es:=ST (fu:=fu) (d:=d+10) (by omega) ⟨0,[],[]⟩ (by simp);have q1:E1 (([]:Al).length:Int)=false:=by decide
  have q2:I0 0 (([]:Al).length:Int)=false:=by decide
  simp only at es;rw[q1,q2,Br (by simp),Br (by simp),Ch (by simp)] at es;have es:Ac C1 prog fu (d+12) 40 [.agg [As 0,.lst false 1 0 [],.lst false 1 0 []]]=some ⟨[.own 1 0 [],As 4],[]⟩:=es;have sg:Ac C1 prog fu (d+12) 37 [Ag seed,As h,As leaf,Ag M]=some ⟨[.agg [As 0,.own 1 0 [],.own 1 0 []],As 9],[]⟩:=sg;have c0:decide (0+0*1<=List.length ([]:Ae))=true:=rfl;have t0:List.take (0*1) (List.drop 0 ([]:Ae))=[]:=rfl;simp only[Be,Bd,fm,hr,fl,en,hd,cA,tA,ms,sg,c0,t0,es];rfl
 |some s=>
  rw[hs] at sg;simp only[Acj,Sg.owned] at sg
  have HX:E1 h=false/\I0 leaf h=false/\s.leaf=leaf/\s.chains.length=18/\(s.path.length:Int)=h:=by
   unfold Afc at hs;cases hh:E1 h
   ·rw[hh,Br (by simp)] at hs;cases hO:I0 leaf h
    ·rw[hO,Br (by simp)] at hs;cases hs;have:=Mu hh;exact⟨rfl,rfl,rfl,by simp[BK],by simp;omega⟩
    ·rw[hO,Ch rfl] at hs;cases hs
   ·rw[hh,Ch rfl] at hs;cases hs
  obtain⟨g1,g2,g3,g4,g5⟩:=HX;have hb:=Mu g1;have es:=ST (fu:=fu) (d:=d+10) (by omega) s (by omega);rw[g5,g3,g1,g2,g4,Br (by simp),Br (by simp),Br (by simp)] at es;simp only[Sg.cells] at es;have L1:=An .u64 s.chains;have L2:=An .u64 s.path;have L3:=An .u8 (sgB s);have c1:decide (0+s.chains.length*1<=List.length (Af .u64 s.chains))=true:=dT (by omega);have c2:decide (0+s.path.length*1<=List.length (Af .u64 s.path))=true:=dT (by omega);have c3:decide (0+(sgB s).length*1<=List.length (Af .u8 (sgB s)))=true:=dT (by omega);have t1:List.take (s.chains.length*1) (List.drop 0 (Af .u64 s.chains))=Af .u64 s.chains:=Iu (by rw[Ls];omega)
  have t2:List.take (s.path.length*1) (List.drop 0 (Af .u64 s.path))=Af .u64 s.path:=Iu (by rw[Ls];omega)
  have t3:List.take ((sgB s).length*1) (List.drop 0 (Af .u8 (sgB s)))=Af .u8 (sgB s):=Iu (by rw[Ls];omega)
  simp only[Be,Bd,fm,hr,fl,en,hd,cA,tA,ms,sg,c1,c2,t1,t2,es,c3,t3]
end
theorem A5b:sd0.ok:=⟨fun x hx=>(nomatch hx),by decide,by decide,by decide,trivial,by decide⟩
theorem Av8(c:Cf)(m:Mt)(s:Sd)(ch:Al)(now:Int)(r:Rq):(Pq c m s ch now r).1=sd0\/∃leaf f,(Pq c m s ch now r).1=(Ig s leaf f now).1:=by
 unfold Pq;simp only[Bool.cond_eq_ite]
 repeat' split
 all_goals first
  |exact .inl rfl
  |skip
 all_goals
  unfold Afa;simp only[Bool.cond_eq_ite]
  repeat' split
 all_goals first
  |exact .inl rfl
  |skip
 all_goals
  unfold Ahl;simp only[Bool.cond_eq_ite]
  repeat' split
 all_goals first
  |exact .inl rfl
  |exact .inr ⟨_,_,rfl⟩
theorem Aus{c:Cf}{m:Mt}{s:Sd}{ch:Al}{now:Int}{r:Rq}(hs:s.ok)(hr:s.rg.length<1000):(Pq c m s ch now r).1.ok:=by
 rcases Av8 c m s ch now r with h|⟨l,f,h⟩
 ·rw[h];exact A5b
 ·rw[h];exact Al8 hs hr l f now
theorem Aoo{rp:ByteArray}{sh vf:Bool}{leaf f:Int}(h0:0<=leaf)(h1:leaf<=15)(f0:0<=f)(f1:f<=15):vE (BV rp sh vf leaf f)=0/\EX (Q0 (BV rp sh vf leaf f))=some (BV rp sh vf leaf f):=by
 have w1:wrap .i64 (leaf+1)=leaf+1:=Bj
 have hv:vE (BV rp sh vf leaf f)=0:=by
  unfold vE BV;simp only;rw[w1];have a1:decide (leaf+1<0)=false:=dF (by omega);have a2:decide (leaf+1>16)=false:=dF (by omega);have a3:decide (f<0)=false:=dF (by omega);have a4:decide (f>=16)=false:=dF (by omega);have q1:(Y0 .i64 (Nl sh vf) 93 != 0)=false:=by cases sh<;>cases vf<;>decide
  have q2:(Du .i64 (Nl sh vf) 16 != 0)=false:=by cases sh<;>cases vf<;>decide
  have q3:(Du .i64 (Nl sh vf) 64==0)=true:=by cases sh<;>cases vf<;>decide
  unfold vT;simp only[a1,a2,a3,a4,q1,q2,q3,cond_true,cond_false];rfl
 refine⟨hv,?_⟩;obtain⟨a,ha⟩:∃a,BV rp sh vf leaf f=a:=⟨_,rfl⟩
 have hf:a.fl=Nl sh vf/\a.ct=leaf+1/\a.rg=f/\isU a.rp/\a.md=0/\a.idn=0/\a.id=[]/\a.kh=0/\a.kr=0:=by
  rw[<-ha];exact⟨rfl,w1,rfl,RD _ _,rfl,rfl,rfl,rfl,rfl⟩
 rw[ha] at hv ⊢;clear ha;obtain⟨rp',fl,ct,rg,md,idn,id,kh,kr⟩:=a;obtain⟨e1,e2,e3,e4,e5,e6,e7,e8,e9⟩:=hf;simp only at e1 e2 e3 e4 e5 e6 e7 e8 e9;subst e5 e6 e7 e8 e9;have fl1:0<=fl/\fl<=255:=by rw[e1];cases sh<;>cases vf<;>decide
 have fl2:Du .i64 fl 64=0:=by rw[e1];exact Acm sh vf
 have w2:wrap .u8 fl=fl:=Pg (by omega) (by omega);have w3:wrap .u8 ct=ct:=Pg (by omega) (by omega);have w4:wrap .u8 rg=rg:=Pg (by omega) (by omega);unfold Q0;rw[Ch hv];simp only;rw[w2,w3,w4];have hl:(B5 rp').length=8:=C8 _;have l11:(B5 rp'++[fl,ct,rg]).length=11:=by rw[Vk,hl];rfl
 have g:∀i,i<3->(B5 rp'++[fl,ct,rg]).getD (8+i) 0=[fl,ct,rg].getD i 0:=by
  intro i hi;rw[List.getD_eq_getElem?_getD,List.getElem?_append_right (by omega),hl,show 8+i-8=i by omega,<-List.getD_eq_getElem?_getD]
 have g8:(B5 rp'++[fl,ct,rg]).getD 8 0=fl:=g 0 (by omega);have g9:(B5 rp'++[fl,ct,rg]).getD 9 0=ct:=g 1 (by omega);have g10:(B5 rp'++[fl,ct,rg]).getD 10 0=rg:=g 2 (by omega);have tk:(B5 rp'++[fl,ct,rg]).take 8=B5 rp':=List.take_left' hl
 have an:adN (B5 rp'++[fl,ct,rg])=⟨rp',fl,ct,rg,0,0,[],0,0⟩:=by
  unfold adN;rw[g8,g9,g10,tk,Aae e4.1 e4.2]
 rw[Al0 l11 (by rw[g8];exact fl2),an,Ch hv]
theorem Aqz{ch o:Al}(hc:Db ch)(h1:1<=ch.length)(h2:ch.length<=64)(hol:o.length<=100)(hO:Fn o=0):Nk (asT ch o)=.ok (2,ch,o,false,[]):=by
 have hf:QL 2 ch o [] false=.ok (fmH tyG ch o++fA4):=by
  unfold QL;have ty:tyS 2=some tyG:=rfl;rw[ty];simp only;rw[Br (by omega),Br (by simp[hO])];rfl
 have hl:(fmH tyG ch o++fA4).length<=1000:=by
  have hel:=RF ch;simp only[fmH,RA,WP,fA3,fA4,tyG,Vk,Tt,YX];omega
 have b:=Ayf (w:=[]) hc hf (by rfl) (by simp only[WU,List.append_nil];omega)
 simp only[WU,List.append_nil] at b;unfold asT;rw[hf];exact b
theorem Anh{c:Cf}{m:Mt}{s:Sd}{seed h:Int}{sh:Bool}{o ch:Al}{vf:Bool}{leaf f now:Int}{us:ByteArray}(n0:0<=now)(n1:now<=1099511627776)(hc:Db ch)(h1:1<=ch.length)(h2:ch.length<=64)(hol:o.length<=100)(hO:Fn o=0)(hh:E1 h=false)(hl:I0 leaf h=false)(l0:0<=leaf)(l1:leaf<=15)(f0:0<=f)(f1:f<=15)(hk:(⟨s.ht,s.root⟩:Ky)=V9 seed h)(Xd:inO c.os (Ab o)=true):
  Pq c m s ch now (XM seed h s.id sh c.rp o ch vf leaf f us) =
   bif Aez c.p (BV c.rp sh vf leaf f) s.sh s.model (stS m s.model now) != 0 then (sd0,Aez c.p (BV c.rp sh vf leaf f) s.sh s.model (stS m s.model now)) else
   bif (Ig s leaf f now).2 != 0 then (bif (Ig s leaf f now).2 != 37 then (sd0,(Ig s leaf f now).2) else Ig s leaf f now) else Ig s leaf f now:=by
 have a1:decide (now<0)=false:=dF (by omega);have a2:decide (now>1099511627776)=false:=dF (by omega);obtain⟨dv,da⟩:=Aoo (rp:=c.rp) (sh:=sh) (vf:=vf) l0 l1 f0 f1;obtain⟨r,hr⟩:∃r,XM seed h s.id sh c.rp o ch vf leaf f us=r:=⟨_,rfl⟩
 have rk:r.kind=2:=by rw[<-hr];rfl
 have rc:r.cd=asT ch o:=by rw[<-hr];rfl
 have ra:r.ad=Q0 (BV c.rp sh vf leaf f):=by rw[<-hr];rfl
 have ri:r.id=s.id:=by rw[<-hr];rfl
 have rs:r.sg=asG seed h leaf (GL r.ad (Fb 11 (Dk r.cd))):=by rw[ra,rc,<-hr];rfl
 rw[hr];clear hr
 have cl:Aig c.os 2 ch r=0:=by
  unfold Aig;rw[rk,rc,Aqz hc h1 h2 hol hO];simp only[Ahd,Xd];rfl
 obtain⟨M,hM⟩:∃M,GL r.ad (Fb 11 (Dk r.cd))=M:=⟨_,rfl⟩
 rw[hM] at rs;obtain⟨g,s1,s2,s3,s4,s5,s6⟩:=Ayo (seed:=seed) (h:=h) (leaf:=leaf) (m:=M) hh hl
 have sg:sgD r.sg=some g:=by
  rw[rs];unfold asG;rw[s1];exact Ay3 s2 (by rw[s5];exact hh) (by rw[s5,s3];exact hl) s4
 have q1:eqB r.id s.id=true:=by rw[ri];exact Ahd _
 have q2:EX r.ad=some (BV c.rp sh vf leaf f):=by rw[ra];exact da
 have vf0:PY ⟨s.ht,s.root⟩ M g=0:=by rw[hk];exact s6
 have MH:(BV c.rp sh vf leaf f).fl=Nl sh vf:=rfl;have hrp:(BV c.rp sh vf leaf f).rp=Fb 9 (Dk c.rp):=rfl;have hct:(BV c.rp sh vf leaf f).ct=wrap .i64 (leaf+1):=rfl;have hrg:(BV c.rp sh vf leaf f).rg=f:=rfl;obtain⟨a,ha⟩:∃a,BV c.rp sh vf leaf f=a:=⟨_,rfl⟩
 rw[ha] at q2 MH hrp hct hrg ⊢;clear ha da dv;have f6:(Du .i64 a.fl 64 != 0)=false:=by rw[MH,Acm sh vf];rfl
 have rpE:(a.rp != Fb 9 (Dk c.rp))=false:=by rw[hrp];simp
 have ct:(a.ct != wrap .i64 (g.leaf+1))=false:=by rw[s3,hct];simp
 have z0:((0:Int) != 0)=false:=rfl;unfold Pq;rw[a1,a2,cl,q1,q2];simp only[cond_false,F1,z0];unfold Afa;rw[f6,rpE,sg];simp only[cond_false];unfold Ahl;rw[hM,vf0,ct,s3,hrg];simp only[cond_false,z0]
theorem A4g(id:Al)(R:Int):Ig ⟨id,2,R,0,0,false,0,[],false,1,1⟩ 2 0 5=(⟨id,2,R,0,0,false,4,[(0,2)],false,1,5⟩,0):=by kernel_rfl
theorem A6w(id:Al)(R:Int):Ig ⟨id,2,R,0,0,false,4,[(0,2)],false,1,5⟩ 2 0 5=(⟨id,2,R,0,0,false,4,[(0,2)],true,1,5⟩,37):=by kernel_rfl
theorem Afq(rp:ByteArray)(vf:Bool)(leaf f st:Int):Aez NM (BV rp false vf leaf f) false 0 st=0:=by
 have h1:TY 0 (Nl false vf)=0:=by cases vf<;>decide
 have h2:((Du .i64 (Nl false vf) 8 != 0)==false)=true:=by cases vf<;>decide
 show (if TY 0 (Nl false vf)=0 then if ((Du .i64 (Nl false vf) 8 != 0)==false)=true then if (0:Int)=0 then 0 else Axw [] false 0 st else 40 else TY 0 (Nl false vf))=0;rw[Ch h1,Ch h2,Ch rfl]
section
variable {fu d:Nat}
abbrev mt0:Mt:=⟨0,0,0,[],0,0,[],0,[]⟩
theorem Ai0:mt0.ok:=⟨by decide,fun e he=>(nomatch he)⟩
def stK(seed h:Int)(id:Al)(sh:Bool)(model:Int):Sd:=⟨id,(V9 seed h).h,(V9 seed h).root,model,0,sh,0,[],false,1,1⟩
theorem Awk{seed h:Int}{id:Al}(hb:Db id)(hl:id.length=176)(sh:Bool)(model:Int):(stK seed h id sh model).ok:=⟨hb,by show id.length<=_;omega,by show (0:Int)<=0;decide,by show (0:Int)<=_;decide,trivial,by show (0:Nat)<=1000;decide⟩
theorem Aaw(Bv:1000<=fu)(seed h:Int)(id:Al)(sh:Bool)(model:Int):Ac C1 prog fu (d+14) 12 [.agg [Ag seed,As h,.lst false 1 id.length (Af .u8 id),C5 sh],Ag model]=some ⟨[.agg (stK seed h id sh model).cells],[]⟩:=by refine (Zq fu (d+13) seed h id.length (Af .u8 id) sh model).trans ?_;have ky:=Akn (fu:=fu) (d:=d) Bv seed h;simp only[Ky.cells] at ky;simp only[Be,Bd,ky];rfl
theorem And:Fn (Dk oxS)=0:=by decide +kernel
set_option maxHeartbeats 4000000 in
theorem Au8(Bv:1000400<=fu):Ac C1 prog fu (d+27) 21 []=some ⟨[C5 true],[]⟩:=by
 refine (Z6 fu (d+26)).trans ?_;obtain⟨id,hib,XD,cr⟩:=Awa (fu:=fu) (d:=d+19) (by omega) 1 2 false;have w1:wrap .u64 (1000+wrap .u64 1)=1001:=by decide
 rw[w1] at cr;obtain⟨b,hbb,Nx,eb⟩:=Abm (fu:=fu) (d:=d+20) (p:=some Da) (by omega) 1 (n:=16) (by omega);have eb:Ac C1 prog fu (d+26) 9 [As 1,As 16]=some ⟨[.own 1 16 (Af .u8 b)],[]⟩:=eb;have Li:=An .u8 id;have Lb:=An .u8 b;have c1:decide (0+176*1<=List.length (Af .u8 id))=true:=dT (by omega);have t1:List.take (176*1) (List.drop 0 (Af .u8 id))=Af .u8 id:=Iu (by rw[Ls];omega)
 have c2:decide (0+16*1<=List.length (Af .u8 b))=true:=dT (by omega);have t2:List.take (16*1) (List.drop 0 (Af .u8 b))=Af .u8 b:=Iu (by rw[Ls];omega)
 have asr:=Aa3 (fu:=fu) (d:=d+13) Bv (seed:=1001) (h:=2) (id:=id) (sh:=false) (rp:=exS) (o:=Dk oxS) (ch:=b) (vf:=false) (leaf:=2) (f:=0) (us:=ByteArray.mk #[117]) (by decide) (BM _) (by rw[Cr];decide) hbb (by omega)
 rw[Hl,XD,Nx] at asr;obtain⟨r,hr⟩:∃r,XM 1001 2 id false exS (Dk oxS) b false 2 0 (ByteArray.mk #[117])=r:=⟨_,rfl⟩
 have A9s:r.ok:=by rw[<-hr];exact Axs (by rw[Cr];decide)
 rw[hr] at asr;have cf:=Aoj (fu:=fu) (d:=d+11) (by omega);have so:=Aaw (fu:=fu) (d:=d+12) (by omega) 1001 2 id false 0;rw[XD] at so;obtain⟨R,hR⟩:∃R,(V9 1001 2).root=R:=⟨_,rfl⟩
 have hS0:stK 1001 2 id false 0=⟨id,2,R,0,0,false,0,[],false,1,1⟩:=by
  unfold stK;rw[Abu (by decide),hR]
 have hk:(⟨2,R⟩:Ky)=V9 1001 2:=by
  have:=Abu (seed:=1001) (h:=2) (by decide);rw[<-hR];generalize V9 1001 2=K at this;obtain⟨x,y⟩:=K;simp only at this;rw[this]
 obtain⟨S0,hS⟩:∃S0:Sd,S0=⟨id,2,R,0,0,false,0,[],false,1,1⟩:=⟨_,rfl⟩
 have s0ok:S0.ok:=by rw[hS,<-hS0];exact Awk hib XD _ _
 rw[hS0,<-hS] at so;have v1:=Anh (c:=cfW NM 5) (m:=mt0) (s:=S0) (seed:=1001) (h:=2) (sh:=false) (o:=Dk oxS) (ch:=b) (vf:=false) (leaf:=2) (f:=0) (now:=5) (us:=ByteArray.mk #[117]) (by decide) (by decide) hbb (by omega) (by omega) (by rw[Cr];decide) And (by decide) (by decide) (by decide) (by decide) (by decide) (by decide) (by rw[hS];exact hk) (by rw[Hl];decide)
 have i0:S0.id=id:=by rw[hS]
 rw[i0,show (cfW NM 5).rp=exS from rfl,hr] at v1;obtain⟨S1,XA⟩:∃S1:Sd,S1=⟨id,2,R,0,0,false,4,[(0,2)],false,1,5⟩:=⟨_,rfl⟩
 have e1:Pq (cfW NM 5) mt0 S0 b 5 r=(S1,0):=by
  have a1:Ig S0 2 0 5=(S1,0):=by rw[hS,XA];exact A4g id R
  have q1:S0.sh=false:=by rw[hS]
  have q2:S0.model=0:=by rw[hS]
  rw[v1,a1,q1,q2,Afq];rfl
 have s1ok:S1.ok:=by
  have:=Aus (c:=cfW NM 5) (m:=mt0) (s:=S0) (ch:=b) (now:=5) (r:=r) s0ok (by rw[hS];show (0:Nat)<1000;decide)
  rw[e1] at this;exact this
 have v2:=Anh (c:=cfW NM 5) (m:=mt0) (s:=S1) (seed:=1001) (h:=2) (sh:=false) (o:=Dk oxS) (ch:=b) (vf:=false) (leaf:=2) (f:=0) (now:=5) (us:=ByteArray.mk #[117]) (by decide) (by decide) hbb (by omega) (by omega) (by rw[Cr];decide) And (by decide) (by decide) (by decide) (by decide) (by decide) (by decide) (by rw[XA];exact hk) (by rw[Hl];decide)
 have i1:S1.id=id:=by rw[XA]
 rw[i1,show (cfW NM 5).rp=exS from rfl,hr] at v2;obtain⟨S2,DR⟩:∃S2:Sd,S2=⟨id,2,R,0,0,false,4,[(0,2)],true,1,5⟩:=⟨_,rfl⟩
 have e2:Pq (cfW NM 5) mt0 S1 b 5 r=(S2,37):=by
  have a1:Ig S1 2 0 5=(S2,37):=by rw[XA,DR];exact A6w id R
  have q1:S1.sh=false:=by rw[XA]
  have q2:S1.model=0:=by rw[XA]
  rw[v2,a1,q1,q2,Afq];rfl
 have p1:=HQ (fu:=fu) (d:=d+17) Bv (Ajp (p:=NM) (by decide) 5) Ai0 s0ok b 5 A9s;have p2:=HQ (fu:=fu) (d:=d+17) Bv (Ajp (p:=NM) (by decide) 5) Ai0 s1ok b 5 A9s;rw[e1] at p1;rw[e2] at p2;rw[Nx] at p1 p2;simp only[Cf.cells,Sd.cells,Rq.cells] at asr cf so p1 p2;have m0:mt0.cells=[As 0,As 0,As 0,.lst false 3 0 [],As 0,.lst false 1 0 [],.lst false 1 0 []]:=rfl;rw[m0] at p1 p2;have u1:S1.used=4:=by rw[XA]
 have u2:S1.last=5:=by rw[XA]
 have u3:S2.sus=true:=by rw[DR]
 have z0:((0:Int)==0)=true:=rfl;have z1:(S1.used==4)=true:=by rw[u1];rfl
 have z2:(S1.last==5)=true:=by rw[u2];rfl
 have z3:((37:Int)==37)=true:=rfl;simp only[Be,Bd,cr,eb,c1,t1,c2,t2,asr];rw[Xg (Hs:=by omega)];simp only[Be,Bd,cf,c1,t1,so,c2,t2,p1];rw[Xj (Hs:=by omega)];simp only[Be,Bd,cf,c2,t2,p2];rw[Wl (Hs:=by omega)];simp only[Be,Bd,z0,z1,z2,z3,u3]
end
section
variable {xs:FuncId->Option (Ae->Option Bq)}(fu d:Nat)(call:Ap)
def I1(Z:Nat)(Y:Ae)(X:Int)(W:Nat)(V:Int)(U:Nat)(T:Ae)(S:Int)(Q P:ByteArray)(O:Nat)(N:Ae)(M:Int)(L:Bool)(K J:Int)(I:Bool)(H:Int)(G:Bool)(E:Nat)(D:Ae)(B A:Int)(z w:Int):Option Bq:=Kj fu call 5 Tryz.f5 [Am 1 Z Y,X] [.r,.r] W ⟨lk [(1,V),(5,.ptr 5 0),(6,.ptr 6 0)],Ct [(5,.st [Am 1 U T,S]),(6,.st [Q,P,Am 1 O N,M,L,K,J,I,H,G,Am 1 E D,B,Ag A,z,Ag w])]⟩
def D2(Z:Nat)(Y:Ae)(X:Int)(W:Nat)(V:Int)(U:Nat)(T:Int)(S:Nat)(Q:Ae)(P:Int)(O N:ByteArray)(M:Nat)(L:Ae)(K:Int)(J:Bool)(I H:Int)(G:Bool)(E:Int)(D:Bool)(B:Nat)(A:Ae)(z w:Int)(v u:Int)(t:Ae)(QW RI:Int)(LZ:Nat)(DU:Bool)(LW:Ae)(MA:Nat)(MB:Ae)(y31 y32:Int)(UF UA:Int)(UW:Bool)(y36:Int)(SQ:Nat)(SD:Ae)(SG:Bool)(VX TP:Int):Option Bq:=Kj fu call 5 Tryz.f5 [Am 1 Z Y,X] [.r,.r,.r,.r,.r,.r,.l,.r,.l] W ⟨lk [(1,V),(5,.ptr 5 0),(6,.ptr 6 0),(7,.view 7 1 0 U),(8,.ptr 8 0),(9,.ptr 9 0),(10,T)],Ct [(5,.st [Am 1 S Q,P]),(6,.st [O,N,Am 1 M L,K,J,I,H,G,E,D,Am 1 B A,z,Ag w,v,Ag u]),(7,.ar false t),(8,.st [Ag QW,RI,.view 443 1 0 LZ,DU]),(443,.ar true LW),(9,.st [Am 1 MA MB,y31,Ag y32,Ag UF,UA,UW,Ag y36,Am 2 SQ SD,SG,VX,TP])]⟩
def Ex(Z:Nat)(Y:Ae)(X:Int)(W V:Nat)(U:Int)(T:Nat)(S:Int)(Q:Nat)(P:Ae)(O:Int)(N M:ByteArray)(L:Nat)(K:Ae)(J:Int)(I:Bool)(H G:Int)(E:Bool)(D:Int)(B:Bool)(A:Nat)(z:Ae)(w v:Int)(u t:Int)(y23:Ae)(QW RI:Int)(LZ:Nat)(DU:Bool)(LW:Ae)(MA:Nat)(MB:Ae)(y31 y32:Int)(UF UA:Int)(UW:Bool)(y36:Int)(SQ:Nat)(SD:Ae)(SG:Bool)(VX TP y42:Int)(y43:ByteArray)(y44:Nat)(y45:Ae)(y46:Nat)(y47:Ae)(y48:Nat)(y49:Ae)(y50:Int)(y51:Nat)(y52:Ae)(y53:ByteArray):Option Bq:=Kj fu call 5 Tryz.f5 [Am 1 Z Y,X] [.r,.r,.r,.r,.r,.r,.l,.r,.l,.i W,.r,.l,.l] V ⟨lk [(1,U),(5,.ptr 5 0),(6,.ptr 6 0),(7,.view 7 1 0 T),(8,.ptr 8 0),(9,.ptr 9 0),(10,S),(11,.ptr 11 0)],Ct [(5,.st [Am 1 Q P,O]),(6,.st [N,M,Am 1 L K,J,I,H,G,E,D,B,Am 1 A z,w,Ag v,u,Ag t]),(7,.ar true y23),(8,.st [Ag QW,RI,.view 443 1 0 LZ,DU]),(443,.ar true LW),(9,.st [Am 1 MA MB,y31,Ag y32,Ag UF,UA,UW,Ag y36,Am 2 SQ SD,SG,VX,TP]),(11,.st [y42,y43,Am 1 y44 y45,Am 1 y46 y47,Am 1 y48 y49,y50,Am 1 y51 y52,y53])]⟩
def Ew(Z:Nat)(Y:Ae)(X:Int)(W V:Nat)(U:Int)(T:Nat)(S:Int)(Q:Nat)(P:Ae)(O:Int)(N M:ByteArray)(L:Nat)(K:Ae)(J:Int)(I:Bool)(H G:Int)(E:Bool)(D:Int)(B:Bool)(A:Nat)(z:Ae)(w v:Int)(u t:Int)(y23:Ae)(QW RI:Int)(LZ:Nat)(DU:Bool)(LW:Ae)(MA:Nat)(MB:Ae)(y31 y32:Int)(UF UA:Int)(UW:Bool)(y36:Int)(SQ:Nat)(SD:Ae)(SG:Bool)(VX TP y42:Int)(y43:ByteArray)(y44:Nat)(y45:Ae)(y46:Nat)(y47:Ae)(y48:Nat)(y49:Ae)(y50:Int)(y51:Nat)(y52:Ae)(y53:ByteArray):Option Bq:=Kj fu call 5 Tryz.f5 [Am 1 Z Y,X] [.r,.r,.r,.r,.r,.r,.l,.r,.l,.i W,.r,.l,.l,.r] V ⟨lk [(1,U),(5,.ptr 5 0),(6,.ptr 6 0),(7,.view 7 1 0 T),(8,.ptr 8 0),(9,.ptr 9 0),(10,S),(11,.ptr 11 0)],Ct [(5,.st [Am 1 Q P,O]),(6,.st [N,M,Am 1 L K,J,I,H,G,E,D,B,Am 1 A z,w,Ag v,u,Ag t]),(7,.ar true y23),(8,.st [Ag QW,RI,.view 443 1 0 LZ,DU]),(443,.ar true LW),(9,.st [Am 1 MA MB,y31,Ag y32,Ag UF,UA,UW,Ag y36,Am 2 SQ SD,SG,VX,TP]),(11,.st [y42,y43,Am 1 y44 y45,Am 1 y46 y47,Am 1 y48 y49,y50,Am 1 y51 y52,y53])]⟩
def B0(Z:Nat)(Y:Ae)(X:Int)(W:Nat)(V:Int)(U:Nat)(T:Int)(S:Nat)(Q:Ae)(P:Int)(O N:ByteArray)(M:Nat)(L:Ae)(K:Int)(J:Bool)(I H:Int)(G:Bool)(E:Int)(D:Bool)(B:Nat)(A:Ae)(z w:Int)(v u:Int)(t:Ae)(QW RI:Int)(LZ:Nat)(DU:Bool)(LW:Ae)(MA:Nat)(MB:Ae)(y31 y32:Int)(UF UA:Int)(UW:Bool)(y36:Int)(SQ:Nat)(SD:Ae)(SG:Bool)(VX TP:Int):Option Bq:=Kj fu call 5 Tryz.f5 [Am 1 Z Y,X] [.r,.r,.r,.r,.r,.r,.l,.r,.l] W ⟨lk [(1,V),(5,.ptr 5 0),(6,.ptr 6 0),(7,.view 7 1 0 U),(8,.ptr 8 0),(9,.ptr 9 0),(10,T)],Ct [(5,.st [Am 1 S Q,P]),(6,.st [O,N,Am 1 M L,K,J,I,H,G,E,D,Am 1 B A,z,Ag w,v,Ag u]),(7,.ar true t),(8,.st [Ag QW,RI,.view 443 1 0 LZ,DU]),(443,.ar true LW),(9,.st [Am 1 MA MB,y31,Ag y32,Ag UF,UA,UW,Ag y36,Am 2 SQ SD,SG,VX,TP])]⟩
theorem O3(X:Nat)(W:Ae)(V:Int)(Z:Nat)(Hs:0<Z)(U:Int)(A:Nat)(z:Ae)(w:Int)(T S:ByteArray)(Q:Nat)(P:Ae)(O:Int)(N:Bool)(M L:Int)(Y:Bool)(K:Int)(J:Bool)(I:Nat)(H:Ae)(G E:Int)(D B:Int):I1 fu call X W V Z U A z w T S Q P O N M L Y K J I H G E D B=(D8 (call 9 [(1:Int),(16:Int)]) fun a b=>Lh 1 a fun a c=>Ak b<|Aw (call 10 [.pbox [Am 1 A z,w],(4:Int)]) fun b e=>B8 .i64 b fun b=>Ad e fun e f=>Iw 1 e fun e g h=>B8 .i64 h fun h=>Ak f<|Ax Y (Aw (call 10 [.pbox [Am 1 e g,h],(2:Int)]) fun e f=>B8 .i64 e fun e=>Ad f fun f g=>Iw 1 f fun f h i=>B8 .i64 i fun i=>Ak g<|D8 (call 11 [b,(2:Int),C5 (e==1)]) fun b e=>Eo b fun b=>Dw .u64 b fun b g=>Dw .i64 g fun g j=>XI 1 j fun j k m=>G2 m fun m=>Ak e<|Ar (decide (0+j*1<=k.length))<|D8 (call 12 [.agg [Ag b,g,Am 1 j (List.take (j*1) (k.drop 0)),m],Ag 0]) fun e n=>Eo e fun e=>Iw 1 e fun e o p=>Dw .i64 p fun p q=>Dw .u64 q fun q s=>Dw .u64 s fun s t=>Dw .i64 t fun t u=>Ad u fun u v=>Bn u fun u=>Dw .u64 v fun v Bh5=>Iw 2 Bh5 fun Bhx Bei Bfa=>Ad Bfa fun Bix Be3=>Bn Bix fun Bir=>Dw .i64 Be3 fun Bhr Bfg=>B8 .i64 Bfg fun Bje=>Ak n<|D2 fu call X W V fu U a 0 f h i T S Q P O N M L Y K J I H G E D B c b g j m k e o p q s t u v Bhx Bei Bir Bhr Bje) (D8 (call 11 [b,(2:Int),false]) fun b f=>Eo b fun b=>Dw .u64 b fun b i=>Dw .i64 i fun i j=>XI 1 j fun j k m=>G2 m fun m=>Ak f<|Ar (decide (0+j*1<=k.length))<|D8 (call 12 [.agg [Ag b,i,Am 1 j (List.take (j*1) (k.drop 0)),m],Ag 0]) fun f n=>Eo f fun f=>Iw 1 f fun f o p=>Dw .i64 p fun p q=>Dw .u64 q fun q s=>Dw .u64 s fun s t=>Dw .i64 t fun t u=>Ad u fun u v=>Bn u fun u=>Dw .u64 v fun v Bem=>Iw 2 Bem fun Bhi Bf7 Bgg=>Ad Bgg fun Bi5 Bgi=>Bn Bi5 fun Bh1=>Dw .i64 Bgi fun Bjk Bjl=>B8 .i64 Bjl fun Bfr=>Ak n<|D2 fu call X W V fu U a 0 e g h T S Q P O N M L Y K J I H G E D B c b i j m k f o p q s t u v Bhi Bf7 Bh1 Bjk Bfr)):=by cases Z with|zero=>exact absurd Hs (Nat.lt_irrefl 0)|succ Z=>kernel_rfl
theorem Fl(Q:Nat)(P:Ae)(O:Int)(N:Nat)(M:Int)(Z:Nat)(V:Int)(L:Nat)(K:Ae)(J:Int)(I H:ByteArray)(G:Nat)(E:Ae)(D:Int)(B:Bool)(A z:Int)(w:Bool)(v:Int)(u:Bool)(t:Nat)(y18:Ae)(y19 y20:Int)(y21 y22:Int)(X:Ae)(U T:Int)(Y:Nat)(S:Bool)(W:Ae)(MA:Nat)(MB:Ae)(y31 y32:Int)(UF UA:Int)(UW:Bool)(y36:Int)(SQ:Nat)(SD:Ae)(SG:Bool)(VX TP:Int):D2 fu call Q P O (N+1) M Z V L K J I H G E D B A z w v u t y18 y19 y20 y21 y22 X U T Y S W MA MB y31 y32 UF UA UW y36 SQ SD SG VX TP=(Ax (decide (V<8)) (Aw (call 22 [.pbox [Am 1 L K,J]]) fun a b=>G2 a fun a=>Ad b fun b c=>Iw 1 b fun b e f=>B8 .i64 f fun f=>Ak c<|Ax a (Aw (call 10 [.pbox [Am 1 b e,f],(2:Int)]) fun a b=>B8 .i64 a fun a=>Ad b fun b c=>Iw 1 b fun b e f=>B8 .i64 f fun f=>Ak c<|Aw (call 10 [.pbox [Am 1 b e,f],(4:Int)]) fun b c=>B8 .i64 b fun b=>Ad c fun c e=>Iw 1 c fun c f g=>B8 .i64 g fun g=>Ak e<|Aw (call 10 [.pbox [Am 1 c f,g],(2:Int)]) fun c e=>B8 .i64 c fun c=>Ad e fun e f=>Iw 1 e fun e g h=>B8 .i64 h fun h=>Ak f<|Ar (decide (0+Y*1<=W.length))<|Ar (decide (0+Z*1<=X.length))<|D8 (call 14 [.agg [Ag U,T,Am 1 Y (List.take (Y*1) (W.drop 0)),S],Bm ⟨#[101,120,97,109,112,108,101,46,99,111,109]⟩,Bm ⟨#[104,116,116,112,115,58,47,47,108,111,103,105,110,46,101,120,97,109,112,108,101,46,99,111,109]⟩,Am 1 Z (List.take (Z*1) (X.drop 0)),C5 (a==1),b,c,Bm ⟨#[]⟩]) fun a b=>Eo a fun a=>Dw .i64 a fun a c=>Ad c fun c f=>Bi c fun c=>Iw 1 f fun f i j=>Iw 1 j fun j k m=>Iw 1 m fun m n o=>Dw .i64 o fun o p=>Iw 1 p fun p q s=>Ad s fun s Bjq=>Bi s fun s=>Ak Bjq<|Ak b<|Ex fu call Q P O N fu M Z V e g h I H G E D B A z w v u t y18 y19 y20 y21 y22 X U T Y S W MA MB y31 y32 UF UA UW y36 SQ SD SG VX TP a c f i j k m n o p q s) (D8 (call 21 []) fun a b=>Bn a fun a=>Ak b<|Bh [a])) (D8 (call 21 []) fun a b=>Bn a fun a=>Ak b<|Bh [a])):=by kernel_rfl
theorem Ol(Y:Nat)(X:Ae)(W:Int)(V Z:Nat)(Hs:0<Z)(U:Int)(T:Nat)(S:Int)(y3:Nat)(y4:Ae)(y5:Int)(Q P:ByteArray)(O:Nat)(N:Ae)(M:Int)(L:Bool)(K J:Int)(I:Bool)(H:Int)(G:Bool)(E:Nat)(D:Ae)(B A:Int)(z w:Int)(v:Ae)(u t:Int)(LZ:Nat)(DU:Bool)(LW:Ae)(MA:Nat)(MB:Ae)(y31 y32:Int)(UF UA:Int)(UW:Bool)(y36:Int)(SQ:Nat)(SD:Ae)(SG:Bool)(VX TP y42:Int)(y43:ByteArray)(y44:Nat)(y45:Ae)(y46:Nat)(y47:Ae)(y48:Nat)(y49:Ae)(y50:Int)(y51:Nat)(y52:Ae)(y53:ByteArray):Ex fu call Y X W V Z U T S y3 y4 y5 Q P O N M L K J I H G E D B A z w v u t LZ DU LW MA MB y31 y32 UF UA UW y36 SQ SD SG VX TP y42 y43 y44 y45 y46 y47 y48 y49 y50 y51 y52 y53=(Aw (call 10 [.pbox [Am 1 y3 y4,y5],(3:Int)]) fun a b=>B8 .i64 a fun a=>Ad b fun b c=>Iw 1 b fun b e f=>B8 .i64 f fun f=>Ak c<|Ax (a==2) (Aw (call 16 [.pbox [Am 1 b e,f],.agg [y42,y43,Am 1 y44 y45,Am 1 y46 y47,Am 1 y48 y49,y50,Am 1 y51 y52,y53]]) fun a b=>Ad a fun a c=>Eo a fun a=>Dw .i64 a fun a e=>Ad e fun e f=>Bi e fun e=>Iw 1 f fun f g h=>Iw 1 h fun h i j=>Iw 1 j fun j k m=>Dw .i64 m fun m n=>Iw 1 n fun n o p=>Ad p fun p q=>Bi p fun p=>Ak q<|Ak c<|Ad b fun b c=>Iw 1 b fun b q s=>B8 .i64 s fun s=>Ak c<|Ew fu call Y X W V fu U T S b q s Q P O N M L K J I H G E D B A z w v u t LZ DU LW MA MB y31 y32 UF UA UW y36 SQ SD SG VX TP a e f g h i j k m n o p) (Ew fu call Y X W V fu U T S b e f Q P O N M L K J I H G E D B A z w v u t LZ DU LW MA MB y31 y32 UF UA UW y36 SQ SD SG VX TP y42 y43 y44 y45 y46 y47 y48 y49 y50 y51 y52 y53)):=by cases Z with|zero=>exact absurd Hs (Nat.lt_irrefl 0)|succ Z=>kernel_rfl
theorem Oy(v:Nat)(u:Ae)(t:Int)(m0 nn:Nat)(Hs:0<nn)(Y:Int)(X:Nat)(y2:Int)(y3:Nat)(y4:Ae)(y5:Int)(V U:ByteArray)(T:Nat)(S:Ae)(Q:Int)(P:Bool)(O N:Int)(M:Bool)(L:Int)(K:Bool)(J:Nat)(I:Ae)(H G:Int)(E D:Int)(W:Ae)(QW RI:Int)(LZ:Nat)(DU:Bool)(LW:Ae)(MA:Nat)(MB:Ae)(B A:Int)(UF UA:Int)(UW:Bool)(Z:Int)(SQ:Nat)(SD:Ae)(SG:Bool)(VX TP y42:Int)(y43:ByteArray)(y44:Nat)(y45:Ae)(z:Nat)(w:Ae)(y48:Nat)(y49:Ae)(y50:Int)(y51:Nat)(y52:Ae)(y53:ByteArray):Ew fu call v u t m0 nn Y X y2 y3 y4 y5 V U T S Q P O N M L K J I H G E D W QW RI LZ DU LW MA MB B A UF UA UW Z SQ SD SG VX TP y42 y43 y44 y45 z w y48 y49 y50 y51 y52 y53=(Gs .i64 (call 20 [Y,(1000:Int)]) fun a=>Ar (decide (0+X*1<=W.length))<|D8 (call 23 [.agg [V,U,Am 1 T S,Q,P,O,N,M,L,K,Am 1 J I,H,Ag G,E,Ag D],.agg [(0:Int),(0:Int),(0:Int),Am 3 0 [],(0:Int),Am 1 0 [],Am 1 0 []],.agg [Am 1 MA MB,B,Ag A,Ag UF,UA,UW,Ag Z,Am 2 SQ SD,SG,VX,TP],Am 1 X (List.take (X*1) (W.drop 0)),a,.agg [y42,y43,Am 1 y44 y45,Am 1 z w,Am 1 y48 y49,y50,Am 1 y51 y52,y53]]) fun a b=>Eo a fun a=>Iw 1 a fun a c e=>Dw .i64 e fun e f=>Dw .u64 f fun f g=>Dw .u64 g fun g h=>Dw .i64 h fun h i=>Ad i fun i j=>Bn i fun i=>Dw .u64 j fun j k=>Iw 2 k fun k m n=>Ad n fun n o=>Bn n fun n=>Dw .i64 o fun o p=>B8 .i64 p fun p=>B8 .i64 b fun b=>Ax (b==37) (Ax n (D8 (call 24 [Am 1 z w]) fun a b=>Eo a fun a=>Dw .i64 a fun a c=>XI 1 c fun c e f=>XI 1 f fun c e f=>Ak f<|B8 .i64 b fun b=>Ax (b != 0) (Bh [false]) (Aa (wrap .u64 a) fun a=>Ar (decide (0<=a))<|Aa (F3 .u64 Z a) fun a=>Aa (Du .u64 a 1) fun a=>Ax (a != 1) (Bh [false]) (Aa (wrap .i64 (y2+1)) fun a=>B0 fu call v u t m0 Y X a y3 y4 y5 V U T S Q P O N M L K J I H G E D W QW RI LZ DU LW MA MB B A UF UA UW Z SQ SD SG VX TP))) (Ax (b != 0) (Aa (wrap .i64 (y2+1)) fun a=>B0 fu call v u t m0 Y X a y3 y4 y5 V U T S Q P O N M L K J I H G E D W QW RI LZ DU LW MA MB B A UF UA UW Z SQ SD SG VX TP) (D8 (call 24 [Am 1 z w]) fun b q=>Eo b fun b=>Dw .i64 b fun b s=>XI 1 s fun s A86 Bee=>XI 1 Bee fun A3u A8x Bi3=>Ak Bi3<|B8 .i64 q fun q=>Ax (q != 0) (Bh [false]) (Gs .u64 (call 26 [.agg [y42,y43,Am 1 y44 y45,Am 1 z w,Am 1 y48 y49,y50,Am 1 y51 y52,y53]]) fun q=>Ar (decide (0+s*1<=A86.length))<|Ar (decide (0+A3u*1<=A8x.length))<|Gs .i64 (call 25 [.agg [B,Ag A],Ag q,.agg [b,Am 1 s (List.take (s*1) (A86.drop 0)),Am 1 A3u (List.take (A3u*1) (A8x.drop 0))]]) fun q=>Ax (q != 0) (Bh [false]) (Aa (wrap .u64 b) fun q=>Ar (decide (0<=q))<|Aa (F3 .u64 Z q) fun q=>Aa (Du .u64 q 1) fun q=>Ax (q==1) (Bh [false]) (Aa (wrap .u64 b) fun b=>Ar (decide (0<=b))<|Aa (D9 .u64 1 b) fun b=>Aa (Xf .u64 Z b) fun b=>Ax (j != b) (Bh [false]) (Gs .i64 (call 20 [Y,(1000:Int)]) fun b=>Ax (p != b) (Bh [false]) (Aa (wrap .i64 (y2+1)) fun b=>B0 fu call v u t m0 Y X b y3 y4 y5 V U T S Q P O N M L K J I H G E D W QW RI LZ DU LW a c e f g h i j k m n o p)))))))) (Ax (b != 0) (Aa (wrap .i64 (y2+1)) fun a=>B0 fu call v u t m0 Y X a y3 y4 y5 V U T S Q P O N M L K J I H G E D W QW RI LZ DU LW MA MB B A UF UA UW Z SQ SD SG VX TP) (D8 (call 24 [Am 1 z w]) fun b q=>Eo b fun b=>Dw .i64 b fun b s=>XI 1 s fun s A93 Bi8=>XI 1 Bi8 fun A3n Bb7 Bgf=>Ak Bgf<|B8 .i64 q fun q=>Ax (q != 0) (Bh [false]) (Gs .u64 (call 26 [.agg [y42,y43,Am 1 y44 y45,Am 1 z w,Am 1 y48 y49,y50,Am 1 y51 y52,y53]]) fun q=>Ar (decide (0+s*1<=A93.length))<|Ar (decide (0+A3n*1<=Bb7.length))<|Gs .i64 (call 25 [.agg [B,Ag A],Ag q,.agg [b,Am 1 s (List.take (s*1) (A93.drop 0)),Am 1 A3n (List.take (A3n*1) (Bb7.drop 0))]]) fun q=>Ax (q != 0) (Bh [false]) (Aa (wrap .u64 b) fun q=>Ar (decide (0<=q))<|Aa (F3 .u64 Z q) fun q=>Aa (Du .u64 q 1) fun q=>Ax (q==1) (Bh [false]) (Aa (wrap .u64 b) fun b=>Ar (decide (0<=b))<|Aa (D9 .u64 1 b) fun b=>Aa (Xf .u64 Z b) fun b=>Ax (j != b) (Bh [false]) (Gs .i64 (call 20 [Y,(1000:Int)]) fun b=>Ax (p != b) (Bh [false]) (Aa (wrap .i64 (y2+1)) fun b=>B0 fu call v u t m0 Y X b y3 y4 y5 V U T S Q P O N M L K J I H G E D W QW RI LZ DU LW a c e f g h i j k m n o p)))))))):=by cases nn with|zero=>exact absurd Hs (Nat.lt_irrefl 0)|succ nn=>kernel_rfl
theorem Fd(Q:Nat)(P:Ae)(O:Int)(N:Nat)(M:Int)(Z:Nat)(V:Int)(L:Nat)(K:Ae)(J:Int)(I H:ByteArray)(G:Nat)(E:Ae)(D:Int)(B:Bool)(A z:Int)(w:Bool)(v:Int)(u:Bool)(t:Nat)(y18:Ae)(y19 y20:Int)(y21 y22:Int)(X:Ae)(U T:Int)(Y:Nat)(S:Bool)(W:Ae)(MA:Nat)(MB:Ae)(y31 y32:Int)(UF UA:Int)(UW:Bool)(y36:Int)(SQ:Nat)(SD:Ae)(SG:Bool)(VX TP:Int):B0 fu call Q P O (N+1) M Z V L K J I H G E D B A z w v u t y18 y19 y20 y21 y22 X U T Y S W MA MB y31 y32 UF UA UW y36 SQ SD SG VX TP=(Ax (decide (V<8)) (Aw (call 22 [.pbox [Am 1 L K,J]]) fun a b=>G2 a fun a=>Ad b fun b c=>Iw 1 b fun b e f=>B8 .i64 f fun f=>Ak c<|Ax a (Aw (call 10 [.pbox [Am 1 b e,f],(2:Int)]) fun a b=>B8 .i64 a fun a=>Ad b fun b c=>Iw 1 b fun b e f=>B8 .i64 f fun f=>Ak c<|Aw (call 10 [.pbox [Am 1 b e,f],(4:Int)]) fun b c=>B8 .i64 b fun b=>Ad c fun c e=>Iw 1 c fun c f g=>B8 .i64 g fun g=>Ak e<|Aw (call 10 [.pbox [Am 1 c f,g],(2:Int)]) fun c e=>B8 .i64 c fun c=>Ad e fun e f=>Iw 1 e fun e g h=>B8 .i64 h fun h=>Ak f<|Ar (decide (0+Y*1<=W.length))<|Ar (decide (0+Z*1<=X.length))<|D8 (call 14 [.agg [Ag U,T,Am 1 Y (List.take (Y*1) (W.drop 0)),S],Bm ⟨#[101,120,97,109,112,108,101,46,99,111,109]⟩,Bm ⟨#[104,116,116,112,115,58,47,47,108,111,103,105,110,46,101,120,97,109,112,108,101,46,99,111,109]⟩,Am 1 Z (List.take (Z*1) (X.drop 0)),C5 (a==1),b,c,Bm ⟨#[]⟩]) fun a b=>Eo a fun a=>Dw .i64 a fun a c=>Ad c fun c f=>Bi c fun c=>Iw 1 f fun f i j=>Iw 1 j fun j k m=>Iw 1 m fun m n o=>Dw .i64 o fun o p=>Iw 1 p fun p q s=>Ad s fun s Bf2=>Bi s fun s=>Ak Bf2<|Ak b<|Ex fu call Q P O N fu M Z V e g h I H G E D B A z w v u t y18 y19 y20 y21 y22 X U T Y S W MA MB y31 y32 UF UA UW y36 SQ SD SG VX TP a c f i j k m n o p q s) (D8 (call 21 []) fun a b=>Bn a fun a=>Ak b<|Bh [a])) (D8 (call 21 []) fun a b=>Bn a fun a=>Ak b<|Bh [a])):=by kernel_rfl
theorem Rz{p:Option (Ae->Option Bq)}(fu d Z:Nat)(Y:Ae)(X:Int):Ac (CP p) prog fu (d+1) 5 [Am 1 Z Y,X]=(fun (call:Ap)=>D8 (call 7 [Am 1 Z Y]) fun a b=>AN a fun a=>Iw 1 a fun a c e=>B8 .i64 e fun e=>Ak b<|Aw (call 8 [.pbox [Am 1 a c,e]]) fun a b=>Ad a fun a c=>Eo a fun a=>Ad a fun a e=>Bi a fun a=>Ad e fun e f=>Bi e fun e=>Iw 1 f fun f g h=>Dw .i64 h fun h i=>Ad i fun i j=>Bn i fun i=>Dw .i64 j fun j k=>Dw .i64 k fun k m=>Ad m fun m n=>Bn m fun m=>Dw .i64 n fun n o=>Ad o fun o q=>Bn o fun o=>Iw 1 q fun q s t=>Dw .i64 t fun t u=>Dw .u64 u fun u v=>Dw .i64 v fun v w=>B8 .u64 w fun w=>Ak c<|Ad b fun b c=>Iw 1 b fun b z A=>B8 .i64 A fun A=>Ak c<|I1 fu call Z Y X fu X b z A a e f g h i j k m n o q s t u v w) (Ac (CP p) prog fu d):=by kernel_rfl
end
section
variable {xs:FuncId->Option (Ae->Option Bq)}(fu d:Nat)(call:Ap)
theorem Vy{p:Option (Ae->Option Bq)}(fu d M:Nat)(L:Ae)(K W:Int)(Y:ByteArray)(V:Nat)(U:Ae)(T:Nat)(S:Ae)(Z:Nat)(X:Ae)(O:Int)(Q:Nat)(P:Ae)(N:ByteArray):Ac (CP p) prog fu (d+1) 16 [.pbox [Am 1 M L,K],.agg [W,Y,Am 1 V U,Am 1 T S,Am 1 Z X,O,Am 1 Q P,N]]=(fun (call:Ap)=>Aw (call 10 [.pbox [Am 1 M L,K],(12:Int)]) fun a b=>B8 .i64 a fun a=>Ad b fun b c=>Iw 1 b fun b e f=>B8 .i64 f fun f=>Ak c<|Ax (a==0) (Aa (wrap .i64 (3-W)) fun a=>some ⟨[.agg [a,Y,Am 1 V U,Am 1 T S,Am 1 Z X,O,Am 1 Q P,N]],[[Am 1 b e,f]]⟩) (Ax (a==1) (Ar (decide (ByteArray.size Y+1<=9223372036854775807))<|Aa (Y++ByteArray.mk #[32]) fun a=>some ⟨[.agg [W,a,Am 1 V U,Am 1 T S,Am 1 Z X,O,Am 1 Q P,N]],[[Am 1 b e,f]]⟩) (Ax (a==2) (Aa (wrap .i64 (Int.tdiv (↑(ByteArray.size Y):Int) 2)) fun a=>Ar (decide (0<=a))<|Ar (decide (a.toNat<=ByteArray.size Y))<|Aa (ByteArray.extract Y 0 a.toNat) fun a=>some ⟨[.agg [W,a,Am 1 V U,Am 1 T S,Am 1 Z X,O,Am 1 Q P,N]],[[Am 1 b e,f]]⟩) (Ax (a==3) (Aw (call 10 [.pbox [Am 1 b e,f],(300:Int)]) fun a b=>B8 .i64 a fun a=>Ad b fun b c=>Iw 1 b fun b e f=>B8 .i64 f fun f=>Ak c<|D8 (call 41 [Am 1 V U,a]) fun a c=>Lh 1 a fun a g=>Ak c<|Ar (decide (0+a*1<=g.length))<|some ⟨[.agg [W,Y,Am 1 a (List.take (a*1) (g.drop 0)),Am 1 T S,Am 1 Z X,O,Am 1 Q P,N]],[[Am 1 b e,f]]⟩) (Ax (a==4) (Aw (call 10 [.pbox [Am 1 b e,f],(300:Int)]) fun a b=>B8 .i64 a fun a=>Ad b fun b c=>Iw 1 b fun b e f=>B8 .i64 f fun f=>Ak c<|D8 (call 41 [Am 1 V U,a]) fun a c=>Lh 1 a fun a g=>Ak c<|Ar (decide (0+a*1<=g.length))<|some ⟨[.agg [W,Y,Am 1 a (List.take (a*1) (g.drop 0)),Am 1 T S,Am 1 Z X,O,Am 1 Q P,N]],[[Am 1 b e,f]]⟩) (Ax (a==5) (Aw (call 10 [.pbox [Am 1 b e,f],(300:Int)]) fun a b=>B8 .i64 a fun a=>Ad b fun b c=>Iw 1 b fun b e f=>B8 .i64 f fun f=>Ak c<|D8 (call 41 [Am 1 T S,a]) fun a c=>Lh 1 a fun a g=>Ak c<|Ar (decide (0+a*1<=g.length))<|some ⟨[.agg [W,Y,Am 1 V U,Am 1 a (List.take (a*1) (g.drop 0)),Am 1 Z X,O,Am 1 Q P,N]],[[Am 1 b e,f]]⟩) (Ax (a==6) (Aw (call 10 [.pbox [Am 1 b e,f],(300:Int)]) fun a b=>B8 .i64 a fun a=>Ad b fun b c=>Iw 1 b fun b e f=>B8 .i64 f fun f=>Ak c<|D8 (call 41 [Am 1 T S,a]) fun a c=>Lh 1 a fun a g=>Ak c<|Ar (decide (0+a*1<=g.length))<|some ⟨[.agg [W,Y,Am 1 V U,Am 1 a (List.take (a*1) (g.drop 0)),Am 1 Z X,O,Am 1 Q P,N]],[[Am 1 b e,f]]⟩) (Ax (a==7) (Aw (call 10 [.pbox [Am 1 b e,f],(5:Int)]) fun a b=>B8 .i64 a fun a=>Ad b fun b c=>Iw 1 b fun b e f=>B8 .i64 f fun f=>Ak c<|Aa (wrap .i64 (a-1)) fun a=>some ⟨[.agg [W,Y,Am 1 V U,Am 1 T S,Am 1 Z X,a,Am 1 Q P,N]],[[Am 1 b e,f]]⟩) (Ax (a==8) (Aw (call 10 [.pbox [Am 1 b e,f],(200:Int)]) fun a b=>B8 .i64 a fun a=>Ad b fun b c=>Iw 1 b fun b e f=>B8 .i64 f fun f=>Ak c<|D8 (call 41 [Am 1 Q P,a]) fun a c=>Lh 1 a fun a g=>Ak c<|Ar (decide (0+a*1<=g.length))<|some ⟨[.agg [W,Y,Am 1 V U,Am 1 T S,Am 1 Z X,O,Am 1 a (List.take (a*1) (g.drop 0)),N]],[[Am 1 b e,f]]⟩) (Ax (a==9) (Aw (call 10 [.pbox [Am 1 b e,f],(2:Int)]) fun a b=>B8 .i64 a fun a=>Ad b fun b c=>Iw 1 b fun b e f=>B8 .i64 f fun f=>Ak c<|Ar (decide (0<=a)&&decide (a<2))<|Bi (List.getD [Bm ⟨#[]⟩,Bm ⟨#[120]⟩] (0+a.toNat*1) .top) fun a=>some ⟨[.agg [W,Y,Am 1 V U,Am 1 T S,Am 1 Z X,O,Am 1 Q P,a]],[[Am 1 b e,f]]⟩) (Ax (a==10) (Ar (decide (X.length=Z*1)&&decide (Z*24<=1099511627776)&&decide (Z<=1099511627776))<|Aw (call 10 [.pbox [Am 1 b e,f],(20:Int)]) fun a b=>B8 .i64 a fun a=>Ad b fun b c=>Iw 1 b fun b e f=>B8 .i64 f fun f=>Ak c<|D8 (call 9 [(3:Int),a]) fun a c=>Lh 1 a fun a g=>Ak c<|Ar (decide (0+a*1<=g.length))<|ZzA Z 1 24 X [Am 1 a (List.take (a*1) (g.drop 0))] fun a c=>Ar (decide (0+a*1<=c.length))<|some ⟨[.agg [W,Y,Am 1 V U,Am 1 T S,Am 1 a (List.take (a*1) (c.drop 0)),O,Am 1 Q P,N]],[[Am 1 b e,f]]⟩) (Ax (a==11) (Ax (decide ((↑Z:Int)>0)) (Ar (decide (0<(↑Z:Int)))<|Xs 1 (X.getD 0 .top) fun a c g=>Aw (call 10 [.pbox [Am 1 b e,f],(300:Int)]) fun a b=>B8 .i64 a fun a=>Ad b fun b e=>Iw 1 b fun b f h=>B8 .i64 h fun h=>Ak e<|D8 (call 41 [Am 1 c g,a]) fun a c=>Lh 1 a fun a e=>Ak c<|Ar (decide (0+a*1<=e.length))<|some ⟨[.agg [W,Y,Am 1 V U,Am 1 T S,Am 1 1 [Am 1 a (List.take (a*1) (e.drop 0))],O,Am 1 Q P,N]],[[Am 1 b f,h]]⟩) (some ⟨[.agg [W,Y,Am 1 V U,Am 1 T S,Am 1 Z X,O,Am 1 Q P,N]],[[Am 1 b e,f]]⟩)) (some ⟨[.agg [W,Y,Am 1 V U,Am 1 T S,Am 1 Z X,O,Am 1 Q P,N]],[[Am 1 b e,f]]⟩))))))))))))) (Ac (CP p) prog fu d):=by kernel_rfl
end
theorem A4v:∀(x:Fin 256)(k:Fin 8),Ez .u8 (x.val:Int) (D9 .u8 1 (k.val:Int))≠(x.val:Int):=by decide +kernel
section
variable {fu d:Nat}
theorem Bcb{b:Al}(hb:Db b)(hl:b.length<=1000){n:Int}(h0:0<=n)(h1:n<=1000000):∃r,Db r/\r.length<=1001/\r≠b/\∀{fu d:Nat},Ac C1 prog fu (d+1) 41 [.lst false 1 b.length (Af .u8 b),As n]=some ⟨[.own 1 r.length (Af .u8 r)],[]⟩:=by
 by_cases hz:b.length=0
 ·refine⟨[wrap .u8 n],?_,by simp,?_,fun {fu d}=>(Tr fu d b.length (Af .u8 b) n).trans ?_⟩
  ·intro x hx;simp at hx;subst hx;exact UI n
  ·intro h;rw[<-h] at hz;simp at hz
  ·have b0:((b.length:Int)==0)=true:=by rw[hz];rfl
   simp(disch:=omega)only[Be,Bd,b0];rfl
 have m0:0<=Int.tmod n b.length:=Int.tmod_nonneg _ h0;have m1:Int.tmod n b.length<b.length:=Int.tmod_lt_of_pos _ (by omega);have m2:(Int.tmod n b.length).toNat<b.length:=by generalize Int.tmod n b.length=im at *;omega
 obtain⟨x,hx⟩:∃x,b[(Int.tmod n b.length).toNat]?=some x:=⟨_,List.getElem?_eq_getElem m2⟩
 have hg:=R6 (k:=.u8) hx;have xB:=hb x (List.mem_of_getElem? hx);have ib:=Agw (a:=n) (m:=7) (by omega) (by omega);obtain⟨a7,h7⟩:∃a7,Du .i64 n 7=a7:=⟨_,rfl⟩
 rw[h7] at ib;have w4:wrap .u64 a7=a7:=Ec;have L:=An .u8 b;obtain⟨v,hv⟩:∃v,Ez .u8 x (D9 .u8 1 a7)=v:=⟨_,rfl⟩
 have hvb:0<=v/\v<=255:=by rw[<-hv];exact UI _
 have hvx:v≠x:=by
  obtain⟨x,rfl⟩:=Int.eq_ofNat_of_zero_le xB.1;obtain⟨a7,rfl⟩:=Int.eq_ofNat_of_zero_le (show 0<=a7 by omega);rw[<-hv];exact A4v ⟨x,by omega⟩ ⟨a7,by omega⟩
 have es:B3 (Af .u8 b) [.sc (.int .u8 v)] (Int.tmod n b.length).toNat=Af .u8 (b.set (Int.tmod n b.length).toNat v):=by
  rw[Iv (by rw[L];exact m2)]
  have:=Akk (f:=Ayx .u8) (CN .u8) (p:=.sc (.int .u8 v)) (j:=0) (by omega) hx (y:=v) rfl;rw[Jc,ZS] at this;exact this
 have t2:=LY .u8 (b.set (Int.tmod n b.length).toNat v);have l2:(b.set (Int.tmod n b.length).toNat v).length=b.length:=List.length_set;have L2:=An .u8 (b.set (Int.tmod n b.length).toNat v);rw[l2] at t2;refine⟨b.set (Int.tmod n b.length).toNat v,?_,by rw[l2];omega,?_,fun {fu d}=>(Tr fu d b.length (Af .u8 b) n).trans ?_⟩
 ·intro y hy;rcases List.mem_or_eq_of_mem_set hy with hy|hy
  ·exact hb y hy
  ·subst hy;exact hvb
 ·intro h;have:=congrArg (fun l=>l[(Int.tmod n b.length).toNat]?) h;simp only[List.getElem?_set_self m2,hx] at this;exact hvx (Option.some.inj this)
 have b0:((b.length:Int)==0)=false:=beq_eq_false_iff_ne.2 (by omega);rw[l2];generalize Int.tmod n b.length=im at *
 repeat(with_reducible(first|apply A9|apply Au|apply Bb|apply Bf|apply K3|apply Ql|apply At|apply Ba|apply Gn);· first|constructor|(simp(disch:=omega)only[Gp,b0,Ir,Jc,L,hg,h7,w4,hv,es,L2,t2]<;>first|constructor|omega)|omega)
 try simp(disch:=omega)only[Aa,b0,Ir,Jc,L,hg,h7,w4,hv,es,L2,t2]
 all_goals rfl
structure Rq.few(r:Rq):Prop where
 cd:r.cd.size<=60000
 adB:Db r.ad
 ad:r.ad.length<=1000
 sgB:Db r.sg
 sg:r.sg.length<=1000
 idB:Db r.id
 id:r.id.length<=1000
 cn:r.cn=0
 cc:r.cc=[]
theorem A00(seed h leaf m:Int):(asG seed h leaf m).length<=1000:=by
 unfold asG;split
 ·rename_i s hs;unfold Afc at hs;split at hs
  ·cases hs
  split at hs
  ·cases hs
  rename_i hh _;cases hs;have hb:=Mu (h:=h) (by simpa using hh);rw[A0j];simp[BK];omega
 ·simp
theorem Ary{seed h:Int}{id:Al}{sh:Bool}{rp:ByteArray}{o ch:Al}{vf:Bool}{leaf f:Int}{us:ByteArray}(ho:o.length<=50000)(hi:Db id)(XD:id.length<=1000):(XM seed h id sh rp o ch vf leaf f us).few:=
 ⟨WG ho,Ajc _,by have:=VZ (BV rp sh vf leaf f);show (Q0 _).length<=_;omega,A1l _ _ _ _,A00 _ _ _ _,hi,XD,rfl,rfl⟩
theorem Rq.few.ok{r:Rq}(h:r.few):r.ok:=⟨by have:=h.cd;omega,h.adB,by have:=h.ad;omega,h.sgB⟩
set_option maxHeartbeats 4000000 in
theorem A48(Bv:1000<=fu){r:Rq}(hr:r.few){l:Al}(hl:l.length<=maxLen)(i:Nat):∃(s:Rq)(j:Nat),s.ok/\Ac C1 prog fu (d+8) 16 [.pbox (HW l i),.agg r.cells]=some ⟨[.agg s.cells],[HW l j]⟩:=by
 obtain⟨v,j,v0,v1,nx⟩:=Ko hl i 12 (by omega) (by omega);have nx:=nx (fu:=fu) (d:=d+5) (p:=some Da);obtain⟨kind,cd,ad,sg,cn,cc,fm,id,us⟩:=r;obtain⟨h1,h2,h3,h4,h5,h6,h7,h8,h9⟩:=hr;simp only at h1 h2 h3 h4 h5 h6 h7 h8 h9;subst h8 h9;have E:∀{R:Option Bq},_=R->_=R:=fun {R} q=>(Vy (p:=some Da) fu (d+7) l.length (Af .i64 l) i kind cd ad.length (Af .u8 ad) sg.length (Af .u8 sg) 0 [] fm id.length (Af .u8 id) us).trans q;have hv:v=0\/v=1\/v=2\/v=3\/v=4\/v=5\/v=6\/v=7\/v=8\/v=9\/v=10\/v=11:=by omega
 simp only[HW] at nx
 have FL:∀{b:Al},Db b->b.length<=1000->∀m:Int,0<m->m<=1000->∃(x:Al) (w:Int) (j2:Nat),Db x/\x.length<=1001/\Ac C1 prog fu (d+7) 10 [.pbox [.lst false 1 l.length (Af .i64 l),As (j:Int)],As m]=some ⟨[As w],[[.lst false 1 l.length (Af .i64 l),As (j2:Int)]]⟩ /\
   Ac C1 prog fu (d+7) 41 [.lst false 1 b.length (Af .u8 b),As w]=some ⟨[.own 1 x.length (Af .u8 x)],[]⟩/\decide (0+x.length*1<=List.length (Af .u8 x))=true/\List.take (x.length*1) (List.drop 0 (Af .u8 x))=Af .u8 x:=by
  intro b hb Nx m hm hm2;obtain⟨w,j2,w0,w1,ny⟩:=Ko hl j m hm (by omega);obtain⟨x,x1,x2,_,x3⟩:=Bcb hb Nx w0 (by omega);have L:=An .u8 x;exact⟨x,w,j2,x1,x2,ny (fu:=fu) (d:=d+5) (p:=some Da),x3 (fu:=fu) (d:=d+6),dT (by omega),Iu (by rw[Ls];omega)⟩
 rcases hv with rfl|rfl|rfl|rfl|rfl|rfl|rfl|rfl|rfl|rfl|rfl|rfl
 ·refine⟨⟨wrap .i64 (3-kind),cd,ad,sg,0,[],fm,id,us⟩,j,⟨by simp only;omega,h2,by simp only;omega,h4⟩,E ?_⟩
  repeat(with_reducible(first|apply A9|apply Au|apply Bb|apply Bf|apply K3|apply Ql|apply At|apply Ba|apply Gn);· first|constructor|(simp(disch:=omega)only[Gp,Int.reduceBEq,nx]<;>first|constructor|omega)|omega)
  try simp(disch:=omega)only[Aa,Int.reduceBEq,nx]
  all_goals rfl
 ·have e1:(ByteArray.mk #[32]).size=1:=rfl;refine⟨⟨kind,cd++ByteArray.mk #[32],ad,sg,0,[],fm,id,us⟩,j,⟨by simp only;rw[ByteArray.size_append,e1];omega,h2,by simp only;omega,h4⟩,E ?_⟩
  repeat(with_reducible(first|apply A9|apply Au|apply Bb|apply Bf|apply K3|apply Ql|apply At|apply Ba|apply Gn);· first|constructor|(simp(disch:=omega)only[Gp,Int.reduceBEq,nx]<;>first|constructor|omega)|omega)
  try simp(disch:=omega)only[Aa,Int.reduceBEq,nx]
  all_goals rfl
 ·have t0:Int.tdiv (cd.size:Int) 2=((cd.size / 2:Nat):Int):=by
   rw[Int.ofNat_tdiv];rfl
  have w0:wrap .i64 ((cd.size / 2:Nat):Int)=((cd.size / 2:Nat):Int):=Bj;have n0:Int.toNat ((cd.size / 2:Nat):Int)=cd.size / 2:=rfl;refine⟨⟨kind,ByteArray.extract cd 0 (cd.size / 2),ad,sg,0,[],fm,id,us⟩,j,⟨by simp only;rw[ByteArray.size_extract];omega,h2,by simp only;omega,h4⟩,E ?_⟩
  repeat(with_reducible(first|apply A9|apply Au|apply Bb|apply Bf|apply K3|apply Ql|apply At|apply Ba|apply Gn);· first|constructor|(simp(disch:=omega)only[Gp,Int.reduceBEq,nx,t0,w0,n0]<;>first|constructor|omega)|omega)
  try simp(disch:=omega)only[Aa,Int.reduceBEq,nx,t0,w0,n0]
  all_goals rfl
 ·obtain⟨x,w,j2,x1,x2,ny,x3,x4,x5⟩:=FL h2 h3 300 (by omega) (by omega);refine⟨⟨kind,cd,x,sg,0,[],fm,id,us⟩,j2,⟨by simp only;omega,x1,by simp only;omega,h4⟩,E ?_⟩
  repeat(with_reducible(first|apply A9|apply Au|apply Bb|apply Bf|apply K3|apply Ql|apply At|apply Ba|apply Gn);· first|constructor|(simp(disch:=omega)only[Gp,Int.reduceBEq,nx,ny,x3,x4,x5]<;>first|constructor|omega)|omega)
  try simp(disch:=omega)only[Aa,Int.reduceBEq,nx,ny,x3,x4,x5]
  all_goals rfl
 ·obtain⟨x,w,j2,x1,x2,ny,x3,x4,x5⟩:=FL h2 h3 300 (by omega) (by omega);refine⟨⟨kind,cd,x,sg,0,[],fm,id,us⟩,j2,⟨by simp only;omega,x1,by simp only;omega,h4⟩,E ?_⟩
  repeat(with_reducible(first|apply A9|apply Au|apply Bb|apply Bf|apply K3|apply Ql|apply At|apply Ba|apply Gn);· first|constructor|(simp(disch:=omega)only[Gp,Int.reduceBEq,nx,ny,x3,x4,x5]<;>first|constructor|omega)|omega)
  try simp(disch:=omega)only[Aa,Int.reduceBEq,nx,ny,x3,x4,x5]
  all_goals rfl
 ·obtain⟨x,w,j2,x1,x2,ny,x3,x4,x5⟩:=FL h4 h5 300 (by omega) (by omega);refine⟨⟨kind,cd,ad,x,0,[],fm,id,us⟩,j2,⟨by simp only;omega,h2,by simp only;omega,x1⟩,E ?_⟩
  repeat(with_reducible(first|apply A9|apply Au|apply Bb|apply Bf|apply K3|apply Ql|apply At|apply Ba|apply Gn);· first|constructor|(simp(disch:=omega)only[Gp,Int.reduceBEq,nx,ny,x3,x4,x5]<;>first|constructor|omega)|omega)
  try simp(disch:=omega)only[Aa,Int.reduceBEq,nx,ny,x3,x4,x5]
  all_goals rfl
 ·obtain⟨x,w,j2,x1,x2,ny,x3,x4,x5⟩:=FL h4 h5 300 (by omega) (by omega);refine⟨⟨kind,cd,ad,x,0,[],fm,id,us⟩,j2,⟨by simp only;omega,h2,by simp only;omega,x1⟩,E ?_⟩
  repeat(with_reducible(first|apply A9|apply Au|apply Bb|apply Bf|apply K3|apply Ql|apply At|apply Ba|apply Gn);· first|constructor|(simp(disch:=omega)only[Gp,Int.reduceBEq,nx,ny,x3,x4,x5]<;>first|constructor|omega)|omega)
  try simp(disch:=omega)only[Aa,Int.reduceBEq,nx,ny,x3,x4,x5]
  all_goals rfl
 ·obtain⟨w,j2,w0,w1,ny⟩:=Ko hl j 5 (by omega) (by omega);have ny:=ny (fu:=fu) (d:=d+5) (p:=some Da);simp only[HW] at ny;refine⟨⟨kind,cd,ad,sg,0,[],wrap .i64 (w-1),id,us⟩,j2,⟨by simp only;omega,h2,by simp only;omega,h4⟩,E ?_⟩
  repeat(with_reducible(first|apply A9|apply Au|apply Bb|apply Bf|apply K3|apply Ql|apply At|apply Ba|apply Gn);· first|constructor|(simp(disch:=omega)only[Gp,Int.reduceBEq,nx,ny]<;>first|constructor|omega)|omega)
  try simp(disch:=omega)only[Aa,Int.reduceBEq,nx,ny]
  all_goals rfl
 ·obtain⟨x,w,j2,x1,x2,ny,x3,x4,x5⟩:=FL h6 h7 200 (by omega) (by omega);refine⟨⟨kind,cd,ad,sg,0,[],fm,x,us⟩,j2,⟨by simp only;omega,h2,by simp only;omega,h4⟩,E ?_⟩
  repeat(with_reducible(first|apply A9|apply Au|apply Bb|apply Bf|apply K3|apply Ql|apply At|apply Ba|apply Gn);· first|constructor|(simp(disch:=omega)only[Gp,Int.reduceBEq,nx,ny,x3,x4,x5]<;>first|constructor|omega)|omega)
  try simp(disch:=omega)only[Aa,Int.reduceBEq,nx,ny,x3,x4,x5]
  all_goals rfl
 ·obtain⟨w,j2,w0,w1,ny⟩:=Ko hl j 2 (by omega) (by omega);have ny:=ny (fu:=fu) (d:=d+5) (p:=some Da);simp only[HW] at ny
  obtain⟨u,hu⟩:∃u,List.getD [PV.sc (Value.string ⟨#[]⟩),PV.sc (Value.string ⟨#[120]⟩)] (0+Int.toNat w*1) PV.top=Bm u:=by
   rcases (by omega:w=0\/w=1) with h|h<;>subst h
   ·exact⟨_,rfl⟩
   ·exact⟨_,rfl⟩
  refine⟨⟨kind,cd,ad,sg,0,[],fm,id,u⟩,j2,⟨by simp only;omega,h2,by simp only;omega,h4⟩,E ?_⟩
  repeat(with_reducible(first|apply A9|apply Au|apply Bb|apply Bf|apply K3|apply Ql|apply At|apply Ba|apply Gn);· first|constructor|(simp(disch:=omega)only[Gp,Int.reduceBEq,nx,ny,hu]<;>first|constructor|omega)|omega)
  try simp(disch:=omega)only[Aa,Int.reduceBEq,nx,ny,hu]
  all_goals rfl
 ·obtain⟨w,j2,w0,w1,ny⟩:=Ko hl j 20 (by omega) (by omega);have ny:=ny (fu:=fu) (d:=d+5) (p:=some Da);simp only[HW] at ny;obtain⟨w,rfl⟩:=Int.eq_ofNat_of_zero_le w0;obtain⟨x,x1,x2,x3⟩:=Abm (fu:=fu) (d:=d+1) (p:=some Da) Bv 3 (n:=w) (by omega);have x3:Ac C1 prog fu (d+7) 9 [As 3,As ((w:Nat):Int)]=_:=x3;have L:=An .u8 x;have c1:decide (0+w*1<=List.length (Af .u8 x))=true:=dT (by omega);have t1:List.take (w*1) (List.drop 0 (Af .u8 x))=Af .u8 x:=Iu (by rw[Ls];omega)
  refine⟨⟨kind,cd,ad,sg,1,[.lst false 1 w (Af .u8 x)],fm,id,us⟩,j2,⟨by simp only;omega,h2,by simp only;omega,h4⟩,E ?_⟩
  have q1:(decide (([]:Ae).length=0*1)&&decide (0*24<=1099511627776)&&decide (0<=1099511627776))=true:=rfl;have q2:(decide (0*1<=([]:Ae).length)&&true&&decide ((0+1)*24<=1099511627776)&&decide (0+1<=1099511627776))=true:=rfl;have q3:∀y:PV,List.take (0*1) ([]:Ae)++[y]=[y]:=fun _=>rfl;have q4:∀y:PV,decide (0+(0+1)*1<=([y]).length)=true:=fun _=>rfl
  repeat(with_reducible(first|apply A9|apply Au|apply Bb|apply Bf|apply K3|apply Ql|apply At|apply Ba|apply Gn);· first|constructor|(simp(disch:=omega)only[Gp,Int.reduceBEq,nx,ny,x3,c1,t1,q1,q2,q3,q4]<;>first|constructor|omega)|omega)
  try simp(disch:=omega)only[Aa,Int.reduceBEq,nx,ny,x3,c1,t1,q1,q2,q3,q4]
  all_goals rfl
 ·refine⟨⟨kind,cd,ad,sg,0,[],fm,id,us⟩,j,⟨by simp only;omega,h2,by simp only;omega,h4⟩,E ?_⟩
  repeat(with_reducible(first|apply A9|apply Au|apply Bb|apply Bf|apply K3|apply Ql|apply At|apply Ba|apply Gn);· first|constructor|(simp(disch:=omega)only[Gp,Int.reduceBEq,nx]<;>first|constructor|omega)|omega)
  try simp(disch:=omega)only[Aa,Int.reduceBEq,nx]
  all_goals rfl
end
theorem Ael(c:Cf)(m:Mt)(s:Sd)(ch:Al)(now:Int)(r:Rq):((Pq c m s ch now r).1=sd0/\(Pq c m s ch now r).2≠0)\/∃a g,sgD r.sg=some g/\PY ⟨s.ht,s.root⟩ (GL r.ad (Fb 11 (Dk r.cd))) g=0/\Pq c m s ch now r=Ig s g.leaf a now:=by
 unfold Pq;simp only[Bool.cond_eq_ite];split
 ·exact .inl ⟨rfl,by decide⟩
 split
 ·exact .inl ⟨rfl,by decide⟩
 split
 ·rename_i h;exact .inl ⟨rfl,by simpa using h⟩
 split
 ·exact .inl ⟨rfl,by decide⟩
 split
 ·exact .inl ⟨rfl,by decide⟩
 rename_i a _;unfold Afa;simp only[Bool.cond_eq_ite];split
 ·exact .inl ⟨rfl,by decide⟩
 split
 ·exact .inl ⟨rfl,by decide⟩
 split
 ·exact .inl ⟨rfl,by decide⟩
 rename_i g hg;unfold Ahl;simp only[Bool.cond_eq_ite];split
 ·rename_i h;exact .inl ⟨rfl,by simpa using h⟩
 rename_i hv;split
 ·exact .inl ⟨rfl,by decide⟩
 split
 ·rename_i h;exact .inl ⟨rfl,by simpa using h⟩
 split
 ·rename_i h;split
  ·exact .inl ⟨rfl,by simpa using h⟩
  ·exact .inr ⟨a.rg,g,hg,by simpa using hv,rfl⟩
 ·exact .inr ⟨a.rg,g,hg,by simpa using hv,rfl⟩
theorem A34{s:Sd}{leaf f now:Int}(h:(Ig s leaf f now).2=37)(h2:(Ig s leaf f now).1.sus=true):0<=leaf/\leaf<=15/\Agv s.used leaf=true:=by
 unfold Ig at h h2;split at h
 ·cases h
 rename_i hb;have lr:=Xw (c:=s) (leaf:=leaf) (from_:=f) (by simpa using hb);rw[Br hb] at h2;split at h
 ·cases h
 rename_i hs;rw[Br hs] at h2;split at h
 ·rename_i h3;exact⟨by omega,lr.2.2.1,h3⟩
 rename_i h3;rw[Br h3] at h2;split at h
 ·rename_i h4;rw[h4] at h2;exact absurd h2 hs
 ·cases h
theorem A84{s:Sd}{leaf f now:Int}(h:(Ig s leaf f now).2=0):0<=leaf/\leaf<=15/\Agv s.used leaf=false/\(Ig s leaf f now).1.used=Ahf s.used leaf/\(Ig s leaf f now).1.last=now/\(Ig s leaf f now).1.ht=s.ht/\(Ig s leaf f now).1.root=s.root/\(Ig s leaf f now).1.id=s.id:=by
 unfold Ig at h ⊢;split at h
 ·cases h
 rename_i hb;have lr:=Xw (c:=s) (leaf:=leaf) (from_:=f) (by simpa using hb);rw[Br hb];split at h
 ·cases h
 rename_i hs;rw[Br hs];split at h
 ·cases h
 rename_i h3;rw[Br h3];split at h
 ·cases h
 rename_i r h4;simp only[h4];exact⟨by omega,lr.2.2.1,by simpa using h3,trivial,trivial,trivial,trivial,trivial⟩
section
variable {fu d:Nat}
theorem Bal(l:Al)(a:Nat):Ac C1 prog fu (d+1) 22 [.pbox (HW l a)]=some ⟨[C5 (decide ((a:Int)<(l.length:Int)))],[HW l a]⟩:=by unfold HW;rw[V7]
theorem A9k(Bv:1000400<=fu){r:Rq}(hr:r.ok):Ac C1 prog fu (d+6) 26 [.agg r.cells]=some ⟨[Ag (GL r.ad (Fb 11 (Dk r.cd)))],[]⟩:=by
 refine (Yw fu (d+5) r.kind r.cd r.ad.length (Af .u8 r.ad) r.sg.length (Af .u8 r.sg) r.cn r.cc r.fm r.id.length (Af .u8 r.id) r.us).trans ?_;have hh:=YY (fu:=fu) (d:=d) (s:=r.cd) (by have:=hr.cd;omega) Bv
 have hw:=Amy (fu:=fu) (d:=d) hr.adB (by have:=hr.ad;omega) Bv (Fb 11 (Dk r.cd))
 simp only[Be,Bd,hh,hw]
set_option maxHeartbeats 8000000 in
theorem YR(Bv:1000400<=fu){n0:Nat}{c0:Ae}{a1 now:Int}{l:Al}{c:Cf}(hc:c.ok){b:Al}(Nx:b.length=16){seed:Int}{id:Al}(XD:id.length=176){sh:Bool}{s:Sd}(hs:s.ok)(hr:s.rg.length<1000){r:Rq}(hq:r.ok){m0 nn:Nat}(hn:0<nn)(i:Int)(j:Nat)(IH:∀s':Sd,s'.ok->s'.rg.length<=s.rg.length+1->B0 fu (Ac C1 prog fu (d+27)) n0 c0 a1 m0 now 16 (wrap .i64 (i+1)) l.length (Af .i64 l) (j:Int) c.rp c.ti c.os.length (EF c.os) c.p.vf c.p.rs c.p.ht c.p.pr c.p.sh c.p.fm c.p.od c.p.dn.length (Af .u64 c.p.dn) c.p.op c.sec c.kh c.kr (Af .u8 b) seed 2 176 sh (Af .u8 id) s'.id.length (Af .u8 s'.id) s'.ht s'.root s'.model s'.fmt s'.sh s'.used s'.rg.length (Pk s'.rg) s'.sus s'.since s'.last=some ⟨[C5 true],[]⟩):
  Ew fu (Ac C1 prog fu (d+27)) n0 c0 a1 m0 nn now 16 i l.length (Af .i64 l) (j:Int) c.rp c.ti c.os.length (EF c.os) c.p.vf c.p.rs c.p.ht c.p.pr c.p.sh c.p.fm c.p.od c.p.dn.length (Af .u64 c.p.dn) c.p.op c.sec c.kh c.kr (Af .u8 b) seed 2 176 sh (Af .u8 id) s.id.length (Af .u8 s.id) s.ht s.root s.model s.fmt s.sh s.used s.rg.length (Pk s.rg) s.sus s.since s.last r.kind r.cd r.ad.length (Af .u8 r.ad) r.sg.length (Af .u8 r.sg) r.cn r.cc r.fm r.id.length (Af .u8 r.id) r.us=some ⟨[C5 true],[]⟩:=by
 rw[Oy (Hs:=hn)];obtain⟨t,t0,t1,md⟩:=A8l now 1000 (by omega) (by omega);have md:=md (fu:=fu) (d:=d+26) (p:=some Da);have sp:=HQ (fu:=fu) (d:=d+18) Bv hc Ai0 hs b t hq;have ds:=Ajf (fu:=fu) (d:=d+25) (by omega) hq.sgB;have ms:=A9k (fu:=fu) (d:=d+21) Bv hq;rw[Nx] at sp;have m0':mt0.cells=[As 0,As 0,As 0,.lst false 3 0 [],As 0,.lst false 1 0 [],.lst false 1 0 []]:=rfl;rw[m0'] at sp;simp only[Cf.cells,Rq.cells] at sp ms;have Lb:=An .u8 b;have c2:decide (0+16*1<=List.length (Af .u8 b))=true:=dT (by omega);have t2:List.take (16*1) (List.drop 0 (Af .u8 b))=Af .u8 b:=Iu (by rw[Ls];omega)
 have q:=IH s hs (by omega);rcases Ael c mt0 s b t r with⟨h1,h2⟩|⟨a,g,h1,h2,h3⟩
 ·have e1:((Pq c mt0 s b t r).2 != 0)=true:=by simpa using h2
  rw[h1] at sp;obtain⟨Z,hZ⟩:∃Z,(Pq c mt0 s b t r).2=Z:=⟨_,rfl⟩
  rw[hZ] at sp e1;simp only[Sd.cells] at sp;cases e2:Z==37
  ·simp only[Be,Bd,md,c2,t2,sp,e2,e1];exact q
  ·simp only[Be,Bd,md,c2,t2,sp,e2,e1];exact q
 ·rw[h3] at sp;rw[h1] at ds;have vf:=Ak5 (fu:=fu) (d:=d+20) (by omega) ⟨s.ht,s.root⟩ (GL r.ad (Fb 11 (Dk r.cd))) g;rw[h2] at vf;simp only[ZN,Sg.owned] at ds;simp only[Ky.cells,Sg.cells] at vf;have q2:=IH _ (Al8 hs hr g.leaf a t) (Axo s g.leaf a t);have A0:=A84 (s:=s) (leaf:=g.leaf) (f:=a) (now:=t);have A7:=A34 (s:=s) (leaf:=g.leaf) (f:=a) (now:=t);generalize Ig s g.leaf a t=Z at sp q2 A0 A7;simp only[Sd.cells] at sp;cases e2:Z.2==37
  ·cases e1:Z.2 != 0
   ·obtain⟨b0,b1,b2,b3,b4,b5⟩:=A0 (by simpa using e1);have L1:=An .u64 g.chains;have L2:=An .u64 g.path;have k1:decide (0+g.chains.length*1<=List.length (Af .u64 g.chains))=true:=dT (by omega);have k2:decide (0+g.path.length*1<=List.length (Af .u64 g.path))=true:=dT (by omega);have t3:List.take (g.chains.length*1) (List.drop 0 (Af .u64 g.chains))=Af .u64 g.chains:=Iu (by rw[Ls];omega)
    have t4:List.take (g.path.length*1) (List.drop 0 (Af .u64 g.path))=Af .u64 g.path:=Iu (by rw[Ls];omega)
    have w:=BE (x:=g.leaf) (by omega) (by omega);have w0:=dT (q:=(0:Int)<=g.leaf) b0;have ut:(Du .u64 (F3 .u64 s.used g.leaf) 1==1)=false:=by rw[UE hs.u0 hs.u1 b0 b1,b2]
    have us:(Z.1.used != Xf .u64 s.used (D9 .u64 1 g.leaf))=false:=by rw[b3];unfold Ahf;simp
    have ls:(Z.1.last != t)=false:=by rw[b4];simp
    have z0:((0:Int) != 0)=false:=rfl;simp only[Be,Bd,md,c2,t2,sp,e2,e1,ds,z0,ms,k1,k2,t3,t4,vf,w,w0,ut,us,ls];exact q2
   ·simp only[Be,Bd,md,c2,t2,sp,e2,e1];exact q
  ·cases e3:Z.1.sus
   ·have e1:(Z.2 != 0)=true:=by
     have:Z.2=37:=by simpa using e2
     rw[this];rfl
    simp only[Be,Bd,md,c2,t2,sp,e2,e3,e1];exact q
   ·obtain⟨b0,b1,b2⟩:=A7 (by simpa using e2) e3;have w:=BE (x:=g.leaf) (by omega) (by omega);have w0:=dT (q:=(0:Int)<=g.leaf) b0
    have ut:(Du .u64 (F3 .u64 s.used g.leaf) 1 != 1)=false:=by
     have:=UE hs.u0 hs.u1 b0 b1;rw[b2] at this;rw[bne,this];rfl
    have z0:((0:Int) != 0)=false:=rfl;simp only[Be,Bd,md,c2,t2,sp,e2,e3,ds,z0,w,w0,ut];exact q
set_option maxHeartbeats 8000000 in
theorem Apt(Bv:1000400<=fu){n0:Nat}{c0:Ae}{a1 now:Int}{l:Al}{c:Cf}(hc:c.ok){b:Al}(Nx:b.length=16){seed:Int}{id:Al}(XD:id.length=176){sh:Bool}(hl:l.length<=maxLen){s:Sd}(hs:s.ok)(hr:s.rg.length<1000){r:Rq}(hq:r.few){m0 nn:Nat}(hn:0<nn)(i:Int)(j:Nat)(IH:∀(s':Sd)(j:Nat),s'.ok->s'.rg.length<=s.rg.length+1->B0 fu (Ac C1 prog fu (d+27)) n0 c0 a1 m0 now 16 (wrap .i64 (i+1)) l.length (Af .i64 l) (j:Int) c.rp c.ti c.os.length (EF c.os) c.p.vf c.p.rs c.p.ht c.p.pr c.p.sh c.p.fm c.p.od c.p.dn.length (Af .u64 c.p.dn) c.p.op c.sec c.kh c.kr (Af .u8 b) seed 2 176 sh (Af .u8 id) s'.id.length (Af .u8 s'.id) s'.ht s'.root s'.model s'.fmt s'.sh s'.used s'.rg.length (Pk s'.rg) s'.sus s'.since s'.last=some ⟨[C5 true],[]⟩):
  Ex fu (Ac C1 prog fu (d+27)) n0 c0 a1 m0 nn now 16 i l.length (Af .i64 l) (j:Int) c.rp c.ti c.os.length (EF c.os) c.p.vf c.p.rs c.p.ht c.p.pr c.p.sh c.p.fm c.p.od c.p.dn.length (Af .u64 c.p.dn) c.p.op c.sec c.kh c.kr (Af .u8 b) seed 2 176 sh (Af .u8 id) s.id.length (Af .u8 s.id) s.ht s.root s.model s.fmt s.sh s.used s.rg.length (Pk s.rg) s.sus s.since s.last r.kind r.cd r.ad.length (Af .u8 r.ad) r.sg.length (Af .u8 r.sg) r.cn r.cc r.fm r.id.length (Af .u8 r.id) r.us=some ⟨[C5 true],[]⟩:=by
 rw[Ol (Hs:=hn)];obtain⟨v,j1,v0,v1,nx⟩:=Ko hl j 3 (by omega) (by omega);have nx:=nx (fu:=fu) (d:=d+25) (p:=some Da);cases hv:v==2
 ·simp only[Be,Bd,nx,hv];exact YR Bv hc Nx XD hs hr hq.ok (by omega) i j1 fun s'=>IH s' j1
 ·obtain⟨r',j2,hr',sp⟩:=A48 (fu:=fu) (d:=d+19) (by omega) hq hl j1;simp only[Rq.cells] at sp;simp only[Be,Bd,nx,hv,sp];exact YR Bv hc Nx XD hs hr hr' (by omega) i j2 fun s'=>IH s' j2
set_option maxHeartbeats 8000000 in
theorem Ae2(Bv:1000400<=fu){n0:Nat}{c0:Ae}{a1 now:Int}{l:Al}{c:Cf}(hc:c.ok){b:Al}(Nx:b.length=16){seed:Int}{id:Al}(XD:id.length=176){sh:Bool}(hl:l.length<=maxLen)(hbB:Db b)(hiB:Db id):∀(k i nn:Nat),i+k=8->k<nn->∀{F},F=D2\/F=B0->∀(s:Sd)(j:Nat),s.ok->s.rg.length<=i->F fu (Ac C1 prog fu (d+27)) n0 c0 a1 nn now 16 (i:Int) l.length (Af .i64 l) (j:Int) c.rp c.ti c.os.length (EF c.os) c.p.vf c.p.rs c.p.ht c.p.pr c.p.sh c.p.fm c.p.od c.p.dn.length (Af .u64 c.p.dn) c.p.op c.sec c.kh c.kr (Af .u8 b) seed 2 176 sh (Af .u8 id) s.id.length (Af .u8 s.id) s.ht s.root s.model s.fmt s.sh s.used s.rg.length (Pk s.rg) s.sus s.since s.last=some ⟨[C5 true],[]⟩:=by
 intro k;have aw:=Au8 (fu:=fu) (d:=d) Bv
 induction k with
 |zero=>
  intro i nn hi hn F hF s j hs hr;obtain⟨m,rfl⟩:∃m,nn=m+1:=⟨nn-1,by omega⟩
  have k1:=dF (q:=(i:Int)<8) (by omega)
  (rcases hF with rfl|rfl)<;>(first|rw[Fl]|rw[Fd])<;>simp only[Be,Bd,k1,aw]
 |succ k ih=>
  intro i nn hi hn F hF s j hs hr;obtain⟨m,rfl⟩:∃m,nn=m+1:=⟨nn-1,by omega⟩
  have k1:=dT (q:=(i:Int)<8) (by omega);have w1:wrap .i64 ((i:Int)+1)=((i+1:Nat):Int):=Bl
  have lf:=Bal (fu:=fu) (d:=d+26) l j;by_cases hj:(j:Int)<(l.length:Int)
  ·rw[dT hj] at lf;obtain⟨v1,j1,p1,q1,n1⟩:=Ko hl j 2 (by omega) (by omega);have n1:=n1 (fu:=fu) (d:=d+25) (p:=some Da);obtain⟨v2,j2,p2,q2,n2⟩:=Ko hl j1 4 (by omega) (by omega);have n2:=n2 (fu:=fu) (d:=d+25) (p:=some Da);obtain⟨v3,j3,p3,q3,n3⟩:=Ko hl j2 2 (by omega) (by omega);have n3:=n3 (fu:=fu) (d:=d+25) (p:=some Da);have asr:=Aa3 (fu:=fu) (d:=d+14) Bv (seed:=seed) (h:=2) (id:=id) (sh:=sh) (rp:=exS) (o:=Dk olS) (ch:=b) (vf:=v1==1) (leaf:=v2) (f:=v3) (us:=ByteArray.mk #[]) (by decide) (BM _) (by rw[Cr];decide) hbB (by omega)
   rw[Hl,XD,Nx] at asr;have rq:(XM seed 2 id sh exS (Dk olS) b (v1==1) v2 v3 (ByteArray.mk #[])).few:=Ary (by rw[Cr];decide) hiB (by omega)
   generalize XM seed 2 id sh exS (Dk olS) b (v1==1) v2 v3 (ByteArray.mk #[])=r at asr rq;simp only[Rq.cells] at asr;have Li:=An .u8 id;have Lb:=An .u8 b;have c1:decide (0+176*1<=List.length (Af .u8 id))=true:=dT (by omega);have t1:List.take (176*1) (List.drop 0 (Af .u8 id))=Af .u8 id:=Iu (by rw[Ls];omega)
   have c2:decide (0+16*1<=List.length (Af .u8 b))=true:=dT (by omega);have t2:List.take (16*1) (List.drop 0 (Af .u8 b))=Af .u8 b:=Iu (by rw[Ls];omega)
   have q:=Apt (fu:=fu) (d:=d) Bv (n0:=n0) (c0:=c0) (a1:=a1) (now:=now) hc Nx (seed:=seed) XD (sh:=sh) hl hs (by omega) rq (m0:=m) (nn:=fu) (by omega) i j3 fun s' j' hs' hr'=>by rw[w1];exact ih (i+1) m (by omega) (by omega) (.inr rfl) s' j' hs' (by omega)
   (rcases hF with rfl|rfl)<;>(first|rw[Fl]|rw[Fd])<;>simp only[Be,Bd,k1,lf,n1,n2,n3,c1,t1,c2,t2,asr]<;>exact q
  ·rw[dF hj] at lf
   (rcases hF with rfl|rfl)<;>(first|rw[Fl]|rw[Fd])<;>simp only[Be,Bd,k1,lf,aw]
end
set_option maxHeartbeats 8000000 in
theorem signinSigned_plain(qs:Ae)(h:Bw (WTv prog) [22,3] qs):∃fu d,Ac C1 prog fu d 5 qs=some ⟨[C5 true],[]⟩:=by
 obtain⟨q0,_,rfl,h0,g⟩:=h.cons_inv;obtain⟨q1,_,rfl,h1,g⟩:=g.cons_inv;obtain rfl:=g.nil_inv;clear h g;obtain⟨l,rfl,hl,_⟩:=Avt (k:=.i64) (e:=3) (by kernel_rfl) (by kernel_rfl) (by kernel_rfl) (by kernel_rfl) h0;obtain⟨now,rfl,_⟩:=A1b (k:=.i64) (by kernel_rfl) (by kernel_rfl) h1;clear h0 h1;obtain⟨fu,Bv⟩:∃fu,fu=1000400:=⟨_,rfl⟩
 refine⟨fu,28,?_⟩;refine (Rz fu 27 l.length (Af .i64 l) now).trans ?_;have nw:Ac C1 prog fu 27 7 [.lst false 1 l.length (Af .i64 l)]=some ⟨[.pbox (HW l 0)],[]⟩:=A9c (l:=l);obtain⟨p,sec,j,hp,cf⟩:=Bio (fu:=fu) (d:=13) (by omega) hl 0;have cf:Ac C1 prog fu 27 8 [.pbox (HW l 0)]=_:=cf;have cok:=Ajp hp sec;generalize cfW p sec=c at cf cok;simp only[Cf.cells] at cf;simp only[Be,Bd,nw,cf];rw[O3 (Hs:=by omega)];obtain⟨e,heb,hel,eb⟩:=Abm (fu:=fu) (d:=21) (p:=some Da) (by omega) 1 (n:=16) (by omega);have eb:Ac C1 prog fu 27 9 [As 1,As 16]=some ⟨[.own 1 16 (Af .u8 e)],[]⟩:=eb;obtain⟨v,j1,v0,v1,nx⟩:=Ko hl j 4 (by omega) (by omega)
 have nx:Ac C1 prog fu 27 10 [.pbox (HW l j),As 4]=_:=nx (fu:=fu) (d:=25) (p:=some Da)
 have fin:∀(sh:Bool) (id:Al),Db id->id.length=176->∀(seed:Int) (j:Nat),∃S:Sd,Ac C1 prog fu 27 12 [.agg [Ag seed,As 2,.lst false 1 176 (Af .u8 id),C5 sh],Ag 0]=some ⟨[.agg S.cells],[]⟩/\D2 fu (Ac C1 prog fu 27) l.length (Af .i64 l) now fu now 16 0 l.length (Af .i64 l) (j:Int) c.rp c.ti c.os.length (EF c.os) c.p.vf c.p.rs c.p.ht c.p.pr c.p.sh c.p.fm c.p.od c.p.dn.length (Af .u64 c.p.dn) c.p.op c.sec c.kh c.kr (Af .u8 e) seed 2 176 sh (Af .u8 id) S.id.length (Af .u8 S.id) S.ht S.root S.model S.fmt S.sh S.used S.rg.length (Pk S.rg) S.sus S.since S.last=some ⟨[C5 true],[]⟩:=by
  intro sh id hib XD seed j;have so:=Aaw (fu:=fu) (d:=13) (by omega) seed 2 id sh 0;rw[XD] at so;have sok:=Awk (seed:=seed) (h:=2) hib XD sh 0;refine⟨_,so,?_⟩;exact Ae2 (d:=0) (by omega) cok hel XD hl heb hib 8 0 fu rfl (by omega) (.inl rfl) _ j sok (Cd 0)
 have w1:∀id:Al,id.length=176->decide (0+176*1<=List.length (Af .u8 id))=true/\List.take (176*1) (List.drop 0 (Af .u8 id))=Af .u8 id:=fun id h=>⟨dT (by rw[An];omega),Iu (by rw[Ls,An];omega)⟩
 cases hs:c.p.sh
 ·obtain⟨id,hib,XD,cr⟩:=Awa (fu:=fu) (d:=20) (by omega) v 2 false;have cr:Ac C1 prog fu 27 11 [As v,As 2,C5 false]=_:=cr;obtain⟨c1,t1⟩:=w1 id XD;obtain⟨S,so,fi⟩:=fin false id hib XD (wrap .u64 (1000+wrap .u64 v)) j1;rw[hs] at fi;simp only[Sd.cells] at so;simp only[Be,Bd,eb,nx,cr,c1,t1,so];exact fi
 ·obtain⟨v2,j2,p2,q2,n2⟩:=Ko hl j1 2 (by omega) (by omega);have n2:Ac C1 prog fu 27 10 [.pbox (HW l j1),As 2]=_:=n2 (fu:=fu) (d:=25) (p:=some Da);obtain⟨id,hib,XD,cr⟩:=Awa (fu:=fu) (d:=20) (by omega) v 2 (v2==1);have cr:Ac C1 prog fu 27 11 [As v,As 2,C5 (v2==1)]=_:=cr;obtain⟨c1,t1⟩:=w1 id XD;obtain⟨S,so,fi⟩:=fin (v2==1) id hib XD (wrap .u64 (1000+wrap .u64 v)) j2;rw[hs] at fi;simp only[Sd.cells] at so;simp only[Be,Bd,eb,nx,n2,cr,c1,t1,so];exact fi
end
end Go.Proofs.YtohcncipgljdkaaGreatDoor.Pv
