/-
  The proof of RegistrationBinds, part 4.
-/
import Derived.Test.YtamoegpkglhedaaGreatDoorBC
import Derived.Test.YtamoegpkglhedaaGreatDoorRows
import Derived.Lib.RuneBytes
import Derived.Lib.SlTrimSet
import Derived.Lib.BytesEntry
import Derived.Lib.Bytealg
import Derived.Lib.Walk
import Derived.WalkKit
import Derived.WalkMore
import Derived.Laws.Bits64b
import Derived.Shelf.Strings.BuilderRune
import Derived.Shelf.Strings.SlTrimAscii
import Derived.Lib.SliceRun
import Derived.RangeFuncNested
import Derived.RangeFuncLeaves
import Derived.RangeFuncKeeps
import Derived.RangeFuncBox
import Derived.Below
import Derived.Handy
import Derived.Shelf.Abstract
import Derived.OwnWalkIn
import Derived.TacticsInMore
import Derived.LoopNIn
import Derived.LoopIn
import Derived.Shelf.Unicode.ValidAny
import Derived.Lib.LaidU8T
set_option linter.unusedSimpArgs false
set_option linter.unusedVariables false
namespace Go.Proofs.YtamoegpkglhedaaGreatDoor.Pv
open Go.IntKind (wrap)
open Go.Proofs.Tryz (prog)
set_option maxRecDepth 1000000
noncomputable section
section
variable {xs:FuncId->Option (Ae->Option A4)}(fu d:Nat)(call:Aq)
def Gl(Z:Int)(Y:Nat)(X W V:Int)(U T:Ae):Option A4:=K0 fu call 147 Tryz.f147 [Ah Z] [.r,.r,.r,.l,.r,.l] Y ⟨lk [(0,Ah X),(2,.ptr 2 0),(3,.ptr 3 0),(4,W),(6,V)],Fx [(2,.ar false U),(3,.ar false T)]⟩
def Tb(Z:Int)(Y:Nat)(X W:Ae):Option A4:=K0 fu call 147 Tryz.f147 [Ah Z] [.r,.r,.r,.r,.r] Y ⟨lk [(2,.ptr 2 0),(3,.ptr 3 0)],Fx [(2,.ar false X),(3,.ar false W)]⟩
def S4(Z:Int)(Y:Nat)(X:Ae):Option A4:=K0 fu call 147 Tryz.f147 [Ah Z] [.r,.r,.r,.r,.r,.r] Y ⟨lk [(2,.ptr 2 0)],Fx [(2,.ar false X)]⟩
theorem Qk(W:Int)(T:Nat)(V X Z:Int)(U Y:Ae):Gl fu call W (T+1) V X Z U Y=(Ay (decide (Z<16)) (Aa (wrap .i64 (4*Z)) fun a=>Aa (wrap .i64 (60-a)) fun a=>Ar (decide (0<=a))<|Aa (Gw .u64 V a) fun a=>Aa (Du .u64 a 15) fun a=>Aa (wrap .i64 a) fun a=>Ar (decide (0<=Z)&&decide (Z<18))<|Ar (decide (0+Z.toNat*1+1<=Y.length))<|Aa (B5 Y [a] (0+Z.toNat*1)) fun a=>Ar (decide (0<=Z)&&decide (Z<18))<|Ba .i64 (a.getD (0+Z.toNat*1) .top) fun b=>Aa (wrap .i64 (15-b)) fun b=>Aa (wrap .i64 (X+b)) fun b=>Aa (wrap .i64 (Z+1)) fun c=>Gl fu call W T V b c U a) (Aa (wrap .i64 (Int.tdiv X 16)) fun a=>Ar (decide (17<=Y.length))<|Aa (B5 Y [a] 16) fun a=>Aa (Int.tmod X 16) fun b=>Ar (decide (18<=a.length))<|Aa (B5 a [b] 17) fun a=>Tb fu call W fu U a)):=by kernel_rfl
theorem BF(W:Int)(Y:Nat)(Gz:0<Y)(X Z:Ae):Tb fu call W Y X Z=(Ba .i64 (Z.getD 0 .top) fun a=>Ba .i64 (Z.getD 1 .top) fun b=>Ba .i64 (Z.getD 2 .top) fun c=>Ba .i64 (Z.getD 3 .top) fun e=>Ba .i64 (Z.getD 4 .top) fun f=>Ba .i64 (Z.getD 5 .top) fun g=>Ba .i64 (Z.getD 6 .top) fun h=>Ba .i64 (Z.getD 7 .top) fun i=>Ba .i64 (Z.getD 8 .top) fun j=>Ba .i64 (Z.getD 9 .top) fun k=>Ba .i64 (Z.getD 10 .top) fun m=>Ba .i64 (Z.getD 11 .top) fun n=>Ba .i64 (Z.getD 12 .top) fun o=>Ba .i64 (Z.getD 13 .top) fun p=>Ba .i64 (Z.getD 14 .top) fun q=>Ba .i64 (Z.getD 15 .top) fun s=>Ba .i64 (Z.getD 16 .top) fun t=>Ba .i64 (Z.getD 17 .top) fun u=>Ar (decide (18<=X.length))<|Aa (B5 X [a,b,c,e,f,g,h,i,j,k,m,n,o,p,q,s,t,u] 0) fun a=>S4 fu call W fu a):=by cases Y with|zero=>exact absurd Gz (Nat.lt_irrefl 0)|succ Y=>kernel_rfl
theorem BI(X:Int)(Y:Nat)(Gz:0<Y)(Z:Ae):S4 fu call X Y Z=(Ba .i64 (Z.getD 0 .top) fun a=>Ba .i64 (Z.getD 1 .top) fun b=>Ba .i64 (Z.getD 2 .top) fun c=>Ba .i64 (Z.getD 3 .top) fun e=>Ba .i64 (Z.getD 4 .top) fun f=>Ba .i64 (Z.getD 5 .top) fun g=>Ba .i64 (Z.getD 6 .top) fun h=>Ba .i64 (Z.getD 7 .top) fun i=>Ba .i64 (Z.getD 8 .top) fun j=>Ba .i64 (Z.getD 9 .top) fun k=>Ba .i64 (Z.getD 10 .top) fun m=>Ba .i64 (Z.getD 11 .top) fun n=>Ba .i64 (Z.getD 12 .top) fun o=>Ba .i64 (Z.getD 13 .top) fun p=>Ba .i64 (Z.getD 14 .top) fun q=>Ba .i64 (Z.getD 15 .top) fun s=>Ba .i64 (Z.getD 16 .top) fun t=>Ba .i64 (Z.getD 17 .top) fun u=>Bg [.agg [a,b,c,e,f,g,h,i,j,k,m,n,o,p,q,s,t,u]]):=by cases Y with|zero=>exact absurd Gz (Nat.lt_irrefl 0)|succ Y=>kernel_rfl
theorem KD(Z:Int):Pn (CX xs) fu d 147 [Ah Z] fun call=>Gl fu call Z fu Z 0 0 ([(0:Int),(0:Int),(0:Int),(0:Int),(0:Int),(0:Int),(0:Int),(0:Int),(0:Int),(0:Int),(0:Int),(0:Int),(0:Int),(0:Int),(0:Int),(0:Int),(0:Int),(0:Int)]) ([(0:Int),(0:Int),(0:Int),(0:Int),(0:Int),(0:Int),(0:Int),(0:Int),(0:Int),(0:Int),(0:Int),(0:Int),(0:Int),(0:Int),(0:Int),(0:Int),(0:Int),(0:Int)]):=by show _=_;kernel_rfl
def Mo(Z Y:Int)(X W V:Int)(U:Nat)(T S:Int)(Q P O:Int):Option A4:=K0 fu call 148 Tryz.f148 [Z,Y,X,W,Ah V] [.r,.r,.l,.r,.l] U ⟨lk [(0,T),(1,S),(4,Ah Q),(11,P),(12,O)],Fx []⟩
theorem Vl(U T:Int)(S Q P:Int)(O:Nat)(Y X:Int)(W V Z:Int):Mo fu call U T S Q P (O+1) Y X W V Z=(Ay (decide (Z<V)) (Aa (wrap .u64 Y) fun a=>Aa (wrap .u64 X) fun b=>Aa (wrap .u64 Z) fun c=>Dv (call 66 [As 1 4 [Ah a,Ah b,Ah c,Ah W]]) fun a b=>Lg 1 a fun a c=>Ao b<|Ar (decide (0+a*1<=c.length))<|Ge .u64 (call 64 [(1:Int),As 1 a (List.take (a*1) (c.drop 0))]) fun a=>Aa (wrap .i64 (Z+1)) fun b=>Mo fu call U T S Q P O Y X a V b) (Bg [Ah W])):=by kernel_rfl
theorem TW(X W:Int)(Z Y V:Int):Pn (CX xs) fu d 148 [X,W,Z,Y,Ah V] fun call=>Aa (if 15<Y then 15 else Y) fun a=>Aa (if Z<0 then 0 else Z) fun b=>Mo fu call X W Z Y V fu X W V a b:=by show _=_;kernel_rfl
theorem FD(Z Y:Int)(X W:Int)(V U:Int)(T S:Int)(Q P:Int)(O N:Int)(M L:Int)(K J:Int)(I H G:Int):Pn (CX xs) fu d 149 [Z,.agg [Ah Y,Ah X,Ah W,Ah V,Ah U,Ah T,Ah S,Ah Q,Ah P,Ah O,Ah N,Ah M,Ah L,Ah K,Ah J,Ah I,Ah H,Ah G]] fun call=>Aa (wrap .u64 Z) fun a=>Dv (call 66 [As 1 19 [Ah a,Ah Y,Ah X,Ah W,Ah V,Ah U,Ah T,Ah S,Ah Q,Ah P,Ah O,Ah N,Ah M,Ah L,Ah K,Ah J,Ah I,Ah H,Ah G]]) fun a b=>Lg 1 a fun a c=>Ao b<|Ar (decide (0+a*1<=c.length))<|Ge .u64 (call 64 [(2:Int),As 1 a (List.take (a*1) (c.drop 0))]) fun a=>Bg [Ah a]:=by show _=_;kernel_rfl
def Fe(Z Y:Int)(X:Nat)(W:Ae)(V:Nat)(U:Int)(T:Nat)(S:Ae)(Q P:Int)(O N:Int)(M L:Int)(K J:Int)(I H:Int)(G E:Int)(D B:Int)(A z:Int)(w v u:Int)(t:Ae):Option A4:=K0 fu call 127 Tryz.f127 [Z,Ah Y,As 1 X W] [.r,.r,.r,.l,.r,.l] V ⟨lk [(0,U),(2,As 1 T S),(8,.ptr 8 0),(15,.agg [Q,P,O,N,M,L,K,J,I,H,G,E,D,B,A,z,w,v]),(16,u)],Fx [(8,.ar false t)]⟩
def R6(Z Y:Int)(X:Nat)(W:Ae)(V:Nat)(U:Int)(T:Ae):Option A4:=K0 fu call 127 Tryz.f127 [Z,Ah Y,As 1 X W] [.r,.r,.r] V ⟨lk [(0,U),(8,.ptr 8 0)],Fx [(8,.ar false T)]⟩
def R4(Z Y:Int)(X:Nat)(W:Ae)(V:Nat)(U T:Int):Option A4:=K0 fu call 127 Tryz.f127 [Z,Ah Y,As 1 X W] [.r,.r,.r,.r] V ⟨lk [(6,Ah U),(7,T)],Fx []⟩
theorem Pb(W V:Int)(U:Nat)(T:Ae)(t:Nat)(Y:Int)(S:Nat)(Q:Ae)(P O:Int)(N M:Int)(L K:Int)(J I:Int)(H G:Int)(E D:Int)(B A:Int)(z w:Int)(v u Z:Int)(X:Ae):Fe fu call W V U T (t+1) Y S Q P O N M L K J I H G E D B A z w v u Z X=(Ay (decide (Z<18)) (Ar (decide (0<=Z)&&decide (Z<18)&&true)<|Ba .i64 (List.getD [P,O,N,M,L,K,J,I,H,G,E,D,B,A,z,w,v,u] (Z.toNat*1) .top) fun a=>Ar (decide (0<=Z)&&decide (Z<(↑S:Int)))<|Ba .u64 (Q.getD (Z.toNat*1) .top) fun b=>Ge .u64 (call 148 [Y,Z,a,(15:Int),Ah b]) fun a=>Ar (decide (0<=Z)&&decide (Z<18))<|Ar (decide (0+Z.toNat*1+1<=X.length))<|Aa (B5 X [Ah a] (0+Z.toNat*1)) fun a=>Aa (wrap .i64 (Z+1)) fun b=>Fe fu call W V U T t Y S Q P O N M L K J I H G E D B A z w v u b a) (R6 fu call W V U T fu Y X)):=by kernel_rfl
theorem Yf(X W:Int)(V:Nat)(U:Ae)(Y:Nat)(Gz:0<Y)(T:Int)(Z:Ae):R6 fu call X W V U Y T Z=(Ba .u64 (Z.getD 0 .top) fun a=>Ba .u64 (Z.getD 1 .top) fun b=>Ba .u64 (Z.getD 2 .top) fun c=>Ba .u64 (Z.getD 3 .top) fun e=>Ba .u64 (Z.getD 4 .top) fun f=>Ba .u64 (Z.getD 5 .top) fun g=>Ba .u64 (Z.getD 6 .top) fun h=>Ba .u64 (Z.getD 7 .top) fun i=>Ba .u64 (Z.getD 8 .top) fun j=>Ba .u64 (Z.getD 9 .top) fun k=>Ba .u64 (Z.getD 10 .top) fun m=>Ba .u64 (Z.getD 11 .top) fun n=>Ba .u64 (Z.getD 12 .top) fun o=>Ba .u64 (Z.getD 13 .top) fun p=>Ba .u64 (Z.getD 14 .top) fun q=>Ba .u64 (Z.getD 15 .top) fun s=>Ba .u64 (Z.getD 16 .top) fun t=>Ba .u64 (Z.getD 17 .top) fun u=>Ge .u64 (call 149 [T,.agg [Ah a,Ah b,Ah c,Ah e,Ah f,Ah g,Ah h,Ah i,Ah j,Ah k,Ah m,Ah n,Ah o,Ah p,Ah q,Ah s,Ah t,Ah u]]) fun a=>R4 fu call X W V U fu a 0):=by cases Y with|zero=>exact absurd Gz (Nat.lt_irrefl 0)|succ Y=>kernel_rfl
theorem Zi(W V:Int)(U:Nat)(T:Ae)(Z:Nat)(Gz:0<Z)(Y X:Int):R4 fu call W V U T Z Y X=(Bg [Ah Y,X]):=by cases Z with|zero=>exact absurd Gz (Nat.lt_irrefl 0)|succ Z=>kernel_rfl
theorem FV(Y X:Int)(Z:Nat)(W:Ae):Pn (CX xs) fu d 127 [Y,Ah X,As 1 Z W] fun call=>Ay ((↑Z:Int) != 18) (Bg [Ah 0,(4:Int)]) (Dv (call 147 [Ah X]) fun a b=>Ef a fun a=>Do .i64 a fun a c=>Do .i64 c fun c e=>Do .i64 e fun e f=>Do .i64 f fun f g=>Do .i64 g fun g h=>Do .i64 h fun h i=>Do .i64 i fun i j=>Do .i64 j fun j k=>Do .i64 k fun k m=>Do .i64 m fun m n=>Do .i64 n fun n o=>Do .i64 o fun o p=>Do .i64 p fun p q=>Do .i64 q fun q s=>Do .i64 s fun s t=>Do .i64 t fun t u=>Do .i64 u fun u v=>Dl .i64 v fun v=>Ao b<|Fe fu call Y X Z W fu Y Z W a c e f g h i j k m n o p q s t u v 0 ([Ah 0,Ah 0,Ah 0,Ah 0,Ah 0,Ah 0,Ah 0,Ah 0,Ah 0,Ah 0,Ah 0,Ah 0,Ah 0,Ah 0,Ah 0,Ah 0,Ah 0,Ah 0])):=by show _=_;kernel_rfl
theorem QB(Z:Int):Pn (CX xs) fu d 95 [Z] fun call=>Ay (decide (Z<0)) (Bg [true]) (Bg [Cz (decide (Z>4))]):=by show _=_;kernel_rfl
theorem FE(Z Y:Int):Pn (CX xs) fu d 126 [Z,Y] fun call=>Ay (decide (Z<0)) (Bg [true]) (Ar (decide (0<=Y))<|Aa (Fp .i64 1 Y) fun a=>Bg [Cz (decide (Z>=a))]):=by show _=_;kernel_rfl
def Hg(Z:Nat)(Y:Ae)(X W:Nat)(V:Ae)(U:Nat)(T S:Int)(Q:Ae):Option A4:=K0 fu call 96 Tryz.f96 [As 1 Z Y] [.r,.r,.l,.r,.l] X ⟨lk [(0,As 1 W V),(3,.view 3 1 0 U),(12,T),(13,S)],Fx [(3,.ar false Q)]⟩
def Jl(Z:Nat)(Y:Ae)(X W V:Nat)(U:Ae)(T:Nat)(S Q P:Int)(O:Nat)(N:Ae)(M L:Int)(K:Ae):Option A4:=K0 fu call 96 Tryz.f96 [As 1 Z Y] [.r,.r,.l,.r,.l,.i X,.r,.r,.l,.l,.r,.r,.l] W ⟨lk [(0,As 1 V U),(3,.view 3 1 0 T),(4,S),(12,Q),(13,P),(22,As 1 O N),(23,M),(24,L)],Fx [(3,.ar false K)]⟩
theorem Rk(T:Nat)(S:Ae)(Q W:Nat)(V:Ae)(Y:Nat)(U Z:Int)(X:Ae):Hg fu call T S (Q+1) W V Y U Z X=(Ay (decide (Z<U)) (Aa (wrap .i64 (8*Z)) fun a=>Aa (wrap .i64 (8*Z)) fun b=>Aa (wrap .i64 (b+8)) fun b=>Ar (decide (0<=a))<|Ar (decide (0<=b))<|Ar (decide (a.toNat<=b.toNat)&&decide (b.toNat<=W))<|Aa (b.toNat-a.toNat) fun b=>Aa (List.take (b*1) (V.drop (a.toNat*1))) fun a=>Jl fu call T S Q fu W V Y Z U Z b a (↑b:Int) 0 X) (Ar (decide (Y*1<=X.length))<|Bg [.own 1 Y (X.take (Y*1))])):=by kernel_rfl
theorem R1(V:Nat)(U:Ae)(T K S:Nat)(Q:Ae)(X:Nat)(Z P O:Int)(N:Nat)(M:Ae)(L Y:Int)(W:Ae):Jl fu call V U T (K+1) S Q X Z P O N M L Y W=(Ay (decide (Y<L)) (Ar (decide (0<=Y)&&decide (Y<(↑N:Int)))<|Ba .u8 (M.getD (Y.toNat*1) .top) fun a=>Ar (decide (0<=Z)&&decide (Z<(↑X:Int)))<|Ba .u64 (W.getD (0+Z.toNat*1) .top) fun b=>Aa (Fp .u64 b 8) fun b=>Aa (wrap .u64 a) fun a=>Aa (DU .u64 b a) fun a=>Ar (decide (0<=Z)&&decide (Z<(↑X:Int)))<|Ar (decide (0+Z.toNat*1+1<=W.length))<|Aa (B5 W [Ah a] (0+Z.toNat*1)) fun a=>Aa (wrap .i64 (Y+1)) fun b=>Jl fu call V U T K S Q X Z P O N M L b a) (Aa (wrap .i64 (O+1)) fun a=>Hg fu call V U T S Q X P a W)):=by kernel_rfl
theorem MO(Z:Nat)(Y:Ae):Pn (CX xs) fu d 96 [As 1 Z Y] fun call=>Aa (wrap .i64 (Int.tdiv (↑Z:Int) 8)) fun a=>Ar (decide (0<=a)&&decide (a<=a)&&decide (a*8<=1099511627776)&&decide (a<=1099511627776))<|Hg fu call Z Y fu Z Y a.toNat ((↑a.toNat:Int)) 0 (Si a.toNat [Ah 0]):=by show _=_;kernel_rfl
theorem JK(Z Y X:Int):Pn (CX xs) fu d 128 [Z,Ah Y,Ah X] fun call=>Aa (wrap .u64 Z) fun a=>Dv (call 66 [As 1 3 [Ah a,Ah Y,Ah X]]) fun a b=>Lg 1 a fun a c=>Ao b<|Ar (decide (0+a*1<=c.length))<|Ge .u64 (call 64 [(3:Int),As 1 a (List.take (a*1) (c.drop 0))]) fun a=>Bg [Ah a]:=by show _=_;kernel_rfl
theorem BJ(Z Y:Int):Pn (CX xs) fu d 97 [.agg [Z,Ah Y]] fun call=>Dv (call 95 [Z]) fun a b=>Bm a fun a=>Ao b<|Ay a (Bg [.own 1 0 [],(9:Int)]) (Aa (wrap .u8 Z) fun a=>Dv (call 66 [As 1 1 [Ah Y]]) fun b c=>Lg 1 b fun b e=>Ao c<|Ar (decide (0+b*1<=e.length))<|Ar (decide (List.length (List.take (b*1) (e.drop 0))=b*1)&&decide ((1+b)*1<=1099511627776)&&decide (1+b<=1099511627776))<|Aa (1+b) fun c=>Aa ([.sc (.int .u8 a)]++List.take (b*1) (e.drop 0)) fun a=>Ar (decide (c*1<=a.length))<|Bg [.own 1 c (a.take (c*1)),(0:Int)]):=by show _=_;kernel_rfl
theorem BL(Z:Nat)(Y:Ae):Pn (CX xs) fu d 61 [As 1 Z Y] fun call=>(fun f:Option A4=>Ay ((↑Z:Int) != 9) f (Ar (decide (0<(↑Z:Int)))<|Ba .u8 (Y.getD 0 .top) fun a=>Aa (wrap .i64 a) fun a=>Dv (call 95 [a]) fun a b=>Bm a fun a=>Ao b<|Ay a f (Ar (decide (0<(↑Z:Int)))<|Ba .u8 (Y.getD 0 .top) fun a=>Aa (wrap .i64 a) fun a=>Ar (decide (1<=Z)&&decide (Z<=Z))<|Aa (Z-1) fun b=>Aa (List.take (b*1) (Y.drop 1)) fun c=>Dv (call 96 [As 1 b c]) fun b c=>Lg 1 b fun b e=>Ao c<|Ar (decide (0<(↑b:Int)))<|Ba .u64 (e.getD 0 .top) fun b=>Bg [.agg [a,Ah b],(0:Int)]))) (Bg [.agg [(0:Int),Ah 0],(2:Int)]):=by show _=_;kernel_rfl
theorem Sr(Z:Nat)(Y:Ae):Pn (CX xs) fu d 102 [As 1 Z Y] fun call=>(fun h:Option A4=>Ay (decide ((↑Z:Int)<2)) h (Ar (decide (0<(↑Z:Int)))<|Ba .u8 (Y.getD 0 .top) fun a=>Aa (wrap .i64 a) fun a=>Ar (decide (1<(↑Z:Int)))<|Ba .u8 (Y.getD 1 .top) fun b=>Aa (wrap .i64 b) fun b=>Dv (call 95 [b]) fun c e=>Bm c fun c=>Ao e<|Ay c h (Dv (call 126 [a,b]) fun c e=>Bm c fun c=>Ao e<|Ay c h (Aa (wrap .i64 (18+b)) fun b=>Aa (wrap .i64 (8*b)) fun b=>Aa (wrap .i64 (2+b)) fun b=>Ay ((↑Z:Int) != b) h (Ar (decide (146<=Z))<|Aa (List.take 144 (Y.drop 2)) fun b=>Dv (call 96 [As 1 144 b]) fun b c=>Lg 1 b fun b e=>Ao c<|Ar (decide (146<=Z)&&decide (Z<=Z))<|Aa (Z-146) fun c=>Aa (List.take (c*1) (Y.drop 146)) fun f=>Dv (call 96 [As 1 c f]) fun c f=>Lg 1 c fun c g=>Ao f<|Ar (decide (b*1<=e.length))<|Ar (decide (c*1<=g.length))<|Bg [.agg [a,.own 1 b (e.take (b*1)),.own 1 c (g.take (c*1))],(0:Int)]))))) (Bg [.agg [(0:Int),.own 1 0 [],.own 1 0 []],(2:Int)]):=by show _=_;kernel_rfl
def Gt(Z Y:Int)(X W:Int)(V:Nat)(U:Ae)(T:Nat)(S:Ae)(Q:Nat)(P:Int)(O:Nat)(N:Ae)(M L:Int)(K J I:Int)(H:Nat)(G:Ae)(E:Nat)(D:Ae):Option A4:=K0 fu call 103 Tryz.f103 [.agg [Z,Ah Y],Ah X,.agg [W,As 1 V U,As 1 T S]] [.r,.r,.r,.r,.r,.l,.r,.l] Q ⟨lk [(3,.ptr 3 0),(5,.ptr 5 0),(7,Ah P),(46,As 1 O N),(47,M),(48,L)],Fx [(3,.st [K,Ah J]),(5,.st [I,As 1 H G,As 1 E D])]⟩
theorem Qc(S Q:Int)(P O:Int)(N:Nat)(M:Ae)(L:Nat)(K:Ae)(J:Nat)(Y:Int)(X:Nat)(W:Ae)(V Z:Int)(I U T:Int)(H:Nat)(G:Ae)(E:Nat)(D:Ae):Gt fu call S Q P O N M L K (J+1) Y X W V Z I U T H G E D=(Ay (decide (Z<V)) (Ar (decide (0<=Z)&&decide (Z<(↑X:Int)))<|Ba .u64 (W.getD (Z.toNat*1) .top) fun a=>Ar (decide (0<=Z))<|Aa (Gw .i64 T Z) fun b=>Aa (Du .i64 b 1) fun b=>Ay (b==0) (Aa (wrap .i64 (Z+1)) fun b=>Ge .u64 (call 128 [b,Ah Y,Ah a]) fun a=>Aa (wrap .i64 (Z+1)) fun b=>Gt fu call S Q P O N M L K J a X W V b I U T H G E D) (Aa (wrap .i64 (Z+1)) fun b=>Ge .u64 (call 128 [b,Ah a,Ah Y]) fun a=>Aa (wrap .i64 (Z+1)) fun b=>Gt fu call S Q P O N M L K J a X W V b I U T H G E D)) (Ay (Y != U) (Bg [(15:Int)]) (Bg [(0:Int)]))):=by kernel_rfl
theorem JO(Z T:Int)(S X:Int)(W:Nat)(V:Ae)(Y:Nat)(U:Ae):Pn (CX xs) fu d 103 [.agg [Z,Ah T],Ah S,.agg [X,As 1 W V,As 1 Y U]] fun call=>Dv (call 95 [Z]) fun a b=>Bm a fun a=>Ao b<|Ay a (Bg [(9:Int)]) (Dv (call 126 [X,Z]) fun a b=>Bm a fun a=>Ao b<|Ay a (Bg [(9:Int)]) (Ay ((↑W:Int) != 18) (Bg [(4:Int)]) (Ay ((↑Y:Int) != Z) (Bg [(4:Int)]) (Dv (call 127 [X,Ah S,As 1 W V]) fun a b=>Ba .u64 a fun a=>Dl .i64 b fun b=>Ay (b != 0) (Bg [b]) (Gt fu call Z T S X W V Y U fu a Y U (↑Y:Int) 0 Z T X W V Y U))))):=by show _=_;kernel_rfl
end
theorem A1o{a m:Int}(h0:0<=m)(h1:m<=18446744073709551615):0<=Du .u64 a m/\Du .u64 a m<=m:=by
 have ET:(BitVec.ofInt 64 a &&& BitVec.ofInt 64 m).toNat<=m.toNat:=by
  rw[BitVec.toNat_and];refine Nat.le_trans Nat.and_le_right ?_;rw[BitVec.toNat_ofInt];omega
 have:Du .u64 a m=((BitVec.ofInt 64 a &&& BitVec.ofInt 64 m).toNat:Int):=by
  unfold Du;exact wrap_u64 (by omega) (by show ((BitVec.ofInt 64 a &&& BitVec.ofInt 64 m).toNat:Int)<=_;omega)
 rw[this];omega
theorem Y9(k:IntKind)(l:Aj)(i:Nat)(x:Int):(Ad k l).set i (.sc (.int k x))=Ad k (l.set i x):=by
 induction l generalizing i with
 |nil=>rfl
 |cons a l ih=>
  cases i with
  |zero=>rfl
  |succ i=>
   show (PV.sc (.int k a)::Ad k l).set (i+1) _=PV.sc (.int k a)::Ad k (l.set i x);rw[List.set_cons_succ,ih]
theorem Apt(w:Int)(k:Nat):0<=D6 w k/\D6 w k<=255:=by unfold D6;simp only[wrap,IntKind.signed,IntKind.bits];simp;omega
theorem Tg(w:Int):Cm (Bf w):=by intro x hx;obtain⟨k,_,rfl⟩:=List.mem_map.1 hx;exact Apt w k
theorem Va(ws:Aj):Cm (Ap ws):=by intro x hx;obtain⟨w,_,hx⟩:=List.mem_flatMap.1 hx;exact Tg w x hx
theorem El(ws:Aj):(Ap ws).length=8*ws.length:=by
 induction ws with
 |nil=>rfl
 |cons w ws ih=>
  show (Bf w++Ap ws).length=_;rw[Vo,ih,B4,Po];omega
def G4(m:Int)(k:Nat):Int:=wrap .i64 (Du .u64 (Gw .u64 m (60-4*(k:Int))) 15)
theorem Tu(m:Int)(k:Nat):0<=G4 m k/\G4 m k<=15:=by have:=A1o (a:=Gw .u64 m (60-4*(k:Int))) (m:=15) (by omega) (by omega);unfold G4;rw[Bb];exact this
def K5(m:Int):Nat->Int
 |0=>0
 |k+1=>K5 m k+(15-G4 m k)
theorem Lx(m:Int):∀k,0<=K5 m k/\K5 m k<=15*k
 |0=>by simp[K5]
 |k+1=>by
  have h1:=Lx m k;have h2:=Tu m k;simp only[K5];omega
def XZ(m:Int):Aj:=(List.range 16).map (G4 m)++[K5 m 16 / 16,K5 m 16 % 16]
def dg(m:Int)(k:Nat):Int:=(XZ m).getD k 0
theorem Akh(m:Int):(XZ m).length=18:=rfl
theorem Ayo{m x:Int}(h:x∈XZ m):0<=x/\x<=15:=by
 have hs:=Lx m 16;unfold XZ at h;rcases Bx.1 h with h|h
 ·obtain⟨k,_,rfl⟩:=List.mem_map.1 h;exact Tu m k
 ·simp at h;rcases h with rfl|rfl<;>omega
theorem Up(m:Int)(k:Nat):0<=dg m k/\dg m k<=15:=by
 unfold dg;rw[List.getD_eq_getElem?_getD];cases h:(XZ m)[k]? with
 |none=>simp
 |some x=>exact Ayo (List.mem_of_getElem? h)
def dl(m:Int)(i:Nat):Aj:=(List.range i).map (G4 m)++List.replicate (18-i) 0
theorem Age(m:Int){i:Nat}(h:i<=18):(dl m i).length=18:=by simp[dl];omega
theorem A59(m:Int){i:Nat}(h:i<18):(dl m (i+1))[i]?=some (G4 m i):=by unfold dl;rw[List.getElem?_append_left (by simp)];simp
theorem A4l(m:Int){i:Nat}(h:i<18):(dl m i).set i (G4 m i)=dl m (i+1):=by unfold dl;rw[List.set_append_right _ _ (by simp),List.length_map,List.length_range,Nat.sub_self,show 18-i=(18-(i+1))+1 by omega,List.replicate_succ,List.set_cons_zero,List.range_succ,List.map_append,Zzv];rfl
def Tx(leaf chain:Int):Nat->Int->Int->Int
 |0,_,x=>x
 |k+1,p,x=>Tx leaf chain k (p+1) (B6 1 (Ap [wrap .u64 leaf,wrap .u64 chain,wrap .u64 p,x]))
theorem Adm(leaf chain:Int):∀(k j:Nat)(p x:Int),Tx leaf chain (k+j) p x=Tx leaf chain j (p+k) (Tx leaf chain k p x)
 |0,j,p,x=>by simp[Tx]
 |k+1,j,p,x=>by
  rw[show k+1+j=(k+j)+1 by omega];simp only[Tx];rw[Adm leaf chain k j]
  congr 1
  omega
def CI(leaf:Int)(E:Aj):Int:=B6 2 (Ap (wrap .u64 leaf::E))
def Abz(leaf m:Int)(s:Aj)(k:Nat):Int:=Tx leaf k (15-dg m k).toNat (dg m k) (s.getD k 0)
def FC(leaf m:Int)(s:Aj):Aj:=(List.range 18).map (Abz leaf m s)
def Ab4(leaf m:Int)(s:Aj):Int:=CI leaf (FC leaf m s)
def el(leaf m:Int)(s:Aj)(i:Nat):Aj:=(List.range i).map (Abz leaf m s)++List.replicate (18-i) 0
theorem As5(leaf m:Int)(s:Aj){i:Nat}(h:i<=18):(el leaf m s i).length=18:=by simp[el];omega
theorem A3n(leaf m:Int)(s:Aj){i:Nat}(h:i<18):(el leaf m s i).set i (Abz leaf m s i)=el leaf m s (i+1):=by unfold el;rw[List.set_append_right _ _ (by simp),List.length_map,List.length_range,Nat.sub_self,show 18-i=(18-(i+1))+1 by omega,List.replicate_succ,List.set_cons_zero,List.range_succ,List.map_append,Zzv];rfl
theorem A7e(leaf m:Int)(s:Aj):el leaf m s 18=FC leaf m s:=by unfold el FC;simp
theorem Wh{a b:Aj}(ha:Cm a)(hb:Cm b):Cm (a++b):=by
 intro x hx;rcases Bx.1 hx with hx|hx
 ·exact ha x hx
 ·exact hb x hx
section
variable {fu d:Nat}{xs:FuncId->Option (Ae->Option A4)}
theorem Apq{ws:Aj}(hl:ws.length<=100)(Bi:1000<=fu)(dom:Int):Ac (CX xs) prog fu (d+5) 64 [Aw dom,.lst false 1 (Ap ws).length (Ad .u8 (Ap ws))]=some ⟨[Ah (B6 dom (Ap ws))],[]⟩:=
 NI (Va ws) (by rw[El];omega) (by omega) (by rw[El];omega) dom
theorem Ach{leaf chain:Int}{a0 a1 a2 a3 a4:Int}(Bi:1000<=fu){t:Int}(ht:t<=15):∀(k nn:Nat)(p x:Int),(k:Int)=t-p->0<=p->k<nn ->
  Mo fu (Ac (CX xs) prog fu (d+5)) a0 a1 a2 a3 a4 nn leaf chain x t p=some ⟨[Ah (Tx leaf chain k p x)],[]⟩
 |_,0,_,_,_,_,h=>by omega
 |0,nn+1,p,x,hk,hp,hn=>by
  rw[Vl,Hk _ _ _ (by omega)];rfl
 |k+1,nn+1,p,x,hk,hp,hn=>by
  have w:wrap .i64 (p+1)=p+1:=Bb;have wd:Ac (CX xs) prog fu (d+5) 66 [.lst false 1 4 [Ah (wrap .u64 leaf),Ah (wrap .u64 chain),Ah (wrap .u64 p),Ah x]]=_:=Yq (ws:=[wrap .u64 leaf,wrap .u64 chain,wrap .u64 p,x]) (by simp) (by omega) (by simp;omega)
  have hs:=Apq (xs:=xs) (fu:=fu) (d:=d) (ws:=[wrap .u64 leaf,wrap .u64 chain,wrap .u64 p,x]) (by simp) Bi 1;have ih:=Ach (leaf:=leaf) (chain:=chain) (a0:=a0) (a1:=a1) (a2:=a2) (a3:=a3) (a4:=a4) Bi ht k nn (p+1) (B6 1 (Ap [wrap .u64 leaf,wrap .u64 chain,wrap .u64 p,x])) (by omega) (by omega) (by omega);have L:=Ak .u8 (Ap [wrap .u64 leaf,wrap .u64 chain,wrap .u64 p,x]);have eR:Tx leaf chain (k+1) p x=Tx leaf chain k (p+1) (B6 1 (Ap [wrap .u64 leaf,wrap .u64 chain,wrap .u64 p,x])):=rfl;rw[eR];generalize Ap [wrap .u64 leaf,wrap .u64 chain,wrap .u64 p,x]=W at wd hs ih L ⊢;rw[Vl];simp(disch:=omega)only[A5,A6,wd,Kb,Ip,Ma,NY,L,hs,w];exact ih
theorem A4s{leaf chain:Int}(Bi:1000<=fu)(k:Nat)(f t x:Int)(hk:(k:Int)=t-f)(h0:0<=f)(h1:t<=15):Ac (CX xs) prog fu (d+6) 148 [Aw leaf,Aw chain,Aw f,Aw t,Ah x]=some ⟨[Ah (Tx leaf chain k f x)],[]⟩:=by rw[TW];simp only[F5];rw[Br (by omega),Br (by omega)];exact Ach Bi h1 k fu f x hk h0 (by omega)
theorem KP{call:Aq}{a0 m:Int}{y3:Ae}:∀(k i nn:Nat),i+k=16->k<nn ->
  Gl fu call a0 nn m (K5 m i) i y3 (Ad .i64 (dl m i))=Gl fu call a0 (nn-k) m (K5 m 16) 16 y3 (Ad .i64 (dl m 16))
 |_,_,0,_,h=>by omega
 |0,i,nn+1,hi,hn=>by
  have e:i=16:=by omega
  subst e;rfl
 |k+1,i,nn+1,hi,hn=>by
  have ih:=KP (call:=call) (a0:=a0) (y3:=y3) (m:=m) k (i+1) nn (by omega) (by omega);have hb:=Tu m i;have hs:=Lx m i;have w:wrap .i64 ((i:Int)+1)=((i+1:Nat):Int):=Bq
  have w4:wrap .i64 (4*(i:Int))=4*(i:Int):=Bb;have w60:wrap .i64 (60-4*(i:Int))=60-4*(i:Int):=Bb;have hd:wrap .i64 (Du .u64 (Gw .u64 m (60-4*(i:Int))) 15)=G4 m i:=rfl;have w15:wrap .i64 (15-G4 m i)=15-G4 m i:=Bb;have ws:wrap .i64 (K5 m i+(15-G4 m i))=K5 m (i+1):=by rw[Bb];rfl
  have L:(Ad .i64 (dl m i)).length=18:=by rw[Ak,Age m (by omega)]
  have Adx:B5 (Ad .i64 (dl m i)) [Aw (G4 m i)] i=Ad .i64 (dl m (i+1)):=by
   rw[Le (by omega),Y9,A4l m (by omega)]
  have hat:(Ad .i64 (dl m (i+1))).getD i .top=Aw (G4 m i):=GG (A59 m (by omega));rw[show nn+1-(k+1)=nn-k by omega,<-ih,Qk];simp(disch:=omega)only[A5,A6,Jp,Kb,Ip,w,w4,w60,hd,L,Adx,hat,w15,ws]
theorem Alj(Bi:1000<=fu)(m:Int):Ac (CX xs) prog fu (d+1) 147 [Ah m]=some ⟨[.agg (Ad .i64 (XZ m))],[]⟩:=by
 rw[KD];have lp:=KP (fu:=fu) (call:=Ac (CX xs) prog fu d) (a0:=m) (m:=m) (y3:=Ad .i64 (List.replicate 18 0)) 16 0 fu (by omega) (by omega);obtain⟨f',hf'⟩:∃f',fu-16=f'+1:=⟨fu-17,by omega⟩
 rw[hf'] at lp;refine Eq.trans lp ?_;have hs:=Lx m 16
 have wq:wrap .i64 (Int.tdiv (K5 m 16) 16)=K5 m 16 / 16:=by
  rw[Int.tdiv_eq_ediv_of_nonneg (by omega),Bb]
 have wm:Int.tmod (K5 m 16) 16=K5 m 16 % 16:=Int.tmod_eq_emod_of_nonneg (by omega);have L:(Ad .i64 (dl m 16)).length=18:=by rw[Ak,Age m (by omega)]
 have h1:B5 (Ad .i64 (dl m 16)) [Aw (K5 m 16 / 16)] 16=Ad .i64 ((dl m 16).set 16 (K5 m 16 / 16)):=by
  rw[Le (by omega),Y9]
 have L2:(Ad .i64 ((dl m 16).set 16 (K5 m 16 / 16))).length=18:=by rw[Ak,List.length_set,Age m (by omega)]
 have h2:B5 (Ad .i64 ((dl m 16).set 16 (K5 m 16 / 16))) [Aw (K5 m 16 % 16)] 17=Ad .i64 (XZ m):=by
  rw[Le (by omega),Y9];rfl
 rw[Qk,Hk _ _ _ (by omega)];simp only[F5,wq,wm,L,h1,L2,h2];generalize hq:K5 m 16 / 16=q at *
 generalize hr:K5 m 16 % 16=r at *
 have hD:Ad .i64 (XZ m)=[Aw (G4 m 0),Aw (G4 m 1),Aw (G4 m 2),Aw (G4 m 3),Aw (G4 m 4),Aw (G4 m 5),Aw (G4 m 6),Aw (G4 m 7),Aw (G4 m 8),Aw (G4 m 9),Aw (G4 m 10),Aw (G4 m 11),Aw (G4 m 12),Aw (G4 m 13),Aw (G4 m 14),Aw (G4 m 15),Aw q,Aw r]:=by
  unfold XZ;rw[hq,hr];rfl
 rw[hD];have A7f:(Ad .i64 (List.replicate 18 0)).length=18:=rfl
 have hsp:∀c:Ae,c.length=18->B5 (Ad .i64 (List.replicate 18 0)) c 0=c:=by
  intro c hc;unfold B5;rw[hc,List.drop_of_length_le (by rw[A7f];omega)]
  simp
 rw[BF (Gz:=by omega)];simp only[A5,A6,List.getD_cons_zero,List.getD_cons_succ,A7f];rw[hsp _ rfl];simp(disch:=omega)only[A5,A6,BI,List.getD_cons_zero,List.getD_cons_succ]
theorem Air(Bi:1000<=fu)(leaf:Int){E:Aj}(hE:E.length=18):Ac (CX xs) prog fu (d+6) 149 [Aw leaf,.agg (Ad .u64 E)]=some ⟨[Ah (CI leaf E)],[]⟩:=by
 match E,hE with
 |[e0,e1,e2,e3,e4,e5,e6,e7,e8,e9,e10,e11,e12,e13,e14,e15,e16,e17],_=>
  have wd:Ac (CX xs) prog fu (d+5) 66 [.lst false 1 19 [Ah (wrap .u64 leaf),Ah e0,Ah e1,Ah e2,Ah e3,Ah e4,Ah e5,Ah e6,Ah e7,Ah e8,Ah e9,Ah e10,Ah e11,Ah e12,Ah e13,Ah e14,Ah e15,Ah e16,Ah e17]]=_:=Yq (ws:=wrap .u64 leaf::[e0,e1,e2,e3,e4,e5,e6,e7,e8,e9,e10,e11,e12,e13,e14,e15,e16,e17]) (by simp) (by omega) (by simp;omega)
  have hs:=Apq (xs:=xs) (fu:=fu) (d:=d) (ws:=wrap .u64 leaf::[e0,e1,e2,e3,e4,e5,e6,e7,e8,e9,e10,e11,e12,e13,e14,e15,e16,e17]) (by simp) Bi 2;have L:=Ak .u8 (Ap (wrap .u64 leaf::[e0,e1,e2,e3,e4,e5,e6,e7,e8,e9,e10,e11,e12,e13,e14,e15,e16,e17]));have eR:CI leaf [e0,e1,e2,e3,e4,e5,e6,e7,e8,e9,e10,e11,e12,e13,e14,e15,e16,e17]=B6 2 (Ap (wrap .u64 leaf::[e0,e1,e2,e3,e4,e5,e6,e7,e8,e9,e10,e11,e12,e13,e14,e15,e16,e17])):=rfl;rw[eR];generalize Ap (wrap .u64 leaf::[e0,e1,e2,e3,e4,e5,e6,e7,e8,e9,e10,e11,e12,e13,e14,e15,e16,e17])=W at wd hs L ⊢;refine (FD fu (d+5) leaf e0 e1 e2 e3 e4 e5 e6 e7 e8 e9 e10 e11 e12 e13 e14 e15 e16 e17).trans ?_;simp(disch:=omega)only[A5,A6,wd,Kb,Ip,Ma,NY,L,hs]
theorem A85(g:Nat->Int){i:Nat}(hi:i<18):List.getD [PV.sc (.int .i64 (g 0)),PV.sc (.int .i64 (g 1)),PV.sc (.int .i64 (g 2)),PV.sc (.int .i64 (g 3)),PV.sc (.int .i64 (g 4)),PV.sc (.int .i64 (g 5)),PV.sc (.int .i64 (g 6)),PV.sc (.int .i64 (g 7)),PV.sc (.int .i64 (g 8)),PV.sc (.int .i64 (g 9)),PV.sc (.int .i64 (g 10)),PV.sc (.int .i64 (g 11)),PV.sc (.int .i64 (g 12)),PV.sc (.int .i64 (g 13)),PV.sc (.int .i64 (g 14)),PV.sc (.int .i64 (g 15)),PV.sc (.int .i64 (g 16)),PV.sc (.int .i64 (g 17))] i PV.top=Aw (g i):=by
 have:((List.range 18).map g)[i]?=some (g i):=by simp[hi]
 exact GG (k:=.i64) this
theorem GI{a0 a1:Int}{a2n:Nat}{a2:Ae}{leaf m:Int}{s:Aj}(hs:s.length=18)(Bi:1000<=fu)(g:Nat->Int)(hg:∀k,g k=dg m k):∀(k i nn:Nat),i+k=18->k<nn ->
  Fe fu (Ac (CX xs) prog fu (d+6)) a0 a1 a2n a2 nn leaf s.length (Ad .u64 s) (g 0) (g 1) (g 2) (g 3) (g 4) (g 5) (g 6) (g 7) (g 8) (g 9) (g 10) (g 11) (g 12) (g 13) (g 14) (g 15) (g 16) (g 17) i (Ad .u64 (el leaf m s i)) =
   Fe fu (Ac (CX xs) prog fu (d+6)) a0 a1 a2n a2 (nn-k) leaf s.length (Ad .u64 s) (g 0) (g 1) (g 2) (g 3) (g 4) (g 5) (g 6) (g 7) (g 8) (g 9) (g 10) (g 11) (g 12) (g 13) (g 14) (g 15) (g 16) (g 17) 18 (Ad .u64 (el leaf m s 18))
 |_,_,0,_,h=>by omega
 |0,i,nn+1,hi,hn=>by
  have e:i=18:=by omega
  subst e;rfl
 |k+1,i,nn+1,hi,hn=>by
  have ih:=GI (a0:=a0) (a1:=a1) (a2n:=a2n) (a2:=a2) (leaf:=leaf) (m:=m) hs Bi g hg k (i+1) nn (by omega) (by omega);obtain⟨x,hx⟩:∃x,s[i]?=some x:=⟨_,List.getElem?_eq_getElem (by omega)⟩
  have hb:=Up m i;have hgi:=A85 g (i:=i) (by omega);have w:wrap .i64 ((i:Int)+1)=((i+1:Nat):Int):=Bq
  have rn:=A4s (xs:=xs) (fu:=fu) (d:=d) (leaf:=leaf) (chain:=i) Bi (15-dg m i).toNat (g i) 15 x (by rw[hg];omega) (by rw[hg];omega) (by omega)
  have ev:Tx leaf i (15-dg m i).toNat (g i) x=Abz leaf m s i:=by
   unfold Abz;rw[List.getD_eq_getElem?_getD,hx,hg];rfl
  rw[ev] at rn;have L:(Ad .u64 (el leaf m s i)).length=18:=by rw[Ak,As5 leaf m s (by omega)]
  have Adx:B5 (Ad .u64 (el leaf m s i)) [Ah (Abz leaf m s i)] i=Ad .u64 (el leaf m s (i+1)):=by
   rw[Le (by omega),Y9,A3n leaf m s (by omega)]
  rw[show nn+1-(k+1)=nn-k by omega,<-ih,Pb];simp(disch:=omega)only[A5,A6,Jp,Kb,Ip,hgi,GG hx,rn,L,Adx,w]
theorem Acq(Bi:1000<=fu){a0 a1 leaf:Int}{a2n n nn:Nat}{a2 c:Ae}{g:Nat->Int}{E:Aj}(hE:E.length=18):
  Fe fu (Ac (CX xs) prog fu (d+6)) a0 a1 a2n a2 (nn+1) leaf n c (g 0) (g 1) (g 2) (g 3) (g 4) (g 5) (g 6) (g 7) (g 8) (g 9) (g 10) (g 11) (g 12) (g 13) (g 14) (g 15) (g 16) (g 17) 18 (Ad .u64 E)=some ⟨[Ah (CI leaf E),Aw 0],[]⟩:=by
 match E,hE with
 |[e0,e1,e2,e3,e4,e5,e6,e7,e8,e9,e10,e11,e12,e13,e14,e15,e16,e17],hE=>
  have cb:=Air (xs:=xs) (fu:=fu) (d:=d) Bi leaf hE;have hc:Ad .u64 [e0,e1,e2,e3,e4,e5,e6,e7,e8,e9,e10,e11,e12,e13,e14,e15,e16,e17]=[Ah e0,Ah e1,Ah e2,Ah e3,Ah e4,Ah e5,Ah e6,Ah e7,Ah e8,Ah e9,Ah e10,Ah e11,Ah e12,Ah e13,Ah e14,Ah e15,Ah e16,Ah e17]:=rfl;rw[hc] at cb ⊢;generalize CI leaf [e0,e1,e2,e3,e4,e5,e6,e7,e8,e9,e10,e11,e12,e13,e14,e15,e16,e17]=R at cb ⊢;rw[Pb,Hk _ _ _ (by omega)];simp(disch:=omega)only[A5,A6,Yf,Zi,List.getD_cons_zero,List.getD_cons_succ,cb]
theorem Ah0(Bi:1000<=fu)(leaf m:Int)(s:Aj):Ac (CX xs) prog fu (d+7) 127 [Aw leaf,Ah m,.lst false 1 s.length (Ad .u64 s)]=some ⟨(if s.length=18 then [Ah (Ab4 leaf m s),Aw 0] else [Ah 0,Aw 4]),[]⟩:=by
 rw[FV];by_cases h:s.length=18
 ·have dq:=Alj (xs:=xs) (fu:=fu) (d:=d+5) Bi m;have hD:Ad .i64 (XZ m)=[Aw (dg m 0),Aw (dg m 1),Aw (dg m 2),Aw (dg m 3),Aw (dg m 4),Aw (dg m 5),Aw (dg m 6),Aw (dg m 7),Aw (dg m 8),Aw (dg m 9),Aw (dg m 10),Aw (dg m 11),Aw (dg m 12),Aw (dg m 13),Aw (dg m 14),Aw (dg m 15),Aw (dg m 16),Aw (dg m 17)]:=rfl;rw[hD] at dq;simp only[G6];rw[Cx h,Cx (by omega)];simp only[A5,A6,dq];have lp:=GI (xs:=xs) (fu:=fu) (d:=d) (a0:=leaf) (a1:=m) (a2n:=s.length) (a2:=Ad .u64 s) (leaf:=leaf) (m:=m) h Bi (dg m) (fun _=>rfl) 18 0 fu (by omega) (by omega);obtain⟨f',hf'⟩:∃f',fu-18=f'+1:=⟨fu-19,by omega⟩
  rw[hf'] at lp;refine Eq.trans lp ?_;have eE:el leaf m s 18=FC leaf m s:=A7e leaf m s;have hl:(FC leaf m s).length=18:=by rw[<-eE,As5 leaf m s (by omega)]
  have eR:Ab4 leaf m s=CI leaf (FC leaf m s):=rfl;rw[eE,eR];exact Acq Bi hl
 ·simp only[G6];rw[Br h,Br (by omega)]
end
structure Ky where
 h:Int
 root:Int
structure Sg where
 leaf:Int
 chains:Aj
 path:Aj
def Ky.cells(k:Ky):Ae:=[Aw k.h,Ah k.root]
def Sg.cells(s:Sg):Ae:=[Aw s.leaf,.lst false 1 s.chains.length (Ad .u64 s.chains),.lst false 1 s.path.length (Ad .u64 s.path)]
def Dt(h:Int):Bool:=decide (h<0)||decide (h>4)
def Jh(leaf h:Int):Bool:=decide (leaf<0)||decide (leaf>=Fp .i64 1 h)
def Mk(level a b:Int):Int:=B6 3 (Ap [wrap .u64 level,a,b])
def Y2(leaf:Int):Nat->Int->Aj->Int
 |_,x,[]=>x
 |i,x,s::r=>Y2 leaf (i+1) (if Du .i64 (Gw .i64 leaf i) 1=0 then Mk ((i+1:Nat):Int) x s else Mk ((i+1:Nat):Int) s x) r
def okE(x root:Int):Int:=if x=root then 0 else 15
theorem Agi(leaf:Int)(i:Nat)(x:Int):Y2 leaf i x []=x:=rfl
theorem Zm(leaf:Int)(i:Nat)(x s:Int)(r:Aj):Y2 leaf i x (s::r)=Y2 leaf (i+1) (if Du .i64 (Gw .i64 leaf i) 1=0 then Mk ((i+1:Nat):Int) x s else Mk ((i+1:Nat):Int) s x) r:=rfl
def MX(k:Ky)(m:Int)(s:Sg):Int:=
 if Dt k.h=true then 9 else if Jh s.leaf k.h=true then 9 else if s.chains.length≠18 then 4 else if (s.path.length:Int)≠k.h then 4 else
 okE (Y2 s.leaf 0 (Ab4 s.leaf m s.chains) s.path) k.root
theorem Iu{h:Int}(hh:Dt h=false):0<=h/\h<=4:=by unfold Dt at hh;simp at hh;omega
section
variable {fu d:Nat}{xs:FuncId->Option (Ae->Option A4)}
theorem NH(h:Int):Ac (CX xs) prog fu (d+1) 95 [Aw h]=some ⟨[Cz (Dt h)],[]⟩:=by
 rw[QB];unfold Dt;by_cases h0:h<0
 ·simp only[A5,A6,Zr,h0,decide_true,Bool.true_or,if_true]
 ·simp only[A5,A6,Zr,h0,decide_false,Bool.false_or,if_false]
theorem QX(leaf h:Int)(h0:0<=h):Ac (CX xs) prog fu (d+1) 126 [Aw leaf,Aw h]=some ⟨[Cz (Jh leaf h)],[]⟩:=by
 rw[FE];unfold Jh;by_cases hl:leaf<0
 ·simp only[A5,A6,Zr,hl,decide_true,Bool.true_or,if_true]
 ·simp(disch:=omega)only[A5,A6,Zr,hl,decide_false,Bool.false_or,if_false]
theorem UV(Bi:1000<=fu)(level a b:Int):Ac (CX xs) prog fu (d+6) 128 [Aw level,Ah a,Ah b]=some ⟨[Ah (Mk level a b)],[]⟩:=by
 have wd:Ac (CX xs) prog fu (d+5) 66 [.lst false 1 3 [Ah (wrap .u64 level),Ah a,Ah b]]=_:=Yq (ws:=[wrap .u64 level,a,b]) (by simp) (by omega) (by simp;omega)
 have hs:=Apq (xs:=xs) (fu:=fu) (d:=d) (ws:=[wrap .u64 level,a,b]) (by simp) Bi 3;have L:=Ak .u8 (Ap [wrap .u64 level,a,b]);rw[JK];unfold Mk;generalize Ap [wrap .u64 level,a,b]=W at wd hs L ⊢;simp(disch:=omega)only[A5,A6,wd,Kb,Ip,Ma,NY,L,hs]
theorem LE{a0 a1 a2 a3:Int}{n1 n2 n3 n4:Nat}{c1 c2 c3 c4:Ae}{y5 root leaf:Int}{path:Aj}(hp:path.length<=100)(Bi:1000<=fu):∀(r:Aj)(i nn:Nat)(x:Int),path.drop i=r->r.length<nn->i<=path.length ->
  Gt fu (Ac (CX xs) prog fu (d+6)) a0 a1 a2 a3 n1 c1 n2 c2 nn x path.length (Ad .u64 path) path.length i y5 root leaf n3 c3 n4 c4=some ⟨[Aw (okE (Y2 leaf i x r) root)],[]⟩
 |_,_,0,_,_,h,_=>by omega
 |[],i,nn+1,x,h,hn,hi=>by
  have:=drop_nil h;rw[Qc,Hk _ _ _ (by omega),G6];rw[Agi];unfold okE;by_cases e:x=root
  ·rw[Cx e,Cx e]
  ·rw[Br e,Br e]
 |s::r,i,nn+1,x,h,hn,hi=>by
  obtain⟨h1,h2,h3⟩:=D8 h;simp only[Po] at hn;have w:wrap .i64 ((i:Int)+1)=((i+1:Nat):Int):=Bq
  have ih:=fun x=>LE (a0:=a0) (a1:=a1) (a2:=a2) (a3:=a3) (n1:=n1) (n2:=n2) (n3:=n3) (n4:=n4) (c1:=c1) (c2:=c2) (c3:=c3) (c4:=c4) (y5:=y5) (root:=root) (leaf:=leaf) hp Bi r (i+1) nn x h3 (by omega) (by omega);have p1:=UV (xs:=xs) (fu:=fu) (d:=d) Bi ((i+1:Nat):Int) x s;have p2:=UV (xs:=xs) (fu:=fu) (d:=d) Bi ((i+1:Nat):Int) s x;rw[Qc,Zm];by_cases hb:Du .i64 (Gw .i64 leaf i) 1=0
  ·rw[Cx hb,<-ih];simp(disch:=omega)only[A5,A6,Jp,Kb,GG h2,Od,hb,w,p1,if_true]
  ·rw[Br hb,<-ih];simp(disch:=omega)only[A5,A6,Jp,Kb,GG h2,Od,hb,w,p2,if_false]
theorem ID(Bi:1000<=fu)(k:Ky)(m:Int)(s:Sg):Ac (CX xs) prog fu (d+8) 103 [.agg k.cells,Ah m,.agg s.cells]=some ⟨[Aw (MX k m s)],[]⟩:=by
 refine (JO fu (d+7) k.h k.root m s.leaf s.chains.length (Ad .u64 s.chains) s.path.length (Ad .u64 s.path)).trans ?_;have h1:=NH (xs:=xs) (fu:=fu) (d:=d+6) k.h;unfold MX;cases c1:Dt k.h
 ·rw[c1] at h1;have hb:=Iu c1;have h2:=QX (xs:=xs) (fu:=fu) (d:=d+6) s.leaf k.h hb.1;cases c2:Jh s.leaf k.h
  ·rw[c2] at h2;by_cases c3:s.chains.length=18
   ·by_cases c4:(s.path.length:Int)=k.h
    ·have rc:=Ah0 (xs:=xs) (fu:=fu) (d:=d) Bi s.leaf m s.chains;rw[Cx c3] at rc;have vl:=LE (xs:=xs) (fu:=fu) (d:=d+1) (a0:=k.h) (a1:=k.root) (a2:=m) (a3:=s.leaf) (n1:=s.chains.length) (n2:=s.path.length) (n3:=s.chains.length) (n4:=s.path.length) (c1:=Ad .u64 s.chains) (c2:=Ad .u64 s.path) (c3:=Ad .u64 s.chains) (c4:=Ad .u64 s.path) (y5:=k.h) (root:=k.root) (leaf:=s.leaf) (path:=s.path) (by omega) Bi s.path 0 fu (Ab4 s.leaf m s.chains) rfl (by omega) (by omega);rw[Br (by simp),Br (by simp),Br (by omega),Br (by omega),<-vl];simp(disch:=omega)only[A5,A6,h1,h2,G6,rc,if_true,c4];rw[Cx (by omega)];rfl
    ·rw[Br (by simp),Br (by simp),Br (by omega),Cx c4];simp(disch:=omega)only[A5,A6,h1,h2,G6,c4,if_false];rw[Cx (by omega)]
   ·rw[Br (by simp),Br (by simp),Cx c3];simp(disch:=omega)only[A5,A6,h1,h2,G6];rw[Br (by omega)]
  ·rw[c2] at h2;rw[Br (by simp),Cx rfl];simp(disch:=omega)only[A5,A6,h1,h2]
 ·rw[c1] at h1;rw[Cx rfl];simp(disch:=omega)only[A5,A6,h1]
def Vy(k:Ky):Aj:=wrap .u8 k.h::Bf k.root
def sgB(s:Sg):Aj:=wrap .u8 s.leaf::wrap .u8 s.path.length::(Ap s.chains++Ap s.path)
theorem owd(Bi:1000<=fu)(w:Int):Ac (CX xs) prog fu (d+1) 66 [.lst false 1 1 [Ah w]]=some ⟨[.own 1 8 (Ad .u8 (Bf w))],[]⟩:=by
 have:=Yq (xs:=xs) (fu:=fu) (d:=d) (ws:=[w]) (by simp) (by omega) (by simp;omega)
 simp only[Ap,K8,List.flatMap_nil,List.append_nil,Po,NS,B4] at this;exact this
theorem Ans(Bi:1000<=fu)(k:Ky):Ac (CX xs) prog fu (d+2) 97 [.agg k.cells]=some ⟨(if Dt k.h=true then [.own 1 0 [],Aw 9] else [.own 1 9 (Ad .u8 (Vy k)),Aw 0]),[]⟩:=by
 refine (BJ fu (d+1) k.h k.root).trans ?_;have h1:=NH (xs:=xs) (fu:=fu) (d:=d) k.h;have wd:=owd (xs:=xs) (fu:=fu) (d:=d) Bi k.root;have L:=Ak .u8 (Bf k.root);rw[B4] at L;have t8:List.take 8 (Ad .u8 (Bf k.root))=Ad .u8 (Bf k.root):=H5 (by omega)
 have t9:List.take 9 ([PV.sc (.int .u8 (wrap .u8 k.h))]++Ad .u8 (Bf k.root))=Ad .u8 (Vy k):=by
  rw[H5 (by rw[Vo,L];simp)]
  rfl
 have L9:([PV.sc (.int .u8 (wrap .u8 k.h))]++Ad .u8 (Bf k.root)).length=9:=by rw[Vo,L];rfl
 cases c1:Dt k.h
 ·rw[c1] at h1;rw[Br (by simp)];simp(disch:=omega)only[A5,A6,h1,wd,Kb,Ip,Ma,L,t8,Nat.reduceAdd,L9,t9]
 ·rw[c1] at h1;rw[Cx rfl];simp(disch:=omega)only[A5,A6,h1]
def Wd(l:Aj)(i:Nat):Int:=Anv ((l.drop (8*i)).take 8)
def Gj(l:Aj):Aj:=(List.range (l.length / 8)).map (Wd l)
def wl(l:Aj)(i:Nat):Aj:=(List.range i).map (Wd l)++List.replicate (l.length / 8-i) 0
theorem Ap2(l:Aj){i:Nat}(h:i<=l.length / 8):(wl l i).length=l.length / 8:=by simp[wl];omega
theorem A3r(l:Aj){i:Nat}(h:i<l.length / 8):(wl l i).set i (Wd l i)=wl l (i+1):=by unfold wl;rw[List.set_append_right _ _ (by simp),List.length_map,List.length_range,Nat.sub_self,show l.length / 8-i=(l.length / 8-(i+1))+1 by omega,List.replicate_succ,List.set_cons_zero,List.range_succ,List.map_append,Zzv];rfl
theorem Aw6(l:Aj){i:Nat}(h:i<l.length / 8):(wl l i).set i 0=wl l i:=by unfold wl;rw[List.set_append_right _ _ (by simp),List.length_map,List.length_range,Nat.sub_self,show l.length / 8-i=(l.length / 8-(i+1))+1 by omega,List.replicate_succ,List.set_cons_zero]
theorem VR{n m0:Nat}{c:Ae}{l:Aj}(hl:l.length<=1000000){i:Nat}(hi:i<l.length / 8){q:Aj}(hq:q.length<=8):∀(r:Aj)(j nn:Nat)(x:Int),q.drop j=r->r.length<nn->j<=q.length ->
  Jl fu (Ac (CX xs) prog fu d) n c m0 nn l.length (Ad .u8 l) (l.length / 8) i ((l.length / 8:Nat):Int) i q.length (Ad .u8 q) q.length j (Ad .u64 ((wl l i).set i x)) =
   Hg fu (Ac (CX xs) prog fu d) n c m0 l.length (Ad .u8 l) (l.length / 8) ((l.length / 8:Nat):Int) ((i+1:Nat):Int) (Ad .u64 ((wl l i).set i (r.foldl Mq x)))
 |_,_,0,_,_,h,_=>by omega
 |[],j,nn+1,x,h,hn,hj=>by
  have:=drop_nil h;have w:wrap .i64 ((i:Int)+1)=((i+1:Nat):Int):=Bq
  rw[R1,Hk _ _ _ (by omega)];simp only[F5,w,List.foldl_nil]
 |b::r,j,nn+1,x,h,hn,hj=>by
  obtain⟨h1,h2,h3⟩:=D8 h;simp only[Po] at hn;have w:wrap .i64 ((j:Int)+1)=((j+1:Nat):Int):=Bq
  have L:(Ad .u64 ((wl l i).set i x)).length=l.length / 8:=by rw[Ak,List.length_set,Ap2 l (by omega)]
  have hat:(Ad .u64 ((wl l i).set i x)).getD i .top=Ah x:=GG (by rw[List.getElem?_set_self (by rw[Ap2 l (by omega)];omega)])
  have Adx:B5 (Ad .u64 ((wl l i).set i x)) [Ah (Mq x b)] i=Ad .u64 ((wl l i).set i (Mq x b)):=by
   rw[Le (by omega),Y9,List.set_set]
  have ih:=VR (n:=n) (m0:=m0) (c:=c) hl hi hq r (j+1) nn (Mq x b) h3 (by omega) (by omega);rw[List.foldl_cons,<-ih,R1];simp(disch:=omega)only[A5,A6,Jp,Kb,Ip,GG h2,hat,L,w];exact congrArg _ Adx
theorem KI{n:Nat}{c:Ae}{l:Aj}(hl:l.length<=1000000)(Bi:100<=fu):∀(k i nn:Nat),i+k=l.length / 8->k<nn ->
  Hg fu (Ac (CX xs) prog fu d) n c nn l.length (Ad .u8 l) (l.length / 8) ((l.length / 8:Nat):Int) i (Ad .u64 (wl l i))=some ⟨[.own 1 (l.length / 8) (Ad .u64 (Gj l))],[]⟩
 |_,_,0,_,h=>by omega
 |0,i,nn+1,hi,hn=>by
  have e:i=l.length / 8:=by omega
  subst e;have e2:wl l (l.length / 8)=Gj l:=by unfold wl Gj;simp
  have L:(Ad .u64 (Gj l)).length=l.length / 8:=by rw[Ak];simp[Gj]
  have tk:List.take (l.length / 8) (Ad .u64 (Gj l))=Ad .u64 (Gj l):=H5 (by omega);rw[Rk,Hk _ _ _ (by omega),e2];simp(disch:=omega)only[A5,A6,Kb,L,tk]
 |k+1,i,nn+1,hi,hn=>by
  have ih:=KI (n:=n) (c:=c) hl Bi k (i+1) nn (by omega) (by omega);have w8:wrap .i64 (8*(i:Int))=((8*i:Nat):Int):=Bq
  have w88:wrap .i64 (((8*i:Nat):Int)+8)=((8*i+8:Nat):Int):=Bq
  have e8:8*i+8-8*i=8:=by omega
  have hdl:((l.drop (8*i)).take 8).length=8:=by rw[List.length_take,List.length_drop];omega
  have st:=VR (xs:=xs) (fu:=fu) (d:=d) (n:=n) (m0:=nn) (c:=c) hl (i:=i) (by omega) (q:=(l.drop (8*i)).take 8) (by omega) ((l.drop (8*i)).take 8) 0 fu 0 rfl (by omega) (by omega);rw[Aw6 l (by omega),hdl] at st;have ew:((l.drop (8*i)).take 8).foldl Mq 0=Wd l i:=rfl;rw[ew,A3r l (by omega),ih] at st;rw[Rk];simp(disch:=omega)only[A5,A6,Jp,Kb,w8,w88,e8,Lo,Ie];exact st
theorem Apg(n:Nat):Si n [Ah 0]=Ad .u64 (List.replicate n 0):=by
 induction n with
 |zero=>rfl
 |succ n ih=>
  show ([PV.sc (.int .u64 0)]::List.replicate n [PV.sc (.int .u64 0)]).flatten=_;rw[List.flatten_cons,List.replicate_succ];show _++Si n [Ah 0]=PV.sc (.int .u64 0)::Ad .u64 (List.replicate n 0);rw[ih];rfl
theorem II{l:Aj}(hl:l.length<=1000000)(Bi:100<=fu)(hf:l.length<fu):Ac (CX xs) prog fu (d+1) 96 [.lst false 1 l.length (Ad .u8 l)]=some ⟨[.own 1 (l.length / 8) (Ad .u64 (Gj l))],[]⟩:=by
 rw[MO]
 have w:wrap .i64 (Int.tdiv (l.length:Int) 8)=((l.length / 8:Nat):Int):=by
  rw[Int.tdiv_eq_ediv_of_nonneg (by omega),Bb];omega
 have lp:=KI (xs:=xs) (fu:=fu) (d:=d) (n:=l.length) (c:=Ad .u8 l) hl Bi (l.length / 8) 0 fu (by omega) (by omega);have e0:wl l 0=List.replicate (l.length / 8) 0:=by unfold wl;simp
 rw[e0] at lp;simp(disch:=omega)only[A5,A6,w,Jp,Apg,Int.le_refl];exact lp
def Aa6(l:Aj):Option Ky:=if l.length=9/\Dt (l.getD 0 0)=false then some ⟨l.getD 0 0,Wd (l.drop 1) 0⟩ else none
def Ag3(o:Option Ky):Ae:=match o with|some k=>[.agg k.cells,Aw 0]|none=>[.agg (Ky.mk 0 0).cells,Aw 2]
theorem Amh(Bi:1000<=fu){l:Aj}(hb:Cm l):Ac (CX xs) prog fu (d+2) 61 [.lst false 1 l.length (Ad .u8 l)]=some ⟨Ag3 (Aa6 l),[]⟩:=by
 refine (BL fu (d+1) l.length (Ad .u8 l)).trans ?_;unfold Aa6;by_cases h9:l.length=9
 ·obtain⟨x,hx⟩:∃x,l[0]?=some x:=⟨_,List.getElem?_eq_getElem (by omega)⟩
  have hxb:=hb x (List.mem_of_getElem? hx);have wx:wrap .i64 x=x:=Bb;have gx:l.getD 0 0=x:=by rw[List.getD_eq_getElem?_getD,hx];rfl
  have h1:=NH (xs:=xs) (fu:=fu) (d:=d) x;rw[gx];cases c1:Dt x
  ·rw[c1] at h1;have hdl:(l.drop 1).length=8:=by rw[List.length_drop];omega
   have dw:=II (xs:=xs) (fu:=fu) (d:=d) (l:=l.drop 1) (by omega) (by omega) (by omega);rw[hdl] at dw;have hat:(Ad .u64 (Gj (l.drop 1))).getD 0 .top=Ah (Wd (l.drop 1) 0):=GG (by unfold Gj;rw[hdl];rfl)
   have e8:9-1=8:=rfl;have tk:List.take 8 (Ad .u8 (l.drop 1))=Ad .u8 (l.drop 1):=H5 (by rw[Ak];omega)
   rw[Cx ⟨h9,rfl⟩,h9];simp(disch:=omega)only[A5,A6,G6,GG hx,wx,h1,Kb,Lo,e8,tk,dw,hat];rfl
  ·rw[c1] at h1;rw[Br (by simp),h9];simp(disch:=omega)only[A5,A6,G6,GG hx,wx,h1];rfl
 ·rw[Br (by simp[h9])];simp(disch:=omega)only[G6];rw[Br (by omega)];rfl
def sgD(l:Aj):Option Sg:=
 if 2<=l.length/\Dt (l.getD 1 0)=false/\Jh (l.getD 0 0) (l.getD 1 0)=false/\(l.length:Int)=2+8*(18+l.getD 1 0) then some ⟨l.getD 0 0,Gj ((l.drop 2).take 144),Gj (l.drop 146)⟩ else none
def Sg.owned(s:Sg):Ae:=[Aw s.leaf,.own 1 s.chains.length (Ad .u64 s.chains),.own 1 s.path.length (Ad .u64 s.path)]
def Aby(o:Option Sg):Ae:=match o with|some s=>[.agg s.owned,Aw 0]|none=>[.agg (Sg.mk 0 [] []).owned,Aw 2]
theorem DC(l:Aj):(Gj l).length=l.length / 8:=by simp[Gj]
theorem WR(Bi:1000<=fu){l:Aj}(hb:Cm l):Ac (CX xs) prog fu (d+2) 102 [.lst false 1 l.length (Ad .u8 l)]=some ⟨Aby (sgD l),[]⟩:=by
 refine (Sr fu (d+1) l.length (Ad .u8 l)).trans ?_;unfold sgD;by_cases h2:2<=l.length
 ·obtain⟨x,hx⟩:∃x,l[0]?=some x:=⟨_,List.getElem?_eq_getElem (by omega)⟩
  obtain⟨y,hy⟩:∃y,l[1]?=some y:=⟨_,List.getElem?_eq_getElem (by omega)⟩
  have hxb:=hb x (List.mem_of_getElem? hx);have hyb:=hb y (List.mem_of_getElem? hy);have wx:wrap .i64 x=x:=Bb;have wy:wrap .i64 y=y:=Bb;have gx:l.getD 0 0=x:=by rw[List.getD_eq_getElem?_getD,hx];rfl
  have gy:l.getD 1 0=y:=by rw[List.getD_eq_getElem?_getD,hy];rfl
  have h1:=NH (xs:=xs) (fu:=fu) (d:=d) y;have ho:=QX (xs:=xs) (fu:=fu) (d:=d) x y (by omega);have w1:wrap .i64 (18+y)=18+y:=Bb;have w2:wrap .i64 (8*(18+y))=8*(18+y):=Bb;have w3:wrap .i64 (2+8*(18+y))=2+8*(18+y):=Bb;rw[gx,gy];cases c1:Dt y
  ·rw[c1] at h1;cases c2:Jh x y
   ·rw[c2] at ho;by_cases c3:(l.length:Int)=2+8*(18+y)
    ·have hy4:=Iu c1;have d1:=II (xs:=xs) (fu:=fu) (d:=d) (l:=(l.drop 2).take 144) (by rw[List.length_take,List.length_drop];omega) (by omega) (by rw[List.length_take,List.length_drop];omega)
     have d2:=II (xs:=xs) (fu:=fu) (d:=d) (l:=l.drop 146) (by rw[List.length_drop];omega) (by omega) (by rw[List.length_drop];omega)
     have l1:((l.drop 2).take 144).length=144:=by rw[List.length_take,List.length_drop];omega
     have l2:(l.drop 146).length=l.length-146:=List.length_drop;rw[l1] at d1;have L1:(Ad .u64 (Gj ((l.drop 2).take 144))).length=18:=by rw[Ak,DC,l1]
     have L2:(Ad .u64 (Gj (l.drop 146))).length=(l.length-146) / 8:=by rw[Ak,DC,l2]
     rw[l2] at d2;have t1:List.take (144 / 8) (Ad .u64 (Gj ((l.drop 2).take 144)))=Ad .u64 (Gj ((l.drop 2).take 144)):=H5 (by omega);have t2:List.take ((l.length-146) / 8) (Ad .u64 (Gj (l.drop 146)))=Ad .u64 (Gj (l.drop 146)):=H5 (by omega);have t3:List.take (l.length-146) (l.drop 146)=l.drop 146:=H5 (by omega);rw[Cx ⟨h2,rfl,rfl,c3⟩];simp(disch:=omega)only[A5,A6,G6,GG hx,GG hy,wx,wy,h1,ho,w1,w2,w3,Kb,Lo,Ie,d1,d2,t3,L1,L2,t1,t2];rw[Cx c3];simp only[Aby,Sg.owned,DC,l1,l2]
    ·rw[Br (by simp[c3])];simp(disch:=omega)only[A5,A6,G6,GG hx,GG hy,wx,wy,h1,ho,w1,w2,w3];rw[Br c3];rfl
   ·rw[c2] at ho;rw[Br (by simp)];simp(disch:=omega)only[A5,A6,G6,GG hx,GG hy,wx,wy,h1,ho];rfl
  ·rw[c1] at h1;rw[Br (by simp)];simp(disch:=omega)only[A5,A6,G6,GG hx,GG hy,wx,wy,h1];rfl
 ·rw[Br (by simp[h2])];simp(disch:=omega)only[A5,A6];rfl
end
def Aaa(seed leaf chain:Int):Int:=Atb seed 1 (Ap [wrap .u64 leaf,wrap .u64 chain])
def MG(seed leaf:Int)(c:Nat):Int:=Tx leaf c 15 0 (Aaa seed leaf c)
def Yz(seed leaf:Int):Int:=CI leaf ((List.range 18).map (MG seed leaf))
def RX(seed leaf m:Int)(c:Nat):Int:=Tx leaf c (dg m c).toNat 0 (Aaa seed leaf c)
def X9(seed leaf m:Int):Aj:=(List.range 18).map (RX seed leaf m)
def Ib(seed:Int):Nat->Int->Int
 |0,i=>Yz seed i
 |l+1,i=>Mk ((l+1:Nat):Int) (Ib seed l (2*i)) (Ib seed l (2*i+1))
def Sk(seed:Int)(h:Int):Ky:=if Dt h=true then ⟨0,0⟩ else ⟨h,Ib seed h.toNat 0⟩
def M4(leaf:Int)(k:Nat):Int:=Ee .i64 (Gw .i64 leaf k) 1
def Add(seed:Int)(h leaf m:Int):Option Sg:=if Dt h=true then none else if Jh leaf h=true then none else some ⟨leaf,X9 seed leaf m,(List.range h.toNat).map fun k=>Ib seed k (M4 leaf k)⟩
def EN(o:Option Sg):Ae:=match o with|some s=>[.agg s.owned,Aw 0]|none=>[.agg (Sg.mk 0 [] []).owned,Aw 9]
section
variable {fu d:Nat}{xs:FuncId->Option (Ae->Option A4)}
def pl(g:Nat->Int)(i:Nat):Aj:=(List.range i).map g++List.replicate (18-i) 0
end
def B0(s:ByteArray):Aj:=s.data.toList.map fun b=>(b.toNat:Int)
def Ab(l:Aj):ByteArray:=⟨(l.map fun n=>n.toNat.toUInt8).toArray⟩
theorem Cv(s:ByteArray):(B0 s).length=s.size:=by unfold B0;rw[List.length_map];rfl
theorem Yn(s:ByteArray):Cm (B0 s):=by intro x hx;obtain⟨b,_,rfl⟩:=List.mem_map.1 hx;have:=b.toNat_lt;omega
theorem Hu(s:ByteArray):Dq s=Ad .u8 (B0 s):=by
 unfold Dq B0
 induction s.data.toList with
 |nil=>rfl
 |cons b l ih=>rw[Vv,Vv,ih];rfl
theorem Ag(l:Aj):(Ab l).size=l.length:=by show (l.map fun n=>n.toNat.toUInt8).toArray.size=_;simp
theorem Dd{l:Aj}(h:Cm l):B0 (Ab l)=l:=by
 unfold B0 Ab;simp only[List.map_map]
 have:∀l:Aj,Cm l->List.map ((fun b:UInt8=>(b.toNat:Int)) ∘ fun n:Int=>n.toNat.toUInt8) l=l:=by
  intro l
  induction l with
  |nil=>intro _;rfl
  |cons x l ih=>
   intro h;have hx:=h x (by simp);rw[Vv,ih fun y hy=>h y (by simp[hy])]
   congr 1
   show ((x.toNat.toUInt8.toNat:Nat):Int)=x;rw[Nat.toUInt8,UInt8.toNat_ofNat'];omega
 exact this l h
theorem H2(s:ByteArray):Ab (B0 s)=s:=by
 unfold Ab B0;simp only[List.map_map]
 have:∀l:List UInt8,List.map ((fun n:Int=>n.toNat.toUInt8) ∘ fun b:UInt8=>(b.toNat:Int)) l=l:=by
  intro l
  induction l with
  |nil=>rfl
  |cons x l ih=>
   rw[Vv,ih]
   congr 1
   show ((x.toNat:Int).toNat).toUInt8=x;rw[Jp];simp
 rw[this]
theorem Lh:∀l:Aj,bytesOf (Ad .u8 l)=some (l.map fun n=>n.toNat.toUInt8)
 |[]=>rfl
 |x::l=>by
  show (bytesOf (Ad .u8 l)).map (x.toNat.toUInt8 :: ·)=_;rw[Lh l];rfl
def N4(v:Int):Int:=if v<26 then 65+v else if v<52 then 71+v else if v<62 then v-4 else if v<63 then 45 else 95
def Cd(c:Int):Int:=if 65<=c/\c<=90 then c-65 else if 97<=c/\c<=122 then c-71 else if 48<=c/\c<=57 then c+4 else if c=45 then 62 else if c=95 then 63 else 64
theorem Qz{v:Int}(h0:0<=v)(h1:v<64):Cd (N4 v)=v:=by unfold Cd N4;split<;>split<;>(try split)<;>(try split)<;>(try split)<;>(try split)<;>(try split)<;>(try split)<;>omega
theorem Ua(c:Int):0<=Cd c/\Cd c<=64:=by
 unfold Cd;split
 ·omega
 split
 ·omega
 split
 ·omega
 split
 ·omega
 split<;>omega
def I9:Aj->Aj
 |[]=>[]
 |[a]=>[N4 (a / 4),N4 (a % 4*16)]
 |[a,b]=>[N4 (a / 4),N4 (a % 4*16+b / 16),N4 (b % 16*4)]
 |a::b::c::r=>N4 (a / 4)::N4 (a % 4*16+b / 16)::N4 (b % 16*4+c / 64)::N4 (c % 64)::I9 r
def Sf:Aj->Option Aj
 |[]=>some []
 |[_]=>none
 |[p,q]=>if Cd p<64/\Cd q<64/\Cd q % 16=0 then some [Cd p*4+Cd q / 16] else none
 |[p,q,r]=>if Cd p<64/\Cd q<64/\Cd r<64/\Cd r % 4=0 then some [Cd p*4+Cd q / 16,Cd q % 16*16+Cd r / 4] else none
 |p::q::r::s::t=>if Cd p<64/\Cd q<64/\Cd r<64/\Cd s<64 then (Sf t).map (fun l=>(Cd p*4+Cd q / 16)::(Cd q % 16*16+Cd r / 4)::(Cd r % 4*64+Cd s)::l) else none
theorem Ds{a:Int}{l:Aj}(h:Cm (a::l)):(0<=a/\a<=255)/\Cm l:=⟨h a (by simp),fun x hx=>h x (by simp[hx])⟩
theorem Aiv:∀{l:Aj},Cm l->Sf (I9 l)=some l
 |[],_=>rfl
 |[a],h=>by
  obtain⟨ha,_⟩:=Ds h;have e1:=Qz (v:=a / 4) (by omega) (by omega);have e2:=Qz (v:=a % 4*16) (by omega) (by omega);unfold I9 Sf;rw[e1,e2,Cx (by omega)]
  congr 2
  omega
 |[a,b],h=>by
  obtain⟨ha,h⟩:=Ds h;obtain⟨hb,_⟩:=Ds h;have e1:=Qz (v:=a / 4) (by omega) (by omega);have e2:=Qz (v:=a % 4*16+b / 16) (by omega) (by omega);have e3:=Qz (v:=b % 16*4) (by omega) (by omega);unfold I9 Sf;rw[e1,e2,e3,Cx (by omega)]
  congr 2
  ·omega
  ·congr 1;omega
 |a::b::c::r,h=>by
  obtain⟨ha,h⟩:=Ds h;obtain⟨hb,h⟩:=Ds h;obtain⟨hc,h⟩:=Ds h;have e1:=Qz (v:=a / 4) (by omega) (by omega);have e2:=Qz (v:=a % 4*16+b / 16) (by omega) (by omega);have e3:=Qz (v:=b % 16*4+c / 64) (by omega) (by omega);have e4:=Qz (v:=c % 64) (by omega) (by omega);unfold I9 Sf;rw[e1,e2,e3,e4,Cx (by omega),Aiv h];simp only[Option.map_some]
  congr 2
  ·omega
  ·congr 1
   ·omega
   ·congr 1;omega
theorem FB:∀l:Aj,(I9 l).length=(4*l.length+2) / 3
 |[]=>rfl
 |[_]=>by simp[I9]
 |[_,_]=>by simp[I9]
 |a::b::c::r=>by
  show (I9 r).length+1+1+1+1=_;rw[FB r];simp only[Po];omega
def EA(c:Int):Bool:=c==32||c==9||c==10||c==13
def Bh:Aj->Aj
 |[]=>[]
 |c::r=>if EA c=true then Bh r else c::r
def Ahh(c:Int):Option Int:=if 48<=c/\c<=57 then some (c-48) else if 97<=c/\c<=102 then some (c-87) else if 65<=c/\c<=70 then some (c-55) else none
abbrev PR(α:Type):=Option α × Aj
def BK:Nat->Int->Aj->PR Int
 |0,x,l=>(some x,l)
 |_+1,_,[]=>(none,[])
 |n+1,x,c::r=>match Ahh c with
  |some v=>BK n (x*16+v) r
  |none=>(none,c::r)
def Aan(x:Int):Bool:=decide (56320<=x)&&decide (x<=57343)
def Akb(x:Int)(l:Aj):PR Int:=
 match BK 4 0 l with
 |(some y,r)=>if Aan y=true then (some (65536+(x-55296)*1024+(y-56320)),r) else (none,r)
 |(none,r)=>(none,r)
def Atk:Aj->Bool
 |92::117::_=>true
 |_=>false
def Uz(l:Aj):PR Int:=
 match BK 4 0 l with
 |(none,r)=>(none,r)
 |(some x,r)=>if Aan x=true then (none,r) else if x<55296\/56319<x then (some x,r) else if Atk r=true then Akb x (r.drop 2) else (none,r)
def CU(c:Int):Option Int:=if c=34\/c=92\/c=47 then some c else if c=98 then some 8 else if c=102 then some 12 else if c=110 then some 10 else if c=114 then some 13 else if c=116 then some 9 else none
def Sx:Aj->PR Int
 |[]=>(none,[])
 |c::r=>if c=117 then Uz r else match CU c with
  |some x=>(some x,r)
  |none=>(none,c::r)
def L7:Nat->Aj->Aj->PR Aj
  |0,_,l=>(none,l)
  |_+1,_,[]=>(none,[])
  |n+1,out,c::r=>if c<32 then (none,c::r) else if c=34 then (some out,r) else if c=92 then
      (match Sx r with
       |(some x,r')=>L7 n (out++Lib.encodeRuneZ x) r'
       |(none,r')=>(none,r'))
    else L7 n (out++[c]) r
def Gb:Aj->PR Aj
 |[]=>(none,[])
 |c::r=>if c=34 then L7 (r.length+1) [] r else (none,c::r)
def GF(l:Aj):Option (Aj × Aj):=match Gb l with|(some s,r)=>some (s,r)|_=>none
def dgS(c:Int):Bool:=decide (48<=c)&&decide (c<=57)
def Ok:Aj->Aj
 |[]=>[]
 |c::r=>if dgS c=true then Ok r else c::r
def I5:Aj->Option Aj
 |[]=>none
 |c::r=>if dgS c=true then some (Ok r) else none
def Ast(c:Int):Aj->Aj
 |[]=>[]
 |d::r=>if d=c then r else d::r
def OA:Aj->Option Aj
 |[]=>some []
 |c::r=>if c=101\/c=69 then (match r with
   |43::r'=>I5 r'
   |r=>I5 (Ast 45 r)) else some (c::r)
def VJ:Aj->Option Aj
 |[]=>some []
 |c::r=>if c=46 then (I5 r).bind OA else OA (c::r)
def Axc:Aj->Option Aj
 |[]=>none
 |c::r=>if c=48 then some r else I5 (c::r)
def Aa9(l:Aj):Option Aj:=(Axc (Ast 45 l)).bind VJ
abbrev JV:=Int × Aj × Bool
abbrev JR(α:Type):=Except Int α
def ZQ(V:Aj->JR (JV × Aj)):Nat->Aj->JR Aj
 |0,_=>.error 2
 |n+1,l=>match V l with
  |.error e=>.error e
  |.ok (_,r)=>match Bh r with
   |93::r'=>.ok r'
   |44::r'=>ZQ V n (Bh r')
   |_=>.error 2
def Alz(V:Aj->JR (JV × Aj))(l:Aj):JR Aj:=
 match Bh l with
 |93::r=>.ok r
 |l'=>ZQ V (l'.length+1) l'
def A1n(V:Aj->JR (JV × Aj))(dup:Aj->Bool)(l:Aj):JR ((Aj × JV) × Aj):=
 match GF l with
 |none=>.error 2
 |some (nm,r)=>if dup nm=true then .error 10 else
  match Bh r with
  |58::r'=>(match V (Bh r') with
   |.error e=>.error e
   |.ok (v,r'')=>.ok ((nm,v),r''))
  |_=>.error 2
def X8(V:Aj->JR (JV × Aj))(kp:Bool):Nat->List (Aj × JV)->Aj->JR (List (Aj × JV) × Aj)
 |0,_,_=>.error 2
 |n+1,ms,l=>match A1n V (fun nm=>kp&&ms.any fun m=>m.1==nm) l with
  |.error e=>.error e
  |.ok (m,r)=>match Bh r with
   |125::r'=>.ok (ms++[m],r')
   |44::r'=>X8 V kp n (ms++[m]) (Bh r')
   |_=>.error 2
def GL(V:Aj->JR (JV × Aj))(kp:Bool)(l:Aj):JR (List (Aj × JV) × Aj):=
 match Bh l with
 |125::r=>.ok ([],r)
 |l'=>X8 V kp (l'.length+1) [] l'
def A8(w l:Aj):Option Aj:=if w.isPrefixOf l=true then some (l.drop w.length) else none
def G1:Nat->Aj->JR (JV × Aj)
 |k,l=>match l with
  |123::r=>(match k with
   |0=>.error 5
   |k+1=>(match GL (G1 k) false r with
    |.error e=>.error e
    |.ok (_,r')=>.ok ((6,[],false),r')))
  |91::r=>(match k with
   |0=>.error 5
   |k+1=>(match Alz (G1 k) r with
    |.error e=>.error e
    |.ok r'=>.ok ((5,[],false),r')))
  |34::r=>(match GF (34::r) with
   |none=>.error 2
   |some (s,r')=>.ok ((4,s,false),r'))
  |l=>match A8 [116,114,117,101] l with
   |some r=>.ok ((2,[],true),r)
   |none=>match A8 [102,97,108,115,101] l with
    |some r=>.ok ((2,[],false),r)
    |none=>match A8 [110,117,108,108] l with
     |some r=>.ok ((1,[],false),r)
     |none=>match Aa9 l with
      |some r=>.ok ((3,[],false),r)
      |none=>.error 2
def Ac4(k:Nat)(l:Aj):JR (List (Aj × JV)):=
 match Bh l with
 |123::r=>(match GL (G1 k) true r with
  |.error e=>.error e
  |.ok (ms,r')=>if Bh r'=[] then .ok ms else .error 2)
 |_=>.error 2
structure En where
 k:Int
 na:Nat
 an:Ae
 ns:Nat
 st:Ae
def Vw:Ae->Option (List En)
 |[]=>some []
 |.sc (.int .u64 k) :: .lst false 3 na an :: .lst false 2 ns st::r=>bif Nat.beq an.length (na*3)&&Nat.beq st.length (ns*2)&&Nat.ble na 1000&&Nat.ble ns 1000 then (Vw r).map (⟨k,na,an,ns,st⟩ :: ·) else none
 |_=>none
def Ql:Ae->Option (List (Int × Int))
 |[]=>some []
 |.sc (.int .i64 k) :: .sc (.int .i64 t)::r=>(Ql r).map ((k,t) :: ·)
 |_=>none
def Al6(model:Int)(es:List En):Ae:=match es.find? fun e=>e.k==model with|some e=>e.st|none=>[]
def Zx(now:Int)(l:List (Int × Int)):Int:=match l.reverse.find? fun p=>decide (p.2<=now) with|some p=>p.1|none=>0
def Ajw(args:Ae):Option A4:=
  match args with
  |[.agg [.sc (.int .i64 _),.sc (.int .i64 _),.sc (.int .i64 _),.lst false 3 n c,.sc (.int .i64 _),.lst false 1 _ _,.lst false 1 _ _],.sc (.int .u64 model),.sc (.int .i64 now)]=>
    bif Nat.beq c.length (n*3)&&Nat.ble n 1000 then
      (match Vw c with
       |some es=>(match Ql (Al6 model es) with|some l=>some ⟨[Aw (Zx now l)],[]⟩|none=>none)
       |none=>none)
    else none
  |_=>none
def Arq(args:Ae):Option A4:=
  match args with
  |[.pbox [.sc (.string t),.sc (.int .i64 p)]]=>bif decide (0<=p)&&decide (p<=t.size)&&Nat.ble t.size 1000000 then
      (match Gb ((B0 t).drop p.toNat) with
       |(some s,r)=>some ⟨[Bk (Ab s),Cz true],[[Bk t,Aw (t.size-r.length:Int)]]⟩
       |(none,r)=>some ⟨[Bk ⟨#[]⟩,Cz false],[[Bk t,Aw (t.size-r.length:Int)]]⟩) else none
  |_=>none
def A03(args:Ae):Option A4:=
 match args with
 |[.sc (.string s),.sc (.int .u8 c)]=>some ⟨[Aw (Lib.indexByte s.data.toList c.toNat.toUInt8)],[]⟩
 |_=>none
def A4b(args:Ae):Option A4:=
 match args with
 |[.sc (.string s),.sc (.string p)]=>bif Nat.beq p.size 1 then some ⟨[Aw (Lib.countByte s.data.toList p[0]!)],[]⟩ else none
 |_=>none
def Aet(args:Ae):Option A4:=
 match args with
 |[.sc (.string s),.sc (.string p)]=>bif Nat.ble p.size 1000&&p.data.toList.all (fun b=>decide (b.toNat<128))&&decide (s.size<=1000000000) then some ⟨[Bk ⟨(Lib.trimS s.data.toList p.data.toList).toArray⟩],[]⟩ else none
 |_=>none
def Aqz(f:FuncId):Option (Ae->Option A4):=
 bif Nat.beq f 91 then some Aif else
 bif Nat.beq f 216 then some PQ else
 bif Nat.beq f 38 then some Ajw else
 bif Nat.beq f 155 then some A03 else
 bif Nat.beq f 209 then some A4b else
 bif Nat.beq f 168 then some Aet else
 bif Nat.beq f 139 then some Arq else
 bif Nat.beq f 1000000 then some (fun _=>none) else none
def Ajd:B2:=[
 28,
 104,
 105,
 9,
 5,
 57]
def UD(p:FuncId->Option (Ae->Option A4))(f:FuncId):Option (Ae->Option A4):=bif Ajd.any (Nat.beq f) then p f else Aqz f
abbrev CP(p:FuncId->Option (Ae->Option A4)):G3:=CX (UD p)
def pN:FuncId->Option (Ae->Option A4):=fun _=>none
abbrev C0:G3:=CP pN
abbrev xs0:=UD pN
section
variable {xs:FuncId->Option (Ae->Option A4)}(fu d:Nat)(call:Aq)
theorem X4(Z:Nat)(Y:Ae):Pn (CX xs) fu d 100 [As 3 Z Y] fun call=>(fun c:Option A4=>Ay (decide (0<Z)) c (Wt (Bg [As 3 0 []]) c)) (Ar (decide (Y.length=Z*3)&&decide ((0+Z)*32<=1099511627776)&&decide (0+Z<=1099511627776))<|Aa (0+Z) fun a=>Aa ([]++Y) fun b=>Ar (decide (0+a*3<=b.length))<|Bg [As 3 a (List.take (a*3) (b.drop 0))]):=by show _=_;kernel_rfl
theorem Xq(Z:Nat)(Y:Ae):Pn (CX xs) fu d 101 [As 2 Z Y] fun call=>(fun c:Option A4=>Ay (decide (0<Z)) c (Wt (Bg [As 2 0 []]) c)) (Ar (decide (Y.length=Z*2)&&decide ((0+Z)*16<=1099511627776)&&decide (0+Z<=1099511627776))<|Aa (0+Z) fun a=>Aa ([]++Y) fun b=>Ar (decide (0+a*2<=b.length))<|Bg [As 2 a (List.take (a*2) (b.drop 0))]):=by show _=_;kernel_rfl
theorem Zy(Z:Int)(Y:Nat)(X:Ae)(W:Nat)(V:Ae):Pn (CX xs) fu d 67 [.agg [Ah Z,As 3 Y X,As 2 W V]] fun call=>Dv (call 100 [As 3 Y X]) fun a b=>Vn 3 a fun a c e=>Ao b<|Dv (call 101 [As 2 W V]) fun a b=>Vn 2 a fun a f g=>Ao b<|Bg [.agg [Ah Z,As 3 c e,As 2 f g]]:=by show _=_;kernel_rfl
def Hy(Z Y X:Int)(W:Nat)(V:Ae)(U:Int)(T:Nat)(S:Ae)(Q:Nat)(P:Ae)(O:Int)(N:Nat)(M:Int)(L:Nat)(K:Ae)(J I H:Int)(G E:Nat)(D B:Ae):Option A4:=K0 fu call 35 Tryz.f35 [.agg [Z,Y,X,As 3 W V,U,As 1 T S,As 1 Q P],Ah O] [.r,.l,.r,.l] N ⟨lk [(1,Ah M),(4,.ptr 4 0),(9,As 3 L K),(10,J),(11,I)],Fx [(4,.st [Ah H,.view 50 3 0 G,.view 73 2 0 E]),(50,.ar false D),(73,.ar false B)]⟩
theorem Pj(U T S:Int)(Q:Nat)(P:Ae)(O:Int)(N:Nat)(M:Ae)(L:Nat)(K:Ae)(J:Int)(I:Nat)(X:Int)(W:Nat)(Y:Ae)(V Z H:Int)(G E:Nat)(D B:Ae):Hy fu call U T S Q P O N M L K J (I+1) X W Y V Z H G E D B=(Ay (decide (Z<V)) (Ar (decide (0<=Z)&&decide (Z<(↑W:Int)))<|Ba .u64 (Y.getD (Z.toNat*3) .top) fun a=>Vn 3 (Y.getD (Z.toNat*3+1) .top) fun b c e=>Vn 2 (Y.getD (Z.toNat*3+1+1) .top) fun b f g=>Ay (a==X) (Dv (call 67 [.agg [Ah a,As 3 c e,As 2 f g]]) fun a b=>Ef a fun a=>Do .u64 a fun a c=>Wv 3 c fun c e f=>Wv 2 f fun f g h=>Ao h<|Ao b<|Bg [.agg [Ah a,As 3 c e,As 2 f g],true]) (Aa (wrap .i64 (Z+1)) fun a=>Hy fu call U T S Q P O N M L K J I X W Y V a H G E D B)) (Bg [.agg [Ah 0,As 3 0 [],As 2 0 []],false])):=by kernel_rfl
theorem HL(W V U:Int)(Z:Nat)(Y:Ae)(T:Int)(S:Nat)(Q:Ae)(P:Nat)(O:Ae)(X:Int):Pn (CX xs) fu d 35 [.agg [W,V,U,As 3 Z Y,T,As 1 S Q,As 1 P O],Ah X] fun call=>Hy fu call W V U Z Y T S Q P O X fu X Z Y (↑Z:Int) 0 0 0 0 ([]) ([]):=by show _=_;kernel_rfl
end
section
variable {xs:FuncId->Option (Ae->Option A4)}(fu d:Nat)(call:Aq)
theorem TZ(Z:Nat)(Y:Ae):Pn (CX xs) fu d 62 [As 1 Z Y] fun call=>(fun c:Option A4=>Ay (decide (0<Z)) c (Wt (Bg [.own 1 0 []]) c)) (Ar (decide (Y.length=Z*1)&&decide ((0+Z)*1<=1099511627776)&&decide (0+Z<=1099511627776))<|Aa (0+Z) fun a=>Aa ([]++Y) fun b=>Ar (decide (a*1<=b.length))<|Bg [.own 1 a (b.take (a*1))]):=by show _=_;kernel_rfl
theorem TO(X:Nat)(Z:Ae)(W:Nat)(Y:Ae):Pn (CX xs) fu d 32 [As 1 X Z,As 1 W Y] fun call=>Ar (decide (Z.length=X))<|Dj (bytesOf Z) fun a=>Ar (decide (Y.length=W))<|Dj (bytesOf Y) fun b=>Bg [Cz (Array.toList (ByteArray.data (ByteArray.mk (List.toArray a)))==Array.toList (ByteArray.data (ByteArray.mk (List.toArray b))))]:=by show _=_;kernel_rfl
end
section
open Go.RowKit
def RU(p:PV)(u:Value):Prop:=p=.sc u\/∃vs:List Value,p=.agg (vs.map .sc)/\u=.agg ⟨vs⟩
theorem AD{w:World}{A:Nat->Prop}{own:Bt}:∀{vs us:List Value}{j:Nat},F0 w A own j (vs.map .sc) us->us=vs
 |[],[],_,_=>rfl
 |[],_::_,_,h=>h.elim
 |_::_,[],_,h=>h.elim
 |v::vs,u::us,j,h=>by
  have h1:Au w A (.sc v) u:=h.1;rw[h1.val,AD h.2]
theorem AC{w:World}{A:Nat->Prop}{own:Bt}:∀{vs:List Value}{j:Nat},F0 w A own j (vs.map .sc) vs
 |[],_=>trivial
 |v::vs,j=>⟨show Au w A (.sc v) v from .sc v,AC⟩
theorem RT{w:World}{A:Nat->Prop}{own:Bt}{z:Nat}:∀{vals:Ae}{us us':List Value}{j:Nat},Bj RU vals us->XI w A own z j vals us'->us'=us
 |[],[],[],_,_,_=>rfl
 |[],[],_::_,_,_,h=>h.elim
 |[],_::_,_,_,h,_=>h.elim
 |_::_,[],_,_,h,_=>h.elim
 |_::_,_::_,[],_,_,h=>h.elim
 |p::ps,u::us,u'::us',j,hs,h=>by
  rw[RT hs.2 h.2]
  congr 1
  rcases hs.1 with rfl|⟨vs,rfl,rfl⟩
  ·exact Au.val (show Au w A (.sc u) u' from h.1)
  ·obtain⟨vs',rfl,h2⟩:=h.1;rw[AD h2]
structure F1(w w':World)(b o n:Nat):Prop where
 os:w'.os=w.os
 tape:w'.tape=w.tape
 output:w'.output=w.output
 size:w.heap.size<=w'.heap.size
 grow:Io w w' b
 other:∀k,k<w.heap.size->k≠b->w'.heap[k]?=w.heap[k]?
 cells:∀j,(j<o\/o+n<=j)->w'.cell? ⟨b,j,none⟩=w.cell? ⟨b,j,none⟩
 frz:∀j,(j<o\/o+n<=j)->w'.frozen? ⟨b,j,none⟩=w.frozen? ⟨b,j,none⟩
def bt1(b o:Nat):HW:=fun i j=>match i,j with|0,0=>some (b,o)|_,_=>none
theorem Ash{b o k:Nat}(h:BtX (bt1 b o) k):k=b:=by
 obtain⟨i,j,o',h⟩:=h;unfold bt1 at h;split at h
 ·cases h;rfl
 ·cases h
theorem FP{w:World}{A:Nat->Prop}{bt:HW}:∀{i:Nat}{ps:Ae}{us:List Value},Bj RU ps us->O4 w A bt i ps us
 |_,[],[],_=>trivial
 |_,[],_::_,h=>h.elim
 |_,_::_,[],h=>h.elim
 |i,p::ps,u::us,h=>by
  refine⟨?_,FP h.2⟩;rcases h.1 with rfl|⟨vs,rfl,rfl⟩
  ·exact⟨.inl trivial,show Au w A (.sc u) u from .sc u⟩
  ·refine⟨vs,rfl,fun p hp=>?_,AC⟩;obtain⟨v,_,rfl⟩:=List.mem_map.1 hp;exact .inl trivial
theorem UZ{G:CK}{P:Program}{f:FuncId}{vs vs':List Value}{args vals:Ae}{us rs:List Value}(hs:C6 G P f (.pbox (vs.map .sc)::args) ⟨vals,[vs'.map .sc]⟩)(ha:Bj RU args us)(hr:Bj RU vals rs){w:World}{b o:Nat}(hG:G.ok w)(hGl:∀k,G.bl k->k<w.heap.size/\k≠b)(hb:b<w.heap.size)(hc:∀j v,vs[j]?=some v->w.cell? ⟨b,o+j,none⟩=some v)(hf:∀j,j<vs.length->w.frozen? ⟨b,o+j,none⟩=false):
  Calls P f (.pointer (some ⟨b,o,none⟩)::us).toArray w fun e w'=>e=.returned (J9 rs)/\vs'.length=vs.length/\(∀j v,vs'[j]?=some v->w'.cell? ⟨b,o+j,none⟩=some v)/\(∀j,j<vs.length->w'.frozen? ⟨b,o+j,none⟩=false)/\F1 w w' b o vs.length:=by
 have hi:Ins w (fun _=>False) (bt1 b o) (.pbox (vs.map .sc)::args) (.pointer (some ⟨b,o,none⟩)::us):=by
  refine⟨fun _ h=>h.elim,fun _ h=>h.elim,fun k h=>by rw[Ash h];exact hb,fun i j i' j' k x x' h h'=>?_,fun i q h=>?_,?_,FP ha⟩
  ·unfold bt1 at h h';split at h
   ·split at h'
    ·exact⟨rfl,rfl⟩
    ·cases h'
   ·cases h
  ·unfold bt1 at h;split at h
   ·exact⟨_,rfl,rfl⟩
   ·cases h
  ·refine⟨b,o,rfl,rfl,fun p hp=>?_,vs,AC,hc,fun k hk=>hf k (by simpa using hk)⟩;obtain⟨v,_,rfl⟩:=List.mem_map.1 hp;exact .inl trivial
 have Eh:∀i,∀q,(bt1 b o) i 0=some q->i=0/\q=(b,o):=by
  intro i q h;unfold bt1 at h;split at h
  ·cases h;exact⟨rfl,rfl⟩
  ·cases h
 refine (hs.2 w _ _ _ hi hG (fun k hk=>⟨(hGl k hk).1,fun hx=>(hGl k hk).2 (Ash hx)⟩)).mono ?_
 rintro e w' ⟨ws,own,rfl,out⟩
 have hv:=RT hr out.vals;subst hv;have ho:=out.outs;obtain⟨⟨b',o',h1,h2,zs,h3,h4,h5⟩,_⟩:=(show (∃b' o',(bt1 b o) 0 0=some (b',o')/\(vs'.map PV.sc).length=(vs.map PV.sc).length/\Ao6 w' (QQ (bt1 b o) own (fun _=>False)) own (Pq vals) b' o' (vs'.map .sc))/\_ from ho)
 cases h1;have hz:=AD h3;subst hz;simp only[List.length_map] at h2 h5
 have hL:∀k j,k<w.heap.size->(k≠b\/j<o\/o+vs.length<=j)->¬PY (bt1 b o) (.pbox (vs.map .sc)::args) k j:=by
  rintro k j hk Hp ⟨i,p,hp,hq⟩
  rcases hq with⟨x,y,hq,_⟩|⟨y,ps,hq,hy,Ot⟩
  ·unfold bt1 at hq;split at hq
   ·rename_i h;cases h
   ·cases hq
  ·obtain⟨rfl,h⟩:=Eh i _ hq;cases h;have:p=.pbox (vs.map .sc):=by simpa using hp.symm
   subst this;rcases Ot with⟨e,Cq⟩|e
   ·injection e with e;subst e;rw[List.length_map] at Cq;rcases Hp with h|h|h
    ·exact h rfl
    ·omega
    ·omega
   ·cases e
 refine⟨rfl,h2,h4,fun j hj=>h5 j (by omega),out.os,out.tape,out.output,out.ext.size,out.ext.bs b hb,fun k hk Hp=>out.ext.keep k hk fun hx=>Hp (Ash hx),fun j hj=>(out.rng b j hb (hL b j hb (.inr hj))).1,fun j hj=>(out.rng b j hb (hL b j hb (.inr hj))).2⟩
end
section
open Go.RowKit
theorem Q4{w w':World}{Y:Nat->Prop}{bt:HW}{args:Ae}{v:Value}(hb:Below w.heap.size w w')(ho:CM w' (QQ bt (fun _=>none) Y) (fun _=>none) bt (Pq [.sc v]) 0 args []):
  Out w w' Y bt args (fun _=>none) ⟨[.sc v],[]⟩ [v] where
 os:=hb.os
 tape:=hb.tape
 output:=hb.output
 ext:=⟨hb.size,fun b h _=>hb.block b h,fun b h=>Io.same (hb.block b h)⟩
 rng:=fun b j h _=>⟨by unfold World.cell?;simp only[hb.block b h],by unfold World.frozen?;simp only[hb.block b h]⟩
 vals:=⟨Au.sc v,trivial⟩
 outs:=ho
 fresh:=fun j b o h=>by cases h
 inj:=fun j j' b o o' h=>by cases h
theorem LN{P:Program}{w:World}{A:Nat->Prop}{bt:Bt}{z:Bool}{n:Nat}{c:Ae}{u:Value}{l:List UInt8}(h:Aff w A bt (.lst z 1 n c) u)(hl:bytesOf c=some l)(hn:c.length=n):
  (Extern.Bytes.bytesOf u).run P w=.ok ⟨l.toArray⟩ w:=by
 obtain⟨ns,rfl,rfl⟩:=Yg hl;have ht:Au w A (.lst z 1 n (ns.map fun n=>.sc (.int .u8 n))) u:=h.2;generalize hc:(ns.map fun n=>PV.sc (.int .u8 n))=c at ht;cases ht with
 |lnil=>
  have:ns=[]:=by simpa using hc
  subst this;rfl
 |lemp=>
  have:ns=[]:=by simpa using hc
  subst this;rfl
 |lst _ _ _ a cap f hs hb hA hn' hcell h1 hr=>
  subst hc;rw[List.length_map] at hn;subst hn;show (Extern.Bytes.loadBytes a ns.length .empty).run P w=_;rw[Lib.run_loadBytesX w ns a .empty fun j x hj=>?_]
  ·simp[Lib.bytesOf,Nat.toUInt8]
  ·have e:(ns.map fun n=>PV.sc (.int .u8 n))[j]?=some (.sc (.int .u8 x)):=by rw[List.getElem?_map,hj];rfl
   rw[hcell j _ e,(hr j _ e).val]
theorem ZC(u1 u2:Value)(a b:List UInt8)(w:World)(h1:(Extern.Bytes.bytesOf u1).run prog w=.ok ⟨a.toArray⟩ w)(h2:(Extern.Bytes.bytesOf u2).run prog w=.ok ⟨b.toArray⟩ w):
  Calls prog 216 #[u1,u2] w fun e w'=>e=.returned (.int .i64 (Lib.compareBytes a b))/\w'=w:=by
 have hr:(Extern.BytealgCompare.compare #[u1,u2]).run prog w=.ok (.int .i64 (Lib.compareBytes a b)) w:=by
  change Sem.run prog (do pure (goInt (Extern.BytealgCompare.cmp (<-Extern.Bytes.bytesOf u1) (<-Extern.Bytes.bytesOf u2)))) w=_;simp only[Sem.run_bind,Sem.run_pure,Result.andThen,h1,h2];rw[Lib.cmp_eq];rfl
 go_enter Tryz.func216,Tryz.ntmps216
 go_wp2
 rw[run_callFunc_extern Tryz.func224 (by kernel_rfl) (by kernel_rfl) (by kernel_rfl) (e:=Extern.BytealgCompare.compare) (by kernel_rfl),hr];simp only[Result.andThen];rw[Oper.upon_value]
 go_wp2
 go_ret
 exact⟨rfl,rfl⟩
theorem TL(G:CK)(args:Ae)(res:A4)(h:PQ args=some res):C6 G prog 216 args res:=by
 refine⟨⟨_,Tryz.func216,by kernel_rfl⟩,fun w Y bt us hi _ _=>?_⟩;unfold PQ at h;split at h
 rotate_left
 ·cases h
 rename_i z n c z' m c';cases hq:(Nat.beq c.length n&&Nat.beq c'.length m)
 ·rw[hq] at h;cases h
 rw[hq] at h;simp only[E0] at hq;have hn:=Dc hq.1;have hm:=Dc hq.2;simp only[cond_true] at h;split at h
 rotate_left
 ·cases h
 rename_i a b ha hb;cases h;have ps:=hi.args
 match us,ps with
 |[u1,u2],ps=>
  refine (ZC u1 u2 a b w (LN ps.1 ha hn) (LN ps.2.1 hb hm)).mono ?_
  rintro e w' ⟨rfl,rfl⟩
  exact⟨[.int .i64 (Lib.compareBytes a b)],fun _=>none,rfl,Q4 (Below.refl _ _) rfl⟩
 |[],ps=>exact ps.elim
 |[_],ps=>exact ps.2.elim
 |_::_::_::_,ps=>exact ps.2.2.elim
end
def prC(p:Int × Int):Ae:=[Aw p.1,Aw p.2]
def CE(l:List (Int × Int)):Ae:=l.flatMap prC
theorem Aa4(p:Int × Int):(prC p).length=2:=rfl
theorem UG(l:List (Int × Int)):(CE l).length=l.length*2:=RF Aa4 l
theorem Auo{l:List (Int × Int)}{i:Nat}{p:Int × Int}(h:l[i]?=some p):(CE l).getD (i*2) .top=Aw p.1/\(CE l).getD (i*2+1) .top=Aw p.2:=
 ⟨OY Aa4 h (j:=0) (by omega),OY Aa4 h (j:=1) (by omega)⟩
def En.cells(e:En):Ae:=[Ah e.k,.lst false 3 e.na e.an,.lst false 2 e.ns e.st]
theorem En.cells_len(e:En):e.cells.length=3:=rfl
def Wy(l:List En):Ae:=l.flatMap En.cells
def En.fit(e:En):Prop:=e.an.length=e.na*3/\e.st.length=e.ns*2/\e.na<=1000/\e.ns<=1000
theorem Auc{l:List En}{i:Nat}{e:En}(h:l[i]?=some e):(Wy l).getD (i*3) .top=Ah e.k/\(Wy l).getD (i*3+1) .top=.lst false 3 e.na e.an/\(Wy l).getD (i*3+2) .top=.lst false 2 e.ns e.st:=
 ⟨OY En.cells_len h (j:=0) (by omega),OY En.cells_len h (j:=1) (by omega),OY En.cells_len h (j:=2) (by omega)⟩
theorem Ae3{c:Ae}{es:List En}(h:Vw c=some es):c=Wy es/\∀e∈es,e.fit:=by
 fun_induction Vw c generalizing es with
 |case1=>cases h;exact⟨rfl,fun e he=>by cases he⟩
 |case2 k na an ns st r hb ih=>
  simp only[E0] at hb;obtain⟨⟨⟨b1,b2⟩,b3⟩,b4⟩:=hb;cases hr:Vw r with
  |none=>rw[hr] at h;cases h
  |some es'=>
   rw[hr] at h;cases h;obtain⟨h1,h2⟩:=ih hr;refine⟨by rw[h1];rfl,fun e he=>?_⟩
   rcases List.mem_cons.1 he with rfl|he
   ·exact⟨Dc b1,Dc b2,Pf b3,Pf b4⟩
   ·exact h2 e he
 |case3=>cases h
 |case4=>cases h
theorem YM{st:Ae}{l:List (Int × Int)}(h:Ql st=some l):st=CE l:=by
 fun_induction Ql st generalizing l with
 |case1=>cases h;rfl
 |case2 k t r ih=>
  cases hr:Ql r with
  |none=>rw[hr] at h;cases h
  |some l'=>
   rw[hr] at h;cases h;rw[ih hr];rfl
 |case3=>cases h
section
variable {xs:FuncId->Option (Ae->Option A4)}{fu d:Nat}
theorem A1f{n:Nat}{c:Ae}(h:c.length=n*3)(hn:n<=1000):Ac (CX xs) prog fu (d+1) 100 [.lst false 3 n c]=some ⟨[.lst false 3 n c],[]⟩:=by
 refine (X4 fu d n c).trans ?_;have t:List.take (n*3) c=c:=H5 (by omega);by_cases h0:0<n
 ·simp(disch:=omega)only[A5,A6,NL,Ip,Ma,h,t]
 ·obtain rfl:n=0:=by omega
  have:c=[]:=List.length_eq_zero_iff.1 (by omega);subst this;simp(disch:=omega)only[A5,A6,NL,Ip,Ma,NS,Nat.zero_mul,List.take_nil]
theorem A2w{n:Nat}{c:Ae}(h:c.length=n*2)(hn:n<=1000):Ac (CX xs) prog fu (d+1) 101 [.lst false 2 n c]=some ⟨[.lst false 2 n c],[]⟩:=by
 refine (Xq fu d n c).trans ?_;have t:List.take (n*2) c=c:=H5 (by omega);by_cases h0:0<n
 ·simp(disch:=omega)only[A5,A6,NL,Ip,Ma,h,t]
 ·obtain rfl:n=0:=by omega
  have:c=[]:=List.length_eq_zero_iff.1 (by omega);subst this;simp(disch:=omega)only[A5,A6,NL,Ip,Ma,NS,Nat.zero_mul,List.take_nil]
theorem A38{e:En}(h:e.fit):Ac (CX xs) prog fu (d+2) 67 [.agg e.cells]=some ⟨[.agg e.cells],[]⟩:=by refine (Zy fu (d+1) e.k e.na e.an e.ns e.st).trans ?_;have a:=A1f (xs:=xs) (fu:=fu) (d:=d) h.1 h.2.2.1;have s:=A2w (xs:=xs) (fu:=fu) (d:=d) h.2.1 h.2.2.2;simp only[A5,A6,a,s];rfl
def en0:En:=⟨0,0,[],0,[]⟩
def Th(model:Int)(es:List En):En:=(es.find? fun e=>e.k==model).getD en0
theorem Atc(model:Int)(es:List En):(Th model es).st=Al6 model es:=by unfold Th Al6;cases es.find? fun e=>e.k==model<;>rfl
theorem Alv{model:Int}{es:List En}(h:∀e∈es,e.fit):(Th model es).fit:=by
 unfold Th;cases hf:es.find? fun e=>e.k==model with
 |none=>exact⟨rfl,rfl,by decide,by decide⟩
 |some e=>exact h e (List.mem_of_find?_eq_some hf)
theorem Aue{Axe Ah7 Agx Ax1 a1:Int}{Aky Ai3 Ajt:Nat}{Ay4 Ay6 Ayp:Ae}{es:List En}(hn:es.length<=1000)(hf:∀e∈es,e.fit){model:Int}:∀(r:List En)(i nn:Nat),es.drop i=r->r.length<nn ->
  ∃b,Hy fu (Ac (CX xs) prog fu (d+2)) Axe Ah7 Agx Aky Ay4 Ax1 Ai3 Ay6 Ajt Ayp a1 nn model es.length (Wy es) (es.length:Int) (i:Int) 0 0 0 [] []=some ⟨[.agg (Th model r).cells,Cz b],[]⟩
 |_,_,0,_,h=>by omega
 |[],i,nn+1,hr,Gz=>by
  have hi:=drop_nil hr;refine⟨false,?_⟩;rw[Pj];simp(disch:=omega)only[A5,A6];rfl
 |e::r,i,nn+1,hr,Gz=>by
  obtain⟨Cq,h1,h2⟩:=D8 hr;obtain⟨g0,g1,g2⟩:=Auc h1;have g2':(Wy es).getD (i*3+1+1) .top=.lst false 2 e.ns e.st:=g2;rw[Pj];by_cases hk:e.k=model
  ·refine⟨true,?_⟩;have q:(e.k==model)=true:=by simp[hk]
   have cp:=A38 (xs:=xs) (fu:=fu) (d:=d) (hf e (List.mem_of_getElem? h1));have fe:Th model (e::r)=e:=by unfold Th;rw[List.find?_cons_of_pos (by simpa using hk)];rfl
   rw[fe];simp only[En.cells] at cp;simp(disch:=omega)only[A5,A6,Jp,g0,g1,g2',q,cp];rfl
  ·have q:(e.k==model)=false:=by simp[hk]
   have w:wrap .i64 ((i:Int)+1)=((i+1:Nat):Int):=Bq
   obtain⟨b,ih⟩:=Aue (Axe:=Axe) (Ah7:=Ah7) (Agx:=Agx) (Ax1:=Ax1) (a1:=a1) (Aky:=Aky) (Ai3:=Ai3) (Ajt:=Ajt) (Ay4:=Ay4) (Ay6:=Ay6) (Ayp:=Ayp) hn hf (model:=model) r (i+1) nn h2 (by simp only[Po] at Gz;omega)
   have fe:Th model (e::r)=Th model r:=by unfold Th;rw[List.find?_cons_of_neg (by simpa using hk)]
   refine⟨b,?_⟩;rw[fe,<-ih];simp(disch:=omega)only[A5,A6,Jp,g0,g1,g2',q,w]
theorem At2{es:List En}(hn:es.length<=1000)(Bi:1000<fu)(hf:∀e∈es,e.fit)(v i x lf model:Int)(n1 n2:Nat)(c1 c2:Ae):
  ∃b,Ac (CX xs) prog fu (d+3) 35 [.agg [Aw v,Aw i,Aw x,.lst false 3 es.length (Wy es),Aw lf,.lst false 1 n1 c1,.lst false 1 n2 c2],Ah model]=some ⟨[.agg (Th model es).cells,Cz b],[]⟩:=by
 obtain⟨b,h⟩:=Aue (xs:=xs) (fu:=fu) (d:=d) (Axe:=v) (Ah7:=i) (Agx:=x) (Ax1:=lf) (a1:=model) (Aky:=es.length) (Ai3:=n1) (Ajt:=n2) (Ay4:=Wy es) (Ay6:=c1) (Ayp:=c2) hn hf (model:=model) es 0 fu rfl (by omega);exact⟨b,(HL fu (d+2) v i x es.length (Wy es) lf n1 c1 n2 c2 model).trans h⟩
end
section
open Go.RowKit
theorem Amn(G:CK)(args:Ae)(res:A4)(h:A03 args=some res):C6 G prog 155 args res:=by
 refine⟨⟨_,Tryz.func155,by kernel_rfl⟩,fun w Y bt us hi _ _=>?_⟩;unfold A03 at h;split at h
 rotate_left
 ·cases h
 rename_i s c;cases h;have ps:=hi.args
 match us,ps with
 |[u1,u2],ps=>
  obtain⟨⟨_,p1⟩,⟨_,p2⟩,_⟩:=ps;have e1:u1=.string s:=Au.val (show Au w _ (Bk s) u1 from p1);have e2:u2=.int .u8 c:=Au.val (show Au w _ (.sc (.int .u8 c)) u2 from p2);subst e1 e2
  have walk:Calls prog 155 #[.string s,.int .u8 c] w fun e w'=>e=.returned (.int .i64 (Lib.indexByte s.data.toList c.toNat.toUInt8))/\w'=w:=by
   go_enter Tryz.func155,Tryz.ntmps155
   go_wp2
   rw[run_callFunc_extern Tryz.func178 (by kernel_rfl) (by kernel_rfl) (by kernel_rfl) (e:=Extern.BytealgIndexByte.indexByte) (by kernel_rfl),Lib.run_indexByteString];simp only[Result.andThen];rw[Oper.upon_value]
   go_wp2
   go_ret
   exact⟨rfl,rfl⟩
  refine walk.mono ?_
  rintro e w' ⟨rfl,rfl⟩
  exact⟨[.int .i64 (Lib.indexByte s.data.toList c.toNat.toUInt8)],fun _=>none,rfl,Q4 (Below.refl _ _) rfl⟩
 |[],ps=>exact ps.elim
 |[_],ps=>exact ps.2.elim
 |_::_::_::_,ps=>exact ps.2.2.elim
theorem Arv{p:ByteArray}(h:p.size=1):p=⟨#[p[0]!]⟩:=by
 obtain⟨⟨l⟩⟩:=p
 match l,h with
 |[x],_=>rfl
theorem An4(G:CK)(args:Ae)(res:A4)(h:A4b args=some res):C6 G prog 209 args res:=by
 refine⟨⟨_,Tryz.func209,by kernel_rfl⟩,fun w Y bt us hi _ _=>?_⟩;unfold A4b at h;split at h
 rotate_left
 ·cases h
 rename_i s p;cases hq:Nat.beq p.size 1
 ·rw[hq] at h;cases h
 rw[hq,cond_true] at h;cases h;have hp:=Arv (Dc hq);generalize (p[0]!)=c at hp ⊢;subst hp;have ps:=hi.args
 match us,ps with
 |[u1,u2],ps=>
  obtain⟨⟨_,p1⟩,⟨_,p2⟩,_⟩:=ps;have e1:u1=.string s:=Au.val (show Au w _ (Bk s) u1 from p1);have e2:u2=.string ⟨#[c]⟩:=Au.val (show Au w _ (Bk ⟨#[c]⟩) u2 from p2);subst e1 e2
  have walk:Calls prog 209 #[.string s,.string ⟨#[c]⟩] w fun e w'=>e=.returned (.int .i64 (Lib.countByte s.data.toList c))/\w'=w:=by
   go_enter Tryz.func209,Tryz.ntmps209
   go_wp2
   rw[run_callFunc_extern Tryz.func220 (by kernel_rfl) (by kernel_rfl) (by kernel_rfl) (e:=Extern.BytealgCount.count) (by kernel_rfl),Lib.run_countString];simp only[Result.andThen];rw[Oper.upon_value]
   go_wp2
   go_ret
   exact⟨rfl,rfl⟩
  refine walk.mono ?_
  rintro e w' ⟨rfl,rfl⟩
  exact⟨[.int .i64 (Lib.countByte s.data.toList c)],fun _=>none,rfl,Q4 (Below.refl _ _) rfl⟩
 |[],ps=>exact ps.elim
 |[_],ps=>exact ps.2.elim
 |_::_::_::_,ps=>exact ps.2.2.elim
end
theorem Bfn(a b:Nat)(ha:a<4294967296)(hb:b<4294967296):bits .or .u32 ((a:Nat):Int) ((b:Nat):Int)=((a ||| b:Nat):Int):=by
 have hx:a ||| b<2 ^ 32:=Nat.or_lt_two_pow (by omega) (by omega)
 have h1:(BitVec.ofInt 32 (a:Int)).toNat=a:=by
  rw[BitVec.ofInt_natCast,BitVec.toNat_ofNat];exact Nat.mod_eq_of_lt (by omega)
 have h2:(BitVec.ofInt 32 (b:Int)).toNat=b:=by
  rw[BitVec.ofInt_natCast,BitVec.toNat_ofNat];exact Nat.mod_eq_of_lt (by omega)
 show IntKind.u32.wrap ((BitVec.ofInt 32 (a:Int) ||| BitVec.ofInt 32 (b:Int)).toNat:Int)=_;rw[BitVec.toNat_or,h1,h2];simp only[wrap,IntKind.bits,IntKind.signed,SU,Bool.false_eq_true,if_false];omega
def GV(a b c:Int):Aj:=[N4 (a / 4),N4 (a % 4*16+b / 16),N4 (b % 16*4+c / 64),N4 (c % 64)]
def Aal:ByteArray:=⟨#[65,66,67,68,69,70,71,72,73,74,75,76,77,78,79,80,81,82,83,84,85,86,87,88,89,90,97,98,99,100,101,102,103,104,105,106,107,108,109,110,111,112,113,114,115,116,117,118,119,120,121,122,48,49,50,51,52,53,54,55,56,57,45,95]⟩
theorem Re{a b:Aj}(ha:Cm a)(hb:Cm b):Cm (a++b):=by
 intro x hx;rcases Bx.1 hx with h|h
 ·exact ha x h
 ·exact hb x h
section
open Go.Shelf Go.RowKit Go.Lib
def Abu:Go.Shelf.Ren:=⟨fun|119=>226|120=>223|137=>137|151=>213|152=>222|160=>168|167=>160|168=>159|169=>157|197=>212|217=>155|224=>206|225=>205|227=>188|228=>211|231=>186|232=>187|233=>189|234=>190|235=>191|236=>192|240=>181|242=>182|260=>221|266=>178|271=>214|276=>203|278=>204|n=>n,fun|0=>0|3=>3|4=>4|5=>5|9=>9|20=>20|21=>21|37=>22|46=>67|51=>226|70=>248|72=>250|75=>255|80=>251|105=>301|116=>283|117=>284|119=>194|124=>287|127=>277|138=>196|139=>197|164=>298|n=>n,fun|3=>0|4=>1|n=>n⟩
theorem Agk:Lays.n167 prog Abu:={
 mixed:=by kernel_rfl
 f167:=Tryz.func160.trans (congrArg some (by kernel_rfl))
 f240:=Tryz.func181.trans (congrArg some (by kernel_rfl))
 f276:=Tryz.func203.trans (congrArg some (by kernel_rfl))
 t0:=Tryz.underlying0
 a0:=Tryz.isAgg0
 z0:=Tryz.sizeOf0
 v0:=Tryz.zeroValue0
 t4:=Tryz.underlying4
 a4:=Tryz.isAgg4
 z4:=Tryz.sizeOf4
 v4:=Tryz.zeroValue4
 t5:=Tryz.underlying5
 a5:=Tryz.isAgg5
 z5:=Tryz.sizeOf5
 v5:=Tryz.zeroValue5
 t9:=Tryz.underlying9
 a9:=Tryz.isAgg9
 z9:=Tryz.sizeOf9
 v9:=Tryz.zeroValue9
 t20:=Tryz.underlying20
 a20:=Tryz.isAgg20
 z20:=Tryz.sizeOf20
 v20:=Tryz.zeroValue20
 t37:=Tryz.underlying22
 a37:=Tryz.isAgg22
 z37:=Tryz.sizeOf22
 v37:=Tryz.zeroValue22
 t70:=Tryz.underlying248
 a70:=Tryz.isAgg248
 z70:=Tryz.sizeOf248
 v70:=Tryz.zeroValue248
 t72:=Tryz.underlying250
 a72:=Tryz.isAgg250
 z72:=Tryz.sizeOf250
 v72:=Tryz.zeroValue250
 t75:=Tryz.underlying255
 a75:=Tryz.isAgg255
 z75:=Tryz.sizeOf255
 v75:=Tryz.zeroValue255
 t164:=Tryz.underlying298
 a164:=Tryz.isAgg298
 z164:=Tryz.sizeOf298
 v164:=Tryz.zeroValue298 }
theorem Ahv:Lays.n168 prog Abu:={
 mixed:=by kernel_rfl
 f168:=Tryz.func159.trans (congrArg some (by kernel_rfl))
 f240:=Tryz.func181.trans (congrArg some (by kernel_rfl))
 f242:=Tryz.func182.trans (congrArg some (by kernel_rfl))
 f276:=Tryz.func203.trans (congrArg some (by kernel_rfl))
 f278:=Tryz.func204.trans (congrArg some (by kernel_rfl))
 t0:=Tryz.underlying0
 a0:=Tryz.isAgg0
 z0:=Tryz.sizeOf0
 v0:=Tryz.zeroValue0
 t3:=Tryz.underlying3
 a3:=Tryz.isAgg3
 z3:=Tryz.sizeOf3
 v3:=Tryz.zeroValue3
 t4:=Tryz.underlying4
 a4:=Tryz.isAgg4
 z4:=Tryz.sizeOf4
 v4:=Tryz.zeroValue4
 t5:=Tryz.underlying5
 a5:=Tryz.isAgg5
 z5:=Tryz.sizeOf5
 v5:=Tryz.zeroValue5
 t9:=Tryz.underlying9
 a9:=Tryz.isAgg9
 z9:=Tryz.sizeOf9
 v9:=Tryz.zeroValue9
 t20:=Tryz.underlying20
 a20:=Tryz.isAgg20
 z20:=Tryz.sizeOf20
 v20:=Tryz.zeroValue20
 t21:=Tryz.underlying21
 a21:=Tryz.isAgg21
 z21:=Tryz.sizeOf21
 v21:=Tryz.zeroValue21
 t37:=Tryz.underlying22
 a37:=Tryz.isAgg22
 z37:=Tryz.sizeOf22
 v37:=Tryz.zeroValue22
 t46:=Tryz.underlying67
 a46:=Tryz.isAgg67
 z46:=Tryz.sizeOf67
 v46:=Tryz.zeroValue67
 t51:=Tryz.underlying226
 a51:=Tryz.isAgg226
 z51:=Tryz.sizeOf226
 v51:=Tryz.zeroValue226
 t70:=Tryz.underlying248
 a70:=Tryz.isAgg248
 z70:=Tryz.sizeOf248
 v70:=Tryz.zeroValue248
 t72:=Tryz.underlying250
 a72:=Tryz.isAgg250
 z72:=Tryz.sizeOf250
 v72:=Tryz.zeroValue250
 t75:=Tryz.underlying255
 a75:=Tryz.isAgg255
 z75:=Tryz.sizeOf255
 v75:=Tryz.zeroValue255
 t164:=Tryz.underlying298
 a164:=Tryz.isAgg298
 z164:=Tryz.sizeOf298
 v164:=Tryz.zeroValue298 }
theorem Ahk:Lays.n169 prog Abu:={
 mixed:=by kernel_rfl
 f169:=Tryz.func157.trans (congrArg some (by kernel_rfl))
 t0:=Tryz.underlying0
 a0:=Tryz.isAgg0
 z0:=Tryz.sizeOf0
 v0:=Tryz.zeroValue0
 t3:=Tryz.underlying3
 a3:=Tryz.isAgg3
 z3:=Tryz.sizeOf3
 v3:=Tryz.zeroValue3
 t9:=Tryz.underlying9
 a9:=Tryz.isAgg9
 z9:=Tryz.sizeOf9
 v9:=Tryz.zeroValue9
 t37:=Tryz.underlying22
 a37:=Tryz.isAgg22
 z37:=Tryz.sizeOf22
 v37:=Tryz.zeroValue22
 t70:=Tryz.underlying248
 a70:=Tryz.isAgg248
 z70:=Tryz.sizeOf248
 v70:=Tryz.zeroValue248
 t72:=Tryz.underlying250
 a72:=Tryz.isAgg250
 z72:=Tryz.sizeOf250
 v72:=Tryz.zeroValue250
 t127:=Tryz.underlying277
 a127:=Tryz.isAgg277
 z127:=Tryz.sizeOf277
 v127:=Tryz.zeroValue277 }
theorem Ah2:Lays.n160 prog Abu:={
 mixed:=by kernel_rfl
 f119:=Tryz.func226.trans (congrArg some (by kernel_rfl))
 f120:=Tryz.func223.trans (congrArg some (by kernel_rfl))
 f137:=Tryz.func137.trans (congrArg some (by kernel_rfl))
 f151:=Tryz.func213.trans (congrArg some (by kernel_rfl))
 f152:=Tryz.func222.trans (congrArg some (by kernel_rfl))
 f160:=Tryz.func168.trans (congrArg some (by kernel_rfl))
 f197:=Tryz.func212.trans (congrArg some (by kernel_rfl))
 f217:=Tryz.func155.trans (congrArg some (by kernel_rfl))
 f224:=Tryz.func206.trans (congrArg some (by kernel_rfl))
 f225:=Tryz.func205.trans (congrArg some (by kernel_rfl))
 f227:=Tryz.func188.trans (congrArg some (by kernel_rfl))
 f228:=Tryz.func211.trans (congrArg some (by kernel_rfl))
 f231:=Tryz.func186.trans (congrArg some (by kernel_rfl))
 f232:=Tryz.func187.trans (congrArg some (by kernel_rfl))
 f233:=Tryz.func189.trans (congrArg some (by kernel_rfl))
 f234:=Tryz.func190.trans (congrArg some (by kernel_rfl))
 f235:=Tryz.func191.trans (congrArg some (by kernel_rfl))
 f236:=Tryz.func192.trans (congrArg some (by kernel_rfl))
 f260:=Tryz.func221.trans (congrArg some (by kernel_rfl))
 f266:=Tryz.func178.trans (congrArg some (by kernel_rfl))
 f271:=Tryz.func214.trans (congrArg some (by kernel_rfl))
 t0:=Tryz.underlying0
 a0:=Tryz.isAgg0
 z0:=Tryz.sizeOf0
 v0:=Tryz.zeroValue0
 t3:=Tryz.underlying3
 a3:=Tryz.isAgg3
 z3:=Tryz.sizeOf3
 v3:=Tryz.zeroValue3
 t4:=Tryz.underlying4
 a4:=Tryz.isAgg4
 z4:=Tryz.sizeOf4
 v4:=Tryz.zeroValue4
 t5:=Tryz.underlying5
 a5:=Tryz.isAgg5
 z5:=Tryz.sizeOf5
 v5:=Tryz.zeroValue5
 t9:=Tryz.underlying9
 a9:=Tryz.isAgg9
 z9:=Tryz.sizeOf9
 v9:=Tryz.zeroValue9
 t21:=Tryz.underlying21
 a21:=Tryz.isAgg21
 z21:=Tryz.sizeOf21
 v21:=Tryz.zeroValue21
 t46:=Tryz.underlying67
 a46:=Tryz.isAgg67
 z46:=Tryz.sizeOf67
 v46:=Tryz.zeroValue67
 t105:=Tryz.underlying301
 a105:=Tryz.isAgg301
 z105:=Tryz.sizeOf301
 v105:=Tryz.zeroValue301
 t116:=Tryz.underlying283
 a116:=Tryz.isAgg283
 z116:=Tryz.sizeOf283
 t117:=Tryz.underlying284
 a117:=Tryz.isAgg284
 z117:=Tryz.sizeOf284
 v117:=Tryz.zeroValue284
 t119:=Tryz.underlying194
 a119:=Tryz.isAgg194
 z119:=Tryz.sizeOf194
 t124:=Tryz.underlying287
 a124:=Tryz.isAgg287
 z124:=Tryz.sizeOf287
 v124:=Tryz.zeroValue287
 t138:=Tryz.underlying196
 a138:=Tryz.isAgg196
 z138:=Tryz.sizeOf196
 v138:=Tryz.zeroValue196
 t139:=Tryz.underlying197
 a139:=Tryz.isAgg197
 z139:=Tryz.sizeOf197
 v139:=Tryz.zeroValue197
 g3:=by kernel_rfl
 g4:=by kernel_rfl }
theorem ZR:Builder.Extra prog Abu:={
 sizeBuilder:=by kernel_rfl
 liesBuilder:=by kernel_rfl
 t5:=Tryz.underlying5
 a5:=Tryz.isAgg5
 z5:=Tryz.sizeOf5
 v5:=Tryz.zeroValue5
 infoByte:=by kernel_rfl
 cellsByte:=by kernel_rfl
 sizeByte:=by kernel_rfl
 neB5:=by decide }
end
section
variable {xs:FuncId->Option (Ae->Option A4)}(fu d:Nat)(call:Aq)
theorem Ve(Y Z:ByteArray):Pn (CX xs) fu d 179 [Y,Z] fun call=>Ay (decide ((↑(ByteArray.size Y):Int)>=(↑(ByteArray.size Z):Int))) (Ar (decide (Int.toNat (↑(ByteArray.size Z):Int)<=ByteArray.size Y))<|Aa (ByteArray.extract Y 0 (Int.toNat (↑(ByteArray.size Z):Int))) fun a=>Bg [Cz (Array.toList (ByteArray.data a)==Array.toList (ByteArray.data Z))]) (Bg [false]):=by show _=_;kernel_rfl
theorem BG(Z Y:ByteArray):Pn (CX xs) fu d 156 [Z,Y] fun call=>Dv (call 179 [Z,Y]) fun a b=>Bm a fun a=>Ao b<|Bg [a]:=by show _=_;kernel_rfl
theorem T6(Y:ByteArray)(Z:Int):Pn (CX xs) fu d 161 [.pbox [Y,Z]] fun call=>Ay (decide (Z<(↑(ByteArray.size Y):Int))) (Ar (decide (0<=Z))<|Dj ((Array.toList (ByteArray.data Y))[Z.toNat]?) fun a=>some ⟨[.sc (.int .u8 (↑(UInt8.toNat a):Int))],[[Y,Z]]⟩) (some ⟨[.sc (.int .u8 0)],[[Y,Z]]⟩):=by show _=_;kernel_rfl
theorem Rg(Z:ByteArray)(Y:Int)(X:ByteArray):Pn (CX xs) fu d 138 [.pbox [Z,Y],X] fun call=>Ar (decide (0<=Y))<|Ar (decide (Y.toNat<=ByteArray.size Z)&&decide (ByteArray.size Z<=ByteArray.size Z))<|Aa (ByteArray.extract Z Y.toNat (ByteArray.size Z)) fun a=>Dv (call 156 [a,X]) fun a b=>Bm a fun a=>Ao b<|Ay (!a) (some ⟨[false],[[Z,Y]]⟩) (Aa (wrap .i64 (Y+(↑(ByteArray.size X):Int))) fun a=>some ⟨[true],[[Z,a]]⟩):=by show _=_;kernel_rfl
theorem EE(Z:Int):Pn (CX xs) fu d 202 [.sc (.int .i32 Z)] fun call=>Ay (decide (Z>=56320)) (Bg [Cz (decide (Z<=57343))]) (Bg [false]):=by show _=_;kernel_rfl
def Cu(Z:ByteArray)(Y:Int)(X:Nat)(W V:Int)(U:ByteArray)(T:Int):Option A4:=K0 fu call 201 Tryz.f201 [.pbox [Z,Y]] [.r,.r,.l,.r,.l] X ⟨lk [(0,.ptr 120000 0),(4,.sc (.int .i32 W)),(6,V)],Fx [(120000,.st [U,T])]⟩
theorem Hm(X:ByteArray)(W:Int)(V:Nat)(Z Y:Int)(U:ByteArray)(T:Int):Cu fu call X W (V+1) Z Y U T=(Ay (decide (Y<4)) (Bv (call 161 [.pbox [U,T]]) fun a b=>Dl .u8 a fun a=>Ai b fun b c=>Ai b fun b e=>Bu b fun b=>Dl .i64 e fun e=>(fun h:Option A4=>(fun f:Option A4=>(fun g:Option A4=>Ao c<|Ay (decide (a>=48)) (Ay (decide (a<=57)) (Aa (Fp .i32 Z 4) fun c=>Aa (wrap .u8 (a-48)) fun a=>Aa (wrap .i32 a) fun a=>Aa (wrap .i32 (c+a)) fun a=>Aa (wrap .i64 (e+1)) fun c=>Aa (wrap .i64 (Y+1)) fun e=>Cu fu call X W V a e b c) g) g) (Ay (decide (a>=97)) (Ay (decide (a<=102)) (Aa (Fp .i32 Z 4) fun c=>Aa (wrap .u8 (a-97)) fun a=>Aa (wrap .i32 a) fun a=>Aa (wrap .i32 (c+a)) fun a=>Aa (wrap .i32 (a+10)) fun a=>Aa (wrap .i64 (e+1)) fun c=>Aa (wrap .i64 (Y+1)) fun e=>Cu fu call X W V a e b c) f) f)) (Ay (decide (a>=65)) (Ay (decide (a<=70)) (Aa (Fp .i32 Z 4) fun c=>Aa (wrap .u8 (a-65)) fun a=>Aa (wrap .i32 a) fun a=>Aa (wrap .i32 (c+a)) fun a=>Aa (wrap .i32 (a+10)) fun a=>Aa (wrap .i64 (e+1)) fun c=>Aa (wrap .i64 (Y+1)) fun e=>Cu fu call X W V a e b c) h) h)) (some ⟨[.sc (.int .i32 0),false],[[b,e]]⟩)) (some ⟨[.sc (.int .i32 Z),true],[[U,T]]⟩)):=by kernel_rfl
theorem Qo(Z:ByteArray)(Y:Int):Pn (CX xs) fu d 201 [.pbox [Z,Y]] fun call=>Cu fu call Z Y fu 0 0 Z (Y):=by show _=_;kernel_rfl
theorem Pr(Z:ByteArray)(Y:Int):Pn (CX xs) fu d 180 [.pbox [Z,Y]] fun call=>Bv (call 201 [.pbox [Z,Y]]) fun a b=>Do .i32 a fun a c=>Q6 c fun c=>Ai b fun b e=>Ai b fun b f=>Bu b fun b=>Dl .i64 f fun f=>(fun h:Option A4=>Ao e<|Ay (!c) h (Dv (call 202 [.sc (.int .i32 a)]) fun c e=>Bm c fun c=>(fun j:Option A4=>Ao e<|Ay c h (Ay (decide (a<55296)) j (Ay (decide (a>56319)) j (Bv (call 138 [.pbox [b,f],Bk ⟨#[92,117]⟩]) fun b c=>Q6 b fun b=>Ai c fun c e=>Ai c fun c f=>Bu c fun c=>Dl .i64 f fun f=>Ao e<|Ay (!b) (some ⟨[.sc (.int .i32 0),false],[[c,f]]⟩) (Bv (call 201 [.pbox [c,f]]) fun b c=>Do .i32 b fun b e=>Q6 e fun e=>Ai c fun c f=>Ai c fun c g=>Bu c fun c=>Dl .i64 g fun g=>(fun i:Option A4=>Ao f<|Ay (!e) i (Dv (call 202 [.sc (.int .i32 b)]) fun e f=>Bm e fun e=>Ao f<|Ay (!e) i (Aa (wrap .i32 (a-55296)) fun a=>Aa (Fp .i32 a 10) fun a=>Aa (wrap .i32 (65536+a)) fun a=>Aa (wrap .i32 (b-56320)) fun b=>Aa (wrap .i32 (a+b)) fun a=>some ⟨[.sc (.int .i32 a),true],[[c,g]]⟩))) (some ⟨[.sc (.int .i32 0),false],[[c,g]]⟩)))))) (some ⟨[.sc (.int .i32 a),true],[[b,f]]⟩))) (some ⟨[.sc (.int .i32 0),false],[[b,f]]⟩):=by show _=_;kernel_rfl
theorem Nt(Z:ByteArray)(Y:Int):Pn (CX xs) fu d 158 [.pbox [Z,Y]] fun call=>Bv (call 138 [.pbox [Z,Y],Bk ⟨#[117]⟩]) fun a b=>Q6 a fun a=>Ai b fun b c=>Ai b fun b e=>Bu b fun b=>Dl .i64 e fun e=>Ao c<|Ay a (Bv (call 180 [.pbox [b,e]]) fun a b=>Do .i32 a fun a c=>Q6 c fun c=>Ai b fun b e=>Ai b fun b f=>Bu b fun b=>Dl .i64 f fun f=>Ao e<|some ⟨[.sc (.int .i32 a),c],[[b,f]]⟩) (Bv (call 161 [.pbox [b,e]]) fun a b=>Dl .u8 a fun a=>Ai b fun b c=>Ai b fun b e=>Bu b fun b=>Dl .i64 e fun e=>Ao c<|Aa (wrap .i32 a) fun a=>(fun g:Option A4=>Ay (a==34) g (Ay (a==92) g (Ay (a==47) g (Ay (a==98) (Aa (wrap .i64 (e+1)) fun a=>some ⟨[.sc (.int .i32 8),true],[[b,a]]⟩) (Ay (a==102) (Aa (wrap .i64 (e+1)) fun a=>some ⟨[.sc (.int .i32 12),true],[[b,a]]⟩) (Ay (a==110) (Aa (wrap .i64 (e+1)) fun a=>some ⟨[.sc (.int .i32 10),true],[[b,a]]⟩) (Ay (a==114) (Aa (wrap .i64 (e+1)) fun a=>some ⟨[.sc (.int .i32 13),true],[[b,a]]⟩) (Ay (a==116) (Aa (wrap .i64 (e+1)) fun a=>some ⟨[.sc (.int .i32 9),true],[[b,a]]⟩) (some ⟨[.sc (.int .i32 0),false],[[b,e]]⟩))))))))) (Aa (wrap .i64 (e+1)) fun c=>some ⟨[.sc (.int .i32 a),true],[[b,c]]⟩)):=by show _=_;kernel_rfl
end
def D7(t:ByteArray)(r:Aj):Prop:=∃pre,B0 t=pre++r
theorem D7.all(t:ByteArray):D7 t (B0 t):=⟨[],rfl⟩
theorem D7.len{t:ByteArray}{r:Aj}(h:D7 t r):r.length<=t.size:=by obtain⟨pre,h⟩:=h;have:=congrArg List.length h;rw[Cv,Vo] at this;omega
theorem D7.app{t:ByteArray}{a r:Aj}(h:D7 t (a++r)):D7 t r:=by obtain⟨pre,h⟩:=h;exact⟨pre++a,by rw[h,Zzv]⟩
theorem D7.tail{t:ByteArray}{c:Int}{r:Aj}(h:D7 t (c::r)):D7 t r:=D7.app (a:=[c]) h
theorem D7.drop{t:ByteArray}{r:Aj}(h:D7 t r)(k:Nat):D7 t (r.drop k):=by rw[<-List.take_append_drop k r] at h;exact h.app
def B9(t:ByteArray)(r:Aj):Nat:=t.size-r.length
theorem D7.eq{t:ByteArray}{r:Aj}(h:D7 t r):r=(B0 t).drop (B9 t r):=by
 have hl:=h.len;obtain⟨pre,h⟩:=h
 have e:B9 t r=pre.length:=by
  have:=congrArg List.length h;rw[Cv,Vo] at this;unfold B9;omega
 rw[e,h,List.drop_left]
theorem D7.B{t:ByteArray}{r:Aj}(h:D7 t r):Cm r:=by obtain⟨pre,h⟩:=h;exact fun x hx=>Yn t x (by rw[h];exact List.mem_append_right _ hx)
theorem D7.at{t:ByteArray}{c:Int}{r:Aj}(h:D7 t (c::r)):∃b:UInt8,(Array.toList t.data)[B9 t (c::r)]?=some b/\(b.toNat:Int)=c:=by
 have he:=h.eq
 have:(B0 t)[B9 t (c::r)]?=some c:=by
  have:=congrArg (fun l=>l[0]?) he;rw[List.getElem?_drop] at this;exact this.symm
 unfold B0 at this;rw[List.getElem?_map] at this;obtain⟨b,hb,rfl⟩:=Option.map_eq_some_iff.1 this;exact⟨b,hb,rfl⟩
theorem Q5{t:ByteArray}{c:Int}{r:Aj}(h:D7 t (c::r)):B9 t r=B9 t (c::r)+1:=by have:=h.len;unfold B9;rw[Po] at this ⊢;omega
theorem HJ(t:ByteArray):B9 t []=t.size:=rfl
abbrev De(t:ByteArray)(r:Aj):Ae:=[Bk t,Aw (B9 t r:Int)]
def YX:Aj->Int
 |[]=>0
 |c::_=>c
section
variable {fu d:Nat}{xs:FuncId->Option (Ae->Option A4)}
theorem Rp{t:ByteArray}{r:Aj}(h:D7 t r):Ac (CX xs) prog fu (d+1) 161 [.pbox (De t r)]=some ⟨[.sc (.int .u8 (YX r))],[De t r]⟩:=by
 rw[T6];cases r with
 |nil=>
  show _=some (A4.mk [.sc (.int .u8 0)] [[Bk t,Aw (B9 t []:Int)]]);rw[HJ];have e:decide ((t.size:Int)<(t.size:Int))=false:=by simp
  simp only[A5,A6,e]
 |cons c r=>
  have hl:=h.len;obtain⟨b,hb,rfl⟩:=h.at
  have hp:B9 t ((b.toNat:Int)::r)<t.size:=by
   unfold B9;rw[Po] at hl ⊢;omega
  have e:decide ((B9 t ((b.toNat:Int)::r):Int)<(t.size:Int))=true:=by simp;omega
  have e2:decide ((0:Int)<=(B9 t ((b.toNat:Int)::r):Int))=true:=by simp
  rw[<-Jp (B9 t ((b.toNat:Int)::r))] at hb;simp only[A5,A6,e,e2,hb,YX]
theorem KS{s:ByteArray}{a:Nat}:s.extract a s.size=Ab ((B0 s).drop a):=by
 rw[<-H2 (s.extract a s.size)]
 congr 1
 unfold B0;rw[ByteArray.data_extract,Array.toList_extract,List.extract_eq_take_drop,<-List.map_drop,H5];rw[List.length_drop];exact Cs _
theorem FM{s:ByteArray}{n:Nat}:s.extract 0 n=Ab ((B0 s).take n):=by
 rw[<-H2 (s.extract 0 n)]
 congr 1
 unfold B0;rw[ByteArray.data_extract,Array.toList_extract,List.extract_eq_take_drop,Nat.sub_zero,Ma,List.map_take]
theorem A0k{a w:Aj}(ha:Cm a)(hw:Cm w):Ac (CX xs) prog fu (d+1) 179 [Bk (Ab a),Bk (Ab w)]=some ⟨[Cz (w.isPrefixOf a)],[]⟩:=by
 rw[Ve,Ag,Ag];by_cases hl:w.length<=a.length
 ·have e1:decide ((a.length:Int)>=(w.length:Int))=true:=by simp;omega
  have e2:decide (Int.toNat (w.length:Int)<=a.length)=true:=by rw[Jp];simp;exact hl
  have e3:(Ab a).extract 0 (Int.toNat (w.length:Int))=Ab (a.take w.length):=by
   rw[Jp,FM,Dd ha]
  have e4:(Array.toList (Ab (a.take w.length)).data==Array.toList (Ab w).data)=w.isPrefixOf a:=by
   rw[Bool.eq_iff_iff,List.isPrefixOf_iff_prefix,beq_iff_eq];constructor
   ·intro h
    have h2:Ab (a.take w.length)=Ab w:=by
     cases hx:Ab (a.take w.length);cases hy:Ab w;rw[hx,hy] at h;exact congrArg ByteArray.mk (Array.toList_inj.1 h)
    have h3:=congrArg B0 h2;rw[Dd hw,Dd (fun x hx=>ha x (List.mem_of_mem_take hx))] at h3;exact List.prefix_iff_eq_take.2 h3.symm
   ·intro h;rw[<-List.prefix_iff_eq_take.1 h]
  simp only[A5,A6,e1,e2,e3,e4]
 ·have e1:decide ((a.length:Int)>=(w.length:Int))=false:=by simp;omega
  have e4:w.isPrefixOf a=false:=by
   rw[Bool.eq_false_iff,ne_eq,List.isPrefixOf_iff_prefix];exact fun h=>hl h.length_le
  simp only[A5,A6,e1,e4]
theorem Bew{a w:Aj}(ha:Cm a)(hw:Cm w):Ac (CX xs) prog fu (d+2) 156 [Bk (Ab a),Bk (Ab w)]=some ⟨[Cz (w.isPrefixOf a)],[]⟩:=by rw[BG];have e:Ac (CX xs) prog fu (d+1) 179 [Bk (Ab a),Bk (Ab w)]=_:=A0k ha hw;simp only[A5,A6,e]
theorem Yt{t:ByteArray}{r w:Aj}(h:D7 t r)(ht:t.size<=1000000)(hw:Cm w)(hw2:w.length<=100):Ac (CX xs) prog fu (d+3) 138 [.pbox (De t r),Bk (Ab w)]=some (match A8 w r with|some r'=>⟨[Cz true],[De t r']⟩|none=>⟨[Cz false],[De t r]⟩):=by
 have hl:=h.len;have he:=h.eq;have hp:B9 t r<=t.size:=Nat.sub_le _ _;have hh:=Bew (fu:=fu) (d:=d) (xs:=xs) h.B hw;have e1:decide ((0:Int)<=(B9 t r:Int))=true:=by simp
 have e2:(decide (Int.toNat (B9 t r:Int)<=t.size)&&decide (t.size<=t.size))=true:=by
  rw[Jp];simp;exact hp
 have e3:t.extract (Int.toNat (B9 t r:Int)) t.size=Ab r:=by rw[Jp,KS,<-he]
 rw[Rg];unfold A8;by_cases hq:w.isPrefixOf r=true
 ·rw[Cx hq];rw[hq] at hh
  have hwl:w.length<=r.length:=by
   have:=List.IsPrefix.length_le (List.isPrefixOf_iff_prefix.1 hq);exact this
  have e4:wrap .i64 ((B9 t r:Int)+((Ab w).size:Int))=(B9 t (r.drop w.length):Int):=by
   rw[Ag,Bb];unfold B9;rw[List.length_drop];omega
  simp only[A5,A6,e1,e2,e3,hh,e4,G9]
 ·rw[Br hq];have Ot:w.isPrefixOf r=false:=Bool.eq_false_iff.2 hq;rw[Ot] at hh;simp only[A5,A6,e1,e2,e3,hh,Kd]
theorem Axp(x:Int):Ac (CX xs) prog fu (d+1) 202 [.sc (.int .i32 x)]=some ⟨[Cz (Aan x)],[]⟩:=by
 rw[EE];unfold Aan;by_cases h:56320<=x
 ·have e:decide (x>=56320)=true:=by simp;omega
  have e2:decide (56320<=x)=true:=by simp;omega
  simp only[A5,A6,e,e2,YD]
 ·have e:decide (x>=56320)=false:=by simp;omega
  have e2:decide (56320<=x)=false:=by simp;omega
  simp only[A5,A6,e,e2,SU]
def Avv(t:ByteArray)(o:PR Int):A4:=⟨[.sc (.int .i32 (o.1.getD 0)),Cz (o.1.isSome)],[De t o.2]⟩
theorem XS(c:Int):(48<=c/\c<=57/\Ahh c=some (c-48))\/(97<=c/\c<=102/\Ahh c=some (c-87))\/(65<=c/\c<=70/\Ahh c=some (c-55))\/(¬(48<=c/\c<=57)/\¬(97<=c/\c<=102)/\¬(65<=c/\c<=70)/\Ahh c=none):=by
 unfold Ahh;by_cases h1:48<=c/\c<=57
 ·exact .inl ⟨h1.1,h1.2,Cx h1⟩
 ·by_cases h2:97<=c/\c<=102
  ·exact .inr (.inl ⟨h2.1,h2.2,by rw[Br h1,Cx h2]⟩)
  ·by_cases h3:65<=c/\c<=70
   ·exact .inr (.inr (.inl ⟨h3.1,h3.2,by rw[Br h1,Br h2,Cx h3]⟩))
   ·exact .inr (.inr (.inr ⟨h1,h2,h3,by rw[Br h1,Br h2,Br h3]⟩))
theorem Gc{x:Int}(h1: -2147483648<=x)(h2:x<=2147483647):wrap .i32 x=x:=by have:=IntWalk.i32_in x (by omega);exact this
theorem Bae{x:Int}(h0:0<=x)(h1:x<65536):Fp .i32 x 4=x*16:=by show wrap .i32 (x*2 ^ (min (4:Int).toNat IntKind.i32.bits))=_;rw[show min (4:Int).toNat IntKind.i32.bits=4 from rfl];exact Gc (by omega) (by omega)
theorem EW{t s0:ByteArray}{p0:Int}(ht:t.size<=1000000):∀(n:Nat)(nn:Nat)(x:Int)(r:Aj),n<=4->n+1<=nn->0<=x->x<16 ^ (4-n)->D7 t r ->
  Cu fu (Ac (CX xs) prog fu (d+1)) s0 p0 nn x ((4-n:Nat):Int) t (B9 t r:Int)=some (Avv t (BK n x r))
 |0,nn,x,r,_,Gz,h0,h1,h=>by
  obtain⟨k,rfl⟩:∃k,nn=k+1:=⟨nn-1,by omega⟩
  rw[Hm];simp only[A5,A6,show decide (((4-0:Nat):Int)<4)=false from rfl];rfl
 |n+1,nn,x,r,hn,Gz,h0,h1,h=>by
  obtain⟨k,rfl⟩:∃k,nn=k+1:=⟨nn-1,by omega⟩
  have pk:=Rp (fu:=fu) (d:=d) (xs:=xs) h;have hl:=h.len
  have hx:x<4096:=by
   have:n+1=1\/n+1=2\/n+1=3\/n+1=4:=by omega
   rcases this with e|e|e|e<;>rw[e] at h1<;>simp at h1<;>omega
  have LD:∀v,0<=v->v<=15->x*16+v<16 ^ (4-n):=by
   intro v hv0 hv1;have e:4-n=(4-(n+1))+1:=by omega
   rw[e,Int.pow_succ];omega
  have e4:decide (((4-(n+1):Nat):Int)<4)=true:=by simp;omega
  have e5:wrap .i64 (((4-(n+1):Nat):Int)+1)=((4-n:Nat):Int):=Bq
  have sh:=Bae h0 (by omega);rw[Hm];cases r with
  |nil=>
   have pk2:Ac (CX xs) prog fu (d+1) 161 [.pbox (De t [])]=some ⟨[.sc (.int .u8 0)],[De t []]⟩:=pk
   repeat(with_reducible(first|apply Bd|apply A0|apply Bc|apply A7|apply Bo|apply Ff|apply A3|apply Be|apply Jc);· first|constructor|(simp(disch:=omega)only[Ja,e4,pk2,Int.reduceGE,decide_false,decide_true]<;>first|constructor|omega)|omega)
   try simp(disch:=omega)only[Aa,e4,pk2,Int.reduceGE,decide_false,decide_true]
   rfl
  |cons c r=>
   have hc:=h.B c (by simp);have hp:=Q5 h
   have e6:wrap .i64 ((B9 t (c::r):Int)+1)=(B9 t r:Int):=by
    rw[hp,F8 (by unfold B9;omega) (by unfold B9;omega)];omega
   have pk2:Ac (CX xs) prog fu (d+1) 161 [.pbox (De t (c::r))]=some ⟨[.sc (.int .u8 c)],[De t (c::r)]⟩:=pk;unfold BK;rcases XS c with⟨g1,g2,g3⟩|⟨g1,g2,g3⟩|⟨g1,g2,g3⟩|⟨g1,g2,g3,g4⟩
   ·rw[g3];have ih:=EW (s0:=s0) (p0:=p0) ht n k (x*16+(c-48)) r (by omega) (by omega) (by omega) (LD _ (by omega) (by omega)) h.tail;have w1:wrap .u8 (c-48)=c-48:=Oa (by omega) (by omega);have w2:wrap .i32 (c-48)=c-48:=Gc (by omega) (by omega);have w3:wrap .i32 (x*16+(c-48))=x*16+(c-48):=Gc (by omega) (by omega)
    repeat(with_reducible(first|apply Bd|apply A0|apply Bc|apply A7|apply Bo|apply Ff|apply A3|apply Be|apply Jc);· first|constructor|(simp(disch:=omega)only[Ja,e4,pk2,sh,w1,w2,w3,e5,e6,ih]<;>first|constructor|omega)|omega)
    try simp(disch:=omega)only[Aa,e4,pk2,sh,w1,w2,w3,e5,e6,ih]
   ·rw[g3];have ih:=EW (s0:=s0) (p0:=p0) ht n k (x*16+(c-87)) r (by omega) (by omega) (by omega) (LD _ (by omega) (by omega)) h.tail;have w1:wrap .u8 (c-97)=c-97:=Oa (by omega) (by omega);have w2:wrap .i32 (c-97)=c-97:=Gc (by omega) (by omega);have w3:wrap .i32 (x*16+(c-97))=x*16+(c-97):=Gc (by omega) (by omega);have w4:wrap .i32 (x*16+(c-97)+10)=x*16+(c-87):=by rw[Gc (by omega) (by omega)];omega
    repeat(with_reducible(first|apply Bd|apply A0|apply Bc|apply A7|apply Bo|apply Ff|apply A3|apply Be|apply Jc);· first|constructor|(simp(disch:=omega)only[Ja,e4,pk2,sh,w1,w2,w3,w4,e5,e6,ih]<;>first|constructor|omega)|omega)
    try simp(disch:=omega)only[Aa,e4,pk2,sh,w1,w2,w3,w4,e5,e6,ih]
   ·rw[g3];have ih:=EW (s0:=s0) (p0:=p0) ht n k (x*16+(c-55)) r (by omega) (by omega) (by omega) (LD _ (by omega) (by omega)) h.tail;have w1:wrap .u8 (c-65)=c-65:=Oa (by omega) (by omega);have w2:wrap .i32 (c-65)=c-65:=Gc (by omega) (by omega);have w3:wrap .i32 (x*16+(c-65))=x*16+(c-65):=Gc (by omega) (by omega);have w4:wrap .i32 (x*16+(c-65)+10)=x*16+(c-55):=by rw[Gc (by omega) (by omega)];omega
    repeat(with_reducible(first|apply Bd|apply A0|apply Bc|apply A7|apply Bo|apply Ff|apply A3|apply Be|apply Jc);· first|constructor|(simp(disch:=omega)only[Ja,e4,pk2,sh,w1,w2,w3,w4,e5,e6,ih]<;>first|constructor|omega)|omega)
    try simp(disch:=omega)only[Aa,e4,pk2,sh,w1,w2,w3,w4,e5,e6,ih]
   ·rw[g4];by_cases k1:48<=c
    ·by_cases k2:97<=c
     ·skip
      repeat(with_reducible(first|apply Bd|apply A0|apply Bc|apply A7|apply Bo|apply Ff|apply A3|apply Be|apply Jc);· first|constructor|(simp(disch:=omega)only[Ja,e4,pk2]<;>first|constructor|omega)|omega)
      try simp(disch:=omega)only[Aa,e4,pk2]
      rfl
     ·by_cases k3:65<=c
      ·skip
       repeat(with_reducible(first|apply Bd|apply A0|apply Bc|apply A7|apply Bo|apply Ff|apply A3|apply Be|apply Jc);· first|constructor|(simp(disch:=omega)only[Ja,e4,pk2]<;>first|constructor|omega)|omega)
       try simp(disch:=omega)only[Aa,e4,pk2]
       rfl
      ·skip
       repeat(with_reducible(first|apply Bd|apply A0|apply Bc|apply A7|apply Bo|apply Ff|apply A3|apply Be|apply Jc);· first|constructor|(simp(disch:=omega)only[Ja,e4,pk2]<;>first|constructor|omega)|omega)
       try simp(disch:=omega)only[Aa,e4,pk2]
       rfl
    ·skip
     repeat(with_reducible(first|apply Bd|apply A0|apply Bc|apply A7|apply Bo|apply Ff|apply A3|apply Be|apply Jc);· first|constructor|(simp(disch:=omega)only[Ja,e4,pk2]<;>first|constructor|omega)|omega)
     try simp(disch:=omega)only[Aa,e4,pk2]
     rfl
theorem Azt{t:ByteArray}{r:Aj}(Bi:10<=fu)(h:D7 t r)(ht:t.size<=1000000):Ac (CX xs) prog fu (d+2) 201 [.pbox (De t r)]=some (Avv t (BK 4 0 r)):=by rw[Qo];exact EW ht 4 fu 0 r (by omega) (by omega) (by omega) (by decide) h
theorem Jd:∀(n:Nat)(x:Int)(l:Aj)(y:Int)(r:Aj),BK n x l=(some y,r)->0<=x->0<=y/\y<(x+1)*16 ^ n
 |0,x,l,y,r,h,h0=>by
  cases h;omega
 |n+1,x,[],y,r,h,h0=>by cases h
 |n+1,x,c::l,y,r,h,h0=>by
  unfold BK at h;rcases XS c with⟨g1,g2,g3⟩|⟨g1,g2,g3⟩|⟨g1,g2,g3⟩|⟨g1,g2,g3,g4⟩
  ·rw[g3] at h;have:=Jd n _ l y r h (by omega)
   have e:(x*16+(c-48)+1)*16 ^ n<=(x+1)*16 ^ (n+1):=by
    rw[Int.pow_succ,Int.mul_comm (16 ^ n) 16,<-Int.mul_assoc];exact Int.mul_le_mul_of_nonneg_right (by omega) (Int.pow_nonneg (by omega))
   omega
  ·rw[g3] at h;have:=Jd n _ l y r h (by omega)
   have e:(x*16+(c-87)+1)*16 ^ n<=(x+1)*16 ^ (n+1):=by
    rw[Int.pow_succ,Int.mul_comm (16 ^ n) 16,<-Int.mul_assoc];exact Int.mul_le_mul_of_nonneg_right (by omega) (Int.pow_nonneg (by omega))
   omega
  ·rw[g3] at h;have:=Jd n _ l y r h (by omega)
   have e:(x*16+(c-55)+1)*16 ^ n<=(x+1)*16 ^ (n+1):=by
    rw[Int.pow_succ,Int.mul_comm (16 ^ n) 16,<-Int.mul_assoc];exact Int.mul_le_mul_of_nonneg_right (by omega) (Int.pow_nonneg (by omega))
   omega
  ·rw[g4] at h;cases h
theorem HC{t:ByteArray}:∀(n:Nat)(x:Int)(l:Aj),D7 t l->D7 t (BK n x l).2
 |0,x,l,h=>h
 |n+1,x,[],h=>h
 |n+1,x,c::l,h=>by
  unfold BK;cases Ahh c with
  |none=>exact h
  |some v=>exact HC n _ l h.tail
theorem Asq(l:Aj):Atk l=List.isPrefixOf [92,117] l:=by
 match l with
 |[]=>rfl
 |[a]=>
  unfold Atk;split
  ·rename_i e;cases e
  ·simp[List.isPrefixOf]
 |a::b::r=>
  unfold Atk;split
  ·rename_i e;cases e;rfl
  ·rename_i h
   symm
   rw[Bool.eq_false_iff];intro hp;simp[List.isPrefixOf] at hp;exact h r (by rw[<-hp.1,<-hp.2])
theorem A2q{x:Int}(h0:0<=x)(h1:x<2097152):Fp .i32 x 10=x*1024:=by show wrap .i32 (x*2 ^ (min (10:Int).toNat IntKind.i32.bits))=_;rw[show min (10:Int).toNat IntKind.i32.bits=10 from rfl];exact Gc (by omega) (by omega)
theorem A1e{t:ByteArray}{r:Aj}(Bi:10<=fu)(h:D7 t r)(ht:t.size<=1000000):Ac (CX xs) prog fu (d+4) 180 [.pbox (De t r)]=some (Avv t (Uz r)):=by
 have hx:=Azt (d:=d+1) (xs:=xs) Bi h ht;have hs:=HC 4 0 r h;have hb:=Jd 4 0 r;rw[Pr];unfold Uz;rcases hq:BK 4 0 r with⟨o,r1⟩;rw[hq] at hx hs;simp only at hs;cases o with
 |none=>
  have LD:Ac (CX xs) prog fu (d+3) 201 [.pbox (De t r)]=some ⟨[.sc (.int .i32 0),Cz false],[De t r1]⟩:=hx
  repeat(with_reducible(first|apply Bd|apply A0|apply Bc|apply A7|apply Bo|apply Ff|apply A3|apply Be|apply Jc);· first|constructor|(simp(disch:=omega)only[Ja,LD,Kd]<;>first|constructor|omega)|omega)
  try simp(disch:=omega)only[Aa,LD,Kd]
  rfl
 |some x=>
  have LD:Ac (CX xs) prog fu (d+3) 201 [.pbox (De t r)]=some ⟨[.sc (.int .i32 x),Cz true],[De t r1]⟩:=hx;have bx:=hb x r1 hq (by omega);have lw:∀x,Ac (CX xs) prog fu (d+3) 202 [.sc (.int .i32 x)]=some ⟨[Cz (Aan x)],[]⟩:=fun x=>Axp (d:=d+2) x;cases hl:Aan x
  ·simp only[hl,Bool.false_eq_true,if_false];by_cases c1:x<55296
   ·rw[Cx (Or.inl c1)]
    repeat(with_reducible(first|apply Bd|apply A0|apply Bc|apply A7|apply Bo|apply Ff|apply A3|apply Be|apply Jc);· first|constructor|(simp(disch:=omega)only[Ja,LD,lw,hl,G9]<;>first|constructor|omega)|omega)
    try simp(disch:=omega)only[Aa,LD,lw,hl,G9]
    rfl
   ·by_cases c2:56319<x
    ·rw[Cx (Or.inr c2)]
     repeat(with_reducible(first|apply Bd|apply A0|apply Bc|apply A7|apply Bo|apply Ff|apply A3|apply Be|apply Jc);· first|constructor|(simp(disch:=omega)only[Ja,LD,lw,hl,G9]<;>first|constructor|omega)|omega)
     try simp(disch:=omega)only[Aa,LD,lw,hl,G9]
     rfl
    ·rw[Br (by omega)];have ha:=Yt (fu:=fu) (d:=d) (xs:=xs) hs ht (w:=[92,117]) (fun x hx=>by simp at hx;rcases hx with rfl|rfl<;>omega) (by decide)
     unfold A8 at ha;rw[<-Asq] at ha;cases hB:Atk r1
     ·rw[hB,Br (by simp)] at ha;simp only[Bool.false_eq_true,if_false];have Vp:Ac (CX xs) prog fu (d+3) 138 [.pbox (De t r1),Bk ⟨#[92,117]⟩]=some ⟨[Cz false],[De t r1]⟩:=ha
      repeat(with_reducible(first|apply Bd|apply A0|apply Bc|apply A7|apply Bo|apply Ff|apply A3|apply Be|apply Jc);· first|constructor|(simp(disch:=omega)only[Ja,LD,lw,hl,Vp,G9,Kd]<;>first|constructor|omega)|omega)
      try simp(disch:=omega)only[Aa,LD,lw,hl,Vp,G9,Kd]
      rfl
     ·rw[hB,Cx rfl] at ha;simp only[if_true];have Vp:Ac (CX xs) prog fu (d+3) 138 [.pbox (De t r1),Bk ⟨#[92,117]⟩]=some ⟨[Cz true],[De t (r1.drop 2)]⟩:=ha;have hy:=Azt (d:=d+1) (xs:=xs) Bi (hs.drop 2) ht;have hby:=Jd 4 0 (r1.drop 2);unfold Akb;rcases Ot:BK 4 0 (r1.drop 2) with⟨o2,r2⟩;rw[Ot] at hy;cases o2 with
      |none=>
       have hy2:Ac (CX xs) prog fu (d+3) 201 [.pbox (De t (r1.drop 2))]=some ⟨[.sc (.int .i32 0),Cz false],[De t r2]⟩:=hy
       repeat(with_reducible(first|apply Bd|apply A0|apply Bc|apply A7|apply Bo|apply Ff|apply A3|apply Be|apply Jc);· first|constructor|(simp(disch:=omega)only[Ja,LD,lw,hl,Vp,hy2,G9,Kd]<;>first|constructor|omega)|omega)
       try simp(disch:=omega)only[Aa,LD,lw,hl,Vp,hy2,G9,Kd]
       rfl
      |some y=>
       have hy2:Ac (CX xs) prog fu (d+3) 201 [.pbox (De t (r1.drop 2))]=some ⟨[.sc (.int .i32 y),Cz true],[De t r2]⟩:=hy;have by_:=hby y r2 Ot (by omega);cases Ww:Aan y
       ·simp only[Bool.false_eq_true,if_false]
        repeat(with_reducible(first|apply Bd|apply A0|apply Bc|apply A7|apply Bo|apply Ff|apply A3|apply Be|apply Jc);· first|constructor|(simp(disch:=omega)only[Ja,LD,lw,hl,Ww,Vp,hy2,G9,Kd]<;>first|constructor|omega)|omega)
        try simp(disch:=omega)only[Aa,LD,lw,hl,Ww,Vp,hy2,G9,Kd]
        rfl
       ·simp only[if_true]
        have ly:56320<=y/\y<=57343:=by
         unfold Aan at Ww
         simpa using Ww
        have w1:wrap .i32 (x-55296)=x-55296:=Gc (by omega) (by omega);have w2:=A2q (x:=x-55296) (by omega) (by omega);have w3:wrap .i32 (65536+(x-55296)*1024)=65536+(x-55296)*1024:=Gc (by omega) (by omega);have w4:wrap .i32 (y-56320)=y-56320:=Gc (by omega) (by omega);have w5:wrap .i32 (65536+(x-55296)*1024+(y-56320))=65536+(x-55296)*1024+(y-56320):=Gc (by omega) (by omega)
        repeat(with_reducible(first|apply Bd|apply A0|apply Bc|apply A7|apply Bo|apply Ff|apply A3|apply Be|apply Jc);· first|constructor|(simp(disch:=omega)only[Ja,LD,lw,hl,Ww,Vp,hy2,w1,w2,w3,w4,w5,G9,Kd]<;>first|constructor|omega)|omega)
        try simp(disch:=omega)only[Aa,LD,lw,hl,Ww,Vp,hy2,w1,w2,w3,w4,w5,G9,Kd]
        rfl
  ·simp only[if_true]
   repeat(with_reducible(first|apply Bd|apply A0|apply Bc|apply A7|apply Bo|apply Ff|apply A3|apply Be|apply Jc);· first|constructor|(simp(disch:=omega)only[Ja,LD,lw,hl,G9]<;>first|constructor|omega)|omega)
   try simp(disch:=omega)only[Aa,LD,lw,hl,G9]
   rfl
theorem WE(c:Int):(c=34/\CU c=some 34)\/(c=92/\CU c=some 92)\/(c=47/\CU c=some 47)\/(c=98/\CU c=some 8)\/(c=102/\CU c=some 12)\/(c=110/\CU c=some 10)\/(c=114/\CU c=some 13)\/(c=116/\CU c=some 9) \/
  ((c≠34/\c≠92/\c≠47/\c≠98/\c≠102/\c≠110/\c≠114/\c≠116)/\CU c=none):=by
 by_cases h1:c=34
 ·subst h1;exact .inl ⟨rfl,rfl⟩
 by_cases h2:c=92
 ·subst h2;exact .inr (.inl ⟨rfl,rfl⟩)
 by_cases h3:c=47
 ·subst h3;exact .inr (.inr (.inl ⟨rfl,rfl⟩))
 by_cases h4:c=98
 ·subst h4;exact .inr (.inr (.inr (.inl ⟨rfl,rfl⟩)))
 by_cases h5:c=102
 ·subst h5;exact .inr (.inr (.inr (.inr (.inl ⟨rfl,rfl⟩))))
 by_cases h6:c=110
 ·subst h6;exact .inr (.inr (.inr (.inr (.inr (.inl ⟨rfl,rfl⟩)))))
 by_cases h7:c=114
 ·subst h7;exact .inr (.inr (.inr (.inr (.inr (.inr (.inl ⟨rfl,rfl⟩))))))
 by_cases h8:c=116
 ·subst h8;exact .inr (.inr (.inr (.inr (.inr (.inr (.inr (.inl ⟨rfl,rfl⟩)))))))
 refine .inr (.inr (.inr (.inr (.inr (.inr (.inr (.inr ⟨⟨h1,h2,h3,h4,h5,h6,h7,h8⟩,?_⟩)))))));unfold CU;rw[Br (by omega),Br h4,Br h5,Br h6,Br h7,Br h8]
theorem A9e{t:ByteArray}{r:Aj}(Bi:10<=fu)(h:D7 t r)(ht:t.size<=1000000):Ac (CX xs) prog fu (d+5) 158 [.pbox (De t r)]=some (Avv t (Sx r)):=by
 have ha:=Yt (fu:=fu) (d:=d+1) (xs:=xs) h ht (w:=[117]) (fun x hx=>by simp at hx;omega) (by decide)
 have hl:=h.len;rw[Nt];cases r with
 |nil=>
  have Vp:Ac (CX xs) prog fu (d+4) 138 [.pbox (De t []),Bk ⟨#[117]⟩]=some ⟨[Cz false],[De t []]⟩:=ha;have pk:Ac (CX xs) prog fu (d+4) 161 [.pbox (De t [])]=some ⟨[.sc (.int .u8 0)],[De t []]⟩:=Rp (d:=d+3) h;have w0:wrap .i32 0=0:=rfl
  repeat(with_reducible(first|apply Bd|apply A0|apply Bc|apply A7|apply Bo|apply Ff|apply A3|apply Be|apply Jc);· first|constructor|(simp(disch:=omega)only[Ja,Vp,pk,w0,Int.reduceBEq]<;>first|constructor|omega)|omega)
  try simp(disch:=omega)only[Aa,Vp,pk,w0,Int.reduceBEq]
  rfl
 |cons c r=>
  have hc:=h.B c (by simp);have hp:=Q5 h
  have e6:wrap .i64 ((B9 t (c::r):Int)+1)=(B9 t r:Int):=by
   rw[hp,F8 (by unfold B9;omega) (by unfold B9;omega)];omega
  have w0:wrap .i32 c=c:=Gc (by omega) (by omega);have pk:Ac (CX xs) prog fu (d+4) 161 [.pbox (De t (c::r))]=some ⟨[.sc (.int .u8 c)],[De t (c::r)]⟩:=Rp (d:=d+3) h;have he:Sx (c::r)=if c=117 then Uz r else match CU c with|some x=>(some x,r)|none=>(none,c::r):=rfl
  rw[he];unfold A8 at ha;by_cases hu:c=117
  ·subst hu;rw[Cx rfl];have Vp:Ac (CX xs) prog fu (d+4) 138 [.pbox (De t (117::r)),Bk ⟨#[117]⟩]=some ⟨[Cz true],[De t r]⟩:=ha;have hcd:Ac (CX xs) prog fu (d+4) 180 [.pbox (De t r)]=some ⟨[.sc (.int .i32 ((Uz r).1.getD 0)),Cz ((Uz r).1.isSome)],[De t (Uz r).2]⟩:=A1e Bi h.tail ht
   repeat(with_reducible(first|apply Bd|apply A0|apply Bc|apply A7|apply Bo|apply Ff|apply A3|apply Be|apply Jc);· first|constructor|(simp(disch:=omega)only[Ja,Vp,hcd]<;>first|constructor|omega)|omega)
   try simp(disch:=omega)only[Aa,Vp,hcd]
   rfl
  ·rw[Br hu]
   have hb:(List.isPrefixOf [117] (c::r))=false:=by
    rw[Bool.eq_false_iff];intro hp;simp[List.isPrefixOf] at hp;exact hu hp.symm
   rw[hb,Br (by simp)] at ha;have Vp:Ac (CX xs) prog fu (d+4) 138 [.pbox (De t (c::r)),Bk ⟨#[117]⟩]=some ⟨[Cz false],[De t (c::r)]⟩:=ha;rcases WE c with⟨rfl,g⟩|⟨rfl,g⟩|⟨rfl,g⟩|⟨rfl,g⟩|⟨rfl,g⟩|⟨rfl,g⟩|⟨rfl,g⟩|⟨rfl,g⟩|⟨g1,g⟩
   ·rw[g]
    repeat(with_reducible(first|apply Bd|apply A0|apply Bc|apply A7|apply Bo|apply Ff|apply A3|apply Be|apply Jc);· first|constructor|(simp(disch:=omega)only[Ja,Vp,pk,w0,e6,Int.reduceBEq]<;>first|constructor|omega)|omega)
    try simp(disch:=omega)only[Aa,Vp,pk,w0,e6,Int.reduceBEq]
    rfl
   ·rw[g]
    repeat(with_reducible(first|apply Bd|apply A0|apply Bc|apply A7|apply Bo|apply Ff|apply A3|apply Be|apply Jc);· first|constructor|(simp(disch:=omega)only[Ja,Vp,pk,w0,e6,Int.reduceBEq]<;>first|constructor|omega)|omega)
    try simp(disch:=omega)only[Aa,Vp,pk,w0,e6,Int.reduceBEq]
    rfl
   ·rw[g]
    repeat(with_reducible(first|apply Bd|apply A0|apply Bc|apply A7|apply Bo|apply Ff|apply A3|apply Be|apply Jc);· first|constructor|(simp(disch:=omega)only[Ja,Vp,pk,w0,e6,Int.reduceBEq]<;>first|constructor|omega)|omega)
    try simp(disch:=omega)only[Aa,Vp,pk,w0,e6,Int.reduceBEq]
    rfl
   ·rw[g]
    repeat(with_reducible(first|apply Bd|apply A0|apply Bc|apply A7|apply Bo|apply Ff|apply A3|apply Be|apply Jc);· first|constructor|(simp(disch:=omega)only[Ja,Vp,pk,w0,e6,Int.reduceBEq]<;>first|constructor|omega)|omega)
    try simp(disch:=omega)only[Aa,Vp,pk,w0,e6,Int.reduceBEq]
    rfl
   ·rw[g]
    repeat(with_reducible(first|apply Bd|apply A0|apply Bc|apply A7|apply Bo|apply Ff|apply A3|apply Be|apply Jc);· first|constructor|(simp(disch:=omega)only[Ja,Vp,pk,w0,e6,Int.reduceBEq]<;>first|constructor|omega)|omega)
    try simp(disch:=omega)only[Aa,Vp,pk,w0,e6,Int.reduceBEq]
    rfl
   ·rw[g]
    repeat(with_reducible(first|apply Bd|apply A0|apply Bc|apply A7|apply Bo|apply Ff|apply A3|apply Be|apply Jc);· first|constructor|(simp(disch:=omega)only[Ja,Vp,pk,w0,e6,Int.reduceBEq]<;>first|constructor|omega)|omega)
    try simp(disch:=omega)only[Aa,Vp,pk,w0,e6,Int.reduceBEq]
    rfl
   ·rw[g]
    repeat(with_reducible(first|apply Bd|apply A0|apply Bc|apply A7|apply Bo|apply Ff|apply A3|apply Be|apply Jc);· first|constructor|(simp(disch:=omega)only[Ja,Vp,pk,w0,e6,Int.reduceBEq]<;>first|constructor|omega)|omega)
    try simp(disch:=omega)only[Aa,Vp,pk,w0,e6,Int.reduceBEq]
    rfl
   ·rw[g]
    repeat(with_reducible(first|apply Bd|apply A0|apply Bc|apply A7|apply Bo|apply Ff|apply A3|apply Be|apply Jc);· first|constructor|(simp(disch:=omega)only[Ja,Vp,pk,w0,e6,Int.reduceBEq]<;>first|constructor|omega)|omega)
    try simp(disch:=omega)only[Aa,Vp,pk,w0,e6,Int.reduceBEq]
    rfl
   ·rw[g];obtain⟨n1,n2,n3,n4,n5,n6,n7,n8⟩:=g1;have m1:(c==(34:Int))=false:=by simp[n1]
    have m2:(c==(92:Int))=false:=by simp[n2]
    have m3:(c==(47:Int))=false:=by simp[n3]
    have m4:(c==(98:Int))=false:=by simp[n4]
    have m5:(c==(102:Int))=false:=by simp[n5]
    have m6:(c==(110:Int))=false:=by simp[n6]
    have m7:(c==(114:Int))=false:=by simp[n7]
    have m8:(c==(116:Int))=false:=by simp[n8]
    repeat(with_reducible(first|apply Bd|apply A0|apply Bc|apply A7|apply Bo|apply Ff|apply A3|apply Be|apply Jc);· first|constructor|(simp(disch:=omega)only[Ja,Vp,pk,w0,e6,m1,m2,m3,m4,m5,m6,m7,m8]<;>first|constructor|omega)|omega)
    try simp(disch:=omega)only[Aa,Vp,pk,w0,e6,m1,m2,m3,m4,m5,m6,m7,m8]
    rfl
theorem Zn{t:ByteArray}{l:Aj}(h:D7 t l):D7 t (Sx l).2:=by
 have A6o:∀l,D7 t l->D7 t (Uz l).2:=by
  intro l h;have h1:=HC 4 0 l h;unfold Uz;rcases hq:BK 4 0 l with⟨o,r⟩;rw[hq] at h1;cases o with
  |none=>exact h1
  |some x=>
   simp only;split
   ·exact h1
   split
   ·exact h1
   split
   ·have h2:=HC 4 0 (r.drop 2) (D7.drop h1 2);unfold Akb;rcases Ot:BK 4 0 (r.drop 2) with⟨o2,r2⟩;rw[Ot] at h2;cases o2 with
    |none=>exact h2
    |some y=>
     simp only;split<;>exact h2
   ·exact h1
 cases l with
 |nil=>exact h
 |cons c r=>
  have he:Sx (c::r)=if c=117 then Uz r else match CU c with|some x=>(some x,r)|none=>(none,c::r):=rfl
  rw[he];split
  ·exact A6o r h.tail
  ·cases CU c with
   |none=>exact h
   |some x=>exact h.tail
end
section
open Go.RowKit Go.Lib
abbrev u8C(l:Aj):List Value:=l.map (Value.int .u8)
theorem Akq(a b:Aj):u8C (a++b)=u8C a++u8C b:=List.map_append
theorem VV:∀{l:Aj},Cm l->u8C l=Lib.byteCells (l.map fun n=>n.toNat.toUInt8)
 |[],_=>rfl
 |x::l,h=>by
  obtain⟨hx,h⟩:=Ds h;show Value.int .u8 x::u8C l=Value.int .u8 ((x.toNat.toUInt8).toNat:Int)::Lib.byteCells (l.map fun n=>n.toNat.toUInt8);rw[VV h]
  congr 2
  have:(x.toNat.toUInt8).toNat=x.toNat:=by
   show x.toNat % 256=x.toNat;omega
  rw[this];omega
theorem HS(k:IntKind):∀l:Aj,Ad k l=l.map fun n=>.sc (.int k n)
 |[]=>rfl
 |x::l=>by
  show PV.sc (.int k x)::Ad k l=_;rw[HS k l];rfl
end
section
open Go Go.RowKit
theorem F1.refl(w:World)(b o n:Nat):F1 w w b o n:=⟨rfl,rfl,rfl,Cs _,Io.refl _ _,fun _ _ _=>rfl,fun _ _=>rfl,fun _ _=>rfl⟩
theorem F1.trans{w w' w'':World}{b o n:Nat}(h:F1 w w' b o n)(k:F1 w' w'' b o n):F1 w w'' b o n:=
 ⟨k.os.trans h.os,k.tape.trans h.tape,k.output.trans h.output,Nat.le_trans h.size k.size,h.grow.trans k.grow,fun i hi Hp=>(k.other i (Gf hi h.size) Hp).trans (h.other i hi Hp),fun j hj=>(k.cells j hj).trans (h.cells j hj),fun j hj=>(k.frz j hj).trans (h.frz j hj)⟩
theorem F1.below{w w' w'':World}{b o n:Nat}(h:F1 w w' b o n)(k:Below w.heap.size w' w'')(hb:b<w.heap.size):F1 w w'' b o n:=
 ⟨k.os.trans h.os,k.tape.trans h.tape,k.output.trans h.output,Nat.le_trans h.size k.size,h.grow.trans (Io.same (k.block b hb)),fun i hi Hp=>(k.block i hi).trans (h.other i hi Hp),fun j hj=>(k.cell (p:=⟨b,j,none⟩) hb).trans (h.cells j hj),fun j hj=>(k.frozen (p:=⟨b,j,none⟩) hb).trans (h.frz j hj)⟩
theorem F1.drew{w w':World}{b o n:Nat}(h:F1 w w' b o n):F1 w w'.drew b o n:=⟨h.os,h.tape,h.output,h.size,h.grow,h.other,h.cells,h.frz⟩
theorem F1.setCell(w:World)(b o n j:Nat)(v:Value)(hj:o<=j)(hj2:j<o+n)(hb:b<w.heap.size):F1 w (w.setCell ⟨b,j,none⟩ v) b o n:=by have hw:Ev b w (w.setCell ⟨b,j,none⟩ v):=Ev.setCells b [v] j w;refine⟨hw.os,hw.tape,hw.output,Nat.le_of_eq hw.size.symm,hw.grow b,fun k hk Hp=>hw.other k Hp,fun i hi=>?_,fun i _=>hw.frz i⟩;exact World.cell?_setCell_other _ _ _ _ (by intro e;injection e;omega)
theorem HO{T e:TypeId}{B c:Nat}{bs:List Value}{W W':World}{b o n:Nat}(h:Lib.IsBuilderF T e B c bs W)(hk:F1 W W' b o n)(hb:b<B):Lib.IsBuilderF T e B c bs W':=by
 have key:∀p,Lib.BuilderAtF T e B c p bs W->Lib.BuilderAtF T e B c p bs W':=by
  intro p h;have Cq:=h.lt;obtain⟨hB,v,hv,Ix,Hp⟩:=h;refine⟨hB,v,(hk.other c Cq (by omega)).trans hv,Ix.kept (row:=some b) ⟨hk.os,hk.tape,hk.output,hk.size,fun k Pk A1x=>hk.other k Pk (fun e=>A1x (by rw[e]))⟩ ?_,Hp⟩;rcases Ix.2 with⟨rfl,_⟩|⟨g,cap,cur,fz,rfl,hg,_⟩
  ·exact .inl rfl
  ·refine .inr (fun e=>?_);simp[Value.ownBlock] at e;omega
 exact h.imp (key _) (key _)
def GR:CK:=⟨fun _=>False,fun _=>True,fun _ _ _ _=>trivial⟩
def noR:FuncId->Option (Ae->Option A4):=fun _=>none
theorem Aq1:GX GR prog (CX noR):=by intro f g args res h _;have h':(bif FO.any (Nat.beq f) then none else (none:Option (Ae->Option A4)))=some g:=h;cases hb:FO.any (Nat.beq f)<;>rw[hb] at h'<;>cases h'
theorem ngR:NoNG prog:=by
 have h:(prog.funcs.toList.all fun fn=> !(fn.name == "runtime.NumGoroutine"))=true:=by kernel_rfl
 intro f fn hf;have:=List.all_eq_true.1 h fn (Array.mem_toList_iff.2 (Array.mem_of_getElem? hf))
 simpa using this
theorem mxR:prog.follows .mixedOrders=true:=by kernel_rfl
structure GQ(w:World)(b o:Nat)(t:ByteArray)(r:Aj):Prop where
 lt:b<w.heap.size
 c0:w.cell? ⟨b,o,none⟩=some (.string t)
 c1:w.cell? ⟨b,o+1,none⟩=some (.int .i64 (B9 t r:Int))
 f0:w.frozen? ⟨b,o,none⟩=false
 f1:w.frozen? ⟨b,o+1,none⟩=false
theorem YK{f:FuncId}{t:ByteArray}{r r':Aj}{args vals:Ae}{us rs:List Value}{d:Nat}(e:Ac (CX noR) prog 2000 d f (.pbox (De t r)::args)=some ⟨vals,[De t r']⟩)(ha:Bj RU args us)(hr:Bj RU vals rs){w:World}{b o:Nat}(h:GQ w b o t r):Calls prog f (.pointer (some ⟨b,o,none⟩)::us).toArray w fun e w'=>e=.returned (J9 rs)/\GQ w' b o t r'/\F1 w w' b o 2:=by
 have hs:C6 GR prog f (.pbox ([Value.string t,.int .i64 (B9 t r:Int)].map .sc)::args) ⟨vals,[[Value.string t,.int .i64 (B9 t r':Int)].map .sc]⟩:=Dm ngR mxR Aq1 d f _ _ e;refine (UZ hs ha hr (w:=w) (b:=b) (o:=o) trivial (fun _ h=>h.elim) h.lt ?_ ?_).mono ?_
 ·intro j v hv
  match j,hv with
  |0,hv=>cases hv;exact h.c0
  |1,hv=>cases hv;exact h.c1
 ·intro j hj
  match j,hj with
  |0,_=>exact h.f0
  |1,_=>exact h.f1
 ·rintro e w' ⟨rfl,_,h4,h5,hk⟩
  exact⟨rfl,⟨Gf h.lt hk.size,h4 0 _ rfl,h4 1 _ rfl,h5 0 (Nat.zero_lt_succ _),h5 1 (Nat.succ_lt_succ (Nat.zero_lt_succ _))⟩,hk⟩
theorem Js{t:ByteArray}{r w0:Aj}(hS:D7 t r)(ht:t.size<=1000000)(hw:Cm w0)(hw2:w0.length<=100){w:World}{b o:Nat}(h:GQ w b o t r):
  Calls prog 138 #[.pointer (some ⟨b,o,none⟩),.string (Ab w0)] w fun e w'=>e=.returned (.bool (A8 w0 r).isSome)/\GQ w' b o t ((A8 w0 r).getD r)/\F1 w w' b o 2:=by
 have e:=Yt (fu:=2000) (d:=0) (xs:=noR) hS ht hw hw2;cases hq:A8 w0 r with
 |none=>
  rw[hq] at e;exact YK (us:=[.string (Ab w0)]) (rs:=[.bool false]) e ⟨.inl rfl,trivial⟩ ⟨.inl rfl,trivial⟩ h
 |some r'=>
  rw[hq] at e;exact YK (us:=[.string (Ab w0)]) (rs:=[.bool true]) e ⟨.inl rfl,trivial⟩ ⟨.inl rfl,trivial⟩ h
theorem Alp{t:ByteArray}{r:Aj}(hS:D7 t r)(ht:t.size<=1000000){w:World}{b o:Nat}(h:GQ w b o t r):
  Calls prog 158 #[.pointer (some ⟨b,o,none⟩)] w fun e w'=>e=.returned (.tuple #[.int .i32 ((Sx r).1.getD 0),.bool (Sx r).1.isSome])/\GQ w' b o t (Sx r).2/\F1 w w' b o 2:=by
 have e:=A9e (fu:=2000) (d:=0) (xs:=noR) (by omega) hS ht;exact YK (us:=[]) (rs:=[.int .i32 ((Sx r).1.getD 0),.bool (Sx r).1.isSome]) e trivial ⟨.inl rfl,.inl rfl,trivial⟩ h
end
section
open Go Go.RowKit Go.Lib
def Bc5(o:Option Aj):Value:=.tuple #[.string (Ab (o.getD [])),.bool o.isSome]
theorem GQ.below{B:Nat}{w w':World}{b o:Nat}{t:ByteArray}{r:Aj}(h:GQ w b o t r)(hb:Below B w w')(hB:b<B):GQ w' b o t r:=
 ⟨Gf h.lt hb.size,(hb.cell (p:=⟨b,o,none⟩) hB).trans h.c0,(hb.cell (p:=⟨b,o+1,none⟩) hB).trans h.c1,(hb.frozen (p:=⟨b,o,none⟩) hB).trans h.f0,(hb.frozen (p:=⟨b,o+1,none⟩) hB).trans h.f1⟩
theorem As2{l:Aj}(h:Cm l):(Sx l).2.length<=l.length:=by
 have h1:D7 (Ab l) l:=⟨[],by rw[Dd h];rfl⟩
 have:=(Zn h1).len
 rwa [Ag] at this
theorem Aas{l r:Aj}{x:Int}(h:Uz l=(some x,r)):0<=x/\x<=1114111:=by
 have hb:=Jd 4 0 l;unfold Uz at h;rcases hq:BK 4 0 l with⟨o,r1⟩;rw[hq] at h;cases o with
 |none=>cases h
 |some y=>
  have by_:=hb y r1 hq (by omega);simp only at h;split at h
  ·cases h
  split at h
  ·cases h;omega
  split at h
  ·have Iy:=Jd 4 0 (r1.drop 2);unfold Akb at h;rcases Ot:BK 4 0 (r1.drop 2) with⟨o2,r2⟩;rw[Ot] at h;cases o2 with
   |none=>cases h
   |some z=>
    have bz:=Iy z r2 Ot (by omega);simp only at h;split at h
    ·rename_i hz
     have lz:56320<=z/\z<=57343:=by
      unfold Aan at hz
      simpa using hz
     cases h;omega
    ·cases h
  ·cases h
theorem Ada{l r:Aj}{x:Int}(h:Sx l=(some x,r)):0<=x/\x<=1114111:=by
 cases l with
 |nil=>cases h
 |cons c l=>
  have he:Sx (c::l)=if c=117 then Uz l else match CU c with|some x=>(some x,l)|none=>(none,c::l):=rfl
  rw[he] at h;split at h
  ·exact Aas h
  ·rcases WE c with⟨rfl,g⟩|⟨rfl,g⟩|⟨rfl,g⟩|⟨rfl,g⟩|⟨rfl,g⟩|⟨rfl,g⟩|⟨rfl,g⟩|⟨rfl,g⟩|⟨g1,g⟩<;>rw[g] at h<;>cases h<;>omega
set_option maxHeartbeats 4000000 in
theorem Acx{t:ByteArray}{r:Aj}(hS:D7 t r)(ht:t.size<=1000000){w:World}{b o:Nat}(h:GQ w b o t r):
    Calls prog 139 #[.pointer (some ⟨b,o,none⟩)] w fun e w'=>e=.returned (Bc5 (Gb r).1)/\GQ w' b o t (Gb r).2/\F1 w w' b o 2:=by
  have mixed:prog.follows Departure.mixedOrders=true:=by kernel_rfl
  have hac:=Js hS ht (w0:=[34]) (fun x hx=>by simp at hx;omega) (by decide) h
  go_enter Tryz.func139,Tryz.ntmps139
  go_wp2_with (go_at_call 138;refine hac.mono ?_)
  rintro e W1 ⟨rfl,h1,k1⟩
  cases hq:A8 [34] r with
  |none=>
    rw[hq] at h1
    go_wp2
    go_ret2
    have e:Gb r=(none,r):=by
      cases r with
      |nil=>rfl
      |cons c l=>
        have hc:c≠34:=by
          rintro rfl
          unfold A8 at hq
          rw[Cx (by simp[List.isPrefixOf])] at hq
          cases hq
        show (if c=34 then _ else (none,c::l))=_
        rw[Br hc]
    rw[e]
    exact⟨rfl,h1,k1⟩
  |some r1=>
    rw[hq] at h1
    have TE:r=34::r1:=by
      unfold A8 at hq
      split at hq
      · rename_i hp
        obtain⟨s,hs⟩:=List.isPrefixOf_iff_prefix.1 hp
        rw[<-hs] at hq ⊢
        cases hq
        rfl
      · cases hq
    subst TE
    have e:Gb (34::r1)=L7 (r1.length+1) [] r1:=by
      show (if (34:Int)=34 then L7 (r1.length+1) [] r1 else (none,34::r1))=_
      exact Cx rfl
    have hS1:D7 t r1:=hS.tail
    have h2:GQ (W1.alloc (.cells #[.pointer none,.slice none 0 0] 250)) b o t r1:=by
      have hb:Below W1.heap.size W1 (W1.alloc (.cells #[.pointer none,.slice none 0 0] 250)):=(Below.refl _ W1).alloc (Cs _) _
      exact⟨Gf h1.lt hb.size,(hb.cell (p:=⟨b,o,none⟩) h1.lt).trans h1.c0,(hb.cell (p:=⟨b,o+1,none⟩) h1.lt).trans h1.c1,(hb.frozen (p:=⟨b,o,none⟩) h1.lt).trans h1.f0,(hb.frozen (p:=⟨b,o+1,none⟩) h1.lt).trans h1.f1⟩
    have k2:F1 w (W1.alloc (.cells #[.pointer none,.slice none 0 0] 250)) b o 2:=k1.below ((Below.refl _ W1).alloc (Cs _) _ |>.mono k1.size) h.lt
    have hB1:b<W1.heap.size:=h1.lt
    have hw1:w.heap.size<=W1.heap.size:=k1.size
    go_wp2
    go_loopw [] (fun wr=>∃(n:Nat) (out l:Aj),L7 (r1.length+1) [] r1=L7 n out l/\l.length<n/\Cm out/\out.length+4*l.length<=4*t.size/\D7 t l/\GQ wr b o t l/\F1 w wr b o 2/\W1.heap.size<=wr.heap.size/\Lib.IsBuilderF 250 5 W1.heap.size W1.heap.size (u8C out) wr) (fun wr=>match wr.cell? ⟨b,o+1,none⟩ with|some (.int _ p)=>t.size-p.toNat|_=>0)
    case atStart=>
      exact⟨r1.length+1,[],r1,rfl,Nat.lt_succ_self _,(fun x hx=>by cases hx),(by have:=hS1.len;simp;omega),hS1,h2,k2,((Below.refl W1.heap.size W1).alloc (Cs _) _).size,Lib.IsBuilderF.of (Lib.fresh_isBuilder 250 5 W1)⟩
    case round=>
      obtain⟨n,out,l,Hr,hn,hoB,hol,hSl,hat,hk,hws,hI⟩:=hrel
      obtain⟨Cq,hc0,TB,hf0,hf1⟩:=hat
      cases l with
      |nil=>
        rw[HJ] at TB
        go_wp2
        go_region_o
        go_wp2
        go_ret2
        rw[e,Hr]
        obtain⟨m,rfl⟩:∃m,n=m+1:=⟨n-1,by omega⟩
        exact⟨rfl,⟨Cq,hc0,TB,hf0,hf1⟩,hk.drew⟩
      |cons c l=>
        obtain⟨m,rfl⟩:∃m,n=m+1:=⟨n-1,by omega⟩
        obtain⟨bb,hbb,rfl⟩:=hSl.at
        have hll:=hSl.len
        have Vm:B9 t ((bb.toNat:Int)::l)<t.size:=by
          unfold B9
          rw[Po] at hll ⊢
          omega
        have Ajj:=Q5 hSl
        have Aei:t[B9 t ((bb.toNat:Int)::l)]'(Vm)=bb:=by
          rw[Array.getElem?_toList,Array.getElem?_eq_getElem Vm] at hbb
          exact Option.some.inj hbb
        have hcb:=bb.toNat_lt
        generalize hp:B9 t ((bb.toNat:Int)::l)=p at *
        have Bku:(p:Int)<t.size:=by omega
        have kw:F1 wr (wr.setCell ⟨b,o+1,none⟩ (.int .i64 ((p:Int)+1))).drew.drew b o 2:=((F1.setCell wr b o 2 (o+1) _ (by omega) (by omega) Cq).drew).drew
        have F2:=hk.trans kw
        have hI2:=HO hI kw hB1
        have XU:GQ (wr.setCell ⟨b,o+1,none⟩ (.int .i64 ((p:Int)+1))).drew.drew b o t l:=by
          refine⟨Gf Cq kw.size,?_,?_,?_,?_⟩
          · exact (World.cell?_setCell_other _ _ _ _ (by intro e;injection e;omega)).trans hc0
          · have:(B9 t l:Int)=(p:Int)+1:=by omega
            rw[this]
            exact World.cell?_setCell_same _ _ _ TB
          · exact (World.frozen?_setCell _ _ _ _).trans hf0
          · exact (World.frozen?_setCell _ _ _ _).trans hf1
        have Av3:W1.heap.size<=(wr.setCell ⟨b,o+1,none⟩ (.int .i64 ((p:Int)+1))).drew.drew.heap.size:=Nat.le_trans hws kw.size
        have hsm:L7 (m+1) out ((bb.toNat:Int)::l)=if (bb.toNat:Int)<32 then (none,(bb.toNat:Int)::l) else if (bb.toNat:Int)=34 then (some out,l) else if (bb.toNat:Int)=92 then
            (match Sx l with
             |(some x,r')=>L7 m (out++Lib.encodeRuneZ x) r'
             |(none,r')=>(none,r')) else L7 m (out++[(bb.toNat:Int)]) l:=rfl
        rw[hsm] at Hr
        have Bh1:(u8C out).length+4<=140737488355328:=by
          rw[List.length_map]
          omega
        by_cases A7o:(bb.toNat:Int)<32
        · rw[Cx A7o] at Hr
          go_wp2
          go_region_o
          go_wp2
          go_region_o
          go_wp2
          go_ret2
          rw[e,Hr]
          exact⟨rfl,⟨Cq,hc0,by rw[hp];exact TB,hf0,hf1⟩,hk.drew.drew⟩
        · rw[Br A7o] at Hr
          by_cases A6v:(bb.toNat:Int)=34
          · rw[Cx A6v] at Hr
            go_wp2
            go_region_o
            go_wp2
            go_region_o
            go_wp2_with (go_at_call 157;refine (Any.Builder_String_any_k Ahk ZR W1.heap.size W1.heap.size (out.map fun n=>n.toNat.toUInt8) _ (by rw[<-VV hoB];exact hI2) Av3).mono ?_)
            rintro e2 W3 ⟨rfl,_,b3,_⟩
            go_wp2
            go_ret2
            rw[e,Hr]
            exact⟨rfl,XU.below b3 hB1,F2.below (b3.mono hw1) h.lt⟩
          · rw[Br A6v] at Hr
            by_cases Baf:(bb.toNat:Int)=92
            · rw[Cx Baf] at Hr
              have Ez:=Alp hSl.tail ht XU
              go_wp2
              go_region_o
              go_wp2
              go_region_o
              go_wp2_with (go_at_call 158;refine Ez.mono ?_)
              rintro e2 W3 ⟨rfl,Ak8,k3⟩
              have Pp:=F2.trans k3
              have hI3:=HO hI2 k3 hB1
              have A8g:=Nat.le_trans Av3 k3.size
              have hel:=As2 (l:=l) hSl.tail.B
              have BH:=Zn hSl.tail
              rcases hqe:Sx l with⟨oe,le⟩
              rw[hqe] at Ak8 Hr hel BH
              cases oe with
              |none=>
                go_wp2
                go_ret2
                rw[e,Hr]
                exact⟨rfl,Ak8,Pp⟩
              |some x=>
                have Pm:=Ada hqe
                go_wp2_with (go_at_call 159;refine (Any.Builder_WriteRune_k Ahv ZR W1.heap.size W1.heap.size _ x (by omega) (by omega) _ hI3 (by omega) A8g).mono ?_)
                rintro e3 W4 ⟨rfl,i4,b4,_⟩
                go_wp2
                have A78:=Ak8.below b4 hB1
                have hrl:=Lib.encodeRuneZ_length x
                refine⟨⟨m,out++Lib.encodeRuneZ x,le,Hr,by simp at hn hel;omega,Re hoB (fun y hy=>by have:=Lib.encodeRuneZ_byte x y hy;omega),by simp at hol hel ⊢;omega,BH,A78,Pp.below (b4.mono hw1) h.lt,Nat.le_trans A8g b4.size,by rw[Akq];exact Or.inr i4⟩,?_⟩
                have ET:=BH.len
                have hp3:B9 t l<=B9 t le:=by unfold B9;omega
                have hp4:B9 t le<=t.size:=Nat.sub_le _ _
                simp only[A78.c1,TB,Jp]
                omega
            · rw[Br Baf] at Hr
              go_wp2
              go_region_o
              go_wp2
              go_region_o
              go_wp2_with (go_at_call 160;refine (Any.Builder_WriteByte_k Agk ZR W1.heap.size W1.heap.size _ _ _ hI2 (by omega) Av3).mono ?_)
              rintro e2 W3 ⟨rfl,i3,b3,_⟩
              go_wp2
              have Ak8:=XU.below b3 hB1
              refine⟨⟨m,out++[(bb.toNat:Int)],l,Hr,by simp at hn;omega,Re hoB (fun x hx=>by simp at hx;omega),by simp at hol ⊢;omega,hSl.tail,Ak8,F2.below (b3.mono hw1) h.lt,Nat.le_trans Av3 b3.size,by rw[Akq];exact Or.inr i3⟩,?_⟩
              simp only[Ak8.c1,TB,Jp]
              omega
end
section
open Go Go.RowKit
theorem SG{t:ByteArray}:∀(n:Nat)(out l:Aj),D7 t l->D7 t (L7 n out l).2
  |0,_,_,h=>h
  |_+1,_,[],h=>h
  |n+1,out,c::l,h=>by
    have e:L7 (n+1) out (c::l)=if c<32 then (none,c::l) else if c=34 then (some out,l) else if c=92 then
        (match Sx l with
         |(some x,r')=>L7 n (out++Lib.encodeRuneZ x) r'
         |(none,r')=>(none,r')) else L7 n (out++[c]) l:=rfl
    rw[e]
    split
    · exact h
    split
    · exact h.tail
    split
    · have h2:=Zn h.tail
      rcases hq:Sx l with⟨o,r⟩
      rw[hq] at h2
      cases o with
      |none=>exact h2
      |some x=>exact SG n _ r h2
    · exact SG n _ l h.tail
theorem Jj{t:ByteArray}{l:Aj}(h:D7 t l):D7 t (Gb l).2:=by
 cases l with
 |nil=>exact h
 |cons c l=>
  have e:Gb (c::l)=if c=34 then L7 (l.length+1) [] l else (none,c::l):=rfl
  rw[e];split
  ·exact SG _ _ _ h.tail
  ·exact h
theorem Ape{w w':World}{Y:Nat->Prop}{bt:HW}{vs vs':List Value}{us:List Value}{b o:Nat}{a c:Value}(hi:Ins w Y bt [.pbox (vs.map .sc)] us)(hb:bt 0 0=some (b,o))(hk:F1 w w' b o vs.length)(hl:vs'.length=vs.length)(hc:∀j v,vs'[j]?=some v->w'.cell? ⟨b,o+j,none⟩=some v)(hf:∀j,j<vs.length->w'.frozen? ⟨b,o+j,none⟩=false):
  Out w w' Y bt [.pbox (vs.map .sc)] (fun _=>none) ⟨[.sc a,.sc c],[vs'.map .sc]⟩ [a,c] where
 os:=hk.os
 tape:=hk.tape
 output:=hk.output
 ext:=⟨hk.size,fun k h Hp=>hk.other k h (fun e=>Hp (by rw[e];exact⟨0,0,o,hb⟩)),fun k h=>by
  by_cases e:k=b
  ·rw[e];exact hk.grow
  ·exact Io.same (hk.other k h e)⟩
 rng:=fun k j h hn=>by
  by_cases e:k=b
  ·subst e
   have hj:j<o\/o+vs.length<=j:=by
    rcases Ik j o with h1|h1
    ·exact .inl h1
    ·rcases Ik j (o+vs.length) with h2|h2
     ·exact absurd ⟨0,_,rfl,.inr ⟨o,vs.map .sc,hb,h1,.inl ⟨rfl,by rw[List.length_map];exact h2⟩⟩⟩ hn
     ·exact .inr h2
   exact⟨hk.cells j hj,hk.frz j hj⟩
  ·have:=hk.other k h e;exact⟨by unfold World.cell?;simp only[this],by unfold World.frozen?;simp only[this]⟩
 vals:=⟨Au.sc a,Au.sc c,trivial⟩
 outs:=⟨⟨b,o,hb,by rw[List.length_map,List.length_map,hl],vs',AC,hc,fun k h=>hf k (by rw[List.length_map,hl] at h;exact h)⟩,rfl⟩
 fresh:=fun j b o h=>by cases h
 inj:=fun j j' b o o' h=>by cases h
theorem Anh(G:CK)(args:Ae)(res:A4)(h:Arq args=some res):C6 G prog 139 args res:=by
 refine⟨⟨_,Tryz.func139,by kernel_rfl⟩,fun w Y bt us hi _ _=>?_⟩;unfold Arq at h;split at h
 rotate_left
 ·cases h
 rename_i t p;cases hq:(decide (0<=p)&&decide (p<=t.size)&&Nat.ble t.size 1000000)
 ·rw[hq] at h;cases h
 rw[hq,cond_true] at h;simp only[E0,Yd] at hq;obtain⟨⟨hp0,Fb⟩,hm⟩:=hq;have hm:=Pf hm;obtain⟨p,rfl⟩:=Int.eq_ofNat_of_zero_le hp0;rw[Jp] at h;have hS:D7 t ((B0 t).drop p):=(D7.all t).drop p
 have Ad6:(B9 t ((B0 t).drop p):Int)=(p:Int):=by
  unfold B9;rw[List.length_drop,Cv];omega
 have ps:=hi.args
 match us,ps with
 |[u1],ps=>
  obtain⟨b,o,hb,rfl,_,vs,LI,hcell,hfr⟩:=ps.1;have X5:=AD (vs:=[.string t,.int .i64 (p:Int)]) LI;subst X5;have hat:GQ w b o t ((B0 t).drop p):=⟨hi.lt b ⟨0,0,o,hb⟩,hcell 0 _ rfl,by rw[Ad6];exact hcell 1 _ rfl,hfr 0 (Nat.zero_lt_succ _),hfr 1 (Nat.succ_lt_succ (Nat.zero_lt_succ _))⟩
  refine (Acx hS hm hat).mono ?_
  rintro e w' ⟨rfl,XU,hk⟩
  rcases hx:Gb ((B0 t).drop p) with⟨o2,r2⟩;rw[hx] at h XU
  have UU:r2.length<=t.size:=by
   have:=Jj hS;rw[hx] at this;exact this.len
  have A6x:(B9 t r2:Int)=(t.size:Int)-r2.length:=by
   unfold B9;omega
  have ML:∀a c:Value,Out w w' Y bt [.pbox ([Value.string t,.int .i64 (p:Int)].map .sc)] (fun _=>none) ⟨[.sc a,.sc c],[[Value.string t,.int .i64 ((t.size:Int)-r2.length)].map .sc]⟩ [a,c]:=by
   intro a c;refine Ape hi hb hk rfl ?_ ?_
   ·intro j v hv
    match j,hv with
    |0,hv=>cases hv;exact XU.c0
    |1,hv=>cases hv;rw[<-A6x];exact XU.c1
   ·intro j hj
    match j,hj with
    |0,_=>exact XU.f0
    |1,_=>exact XU.f1
  cases o2 with
  |none=>
   cases h;exact⟨[.string ⟨#[]⟩,.bool false],fun _=>none,rfl,ML _ _⟩
  |some s=>
   cases h;exact⟨[.string (Ab s),.bool true],fun _=>none,rfl,ML _ _⟩
 |[],ps=>exact ps.elim
 |_::_::_,ps=>exact ps.2.elim
end
section
open Go Go.RowKit Go.Shelf
attribute [local go_sem] Oper.semAt_some
abbrev Bw:=(Int × Int) × Nat
abbrev bwE(x:Bw):Array Value:= #[.int .i64 (x.2:Int),.agg #[.int .i64 x.1.1,.int .i64 x.1.2]]
def bwF(zs:List (Int × Int))(m:Nat):List Bw:=(zs.zipIdx.drop m).reverse
theorem Aev{zs:List (Int × Int)}{m:Nat}{p:Int × Int}(h:zs[m]?=some p):bwF zs m=bwF zs (m+1)++[(p,m)]:=by obtain⟨hm,rfl⟩:=List.getElem?_eq_some_iff.1 h;unfold bwF;rw[List.drop_eq_getElem_cons (by simpa using hm)];simp
theorem Awb(zs:List (Int × Int)):bwF zs zs.length=[]:=by simp[bwF]
theorem Aw8(zs:List (Int × Int))(m:Nat):(bwF zs m).length=zs.length-m:=by simp[bwF]
theorem Aj4(zs:List (Int × Int))(m:Nat):(bwF zs m).map (·.1)=(zs.drop m).reverse:=by simp[bwF,List.map_reverse,List.map_drop]
def YA(n₀:Nat)(W:World)(sv:Value)(zs:List (Int × Int)):Prop:=
 (∃ad q,sv=.slice ad 0 q/\zs=[])\/∃b off cap,sv=.slice (some ⟨b,off,none⟩) zs.length cap/\b<n₀/\∀j p,zs[j]?=some p->W.cell? ⟨b,off+j*2,none⟩=some (.int .i64 p.1)/\W.cell? ⟨b,off+j*2+1,none⟩=some (.int .i64 p.2)
theorem YA.below{n₀:Nat}{A B:World}(h:Below n₀ A B){sv:Value}{zs:List (Int × Int)}:YA n₀ A sv zs->YA n₀ B sv zs
 |.inl e=>.inl e
 |.inr ⟨b,off,cap,e,hb,hc⟩=>.inr ⟨b,off,cap,e,hb,fun j p hp=>⟨(h.cell (p:=⟨b,off+j*2,none⟩) hb).trans (hc j p hp).1,(h.cell (p:=⟨b,off+j*2+1,none⟩) hb).trans (hc j p hp).2⟩⟩
theorem YA.up{n:Nat}{W:World}{sv:Value}{zs:List (Int × Int)}:YA n W sv zs->YA (n+2) W sv zs
 |.inl e=>.inl e
 |.inr ⟨b,off,cap,e,hb,hc⟩=>.inr ⟨b,off,cap,e,Nat.lt_add_right 2 hb,hc⟩
set_option maxHeartbeats 4000000 in
theorem A2z(m l Bs n₀ b off cap:Nat)(zs:List (Int × Int))(hl:zs.length<=1000)(hb:b<n₀)(J Jx:List Bw->World->Prop)(hY:∀pre x W,J pre W->pre.length<zs.length->YieldAt Fence.wide (m-1) prog l (bwE x) W fun e W'=>
   (e=.returned (.bool true)/\J (pre++[x]) W'/\Below n₀ W W')\/(e=.returned (.bool false)/\Jx (pre++[x]) W'))(W:World)(hBs:W.cell? ⟨Bs,0,none⟩=some (.slice (some ⟨b,off,none⟩) zs.length cap))(hc:∀j p,zs[j]?=some p->W.cell? ⟨b,off+j*2,none⟩=some (.int .i64 p.1)/\W.cell? ⟨b,off+j*2+1,none⟩=some (.int .i64 p.2))(hB0:Bs<n₀)(h0:J [] W):
  CallsIn Fence.wide m prog 107 #[.func (.yield l) #[] #[],.pointer (some ⟨Bs,0,none⟩)] W fun e W'=>(∃v,e=.returned v) /\
   ((∃ys,ys=bwF zs 0/\J ys W')\/(∃pre,(∃k,pre=bwF zs k)/\Jx pre W')):=by
 refine callsIn_of_wp Tryz.func107 rfl trivial ?_ rfl;simp only[Tryz.ntmps107,List.size_toArray,Po,NS,Nat.reduceAdd,Nat.reduceSub,Array.replicate_succ,Array.replicate_zero,List.push_toArray,List.append_toArray,NL,Zzp]
 gi_wp2
 gi_loopw [3] (fun i wr=>∃k:Nat,k<=zs.length/\i=.int .i64 ((k:Int)-1)/\J (bwF zs k) wr/\Below n₀ W wr) (fun i _=>(intOf i+1).toNat)
 case atStart=>exact⟨zs.length,Cs _,rfl,by rw[Awb];exact h0,Below.refl _ _⟩
 case round=>
  obtain⟨k,hk,rfl,hJs,hnx⟩:=hrel;cases k with
  |zero=>
   gi_wp2
   go_end0
   exact⟨⟨_,rfl⟩,.inl ⟨_,rfl,hJs⟩⟩
  |succ k=>
   obtain⟨p,hp⟩:∃p,zs[k]?=some p:=⟨_,List.getElem?_eq_getElem (by omega)⟩
   obtain⟨c1,c2⟩:=hc k p hp;have c1':=(hnx.cell (p:=⟨b,off+k*2,none⟩) hb).trans c1;have c2':=(hnx.cell (p:=⟨b,off+k*2+1,none⟩) hb).trans c2;have hBx:=(hnx.cell (p:=⟨Bs,0,none⟩) hB0).trans hBs;obtain⟨fn,tmps,assign,body,hy,hR⟩:=hY _ (p,k) wr hJs (by rw[Aw8];omega)
   rw[show (((k+1:Nat):Int)-1)=(k:Int) by omega]
   gi_wp2
   refine⟨fun h=>(by cases h),hR.mono ?_⟩
   rintro e W3 (⟨rfl,hJ3,Pp⟩|⟨rfl,Bes⟩)
   ·gi_wp2
    go_roundw
    case rel=>exact⟨k,by omega,rfl,by rw[Aev hp];exact hJ3,hnx.trans Pp⟩
    case measure=>simp[intOf]
   ·gi_wp2
    refine bodyPost_ret (results_none rfl _ _ _) rfl ?_;exact⟨⟨_,rfl⟩,.inr ⟨_,⟨k,(Aev hp).symm⟩,Bes⟩⟩
set_option maxHeartbeats 2000000 in
theorem A4h{m l B q:Nat}{ad:Option Addr}{J:World->Prop}{W:World}(hB:W.cell? ⟨B,0,none⟩=some (.slice ad 0 q))(h0:J W):CallsIn Fence.wide m prog 107 #[.func (.yield l) #[] #[],.pointer (some ⟨B,0,none⟩)] W fun e W'=>(∃v,e=.returned v)/\J W':=by
 refine callsIn_of_wp Tryz.func107 rfl trivial ?_ rfl;simp only[Tryz.ntmps107,List.size_toArray,Po,NS,Nat.reduceAdd,Nat.reduceSub,Array.replicate_succ,Array.replicate_zero,List.push_toArray,List.append_toArray,NL,Zzp]
 gi_wp2
 gi_loopw [3] (fun i wr=>i=.int .i64 (-1)/\J wr) (fun _ _=>0)
 case atStart=>exact⟨rfl,h0⟩
 case round=>
  obtain⟨rfl,hj⟩:=hrel
  gi_wp2
  go_end0
  exact⟨⟨_,rfl⟩,hj⟩
theorem Aoz(m Bs n₀:Nat)(sv:Value)(zs:List (Int × Int))(hl:zs.length<=1000)(w:World)(hBs:Bs<n₀)(hn₀:n₀<=w.heap.size)(hc:w.cell? ⟨Bs,0,none⟩=some sv)(hI:YA n₀ w sv zs):
  SeqStopsK Fence.wide m prog 107 #[.pointer (some ⟨Bs,0,none⟩)] bwE (Below n₀) (fun ys=>ys=bwF zs 0) (fun pre=>∃k,pre=bwF zs k) zs.length w:=fun l J Jx W hW _ _ hY h0=>by
 have Rd:=(hW.cell (p:=⟨Bs,0,none⟩) (by show Bs<_;omega)).trans hc
 rcases hI.below (hW.mono hn₀) with⟨ad,q,rfl,rfl⟩|⟨b,off,cap,rfl,hb,LI⟩
 ·exact (A4h (J:=J []) Rd h0).mono fun e W' ⟨he,hj⟩=>⟨he,.inl ⟨_,rfl,hj⟩⟩
 ·exact A2z m l Bs n₀ b off cap zs hl hb J Jx hY W Rd LI hBs h0
set_option maxHeartbeats 2000000 in
theorem Awp(ad:Option Addr)(m:Nat)(w:World)(k q:Nat):CallsIn Fence.wide m prog 72 #[.slice ad k q] w fun e w'=>
  e=.returned (.func (.func 107) #[] #[.pointer (some ⟨w.heap.size,0,none⟩)])/\w'=w.alloc (.cells #[.slice ad k q] 71):=by
 refine callsIn_of_wp Tryz.func72 rfl trivial ?_ rfl;simp only[Tryz.ntmps72,List.size_toArray,Po,NS,Nat.reduceAdd,Nat.reduceSub,Array.replicate_succ,Array.replicate_zero,List.push_toArray,List.append_toArray,NL,Zzp]
 gi_wp2
 go_ret
 exact⟨rfl,rfl⟩
theorem Afk{now:Int}{zs:List (Int × Int)}(h:∀x∈bwF zs 0,now<x.1.2):Zx now zs=0:=by
 unfold Zx
 have:zs.reverse.find? (fun p=>decide (p.2<=now))=none:=by
  rw[List.find?_eq_none];intro p hp;have e:=Aj4 zs 0;rw[Ma] at e;rw[<-e] at hp;obtain⟨x,hx,rfl⟩:=List.mem_map.1 hp;have:=h x hx;simp only[Yd];omega
 rw[this]
theorem Ad2{now:Int}{zs:List (Int × Int)}{k:Nat}{ini:List Bw}{x:Bw}(e:bwF zs k=ini++[x])(h:∀y∈ini,now<y.1.2)(hx:x.1.2<=now):Zx now zs=x.1.1:=by
 unfold Zx;have e1:=congrArg (List.map (·.1)) e;rw[Aj4] at e1
 have e2:zs.reverse=(ini.map (·.1)++[x.1])++(zs.take k).reverse:=by
  rw[<-List.take_append_drop k zs,List.reverse_append,e1];simp
 have e3:(ini.map (·.1)).find? (fun p=>decide (p.2<=now))=none:=by
  rw[List.find?_eq_none];intro p hp;obtain⟨y,hy,rfl⟩:=List.mem_map.1 hp;have:=h y hy;simp only[Yd];omega
 rw[e2,List.find?_append,List.find?_append,e3];simp[hx]
set_option maxHeartbeats 8000000 in
theorem A16{v i x lf model now:Int}{b1 b2 b3:Option Addr}{n1 n2 n3 k1 k2 k3:Nat}{zs:List (Int × Int)}(hl:zs.length<=1000){w:World}(hlk:∀W,Below w.heap.size w W->Calls prog 35 #[.agg #[.int .i64 v,.int .i64 i,.int .i64 x,.slice b1 n1 k1,.int .i64 lf,.slice b2 n2 k2,.slice b3 n3 k3],.int .u64 model] W fun e W'=>
   ∃k a m q a' m' q' b,e=.returned (.tuple #[.agg #[.int .u64 k,.slice a m q,.slice a' m' q'],.bool b])/\Below W.heap.size W W'/\YA W'.heap.size W' (.slice a' m' q') zs):
  Calls prog 38 #[.agg #[.int .i64 v,.int .i64 i,.int .i64 x,.slice b1 n1 k1,.int .i64 lf,.slice b2 n2 k2,.slice b3 n3 k3],.int .u64 model,.int .i64 now] w fun e w'=>e=.returned (.int .i64 (Zx now zs))/\Below w.heap.size w w':=by
 refine callsIn_wide.1 (callsIn_of_wp_marks (F:=Fence.wide) (n:=3) Tryz.func38 rfl trivial ?_ rfl);simp only[Tryz.ntmps38,List.size_toArray,Po,NS,Nat.reduceAdd,Nat.reduceSub,Array.replicate_succ,Array.replicate_zero,List.push_toArray,List.append_toArray,NL,Zzp]
 gi_wp2_with ((try refine⟨trivial,?_⟩);first|(refine (callsIn_wide.2 (hlk _ (by go_grown))).mono ?_;rintro e w' ⟨k,a,m,q,a',m',q',b,rfl,hb,hs⟩)|(refine (Awp _ _ _ _ _).mono ?_;rintro e w'' ⟨rfl,rfl⟩))
 have c5:w'.cell? ⟨w.heap.size+1,0,none⟩=some (.int .i64 now):=(hb.cell (by simp)).trans (by go_simp);have c6:w'.cell? ⟨w.heap.size+1+1,0,none⟩=some (.int .i64 0):=(hb.cell (by simp)).trans (by go_simp);have f6:w'.frozen? ⟨w.heap.size+1+1,0,none⟩=false:=(hb.frozen (by simp)).trans (by go_simp);have hz:w.heap.size+3<=w'.heap.size:=by have:=hb.size;simp at this;omega
 have F3:Below w.heap.size w w':=(show Below w.heap.size w _ by go_grown).trans (hb.mono (by simp;omega))
 have Iy:Below w'.heap.size w' ((w'.alloc (Obj.cells #[Value.int IntKind.u64 k,Value.slice a m q,Value.slice a' m' q'] 73)).alloc (Obj.cells #[Value.slice a' m' q'] 71)):=by go_grown
 have ES:((w'.alloc (Obj.cells #[Value.int IntKind.u64 k,Value.slice a m q,Value.slice a' m' q'] 73)).alloc (Obj.cells #[Value.slice a' m' q'] 71)).cell? ⟨w'.heap.size+1,0,none⟩=some (.slice a' m' q'):=by go_simp
 have HY:((w'.alloc (Obj.cells #[Value.int IntKind.u64 k,Value.slice a m q,Value.slice a' m' q'] 73)).alloc (Obj.cells #[Value.slice a' m' q'] 71)).heap.size=w'.heap.size+2:=by simp
 generalize (w'.alloc (Obj.cells #[Value.int IntKind.u64 k,Value.slice a m q,Value.slice a' m' q'] 73)).alloc (Obj.cells #[Value.slice a' m' q'] 71)=W0 at Iy ES HY ⊢;generalize Value.tuple #[Value.agg #[Value.int IntKind.u64 k,Value.slice a m q,Value.slice a' m' q'],Value.bool b]=tv;generalize Value.agg #[Value.int IntKind.u64 k,Value.slice a m q,Value.slice a' m' q']=xv;generalize Value.agg #[Value.int IntKind.i64 v,Value.int IntKind.i64 i,Value.int IntKind.i64 x,Value.slice b1 n1 k1,Value.int IntKind.i64 lf,Value.slice b2 n2 k2,Value.slice b3 n3 k3]=mv
 refine wpIn_rangeFunc_ownH rfl (by omega) (gf:=107) (lb:= #[.pointer (some ⟨w'.heap.size+1,0,none⟩)]) rfl trivial (enters_of Tryz.func107 (by kernel_rfl) rfl)
  (Aoz 2 (w'.heap.size+1) (w'.heap.size+2) (.slice a' m' q') zs hl W0 (by omega) (by omega) ES (hs.below Iy).up) belowK_t (belowK_b (by omega)) (Below.refl _ _) (fun _=>rfl)
  (fun pre W=>((∀x∈pre,now<x.1.2)/\w'.heap.size+2<=W.heap.size/\W.cell? ⟨w.heap.size+1,0,none⟩=some (.int .i64 now)/\W.cell? ⟨w.heap.size+1+1,0,none⟩=some (.int .i64 0)/\W.frozen? ⟨w.heap.size+1+1,0,none⟩=false)/\Below w.heap.size w W)
  (fun c pre W=>(c=.ret/\∃ini x,pre=ini++[x]/\(∀y∈ini,now<y.1.2)/\x.1.2<=now/\W.cell? ⟨w.heap.size+1+1,0,none⟩=some (.int .i64 x.1.1))/\Below w.heap.size w W)
  (OwnFrom.and (Own.from (fun s A B row hs hg hr=>⟨hs.1,Nat.le_trans hs.2.1 hg.size,cell_kept hs.2.2.1 hg hr,cell_kept hs.2.2.2.1 hg hr,(frozen_kept hs.2.2.2.1 hg hr).trans hs.2.2.2.2⟩) _) (ownFrom_below (Cs _) (by omega)))
  (fun c=>OwnFrom.and (Own.from (fun s A B row hs hg hr=>by obtain⟨hc,ini,x,e1,e2,e3,e4⟩:=hs;exact⟨hc,ini,x,e1,e2,e3,cell_kept e4 hg hr⟩) _) (ownFrom_below (Cs _) (by omega)))
  ⟨⟨by simp,by omega,(Iy.cell (by show w.heap.size+1<_;omega)).trans c5,(Iy.cell (by show w.heap.size+1+1<_;omega)).trans c6,(Iy.frozen (by show w.heap.size+1+1<_;omega)).trans f6⟩,F3.trans (Iy.mono (by omega))⟩
  (fun x c W=>∃B,c={ tmps:= #[mv,.int .u64 model,.int .i64 now,.pointer (some ⟨w.heap.size,0,none⟩),undef,.pointer (some ⟨w.heap.size+1,0,none⟩),.pointer (some ⟨w.heap.size+1+1,0,none⟩),.pointer (some ⟨w'.heap.size,0,none⟩),.bool b,undef,.pointer (some ⟨B,0,none⟩),tv,mv,.int .u64 model,tv,xv,.bool b,.pointer (some ⟨w'.heap.size,2,none⟩),.slice a' m' q',.func (.func 107) #[] #[.pointer (some ⟨w'.heap.size+1,0,none⟩)],.int .i64 (x.2:Int),.agg #[.int .i64 x.1.1,.int .i64 x.1.2],undef,undef,undef,undef,undef,undef],defers:=[] }/\W.cell? ⟨B,0,none⟩=some (.int .i64 x.1.1)/\W.cell? ⟨B,1,none⟩=some (.int .i64 x.1.2))
  (fun x c=>Own.from (fun s A B row hs hg hr=>by obtain⟨b,e,h1,h2⟩:=hs;exact⟨b,e,cell_kept h1 hg hr,cell_kept h2 hg hr⟩) _) ?assign ?body ?done ?stop
 case assign=>
  intro l pre x W K hI hK
  gi_wp2
  exact hK _ _ ((KeepsOthers.alloc W _).from _) ((Below.refl _ W).alloc hI.1.2.1 _) ⟨⟨hI.1.1,by simp;have:=hI.1.2.1;omega,cell_kept hI.1.2.2.1 (World.grownBy_alloc W _ none) (fun r e=>by cases e),cell_kept hI.1.2.2.2.1 (World.grownBy_alloc W _ none) (fun r e=>by cases e),(frozen_kept hI.1.2.2.2.1 (World.grownBy_alloc W _ none) (fun r e=>by cases e)).trans hI.1.2.2.2.2⟩,hI.2.alloc (by have:=hI.2.size;omega) _⟩ ⟨W.heap.size,rfl,by go_simp,by go_simp⟩
 case body=>
  rintro l pre x c W hl _ ⟨⟨hp,hz2,c5,c6,f6⟩,hB⟩ ⟨B,rfl,h1,h2⟩ _
  gi_wp2
  ·exact⟨(KeepsOthers.setCell _ _ _).from _,⟨rfl,pre,x,rfl,hp,(by assumption),World.cell?_setCell_same' _ _ _ (by rw[c6];rfl)⟩,hB.setCell (p:=⟨w.heap.size+1+1,0,none⟩) (by show _<=w.heap.size+1+1;omega) _⟩
  ·have hx:now<x.1.2:=(by assumption)
   exact⟨KeepsFrom.refl _ _,Below.refl _ _,⟨fun p D1=>(Bx.1 D1).elim (hp p) (fun e=>by simp at e;subst e;exact hx),hz2,c5,c6,f6⟩,hB⟩
 case done=>
  rintro D ys W hD rfl ⟨⟨hp,hz2,c5,c6,f6⟩,hB⟩ hK
  gi_wp2
  have hK':=(KeepsOthers.setCell W ⟨w.heap.size+1+1,0,none⟩ (.int .i64 0)).same _ _ hK rfl;refine⟨by simp,.inl ⟨_,_,rfl,run_takeDeferred hK',?_⟩⟩;have hc5:=cell_kept (World.cell?_setCell_same' W ⟨w.heap.size+1+1,0,none⟩ (.int .i64 0) (by rw[c6];rfl)) (grownBy_putObj' _ D (.deferred none)) (fun r e=>by cases e;exact⟨_,hK',rfl⟩)
  refine⟨.int .i64 0,?_,by rw[Afk hp],(hB.setCell (by show _<=w.heap.size+1+1;omega) _).trans (belowK_b (w:=w) (Cs _) _ _ _ _ (by omega) hK' rfl rfl)⟩
  simp[results,Tryz.f38,go_sem,hc5]
 case stop=>
  rintro D c pre W hD ⟨k,rfl⟩ ⟨⟨rfl,ini,x,e1,e2,e3,c6⟩,hB⟩ hK
  gi_wp2
  refine⟨by simp,.inl ⟨_,_,rfl,run_takeDeferred hK,?_⟩⟩;have hc5:=cell_kept c6 (grownBy_putObj' _ D (.deferred none)) (fun r e=>by cases e;exact⟨_,hK,rfl⟩)
  refine⟨.int .i64 x.1.1,?_,by rw[Ad2 e1 e2 e3],hB.trans (belowK_b (w:=w) (Cs _) W D _ _ (by omega) hK rfl rfl)⟩;simp[results,Tryz.f38,go_sem,hc5]
theorem Yy{w:World}{S:Nat->Prop}{es n:Nat}{c:Ae}{v:Value}(h:Au w S (.lst false es n c) v):∃p m k,v=.slice p m k:=by cases h<;>exact⟨_,_,_,rfl⟩
theorem A6u{w:World}{S:Nat->Prop}{v:Value}{zs:List (Int × Int)}(h:Au w S (.lst false 2 zs.length (CE zs)) v):YA w.heap.size w v zs:=by
 generalize hn:zs.length=n at h;generalize hc:CE zs=c at h;cases h with
 |lnil=>exact .inl ⟨_,_,rfl,List.length_eq_zero_iff.1 hn⟩
 |lemp=>exact .inl ⟨_,_,rfl,List.length_eq_zero_iff.1 hn⟩
 |lst _ _ _ a cap f hs hb hA DH Se h1 hr=>
  subst hn hc;obtain⟨b,o,s⟩:=a;obtain rfl:s=none:=hs;refine .inr ⟨b,o,cap,rfl,hb,fun j p hp=>?_⟩;obtain⟨e0,e1⟩:=Auo hp;have hl:=(List.getElem?_eq_some_iff.1 hp).1;have L:=UG zs
  have g:∀{k:Nat} {x:Int},(CE zs).getD k .top=Aw x->k<(CE zs).length->w.cell? ⟨b,o+k,none⟩=some (.int .i64 x):=fun {k x} e hk=>by
   have e':(CE zs)[k]?=some (Aw x):=by rw[List.getD_eq_getElem?_getD,List.getElem?_eq_getElem hk,Option.getD_some] at e;rw[List.getElem?_eq_getElem hk,e]
   have h2:=hr k _ e';have h3:=Au.val h2;have h4:=Se k _ e';rw[Fo,h3] at h4;exact h4
  exact⟨g e0 (by omega),g e1 (by omega)⟩
theorem Ahp{G:CK}{args:Ae}{r:A4}(h:Ajw args=some r):C6 G prog 38 args r:=by
 unfold Ajw at h;split at h
 rotate_left
 ·cases h
 rename_i v i x n c lf n1 c1 n2 c2 model now;cases hb:(Nat.beq c.length (n*3)&&Nat.ble n 1000)
 ·rw[hb,cond_false] at h;cases h
 rw[hb,cond_true] at h;simp only[E0] at hb;cases he:Vw c with
 |none=>rw[he] at h;cases h
 |some es=>
  rw[he] at h;simp only at h;cases hp:Ql (Al6 model es) with
  |none=>rw[hp] at h;cases h
  |some l=>
   rw[hp] at h;cases h;obtain⟨rfl,hf⟩:=Ae3 he;have hl:(Wy es).length=es.length*3:=RF En.cells_len es;have hn:n=es.length:=by have:=Dc hb.1;omega
   subst hn;have A6l:=Pf hb.2;obtain⟨bq,el⟩:=At2 (xs:=noR) (fu:=2000) (d:=5) (es:=es) A6l (by omega) hf v i x lf model n1 n2 c1 c2;have Al1:=Alv (model:=model) hf;have hfs:(Th model es).st=CE l:=(Atc model es).trans (YM hp);generalize Th model es=E at el Al1 hfs
   have hns:E.ns=l.length:=by
    have h1:=Al1.2.1;rw[hfs,UG] at h1;omega
   have hll:l.length<=1000:=by have:=Al1.2.2.2;omega
   have S:=Dm ngR mxR (C:=CX noR) (G:=GR) Aq1 _ _ _ _ el;refine⟨⟨_,Tryz.func38,by kernel_rfl⟩,fun w Y bt us hi _ _=>?_⟩;have ps:=hi.args
   match us,ps with
   |[u0,u1,u2],⟨⟨vs,e,_,h0⟩,h1,h2,_⟩=>
    subst e
    match vs,h0 with
    |[v0,v1,v2,v3,v4,v5,v6],⟨k0,k1,k2,k3,k4,k5,k6,_⟩=>
     obtain rfl:v0=.int .i64 v:=Au.val (w:=w) k0;obtain rfl:v1=.int .i64 i:=Au.val (w:=w) k1;obtain rfl:v2=.int .i64 x:=Au.val (w:=w) k2;obtain⟨p3,m3,q3,rfl⟩:=Yy k3;obtain rfl:v4=.int .i64 lf:=Au.val (w:=w) k4;obtain⟨p5,m5,q5,rfl⟩:=Yy k5;obtain⟨p6,m6,q6,rfl⟩:=Yy k6;obtain rfl:u1=.int .u64 model:=Au.val (w:=w) h1.2;obtain rfl:u2=.int .i64 now:=Au.val (w:=w) h2.2;refine (A16 hll ?_).mono ?_
     ·intro W hW;have up:∀{p:PV} {v:Value},Au w (fun b=>BtX bt b\/Y b) p v->Au W (fun _=>False) p v:=fun h=>h.step ⟨hW.size,fun b hb _=>hW.block b hb,fun b hb=>Io.same (hW.block b hb)⟩ fun _ _ h=>h.elim;refine (S.2 W (fun _=>False) Abd [.agg #[.int .i64 v,.int .i64 i,.int .i64 x,.slice p3 m3 q3,.int .i64 lf,.slice p5 m5 q5,.slice p6 m6 q6],.int .u64 model] (OU (fun _ h=>h.elim) ⟨⟨_,rfl,⟨trivial,.sc _⟩,⟨trivial,.sc _⟩,⟨trivial,.sc _⟩,⟨trivial,up k3⟩,⟨trivial,.sc _⟩,⟨trivial,up k5⟩,⟨trivial,up k6⟩,trivial⟩,⟨trivial,.sc _⟩,trivial⟩) trivial (fun _ h=>h.elim)).mono ?_
      rintro e W' ⟨vs,own,rfl,ho⟩
      have hv:=ho.vals
      match vs,hv with
      |[x0,x1],⟨⟨ys,e0,y⟩,y1,_⟩=>
       match ys,y with
       |[y0,a0,s0],⟨z0,z1,z2,_⟩=>
        obtain rfl:y0=.int .u64 E.k:=Au.val (w:=W') z0;obtain⟨a,m,q,rfl⟩:=Yy z1;obtain rfl:x1=.bool bq:=Au.val (w:=W') y1;have z2:Au W' _ (.lst false 2 E.ns E.st) s0:=z2;rw[hfs,hns] at z2;have Hr:=A6u z2;obtain⟨a',m',q',rfl⟩:=Yy z2;subst e0;exact⟨E.k,a,m,q,a',m',q',bq,rfl,⟨ho.os,ho.tape,ho.output,ho.ext.size,fun k hk=>ho.ext.keep k hk (Tp k)⟩,Hr⟩
     ·rintro e w' ⟨rfl,hb⟩
      exact⟨[.int .i64 (Zx now l)],fun _=>none,rfl,Q4 hb rfl⟩
end
section
variable {xs:FuncId->Option (Ae->Option A4)}(fu d:Nat)(call:Aq)
theorem Qj{p:FuncId->Option (Ae->Option A4)}(fu d:Nat)(Z:ByteArray)(Y:Int):Ac (CP p) prog fu (d+1) 137 [Z,.sc (.int .u8 Y)]=(fun (call:Aq)=>Ge .i64 (call 155 [Z,.sc (.int .u8 Y)]) fun a=>Bg [a]) (Ac (CP p) prog fu d):=by kernel_rfl
def D4(Z:ByteArray)(Y:Int)(X:Nat)(W:ByteArray)(V:Int):Option A4:=K0 fu call 119 Tryz.f119 [.pbox [Z,Y]] [.l] X ⟨lk [(0,.ptr 64000 0)],Fx [(64000,.st [W,V])]⟩
theorem Gx(X:ByteArray)(W:Int)(V:Nat)(Y:ByteArray)(Z:Int):D4 fu call X W (V+1) Y Z=(Ay (decide (Z<(↑(ByteArray.size Y):Int))) (Ar (decide (0<=Z))<|Dj ((Array.toList (ByteArray.data Y))[Z.toNat]?) fun a=>Ge .i64 (call 137 [Bk ⟨#[32,9,10,13]⟩,.sc (.int .u8 (↑(UInt8.toNat a):Int))]) fun a=>Ay (decide (a>=0)) (Aa (wrap .i64 (Z+1)) fun a=>D4 fu call X W V Y a) (some ⟨[],[[Y,Z]]⟩)) (some ⟨[],[[Y,Z]]⟩)):=by kernel_rfl
theorem Oh{p:FuncId->Option (Ae->Option A4)}(fu d:Nat)(Z:ByteArray)(Y:Int):Ac (CP p) prog fu (d+1) 119 [.pbox [Z,Y]]=(fun (call:Aq)=>D4 fu call Z Y fu Z Y) (Ac (CP p) prog fu d):=by kernel_rfl
def Dw(Z:ByteArray)(Y:Int)(X:Nat)(W:Int)(V:ByteArray)(U:Int):Option A4:=K0 fu call 183 Tryz.f183 [.pbox [Z,Y]] [.r,.r,.l,.l] X ⟨lk [(0,.ptr 58000 0),(3,W)],Fx [(58000,.st [V,U])]⟩
theorem Gh(Y:ByteArray)(X:Int)(W:Nat)(Z:Int)(V:ByteArray)(U:Int):Dw fu call Y X (W+1) Z V U=(Bv (call 161 [.pbox [V,U]]) fun a b=>Dl .u8 a fun a=>Ai b fun b c=>Ai b fun b e=>Bu b fun b=>Dl .i64 e fun e=>Ao c<|Ay (decide (a>=48)) (Bv (call 161 [.pbox [b,e]]) fun a b=>Dl .u8 a fun a=>Ai b fun b c=>Ai b fun b e=>Bu b fun b=>Dl .i64 e fun e=>Ao c<|Ay (decide (a<=57)) (Aa (wrap .i64 (e+1)) fun a=>Dw fu call Y X W Z b a) (some ⟨[Cz (decide (e>Z))],[[b,e]]⟩)) (some ⟨[Cz (decide (e>Z))],[[b,e]]⟩)):=by kernel_rfl
theorem Nw{p:FuncId->Option (Ae->Option A4)}(fu d:Nat)(Y:ByteArray)(Z:Int):Ac (CP p) prog fu (d+1) 183 [.pbox [Y,Z]]=(fun (call:Aq)=>Dw fu call Y Z fu Z Y Z) (Ac (CP p) prog fu d):=by kernel_rfl
def Dz(Z:ByteArray)(Y:Int)(X:Nat)(W:ByteArray)(V:Int):Option A4:=K0 fu call 163 Tryz.f163 [.pbox [Z,Y]] [.r,.r] X ⟨lk [(0,.ptr 66000 0)],Fx [(66000,.st [W,V])]⟩
def Dx(Z:ByteArray)(Y:Int)(X:Nat)(W:ByteArray)(V:Int):Option A4:=K0 fu call 163 Tryz.f163 [.pbox [Z,Y]] [.r,.r,.r] X ⟨lk [(0,.ptr 66000 0)],Fx [(66000,.st [W,V])]⟩
theorem Ew(Y:ByteArray)(X:Int)(Z:Nat)(Gz:0<Z)(W:ByteArray)(V:Int):Dz fu call Y X Z W V=(Bv (call 138 [.pbox [W,V],Bk ⟨#[46]⟩]) fun a b=>Q6 a fun a=>Ai b fun b c=>Ai b fun b e=>Bu b fun b=>Dl .i64 e fun e=>Ao c<|Ay a (Bv (call 183 [.pbox [b,e]]) fun a b=>Q6 a fun a=>Ai b fun b c=>Ai b fun b e=>Bu b fun b=>Dl .i64 e fun e=>Ao c<|Ay (!a) (some ⟨[false],[[b,e]]⟩) (Dx fu call Y X fu b e)) (Dx fu call Y X fu b e)):=by cases Z with|zero=>exact absurd Gz (Nat.lt_irrefl 0)|succ Z=>kernel_rfl
theorem Cr(W:ByteArray)(V:Int)(Z:Nat)(Gz:0<Z)(Y:ByteArray)(X:Int):Dx fu call W V Z Y X=(Bv (call 138 [.pbox [Y,X],Bk ⟨#[101]⟩]) fun a b=>Q6 a fun a=>Ai b fun b c=>Ai b fun b e=>Bu b fun b=>Dl .i64 e fun e=>Ao c<|Ay a (Bv (call 138 [.pbox [b,e],Bk ⟨#[43]⟩]) fun a b=>Q6 a fun a=>Ai b fun b c=>Ai b fun b e=>Bu b fun b=>Dl .i64 e fun e=>Ao c<|Ay (!a) (Bv (call 138 [.pbox [b,e],Bk ⟨#[45]⟩]) fun a b=>Q6 a fun a=>Ai b fun a b=>Ai a fun a c=>Bu a fun a=>Dl .i64 c fun c=>Ao b<|Bv (call 183 [.pbox [a,c]]) fun a b=>Q6 a fun a=>Ai b fun b c=>Ai b fun b e=>Bu b fun b=>Dl .i64 e fun e=>Ao c<|some ⟨[a],[[b,e]]⟩) (Bv (call 183 [.pbox [b,e]]) fun a b=>Q6 a fun a=>Ai b fun b c=>Ai b fun b e=>Bu b fun b=>Dl .i64 e fun e=>Ao c<|some ⟨[a],[[b,e]]⟩)) (Bv (call 138 [.pbox [b,e],Bk ⟨#[69]⟩]) fun a b=>Q6 a fun a=>Ai b fun b c=>Ai b fun b e=>Bu b fun b=>Dl .i64 e fun e=>Ao c<|Ay a (Bv (call 138 [.pbox [b,e],Bk ⟨#[43]⟩]) fun a b=>Q6 a fun a=>Ai b fun b c=>Ai b fun b e=>Bu b fun b=>Dl .i64 e fun e=>Ao c<|Ay (!a) (Bv (call 138 [.pbox [b,e],Bk ⟨#[45]⟩]) fun a b=>Q6 a fun a=>Ai b fun a b=>Ai a fun a c=>Bu a fun a=>Dl .i64 c fun c=>Ao b<|Bv (call 183 [.pbox [a,c]]) fun a b=>Q6 a fun a=>Ai b fun b c=>Ai b fun b e=>Bu b fun b=>Dl .i64 e fun e=>Ao c<|some ⟨[a],[[b,e]]⟩) (Bv (call 183 [.pbox [b,e]]) fun a b=>Q6 a fun a=>Ai b fun b c=>Ai b fun b e=>Bu b fun b=>Dl .i64 e fun e=>Ao c<|some ⟨[a],[[b,e]]⟩)) (some ⟨[true],[[b,e]]⟩))):=by cases Z with|zero=>exact absurd Gz (Nat.lt_irrefl 0)|succ Z=>kernel_rfl
theorem Fc{p:FuncId->Option (Ae->Option A4)}(fu d:Nat)(Z:ByteArray)(Y:Int):Ac (CP p) prog fu (d+1) 163 [.pbox [Z,Y]]=(fun (call:Aq)=>Bv (call 138 [.pbox [Z,Y],Bk ⟨#[45]⟩]) fun a b=>Q6 a fun a=>Ai b fun a b=>Ai a fun a c=>Bu a fun a=>Dl .i64 c fun c=>Ao b<|Bv (call 138 [.pbox [a,c],Bk ⟨#[48]⟩]) fun a b=>Q6 a fun a=>Ai b fun b c=>Ai b fun b e=>Bu b fun b=>Dl .i64 e fun e=>Ao c<|Ay (!a) (Bv (call 183 [.pbox [b,e]]) fun a b=>Q6 a fun a=>Ai b fun b c=>Ai b fun b e=>Bu b fun b=>Dl .i64 e fun e=>Ao c<|Ay (!a) (some ⟨[false],[[b,e]]⟩) (Dz fu call Z Y fu b e)) (Dz fu call Z Y fu b e)) (Ac (CP p) prog fu d):=by kernel_rfl
def D5(Z:ByteArray)(Y X:Int)(W:Nat)(V:Int)(U:ByteArray)(T:Int):Option A4:=K0 fu call 162 Tryz.f162 [.pbox [Z,Y],X] [.r,.r,.r,.r,.l] W ⟨lk [(0,.ptr 64000 0),(1,V)],Fx [(64000,.st [U,T])]⟩
theorem Mz(Y:ByteArray)(X W:Int)(V:Nat)(Z:Int)(U:ByteArray)(T:Int):D5 fu call Y X W (V+1) Z U T=(Bv (call 140 [.pbox [U,T],Z]) fun a b=>Ai a fun a c=>Ef a fun a=>Do .i64 a fun a e=>Ai e fun a e=>Bu a fun a=>Q6 e fun a=>Dl .i64 c fun a=>Ai b fun b c=>Ai b fun b e=>Bu b fun b=>Dl .i64 e fun e=>Ao c<|Ay (a != 0) (some ⟨[a],[[b,e]]⟩) (Bv (call 119 [.pbox [b,e]]) fun a b=>Ao a<|Ai b fun a b=>Ai a fun a c=>Bu a fun a=>Dl .i64 c fun c=>Ao b<|Bv (call 138 [.pbox [a,c],Bk ⟨#[93]⟩]) fun a b=>Q6 a fun a=>Ai b fun b c=>Ai b fun b e=>Bu b fun b=>Dl .i64 e fun e=>Ao c<|Ay a (some ⟨[(0:Int)],[[b,e]]⟩) (Bv (call 138 [.pbox [b,e],Bk ⟨#[44]⟩]) fun a b=>Q6 a fun a=>Ai b fun b c=>Ai b fun b e=>Bu b fun b=>Dl .i64 e fun e=>Ao c<|Ay (!a) (some ⟨[(2:Int)],[[b,e]]⟩) (Bv (call 119 [.pbox [b,e]]) fun a b=>Ao a<|Ai b fun a b=>Ai a fun a c=>Bu a fun a=>Dl .i64 c fun c=>Ao b<|D5 fu call Y X W V Z a c)))):=by kernel_rfl
theorem Pa{p:FuncId->Option (Ae->Option A4)}(fu d:Nat)(Z:ByteArray)(Y X:Int):Ac (CP p) prog fu (d+1) 162 [.pbox [Z,Y],X]=(fun (call:Aq)=>Bv (call 138 [.pbox [Z,Y],Bk ⟨#[91]⟩]) fun a b=>Q6 a fun a=>Ai b fun b c=>Ai b fun b e=>Bu b fun b=>Dl .i64 e fun e=>Ao c<|Ay (!a) (some ⟨[(2:Int)],[[b,e]]⟩) (Bv (call 119 [.pbox [b,e]]) fun a b=>Ao a<|Ai b fun a b=>Ai a fun a c=>Bu a fun a=>Dl .i64 c fun c=>Ao b<|Bv (call 138 [.pbox [a,c],Bk ⟨#[93]⟩]) fun a b=>Q6 a fun a=>Ai b fun b c=>Ai b fun b e=>Bu b fun b=>Dl .i64 e fun e=>Ao c<|Ay a (some ⟨[(0:Int)],[[b,e]]⟩) (D5 fu call Z Y X fu X b e))) (Ac (CP p) prog fu d):=by kernel_rfl
def Dy(Z:ByteArray)(Y X:Int)(W:Nat)(V:Int)(U:ByteArray)(T:Int):Option A4:=K0 fu call 120 Tryz.f120 [.pbox [Z,Y],X,.sc (Value.map none)] [.r,.r,.r,.r,.l] W ⟨lk [(0,.ptr 128000 0),(1,V),(2,.sc (Value.map none))],Fx [(128000,.st [U,T])]⟩
theorem L6(Y:ByteArray)(X W:Int)(V:Nat)(Z:Int)(U:ByteArray)(T:Int):Dy fu call Y X W (V+1) Z U T=(Bv (call 139 [.pbox [U,T]]) fun a b=>Ai a fun a c=>Bu a fun a=>Q6 c fun a=>Ai b fun b c=>Ai b fun b e=>Bu b fun b=>Dl .i64 e fun e=>Ao c<|Ay (!a) (some ⟨[(2:Int)],[[b,e]]⟩) (Bv (call 119 [.pbox [b,e]]) fun a b=>Ao a<|Ai b fun a b=>Ai a fun a c=>Bu a fun a=>Dl .i64 c fun c=>Ao b<|Bv (call 138 [.pbox [a,c],Bk ⟨#[58]⟩]) fun a b=>Q6 a fun a=>Ai b fun b c=>Ai b fun b e=>Bu b fun b=>Dl .i64 e fun e=>Ao c<|Ay (!a) (some ⟨[(2:Int)],[[b,e]]⟩) (Bv (call 119 [.pbox [b,e]]) fun a b=>Ao a<|Ai b fun a b=>Ai a fun a c=>Bu a fun a=>Dl .i64 c fun c=>Ao b<|Bv (call 140 [.pbox [a,c],Z]) fun a b=>Ai a fun a c=>Ef a fun a=>Do .i64 a fun a e=>Ai e fun a e=>Bu a fun a=>Q6 e fun a=>Dl .i64 c fun a=>Ai b fun b c=>Ai b fun b e=>Bu b fun b=>Dl .i64 e fun e=>Ao c<|Ay (a != 0) (some ⟨[a],[[b,e]]⟩) (Bv (call 119 [.pbox [b,e]]) fun a b=>Ao a<|Ai b fun a b=>Ai a fun a c=>Bu a fun a=>Dl .i64 c fun c=>Ao b<|Bv (call 138 [.pbox [a,c],Bk ⟨#[125]⟩]) fun a b=>Q6 a fun a=>Ai b fun b c=>Ai b fun b e=>Bu b fun b=>Dl .i64 e fun e=>Ao c<|Ay a (some ⟨[(0:Int)],[[b,e]]⟩) (Bv (call 138 [.pbox [b,e],Bk ⟨#[44]⟩]) fun a b=>Q6 a fun a=>Ai b fun b c=>Ai b fun b e=>Bu b fun b=>Dl .i64 e fun e=>Ao c<|Ay (!a) (some ⟨[(2:Int)],[[b,e]]⟩) (Bv (call 119 [.pbox [b,e]]) fun a b=>Ao a<|Ai b fun a b=>Ai a fun a c=>Bu a fun a=>Dl .i64 c fun c=>Ao b<|Dy fu call Y X W V Z a c)))))):=by kernel_rfl
theorem Nv{p:FuncId->Option (Ae->Option A4)}(fu d:Nat)(Z:ByteArray)(Y X:Int):Ac (CP p) prog fu (d+1) 120 [.pbox [Z,Y],X,.sc (Value.map none)]=(fun (call:Aq)=>Bv (call 138 [.pbox [Z,Y],Bk ⟨#[123]⟩]) fun a b=>Q6 a fun a=>Ai b fun b c=>Ai b fun b e=>Bu b fun b=>Dl .i64 e fun e=>Ao c<|Ay (!a) (some ⟨[(2:Int)],[[b,e]]⟩) (Bv (call 119 [.pbox [b,e]]) fun a b=>Ao a<|Ai b fun a b=>Ai a fun a c=>Bu a fun a=>Dl .i64 c fun c=>Ao b<|Bv (call 138 [.pbox [a,c],Bk ⟨#[125]⟩]) fun a b=>Q6 a fun a=>Ai b fun b c=>Ai b fun b e=>Bu b fun b=>Dl .i64 e fun e=>Ao c<|Ay a (some ⟨[(0:Int)],[[b,e]]⟩) (Dy fu call Z Y X fu X b e))) (Ac (CP p) prog fu d):=by kernel_rfl
theorem Cn{p:FuncId->Option (Ae->Option A4)}(fu d:Nat)(Y:ByteArray)(X Z:Int):Ac (CP p) prog fu (d+1) 140 [.pbox [Y,X],Z]=(fun (call:Aq)=>Bv (call 161 [.pbox [Y,X]]) fun a b=>Dl .u8 a fun a=>Ai b fun b c=>Ai b fun b e=>Bu b fun b=>Dl .i64 e fun e=>(fun h:PV=>(fun g:Option A4=>(fun i:Option A4=>Ao c<|Ay (a==123) i (Ay (a==91) i g)) (Ay (decide (Z>8)) (some ⟨[h,(5:Int)],[[b,e]]⟩) g)) (Ay (a==123) (Aa (wrap .i64 (Z+1)) fun a=>Bv (call 120 [.pbox [b,e],a,.sc (Value.map none)]) fun a b=>Dl .i64 a fun a=>Ai b fun b c=>Ai b fun b e=>Bu b fun b=>Dl .i64 e fun e=>Ao c<|some ⟨[.agg [(6:Int),Bk ⟨#[]⟩,false],a],[[b,e]]⟩) (Ay (a==91) (Aa (wrap .i64 (Z+1)) fun a=>Bv (call 162 [.pbox [b,e],a]) fun a b=>Dl .i64 a fun a=>Ai b fun b c=>Ai b fun b e=>Bu b fun b=>Dl .i64 e fun e=>Ao c<|some ⟨[.agg [(5:Int),Bk ⟨#[]⟩,false],a],[[b,e]]⟩) (Ay (a==34) (Bv (call 139 [.pbox [b,e]]) fun a b=>Ai a fun a c=>Bu a fun a=>Q6 c fun c=>Ai b fun b e=>Ai b fun b f=>Bu b fun b=>Dl .i64 f fun f=>Ao e<|Ay c (some ⟨[.agg [(4:Int),a,false],(0:Int)],[[b,f]]⟩) (some ⟨[h,(2:Int)],[[b,f]]⟩)) (Bv (call 138 [.pbox [b,e],Bk ⟨#[116,114,117,101]⟩]) fun a b=>Q6 a fun a=>Ai b fun b c=>Ai b fun b e=>Bu b fun b=>Dl .i64 e fun e=>Ao c<|Ay a (some ⟨[.agg [(2:Int),Bk ⟨#[]⟩,true],(0:Int)],[[b,e]]⟩) (Bv (call 138 [.pbox [b,e],Bk ⟨#[102,97,108,115,101]⟩]) fun a b=>Q6 a fun a=>Ai b fun b c=>Ai b fun b e=>Bu b fun b=>Dl .i64 e fun e=>Ao c<|Ay a (some ⟨[.agg [(2:Int),Bk ⟨#[]⟩,false],(0:Int)],[[b,e]]⟩) (Bv (call 138 [.pbox [b,e],Bk ⟨#[110,117,108,108]⟩]) fun a b=>Q6 a fun a=>Ai b fun b c=>Ai b fun b e=>Bu b fun b=>Dl .i64 e fun e=>Ao c<|Ay a (some ⟨[.agg [(1:Int),Bk ⟨#[]⟩,false],(0:Int)],[[b,e]]⟩) (Bv (call 163 [.pbox [b,e]]) fun a b=>Q6 a fun a=>Ai b fun b c=>Ai b fun b e=>Bu b fun b=>Dl .i64 e fun e=>Ao c<|Ay a (some ⟨[.agg [(3:Int),Bk ⟨#[]⟩,false],(0:Int)],[[b,e]]⟩) (some ⟨[h,(2:Int)],[[b,e]]⟩))))))))) (.agg [(0:Int),Bk ⟨#[]⟩,false])) (Ac (CP p) prog fu d):=by kernel_rfl
end
theorem A1k:∀n:Fin 256,decide (Lib.indexByte [32,9,10,13] (n.val:Int).toNat.toUInt8>=0)=EA (n.val:Int):=by decide +kernel
theorem A7n{c:Int}(h0:0<=c)(h1:c<=255):decide (Lib.indexByte [32,9,10,13] c.toNat.toUInt8>=0)=EA c:=by obtain⟨n,rfl⟩:=Int.eq_ofNat_of_zero_le h0;exact A1k ⟨n,by omega⟩
theorem Ce{t:ByteArray}:∀{l:Aj},D7 t l->D7 t (Bh l)
 |[],h=>h
 |c::l,h=>by
  unfold Bh;split
  ·exact Ce h.tail
  ·exact h
theorem Yi:∀(l:Aj),(Bh l).length<=l.length
 |[]=>Cs _
 |c::l=>by
  unfold Bh;split
  ·exact Nat.le_succ_of_le (Yi l)
  ·exact Cs _
section
variable {fu d:Nat}
theorem A8f(s:ByteArray)(c:Int):Ac C0 prog fu (d+2) 137 [Bk s,.sc (.int .u8 c)]=some ⟨[Aw (Lib.indexByte s.data.toList c.toNat.toUInt8)],[]⟩:=by have e:Ac C0 prog fu (d+1) 155 [Bk s,.sc (.int .u8 c)]=some ⟨[Aw (Lib.indexByte s.data.toList c.toNat.toUInt8)],[]⟩:=rfl;rw[Qj];simp only[A5,A6,e]
theorem XQ{t s0:ByteArray}{p0:Int}(ht:t.size<=1000000):∀(r:Aj)(nn:Nat),r.length+1<=nn->D7 t r ->
  D4 fu (Ac C0 prog fu (d+2)) s0 p0 nn t (B9 t r:Int)=some ⟨[],[De t (Bh r)]⟩
 |[],nn,Gz,h=>by
  obtain⟨k,rfl⟩:∃k,nn=k+1:=⟨nn-1,by omega⟩
  have e:decide ((B9 t []:Int)<(t.size:Int))=false:=by simp[HJ]
  rw[Gx];simp only[A5,A6,e];rfl
 |c::r,nn,Gz,h=>by
  obtain⟨k,rfl⟩:∃k,nn=k+1:=⟨nn-1,by omega⟩
  have ih:=XQ (s0:=s0) (p0:=p0) ht r k (by simp at Gz;omega) h.tail
  have hc:=h.B c (by simp);have hl:=h.len;have hp:=Q5 h
  have e6:wrap .i64 ((B9 t (c::r):Int)+1)=(B9 t r:Int):=by
   rw[hp,F8 (by unfold B9;omega) (by unfold B9;omega)];omega
  have Vm:B9 t (c::r)<t.size:=by
   unfold B9;rw[Po] at hl ⊢;omega
  obtain⟨b,hb,rfl⟩:=h.at;have e:decide ((B9 t ((b.toNat:Int)::r):Int)<(t.size:Int))=true:=by simp;omega
  have e2:decide ((0:Int)<=(B9 t ((b.toNat:Int)::r):Int))=true:=by simp
  rw[<-Jp (B9 t ((b.toNat:Int)::r))] at hb;have ix:Ac C0 prog fu (d+2) 137 [Bk ⟨#[32,9,10,13]⟩,.sc (.int .u8 (b.toNat:Int))]=some ⟨[Aw (Lib.indexByte [32,9,10,13] (b.toNat:Int).toNat.toUInt8)],[]⟩:=A8f _ _;have hw:=A7n hc.1 hc.2;rw[Gx];cases hq:EA (b.toNat:Int)
  ·rw[hq] at hw
   have es:Bh ((b.toNat:Int)::r)=(b.toNat:Int)::r:=by
    show (if EA _=true then _ else _)=_;rw[hq];rfl
   rw[es];simp only[A5,A6,e,e2,hb,ix,hw]
  ·rw[hq] at hw
   have es:Bh ((b.toNat:Int)::r)=Bh r:=by
    show (if EA _=true then _ else _)=_;rw[hq];rfl
   rw[es];simp only[A5,A6,e,e2,hb,ix,hw,e6,ih]
theorem Wc{t:ByteArray}{r:Aj}(h:D7 t r)(ht:t.size<=1000000)(Bi:t.size+1<=fu):Ac C0 prog fu (d+3) 119 [.pbox (De t r)]=some ⟨[],[De t (Bh r)]⟩:=by rw[Oh];exact XQ ht r fu (by have:=h.len;omega) h
theorem VN{t:ByteArray}:∀{l:Aj},D7 t l->D7 t (Ok l)
 |[],h=>h
 |c::l,h=>by
  unfold Ok;split
  ·exact VN h.tail
  ·exact h
theorem WK:∀(l:Aj),(Ok l).length<=l.length
 |[]=>Cs _
 |c::l=>by
  unfold Ok;split
  ·exact Nat.le_succ_of_le (WK l)
  ·exact Cs _
theorem WN{t s0:ByteArray}{p0 y0:Int}(ht:t.size<=1000000):∀(r:Aj)(nn:Nat),r.length+1<=nn->D7 t r ->
  Dw fu (Ac C0 prog fu (d+1)) s0 p0 nn y0 t (B9 t r:Int)=some ⟨[Cz (decide ((B9 t (Ok r):Int)>y0))],[De t (Ok r)]⟩
 |[],nn,Gz,h=>by
  obtain⟨k,rfl⟩:∃k,nn=k+1:=⟨nn-1,by omega⟩
  have pk:Ac C0 prog fu (d+1) 161 [.pbox (De t [])]=some ⟨[.sc (.int .u8 0)],[De t []]⟩:=Rp (xs:=xs0) h;have e:decide ((0:Int)>=48)=false:=rfl;rw[Gh];simp only[A5,A6,pk,e];rfl
 |c::r,nn,Gz,h=>by
  obtain⟨k,rfl⟩:∃k,nn=k+1:=⟨nn-1,by omega⟩
  have ih:=WN (s0:=s0) (p0:=p0) (y0:=y0) ht r k (by simp at Gz;omega) h.tail
  have hc:=h.B c (by simp);have hl:=h.len;have hp:=Q5 h
  have e6:wrap .i64 ((B9 t (c::r):Int)+1)=(B9 t r:Int):=by
   rw[hp,F8 (by unfold B9;omega) (by unfold B9;omega)];omega
  have pk:Ac C0 prog fu (d+1) 161 [.pbox (De t (c::r))]=some ⟨[.sc (.int .u8 c)],[De t (c::r)]⟩:=Rp (xs:=xs0) h;have ed:Ok (c::r)=if dgS c=true then Ok r else c::r:=rfl
  rw[Gh,ed];by_cases h1:48<=c
  ·have e1:decide (c>=48)=true:=by simp;omega
   by_cases h2:c<=57
   ·have e2:decide (c<=57)=true:=by simp;omega
    have e3:dgS c=true:=by simp[dgS];omega
    rw[Cx e3];simp only[A5,A6,pk,e1,e2,e6,ih]
   ·have e2:decide (c<=57)=false:=by simp;omega
    have e3:¬dgS c=true:=by simp[dgS];omega
    rw[Br e3];simp only[A5,A6,pk,e1,e2]
  ·have e1:decide (c>=48)=false:=by simp;omega
   have e3:¬dgS c=true:=by simp[dgS];omega
   rw[Br e3];simp only[A5,A6,pk,e1]
def A6w(t:ByteArray)(r:Aj)(o:Option Aj):A4:=⟨[Cz (o.isSome)],[De t (o.getD r)]⟩
theorem U5{t:ByteArray}{r:Aj}(h:D7 t r)(ht:t.size<=1000000)(Bi:t.size+1<=fu):Ac C0 prog fu (d+2) 183 [.pbox (De t r)]=some (A6w t r (I5 r)):=by
 rw[Nw];refine (WN ht r fu (by have:=h.len;omega) h).trans ?_
 cases r with
 |nil=>
  have e:decide ((B9 t (Ok []):Int)>(B9 t []:Int))=false:=by simp[Ok]
  rw[e];rfl
 |cons c r=>
  have hl:=h.len;have hp:=Q5 h;have ed:Ok (c::r)=if dgS c=true then Ok r else c::r:=rfl
  have eg:I5 (c::r)=if dgS c=true then some (Ok r) else none:=rfl
  rw[ed,eg];have hd:=WK r;by_cases q:dgS c=true
  ·rw[Cx q,Cx q]
   have e:decide ((B9 t (Ok r):Int)>(B9 t (c::r):Int))=true:=by
    rw[Po] at hl;simp only[gt_iff_lt,Yd];unfold B9;rw[Po];omega
   rw[e];rfl
  ·rw[Br q,Br q];have e:decide ((B9 t (c::r):Int)>(B9 t (c::r):Int))=false:=by simp
   rw[e];rfl
theorem Aii{t:ByteArray}{r:Aj}(c:UInt8)(h:D7 t r)(ht:t.size<=1000000):Ac C0 prog fu (d+3) 138 [.pbox (De t r),Bk (ByteArray.mk #[c])]=some (A6w t r (A8 [(c.toNat:Int)] r)):=by
 have hc:=c.toNat_lt;have e:=Yt (fu:=fu) (d:=d) (xs:=xs0) h ht (w:=[(c.toNat:Int)]) (fun x hx=>by simp at hx;omega) (show 1<=100 by decide)
 have e2:Ab [(c.toNat:Int)]=ByteArray.mk #[c]:=by
  show ByteArray.mk #[((c.toNat:Int)).toNat.toUInt8]=_;rw[Jp];simp
 rw[e2] at e;refine e.trans ?_;cases A8 [(c.toNat:Int)] r<;>rfl
theorem Ft(c:Int):∀r:Aj,A8 [c] r=match r with|[]=>none|x::r'=>if x=c then some r' else none
 |[]=>rfl
 |x::r=>by
  unfold A8;by_cases h:x=c
  ·subst h;rw[Cx (by simp[List.isPrefixOf])];simp
  ·rw[Br (by simp[List.isPrefixOf];exact fun e=>h e.symm)]
   simp[h]
theorem Bl{t:ByteArray}{w r r':Aj}(h:D7 t r)(e:A8 w r=some r'):D7 t r':=by
 unfold A8 at e;split at e
 ·cases e;exact h.drop _
 ·cases e
theorem KE(c:Int)(r:Aj):Ast c r=(A8 [c] r).getD r:=by
 rw[Ft];cases r with
 |nil=>rfl
 |cons x r=>
  show (if x=c then r else x::r)=_;split<;>simp_all
theorem XH(r:Aj):Axc r=match A8 [48] r with|some q=>some q|none=>I5 r:=by
 rw[Ft];cases r with
 |nil=>rfl
 |cons x r=>
  show (if x=48 then some r else I5 (x::r))=_;by_cases h:x=48
  ·rw[Cx h];simp[h]
  ·rw[Br h];simp[h]
theorem OE(r:Aj):VJ r=match A8 [46] r with|some q=>(I5 q).bind OA|none=>OA r:=by
 rw[Ft];cases r with
 |nil=>rfl
 |cons x r=>
  show (if x=46 then (I5 r).bind OA else OA (x::r))=_;by_cases h:x=46
  ·rw[Cx h];simp[h]
  ·rw[Br h];simp[h]
def OD(r:Aj):Option Aj:=match A8 [43] r with|some q=>I5 q|none=>I5 ((A8 [45] r).getD r)
theorem Axt(r:Aj):(match r with|43::r'=>I5 r'|r=>I5 (Ast 45 r))=OD r:=by
 unfold OD;rw[Ft 43,<-KE];split
 ·simp
 ·rename_i Hp;cases r with
  |nil=>rfl
  |cons x r=>
   by_cases h:x=43
   ·exact absurd (by rw[h]) (Hp r)
   ·simp[h]
theorem UK(r:Aj):OA r=match A8 [101] r with|some q=>OD q|none=>match A8 [69] r with|some q=>OD q|none=>some r:=by
 rw[Ft,Ft];cases r with
 |nil=>rfl
 |cons x r=>
  have e:OA (x::r)=if x=101\/x=69 then OD r else some (x::r):=by
   rw[<-Axt];rfl
  rw[e];by_cases h:x=101
  ·rw[Cx (Or.inl h)];simp[h]
  ·by_cases h2:x=69
   ·rw[Cx (Or.inr h2)];simp[h2]
   ·rw[Br (by omega)];simp[h,h2]
theorem Kv{t:ByteArray}{r r':Aj}(h:D7 t r)(e:I5 r=some r'):D7 t r':=by
 cases r with
 |nil=>cases e
 |cons c r=>
  have eg:I5 (c::r)=if dgS c=true then some (Ok r) else none:=rfl
  rw[eg] at e;split at e
  ·cases e;exact VN h.tail
  ·cases e
theorem Mc{t:ByteArray}{r:Aj}{o:Option Aj}(h:D7 t r)(ho:∀q,o=some q->D7 t q):D7 t (o.getD r):=by
 cases o with
 |none=>exact h
 |some q=>exact ho q rfl
end
section
variable {fu d:Nat}
theorem Ns{t:ByteArray}{r:Aj}(c:UInt8)(n:Int)(hn:(c.toNat:Int)=n)(h:D7 t r)(ht:t.size<=1000000)(hq:A8 [n] r=none):Ac C0 prog fu (d+3) 138 [.pbox (De t r),Bk (ByteArray.mk #[c])]=some ⟨[Cz false],[De t r]⟩:=by subst hn;have e:=Aii (fu:=fu) (d:=d) c h ht;rw[hq] at e;exact e
theorem H0{t:ByteArray}{r q:Aj}(c:UInt8)(n:Int)(hn:(c.toNat:Int)=n)(h:D7 t r)(ht:t.size<=1000000)(hq:A8 [n] r=some q):Ac C0 prog fu (d+3) 138 [.pbox (De t r),Bk (ByteArray.mk #[c])]=some ⟨[Cz true],[De t q]⟩:=by subst hn;have e:=Aii (fu:=fu) (d:=d) c h ht;rw[hq] at e;exact e
theorem Aai{t:ByteArray}{r:Aj}(c:UInt8)(n:Int)(hn:(c.toNat:Int)=n)(h:D7 t r)(ht:t.size<=1000000):Ac C0 prog fu (d+3) 138 [.pbox (De t r),Bk (ByteArray.mk #[c])]=some ⟨[Cz ((A8 [n] r).isSome)],[De t ((A8 [n] r).getD r)]⟩:=by subst hn;exact Aii (fu:=fu) (d:=d) c h ht
theorem A6r{t t0:ByteArray}{r:Aj}{a:Int}{m:Option Aj}(h:D7 t r)(ht:t.size<=1000000)(Bi:t.size+1<=fu)(hm:m=OA r):∃r',D7 t r'/\Dx fu (Ac C0 prog fu (d+3)) t0 a fu t (B9 t r)=some ⟨[Cz (m.isSome)],[De t r']⟩/\∀q,m=some q->r'=q:=by
 rw[UK] at hm;rcases he:A8 [101] r with _|r5
 ·have he0:=Ns (fu:=fu) (d:=d) 101 101 rfl h ht he;rw[he] at hm;rcases hE:A8 [69] r with _|r5
  ·have he1:=Ns (fu:=fu) (d:=d) 69 69 rfl h ht hE;have hn:m=some r:=by rw[hm,hE]
   refine⟨r,h,?_,?_⟩
   ·rw[hn,Cr (Gz:=by omega)]
    repeat(with_reducible(first|apply Bd|apply A0|apply Bc|apply A7|apply Bo|apply A3|apply Be|apply Jc);· first|constructor|(simp(disch:=omega)only[Ja,he0,he1,G9,Kd]<;>first|constructor|omega)|omega)
    try simp(disch:=omega)only[Aa,he0,he1,G9,Kd]
    try rfl
   ·rw[hn];intro q e;cases e;rfl
  ·have he1:=H0 (fu:=fu) (d:=d) 69 69 rfl h ht hE;have hS5:=Bl h hE;rw[hE] at hm;simp only at hm;rcases hp:A8 [43] r5 with _|r6
   ·have hp0:=Ns (fu:=fu) (d:=d) 43 43 rfl hS5 ht hp;have Fb:=Aai (fu:=fu) (d:=d) 45 45 rfl hS5 ht;have TH:D7 t ((A8 [45] r5).getD r5):=Mc hS5 fun q e=>Bl hS5 e;have hn:m=I5 ((A8 [45] r5).getD r5):=by rw[hm];unfold OD;rw[hp]
    generalize (A8 [45] r5).getD r5=r6 at Fb TH hn;generalize (A8 [45] r5).isSome=b1 at Fb;have hg:Ac C0 prog fu (d+3) 183 [.pbox (De t r6)]=some ⟨[Cz ((I5 r6).isSome)],[De t ((I5 r6).getD r6)]⟩:=U5 (d:=d+1) TH ht Bi;refine⟨(I5 r6).getD r6,Mc TH fun q e=>Kv TH e,?_,?_⟩
    ·rw[hn,Cr (Gz:=by omega)]
     repeat(with_reducible(first|apply Bd|apply A0|apply Bc|apply A7|apply Bo|apply A3|apply Be|apply Jc);· first|constructor|(simp(disch:=omega)only[Ja,he0,he1,hp0,Fb,hg,G9,Kd]<;>first|constructor|omega)|omega)
     try simp(disch:=omega)only[Aa,he0,he1,hp0,Fb,hg,G9,Kd]
     try rfl
    ·rw[hn];intro q e;rw[e];rfl
   ·have hp0:=H0 (fu:=fu) (d:=d) 43 43 rfl hS5 ht hp;have TH:=Bl hS5 hp;have hn:m=I5 r6:=by rw[hm];unfold OD;rw[hp]
    have hg:Ac C0 prog fu (d+3) 183 [.pbox (De t r6)]=some ⟨[Cz ((I5 r6).isSome)],[De t ((I5 r6).getD r6)]⟩:=U5 (d:=d+1) TH ht Bi;refine⟨(I5 r6).getD r6,Mc TH fun q e=>Kv TH e,?_,?_⟩
    ·rw[hn,Cr (Gz:=by omega)]
     repeat(with_reducible(first|apply Bd|apply A0|apply Bc|apply A7|apply Bo|apply A3|apply Be|apply Jc);· first|constructor|(simp(disch:=omega)only[Ja,he0,he1,hp0,hg,G9,Kd]<;>first|constructor|omega)|omega)
     try simp(disch:=omega)only[Aa,he0,he1,hp0,hg,G9,Kd]
     try rfl
    ·rw[hn];intro q e;rw[e];rfl
 ·have he0:=H0 (fu:=fu) (d:=d) 101 101 rfl h ht he;have hS5:=Bl h he;rw[he] at hm;simp only at hm;rcases hp:A8 [43] r5 with _|r6
  ·have hp0:=Ns (fu:=fu) (d:=d) 43 43 rfl hS5 ht hp;have Fb:=Aai (fu:=fu) (d:=d) 45 45 rfl hS5 ht;have TH:D7 t ((A8 [45] r5).getD r5):=Mc hS5 fun q e=>Bl hS5 e;have hn:m=I5 ((A8 [45] r5).getD r5):=by rw[hm];unfold OD;rw[hp]
   generalize (A8 [45] r5).getD r5=r6 at Fb TH hn;generalize (A8 [45] r5).isSome=b1 at Fb;have hg:Ac C0 prog fu (d+3) 183 [.pbox (De t r6)]=some ⟨[Cz ((I5 r6).isSome)],[De t ((I5 r6).getD r6)]⟩:=U5 (d:=d+1) TH ht Bi;refine⟨(I5 r6).getD r6,Mc TH fun q e=>Kv TH e,?_,?_⟩
   ·rw[hn,Cr (Gz:=by omega)]
    repeat(with_reducible(first|apply Bd|apply A0|apply Bc|apply A7|apply Bo|apply A3|apply Be|apply Jc);· first|constructor|(simp(disch:=omega)only[Ja,he0,hp0,Fb,hg,G9,Kd]<;>first|constructor|omega)|omega)
    try simp(disch:=omega)only[Aa,he0,hp0,Fb,hg,G9,Kd]
    try rfl
   ·rw[hn];intro q e;rw[e];rfl
  ·have hp0:=H0 (fu:=fu) (d:=d) 43 43 rfl hS5 ht hp;have TH:=Bl hS5 hp;have hn:m=I5 r6:=by rw[hm];unfold OD;rw[hp]
   have hg:Ac C0 prog fu (d+3) 183 [.pbox (De t r6)]=some ⟨[Cz ((I5 r6).isSome)],[De t ((I5 r6).getD r6)]⟩:=U5 (d:=d+1) TH ht Bi;refine⟨(I5 r6).getD r6,Mc TH fun q e=>Kv TH e,?_,?_⟩
   ·rw[hn,Cr (Gz:=by omega)]
    repeat(with_reducible(first|apply Bd|apply A0|apply Bc|apply A7|apply Bo|apply A3|apply Be|apply Jc);· first|constructor|(simp(disch:=omega)only[Ja,he0,hp0,hg,G9,Kd]<;>first|constructor|omega)|omega)
    try simp(disch:=omega)only[Aa,he0,hp0,hg,G9,Kd]
    try rfl
   ·rw[hn];intro q e;rw[e];rfl
theorem A8s{t t0:ByteArray}{r:Aj}{a:Int}{m:Option Aj}(h:D7 t r)(ht:t.size<=1000000)(Bi:t.size+1<=fu)(hm:m=VJ r):∃r',D7 t r'/\Dz fu (Ac C0 prog fu (d+3)) t0 a fu t (B9 t r)=some ⟨[Cz (m.isSome)],[De t r']⟩/\∀q,m=some q->r'=q:=by
 rw[OE] at hm;rcases hd:A8 [46] r with _|r3
 ·have hd0:=Ns (fu:=fu) (d:=d) 46 46 rfl h ht hd;rw[hd] at hm;obtain⟨r9,S9,e9,u9⟩:=A6r (fu:=fu) (d:=d) (t0:=t0) (a:=a) h ht Bi hm;refine⟨r9,S9,?_,u9⟩;rw[Ew (Gz:=by omega)]
  repeat(with_reducible(first|apply Bd|apply A0|apply Bc|apply A7|apply Bo|apply A3|apply Be|apply Jc);· first|constructor|(simp(disch:=omega)only[Ja,hd0,e9,G9,Kd]<;>first|constructor|omega)|omega)
  try simp(disch:=omega)only[Aa,hd0,e9,G9,Kd]
 ·have hd0:=H0 (fu:=fu) (d:=d) 46 46 rfl h ht hd;have hS3:=Bl h hd;rw[hd] at hm;have hm:m=(I5 r3).bind OA:=hm;have hd1:=U5 (d:=d+1) hS3 ht Bi;rcases hdd:I5 r3 with _|r4
  ·rw[hdd] at hd1 hm;have SH:Ac C0 prog fu (d+3) 183 [.pbox (De t r3)]=some ⟨[Cz false],[De t r3]⟩:=hd1;have hn:m=none:=hm;refine⟨r3,hS3,?_,?_⟩
   ·rw[hn,Ew (Gz:=by omega)]
    repeat(with_reducible(first|apply Bd|apply A0|apply Bc|apply A7|apply Bo|apply A3|apply Be|apply Jc);· first|constructor|(simp(disch:=omega)only[Ja,hd0,SH,G9,Kd]<;>first|constructor|omega)|omega)
    try simp(disch:=omega)only[Aa,hd0,SH,G9,Kd]
    try rfl
   ·rw[hn];intro q e;cases e
  ·rw[hdd] at hd1 hm;have SH:Ac C0 prog fu (d+3) 183 [.pbox (De t r3)]=some ⟨[Cz true],[De t r4]⟩:=hd1;obtain⟨r9,S9,e9,u9⟩:=A6r (fu:=fu) (d:=d) (t0:=t0) (a:=a) (Kv hS3 hdd) ht Bi hm;refine⟨r9,S9,?_,u9⟩;rw[Ew (Gz:=by omega)]
   repeat(with_reducible(first|apply Bd|apply A0|apply Bc|apply A7|apply Bo|apply A3|apply Be|apply Jc);· first|constructor|(simp(disch:=omega)only[Ja,hd0,SH,e9,G9,Kd]<;>first|constructor|omega)|omega)
   try simp(disch:=omega)only[Aa,hd0,SH,e9,G9,Kd]
theorem Atf{t:ByteArray}{r:Aj}(h:D7 t r)(ht:t.size<=1000000)(Bi:t.size+1<=fu):∃r',D7 t r'/\Ac C0 prog fu (d+4) 163 [.pbox (De t r)]=some ⟨[Cz ((Aa9 r).isSome)],[De t r']⟩/\∀q,Aa9 r=some q->r'=q:=by
 have a0:=Aai (fu:=fu) (d:=d) 45 45 rfl h ht;have hS1:D7 t ((A8 [45] r).getD r):=Mc h fun q e=>Bl h e;obtain⟨m,hm⟩:∃m,m=Aa9 r:=⟨_,rfl⟩
 have IA:m=(Axc ((A8 [45] r).getD r)).bind VJ:=by rw[hm,<-KE];rfl
 rw[<-hm];generalize (A8 [45] r).getD r=r1 at a0 hS1 IA;generalize (A8 [45] r).isSome=b0 at a0;rw[XH] at IA;rcases hz:A8 [48] r1 with _|r2
 ·have hz0:=Ns (fu:=fu) (d:=d) 48 48 rfl hS1 ht hz;rw[hz] at IA;have hz1:=U5 (d:=d+1) hS1 ht Bi;rcases hzd:I5 r1 with _|r2
  ·simp only[hzd] at hz1 IA;have hz2:Ac C0 prog fu (d+3) 183 [.pbox (De t r1)]=some ⟨[Cz false],[De t r1]⟩:=hz1;have hn:m=none:=IA;refine⟨r1,hS1,?_,?_⟩
   ·rw[hn,Fc]
    repeat(with_reducible(first|apply Bd|apply A0|apply Bc|apply A7|apply Bo|apply A3|apply Be|apply Jc);· first|constructor|(simp(disch:=omega)only[Ja,a0,hz0,hz2,G9,Kd]<;>first|constructor|omega)|omega)
    try simp(disch:=omega)only[Aa,a0,hz0,hz2,G9,Kd]
    try rfl
   ·rw[hn];intro q e;cases e
  ·simp only[hzd] at hz1 IA;have hz2:Ac C0 prog fu (d+3) 183 [.pbox (De t r1)]=some ⟨[Cz true],[De t r2]⟩:=hz1;obtain⟨r9,S9,e9,u9⟩:=A8s (fu:=fu) (d:=d) (t0:=t) (a:=(B9 t r)) (Kv hS1 hzd) ht Bi IA;refine⟨r9,S9,?_,u9⟩;rw[Fc]
   repeat(with_reducible(first|apply Bd|apply A0|apply Bc|apply A7|apply Bo|apply A3|apply Be|apply Jc);· first|constructor|(simp(disch:=omega)only[Ja,a0,hz0,hz2,e9,G9,Kd]<;>first|constructor|omega)|omega)
   try simp(disch:=omega)only[Aa,a0,hz0,hz2,e9,G9,Kd]
 ·have hz0:=H0 (fu:=fu) (d:=d) 48 48 rfl hS1 ht hz;rw[hz] at IA;obtain⟨r9,S9,e9,u9⟩:=A8s (fu:=fu) (d:=d) (t0:=t) (a:=(B9 t r)) (Bl hS1 hz) ht Bi IA;refine⟨r9,S9,?_,u9⟩;rw[Fc]
  repeat(with_reducible(first|apply Bd|apply A0|apply Bc|apply A7|apply Bo|apply A3|apply Be|apply Jc);· first|constructor|(simp(disch:=omega)only[Ja,a0,hz0,e9,G9,Kd]<;>first|constructor|omega)|omega)
  try simp(disch:=omega)only[Aa,a0,hz0,e9,G9,Kd]
end
theorem D7.trans{t:ByteArray}{r q:Aj}(h:D7 t r)(k:D7 (Ab r) q):D7 t q:=by obtain⟨pre,k⟩:=k;rw[Dd h.B] at k;rw[k] at h;exact h.app
theorem D7.self{l:Aj}(h:Cm l):D7 (Ab l) l:=⟨[],by rw[Dd h];rfl⟩
theorem D7.le{l q:Aj}(h:D7 (Ab l) q):q.length<=l.length:=by
 have:=h.len
 rwa [Ag] at this
theorem D7.up{l m q:Aj}(hl:Cm l)(h:D7 (Ab l) m)(k:D7 (Ab m) q):D7 (Ab l) q:=h.trans k
def Ahl(t:ByteArray)(l:Aj)(x:JR (JV × Aj))(res:A4):Prop:=
 match x with
 |.ok (v,q)=>D7 (Ab l) q/\res=⟨[.agg [Aw v.1,Bk (Ab v.2.1),Cz (v.2.2)],Aw 0],[De t q]⟩
 |.error e=>e≠0/\∃c1 c2 c3 q,D7 t q/\res=⟨[.agg [Aw c1,Bk c2,Cz c3],Aw e],[De t q]⟩
def Bak(t:ByteArray)(l:Aj)(x:JR Aj)(res:A4):Prop:=
 match x with
 |.ok q=>D7 (Ab l) q/\res=⟨[Aw 0],[De t q]⟩
 |.error e=>e≠0/\∃q,D7 t q/\res=⟨[Aw e],[De t q]⟩
theorem At8{α:Type}(a b:Int)(Ui:a≠b)(A B:Aj->α)(C:α)(x:Aj):
  (match A8 [a] x with|some r=>A r|none=>match A8 [b] x with|some r=>B r|none=>C)=(match x with|[]=>C|y::r=>if y=a then A r else if y=b then B r else C):=by
 rw[Ft,Ft];cases x with
 |nil=>rfl
 |cons y r=>
  by_cases h:y=a
  ·simp[h]
  ·by_cases h2:y=b
   ·subst h2;simp[h]
   ·simp[h,h2]
theorem Aqm(V:Aj->JR (JV × Aj))(n:Nat)(l:Aj):ZQ V (n+1) l=match V l with
  |.error e=>.error e
  |.ok (_,r)=>match A8 [93] (Bh r) with
   |some r'=>.ok r'
   |none=>match A8 [44] (Bh r) with
    |some r'=>ZQ V n (Bh r')
    |none=>.error 2:=by
 show (match V l with | .error e=>_ | .ok (_,r)=>_)=_;cases V l with
 |error e=>rfl
 |ok x=>
  obtain⟨v,r⟩:=x;simp only;rw[At8 93 44 (by decide) (fun r'=>Except.ok r') (fun r'=>ZQ V n (Bh r')) (Except.error 2)];cases Bh r with
  |nil=>rfl
  |cons y r=>
   by_cases h:y=93
   ·subst h;rfl
   ·by_cases h2:y=44
    ·subst h2;rfl
    ·simp only[Br h,Br h2];split
     ·rename_i e;injection e with e1 _;exact absurd e1 h
     ·rename_i e;injection e with e1 _;exact absurd e1 h2
     ·rfl
section
variable {fu d:Nat}
theorem Aqk{t s0:ByteArray}{p0 D0 D:Int}(ht:t.size<=1000000)(Bi:t.size+1<=fu)(V:Aj->JR (JV × Aj))(HV:∀r,D7 t r->∃res,Ac C0 prog fu (d+3) 140 [.pbox (De t r),Aw D]=some res/\Ahl t r (V r) res):∀(n nn:Nat)(l:Aj),l.length+1<=n->l.length+1<=nn->D7 t l ->
  ∃res,D5 fu (Ac C0 prog fu (d+3)) s0 p0 D0 nn D t (B9 t l:Int)=some res/\Bak t l (ZQ V n l) res:=by
 intro n
 induction n with
 |zero=>intro nn l h1;omega
 |succ n ih=>
  intro nn l hn Gz h;obtain⟨k,rfl⟩:∃k,nn=k+1:=⟨nn-1,by omega⟩
  obtain⟨rv,ev,hv⟩:=HV l h;rw[Aqm,Mz];cases hV:V l with
  |error e=>
   rw[hV] at hv;obtain⟨he,c1,c2,c3,q,hq,rfl⟩:=hv;have hb:(e != (0:Int))=true:=by simp[he]
   refine⟨⟨[Aw e],[De t q]⟩,?_,he,q,hq,rfl⟩
   repeat(with_reducible(first|apply Bd|apply A0|apply Bc|apply A7|apply Bo|apply K3|apply A3|apply Be|apply Jc);· first|constructor|(simp(disch:=omega)only[Ja,ev,hb]<;>first|constructor|omega)|omega)
   try simp(disch:=omega)only[Aa,ev,hb]
  |ok x=>
   obtain⟨v,q⟩:=x;rw[hV] at hv;obtain⟨hq,rfl⟩:=hv;have hqt:=h.trans hq;have hs:=Wc (fu:=fu) (d:=d) hqt ht Bi;have HY:Ac C0 prog fu (d+3) 119 [.pbox (De t q)]=some ⟨[],[De t (Bh q)]⟩:=hs;have hqs:=Ce hqt;have A52:=Ce hq;have hb:((0:Int) != (0:Int))=false:=rfl;simp only;cases h1:A8 [93] (Bh q) with
   |some r'=>
    have a1:=H0 (fu:=fu) (d:=d) 93 93 rfl hqs ht h1;refine⟨⟨[Aw 0],[De t r']⟩,?_,Bl A52 h1,rfl⟩
    repeat(with_reducible(first|apply Bd|apply A0|apply Bc|apply A7|apply Bo|apply K3|apply A3|apply Be|apply Jc);· first|constructor|(simp(disch:=omega)only[Ja,ev,hb,HY,a1]<;>first|constructor|omega)|omega)
    try simp(disch:=omega)only[Aa,ev,hb,HY,a1]
   |none=>
    have a1:=Ns (fu:=fu) (d:=d) 93 93 rfl hqs ht h1;cases h2:A8 [44] (Bh q) with
    |none=>
     have a2:=Ns (fu:=fu) (d:=d) 44 44 rfl hqs ht h2;refine⟨⟨[Aw 2],[De t (Bh q)]⟩,?_,by decide,Bh q,hqs,rfl⟩
     repeat(with_reducible(first|apply Bd|apply A0|apply Bc|apply A7|apply Bo|apply K3|apply A3|apply Be|apply Jc);· first|constructor|(simp(disch:=omega)only[Ja,ev,hb,HY,a1,a2,Kd]<;>first|constructor|omega)|omega)
     try simp(disch:=omega)only[Aa,ev,hb,HY,a1,a2,Kd]
    |some r'=>
     have a2:=H0 (fu:=fu) (d:=d) 44 44 rfl hqs ht h2;have hr:=Bl hqs h2;have UU:=Bl A52 h2;have hs3:Ac C0 prog fu (d+3) 119 [.pbox (De t r')]=some ⟨[],[De t (Bh r')]⟩:=Wc (fu:=fu) (d:=d) hr ht Bi
     have hlr:(Bh r').length+1<=l.length:=by
      have e1:=hq.le;have e2:=Yi q;have e3:=Yi r'
      have e4:r'.length+1<=(Bh q).length:=by
       rw[Ft] at h2
       revert h2
       cases Bh q with
       |nil=>intro h2;cases h2
       |cons y s=>
        intro h2;simp only at h2;split at h2
        ·cases h2;simp
        ·cases h2
      omega
     obtain⟨res,e5,h5⟩:=ih k (Bh r') (by omega) (by omega) (Ce hr);refine⟨res,?_,?_⟩
     ·skip
      repeat(with_reducible(first|apply Bd|apply A0|apply Bc|apply A7|apply Bo|apply K3|apply A3|apply Be|apply Jc);· first|constructor|(simp(disch:=omega)only[Ja,ev,hb,HY,a1,a2,hs3,G9]<;>first|constructor|omega)|omega)
      try simp(disch:=omega)only[Aa,ev,hb,HY,a1,a2,hs3,G9]
      exact e5
     ·simp only;have hup:D7 (Ab l) (Bh r'):=Ce UU
      revert h5
      cases ZQ V n (Bh r') with
      |error e=>exact id
      |ok q2=>exact fun h5=>⟨hup.trans h5.1,h5.2⟩
end
theorem Ac7{c:Int}{x r:Aj}(h:A8 [c] x=some r):r.length+1<=x.length:=by
 rw[Ft] at h
 revert h
 cases x with
 |nil=>intro h;cases h
 |cons y s=>
  intro h;simp only at h;split at h
  ·cases h;simp
  ·cases h
theorem HI(V:Aj->JR (JV × Aj))(kp:Bool)(n:Nat)(ms:List (Aj × JV))(l:Aj):X8 V kp (n+1) ms l=match Gb l with
  |(none,_)=>.error 2
  |(some nm,r)=>if (kp&&ms.any fun m=>m.1==nm)=true then .error 10 else match A8 [58] (Bh r) with
   |none=>.error 2
   |some r1=>match V (Bh r1) with
    |.error e=>.error e
    |.ok (v,r2)=>match A8 [125] (Bh r2) with
     |some r3=>.ok (ms++[(nm,v)],r3)
     |none=>match A8 [44] (Bh r2) with
      |some r3=>X8 V kp n (ms++[(nm,v)]) (Bh r3)
      |none=>.error 2:=by
 show (match A1n V (fun nm=>kp&&ms.any fun m=>m.1==nm) l with | .error e=>_ | .ok (m,r)=>_)=_;unfold A1n GF;rcases Gb l with⟨o,r⟩;cases o with
 |none=>rfl
 |some nm=>
  simp only;by_cases hd:(kp&&ms.any fun m=>m.1==nm)=true
  rotate_left
  ·simp only[Br hd];rw[Ft];cases Bh r with
   |nil=>rfl
   |cons y s=>
    by_cases h:y=58
    ·subst h;simp only[if_true];cases V (Bh s) with
     |error e=>rfl
     |ok x=>
      obtain⟨v,r2⟩:=x;simp only;rw[Ft,Ft];cases Bh r2 with
      |nil=>rfl
      |cons y s=>
       by_cases h:y=125
       ·subst h;simp
       ·by_cases h2:y=44
        ·subst h2;simp
        ·simp only[Br h,Br h2];split
         ·rename_i e;injection e with e1 _;exact absurd e1 h
         ·rename_i e;injection e with e1 _;exact absurd e1 h2
         ·rfl
    ·simp only[Br h];split
     ·rename_i e;split at e
      ·rename_i e2;injection e2 with e1 _;exact absurd e1 h
      ·cases e;rfl
     ·rename_i e;split at e
      ·rename_i e2;injection e2 with e1 _;exact absurd e1 h
      ·cases e
  ·simp only[Cx hd]
def A98{α:Type}(t:ByteArray)(l:Aj)(x:JR (α × Aj))(res:A4):Prop:=
 match x with
 |.ok (_,q)=>D7 (Ab l) q/\res=⟨[Aw 0],[De t q]⟩
 |.error e=>e≠0/\∃q,D7 t q/\res=⟨[Aw e],[De t q]⟩
section
variable {fu d:Nat}
theorem Azk{t:ByteArray}{r:Aj}(h:D7 t r)(ht:t.size<=1000000):Ac C0 prog fu (d+1) 139 [.pbox (De t r)]=some ⟨[Bk (Ab ((Gb r).1.getD [])),Cz ((Gb r).1.isSome)],[De t (Gb r).2]⟩:=by
 have e0:Ac C0 prog fu (d+1) 139 [.pbox (De t r)]=Arq [.pbox (De t r)]:=rfl;have hl:=h.len
 have e1:(decide ((0:Int)<=(B9 t r:Int))&&decide ((B9 t r:Int)<=t.size)&&Nat.ble t.size 1000000)=true:=by
  simp only[E0,Yd,Nat.ble_eq];unfold B9;omega
 have e2:(B0 t).drop (B9 t r:Int).toNat=r:=by rw[Jp];exact h.eq.symm
 have hq:=(Jj h).len;rw[e0];unfold Arq;simp only[e1,cond_true,e2];rcases hx:Gb r with⟨o,q⟩;rw[hx] at hq;have e3:(t.size:Int)-q.length=(B9 t q:Int):=by unfold B9;simp only at hq;omega
 cases o with
 |none=>simp only[e3];rfl
 |some s=>simp only[e3];rfl
theorem A9q{t:ByteArray}{D:Int}(ht:t.size<=1000000)(Bi:t.size+1<=fu)(V:Aj->JR (JV × Aj))(HV:∀r,D7 t r->∃res,Ac C0 prog fu (d+3) 140 [.pbox (De t r),Aw D]=some res/\Ahl t r (V r) res){l:Aj}(h:D7 t (91::l)):
  ∃res,Ac C0 prog fu (d+4) 162 [.pbox (De t (91::l)),Aw D]=some res/\Bak t l (Alz V l) res:=by
 have a0:=H0 (fu:=fu) (d:=d) (q:=l) 91 91 rfl h ht (by rw[Ft];rfl)
 have hs:Ac C0 prog fu (d+3) 119 [.pbox (De t l)]=some ⟨[],[De t (Bh l)]⟩:=Wc (fu:=fu) (d:=d) h.tail ht Bi;have hS:=Ce h.tail;have hS2:=Ce (D7.self h.tail.B)
 have eA:Alz V l=match A8 [93] (Bh l) with|some r=>.ok r|none=>ZQ V ((Bh l).length+1) (Bh l):=by
  unfold Alz;rw[Ft];cases Bh l with
  |nil=>rfl
  |cons y s=>
   by_cases hy:y=93
   ·subst hy;rfl
   ·simp only[Br hy];split
    ·rename_i e;injection e with e1 _;exact absurd e1 hy
    ·rfl
 have er:=Pa (p:=pN) fu (d+3) t (B9 t (91::l):Int) D;rw[eA];cases h1:A8 [93] (Bh l) with
 |some r=>
  have a1:=H0 (fu:=fu) (d:=d) 93 93 rfl hS ht h1;refine⟨⟨[Aw 0],[De t r]⟩,er.trans ?_,Bl hS2 h1,rfl⟩
  repeat(with_reducible(first|apply Bd|apply A0|apply Bc|apply A7|apply Bo|apply A3|apply Be|apply Jc);· first|constructor|(simp(disch:=omega)only[Ja,a0,hs,a1,G9]<;>first|constructor|omega)|omega)
  try simp(disch:=omega)only[Aa,a0,hs,a1,G9]
 |none=>
  have a1:=Ns (fu:=fu) (d:=d) 93 93 rfl hS ht h1;obtain⟨res,e5,h5⟩:=Aqk (fu:=fu) (d:=d) (s0:=t) (p0:=(B9 t (91::l):Int)) (D0:=D) ht Bi V HV ((Bh l).length+1) fu (Bh l) (Cs _) (by have:=hS.len;omega) hS
  refine⟨res,er.trans ?_,?_⟩
  ·skip
   repeat(with_reducible(first|apply Bd|apply A0|apply Bc|apply A7|apply Bo|apply A3|apply Be|apply Jc);· first|constructor|(simp(disch:=omega)only[Ja,a0,hs,a1,G9]<;>first|constructor|omega)|omega)
   try simp(disch:=omega)only[Aa,a0,hs,a1,G9]
   exact e5
  ·simp only
   revert h5
   cases ZQ V ((Bh l).length+1) (Bh l) with
   |error e=>exact id
   |ok q2=>exact fun h5=>⟨hS2.trans h5.1,h5.2⟩
end
section
variable {fu d:Nat}
theorem Aqh{t s0:ByteArray}{p0 D0 D:Int}(ht:t.size<=1000000)(Bi:t.size+1<=fu)(V:Aj->JR (JV × Aj))(HV:∀r,D7 t r->∃res,Ac C0 prog fu (d+3) 140 [.pbox (De t r),Aw D]=some res/\Ahl t r (V r) res):∀(n nn:Nat)(ms:List (Aj × JV)) (l:Aj),l.length+1<=n->l.length+1<=nn->D7 t l ->
  ∃res,Dy fu (Ac C0 prog fu (d+3)) s0 p0 D0 nn D t (B9 t l:Int)=some res/\A98 t l (X8 V false n ms l) res:=by
 intro n
 induction n with
 |zero=>intro nn ms l h1;omega
 |succ n ih=>
  intro nn ms l hn Gz h;obtain⟨k,rfl⟩:∃k,nn=k+1:=⟨nn-1,by omega⟩
  have er:Ac C0 prog fu (d+3) 139 [.pbox (De t l)]=_:=Azk (d:=d+2) h ht;have hts:=Jj h;have YH:=Jj (D7.self h.B);rw[HI,L6];rcases hx:Gb l with⟨o,q⟩;rw[hx] at er hts YH;cases o with
  |none=>
   have er2:Ac C0 prog fu (d+3) 139 [.pbox (De t l)]=some ⟨[Bk (Ab []),Cz false],[De t q]⟩:=er;refine⟨⟨[Aw 2],[De t q]⟩,?_,by decide,q,hts,rfl⟩
   repeat(with_reducible(first|apply Bd|apply A0|apply Bc|apply A7|apply Bo|apply K3|apply A3|apply Be|apply Jc);· first|constructor|(simp(disch:=omega)only[Ja,er2,Kd]<;>first|constructor|omega)|omega)
   try simp(disch:=omega)only[Aa,er2,Kd]
  |some nm=>
   have er2:Ac C0 prog fu (d+3) 139 [.pbox (De t l)]=some ⟨[Bk (Ab nm),Cz true],[De t q]⟩:=er;simp only at hts YH;have HY:Ac C0 prog fu (d+3) 119 [.pbox (De t q)]=some ⟨[],[De t (Bh q)]⟩:=Wc (fu:=fu) (d:=d) hts ht Bi;have MR:=Ce hts;have Ot:=Ce YH;simp only[SU,Bool.false_eq_true,if_false];cases h1:A8 [58] (Bh q) with
   |none=>
    have a1:=Ns (fu:=fu) (d:=d) 58 58 rfl MR ht h1;refine⟨⟨[Aw 2],[De t (Bh q)]⟩,?_,by decide,Bh q,MR,rfl⟩
    repeat(with_reducible(first|apply Bd|apply A0|apply Bc|apply A7|apply Bo|apply K3|apply A3|apply Be|apply Jc);· first|constructor|(simp(disch:=omega)only[Ja,er2,HY,a1,G9,Kd]<;>first|constructor|omega)|omega)
    try simp(disch:=omega)only[Aa,er2,HY,a1,G9,Kd]
   |some r1=>
    have a1:=H0 (fu:=fu) (d:=d) 58 58 rfl MR ht h1;have TE:=Bl MR h1;have UU:=Bl Ot h1;have hs3:Ac C0 prog fu (d+3) 119 [.pbox (De t r1)]=some ⟨[],[De t (Bh r1)]⟩:=Wc (fu:=fu) (d:=d) TE ht Bi;have hv1:=Ce TE;have hv2:=Ce UU;obtain⟨rv,ev,hv⟩:=HV (Bh r1) hv1;simp only;cases hV:V (Bh r1) with
    |error e=>
     rw[hV] at hv;obtain⟨he,c1,c2,c3,q3,hq3,rfl⟩:=hv;have hb:(e != (0:Int))=true:=by simp[he]
     refine⟨⟨[Aw e],[De t q3]⟩,?_,he,q3,hq3,rfl⟩
     repeat(with_reducible(first|apply Bd|apply A0|apply Bc|apply A7|apply Bo|apply K3|apply A3|apply Be|apply Jc);· first|constructor|(simp(disch:=omega)only[Ja,er2,HY,a1,hs3,ev,hb,G9]<;>first|constructor|omega)|omega)
     try simp(disch:=omega)only[Aa,er2,HY,a1,hs3,ev,hb,G9]
    |ok x=>
     obtain⟨v,r2⟩:=x;rw[hV] at hv;obtain⟨hq3,rfl⟩:=hv;have hb:((0:Int) != (0:Int))=false:=rfl;have hw1:=hv1.trans hq3;have hw2:=hv2.trans hq3;have hs4:Ac C0 prog fu (d+3) 119 [.pbox (De t r2)]=some ⟨[],[De t (Bh r2)]⟩:=Wc (fu:=fu) (d:=d) hw1 ht Bi;have hz1:=Ce hw1;have hz2:=Ce hw2;simp only;cases h2:A8 [125] (Bh r2) with
     |some r3=>
      have a2:=H0 (fu:=fu) (d:=d) 125 125 rfl hz1 ht h2;refine⟨⟨[Aw 0],[De t r3]⟩,?_,Bl hz2 h2,rfl⟩
      repeat(with_reducible(first|apply Bd|apply A0|apply Bc|apply A7|apply Bo|apply K3|apply A3|apply Be|apply Jc);· first|constructor|(simp(disch:=omega)only[Ja,er2,HY,a1,hs3,ev,hb,hs4,a2,G9]<;>first|constructor|omega)|omega)
      try simp(disch:=omega)only[Aa,er2,HY,a1,hs3,ev,hb,hs4,a2,G9]
     |none=>
      have a2:=Ns (fu:=fu) (d:=d) 125 125 rfl hz1 ht h2;cases h3:A8 [44] (Bh r2) with
      |none=>
       have a3:=Ns (fu:=fu) (d:=d) 44 44 rfl hz1 ht h3;refine⟨⟨[Aw 2],[De t (Bh r2)]⟩,?_,by decide,Bh r2,hz1,rfl⟩
       repeat(with_reducible(first|apply Bd|apply A0|apply Bc|apply A7|apply Bo|apply K3|apply A3|apply Be|apply Jc);· first|constructor|(simp(disch:=omega)only[Ja,er2,HY,a1,hs3,ev,hb,hs4,a2,a3,G9,Kd]<;>first|constructor|omega)|omega)
       try simp(disch:=omega)only[Aa,er2,HY,a1,hs3,ev,hb,hs4,a2,a3,G9,Kd]
      |some r3=>
       have a3:=H0 (fu:=fu) (d:=d) 44 44 rfl hz1 ht h3;have hy1:=Bl hz1 h3;have hy2:=Bl hz2 h3;have hs5:Ac C0 prog fu (d+3) 119 [.pbox (De t r3)]=some ⟨[],[De t (Bh r3)]⟩:=Wc (fu:=fu) (d:=d) hy1 ht Bi
       have hlr:(Bh r3).length+1<=l.length:=by
        have e1:=hz2.le;have e2:=Yi r3;have e3:=Ac7 h3;omega
       obtain⟨res,e5,h5⟩:=ih k (ms++[(nm,v)]) (Bh r3) (by omega) (by omega) (Ce hy1);refine⟨res,?_,?_⟩
       ·skip
        repeat(with_reducible(first|apply Bd|apply A0|apply Bc|apply A7|apply Bo|apply K3|apply A3|apply Be|apply Jc);· first|constructor|(simp(disch:=omega)only[Ja,er2,HY,a1,hs3,ev,hb,hs4,a2,a3,hs5,G9]<;>first|constructor|omega)|omega)
        try simp(disch:=omega)only[Aa,er2,HY,a1,hs3,ev,hb,hs4,a2,a3,hs5,G9]
        exact e5
       ·simp only;have hup:D7 (Ab l) (Bh r3):=Ce hy2
        revert h5
        cases X8 V false n (ms++[(nm,v)]) (Bh r3) with
        |error e=>exact id
        |ok q2=>exact fun h5=>⟨hup.trans h5.1,h5.2⟩
theorem A7l{t:ByteArray}{D:Int}(ht:t.size<=1000000)(Bi:t.size+1<=fu)(V:Aj->JR (JV × Aj))(HV:∀r,D7 t r->∃res,Ac C0 prog fu (d+3) 140 [.pbox (De t r),Aw D]=some res/\Ahl t r (V r) res){l:Aj}(h:D7 t (123::l)):
  ∃res,Ac C0 prog fu (d+4) 120 [.pbox (De t (123::l)),Aw D,.sc (.map none)]=some res/\A98 t l (GL V false l) res:=by
 have a0:=H0 (fu:=fu) (d:=d) (q:=l) 123 123 rfl h ht (by rw[Ft];rfl)
 have hs:Ac C0 prog fu (d+3) 119 [.pbox (De t l)]=some ⟨[],[De t (Bh l)]⟩:=Wc (fu:=fu) (d:=d) h.tail ht Bi;have hS:=Ce h.tail;have hS2:=Ce (D7.self h.tail.B)
 have eA:GL V false l=match A8 [125] (Bh l) with|some r=>.ok ([],r)|none=>X8 V false ((Bh l).length+1) [] (Bh l):=by
  unfold GL;rw[Ft];cases Bh l with
  |nil=>rfl
  |cons y s=>
   by_cases hy:y=125
   ·subst hy;rfl
   ·simp only[Br hy];split
    ·rename_i e;injection e with e1 _;exact absurd e1 hy
    ·rfl
 have er:=Nv (p:=pN) fu (d+3) t (B9 t (123::l):Int) D;rw[eA];cases h1:A8 [125] (Bh l) with
 |some r=>
  have a1:=H0 (fu:=fu) (d:=d) 125 125 rfl hS ht h1;refine⟨⟨[Aw 0],[De t r]⟩,er.trans ?_,Bl hS2 h1,rfl⟩
  repeat(with_reducible(first|apply Bd|apply A0|apply Bc|apply A7|apply Bo|apply K3|apply A3|apply Be|apply Jc);· first|constructor|(simp(disch:=omega)only[Ja,a0,hs,a1,G9]<;>first|constructor|omega)|omega)
  try simp(disch:=omega)only[Aa,a0,hs,a1,G9]
 |none=>
  have a1:=Ns (fu:=fu) (d:=d) 125 125 rfl hS ht h1;obtain⟨res,e5,h5⟩:=Aqh (fu:=fu) (d:=d) (s0:=t) (p0:=(B9 t (123::l):Int)) (D0:=D) ht Bi V HV ((Bh l).length+1) fu [] (Bh l) (Cs _) (by have:=hS.len;omega) hS
  refine⟨res,er.trans ?_,?_⟩
  ·skip
   repeat(with_reducible(first|apply Bd|apply A0|apply Bc|apply A7|apply Bo|apply K3|apply A3|apply Be|apply Jc);· first|constructor|(simp(disch:=omega)only[Ja,a0,hs,a1,G9]<;>first|constructor|omega)|omega)
   try simp(disch:=omega)only[Aa,a0,hs,a1,G9]
   exact e5
  ·simp only
   revert h5
   cases X8 V false ((Bh l).length+1) [] (Bh l) with
   |error e=>exact id
   |ok q2=>exact fun h5=>⟨hS2.trans h5.1,h5.2⟩
end
def A4d(l:Aj):JR (JV × Aj):=
 match A8 [116,114,117,101] l with
 |some r=>.ok ((2,[],true),r)
 |none=>match A8 [102,97,108,115,101] l with
  |some r=>.ok ((2,[],false),r)
  |none=>match A8 [110,117,108,108] l with
   |some r=>.ok ((1,[],false),r)
   |none=>match Aa9 l with
    |some r=>.ok ((3,[],false),r)
    |none=>.error 2
theorem WX(k:Nat){l:Aj}(h1:YX l≠123)(h2:YX l≠91)(h3:YX l≠34):G1 k l=A4d l:=by
 unfold G1;split
 ·exact absurd rfl h1
 ·exact absurd rfl h2
 ·exact absurd rfl h3
 ·rfl
theorem Ap4{l r:Aj}(h:Cm l)(e:Aa9 l=some r):D7 (Ab l) r:=by
 have h0:=D7.self h;have e0:Aa9 l=(Axc (Ast 45 l)).bind VJ:=rfl;rw[e0,KE,XH] at e;have h1:D7 (Ab l) ((A8 [45] l).getD l):=Mc h0 fun q e=>Bl h0 e
 have hE:∀x q,D7 (Ab l) x->OA x=some q->D7 (Ab l) q:=by
  have hT:∀x q,D7 (Ab l) x->OD x=some q->D7 (Ab l) q:=by
   intro x q hx e;unfold OD at e;split at e
   ·rename_i hw;exact Kv (Bl hx hw) e
   ·exact Kv (Mc hx fun q e=>Bl hx e) e
  intro x q hx e;rw[UK] at e;split at e
  ·rename_i hw;exact hT _ _ (Bl hx hw) e
  ·split at e
   ·rename_i hw;exact hT _ _ (Bl hx hw) e
   ·cases e;exact hx
 have hF:∀x q,D7 (Ab l) x->VJ x=some q->D7 (Ab l) q:=by
  intro x q hx e;rw[OE] at e;split at e
  ·rename_i hw;obtain⟨y,hy,e⟩:=Option.bind_eq_some_iff.1 e;exact hE _ _ (Kv (Bl hx hw) hy) e
  ·exact hE _ _ hx e
 obtain⟨y,hy,e⟩:=Option.bind_eq_some_iff.1 e;split at hy
 ·rename_i hw;cases hy;exact hF _ _ (Bl h1 hw) e
 ·exact hF _ _ (Kv h1 hy) e
section
variable {fu d:Nat}
theorem A00{t:ByteArray}{r:Aj}(w:Aj)(lit:ByteArray)(hw:Ab w=lit)(hB:Cm w)(hl:w.length<=100)(h:D7 t r)(ht:t.size<=1000000):Ac C0 prog fu (d+3) 138 [.pbox (De t r),Bk lit]=some ⟨[Cz ((A8 w r).isSome)],[De t ((A8 w r).getD r)]⟩:=by subst hw;have e:=Yt (fu:=fu) (d:=d) (xs:=xs0) h ht (w:=w) hB hl;refine e.trans ?_;cases A8 w r<;>rfl
theorem Aq4{t:ByteArray}(ht:t.size<=1000000)(Bi:t.size+1<=fu){D:Int}{l:Aj}(h:D7 t l)(h1:YX l≠123)(h2:YX l≠91)(h3:YX l≠34):∃res,Ac C0 prog fu (d+5) 140 [.pbox (De t l),Aw D]=some res/\Ahl t l (A4d l) res:=by
 have er:=Cn (p:=pN) fu (d+4) t (B9 t l:Int) D;have pk:Ac C0 prog fu (d+4) 161 [.pbox (De t l)]=some ⟨[.sc (.int .u8 (YX l))],[De t l]⟩:=Rp (xs:=xs0) (d:=d+3) h;have b1:(YX l==(123:Int))=false:=by simp[h1]
 have b2:(YX l==(91:Int))=false:=by simp[h2]
 have b3:(YX l==(34:Int))=false:=by simp[h3]
 have Ao7:=D7.self h.B;have a1:=A00 (fu:=fu) (d:=d+1) [116,114,117,101] (ByteArray.mk #[116,114,117,101]) rfl (fun x hx=>by simp at hx;omega) (by decide) h ht
 have a2:=A00 (fu:=fu) (d:=d+1) [102,97,108,115,101] (ByteArray.mk #[102,97,108,115,101]) rfl (fun x hx=>by simp at hx;omega) (by decide) h ht
 have a3:=A00 (fu:=fu) (d:=d+1) [110,117,108,108] (ByteArray.mk #[110,117,108,108]) rfl (fun x hx=>by simp at hx;omega) (by decide) h ht
 obtain⟨rn,hrn,en,hn⟩:=Atf (fu:=fu) (d:=d) h ht Bi;have en2:Ac C0 prog fu (d+4) 163 [.pbox (De t l)]=some ⟨[Cz ((Aa9 l).isSome)],[De t rn]⟩:=en;unfold A4d;cases q1:A8 [116,114,117,101] l with
 |some r=>
  rw[q1] at a1;have a1':Ac C0 prog fu (d+4) 138 [.pbox (De t l),Bk ⟨#[116,114,117,101]⟩]=some ⟨[Cz true],[De t r]⟩:=a1;refine⟨_,er.trans ?_,Bl Ao7 q1,rfl⟩
  repeat(with_reducible(first|apply Bd|apply A0|apply Bc|apply A7|apply Bo|apply A3|apply Be|apply Jc);· first|constructor|(simp(disch:=omega)only[Ja,pk,b1,b2,b3,a1']<;>first|constructor|omega)|omega)
  try simp(disch:=omega)only[Aa,pk,b1,b2,b3,a1']
  rfl
 |none=>
  rw[q1] at a1;have a1':Ac C0 prog fu (d+4) 138 [.pbox (De t l),Bk ⟨#[116,114,117,101]⟩]=some ⟨[Cz false],[De t l]⟩:=a1;cases q2:A8 [102,97,108,115,101] l with
  |some r=>
   rw[q2] at a2;have a2':Ac C0 prog fu (d+4) 138 [.pbox (De t l),Bk ⟨#[102,97,108,115,101]⟩]=some ⟨[Cz true],[De t r]⟩:=a2;refine⟨_,er.trans ?_,Bl Ao7 q2,rfl⟩
   repeat(with_reducible(first|apply Bd|apply A0|apply Bc|apply A7|apply Bo|apply A3|apply Be|apply Jc);· first|constructor|(simp(disch:=omega)only[Ja,pk,b1,b2,b3,a1',a2']<;>first|constructor|omega)|omega)
   try simp(disch:=omega)only[Aa,pk,b1,b2,b3,a1',a2']
   rfl
  |none=>
   rw[q2] at a2;have a2':Ac C0 prog fu (d+4) 138 [.pbox (De t l),Bk ⟨#[102,97,108,115,101]⟩]=some ⟨[Cz false],[De t l]⟩:=a2;cases q3:A8 [110,117,108,108] l with
   |some r=>
    rw[q3] at a3;have a3':Ac C0 prog fu (d+4) 138 [.pbox (De t l),Bk ⟨#[110,117,108,108]⟩]=some ⟨[Cz true],[De t r]⟩:=a3;refine⟨_,er.trans ?_,Bl Ao7 q3,rfl⟩
    repeat(with_reducible(first|apply Bd|apply A0|apply Bc|apply A7|apply Bo|apply A3|apply Be|apply Jc);· first|constructor|(simp(disch:=omega)only[Ja,pk,b1,b2,b3,a1',a2',a3']<;>first|constructor|omega)|omega)
    try simp(disch:=omega)only[Aa,pk,b1,b2,b3,a1',a2',a3']
    rfl
   |none=>
    rw[q3] at a3;have a3':Ac C0 prog fu (d+4) 138 [.pbox (De t l),Bk ⟨#[110,117,108,108]⟩]=some ⟨[Cz false],[De t l]⟩:=a3;cases q4:Aa9 l with
    |some r=>
     rw[q4] at en2;have:=hn r q4;subst this;have en3:Ac C0 prog fu (d+4) 163 [.pbox (De t l)]=some ⟨[Cz true],[De t rn]⟩:=en2;refine⟨_,er.trans ?_,Ap4 h.B q4,rfl⟩
     repeat(with_reducible(first|apply Bd|apply A0|apply Bc|apply A7|apply Bo|apply A3|apply Be|apply Jc);· first|constructor|(simp(disch:=omega)only[Ja,pk,b1,b2,b3,a1',a2',a3',en3]<;>first|constructor|omega)|omega)
     try simp(disch:=omega)only[Aa,pk,b1,b2,b3,a1',a2',a3',en3]
     rfl
    |none=>
     rw[q4] at en2;have en3:Ac C0 prog fu (d+4) 163 [.pbox (De t l)]=some ⟨[Cz false],[De t rn]⟩:=en2;refine⟨_,er.trans ?_,by decide,0,⟨#[]⟩,false,rn,hrn,rfl⟩
     repeat(with_reducible(first|apply Bd|apply A0|apply Bc|apply A7|apply Bo|apply A3|apply Be|apply Jc);· first|constructor|(simp(disch:=omega)only[Ja,pk,b1,b2,b3,a1',a2',a3',en3]<;>first|constructor|omega)|omega)
     try simp(disch:=omega)only[Aa,pk,b1,b2,b3,a1',a2',a3',en3]
theorem Ax7(k:Nat)(r:Aj):G1 k (34::r)=match Gb (34::r) with|(some s,q)=>.ok ((4,s,false),q)|(none,_)=>.error 2:=by
 have e:G1 k (34::r)=match GF (34::r) with|none=>.error 2|some (s,r')=>.ok ((4,s,false),r'):=by
  cases k<;>rfl
 rw[e];unfold GF;rcases Gb (34::r) with⟨o,q⟩;cases o<;>rfl
theorem Acl{t:ByteArray}(ht:t.size<=1000000)(k:Nat){D:Int}{l:Aj}(h:D7 t (34::l)):∃res,Ac C0 prog fu (d+5) 140 [.pbox (De t (34::l)),Aw D]=some res/\Ahl t (34::l) (G1 k (34::l)) res:=by
 have er:=Cn (p:=pN) fu (d+4) t (B9 t (34::l):Int) D;have pk:Ac C0 prog fu (d+4) 161 [.pbox (De t (34::l))]=some ⟨[.sc (.int .u8 34)],[De t (34::l)]⟩:=Rp (xs:=xs0) (d:=d+3) h;have Hr:Ac C0 prog fu (d+4) 139 [.pbox (De t (34::l))]=_:=Azk (d:=d+3) h ht;have hts:=Jj h;have YH:=Jj (D7.self h.B);have b1:((34:Int)==(123:Int))=false:=rfl;have b2:((34:Int)==(91:Int))=false:=rfl;have b3:((34:Int)==(34:Int))=true:=rfl;rw[Ax7];rcases hx:Gb (34::l) with⟨o,q⟩;rw[hx] at Hr hts YH;cases o with
 |none=>
  have Aqe:Ac C0 prog fu (d+4) 139 [.pbox (De t (34::l))]=some ⟨[Bk (Ab []),Cz false],[De t q]⟩:=Hr;refine⟨_,er.trans ?_,by decide,0,⟨#[]⟩,false,q,hts,rfl⟩
  repeat(with_reducible(first|apply Bd|apply A0|apply Bc|apply A7|apply Bo|apply A3|apply Be|apply Jc);· first|constructor|(simp(disch:=omega)only[Ja,pk,b1,b2,b3,Aqe]<;>first|constructor|omega)|omega)
  try simp(disch:=omega)only[Aa,pk,b1,b2,b3,Aqe]
 |some s=>
  have Aqe:Ac C0 prog fu (d+4) 139 [.pbox (De t (34::l))]=some ⟨[Bk (Ab s),Cz true],[De t q]⟩:=Hr;refine⟨_,er.trans ?_,YH,rfl⟩
  repeat(with_reducible(first|apply Bd|apply A0|apply Bc|apply A7|apply Bo|apply A3|apply Be|apply Jc);· first|constructor|(simp(disch:=omega)only[Ja,pk,b1,b2,b3,Aqe]<;>first|constructor|omega)|omega)
  try simp(disch:=omega)only[Aa,pk,b1,b2,b3,Aqe]
theorem Azh{t:ByteArray}(ht:t.size<=1000000)(Bi:t.size+1<=fu):∀(k:Nat)(D:Int),D+k=9->1<=D->∀l,D7 t l->∃res,Ac C0 prog fu (d+2*k+5) 140 [.pbox (De t l),Aw D]=some res/\Ahl t l (G1 k l) res:=by
 intro k
 induction k with
 |zero=>
  intro D hD h1 l h;by_cases g1:YX l=123
  ·cases l with
   |nil=>cases g1
   |cons c l=>
    have g2:c=123:=g1;subst g2;have er:=Cn (p:=pN) fu (d+4) t (B9 t (123::l):Int) D;have pk:Ac C0 prog fu (d+4) 161 [.pbox (De t (123::l))]=some ⟨[.sc (.int .u8 123)],[De t (123::l)]⟩:=Rp (xs:=xs0) (d:=d+3) h;have b1:((123:Int)==(123:Int))=true:=rfl;have b2:decide (D>8)=true:=by simp;omega
    refine⟨_,er.trans ?_,(by decide:(5:Int)≠0),0,⟨#[]⟩,false,123::l,h,rfl⟩
    repeat(with_reducible(first|apply Bd|apply A0|apply Bc|apply A7|apply Bo|apply A3|apply Be|apply Jc);· first|constructor|(simp(disch:=omega)only[Ja,pk,b1,b2]<;>first|constructor|omega)|omega)
    try simp(disch:=omega)only[Aa,pk,b1,b2]
  ·by_cases g2:YX l=91
   ·cases l with
    |nil=>cases g2
    |cons c l=>
     have g3:c=91:=g2;subst g3;have er:=Cn (p:=pN) fu (d+4) t (B9 t (91::l):Int) D;have pk:Ac C0 prog fu (d+4) 161 [.pbox (De t (91::l))]=some ⟨[.sc (.int .u8 91)],[De t (91::l)]⟩:=Rp (xs:=xs0) (d:=d+3) h;have b0:((91:Int)==(123:Int))=false:=rfl;have b1:((91:Int)==(91:Int))=true:=rfl;have b2:decide (D>8)=true:=by simp;omega
     refine⟨_,er.trans ?_,(by decide:(5:Int)≠0),0,⟨#[]⟩,false,91::l,h,rfl⟩
     repeat(with_reducible(first|apply Bd|apply A0|apply Bc|apply A7|apply Bo|apply A3|apply Be|apply Jc);· first|constructor|(simp(disch:=omega)only[Ja,pk,b0,b1,b2]<;>first|constructor|omega)|omega)
     try simp(disch:=omega)only[Aa,pk,b0,b1,b2]
   ·by_cases g3:YX l=34
    ·cases l with
     |nil=>cases g3
     |cons c l=>
      have g4:c=34:=g3;subst g4;exact Acl ht 0 h
    ·rw[WX 0 g1 g2 g3];exact Aq4 ht Bi h g1 g2 g3
 |succ k ih=>
  intro D hD h1 l h;have HV:=ih (D+1) (by omega) (by omega);by_cases g1:YX l=123
  ·cases l with
   |nil=>cases g1
   |cons c l=>
    have g2:c=123:=g1;subst g2;have er:=Cn (p:=pN) fu (d+2*(k+1)+4) t (B9 t (123::l):Int) D;have pk:Ac C0 prog fu (d+2*(k+1)+4) 161 [.pbox (De t (123::l))]=some ⟨[.sc (.int .u8 123)],[De t (123::l)]⟩:=Rp (xs:=xs0) (d:=d+2*(k+1)+3) h;have b1:((123:Int)==(123:Int))=true:=rfl;have b2:decide (D>8)=false:=by simp;omega
    have w1:wrap .i64 (D+1)=D+1:=Bb;obtain⟨res,e5,h5⟩:=A7l (fu:=fu) (d:=d+2*k+2) (D:=D+1) ht Bi (G1 k) HV h;have e6:Ac C0 prog fu (d+2*(k+1)+4) 120 [.pbox (De t (123::l)),Aw (D+1),.sc (.map none)]=some res:=e5;have ev:G1 (k+1) (123::l)=match GL (G1 k) false l with | .error e=>.error e | .ok (_,r')=>.ok ((6,[],false),r'):=rfl
    rw[ev];cases ho:GL (G1 k) false l with
    |error e=>
     rw[ho] at h5;obtain⟨he,q,hq,rfl⟩:=h5;refine⟨_,er.trans ?_,he,6,⟨#[]⟩,false,q,hq,rfl⟩
     repeat(with_reducible(first|apply Bd|apply A0|apply Bc|apply A7|apply Bo|apply A3|apply Be|apply Jc);· first|constructor|(simp(disch:=omega)only[Ja,pk,b1,b2,w1,e6]<;>first|constructor|omega)|omega)
     try simp(disch:=omega)only[Aa,pk,b1,b2,w1,e6]
    |ok x=>
     obtain⟨ms,q⟩:=x;rw[ho] at h5;obtain⟨hq,rfl⟩:=h5;refine⟨_,er.trans ?_,(D7.self h.B).tail.trans hq,rfl⟩
     repeat(with_reducible(first|apply Bd|apply A0|apply Bc|apply A7|apply Bo|apply A3|apply Be|apply Jc);· first|constructor|(simp(disch:=omega)only[Ja,pk,b1,b2,w1,e6]<;>first|constructor|omega)|omega)
     try simp(disch:=omega)only[Aa,pk,b1,b2,w1,e6]
     rfl
  ·by_cases g2:YX l=91
   ·cases l with
    |nil=>cases g2
    |cons c l=>
     have g3:c=91:=g2;subst g3;have er:=Cn (p:=pN) fu (d+2*(k+1)+4) t (B9 t (91::l):Int) D;have pk:Ac C0 prog fu (d+2*(k+1)+4) 161 [.pbox (De t (91::l))]=some ⟨[.sc (.int .u8 91)],[De t (91::l)]⟩:=Rp (xs:=xs0) (d:=d+2*(k+1)+3) h;have b0:((91:Int)==(123:Int))=false:=rfl;have b1:((91:Int)==(91:Int))=true:=rfl;have b2:decide (D>8)=false:=by simp;omega
     have w1:wrap .i64 (D+1)=D+1:=Bb;obtain⟨res,e5,h5⟩:=A9q (fu:=fu) (d:=d+2*k+2) (D:=D+1) ht Bi (G1 k) HV h;have e6:Ac C0 prog fu (d+2*(k+1)+4) 162 [.pbox (De t (91::l)),Aw (D+1)]=some res:=e5;have ev:G1 (k+1) (91::l)=match Alz (G1 k) l with | .error e=>.error e | .ok r'=>.ok ((5,[],false),r'):=rfl
     rw[ev];cases ho:Alz (G1 k) l with
     |error e=>
      rw[ho] at h5;obtain⟨he,q,hq,rfl⟩:=h5;refine⟨_,er.trans ?_,he,5,⟨#[]⟩,false,q,hq,rfl⟩
      repeat(with_reducible(first|apply Bd|apply A0|apply Bc|apply A7|apply Bo|apply A3|apply Be|apply Jc);· first|constructor|(simp(disch:=omega)only[Ja,pk,b0,b1,b2,w1,e6]<;>first|constructor|omega)|omega)
      try simp(disch:=omega)only[Aa,pk,b0,b1,b2,w1,e6]
     |ok q=>
      rw[ho] at h5;obtain⟨hq,rfl⟩:=h5;refine⟨_,er.trans ?_,(D7.self h.B).tail.trans hq,rfl⟩
      repeat(with_reducible(first|apply Bd|apply A0|apply Bc|apply A7|apply Bo|apply A3|apply Be|apply Jc);· first|constructor|(simp(disch:=omega)only[Ja,pk,b0,b1,b2,w1,e6]<;>first|constructor|omega)|omega)
      try simp(disch:=omega)only[Aa,pk,b0,b1,b2,w1,e6]
      rfl
   ·by_cases g3:YX l=34
    ·cases l with
     |nil=>cases g3
     |cons c l=>
      have g4:c=34:=g3;subst g4;exact Acl (d:=d+2*(k+1)) ht (k+1) h
    ·rw[WX (k+1) g1 g2 g3];exact Aq4 (d:=d+2*(k+1)) ht Bi h g1 g2 g3
end
section
open Go.Shelf Go.RowKit Go.Lib
theorem Aiq(G:CK)(args:Ae)(res:A4)(h:Aet args=some res):C6 G prog 168 args res:=by
 refine⟨⟨_,Tryz.func168,by kernel_rfl⟩,fun w Y bt us hi _ _=>?_⟩;unfold Aet at h;split at h
 rotate_left
 ·cases h
 rename_i s p;cases hq:(Nat.ble p.size 1000&&p.data.toList.all (fun b=>decide (b.toNat<128))&&decide (s.size<=1000000000))
 ·rw[hq] at h;cases h
 rw[hq,cond_true] at h;cases h;rw[E0,E0] at hq;obtain⟨⟨h1,h2⟩,h3⟩:=hq;have h1:=Pf h1;have h3:=of_decide_eq_true h3;have ps:=hi.args
 match us,ps with
 |[u1,u2],ps=>
  obtain⟨⟨_,p1⟩,⟨_,p2⟩,_⟩:=ps;have e1:u1=.string s:=Au.val (show Au w _ (Bk s) u1 from p1);have e2:u2=.string p:=Au.val (show Au w _ (Bk p) u2 from p2);subst e1 e2;refine (Any.strings_Trim_laid Ah2 (by kernel_rfl) s p w (by omega) (by omega) (ascii_of_all h2)).mono ?_
  rintro e w' ⟨rfl,hb⟩
  exact⟨[.string ⟨(Lib.trimS s.data.toList p.data.toList).toArray⟩],fun _=>none,rfl,Q4 hb rfl⟩
 |[],ps=>exact ps.elim
 |[_],ps=>exact ps.2.elim
 |_::_::_::_,ps=>exact ps.2.2.elim
end
section
open Go.Shelf Go.RowKit Go.Lib
def A90:Go.Shelf.Ren:=⟨fun|196=>91|259=>118|n=>n,fun|0=>0|3=>3|4=>4|5=>5|9=>9|12=>12|46=>67|53=>28|119=>194|138=>196|139=>197|n=>n,fun|3=>0|4=>1|n=>n⟩
theorem laysVS:Lays.n196 prog A90:={
 mixed:=by kernel_rfl
 f196:=Tryz.func91.trans (congrArg some (by kernel_rfl))
 f259:=Tryz.func118.trans (congrArg some (by kernel_rfl))
 t0:=Tryz.underlying0
 a0:=Tryz.isAgg0
 z0:=Tryz.sizeOf0
 v0:=Tryz.zeroValue0
 t3:=Tryz.underlying3
 a3:=Tryz.isAgg3
 z3:=Tryz.sizeOf3
 v3:=Tryz.zeroValue3
 t4:=Tryz.underlying4
 a4:=Tryz.isAgg4
 z4:=Tryz.sizeOf4
 v4:=Tryz.zeroValue4
 t5:=Tryz.underlying5
 a5:=Tryz.isAgg5
 z5:=Tryz.sizeOf5
 v5:=Tryz.zeroValue5
 t9:=Tryz.underlying9
 a9:=Tryz.isAgg9
 z9:=Tryz.sizeOf9
 v9:=Tryz.zeroValue9
 t12:=Tryz.underlying12
 a12:=Tryz.isAgg12
 z12:=Tryz.sizeOf12
 v12:=Tryz.zeroValue12
 t46:=Tryz.underlying67
 a46:=Tryz.isAgg67
 z46:=Tryz.sizeOf67
 v46:=Tryz.zeroValue67
 t53:=Tryz.underlying28
 a53:=Tryz.isAgg28
 z53:=Tryz.sizeOf28
 v53:=Tryz.zeroValue28
 t119:=Tryz.underlying194
 a119:=Tryz.isAgg194
 z119:=Tryz.sizeOf194
 t138:=Tryz.underlying196
 a138:=Tryz.isAgg196
 z138:=Tryz.sizeOf196
 v138:=Tryz.zeroValue196
 t139:=Tryz.underlying197
 a139:=Tryz.isAgg197
 z139:=Tryz.sizeOf197
 v139:=Tryz.zeroValue197
 g3:=by kernel_rfl
 g4:=by kernel_rfl }
def gU:CK:=⟨fun b=>b=0\/b=1,fun w=>0<w.heap.size/\1<w.heap.size/\Lib.Utf8Tabs 0 1 w,fun w w' h ⟨s1,s2,h1,h2⟩=>by
 have e1:=h _ (.inl rfl) s1;have e2:=h _ (.inr rfl) s2
 have hs:∀b,b<w.heap.size->w'.heap[b]?=w.heap[b]?->b<w'.heap.size:=by
  intro b hb he;rw[Array.getElem?_eq_getElem hb] at he;rcases Ik b w'.heap.size with q|q
  ·exact q
  ·rw[Array.getElem?_eq_none q] at he;cases he
 refine⟨hs _ s1 e1,hs _ s2 e2,fun c hc=>?_,fun i hi=>?_⟩
 ·have:=h1 c hc;unfold World.cell? at this ⊢;simp only[e1] at this ⊢;exact this
 ·obtain⟨a,b⟩:=h2 i hi;unfold World.cell? at a b ⊢;simp only[e2] at a b ⊢;exact⟨a,b⟩⟩
theorem Acc(args:Ae)(res:A4)(h:Aif args=some res):C6 gU prog 91 args res:=by
 refine⟨⟨_,Tryz.func91,by kernel_rfl⟩,fun w Y bt us hi hok _=>?_⟩;unfold Aif at h;split at h
 rotate_left
 ·cases h
 rename_i s;cases hq:decide (s.size<=9223372036854775807)
 ·rw[hq] at h;cases h
 rw[hq] at h;cases h;have hs:=of_decide_eq_true hq;have ps:=hi.args
 match us,ps with
 |[u],ps=>
  have hu:u=.string s:=by
   have:Au w _ (Bk s) u:=ps.1.2;exact this.val
  subst hu;refine (Any.utf8_ValidString laysVS s w hs hok.2.2).mono ?_
  rintro e w' ⟨rfl,hb⟩
  exact⟨[.bool (Lib.validD s.data.toList)],fun _=>none,rfl,Q4 hb rfl⟩
 |[],ps=>exact ps.elim
 |_::_::_,ps=>exact ps.2.elim
theorem Arj{p:FuncId->Option (Ae->Option A4)}(hp:∀f,Ajd.any (Nat.beq f)=true->∀g,p f=some g->∀args res,g args=some res->C6 gU prog f args res):GX gU prog (CP p):=by
 intro f g args res hx hg;have hx0:(bif FO.any (Nat.beq f) then none else UD p f)=some g:=hx;cases hb:FO.any (Nat.beq f)
 rotate_left
 ·rw[hb,cond_true] at hx0;cases hx0
 rw[hb,cond_false] at hx0;unfold UD at hx0;cases hP:Ajd.any (Nat.beq f)
 rotate_left
 ·rw[hP,cond_true] at hx0;exact hp f hP g hx0 args res hg
 rw[hP,cond_false] at hx0;have Xa:Aqz f=some g:=hx0;unfold Aqz at Xa;cases h1:Nat.beq f 91
 rotate_left
 ·rw[h1,cond_true] at Xa;cases Xa;rw[Dc h1];exact Acc args res hg
 rw[h1,cond_false] at Xa;cases h2:Nat.beq f 216
 rotate_left
 ·rw[h2,cond_true] at Xa;cases Xa;rw[Dc h2];exact TL gU args res hg
 rw[h2,cond_false] at Xa;cases h5:Nat.beq f 38
 rotate_left
 ·rw[h5,cond_true] at Xa;cases Xa;rw[Dc h5];exact Ahp hg
 rw[h5,cond_false] at Xa;cases h6:Nat.beq f 155
 rotate_left
 ·rw[h6,cond_true] at Xa;cases Xa;rw[Dc h6];exact Amn gU args res hg
 rw[h6,cond_false] at Xa;cases h7:Nat.beq f 209
 rotate_left
 ·rw[h7,cond_true] at Xa;cases Xa;rw[Dc h7];exact An4 gU args res hg
 rw[h7,cond_false] at Xa;cases hA:Nat.beq f 168
 rotate_left
 ·rw[hA,cond_true] at Xa;cases Xa;rw[Dc hA];exact Aiq gU args res hg
 rw[hA,cond_false] at Xa;cases h9:Nat.beq f 139
 rotate_left
 ·rw[h9,cond_true] at Xa;cases Xa;rw[Dc h9];exact Anh gU args res hg
 rw[h9,cond_false] at Xa;cases h3:Nat.beq f 1000000
 ·rw[h3,cond_false] at Xa;cases Xa
 ·rw[h3,cond_true] at Xa;cases Xa;cases hg
theorem A2h:GX gU prog C0:=Arj (fun _ _ _ h=>by cases h)
end
section
open Go Go.RowKit
def Yo(v:JV):Value:=.agg #[.int .i64 v.1,.string (Ab v.2.1),.bool v.2.2]
def Mu:Nat->List (Aj × JV)->List MapEntry
 |_,[]=>[]
 |i,m::r=>{ key:=.string (Ab m.1),val:=Yo m.2,born:=i }::Mu (i+1) r
theorem VH:∀(i:Nat)(a b:List (Aj × JV)),Mu i (a++b)=Mu i a++Mu (i+a.length) b
 |_,[],_=>rfl
 |i,m::r,b=>by
  show _::Mu (i+1) (r++b)=_;rw[VH (i+1) r b];show _=_::(Mu (i+1) r++Mu (i+(r.length+1)) b);rw[show i+1+r.length=i+(r.length+1) by omega]
def Pz(nm:Aj)(ms:List (Aj × JV)):Option JV:=(ms.find? fun m=>m.1==nm).map (·.2)
theorem KM{a b:Aj}(ha:Cm a)(hb:Cm b)(h:Ab a=Ab b):a=b:=by
 have:=congrArg B0 h
 rwa [Dd ha,Dd hb] at this
theorem Asi(a b:ByteArray):(a==b)=decide (a=b):=by
 have e:(a==b)=(a.data==b.data):=by
  cases a;cases b;rfl
 rw[e,Bool.eq_iff_iff,beq_iff_eq,decide_eq_true_iff];constructor
 ·intro h;cases a;cases b;exact congrArg ByteArray.mk h
 ·intro h;rw[h]
theorem Zq{nm:Aj}(hn:Cm nm):∀(ms:List (Aj × JV)) (i j:Nat),(∀m∈ms,Cm m.1)->∃r,Instr.findNow .string (.string (Ab nm)) (Mu i ms) j=some r/\(match Pz nm ms with|none=>r=none|some v=>∃k,r=some (k,Yo v))
 |[],_,_,_=>⟨none,rfl,rfl⟩
 |m::r,i,j,hB=>by
  by_cases h:m.1=nm
  ·refine⟨some (j,Yo m.2),?_,?_⟩
   ·show (match Instr.sameNow .string (.string (Ab nm)) (.string (Ab m.1)) with|some true=>some (some (j,Yo m.2))|some false=>Instr.findNow .string (.string (Ab nm)) (Mu (i+1) r) (j+1)|none=>none)=_
    have e:Instr.sameNow .string (.string (Ab nm)) (.string (Ab m.1))=some true:=by
     show some (Ab nm==Ab m.1)=some true;rw[h,Asi];simp
    rw[e]
   ·have e:Pz nm (m::r)=some m.2:=by
     unfold Pz;rw[List.find?_cons_of_pos (by simp[h])];rfl
    rw[e];exact⟨j,rfl⟩
  ·obtain⟨q,hq,hl⟩:=Zq hn r (i+1) (j+1) fun m hm=>hB m (Ut _ hm);refine⟨q,?_,?_⟩
   ·show (match Instr.sameNow .string (.string (Ab nm)) (.string (Ab m.1)) with|some true=>some (some (j,Yo m.2))|some false=>Instr.findNow .string (.string (Ab nm)) (Mu (i+1) r) (j+1)|none=>none)=_
    have e:Instr.sameNow .string (.string (Ab nm)) (.string (Ab m.1))=some false:=by
     show some (Ab nm==Ab m.1)=some false;have:Ab nm≠Ab m.1:=fun e=>h (KM hn (hB m (DW ..)) e).symm;rw[Asi];simp[this]
    rw[e];exact hq
   ·have e:Pz nm (m::r)=Pz nm r:=by
     unfold Pz;rw[List.find?_cons_of_neg (by simp[h])]
    rw[e];exact hl
def OP(w:World)(b:Nat)(ms:List (Aj × JV)):Prop:=w.heap[b]?=some (.map (Mu 0 ms).toArray ms.length)
theorem PN{w:World}{b:Nat}{ms:List (Aj × JV)}(h:OP w b ms):(getObj b).run prog w=.ok (.map (Mu 0 ms).toArray ms.length) w:=by simp[getObj,Sem.run,show w.heap[b]?=_ from h]
def Ac5(nm:Aj)(ms:List (Aj × JV)):Value:=match Pz nm ms with|some v=>Yo v|none=>Yo (0,[],false)
theorem QH{w:World}{b:Nat}{ms:List (Aj × JV)}(h:OP w b ms)(hB:∀m∈ms,Cm m.1){nm:Aj}(hn:Cm nm)(ok:Bool):(Instr.lookup 167 (.map (some b)) (.string (Ab nm)) ok).run prog w=.ok (if ok then .tuple #[Ac5 nm ms,.bool (Pz nm ms).isSome] else Ac5 nm ms) w:=by
 have hu:=run_underlying (w:=w) Tryz.underlying167;have hk:=run_underlying (w:=w) Tryz.underlying9;have hck:∀c (n:Nat),(Instr.checkKey c (n+1) 9 (.string (Ab nm))).run prog w=.ok () w:=fun c n=>by simp[Instr.checkKey,hk]
 have hc:∀c,(Instr.checkKey c 10000 9 (.string (Ab nm))).run prog w=.ok () w:=fun c=>hck c 9999;obtain⟨r,hr,hl⟩:=Zq hn ms 0 0 hB;have hz:(zeroValue 203).run prog w=.ok (Yo (0,[],false)) w:=Tryz.zeroValue203 w;unfold Ac5;cases hq:Pz nm ms with
 |none=>
  rw[hq] at hl;simp only at hl;subst hl;cases ok<;>simp[Instr.lookup,hu,hk,PN h,hc,Instr.findKey,hr,hz]<;>rfl
 |some v=>
  rw[hq] at hl;obtain⟨k,hl⟩:=hl;subst hl;cases ok<;>simp[Instr.lookup,hu,hk,PN h,hc,Instr.findKey,hr]
theorem Aie{w:World}{b:Nat}{ms:List (Aj × JV)}(h:OP w b ms)(hB:∀m∈ms,Cm m.1){nm:Aj}(hn:Cm nm)(ZW:Pz nm ms=none)(v:JV):(Instr.mapUpdate 167 (.map (some b)) (.string (Ab nm)) (Yo v)).run prog w=.ok () { w with heap:=w.heap.setIfInBounds b (.map (Mu 0 (ms++[(nm,v)])).toArray (ms++[(nm,v)]).length) }:=by
 have hu:=run_underlying (w:=w) Tryz.underlying167;have hk:=run_underlying (w:=w) Tryz.underlying9;have hck:∀c (n:Nat),(Instr.checkKey c (n+1) 9 (.string (Ab nm))).run prog w=.ok () w:=fun c n=>by simp[Instr.checkKey,hk]
 have hc:∀c,(Instr.checkKey c 10000 9 (.string (Ab nm))).run prog w=.ok () w:=fun c=>hck c 9999;obtain⟨r,hr,hl⟩:=Zq hn ms 0 0 hB;rw[ZW] at hl;simp only at hl;subst hl
 have e:Mu 0 (ms++[(nm,v)])=Mu 0 ms++[{ key:=.string (Ab nm),val:=Yo v,born:=ms.length }]:=by
  rw[VH];show _++[_]=_;rw[Ip]
 have hs:∀o,(setObj b o).run prog w=.ok () { w with heap:=w.heap.setIfInBounds b o }:=fun o=>by
  simp[setObj,Sem.run,show w.heap[b]?=_ from h]
 rw[e];simp[Instr.mapUpdate,hu,hk,PN h,hc,Instr.findKey,hr,hs]
end
section
open Go Go.RowKit
structure Qd(w:World)(b:Nat):Prop where
 ok:gU.ok w
 bl:∀k,gU.bl k->k<w.heap.size/\k≠b
theorem QK{f:FuncId}{t:ByteArray}{r r':Aj}{args vals:Ae}{us rs:List Value}{fu d:Nat}(e:Ac C0 prog fu d f (.pbox (De t r)::args)=some ⟨vals,[De t r']⟩)(ha:Bj RU args us)(hr:Bj RU vals rs){w:World}{b o:Nat}(hU:Qd w b)(h:GQ w b o t r):Calls prog f (.pointer (some ⟨b,o,none⟩)::us).toArray w fun e w'=>e=.returned (J9 rs)/\GQ w' b o t r'/\F1 w w' b o 2:=by
 have hs:C6 gU prog f (.pbox ([Value.string t,.int .i64 (B9 t r:Int)].map .sc)::args) ⟨vals,[[Value.string t,.int .i64 (B9 t r':Int)].map .sc]⟩:=Dm ngR mxR A2h d f _ _ e;refine (UZ hs ha hr (w:=w) (b:=b) (o:=o) hU.ok hU.bl h.lt ?_ ?_).mono ?_
 ·intro j v hv
  match j,hv with
  |0,hv=>cases hv;exact h.c0
  |1,hv=>cases hv;exact h.c1
 ·intro j hj
  match j,hj with
  |0,_=>exact h.f0
  |1,_=>exact h.f1
 ·rintro e w' ⟨rfl,_,h4,h5,hk⟩
  exact⟨rfl,⟨Gf h.lt hk.size,h4 0 _ rfl,h4 1 _ rfl,h5 0 (Nat.zero_lt_succ _),h5 1 (Nat.succ_lt_succ (Nat.zero_lt_succ _))⟩,hk⟩
theorem Ld{t:ByteArray}{r:Aj}(hS:D7 t r)(ht:t.size<=1000000){w:World}{b o:Nat}(hU:Qd w b)(h:GQ w b o t r):
  Calls prog 119 #[.pointer (some ⟨b,o,none⟩)] w fun e w'=>e=.returned (.tuple #[])/\GQ w' b o t (Bh r)/\F1 w w' b o 2:=by
 have e:=Wc (fu:=1000001) (d:=0) hS ht (by omega);exact QK (us:=[]) (rs:=[]) e trivial trivial hU h
def A1r(t:ByteArray)(r r':Aj)(e:Ending):Prop:=
 match G1 8 r with
 |.ok (v,q)=>r'=q/\D7 (Ab r) q/\e=.returned (.tuple #[Yo v,.int .i64 0])
 |.error er=>er≠0/\D7 t r'/\∃u:JV,e=.returned (.tuple #[Yo u,.int .i64 er])
theorem Ane{t:ByteArray}{r:Aj}(hS:D7 t r)(ht:t.size<=1000000){w:World}{b o:Nat}(hU:Qd w b)(h:GQ w b o t r):
  Calls prog 140 #[.pointer (some ⟨b,o,none⟩),.int .i64 1] w fun e w'=>∃r',GQ w' b o t r'/\F1 w w' b o 2 /\
   A1r t r r' e:=by
 unfold A1r;obtain⟨res,e,hr⟩:=Azh (fu:=1000001) (d:=0) ht (by omega) 8 1 (by omega) (by omega) r hS;cases hv:G1 8 r with
 |error er=>
  rw[hv] at hr;obtain⟨he,c1,c2,c3,q,hq,rfl⟩:=hr;refine (QK (us:=[.int .i64 1]) (rs:=[.agg #[.int .i64 c1,.string c2,.bool c3],.int .i64 er]) e ⟨.inl rfl,trivial⟩ ⟨.inr ⟨[.int .i64 c1,.string c2,.bool c3],rfl,rfl⟩,.inl rfl,trivial⟩ hU h).mono ?_
  rintro e w' ⟨rfl,ha,hk⟩
  exact⟨q,ha,hk,he,hq,(c1,B0 c2,c3),by unfold Yo;simp only[H2];rfl⟩
 |ok x=>
  obtain⟨v,q⟩:=x;rw[hv] at hr;obtain⟨hq,rfl⟩:=hr;refine (QK (us:=[.int .i64 1]) (rs:=[Yo v,.int .i64 0]) e ⟨.inl rfl,trivial⟩ ⟨.inr ⟨[.int .i64 v.1,.string (Ab v.2.1),.bool v.2.2],rfl,rfl⟩,.inl rfl,trivial⟩ hU h).mono ?_
  rintro e w' ⟨rfl,ha,hk⟩
  exact⟨q,ha,hk,rfl,hq,rfl⟩
end
section
open Go Go.RowKit Go.Lib
theorem Qd.keep{w w':World}{b o n:Nat}(h:Qd w b)(k:F1 w w' b o n):Qd w' b:=
 ⟨gU.stable w w' (fun j hj hl=>k.other j hl (h.bl j hj).2) h.ok,fun j hj=>⟨Gf (h.bl j hj).1 k.size,(h.bl j hj).2⟩⟩
theorem OP.keep{w w':World}{b mb o n:Nat}{ms:List (Aj × JV)}(h:OP w mb ms)(k:F1 w w' b o n)(Hp:mb≠b):OP w' mb ms:=by have Cq:mb<w.heap.size:=(Array.getElem?_eq_some_iff.1 h).1;exact (k.other mb Cq Hp).trans h
structure E5(w w':World)(b mb:Nat):Prop where
 os:w'.os=w.os
 tape:w'.tape=w.tape
 output:w'.output=w.output
 size:w.heap.size<=w'.heap.size
 other:∀k,k<w.heap.size->k≠b->k≠mb->w'.heap[k]?=w.heap[k]?
theorem E5.of{w w':World}{b mb o n:Nat}(k:F1 w w' b o n):E5 w w' b mb:=⟨k.os,k.tape,k.output,k.size,fun j hj hb _=>k.other j hj hb⟩
theorem Qd.below{w w':World}{b:Nat}(h:Qd w b)(k:Below w.heap.size w w'):Qd w' b:=
 ⟨gU.stable w w' (fun j _ hl=>k.block j hl) h.ok,fun j hj=>⟨Gf (h.bl j hj).1 k.size,(h.bl j hj).2⟩⟩
theorem OP.below{w w':World}{mb:Nat}{ms:List (Aj × JV)}(h:OP w mb ms)(k:Below w.heap.size w w'):OP w' mb ms:=by have Cq:mb<w.heap.size:=(Array.getElem?_eq_some_iff.1 h).1;exact (k.block mb Cq).trans h
theorem E5.trans{w w' w'':World}{b mb:Nat}(h:E5 w w' b mb)(k:E5 w' w'' b mb):E5 w w'' b mb:=
 ⟨k.os.trans h.os,k.tape.trans h.tape,k.output.trans h.output,Nat.le_trans h.size k.size,fun i hi h1 h2=>(k.other i (Gf hi h.size) h1 h2).trans (h.other i hi h1 h2)⟩
theorem Ag7:∀(n:Nat)(out l s q:Aj),Cm out->Cm l->L7 n out l=(some s,q)->Cm s
  |0,_,_,_,_,_,_,h=>by cases h
  |_+1,_,[],_,_,_,_,h=>by cases h
  |n+1,out,c::l,s,q,ho,hl,h=>by
    have e:L7 (n+1) out (c::l)=if c<32 then (none,c::l) else if c=34 then (some out,l) else if c=92 then
        (match Sx l with
         |(some x,r')=>L7 n (out++Lib.encodeRuneZ x) r'
         |(none,r')=>(none,r')) else L7 n (out++[c]) l:=rfl
    have Ww:=Ds hl
    rw[e] at h
    split at h
    · cases h
    split at h
    · cases h;exact ho
    split at h
    · have h2:=Zn (D7.self Ww.2)
      rcases hq:Sx l with⟨o,r⟩
      rw[hq] at h2 h
      cases o with
      |none=>cases h
      |some x=>exact Ag7 n _ r s q (Re ho (fun y hy=>by have:=Lib.encodeRuneZ_byte x y hy;omega)) (by have:=h2.B;exact this) h
    · exact Ag7 n _ l s q (Re ho (fun y hy=>by simp at hy;omega)) Ww.2 h
theorem Aje{l s q:Aj}(hl:Cm l)(h:Gb l=(some s,q)):Cm s:=by
 cases l with
 |nil=>cases h
 |cons c l=>
  have e:Gb (c::l)=if c=34 then L7 (l.length+1) [] l else (none,c::l):=rfl
  rw[e] at h;split at h
  ·exact Ag7 _ _ _ _ _ (fun x hx=>by cases hx) (Ds hl).2 h
  ·cases h
theorem E5.below{w w':World}{b mb:Nat}(k:Below w.heap.size w w'):E5 w w' b mb:=⟨k.os,k.tape,k.output,k.size,fun i hi _ _=>k.block i hi⟩
theorem Awn{P:Program}{t k e:TypeId}(hu:P.underlying t=some (.map k e))(mb:Nat)(w:World):(binOp .neq t (.map (some mb)) (.map none)).run P w=.ok (.bool true) w:=by
 have h:∀d,(Op.equalIn (d+1) t (.map (some mb)) (.map none)).run P w=.ok false w:=fun d=>by
  simp[Op.equalIn,run_underlying hu]
 simp only[binOp];simp[Op.equal,Op.maxDepth,h 9999]
theorem As0(nm:Aj)(ms:List (Aj × JV)):(ms.any fun m=>m.1==nm)=(Pz nm ms).isSome:=by
 unfold Pz
 induction ms with
 |nil=>rfl
 |cons m r ih=>
  by_cases h:m.1=nm
  ·rw[List.find?_cons_of_pos (by simp[h])];simp[h]
  ·rw[List.find?_cons_of_neg (by simp[h]),<-ih];simp[h]
theorem AK(V:Aj->JR (JV × Aj))(kp:Bool)(l:Aj):GL V kp l=match A8 [125] (Bh l) with|some r=>.ok ([],r)|none=>X8 V kp ((Bh l).length+1) [] (Bh l):=by
 unfold GL;rw[Ft];cases Bh l with
 |nil=>rfl
 |cons y s=>
  by_cases hy:y=125
  ·subst hy;rfl
  ·simp only[Br hy];split
   ·rename_i e;injection e with e1 _;exact absurd e1 hy
   ·rfl
theorem QG{W:World}{mb b:Nat}{ob:Obj}(Hp:mb≠b):({ W with heap:=W.heap.setIfInBounds mb ob }:World).heap[b]?=W.heap[b]?:=Array.getElem?_setIfInBounds_ne Hp
theorem GQ.put{W:World}{b o mb:Nat}{t:ByteArray}{r:Aj}{ob:Obj}(h:GQ W b o t r)(Hp:mb≠b):GQ { W with heap:=W.heap.setIfInBounds mb ob } b o t r:=by
 have e:=QG (W:=W) (ob:=ob) Hp;refine⟨by simpa using h.lt,(World.cell?_of_block e).trans h.c0,(World.cell?_of_block e).trans h.c1,?_,?_⟩
 ·have:=h.f0;unfold World.frozen? at this ⊢;simp only[e] at this ⊢;exact this
 ·have:=h.f1;unfold World.frozen? at this ⊢;simp only[e] at this ⊢;exact this
theorem Qd.put{W:World}{b mb:Nat}{ob:Obj}(h:Qd W b)(hmU:¬gU.bl mb):Qd { W with heap:=W.heap.setIfInBounds mb ob } b:=
 ⟨gU.stable W _ (fun j hj _=>QG (fun e=>hmU (e ▸ hj))) h.ok,fun j hj=>⟨by simpa using (h.bl j hj).1,(h.bl j hj).2⟩⟩
theorem E5.put{W:World}{b mb:Nat}{ob:Obj}:E5 W { W with heap:=W.heap.setIfInBounds mb ob } b mb:=
 ⟨rfl,rfl,rfl,by simp,fun k _ _ h=>QG (fun e=>h e.symm)⟩
theorem OP.put{W:World}{mb n:Nat}{ms ms':List (Aj × JV)}(h:OP W mb ms)(hn:ms'.length=n):OP { W with heap:=W.heap.setIfInBounds mb (.map (Mu 0 ms').toArray n) } mb ms':=by have Cq:mb<W.heap.size:=(Array.getElem?_eq_some_iff.1 h).1;subst hn;exact Array.getElem?_setIfInBounds_self_of_lt Cq
def RoP(w':World)(mb:Nat)(l r':Aj)(e:Ending):Prop:=
 match A8 [123] l with
 |some l'=>(match GL (G1 8) true l' with
  |.ok (ms,q)=>r'=q/\e=.returned (.int .i64 0)/\OP w' mb ms
  |.error er=>er≠0/\e=.returned (.int .i64 er))
 |none=>e=.returned (.int .i64 2)
set_option maxHeartbeats 4000000 in
theorem Ayl{t:ByteArray}{l:Aj}(hS:D7 t l)(ht:t.size<=1000000){w:World}{b o mb:Nat}(hU:Qd w b)(h:GQ w b o t l)(hM:OP w mb [])(ZT:mb≠b)(hmU:¬gU.bl mb):
  Calls prog 120 #[.pointer (some ⟨b,o,none⟩),.int .i64 1,.map (some mb)] w fun e w'=>E5 w w' b mb/\∃r',D7 t r'/\GQ w' b o t r' /\
   RoP w' mb l r' e:=by
 have mixed:prog.follows Departure.mixedOrders=true:=by kernel_rfl
 have hac:=Js hS ht (w0:=[123]) (fun x hx=>by simp at hx;omega) (by decide) h
 go_enter Tryz.func120,Tryz.ntmps120
 go_wp2_with (go_at_call 138;refine hac.mono ?_)
 rintro e W1 ⟨rfl,h1,k1⟩
 cases hq:A8 [123] l with
 |none=>
  rw[hq] at h1
  go_wp2
  go_ret
  exact⟨E5.of k1,l,hS,h1,by unfold RoP;rw[hq];rfl⟩
 |some l'=>
  rw[hq] at h1;have hS1:=Bl hS hq;have hsk:=Ld hS1 ht (hU.keep k1) h1
  go_wp2_with (go_at_call 119;refine hsk.mono ?_)
  rintro e W2 ⟨rfl,h2,k2⟩
  have hS2:=Ce hS1;have Bds:=Js hS2 ht (w0:=[125]) (fun x hx=>by simp at hx;omega) (by decide) h2
  go_wp2_with (go_at_call 138;refine Bds.mono ?_)
  rintro e W3 ⟨rfl,h3,k3⟩
  cases Ot:A8 [125] (Bh l') with
  |some r3=>
   rw[Ot] at h3
   go_wp2
   go_ret
   refine⟨((E5.of k1).trans (E5.of k2)).trans (E5.of k3),r3,Bl hS2 Ot,h3,?_⟩;unfold RoP;rw[hq];simp only;rw[AK,Ot];exact⟨rfl,rfl,((hM.keep k1 ZT).keep k2 ZT).keep k3 ZT⟩
  |none=>
   rw[Ot] at h3
   have hRo:∀w' r' e,(match X8 (G1 8) true ((Bh l').length+1) [] (Bh l') with
     |.ok (ms,q)=>r'=q/\e=.returned (.int .i64 0)/\OP w' mb ms
     |.error er=>er≠0/\e=.returned (.int .i64 er))->RoP w' mb l r' e:=by
    intro w' r' e h;unfold RoP;rw[hq];simp only;rw[AK,Ot];exact h
   have hU3:=((hU.keep k1).keep k2).keep k3;have hM3:=((hM.keep k1 ZT).keep k2 ZT).keep k3 ZT;have Pp:E5 w W3 b mb:=((E5.of k1).trans (E5.of k2)).trans (E5.of k3)
   go_wp2
   go_loopw [] (fun wr=>∃(n:Nat) (ms:List (Aj × JV)) (x:Aj),X8 (G1 8) true ((Bh l').length+1) [] (Bh l')=X8 (G1 8) true n ms x/\x.length<n/\D7 t x/\GQ wr b o t x/\OP wr mb ms/\(∀m∈ms,Cm m.1)/\Qd wr b/\E5 w wr b mb) (fun wr=>match wr.cell? ⟨b,o+1,none⟩ with|some (.int _ p)=>t.size-p.toNat|_=>0)
   case atStart=>
    exact⟨_,[],Bh l',rfl,Nat.lt_succ_self _,hS2,h3,hM3,(fun m hm=>by cases hm),hU3,Pp⟩
   case round=>
    obtain⟨n,ms,x,Hr,hn,hSx,hat,hMx,hBx,hUx,hkx⟩:=hrel;have hrd:Calls prog 139 #[.pointer (some ⟨b,o,none⟩)] wr fun e w'=>e=.returned (.tuple #[.string (Ab ((Gb x).1.getD [])),.bool (Gb x).1.isSome])/\GQ w' b o t (Gb x).2/\F1 wr w' b o 2:=Acx hSx ht hat
    go_wp2_with (go_at_call 139;refine hrd.mono ?_)
    rintro e W4 ⟨rfl,h4,k4⟩
    obtain⟨m,rfl⟩:∃m,n=m+1:=⟨n-1,by omega⟩
    rw[HI (G1 8) true m ms x] at Hr;have AW:E5 w W4 b mb:=hkx.trans (E5.of k4);have hS4:=Jj hSx;rcases hx:Gb x with⟨o4,q4⟩;rw[hx] at h4 Hr hS4;cases o4 with
    |none=>
     go_wp2
     go_ret
     exact⟨AW,q4,hS4,h4,hRo _ _ _ (by rw[Hr];exact⟨by decide,rfl⟩)⟩
    |some nm=>
     have TS:=Aje hSx.B hx;have hM4:=hMx.keep k4 ZT;have hlk:=QH hM4 hBx TS true;simp only[YD,As0] at Hr;cases hl:Pz nm ms with
     |some v=>
      rw[hl] at hlk Hr;have hvm:Ac5 nm ms=.agg #[.int .i64 v.1,.string (Ab v.2.1),.bool v.2.2]:=by unfold Ac5;rw[hl];rfl
      rw[hvm] at hlk
      go_wp2
      go_ret
      have Wn:=fun ob=>(Below.refl W4.heap.size W4).alloc (Cs _) ob;exact⟨AW.trans (E5.below (Wn _)),q4,hS4,h4.below (Wn _) h4.lt,hRo _ _ _ (by rw[Hr];exact⟨by decide,rfl⟩)⟩
     |none=>
      rw[hl] at hlk Hr;have hvm:Ac5 nm ms=.agg #[.int .i64 0,.string ⟨#[]⟩,.bool false]:=by unfold Ac5;rw[hl];rfl
      rw[hvm] at hlk;have Wn:Below W4.heap.size W4 (W4.alloc (.cells #[.int .i64 0,.string ⟨#[]⟩,.bool false] 203)):=(Below.refl W4.heap.size W4).alloc (Cs _) _;have h5:=h4.below Wn h4.lt;have hM5:=hM4.below Wn;have hU5:=(hUx.keep k4).below Wn;have hk5:=AW.trans (E5.below (b:=b) (mb:=mb) Wn);have A24:=Ld hS4 ht hU5 h5
      go_wp2_with (go_at_call 119;refine A24.mono ?_)
      rintro e W6 ⟨rfl,h6,k6⟩
      have TH:=Ce hS4;have Bd7:=Js TH ht (w0:=[58]) (fun x hx=>by simp at hx;omega) (by decide) h6
      go_wp2_with (go_at_call 138;refine Bd7.mono ?_)
      rintro e W7 ⟨rfl,h7,k7⟩
      have hk7:=(hk5.trans (E5.of k6)).trans (E5.of k7);cases hq7:A8 [58] (Bh q4) with
      |none=>
       rw[hq7] at h7
       go_wp2
       go_ret
       exact⟨hk7,Bh q4,TH,h7,hRo _ _ _ (by rw[Hr];simp only[Option.isSome_none,Bool.false_eq_true,if_false,hq7];exact⟨by decide,rfl⟩)⟩
      |some r7=>
       rw[hq7] at h7;have hS7:=Bl TH hq7;have hU7:=(hU5.keep k6).keep k7;have hM7:=(hM5.keep k6 ZT).keep k7 ZT;have Bff:=Ld hS7 ht hU7 h7
       go_wp2_with (go_at_call 119;refine Bff.mono ?_)
       rintro e W8 ⟨rfl,h8,k8⟩
       have hS8:=Ce hS7;have hvc:=Ane hS8 ht (hU7.keep k8) h8
       go_wp2_with (go_at_call 140;refine hvc.mono ?_)
       rintro e W9 ⟨r9,h9,k9,hv9⟩
       have hk9:=(hk7.trans (E5.of k8)).trans (E5.of k9)
       have Am6:X8 (G1 8) true ((Bh l').length+1) [] (Bh l')=match G1 8 (Bh r7) with
         |.error e=>.error e
         |.ok (v,r2)=>match A8 [125] (Bh r2) with
          |some r3=>.ok (ms++[(nm,v)],r3)
          |none=>match A8 [44] (Bh r2) with
           |some r3=>X8 (G1 8) true m (ms++[(nm,v)]) (Bh r3)
           |none=>.error 2:=by
        rw[Hr];simp only[Option.isSome_none,Bool.false_eq_true,if_false,hq7]
        all_goals (rcases G1 8 (Bh r7) with e|⟨v,r2⟩;rfl;simp only;cases A8 [125] (Bh r2)<;>cases A8 [44] (Bh r2)<;>rfl)
       unfold A1r at hv9;cases hv:G1 8 (Bh r7) with
       |error er=>
        rw[hv] at hv9 Am6;obtain⟨he,hs9,u,rfl⟩:=hv9;unfold Yo;have hbe:(er != (0:Int))=true:=by simp[he]
        go_wp2
        go_ret
        have Agc:=fun ob=>(Below.refl W9.heap.size W9).alloc (Cs _) ob;exact⟨hk9.trans (E5.below (Agc _)),r9,hs9,h9.below (Agc _) h9.lt,hRo _ _ _ (by rw[Am6];exact⟨he,rfl⟩)⟩
       |ok x9=>
        obtain⟨v9,q9⟩:=x9;rw[hv] at hv9 Am6;obtain⟨rfl,hq9,rfl⟩:=hv9;unfold Yo;have Agc:Below W9.heap.size W9 (W9.alloc (.cells #[.int .i64 v9.1,.string (Ab v9.2.1),.bool v9.2.2] 203)):=(Below.refl W9.heap.size W9).alloc (Cs _) _;have h10:=h9.below Agc h9.lt;have A8a:=((hM7.keep k8 ZT).keep k9 ZT).below Agc;have Bci:=((hU7.keep k8).keep k9).below Agc;have Bdn:=hk9.trans (E5.below (b:=b) (mb:=mb) Agc);have hup:=Aie A8a hBx TS hl v9;unfold Yo at hup;have Hp:=Awn Tryz.underlying167 mb;have hS9:=hS8.trans hq9;have h11:=h10.put (mb:=mb) (ob:=.map (Mu 0 (ms++[(nm,v9)])).toArray (ms.length+1)) ZT;have A60:=Bci.put (ob:=.map (Mu 0 (ms++[(nm,v9)])).toArray (ms.length+1)) hmU;have hln:(ms++[(nm,v9)]).length=ms.length+1:=by simp
        rw[hln] at hup;have Bap:=A8a.put (ms':=ms++[(nm,v9)]) hln;have Bcw:=Bdn.trans (E5.put (b:=b) (ob:=.map (Mu 0 (ms++[(nm,v9)])).toArray (ms.length+1)));have A7m:=Ld hS9 ht A60 h11
        go_wp2_with (go_at_call 119;refine A7m.mono ?_)
        rintro e W12 ⟨rfl,h12,k12⟩
        have Asw:=Ce hS9;have A6t:=Js Asw ht (w0:=[125]) (fun x hx=>by simp at hx;omega) (by decide) h12
        go_wp2_with (go_at_call 138;refine A6t.mono ?_)
        rintro e W13 ⟨rfl,h13,k13⟩
        have A6g:=(Bcw.trans (E5.of k12)).trans (E5.of k13);cases Amt:A8 [125] (Bh r9) with
        |some r13=>
         rw[Amt] at h13
         go_wp2
         go_ret
         exact⟨A6g,r13,Bl Asw Amt,h13,hRo _ _ _ (by rw[Am6];simp only;rw[Amt];exact⟨rfl,rfl,(Bap.keep k12 ZT).keep k13 ZT⟩)⟩
        |none=>
         rw[Amt] at h13;have A7g:=Js Asw ht (w0:=[44]) (fun x hx=>by simp at hx;omega) (by decide) h13
         go_wp2_with (go_at_call 138;refine A7g.mono ?_)
         rintro e W14 ⟨rfl,h14,k14⟩
         have A94:=A6g.trans (E5.of k14);cases Amr:A8 [44] (Bh r9) with
         |none=>
          rw[Amr] at h14
          go_wp2
          go_ret
          exact⟨A94,Bh r9,Asw,h14,hRo _ _ _ (by rw[Am6];simp only;rw[Amt];simp only;rw[Amr];exact⟨by decide,rfl⟩)⟩
         |some r14=>
          rw[Amr] at h14;have Bar:=Bl Asw Amr;have A8c:=((A60.keep k12).keep k13).keep k14;have Bfu:=((Bap.keep k12 ZT).keep k13 ZT).keep k14 ZT;have Bah:=Ld Bar ht A8c h14
          go_wp2_with (go_at_call 119;refine Bah.mono ?_)
          rintro e W15 ⟨rfl,h15,k15⟩
          have Bfy:=Ce Bar
          have hlr:(Bh r14).length+1<=x.length:=by
           have YH:=Jj (D7.self hSx.B);rw[hx] at YH;have g1:=(Ce (Bl (Ce YH) hq7))
           have g2:=((Ce (g1.trans hq9))).le;have g3:=Yi r14;have g4:=Ac7 Amr;omega
          have hxl:=hSx.len
          go_wp2
          refine⟨⟨m,ms++[(nm,v9)],Bh r14,by rw[Am6];simp only[Amt,Amr],by omega,Bfy,h15,Bfu.keep k15 ZT,fun y hy=>?_,A8c.keep k15,A94.trans (E5.of k15)⟩,?_⟩
          ·rcases Bx.1 hy with hy|hy
           ·exact hBx y hy
           ·simp at hy;subst hy;exact TS
          ·have hp3:B9 t x<B9 t (Bh r14):=by unfold B9;omega
           have hp4:B9 t (Bh r14)<=t.size:=Nat.sub_le _ _;simp only[h15.c1,hat.c1,Jp];omega
end
def Az(c:Int):Aj->List Aj
 |[]=>[[]]
 |x::r=>if x=c then []::Az c r else match Az c r with
  |h::t=>(x::h)::t
  |[]=>[[x]]
theorem Q1(c:Int)(l:Aj):Az c l≠[]:=by
 cases l with
 |nil=>simp[Az]
 |cons x r=>
  unfold Az;split
  ·simp
  ·cases Az c r<;>simp
def Bp(c:Int)(l:Aj):Aj:=l.takeWhile (fun x=>x != c)
theorem LC(c:Int):∀(l:Aj),Az c l=if (Bp c l).length<l.length then Bp c l::Az c (l.drop ((Bp c l).length+1)) else [l]
 |[]=>rfl
 |x::r=>by
  by_cases h:x=c
  ·subst h;have e:Bp x (x::r)=[]:=by unfold Bp;rw[List.takeWhile_cons_of_neg (by simp)]
   have e2:Az x (x::r)=[]::Az x r:=by
    show (if x=x then []::Az x r else _)=_;rw[Cx rfl]
   rw[e,Cx (by simp),e2];rfl
  ·have e:Bp c (x::r)=x::Bp c r:=by unfold Bp;rw[List.takeWhile_cons_of_pos (by simp[h])]
   have e2:Az c (x::r)=match Az c r with|a::t=>(x::a)::t|[]=>[[x]]:=by
    show (if x=c then []::Az c r else _)=_;rw[Br h]
   rw[e,e2,LC c r];by_cases g:(Bp c r).length<r.length
   ·rw[Cx g,Cx (by simp;omega)]
    rfl
   ·rw[Br g,Br (by simp;omega)]
def BN(x:Int):Bool:=decide (48<=x)&&decide (x<=57)
def ltB(x:Int):Bool:=(decide (97<=x)&&decide (x<=122))||BN x
def K9(l:Aj):Bool:=decide (1<=l.length)&&decide (l.length<=63) && !(l.head?==some 45) && !(l.getLast?==some 45)&&l.all (fun x=>ltB x||x==45)
def S2(l:Aj):Int:=
 if 100<l.length then 8 else if (Az 46 l).all K9=false then 2 else if ((Az 46 l).getLastD []).all BN=true then 2 else 0
def DI(l:Aj):Int:=l.foldl (fun n x=>10*n+(x-48)) 0
def Jw(l:Aj):Bool:=decide (1<=l.length)&&decide (l.length<=5) && !(l.head?==some 48)&&l.all BN
def dfl(s:Bool):Int:=if s=true then 443 else 80
def Y0(s:Bool)(r:Aj):Int:=
 let nm:=Bp 58 r
 if S2 nm≠0 then S2 nm else if nm.length=r.length then 0 else
  if Jw (r.drop (nm.length+1))=true/\DI (r.drop (nm.length+1))<=65535/\DI (r.drop (nm.length+1))≠dfl s then 0 else 2
def Gk(l:Aj):Int:=
 if [104,116,116,112,115,58,47,47].isPrefixOf l=true then Y0 true (l.drop 8)
 else if [104,116,116,112,58,47,47].isPrefixOf l=true then Y0 false (l.drop 7) else 2
end
end Go.Proofs.YtamoegpkglhedaaGreatDoor.Pv
