/-
  The proof of RegistrationLeaves, part 4.
-/
import Derived.Test.YtamoegpkglhedaaGreatDoorLC
import Derived.Test.YtamoegpkglhedaaGreatDoorRows
import Derived.Lib.RuneBytes
import Derived.Lib.SlTrimSet
import Derived.Lib.BytesEntry
import Derived.Lib.Bytealg
import Derived.Lib.Walk
import Derived.WalkKit
import Derived.WalkMore
import Derived.Laws.Bits64b
import Derived.Shelf.Strings.BuilderRune
import Derived.Shelf.Strings.SlTrimAscii
import Derived.Lib.SliceRun
import Derived.RangeFuncNested
import Derived.RangeFuncLeaves
import Derived.RangeFuncKeeps
import Derived.RangeFuncBox
import Derived.Below
import Derived.Handy
import Derived.Shelf.Abstract
import Derived.OwnWalkIn
import Derived.TacticsInMore
import Derived.LoopNIn
import Derived.LoopIn
import Derived.Shelf.Unicode.ValidAny
import Derived.Lib.LaidU8T
set_option linter.unusedSimpArgs false
set_option linter.unusedVariables false
namespace Go.Proofs.YtamoegpkglhedaaGreatDoor.Pv
open Go.IntKind (wrap)
open Go.Proofs.Tryz (prog)
set_option maxRecDepth 1000000
noncomputable section
section
variable {xs:FuncId->Option (Ad->Option A1)}(fu d:Nat)(call:Aq)
def Gp(Z:Int)(Y:Nat)(X W V:Int)(U T:Ad):Option A1:=Ll fu call 147 Tryz.f147 [Ah Z] [.r,.r,.r,.l,.r,.l] Y ⟨lk [(0,Ah X),(2,.ptr 2 0),(3,.ptr 3 0),(4,W),(6,V)],Fw [(2,.ar false U),(3,.ar false T)]⟩
def S4(Z:Int)(Y:Nat)(X W:Ad):Option A1:=Ll fu call 147 Tryz.f147 [Ah Z] [.r,.r,.r,.r,.r] Y ⟨lk [(2,.ptr 2 0),(3,.ptr 3 0)],Fw [(2,.ar false X),(3,.ar false W)]⟩
def Sm(Z:Int)(Y:Nat)(X:Ad):Option A1:=Ll fu call 147 Tryz.f147 [Ah Z] [.r,.r,.r,.r,.r,.r] Y ⟨lk [(2,.ptr 2 0)],Fw [(2,.ar false X)]⟩
theorem P4(W:Int)(T:Nat)(V X Z:Int)(U Y:Ad):Gp fu call W (T+1) V X Z U Y=(Ax (decide (Z<16)) (Aa (wrap .i64 (4*Z)) fun a=>Aa (wrap .i64 (60-a)) fun a=>Ar (decide (0<=a))<|Aa (Gl .u64 V a) fun a=>Aa (D3 .u64 a 15) fun a=>Aa (wrap .i64 a) fun a=>Ar (decide (0<=Z)&&decide (Z<18))<|Ar (decide (0+Z.toNat*1+1<=Y.length))<|Aa (B1 Y [a] (0+Z.toNat*1)) fun a=>Ar (decide (0<=Z)&&decide (Z<18))<|Bc .i64 (a.getD (0+Z.toNat*1) .top) fun b=>Aa (wrap .i64 (15-b)) fun b=>Aa (wrap .i64 (X+b)) fun b=>Aa (wrap .i64 (Z+1)) fun c=>Gp fu call W T V b c U a) (Aa (wrap .i64 (Int.tdiv X 16)) fun a=>Ar (decide (17<=Y.length))<|Aa (B1 Y [a] 16) fun a=>Aa (Int.tmod X 16) fun b=>Ar (decide (18<=a.length))<|Aa (B1 a [b] 17) fun a=>S4 fu call W fu U a)):=by kernel_rfl
theorem Z4(W:Int)(Y:Nat)(Gy:0<Y)(X Z:Ad):S4 fu call W Y X Z=(Bc .i64 (Z.getD 0 .top) fun a=>Bc .i64 (Z.getD 1 .top) fun b=>Bc .i64 (Z.getD 2 .top) fun c=>Bc .i64 (Z.getD 3 .top) fun e=>Bc .i64 (Z.getD 4 .top) fun f=>Bc .i64 (Z.getD 5 .top) fun g=>Bc .i64 (Z.getD 6 .top) fun h=>Bc .i64 (Z.getD 7 .top) fun i=>Bc .i64 (Z.getD 8 .top) fun j=>Bc .i64 (Z.getD 9 .top) fun k=>Bc .i64 (Z.getD 10 .top) fun m=>Bc .i64 (Z.getD 11 .top) fun n=>Bc .i64 (Z.getD 12 .top) fun o=>Bc .i64 (Z.getD 13 .top) fun p=>Bc .i64 (Z.getD 14 .top) fun q=>Bc .i64 (Z.getD 15 .top) fun s=>Bc .i64 (Z.getD 16 .top) fun t=>Bc .i64 (Z.getD 17 .top) fun u=>Ar (decide (18<=X.length))<|Aa (B1 X [a,b,c,e,f,g,h,i,j,k,m,n,o,p,q,s,t,u] 0) fun a=>Sm fu call W fu a):=by cases Y with|zero=>exact absurd Gy (Nat.lt_irrefl 0)|succ Y=>kernel_rfl
theorem AL(X:Int)(Y:Nat)(Gy:0<Y)(Z:Ad):Sm fu call X Y Z=(Bc .i64 (Z.getD 0 .top) fun a=>Bc .i64 (Z.getD 1 .top) fun b=>Bc .i64 (Z.getD 2 .top) fun c=>Bc .i64 (Z.getD 3 .top) fun e=>Bc .i64 (Z.getD 4 .top) fun f=>Bc .i64 (Z.getD 5 .top) fun g=>Bc .i64 (Z.getD 6 .top) fun h=>Bc .i64 (Z.getD 7 .top) fun i=>Bc .i64 (Z.getD 8 .top) fun j=>Bc .i64 (Z.getD 9 .top) fun k=>Bc .i64 (Z.getD 10 .top) fun m=>Bc .i64 (Z.getD 11 .top) fun n=>Bc .i64 (Z.getD 12 .top) fun o=>Bc .i64 (Z.getD 13 .top) fun p=>Bc .i64 (Z.getD 14 .top) fun q=>Bc .i64 (Z.getD 15 .top) fun s=>Bc .i64 (Z.getD 16 .top) fun t=>Bc .i64 (Z.getD 17 .top) fun u=>Bj [.agg [a,b,c,e,f,g,h,i,j,k,m,n,o,p,q,s,t,u]]):=by cases Y with|zero=>exact absurd Gy (Nat.lt_irrefl 0)|succ Y=>kernel_rfl
theorem IC(Z:Int):O9 (CX xs) fu d 147 [Ah Z] fun call=>Gp fu call Z fu Z 0 0 ([(0:Int),(0:Int),(0:Int),(0:Int),(0:Int),(0:Int),(0:Int),(0:Int),(0:Int),(0:Int),(0:Int),(0:Int),(0:Int),(0:Int),(0:Int),(0:Int),(0:Int),(0:Int)]) ([(0:Int),(0:Int),(0:Int),(0:Int),(0:Int),(0:Int),(0:Int),(0:Int),(0:Int),(0:Int),(0:Int),(0:Int),(0:Int),(0:Int),(0:Int),(0:Int),(0:Int),(0:Int)]):=by show _=_;kernel_rfl
def L8(Z Y:Int)(X W V:Int)(U:Nat)(T S:Int)(Q P O:Int):Option A1:=Ll fu call 148 Tryz.f148 [Z,Y,X,W,Ah V] [.r,.r,.l,.r,.l] U ⟨lk [(0,T),(1,S),(4,Ah Q),(11,P),(12,O)],Fw []⟩
theorem Ux(U T:Int)(S Q P:Int)(O:Nat)(Y X:Int)(W V Z:Int):L8 fu call U T S Q P (O+1) Y X W V Z=(Ax (decide (Z<V)) (Aa (wrap .u64 Y) fun a=>Aa (wrap .u64 X) fun b=>Aa (wrap .u64 Z) fun c=>D6 (call 66 [A5 1 4 [Ah a,Ah b,Ah c,Ah W]]) fun a b=>Lg 1 a fun a c=>Ap b<|Ar (decide (0+a*1<=c.length))<|Gz .u64 (call 64 [(1:Int),A5 1 a (List.take (a*1) (c.drop 0))]) fun a=>Aa (wrap .i64 (Z+1)) fun b=>L8 fu call U T S Q P O Y X a V b) (Bj [Ah W])):=by kernel_rfl
theorem SA(X W:Int)(Z Y V:Int):O9 (CX xs) fu d 148 [X,W,Z,Y,Ah V] fun call=>Aa (if 15<Y then 15 else Y) fun a=>Aa (if Z<0 then 0 else Z) fun b=>L8 fu call X W Z Y V fu X W V a b:=by show _=_;kernel_rfl
theorem EL(Z Y:Int)(X W:Int)(V U:Int)(T S:Int)(Q P:Int)(O N:Int)(M L:Int)(K J:Int)(I H G:Int):O9 (CX xs) fu d 149 [Z,.agg [Ah Y,Ah X,Ah W,Ah V,Ah U,Ah T,Ah S,Ah Q,Ah P,Ah O,Ah N,Ah M,Ah L,Ah K,Ah J,Ah I,Ah H,Ah G]] fun call=>Aa (wrap .u64 Z) fun a=>D6 (call 66 [A5 1 19 [Ah a,Ah Y,Ah X,Ah W,Ah V,Ah U,Ah T,Ah S,Ah Q,Ah P,Ah O,Ah N,Ah M,Ah L,Ah K,Ah J,Ah I,Ah H,Ah G]]) fun a b=>Lg 1 a fun a c=>Ap b<|Ar (decide (0+a*1<=c.length))<|Gz .u64 (call 64 [(2:Int),A5 1 a (List.take (a*1) (c.drop 0))]) fun a=>Bj [Ah a]:=by show _=_;kernel_rfl
def E2(Z Y:Int)(X:Nat)(W:Ad)(V:Nat)(U:Int)(T:Nat)(S:Ad)(Q P:Int)(O N:Int)(M L:Int)(K J:Int)(I H:Int)(G E:Int)(D B:Int)(A z:Int)(w v u:Int)(t:Ad):Option A1:=Ll fu call 127 Tryz.f127 [Z,Ah Y,A5 1 X W] [.r,.r,.r,.l,.r,.l] V ⟨lk [(0,U),(2,A5 1 T S),(8,.ptr 8 0),(15,.agg [Q,P,O,N,M,L,K,J,I,H,G,E,D,B,A,z,w,v]),(16,u)],Fw [(8,.ar false t)]⟩
def Qw(Z Y:Int)(X:Nat)(W:Ad)(V:Nat)(U:Int)(T:Ad):Option A1:=Ll fu call 127 Tryz.f127 [Z,Ah Y,A5 1 X W] [.r,.r,.r] V ⟨lk [(0,U),(8,.ptr 8 0)],Fw [(8,.ar false T)]⟩
def Rx(Z Y:Int)(X:Nat)(W:Ad)(V:Nat)(U T:Int):Option A1:=Ll fu call 127 Tryz.f127 [Z,Ah Y,A5 1 X W] [.r,.r,.r,.r] V ⟨lk [(6,Ah U),(7,T)],Fw []⟩
theorem N4(W V:Int)(U:Nat)(T:Ad)(t:Nat)(Y:Int)(S:Nat)(Q:Ad)(P O:Int)(N M:Int)(L K:Int)(J I:Int)(H G:Int)(E D:Int)(B A:Int)(z w:Int)(v u Z:Int)(X:Ad):E2 fu call W V U T (t+1) Y S Q P O N M L K J I H G E D B A z w v u Z X=(Ax (decide (Z<18)) (Ar (decide (0<=Z)&&decide (Z<18)&&true)<|Bc .i64 (List.getD [P,O,N,M,L,K,J,I,H,G,E,D,B,A,z,w,v,u] (Z.toNat*1) .top) fun a=>Ar (decide (0<=Z)&&decide (Z<(↑S:Int)))<|Bc .u64 (Q.getD (Z.toNat*1) .top) fun b=>Gz .u64 (call 148 [Y,Z,a,(15:Int),Ah b]) fun a=>Ar (decide (0<=Z)&&decide (Z<18))<|Ar (decide (0+Z.toNat*1+1<=X.length))<|Aa (B1 X [Ah a] (0+Z.toNat*1)) fun a=>Aa (wrap .i64 (Z+1)) fun b=>E2 fu call W V U T t Y S Q P O N M L K J I H G E D B A z w v u b a) (Qw fu call W V U T fu Y X)):=by kernel_rfl
theorem Yo(X W:Int)(V:Nat)(U:Ad)(Y:Nat)(Gy:0<Y)(T:Int)(Z:Ad):Qw fu call X W V U Y T Z=(Bc .u64 (Z.getD 0 .top) fun a=>Bc .u64 (Z.getD 1 .top) fun b=>Bc .u64 (Z.getD 2 .top) fun c=>Bc .u64 (Z.getD 3 .top) fun e=>Bc .u64 (Z.getD 4 .top) fun f=>Bc .u64 (Z.getD 5 .top) fun g=>Bc .u64 (Z.getD 6 .top) fun h=>Bc .u64 (Z.getD 7 .top) fun i=>Bc .u64 (Z.getD 8 .top) fun j=>Bc .u64 (Z.getD 9 .top) fun k=>Bc .u64 (Z.getD 10 .top) fun m=>Bc .u64 (Z.getD 11 .top) fun n=>Bc .u64 (Z.getD 12 .top) fun o=>Bc .u64 (Z.getD 13 .top) fun p=>Bc .u64 (Z.getD 14 .top) fun q=>Bc .u64 (Z.getD 15 .top) fun s=>Bc .u64 (Z.getD 16 .top) fun t=>Bc .u64 (Z.getD 17 .top) fun u=>Gz .u64 (call 149 [T,.agg [Ah a,Ah b,Ah c,Ah e,Ah f,Ah g,Ah h,Ah i,Ah j,Ah k,Ah m,Ah n,Ah o,Ah p,Ah q,Ah s,Ah t,Ah u]]) fun a=>Rx fu call X W V U fu a 0):=by cases Y with|zero=>exact absurd Gy (Nat.lt_irrefl 0)|succ Y=>kernel_rfl
theorem Yd(W V:Int)(U:Nat)(T:Ad)(Z:Nat)(Gy:0<Z)(Y X:Int):Rx fu call W V U T Z Y X=(Bj [Ah Y,X]):=by cases Z with|zero=>exact absurd Gy (Nat.lt_irrefl 0)|succ Z=>kernel_rfl
theorem FC(Y X:Int)(Z:Nat)(W:Ad):O9 (CX xs) fu d 127 [Y,Ah X,A5 1 Z W] fun call=>Ax ((↑Z:Int) != 18) (Bj [Ah 0,(4:Int)]) (D6 (call 147 [Ah X]) fun a b=>Ep a fun a=>Ee .i64 a fun a c=>Ee .i64 c fun c e=>Ee .i64 e fun e f=>Ee .i64 f fun f g=>Ee .i64 g fun g h=>Ee .i64 h fun h i=>Ee .i64 i fun i j=>Ee .i64 j fun j k=>Ee .i64 k fun k m=>Ee .i64 m fun m n=>Ee .i64 n fun n o=>Ee .i64 o fun o p=>Ee .i64 p fun p q=>Ee .i64 q fun q s=>Ee .i64 s fun s t=>Ee .i64 t fun t u=>Ee .i64 u fun u v=>Dn .i64 v fun v=>Ap b<|E2 fu call Y X Z W fu Y Z W a c e f g h i j k m n o p q s t u v 0 ([Ah 0,Ah 0,Ah 0,Ah 0,Ah 0,Ah 0,Ah 0,Ah 0,Ah 0,Ah 0,Ah 0,Ah 0,Ah 0,Ah 0,Ah 0,Ah 0,Ah 0,Ah 0])):=by show _=_;kernel_rfl
theorem PL(Z:Int):O9 (CX xs) fu d 95 [Z] fun call=>Ax (decide (Z<0)) (Bj [true]) (Bj [C9 (decide (Z>4))]):=by show _=_;kernel_rfl
theorem FR(Z Y:Int):O9 (CX xs) fu d 126 [Z,Y] fun call=>Ax (decide (Z<0)) (Bj [true]) (Ar (decide (0<=Y))<|Aa (Fb .i64 1 Y) fun a=>Bj [C9 (decide (Z>=a))]):=by show _=_;kernel_rfl
def Ha(Z:Nat)(Y:Ad)(X W:Nat)(V:Ad)(U:Nat)(T S:Int)(Q:Ad):Option A1:=Ll fu call 96 Tryz.f96 [A5 1 Z Y] [.r,.r,.l,.r,.l] X ⟨lk [(0,A5 1 W V),(3,.view 3 1 0 U),(12,T),(13,S)],Fw [(3,.ar false Q)]⟩
def Jm(Z:Nat)(Y:Ad)(X W V:Nat)(U:Ad)(T:Nat)(S Q P:Int)(O:Nat)(N:Ad)(M L:Int)(K:Ad):Option A1:=Ll fu call 96 Tryz.f96 [A5 1 Z Y] [.r,.r,.l,.r,.l,.i X,.r,.r,.l,.l,.r,.r,.l] W ⟨lk [(0,A5 1 V U),(3,.view 3 1 0 T),(4,S),(12,Q),(13,P),(22,A5 1 O N),(23,M),(24,L)],Fw [(3,.ar false K)]⟩
theorem Ro(T:Nat)(S:Ad)(Q W:Nat)(V:Ad)(Y:Nat)(U Z:Int)(X:Ad):Ha fu call T S (Q+1) W V Y U Z X=(Ax (decide (Z<U)) (Aa (wrap .i64 (8*Z)) fun a=>Aa (wrap .i64 (8*Z)) fun b=>Aa (wrap .i64 (b+8)) fun b=>Ar (decide (0<=a))<|Ar (decide (0<=b))<|Ar (decide (a.toNat<=b.toNat)&&decide (b.toNat<=W))<|Aa (b.toNat-a.toNat) fun b=>Aa (List.take (b*1) (V.drop (a.toNat*1))) fun a=>Jm fu call T S Q fu W V Y Z U Z b a (↑b:Int) 0 X) (Ar (decide (Y*1<=X.length))<|Bj [.own 1 Y (X.take (Y*1))])):=by kernel_rfl
theorem Rt(V:Nat)(U:Ad)(T K S:Nat)(Q:Ad)(X:Nat)(Z P O:Int)(N:Nat)(M:Ad)(L Y:Int)(W:Ad):Jm fu call V U T (K+1) S Q X Z P O N M L Y W=(Ax (decide (Y<L)) (Ar (decide (0<=Y)&&decide (Y<(↑N:Int)))<|Bc .u8 (M.getD (Y.toNat*1) .top) fun a=>Ar (decide (0<=Z)&&decide (Z<(↑X:Int)))<|Bc .u64 (W.getD (0+Z.toNat*1) .top) fun b=>Aa (Fb .u64 b 8) fun b=>Aa (wrap .u64 a) fun a=>Aa (CQ .u64 b a) fun a=>Ar (decide (0<=Z)&&decide (Z<(↑X:Int)))<|Ar (decide (0+Z.toNat*1+1<=W.length))<|Aa (B1 W [Ah a] (0+Z.toNat*1)) fun a=>Aa (wrap .i64 (Y+1)) fun b=>Jm fu call V U T K S Q X Z P O N M L b a) (Aa (wrap .i64 (O+1)) fun a=>Ha fu call V U T S Q X P a W)):=by kernel_rfl
theorem KP(Z:Nat)(Y:Ad):O9 (CX xs) fu d 96 [A5 1 Z Y] fun call=>Aa (wrap .i64 (Int.tdiv (↑Z:Int) 8)) fun a=>Ar (decide (0<=a)&&decide (a<=a)&&decide (a*8<=1099511627776)&&decide (a<=1099511627776))<|Ha fu call Z Y fu Z Y a.toNat ((↑a.toNat:Int)) 0 (R1 a.toNat [Ah 0]):=by show _=_;kernel_rfl
theorem HP(Z Y X:Int):O9 (CX xs) fu d 128 [Z,Ah Y,Ah X] fun call=>Aa (wrap .u64 Z) fun a=>D6 (call 66 [A5 1 3 [Ah a,Ah Y,Ah X]]) fun a b=>Lg 1 a fun a c=>Ap b<|Ar (decide (0+a*1<=c.length))<|Gz .u64 (call 64 [(3:Int),A5 1 a (List.take (a*1) (c.drop 0))]) fun a=>Bj [Ah a]:=by show _=_;kernel_rfl
theorem Z8(Z Y:Int):O9 (CX xs) fu d 97 [.agg [Z,Ah Y]] fun call=>D6 (call 95 [Z]) fun a b=>Bu a fun a=>Ap b<|Ax a (Bj [.own 1 0 [],(9:Int)]) (Aa (wrap .u8 Z) fun a=>D6 (call 66 [A5 1 1 [Ah Y]]) fun b c=>Lg 1 b fun b e=>Ap c<|Ar (decide (0+b*1<=e.length))<|Ar (decide (List.length (List.take (b*1) (e.drop 0))=b*1)&&decide ((1+b)*1<=1099511627776)&&decide (1+b<=1099511627776))<|Aa (1+b) fun c=>Aa ([.sc (.int .u8 a)]++List.take (b*1) (e.drop 0)) fun a=>Ar (decide (c*1<=a.length))<|Bj [.own 1 c (a.take (c*1)),(0:Int)]):=by show _=_;kernel_rfl
theorem AM(Z:Nat)(Y:Ad):O9 (CX xs) fu d 61 [A5 1 Z Y] fun call=>(fun f:Option A1=>Ax ((↑Z:Int) != 9) f (Ar (decide (0<(↑Z:Int)))<|Bc .u8 (Y.getD 0 .top) fun a=>Aa (wrap .i64 a) fun a=>D6 (call 95 [a]) fun a b=>Bu a fun a=>Ap b<|Ax a f (Ar (decide (0<(↑Z:Int)))<|Bc .u8 (Y.getD 0 .top) fun a=>Aa (wrap .i64 a) fun a=>Ar (decide (1<=Z)&&decide (Z<=Z))<|Aa (Z-1) fun b=>Aa (List.take (b*1) (Y.drop 1)) fun c=>D6 (call 96 [A5 1 b c]) fun b c=>Lg 1 b fun b e=>Ap c<|Ar (decide (0<(↑b:Int)))<|Bc .u64 (e.getD 0 .top) fun b=>Bj [.agg [a,Ah b],(0:Int)]))) (Bj [.agg [(0:Int),Ah 0],(2:Int)]):=by show _=_;kernel_rfl
theorem R8(Z:Nat)(Y:Ad):O9 (CX xs) fu d 102 [A5 1 Z Y] fun call=>(fun h:Option A1=>Ax (decide ((↑Z:Int)<2)) h (Ar (decide (0<(↑Z:Int)))<|Bc .u8 (Y.getD 0 .top) fun a=>Aa (wrap .i64 a) fun a=>Ar (decide (1<(↑Z:Int)))<|Bc .u8 (Y.getD 1 .top) fun b=>Aa (wrap .i64 b) fun b=>D6 (call 95 [b]) fun c e=>Bu c fun c=>Ap e<|Ax c h (D6 (call 126 [a,b]) fun c e=>Bu c fun c=>Ap e<|Ax c h (Aa (wrap .i64 (18+b)) fun b=>Aa (wrap .i64 (8*b)) fun b=>Aa (wrap .i64 (2+b)) fun b=>Ax ((↑Z:Int) != b) h (Ar (decide (146<=Z))<|Aa (List.take 144 (Y.drop 2)) fun b=>D6 (call 96 [A5 1 144 b]) fun b c=>Lg 1 b fun b e=>Ap c<|Ar (decide (146<=Z)&&decide (Z<=Z))<|Aa (Z-146) fun c=>Aa (List.take (c*1) (Y.drop 146)) fun f=>D6 (call 96 [A5 1 c f]) fun c f=>Lg 1 c fun c g=>Ap f<|Ar (decide (b*1<=e.length))<|Ar (decide (c*1<=g.length))<|Bj [.agg [a,.own 1 b (e.take (b*1)),.own 1 c (g.take (c*1))],(0:Int)]))))) (Bj [.agg [(0:Int),.own 1 0 [],.own 1 0 []],(2:Int)]):=by show _=_;kernel_rfl
def Gj(Z Y:Int)(X W:Int)(V:Nat)(U:Ad)(T:Nat)(S:Ad)(Q:Nat)(P:Int)(O:Nat)(N:Ad)(M L:Int)(K J I:Int)(H:Nat)(G:Ad)(E:Nat)(D:Ad):Option A1:=Ll fu call 103 Tryz.f103 [.agg [Z,Ah Y],Ah X,.agg [W,A5 1 V U,A5 1 T S]] [.r,.r,.r,.r,.r,.l,.r,.l] Q ⟨lk [(3,.ptr 3 0),(5,.ptr 5 0),(7,Ah P),(46,A5 1 O N),(47,M),(48,L)],Fw [(3,.st [K,Ah J]),(5,.st [I,A5 1 H G,A5 1 E D])]⟩
theorem P6(S Q:Int)(P O:Int)(N:Nat)(M:Ad)(L:Nat)(K:Ad)(J:Nat)(Y:Int)(X:Nat)(W:Ad)(V Z:Int)(I U T:Int)(H:Nat)(G:Ad)(E:Nat)(D:Ad):Gj fu call S Q P O N M L K (J+1) Y X W V Z I U T H G E D=(Ax (decide (Z<V)) (Ar (decide (0<=Z)&&decide (Z<(↑X:Int)))<|Bc .u64 (W.getD (Z.toNat*1) .top) fun a=>Ar (decide (0<=Z))<|Aa (Gl .i64 T Z) fun b=>Aa (D3 .i64 b 1) fun b=>Ax (b==0) (Aa (wrap .i64 (Z+1)) fun b=>Gz .u64 (call 128 [b,Ah Y,Ah a]) fun a=>Aa (wrap .i64 (Z+1)) fun b=>Gj fu call S Q P O N M L K J a X W V b I U T H G E D) (Aa (wrap .i64 (Z+1)) fun b=>Gz .u64 (call 128 [b,Ah a,Ah Y]) fun a=>Aa (wrap .i64 (Z+1)) fun b=>Gj fu call S Q P O N M L K J a X W V b I U T H G E D)) (Ax (Y != U) (Bj [(15:Int)]) (Bj [(0:Int)]))):=by kernel_rfl
theorem IA(Z T:Int)(S X:Int)(W:Nat)(V:Ad)(Y:Nat)(U:Ad):O9 (CX xs) fu d 103 [.agg [Z,Ah T],Ah S,.agg [X,A5 1 W V,A5 1 Y U]] fun call=>D6 (call 95 [Z]) fun a b=>Bu a fun a=>Ap b<|Ax a (Bj [(9:Int)]) (D6 (call 126 [X,Z]) fun a b=>Bu a fun a=>Ap b<|Ax a (Bj [(9:Int)]) (Ax ((↑W:Int) != 18) (Bj [(4:Int)]) (Ax ((↑Y:Int) != Z) (Bj [(4:Int)]) (D6 (call 127 [X,Ah S,A5 1 W V]) fun a b=>Bc .u64 a fun a=>Dn .i64 b fun b=>Ax (b != 0) (Bj [b]) (Gj fu call Z T S X W V Y U fu a Y U (↑Y:Int) 0 Z T X W V Y U))))):=by show _=_;kernel_rfl
end
theorem Azg{a m:Int}(h0:0<=m)(h1:m<=18446744073709551615):0<=D3 .u64 a m/\D3 .u64 a m<=m:=by
 have FS:(BitVec.ofInt 64 a &&& BitVec.ofInt 64 m).toNat<=m.toNat:=by
  rw[BitVec.toNat_and];refine Nat.le_trans Nat.and_le_right ?_;rw[BitVec.toNat_ofInt];omega
 have:D3 .u64 a m=((BitVec.ofInt 64 a &&& BitVec.ofInt 64 m).toNat:Int):=by
  unfold D3;exact wrap_u64 (by omega) (by show ((BitVec.ofInt 64 a &&& BitVec.ofInt 64 m).toNat:Int)<=_;omega)
 rw[this];omega
theorem Y2(k:IntKind)(l:Aj)(i:Nat)(x:Int):(Ae k l).set i (.sc (.int k x))=Ae k (l.set i x):=by
 induction l generalizing i with
 |nil=>rfl
 |cons a l ih=>
  cases i with
  |zero=>rfl
  |succ i=>
   show (PV.sc (.int k a)::Ae k l).set (i+1) _=PV.sc (.int k a)::Ae k (l.set i x);rw[List.set_cons_succ,ih]
theorem Aom(w:Int)(k:Nat):0<=Dw w k/\Dw w k<=255:=by unfold Dw;simp only[wrap,IntKind.signed,IntKind.bits];simp;omega
theorem Vz(w:Int):Cp (Bp w):=by intro x hx;obtain⟨k,_,rfl⟩:=List.mem_map.1 hx;exact Aom w k
theorem Uv(ws:Aj):Cp (Ao ws):=by intro x hx;obtain⟨w,_,hx⟩:=List.mem_flatMap.1 hx;exact Vz w x hx
theorem Ed(ws:Aj):(Ao ws).length=8*ws.length:=by
 induction ws with
 |nil=>rfl
 |cons w ws ih=>
  show (Bp w++Ao ws).length=_;rw[Xk,ih,B5,On];omega
def Gx(m:Int)(k:Nat):Int:=wrap .i64 (D3 .u64 (Gl .u64 m (60-4*(k:Int))) 15)
theorem Sq(m:Int)(k:Nat):0<=Gx m k/\Gx m k<=15:=by have:=Azg (a:=Gl .u64 m (60-4*(k:Int))) (m:=15) (by omega) (by omega);unfold Gx;rw[Bb];exact this
def Kz(m:Int):Nat->Int
 |0=>0
 |k+1=>Kz m k+(15-Gx m k)
theorem K3(m:Int):∀k,0<=Kz m k/\Kz m k<=15*k
 |0=>by simp[Kz]
 |k+1=>by
  have h1:=K3 m k;have h2:=Sq m k;simp only[Kz];omega
def YD(m:Int):Aj:=(List.range 16).map (Gx m)++[Kz m 16 / 16,Kz m 16 % 16]
def dg(m:Int)(k:Nat):Int:=(YD m).getD k 0
theorem Ahf(m:Int):(YD m).length=18:=rfl
theorem Avx{m x:Int}(h:x∈YD m):0<=x/\x<=15:=by
 have hs:=K3 m 16;unfold YD at h;rcases Bn.1 h with h|h
 ·obtain⟨k,_,rfl⟩:=List.mem_map.1 h;exact Sq m k
 ·simp at h;rcases h with rfl|rfl<;>omega
theorem Ua(m:Int)(k:Nat):0<=dg m k/\dg m k<=15:=by
 unfold dg;rw[List.getD_eq_getElem?_getD];cases h:(YD m)[k]? with
 |none=>simp
 |some x=>exact Avx (List.mem_of_getElem? h)
def dl(m:Int)(i:Nat):Aj:=(List.range i).map (Gx m)++List.replicate (18-i) 0
theorem Ago(m:Int){i:Nat}(h:i<=18):(dl m i).length=18:=by simp[dl];omega
theorem A7b(m:Int){i:Nat}(h:i<18):(dl m (i+1))[i]?=some (Gx m i):=by unfold dl;rw[List.getElem?_append_left (by simp)];simp
theorem Azr(m:Int){i:Nat}(h:i<18):(dl m i).set i (Gx m i)=dl m (i+1):=by unfold dl;rw[List.set_append_right _ _ (by simp),List.length_map,List.length_range,Nat.sub_self,show 18-i=(18-(i+1))+1 by omega,List.replicate_succ,List.set_cons_zero,List.range_succ,List.map_append,Zzv];rfl
def Tp(leaf chain:Int):Nat->Int->Int->Int
 |0,_,x=>x
 |k+1,p,x=>Tp leaf chain k (p+1) (D8 1 (Ao [wrap .u64 leaf,wrap .u64 chain,wrap .u64 p,x]))
theorem Abd(leaf chain:Int):∀(k j:Nat)(p x:Int),Tp leaf chain (k+j) p x=Tp leaf chain j (p+k) (Tp leaf chain k p x)
 |0,j,p,x=>by simp[Tp]
 |k+1,j,p,x=>by
  rw[show k+1+j=(k+j)+1 by omega];simp only[Tp];rw[Abd leaf chain k j]
  congr 1
  omega
def BF(leaf:Int)(E:Aj):Int:=D8 2 (Ao (wrap .u64 leaf::E))
def Acl(leaf m:Int)(s:Aj)(k:Nat):Int:=Tp leaf k (15-dg m k).toNat (dg m k) (s.getD k 0)
def FH(leaf m:Int)(s:Aj):Aj:=(List.range 18).map (Acl leaf m s)
def Abo(leaf m:Int)(s:Aj):Int:=BF leaf (FH leaf m s)
def el(leaf m:Int)(s:Aj)(i:Nat):Aj:=(List.range i).map (Acl leaf m s)++List.replicate (18-i) 0
theorem Aoo(leaf m:Int)(s:Aj){i:Nat}(h:i<=18):(el leaf m s i).length=18:=by simp[el];omega
theorem Ayq(leaf m:Int)(s:Aj){i:Nat}(h:i<18):(el leaf m s i).set i (Acl leaf m s i)=el leaf m s (i+1):=by unfold el;rw[List.set_append_right _ _ (by simp),List.length_map,List.length_range,Nat.sub_self,show 18-i=(18-(i+1))+1 by omega,List.replicate_succ,List.set_cons_zero,List.range_succ,List.map_append,Zzv];rfl
theorem A39(leaf m:Int)(s:Aj):el leaf m s 18=FH leaf m s:=by unfold el FH;simp
theorem Z0{a b:Aj}(ha:Cp a)(hb:Cp b):Cp (a++b):=by
 intro x hx;rcases Bn.1 hx with hx|hx
 ·exact ha x hx
 ·exact hb x hx
section
variable {fu d:Nat}{xs:FuncId->Option (Ad->Option A1)}
theorem Aog{ws:Aj}(hl:ws.length<=100)(Bq:1000<=fu)(dom:Int):Ac (CX xs) prog fu (d+5) 64 [Aw dom,.lst false 1 (Ao ws).length (Ae .u8 (Ao ws))]=some ⟨[Ah (D8 dom (Ao ws))],[]⟩:=
 MK (Uv ws) (by rw[Ed];omega) (by omega) (by rw[Ed];omega) dom
theorem Aag{leaf chain:Int}{a0 a1 a2 a3 a4:Int}(Bq:1000<=fu){t:Int}(ht:t<=15):∀(k nn:Nat)(p x:Int),(k:Int)=t-p->0<=p->k<nn ->
  L8 fu (Ac (CX xs) prog fu (d+5)) a0 a1 a2 a3 a4 nn leaf chain x t p=some ⟨[Ah (Tp leaf chain k p x)],[]⟩
 |_,0,_,_,_,_,h=>by omega
 |0,nn+1,p,x,hk,hp,hn=>by
  rw[Ux,Hh _ _ _ (by omega)];rfl
 |k+1,nn+1,p,x,hk,hp,hn=>by
  have w:wrap .i64 (p+1)=p+1:=Bb;have wd:Ac (CX xs) prog fu (d+5) 66 [.lst false 1 4 [Ah (wrap .u64 leaf),Ah (wrap .u64 chain),Ah (wrap .u64 p),Ah x]]=_:=Xt (ws:=[wrap .u64 leaf,wrap .u64 chain,wrap .u64 p,x]) (by simp) (by omega) (by simp;omega)
  have hs:=Aog (xs:=xs) (fu:=fu) (d:=d) (ws:=[wrap .u64 leaf,wrap .u64 chain,wrap .u64 p,x]) (by simp) Bq 1;have ih:=Aag (leaf:=leaf) (chain:=chain) (a0:=a0) (a1:=a1) (a2:=a2) (a3:=a3) (a4:=a4) Bq ht k nn (p+1) (D8 1 (Ao [wrap .u64 leaf,wrap .u64 chain,wrap .u64 p,x])) (by omega) (by omega) (by omega);have L:=Al .u8 (Ao [wrap .u64 leaf,wrap .u64 chain,wrap .u64 p,x]);have eR:Tp leaf chain (k+1) p x=Tp leaf chain k (p+1) (D8 1 (Ao [wrap .u64 leaf,wrap .u64 chain,wrap .u64 p,x])):=rfl;rw[eR];generalize Ao [wrap .u64 leaf,wrap .u64 chain,wrap .u64 p,x]=W at wd hs ih L ⊢;rw[Ux];simp(disch:=omega)only[A4,A3,wd,J6,Ig,Ou,LX,L,hs,w];exact ih
theorem Ayg{leaf chain:Int}(Bq:1000<=fu)(k:Nat)(f t x:Int)(hk:(k:Int)=t-f)(h0:0<=f)(h1:t<=15):Ac (CX xs) prog fu (d+6) 148 [Aw leaf,Aw chain,Aw f,Aw t,Ah x]=some ⟨[Ah (Tp leaf chain k f x)],[]⟩:=by rw[SA];simp only[F5];rw[Bl (by omega),Bl (by omega)];exact Aag Bq h1 k fu f x hk h0 (by omega)
theorem KE{call:Aq}{a0 m:Int}{y3:Ad}:∀(k i nn:Nat),i+k=16->k<nn ->
  Gp fu call a0 nn m (Kz m i) i y3 (Ae .i64 (dl m i))=Gp fu call a0 (nn-k) m (Kz m 16) 16 y3 (Ae .i64 (dl m 16))
 |_,_,0,_,h=>by omega
 |0,i,nn+1,hi,hn=>by
  have e:i=16:=by omega
  subst e;rfl
 |k+1,i,nn+1,hi,hn=>by
  have ih:=KE (call:=call) (a0:=a0) (y3:=y3) (m:=m) k (i+1) nn (by omega) (by omega);have hb:=Sq m i;have hs:=K3 m i;have w:wrap .i64 ((i:Int)+1)=((i+1:Nat):Int):=Bk
  have w4:wrap .i64 (4*(i:Int))=4*(i:Int):=Bb;have w60:wrap .i64 (60-4*(i:Int))=60-4*(i:Int):=Bb;have hd:wrap .i64 (D3 .u64 (Gl .u64 m (60-4*(i:Int))) 15)=Gx m i:=rfl;have w15:wrap .i64 (15-Gx m i)=15-Gx m i:=Bb;have ws:wrap .i64 (Kz m i+(15-Gx m i))=Kz m (i+1):=by rw[Bb];rfl
  have L:(Ae .i64 (dl m i)).length=18:=by rw[Al,Ago m (by omega)]
  have Abm:B1 (Ae .i64 (dl m i)) [Aw (Gx m i)] i=Ae .i64 (dl m (i+1)):=by
   rw[Ku (by omega),Y2,Azr m (by omega)]
  have hat:(Ae .i64 (dl m (i+1))).getD i .top=Aw (Gx m i):=EA (A7b m (by omega));rw[show nn+1-(k+1)=nn-k by omega,<-ih,P4];simp(disch:=omega)only[A4,A3,Jg,J6,Ig,w,w4,w60,hd,L,Abm,hat,w15,ws]
theorem Ajy(Bq:1000<=fu)(m:Int):Ac (CX xs) prog fu (d+1) 147 [Ah m]=some ⟨[.agg (Ae .i64 (YD m))],[]⟩:=by
 rw[IC];have lp:=KE (fu:=fu) (call:=Ac (CX xs) prog fu d) (a0:=m) (m:=m) (y3:=Ae .i64 (List.replicate 18 0)) 16 0 fu (by omega) (by omega);obtain⟨f',hf'⟩:∃f',fu-16=f'+1:=⟨fu-17,by omega⟩
 rw[hf'] at lp;refine Eq.trans lp ?_;have hs:=K3 m 16
 have wq:wrap .i64 (Int.tdiv (Kz m 16) 16)=Kz m 16 / 16:=by
  rw[Int.tdiv_eq_ediv_of_nonneg (by omega),Bb]
 have wm:Int.tmod (Kz m 16) 16=Kz m 16 % 16:=Int.tmod_eq_emod_of_nonneg (by omega);have L:(Ae .i64 (dl m 16)).length=18:=by rw[Al,Ago m (by omega)]
 have h1:B1 (Ae .i64 (dl m 16)) [Aw (Kz m 16 / 16)] 16=Ae .i64 ((dl m 16).set 16 (Kz m 16 / 16)):=by
  rw[Ku (by omega),Y2]
 have L2:(Ae .i64 ((dl m 16).set 16 (Kz m 16 / 16))).length=18:=by rw[Al,List.length_set,Ago m (by omega)]
 have h2:B1 (Ae .i64 ((dl m 16).set 16 (Kz m 16 / 16))) [Aw (Kz m 16 % 16)] 17=Ae .i64 (YD m):=by
  rw[Ku (by omega),Y2];rfl
 rw[P4,Hh _ _ _ (by omega)];simp only[F5,wq,wm,L,h1,L2,h2];generalize hq:Kz m 16 / 16=q at *
 generalize hr:Kz m 16 % 16=r at *
 have hD:Ae .i64 (YD m)=[Aw (Gx m 0),Aw (Gx m 1),Aw (Gx m 2),Aw (Gx m 3),Aw (Gx m 4),Aw (Gx m 5),Aw (Gx m 6),Aw (Gx m 7),Aw (Gx m 8),Aw (Gx m 9),Aw (Gx m 10),Aw (Gx m 11),Aw (Gx m 12),Aw (Gx m 13),Aw (Gx m 14),Aw (Gx m 15),Aw q,Aw r]:=by
  unfold YD;rw[hq,hr];rfl
 rw[hD];have A4t:(Ae .i64 (List.replicate 18 0)).length=18:=rfl
 have hsp:∀c:Ad,c.length=18->B1 (Ae .i64 (List.replicate 18 0)) c 0=c:=by
  intro c hc;unfold B1;rw[hc,List.drop_of_length_le (by rw[A4t];omega)]
  simp
 rw[Z4 (Gy:=by omega)];simp only[A4,A3,List.getD_cons_zero,List.getD_cons_succ,A4t];rw[hsp _ rfl];simp(disch:=omega)only[A4,A3,AL,List.getD_cons_zero,List.getD_cons_succ]
theorem Aeo(Bq:1000<=fu)(leaf:Int){E:Aj}(hE:E.length=18):Ac (CX xs) prog fu (d+6) 149 [Aw leaf,.agg (Ae .u64 E)]=some ⟨[Ah (BF leaf E)],[]⟩:=by
 match E,hE with
 |[e0,e1,e2,e3,e4,e5,e6,e7,e8,e9,e10,e11,e12,e13,e14,e15,e16,e17],_=>
  have wd:Ac (CX xs) prog fu (d+5) 66 [.lst false 1 19 [Ah (wrap .u64 leaf),Ah e0,Ah e1,Ah e2,Ah e3,Ah e4,Ah e5,Ah e6,Ah e7,Ah e8,Ah e9,Ah e10,Ah e11,Ah e12,Ah e13,Ah e14,Ah e15,Ah e16,Ah e17]]=_:=Xt (ws:=wrap .u64 leaf::[e0,e1,e2,e3,e4,e5,e6,e7,e8,e9,e10,e11,e12,e13,e14,e15,e16,e17]) (by simp) (by omega) (by simp;omega)
  have hs:=Aog (xs:=xs) (fu:=fu) (d:=d) (ws:=wrap .u64 leaf::[e0,e1,e2,e3,e4,e5,e6,e7,e8,e9,e10,e11,e12,e13,e14,e15,e16,e17]) (by simp) Bq 2;have L:=Al .u8 (Ao (wrap .u64 leaf::[e0,e1,e2,e3,e4,e5,e6,e7,e8,e9,e10,e11,e12,e13,e14,e15,e16,e17]));have eR:BF leaf [e0,e1,e2,e3,e4,e5,e6,e7,e8,e9,e10,e11,e12,e13,e14,e15,e16,e17]=D8 2 (Ao (wrap .u64 leaf::[e0,e1,e2,e3,e4,e5,e6,e7,e8,e9,e10,e11,e12,e13,e14,e15,e16,e17])):=rfl;rw[eR];generalize Ao (wrap .u64 leaf::[e0,e1,e2,e3,e4,e5,e6,e7,e8,e9,e10,e11,e12,e13,e14,e15,e16,e17])=W at wd hs L ⊢;refine (EL fu (d+5) leaf e0 e1 e2 e3 e4 e5 e6 e7 e8 e9 e10 e11 e12 e13 e14 e15 e16 e17).trans ?_;simp(disch:=omega)only[A4,A3,wd,J6,Ig,Ou,LX,L,hs]
theorem A5l(g:Nat->Int){i:Nat}(hi:i<18):List.getD [PV.sc (.int .i64 (g 0)),PV.sc (.int .i64 (g 1)),PV.sc (.int .i64 (g 2)),PV.sc (.int .i64 (g 3)),PV.sc (.int .i64 (g 4)),PV.sc (.int .i64 (g 5)),PV.sc (.int .i64 (g 6)),PV.sc (.int .i64 (g 7)),PV.sc (.int .i64 (g 8)),PV.sc (.int .i64 (g 9)),PV.sc (.int .i64 (g 10)),PV.sc (.int .i64 (g 11)),PV.sc (.int .i64 (g 12)),PV.sc (.int .i64 (g 13)),PV.sc (.int .i64 (g 14)),PV.sc (.int .i64 (g 15)),PV.sc (.int .i64 (g 16)),PV.sc (.int .i64 (g 17))] i PV.top=Aw (g i):=by
 have:((List.range 18).map g)[i]?=some (g i):=by simp[hi]
 exact EA (k:=.i64) this
theorem GD{a0 a1:Int}{a2n:Nat}{a2:Ad}{leaf m:Int}{s:Aj}(hs:s.length=18)(Bq:1000<=fu)(g:Nat->Int)(hg:∀k,g k=dg m k):∀(k i nn:Nat),i+k=18->k<nn ->
  E2 fu (Ac (CX xs) prog fu (d+6)) a0 a1 a2n a2 nn leaf s.length (Ae .u64 s) (g 0) (g 1) (g 2) (g 3) (g 4) (g 5) (g 6) (g 7) (g 8) (g 9) (g 10) (g 11) (g 12) (g 13) (g 14) (g 15) (g 16) (g 17) i (Ae .u64 (el leaf m s i)) =
   E2 fu (Ac (CX xs) prog fu (d+6)) a0 a1 a2n a2 (nn-k) leaf s.length (Ae .u64 s) (g 0) (g 1) (g 2) (g 3) (g 4) (g 5) (g 6) (g 7) (g 8) (g 9) (g 10) (g 11) (g 12) (g 13) (g 14) (g 15) (g 16) (g 17) 18 (Ae .u64 (el leaf m s 18))
 |_,_,0,_,h=>by omega
 |0,i,nn+1,hi,hn=>by
  have e:i=18:=by omega
  subst e;rfl
 |k+1,i,nn+1,hi,hn=>by
  have ih:=GD (a0:=a0) (a1:=a1) (a2n:=a2n) (a2:=a2) (leaf:=leaf) (m:=m) hs Bq g hg k (i+1) nn (by omega) (by omega);obtain⟨x,hx⟩:∃x,s[i]?=some x:=⟨_,List.getElem?_eq_getElem (by omega)⟩
  have hb:=Ua m i;have hgi:=A5l g (i:=i) (by omega);have w:wrap .i64 ((i:Int)+1)=((i+1:Nat):Int):=Bk
  have rn:=Ayg (xs:=xs) (fu:=fu) (d:=d) (leaf:=leaf) (chain:=i) Bq (15-dg m i).toNat (g i) 15 x (by rw[hg];omega) (by rw[hg];omega) (by omega)
  have ev:Tp leaf i (15-dg m i).toNat (g i) x=Acl leaf m s i:=by
   unfold Acl;rw[List.getD_eq_getElem?_getD,hx,hg];rfl
  rw[ev] at rn;have L:(Ae .u64 (el leaf m s i)).length=18:=by rw[Al,Aoo leaf m s (by omega)]
  have Abm:B1 (Ae .u64 (el leaf m s i)) [Ah (Acl leaf m s i)] i=Ae .u64 (el leaf m s (i+1)):=by
   rw[Ku (by omega),Y2,Ayq leaf m s (by omega)]
  rw[show nn+1-(k+1)=nn-k by omega,<-ih,N4];simp(disch:=omega)only[A4,A3,Jg,J6,Ig,hgi,EA hx,rn,L,Abm,w]
theorem Adz(Bq:1000<=fu){a0 a1 leaf:Int}{a2n n nn:Nat}{a2 c:Ad}{g:Nat->Int}{E:Aj}(hE:E.length=18):
  E2 fu (Ac (CX xs) prog fu (d+6)) a0 a1 a2n a2 (nn+1) leaf n c (g 0) (g 1) (g 2) (g 3) (g 4) (g 5) (g 6) (g 7) (g 8) (g 9) (g 10) (g 11) (g 12) (g 13) (g 14) (g 15) (g 16) (g 17) 18 (Ae .u64 E)=some ⟨[Ah (BF leaf E),Aw 0],[]⟩:=by
 match E,hE with
 |[e0,e1,e2,e3,e4,e5,e6,e7,e8,e9,e10,e11,e12,e13,e14,e15,e16,e17],hE=>
  have cb:=Aeo (xs:=xs) (fu:=fu) (d:=d) Bq leaf hE;have hc:Ae .u64 [e0,e1,e2,e3,e4,e5,e6,e7,e8,e9,e10,e11,e12,e13,e14,e15,e16,e17]=[Ah e0,Ah e1,Ah e2,Ah e3,Ah e4,Ah e5,Ah e6,Ah e7,Ah e8,Ah e9,Ah e10,Ah e11,Ah e12,Ah e13,Ah e14,Ah e15,Ah e16,Ah e17]:=rfl;rw[hc] at cb ⊢;generalize BF leaf [e0,e1,e2,e3,e4,e5,e6,e7,e8,e9,e10,e11,e12,e13,e14,e15,e16,e17]=R at cb ⊢;rw[N4,Hh _ _ _ (by omega)];simp(disch:=omega)only[A4,A3,Yo,Yd,List.getD_cons_zero,List.getD_cons_succ,cb]
theorem Agy(Bq:1000<=fu)(leaf m:Int)(s:Aj):Ac (CX xs) prog fu (d+7) 127 [Aw leaf,Ah m,.lst false 1 s.length (Ae .u64 s)]=some ⟨(if s.length=18 then [Ah (Abo leaf m s),Aw 0] else [Ah 0,Aw 4]),[]⟩:=by
 rw[FC];by_cases h:s.length=18
 ·have dq:=Ajy (xs:=xs) (fu:=fu) (d:=d+5) Bq m;have hD:Ae .i64 (YD m)=[Aw (dg m 0),Aw (dg m 1),Aw (dg m 2),Aw (dg m 3),Aw (dg m 4),Aw (dg m 5),Aw (dg m 6),Aw (dg m 7),Aw (dg m 8),Aw (dg m 9),Aw (dg m 10),Aw (dg m 11),Aw (dg m 12),Aw (dg m 13),Aw (dg m 14),Aw (dg m 15),Aw (dg m 16),Aw (dg m 17)]:=rfl;rw[hD] at dq;simp only[G2];rw[Cy h,Cy (by omega)];simp only[A4,A3,dq];have lp:=GD (xs:=xs) (fu:=fu) (d:=d) (a0:=leaf) (a1:=m) (a2n:=s.length) (a2:=Ae .u64 s) (leaf:=leaf) (m:=m) h Bq (dg m) (fun _=>rfl) 18 0 fu (by omega) (by omega);obtain⟨f',hf'⟩:∃f',fu-18=f'+1:=⟨fu-19,by omega⟩
  rw[hf'] at lp;refine Eq.trans lp ?_;have eE:el leaf m s 18=FH leaf m s:=A39 leaf m s;have hl:(FH leaf m s).length=18:=by rw[<-eE,Aoo leaf m s (by omega)]
  have eR:Abo leaf m s=BF leaf (FH leaf m s):=rfl;rw[eE,eR];exact Adz Bq hl
 ·simp only[G2];rw[Bl h,Bl (by omega)]
end
structure Ky where
 h:Int
 root:Int
structure Sg where
 leaf:Int
 chains:Aj
 path:Aj
def Ky.cells(k:Ky):Ad:=[Aw k.h,Ah k.root]
def Sg.cells(s:Sg):Ad:=[Aw s.leaf,.lst false 1 s.chains.length (Ae .u64 s.chains),.lst false 1 s.path.length (Ae .u64 s.path)]
def D2(h:Int):Bool:=decide (h<0)||decide (h>4)
def J9(leaf h:Int):Bool:=decide (leaf<0)||decide (leaf>=Fb .i64 1 h)
def L6(level a b:Int):Int:=D8 3 (Ao [wrap .u64 level,a,b])
def Y9(leaf:Int):Nat->Int->Aj->Int
 |_,x,[]=>x
 |i,x,s::r=>Y9 leaf (i+1) (if D3 .i64 (Gl .i64 leaf i) 1=0 then L6 ((i+1:Nat):Int) x s else L6 ((i+1:Nat):Int) s x) r
def okE(x root:Int):Int:=if x=root then 0 else 15
theorem Afb(leaf:Int)(i:Nat)(x:Int):Y9 leaf i x []=x:=rfl
theorem Y4(leaf:Int)(i:Nat)(x s:Int)(r:Aj):Y9 leaf i x (s::r)=Y9 leaf (i+1) (if D3 .i64 (Gl .i64 leaf i) 1=0 then L6 ((i+1:Nat):Int) x s else L6 ((i+1:Nat):Int) s x) r:=rfl
def SI(k:Ky)(m:Int)(s:Sg):Int:=
 if D2 k.h=true then 9 else if J9 s.leaf k.h=true then 9 else if s.chains.length≠18 then 4 else if (s.path.length:Int)≠k.h then 4 else
 okE (Y9 s.leaf 0 (Abo s.leaf m s.chains) s.path) k.root
theorem Ko{h:Int}(hh:D2 h=false):0<=h/\h<=4:=by unfold D2 at hh;simp at hh;omega
section
variable {fu d:Nat}{xs:FuncId->Option (Ad->Option A1)}
theorem MF(h:Int):Ac (CX xs) prog fu (d+1) 95 [Aw h]=some ⟨[C9 (D2 h)],[]⟩:=by
 rw[PL];unfold D2;by_cases h0:h<0
 ·simp only[A4,A3,X6,h0,decide_true,Bool.true_or,if_true]
 ·simp only[A4,A3,X6,h0,decide_false,Bool.false_or,if_false]
theorem QC(leaf h:Int)(h0:0<=h):Ac (CX xs) prog fu (d+1) 126 [Aw leaf,Aw h]=some ⟨[C9 (J9 leaf h)],[]⟩:=by
 rw[FR];unfold J9;by_cases hl:leaf<0
 ·simp only[A4,A3,X6,hl,decide_true,Bool.true_or,if_true]
 ·simp(disch:=omega)only[A4,A3,X6,hl,decide_false,Bool.false_or,if_false]
theorem UL(Bq:1000<=fu)(level a b:Int):Ac (CX xs) prog fu (d+6) 128 [Aw level,Ah a,Ah b]=some ⟨[Ah (L6 level a b)],[]⟩:=by
 have wd:Ac (CX xs) prog fu (d+5) 66 [.lst false 1 3 [Ah (wrap .u64 level),Ah a,Ah b]]=_:=Xt (ws:=[wrap .u64 level,a,b]) (by simp) (by omega) (by simp;omega)
 have hs:=Aog (xs:=xs) (fu:=fu) (d:=d) (ws:=[wrap .u64 level,a,b]) (by simp) Bq 3;have L:=Al .u8 (Ao [wrap .u64 level,a,b]);rw[HP];unfold L6;generalize Ao [wrap .u64 level,a,b]=W at wd hs L ⊢;simp(disch:=omega)only[A4,A3,wd,J6,Ig,Ou,LX,L,hs]
theorem KK{a0 a1 a2 a3:Int}{n1 n2 n3 n4:Nat}{c1 c2 c3 c4:Ad}{y5 root leaf:Int}{path:Aj}(hp:path.length<=100)(Bq:1000<=fu):∀(r:Aj)(i nn:Nat)(x:Int),path.drop i=r->r.length<nn->i<=path.length ->
  Gj fu (Ac (CX xs) prog fu (d+6)) a0 a1 a2 a3 n1 c1 n2 c2 nn x path.length (Ae .u64 path) path.length i y5 root leaf n3 c3 n4 c4=some ⟨[Aw (okE (Y9 leaf i x r) root)],[]⟩
 |_,_,0,_,_,h,_=>by omega
 |[],i,nn+1,x,h,hn,hi=>by
  have:=drop_nil h;rw[P6,Hh _ _ _ (by omega),G2];rw[Afb];unfold okE;by_cases e:x=root
  ·rw[Cy e,Cy e]
  ·rw[Bl e,Bl e]
 |s::r,i,nn+1,x,h,hn,hi=>by
  obtain⟨h1,h2,h3⟩:=Dx h;simp only[On] at hn;have w:wrap .i64 ((i:Int)+1)=((i+1:Nat):Int):=Bk
  have ih:=fun x=>KK (a0:=a0) (a1:=a1) (a2:=a2) (a3:=a3) (n1:=n1) (n2:=n2) (n3:=n3) (n4:=n4) (c1:=c1) (c2:=c2) (c3:=c3) (c4:=c4) (y5:=y5) (root:=root) (leaf:=leaf) hp Bq r (i+1) nn x h3 (by omega) (by omega);have p1:=UL (xs:=xs) (fu:=fu) (d:=d) Bq ((i+1:Nat):Int) x s;have p2:=UL (xs:=xs) (fu:=fu) (d:=d) Bq ((i+1:Nat):Int) s x;rw[P6,Y4];by_cases hb:D3 .i64 (Gl .i64 leaf i) 1=0
  ·rw[Cy hb,<-ih];simp(disch:=omega)only[A4,A3,Jg,J6,EA h2,Ny,hb,w,p1,if_true]
  ·rw[Bl hb,<-ih];simp(disch:=omega)only[A4,A3,Jg,J6,EA h2,Ny,hb,w,p2,if_false]
theorem TG(Bq:1000<=fu)(k:Ky)(m:Int)(s:Sg):Ac (CX xs) prog fu (d+8) 103 [.agg k.cells,Ah m,.agg s.cells]=some ⟨[Aw (SI k m s)],[]⟩:=by
 refine (IA fu (d+7) k.h k.root m s.leaf s.chains.length (Ae .u64 s.chains) s.path.length (Ae .u64 s.path)).trans ?_;have h1:=MF (xs:=xs) (fu:=fu) (d:=d+6) k.h;unfold SI;cases c1:D2 k.h
 ·rw[c1] at h1;have hb:=Ko c1;have h2:=QC (xs:=xs) (fu:=fu) (d:=d+6) s.leaf k.h hb.1;cases c2:J9 s.leaf k.h
  ·rw[c2] at h2;by_cases c3:s.chains.length=18
   ·by_cases c4:(s.path.length:Int)=k.h
    ·have rc:=Agy (xs:=xs) (fu:=fu) (d:=d) Bq s.leaf m s.chains;rw[Cy c3] at rc;have vl:=KK (xs:=xs) (fu:=fu) (d:=d+1) (a0:=k.h) (a1:=k.root) (a2:=m) (a3:=s.leaf) (n1:=s.chains.length) (n2:=s.path.length) (n3:=s.chains.length) (n4:=s.path.length) (c1:=Ae .u64 s.chains) (c2:=Ae .u64 s.path) (c3:=Ae .u64 s.chains) (c4:=Ae .u64 s.path) (y5:=k.h) (root:=k.root) (leaf:=s.leaf) (path:=s.path) (by omega) Bq s.path 0 fu (Abo s.leaf m s.chains) rfl (by omega) (by omega);rw[Bl (by simp),Bl (by simp),Bl (by omega),Bl (by omega),<-vl];simp(disch:=omega)only[A4,A3,h1,h2,G2,rc,if_true,c4];rw[Cy (by omega)];rfl
    ·rw[Bl (by simp),Bl (by simp),Bl (by omega),Cy c4];simp(disch:=omega)only[A4,A3,h1,h2,G2,c4,if_false];rw[Cy (by omega)]
   ·rw[Bl (by simp),Bl (by simp),Cy c3];simp(disch:=omega)only[A4,A3,h1,h2,G2];rw[Bl (by omega)]
  ·rw[c2] at h2;rw[Bl (by simp),Cy rfl];simp(disch:=omega)only[A4,A3,h1,h2]
 ·rw[c1] at h1;rw[Cy rfl];simp(disch:=omega)only[A4,A3,h1]
def Vw(k:Ky):Aj:=wrap .u8 k.h::Bp k.root
def sgB(s:Sg):Aj:=wrap .u8 s.leaf::wrap .u8 s.path.length::(Ao s.chains++Ao s.path)
theorem owd(Bq:1000<=fu)(w:Int):Ac (CX xs) prog fu (d+1) 66 [.lst false 1 1 [Ah w]]=some ⟨[.own 1 8 (Ae .u8 (Bp w))],[]⟩:=by
 have:=Xt (xs:=xs) (fu:=fu) (d:=d) (ws:=[w]) (by simp) (by omega) (by simp;omega)
 simp only[Ao,Kb,List.flatMap_nil,List.append_nil,On,LP,B5] at this;exact this
theorem Alc(Bq:1000<=fu)(k:Ky):Ac (CX xs) prog fu (d+2) 97 [.agg k.cells]=some ⟨(if D2 k.h=true then [.own 1 0 [],Aw 9] else [.own 1 9 (Ae .u8 (Vw k)),Aw 0]),[]⟩:=by
 refine (Z8 fu (d+1) k.h k.root).trans ?_;have h1:=MF (xs:=xs) (fu:=fu) (d:=d) k.h;have wd:=owd (xs:=xs) (fu:=fu) (d:=d) Bq k.root;have L:=Al .u8 (Bp k.root);rw[B5] at L;have t8:List.take 8 (Ae .u8 (Bp k.root))=Ae .u8 (Bp k.root):=Ji (by omega)
 have t9:List.take 9 ([PV.sc (.int .u8 (wrap .u8 k.h))]++Ae .u8 (Bp k.root))=Ae .u8 (Vw k):=by
  rw[Ji (by rw[Xk,L];simp)]
  rfl
 have L9:([PV.sc (.int .u8 (wrap .u8 k.h))]++Ae .u8 (Bp k.root)).length=9:=by rw[Xk,L];rfl
 cases c1:D2 k.h
 ·rw[c1] at h1;rw[Bl (by simp)];simp(disch:=omega)only[A4,A3,h1,wd,J6,Ig,Ou,L,t8,Nat.reduceAdd,L9,t9]
 ·rw[c1] at h1;rw[Cy rfl];simp(disch:=omega)only[A4,A3,h1]
def Vy(l:Aj)(i:Nat):Int:=Amb ((l.drop (8*i)).take 8)
def Ge(l:Aj):Aj:=(List.range (l.length / 8)).map (Vy l)
def wl(l:Aj)(i:Nat):Aj:=(List.range i).map (Vy l)++List.replicate (l.length / 8-i) 0
theorem An7(l:Aj){i:Nat}(h:i<=l.length / 8):(wl l i).length=l.length / 8:=by simp[wl];omega
theorem A02(l:Aj){i:Nat}(h:i<l.length / 8):(wl l i).set i (Vy l i)=wl l (i+1):=by unfold wl;rw[List.set_append_right _ _ (by simp),List.length_map,List.length_range,Nat.sub_self,show l.length / 8-i=(l.length / 8-(i+1))+1 by omega,List.replicate_succ,List.set_cons_zero,List.range_succ,List.map_append,Zzv];rfl
theorem As3(l:Aj){i:Nat}(h:i<l.length / 8):(wl l i).set i 0=wl l i:=by unfold wl;rw[List.set_append_right _ _ (by simp),List.length_map,List.length_range,Nat.sub_self,show l.length / 8-i=(l.length / 8-(i+1))+1 by omega,List.replicate_succ,List.set_cons_zero]
theorem VG{n m0:Nat}{c:Ad}{l:Aj}(hl:l.length<=1000000){i:Nat}(hi:i<l.length / 8){q:Aj}(hq:q.length<=8):∀(r:Aj)(j nn:Nat)(x:Int),q.drop j=r->r.length<nn->j<=q.length ->
  Jm fu (Ac (CX xs) prog fu d) n c m0 nn l.length (Ae .u8 l) (l.length / 8) i ((l.length / 8:Nat):Int) i q.length (Ae .u8 q) q.length j (Ae .u64 ((wl l i).set i x)) =
   Ha fu (Ac (CX xs) prog fu d) n c m0 l.length (Ae .u8 l) (l.length / 8) ((l.length / 8:Nat):Int) ((i+1:Nat):Int) (Ae .u64 ((wl l i).set i (r.foldl Ml x)))
 |_,_,0,_,_,h,_=>by omega
 |[],j,nn+1,x,h,hn,hj=>by
  have:=drop_nil h;have w:wrap .i64 ((i:Int)+1)=((i+1:Nat):Int):=Bk
  rw[Rt,Hh _ _ _ (by omega)];simp only[F5,w,List.foldl_nil]
 |b::r,j,nn+1,x,h,hn,hj=>by
  obtain⟨h1,h2,h3⟩:=Dx h;simp only[On] at hn;have w:wrap .i64 ((j:Int)+1)=((j+1:Nat):Int):=Bk
  have L:(Ae .u64 ((wl l i).set i x)).length=l.length / 8:=by rw[Al,List.length_set,An7 l (by omega)]
  have hat:(Ae .u64 ((wl l i).set i x)).getD i .top=Ah x:=EA (by rw[List.getElem?_set_self (by rw[An7 l (by omega)];omega)])
  have Abm:B1 (Ae .u64 ((wl l i).set i x)) [Ah (Ml x b)] i=Ae .u64 ((wl l i).set i (Ml x b)):=by
   rw[Ku (by omega),Y2,List.set_set]
  have ih:=VG (n:=n) (m0:=m0) (c:=c) hl hi hq r (j+1) nn (Ml x b) h3 (by omega) (by omega);rw[List.foldl_cons,<-ih,Rt];simp(disch:=omega)only[A4,A3,Jg,J6,Ig,EA h2,hat,L,w];exact congrArg _ Abm
theorem JK{n:Nat}{c:Ad}{l:Aj}(hl:l.length<=1000000)(Bq:100<=fu):∀(k i nn:Nat),i+k=l.length / 8->k<nn ->
  Ha fu (Ac (CX xs) prog fu d) n c nn l.length (Ae .u8 l) (l.length / 8) ((l.length / 8:Nat):Int) i (Ae .u64 (wl l i))=some ⟨[.own 1 (l.length / 8) (Ae .u64 (Ge l))],[]⟩
 |_,_,0,_,h=>by omega
 |0,i,nn+1,hi,hn=>by
  have e:i=l.length / 8:=by omega
  subst e;have e2:wl l (l.length / 8)=Ge l:=by unfold wl Ge;simp
  have L:(Ae .u64 (Ge l)).length=l.length / 8:=by rw[Al];simp[Ge]
  have tk:List.take (l.length / 8) (Ae .u64 (Ge l))=Ae .u64 (Ge l):=Ji (by omega);rw[Ro,Hh _ _ _ (by omega),e2];simp(disch:=omega)only[A4,A3,J6,L,tk]
 |k+1,i,nn+1,hi,hn=>by
  have ih:=JK (n:=n) (c:=c) hl Bq k (i+1) nn (by omega) (by omega);have w8:wrap .i64 (8*(i:Int))=((8*i:Nat):Int):=Bk
  have w88:wrap .i64 (((8*i:Nat):Int)+8)=((8*i+8:Nat):Int):=Bk
  have e8:8*i+8-8*i=8:=by omega
  have hdl:((l.drop (8*i)).take 8).length=8:=by rw[List.length_take,List.length_drop];omega
  have st:=VG (xs:=xs) (fu:=fu) (d:=d) (n:=n) (m0:=nn) (c:=c) hl (i:=i) (by omega) (q:=(l.drop (8*i)).take 8) (by omega) ((l.drop (8*i)).take 8) 0 fu 0 rfl (by omega) (by omega);rw[As3 l (by omega),hdl] at st;have ew:((l.drop (8*i)).take 8).foldl Ml 0=Vy l i:=rfl;rw[ew,A02 l (by omega),ih] at st;rw[Ro];simp(disch:=omega)only[A4,A3,Jg,J6,w8,w88,e8,K9,H7];exact st
theorem Aro(n:Nat):R1 n [Ah 0]=Ae .u64 (List.replicate n 0):=by
 induction n with
 |zero=>rfl
 |succ n ih=>
  show ([PV.sc (.int .u64 0)]::List.replicate n [PV.sc (.int .u64 0)]).flatten=_;rw[List.flatten_cons,List.replicate_succ];show _++R1 n [Ah 0]=PV.sc (.int .u64 0)::Ae .u64 (List.replicate n 0);rw[ih];rfl
theorem IE{l:Aj}(hl:l.length<=1000000)(Bq:100<=fu)(hf:l.length<fu):Ac (CX xs) prog fu (d+1) 96 [.lst false 1 l.length (Ae .u8 l)]=some ⟨[.own 1 (l.length / 8) (Ae .u64 (Ge l))],[]⟩:=by
 rw[KP]
 have w:wrap .i64 (Int.tdiv (l.length:Int) 8)=((l.length / 8:Nat):Int):=by
  rw[Int.tdiv_eq_ediv_of_nonneg (by omega),Bb];omega
 have lp:=JK (xs:=xs) (fu:=fu) (d:=d) (n:=l.length) (c:=Ae .u8 l) hl Bq (l.length / 8) 0 fu (by omega) (by omega);have e0:wl l 0=List.replicate (l.length / 8) 0:=by unfold wl;simp
 rw[e0] at lp;simp(disch:=omega)only[A4,A3,w,Jg,Aro,Int.le_refl];exact lp
def VZ(l:Aj):Option Ky:=if l.length=9/\D2 (l.getD 0 0)=false then some ⟨l.getD 0 0,Vy (l.drop 1) 0⟩ else none
def Agd(o:Option Ky):Ad:=match o with|some k=>[.agg k.cells,Aw 0]|none=>[.agg (Ky.mk 0 0).cells,Aw 2]
theorem Ak8(Bq:1000<=fu){l:Aj}(hb:Cp l):Ac (CX xs) prog fu (d+2) 61 [.lst false 1 l.length (Ae .u8 l)]=some ⟨Agd (VZ l),[]⟩:=by
 refine (AM fu (d+1) l.length (Ae .u8 l)).trans ?_;unfold VZ;by_cases h9:l.length=9
 ·obtain⟨x,hx⟩:∃x,l[0]?=some x:=⟨_,List.getElem?_eq_getElem (by omega)⟩
  have hxb:=hb x (List.mem_of_getElem? hx);have wx:wrap .i64 x=x:=Bb;have gx:l.getD 0 0=x:=by rw[List.getD_eq_getElem?_getD,hx];rfl
  have h1:=MF (xs:=xs) (fu:=fu) (d:=d) x;rw[gx];cases c1:D2 x
  ·rw[c1] at h1;have hdl:(l.drop 1).length=8:=by rw[List.length_drop];omega
   have dw:=IE (xs:=xs) (fu:=fu) (d:=d) (l:=l.drop 1) (by omega) (by omega) (by omega);rw[hdl] at dw;have hat:(Ae .u64 (Ge (l.drop 1))).getD 0 .top=Ah (Vy (l.drop 1) 0):=EA (by unfold Ge;rw[hdl];rfl)
   have e8:9-1=8:=rfl;have tk:List.take 8 (Ae .u8 (l.drop 1))=Ae .u8 (l.drop 1):=Ji (by rw[Al];omega)
   rw[Cy ⟨h9,rfl⟩,h9];simp(disch:=omega)only[A4,A3,G2,EA hx,wx,h1,J6,K9,e8,tk,dw,hat];rfl
  ·rw[c1] at h1;rw[Bl (by simp),h9];simp(disch:=omega)only[A4,A3,G2,EA hx,wx,h1];rfl
 ·rw[Bl (by simp[h9])];simp(disch:=omega)only[G2];rw[Bl (by omega)];rfl
def sgD(l:Aj):Option Sg:=
 if 2<=l.length/\D2 (l.getD 1 0)=false/\J9 (l.getD 0 0) (l.getD 1 0)=false/\(l.length:Int)=2+8*(18+l.getD 1 0) then some ⟨l.getD 0 0,Ge ((l.drop 2).take 144),Ge (l.drop 146)⟩ else none
def Sg.owned(s:Sg):Ad:=[Aw s.leaf,.own 1 s.chains.length (Ae .u64 s.chains),.own 1 s.path.length (Ae .u64 s.path)]
def Ah9(o:Option Sg):Ad:=match o with|some s=>[.agg s.owned,Aw 0]|none=>[.agg (Sg.mk 0 [] []).owned,Aw 2]
theorem BZ(l:Aj):(Ge l).length=l.length / 8:=by simp[Ge]
theorem Alv(Bq:1000<=fu){l:Aj}(hb:Cp l):Ac (CX xs) prog fu (d+2) 102 [.lst false 1 l.length (Ae .u8 l)]=some ⟨Ah9 (sgD l),[]⟩:=by
 refine (R8 fu (d+1) l.length (Ae .u8 l)).trans ?_;unfold sgD;by_cases h2:2<=l.length
 ·obtain⟨x,hx⟩:∃x,l[0]?=some x:=⟨_,List.getElem?_eq_getElem (by omega)⟩
  obtain⟨y,hy⟩:∃y,l[1]?=some y:=⟨_,List.getElem?_eq_getElem (by omega)⟩
  have hxb:=hb x (List.mem_of_getElem? hx);have hyb:=hb y (List.mem_of_getElem? hy);have wx:wrap .i64 x=x:=Bb;have wy:wrap .i64 y=y:=Bb;have gx:l.getD 0 0=x:=by rw[List.getD_eq_getElem?_getD,hx];rfl
  have gy:l.getD 1 0=y:=by rw[List.getD_eq_getElem?_getD,hy];rfl
  have h1:=MF (xs:=xs) (fu:=fu) (d:=d) y;have ho:=QC (xs:=xs) (fu:=fu) (d:=d) x y (by omega);have w1:wrap .i64 (18+y)=18+y:=Bb;have w2:wrap .i64 (8*(18+y))=8*(18+y):=Bb;have w3:wrap .i64 (2+8*(18+y))=2+8*(18+y):=Bb;rw[gx,gy];cases c1:D2 y
  ·rw[c1] at h1;cases c2:J9 x y
   ·rw[c2] at ho;by_cases c3:(l.length:Int)=2+8*(18+y)
    ·have hy4:=Ko c1;have d1:=IE (xs:=xs) (fu:=fu) (d:=d) (l:=(l.drop 2).take 144) (by rw[List.length_take,List.length_drop];omega) (by omega) (by rw[List.length_take,List.length_drop];omega)
     have d2:=IE (xs:=xs) (fu:=fu) (d:=d) (l:=l.drop 146) (by rw[List.length_drop];omega) (by omega) (by rw[List.length_drop];omega)
     have l1:((l.drop 2).take 144).length=144:=by rw[List.length_take,List.length_drop];omega
     have l2:(l.drop 146).length=l.length-146:=List.length_drop;rw[l1] at d1;have L1:(Ae .u64 (Ge ((l.drop 2).take 144))).length=18:=by rw[Al,BZ,l1]
     have L2:(Ae .u64 (Ge (l.drop 146))).length=(l.length-146) / 8:=by rw[Al,BZ,l2]
     rw[l2] at d2;have t1:List.take (144 / 8) (Ae .u64 (Ge ((l.drop 2).take 144)))=Ae .u64 (Ge ((l.drop 2).take 144)):=Ji (by omega);have t2:List.take ((l.length-146) / 8) (Ae .u64 (Ge (l.drop 146)))=Ae .u64 (Ge (l.drop 146)):=Ji (by omega);have t3:List.take (l.length-146) (l.drop 146)=l.drop 146:=Ji (by omega);rw[Cy ⟨h2,rfl,rfl,c3⟩];simp(disch:=omega)only[A4,A3,G2,EA hx,EA hy,wx,wy,h1,ho,w1,w2,w3,J6,K9,H7,d1,d2,t3,L1,L2,t1,t2];rw[Cy c3];simp only[Ah9,Sg.owned,BZ,l1,l2]
    ·rw[Bl (by simp[c3])];simp(disch:=omega)only[A4,A3,G2,EA hx,EA hy,wx,wy,h1,ho,w1,w2,w3];rw[Bl c3];rfl
   ·rw[c2] at ho;rw[Bl (by simp)];simp(disch:=omega)only[A4,A3,G2,EA hx,EA hy,wx,wy,h1,ho];rfl
  ·rw[c1] at h1;rw[Bl (by simp)];simp(disch:=omega)only[A4,A3,G2,EA hx,EA hy,wx,wy,h1];rfl
 ·rw[Bl (by simp[h2])];simp(disch:=omega)only[A4,A3];rfl
end
def WX(seed leaf chain:Int):Int:=Apu seed 1 (Ao [wrap .u64 leaf,wrap .u64 chain])
def LE(seed leaf:Int)(c:Nat):Int:=Tp leaf c 15 0 (WX seed leaf c)
def Y5(seed leaf:Int):Int:=BF leaf ((List.range 18).map (LE seed leaf))
def OE(seed leaf m:Int)(c:Nat):Int:=Tp leaf c (dg m c).toNat 0 (WX seed leaf c)
def X4(seed leaf m:Int):Aj:=(List.range 18).map (OE seed leaf m)
def H4(seed:Int):Nat->Int->Int
 |0,i=>Y5 seed i
 |l+1,i=>L6 ((l+1:Nat):Int) (H4 seed l (2*i)) (H4 seed l (2*i+1))
def Pd(seed:Int)(h:Int):Ky:=if D2 h=true then ⟨0,0⟩ else ⟨h,H4 seed h.toNat 0⟩
def Mp(leaf:Int)(k:Nat):Int:=D7 .i64 (Gl .i64 leaf k) 1
def Ajr(seed:Int)(h leaf m:Int):Option Sg:=if D2 h=true then none else if J9 leaf h=true then none else some ⟨leaf,X4 seed leaf m,(List.range h.toNat).map fun k=>H4 seed k (Mp leaf k)⟩
def YB(o:Option Sg):Ad:=match o with|some s=>[.agg s.owned,Aw 0]|none=>[.agg (Sg.mk 0 [] []).owned,Aw 9]
section
variable {fu d:Nat}{xs:FuncId->Option (Ad->Option A1)}
def pl(g:Nat->Int)(i:Nat):Aj:=(List.range i).map g++List.replicate (18-i) 0
end
def Ci(s:ByteArray):Aj:=s.data.toList.map fun b=>(b.toNat:Int)
def Ab(l:Aj):ByteArray:=⟨(l.map fun n=>n.toNat.toUInt8).toArray⟩
theorem Dc(s:ByteArray):(Ci s).length=s.size:=by unfold Ci;rw[List.length_map];rfl
theorem DG(s:ByteArray):Cp (Ci s):=by intro x hx;obtain⟨b,_,rfl⟩:=List.mem_map.1 hx;have:=b.toNat_lt;omega
theorem Hq(s:ByteArray):Dl s=Ae .u8 (Ci s):=by
 unfold Dl Ci
 induction s.data.toList with
 |nil=>rfl
 |cons b l ih=>rw[U7,U7,ih];rfl
theorem Ag(l:Aj):(Ab l).size=l.length:=by show (l.map fun n=>n.toNat.toUInt8).toArray.size=_;simp
theorem C8{l:Aj}(h:Cp l):Ci (Ab l)=l:=by
 unfold Ci Ab;simp only[List.map_map]
 have:∀l:Aj,Cp l->List.map ((fun b:UInt8=>(b.toNat:Int)) ∘ fun n:Int=>n.toNat.toUInt8) l=l:=by
  intro l
  induction l with
  |nil=>intro _;rfl
  |cons x l ih=>
   intro h;have hx:=h x (by simp);rw[U7,ih fun y hy=>h y (by simp[hy])]
   congr 1
   show ((x.toNat.toUInt8.toNat:Nat):Int)=x;rw[Nat.toUInt8,UInt8.toNat_ofNat'];omega
 exact this l h
theorem Mf(s:ByteArray):Ab (Ci s)=s:=by
 unfold Ab Ci;simp only[List.map_map]
 have:∀l:List UInt8,List.map ((fun n:Int=>n.toNat.toUInt8) ∘ fun b:UInt8=>(b.toNat:Int)) l=l:=by
  intro l
  induction l with
  |nil=>rfl
  |cons x l ih=>
   rw[U7,ih]
   congr 1
   show ((x.toNat:Int).toNat).toUInt8=x;rw[Jg];simp
 rw[this]
theorem Za:∀l:Aj,bytesOf (Ae .u8 l)=some (l.map fun n=>n.toNat.toUInt8)
 |[]=>rfl
 |x::l=>by
  show (bytesOf (Ae .u8 l)).map (x.toNat.toUInt8 :: ·)=_;rw[Za l];rfl
def Nc(v:Int):Int:=if v<26 then 65+v else if v<52 then 71+v else if v<62 then v-4 else if v<63 then 45 else 95
def B7(c:Int):Int:=if 65<=c/\c<=90 then c-65 else if 97<=c/\c<=122 then c-71 else if 48<=c/\c<=57 then c+4 else if c=45 then 62 else if c=95 then 63 else 64
theorem Qj{v:Int}(h0:0<=v)(h1:v<64):B7 (Nc v)=v:=by unfold B7 Nc;split<;>split<;>(try split)<;>(try split)<;>(try split)<;>(try split)<;>(try split)<;>(try split)<;>omega
theorem Tn(c:Int):0<=B7 c/\B7 c<=64:=by
 unfold B7;split
 ·omega
 split
 ·omega
 split
 ·omega
 split
 ·omega
 split<;>omega
def I5:Aj->Aj
 |[]=>[]
 |[a]=>[Nc (a / 4),Nc (a % 4*16)]
 |[a,b]=>[Nc (a / 4),Nc (a % 4*16+b / 16),Nc (b % 16*4)]
 |a::b::c::r=>Nc (a / 4)::Nc (a % 4*16+b / 16)::Nc (b % 16*4+c / 64)::Nc (c % 64)::I5 r
def R2:Aj->Option Aj
 |[]=>some []
 |[_]=>none
 |[p,q]=>if B7 p<64/\B7 q<64/\B7 q % 16=0 then some [B7 p*4+B7 q / 16] else none
 |[p,q,r]=>if B7 p<64/\B7 q<64/\B7 r<64/\B7 r % 4=0 then some [B7 p*4+B7 q / 16,B7 q % 16*16+B7 r / 4] else none
 |p::q::r::s::t=>if B7 p<64/\B7 q<64/\B7 r<64/\B7 s<64 then (R2 t).map (fun l=>(B7 p*4+B7 q / 16)::(B7 q % 16*16+B7 r / 4)::(B7 r % 4*64+B7 s)::l) else none
theorem Dk{a:Int}{l:Aj}(h:Cp (a::l)):(0<=a/\a<=255)/\Cp l:=⟨h a (by simp),fun x hx=>h x (by simp[hx])⟩
theorem Aio:∀{l:Aj},Cp l->R2 (I5 l)=some l
 |[],_=>rfl
 |[a],h=>by
  obtain⟨ha,_⟩:=Dk h;have e1:=Qj (v:=a / 4) (by omega) (by omega);have e2:=Qj (v:=a % 4*16) (by omega) (by omega);unfold I5 R2;rw[e1,e2,Cy (by omega)]
  congr 2
  omega
 |[a,b],h=>by
  obtain⟨ha,h⟩:=Dk h;obtain⟨hb,_⟩:=Dk h;have e1:=Qj (v:=a / 4) (by omega) (by omega);have e2:=Qj (v:=a % 4*16+b / 16) (by omega) (by omega);have e3:=Qj (v:=b % 16*4) (by omega) (by omega);unfold I5 R2;rw[e1,e2,e3,Cy (by omega)]
  congr 2
  ·omega
  ·congr 1;omega
 |a::b::c::r,h=>by
  obtain⟨ha,h⟩:=Dk h;obtain⟨hb,h⟩:=Dk h;obtain⟨hc,h⟩:=Dk h;have e1:=Qj (v:=a / 4) (by omega) (by omega);have e2:=Qj (v:=a % 4*16+b / 16) (by omega) (by omega);have e3:=Qj (v:=b % 16*4+c / 64) (by omega) (by omega);have e4:=Qj (v:=c % 64) (by omega) (by omega);unfold I5 R2;rw[e1,e2,e3,e4,Cy (by omega),Aio h];simp only[Option.map_some]
  congr 2
  ·omega
  ·congr 1
   ·omega
   ·congr 1;omega
theorem MI:∀l:Aj,(I5 l).length=(4*l.length+2) / 3
 |[]=>rfl
 |[_]=>by simp[I5]
 |[_,_]=>by simp[I5]
 |a::b::c::r=>by
  show (I5 r).length+1+1+1+1=_;rw[MI r];simp only[On];omega
def BX(c:Int):Bool:=c==32||c==9||c==10||c==13
def Bd:Aj->Aj
 |[]=>[]
 |c::r=>if BX c=true then Bd r else c::r
def Aes(c:Int):Option Int:=if 48<=c/\c<=57 then some (c-48) else if 97<=c/\c<=102 then some (c-87) else if 65<=c/\c<=70 then some (c-55) else none
abbrev PR(α:Type):=Option α × Aj
def AN:Nat->Int->Aj->PR Int
 |0,x,l=>(some x,l)
 |_+1,_,[]=>(none,[])
 |n+1,x,c::r=>match Aes c with
  |some v=>AN n (x*16+v) r
  |none=>(none,c::r)
def ZO(x:Int):Bool:=decide (56320<=x)&&decide (x<=57343)
def Ag6(x:Int)(l:Aj):PR Int:=
 match AN 4 0 l with
 |(some y,r)=>if ZO y=true then (some (65536+(x-55296)*1024+(y-56320)),r) else (none,r)
 |(none,r)=>(none,r)
def Aq1:Aj->Bool
 |92::117::_=>true
 |_=>false
def Tx(l:Aj):PR Int:=
 match AN 4 0 l with
 |(none,r)=>(none,r)
 |(some x,r)=>if ZO x=true then (none,r) else if x<55296\/56319<x then (some x,r) else if Aq1 r=true then Ag6 x (r.drop 2) else (none,r)
def BS(c:Int):Option Int:=if c=34\/c=92\/c=47 then some c else if c=98 then some 8 else if c=102 then some 12 else if c=110 then some 10 else if c=114 then some 13 else if c=116 then some 9 else none
def Sf:Aj->PR Int
 |[]=>(none,[])
 |c::r=>if c=117 then Tx r else match BS c with
  |some x=>(some x,r)
  |none=>(none,c::r)
def Lj:Nat->Aj->Aj->PR Aj
  |0,_,l=>(none,l)
  |_+1,_,[]=>(none,[])
  |n+1,out,c::r=>if c<32 then (none,c::r) else if c=34 then (some out,r) else if c=92 then
      (match Sf r with
       |(some x,r')=>Lj n (out++Lib.encodeRuneZ x) r'
       |(none,r')=>(none,r'))
    else Lj n (out++[c]) r
def F1:Aj->PR Aj
 |[]=>(none,[])
 |c::r=>if c=34 then Lj (r.length+1) [] r else (none,c::r)
def EU(l:Aj):Option (Aj × Aj):=match F1 l with|(some s,r)=>some (s,r)|_=>none
def dgS(c:Int):Bool:=decide (48<=c)&&decide (c<=57)
def N2:Aj->Aj
 |[]=>[]
 |c::r=>if dgS c=true then N2 r else c::r
def Is:Aj->Option Aj
 |[]=>none
 |c::r=>if dgS c=true then some (N2 r) else none
def Ar7(c:Int):Aj->Aj
 |[]=>[]
 |d::r=>if d=c then r else d::r
def NE:Aj->Option Aj
 |[]=>some []
 |c::r=>if c=101\/c=69 then (match r with
   |43::r'=>Is r'
   |r=>Is (Ar7 45 r)) else some (c::r)
def VP:Aj->Option Aj
 |[]=>some []
 |c::r=>if c=46 then (Is r).bind NE else NE (c::r)
def Av2:Aj->Option Aj
 |[]=>none
 |c::r=>if c=48 then some r else Is (c::r)
def XF(l:Aj):Option Aj:=(Av2 (Ar7 45 l)).bind VP
abbrev JV:=Int × Aj × Bool
abbrev JR(α:Type):=Except Int α
def WA(V:Aj->JR (JV × Aj)):Nat->Aj->JR Aj
 |0,_=>.error 2
 |n+1,l=>match V l with
  |.error e=>.error e
  |.ok (_,r)=>match Bd r with
   |93::r'=>.ok r'
   |44::r'=>WA V n (Bd r')
   |_=>.error 2
def Alg(V:Aj->JR (JV × Aj))(l:Aj):JR Aj:=
 match Bd l with
 |93::r=>.ok r
 |l'=>WA V (l'.length+1) l'
def A06(V:Aj->JR (JV × Aj))(dup:Aj->Bool)(l:Aj):JR ((Aj × JV) × Aj):=
 match EU l with
 |none=>.error 2
 |some (nm,r)=>if dup nm=true then .error 10 else
  match Bd r with
  |58::r'=>(match V (Bd r') with
   |.error e=>.error e
   |.ok (v,r'')=>.ok ((nm,v),r''))
  |_=>.error 2
def Xh(V:Aj->JR (JV × Aj))(kp:Bool):Nat->List (Aj × JV)->Aj->JR (List (Aj × JV) × Aj)
 |0,_,_=>.error 2
 |n+1,ms,l=>match A06 V (fun nm=>kp&&ms.any fun m=>m.1==nm) l with
  |.error e=>.error e
  |.ok (m,r)=>match Bd r with
   |125::r'=>.ok (ms++[m],r')
   |44::r'=>Xh V kp n (ms++[m]) (Bd r')
   |_=>.error 2
def DO(V:Aj->JR (JV × Aj))(kp:Bool)(l:Aj):JR (List (Aj × JV) × Aj):=
 match Bd l with
 |125::r=>.ok ([],r)
 |l'=>Xh V kp (l'.length+1) [] l'
def A6(w l:Aj):Option Aj:=if w.isPrefixOf l=true then some (l.drop w.length) else none
def Gu:Nat->Aj->JR (JV × Aj)
 |k,l=>match l with
  |123::r=>(match k with
   |0=>.error 5
   |k+1=>(match DO (Gu k) false r with
    |.error e=>.error e
    |.ok (_,r')=>.ok ((6,[],false),r')))
  |91::r=>(match k with
   |0=>.error 5
   |k+1=>(match Alg (Gu k) r with
    |.error e=>.error e
    |.ok r'=>.ok ((5,[],false),r')))
  |34::r=>(match EU (34::r) with
   |none=>.error 2
   |some (s,r')=>.ok ((4,s,false),r'))
  |l=>match A6 [116,114,117,101] l with
   |some r=>.ok ((2,[],true),r)
   |none=>match A6 [102,97,108,115,101] l with
    |some r=>.ok ((2,[],false),r)
    |none=>match A6 [110,117,108,108] l with
     |some r=>.ok ((1,[],false),r)
     |none=>match XF l with
      |some r=>.ok ((3,[],false),r)
      |none=>.error 2
def Acs(k:Nat)(l:Aj):JR (List (Aj × JV)):=
 match Bd l with
 |123::r=>(match DO (Gu k) true r with
  |.error e=>.error e
  |.ok (ms,r')=>if Bd r'=[] then .ok ms else .error 2)
 |_=>.error 2
structure En where
 k:Int
 na:Nat
 an:Ad
 ns:Nat
 st:Ad
def Vs:Ad->Option (List En)
 |[]=>some []
 |.sc (.int .u64 k) :: .lst false 3 na an :: .lst false 2 ns st::r=>bif Nat.beq an.length (na*3)&&Nat.beq st.length (ns*2)&&Nat.ble na 1000&&Nat.ble ns 1000 then (Vs r).map (⟨k,na,an,ns,st⟩ :: ·) else none
 |_=>none
def Qa:Ad->Option (List (Int × Int))
 |[]=>some []
 |.sc (.int .i64 k) :: .sc (.int .i64 t)::r=>(Qa r).map ((k,t) :: ·)
 |_=>none
def Akt(model:Int)(es:List En):Ad:=match es.find? fun e=>e.k==model with|some e=>e.st|none=>[]
def Xp(now:Int)(l:List (Int × Int)):Int:=match l.reverse.find? fun p=>decide (p.2<=now) with|some p=>p.1|none=>0
def Aix(args:Ad):Option A1:=
  match args with
  |[.agg [.sc (.int .i64 _),.sc (.int .i64 _),.sc (.int .i64 _),.lst false 3 n c,.sc (.int .i64 _),.lst false 1 _ _,.lst false 1 _ _],.sc (.int .u64 model),.sc (.int .i64 now)]=>
    bif Nat.beq c.length (n*3)&&Nat.ble n 1000 then
      (match Vs c with
       |some es=>(match Qa (Akt model es) with|some l=>some ⟨[Aw (Xp now l)],[]⟩|none=>none)
       |none=>none)
    else none
  |_=>none
def Ana(args:Ad):Option A1:=
  match args with
  |[.pbox [.sc (.string t),.sc (.int .i64 p)]]=>bif decide (0<=p)&&decide (p<=t.size)&&Nat.ble t.size 1000000 then
      (match F1 ((Ci t).drop p.toNat) with
       |(some s,r)=>some ⟨[Bo (Ab s),C9 true],[[Bo t,Aw (t.size-r.length:Int)]]⟩
       |(none,r)=>some ⟨[Bo ⟨#[]⟩,C9 false],[[Bo t,Aw (t.size-r.length:Int)]]⟩) else none
  |_=>none
def A1r(args:Ad):Option A1:=
 match args with
 |[.sc (.string s),.sc (.int .u8 c)]=>some ⟨[Aw (Lib.indexByte s.data.toList c.toNat.toUInt8)],[]⟩
 |_=>none
def Ayf(args:Ad):Option A1:=
 match args with
 |[.sc (.string s),.sc (.string p)]=>bif Nat.beq p.size 1 then some ⟨[Aw (Lib.countByte s.data.toList p[0]!)],[]⟩ else none
 |_=>none
def Adn(args:Ad):Option A1:=
 match args with
 |[.sc (.string s),.sc (.string p)]=>bif Nat.ble p.size 1000&&p.data.toList.all (fun b=>decide (b.toNat<128))&&decide (s.size<=1000000000) then some ⟨[Bo ⟨(Lib.trimS s.data.toList p.data.toList).toArray⟩],[]⟩ else none
 |_=>none
def Anw(f:FuncId):Option (Ad->Option A1):=
 bif Nat.beq f 91 then some Afh else
 bif Nat.beq f 216 then some NW else
 bif Nat.beq f 38 then some Aix else
 bif Nat.beq f 155 then some A1r else
 bif Nat.beq f 209 then some Ayf else
 bif Nat.beq f 168 then some Adn else
 bif Nat.beq f 139 then some Ana else
 bif Nat.beq f 1000000 then some (fun _=>none) else none
def Ahb:Bz:=[
 28,
 104,
 105,
 9,
 5,
 57]
def RN(p:FuncId->Option (Ad->Option A1))(f:FuncId):Option (Ad->Option A1):=bif Ahb.any (Nat.beq f) then p f else Anw f
abbrev CP(p:FuncId->Option (Ad->Option A1)):Gw:=CX (RN p)
def pN:FuncId->Option (Ad->Option A1):=fun _=>none
abbrev C0:Gw:=CP pN
abbrev xs0:=RN pN
section
variable {xs:FuncId->Option (Ad->Option A1)}(fu d:Nat)(call:Aq)
theorem Wt(Z:Nat)(Y:Ad):O9 (CX xs) fu d 100 [A5 3 Z Y] fun call=>(fun c:Option A1=>Ax (decide (0<Z)) c (V8 (Bj [A5 3 0 []]) c)) (Ar (decide (Y.length=Z*3)&&decide ((0+Z)*32<=1099511627776)&&decide (0+Z<=1099511627776))<|Aa (0+Z) fun a=>Aa ([]++Y) fun b=>Ar (decide (0+a*3<=b.length))<|Bj [A5 3 a (List.take (a*3) (b.drop 0))]):=by show _=_;kernel_rfl
theorem Wy(Z:Nat)(Y:Ad):O9 (CX xs) fu d 101 [A5 2 Z Y] fun call=>(fun c:Option A1=>Ax (decide (0<Z)) c (V8 (Bj [A5 2 0 []]) c)) (Ar (decide (Y.length=Z*2)&&decide ((0+Z)*16<=1099511627776)&&decide (0+Z<=1099511627776))<|Aa (0+Z) fun a=>Aa ([]++Y) fun b=>Ar (decide (0+a*2<=b.length))<|Bj [A5 2 a (List.take (a*2) (b.drop 0))]):=by show _=_;kernel_rfl
theorem Yw(Z:Int)(Y:Nat)(X:Ad)(W:Nat)(V:Ad):O9 (CX xs) fu d 67 [.agg [Ah Z,A5 3 Y X,A5 2 W V]] fun call=>D6 (call 100 [A5 3 Y X]) fun a b=>Xd 3 a fun a c e=>Ap b<|D6 (call 101 [A5 2 W V]) fun a b=>Xd 2 a fun a f g=>Ap b<|Bj [.agg [Ah Z,A5 3 c e,A5 2 f g]]:=by show _=_;kernel_rfl
def Hv(Z Y X:Int)(W:Nat)(V:Ad)(U:Int)(T:Nat)(S:Ad)(Q:Nat)(P:Ad)(O:Int)(N:Nat)(M:Int)(L:Nat)(K:Ad)(J I H:Int)(G E:Nat)(D B:Ad):Option A1:=Ll fu call 35 Tryz.f35 [.agg [Z,Y,X,A5 3 W V,U,A5 1 T S,A5 1 Q P],Ah O] [.r,.l,.r,.l] N ⟨lk [(1,Ah M),(4,.ptr 4 0),(9,A5 3 L K),(10,J),(11,I)],Fw [(4,.st [Ah H,.view 50 3 0 G,.view 73 2 0 E]),(50,.ar false D),(73,.ar false B)]⟩
theorem Ow(U T S:Int)(Q:Nat)(P:Ad)(O:Int)(N:Nat)(M:Ad)(L:Nat)(K:Ad)(J:Int)(I:Nat)(X:Int)(W:Nat)(Y:Ad)(V Z H:Int)(G E:Nat)(D B:Ad):Hv fu call U T S Q P O N M L K J (I+1) X W Y V Z H G E D B=(Ax (decide (Z<V)) (Ar (decide (0<=Z)&&decide (Z<(↑W:Int)))<|Bc .u64 (Y.getD (Z.toNat*3) .top) fun a=>Xd 3 (Y.getD (Z.toNat*3+1) .top) fun b c e=>Xd 2 (Y.getD (Z.toNat*3+1+1) .top) fun b f g=>Ax (a==X) (D6 (call 67 [.agg [Ah a,A5 3 c e,A5 2 f g]]) fun a b=>Ep a fun a=>Ee .u64 a fun a c=>Z7 3 c fun c e f=>Z7 2 f fun f g h=>Ap h<|Ap b<|Bj [.agg [Ah a,A5 3 c e,A5 2 f g],true]) (Aa (wrap .i64 (Z+1)) fun a=>Hv fu call U T S Q P O N M L K J I X W Y V a H G E D B)) (Bj [.agg [Ah 0,A5 3 0 [],A5 2 0 []],false])):=by kernel_rfl
theorem GL(W V U:Int)(Z:Nat)(Y:Ad)(T:Int)(S:Nat)(Q:Ad)(P:Nat)(O:Ad)(X:Int):O9 (CX xs) fu d 35 [.agg [W,V,U,A5 3 Z Y,T,A5 1 S Q,A5 1 P O],Ah X] fun call=>Hv fu call W V U Z Y T S Q P O X fu X Z Y (↑Z:Int) 0 0 0 0 ([]) ([]):=by show _=_;kernel_rfl
end
section
variable {xs:FuncId->Option (Ad->Option A1)}(fu d:Nat)(call:Aq)
theorem RY(Z:Nat)(Y:Ad):O9 (CX xs) fu d 62 [A5 1 Z Y] fun call=>(fun c:Option A1=>Ax (decide (0<Z)) c (V8 (Bj [.own 1 0 []]) c)) (Ar (decide (Y.length=Z*1)&&decide ((0+Z)*1<=1099511627776)&&decide (0+Z<=1099511627776))<|Aa (0+Z) fun a=>Aa ([]++Y) fun b=>Ar (decide (a*1<=b.length))<|Bj [.own 1 a (b.take (a*1))]):=by show _=_;kernel_rfl
theorem RU(X:Nat)(Z:Ad)(W:Nat)(Y:Ad):O9 (CX xs) fu d 32 [A5 1 X Z,A5 1 W Y] fun call=>Ar (decide (Z.length=X))<|Ds (bytesOf Z) fun a=>Ar (decide (Y.length=W))<|Ds (bytesOf Y) fun b=>Bj [C9 (Array.toList (ByteArray.data (ByteArray.mk (List.toArray a)))==Array.toList (ByteArray.data (ByteArray.mk (List.toArray b))))]:=by show _=_;kernel_rfl
end
section
open Go.RowKit
def OT(p:PV)(u:Value):Prop:=p=.sc u\/∃vs:List Value,p=.agg (vs.map .sc)/\u=.agg ⟨vs⟩
theorem Zy{w:World}{A:Nat->Prop}{own:Bt}:∀{vs us:List Value}{j:Nat},Fs w A own j (vs.map .sc) us->us=vs
 |[],[],_,_=>rfl
 |[],_::_,_,h=>h.elim
 |_::_,[],_,h=>h.elim
 |v::vs,u::us,j,h=>by
  have h1:At w A (.sc v) u:=h.1;rw[h1.val,Zy h.2]
theorem Z2{w:World}{A:Nat->Prop}{own:Bt}:∀{vs:List Value}{j:Nat},Fs w A own j (vs.map .sc) vs
 |[],_=>trivial
 |v::vs,j=>⟨show At w A (.sc v) v from .sc v,Z2⟩
theorem OH{w:World}{A:Nat->Prop}{own:Bt}{z:Nat}:∀{vals:Ad}{us us':List Value}{j:Nat},Be OT vals us->TZ w A own z j vals us'->us'=us
 |[],[],[],_,_,_=>rfl
 |[],[],_::_,_,_,h=>h.elim
 |[],_::_,_,_,h,_=>h.elim
 |_::_,[],_,_,h,_=>h.elim
 |_::_,_::_,[],_,_,h=>h.elim
 |p::ps,u::us,u'::us',j,hs,h=>by
  rw[OH hs.2 h.2]
  congr 1
  rcases hs.1 with rfl|⟨vs,rfl,rfl⟩
  ·exact At.val (show At w A (.sc u) u' from h.1)
  ·obtain⟨vs',rfl,h2⟩:=h.1;rw[Zy h2]
structure Ft(w w':World)(b o n:Nat):Prop where
 os:w'.os=w.os
 tape:w'.tape=w.tape
 output:w'.output=w.output
 size:w.heap.size<=w'.heap.size
 grow:Ij w w' b
 other:∀k,k<w.heap.size->k≠b->w'.heap[k]?=w.heap[k]?
 cells:∀j,(j<o\/o+n<=j)->w'.cell? ⟨b,j,none⟩=w.cell? ⟨b,j,none⟩
 frz:∀j,(j<o\/o+n<=j)->w'.frozen? ⟨b,j,none⟩=w.frozen? ⟨b,j,none⟩
def bt1(b o:Nat):GQ:=fun i j=>match i,j with|0,0=>some (b,o)|_,_=>none
theorem Ao8{b o k:Nat}(h:BtX (bt1 b o) k):k=b:=by
 obtain⟨i,j,o',h⟩:=h;unfold bt1 at h;split at h
 ·cases h;rfl
 ·cases h
theorem DY{w:World}{A:Nat->Prop}{bt:GQ}:∀{i:Nat}{ps:Ad}{us:List Value},Be OT ps us->N9 w A bt i ps us
 |_,[],[],_=>trivial
 |_,[],_::_,h=>h.elim
 |_,_::_,[],h=>h.elim
 |i,p::ps,u::us,h=>by
  refine⟨?_,DY h.2⟩;rcases h.1 with rfl|⟨vs,rfl,rfl⟩
  ·exact⟨.inl trivial,show At w A (.sc u) u from .sc u⟩
  ·refine⟨vs,rfl,fun p hp=>?_,Z2⟩;obtain⟨v,_,rfl⟩:=List.mem_map.1 hp;exact .inl trivial
theorem VJ{G:BE}{P:Program}{f:FuncId}{vs vs':List Value}{args vals:Ad}{us rs:List Value}(hs:Cx G P f (.pbox (vs.map .sc)::args) ⟨vals,[vs'.map .sc]⟩)(ha:Be OT args us)(hr:Be OT vals rs){w:World}{b o:Nat}(hG:G.ok w)(hGl:∀k,G.bl k->k<w.heap.size/\k≠b)(hb:b<w.heap.size)(hc:∀j v,vs[j]?=some v->w.cell? ⟨b,o+j,none⟩=some v)(hf:∀j,j<vs.length->w.frozen? ⟨b,o+j,none⟩=false):
  Calls P f (.pointer (some ⟨b,o,none⟩)::us).toArray w fun e w'=>e=.returned (J1 rs)/\vs'.length=vs.length/\(∀j v,vs'[j]?=some v->w'.cell? ⟨b,o+j,none⟩=some v)/\(∀j,j<vs.length->w'.frozen? ⟨b,o+j,none⟩=false)/\Ft w w' b o vs.length:=by
 have hi:Ins w (fun _=>False) (bt1 b o) (.pbox (vs.map .sc)::args) (.pointer (some ⟨b,o,none⟩)::us):=by
  refine⟨fun _ h=>h.elim,fun _ h=>h.elim,fun k h=>by rw[Ao8 h];exact hb,fun i j i' j' k x x' h h'=>?_,fun i q h=>?_,?_,DY ha⟩
  ·unfold bt1 at h h';split at h
   ·split at h'
    ·exact⟨rfl,rfl⟩
    ·cases h'
   ·cases h
  ·unfold bt1 at h;split at h
   ·exact⟨_,rfl,rfl⟩
   ·cases h
  ·refine⟨b,o,rfl,rfl,fun p hp=>?_,vs,Z2,hc,fun k hk=>hf k (by simpa using hk)⟩;obtain⟨v,_,rfl⟩:=List.mem_map.1 hp;exact .inl trivial
 have Eb:∀i,∀q,(bt1 b o) i 0=some q->i=0/\q=(b,o):=by
  intro i q h;unfold bt1 at h;split at h
  ·cases h;exact⟨rfl,rfl⟩
  ·cases h
 refine (hs.2 w _ _ _ hi hG (fun k hk=>⟨(hGl k hk).1,fun hx=>(hGl k hk).2 (Ao8 hx)⟩)).mono ?_
 rintro e w' ⟨ws,own,rfl,out⟩
 have hv:=OH hr out.vals;subst hv;have ho:=out.outs;obtain⟨⟨b',o',h1,h2,zs,h3,h4,h5⟩,_⟩:=(show (∃b' o',(bt1 b o) 0 0=some (b',o')/\(vs'.map PV.sc).length=(vs.map PV.sc).length/\Aqf w' (MX (bt1 b o) own (fun _=>False)) own (Ph vals) b' o' (vs'.map .sc))/\_ from ho)
 cases h1;have hz:=Zy h3;subst hz;simp only[List.length_map] at h2 h5
 have hL:∀k j,k<w.heap.size->(k≠b\/j<o\/o+vs.length<=j)->¬QN (bt1 b o) (.pbox (vs.map .sc)::args) k j:=by
  rintro k j hk G6 ⟨i,p,hp,hq⟩
  rcases hq with⟨x,y,hq,_⟩|⟨y,ps,hq,hy,Oc⟩
  ·unfold bt1 at hq;split at hq
   ·rename_i h;cases h
   ·cases hq
  ·obtain⟨rfl,h⟩:=Eb i _ hq;cases h;have:p=.pbox (vs.map .sc):=by simpa using hp.symm
   subst this;rcases Oc with⟨e,Cm⟩|e
   ·injection e with e;subst e;rw[List.length_map] at Cm;rcases G6 with h|h|h
    ·exact h rfl
    ·omega
    ·omega
   ·cases e
 refine⟨rfl,h2,h4,fun j hj=>h5 j (by omega),out.os,out.tape,out.output,out.ext.size,out.ext.bs b hb,fun k hk G6=>out.ext.keep k hk fun hx=>G6 (Ao8 hx),fun j hj=>(out.rng b j hb (hL b j hb (.inr hj))).1,fun j hj=>(out.rng b j hb (hL b j hb (.inr hj))).2⟩
end
section
open Go.RowKit
theorem Qo{w w':World}{Y:Nat->Prop}{bt:GQ}{args:Ad}{v:Value}(hb:Below w.heap.size w w')(ho:AV w' (MX bt (fun _=>none) Y) (fun _=>none) bt (Ph [.sc v]) 0 args []):
  Out w w' Y bt args (fun _=>none) ⟨[.sc v],[]⟩ [v] where
 os:=hb.os
 tape:=hb.tape
 output:=hb.output
 ext:=⟨hb.size,fun b h _=>hb.block b h,fun b h=>Ij.same (hb.block b h)⟩
 rng:=fun b j h _=>⟨by unfold World.cell?;simp only[hb.block b h],by unfold World.frozen?;simp only[hb.block b h]⟩
 vals:=⟨At.sc v,trivial⟩
 outs:=ho
 fresh:=fun j b o h=>by cases h
 inj:=fun j j' b o o' h=>by cases h
theorem JY{P:Program}{w:World}{A:Nat->Prop}{bt:Bt}{z:Bool}{n:Nat}{c:Ad}{u:Value}{l:List UInt8}(h:Abz w A bt (.lst z 1 n c) u)(hl:bytesOf c=some l)(hn:c.length=n):
  (Extern.Bytes.bytesOf u).run P w=.ok ⟨l.toArray⟩ w:=by
 obtain⟨ns,rfl,rfl⟩:=X8 hl;have ht:At w A (.lst z 1 n (ns.map fun n=>.sc (.int .u8 n))) u:=h.2;generalize hc:(ns.map fun n=>PV.sc (.int .u8 n))=c at ht;cases ht with
 |lnil=>
  have:ns=[]:=by simpa using hc
  subst this;rfl
 |lemp=>
  have:ns=[]:=by simpa using hc
  subst this;rfl
 |lst _ _ _ a cap f hs hb hA hn' hcell h1 hr=>
  subst hc;rw[List.length_map] at hn;subst hn;show (Extern.Bytes.loadBytes a ns.length .empty).run P w=_;rw[Lib.run_loadBytesX w ns a .empty fun j x hj=>?_]
  ·simp[Lib.bytesOf,Nat.toUInt8]
  ·have e:(ns.map fun n=>PV.sc (.int .u8 n))[j]?=some (.sc (.int .u8 x)):=by rw[List.getElem?_map,hj];rfl
   rw[hcell j _ e,(hr j _ e).val]
theorem ZL(u1 u2:Value)(a b:List UInt8)(w:World)(h1:(Extern.Bytes.bytesOf u1).run prog w=.ok ⟨a.toArray⟩ w)(h2:(Extern.Bytes.bytesOf u2).run prog w=.ok ⟨b.toArray⟩ w):
  Calls prog 216 #[u1,u2] w fun e w'=>e=.returned (.int .i64 (Lib.compareBytes a b))/\w'=w:=by
 have hr:(Extern.BytealgCompare.compare #[u1,u2]).run prog w=.ok (.int .i64 (Lib.compareBytes a b)) w:=by
  change Sem.run prog (do pure (goInt (Extern.BytealgCompare.cmp (<-Extern.Bytes.bytesOf u1) (<-Extern.Bytes.bytesOf u2)))) w=_;simp only[Sem.run_bind,Sem.run_pure,Result.andThen,h1,h2];rw[Lib.cmp_eq];rfl
 go_enter Tryz.func216,Tryz.ntmps216
 go_wp2
 rw[run_callFunc_extern Tryz.func224 (by kernel_rfl) (by kernel_rfl) (by kernel_rfl) (e:=Extern.BytealgCompare.compare) (by kernel_rfl),hr];simp only[Result.andThen];rw[Oper.upon_value]
 go_wp2
 go_ret
 exact⟨rfl,rfl⟩
theorem SL(G:BE)(args:Ad)(res:A1)(h:NW args=some res):Cx G prog 216 args res:=by
 refine⟨⟨_,Tryz.func216,by kernel_rfl⟩,fun w Y bt us hi _ _=>?_⟩;unfold NW at h;split at h
 rotate_left
 ·cases h
 rename_i z n c z' m c';cases hq:(Nat.beq c.length n&&Nat.beq c'.length m)
 ·rw[hq] at h;cases h
 rw[hq] at h;simp only[Er] at hq;have hn:=C6 hq.1;have hm:=C6 hq.2;simp only[cond_true] at h;split at h
 rotate_left
 ·cases h
 rename_i a b ha hb;cases h;have ps:=hi.args
 match us,ps with
 |[u1,u2],ps=>
  refine (ZL u1 u2 a b w (JY ps.1 ha hn) (JY ps.2.1 hb hm)).mono ?_
  rintro e w' ⟨rfl,rfl⟩
  exact⟨[.int .i64 (Lib.compareBytes a b)],fun _=>none,rfl,Qo (Below.refl _ _) rfl⟩
 |[],ps=>exact ps.elim
 |[_],ps=>exact ps.2.elim
 |_::_::_::_,ps=>exact ps.2.2.elim
end
def prC(p:Int × Int):Ad:=[Aw p.1,Aw p.2]
def AU(l:List (Int × Int)):Ad:=l.flatMap prC
theorem YA(p:Int × Int):(prC p).length=2:=rfl
theorem SW(l:List (Int × Int)):(AU l).length=l.length*2:=PN YA l
theorem An3{l:List (Int × Int)}{i:Nat}{p:Int × Int}(h:l[i]?=some p):(AU l).getD (i*2) .top=Aw p.1/\(AU l).getD (i*2+1) .top=Aw p.2:=
 ⟨NZ YA h (j:=0) (by omega),NZ YA h (j:=1) (by omega)⟩
def En.cells(e:En):Ad:=[Ah e.k,.lst false 3 e.na e.an,.lst false 2 e.ns e.st]
theorem En.cells_len(e:En):e.cells.length=3:=rfl
def Wf(l:List En):Ad:=l.flatMap En.cells
def En.fit(e:En):Prop:=e.an.length=e.na*3/\e.st.length=e.ns*2/\e.na<=1000/\e.ns<=1000
theorem Arf{l:List En}{i:Nat}{e:En}(h:l[i]?=some e):(Wf l).getD (i*3) .top=Ah e.k/\(Wf l).getD (i*3+1) .top=.lst false 3 e.na e.an/\(Wf l).getD (i*3+2) .top=.lst false 2 e.ns e.st:=
 ⟨NZ En.cells_len h (j:=0) (by omega),NZ En.cells_len h (j:=1) (by omega),NZ En.cells_len h (j:=2) (by omega)⟩
theorem Ace{c:Ad}{es:List En}(h:Vs c=some es):c=Wf es/\∀e∈es,e.fit:=by
 fun_induction Vs c generalizing es with
 |case1=>cases h;exact⟨rfl,fun e he=>by cases he⟩
 |case2 k na an ns st r hb ih=>
  simp only[Er] at hb;obtain⟨⟨⟨b1,b2⟩,b3⟩,b4⟩:=hb;cases hr:Vs r with
  |none=>rw[hr] at h;cases h
  |some es'=>
   rw[hr] at h;cases h;obtain⟨h1,h2⟩:=ih hr;refine⟨by rw[h1];rfl,fun e he=>?_⟩
   rcases List.mem_cons.1 he with rfl|he
   ·exact⟨C6 b1,C6 b2,Oj b3,Oj b4⟩
   ·exact h2 e he
 |case3=>cases h
 |case4=>cases h
theorem ZR{st:Ad}{l:List (Int × Int)}(h:Qa st=some l):st=AU l:=by
 fun_induction Qa st generalizing l with
 |case1=>cases h;rfl
 |case2 k t r ih=>
  cases hr:Qa r with
  |none=>rw[hr] at h;cases h
  |some l'=>
   rw[hr] at h;cases h;rw[ih hr];rfl
 |case3=>cases h
section
variable {xs:FuncId->Option (Ad->Option A1)}{fu d:Nat}
theorem A14{n:Nat}{c:Ad}(h:c.length=n*3)(hn:n<=1000):Ac (CX xs) prog fu (d+1) 100 [.lst false 3 n c]=some ⟨[.lst false 3 n c],[]⟩:=by
 refine (Wt fu d n c).trans ?_;have t:List.take (n*3) c=c:=Ji (by omega);by_cases h0:0<n
 ·simp(disch:=omega)only[A4,A3,NK,Ig,Ou,h,t]
 ·obtain rfl:n=0:=by omega
  have:c=[]:=List.length_eq_zero_iff.1 (by omega);subst this;simp(disch:=omega)only[A4,A3,NK,Ig,Ou,LP,Nat.zero_mul,List.take_nil]
theorem A1q{n:Nat}{c:Ad}(h:c.length=n*2)(hn:n<=1000):Ac (CX xs) prog fu (d+1) 101 [.lst false 2 n c]=some ⟨[.lst false 2 n c],[]⟩:=by
 refine (Wy fu d n c).trans ?_;have t:List.take (n*2) c=c:=Ji (by omega);by_cases h0:0<n
 ·simp(disch:=omega)only[A4,A3,NK,Ig,Ou,h,t]
 ·obtain rfl:n=0:=by omega
  have:c=[]:=List.length_eq_zero_iff.1 (by omega);subst this;simp(disch:=omega)only[A4,A3,NK,Ig,Ou,LP,Nat.zero_mul,List.take_nil]
theorem Azo{e:En}(h:e.fit):Ac (CX xs) prog fu (d+2) 67 [.agg e.cells]=some ⟨[.agg e.cells],[]⟩:=by refine (Yw fu (d+1) e.k e.na e.an e.ns e.st).trans ?_;have a:=A14 (xs:=xs) (fu:=fu) (d:=d) h.1 h.2.2.1;have s:=A1q (xs:=xs) (fu:=fu) (d:=d) h.2.1 h.2.2.2;simp only[A4,A3,a,s];rfl
def en0:En:=⟨0,0,[],0,[]⟩
def S5(model:Int)(es:List En):En:=(es.find? fun e=>e.k==model).getD en0
theorem Ap2(model:Int)(es:List En):(S5 model es).st=Akt model es:=by unfold S5 Akt;cases es.find? fun e=>e.k==model<;>rfl
theorem Ajs{model:Int}{es:List En}(h:∀e∈es,e.fit):(S5 model es).fit:=by
 unfold S5;cases hf:es.find? fun e=>e.k==model with
 |none=>exact⟨rfl,rfl,by decide,by decide⟩
 |some e=>exact h e (List.mem_of_find?_eq_some hf)
theorem Aqd{As6 Aeq Afk Avn a1:Int}{Ahr Aiy Ah2:Nat}{Awi At1 Auq:Ad}{es:List En}(hn:es.length<=1000)(hf:∀e∈es,e.fit){model:Int}:∀(r:List En)(i nn:Nat),es.drop i=r->r.length<nn ->
  ∃b,Hv fu (Ac (CX xs) prog fu (d+2)) As6 Aeq Afk Ahr Awi Avn Aiy At1 Ah2 Auq a1 nn model es.length (Wf es) (es.length:Int) (i:Int) 0 0 0 [] []=some ⟨[.agg (S5 model r).cells,C9 b],[]⟩
 |_,_,0,_,h=>by omega
 |[],i,nn+1,hr,Gy=>by
  have hi:=drop_nil hr;refine⟨false,?_⟩;rw[Ow];simp(disch:=omega)only[A4,A3];rfl
 |e::r,i,nn+1,hr,Gy=>by
  obtain⟨Cm,h1,h2⟩:=Dx hr;obtain⟨g0,g1,g2⟩:=Arf h1;have g2':(Wf es).getD (i*3+1+1) .top=.lst false 2 e.ns e.st:=g2;rw[Ow];by_cases hk:e.k=model
  ·refine⟨true,?_⟩;have q:(e.k==model)=true:=by simp[hk]
   have cp:=Azo (xs:=xs) (fu:=fu) (d:=d) (hf e (List.mem_of_getElem? h1));have fe:S5 model (e::r)=e:=by unfold S5;rw[List.find?_cons_of_pos (by simpa using hk)];rfl
   rw[fe];simp only[En.cells] at cp;simp(disch:=omega)only[A4,A3,Jg,g0,g1,g2',q,cp];rfl
  ·have q:(e.k==model)=false:=by simp[hk]
   have w:wrap .i64 ((i:Int)+1)=((i+1:Nat):Int):=Bk
   obtain⟨b,ih⟩:=Aqd (As6:=As6) (Aeq:=Aeq) (Afk:=Afk) (Avn:=Avn) (a1:=a1) (Ahr:=Ahr) (Aiy:=Aiy) (Ah2:=Ah2) (Awi:=Awi) (At1:=At1) (Auq:=Auq) hn hf (model:=model) r (i+1) nn h2 (by simp only[On] at Gy;omega)
   have fe:S5 model (e::r)=S5 model r:=by unfold S5;rw[List.find?_cons_of_neg (by simpa using hk)]
   refine⟨b,?_⟩;rw[fe,<-ih];simp(disch:=omega)only[A4,A3,Jg,g0,g1,g2',q,w]
theorem Ans{es:List En}(hn:es.length<=1000)(Bq:1000<fu)(hf:∀e∈es,e.fit)(v i x lf model:Int)(n1 n2:Nat)(c1 c2:Ad):
  ∃b,Ac (CX xs) prog fu (d+3) 35 [.agg [Aw v,Aw i,Aw x,.lst false 3 es.length (Wf es),Aw lf,.lst false 1 n1 c1,.lst false 1 n2 c2],Ah model]=some ⟨[.agg (S5 model es).cells,C9 b],[]⟩:=by
 obtain⟨b,h⟩:=Aqd (xs:=xs) (fu:=fu) (d:=d) (As6:=v) (Aeq:=i) (Afk:=x) (Avn:=lf) (a1:=model) (Ahr:=es.length) (Aiy:=n1) (Ah2:=n2) (Awi:=Wf es) (At1:=c1) (Auq:=c2) hn hf (model:=model) es 0 fu rfl (by omega);exact⟨b,(GL fu (d+2) v i x es.length (Wf es) lf n1 c1 n2 c2 model).trans h⟩
end
section
open Go.RowKit
theorem Alh(G:BE)(args:Ad)(res:A1)(h:A1r args=some res):Cx G prog 155 args res:=by
 refine⟨⟨_,Tryz.func155,by kernel_rfl⟩,fun w Y bt us hi _ _=>?_⟩;unfold A1r at h;split at h
 rotate_left
 ·cases h
 rename_i s c;cases h;have ps:=hi.args
 match us,ps with
 |[u1,u2],ps=>
  obtain⟨⟨_,p1⟩,⟨_,p2⟩,_⟩:=ps;have e1:u1=.string s:=At.val (show At w _ (Bo s) u1 from p1);have e2:u2=.int .u8 c:=At.val (show At w _ (.sc (.int .u8 c)) u2 from p2);subst e1 e2
  have walk:Calls prog 155 #[.string s,.int .u8 c] w fun e w'=>e=.returned (.int .i64 (Lib.indexByte s.data.toList c.toNat.toUInt8))/\w'=w:=by
   go_enter Tryz.func155,Tryz.ntmps155
   go_wp2
   rw[run_callFunc_extern Tryz.func178 (by kernel_rfl) (by kernel_rfl) (by kernel_rfl) (e:=Extern.BytealgIndexByte.indexByte) (by kernel_rfl),Lib.run_indexByteString];simp only[Result.andThen];rw[Oper.upon_value]
   go_wp2
   go_ret
   exact⟨rfl,rfl⟩
  refine walk.mono ?_
  rintro e w' ⟨rfl,rfl⟩
  exact⟨[.int .i64 (Lib.indexByte s.data.toList c.toNat.toUInt8)],fun _=>none,rfl,Qo (Below.refl _ _) rfl⟩
 |[],ps=>exact ps.elim
 |[_],ps=>exact ps.2.elim
 |_::_::_::_,ps=>exact ps.2.2.elim
theorem Aoy{p:ByteArray}(h:p.size=1):p=⟨#[p[0]!]⟩:=by
 obtain⟨⟨l⟩⟩:=p
 match l,h with
 |[x],_=>rfl
theorem Akz(G:BE)(args:Ad)(res:A1)(h:Ayf args=some res):Cx G prog 209 args res:=by
 refine⟨⟨_,Tryz.func209,by kernel_rfl⟩,fun w Y bt us hi _ _=>?_⟩;unfold Ayf at h;split at h
 rotate_left
 ·cases h
 rename_i s p;cases hq:Nat.beq p.size 1
 ·rw[hq] at h;cases h
 rw[hq,cond_true] at h;cases h;have hp:=Aoy (C6 hq);generalize (p[0]!)=c at hp ⊢;subst hp;have ps:=hi.args
 match us,ps with
 |[u1,u2],ps=>
  obtain⟨⟨_,p1⟩,⟨_,p2⟩,_⟩:=ps;have e1:u1=.string s:=At.val (show At w _ (Bo s) u1 from p1);have e2:u2=.string ⟨#[c]⟩:=At.val (show At w _ (Bo ⟨#[c]⟩) u2 from p2);subst e1 e2
  have walk:Calls prog 209 #[.string s,.string ⟨#[c]⟩] w fun e w'=>e=.returned (.int .i64 (Lib.countByte s.data.toList c))/\w'=w:=by
   go_enter Tryz.func209,Tryz.ntmps209
   go_wp2
   rw[run_callFunc_extern Tryz.func220 (by kernel_rfl) (by kernel_rfl) (by kernel_rfl) (e:=Extern.BytealgCount.count) (by kernel_rfl),Lib.run_countString];simp only[Result.andThen];rw[Oper.upon_value]
   go_wp2
   go_ret
   exact⟨rfl,rfl⟩
  refine walk.mono ?_
  rintro e w' ⟨rfl,rfl⟩
  exact⟨[.int .i64 (Lib.countByte s.data.toList c)],fun _=>none,rfl,Qo (Below.refl _ _) rfl⟩
 |[],ps=>exact ps.elim
 |[_],ps=>exact ps.2.elim
 |_::_::_::_,ps=>exact ps.2.2.elim
end
theorem Bdj(a b:Nat)(ha:a<4294967296)(hb:b<4294967296):bits .or .u32 ((a:Nat):Int) ((b:Nat):Int)=((a ||| b:Nat):Int):=by
 have hx:a ||| b<2 ^ 32:=Nat.or_lt_two_pow (by omega) (by omega)
 have h1:(BitVec.ofInt 32 (a:Int)).toNat=a:=by
  rw[BitVec.ofInt_natCast,BitVec.toNat_ofNat];exact Nat.mod_eq_of_lt (by omega)
 have h2:(BitVec.ofInt 32 (b:Int)).toNat=b:=by
  rw[BitVec.ofInt_natCast,BitVec.toNat_ofNat];exact Nat.mod_eq_of_lt (by omega)
 show IntKind.u32.wrap ((BitVec.ofInt 32 (a:Int) ||| BitVec.ofInt 32 (b:Int)).toNat:Int)=_;rw[BitVec.toNat_or,h1,h2];simp only[wrap,IntKind.bits,IntKind.signed,RH,Bool.false_eq_true,if_false];omega
def EI(a b c:Int):Aj:=[Nc (a / 4),Nc (a % 4*16+b / 16),Nc (b % 16*4+c / 64),Nc (c % 64)]
def ZB:ByteArray:=⟨#[65,66,67,68,69,70,71,72,73,74,75,76,77,78,79,80,81,82,83,84,85,86,87,88,89,90,97,98,99,100,101,102,103,104,105,106,107,108,109,110,111,112,113,114,115,116,117,118,119,120,121,122,48,49,50,51,52,53,54,55,56,57,45,95]⟩
theorem Q4{a b:Aj}(ha:Cp a)(hb:Cp b):Cp (a++b):=by
 intro x hx;rcases Bn.1 hx with h|h
 ·exact ha x h
 ·exact hb x h
section
open Go.Shelf Go.RowKit Go.Lib
def Ab1:Go.Shelf.Ren:=⟨fun|119=>226|120=>223|137=>137|151=>213|152=>222|160=>168|167=>160|168=>159|169=>157|197=>212|217=>155|224=>206|225=>205|227=>188|228=>211|231=>186|232=>187|233=>189|234=>190|235=>191|236=>192|240=>181|242=>182|260=>221|266=>178|271=>214|276=>203|278=>204|n=>n,fun|0=>0|3=>3|4=>4|5=>5|9=>9|20=>20|21=>21|37=>22|46=>67|51=>226|70=>248|72=>250|75=>255|80=>251|105=>301|116=>283|117=>284|119=>194|124=>287|127=>277|138=>196|139=>197|164=>298|n=>n,fun|3=>0|4=>1|n=>n⟩
theorem Ag3:Lays.n167 prog Ab1:={
 mixed:=by kernel_rfl
 f167:=Tryz.func160.trans (congrArg some (by kernel_rfl))
 f240:=Tryz.func181.trans (congrArg some (by kernel_rfl))
 f276:=Tryz.func203.trans (congrArg some (by kernel_rfl))
 t0:=Tryz.underlying0
 a0:=Tryz.isAgg0
 z0:=Tryz.sizeOf0
 v0:=Tryz.zeroValue0
 t4:=Tryz.underlying4
 a4:=Tryz.isAgg4
 z4:=Tryz.sizeOf4
 v4:=Tryz.zeroValue4
 t5:=Tryz.underlying5
 a5:=Tryz.isAgg5
 z5:=Tryz.sizeOf5
 v5:=Tryz.zeroValue5
 t9:=Tryz.underlying9
 a9:=Tryz.isAgg9
 z9:=Tryz.sizeOf9
 v9:=Tryz.zeroValue9
 t20:=Tryz.underlying20
 a20:=Tryz.isAgg20
 z20:=Tryz.sizeOf20
 v20:=Tryz.zeroValue20
 t37:=Tryz.underlying22
 a37:=Tryz.isAgg22
 z37:=Tryz.sizeOf22
 v37:=Tryz.zeroValue22
 t70:=Tryz.underlying248
 a70:=Tryz.isAgg248
 z70:=Tryz.sizeOf248
 v70:=Tryz.zeroValue248
 t72:=Tryz.underlying250
 a72:=Tryz.isAgg250
 z72:=Tryz.sizeOf250
 v72:=Tryz.zeroValue250
 t75:=Tryz.underlying255
 a75:=Tryz.isAgg255
 z75:=Tryz.sizeOf255
 v75:=Tryz.zeroValue255
 t164:=Tryz.underlying298
 a164:=Tryz.isAgg298
 z164:=Tryz.sizeOf298
 v164:=Tryz.zeroValue298 }
theorem Afw:Lays.n168 prog Ab1:={
 mixed:=by kernel_rfl
 f168:=Tryz.func159.trans (congrArg some (by kernel_rfl))
 f240:=Tryz.func181.trans (congrArg some (by kernel_rfl))
 f242:=Tryz.func182.trans (congrArg some (by kernel_rfl))
 f276:=Tryz.func203.trans (congrArg some (by kernel_rfl))
 f278:=Tryz.func204.trans (congrArg some (by kernel_rfl))
 t0:=Tryz.underlying0
 a0:=Tryz.isAgg0
 z0:=Tryz.sizeOf0
 v0:=Tryz.zeroValue0
 t3:=Tryz.underlying3
 a3:=Tryz.isAgg3
 z3:=Tryz.sizeOf3
 v3:=Tryz.zeroValue3
 t4:=Tryz.underlying4
 a4:=Tryz.isAgg4
 z4:=Tryz.sizeOf4
 v4:=Tryz.zeroValue4
 t5:=Tryz.underlying5
 a5:=Tryz.isAgg5
 z5:=Tryz.sizeOf5
 v5:=Tryz.zeroValue5
 t9:=Tryz.underlying9
 a9:=Tryz.isAgg9
 z9:=Tryz.sizeOf9
 v9:=Tryz.zeroValue9
 t20:=Tryz.underlying20
 a20:=Tryz.isAgg20
 z20:=Tryz.sizeOf20
 v20:=Tryz.zeroValue20
 t21:=Tryz.underlying21
 a21:=Tryz.isAgg21
 z21:=Tryz.sizeOf21
 v21:=Tryz.zeroValue21
 t37:=Tryz.underlying22
 a37:=Tryz.isAgg22
 z37:=Tryz.sizeOf22
 v37:=Tryz.zeroValue22
 t46:=Tryz.underlying67
 a46:=Tryz.isAgg67
 z46:=Tryz.sizeOf67
 v46:=Tryz.zeroValue67
 t51:=Tryz.underlying226
 a51:=Tryz.isAgg226
 z51:=Tryz.sizeOf226
 v51:=Tryz.zeroValue226
 t70:=Tryz.underlying248
 a70:=Tryz.isAgg248
 z70:=Tryz.sizeOf248
 v70:=Tryz.zeroValue248
 t72:=Tryz.underlying250
 a72:=Tryz.isAgg250
 z72:=Tryz.sizeOf250
 v72:=Tryz.zeroValue250
 t75:=Tryz.underlying255
 a75:=Tryz.isAgg255
 z75:=Tryz.sizeOf255
 v75:=Tryz.zeroValue255
 t164:=Tryz.underlying298
 a164:=Tryz.isAgg298
 z164:=Tryz.sizeOf298
 v164:=Tryz.zeroValue298 }
theorem Afs:Lays.n169 prog Ab1:={
 mixed:=by kernel_rfl
 f169:=Tryz.func157.trans (congrArg some (by kernel_rfl))
 t0:=Tryz.underlying0
 a0:=Tryz.isAgg0
 z0:=Tryz.sizeOf0
 v0:=Tryz.zeroValue0
 t3:=Tryz.underlying3
 a3:=Tryz.isAgg3
 z3:=Tryz.sizeOf3
 v3:=Tryz.zeroValue3
 t9:=Tryz.underlying9
 a9:=Tryz.isAgg9
 z9:=Tryz.sizeOf9
 v9:=Tryz.zeroValue9
 t37:=Tryz.underlying22
 a37:=Tryz.isAgg22
 z37:=Tryz.sizeOf22
 v37:=Tryz.zeroValue22
 t70:=Tryz.underlying248
 a70:=Tryz.isAgg248
 z70:=Tryz.sizeOf248
 v70:=Tryz.zeroValue248
 t72:=Tryz.underlying250
 a72:=Tryz.isAgg250
 z72:=Tryz.sizeOf250
 v72:=Tryz.zeroValue250
 t127:=Tryz.underlying277
 a127:=Tryz.isAgg277
 z127:=Tryz.sizeOf277
 v127:=Tryz.zeroValue277 }
theorem Agb:Lays.n160 prog Ab1:={
 mixed:=by kernel_rfl
 f119:=Tryz.func226.trans (congrArg some (by kernel_rfl))
 f120:=Tryz.func223.trans (congrArg some (by kernel_rfl))
 f137:=Tryz.func137.trans (congrArg some (by kernel_rfl))
 f151:=Tryz.func213.trans (congrArg some (by kernel_rfl))
 f152:=Tryz.func222.trans (congrArg some (by kernel_rfl))
 f160:=Tryz.func168.trans (congrArg some (by kernel_rfl))
 f197:=Tryz.func212.trans (congrArg some (by kernel_rfl))
 f217:=Tryz.func155.trans (congrArg some (by kernel_rfl))
 f224:=Tryz.func206.trans (congrArg some (by kernel_rfl))
 f225:=Tryz.func205.trans (congrArg some (by kernel_rfl))
 f227:=Tryz.func188.trans (congrArg some (by kernel_rfl))
 f228:=Tryz.func211.trans (congrArg some (by kernel_rfl))
 f231:=Tryz.func186.trans (congrArg some (by kernel_rfl))
 f232:=Tryz.func187.trans (congrArg some (by kernel_rfl))
 f233:=Tryz.func189.trans (congrArg some (by kernel_rfl))
 f234:=Tryz.func190.trans (congrArg some (by kernel_rfl))
 f235:=Tryz.func191.trans (congrArg some (by kernel_rfl))
 f236:=Tryz.func192.trans (congrArg some (by kernel_rfl))
 f260:=Tryz.func221.trans (congrArg some (by kernel_rfl))
 f266:=Tryz.func178.trans (congrArg some (by kernel_rfl))
 f271:=Tryz.func214.trans (congrArg some (by kernel_rfl))
 t0:=Tryz.underlying0
 a0:=Tryz.isAgg0
 z0:=Tryz.sizeOf0
 v0:=Tryz.zeroValue0
 t3:=Tryz.underlying3
 a3:=Tryz.isAgg3
 z3:=Tryz.sizeOf3
 v3:=Tryz.zeroValue3
 t4:=Tryz.underlying4
 a4:=Tryz.isAgg4
 z4:=Tryz.sizeOf4
 v4:=Tryz.zeroValue4
 t5:=Tryz.underlying5
 a5:=Tryz.isAgg5
 z5:=Tryz.sizeOf5
 v5:=Tryz.zeroValue5
 t9:=Tryz.underlying9
 a9:=Tryz.isAgg9
 z9:=Tryz.sizeOf9
 v9:=Tryz.zeroValue9
 t21:=Tryz.underlying21
 a21:=Tryz.isAgg21
 z21:=Tryz.sizeOf21
 v21:=Tryz.zeroValue21
 t46:=Tryz.underlying67
 a46:=Tryz.isAgg67
 z46:=Tryz.sizeOf67
 v46:=Tryz.zeroValue67
 t105:=Tryz.underlying301
 a105:=Tryz.isAgg301
 z105:=Tryz.sizeOf301
 v105:=Tryz.zeroValue301
 t116:=Tryz.underlying283
 a116:=Tryz.isAgg283
 z116:=Tryz.sizeOf283
 t117:=Tryz.underlying284
 a117:=Tryz.isAgg284
 z117:=Tryz.sizeOf284
 v117:=Tryz.zeroValue284
 t119:=Tryz.underlying194
 a119:=Tryz.isAgg194
 z119:=Tryz.sizeOf194
 t124:=Tryz.underlying287
 a124:=Tryz.isAgg287
 z124:=Tryz.sizeOf287
 v124:=Tryz.zeroValue287
 t138:=Tryz.underlying196
 a138:=Tryz.isAgg196
 z138:=Tryz.sizeOf196
 v138:=Tryz.zeroValue196
 t139:=Tryz.underlying197
 a139:=Tryz.isAgg197
 z139:=Tryz.sizeOf197
 v139:=Tryz.zeroValue197
 g3:=by kernel_rfl
 g4:=by kernel_rfl }
theorem XL:Builder.Extra prog Ab1:={
 sizeBuilder:=by kernel_rfl
 liesBuilder:=by kernel_rfl
 t5:=Tryz.underlying5
 a5:=Tryz.isAgg5
 z5:=Tryz.sizeOf5
 v5:=Tryz.zeroValue5
 infoByte:=by kernel_rfl
 cellsByte:=by kernel_rfl
 sizeByte:=by kernel_rfl
 neB5:=by decide }
end
section
variable {xs:FuncId->Option (Ad->Option A1)}(fu d:Nat)(call:Aq)
theorem Uo(Y Z:ByteArray):O9 (CX xs) fu d 179 [Y,Z] fun call=>Ax (decide ((↑(ByteArray.size Y):Int)>=(↑(ByteArray.size Z):Int))) (Ar (decide (Int.toNat (↑(ByteArray.size Z):Int)<=ByteArray.size Y))<|Aa (ByteArray.extract Y 0 (Int.toNat (↑(ByteArray.size Z):Int))) fun a=>Bj [C9 (Array.toList (ByteArray.data a)==Array.toList (ByteArray.data Z))]) (Bj [false]):=by show _=_;kernel_rfl
theorem AQ(Z Y:ByteArray):O9 (CX xs) fu d 156 [Z,Y] fun call=>D6 (call 179 [Z,Y]) fun a b=>Bu a fun a=>Ap b<|Bj [a]:=by show _=_;kernel_rfl
theorem To(Y:ByteArray)(Z:Int):O9 (CX xs) fu d 161 [.pbox [Y,Z]] fun call=>Ax (decide (Z<(↑(ByteArray.size Y):Int))) (Ar (decide (0<=Z))<|Ds ((Array.toList (ByteArray.data Y))[Z.toNat]?) fun a=>some ⟨[.sc (.int .u8 (↑(UInt8.toNat a):Int))],[[Y,Z]]⟩) (some ⟨[.sc (.int .u8 0)],[[Y,Z]]⟩):=by show _=_;kernel_rfl
theorem Rd(Z:ByteArray)(Y:Int)(X:ByteArray):O9 (CX xs) fu d 138 [.pbox [Z,Y],X] fun call=>Ar (decide (0<=Y))<|Ar (decide (Y.toNat<=ByteArray.size Z)&&decide (ByteArray.size Z<=ByteArray.size Z))<|Aa (ByteArray.extract Z Y.toNat (ByteArray.size Z)) fun a=>D6 (call 156 [a,X]) fun a b=>Bu a fun a=>Ap b<|Ax (!a) (some ⟨[false],[[Z,Y]]⟩) (Aa (wrap .i64 (Y+(↑(ByteArray.size X):Int))) fun a=>some ⟨[true],[[Z,a]]⟩):=by show _=_;kernel_rfl
theorem CM(Z:Int):O9 (CX xs) fu d 202 [.sc (.int .i32 Z)] fun call=>Ax (decide (Z>=56320)) (Bj [C9 (decide (Z<=57343))]) (Bj [false]):=by show _=_;kernel_rfl
def Cr(Z:ByteArray)(Y:Int)(X:Nat)(W V:Int)(U:ByteArray)(T:Int):Option A1:=Ll fu call 201 Tryz.f201 [.pbox [Z,Y]] [.r,.r,.l,.r,.l] X ⟨lk [(0,.ptr 120000 0),(4,.sc (.int .i32 W)),(6,V)],Fw [(120000,.st [U,T])]⟩
theorem Hf(X:ByteArray)(W:Int)(V:Nat)(Z Y:Int)(U:ByteArray)(T:Int):Cr fu call X W (V+1) Z Y U T=(Ax (decide (Y<4)) (Bm (call 161 [.pbox [U,T]]) fun a b=>Dn .u8 a fun a=>Ai b fun b c=>Ai b fun b e=>Bv b fun b=>Dn .i64 e fun e=>(fun h:Option A1=>(fun f:Option A1=>(fun g:Option A1=>Ap c<|Ax (decide (a>=48)) (Ax (decide (a<=57)) (Aa (Fb .i32 Z 4) fun c=>Aa (wrap .u8 (a-48)) fun a=>Aa (wrap .i32 a) fun a=>Aa (wrap .i32 (c+a)) fun a=>Aa (wrap .i64 (e+1)) fun c=>Aa (wrap .i64 (Y+1)) fun e=>Cr fu call X W V a e b c) g) g) (Ax (decide (a>=97)) (Ax (decide (a<=102)) (Aa (Fb .i32 Z 4) fun c=>Aa (wrap .u8 (a-97)) fun a=>Aa (wrap .i32 a) fun a=>Aa (wrap .i32 (c+a)) fun a=>Aa (wrap .i32 (a+10)) fun a=>Aa (wrap .i64 (e+1)) fun c=>Aa (wrap .i64 (Y+1)) fun e=>Cr fu call X W V a e b c) f) f)) (Ax (decide (a>=65)) (Ax (decide (a<=70)) (Aa (Fb .i32 Z 4) fun c=>Aa (wrap .u8 (a-65)) fun a=>Aa (wrap .i32 a) fun a=>Aa (wrap .i32 (c+a)) fun a=>Aa (wrap .i32 (a+10)) fun a=>Aa (wrap .i64 (e+1)) fun c=>Aa (wrap .i64 (Y+1)) fun e=>Cr fu call X W V a e b c) h) h)) (some ⟨[.sc (.int .i32 0),false],[[b,e]]⟩)) (some ⟨[.sc (.int .i32 Z),true],[[U,T]]⟩)):=by kernel_rfl
theorem P8(Z:ByteArray)(Y:Int):O9 (CX xs) fu d 201 [.pbox [Z,Y]] fun call=>Cr fu call Z Y fu 0 0 Z (Y):=by show _=_;kernel_rfl
theorem Pj(Z:ByteArray)(Y:Int):O9 (CX xs) fu d 180 [.pbox [Z,Y]] fun call=>Bm (call 201 [.pbox [Z,Y]]) fun a b=>Ee .i32 a fun a c=>Qp c fun c=>Ai b fun b e=>Ai b fun b f=>Bv b fun b=>Dn .i64 f fun f=>(fun h:Option A1=>Ap e<|Ax (!c) h (D6 (call 202 [.sc (.int .i32 a)]) fun c e=>Bu c fun c=>(fun j:Option A1=>Ap e<|Ax c h (Ax (decide (a<55296)) j (Ax (decide (a>56319)) j (Bm (call 138 [.pbox [b,f],Bo ⟨#[92,117]⟩]) fun b c=>Qp b fun b=>Ai c fun c e=>Ai c fun c f=>Bv c fun c=>Dn .i64 f fun f=>Ap e<|Ax (!b) (some ⟨[.sc (.int .i32 0),false],[[c,f]]⟩) (Bm (call 201 [.pbox [c,f]]) fun b c=>Ee .i32 b fun b e=>Qp e fun e=>Ai c fun c f=>Ai c fun c g=>Bv c fun c=>Dn .i64 g fun g=>(fun i:Option A1=>Ap f<|Ax (!e) i (D6 (call 202 [.sc (.int .i32 b)]) fun e f=>Bu e fun e=>Ap f<|Ax (!e) i (Aa (wrap .i32 (a-55296)) fun a=>Aa (Fb .i32 a 10) fun a=>Aa (wrap .i32 (65536+a)) fun a=>Aa (wrap .i32 (b-56320)) fun b=>Aa (wrap .i32 (a+b)) fun a=>some ⟨[.sc (.int .i32 a),true],[[c,g]]⟩))) (some ⟨[.sc (.int .i32 0),false],[[c,g]]⟩)))))) (some ⟨[.sc (.int .i32 a),true],[[b,f]]⟩))) (some ⟨[.sc (.int .i32 0),false],[[b,f]]⟩):=by show _=_;kernel_rfl
theorem Np(Z:ByteArray)(Y:Int):O9 (CX xs) fu d 158 [.pbox [Z,Y]] fun call=>Bm (call 138 [.pbox [Z,Y],Bo ⟨#[117]⟩]) fun a b=>Qp a fun a=>Ai b fun b c=>Ai b fun b e=>Bv b fun b=>Dn .i64 e fun e=>Ap c<|Ax a (Bm (call 180 [.pbox [b,e]]) fun a b=>Ee .i32 a fun a c=>Qp c fun c=>Ai b fun b e=>Ai b fun b f=>Bv b fun b=>Dn .i64 f fun f=>Ap e<|some ⟨[.sc (.int .i32 a),c],[[b,f]]⟩) (Bm (call 161 [.pbox [b,e]]) fun a b=>Dn .u8 a fun a=>Ai b fun b c=>Ai b fun b e=>Bv b fun b=>Dn .i64 e fun e=>Ap c<|Aa (wrap .i32 a) fun a=>(fun g:Option A1=>Ax (a==34) g (Ax (a==92) g (Ax (a==47) g (Ax (a==98) (Aa (wrap .i64 (e+1)) fun a=>some ⟨[.sc (.int .i32 8),true],[[b,a]]⟩) (Ax (a==102) (Aa (wrap .i64 (e+1)) fun a=>some ⟨[.sc (.int .i32 12),true],[[b,a]]⟩) (Ax (a==110) (Aa (wrap .i64 (e+1)) fun a=>some ⟨[.sc (.int .i32 10),true],[[b,a]]⟩) (Ax (a==114) (Aa (wrap .i64 (e+1)) fun a=>some ⟨[.sc (.int .i32 13),true],[[b,a]]⟩) (Ax (a==116) (Aa (wrap .i64 (e+1)) fun a=>some ⟨[.sc (.int .i32 9),true],[[b,a]]⟩) (some ⟨[.sc (.int .i32 0),false],[[b,e]]⟩))))))))) (Aa (wrap .i64 (e+1)) fun c=>some ⟨[.sc (.int .i32 a),true],[[b,c]]⟩)):=by show _=_;kernel_rfl
end
def Dy(t:ByteArray)(r:Aj):Prop:=∃pre,Ci t=pre++r
theorem Dy.all(t:ByteArray):Dy t (Ci t):=⟨[],rfl⟩
theorem Dy.len{t:ByteArray}{r:Aj}(h:Dy t r):r.length<=t.size:=by obtain⟨pre,h⟩:=h;have:=congrArg List.length h;rw[Dc,Xk] at this;omega
theorem Dy.app{t:ByteArray}{a r:Aj}(h:Dy t (a++r)):Dy t r:=by obtain⟨pre,h⟩:=h;exact⟨pre++a,by rw[h,Zzv]⟩
theorem Dy.tail{t:ByteArray}{c:Int}{r:Aj}(h:Dy t (c::r)):Dy t r:=Dy.app (a:=[c]) h
theorem Dy.drop{t:ByteArray}{r:Aj}(h:Dy t r)(k:Nat):Dy t (r.drop k):=by rw[<-List.take_append_drop k r] at h;exact h.app
def B4(t:ByteArray)(r:Aj):Nat:=t.size-r.length
theorem Dy.eq{t:ByteArray}{r:Aj}(h:Dy t r):r=(Ci t).drop (B4 t r):=by
 have hl:=h.len;obtain⟨pre,h⟩:=h
 have e:B4 t r=pre.length:=by
  have:=congrArg List.length h;rw[Dc,Xk] at this;unfold B4;omega
 rw[e,h,List.drop_left]
theorem Dy.B{t:ByteArray}{r:Aj}(h:Dy t r):Cp r:=by obtain⟨pre,h⟩:=h;exact fun x hx=>DG t x (by rw[h];exact List.mem_append_right _ hx)
theorem Dy.at{t:ByteArray}{c:Int}{r:Aj}(h:Dy t (c::r)):∃b:UInt8,(Array.toList t.data)[B4 t (c::r)]?=some b/\(b.toNat:Int)=c:=by
 have he:=h.eq
 have:(Ci t)[B4 t (c::r)]?=some c:=by
  have:=congrArg (fun l=>l[0]?) he;rw[List.getElem?_drop] at this;exact this.symm
 unfold Ci at this;rw[List.getElem?_map] at this;obtain⟨b,hb,rfl⟩:=Option.map_eq_some_iff.1 this;exact⟨b,hb,rfl⟩
theorem Qq{t:ByteArray}{c:Int}{r:Aj}(h:Dy t (c::r)):B4 t r=B4 t (c::r)+1:=by have:=h.len;unfold B4;rw[On] at this ⊢;omega
theorem ET(t:ByteArray):B4 t []=t.size:=rfl
abbrev Da(t:ByteArray)(r:Aj):Ad:=[Bo t,Aw (B4 t r:Int)]
def WE:Aj->Int
 |[]=>0
 |c::_=>c
section
variable {fu d:Nat}{xs:FuncId->Option (Ad->Option A1)}
theorem Q3{t:ByteArray}{r:Aj}(h:Dy t r):Ac (CX xs) prog fu (d+1) 161 [.pbox (Da t r)]=some ⟨[.sc (.int .u8 (WE r))],[Da t r]⟩:=by
 rw[To];cases r with
 |nil=>
  show _=some (A1.mk [.sc (.int .u8 0)] [[Bo t,Aw (B4 t []:Int)]]);rw[ET];have e:decide ((t.size:Int)<(t.size:Int))=false:=by simp
  simp only[A4,A3,e]
 |cons c r=>
  have hl:=h.len;obtain⟨b,hb,rfl⟩:=h.at
  have hp:B4 t ((b.toNat:Int)::r)<t.size:=by
   unfold B4;rw[On] at hl ⊢;omega
  have e:decide ((B4 t ((b.toNat:Int)::r):Int)<(t.size:Int))=true:=by simp;omega
  have e2:decide ((0:Int)<=(B4 t ((b.toNat:Int)::r):Int))=true:=by simp
  rw[<-Jg (B4 t ((b.toNat:Int)::r))] at hb;simp only[A4,A3,e,e2,hb,WE]
theorem KN{s:ByteArray}{a:Nat}:s.extract a s.size=Ab ((Ci s).drop a):=by
 rw[<-Mf (s.extract a s.size)]
 congr 1
 unfold Ci;rw[ByteArray.data_extract,Array.toList_extract,List.extract_eq_take_drop,<-List.map_drop,Ji];rw[List.length_drop];exact Cn _
theorem GJ{s:ByteArray}{n:Nat}:s.extract 0 n=Ab ((Ci s).take n):=by
 rw[<-Mf (s.extract 0 n)]
 congr 1
 unfold Ci;rw[ByteArray.data_extract,Array.toList_extract,List.extract_eq_take_drop,Nat.sub_zero,Ou,List.map_take]
theorem Ayb{a w:Aj}(ha:Cp a)(hw:Cp w):Ac (CX xs) prog fu (d+1) 179 [Bo (Ab a),Bo (Ab w)]=some ⟨[C9 (w.isPrefixOf a)],[]⟩:=by
 rw[Uo,Ag,Ag];by_cases hl:w.length<=a.length
 ·have e1:decide ((a.length:Int)>=(w.length:Int))=true:=by simp;omega
  have e2:decide (Int.toNat (w.length:Int)<=a.length)=true:=by rw[Jg];simp;exact hl
  have e3:(Ab a).extract 0 (Int.toNat (w.length:Int))=Ab (a.take w.length):=by
   rw[Jg,GJ,C8 ha]
  have e4:(Array.toList (Ab (a.take w.length)).data==Array.toList (Ab w).data)=w.isPrefixOf a:=by
   rw[Bool.eq_iff_iff,List.isPrefixOf_iff_prefix,beq_iff_eq];constructor
   ·intro h
    have h2:Ab (a.take w.length)=Ab w:=by
     cases hx:Ab (a.take w.length);cases hy:Ab w;rw[hx,hy] at h;exact congrArg ByteArray.mk (Array.toList_inj.1 h)
    have h3:=congrArg Ci h2;rw[C8 hw,C8 (fun x hx=>ha x (List.mem_of_mem_take hx))] at h3;exact List.prefix_iff_eq_take.2 h3.symm
   ·intro h;rw[<-List.prefix_iff_eq_take.1 h]
  simp only[A4,A3,e1,e2,e3,e4]
 ·have e1:decide ((a.length:Int)>=(w.length:Int))=false:=by simp;omega
  have e4:w.isPrefixOf a=false:=by
   rw[Bool.eq_false_iff,ne_eq,List.isPrefixOf_iff_prefix];exact fun h=>hl h.length_le
  simp only[A4,A3,e1,e4]
theorem Bcx{a w:Aj}(ha:Cp a)(hw:Cp w):Ac (CX xs) prog fu (d+2) 156 [Bo (Ab a),Bo (Ab w)]=some ⟨[C9 (w.isPrefixOf a)],[]⟩:=by rw[AQ];have e:Ac (CX xs) prog fu (d+1) 179 [Bo (Ab a),Bo (Ab w)]=_:=Ayb ha hw;simp only[A4,A3,e]
theorem Y7{t:ByteArray}{r w:Aj}(h:Dy t r)(ht:t.size<=1000000)(hw:Cp w)(hw2:w.length<=100):Ac (CX xs) prog fu (d+3) 138 [.pbox (Da t r),Bo (Ab w)]=some (match A6 w r with|some r'=>⟨[C9 true],[Da t r']⟩|none=>⟨[C9 false],[Da t r]⟩):=by
 have hl:=h.len;have he:=h.eq;have hp:B4 t r<=t.size:=Nat.sub_le _ _;have hh:=Bcx (fu:=fu) (d:=d) (xs:=xs) h.B hw;have e1:decide ((0:Int)<=(B4 t r:Int))=true:=by simp
 have e2:(decide (Int.toNat (B4 t r:Int)<=t.size)&&decide (t.size<=t.size))=true:=by
  rw[Jg];simp;exact hp
 have e3:t.extract (Int.toNat (B4 t r:Int)) t.size=Ab r:=by rw[Jg,KN,<-he]
 rw[Rd];unfold A6;by_cases hq:w.isPrefixOf r=true
 ·rw[Cy hq];rw[hq] at hh
  have hwl:w.length<=r.length:=by
   have:=List.IsPrefix.length_le (List.isPrefixOf_iff_prefix.1 hq);exact this
  have e4:wrap .i64 ((B4 t r:Int)+((Ab w).size:Int))=(B4 t (r.drop w.length):Int):=by
   rw[Ag,Bb];unfold B4;rw[List.length_drop];omega
  simp only[A4,A3,e1,e2,e3,hh,e4,Hn]
 ·rw[Bl hq];have Oc:w.isPrefixOf r=false:=Bool.eq_false_iff.2 hq;rw[Oc] at hh;simp only[A4,A3,e1,e2,e3,hh,Km]
theorem Avc(x:Int):Ac (CX xs) prog fu (d+1) 202 [.sc (.int .i32 x)]=some ⟨[C9 (ZO x)],[]⟩:=by
 rw[CM];unfold ZO;by_cases h:56320<=x
 ·have e:decide (x>=56320)=true:=by simp;omega
  have e2:decide (56320<=x)=true:=by simp;omega
  simp only[A4,A3,e,e2,WU]
 ·have e:decide (x>=56320)=false:=by simp;omega
  have e2:decide (56320<=x)=false:=by simp;omega
  simp only[A4,A3,e,e2,RH]
def Avf(t:ByteArray)(o:PR Int):A1:=⟨[.sc (.int .i32 (o.1.getD 0)),C9 (o.1.isSome)],[Da t o.2]⟩
theorem UB(c:Int):(48<=c/\c<=57/\Aes c=some (c-48))\/(97<=c/\c<=102/\Aes c=some (c-87))\/(65<=c/\c<=70/\Aes c=some (c-55))\/(¬(48<=c/\c<=57)/\¬(97<=c/\c<=102)/\¬(65<=c/\c<=70)/\Aes c=none):=by
 unfold Aes;by_cases h1:48<=c/\c<=57
 ·exact .inl ⟨h1.1,h1.2,Cy h1⟩
 ·by_cases h2:97<=c/\c<=102
  ·exact .inr (.inl ⟨h2.1,h2.2,by rw[Bl h1,Cy h2]⟩)
  ·by_cases h3:65<=c/\c<=70
   ·exact .inr (.inr (.inl ⟨h3.1,h3.2,by rw[Bl h1,Bl h2,Cy h3]⟩))
   ·exact .inr (.inr (.inr ⟨h1,h2,h3,by rw[Bl h1,Bl h2,Bl h3]⟩))
theorem F3{x:Int}(h1: -2147483648<=x)(h2:x<=2147483647):wrap .i32 x=x:=by have:=IntWalk.i32_in x (by omega);exact this
theorem A6b{x:Int}(h0:0<=x)(h1:x<65536):Fb .i32 x 4=x*16:=by show wrap .i32 (x*2 ^ (min (4:Int).toNat IntKind.i32.bits))=_;rw[show min (4:Int).toNat IntKind.i32.bits=4 from rfl];exact F3 (by omega) (by omega)
theorem FZ{t s0:ByteArray}{p0:Int}(ht:t.size<=1000000):∀(n:Nat)(nn:Nat)(x:Int)(r:Aj),n<=4->n+1<=nn->0<=x->x<16 ^ (4-n)->Dy t r ->
  Cr fu (Ac (CX xs) prog fu (d+1)) s0 p0 nn x ((4-n:Nat):Int) t (B4 t r:Int)=some (Avf t (AN n x r))
 |0,nn,x,r,_,Gy,h0,h1,h=>by
  obtain⟨k,rfl⟩:∃k,nn=k+1:=⟨nn-1,by omega⟩
  rw[Hf];simp only[A4,A3,show decide (((4-0:Nat):Int)<4)=false from rfl];rfl
 |n+1,nn,x,r,hn,Gy,h0,h1,h=>by
  obtain⟨k,rfl⟩:∃k,nn=k+1:=⟨nn-1,by omega⟩
  have pk:=Q3 (fu:=fu) (d:=d) (xs:=xs) h;have hl:=h.len
  have hx:x<4096:=by
   have:n+1=1\/n+1=2\/n+1=3\/n+1=4:=by omega
   rcases this with e|e|e|e<;>rw[e] at h1<;>simp at h1<;>omega
  have JU:∀v,0<=v->v<=15->x*16+v<16 ^ (4-n):=by
   intro v hv0 hv1;have e:4-n=(4-(n+1))+1:=by omega
   rw[e,Int.pow_succ];omega
  have e4:decide (((4-(n+1):Nat):Int)<4)=true:=by simp;omega
  have e5:wrap .i64 (((4-(n+1):Nat):Int)+1)=((4-n:Nat):Int):=Bk
  have sh:=A6b h0 (by omega);rw[Hf];cases r with
  |nil=>
   have pk2:Ac (CX xs) prog fu (d+1) 161 [.pbox (Da t [])]=some ⟨[.sc (.int .u8 0)],[Da t []]⟩:=pk
   repeat(with_reducible(first|apply Ba|apply A0|apply A8|apply A2|apply Bi|apply E3|apply Az|apply A9|apply Ix);· first|constructor|(simp(disch:=omega)only[I8,e4,pk2,Int.reduceGE,decide_false,decide_true]<;>first|constructor|omega)|omega)
   try simp(disch:=omega)only[Aa,e4,pk2,Int.reduceGE,decide_false,decide_true]
   rfl
  |cons c r=>
   have hc:=h.B c (by simp);have hp:=Qq h
   have e6:wrap .i64 ((B4 t (c::r):Int)+1)=(B4 t r:Int):=by
    rw[hp,Fz (by unfold B4;omega) (by unfold B4;omega)];omega
   have pk2:Ac (CX xs) prog fu (d+1) 161 [.pbox (Da t (c::r))]=some ⟨[.sc (.int .u8 c)],[Da t (c::r)]⟩:=pk;unfold AN;rcases UB c with⟨g1,g2,g3⟩|⟨g1,g2,g3⟩|⟨g1,g2,g3⟩|⟨g1,g2,g3,g4⟩
   ·rw[g3];have ih:=FZ (s0:=s0) (p0:=p0) ht n k (x*16+(c-48)) r (by omega) (by omega) (by omega) (JU _ (by omega) (by omega)) h.tail;have w1:wrap .u8 (c-48)=c-48:=Nw (by omega) (by omega);have w2:wrap .i32 (c-48)=c-48:=F3 (by omega) (by omega);have w3:wrap .i32 (x*16+(c-48))=x*16+(c-48):=F3 (by omega) (by omega)
    repeat(with_reducible(first|apply Ba|apply A0|apply A8|apply A2|apply Bi|apply E3|apply Az|apply A9|apply Ix);· first|constructor|(simp(disch:=omega)only[I8,e4,pk2,sh,w1,w2,w3,e5,e6,ih]<;>first|constructor|omega)|omega)
    try simp(disch:=omega)only[Aa,e4,pk2,sh,w1,w2,w3,e5,e6,ih]
   ·rw[g3];have ih:=FZ (s0:=s0) (p0:=p0) ht n k (x*16+(c-87)) r (by omega) (by omega) (by omega) (JU _ (by omega) (by omega)) h.tail;have w1:wrap .u8 (c-97)=c-97:=Nw (by omega) (by omega);have w2:wrap .i32 (c-97)=c-97:=F3 (by omega) (by omega);have w3:wrap .i32 (x*16+(c-97))=x*16+(c-97):=F3 (by omega) (by omega);have w4:wrap .i32 (x*16+(c-97)+10)=x*16+(c-87):=by rw[F3 (by omega) (by omega)];omega
    repeat(with_reducible(first|apply Ba|apply A0|apply A8|apply A2|apply Bi|apply E3|apply Az|apply A9|apply Ix);· first|constructor|(simp(disch:=omega)only[I8,e4,pk2,sh,w1,w2,w3,w4,e5,e6,ih]<;>first|constructor|omega)|omega)
    try simp(disch:=omega)only[Aa,e4,pk2,sh,w1,w2,w3,w4,e5,e6,ih]
   ·rw[g3];have ih:=FZ (s0:=s0) (p0:=p0) ht n k (x*16+(c-55)) r (by omega) (by omega) (by omega) (JU _ (by omega) (by omega)) h.tail;have w1:wrap .u8 (c-65)=c-65:=Nw (by omega) (by omega);have w2:wrap .i32 (c-65)=c-65:=F3 (by omega) (by omega);have w3:wrap .i32 (x*16+(c-65))=x*16+(c-65):=F3 (by omega) (by omega);have w4:wrap .i32 (x*16+(c-65)+10)=x*16+(c-55):=by rw[F3 (by omega) (by omega)];omega
    repeat(with_reducible(first|apply Ba|apply A0|apply A8|apply A2|apply Bi|apply E3|apply Az|apply A9|apply Ix);· first|constructor|(simp(disch:=omega)only[I8,e4,pk2,sh,w1,w2,w3,w4,e5,e6,ih]<;>first|constructor|omega)|omega)
    try simp(disch:=omega)only[Aa,e4,pk2,sh,w1,w2,w3,w4,e5,e6,ih]
   ·rw[g4];by_cases k1:48<=c
    ·by_cases k2:97<=c
     ·skip
      repeat(with_reducible(first|apply Ba|apply A0|apply A8|apply A2|apply Bi|apply E3|apply Az|apply A9|apply Ix);· first|constructor|(simp(disch:=omega)only[I8,e4,pk2]<;>first|constructor|omega)|omega)
      try simp(disch:=omega)only[Aa,e4,pk2]
      rfl
     ·by_cases k3:65<=c
      ·skip
       repeat(with_reducible(first|apply Ba|apply A0|apply A8|apply A2|apply Bi|apply E3|apply Az|apply A9|apply Ix);· first|constructor|(simp(disch:=omega)only[I8,e4,pk2]<;>first|constructor|omega)|omega)
       try simp(disch:=omega)only[Aa,e4,pk2]
       rfl
      ·skip
       repeat(with_reducible(first|apply Ba|apply A0|apply A8|apply A2|apply Bi|apply E3|apply Az|apply A9|apply Ix);· first|constructor|(simp(disch:=omega)only[I8,e4,pk2]<;>first|constructor|omega)|omega)
       try simp(disch:=omega)only[Aa,e4,pk2]
       rfl
    ·skip
     repeat(with_reducible(first|apply Ba|apply A0|apply A8|apply A2|apply Bi|apply E3|apply Az|apply A9|apply Ix);· first|constructor|(simp(disch:=omega)only[I8,e4,pk2]<;>first|constructor|omega)|omega)
     try simp(disch:=omega)only[Aa,e4,pk2]
     rfl
theorem Axm{t:ByteArray}{r:Aj}(Bq:10<=fu)(h:Dy t r)(ht:t.size<=1000000):Ac (CX xs) prog fu (d+2) 201 [.pbox (Da t r)]=some (Avf t (AN 4 0 r)):=by rw[P8];exact FZ ht 4 fu 0 r (by omega) (by omega) (by omega) (by decide) h
theorem I6:∀(n:Nat)(x:Int)(l:Aj)(y:Int)(r:Aj),AN n x l=(some y,r)->0<=x->0<=y/\y<(x+1)*16 ^ n
 |0,x,l,y,r,h,h0=>by
  cases h;omega
 |n+1,x,[],y,r,h,h0=>by cases h
 |n+1,x,c::l,y,r,h,h0=>by
  unfold AN at h;rcases UB c with⟨g1,g2,g3⟩|⟨g1,g2,g3⟩|⟨g1,g2,g3⟩|⟨g1,g2,g3,g4⟩
  ·rw[g3] at h;have:=I6 n _ l y r h (by omega)
   have e:(x*16+(c-48)+1)*16 ^ n<=(x+1)*16 ^ (n+1):=by
    rw[Int.pow_succ,Int.mul_comm (16 ^ n) 16,<-Int.mul_assoc];exact Int.mul_le_mul_of_nonneg_right (by omega) (Int.pow_nonneg (by omega))
   omega
  ·rw[g3] at h;have:=I6 n _ l y r h (by omega)
   have e:(x*16+(c-87)+1)*16 ^ n<=(x+1)*16 ^ (n+1):=by
    rw[Int.pow_succ,Int.mul_comm (16 ^ n) 16,<-Int.mul_assoc];exact Int.mul_le_mul_of_nonneg_right (by omega) (Int.pow_nonneg (by omega))
   omega
  ·rw[g3] at h;have:=I6 n _ l y r h (by omega)
   have e:(x*16+(c-55)+1)*16 ^ n<=(x+1)*16 ^ (n+1):=by
    rw[Int.pow_succ,Int.mul_comm (16 ^ n) 16,<-Int.mul_assoc];exact Int.mul_le_mul_of_nonneg_right (by omega) (Int.pow_nonneg (by omega))
   omega
  ·rw[g4] at h;cases h
theorem EQ{t:ByteArray}:∀(n:Nat)(x:Int)(l:Aj),Dy t l->Dy t (AN n x l).2
 |0,x,l,h=>h
 |n+1,x,[],h=>h
 |n+1,x,c::l,h=>by
  unfold AN;cases Aes c with
  |none=>exact h
  |some v=>exact EQ n _ l h.tail
theorem Anl(l:Aj):Aq1 l=List.isPrefixOf [92,117] l:=by
 match l with
 |[]=>rfl
 |[a]=>
  unfold Aq1;split
  ·rename_i e;cases e
  ·simp[List.isPrefixOf]
 |a::b::r=>
  unfold Aq1;split
  ·rename_i e;cases e;rfl
  ·rename_i h
   symm
   rw[Bool.eq_false_iff];intro hp;simp[List.isPrefixOf] at hp;exact h r (by rw[<-hp.1,<-hp.2])
theorem A1w{x:Int}(h0:0<=x)(h1:x<2097152):Fb .i32 x 10=x*1024:=by show wrap .i32 (x*2 ^ (min (10:Int).toNat IntKind.i32.bits))=_;rw[show min (10:Int).toNat IntKind.i32.bits=10 from rfl];exact F3 (by omega) (by omega)
theorem A04{t:ByteArray}{r:Aj}(Bq:10<=fu)(h:Dy t r)(ht:t.size<=1000000):Ac (CX xs) prog fu (d+4) 180 [.pbox (Da t r)]=some (Avf t (Tx r)):=by
 have hx:=Axm (d:=d+1) (xs:=xs) Bq h ht;have hs:=EQ 4 0 r h;have hb:=I6 4 0 r;rw[Pj];unfold Tx;rcases hq:AN 4 0 r with⟨o,r1⟩;rw[hq] at hx hs;simp only at hs;cases o with
 |none=>
  have JU:Ac (CX xs) prog fu (d+3) 201 [.pbox (Da t r)]=some ⟨[.sc (.int .i32 0),C9 false],[Da t r1]⟩:=hx
  repeat(with_reducible(first|apply Ba|apply A0|apply A8|apply A2|apply Bi|apply E3|apply Az|apply A9|apply Ix);· first|constructor|(simp(disch:=omega)only[I8,JU,Km]<;>first|constructor|omega)|omega)
  try simp(disch:=omega)only[Aa,JU,Km]
  rfl
 |some x=>
  have JU:Ac (CX xs) prog fu (d+3) 201 [.pbox (Da t r)]=some ⟨[.sc (.int .i32 x),C9 true],[Da t r1]⟩:=hx;have bx:=hb x r1 hq (by omega);have lw:∀x,Ac (CX xs) prog fu (d+3) 202 [.sc (.int .i32 x)]=some ⟨[C9 (ZO x)],[]⟩:=fun x=>Avc (d:=d+2) x;cases hl:ZO x
  ·simp only[hl,Bool.false_eq_true,if_false];by_cases c1:x<55296
   ·rw[Cy (Or.inl c1)]
    repeat(with_reducible(first|apply Ba|apply A0|apply A8|apply A2|apply Bi|apply E3|apply Az|apply A9|apply Ix);· first|constructor|(simp(disch:=omega)only[I8,JU,lw,hl,Hn]<;>first|constructor|omega)|omega)
    try simp(disch:=omega)only[Aa,JU,lw,hl,Hn]
    rfl
   ·by_cases c2:56319<x
    ·rw[Cy (Or.inr c2)]
     repeat(with_reducible(first|apply Ba|apply A0|apply A8|apply A2|apply Bi|apply E3|apply Az|apply A9|apply Ix);· first|constructor|(simp(disch:=omega)only[I8,JU,lw,hl,Hn]<;>first|constructor|omega)|omega)
     try simp(disch:=omega)only[Aa,JU,lw,hl,Hn]
     rfl
    ·rw[Bl (by omega)];have ha:=Y7 (fu:=fu) (d:=d) (xs:=xs) hs ht (w:=[92,117]) (fun x hx=>by simp at hx;rcases hx with rfl|rfl<;>omega) (by decide)
     unfold A6 at ha;rw[<-Anl] at ha;cases hB:Aq1 r1
     ·rw[hB,Bl (by simp)] at ha;simp only[Bool.false_eq_true,if_false];have U0:Ac (CX xs) prog fu (d+3) 138 [.pbox (Da t r1),Bo ⟨#[92,117]⟩]=some ⟨[C9 false],[Da t r1]⟩:=ha
      repeat(with_reducible(first|apply Ba|apply A0|apply A8|apply A2|apply Bi|apply E3|apply Az|apply A9|apply Ix);· first|constructor|(simp(disch:=omega)only[I8,JU,lw,hl,U0,Hn,Km]<;>first|constructor|omega)|omega)
      try simp(disch:=omega)only[Aa,JU,lw,hl,U0,Hn,Km]
      rfl
     ·rw[hB,Cy rfl] at ha;simp only[if_true];have U0:Ac (CX xs) prog fu (d+3) 138 [.pbox (Da t r1),Bo ⟨#[92,117]⟩]=some ⟨[C9 true],[Da t (r1.drop 2)]⟩:=ha;have hy:=Axm (d:=d+1) (xs:=xs) Bq (hs.drop 2) ht;have hby:=I6 4 0 (r1.drop 2);unfold Ag6;rcases Oc:AN 4 0 (r1.drop 2) with⟨o2,r2⟩;rw[Oc] at hy;cases o2 with
      |none=>
       have hy2:Ac (CX xs) prog fu (d+3) 201 [.pbox (Da t (r1.drop 2))]=some ⟨[.sc (.int .i32 0),C9 false],[Da t r2]⟩:=hy
       repeat(with_reducible(first|apply Ba|apply A0|apply A8|apply A2|apply Bi|apply E3|apply Az|apply A9|apply Ix);· first|constructor|(simp(disch:=omega)only[I8,JU,lw,hl,U0,hy2,Hn,Km]<;>first|constructor|omega)|omega)
       try simp(disch:=omega)only[Aa,JU,lw,hl,U0,hy2,Hn,Km]
       rfl
      |some y=>
       have hy2:Ac (CX xs) prog fu (d+3) 201 [.pbox (Da t (r1.drop 2))]=some ⟨[.sc (.int .i32 y),C9 true],[Da t r2]⟩:=hy;have by_:=hby y r2 Oc (by omega);cases Wd:ZO y
       ·simp only[Bool.false_eq_true,if_false]
        repeat(with_reducible(first|apply Ba|apply A0|apply A8|apply A2|apply Bi|apply E3|apply Az|apply A9|apply Ix);· first|constructor|(simp(disch:=omega)only[I8,JU,lw,hl,Wd,U0,hy2,Hn,Km]<;>first|constructor|omega)|omega)
        try simp(disch:=omega)only[Aa,JU,lw,hl,Wd,U0,hy2,Hn,Km]
        rfl
       ·simp only[if_true]
        have ly:56320<=y/\y<=57343:=by
         unfold ZO at Wd
         simpa using Wd
        have w1:wrap .i32 (x-55296)=x-55296:=F3 (by omega) (by omega);have w2:=A1w (x:=x-55296) (by omega) (by omega);have w3:wrap .i32 (65536+(x-55296)*1024)=65536+(x-55296)*1024:=F3 (by omega) (by omega);have w4:wrap .i32 (y-56320)=y-56320:=F3 (by omega) (by omega);have w5:wrap .i32 (65536+(x-55296)*1024+(y-56320))=65536+(x-55296)*1024+(y-56320):=F3 (by omega) (by omega)
        repeat(with_reducible(first|apply Ba|apply A0|apply A8|apply A2|apply Bi|apply E3|apply Az|apply A9|apply Ix);· first|constructor|(simp(disch:=omega)only[I8,JU,lw,hl,Wd,U0,hy2,w1,w2,w3,w4,w5,Hn,Km]<;>first|constructor|omega)|omega)
        try simp(disch:=omega)only[Aa,JU,lw,hl,Wd,U0,hy2,w1,w2,w3,w4,w5,Hn,Km]
        rfl
  ·simp only[if_true]
   repeat(with_reducible(first|apply Ba|apply A0|apply A8|apply A2|apply Bi|apply E3|apply Az|apply A9|apply Ix);· first|constructor|(simp(disch:=omega)only[I8,JU,lw,hl,Hn]<;>first|constructor|omega)|omega)
   try simp(disch:=omega)only[Aa,JU,lw,hl,Hn]
   rfl
theorem VR(c:Int):(c=34/\BS c=some 34)\/(c=92/\BS c=some 92)\/(c=47/\BS c=some 47)\/(c=98/\BS c=some 8)\/(c=102/\BS c=some 12)\/(c=110/\BS c=some 10)\/(c=114/\BS c=some 13)\/(c=116/\BS c=some 9) \/
  ((c≠34/\c≠92/\c≠47/\c≠98/\c≠102/\c≠110/\c≠114/\c≠116)/\BS c=none):=by
 by_cases h1:c=34
 ·subst h1;exact .inl ⟨rfl,rfl⟩
 by_cases h2:c=92
 ·subst h2;exact .inr (.inl ⟨rfl,rfl⟩)
 by_cases h3:c=47
 ·subst h3;exact .inr (.inr (.inl ⟨rfl,rfl⟩))
 by_cases h4:c=98
 ·subst h4;exact .inr (.inr (.inr (.inl ⟨rfl,rfl⟩)))
 by_cases h5:c=102
 ·subst h5;exact .inr (.inr (.inr (.inr (.inl ⟨rfl,rfl⟩))))
 by_cases h6:c=110
 ·subst h6;exact .inr (.inr (.inr (.inr (.inr (.inl ⟨rfl,rfl⟩)))))
 by_cases h7:c=114
 ·subst h7;exact .inr (.inr (.inr (.inr (.inr (.inr (.inl ⟨rfl,rfl⟩))))))
 by_cases h8:c=116
 ·subst h8;exact .inr (.inr (.inr (.inr (.inr (.inr (.inr (.inl ⟨rfl,rfl⟩)))))))
 refine .inr (.inr (.inr (.inr (.inr (.inr (.inr (.inr ⟨⟨h1,h2,h3,h4,h5,h6,h7,h8⟩,?_⟩)))))));unfold BS;rw[Bl (by omega),Bl h4,Bl h5,Bl h6,Bl h7,Bl h8]
theorem A6x{t:ByteArray}{r:Aj}(Bq:10<=fu)(h:Dy t r)(ht:t.size<=1000000):Ac (CX xs) prog fu (d+5) 158 [.pbox (Da t r)]=some (Avf t (Sf r)):=by
 have ha:=Y7 (fu:=fu) (d:=d+1) (xs:=xs) h ht (w:=[117]) (fun x hx=>by simp at hx;omega) (by decide)
 have hl:=h.len;rw[Np];cases r with
 |nil=>
  have U0:Ac (CX xs) prog fu (d+4) 138 [.pbox (Da t []),Bo ⟨#[117]⟩]=some ⟨[C9 false],[Da t []]⟩:=ha;have pk:Ac (CX xs) prog fu (d+4) 161 [.pbox (Da t [])]=some ⟨[.sc (.int .u8 0)],[Da t []]⟩:=Q3 (d:=d+3) h;have w0:wrap .i32 0=0:=rfl
  repeat(with_reducible(first|apply Ba|apply A0|apply A8|apply A2|apply Bi|apply E3|apply Az|apply A9|apply Ix);· first|constructor|(simp(disch:=omega)only[I8,U0,pk,w0,Int.reduceBEq]<;>first|constructor|omega)|omega)
  try simp(disch:=omega)only[Aa,U0,pk,w0,Int.reduceBEq]
  rfl
 |cons c r=>
  have hc:=h.B c (by simp);have hp:=Qq h
  have e6:wrap .i64 ((B4 t (c::r):Int)+1)=(B4 t r:Int):=by
   rw[hp,Fz (by unfold B4;omega) (by unfold B4;omega)];omega
  have w0:wrap .i32 c=c:=F3 (by omega) (by omega);have pk:Ac (CX xs) prog fu (d+4) 161 [.pbox (Da t (c::r))]=some ⟨[.sc (.int .u8 c)],[Da t (c::r)]⟩:=Q3 (d:=d+3) h;have he:Sf (c::r)=if c=117 then Tx r else match BS c with|some x=>(some x,r)|none=>(none,c::r):=rfl
  rw[he];unfold A6 at ha;by_cases hu:c=117
  ·subst hu;rw[Cy rfl];have U0:Ac (CX xs) prog fu (d+4) 138 [.pbox (Da t (117::r)),Bo ⟨#[117]⟩]=some ⟨[C9 true],[Da t r]⟩:=ha;have hcd:Ac (CX xs) prog fu (d+4) 180 [.pbox (Da t r)]=some ⟨[.sc (.int .i32 ((Tx r).1.getD 0)),C9 ((Tx r).1.isSome)],[Da t (Tx r).2]⟩:=A04 Bq h.tail ht
   repeat(with_reducible(first|apply Ba|apply A0|apply A8|apply A2|apply Bi|apply E3|apply Az|apply A9|apply Ix);· first|constructor|(simp(disch:=omega)only[I8,U0,hcd]<;>first|constructor|omega)|omega)
   try simp(disch:=omega)only[Aa,U0,hcd]
   rfl
  ·rw[Bl hu]
   have hb:(List.isPrefixOf [117] (c::r))=false:=by
    rw[Bool.eq_false_iff];intro hp;simp[List.isPrefixOf] at hp;exact hu hp.symm
   rw[hb,Bl (by simp)] at ha;have U0:Ac (CX xs) prog fu (d+4) 138 [.pbox (Da t (c::r)),Bo ⟨#[117]⟩]=some ⟨[C9 false],[Da t (c::r)]⟩:=ha;rcases VR c with⟨rfl,g⟩|⟨rfl,g⟩|⟨rfl,g⟩|⟨rfl,g⟩|⟨rfl,g⟩|⟨rfl,g⟩|⟨rfl,g⟩|⟨rfl,g⟩|⟨g1,g⟩
   ·rw[g]
    repeat(with_reducible(first|apply Ba|apply A0|apply A8|apply A2|apply Bi|apply E3|apply Az|apply A9|apply Ix);· first|constructor|(simp(disch:=omega)only[I8,U0,pk,w0,e6,Int.reduceBEq]<;>first|constructor|omega)|omega)
    try simp(disch:=omega)only[Aa,U0,pk,w0,e6,Int.reduceBEq]
    rfl
   ·rw[g]
    repeat(with_reducible(first|apply Ba|apply A0|apply A8|apply A2|apply Bi|apply E3|apply Az|apply A9|apply Ix);· first|constructor|(simp(disch:=omega)only[I8,U0,pk,w0,e6,Int.reduceBEq]<;>first|constructor|omega)|omega)
    try simp(disch:=omega)only[Aa,U0,pk,w0,e6,Int.reduceBEq]
    rfl
   ·rw[g]
    repeat(with_reducible(first|apply Ba|apply A0|apply A8|apply A2|apply Bi|apply E3|apply Az|apply A9|apply Ix);· first|constructor|(simp(disch:=omega)only[I8,U0,pk,w0,e6,Int.reduceBEq]<;>first|constructor|omega)|omega)
    try simp(disch:=omega)only[Aa,U0,pk,w0,e6,Int.reduceBEq]
    rfl
   ·rw[g]
    repeat(with_reducible(first|apply Ba|apply A0|apply A8|apply A2|apply Bi|apply E3|apply Az|apply A9|apply Ix);· first|constructor|(simp(disch:=omega)only[I8,U0,pk,w0,e6,Int.reduceBEq]<;>first|constructor|omega)|omega)
    try simp(disch:=omega)only[Aa,U0,pk,w0,e6,Int.reduceBEq]
    rfl
   ·rw[g]
    repeat(with_reducible(first|apply Ba|apply A0|apply A8|apply A2|apply Bi|apply E3|apply Az|apply A9|apply Ix);· first|constructor|(simp(disch:=omega)only[I8,U0,pk,w0,e6,Int.reduceBEq]<;>first|constructor|omega)|omega)
    try simp(disch:=omega)only[Aa,U0,pk,w0,e6,Int.reduceBEq]
    rfl
   ·rw[g]
    repeat(with_reducible(first|apply Ba|apply A0|apply A8|apply A2|apply Bi|apply E3|apply Az|apply A9|apply Ix);· first|constructor|(simp(disch:=omega)only[I8,U0,pk,w0,e6,Int.reduceBEq]<;>first|constructor|omega)|omega)
    try simp(disch:=omega)only[Aa,U0,pk,w0,e6,Int.reduceBEq]
    rfl
   ·rw[g]
    repeat(with_reducible(first|apply Ba|apply A0|apply A8|apply A2|apply Bi|apply E3|apply Az|apply A9|apply Ix);· first|constructor|(simp(disch:=omega)only[I8,U0,pk,w0,e6,Int.reduceBEq]<;>first|constructor|omega)|omega)
    try simp(disch:=omega)only[Aa,U0,pk,w0,e6,Int.reduceBEq]
    rfl
   ·rw[g]
    repeat(with_reducible(first|apply Ba|apply A0|apply A8|apply A2|apply Bi|apply E3|apply Az|apply A9|apply Ix);· first|constructor|(simp(disch:=omega)only[I8,U0,pk,w0,e6,Int.reduceBEq]<;>first|constructor|omega)|omega)
    try simp(disch:=omega)only[Aa,U0,pk,w0,e6,Int.reduceBEq]
    rfl
   ·rw[g];obtain⟨n1,n2,n3,n4,n5,n6,n7,n8⟩:=g1;have m1:(c==(34:Int))=false:=by simp[n1]
    have m2:(c==(92:Int))=false:=by simp[n2]
    have m3:(c==(47:Int))=false:=by simp[n3]
    have m4:(c==(98:Int))=false:=by simp[n4]
    have m5:(c==(102:Int))=false:=by simp[n5]
    have m6:(c==(110:Int))=false:=by simp[n6]
    have m7:(c==(114:Int))=false:=by simp[n7]
    have m8:(c==(116:Int))=false:=by simp[n8]
    repeat(with_reducible(first|apply Ba|apply A0|apply A8|apply A2|apply Bi|apply E3|apply Az|apply A9|apply Ix);· first|constructor|(simp(disch:=omega)only[I8,U0,pk,w0,e6,m1,m2,m3,m4,m5,m6,m7,m8]<;>first|constructor|omega)|omega)
    try simp(disch:=omega)only[Aa,U0,pk,w0,e6,m1,m2,m3,m4,m5,m6,m7,m8]
    rfl
theorem Y6{t:ByteArray}{l:Aj}(h:Dy t l):Dy t (Sf l).2:=by
 have A7a:∀l,Dy t l->Dy t (Tx l).2:=by
  intro l h;have h1:=EQ 4 0 l h;unfold Tx;rcases hq:AN 4 0 l with⟨o,r⟩;rw[hq] at h1;cases o with
  |none=>exact h1
  |some x=>
   simp only;split
   ·exact h1
   split
   ·exact h1
   split
   ·have h2:=EQ 4 0 (r.drop 2) (Dy.drop h1 2);unfold Ag6;rcases Oc:AN 4 0 (r.drop 2) with⟨o2,r2⟩;rw[Oc] at h2;cases o2 with
    |none=>exact h2
    |some y=>
     simp only;split<;>exact h2
   ·exact h1
 cases l with
 |nil=>exact h
 |cons c r=>
  have he:Sf (c::r)=if c=117 then Tx r else match BS c with|some x=>(some x,r)|none=>(none,c::r):=rfl
  rw[he];split
  ·exact A7a r h.tail
  ·cases BS c with
   |none=>exact h
   |some x=>exact h.tail
end
section
open Go.RowKit Go.Lib
abbrev u8C(l:Aj):List Value:=l.map (Value.int .u8)
theorem Ai3(a b:Aj):u8C (a++b)=u8C a++u8C b:=List.map_append
theorem UH:∀{l:Aj},Cp l->u8C l=Lib.byteCells (l.map fun n=>n.toNat.toUInt8)
 |[],_=>rfl
 |x::l,h=>by
  obtain⟨hx,h⟩:=Dk h;show Value.int .u8 x::u8C l=Value.int .u8 ((x.toNat.toUInt8).toNat:Int)::Lib.byteCells (l.map fun n=>n.toNat.toUInt8);rw[UH h]
  congr 2
  have:(x.toNat.toUInt8).toNat=x.toNat:=by
   show x.toNat % 256=x.toNat;omega
  rw[this];omega
theorem FX(k:IntKind):∀l:Aj,Ae k l=l.map fun n=>.sc (.int k n)
 |[]=>rfl
 |x::l=>by
  show PV.sc (.int k x)::Ae k l=_;rw[FX k l];rfl
end
section
open Go Go.RowKit
theorem Ft.refl(w:World)(b o n:Nat):Ft w w b o n:=⟨rfl,rfl,rfl,Cn _,Ij.refl _ _,fun _ _ _=>rfl,fun _ _=>rfl,fun _ _=>rfl⟩
theorem Ft.trans{w w' w'':World}{b o n:Nat}(h:Ft w w' b o n)(k:Ft w' w'' b o n):Ft w w'' b o n:=
 ⟨k.os.trans h.os,k.tape.trans h.tape,k.output.trans h.output,Nat.le_trans h.size k.size,h.grow.trans k.grow,fun i hi G6=>(k.other i (Gb hi h.size) G6).trans (h.other i hi G6),fun j hj=>(k.cells j hj).trans (h.cells j hj),fun j hj=>(k.frz j hj).trans (h.frz j hj)⟩
theorem Ft.below{w w' w'':World}{b o n:Nat}(h:Ft w w' b o n)(k:Below w.heap.size w' w'')(hb:b<w.heap.size):Ft w w'' b o n:=
 ⟨k.os.trans h.os,k.tape.trans h.tape,k.output.trans h.output,Nat.le_trans h.size k.size,h.grow.trans (Ij.same (k.block b hb)),fun i hi G6=>(k.block i hi).trans (h.other i hi G6),fun j hj=>(k.cell (p:=⟨b,j,none⟩) hb).trans (h.cells j hj),fun j hj=>(k.frozen (p:=⟨b,j,none⟩) hb).trans (h.frz j hj)⟩
theorem Ft.drew{w w':World}{b o n:Nat}(h:Ft w w' b o n):Ft w w'.drew b o n:=⟨h.os,h.tape,h.output,h.size,h.grow,h.other,h.cells,h.frz⟩
theorem Ft.setCell(w:World)(b o n j:Nat)(v:Value)(hj:o<=j)(hj2:j<o+n)(hb:b<w.heap.size):Ft w (w.setCell ⟨b,j,none⟩ v) b o n:=by have hw:Ei b w (w.setCell ⟨b,j,none⟩ v):=Ei.setCells b [v] j w;refine⟨hw.os,hw.tape,hw.output,Nat.le_of_eq hw.size.symm,hw.grow b,fun k hk G6=>hw.other k G6,fun i hi=>?_,fun i _=>hw.frz i⟩;exact World.cell?_setCell_other _ _ _ _ (by intro e;injection e;omega)
theorem GC{T e:TypeId}{B c:Nat}{bs:List Value}{W W':World}{b o n:Nat}(h:Lib.IsBuilderF T e B c bs W)(hk:Ft W W' b o n)(hb:b<B):Lib.IsBuilderF T e B c bs W':=by
 have key:∀p,Lib.BuilderAtF T e B c p bs W->Lib.BuilderAtF T e B c p bs W':=by
  intro p h;have Cm:=h.lt;obtain⟨hB,v,hv,Iq,G6⟩:=h;refine⟨hB,v,(hk.other c Cm (by omega)).trans hv,Iq.kept (row:=some b) ⟨hk.os,hk.tape,hk.output,hk.size,fun k Pb A1o=>hk.other k Pb (fun e=>A1o (by rw[e]))⟩ ?_,G6⟩;rcases Iq.2 with⟨rfl,_⟩|⟨g,cap,cur,fz,rfl,hg,_⟩
  ·exact .inl rfl
  ·refine .inr (fun e=>?_);simp[Value.ownBlock] at e;omega
 exact h.imp (key _) (key _)
def GR:BE:=⟨fun _=>False,fun _=>True,fun _ _ _ _=>trivial⟩
def noR:FuncId->Option (Ad->Option A1):=fun _=>none
theorem Aox:ES GR prog (CX noR):=by intro f g args res h _;have h':(bif GM.any (Nat.beq f) then none else (none:Option (Ad->Option A1)))=some g:=h;cases hb:GM.any (Nat.beq f)<;>rw[hb] at h'<;>cases h'
theorem ngR:NoNG prog:=by
 have h:(prog.funcs.toList.all fun fn=> !(fn.name == "runtime.NumGoroutine"))=true:=by kernel_rfl
 intro f fn hf;have:=List.all_eq_true.1 h fn (Array.mem_toList_iff.2 (Array.mem_of_getElem? hf))
 simpa using this
theorem mxR:prog.follows .mixedOrders=true:=by kernel_rfl
structure FV(w:World)(b o:Nat)(t:ByteArray)(r:Aj):Prop where
 lt:b<w.heap.size
 c0:w.cell? ⟨b,o,none⟩=some (.string t)
 c1:w.cell? ⟨b,o+1,none⟩=some (.int .i64 (B4 t r:Int))
 f0:w.frozen? ⟨b,o,none⟩=false
 f1:w.frozen? ⟨b,o+1,none⟩=false
theorem YC{f:FuncId}{t:ByteArray}{r r':Aj}{args vals:Ad}{us rs:List Value}{d:Nat}(e:Ac (CX noR) prog 2000 d f (.pbox (Da t r)::args)=some ⟨vals,[Da t r']⟩)(ha:Be OT args us)(hr:Be OT vals rs){w:World}{b o:Nat}(h:FV w b o t r):Calls prog f (.pointer (some ⟨b,o,none⟩)::us).toArray w fun e w'=>e=.returned (J1 rs)/\FV w' b o t r'/\Ft w w' b o 2:=by
 have hs:Cx GR prog f (.pbox ([Value.string t,.int .i64 (B4 t r:Int)].map .sc)::args) ⟨vals,[[Value.string t,.int .i64 (B4 t r':Int)].map .sc]⟩:=Dh ngR mxR Aox d f _ _ e;refine (VJ hs ha hr (w:=w) (b:=b) (o:=o) trivial (fun _ h=>h.elim) h.lt ?_ ?_).mono ?_
 ·intro j v hv
  match j,hv with
  |0,hv=>cases hv;exact h.c0
  |1,hv=>cases hv;exact h.c1
 ·intro j hj
  match j,hj with
  |0,_=>exact h.f0
  |1,_=>exact h.f1
 ·rintro e w' ⟨rfl,_,h4,h5,hk⟩
  exact⟨rfl,⟨Gb h.lt hk.size,h4 0 _ rfl,h4 1 _ rfl,h5 0 (Nat.zero_lt_succ _),h5 1 (Nat.succ_lt_succ (Nat.zero_lt_succ _))⟩,hk⟩
theorem Jf{t:ByteArray}{r w0:Aj}(hS:Dy t r)(ht:t.size<=1000000)(hw:Cp w0)(hw2:w0.length<=100){w:World}{b o:Nat}(h:FV w b o t r):
  Calls prog 138 #[.pointer (some ⟨b,o,none⟩),.string (Ab w0)] w fun e w'=>e=.returned (.bool (A6 w0 r).isSome)/\FV w' b o t ((A6 w0 r).getD r)/\Ft w w' b o 2:=by
 have e:=Y7 (fu:=2000) (d:=0) (xs:=noR) hS ht hw hw2;cases hq:A6 w0 r with
 |none=>
  rw[hq] at e;exact YC (us:=[.string (Ab w0)]) (rs:=[.bool false]) e ⟨.inl rfl,trivial⟩ ⟨.inl rfl,trivial⟩ h
 |some r'=>
  rw[hq] at e;exact YC (us:=[.string (Ab w0)]) (rs:=[.bool true]) e ⟨.inl rfl,trivial⟩ ⟨.inl rfl,trivial⟩ h
theorem Akm{t:ByteArray}{r:Aj}(hS:Dy t r)(ht:t.size<=1000000){w:World}{b o:Nat}(h:FV w b o t r):
  Calls prog 158 #[.pointer (some ⟨b,o,none⟩)] w fun e w'=>e=.returned (.tuple #[.int .i32 ((Sf r).1.getD 0),.bool (Sf r).1.isSome])/\FV w' b o t (Sf r).2/\Ft w w' b o 2:=by
 have e:=A6x (fu:=2000) (d:=0) (xs:=noR) (by omega) hS ht;exact YC (us:=[]) (rs:=[.int .i32 ((Sf r).1.getD 0),.bool (Sf r).1.isSome]) e trivial ⟨.inl rfl,.inl rfl,trivial⟩ h
end
section
open Go Go.RowKit Go.Lib
def Bcm(o:Option Aj):Value:=.tuple #[.string (Ab (o.getD [])),.bool o.isSome]
theorem FV.below{B:Nat}{w w':World}{b o:Nat}{t:ByteArray}{r:Aj}(h:FV w b o t r)(hb:Below B w w')(hB:b<B):FV w' b o t r:=
 ⟨Gb h.lt hb.size,(hb.cell (p:=⟨b,o,none⟩) hB).trans h.c0,(hb.cell (p:=⟨b,o+1,none⟩) hB).trans h.c1,(hb.frozen (p:=⟨b,o,none⟩) hB).trans h.f0,(hb.frozen (p:=⟨b,o+1,none⟩) hB).trans h.f1⟩
theorem Arg{l:Aj}(h:Cp l):(Sf l).2.length<=l.length:=by
 have h1:Dy (Ab l) l:=⟨[],by rw[C8 h];rfl⟩
 have:=(Y6 h1).len
 rwa [Ag] at this
theorem WH{l r:Aj}{x:Int}(h:Tx l=(some x,r)):0<=x/\x<=1114111:=by
 have hb:=I6 4 0 l;unfold Tx at h;rcases hq:AN 4 0 l with⟨o,r1⟩;rw[hq] at h;cases o with
 |none=>cases h
 |some y=>
  have by_:=hb y r1 hq (by omega);simp only at h;split at h
  ·cases h
  split at h
  ·cases h;omega
  split at h
  ·have Ir:=I6 4 0 (r1.drop 2);unfold Ag6 at h;rcases Oc:AN 4 0 (r1.drop 2) with⟨o2,r2⟩;rw[Oc] at h;cases o2 with
   |none=>cases h
   |some z=>
    have bz:=Ir z r2 Oc (by omega);simp only at h;split at h
    ·rename_i hz
     have lz:56320<=z/\z<=57343:=by
      unfold ZO at hz
      simpa using hz
     cases h;omega
    ·cases h
  ·cases h
theorem Abu{l r:Aj}{x:Int}(h:Sf l=(some x,r)):0<=x/\x<=1114111:=by
 cases l with
 |nil=>cases h
 |cons c l=>
  have he:Sf (c::l)=if c=117 then Tx l else match BS c with|some x=>(some x,l)|none=>(none,c::l):=rfl
  rw[he] at h;split at h
  ·exact WH h
  ·rcases VR c with⟨rfl,g⟩|⟨rfl,g⟩|⟨rfl,g⟩|⟨rfl,g⟩|⟨rfl,g⟩|⟨rfl,g⟩|⟨rfl,g⟩|⟨rfl,g⟩|⟨g1,g⟩<;>rw[g] at h<;>cases h<;>omega
set_option maxHeartbeats 4000000 in
theorem Ab2{t:ByteArray}{r:Aj}(hS:Dy t r)(ht:t.size<=1000000){w:World}{b o:Nat}(h:FV w b o t r):
    Calls prog 139 #[.pointer (some ⟨b,o,none⟩)] w fun e w'=>e=.returned (Bcm (F1 r).1)/\FV w' b o t (F1 r).2/\Ft w w' b o 2:=by
  have mixed:prog.follows Departure.mixedOrders=true:=by kernel_rfl
  have hac:=Jf hS ht (w0:=[34]) (fun x hx=>by simp at hx;omega) (by decide) h
  go_enter Tryz.func139,Tryz.ntmps139
  go_wp2_with (go_at_call 138;refine hac.mono ?_)
  rintro e W1 ⟨rfl,h1,k1⟩
  cases hq:A6 [34] r with
  |none=>
    rw[hq] at h1
    go_wp2
    go_ret2
    have e:F1 r=(none,r):=by
      cases r with
      |nil=>rfl
      |cons c l=>
        have hc:c≠34:=by
          rintro rfl
          unfold A6 at hq
          rw[Cy (by simp[List.isPrefixOf])] at hq
          cases hq
        show (if c=34 then _ else (none,c::l))=_
        rw[Bl hc]
    rw[e]
    exact⟨rfl,h1,k1⟩
  |some r1=>
    rw[hq] at h1
    have RE:r=34::r1:=by
      unfold A6 at hq
      split at hq
      · rename_i hp
        obtain⟨s,hs⟩:=List.isPrefixOf_iff_prefix.1 hp
        rw[<-hs] at hq ⊢
        cases hq
        rfl
      · cases hq
    subst RE
    have e:F1 (34::r1)=Lj (r1.length+1) [] r1:=by
      show (if (34:Int)=34 then Lj (r1.length+1) [] r1 else (none,34::r1))=_
      exact Cy rfl
    have hS1:Dy t r1:=hS.tail
    have h2:FV (W1.alloc (.cells #[.pointer none,.slice none 0 0] 250)) b o t r1:=by
      have hb:Below W1.heap.size W1 (W1.alloc (.cells #[.pointer none,.slice none 0 0] 250)):=(Below.refl _ W1).alloc (Cn _) _
      exact⟨Gb h1.lt hb.size,(hb.cell (p:=⟨b,o,none⟩) h1.lt).trans h1.c0,(hb.cell (p:=⟨b,o+1,none⟩) h1.lt).trans h1.c1,(hb.frozen (p:=⟨b,o,none⟩) h1.lt).trans h1.f0,(hb.frozen (p:=⟨b,o+1,none⟩) h1.lt).trans h1.f1⟩
    have k2:Ft w (W1.alloc (.cells #[.pointer none,.slice none 0 0] 250)) b o 2:=k1.below ((Below.refl _ W1).alloc (Cn _) _ |>.mono k1.size) h.lt
    have hB1:b<W1.heap.size:=h1.lt
    have hw1:w.heap.size<=W1.heap.size:=k1.size
    go_wp2
    go_loopw [] (fun wr=>∃(n:Nat) (out l:Aj),Lj (r1.length+1) [] r1=Lj n out l/\l.length<n/\Cp out/\out.length+4*l.length<=4*t.size/\Dy t l/\FV wr b o t l/\Ft w wr b o 2/\W1.heap.size<=wr.heap.size/\Lib.IsBuilderF 250 5 W1.heap.size W1.heap.size (u8C out) wr) (fun wr=>match wr.cell? ⟨b,o+1,none⟩ with|some (.int _ p)=>t.size-p.toNat|_=>0)
    case atStart=>
      exact⟨r1.length+1,[],r1,rfl,Nat.lt_succ_self _,(fun x hx=>by cases hx),(by have:=hS1.len;simp;omega),hS1,h2,k2,((Below.refl W1.heap.size W1).alloc (Cn _) _).size,Lib.IsBuilderF.of (Lib.fresh_isBuilder 250 5 W1)⟩
    case round=>
      obtain⟨n,out,l,G0,hn,hoB,hol,hSl,hat,hk,hws,hI⟩:=hrel
      obtain⟨Cm,hc0,RL,hf0,hf1⟩:=hat
      cases l with
      |nil=>
        rw[ET] at RL
        go_wp2
        go_region_o
        go_wp2
        go_ret2
        rw[e,G0]
        obtain⟨m,rfl⟩:∃m,n=m+1:=⟨n-1,by omega⟩
        exact⟨rfl,⟨Cm,hc0,RL,hf0,hf1⟩,hk.drew⟩
      |cons c l=>
        obtain⟨m,rfl⟩:∃m,n=m+1:=⟨n-1,by omega⟩
        obtain⟨bb,hbb,rfl⟩:=hSl.at
        have hll:=hSl.len
        have U5:B4 t ((bb.toNat:Int)::l)<t.size:=by
          unfold B4
          rw[On] at hll ⊢
          omega
        have Ajc:=Qq hSl
        have Aa9:t[B4 t ((bb.toNat:Int)::l)]'(U5)=bb:=by
          rw[Array.getElem?_toList,Array.getElem?_eq_getElem U5] at hbb
          exact Option.some.inj hbb
        have hcb:=bb.toNat_lt
        generalize hp:B4 t ((bb.toNat:Int)::l)=p at *
        have Bht:(p:Int)<t.size:=by omega
        have kw:Ft wr (wr.setCell ⟨b,o+1,none⟩ (.int .i64 ((p:Int)+1))).drew.drew b o 2:=((Ft.setCell wr b o 2 (o+1) _ (by omega) (by omega) Cm).drew).drew
        have Fu:=hk.trans kw
        have hI2:=GC hI kw hB1
        have ZH:FV (wr.setCell ⟨b,o+1,none⟩ (.int .i64 ((p:Int)+1))).drew.drew b o t l:=by
          refine⟨Gb Cm kw.size,?_,?_,?_,?_⟩
          · exact (World.cell?_setCell_other _ _ _ _ (by intro e;injection e;omega)).trans hc0
          · have:(B4 t l:Int)=(p:Int)+1:=by omega
            rw[this]
            exact World.cell?_setCell_same _ _ _ RL
          · exact (World.frozen?_setCell _ _ _ _).trans hf0
          · exact (World.frozen?_setCell _ _ _ _).trans hf1
        have As2:W1.heap.size<=(wr.setCell ⟨b,o+1,none⟩ (.int .i64 ((p:Int)+1))).drew.drew.heap.size:=Nat.le_trans hws kw.size
        have hsm:Lj (m+1) out ((bb.toNat:Int)::l)=if (bb.toNat:Int)<32 then (none,(bb.toNat:Int)::l) else if (bb.toNat:Int)=34 then (some out,l) else if (bb.toNat:Int)=92 then
            (match Sf l with
             |(some x,r')=>Lj m (out++Lib.encodeRuneZ x) r'
             |(none,r')=>(none,r')) else Lj m (out++[(bb.toNat:Int)]) l:=rfl
        rw[hsm] at G0
        have Be4:(u8C out).length+4<=140737488355328:=by
          rw[List.length_map]
          omega
        by_cases A5m:(bb.toNat:Int)<32
        · rw[Cy A5m] at G0
          go_wp2
          go_region_o
          go_wp2
          go_region_o
          go_wp2
          go_ret2
          rw[e,G0]
          exact⟨rfl,⟨Cm,hc0,by rw[hp];exact RL,hf0,hf1⟩,hk.drew.drew⟩
        · rw[Bl A5m] at G0
          by_cases A4q:(bb.toNat:Int)=34
          · rw[Cy A4q] at G0
            go_wp2
            go_region_o
            go_wp2
            go_region_o
            go_wp2_with (go_at_call 157;refine (Any.Builder_String_any_k Afs XL W1.heap.size W1.heap.size (out.map fun n=>n.toNat.toUInt8) _ (by rw[<-UH hoB];exact hI2) As2).mono ?_)
            rintro e2 W3 ⟨rfl,_,b3,_⟩
            go_wp2
            go_ret2
            rw[e,G0]
            exact⟨rfl,ZH.below b3 hB1,Fu.below (b3.mono hw1) h.lt⟩
          · rw[Bl A4q] at G0
            by_cases A4x:(bb.toNat:Int)=92
            · rw[Cy A4x] at G0
              have Eo:=Akm hSl.tail ht ZH
              go_wp2
              go_region_o
              go_wp2
              go_region_o
              go_wp2_with (go_at_call 158;refine Eo.mono ?_)
              rintro e2 W3 ⟨rfl,Al4,k3⟩
              have Pa:=Fu.trans k3
              have hI3:=GC hI2 k3 hB1
              have A4k:=Nat.le_trans As2 k3.size
              have hel:=Arg (l:=l) hSl.tail.B
              have AB:=Y6 hSl.tail
              rcases hqe:Sf l with⟨oe,le⟩
              rw[hqe] at Al4 G0 hel AB
              cases oe with
              |none=>
                go_wp2
                go_ret2
                rw[e,G0]
                exact⟨rfl,Al4,Pa⟩
              |some x=>
                have O8:=Abu hqe
                go_wp2_with (go_at_call 159;refine (Any.Builder_WriteRune_k Afw XL W1.heap.size W1.heap.size _ x (by omega) (by omega) _ hI3 (by omega) A4k).mono ?_)
                rintro e3 W4 ⟨rfl,i4,b4,_⟩
                go_wp2
                have A6z:=Al4.below b4 hB1
                have hrl:=Lib.encodeRuneZ_length x
                refine⟨⟨m,out++Lib.encodeRuneZ x,le,G0,by simp at hn hel;omega,Q4 hoB (fun y hy=>by have:=Lib.encodeRuneZ_byte x y hy;omega),by simp at hol hel ⊢;omega,AB,A6z,Pa.below (b4.mono hw1) h.lt,Nat.le_trans A4k b4.size,by rw[Ai3];exact Or.inr i4⟩,?_⟩
                have FS:=AB.len
                have hp3:B4 t l<=B4 t le:=by unfold B4;omega
                have hp4:B4 t le<=t.size:=Nat.sub_le _ _
                simp only[A6z.c1,RL,Jg]
                omega
            · rw[Bl A4x] at G0
              go_wp2
              go_region_o
              go_wp2
              go_region_o
              go_wp2_with (go_at_call 160;refine (Any.Builder_WriteByte_k Ag3 XL W1.heap.size W1.heap.size _ _ _ hI2 (by omega) As2).mono ?_)
              rintro e2 W3 ⟨rfl,i3,b3,_⟩
              go_wp2
              have Al4:=ZH.below b3 hB1
              refine⟨⟨m,out++[(bb.toNat:Int)],l,G0,by simp at hn;omega,Q4 hoB (fun x hx=>by simp at hx;omega),by simp at hol ⊢;omega,hSl.tail,Al4,Fu.below (b3.mono hw1) h.lt,Nat.le_trans As2 b3.size,by rw[Ai3];exact Or.inr i3⟩,?_⟩
              simp only[Al4.c1,RL,Jg]
              omega
end
section
open Go Go.RowKit
theorem MV{t:ByteArray}:∀(n:Nat)(out l:Aj),Dy t l->Dy t (Lj n out l).2
  |0,_,_,h=>h
  |_+1,_,[],h=>h
  |n+1,out,c::l,h=>by
    have e:Lj (n+1) out (c::l)=if c<32 then (none,c::l) else if c=34 then (some out,l) else if c=92 then
        (match Sf l with
         |(some x,r')=>Lj n (out++Lib.encodeRuneZ x) r'
         |(none,r')=>(none,r')) else Lj n (out++[c]) l:=rfl
    rw[e]
    split
    · exact h
    split
    · exact h.tail
    split
    · have h2:=Y6 h.tail
      rcases hq:Sf l with⟨o,r⟩
      rw[hq] at h2
      cases o with
      |none=>exact h2
      |some x=>exact MV n _ r h2
    · exact MV n _ l h.tail
theorem Jc{t:ByteArray}{l:Aj}(h:Dy t l):Dy t (F1 l).2:=by
 cases l with
 |nil=>exact h
 |cons c l=>
  have e:F1 (c::l)=if c=34 then Lj (l.length+1) [] l else (none,c::l):=rfl
  rw[e];split
  ·exact MV _ _ _ h.tail
  ·exact h
theorem Ang{w w':World}{Y:Nat->Prop}{bt:GQ}{vs vs':List Value}{us:List Value}{b o:Nat}{a c:Value}(hi:Ins w Y bt [.pbox (vs.map .sc)] us)(hb:bt 0 0=some (b,o))(hk:Ft w w' b o vs.length)(hl:vs'.length=vs.length)(hc:∀j v,vs'[j]?=some v->w'.cell? ⟨b,o+j,none⟩=some v)(hf:∀j,j<vs.length->w'.frozen? ⟨b,o+j,none⟩=false):
  Out w w' Y bt [.pbox (vs.map .sc)] (fun _=>none) ⟨[.sc a,.sc c],[vs'.map .sc]⟩ [a,c] where
 os:=hk.os
 tape:=hk.tape
 output:=hk.output
 ext:=⟨hk.size,fun k h G6=>hk.other k h (fun e=>G6 (by rw[e];exact⟨0,0,o,hb⟩)),fun k h=>by
  by_cases e:k=b
  ·rw[e];exact hk.grow
  ·exact Ij.same (hk.other k h e)⟩
 rng:=fun k j h hn=>by
  by_cases e:k=b
  ·subst e
   have hj:j<o\/o+vs.length<=j:=by
    rcases Id j o with h1|h1
    ·exact .inl h1
    ·rcases Id j (o+vs.length) with h2|h2
     ·exact absurd ⟨0,_,rfl,.inr ⟨o,vs.map .sc,hb,h1,.inl ⟨rfl,by rw[List.length_map];exact h2⟩⟩⟩ hn
     ·exact .inr h2
   exact⟨hk.cells j hj,hk.frz j hj⟩
  ·have:=hk.other k h e;exact⟨by unfold World.cell?;simp only[this],by unfold World.frozen?;simp only[this]⟩
 vals:=⟨At.sc a,At.sc c,trivial⟩
 outs:=⟨⟨b,o,hb,by rw[List.length_map,List.length_map,hl],vs',Z2,hc,fun k h=>hf k (by rw[List.length_map,hl] at h;exact h)⟩,rfl⟩
 fresh:=fun j b o h=>by cases h
 inj:=fun j j' b o o' h=>by cases h
theorem All(G:BE)(args:Ad)(res:A1)(h:Ana args=some res):Cx G prog 139 args res:=by
 refine⟨⟨_,Tryz.func139,by kernel_rfl⟩,fun w Y bt us hi _ _=>?_⟩;unfold Ana at h;split at h
 rotate_left
 ·cases h
 rename_i t p;cases hq:(decide (0<=p)&&decide (p<=t.size)&&Nat.ble t.size 1000000)
 ·rw[hq] at h;cases h
 rw[hq,cond_true] at h;simp only[Er,Xi] at hq;obtain⟨⟨hp0,E1⟩,hm⟩:=hq;have hm:=Oj hm;obtain⟨p,rfl⟩:=Int.eq_ofNat_of_zero_le hp0;rw[Jg] at h;have hS:Dy t ((Ci t).drop p):=(Dy.all t).drop p
 have Aas:(B4 t ((Ci t).drop p):Int)=(p:Int):=by
  unfold B4;rw[List.length_drop,Dc];omega
 have ps:=hi.args
 match us,ps with
 |[u1],ps=>
  obtain⟨b,o,hb,rfl,_,vs,KL,hcell,hfr⟩:=ps.1;have Wx:=Zy (vs:=[.string t,.int .i64 (p:Int)]) KL;subst Wx;have hat:FV w b o t ((Ci t).drop p):=⟨hi.lt b ⟨0,0,o,hb⟩,hcell 0 _ rfl,by rw[Aas];exact hcell 1 _ rfl,hfr 0 (Nat.zero_lt_succ _),hfr 1 (Nat.succ_lt_succ (Nat.zero_lt_succ _))⟩
  refine (Ab2 hS hm hat).mono ?_
  rintro e w' ⟨rfl,ZH,hk⟩
  rcases hx:F1 ((Ci t).drop p) with⟨o2,r2⟩;rw[hx] at h ZH
  have VW:r2.length<=t.size:=by
   have:=Jc hS;rw[hx] at this;exact this.len
  have A54:(B4 t r2:Int)=(t.size:Int)-r2.length:=by
   unfold B4;omega
  have KW:∀a c:Value,Out w w' Y bt [.pbox ([Value.string t,.int .i64 (p:Int)].map .sc)] (fun _=>none) ⟨[.sc a,.sc c],[[Value.string t,.int .i64 ((t.size:Int)-r2.length)].map .sc]⟩ [a,c]:=by
   intro a c;refine Ang hi hb hk rfl ?_ ?_
   ·intro j v hv
    match j,hv with
    |0,hv=>cases hv;exact ZH.c0
    |1,hv=>cases hv;rw[<-A54];exact ZH.c1
   ·intro j hj
    match j,hj with
    |0,_=>exact ZH.f0
    |1,_=>exact ZH.f1
  cases o2 with
  |none=>
   cases h;exact⟨[.string ⟨#[]⟩,.bool false],fun _=>none,rfl,KW _ _⟩
  |some s=>
   cases h;exact⟨[.string (Ab s),.bool true],fun _=>none,rfl,KW _ _⟩
 |[],ps=>exact ps.elim
 |_::_::_,ps=>exact ps.2.elim
end
section
open Go Go.RowKit Go.Shelf
attribute [local go_sem] Oper.semAt_some
abbrev Bw:=(Int × Int) × Nat
abbrev bwE(x:Bw):Array Value:= #[.int .i64 (x.2:Int),.agg #[.int .i64 x.1.1,.int .i64 x.1.2]]
def bwF(zs:List (Int × Int))(m:Nat):List Bw:=(zs.zipIdx.drop m).reverse
theorem Adb{zs:List (Int × Int)}{m:Nat}{p:Int × Int}(h:zs[m]?=some p):bwF zs m=bwF zs (m+1)++[(p,m)]:=by obtain⟨hm,rfl⟩:=List.getElem?_eq_some_iff.1 h;unfold bwF;rw[List.drop_eq_getElem_cons (by simpa using hm)];simp
theorem Av7(zs:List (Int × Int)):bwF zs zs.length=[]:=by simp[bwF]
theorem Av3(zs:List (Int × Int))(m:Nat):(bwF zs m).length=zs.length-m:=by simp[bwF]
theorem Ai4(zs:List (Int × Int))(m:Nat):(bwF zs m).map (·.1)=(zs.drop m).reverse:=by simp[bwF,List.map_reverse,List.map_drop]
def YK(n₀:Nat)(W:World)(sv:Value)(zs:List (Int × Int)):Prop:=
 (∃ad q,sv=.slice ad 0 q/\zs=[])\/∃b off cap,sv=.slice (some ⟨b,off,none⟩) zs.length cap/\b<n₀/\∀j p,zs[j]?=some p->W.cell? ⟨b,off+j*2,none⟩=some (.int .i64 p.1)/\W.cell? ⟨b,off+j*2+1,none⟩=some (.int .i64 p.2)
theorem YK.below{n₀:Nat}{A B:World}(h:Below n₀ A B){sv:Value}{zs:List (Int × Int)}:YK n₀ A sv zs->YK n₀ B sv zs
 |.inl e=>.inl e
 |.inr ⟨b,off,cap,e,hb,hc⟩=>.inr ⟨b,off,cap,e,hb,fun j p hp=>⟨(h.cell (p:=⟨b,off+j*2,none⟩) hb).trans (hc j p hp).1,(h.cell (p:=⟨b,off+j*2+1,none⟩) hb).trans (hc j p hp).2⟩⟩
theorem YK.up{n:Nat}{W:World}{sv:Value}{zs:List (Int × Int)}:YK n W sv zs->YK (n+2) W sv zs
 |.inl e=>.inl e
 |.inr ⟨b,off,cap,e,hb,hc⟩=>.inr ⟨b,off,cap,e,Nat.lt_add_right 2 hb,hc⟩
set_option maxHeartbeats 4000000 in
theorem A0q(m l Bs n₀ b off cap:Nat)(zs:List (Int × Int))(hl:zs.length<=1000)(hb:b<n₀)(J Jx:List Bw->World->Prop)(hY:∀pre x W,J pre W->pre.length<zs.length->YieldAt Fence.wide (m-1) prog l (bwE x) W fun e W'=>
   (e=.returned (.bool true)/\J (pre++[x]) W'/\Below n₀ W W')\/(e=.returned (.bool false)/\Jx (pre++[x]) W'))(W:World)(hBs:W.cell? ⟨Bs,0,none⟩=some (.slice (some ⟨b,off,none⟩) zs.length cap))(hc:∀j p,zs[j]?=some p->W.cell? ⟨b,off+j*2,none⟩=some (.int .i64 p.1)/\W.cell? ⟨b,off+j*2+1,none⟩=some (.int .i64 p.2))(hB0:Bs<n₀)(h0:J [] W):
  CallsIn Fence.wide m prog 107 #[.func (.yield l) #[] #[],.pointer (some ⟨Bs,0,none⟩)] W fun e W'=>(∃v,e=.returned v) /\
   ((∃ys,ys=bwF zs 0/\J ys W')\/(∃pre,(∃k,pre=bwF zs k)/\Jx pre W')):=by
 refine callsIn_of_wp Tryz.func107 rfl trivial ?_ rfl;simp only[Tryz.ntmps107,List.size_toArray,On,LP,Nat.reduceAdd,Nat.reduceSub,Array.replicate_succ,Array.replicate_zero,List.push_toArray,List.append_toArray,NK,Zzp]
 gi_wp2
 gi_loopw [3] (fun i wr=>∃k:Nat,k<=zs.length/\i=.int .i64 ((k:Int)-1)/\J (bwF zs k) wr/\Below n₀ W wr) (fun i _=>(intOf i+1).toNat)
 case atStart=>exact⟨zs.length,Cn _,rfl,by rw[Av7];exact h0,Below.refl _ _⟩
 case round=>
  obtain⟨k,hk,rfl,hJs,hnx⟩:=hrel;cases k with
  |zero=>
   gi_wp2
   go_end0
   exact⟨⟨_,rfl⟩,.inl ⟨_,rfl,hJs⟩⟩
  |succ k=>
   obtain⟨p,hp⟩:∃p,zs[k]?=some p:=⟨_,List.getElem?_eq_getElem (by omega)⟩
   obtain⟨c1,c2⟩:=hc k p hp;have c1':=(hnx.cell (p:=⟨b,off+k*2,none⟩) hb).trans c1;have c2':=(hnx.cell (p:=⟨b,off+k*2+1,none⟩) hb).trans c2;have hBx:=(hnx.cell (p:=⟨Bs,0,none⟩) hB0).trans hBs;obtain⟨fn,tmps,assign,body,hy,hR⟩:=hY _ (p,k) wr hJs (by rw[Av3];omega)
   rw[show (((k+1:Nat):Int)-1)=(k:Int) by omega]
   gi_wp2
   refine⟨fun h=>(by cases h),hR.mono ?_⟩
   rintro e W3 (⟨rfl,hJ3,Pa⟩|⟨rfl,A98⟩)
   ·gi_wp2
    go_roundw
    case rel=>exact⟨k,by omega,rfl,by rw[Adb hp];exact hJ3,hnx.trans Pa⟩
    case measure=>simp[intOf]
   ·gi_wp2
    refine bodyPost_ret (results_none rfl _ _ _) rfl ?_;exact⟨⟨_,rfl⟩,.inr ⟨_,⟨k,(Adb hp).symm⟩,A98⟩⟩
set_option maxHeartbeats 2000000 in
theorem Azy{m l B q:Nat}{ad:Option Addr}{J:World->Prop}{W:World}(hB:W.cell? ⟨B,0,none⟩=some (.slice ad 0 q))(h0:J W):CallsIn Fence.wide m prog 107 #[.func (.yield l) #[] #[],.pointer (some ⟨B,0,none⟩)] W fun e W'=>(∃v,e=.returned v)/\J W':=by
 refine callsIn_of_wp Tryz.func107 rfl trivial ?_ rfl;simp only[Tryz.ntmps107,List.size_toArray,On,LP,Nat.reduceAdd,Nat.reduceSub,Array.replicate_succ,Array.replicate_zero,List.push_toArray,List.append_toArray,NK,Zzp]
 gi_wp2
 gi_loopw [3] (fun i wr=>i=.int .i64 (-1)/\J wr) (fun _ _=>0)
 case atStart=>exact⟨rfl,h0⟩
 case round=>
  obtain⟨rfl,hj⟩:=hrel
  gi_wp2
  go_end0
  exact⟨⟨_,rfl⟩,hj⟩
theorem Aq4(m Bs n₀:Nat)(sv:Value)(zs:List (Int × Int))(hl:zs.length<=1000)(w:World)(hBs:Bs<n₀)(hn₀:n₀<=w.heap.size)(hc:w.cell? ⟨Bs,0,none⟩=some sv)(hI:YK n₀ w sv zs):
  SeqStopsK Fence.wide m prog 107 #[.pointer (some ⟨Bs,0,none⟩)] bwE (Below n₀) (fun ys=>ys=bwF zs 0) (fun pre=>∃k,pre=bwF zs k) zs.length w:=fun l J Jx W hW _ _ hY h0=>by
 have Q1:=(hW.cell (p:=⟨Bs,0,none⟩) (by show Bs<_;omega)).trans hc
 rcases hI.below (hW.mono hn₀) with⟨ad,q,rfl,rfl⟩|⟨b,off,cap,rfl,hb,KL⟩
 ·exact (Azy (J:=J []) Q1 h0).mono fun e W' ⟨he,hj⟩=>⟨he,.inl ⟨_,rfl,hj⟩⟩
 ·exact A0q m l Bs n₀ b off cap zs hl hb J Jx hY W Q1 KL hBs h0
set_option maxHeartbeats 2000000 in
theorem Avw(ad:Option Addr)(m:Nat)(w:World)(k q:Nat):CallsIn Fence.wide m prog 72 #[.slice ad k q] w fun e w'=>
  e=.returned (.func (.func 107) #[] #[.pointer (some ⟨w.heap.size,0,none⟩)])/\w'=w.alloc (.cells #[.slice ad k q] 71):=by
 refine callsIn_of_wp Tryz.func72 rfl trivial ?_ rfl;simp only[Tryz.ntmps72,List.size_toArray,On,LP,Nat.reduceAdd,Nat.reduceSub,Array.replicate_succ,Array.replicate_zero,List.push_toArray,List.append_toArray,NK,Zzp]
 gi_wp2
 go_ret
 exact⟨rfl,rfl⟩
theorem Aaj{now:Int}{zs:List (Int × Int)}(h:∀x∈bwF zs 0,now<x.1.2):Xp now zs=0:=by
 unfold Xp
 have:zs.reverse.find? (fun p=>decide (p.2<=now))=none:=by
  rw[List.find?_eq_none];intro p hp;have e:=Ai4 zs 0;rw[Ou] at e;rw[<-e] at hp;obtain⟨x,hx,rfl⟩:=List.mem_map.1 hp;have:=h x hx;simp only[Xi];omega
 rw[this]
theorem Acz{now:Int}{zs:List (Int × Int)}{k:Nat}{ini:List Bw}{x:Bw}(e:bwF zs k=ini++[x])(h:∀y∈ini,now<y.1.2)(hx:x.1.2<=now):Xp now zs=x.1.1:=by
 unfold Xp;have e1:=congrArg (List.map (·.1)) e;rw[Ai4] at e1
 have e2:zs.reverse=(ini.map (·.1)++[x.1])++(zs.take k).reverse:=by
  rw[<-List.take_append_drop k zs,List.reverse_append,e1];simp
 have e3:(ini.map (·.1)).find? (fun p=>decide (p.2<=now))=none:=by
  rw[List.find?_eq_none];intro p hp;obtain⟨y,hy,rfl⟩:=List.mem_map.1 hp;have:=h y hy;simp only[Xi];omega
 rw[e2,List.find?_append,List.find?_append,e3];simp[hx]
set_option maxHeartbeats 8000000 in
theorem A1y{v i x lf model now:Int}{b1 b2 b3:Option Addr}{n1 n2 n3 k1 k2 k3:Nat}{zs:List (Int × Int)}(hl:zs.length<=1000){w:World}(hlk:∀W,Below w.heap.size w W->Calls prog 35 #[.agg #[.int .i64 v,.int .i64 i,.int .i64 x,.slice b1 n1 k1,.int .i64 lf,.slice b2 n2 k2,.slice b3 n3 k3],.int .u64 model] W fun e W'=>
   ∃k a m q a' m' q' b,e=.returned (.tuple #[.agg #[.int .u64 k,.slice a m q,.slice a' m' q'],.bool b])/\Below W.heap.size W W'/\YK W'.heap.size W' (.slice a' m' q') zs):
  Calls prog 38 #[.agg #[.int .i64 v,.int .i64 i,.int .i64 x,.slice b1 n1 k1,.int .i64 lf,.slice b2 n2 k2,.slice b3 n3 k3],.int .u64 model,.int .i64 now] w fun e w'=>e=.returned (.int .i64 (Xp now zs))/\Below w.heap.size w w':=by
 refine callsIn_wide.1 (callsIn_of_wp_marks (F:=Fence.wide) (n:=3) Tryz.func38 rfl trivial ?_ rfl);simp only[Tryz.ntmps38,List.size_toArray,On,LP,Nat.reduceAdd,Nat.reduceSub,Array.replicate_succ,Array.replicate_zero,List.push_toArray,List.append_toArray,NK,Zzp]
 gi_wp2_with ((try refine⟨trivial,?_⟩);first|(refine (callsIn_wide.2 (hlk _ (by go_grown))).mono ?_;rintro e w' ⟨k,a,m,q,a',m',q',b,rfl,hb,hs⟩)|(refine (Avw _ _ _ _ _).mono ?_;rintro e w'' ⟨rfl,rfl⟩))
 have c5:w'.cell? ⟨w.heap.size+1,0,none⟩=some (.int .i64 now):=(hb.cell (by simp)).trans (by go_simp);have c6:w'.cell? ⟨w.heap.size+1+1,0,none⟩=some (.int .i64 0):=(hb.cell (by simp)).trans (by go_simp);have f6:w'.frozen? ⟨w.heap.size+1+1,0,none⟩=false:=(hb.frozen (by simp)).trans (by go_simp);have hz:w.heap.size+3<=w'.heap.size:=by have:=hb.size;simp at this;omega
 have Fv:Below w.heap.size w w':=(show Below w.heap.size w _ by go_grown).trans (hb.mono (by simp;omega))
 have Ir:Below w'.heap.size w' ((w'.alloc (Obj.cells #[Value.int IntKind.u64 k,Value.slice a m q,Value.slice a' m' q'] 73)).alloc (Obj.cells #[Value.slice a' m' q'] 71)):=by go_grown
 have AO:((w'.alloc (Obj.cells #[Value.int IntKind.u64 k,Value.slice a m q,Value.slice a' m' q'] 73)).alloc (Obj.cells #[Value.slice a' m' q'] 71)).cell? ⟨w'.heap.size+1,0,none⟩=some (.slice a' m' q'):=by go_simp
 have JM:((w'.alloc (Obj.cells #[Value.int IntKind.u64 k,Value.slice a m q,Value.slice a' m' q'] 73)).alloc (Obj.cells #[Value.slice a' m' q'] 71)).heap.size=w'.heap.size+2:=by simp
 generalize (w'.alloc (Obj.cells #[Value.int IntKind.u64 k,Value.slice a m q,Value.slice a' m' q'] 73)).alloc (Obj.cells #[Value.slice a' m' q'] 71)=W0 at Ir AO JM ⊢;generalize Value.tuple #[Value.agg #[Value.int IntKind.u64 k,Value.slice a m q,Value.slice a' m' q'],Value.bool b]=tv;generalize Value.agg #[Value.int IntKind.u64 k,Value.slice a m q,Value.slice a' m' q']=xv;generalize Value.agg #[Value.int IntKind.i64 v,Value.int IntKind.i64 i,Value.int IntKind.i64 x,Value.slice b1 n1 k1,Value.int IntKind.i64 lf,Value.slice b2 n2 k2,Value.slice b3 n3 k3]=mv
 refine wpIn_rangeFunc_ownH rfl (by omega) (gf:=107) (lb:= #[.pointer (some ⟨w'.heap.size+1,0,none⟩)]) rfl trivial (enters_of Tryz.func107 (by kernel_rfl) rfl)
  (Aq4 2 (w'.heap.size+1) (w'.heap.size+2) (.slice a' m' q') zs hl W0 (by omega) (by omega) AO (hs.below Ir).up) belowK_t (belowK_b (by omega)) (Below.refl _ _) (fun _=>rfl)
  (fun pre W=>((∀x∈pre,now<x.1.2)/\w'.heap.size+2<=W.heap.size/\W.cell? ⟨w.heap.size+1,0,none⟩=some (.int .i64 now)/\W.cell? ⟨w.heap.size+1+1,0,none⟩=some (.int .i64 0)/\W.frozen? ⟨w.heap.size+1+1,0,none⟩=false)/\Below w.heap.size w W)
  (fun c pre W=>(c=.ret/\∃ini x,pre=ini++[x]/\(∀y∈ini,now<y.1.2)/\x.1.2<=now/\W.cell? ⟨w.heap.size+1+1,0,none⟩=some (.int .i64 x.1.1))/\Below w.heap.size w W)
  (OwnFrom.and (Own.from (fun s A B row hs hg hr=>⟨hs.1,Nat.le_trans hs.2.1 hg.size,cell_kept hs.2.2.1 hg hr,cell_kept hs.2.2.2.1 hg hr,(frozen_kept hs.2.2.2.1 hg hr).trans hs.2.2.2.2⟩) _) (ownFrom_below (Cn _) (by omega)))
  (fun c=>OwnFrom.and (Own.from (fun s A B row hs hg hr=>by obtain⟨hc,ini,x,e1,e2,e3,e4⟩:=hs;exact⟨hc,ini,x,e1,e2,e3,cell_kept e4 hg hr⟩) _) (ownFrom_below (Cn _) (by omega)))
  ⟨⟨by simp,by omega,(Ir.cell (by show w.heap.size+1<_;omega)).trans c5,(Ir.cell (by show w.heap.size+1+1<_;omega)).trans c6,(Ir.frozen (by show w.heap.size+1+1<_;omega)).trans f6⟩,Fv.trans (Ir.mono (by omega))⟩
  (fun x c W=>∃B,c={ tmps:= #[mv,.int .u64 model,.int .i64 now,.pointer (some ⟨w.heap.size,0,none⟩),undef,.pointer (some ⟨w.heap.size+1,0,none⟩),.pointer (some ⟨w.heap.size+1+1,0,none⟩),.pointer (some ⟨w'.heap.size,0,none⟩),.bool b,undef,.pointer (some ⟨B,0,none⟩),tv,mv,.int .u64 model,tv,xv,.bool b,.pointer (some ⟨w'.heap.size,2,none⟩),.slice a' m' q',.func (.func 107) #[] #[.pointer (some ⟨w'.heap.size+1,0,none⟩)],.int .i64 (x.2:Int),.agg #[.int .i64 x.1.1,.int .i64 x.1.2],undef,undef,undef,undef,undef,undef],defers:=[] }/\W.cell? ⟨B,0,none⟩=some (.int .i64 x.1.1)/\W.cell? ⟨B,1,none⟩=some (.int .i64 x.1.2))
  (fun x c=>Own.from (fun s A B row hs hg hr=>by obtain⟨b,e,h1,h2⟩:=hs;exact⟨b,e,cell_kept h1 hg hr,cell_kept h2 hg hr⟩) _) ?assign ?body ?done ?stop
 case assign=>
  intro l pre x W K hI hK
  gi_wp2
  exact hK _ _ ((KeepsOthers.alloc W _).from _) ((Below.refl _ W).alloc hI.1.2.1 _) ⟨⟨hI.1.1,by simp;have:=hI.1.2.1;omega,cell_kept hI.1.2.2.1 (World.grownBy_alloc W _ none) (fun r e=>by cases e),cell_kept hI.1.2.2.2.1 (World.grownBy_alloc W _ none) (fun r e=>by cases e),(frozen_kept hI.1.2.2.2.1 (World.grownBy_alloc W _ none) (fun r e=>by cases e)).trans hI.1.2.2.2.2⟩,hI.2.alloc (by have:=hI.2.size;omega) _⟩ ⟨W.heap.size,rfl,by go_simp,by go_simp⟩
 case body=>
  rintro l pre x c W hl _ ⟨⟨hp,ZX,c5,c6,f6⟩,hB⟩ ⟨B,rfl,h1,h2⟩ _
  gi_wp2
  ·exact⟨(KeepsOthers.setCell _ _ _).from _,⟨rfl,pre,x,rfl,hp,(by assumption),World.cell?_setCell_same' _ _ _ (by rw[c6];rfl)⟩,hB.setCell (p:=⟨w.heap.size+1+1,0,none⟩) (by show _<=w.heap.size+1+1;omega) _⟩
  ·have hx:now<x.1.2:=(by assumption)
   exact⟨KeepsFrom.refl _ _,Below.refl _ _,⟨fun p Dr=>(Bn.1 Dr).elim (hp p) (fun e=>by simp at e;subst e;exact hx),ZX,c5,c6,f6⟩,hB⟩
 case done=>
  rintro D ys W hD rfl ⟨⟨hp,ZX,c5,c6,f6⟩,hB⟩ hK
  gi_wp2
  have hK':=(KeepsOthers.setCell W ⟨w.heap.size+1+1,0,none⟩ (.int .i64 0)).same _ _ hK rfl;refine⟨by simp,.inl ⟨_,_,rfl,run_takeDeferred hK',?_⟩⟩;have hc5:=cell_kept (World.cell?_setCell_same' W ⟨w.heap.size+1+1,0,none⟩ (.int .i64 0) (by rw[c6];rfl)) (grownBy_putObj' _ D (.deferred none)) (fun r e=>by cases e;exact⟨_,hK',rfl⟩)
  refine⟨.int .i64 0,?_,by rw[Aaj hp],(hB.setCell (by show _<=w.heap.size+1+1;omega) _).trans (belowK_b (w:=w) (Cn _) _ _ _ _ (by omega) hK' rfl rfl)⟩
  simp[results,Tryz.f38,go_sem,hc5]
 case stop=>
  rintro D c pre W hD ⟨k,rfl⟩ ⟨⟨rfl,ini,x,e1,e2,e3,c6⟩,hB⟩ hK
  gi_wp2
  refine⟨by simp,.inl ⟨_,_,rfl,run_takeDeferred hK,?_⟩⟩;have hc5:=cell_kept c6 (grownBy_putObj' _ D (.deferred none)) (fun r e=>by cases e;exact⟨_,hK,rfl⟩)
  refine⟨.int .i64 x.1.1,?_,by rw[Acz e1 e2 e3],hB.trans (belowK_b (w:=w) (Cn _) W D _ _ (by omega) hK rfl rfl)⟩;simp[results,Tryz.f38,go_sem,hc5]
theorem Y3{w:World}{S:Nat->Prop}{es n:Nat}{c:Ad}{v:Value}(h:At w S (.lst false es n c) v):∃p m k,v=.slice p m k:=by cases h<;>exact⟨_,_,_,rfl⟩
theorem A6m{w:World}{S:Nat->Prop}{v:Value}{zs:List (Int × Int)}(h:At w S (.lst false 2 zs.length (AU zs)) v):YK w.heap.size w v zs:=by
 generalize hn:zs.length=n at h;generalize hc:AU zs=c at h;cases h with
 |lnil=>exact .inl ⟨_,_,rfl,List.length_eq_zero_iff.1 hn⟩
 |lemp=>exact .inl ⟨_,_,rfl,List.length_eq_zero_iff.1 hn⟩
 |lst _ _ _ a cap f hs hb hA CO O7 h1 hr=>
  subst hn hc;obtain⟨b,o,s⟩:=a;obtain rfl:s=none:=hs;refine .inr ⟨b,o,cap,rfl,hb,fun j p hp=>?_⟩;obtain⟨e0,e1⟩:=An3 hp;have hl:=(List.getElem?_eq_some_iff.1 hp).1;have L:=SW zs
  have g:∀{k:Nat} {x:Int},(AU zs).getD k .top=Aw x->k<(AU zs).length->w.cell? ⟨b,o+k,none⟩=some (.int .i64 x):=fun {k x} e hk=>by
   have e':(AU zs)[k]?=some (Aw x):=by rw[List.getD_eq_getElem?_getD,List.getElem?_eq_getElem hk,Option.getD_some] at e;rw[List.getElem?_eq_getElem hk,e]
   have h2:=hr k _ e';have h3:=At.val h2;have h4:=O7 k _ e';rw[Ff,h3] at h4;exact h4
  exact⟨g e0 (by omega),g e1 (by omega)⟩
theorem Afu{G:BE}{args:Ad}{r:A1}(h:Aix args=some r):Cx G prog 38 args r:=by
 unfold Aix at h;split at h
 rotate_left
 ·cases h
 rename_i v i x n c lf n1 c1 n2 c2 model now;cases hb:(Nat.beq c.length (n*3)&&Nat.ble n 1000)
 ·rw[hb,cond_false] at h;cases h
 rw[hb,cond_true] at h;simp only[Er] at hb;cases he:Vs c with
 |none=>rw[he] at h;cases h
 |some es=>
  rw[he] at h;simp only at h;cases hp:Qa (Akt model es) with
  |none=>rw[hp] at h;cases h
  |some l=>
   rw[hp] at h;cases h;obtain⟨rfl,hf⟩:=Ace he;have hl:(Wf es).length=es.length*3:=PN En.cells_len es;have hn:n=es.length:=by have:=C6 hb.1;omega
   subst hn;have A5d:=Oj hb.2;obtain⟨bq,el⟩:=Ans (xs:=noR) (fu:=2000) (d:=5) (es:=es) A5d (by omega) hf v i x lf model n1 n2 c1 c2;have Ajh:=Ajs (model:=model) hf;have hfs:(S5 model es).st=AU l:=(Ap2 model es).trans (ZR hp);generalize S5 model es=E at el Ajh hfs
   have hns:E.ns=l.length:=by
    have h1:=Ajh.2.1;rw[hfs,SW] at h1;omega
   have hll:l.length<=1000:=by have:=Ajh.2.2.2;omega
   have S:=Dh ngR mxR (C:=CX noR) (G:=GR) Aox _ _ _ _ el;refine⟨⟨_,Tryz.func38,by kernel_rfl⟩,fun w Y bt us hi _ _=>?_⟩;have ps:=hi.args
   match us,ps with
   |[u0,u1,u2],⟨⟨vs,e,_,h0⟩,h1,h2,_⟩=>
    subst e
    match vs,h0 with
    |[v0,v1,v2,v3,v4,v5,v6],⟨k0,k1,k2,k3,k4,k5,k6,_⟩=>
     obtain rfl:v0=.int .i64 v:=At.val (w:=w) k0;obtain rfl:v1=.int .i64 i:=At.val (w:=w) k1;obtain rfl:v2=.int .i64 x:=At.val (w:=w) k2;obtain⟨p3,m3,q3,rfl⟩:=Y3 k3;obtain rfl:v4=.int .i64 lf:=At.val (w:=w) k4;obtain⟨p5,m5,q5,rfl⟩:=Y3 k5;obtain⟨p6,m6,q6,rfl⟩:=Y3 k6;obtain rfl:u1=.int .u64 model:=At.val (w:=w) h1.2;obtain rfl:u2=.int .i64 now:=At.val (w:=w) h2.2;refine (A1y hll ?_).mono ?_
     ·intro W hW;have up:∀{p:PV} {v:Value},At w (fun b=>BtX bt b\/Y b) p v->At W (fun _=>False) p v:=fun h=>h.step ⟨hW.size,fun b hb _=>hW.block b hb,fun b hb=>Ij.same (hW.block b hb)⟩ fun _ _ h=>h.elim;refine (S.2 W (fun _=>False) YM [.agg #[.int .i64 v,.int .i64 i,.int .i64 x,.slice p3 m3 q3,.int .i64 lf,.slice p5 m5 q5,.slice p6 m6 q6],.int .u64 model] (QL (fun _ h=>h.elim) ⟨⟨_,rfl,⟨trivial,.sc _⟩,⟨trivial,.sc _⟩,⟨trivial,.sc _⟩,⟨trivial,up k3⟩,⟨trivial,.sc _⟩,⟨trivial,up k5⟩,⟨trivial,up k6⟩,trivial⟩,⟨trivial,.sc _⟩,trivial⟩) trivial (fun _ h=>h.elim)).mono ?_
      rintro e W' ⟨vs,own,rfl,ho⟩
      have hv:=ho.vals
      match vs,hv with
      |[x0,x1],⟨⟨ys,e0,y⟩,y1,_⟩=>
       match ys,y with
       |[y0,a0,s0],⟨z0,z1,z2,_⟩=>
        obtain rfl:y0=.int .u64 E.k:=At.val (w:=W') z0;obtain⟨a,m,q,rfl⟩:=Y3 z1;obtain rfl:x1=.bool bq:=At.val (w:=W') y1;have z2:At W' _ (.lst false 2 E.ns E.st) s0:=z2;rw[hfs,hns] at z2;have G0:=A6m z2;obtain⟨a',m',q',rfl⟩:=Y3 z2;subst e0;exact⟨E.k,a,m,q,a',m',q',bq,rfl,⟨ho.os,ho.tape,ho.output,ho.ext.size,fun k hk=>ho.ext.keep k hk (Sn k)⟩,G0⟩
     ·rintro e w' ⟨rfl,hb⟩
      exact⟨[.int .i64 (Xp now l)],fun _=>none,rfl,Qo hb rfl⟩
end
section
variable {xs:FuncId->Option (Ad->Option A1)}(fu d:Nat)(call:Aq)
theorem Pu{p:FuncId->Option (Ad->Option A1)}(fu d:Nat)(Z:ByteArray)(Y:Int):Ac (CP p) prog fu (d+1) 137 [Z,.sc (.int .u8 Y)]=(fun (call:Aq)=>Gz .i64 (call 155 [Z,.sc (.int .u8 Y)]) fun a=>Bj [a]) (Ac (CP p) prog fu d):=by kernel_rfl
def Dz(Z:ByteArray)(Y:Int)(X:Nat)(W:ByteArray)(V:Int):Option A1:=Ll fu call 119 Tryz.f119 [.pbox [Z,Y]] [.l] X ⟨lk [(0,.ptr 64000 0)],Fw [(64000,.st [W,V])]⟩
theorem Gm(X:ByteArray)(W:Int)(V:Nat)(Y:ByteArray)(Z:Int):Dz fu call X W (V+1) Y Z=(Ax (decide (Z<(↑(ByteArray.size Y):Int))) (Ar (decide (0<=Z))<|Ds ((Array.toList (ByteArray.data Y))[Z.toNat]?) fun a=>Gz .i64 (call 137 [Bo ⟨#[32,9,10,13]⟩,.sc (.int .u8 (↑(UInt8.toNat a):Int))]) fun a=>Ax (decide (a>=0)) (Aa (wrap .i64 (Z+1)) fun a=>Dz fu call X W V Y a) (some ⟨[],[[Y,Z]]⟩)) (some ⟨[],[[Y,Z]]⟩)):=by kernel_rfl
theorem N7{p:FuncId->Option (Ad->Option A1)}(fu d:Nat)(Z:ByteArray)(Y:Int):Ac (CP p) prog fu (d+1) 119 [.pbox [Z,Y]]=(fun (call:Aq)=>Dz fu call Z Y fu Z Y) (Ac (CP p) prog fu d):=by kernel_rfl
def Dm(Z:ByteArray)(Y:Int)(X:Nat)(W:Int)(V:ByteArray)(U:Int):Option A1:=Ll fu call 183 Tryz.f183 [.pbox [Z,Y]] [.r,.r,.l,.l] X ⟨lk [(0,.ptr 58000 0),(3,W)],Fw [(58000,.st [V,U])]⟩
theorem Gc(Y:ByteArray)(X:Int)(W:Nat)(Z:Int)(V:ByteArray)(U:Int):Dm fu call Y X (W+1) Z V U=(Bm (call 161 [.pbox [V,U]]) fun a b=>Dn .u8 a fun a=>Ai b fun b c=>Ai b fun b e=>Bv b fun b=>Dn .i64 e fun e=>Ap c<|Ax (decide (a>=48)) (Bm (call 161 [.pbox [b,e]]) fun a b=>Dn .u8 a fun a=>Ai b fun b c=>Ai b fun b e=>Bv b fun b=>Dn .i64 e fun e=>Ap c<|Ax (decide (a<=57)) (Aa (wrap .i64 (e+1)) fun a=>Dm fu call Y X W Z b a) (some ⟨[C9 (decide (e>Z))],[[b,e]]⟩)) (some ⟨[C9 (decide (e>Z))],[[b,e]]⟩)):=by kernel_rfl
theorem Ni{p:FuncId->Option (Ad->Option A1)}(fu d:Nat)(Y:ByteArray)(Z:Int):Ac (CP p) prog fu (d+1) 183 [.pbox [Y,Z]]=(fun (call:Aq)=>Dm fu call Y Z fu Z Y Z) (Ac (CP p) prog fu d):=by kernel_rfl
def Dp(Z:ByteArray)(Y:Int)(X:Nat)(W:ByteArray)(V:Int):Option A1:=Ll fu call 163 Tryz.f163 [.pbox [Z,Y]] [.r,.r] X ⟨lk [(0,.ptr 66000 0)],Fw [(66000,.st [W,V])]⟩
def Dq(Z:ByteArray)(Y:Int)(X:Nat)(W:ByteArray)(V:Int):Option A1:=Ll fu call 163 Tryz.f163 [.pbox [Z,Y]] [.r,.r,.r] X ⟨lk [(0,.ptr 66000 0)],Fw [(66000,.st [W,V])]⟩
theorem Ej(Y:ByteArray)(X:Int)(Z:Nat)(Gy:0<Z)(W:ByteArray)(V:Int):Dp fu call Y X Z W V=(Bm (call 138 [.pbox [W,V],Bo ⟨#[46]⟩]) fun a b=>Qp a fun a=>Ai b fun b c=>Ai b fun b e=>Bv b fun b=>Dn .i64 e fun e=>Ap c<|Ax a (Bm (call 183 [.pbox [b,e]]) fun a b=>Qp a fun a=>Ai b fun b c=>Ai b fun b e=>Bv b fun b=>Dn .i64 e fun e=>Ap c<|Ax (!a) (some ⟨[false],[[b,e]]⟩) (Dq fu call Y X fu b e)) (Dq fu call Y X fu b e)):=by cases Z with|zero=>exact absurd Gy (Nat.lt_irrefl 0)|succ Z=>kernel_rfl
theorem Co(W:ByteArray)(V:Int)(Z:Nat)(Gy:0<Z)(Y:ByteArray)(X:Int):Dq fu call W V Z Y X=(Bm (call 138 [.pbox [Y,X],Bo ⟨#[101]⟩]) fun a b=>Qp a fun a=>Ai b fun b c=>Ai b fun b e=>Bv b fun b=>Dn .i64 e fun e=>Ap c<|Ax a (Bm (call 138 [.pbox [b,e],Bo ⟨#[43]⟩]) fun a b=>Qp a fun a=>Ai b fun b c=>Ai b fun b e=>Bv b fun b=>Dn .i64 e fun e=>Ap c<|Ax (!a) (Bm (call 138 [.pbox [b,e],Bo ⟨#[45]⟩]) fun a b=>Qp a fun a=>Ai b fun a b=>Ai a fun a c=>Bv a fun a=>Dn .i64 c fun c=>Ap b<|Bm (call 183 [.pbox [a,c]]) fun a b=>Qp a fun a=>Ai b fun b c=>Ai b fun b e=>Bv b fun b=>Dn .i64 e fun e=>Ap c<|some ⟨[a],[[b,e]]⟩) (Bm (call 183 [.pbox [b,e]]) fun a b=>Qp a fun a=>Ai b fun b c=>Ai b fun b e=>Bv b fun b=>Dn .i64 e fun e=>Ap c<|some ⟨[a],[[b,e]]⟩)) (Bm (call 138 [.pbox [b,e],Bo ⟨#[69]⟩]) fun a b=>Qp a fun a=>Ai b fun b c=>Ai b fun b e=>Bv b fun b=>Dn .i64 e fun e=>Ap c<|Ax a (Bm (call 138 [.pbox [b,e],Bo ⟨#[43]⟩]) fun a b=>Qp a fun a=>Ai b fun b c=>Ai b fun b e=>Bv b fun b=>Dn .i64 e fun e=>Ap c<|Ax (!a) (Bm (call 138 [.pbox [b,e],Bo ⟨#[45]⟩]) fun a b=>Qp a fun a=>Ai b fun a b=>Ai a fun a c=>Bv a fun a=>Dn .i64 c fun c=>Ap b<|Bm (call 183 [.pbox [a,c]]) fun a b=>Qp a fun a=>Ai b fun b c=>Ai b fun b e=>Bv b fun b=>Dn .i64 e fun e=>Ap c<|some ⟨[a],[[b,e]]⟩) (Bm (call 183 [.pbox [b,e]]) fun a b=>Qp a fun a=>Ai b fun b c=>Ai b fun b e=>Bv b fun b=>Dn .i64 e fun e=>Ap c<|some ⟨[a],[[b,e]]⟩)) (some ⟨[true],[[b,e]]⟩))):=by cases Z with|zero=>exact absurd Gy (Nat.lt_irrefl 0)|succ Z=>kernel_rfl
theorem E6{p:FuncId->Option (Ad->Option A1)}(fu d:Nat)(Z:ByteArray)(Y:Int):Ac (CP p) prog fu (d+1) 163 [.pbox [Z,Y]]=(fun (call:Aq)=>Bm (call 138 [.pbox [Z,Y],Bo ⟨#[45]⟩]) fun a b=>Qp a fun a=>Ai b fun a b=>Ai a fun a c=>Bv a fun a=>Dn .i64 c fun c=>Ap b<|Bm (call 138 [.pbox [a,c],Bo ⟨#[48]⟩]) fun a b=>Qp a fun a=>Ai b fun b c=>Ai b fun b e=>Bv b fun b=>Dn .i64 e fun e=>Ap c<|Ax (!a) (Bm (call 183 [.pbox [b,e]]) fun a b=>Qp a fun a=>Ai b fun b c=>Ai b fun b e=>Bv b fun b=>Dn .i64 e fun e=>Ap c<|Ax (!a) (some ⟨[false],[[b,e]]⟩) (Dp fu call Z Y fu b e)) (Dp fu call Z Y fu b e)) (Ac (CP p) prog fu d):=by kernel_rfl
def Dv(Z:ByteArray)(Y X:Int)(W:Nat)(V:Int)(U:ByteArray)(T:Int):Option A1:=Ll fu call 162 Tryz.f162 [.pbox [Z,Y],X] [.r,.r,.r,.r,.l] W ⟨lk [(0,.ptr 64000 0),(1,V)],Fw [(64000,.st [U,T])]⟩
theorem Lu(Y:ByteArray)(X W:Int)(V:Nat)(Z:Int)(U:ByteArray)(T:Int):Dv fu call Y X W (V+1) Z U T=(Bm (call 140 [.pbox [U,T],Z]) fun a b=>Ai a fun a c=>Ep a fun a=>Ee .i64 a fun a e=>Ai e fun a e=>Bv a fun a=>Qp e fun a=>Dn .i64 c fun a=>Ai b fun b c=>Ai b fun b e=>Bv b fun b=>Dn .i64 e fun e=>Ap c<|Ax (a != 0) (some ⟨[a],[[b,e]]⟩) (Bm (call 119 [.pbox [b,e]]) fun a b=>Ap a<|Ai b fun a b=>Ai a fun a c=>Bv a fun a=>Dn .i64 c fun c=>Ap b<|Bm (call 138 [.pbox [a,c],Bo ⟨#[93]⟩]) fun a b=>Qp a fun a=>Ai b fun b c=>Ai b fun b e=>Bv b fun b=>Dn .i64 e fun e=>Ap c<|Ax a (some ⟨[(0:Int)],[[b,e]]⟩) (Bm (call 138 [.pbox [b,e],Bo ⟨#[44]⟩]) fun a b=>Qp a fun a=>Ai b fun b c=>Ai b fun b e=>Bv b fun b=>Dn .i64 e fun e=>Ap c<|Ax (!a) (some ⟨[(2:Int)],[[b,e]]⟩) (Bm (call 119 [.pbox [b,e]]) fun a b=>Ap a<|Ai b fun a b=>Ai a fun a c=>Bv a fun a=>Dn .i64 c fun c=>Ap b<|Dv fu call Y X W V Z a c)))):=by kernel_rfl
theorem N0{p:FuncId->Option (Ad->Option A1)}(fu d:Nat)(Z:ByteArray)(Y X:Int):Ac (CP p) prog fu (d+1) 162 [.pbox [Z,Y],X]=(fun (call:Aq)=>Bm (call 138 [.pbox [Z,Y],Bo ⟨#[91]⟩]) fun a b=>Qp a fun a=>Ai b fun b c=>Ai b fun b e=>Bv b fun b=>Dn .i64 e fun e=>Ap c<|Ax (!a) (some ⟨[(2:Int)],[[b,e]]⟩) (Bm (call 119 [.pbox [b,e]]) fun a b=>Ap a<|Ai b fun a b=>Ai a fun a c=>Bv a fun a=>Dn .i64 c fun c=>Ap b<|Bm (call 138 [.pbox [a,c],Bo ⟨#[93]⟩]) fun a b=>Qp a fun a=>Ai b fun b c=>Ai b fun b e=>Bv b fun b=>Dn .i64 e fun e=>Ap c<|Ax a (some ⟨[(0:Int)],[[b,e]]⟩) (Dv fu call Z Y X fu X b e))) (Ac (CP p) prog fu d):=by kernel_rfl
def Do(Z:ByteArray)(Y X:Int)(W:Nat)(V:Int)(U:ByteArray)(T:Int):Option A1:=Ll fu call 120 Tryz.f120 [.pbox [Z,Y],X,.sc (Value.map none)] [.r,.r,.r,.r,.l] W ⟨lk [(0,.ptr 128000 0),(1,V),(2,.sc (Value.map none))],Fw [(128000,.st [U,T])]⟩
theorem Ln(Y:ByteArray)(X W:Int)(V:Nat)(Z:Int)(U:ByteArray)(T:Int):Do fu call Y X W (V+1) Z U T=(Bm (call 139 [.pbox [U,T]]) fun a b=>Ai a fun a c=>Bv a fun a=>Qp c fun a=>Ai b fun b c=>Ai b fun b e=>Bv b fun b=>Dn .i64 e fun e=>Ap c<|Ax (!a) (some ⟨[(2:Int)],[[b,e]]⟩) (Bm (call 119 [.pbox [b,e]]) fun a b=>Ap a<|Ai b fun a b=>Ai a fun a c=>Bv a fun a=>Dn .i64 c fun c=>Ap b<|Bm (call 138 [.pbox [a,c],Bo ⟨#[58]⟩]) fun a b=>Qp a fun a=>Ai b fun b c=>Ai b fun b e=>Bv b fun b=>Dn .i64 e fun e=>Ap c<|Ax (!a) (some ⟨[(2:Int)],[[b,e]]⟩) (Bm (call 119 [.pbox [b,e]]) fun a b=>Ap a<|Ai b fun a b=>Ai a fun a c=>Bv a fun a=>Dn .i64 c fun c=>Ap b<|Bm (call 140 [.pbox [a,c],Z]) fun a b=>Ai a fun a c=>Ep a fun a=>Ee .i64 a fun a e=>Ai e fun a e=>Bv a fun a=>Qp e fun a=>Dn .i64 c fun a=>Ai b fun b c=>Ai b fun b e=>Bv b fun b=>Dn .i64 e fun e=>Ap c<|Ax (a != 0) (some ⟨[a],[[b,e]]⟩) (Bm (call 119 [.pbox [b,e]]) fun a b=>Ap a<|Ai b fun a b=>Ai a fun a c=>Bv a fun a=>Dn .i64 c fun c=>Ap b<|Bm (call 138 [.pbox [a,c],Bo ⟨#[125]⟩]) fun a b=>Qp a fun a=>Ai b fun b c=>Ai b fun b e=>Bv b fun b=>Dn .i64 e fun e=>Ap c<|Ax a (some ⟨[(0:Int)],[[b,e]]⟩) (Bm (call 138 [.pbox [b,e],Bo ⟨#[44]⟩]) fun a b=>Qp a fun a=>Ai b fun b c=>Ai b fun b e=>Bv b fun b=>Dn .i64 e fun e=>Ap c<|Ax (!a) (some ⟨[(2:Int)],[[b,e]]⟩) (Bm (call 119 [.pbox [b,e]]) fun a b=>Ap a<|Ai b fun a b=>Ai a fun a c=>Bv a fun a=>Dn .i64 c fun c=>Ap b<|Do fu call Y X W V Z a c)))))):=by kernel_rfl
theorem Nt{p:FuncId->Option (Ad->Option A1)}(fu d:Nat)(Z:ByteArray)(Y X:Int):Ac (CP p) prog fu (d+1) 120 [.pbox [Z,Y],X,.sc (Value.map none)]=(fun (call:Aq)=>Bm (call 138 [.pbox [Z,Y],Bo ⟨#[123]⟩]) fun a b=>Qp a fun a=>Ai b fun b c=>Ai b fun b e=>Bv b fun b=>Dn .i64 e fun e=>Ap c<|Ax (!a) (some ⟨[(2:Int)],[[b,e]]⟩) (Bm (call 119 [.pbox [b,e]]) fun a b=>Ap a<|Ai b fun a b=>Ai a fun a c=>Bv a fun a=>Dn .i64 c fun c=>Ap b<|Bm (call 138 [.pbox [a,c],Bo ⟨#[125]⟩]) fun a b=>Qp a fun a=>Ai b fun b c=>Ai b fun b e=>Bv b fun b=>Dn .i64 e fun e=>Ap c<|Ax a (some ⟨[(0:Int)],[[b,e]]⟩) (Do fu call Z Y X fu X b e))) (Ac (CP p) prog fu d):=by kernel_rfl
theorem Ch{p:FuncId->Option (Ad->Option A1)}(fu d:Nat)(Y:ByteArray)(X Z:Int):Ac (CP p) prog fu (d+1) 140 [.pbox [Y,X],Z]=(fun (call:Aq)=>Bm (call 161 [.pbox [Y,X]]) fun a b=>Dn .u8 a fun a=>Ai b fun b c=>Ai b fun b e=>Bv b fun b=>Dn .i64 e fun e=>(fun h:PV=>(fun g:Option A1=>(fun i:Option A1=>Ap c<|Ax (a==123) i (Ax (a==91) i g)) (Ax (decide (Z>8)) (some ⟨[h,(5:Int)],[[b,e]]⟩) g)) (Ax (a==123) (Aa (wrap .i64 (Z+1)) fun a=>Bm (call 120 [.pbox [b,e],a,.sc (Value.map none)]) fun a b=>Dn .i64 a fun a=>Ai b fun b c=>Ai b fun b e=>Bv b fun b=>Dn .i64 e fun e=>Ap c<|some ⟨[.agg [(6:Int),Bo ⟨#[]⟩,false],a],[[b,e]]⟩) (Ax (a==91) (Aa (wrap .i64 (Z+1)) fun a=>Bm (call 162 [.pbox [b,e],a]) fun a b=>Dn .i64 a fun a=>Ai b fun b c=>Ai b fun b e=>Bv b fun b=>Dn .i64 e fun e=>Ap c<|some ⟨[.agg [(5:Int),Bo ⟨#[]⟩,false],a],[[b,e]]⟩) (Ax (a==34) (Bm (call 139 [.pbox [b,e]]) fun a b=>Ai a fun a c=>Bv a fun a=>Qp c fun c=>Ai b fun b e=>Ai b fun b f=>Bv b fun b=>Dn .i64 f fun f=>Ap e<|Ax c (some ⟨[.agg [(4:Int),a,false],(0:Int)],[[b,f]]⟩) (some ⟨[h,(2:Int)],[[b,f]]⟩)) (Bm (call 138 [.pbox [b,e],Bo ⟨#[116,114,117,101]⟩]) fun a b=>Qp a fun a=>Ai b fun b c=>Ai b fun b e=>Bv b fun b=>Dn .i64 e fun e=>Ap c<|Ax a (some ⟨[.agg [(2:Int),Bo ⟨#[]⟩,true],(0:Int)],[[b,e]]⟩) (Bm (call 138 [.pbox [b,e],Bo ⟨#[102,97,108,115,101]⟩]) fun a b=>Qp a fun a=>Ai b fun b c=>Ai b fun b e=>Bv b fun b=>Dn .i64 e fun e=>Ap c<|Ax a (some ⟨[.agg [(2:Int),Bo ⟨#[]⟩,false],(0:Int)],[[b,e]]⟩) (Bm (call 138 [.pbox [b,e],Bo ⟨#[110,117,108,108]⟩]) fun a b=>Qp a fun a=>Ai b fun b c=>Ai b fun b e=>Bv b fun b=>Dn .i64 e fun e=>Ap c<|Ax a (some ⟨[.agg [(1:Int),Bo ⟨#[]⟩,false],(0:Int)],[[b,e]]⟩) (Bm (call 163 [.pbox [b,e]]) fun a b=>Qp a fun a=>Ai b fun b c=>Ai b fun b e=>Bv b fun b=>Dn .i64 e fun e=>Ap c<|Ax a (some ⟨[.agg [(3:Int),Bo ⟨#[]⟩,false],(0:Int)],[[b,e]]⟩) (some ⟨[h,(2:Int)],[[b,e]]⟩))))))))) (.agg [(0:Int),Bo ⟨#[]⟩,false])) (Ac (CP p) prog fu d):=by kernel_rfl
end
theorem Ayl:∀n:Fin 256,decide (Lib.indexByte [32,9,10,13] (n.val:Int).toNat.toUInt8>=0)=BX (n.val:Int):=by decide +kernel
theorem A69{c:Int}(h0:0<=c)(h1:c<=255):decide (Lib.indexByte [32,9,10,13] c.toNat.toUInt8>=0)=BX c:=by obtain⟨n,rfl⟩:=Int.eq_ofNat_of_zero_le h0;exact Ayl ⟨n,by omega⟩
theorem B9{t:ByteArray}:∀{l:Aj},Dy t l->Dy t (Bd l)
 |[],h=>h
 |c::l,h=>by
  unfold Bd;split
  ·exact B9 h.tail
  ·exact h
theorem X7:∀(l:Aj),(Bd l).length<=l.length
 |[]=>Cn _
 |c::l=>by
  unfold Bd;split
  ·exact Nat.le_succ_of_le (X7 l)
  ·exact Cn _
section
variable {fu d:Nat}
theorem A50(s:ByteArray)(c:Int):Ac C0 prog fu (d+2) 137 [Bo s,.sc (.int .u8 c)]=some ⟨[Aw (Lib.indexByte s.data.toList c.toNat.toUInt8)],[]⟩:=by have e:Ac C0 prog fu (d+1) 155 [Bo s,.sc (.int .u8 c)]=some ⟨[Aw (Lib.indexByte s.data.toList c.toNat.toUInt8)],[]⟩:=rfl;rw[Pu];simp only[A4,A3,e]
theorem TS{t s0:ByteArray}{p0:Int}(ht:t.size<=1000000):∀(r:Aj)(nn:Nat),r.length+1<=nn->Dy t r ->
  Dz fu (Ac C0 prog fu (d+2)) s0 p0 nn t (B4 t r:Int)=some ⟨[],[Da t (Bd r)]⟩
 |[],nn,Gy,h=>by
  obtain⟨k,rfl⟩:∃k,nn=k+1:=⟨nn-1,by omega⟩
  have e:decide ((B4 t []:Int)<(t.size:Int))=false:=by simp[ET]
  rw[Gm];simp only[A4,A3,e];rfl
 |c::r,nn,Gy,h=>by
  obtain⟨k,rfl⟩:∃k,nn=k+1:=⟨nn-1,by omega⟩
  have ih:=TS (s0:=s0) (p0:=p0) ht r k (by simp at Gy;omega) h.tail
  have hc:=h.B c (by simp);have hl:=h.len;have hp:=Qq h
  have e6:wrap .i64 ((B4 t (c::r):Int)+1)=(B4 t r:Int):=by
   rw[hp,Fz (by unfold B4;omega) (by unfold B4;omega)];omega
  have U5:B4 t (c::r)<t.size:=by
   unfold B4;rw[On] at hl ⊢;omega
  obtain⟨b,hb,rfl⟩:=h.at;have e:decide ((B4 t ((b.toNat:Int)::r):Int)<(t.size:Int))=true:=by simp;omega
  have e2:decide ((0:Int)<=(B4 t ((b.toNat:Int)::r):Int))=true:=by simp
  rw[<-Jg (B4 t ((b.toNat:Int)::r))] at hb;have ix:Ac C0 prog fu (d+2) 137 [Bo ⟨#[32,9,10,13]⟩,.sc (.int .u8 (b.toNat:Int))]=some ⟨[Aw (Lib.indexByte [32,9,10,13] (b.toNat:Int).toNat.toUInt8)],[]⟩:=A50 _ _;have hw:=A69 hc.1 hc.2;rw[Gm];cases hq:BX (b.toNat:Int)
  ·rw[hq] at hw
   have es:Bd ((b.toNat:Int)::r)=(b.toNat:Int)::r:=by
    show (if BX _=true then _ else _)=_;rw[hq];rfl
   rw[es];simp only[A4,A3,e,e2,hb,ix,hw]
  ·rw[hq] at hw
   have es:Bd ((b.toNat:Int)::r)=Bd r:=by
    show (if BX _=true then _ else _)=_;rw[hq];rfl
   rw[es];simp only[A4,A3,e,e2,hb,ix,hw,e6,ih]
theorem Vi{t:ByteArray}{r:Aj}(h:Dy t r)(ht:t.size<=1000000)(Bq:t.size+1<=fu):Ac C0 prog fu (d+3) 119 [.pbox (Da t r)]=some ⟨[],[Da t (Bd r)]⟩:=by rw[N7];exact TS ht r fu (by have:=h.len;omega) h
theorem VE{t:ByteArray}:∀{l:Aj},Dy t l->Dy t (N2 l)
 |[],h=>h
 |c::l,h=>by
  unfold N2;split
  ·exact VE h.tail
  ·exact h
theorem UE:∀(l:Aj),(N2 l).length<=l.length
 |[]=>Cn _
 |c::l=>by
  unfold N2;split
  ·exact Nat.le_succ_of_le (UE l)
  ·exact Cn _
theorem SV{t s0:ByteArray}{p0 y0:Int}(ht:t.size<=1000000):∀(r:Aj)(nn:Nat),r.length+1<=nn->Dy t r ->
  Dm fu (Ac C0 prog fu (d+1)) s0 p0 nn y0 t (B4 t r:Int)=some ⟨[C9 (decide ((B4 t (N2 r):Int)>y0))],[Da t (N2 r)]⟩
 |[],nn,Gy,h=>by
  obtain⟨k,rfl⟩:∃k,nn=k+1:=⟨nn-1,by omega⟩
  have pk:Ac C0 prog fu (d+1) 161 [.pbox (Da t [])]=some ⟨[.sc (.int .u8 0)],[Da t []]⟩:=Q3 (xs:=xs0) h;have e:decide ((0:Int)>=48)=false:=rfl;rw[Gc];simp only[A4,A3,pk,e];rfl
 |c::r,nn,Gy,h=>by
  obtain⟨k,rfl⟩:∃k,nn=k+1:=⟨nn-1,by omega⟩
  have ih:=SV (s0:=s0) (p0:=p0) (y0:=y0) ht r k (by simp at Gy;omega) h.tail
  have hc:=h.B c (by simp);have hl:=h.len;have hp:=Qq h
  have e6:wrap .i64 ((B4 t (c::r):Int)+1)=(B4 t r:Int):=by
   rw[hp,Fz (by unfold B4;omega) (by unfold B4;omega)];omega
  have pk:Ac C0 prog fu (d+1) 161 [.pbox (Da t (c::r))]=some ⟨[.sc (.int .u8 c)],[Da t (c::r)]⟩:=Q3 (xs:=xs0) h;have ed:N2 (c::r)=if dgS c=true then N2 r else c::r:=rfl
  rw[Gc,ed];by_cases h1:48<=c
  ·have e1:decide (c>=48)=true:=by simp;omega
   by_cases h2:c<=57
   ·have e2:decide (c<=57)=true:=by simp;omega
    have e3:dgS c=true:=by simp[dgS];omega
    rw[Cy e3];simp only[A4,A3,pk,e1,e2,e6,ih]
   ·have e2:decide (c<=57)=false:=by simp;omega
    have e3:¬dgS c=true:=by simp[dgS];omega
    rw[Bl e3];simp only[A4,A3,pk,e1,e2]
  ·have e1:decide (c>=48)=false:=by simp;omega
   have e3:¬dgS c=true:=by simp[dgS];omega
   rw[Bl e3];simp only[A4,A3,pk,e1]
def A3x(t:ByteArray)(r:Aj)(o:Option Aj):A1:=⟨[C9 (o.isSome)],[Da t (o.getD r)]⟩
theorem Ud{t:ByteArray}{r:Aj}(h:Dy t r)(ht:t.size<=1000000)(Bq:t.size+1<=fu):Ac C0 prog fu (d+2) 183 [.pbox (Da t r)]=some (A3x t r (Is r)):=by
 rw[Ni];refine (SV ht r fu (by have:=h.len;omega) h).trans ?_
 cases r with
 |nil=>
  have e:decide ((B4 t (N2 []):Int)>(B4 t []:Int))=false:=by simp[N2]
  rw[e];rfl
 |cons c r=>
  have hl:=h.len;have hp:=Qq h;have ed:N2 (c::r)=if dgS c=true then N2 r else c::r:=rfl
  have eg:Is (c::r)=if dgS c=true then some (N2 r) else none:=rfl
  rw[ed,eg];have hd:=UE r;by_cases q:dgS c=true
  ·rw[Cy q,Cy q]
   have e:decide ((B4 t (N2 r):Int)>(B4 t (c::r):Int))=true:=by
    rw[On] at hl;simp only[gt_iff_lt,Xi];unfold B4;rw[On];omega
   rw[e];rfl
  ·rw[Bl q,Bl q];have e:decide ((B4 t (c::r):Int)>(B4 t (c::r):Int))=false:=by simp
   rw[e];rfl
theorem Aee{t:ByteArray}{r:Aj}(c:UInt8)(h:Dy t r)(ht:t.size<=1000000):Ac C0 prog fu (d+3) 138 [.pbox (Da t r),Bo (ByteArray.mk #[c])]=some (A3x t r (A6 [(c.toNat:Int)] r)):=by
 have hc:=c.toNat_lt;have e:=Y7 (fu:=fu) (d:=d) (xs:=xs0) h ht (w:=[(c.toNat:Int)]) (fun x hx=>by simp at hx;omega) (show 1<=100 by decide)
 have e2:Ab [(c.toNat:Int)]=ByteArray.mk #[c]:=by
  show ByteArray.mk #[((c.toNat:Int)).toNat.toUInt8]=_;rw[Jg];simp
 rw[e2] at e;refine e.trans ?_;cases A6 [(c.toNat:Int)] r<;>rfl
theorem Fk(c:Int):∀r:Aj,A6 [c] r=match r with|[]=>none|x::r'=>if x=c then some r' else none
 |[]=>rfl
 |x::r=>by
  unfold A6;by_cases h:x=c
  ·subst h;rw[Cy (by simp[List.isPrefixOf])];simp
  ·rw[Bl (by simp[List.isPrefixOf];exact fun e=>h e.symm)]
   simp[h]
theorem Bg{t:ByteArray}{w r r':Aj}(h:Dy t r)(e:A6 w r=some r'):Dy t r':=by
 unfold A6 at e;split at e
 ·cases e;exact h.drop _
 ·cases e
theorem IR(c:Int)(r:Aj):Ar7 c r=(A6 [c] r).getD r:=by
 rw[Fk];cases r with
 |nil=>rfl
 |cons x r=>
  show (if x=c then r else x::r)=_;split<;>simp_all
theorem UO(r:Aj):Av2 r=match A6 [48] r with|some q=>some q|none=>Is r:=by
 rw[Fk];cases r with
 |nil=>rfl
 |cons x r=>
  show (if x=48 then some r else Is (x::r))=_;by_cases h:x=48
  ·rw[Cy h];simp[h]
  ·rw[Bl h];simp[h]
theorem QX(r:Aj):VP r=match A6 [46] r with|some q=>(Is q).bind NE|none=>NE r:=by
 rw[Fk];cases r with
 |nil=>rfl
 |cons x r=>
  show (if x=46 then (Is r).bind NE else NE (x::r))=_;by_cases h:x=46
  ·rw[Cy h];simp[h]
  ·rw[Bl h];simp[h]
def RA(r:Aj):Option Aj:=match A6 [43] r with|some q=>Is q|none=>Is ((A6 [45] r).getD r)
theorem Auo(r:Aj):(match r with|43::r'=>Is r'|r=>Is (Ar7 45 r))=RA r:=by
 unfold RA;rw[Fk 43,<-IR];split
 ·simp
 ·rename_i G6;cases r with
  |nil=>rfl
  |cons x r=>
   by_cases h:x=43
   ·exact absurd (by rw[h]) (G6 r)
   ·simp[h]
theorem TM(r:Aj):NE r=match A6 [101] r with|some q=>RA q|none=>match A6 [69] r with|some q=>RA q|none=>some r:=by
 rw[Fk,Fk];cases r with
 |nil=>rfl
 |cons x r=>
  have e:NE (x::r)=if x=101\/x=69 then RA r else some (x::r):=by
   rw[<-Auo];rfl
  rw[e];by_cases h:x=101
  ·rw[Cy (Or.inl h)];simp[h]
  ·by_cases h2:x=69
   ·rw[Cy (Or.inr h2)];simp[h2]
   ·rw[Bl (by omega)];simp[h,h2]
theorem Kn{t:ByteArray}{r r':Aj}(h:Dy t r)(e:Is r=some r'):Dy t r':=by
 cases r with
 |nil=>cases e
 |cons c r=>
  have eg:Is (c::r)=if dgS c=true then some (N2 r) else none:=rfl
  rw[eg] at e;split at e
  ·cases e;exact VE h.tail
  ·cases e
theorem Lw{t:ByteArray}{r:Aj}{o:Option Aj}(h:Dy t r)(ho:∀q,o=some q->Dy t q):Dy t (o.getD r):=by
 cases o with
 |none=>exact h
 |some q=>exact ho q rfl
end
section
variable {fu d:Nat}
theorem Nb{t:ByteArray}{r:Aj}(c:UInt8)(n:Int)(hn:(c.toNat:Int)=n)(h:Dy t r)(ht:t.size<=1000000)(hq:A6 [n] r=none):Ac C0 prog fu (d+3) 138 [.pbox (Da t r),Bo (ByteArray.mk #[c])]=some ⟨[C9 false],[Da t r]⟩:=by subst hn;have e:=Aee (fu:=fu) (d:=d) c h ht;rw[hq] at e;exact e
theorem Hu{t:ByteArray}{r q:Aj}(c:UInt8)(n:Int)(hn:(c.toNat:Int)=n)(h:Dy t r)(ht:t.size<=1000000)(hq:A6 [n] r=some q):Ac C0 prog fu (d+3) 138 [.pbox (Da t r),Bo (ByteArray.mk #[c])]=some ⟨[C9 true],[Da t q]⟩:=by subst hn;have e:=Aee (fu:=fu) (d:=d) c h ht;rw[hq] at e;exact e
theorem VY{t:ByteArray}{r:Aj}(c:UInt8)(n:Int)(hn:(c.toNat:Int)=n)(h:Dy t r)(ht:t.size<=1000000):Ac C0 prog fu (d+3) 138 [.pbox (Da t r),Bo (ByteArray.mk #[c])]=some ⟨[C9 ((A6 [n] r).isSome)],[Da t ((A6 [n] r).getD r)]⟩:=by subst hn;exact Aee (fu:=fu) (d:=d) c h ht
theorem A5k{t t0:ByteArray}{r:Aj}{a:Int}{m:Option Aj}(h:Dy t r)(ht:t.size<=1000000)(Bq:t.size+1<=fu)(hm:m=NE r):∃r',Dy t r'/\Dq fu (Ac C0 prog fu (d+3)) t0 a fu t (B4 t r)=some ⟨[C9 (m.isSome)],[Da t r']⟩/\∀q,m=some q->r'=q:=by
 rw[TM] at hm;rcases he:A6 [101] r with _|r5
 ·have he0:=Nb (fu:=fu) (d:=d) 101 101 rfl h ht he;rw[he] at hm;rcases hE:A6 [69] r with _|r5
  ·have he1:=Nb (fu:=fu) (d:=d) 69 69 rfl h ht hE;have hn:m=some r:=by rw[hm,hE]
   refine⟨r,h,?_,?_⟩
   ·rw[hn,Co (Gy:=by omega)]
    repeat(with_reducible(first|apply Ba|apply A0|apply A8|apply A2|apply Bi|apply Az|apply A9|apply Ix);· first|constructor|(simp(disch:=omega)only[I8,he0,he1,Hn,Km]<;>first|constructor|omega)|omega)
    try simp(disch:=omega)only[Aa,he0,he1,Hn,Km]
    try rfl
   ·rw[hn];intro q e;cases e;rfl
  ·have he1:=Hu (fu:=fu) (d:=d) 69 69 rfl h ht hE;have hS5:=Bg h hE;rw[hE] at hm;simp only at hm;rcases hp:A6 [43] r5 with _|r6
   ·have hp0:=Nb (fu:=fu) (d:=d) 43 43 rfl hS5 ht hp;have E1:=VY (fu:=fu) (d:=d) 45 45 rfl hS5 ht;have SO:Dy t ((A6 [45] r5).getD r5):=Lw hS5 fun q e=>Bg hS5 e;have hn:m=Is ((A6 [45] r5).getD r5):=by rw[hm];unfold RA;rw[hp]
    generalize (A6 [45] r5).getD r5=r6 at E1 SO hn;generalize (A6 [45] r5).isSome=b1 at E1;have hg:Ac C0 prog fu (d+3) 183 [.pbox (Da t r6)]=some ⟨[C9 ((Is r6).isSome)],[Da t ((Is r6).getD r6)]⟩:=Ud (d:=d+1) SO ht Bq;refine⟨(Is r6).getD r6,Lw SO fun q e=>Kn SO e,?_,?_⟩
    ·rw[hn,Co (Gy:=by omega)]
     repeat(with_reducible(first|apply Ba|apply A0|apply A8|apply A2|apply Bi|apply Az|apply A9|apply Ix);· first|constructor|(simp(disch:=omega)only[I8,he0,he1,hp0,E1,hg,Hn,Km]<;>first|constructor|omega)|omega)
     try simp(disch:=omega)only[Aa,he0,he1,hp0,E1,hg,Hn,Km]
     try rfl
    ·rw[hn];intro q e;rw[e];rfl
   ·have hp0:=Hu (fu:=fu) (d:=d) 43 43 rfl hS5 ht hp;have SO:=Bg hS5 hp;have hn:m=Is r6:=by rw[hm];unfold RA;rw[hp]
    have hg:Ac C0 prog fu (d+3) 183 [.pbox (Da t r6)]=some ⟨[C9 ((Is r6).isSome)],[Da t ((Is r6).getD r6)]⟩:=Ud (d:=d+1) SO ht Bq;refine⟨(Is r6).getD r6,Lw SO fun q e=>Kn SO e,?_,?_⟩
    ·rw[hn,Co (Gy:=by omega)]
     repeat(with_reducible(first|apply Ba|apply A0|apply A8|apply A2|apply Bi|apply Az|apply A9|apply Ix);· first|constructor|(simp(disch:=omega)only[I8,he0,he1,hp0,hg,Hn,Km]<;>first|constructor|omega)|omega)
     try simp(disch:=omega)only[Aa,he0,he1,hp0,hg,Hn,Km]
     try rfl
    ·rw[hn];intro q e;rw[e];rfl
 ·have he0:=Hu (fu:=fu) (d:=d) 101 101 rfl h ht he;have hS5:=Bg h he;rw[he] at hm;simp only at hm;rcases hp:A6 [43] r5 with _|r6
  ·have hp0:=Nb (fu:=fu) (d:=d) 43 43 rfl hS5 ht hp;have E1:=VY (fu:=fu) (d:=d) 45 45 rfl hS5 ht;have SO:Dy t ((A6 [45] r5).getD r5):=Lw hS5 fun q e=>Bg hS5 e;have hn:m=Is ((A6 [45] r5).getD r5):=by rw[hm];unfold RA;rw[hp]
   generalize (A6 [45] r5).getD r5=r6 at E1 SO hn;generalize (A6 [45] r5).isSome=b1 at E1;have hg:Ac C0 prog fu (d+3) 183 [.pbox (Da t r6)]=some ⟨[C9 ((Is r6).isSome)],[Da t ((Is r6).getD r6)]⟩:=Ud (d:=d+1) SO ht Bq;refine⟨(Is r6).getD r6,Lw SO fun q e=>Kn SO e,?_,?_⟩
   ·rw[hn,Co (Gy:=by omega)]
    repeat(with_reducible(first|apply Ba|apply A0|apply A8|apply A2|apply Bi|apply Az|apply A9|apply Ix);· first|constructor|(simp(disch:=omega)only[I8,he0,hp0,E1,hg,Hn,Km]<;>first|constructor|omega)|omega)
    try simp(disch:=omega)only[Aa,he0,hp0,E1,hg,Hn,Km]
    try rfl
   ·rw[hn];intro q e;rw[e];rfl
  ·have hp0:=Hu (fu:=fu) (d:=d) 43 43 rfl hS5 ht hp;have SO:=Bg hS5 hp;have hn:m=Is r6:=by rw[hm];unfold RA;rw[hp]
   have hg:Ac C0 prog fu (d+3) 183 [.pbox (Da t r6)]=some ⟨[C9 ((Is r6).isSome)],[Da t ((Is r6).getD r6)]⟩:=Ud (d:=d+1) SO ht Bq;refine⟨(Is r6).getD r6,Lw SO fun q e=>Kn SO e,?_,?_⟩
   ·rw[hn,Co (Gy:=by omega)]
    repeat(with_reducible(first|apply Ba|apply A0|apply A8|apply A2|apply Bi|apply Az|apply A9|apply Ix);· first|constructor|(simp(disch:=omega)only[I8,he0,hp0,hg,Hn,Km]<;>first|constructor|omega)|omega)
    try simp(disch:=omega)only[Aa,he0,hp0,hg,Hn,Km]
    try rfl
   ·rw[hn];intro q e;rw[e];rfl
theorem A6s{t t0:ByteArray}{r:Aj}{a:Int}{m:Option Aj}(h:Dy t r)(ht:t.size<=1000000)(Bq:t.size+1<=fu)(hm:m=VP r):∃r',Dy t r'/\Dp fu (Ac C0 prog fu (d+3)) t0 a fu t (B4 t r)=some ⟨[C9 (m.isSome)],[Da t r']⟩/\∀q,m=some q->r'=q:=by
 rw[QX] at hm;rcases hd:A6 [46] r with _|r3
 ·have hd0:=Nb (fu:=fu) (d:=d) 46 46 rfl h ht hd;rw[hd] at hm;obtain⟨r9,S9,e9,u9⟩:=A5k (fu:=fu) (d:=d) (t0:=t0) (a:=a) h ht Bq hm;refine⟨r9,S9,?_,u9⟩;rw[Ej (Gy:=by omega)]
  repeat(with_reducible(first|apply Ba|apply A0|apply A8|apply A2|apply Bi|apply Az|apply A9|apply Ix);· first|constructor|(simp(disch:=omega)only[I8,hd0,e9,Hn,Km]<;>first|constructor|omega)|omega)
  try simp(disch:=omega)only[Aa,hd0,e9,Hn,Km]
 ·have hd0:=Hu (fu:=fu) (d:=d) 46 46 rfl h ht hd;have hS3:=Bg h hd;rw[hd] at hm;have hm:m=(Is r3).bind NE:=hm;have hd1:=Ud (d:=d+1) hS3 ht Bq;rcases hdd:Is r3 with _|r4
  ·rw[hdd] at hd1 hm;have OL:Ac C0 prog fu (d+3) 183 [.pbox (Da t r3)]=some ⟨[C9 false],[Da t r3]⟩:=hd1;have hn:m=none:=hm;refine⟨r3,hS3,?_,?_⟩
   ·rw[hn,Ej (Gy:=by omega)]
    repeat(with_reducible(first|apply Ba|apply A0|apply A8|apply A2|apply Bi|apply Az|apply A9|apply Ix);· first|constructor|(simp(disch:=omega)only[I8,hd0,OL,Hn,Km]<;>first|constructor|omega)|omega)
    try simp(disch:=omega)only[Aa,hd0,OL,Hn,Km]
    try rfl
   ·rw[hn];intro q e;cases e
  ·rw[hdd] at hd1 hm;have OL:Ac C0 prog fu (d+3) 183 [.pbox (Da t r3)]=some ⟨[C9 true],[Da t r4]⟩:=hd1;obtain⟨r9,S9,e9,u9⟩:=A5k (fu:=fu) (d:=d) (t0:=t0) (a:=a) (Kn hS3 hdd) ht Bq hm;refine⟨r9,S9,?_,u9⟩;rw[Ej (Gy:=by omega)]
   repeat(with_reducible(first|apply Ba|apply A0|apply A8|apply A2|apply Bi|apply Az|apply A9|apply Ix);· first|constructor|(simp(disch:=omega)only[I8,hd0,OL,e9,Hn,Km]<;>first|constructor|omega)|omega)
   try simp(disch:=omega)only[Aa,hd0,OL,e9,Hn,Km]
theorem An1{t:ByteArray}{r:Aj}(h:Dy t r)(ht:t.size<=1000000)(Bq:t.size+1<=fu):∃r',Dy t r'/\Ac C0 prog fu (d+4) 163 [.pbox (Da t r)]=some ⟨[C9 ((XF r).isSome)],[Da t r']⟩/\∀q,XF r=some q->r'=q:=by
 have a0:=VY (fu:=fu) (d:=d) 45 45 rfl h ht;have hS1:Dy t ((A6 [45] r).getD r):=Lw h fun q e=>Bg h e;obtain⟨m,hm⟩:∃m,m=XF r:=⟨_,rfl⟩
 have GS:m=(Av2 ((A6 [45] r).getD r)).bind VP:=by rw[hm,<-IR];rfl
 rw[<-hm];generalize (A6 [45] r).getD r=r1 at a0 hS1 GS;generalize (A6 [45] r).isSome=b0 at a0;rw[UO] at GS;rcases hz:A6 [48] r1 with _|r2
 ·have hz0:=Nb (fu:=fu) (d:=d) 48 48 rfl hS1 ht hz;rw[hz] at GS;have hz1:=Ud (d:=d+1) hS1 ht Bq;rcases hzd:Is r1 with _|r2
  ·simp only[hzd] at hz1 GS;have ZX:Ac C0 prog fu (d+3) 183 [.pbox (Da t r1)]=some ⟨[C9 false],[Da t r1]⟩:=hz1;have hn:m=none:=GS;refine⟨r1,hS1,?_,?_⟩
   ·rw[hn,E6]
    repeat(with_reducible(first|apply Ba|apply A0|apply A8|apply A2|apply Bi|apply Az|apply A9|apply Ix);· first|constructor|(simp(disch:=omega)only[I8,a0,hz0,ZX,Hn,Km]<;>first|constructor|omega)|omega)
    try simp(disch:=omega)only[Aa,a0,hz0,ZX,Hn,Km]
    try rfl
   ·rw[hn];intro q e;cases e
  ·simp only[hzd] at hz1 GS;have ZX:Ac C0 prog fu (d+3) 183 [.pbox (Da t r1)]=some ⟨[C9 true],[Da t r2]⟩:=hz1;obtain⟨r9,S9,e9,u9⟩:=A6s (fu:=fu) (d:=d) (t0:=t) (a:=(B4 t r)) (Kn hS1 hzd) ht Bq GS;refine⟨r9,S9,?_,u9⟩;rw[E6]
   repeat(with_reducible(first|apply Ba|apply A0|apply A8|apply A2|apply Bi|apply Az|apply A9|apply Ix);· first|constructor|(simp(disch:=omega)only[I8,a0,hz0,ZX,e9,Hn,Km]<;>first|constructor|omega)|omega)
   try simp(disch:=omega)only[Aa,a0,hz0,ZX,e9,Hn,Km]
 ·have hz0:=Hu (fu:=fu) (d:=d) 48 48 rfl hS1 ht hz;rw[hz] at GS;obtain⟨r9,S9,e9,u9⟩:=A6s (fu:=fu) (d:=d) (t0:=t) (a:=(B4 t r)) (Bg hS1 hz) ht Bq GS;refine⟨r9,S9,?_,u9⟩;rw[E6]
  repeat(with_reducible(first|apply Ba|apply A0|apply A8|apply A2|apply Bi|apply Az|apply A9|apply Ix);· first|constructor|(simp(disch:=omega)only[I8,a0,hz0,e9,Hn,Km]<;>first|constructor|omega)|omega)
  try simp(disch:=omega)only[Aa,a0,hz0,e9,Hn,Km]
end
theorem Dy.trans{t:ByteArray}{r q:Aj}(h:Dy t r)(k:Dy (Ab r) q):Dy t q:=by obtain⟨pre,k⟩:=k;rw[C8 h.B] at k;rw[k] at h;exact h.app
theorem Dy.self{l:Aj}(h:Cp l):Dy (Ab l) l:=⟨[],by rw[C8 h];rfl⟩
theorem Dy.le{l q:Aj}(h:Dy (Ab l) q):q.length<=l.length:=by
 have:=h.len
 rwa [Ag] at this
theorem Dy.up{l m q:Aj}(hl:Cp l)(h:Dy (Ab l) m)(k:Dy (Ab m) q):Dy (Ab l) q:=h.trans k
def Agz(t:ByteArray)(l:Aj)(x:JR (JV × Aj))(res:A1):Prop:=
 match x with
 |.ok (v,q)=>Dy (Ab l) q/\res=⟨[.agg [Aw v.1,Bo (Ab v.2.1),C9 (v.2.2)],Aw 0],[Da t q]⟩
 |.error e=>e≠0/\∃c1 c2 c3 q,Dy t q/\res=⟨[.agg [Aw c1,Bo c2,C9 c3],Aw e],[Da t q]⟩
def A71(t:ByteArray)(l:Aj)(x:JR Aj)(res:A1):Prop:=
 match x with
 |.ok q=>Dy (Ab l) q/\res=⟨[Aw 0],[Da t q]⟩
 |.error e=>e≠0/\∃q,Dy t q/\res=⟨[Aw e],[Da t q]⟩
theorem Ao7{α:Type}(a b:Int)(Tk:a≠b)(A B:Aj->α)(C:α)(x:Aj):
  (match A6 [a] x with|some r=>A r|none=>match A6 [b] x with|some r=>B r|none=>C)=(match x with|[]=>C|y::r=>if y=a then A r else if y=b then B r else C):=by
 rw[Fk,Fk];cases x with
 |nil=>rfl
 |cons y r=>
  by_cases h:y=a
  ·simp[h]
  ·by_cases h2:y=b
   ·subst h2;simp[h]
   ·simp[h,h2]
theorem Apq(V:Aj->JR (JV × Aj))(n:Nat)(l:Aj):WA V (n+1) l=match V l with
  |.error e=>.error e
  |.ok (_,r)=>match A6 [93] (Bd r) with
   |some r'=>.ok r'
   |none=>match A6 [44] (Bd r) with
    |some r'=>WA V n (Bd r')
    |none=>.error 2:=by
 show (match V l with | .error e=>_ | .ok (_,r)=>_)=_;cases V l with
 |error e=>rfl
 |ok x=>
  obtain⟨v,r⟩:=x;simp only;rw[Ao7 93 44 (by decide) (fun r'=>Except.ok r') (fun r'=>WA V n (Bd r')) (Except.error 2)];cases Bd r with
  |nil=>rfl
  |cons y r=>
   by_cases h:y=93
   ·subst h;rfl
   ·by_cases h2:y=44
    ·subst h2;rfl
    ·simp only[Bl h,Bl h2];split
     ·rename_i e;injection e with e1 _;exact absurd e1 h
     ·rename_i e;injection e with e1 _;exact absurd e1 h2
     ·rfl
section
variable {fu d:Nat}
theorem Apt{t s0:ByteArray}{p0 D0 D:Int}(ht:t.size<=1000000)(Bq:t.size+1<=fu)(V:Aj->JR (JV × Aj))(HV:∀r,Dy t r->∃res,Ac C0 prog fu (d+3) 140 [.pbox (Da t r),Aw D]=some res/\Agz t r (V r) res):∀(n nn:Nat)(l:Aj),l.length+1<=n->l.length+1<=nn->Dy t l ->
  ∃res,Dv fu (Ac C0 prog fu (d+3)) s0 p0 D0 nn D t (B4 t l:Int)=some res/\A71 t l (WA V n l) res:=by
 intro n
 induction n with
 |zero=>intro nn l h1;omega
 |succ n ih=>
  intro nn l hn Gy h;obtain⟨k,rfl⟩:∃k,nn=k+1:=⟨nn-1,by omega⟩
  obtain⟨rv,ev,hv⟩:=HV l h;rw[Apq,Lu];cases hV:V l with
  |error e=>
   rw[hV] at hv;obtain⟨he,c1,c2,c3,q,hq,rfl⟩:=hv;have hb:(e != (0:Int))=true:=by simp[he]
   refine⟨⟨[Aw e],[Da t q]⟩,?_,he,q,hq,rfl⟩
   repeat(with_reducible(first|apply Ba|apply A0|apply A8|apply A2|apply Bi|apply Kv|apply Az|apply A9|apply Ix);· first|constructor|(simp(disch:=omega)only[I8,ev,hb]<;>first|constructor|omega)|omega)
   try simp(disch:=omega)only[Aa,ev,hb]
  |ok x=>
   obtain⟨v,q⟩:=x;rw[hV] at hv;obtain⟨hq,rfl⟩:=hv;have hqt:=h.trans hq;have hs:=Vi (fu:=fu) (d:=d) hqt ht Bq;have JM:Ac C0 prog fu (d+3) 119 [.pbox (Da t q)]=some ⟨[],[Da t (Bd q)]⟩:=hs;have hqs:=B9 hqt;have A7l:=B9 hq;have hb:((0:Int) != (0:Int))=false:=rfl;simp only;cases h1:A6 [93] (Bd q) with
   |some r'=>
    have a1:=Hu (fu:=fu) (d:=d) 93 93 rfl hqs ht h1;refine⟨⟨[Aw 0],[Da t r']⟩,?_,Bg A7l h1,rfl⟩
    repeat(with_reducible(first|apply Ba|apply A0|apply A8|apply A2|apply Bi|apply Kv|apply Az|apply A9|apply Ix);· first|constructor|(simp(disch:=omega)only[I8,ev,hb,JM,a1]<;>first|constructor|omega)|omega)
    try simp(disch:=omega)only[Aa,ev,hb,JM,a1]
   |none=>
    have a1:=Nb (fu:=fu) (d:=d) 93 93 rfl hqs ht h1;cases h2:A6 [44] (Bd q) with
    |none=>
     have a2:=Nb (fu:=fu) (d:=d) 44 44 rfl hqs ht h2;refine⟨⟨[Aw 2],[Da t (Bd q)]⟩,?_,by decide,Bd q,hqs,rfl⟩
     repeat(with_reducible(first|apply Ba|apply A0|apply A8|apply A2|apply Bi|apply Kv|apply Az|apply A9|apply Ix);· first|constructor|(simp(disch:=omega)only[I8,ev,hb,JM,a1,a2,Km]<;>first|constructor|omega)|omega)
     try simp(disch:=omega)only[Aa,ev,hb,JM,a1,a2,Km]
    |some r'=>
     have a2:=Hu (fu:=fu) (d:=d) 44 44 rfl hqs ht h2;have hr:=Bg hqs h2;have VW:=Bg A7l h2;have hs3:Ac C0 prog fu (d+3) 119 [.pbox (Da t r')]=some ⟨[],[Da t (Bd r')]⟩:=Vi (fu:=fu) (d:=d) hr ht Bq
     have hlr:(Bd r').length+1<=l.length:=by
      have e1:=hq.le;have e2:=X7 q;have e3:=X7 r'
      have e4:r'.length+1<=(Bd q).length:=by
       rw[Fk] at h2
       revert h2
       cases Bd q with
       |nil=>intro h2;cases h2
       |cons y s=>
        intro h2;simp only at h2;split at h2
        ·cases h2;simp
        ·cases h2
      omega
     obtain⟨res,e5,h5⟩:=ih k (Bd r') (by omega) (by omega) (B9 hr);refine⟨res,?_,?_⟩
     ·skip
      repeat(with_reducible(first|apply Ba|apply A0|apply A8|apply A2|apply Bi|apply Kv|apply Az|apply A9|apply Ix);· first|constructor|(simp(disch:=omega)only[I8,ev,hb,JM,a1,a2,hs3,Hn]<;>first|constructor|omega)|omega)
      try simp(disch:=omega)only[Aa,ev,hb,JM,a1,a2,hs3,Hn]
      exact e5
     ·simp only;have hup:Dy (Ab l) (Bd r'):=B9 VW
      revert h5
      cases WA V n (Bd r') with
      |error e=>exact id
      |ok q2=>exact fun h5=>⟨hup.trans h5.1,h5.2⟩
end
theorem Ack{c:Int}{x r:Aj}(h:A6 [c] x=some r):r.length+1<=x.length:=by
 rw[Fk] at h
 revert h
 cases x with
 |nil=>intro h;cases h
 |cons y s=>
  intro h;simp only at h;split at h
  ·cases h;simp
  ·cases h
theorem DK(V:Aj->JR (JV × Aj))(kp:Bool)(n:Nat)(ms:List (Aj × JV))(l:Aj):Xh V kp (n+1) ms l=match F1 l with
  |(none,_)=>.error 2
  |(some nm,r)=>if (kp&&ms.any fun m=>m.1==nm)=true then .error 10 else match A6 [58] (Bd r) with
   |none=>.error 2
   |some r1=>match V (Bd r1) with
    |.error e=>.error e
    |.ok (v,r2)=>match A6 [125] (Bd r2) with
     |some r3=>.ok (ms++[(nm,v)],r3)
     |none=>match A6 [44] (Bd r2) with
      |some r3=>Xh V kp n (ms++[(nm,v)]) (Bd r3)
      |none=>.error 2:=by
 show (match A06 V (fun nm=>kp&&ms.any fun m=>m.1==nm) l with | .error e=>_ | .ok (m,r)=>_)=_;unfold A06 EU;rcases F1 l with⟨o,r⟩;cases o with
 |none=>rfl
 |some nm=>
  simp only;by_cases hd:(kp&&ms.any fun m=>m.1==nm)=true
  rotate_left
  ·simp only[Bl hd];rw[Fk];cases Bd r with
   |nil=>rfl
   |cons y s=>
    by_cases h:y=58
    ·subst h;simp only[if_true];cases V (Bd s) with
     |error e=>rfl
     |ok x=>
      obtain⟨v,r2⟩:=x;simp only;rw[Fk,Fk];cases Bd r2 with
      |nil=>rfl
      |cons y s=>
       by_cases h:y=125
       ·subst h;simp
       ·by_cases h2:y=44
        ·subst h2;simp
        ·simp only[Bl h,Bl h2];split
         ·rename_i e;injection e with e1 _;exact absurd e1 h
         ·rename_i e;injection e with e1 _;exact absurd e1 h2
         ·rfl
    ·simp only[Bl h];split
     ·rename_i e;split at e
      ·rename_i e2;injection e2 with e1 _;exact absurd e1 h
      ·cases e;rfl
     ·rename_i e;split at e
      ·rename_i e2;injection e2 with e1 _;exact absurd e1 h
      ·cases e
  ·simp only[Cy hd]
def A6j{α:Type}(t:ByteArray)(l:Aj)(x:JR (α × Aj))(res:A1):Prop:=
 match x with
 |.ok (_,q)=>Dy (Ab l) q/\res=⟨[Aw 0],[Da t q]⟩
 |.error e=>e≠0/\∃q,Dy t q/\res=⟨[Aw e],[Da t q]⟩
section
variable {fu d:Nat}
theorem Axj{t:ByteArray}{r:Aj}(h:Dy t r)(ht:t.size<=1000000):Ac C0 prog fu (d+1) 139 [.pbox (Da t r)]=some ⟨[Bo (Ab ((F1 r).1.getD [])),C9 ((F1 r).1.isSome)],[Da t (F1 r).2]⟩:=by
 have e0:Ac C0 prog fu (d+1) 139 [.pbox (Da t r)]=Ana [.pbox (Da t r)]:=rfl;have hl:=h.len
 have e1:(decide ((0:Int)<=(B4 t r:Int))&&decide ((B4 t r:Int)<=t.size)&&Nat.ble t.size 1000000)=true:=by
  simp only[Er,Xi,Nat.ble_eq];unfold B4;omega
 have e2:(Ci t).drop (B4 t r:Int).toNat=r:=by rw[Jg];exact h.eq.symm
 have hq:=(Jc h).len;rw[e0];unfold Ana;simp only[e1,cond_true,e2];rcases hx:F1 r with⟨o,q⟩;rw[hx] at hq;have e3:(t.size:Int)-q.length=(B4 t q:Int):=by unfold B4;simp only at hq;omega
 cases o with
 |none=>simp only[e3];rfl
 |some s=>simp only[e3];rfl
theorem A3k{t:ByteArray}{D:Int}(ht:t.size<=1000000)(Bq:t.size+1<=fu)(V:Aj->JR (JV × Aj))(HV:∀r,Dy t r->∃res,Ac C0 prog fu (d+3) 140 [.pbox (Da t r),Aw D]=some res/\Agz t r (V r) res){l:Aj}(h:Dy t (91::l)):
  ∃res,Ac C0 prog fu (d+4) 162 [.pbox (Da t (91::l)),Aw D]=some res/\A71 t l (Alg V l) res:=by
 have a0:=Hu (fu:=fu) (d:=d) (q:=l) 91 91 rfl h ht (by rw[Fk];rfl)
 have hs:Ac C0 prog fu (d+3) 119 [.pbox (Da t l)]=some ⟨[],[Da t (Bd l)]⟩:=Vi (fu:=fu) (d:=d) h.tail ht Bq;have hS:=B9 h.tail;have hS2:=B9 (Dy.self h.tail.B)
 have eA:Alg V l=match A6 [93] (Bd l) with|some r=>.ok r|none=>WA V ((Bd l).length+1) (Bd l):=by
  unfold Alg;rw[Fk];cases Bd l with
  |nil=>rfl
  |cons y s=>
   by_cases hy:y=93
   ·subst hy;rfl
   ·simp only[Bl hy];split
    ·rename_i e;injection e with e1 _;exact absurd e1 hy
    ·rfl
 have er:=N0 (p:=pN) fu (d+3) t (B4 t (91::l):Int) D;rw[eA];cases h1:A6 [93] (Bd l) with
 |some r=>
  have a1:=Hu (fu:=fu) (d:=d) 93 93 rfl hS ht h1;refine⟨⟨[Aw 0],[Da t r]⟩,er.trans ?_,Bg hS2 h1,rfl⟩
  repeat(with_reducible(first|apply Ba|apply A0|apply A8|apply A2|apply Bi|apply Az|apply A9|apply Ix);· first|constructor|(simp(disch:=omega)only[I8,a0,hs,a1,Hn]<;>first|constructor|omega)|omega)
  try simp(disch:=omega)only[Aa,a0,hs,a1,Hn]
 |none=>
  have a1:=Nb (fu:=fu) (d:=d) 93 93 rfl hS ht h1;obtain⟨res,e5,h5⟩:=Apt (fu:=fu) (d:=d) (s0:=t) (p0:=(B4 t (91::l):Int)) (D0:=D) ht Bq V HV ((Bd l).length+1) fu (Bd l) (Cn _) (by have:=hS.len;omega) hS
  refine⟨res,er.trans ?_,?_⟩
  ·skip
   repeat(with_reducible(first|apply Ba|apply A0|apply A8|apply A2|apply Bi|apply Az|apply A9|apply Ix);· first|constructor|(simp(disch:=omega)only[I8,a0,hs,a1,Hn]<;>first|constructor|omega)|omega)
   try simp(disch:=omega)only[Aa,a0,hs,a1,Hn]
   exact e5
  ·simp only
   revert h5
   cases WA V ((Bd l).length+1) (Bd l) with
   |error e=>exact id
   |ok q2=>exact fun h5=>⟨hS2.trans h5.1,h5.2⟩
end
section
variable {fu d:Nat}
theorem Apx{t s0:ByteArray}{p0 D0 D:Int}(ht:t.size<=1000000)(Bq:t.size+1<=fu)(V:Aj->JR (JV × Aj))(HV:∀r,Dy t r->∃res,Ac C0 prog fu (d+3) 140 [.pbox (Da t r),Aw D]=some res/\Agz t r (V r) res):∀(n nn:Nat)(ms:List (Aj × JV)) (l:Aj),l.length+1<=n->l.length+1<=nn->Dy t l ->
  ∃res,Do fu (Ac C0 prog fu (d+3)) s0 p0 D0 nn D t (B4 t l:Int)=some res/\A6j t l (Xh V false n ms l) res:=by
 intro n
 induction n with
 |zero=>intro nn ms l h1;omega
 |succ n ih=>
  intro nn ms l hn Gy h;obtain⟨k,rfl⟩:∃k,nn=k+1:=⟨nn-1,by omega⟩
  have er:Ac C0 prog fu (d+3) 139 [.pbox (Da t l)]=_:=Axj (d:=d+2) h ht;have hts:=Jc h;have YT:=Jc (Dy.self h.B);rw[DK,Ln];rcases hx:F1 l with⟨o,q⟩;rw[hx] at er hts YT;cases o with
  |none=>
   have er2:Ac C0 prog fu (d+3) 139 [.pbox (Da t l)]=some ⟨[Bo (Ab []),C9 false],[Da t q]⟩:=er;refine⟨⟨[Aw 2],[Da t q]⟩,?_,by decide,q,hts,rfl⟩
   repeat(with_reducible(first|apply Ba|apply A0|apply A8|apply A2|apply Bi|apply Kv|apply Az|apply A9|apply Ix);· first|constructor|(simp(disch:=omega)only[I8,er2,Km]<;>first|constructor|omega)|omega)
   try simp(disch:=omega)only[Aa,er2,Km]
  |some nm=>
   have er2:Ac C0 prog fu (d+3) 139 [.pbox (Da t l)]=some ⟨[Bo (Ab nm),C9 true],[Da t q]⟩:=er;simp only at hts YT;have JM:Ac C0 prog fu (d+3) 119 [.pbox (Da t q)]=some ⟨[],[Da t (Bd q)]⟩:=Vi (fu:=fu) (d:=d) hts ht Bq;have KX:=B9 hts;have Oc:=B9 YT;simp only[RH,Bool.false_eq_true,if_false];cases h1:A6 [58] (Bd q) with
   |none=>
    have a1:=Nb (fu:=fu) (d:=d) 58 58 rfl KX ht h1;refine⟨⟨[Aw 2],[Da t (Bd q)]⟩,?_,by decide,Bd q,KX,rfl⟩
    repeat(with_reducible(first|apply Ba|apply A0|apply A8|apply A2|apply Bi|apply Kv|apply Az|apply A9|apply Ix);· first|constructor|(simp(disch:=omega)only[I8,er2,JM,a1,Hn,Km]<;>first|constructor|omega)|omega)
    try simp(disch:=omega)only[Aa,er2,JM,a1,Hn,Km]
   |some r1=>
    have a1:=Hu (fu:=fu) (d:=d) 58 58 rfl KX ht h1;have RE:=Bg KX h1;have VW:=Bg Oc h1;have hs3:Ac C0 prog fu (d+3) 119 [.pbox (Da t r1)]=some ⟨[],[Da t (Bd r1)]⟩:=Vi (fu:=fu) (d:=d) RE ht Bq;have hv1:=B9 RE;have hv2:=B9 VW;obtain⟨rv,ev,hv⟩:=HV (Bd r1) hv1;simp only;cases hV:V (Bd r1) with
    |error e=>
     rw[hV] at hv;obtain⟨he,c1,c2,c3,q3,hq3,rfl⟩:=hv;have hb:(e != (0:Int))=true:=by simp[he]
     refine⟨⟨[Aw e],[Da t q3]⟩,?_,he,q3,hq3,rfl⟩
     repeat(with_reducible(first|apply Ba|apply A0|apply A8|apply A2|apply Bi|apply Kv|apply Az|apply A9|apply Ix);· first|constructor|(simp(disch:=omega)only[I8,er2,JM,a1,hs3,ev,hb,Hn]<;>first|constructor|omega)|omega)
     try simp(disch:=omega)only[Aa,er2,JM,a1,hs3,ev,hb,Hn]
    |ok x=>
     obtain⟨v,r2⟩:=x;rw[hV] at hv;obtain⟨hq3,rfl⟩:=hv;have hb:((0:Int) != (0:Int))=false:=rfl;have hw1:=hv1.trans hq3;have hw2:=hv2.trans hq3;have hs4:Ac C0 prog fu (d+3) 119 [.pbox (Da t r2)]=some ⟨[],[Da t (Bd r2)]⟩:=Vi (fu:=fu) (d:=d) hw1 ht Bq;have hz1:=B9 hw1;have ZX:=B9 hw2;simp only;cases h2:A6 [125] (Bd r2) with
     |some r3=>
      have a2:=Hu (fu:=fu) (d:=d) 125 125 rfl hz1 ht h2;refine⟨⟨[Aw 0],[Da t r3]⟩,?_,Bg ZX h2,rfl⟩
      repeat(with_reducible(first|apply Ba|apply A0|apply A8|apply A2|apply Bi|apply Kv|apply Az|apply A9|apply Ix);· first|constructor|(simp(disch:=omega)only[I8,er2,JM,a1,hs3,ev,hb,hs4,a2,Hn]<;>first|constructor|omega)|omega)
      try simp(disch:=omega)only[Aa,er2,JM,a1,hs3,ev,hb,hs4,a2,Hn]
     |none=>
      have a2:=Nb (fu:=fu) (d:=d) 125 125 rfl hz1 ht h2;cases h3:A6 [44] (Bd r2) with
      |none=>
       have a3:=Nb (fu:=fu) (d:=d) 44 44 rfl hz1 ht h3;refine⟨⟨[Aw 2],[Da t (Bd r2)]⟩,?_,by decide,Bd r2,hz1,rfl⟩
       repeat(with_reducible(first|apply Ba|apply A0|apply A8|apply A2|apply Bi|apply Kv|apply Az|apply A9|apply Ix);· first|constructor|(simp(disch:=omega)only[I8,er2,JM,a1,hs3,ev,hb,hs4,a2,a3,Hn,Km]<;>first|constructor|omega)|omega)
       try simp(disch:=omega)only[Aa,er2,JM,a1,hs3,ev,hb,hs4,a2,a3,Hn,Km]
      |some r3=>
       have a3:=Hu (fu:=fu) (d:=d) 44 44 rfl hz1 ht h3;have hy1:=Bg hz1 h3;have hy2:=Bg ZX h3;have hs5:Ac C0 prog fu (d+3) 119 [.pbox (Da t r3)]=some ⟨[],[Da t (Bd r3)]⟩:=Vi (fu:=fu) (d:=d) hy1 ht Bq
       have hlr:(Bd r3).length+1<=l.length:=by
        have e1:=ZX.le;have e2:=X7 r3;have e3:=Ack h3;omega
       obtain⟨res,e5,h5⟩:=ih k (ms++[(nm,v)]) (Bd r3) (by omega) (by omega) (B9 hy1);refine⟨res,?_,?_⟩
       ·skip
        repeat(with_reducible(first|apply Ba|apply A0|apply A8|apply A2|apply Bi|apply Kv|apply Az|apply A9|apply Ix);· first|constructor|(simp(disch:=omega)only[I8,er2,JM,a1,hs3,ev,hb,hs4,a2,a3,hs5,Hn]<;>first|constructor|omega)|omega)
        try simp(disch:=omega)only[Aa,er2,JM,a1,hs3,ev,hb,hs4,a2,a3,hs5,Hn]
        exact e5
       ·simp only;have hup:Dy (Ab l) (Bd r3):=B9 hy2
        revert h5
        cases Xh V false n (ms++[(nm,v)]) (Bd r3) with
        |error e=>exact id
        |ok q2=>exact fun h5=>⟨hup.trans h5.1,h5.2⟩
theorem A4m{t:ByteArray}{D:Int}(ht:t.size<=1000000)(Bq:t.size+1<=fu)(V:Aj->JR (JV × Aj))(HV:∀r,Dy t r->∃res,Ac C0 prog fu (d+3) 140 [.pbox (Da t r),Aw D]=some res/\Agz t r (V r) res){l:Aj}(h:Dy t (123::l)):
  ∃res,Ac C0 prog fu (d+4) 120 [.pbox (Da t (123::l)),Aw D,.sc (.map none)]=some res/\A6j t l (DO V false l) res:=by
 have a0:=Hu (fu:=fu) (d:=d) (q:=l) 123 123 rfl h ht (by rw[Fk];rfl)
 have hs:Ac C0 prog fu (d+3) 119 [.pbox (Da t l)]=some ⟨[],[Da t (Bd l)]⟩:=Vi (fu:=fu) (d:=d) h.tail ht Bq;have hS:=B9 h.tail;have hS2:=B9 (Dy.self h.tail.B)
 have eA:DO V false l=match A6 [125] (Bd l) with|some r=>.ok ([],r)|none=>Xh V false ((Bd l).length+1) [] (Bd l):=by
  unfold DO;rw[Fk];cases Bd l with
  |nil=>rfl
  |cons y s=>
   by_cases hy:y=125
   ·subst hy;rfl
   ·simp only[Bl hy];split
    ·rename_i e;injection e with e1 _;exact absurd e1 hy
    ·rfl
 have er:=Nt (p:=pN) fu (d+3) t (B4 t (123::l):Int) D;rw[eA];cases h1:A6 [125] (Bd l) with
 |some r=>
  have a1:=Hu (fu:=fu) (d:=d) 125 125 rfl hS ht h1;refine⟨⟨[Aw 0],[Da t r]⟩,er.trans ?_,Bg hS2 h1,rfl⟩
  repeat(with_reducible(first|apply Ba|apply A0|apply A8|apply A2|apply Bi|apply Kv|apply Az|apply A9|apply Ix);· first|constructor|(simp(disch:=omega)only[I8,a0,hs,a1,Hn]<;>first|constructor|omega)|omega)
  try simp(disch:=omega)only[Aa,a0,hs,a1,Hn]
 |none=>
  have a1:=Nb (fu:=fu) (d:=d) 125 125 rfl hS ht h1;obtain⟨res,e5,h5⟩:=Apx (fu:=fu) (d:=d) (s0:=t) (p0:=(B4 t (123::l):Int)) (D0:=D) ht Bq V HV ((Bd l).length+1) fu [] (Bd l) (Cn _) (by have:=hS.len;omega) hS
  refine⟨res,er.trans ?_,?_⟩
  ·skip
   repeat(with_reducible(first|apply Ba|apply A0|apply A8|apply A2|apply Bi|apply Kv|apply Az|apply A9|apply Ix);· first|constructor|(simp(disch:=omega)only[I8,a0,hs,a1,Hn]<;>first|constructor|omega)|omega)
   try simp(disch:=omega)only[Aa,a0,hs,a1,Hn]
   exact e5
  ·simp only
   revert h5
   cases Xh V false ((Bd l).length+1) [] (Bd l) with
   |error e=>exact id
   |ok q2=>exact fun h5=>⟨hS2.trans h5.1,h5.2⟩
end
def A1u(l:Aj):JR (JV × Aj):=
 match A6 [116,114,117,101] l with
 |some r=>.ok ((2,[],true),r)
 |none=>match A6 [102,97,108,115,101] l with
  |some r=>.ok ((2,[],false),r)
  |none=>match A6 [110,117,108,108] l with
   |some r=>.ok ((1,[],false),r)
   |none=>match XF l with
    |some r=>.ok ((3,[],false),r)
    |none=>.error 2
theorem TI(k:Nat){l:Aj}(h1:WE l≠123)(h2:WE l≠91)(h3:WE l≠34):Gu k l=A1u l:=by
 unfold Gu;split
 ·exact absurd rfl h1
 ·exact absurd rfl h2
 ·exact absurd rfl h3
 ·rfl
theorem Aoj{l r:Aj}(h:Cp l)(e:XF l=some r):Dy (Ab l) r:=by
 have h0:=Dy.self h;have e0:XF l=(Av2 (Ar7 45 l)).bind VP:=rfl;rw[e0,IR,UO] at e;have h1:Dy (Ab l) ((A6 [45] l).getD l):=Lw h0 fun q e=>Bg h0 e
 have hE:∀x q,Dy (Ab l) x->NE x=some q->Dy (Ab l) q:=by
  have hT:∀x q,Dy (Ab l) x->RA x=some q->Dy (Ab l) q:=by
   intro x q hx e;unfold RA at e;split at e
   ·rename_i hw;exact Kn (Bg hx hw) e
   ·exact Kn (Lw hx fun q e=>Bg hx e) e
  intro x q hx e;rw[TM] at e;split at e
  ·rename_i hw;exact hT _ _ (Bg hx hw) e
  ·split at e
   ·rename_i hw;exact hT _ _ (Bg hx hw) e
   ·cases e;exact hx
 have hF:∀x q,Dy (Ab l) x->VP x=some q->Dy (Ab l) q:=by
  intro x q hx e;rw[QX] at e;split at e
  ·rename_i hw;obtain⟨y,hy,e⟩:=Option.bind_eq_some_iff.1 e;exact hE _ _ (Kn (Bg hx hw) hy) e
  ·exact hE _ _ hx e
 obtain⟨y,hy,e⟩:=Option.bind_eq_some_iff.1 e;split at hy
 ·rename_i hw;cases hy;exact hF _ _ (Bg h1 hw) e
 ·exact hF _ _ (Kn h1 hy) e
section
variable {fu d:Nat}
theorem A0m{t:ByteArray}{r:Aj}(w:Aj)(lit:ByteArray)(hw:Ab w=lit)(hB:Cp w)(hl:w.length<=100)(h:Dy t r)(ht:t.size<=1000000):Ac C0 prog fu (d+3) 138 [.pbox (Da t r),Bo lit]=some ⟨[C9 ((A6 w r).isSome)],[Da t ((A6 w r).getD r)]⟩:=by subst hw;have e:=Y7 (fu:=fu) (d:=d) (xs:=xs0) h ht (w:=w) hB hl;refine e.trans ?_;cases A6 w r<;>rfl
theorem Aqi{t:ByteArray}(ht:t.size<=1000000)(Bq:t.size+1<=fu){D:Int}{l:Aj}(h:Dy t l)(h1:WE l≠123)(h2:WE l≠91)(h3:WE l≠34):∃res,Ac C0 prog fu (d+5) 140 [.pbox (Da t l),Aw D]=some res/\Agz t l (A1u l) res:=by
 have er:=Ch (p:=pN) fu (d+4) t (B4 t l:Int) D;have pk:Ac C0 prog fu (d+4) 161 [.pbox (Da t l)]=some ⟨[.sc (.int .u8 (WE l))],[Da t l]⟩:=Q3 (xs:=xs0) (d:=d+3) h;have b1:(WE l==(123:Int))=false:=by simp[h1]
 have b2:(WE l==(91:Int))=false:=by simp[h2]
 have b3:(WE l==(34:Int))=false:=by simp[h3]
 have Aqg:=Dy.self h.B;have a1:=A0m (fu:=fu) (d:=d+1) [116,114,117,101] (ByteArray.mk #[116,114,117,101]) rfl (fun x hx=>by simp at hx;omega) (by decide) h ht
 have a2:=A0m (fu:=fu) (d:=d+1) [102,97,108,115,101] (ByteArray.mk #[102,97,108,115,101]) rfl (fun x hx=>by simp at hx;omega) (by decide) h ht
 have a3:=A0m (fu:=fu) (d:=d+1) [110,117,108,108] (ByteArray.mk #[110,117,108,108]) rfl (fun x hx=>by simp at hx;omega) (by decide) h ht
 obtain⟨rn,hrn,en,hn⟩:=An1 (fu:=fu) (d:=d) h ht Bq;have en2:Ac C0 prog fu (d+4) 163 [.pbox (Da t l)]=some ⟨[C9 ((XF l).isSome)],[Da t rn]⟩:=en;unfold A1u;cases q1:A6 [116,114,117,101] l with
 |some r=>
  rw[q1] at a1;have a1':Ac C0 prog fu (d+4) 138 [.pbox (Da t l),Bo ⟨#[116,114,117,101]⟩]=some ⟨[C9 true],[Da t r]⟩:=a1;refine⟨_,er.trans ?_,Bg Aqg q1,rfl⟩
  repeat(with_reducible(first|apply Ba|apply A0|apply A8|apply A2|apply Bi|apply Az|apply A9|apply Ix);· first|constructor|(simp(disch:=omega)only[I8,pk,b1,b2,b3,a1']<;>first|constructor|omega)|omega)
  try simp(disch:=omega)only[Aa,pk,b1,b2,b3,a1']
  rfl
 |none=>
  rw[q1] at a1;have a1':Ac C0 prog fu (d+4) 138 [.pbox (Da t l),Bo ⟨#[116,114,117,101]⟩]=some ⟨[C9 false],[Da t l]⟩:=a1;cases q2:A6 [102,97,108,115,101] l with
  |some r=>
   rw[q2] at a2;have a2':Ac C0 prog fu (d+4) 138 [.pbox (Da t l),Bo ⟨#[102,97,108,115,101]⟩]=some ⟨[C9 true],[Da t r]⟩:=a2;refine⟨_,er.trans ?_,Bg Aqg q2,rfl⟩
   repeat(with_reducible(first|apply Ba|apply A0|apply A8|apply A2|apply Bi|apply Az|apply A9|apply Ix);· first|constructor|(simp(disch:=omega)only[I8,pk,b1,b2,b3,a1',a2']<;>first|constructor|omega)|omega)
   try simp(disch:=omega)only[Aa,pk,b1,b2,b3,a1',a2']
   rfl
  |none=>
   rw[q2] at a2;have a2':Ac C0 prog fu (d+4) 138 [.pbox (Da t l),Bo ⟨#[102,97,108,115,101]⟩]=some ⟨[C9 false],[Da t l]⟩:=a2;cases q3:A6 [110,117,108,108] l with
   |some r=>
    rw[q3] at a3;have a3':Ac C0 prog fu (d+4) 138 [.pbox (Da t l),Bo ⟨#[110,117,108,108]⟩]=some ⟨[C9 true],[Da t r]⟩:=a3;refine⟨_,er.trans ?_,Bg Aqg q3,rfl⟩
    repeat(with_reducible(first|apply Ba|apply A0|apply A8|apply A2|apply Bi|apply Az|apply A9|apply Ix);· first|constructor|(simp(disch:=omega)only[I8,pk,b1,b2,b3,a1',a2',a3']<;>first|constructor|omega)|omega)
    try simp(disch:=omega)only[Aa,pk,b1,b2,b3,a1',a2',a3']
    rfl
   |none=>
    rw[q3] at a3;have a3':Ac C0 prog fu (d+4) 138 [.pbox (Da t l),Bo ⟨#[110,117,108,108]⟩]=some ⟨[C9 false],[Da t l]⟩:=a3;cases q4:XF l with
    |some r=>
     rw[q4] at en2;have:=hn r q4;subst this;have en3:Ac C0 prog fu (d+4) 163 [.pbox (Da t l)]=some ⟨[C9 true],[Da t rn]⟩:=en2;refine⟨_,er.trans ?_,Aoj h.B q4,rfl⟩
     repeat(with_reducible(first|apply Ba|apply A0|apply A8|apply A2|apply Bi|apply Az|apply A9|apply Ix);· first|constructor|(simp(disch:=omega)only[I8,pk,b1,b2,b3,a1',a2',a3',en3]<;>first|constructor|omega)|omega)
     try simp(disch:=omega)only[Aa,pk,b1,b2,b3,a1',a2',a3',en3]
     rfl
    |none=>
     rw[q4] at en2;have en3:Ac C0 prog fu (d+4) 163 [.pbox (Da t l)]=some ⟨[C9 false],[Da t rn]⟩:=en2;refine⟨_,er.trans ?_,by decide,0,⟨#[]⟩,false,rn,hrn,rfl⟩
     repeat(with_reducible(first|apply Ba|apply A0|apply A8|apply A2|apply Bi|apply Az|apply A9|apply Ix);· first|constructor|(simp(disch:=omega)only[I8,pk,b1,b2,b3,a1',a2',a3',en3]<;>first|constructor|omega)|omega)
     try simp(disch:=omega)only[Aa,pk,b1,b2,b3,a1',a2',a3',en3]
theorem Av5(k:Nat)(r:Aj):Gu k (34::r)=match F1 (34::r) with|(some s,q)=>.ok ((4,s,false),q)|(none,_)=>.error 2:=by
 have e:Gu k (34::r)=match EU (34::r) with|none=>.error 2|some (s,r')=>.ok ((4,s,false),r'):=by
  cases k<;>rfl
 rw[e];unfold EU;rcases F1 (34::r) with⟨o,q⟩;cases o<;>rfl
theorem Abr{t:ByteArray}(ht:t.size<=1000000)(k:Nat){D:Int}{l:Aj}(h:Dy t (34::l)):∃res,Ac C0 prog fu (d+5) 140 [.pbox (Da t (34::l)),Aw D]=some res/\Agz t (34::l) (Gu k (34::l)) res:=by
 have er:=Ch (p:=pN) fu (d+4) t (B4 t (34::l):Int) D;have pk:Ac C0 prog fu (d+4) 161 [.pbox (Da t (34::l))]=some ⟨[.sc (.int .u8 34)],[Da t (34::l)]⟩:=Q3 (xs:=xs0) (d:=d+3) h;have G0:Ac C0 prog fu (d+4) 139 [.pbox (Da t (34::l))]=_:=Axj (d:=d+3) h ht;have hts:=Jc h;have YT:=Jc (Dy.self h.B);have b1:((34:Int)==(123:Int))=false:=rfl;have b2:((34:Int)==(91:Int))=false:=rfl;have b3:((34:Int)==(34:Int))=true:=rfl;rw[Av5];rcases hx:F1 (34::l) with⟨o,q⟩;rw[hx] at G0 hts YT;cases o with
 |none=>
  have Anf:Ac C0 prog fu (d+4) 139 [.pbox (Da t (34::l))]=some ⟨[Bo (Ab []),C9 false],[Da t q]⟩:=G0;refine⟨_,er.trans ?_,by decide,0,⟨#[]⟩,false,q,hts,rfl⟩
  repeat(with_reducible(first|apply Ba|apply A0|apply A8|apply A2|apply Bi|apply Az|apply A9|apply Ix);· first|constructor|(simp(disch:=omega)only[I8,pk,b1,b2,b3,Anf]<;>first|constructor|omega)|omega)
  try simp(disch:=omega)only[Aa,pk,b1,b2,b3,Anf]
 |some s=>
  have Anf:Ac C0 prog fu (d+4) 139 [.pbox (Da t (34::l))]=some ⟨[Bo (Ab s),C9 true],[Da t q]⟩:=G0;refine⟨_,er.trans ?_,YT,rfl⟩
  repeat(with_reducible(first|apply Ba|apply A0|apply A8|apply A2|apply Bi|apply Az|apply A9|apply Ix);· first|constructor|(simp(disch:=omega)only[I8,pk,b1,b2,b3,Anf]<;>first|constructor|omega)|omega)
  try simp(disch:=omega)only[Aa,pk,b1,b2,b3,Anf]
theorem Aw4{t:ByteArray}(ht:t.size<=1000000)(Bq:t.size+1<=fu):∀(k:Nat)(D:Int),D+k=9->1<=D->∀l,Dy t l->∃res,Ac C0 prog fu (d+2*k+5) 140 [.pbox (Da t l),Aw D]=some res/\Agz t l (Gu k l) res:=by
 intro k
 induction k with
 |zero=>
  intro D hD h1 l h;by_cases g1:WE l=123
  ·cases l with
   |nil=>cases g1
   |cons c l=>
    have g2:c=123:=g1;subst g2;have er:=Ch (p:=pN) fu (d+4) t (B4 t (123::l):Int) D;have pk:Ac C0 prog fu (d+4) 161 [.pbox (Da t (123::l))]=some ⟨[.sc (.int .u8 123)],[Da t (123::l)]⟩:=Q3 (xs:=xs0) (d:=d+3) h;have b1:((123:Int)==(123:Int))=true:=rfl;have b2:decide (D>8)=true:=by simp;omega
    refine⟨_,er.trans ?_,(by decide:(5:Int)≠0),0,⟨#[]⟩,false,123::l,h,rfl⟩
    repeat(with_reducible(first|apply Ba|apply A0|apply A8|apply A2|apply Bi|apply Az|apply A9|apply Ix);· first|constructor|(simp(disch:=omega)only[I8,pk,b1,b2]<;>first|constructor|omega)|omega)
    try simp(disch:=omega)only[Aa,pk,b1,b2]
  ·by_cases g2:WE l=91
   ·cases l with
    |nil=>cases g2
    |cons c l=>
     have g3:c=91:=g2;subst g3;have er:=Ch (p:=pN) fu (d+4) t (B4 t (91::l):Int) D;have pk:Ac C0 prog fu (d+4) 161 [.pbox (Da t (91::l))]=some ⟨[.sc (.int .u8 91)],[Da t (91::l)]⟩:=Q3 (xs:=xs0) (d:=d+3) h;have b0:((91:Int)==(123:Int))=false:=rfl;have b1:((91:Int)==(91:Int))=true:=rfl;have b2:decide (D>8)=true:=by simp;omega
     refine⟨_,er.trans ?_,(by decide:(5:Int)≠0),0,⟨#[]⟩,false,91::l,h,rfl⟩
     repeat(with_reducible(first|apply Ba|apply A0|apply A8|apply A2|apply Bi|apply Az|apply A9|apply Ix);· first|constructor|(simp(disch:=omega)only[I8,pk,b0,b1,b2]<;>first|constructor|omega)|omega)
     try simp(disch:=omega)only[Aa,pk,b0,b1,b2]
   ·by_cases g3:WE l=34
    ·cases l with
     |nil=>cases g3
     |cons c l=>
      have g4:c=34:=g3;subst g4;exact Abr ht 0 h
    ·rw[TI 0 g1 g2 g3];exact Aqi ht Bq h g1 g2 g3
 |succ k ih=>
  intro D hD h1 l h;have HV:=ih (D+1) (by omega) (by omega);by_cases g1:WE l=123
  ·cases l with
   |nil=>cases g1
   |cons c l=>
    have g2:c=123:=g1;subst g2;have er:=Ch (p:=pN) fu (d+2*(k+1)+4) t (B4 t (123::l):Int) D;have pk:Ac C0 prog fu (d+2*(k+1)+4) 161 [.pbox (Da t (123::l))]=some ⟨[.sc (.int .u8 123)],[Da t (123::l)]⟩:=Q3 (xs:=xs0) (d:=d+2*(k+1)+3) h;have b1:((123:Int)==(123:Int))=true:=rfl;have b2:decide (D>8)=false:=by simp;omega
    have w1:wrap .i64 (D+1)=D+1:=Bb;obtain⟨res,e5,h5⟩:=A4m (fu:=fu) (d:=d+2*k+2) (D:=D+1) ht Bq (Gu k) HV h;have e6:Ac C0 prog fu (d+2*(k+1)+4) 120 [.pbox (Da t (123::l)),Aw (D+1),.sc (.map none)]=some res:=e5;have ev:Gu (k+1) (123::l)=match DO (Gu k) false l with | .error e=>.error e | .ok (_,r')=>.ok ((6,[],false),r'):=rfl
    rw[ev];cases ho:DO (Gu k) false l with
    |error e=>
     rw[ho] at h5;obtain⟨he,q,hq,rfl⟩:=h5;refine⟨_,er.trans ?_,he,6,⟨#[]⟩,false,q,hq,rfl⟩
     repeat(with_reducible(first|apply Ba|apply A0|apply A8|apply A2|apply Bi|apply Az|apply A9|apply Ix);· first|constructor|(simp(disch:=omega)only[I8,pk,b1,b2,w1,e6]<;>first|constructor|omega)|omega)
     try simp(disch:=omega)only[Aa,pk,b1,b2,w1,e6]
    |ok x=>
     obtain⟨ms,q⟩:=x;rw[ho] at h5;obtain⟨hq,rfl⟩:=h5;refine⟨_,er.trans ?_,(Dy.self h.B).tail.trans hq,rfl⟩
     repeat(with_reducible(first|apply Ba|apply A0|apply A8|apply A2|apply Bi|apply Az|apply A9|apply Ix);· first|constructor|(simp(disch:=omega)only[I8,pk,b1,b2,w1,e6]<;>first|constructor|omega)|omega)
     try simp(disch:=omega)only[Aa,pk,b1,b2,w1,e6]
     rfl
  ·by_cases g2:WE l=91
   ·cases l with
    |nil=>cases g2
    |cons c l=>
     have g3:c=91:=g2;subst g3;have er:=Ch (p:=pN) fu (d+2*(k+1)+4) t (B4 t (91::l):Int) D;have pk:Ac C0 prog fu (d+2*(k+1)+4) 161 [.pbox (Da t (91::l))]=some ⟨[.sc (.int .u8 91)],[Da t (91::l)]⟩:=Q3 (xs:=xs0) (d:=d+2*(k+1)+3) h;have b0:((91:Int)==(123:Int))=false:=rfl;have b1:((91:Int)==(91:Int))=true:=rfl;have b2:decide (D>8)=false:=by simp;omega
     have w1:wrap .i64 (D+1)=D+1:=Bb;obtain⟨res,e5,h5⟩:=A3k (fu:=fu) (d:=d+2*k+2) (D:=D+1) ht Bq (Gu k) HV h;have e6:Ac C0 prog fu (d+2*(k+1)+4) 162 [.pbox (Da t (91::l)),Aw (D+1)]=some res:=e5;have ev:Gu (k+1) (91::l)=match Alg (Gu k) l with | .error e=>.error e | .ok r'=>.ok ((5,[],false),r'):=rfl
     rw[ev];cases ho:Alg (Gu k) l with
     |error e=>
      rw[ho] at h5;obtain⟨he,q,hq,rfl⟩:=h5;refine⟨_,er.trans ?_,he,5,⟨#[]⟩,false,q,hq,rfl⟩
      repeat(with_reducible(first|apply Ba|apply A0|apply A8|apply A2|apply Bi|apply Az|apply A9|apply Ix);· first|constructor|(simp(disch:=omega)only[I8,pk,b0,b1,b2,w1,e6]<;>first|constructor|omega)|omega)
      try simp(disch:=omega)only[Aa,pk,b0,b1,b2,w1,e6]
     |ok q=>
      rw[ho] at h5;obtain⟨hq,rfl⟩:=h5;refine⟨_,er.trans ?_,(Dy.self h.B).tail.trans hq,rfl⟩
      repeat(with_reducible(first|apply Ba|apply A0|apply A8|apply A2|apply Bi|apply Az|apply A9|apply Ix);· first|constructor|(simp(disch:=omega)only[I8,pk,b0,b1,b2,w1,e6]<;>first|constructor|omega)|omega)
      try simp(disch:=omega)only[Aa,pk,b0,b1,b2,w1,e6]
      rfl
   ·by_cases g3:WE l=34
    ·cases l with
     |nil=>cases g3
     |cons c l=>
      have g4:c=34:=g3;subst g4;exact Abr (d:=d+2*(k+1)) ht (k+1) h
    ·rw[TI (k+1) g1 g2 g3];exact Aqi (d:=d+2*(k+1)) ht Bq h g1 g2 g3
end
section
open Go.Shelf Go.RowKit Go.Lib
theorem Aed(G:BE)(args:Ad)(res:A1)(h:Adn args=some res):Cx G prog 168 args res:=by
 refine⟨⟨_,Tryz.func168,by kernel_rfl⟩,fun w Y bt us hi _ _=>?_⟩;unfold Adn at h;split at h
 rotate_left
 ·cases h
 rename_i s p;cases hq:(Nat.ble p.size 1000&&p.data.toList.all (fun b=>decide (b.toNat<128))&&decide (s.size<=1000000000))
 ·rw[hq] at h;cases h
 rw[hq,cond_true] at h;cases h;rw[Er,Er] at hq;obtain⟨⟨h1,h2⟩,h3⟩:=hq;have h1:=Oj h1;have h3:=of_decide_eq_true h3;have ps:=hi.args
 match us,ps with
 |[u1,u2],ps=>
  obtain⟨⟨_,p1⟩,⟨_,p2⟩,_⟩:=ps;have e1:u1=.string s:=At.val (show At w _ (Bo s) u1 from p1);have e2:u2=.string p:=At.val (show At w _ (Bo p) u2 from p2);subst e1 e2;refine (Any.strings_Trim_laid Agb (by kernel_rfl) s p w (by omega) (by omega) (ascii_of_all h2)).mono ?_
  rintro e w' ⟨rfl,hb⟩
  exact⟨[.string ⟨(Lib.trimS s.data.toList p.data.toList).toArray⟩],fun _=>none,rfl,Qo hb rfl⟩
 |[],ps=>exact ps.elim
 |[_],ps=>exact ps.2.elim
 |_::_::_::_,ps=>exact ps.2.2.elim
end
section
open Go.Shelf Go.RowKit Go.Lib
def A4c:Go.Shelf.Ren:=⟨fun|196=>91|259=>118|n=>n,fun|0=>0|3=>3|4=>4|5=>5|9=>9|12=>12|46=>67|53=>28|119=>194|138=>196|139=>197|n=>n,fun|3=>0|4=>1|n=>n⟩
theorem laysVS:Lays.n196 prog A4c:={
 mixed:=by kernel_rfl
 f196:=Tryz.func91.trans (congrArg some (by kernel_rfl))
 f259:=Tryz.func118.trans (congrArg some (by kernel_rfl))
 t0:=Tryz.underlying0
 a0:=Tryz.isAgg0
 z0:=Tryz.sizeOf0
 v0:=Tryz.zeroValue0
 t3:=Tryz.underlying3
 a3:=Tryz.isAgg3
 z3:=Tryz.sizeOf3
 v3:=Tryz.zeroValue3
 t4:=Tryz.underlying4
 a4:=Tryz.isAgg4
 z4:=Tryz.sizeOf4
 v4:=Tryz.zeroValue4
 t5:=Tryz.underlying5
 a5:=Tryz.isAgg5
 z5:=Tryz.sizeOf5
 v5:=Tryz.zeroValue5
 t9:=Tryz.underlying9
 a9:=Tryz.isAgg9
 z9:=Tryz.sizeOf9
 v9:=Tryz.zeroValue9
 t12:=Tryz.underlying12
 a12:=Tryz.isAgg12
 z12:=Tryz.sizeOf12
 v12:=Tryz.zeroValue12
 t46:=Tryz.underlying67
 a46:=Tryz.isAgg67
 z46:=Tryz.sizeOf67
 v46:=Tryz.zeroValue67
 t53:=Tryz.underlying28
 a53:=Tryz.isAgg28
 z53:=Tryz.sizeOf28
 v53:=Tryz.zeroValue28
 t119:=Tryz.underlying194
 a119:=Tryz.isAgg194
 z119:=Tryz.sizeOf194
 t138:=Tryz.underlying196
 a138:=Tryz.isAgg196
 z138:=Tryz.sizeOf196
 v138:=Tryz.zeroValue196
 t139:=Tryz.underlying197
 a139:=Tryz.isAgg197
 z139:=Tryz.sizeOf197
 v139:=Tryz.zeroValue197
 g3:=by kernel_rfl
 g4:=by kernel_rfl }
def gU:BE:=⟨fun b=>b=0\/b=1,fun w=>0<w.heap.size/\1<w.heap.size/\Lib.Utf8Tabs 0 1 w,fun w w' h ⟨s1,s2,h1,h2⟩=>by
 have e1:=h _ (.inl rfl) s1;have e2:=h _ (.inr rfl) s2
 have hs:∀b,b<w.heap.size->w'.heap[b]?=w.heap[b]?->b<w'.heap.size:=by
  intro b hb he;rw[Array.getElem?_eq_getElem hb] at he;rcases Id b w'.heap.size with q|q
  ·exact q
  ·rw[Array.getElem?_eq_none q] at he;cases he
 refine⟨hs _ s1 e1,hs _ s2 e2,fun c hc=>?_,fun i hi=>?_⟩
 ·have:=h1 c hc;unfold World.cell? at this ⊢;simp only[e1] at this ⊢;exact this
 ·obtain⟨a,b⟩:=h2 i hi;unfold World.cell? at a b ⊢;simp only[e2] at a b ⊢;exact⟨a,b⟩⟩
theorem Acx(args:Ad)(res:A1)(h:Afh args=some res):Cx gU prog 91 args res:=by
 refine⟨⟨_,Tryz.func91,by kernel_rfl⟩,fun w Y bt us hi hok _=>?_⟩;unfold Afh at h;split at h
 rotate_left
 ·cases h
 rename_i s;cases hq:decide (s.size<=9223372036854775807)
 ·rw[hq] at h;cases h
 rw[hq] at h;cases h;have hs:=of_decide_eq_true hq;have ps:=hi.args
 match us,ps with
 |[u],ps=>
  have hu:u=.string s:=by
   have:At w _ (Bo s) u:=ps.1.2;exact this.val
  subst hu;refine (Any.utf8_ValidString laysVS s w hs hok.2.2).mono ?_
  rintro e w' ⟨rfl,hb⟩
  exact⟨[.bool (Lib.validD s.data.toList)],fun _=>none,rfl,Qo hb rfl⟩
 |[],ps=>exact ps.elim
 |_::_::_,ps=>exact ps.2.elim
theorem Ar0{p:FuncId->Option (Ad->Option A1)}(hp:∀f,Ahb.any (Nat.beq f)=true->∀g,p f=some g->∀args res,g args=some res->Cx gU prog f args res):ES gU prog (CP p):=by
 intro f g args res hx hg;have hx0:(bif GM.any (Nat.beq f) then none else RN p f)=some g:=hx;cases hb:GM.any (Nat.beq f)
 rotate_left
 ·rw[hb,cond_true] at hx0;cases hx0
 rw[hb,cond_false] at hx0;unfold RN at hx0;cases hP:Ahb.any (Nat.beq f)
 rotate_left
 ·rw[hP,cond_true] at hx0;exact hp f hP g hx0 args res hg
 rw[hP,cond_false] at hx0;have Wc:Anw f=some g:=hx0;unfold Anw at Wc;cases h1:Nat.beq f 91
 rotate_left
 ·rw[h1,cond_true] at Wc;cases Wc;rw[C6 h1];exact Acx args res hg
 rw[h1,cond_false] at Wc;cases h2:Nat.beq f 216
 rotate_left
 ·rw[h2,cond_true] at Wc;cases Wc;rw[C6 h2];exact SL gU args res hg
 rw[h2,cond_false] at Wc;cases h5:Nat.beq f 38
 rotate_left
 ·rw[h5,cond_true] at Wc;cases Wc;rw[C6 h5];exact Afu hg
 rw[h5,cond_false] at Wc;cases h6:Nat.beq f 155
 rotate_left
 ·rw[h6,cond_true] at Wc;cases Wc;rw[C6 h6];exact Alh gU args res hg
 rw[h6,cond_false] at Wc;cases h7:Nat.beq f 209
 rotate_left
 ·rw[h7,cond_true] at Wc;cases Wc;rw[C6 h7];exact Akz gU args res hg
 rw[h7,cond_false] at Wc;cases hA:Nat.beq f 168
 rotate_left
 ·rw[hA,cond_true] at Wc;cases Wc;rw[C6 hA];exact Aed gU args res hg
 rw[hA,cond_false] at Wc;cases h9:Nat.beq f 139
 rotate_left
 ·rw[h9,cond_true] at Wc;cases Wc;rw[C6 h9];exact All gU args res hg
 rw[h9,cond_false] at Wc;cases h3:Nat.beq f 1000000
 ·rw[h3,cond_false] at Wc;cases Wc
 ·rw[h3,cond_true] at Wc;cases Wc;cases hg
theorem A0z:ES gU prog C0:=Ar0 (fun _ _ _ h=>by cases h)
end
section
open Go Go.RowKit
def X3(v:JV):Value:=.agg #[.int .i64 v.1,.string (Ab v.2.1),.bool v.2.2]
def L7:Nat->List (Aj × JV)->List MapEntry
 |_,[]=>[]
 |i,m::r=>{ key:=.string (Ab m.1),val:=X3 m.2,born:=i }::L7 (i+1) r
theorem VI:∀(i:Nat)(a b:List (Aj × JV)),L7 i (a++b)=L7 i a++L7 (i+a.length) b
 |_,[],_=>rfl
 |i,m::r,b=>by
  show _::L7 (i+1) (r++b)=_;rw[VI (i+1) r b];show _=_::(L7 (i+1) r++L7 (i+(r.length+1)) b);rw[show i+1+r.length=i+(r.length+1) by omega]
def Pw(nm:Aj)(ms:List (Aj × JV)):Option JV:=(ms.find? fun m=>m.1==nm).map (·.2)
theorem KF{a b:Aj}(ha:Cp a)(hb:Cp b)(h:Ab a=Ab b):a=b:=by
 have:=congrArg Ci h
 rwa [C8 ha,C8 hb] at this
theorem Aqb(a b:ByteArray):(a==b)=decide (a=b):=by
 have e:(a==b)=(a.data==b.data):=by
  cases a;cases b;rfl
 rw[e,Bool.eq_iff_iff,beq_iff_eq,decide_eq_true_iff];constructor
 ·intro h;cases a;cases b;exact congrArg ByteArray.mk h
 ·intro h;rw[h]
theorem Xs{nm:Aj}(hn:Cp nm):∀(ms:List (Aj × JV)) (i j:Nat),(∀m∈ms,Cp m.1)->∃r,Instr.findNow .string (.string (Ab nm)) (L7 i ms) j=some r/\(match Pw nm ms with|none=>r=none|some v=>∃k,r=some (k,X3 v))
 |[],_,_,_=>⟨none,rfl,rfl⟩
 |m::r,i,j,hB=>by
  by_cases h:m.1=nm
  ·refine⟨some (j,X3 m.2),?_,?_⟩
   ·show (match Instr.sameNow .string (.string (Ab nm)) (.string (Ab m.1)) with|some true=>some (some (j,X3 m.2))|some false=>Instr.findNow .string (.string (Ab nm)) (L7 (i+1) r) (j+1)|none=>none)=_
    have e:Instr.sameNow .string (.string (Ab nm)) (.string (Ab m.1))=some true:=by
     show some (Ab nm==Ab m.1)=some true;rw[h,Aqb];simp
    rw[e]
   ·have e:Pw nm (m::r)=some m.2:=by
     unfold Pw;rw[List.find?_cons_of_pos (by simp[h])];rfl
    rw[e];exact⟨j,rfl⟩
  ·obtain⟨q,hq,hl⟩:=Xs hn r (i+1) (j+1) fun m hm=>hB m (Uf _ hm);refine⟨q,?_,?_⟩
   ·show (match Instr.sameNow .string (.string (Ab nm)) (.string (Ab m.1)) with|some true=>some (some (j,X3 m.2))|some false=>Instr.findNow .string (.string (Ab nm)) (L7 (i+1) r) (j+1)|none=>none)=_
    have e:Instr.sameNow .string (.string (Ab nm)) (.string (Ab m.1))=some false:=by
     show some (Ab nm==Ab m.1)=some false;have:Ab nm≠Ab m.1:=fun e=>h (KF hn (hB m (CG ..)) e).symm;rw[Aqb];simp[this]
    rw[e];exact hq
   ·have e:Pw nm (m::r)=Pw nm r:=by
     unfold Pw;rw[List.find?_cons_of_neg (by simp[h])]
    rw[e];exact hl
def QH(w:World)(b:Nat)(ms:List (Aj × JV)):Prop:=w.heap[b]?=some (.map (L7 0 ms).toArray ms.length)
theorem QU{w:World}{b:Nat}{ms:List (Aj × JV)}(h:QH w b ms):(getObj b).run prog w=.ok (.map (L7 0 ms).toArray ms.length) w:=by simp[getObj,Sem.run,show w.heap[b]?=_ from h]
def Acq(nm:Aj)(ms:List (Aj × JV)):Value:=match Pw nm ms with|some v=>X3 v|none=>X3 (0,[],false)
theorem MT{w:World}{b:Nat}{ms:List (Aj × JV)}(h:QH w b ms)(hB:∀m∈ms,Cp m.1){nm:Aj}(hn:Cp nm)(ok:Bool):(Instr.lookup 167 (.map (some b)) (.string (Ab nm)) ok).run prog w=.ok (if ok then .tuple #[Acq nm ms,.bool (Pw nm ms).isSome] else Acq nm ms) w:=by
 have hu:=run_underlying (w:=w) Tryz.underlying167;have hk:=run_underlying (w:=w) Tryz.underlying9;have hck:∀c (n:Nat),(Instr.checkKey c (n+1) 9 (.string (Ab nm))).run prog w=.ok () w:=fun c n=>by simp[Instr.checkKey,hk]
 have hc:∀c,(Instr.checkKey c 10000 9 (.string (Ab nm))).run prog w=.ok () w:=fun c=>hck c 9999;obtain⟨r,hr,hl⟩:=Xs hn ms 0 0 hB;have hz:(zeroValue 203).run prog w=.ok (X3 (0,[],false)) w:=Tryz.zeroValue203 w;unfold Acq;cases hq:Pw nm ms with
 |none=>
  rw[hq] at hl;simp only at hl;subst hl;cases ok<;>simp[Instr.lookup,hu,hk,QU h,hc,Instr.findKey,hr,hz]<;>rfl
 |some v=>
  rw[hq] at hl;obtain⟨k,hl⟩:=hl;subst hl;cases ok<;>simp[Instr.lookup,hu,hk,QU h,hc,Instr.findKey,hr]
theorem Aeu{w:World}{b:Nat}{ms:List (Aj × JV)}(h:QH w b ms)(hB:∀m∈ms,Cp m.1){nm:Aj}(hn:Cp nm)(XH:Pw nm ms=none)(v:JV):(Instr.mapUpdate 167 (.map (some b)) (.string (Ab nm)) (X3 v)).run prog w=.ok () { w with heap:=w.heap.setIfInBounds b (.map (L7 0 (ms++[(nm,v)])).toArray (ms++[(nm,v)]).length) }:=by
 have hu:=run_underlying (w:=w) Tryz.underlying167;have hk:=run_underlying (w:=w) Tryz.underlying9;have hck:∀c (n:Nat),(Instr.checkKey c (n+1) 9 (.string (Ab nm))).run prog w=.ok () w:=fun c n=>by simp[Instr.checkKey,hk]
 have hc:∀c,(Instr.checkKey c 10000 9 (.string (Ab nm))).run prog w=.ok () w:=fun c=>hck c 9999;obtain⟨r,hr,hl⟩:=Xs hn ms 0 0 hB;rw[XH] at hl;simp only at hl;subst hl
 have e:L7 0 (ms++[(nm,v)])=L7 0 ms++[{ key:=.string (Ab nm),val:=X3 v,born:=ms.length }]:=by
  rw[VI];show _++[_]=_;rw[Ig]
 have hs:∀o,(setObj b o).run prog w=.ok () { w with heap:=w.heap.setIfInBounds b o }:=fun o=>by
  simp[setObj,Sem.run,show w.heap[b]?=_ from h]
 rw[e];simp[Instr.mapUpdate,hu,hk,QU h,hc,Instr.findKey,hr,hs]
end
section
open Go Go.RowKit
structure Pk(w:World)(b:Nat):Prop where
 ok:gU.ok w
 bl:∀k,gU.bl k->k<w.heap.size/\k≠b
theorem QT{f:FuncId}{t:ByteArray}{r r':Aj}{args vals:Ad}{us rs:List Value}{fu d:Nat}(e:Ac C0 prog fu d f (.pbox (Da t r)::args)=some ⟨vals,[Da t r']⟩)(ha:Be OT args us)(hr:Be OT vals rs){w:World}{b o:Nat}(hU:Pk w b)(h:FV w b o t r):Calls prog f (.pointer (some ⟨b,o,none⟩)::us).toArray w fun e w'=>e=.returned (J1 rs)/\FV w' b o t r'/\Ft w w' b o 2:=by
 have hs:Cx gU prog f (.pbox ([Value.string t,.int .i64 (B4 t r:Int)].map .sc)::args) ⟨vals,[[Value.string t,.int .i64 (B4 t r':Int)].map .sc]⟩:=Dh ngR mxR A0z d f _ _ e;refine (VJ hs ha hr (w:=w) (b:=b) (o:=o) hU.ok hU.bl h.lt ?_ ?_).mono ?_
 ·intro j v hv
  match j,hv with
  |0,hv=>cases hv;exact h.c0
  |1,hv=>cases hv;exact h.c1
 ·intro j hj
  match j,hj with
  |0,_=>exact h.f0
  |1,_=>exact h.f1
 ·rintro e w' ⟨rfl,_,h4,h5,hk⟩
  exact⟨rfl,⟨Gb h.lt hk.size,h4 0 _ rfl,h4 1 _ rfl,h5 0 (Nat.zero_lt_succ _),h5 1 (Nat.succ_lt_succ (Nat.zero_lt_succ _))⟩,hk⟩
theorem Kw{t:ByteArray}{r:Aj}(hS:Dy t r)(ht:t.size<=1000000){w:World}{b o:Nat}(hU:Pk w b)(h:FV w b o t r):
  Calls prog 119 #[.pointer (some ⟨b,o,none⟩)] w fun e w'=>e=.returned (.tuple #[])/\FV w' b o t (Bd r)/\Ft w w' b o 2:=by
 have e:=Vi (fu:=1000001) (d:=0) hS ht (by omega);exact QT (us:=[]) (rs:=[]) e trivial trivial hU h
def A1d(t:ByteArray)(r r':Aj)(e:Ending):Prop:=
 match Gu 8 r with
 |.ok (v,q)=>r'=q/\Dy (Ab r) q/\e=.returned (.tuple #[X3 v,.int .i64 0])
 |.error er=>er≠0/\Dy t r'/\∃u:JV,e=.returned (.tuple #[X3 u,.int .i64 er])
theorem Amc{t:ByteArray}{r:Aj}(hS:Dy t r)(ht:t.size<=1000000){w:World}{b o:Nat}(hU:Pk w b)(h:FV w b o t r):
  Calls prog 140 #[.pointer (some ⟨b,o,none⟩),.int .i64 1] w fun e w'=>∃r',FV w' b o t r'/\Ft w w' b o 2 /\
   A1d t r r' e:=by
 unfold A1d;obtain⟨res,e,hr⟩:=Aw4 (fu:=1000001) (d:=0) ht (by omega) 8 1 (by omega) (by omega) r hS;cases hv:Gu 8 r with
 |error er=>
  rw[hv] at hr;obtain⟨he,c1,c2,c3,q,hq,rfl⟩:=hr;refine (QT (us:=[.int .i64 1]) (rs:=[.agg #[.int .i64 c1,.string c2,.bool c3],.int .i64 er]) e ⟨.inl rfl,trivial⟩ ⟨.inr ⟨[.int .i64 c1,.string c2,.bool c3],rfl,rfl⟩,.inl rfl,trivial⟩ hU h).mono ?_
  rintro e w' ⟨rfl,ha,hk⟩
  exact⟨q,ha,hk,he,hq,(c1,Ci c2,c3),by unfold X3;simp only[Mf];rfl⟩
 |ok x=>
  obtain⟨v,q⟩:=x;rw[hv] at hr;obtain⟨hq,rfl⟩:=hr;refine (QT (us:=[.int .i64 1]) (rs:=[X3 v,.int .i64 0]) e ⟨.inl rfl,trivial⟩ ⟨.inr ⟨[.int .i64 v.1,.string (Ab v.2.1),.bool v.2.2],rfl,rfl⟩,.inl rfl,trivial⟩ hU h).mono ?_
  rintro e w' ⟨rfl,ha,hk⟩
  exact⟨q,ha,hk,rfl,hq,rfl⟩
end
section
open Go Go.RowKit Go.Lib
theorem Pk.keep{w w':World}{b o n:Nat}(h:Pk w b)(k:Ft w w' b o n):Pk w' b:=
 ⟨gU.stable w w' (fun j hj hl=>k.other j hl (h.bl j hj).2) h.ok,fun j hj=>⟨Gb (h.bl j hj).1 k.size,(h.bl j hj).2⟩⟩
theorem QH.keep{w w':World}{b mb o n:Nat}{ms:List (Aj × JV)}(h:QH w mb ms)(k:Ft w w' b o n)(G6:mb≠b):QH w' mb ms:=by have Cm:mb<w.heap.size:=(Array.getElem?_eq_some_iff.1 h).1;exact (k.other mb Cm G6).trans h
structure Et(w w':World)(b mb:Nat):Prop where
 os:w'.os=w.os
 tape:w'.tape=w.tape
 output:w'.output=w.output
 size:w.heap.size<=w'.heap.size
 other:∀k,k<w.heap.size->k≠b->k≠mb->w'.heap[k]?=w.heap[k]?
theorem Et.of{w w':World}{b mb o n:Nat}(k:Ft w w' b o n):Et w w' b mb:=⟨k.os,k.tape,k.output,k.size,fun j hj hb _=>k.other j hj hb⟩
theorem Pk.below{w w':World}{b:Nat}(h:Pk w b)(k:Below w.heap.size w w'):Pk w' b:=
 ⟨gU.stable w w' (fun j _ hl=>k.block j hl) h.ok,fun j hj=>⟨Gb (h.bl j hj).1 k.size,(h.bl j hj).2⟩⟩
theorem QH.below{w w':World}{mb:Nat}{ms:List (Aj × JV)}(h:QH w mb ms)(k:Below w.heap.size w w'):QH w' mb ms:=by have Cm:mb<w.heap.size:=(Array.getElem?_eq_some_iff.1 h).1;exact (k.block mb Cm).trans h
theorem Et.trans{w w' w'':World}{b mb:Nat}(h:Et w w' b mb)(k:Et w' w'' b mb):Et w w'' b mb:=
 ⟨k.os.trans h.os,k.tape.trans h.tape,k.output.trans h.output,Nat.le_trans h.size k.size,fun i hi h1 h2=>(k.other i (Gb hi h.size) h1 h2).trans (h.other i hi h1 h2)⟩
theorem Aey:∀(n:Nat)(out l s q:Aj),Cp out->Cp l->Lj n out l=(some s,q)->Cp s
  |0,_,_,_,_,_,_,h=>by cases h
  |_+1,_,[],_,_,_,_,h=>by cases h
  |n+1,out,c::l,s,q,ho,hl,h=>by
    have e:Lj (n+1) out (c::l)=if c<32 then (none,c::l) else if c=34 then (some out,l) else if c=92 then
        (match Sf l with
         |(some x,r')=>Lj n (out++Lib.encodeRuneZ x) r'
         |(none,r')=>(none,r')) else Lj n (out++[c]) l:=rfl
    have Wd:=Dk hl
    rw[e] at h
    split at h
    · cases h
    split at h
    · cases h;exact ho
    split at h
    · have h2:=Y6 (Dy.self Wd.2)
      rcases hq:Sf l with⟨o,r⟩
      rw[hq] at h2 h
      cases o with
      |none=>cases h
      |some x=>exact Aey n _ r s q (Q4 ho (fun y hy=>by have:=Lib.encodeRuneZ_byte x y hy;omega)) (by have:=h2.B;exact this) h
    · exact Aey n _ l s q (Q4 ho (fun y hy=>by simp at hy;omega)) Wd.2 h
theorem Aia{l s q:Aj}(hl:Cp l)(h:F1 l=(some s,q)):Cp s:=by
 cases l with
 |nil=>cases h
 |cons c l=>
  have e:F1 (c::l)=if c=34 then Lj (l.length+1) [] l else (none,c::l):=rfl
  rw[e] at h;split at h
  ·exact Aey _ _ _ _ _ (fun x hx=>by cases hx) (Dk hl).2 h
  ·cases h
theorem Et.below{w w':World}{b mb:Nat}(k:Below w.heap.size w w'):Et w w' b mb:=⟨k.os,k.tape,k.output,k.size,fun i hi _ _=>k.block i hi⟩
theorem Atp{P:Program}{t k e:TypeId}(hu:P.underlying t=some (.map k e))(mb:Nat)(w:World):(binOp .neq t (.map (some mb)) (.map none)).run P w=.ok (.bool true) w:=by
 have h:∀d,(Op.equalIn (d+1) t (.map (some mb)) (.map none)).run P w=.ok false w:=fun d=>by
  simp[Op.equalIn,run_underlying hu]
 simp only[binOp];simp[Op.equal,Op.maxDepth,h 9999]
theorem Arz(nm:Aj)(ms:List (Aj × JV)):(ms.any fun m=>m.1==nm)=(Pw nm ms).isSome:=by
 unfold Pw
 induction ms with
 |nil=>rfl
 |cons m r ih=>
  by_cases h:m.1=nm
  ·rw[List.find?_cons_of_pos (by simp[h])];simp[h]
  ·rw[List.find?_cons_of_neg (by simp[h]),<-ih];simp[h]
theorem Zf(V:Aj->JR (JV × Aj))(kp:Bool)(l:Aj):DO V kp l=match A6 [125] (Bd l) with|some r=>.ok ([],r)|none=>Xh V kp ((Bd l).length+1) [] (Bd l):=by
 unfold DO;rw[Fk];cases Bd l with
 |nil=>rfl
 |cons y s=>
  by_cases hy:y=125
  ·subst hy;rfl
  ·simp only[Bl hy];split
   ·rename_i e;injection e with e1 _;exact absurd e1 hy
   ·rfl
theorem NI{W:World}{mb b:Nat}{ob:Obj}(G6:mb≠b):({ W with heap:=W.heap.setIfInBounds mb ob }:World).heap[b]?=W.heap[b]?:=Array.getElem?_setIfInBounds_ne G6
theorem FV.put{W:World}{b o mb:Nat}{t:ByteArray}{r:Aj}{ob:Obj}(h:FV W b o t r)(G6:mb≠b):FV { W with heap:=W.heap.setIfInBounds mb ob } b o t r:=by
 have e:=NI (W:=W) (ob:=ob) G6;refine⟨by simpa using h.lt,(World.cell?_of_block e).trans h.c0,(World.cell?_of_block e).trans h.c1,?_,?_⟩
 ·have:=h.f0;unfold World.frozen? at this ⊢;simp only[e] at this ⊢;exact this
 ·have:=h.f1;unfold World.frozen? at this ⊢;simp only[e] at this ⊢;exact this
theorem Pk.put{W:World}{b mb:Nat}{ob:Obj}(h:Pk W b)(hmU:¬gU.bl mb):Pk { W with heap:=W.heap.setIfInBounds mb ob } b:=
 ⟨gU.stable W _ (fun j hj _=>NI (fun e=>hmU (e ▸ hj))) h.ok,fun j hj=>⟨by simpa using (h.bl j hj).1,(h.bl j hj).2⟩⟩
theorem Et.put{W:World}{b mb:Nat}{ob:Obj}:Et W { W with heap:=W.heap.setIfInBounds mb ob } b mb:=
 ⟨rfl,rfl,rfl,by simp,fun k _ _ h=>NI (fun e=>h e.symm)⟩
theorem QH.put{W:World}{mb n:Nat}{ms ms':List (Aj × JV)}(h:QH W mb ms)(hn:ms'.length=n):QH { W with heap:=W.heap.setIfInBounds mb (.map (L7 0 ms').toArray n) } mb ms':=by have Cm:mb<W.heap.size:=(Array.getElem?_eq_some_iff.1 h).1;subst hn;exact Array.getElem?_setIfInBounds_self_of_lt Cm
def RoP(w':World)(mb:Nat)(l r':Aj)(e:Ending):Prop:=
 match A6 [123] l with
 |some l'=>(match DO (Gu 8) true l' with
  |.ok (ms,q)=>r'=q/\e=.returned (.int .i64 0)/\QH w' mb ms
  |.error er=>er≠0/\e=.returned (.int .i64 er))
 |none=>e=.returned (.int .i64 2)
set_option maxHeartbeats 4000000 in
theorem Atz{t:ByteArray}{l:Aj}(hS:Dy t l)(ht:t.size<=1000000){w:World}{b o mb:Nat}(hU:Pk w b)(h:FV w b o t l)(hM:QH w mb [])(YX:mb≠b)(hmU:¬gU.bl mb):
  Calls prog 120 #[.pointer (some ⟨b,o,none⟩),.int .i64 1,.map (some mb)] w fun e w'=>Et w w' b mb/\∃r',Dy t r'/\FV w' b o t r' /\
   RoP w' mb l r' e:=by
 have mixed:prog.follows Departure.mixedOrders=true:=by kernel_rfl
 have hac:=Jf hS ht (w0:=[123]) (fun x hx=>by simp at hx;omega) (by decide) h
 go_enter Tryz.func120,Tryz.ntmps120
 go_wp2_with (go_at_call 138;refine hac.mono ?_)
 rintro e W1 ⟨rfl,h1,k1⟩
 cases hq:A6 [123] l with
 |none=>
  rw[hq] at h1
  go_wp2
  go_ret
  exact⟨Et.of k1,l,hS,h1,by unfold RoP;rw[hq];rfl⟩
 |some l'=>
  rw[hq] at h1;have hS1:=Bg hS hq;have hsk:=Kw hS1 ht (hU.keep k1) h1
  go_wp2_with (go_at_call 119;refine hsk.mono ?_)
  rintro e W2 ⟨rfl,h2,k2⟩
  have hS2:=B9 hS1;have Bak:=Jf hS2 ht (w0:=[125]) (fun x hx=>by simp at hx;omega) (by decide) h2
  go_wp2_with (go_at_call 138;refine Bak.mono ?_)
  rintro e W3 ⟨rfl,h3,k3⟩
  cases Oc:A6 [125] (Bd l') with
  |some r3=>
   rw[Oc] at h3
   go_wp2
   go_ret
   refine⟨((Et.of k1).trans (Et.of k2)).trans (Et.of k3),r3,Bg hS2 Oc,h3,?_⟩;unfold RoP;rw[hq];simp only;rw[Zf,Oc];exact⟨rfl,rfl,((hM.keep k1 YX).keep k2 YX).keep k3 YX⟩
  |none=>
   rw[Oc] at h3
   have hRo:∀w' r' e,(match Xh (Gu 8) true ((Bd l').length+1) [] (Bd l') with
     |.ok (ms,q)=>r'=q/\e=.returned (.int .i64 0)/\QH w' mb ms
     |.error er=>er≠0/\e=.returned (.int .i64 er))->RoP w' mb l r' e:=by
    intro w' r' e h;unfold RoP;rw[hq];simp only;rw[Zf,Oc];exact h
   have hU3:=((hU.keep k1).keep k2).keep k3;have hM3:=((hM.keep k1 YX).keep k2 YX).keep k3 YX;have Pa:Et w W3 b mb:=((Et.of k1).trans (Et.of k2)).trans (Et.of k3)
   go_wp2
   go_loopw [] (fun wr=>∃(n:Nat) (ms:List (Aj × JV)) (x:Aj),Xh (Gu 8) true ((Bd l').length+1) [] (Bd l')=Xh (Gu 8) true n ms x/\x.length<n/\Dy t x/\FV wr b o t x/\QH wr mb ms/\(∀m∈ms,Cp m.1)/\Pk wr b/\Et w wr b mb) (fun wr=>match wr.cell? ⟨b,o+1,none⟩ with|some (.int _ p)=>t.size-p.toNat|_=>0)
   case atStart=>
    exact⟨_,[],Bd l',rfl,Nat.lt_succ_self _,hS2,h3,hM3,(fun m hm=>by cases hm),hU3,Pa⟩
   case round=>
    obtain⟨n,ms,x,G0,hn,hSx,hat,hMx,hBx,hUx,hkx⟩:=hrel;have hrd:Calls prog 139 #[.pointer (some ⟨b,o,none⟩)] wr fun e w'=>e=.returned (.tuple #[.string (Ab ((F1 x).1.getD [])),.bool (F1 x).1.isSome])/\FV w' b o t (F1 x).2/\Ft wr w' b o 2:=Ab2 hSx ht hat
    go_wp2_with (go_at_call 139;refine hrd.mono ?_)
    rintro e W4 ⟨rfl,h4,k4⟩
    obtain⟨m,rfl⟩:∃m,n=m+1:=⟨n-1,by omega⟩
    rw[DK (Gu 8) true m ms x] at G0;have Zl:Et w W4 b mb:=hkx.trans (Et.of k4);have hS4:=Jc hSx;rcases hx:F1 x with⟨o4,q4⟩;rw[hx] at h4 G0 hS4;cases o4 with
    |none=>
     go_wp2
     go_ret
     exact⟨Zl,q4,hS4,h4,hRo _ _ _ (by rw[G0];exact⟨by decide,rfl⟩)⟩
    |some nm=>
     have SM:=Aia hSx.B hx;have hM4:=hMx.keep k4 YX;have hlk:=MT hM4 hBx SM true;simp only[WU,Arz] at G0;cases hl:Pw nm ms with
     |some v=>
      rw[hl] at hlk G0;have hvm:Acq nm ms=.agg #[.int .i64 v.1,.string (Ab v.2.1),.bool v.2.2]:=by unfold Acq;rw[hl];rfl
      rw[hvm] at hlk
      go_wp2
      go_ret
      have Wi:=fun ob=>(Below.refl W4.heap.size W4).alloc (Cn _) ob;exact⟨Zl.trans (Et.below (Wi _)),q4,hS4,h4.below (Wi _) h4.lt,hRo _ _ _ (by rw[G0];exact⟨by decide,rfl⟩)⟩
     |none=>
      rw[hl] at hlk G0;have hvm:Acq nm ms=.agg #[.int .i64 0,.string ⟨#[]⟩,.bool false]:=by unfold Acq;rw[hl];rfl
      rw[hvm] at hlk;have Wi:Below W4.heap.size W4 (W4.alloc (.cells #[.int .i64 0,.string ⟨#[]⟩,.bool false] 203)):=(Below.refl W4.heap.size W4).alloc (Cn _) _;have h5:=h4.below Wi h4.lt;have hM5:=hM4.below Wi;have hU5:=(hUx.keep k4).below Wi;have hk5:=Zl.trans (Et.below (b:=b) (mb:=mb) Wi);have Azi:=Kw hS4 ht hU5 h5
      go_wp2_with (go_at_call 119;refine Azi.mono ?_)
      rintro e W6 ⟨rfl,h6,k6⟩
      have SO:=B9 hS4;have Bce:=Jf SO ht (w0:=[58]) (fun x hx=>by simp at hx;omega) (by decide) h6
      go_wp2_with (go_at_call 138;refine Bce.mono ?_)
      rintro e W7 ⟨rfl,h7,k7⟩
      have hk7:=(hk5.trans (Et.of k6)).trans (Et.of k7);cases hq7:A6 [58] (Bd q4) with
      |none=>
       rw[hq7] at h7
       go_wp2
       go_ret
       exact⟨hk7,Bd q4,SO,h7,hRo _ _ _ (by rw[G0];simp only[Option.isSome_none,Bool.false_eq_true,if_false,hq7];exact⟨by decide,rfl⟩)⟩
      |some r7=>
       rw[hq7] at h7;have hS7:=Bg SO hq7;have hU7:=(hU5.keep k6).keep k7;have hM7:=(hM5.keep k6 YX).keep k7 YX;have Ba1:=Kw hS7 ht hU7 h7
       go_wp2_with (go_at_call 119;refine Ba1.mono ?_)
       rintro e W8 ⟨rfl,h8,k8⟩
       have hS8:=B9 hS7;have hvc:=Amc hS8 ht (hU7.keep k8) h8
       go_wp2_with (go_at_call 140;refine hvc.mono ?_)
       rintro e W9 ⟨r9,h9,k9,hv9⟩
       have hk9:=(hk7.trans (Et.of k8)).trans (Et.of k9)
       have Alb:Xh (Gu 8) true ((Bd l').length+1) [] (Bd l')=match Gu 8 (Bd r7) with
         |.error e=>.error e
         |.ok (v,r2)=>match A6 [125] (Bd r2) with
          |some r3=>.ok (ms++[(nm,v)],r3)
          |none=>match A6 [44] (Bd r2) with
           |some r3=>Xh (Gu 8) true m (ms++[(nm,v)]) (Bd r3)
           |none=>.error 2:=by
        rw[G0];simp only[Option.isSome_none,Bool.false_eq_true,if_false,hq7]
        all_goals (rcases Gu 8 (Bd r7) with e|⟨v,r2⟩;rfl;simp only;cases A6 [125] (Bd r2)<;>cases A6 [44] (Bd r2)<;>rfl)
       unfold A1d at hv9;cases hv:Gu 8 (Bd r7) with
       |error er=>
        rw[hv] at hv9 Alb;obtain⟨he,hs9,u,rfl⟩:=hv9;unfold X3;have hbe:(er != (0:Int))=true:=by simp[he]
        go_wp2
        go_ret
        have Agg:=fun ob=>(Below.refl W9.heap.size W9).alloc (Cn _) ob;exact⟨hk9.trans (Et.below (Agg _)),r9,hs9,h9.below (Agg _) h9.lt,hRo _ _ _ (by rw[Alb];exact⟨he,rfl⟩)⟩
       |ok x9=>
        obtain⟨v9,q9⟩:=x9;rw[hv] at hv9 Alb;obtain⟨rfl,hq9,rfl⟩:=hv9;unfold X3;have Agg:Below W9.heap.size W9 (W9.alloc (.cells #[.int .i64 v9.1,.string (Ab v9.2.1),.bool v9.2.2] 203)):=(Below.refl W9.heap.size W9).alloc (Cn _) _;have h10:=h9.below Agg h9.lt;have A67:=((hM7.keep k8 YX).keep k9 YX).below Agg;have A9r:=((hU7.keep k8).keep k9).below Agg;have Bb6:=hk9.trans (Et.below (b:=b) (mb:=mb) Agg);have hup:=Aeu A67 hBx SM hl v9;unfold X3 at hup;have G6:=Atp Tryz.underlying167 mb;have hS9:=hS8.trans hq9;have h11:=h10.put (mb:=mb) (ob:=.map (L7 0 (ms++[(nm,v9)])).toArray (ms.length+1)) YX;have A7h:=A9r.put (ob:=.map (L7 0 (ms++[(nm,v9)])).toArray (ms.length+1)) hmU;have hln:(ms++[(nm,v9)]).length=ms.length+1:=by simp
        rw[hln] at hup;have A7q:=A67.put (ms':=ms++[(nm,v9)]) hln;have Bca:=Bb6.trans (Et.put (b:=b) (ob:=.map (L7 0 (ms++[(nm,v9)])).toArray (ms.length+1)));have A7e:=Kw hS9 ht A7h h11
        go_wp2_with (go_at_call 119;refine A7e.mono ?_)
        rintro e W12 ⟨rfl,h12,k12⟩
        have Apj:=B9 hS9;have A5x:=Jf Apj ht (w0:=[125]) (fun x hx=>by simp at hx;omega) (by decide) h12
        go_wp2_with (go_at_call 138;refine A5x.mono ?_)
        rintro e W13 ⟨rfl,h13,k13⟩
        have A7f:=(Bca.trans (Et.of k12)).trans (Et.of k13);cases Aly:A6 [125] (Bd r9) with
        |some r13=>
         rw[Aly] at h13
         go_wp2
         go_ret
         exact⟨A7f,r13,Bg Apj Aly,h13,hRo _ _ _ (by rw[Alb];simp only;rw[Aly];exact⟨rfl,rfl,(A7q.keep k12 YX).keep k13 YX⟩)⟩
        |none=>
         rw[Aly] at h13;have A5n:=Jf Apj ht (w0:=[44]) (fun x hx=>by simp at hx;omega) (by decide) h13
         go_wp2_with (go_at_call 138;refine A5n.mono ?_)
         rintro e W14 ⟨rfl,h14,k14⟩
         have A5y:=A7f.trans (Et.of k14);cases Alp:A6 [44] (Bd r9) with
         |none=>
          rw[Alp] at h14
          go_wp2
          go_ret
          exact⟨A5y,Bd r9,Apj,h14,hRo _ _ _ (by rw[Alb];simp only;rw[Aly];simp only;rw[Alp];exact⟨by decide,rfl⟩)⟩
         |some r14=>
          rw[Alp] at h14;have A4b:=Bg Apj Alp;have A5a:=((A7h.keep k12).keep k13).keep k14;have Bcr:=((A7q.keep k12 YX).keep k13 YX).keep k14 YX;have A4n:=Kw A4b ht A5a h14
          go_wp2_with (go_at_call 119;refine A4n.mono ?_)
          rintro e W15 ⟨rfl,h15,k15⟩
          have Bb3:=B9 A4b
          have hlr:(Bd r14).length+1<=x.length:=by
           have YT:=Jc (Dy.self hSx.B);rw[hx] at YT;have g1:=(B9 (Bg (B9 YT) hq7))
           have g2:=((B9 (g1.trans hq9))).le;have g3:=X7 r14;have g4:=Ack Alp;omega
          have hxl:=hSx.len
          go_wp2
          refine⟨⟨m,ms++[(nm,v9)],Bd r14,by rw[Alb];simp only[Aly,Alp],by omega,Bb3,h15,Bcr.keep k15 YX,fun y hy=>?_,A5a.keep k15,A5y.trans (Et.of k15)⟩,?_⟩
          ·rcases Bn.1 hy with hy|hy
           ·exact hBx y hy
           ·simp at hy;subst hy;exact SM
          ·have hp3:B4 t x<B4 t (Bd r14):=by unfold B4;omega
           have hp4:B4 t (Bd r14)<=t.size:=Nat.sub_le _ _;simp only[h15.c1,hat.c1,Jg];omega
end
def Ay(c:Int):Aj->List Aj
 |[]=>[[]]
 |x::r=>if x=c then []::Ay c r else match Ay c r with
  |h::t=>(x::h)::t
  |[]=>[[x]]
theorem Qt(c:Int)(l:Aj):Ay c l≠[]:=by
 cases l with
 |nil=>simp[Ay]
 |cons x r=>
  unfold Ay;split
  ·simp
  ·cases Ay c r<;>simp
def Bh(c:Int)(l:Aj):Aj:=l.takeWhile (fun x=>x != c)
theorem IW(c:Int):∀(l:Aj),Ay c l=if (Bh c l).length<l.length then Bh c l::Ay c (l.drop ((Bh c l).length+1)) else [l]
 |[]=>rfl
 |x::r=>by
  by_cases h:x=c
  ·subst h;have e:Bh x (x::r)=[]:=by unfold Bh;rw[List.takeWhile_cons_of_neg (by simp)]
   have e2:Ay x (x::r)=[]::Ay x r:=by
    show (if x=x then []::Ay x r else _)=_;rw[Cy rfl]
   rw[e,Cy (by simp),e2];rfl
  ·have e:Bh c (x::r)=x::Bh c r:=by unfold Bh;rw[List.takeWhile_cons_of_pos (by simp[h])]
   have e2:Ay c (x::r)=match Ay c r with|a::t=>(x::a)::t|[]=>[[x]]:=by
    show (if x=c then []::Ay c r else _)=_;rw[Bl h]
   rw[e,e2,IW c r];by_cases g:(Bh c r).length<r.length
   ·rw[Cy g,Cy (by simp;omega)]
    rfl
   ·rw[Bl g,Bl (by simp;omega)]
def Z9(x:Int):Bool:=decide (48<=x)&&decide (x<=57)
def ltB(x:Int):Bool:=(decide (97<=x)&&decide (x<=122))||Z9 x
def Kr(l:Aj):Bool:=decide (1<=l.length)&&decide (l.length<=63) && !(l.head?==some 45) && !(l.getLast?==some 45)&&l.all (fun x=>ltB x||x==45)
def Sv(l:Aj):Int:=
 if 100<l.length then 8 else if (Ay 46 l).all Kr=false then 2 else if ((Ay 46 l).getLastD []).all Z9=true then 2 else 0
def DC(l:Aj):Int:=l.foldl (fun n x=>10*n+(x-48)) 0
def Ju(l:Aj):Bool:=decide (1<=l.length)&&decide (l.length<=5) && !(l.head?==some 48)&&l.all Z9
def dfl(s:Bool):Int:=if s=true then 443 else 80
def Yb(s:Bool)(r:Aj):Int:=
 let nm:=Bh 58 r
 if Sv nm≠0 then Sv nm else if nm.length=r.length then 0 else
  if Ju (r.drop (nm.length+1))=true/\DC (r.drop (nm.length+1))<=65535/\DC (r.drop (nm.length+1))≠dfl s then 0 else 2
def Gd(l:Aj):Int:=
 if [104,116,116,112,115,58,47,47].isPrefixOf l=true then Yb true (l.drop 8)
 else if [104,116,116,112,58,47,47].isPrefixOf l=true then Yb false (l.drop 7) else 2
end
end Go.Proofs.YtamoegpkglhedaaGreatDoor.Pv
