/-
  The proof of SigninAny, part 7.
-/
import Derived.Test.YthlonbjmnomlcaaGreatDoorAF
import Derived.Test.YthlonbjmnomlcaaGreatDoorRows
set_option linter.unusedSimpArgs false
set_option linter.unusedVariables false
namespace Go.Proofs.YthlonbjmnomlcaaGreatDoor.Pv
open Go.IntKind (wrap)
open Go.Proofs.Tryz (prog)
set_option maxRecDepth 1000000
noncomputable section
section
variable {B:FuncId->Option (Ae->Option A8)}(u d:Nat)(F:Ao)
def Gy(Z:Nat)(Y:Ae)(X:ByteArray)(W V:Nat)(U:Ae)(T:ByteArray)(S Q:Int):Option A8:=H6 u F 106 Tryz.f106 [Ap 1 Z Y,X] [.r,.l,.r,.l] W ⟨lk [(0,Ap 1 V U),(1,T),(7,S),(8,Q)],Fe []⟩
theorem Mf(U:Nat)(T:Ae)(S:ByteArray)(Q Y:Nat)(X:Ae)(W:ByteArray)(V Z:Int):Gy u F U T S (Q+1) Y X W V Z=(Aq (decide (Z<V)) (Aw (decide (0<=Z)&&decide (Z<(↑Y:Int)))<|As (X.getD (Z.toNat*1) .top) λa=>Aq (Array.toList (ByteArray.data W)==Array.toList (ByteArray.data a)) (Bd [Z]) (Aa (wrap .i64 (Z+1)) λa=>Gy u F U T S Q Y X W V a)) (Bd [(-1:Int)])):=Κ
theorem BM{p:Option (Ae->Option A8)}(u d Z:Nat)(Y:Ae)(X:ByteArray):Ac (CP p) prog u (d+1) 106 [Ap 1 Z Y,X]=(λ(F:Ao)=>Gy u F Z Y X u Z Y X (↑Z:Int) 0) (Ac (CP p) prog u d):=Κ
theorem X7{p:Option (Ae->Option A8)}(u d Z:Nat)(Y:Ae)(X:ByteArray):Ac (CP p) prog u (d+1) 63 [Ap 1 Z Y,X]=(λ(F:Ao)=>Gm .i64 (F 106 [Ap 1 Z Y,X]) λa=>Bd [Cn (decide (a>=0))]) (Ac (CP p) prog u d):=Κ
theorem Xf{p:Option (Ae->Option A8)}(u d:Nat)(T S:ByteArray)(Z:Nat)(Y:Ae)(Q:Int)(P:Bool)(O N:Int)(M:Bool)(L:Int)(K:Bool)(J:Nat)(I:Ae)(H G:Int)(E D:Int)(X:Nat)(W:Ae)(V:Int)(U:ByteArray)(B:Nat)(A:Ae)(z:Nat)(w:Ae)(v:Nat)(j:Ae)(A2d:Int)(A98:Nat)(Ahb:Ae)(XS:ByteArray):Ac (CP p) prog u (d+1) 28 [.agg [T,S,Ap 1 Z Y,Q,P,O,N,M,L,K,Ap 1 J I,H,Ag G,E,Ag D],Ap 1 X W,.agg [V,U,Ap 1 B A,Ap 1 z w,Ap 1 v j,A2d,Ap 1 A98 Ahb,XS]]=(λ(F:Ao)=>Aq (V != 2) (Bd [(3:Int)]) (De (F 62 [U]) λa b=>Dr a λa=>Bw .i64 a λa c=>Ov 1 c λc e f=>Ad f λf g=>As f λf=>Ad g λg h=>Be g λg=>Ad h λh i=>As h λh=>Ah i<|Br .i64 b λb=>Aq (b != 0) (Bd [b]) (Aq (a != 2) (Bd [(3:Int)]) (De (F 29 [Ap 1 c e,Ap 1 X W]) λa b=>Be a λa=>Ah b<|Aq (!a) (Bd [(35:Int)]) (De (F 63 [Ap 1 Z Y,f]) λa b=>Be a λa=>Ah b<|Aq (!a) (Bd [(34:Int)]) (Aq g (De (F 63 [Ap 1 Z Y,h]) λa b=>Be a λa=>Ah b<|Aq (!a) (Bd [(34:Int)]) (Bd [(0:Int)])) (Bd [(0:Int)]))))))) (Ac (CP p) prog u d):=Κ
theorem TU{p:Option (Ae->Option A8)}(u d:Nat)(Q Anc:ByteArray)(YK:Nat)(All:Ae)(P:Int)(O:Bool)(N M:Int)(L:Bool)(K:Int)(J:Bool)(I:Nat)(H:Ae)(G Akj:Int)(Aij Aj9:Int)(Avv Azh Avd:Int)(Aid:Nat)(Axk:Ae)(Ayg:Int)(Aiw:Nat)(Azl:Ae)(Ajm:Nat)(Ava:Ae)(Y:Nat)(X:Ae)(W V:Int)(U E:Int)(D:Bool)(B:Int)(A:Nat)(z:Ae)(w:Bool)(v l:Int)(r:Nat)(a3:Ae)(Z Aip:Int)(Afd:ByteArray)(T:Nat)(S:Ae)(Acm:Nat)(Arb:Ae)(QT:Nat)(Agw:Ae)(Ag9:Int)(Adc:Nat)(Aro:Ae)(Ahy:ByteArray):Ac (CP p) prog u (d+1) 12 [.agg [Q,Anc,Ap 1 YK All,P,O,N,M,L,K,J,Ap 1 I H,G,Ag Akj,Aij,Ag Aj9],.agg [Avv,Azh,Avd,Ap 3 Aid Axk,Ayg,Ap 1 Aiw Azl,Ap 1 Ajm Ava],.agg [Ap 1 Y X,W,Ag V,Ag U,E,D,Ag B,Ap 2 A z,w,v,l],Ap 1 r a3,Z,.agg [Aip,Afd,Ap 1 T S,Ap 1 Acm Arb,Ap 1 QT Agw,Ag9,Ap 1 Adc Aro,Ahy]]=(λ(F:Ao)=>(λR:PV=>Aq (decide (Z<0)) (Bd [R,(9:Int)]) (Aq (decide (Z>1099511627776)) (Bd [R,(9:Int)]) (Gm .i64 (F 28 [.agg [Q,Anc,Ap 1 YK All,P,O,N,M,L,K,J,Ap 1 I H,G,Ag Akj,Aij,Ag Aj9],Ap 1 r a3,.agg [Aip,Afd,Ap 1 T S,Ap 1 Acm Arb,Ap 1 QT Agw,Ag9,Ap 1 Adc Aro,Ahy]]) λa=>Aq (a != 0) (Bd [R,a]) (De (F 29 [Ap 1 Adc Aro,Ap 1 Y X]) λa b=>Be a λa=>Ah b<|Aq (!a) (Bd [R,(36:Int)]) (De (F 30 [Ap 1 T S]) λa b=>Dr a λa=>Bw .u64 a λa c=>Bw .i64 c λc e=>Bw .i64 e λe f=>Bw .i64 f λf g=>Bw .u64 g λg h=>ZzO 1 h λh i j=>Bw .i64 j λj k=>Br .u64 k λk=>Br .i64 b λb=>Aq (b != 0) (Bd [R,b]) (Aa (C5 .i64 c 64) λb=>Aq (b != 0) (Bd [R,(4:Int)]) (Gm .u64 (F 31 [Q]) λb=>Aq (a != b) (Bd [R,(34:Int)]) (De (F 32 [Ap 1 Acm Arb]) λb m=>Dr b λb=>Bw .i64 b λb n=>ZzO 1 n λn o q=>ZzO 1 q λq s t=>Ah t<|Br .i64 m λm=>Aq (m != 0) (Bd [R,m]) (Gm .u64 (F 34 [Afd]) λm=>Gm .u64 (F 33 [Ap 1 T S,Ag m]) λm=>Aw (decide (0+n*1<=o.length))<|Aw (decide (0+q*1<=s.length))<|Gm .i64 (F 35 [.agg [W,Ag V],Ag m,.agg [b,Ap 1 n (List.take (n*1) (o.drop 0)),Ap 1 q (List.take (q*1) (s.drop 0))]]) λm=>Aq (m != 0) (Bd [R,m]) (Aa (wrap .i64 (b+1)) λm=>Aq (e != m) (Bd [R,(33:Int)]) (Gm .i64 (F 37 [.agg [Avv,Azh,Avd,Ap 3 Aid Axk,Ayg,Ap 1 Aiw Azl,Ap 1 Ajm Ava],Ag U,Z]) λm=>(λz2:PV=>Aw (decide (0+h*1<=i.length))<|Gm .i64 (F 36 [.agg [P,O,N,M,L,K,J,Ap 1 I H,G],.agg [Ag a,c,e,f,Ag g,Ap 1 h (List.take (h*1) (i.drop 0)),j,Ag k],z2,m]) λa=>Aq (a != 0) (Bd [R,a]) (De (F 38 [z2,b,f,Z]) λa b=>Dr a λa=>Ov 1 a λa c e=>Bw .i64 e λe f=>Bw .u64 f λf g=>Bw .u64 g λg h=>Bw .i64 h λh i=>Ad i λi j=>Be i λi=>Bw .u64 j λj k=>Ov 2 k λk m n=>Ad n λn o=>Be n λn=>Bw .i64 o λo q=>Br .i64 q λq=>Br .i64 b λb=>(λz1:Option A8=>Aq (b != 0) (Aq (b != 37) (Bd [R,b]) z1) z1) (Bd [.agg [Ap 1 a c,e,Ag f,Ag g,h,i,Ag j,Ap 2 k m,n,o,q],b]))) (.agg [Ap 1 Y X,W,Ag V,Ag U,E,D,Ag B,Ap 2 A z,w,v,l])))))))))))) (.agg [Ap 1 0 [],(0:Int),Ag 0,Ag 0,(0:Int),false,Ag 0,Ap 2 0 [],false,(0:Int),(0:Int)])) (Ac (CP p) prog u d):=Κ
theorem CK{p:Option (Ae->Option A8)}(u d:Nat)(Z Y X:Int):Ac (CP p) prog u (d+1) 52 [Z,Y,X]=(λ(F:Ao)=>Aq (decide (Z>=Y)) (Bd [Cn (decide (Z<=X))]) (Bd [false])) (Ac (CP p) prog u d):=Κ
def He(Z:ByteArray)(Y:Nat)(X:Ae)(W:Nat)(V:ByteArray)(U:Nat)(T:Ae)(S:Int):Option A8:=H6 u F 95 Tryz.f95 [Z,Ap 1 Y X] [.r,.l,.r,.l] W ⟨lk [(0,V),(1,Ap 1 U T),(5,S)],Fe []⟩
theorem Ni(V:ByteArray)(U:Nat)(T:Ae)(S:Nat)(X:ByteArray)(Y:Nat)(W:Ae)(Z:Int):He u F V U T (S+1) X Y W Z=(Aq (decide (Z<(↑Y:Int))) (Aw (decide (0<=Z)&&decide (Z<(↑Y:Int)))<|As (W.getD (Z.toNat*1) .top) λa=>Aq (Array.toList (ByteArray.data a)==Array.toList (ByteArray.data X)) (Bd [true]) (Aa (wrap .i64 (Z+1)) λa=>He u F V U T S X Y W a)) (Bd [false])):=Κ
theorem EN{p:Option (Ae->Option A8)}(u d:Nat)(Z:ByteArray)(Y:Nat)(X:Ae):Ac (CP p) prog u (d+1) 95 [Z,Ap 1 Y X]=(λ(F:Ao)=>He u F Z Y X u Z Y X 0) (Ac (CP p) prog u d):=Κ
theorem BU{p:Option (Ae->Option A8)}(u d:Nat)(S Q:ByteArray)(Z:Nat)(Y:Ae)(P:Int)(O:Bool)(N M:Int)(L:Bool)(K:Int)(J:Bool)(I:Nat)(H:Ae)(G E:Int)(D B X:Int)(V:Nat)(W:Ae)(U:Int)(T:ByteArray)(A:Nat)(z:Ae)(w:Nat)(v:Ae)(j:Nat)(Bjk:Ae)(Bix:Int)(Bd9:Nat)(Bip:Ae)(Bhm:ByteArray):Ac (CP p) prog u (d+1) 53 [.agg [S,Q,Ap 1 Z Y,P,O,N,M,L,K,J,Ap 1 I H,G,Ag E,D,Ag B],X,Ap 1 V W,.agg [U,T,Ap 1 A z,Ap 1 w v,Ap 1 j Bjk,Bix,Ap 1 Bd9 Bip,Bhm]]=(λ(F:Ao)=>Aq (U != X) (Bd [(3:Int)]) (De (F 94 [T]) λa b=>Dr a λa=>Bw .i64 a λa c=>ZzO 1 c λc e f=>Ad f λf g=>As f λf=>Ad g λg h=>Be g λg=>Ad h λh i=>As h λh=>Ah i<|Br .i64 b λb=>Aq (b != 0) (Bd [b]) (Aq (a != X) (Bd [(3:Int)]) (Aw (decide (0+c*1<=e.length))<|Aw (decide (List.length (List.take (c*1) (e.drop 0))=c))<|Dj (H9 (List.take (c*1) (e.drop 0))) λa=>Aw (decide (W.length=V))<|Dj (H9 W) λb=>Aq (!Array.toList (ByteArray.data (ByteArray.mk (List.toArray a)))==Array.toList (ByteArray.data (ByteArray.mk (List.toArray b)))) (Bd [(35:Int)]) (De (F 95 [f,Ap 1 Z Y]) λa b=>Be a λa=>Ah b<|Aq (!a) (Bd [(34:Int)]) (Aq g (De (F 95 [h,Ap 1 Z Y]) λa b=>Be a λa=>Ah b<|Aq (!a) (Bd [(34:Int)]) (Bd [(0:Int)])) (Bd [(0:Int)]))))))) (Ac (CP p) prog u d):=Κ
theorem AO{p:Option (Ae->Option A8)}(u d:Nat)(W:Int)(Z:ByteArray)(Y:Nat)(X:Ae)(V:Nat)(U:Ae)(T:Nat)(S:Ae)(Q:Int)(P:Nat)(O:Ae)(N:ByteArray):Ac (CP p) prog u (d+1) 57 [.agg [W,Z,Ap 1 Y X,Ap 1 V U,Ap 1 T S,Q,Ap 1 P O,N]]=(λ(F:Ao)=>Gm .u64 (F 23 [Z]) λa=>Gm .u64 (F 22 [Ap 1 Y X,Ag a]) λa=>Bd [Ag a]) (Ac (CP p) prog u d):=Κ
theorem BW{p:Option (Ae->Option A8)}(u d:Nat)(M Anc:ByteArray)(YK:Nat)(All:Ae)(L:Int)(K:Bool)(J I:Int)(H:Bool)(G:Int)(E:Bool)(D:Nat)(B:Ae)(A Akj:Int)(Aij Aj9:Int)(Avv Azh Avd:Int)(Aid:Nat)(Axk:Ae)(Ayg:Int)(Aiw:Nat)(Azl:Ae)(Ajm:Nat)(Ava:Ae)(X:Nat)(Z:Ae)(W V:Int)(U z:Int)(w:Bool)(v:Int)(l:Nat)(XS:Ae)(Adq:Bool)(Afl MW:Int)(r:Nat)(a3:Ae)(T Aip:Int)(Afd:ByteArray)(S:Nat)(Q:Ae)(P:Nat)(O:Ae)(QT:Nat)(Agw:Ae)(Ag9:Int)(N:Nat)(Y:Ae)(Ahy:ByteArray):Ac (CP p) prog u (d+1) 26 [.agg [M,Anc,Ap 1 YK All,L,K,J,I,H,G,E,Ap 1 D B,A,Ag Akj,Aij,Ag Aj9],.agg [Avv,Azh,Avd,Ap 3 Aid Axk,Ayg,Ap 1 Aiw Azl,Ap 1 Ajm Ava],.agg [Ap 1 X Z,W,Ag V,Ag U,z,w,Ag v,Ap 2 l XS,Adq,Afl,MW],Ap 1 r a3,T,.agg [Aip,Afd,Ap 1 S Q,Ap 1 P O,Ap 1 QT Agw,Ag9,Ap 1 N Y,Ahy]]=(λ(F:Ao)=>De (F 52 [T,(0:Int),(1099511627776:Int)]) λa b=>Be a λa=>(λR:PV=>(λz1:PV=>Ah b<|Aq (!a) (Bd [R,(9:Int)]) (Gm .i64 (F 53 [.agg [M,Anc,Ap 1 YK All,L,K,J,I,H,G,E,Ap 1 D B,A,Ag Akj,Aij,Ag Aj9],(2:Int),Ap 1 r a3,z1]) λa=>Aq (a != 0) (Bd [R,a]) (Aw (decide (Y.length=N))<|Dj (H9 Y) λa=>Aw (decide (Z.length=X))<|Dj (H9 Z) λb=>Aq (!Array.toList (ByteArray.data (ByteArray.mk (List.toArray a)))==Array.toList (ByteArray.data (ByteArray.mk (List.toArray b)))) (Bd [R,(36:Int)]) (De (F 54 [Ap 1 S Q]) λa b=>Dr a λa=>Bw .u64 a λa c=>Bw .i64 c λc e=>Bw .i64 e λe f=>Bw .i64 f λf g=>Bw .u64 g λg h=>Ov 1 h λh i j=>Bw .i64 j λj k=>Br .u64 k λk=>Br .i64 b λb=>Aq (b != 0) (Bd [R,b]) (Aa (C5 .i64 c 64) λb=>Aq (b != 0) (Bd [R,(4:Int)]) (Gm .u64 (F 19 [M]) λb=>Aq (a != b) (Bd [R,(34:Int)]) (De (F 55 [Ap 1 P O]) λb m=>Dr b λb=>Bw .i64 b λb n=>ZzO 1 n λn o q=>ZzO 1 q λq s t=>Ah t<|Br .i64 m λm=>Aq (m != 0) (Bd [R,m]) (Gm .u64 (F 57 [z1]) λm=>Aw (decide (0+n*1<=o.length))<|Aw (decide (0+q*1<=s.length))<|Gm .i64 (F 56 [.agg [W,Ag V],Ag m,.agg [b,Ap 1 n (List.take (n*1) (o.drop 0)),Ap 1 q (List.take (q*1) (s.drop 0))]]) λm=>Aq (m != 0) (Bd [R,m]) (Aa (wrap .i64 (b+1)) λm=>Aq (e != m) (Bd [R,(33:Int)]) (Gm .i64 (F 59 [.agg [Avv,Azh,Avd,Ap 3 Aid Axk,Ayg,Ap 1 Aiw Azl,Ap 1 Ajm Ava],Ag U,T]) λm=>(λz2:PV=>Gm .i64 (F 58 [.agg [L,K,J,I,H,G,E,Ap 1 D B,A],.agg [Ag a,c,e,f,Ag g,Ap 1 h i,j,Ag k],z2,m]) λa=>Aq (a != 0) (Bd [R,a]) (De (F 60 [z2,b,f,T]) λa b=>Dr a λa=>Ov 1 a λa c e=>Bw .i64 e λe f=>Bw .u64 f λf g=>Bw .u64 g λg h=>Bw .i64 h λh i=>Ad i λi j=>Be i λi=>Bw .u64 j λj k=>Ov 2 k λk m n=>Ad n λn o=>Be n λn=>Bw .i64 o λo q=>Br .i64 q λq=>Br .i64 b λb=>(λz3:Option A8=>Aq (b != 0) (Aq (b != 37) (Bd [R,b]) z3) z3) (Bd [.agg [Ap 1 a c,e,Ag f,Ag g,h,i,Ag j,Ap 2 k m,n,o,q],b]))) (.agg [Ap 1 X Z,W,Ag V,Ag U,z,w,Ag v,Ap 2 l XS,Adq,Afl,MW]))))))))))) (.agg [Aip,Afd,Ap 1 S Q,Ap 1 P O,Ap 1 QT Agw,Ag9,Ap 1 N Y,Ahy])) (.agg [Ap 1 0 [],(0:Int),Ag 0,Ag 0,(0:Int),false,Ag 0,Ap 2 0 [],false,(0:Int),(0:Int)])) (Ac (CP p) prog u d):=Κ
def Jb(Z Y X:Int)(W:Nat)(V:Ae)(U:Int)(T:Nat)(S:Ae)(Q:Nat)(P:Ae)(O:Int)(N:Nat)(M L:Int)(K J I:Int)(H:Nat)(G:Ae)(E:Int)(D:Nat)(B:Ae)(A:Nat)(z:Ae)(w:Int)(v a:Nat)(t OW:Ae):Option A8:=H6 u F 101 Tryz.f101 [.agg [Z,Y,X,Ap 3 W V,U,Ap 1 T S,Ap 1 Q P],Ag O] [.r,.l,.r,.l] N ⟨lk [(1,Ag M),(2,.ptr 2 0),(4,.ptr 4 0),(6,L)],Fe [(2,.st [K,J,I,Ap 3 H G,E,Ap 1 D B,Ap 1 A z]),(4,.st [Ag w,.view 60 3 0 v,.view 88 2 0 a]),(60,.ar false t),(88,.ar false OW)]⟩
theorem Xy(V U T:Int)(S:Nat)(Q:Ae)(P:Int)(O:Nat)(N:Ae)(M:Nat)(L:Ae)(K:Int)(J:Nat)(W Z:Int)(I H G:Int)(X:Nat)(Y:Ae)(E:Int)(D:Nat)(B:Ae)(A:Nat)(z:Ae)(w:Int)(v d:Nat)(t OW:Ae):Jb u F V U T S Q P O N M L K (J+1) W Z I H G X Y E D B A z w v d t OW=(Aq (decide (Z<(↑X:Int))) (Aw (decide (0<=Z)&&decide (Z<(↑X:Int)))<|Bn .u64 (Y.getD (Z.toNat*3+0) .top) λa=>Aq (a==W) (Aw (decide (0<=Z)&&decide (Z<(↑X:Int)))<|Bn .u64 (Y.getD (Z.toNat*3) .top) λa=>FF 3 (Y.getD (Z.toNat*3+1) .top) λb c e=>FF 2 (Y.getD (Z.toNat*3+1+1) .top) λb f g=>Bd [.agg [Ag a,Ap 3 c e,Ap 2 f g],true]) (Aa (wrap .i64 (Z+1)) λa=>Jb u F V U T S Q P O N M L K J W a I H G X Y E D B A z w v d t OW)) (Bd [.agg [Ag 0,Ap 3 0 [],Ap 2 0 []],false])):=Κ
theorem CA{p:Option (Ae->Option A8)}(u d:Nat)(Z Y X:Int)(W:Nat)(V:Ae)(U:Int)(T:Nat)(S:Ae)(Q:Nat)(P:Ae)(O:Int):Ac (CP p) prog u (d+1) 101 [.agg [Z,Y,X,Ap 3 W V,U,Ap 1 T S,Ap 1 Q P],Ag O]=(λ(F:Ao)=>Jb u F Z Y X W V U T S Q P O u O 0 Z Y X W V U T S Q P 0 0 0 ([]) ([])) (Ac (CP p) prog u d):=Κ
def F6(Z Y X:Int)(W:Nat)(V:Ae)(U:Int)(T:Nat)(S:Ae)(Q:Nat)(P:Ae)(O N:Int)(M:Nat)(L K:Int)(J I:Int)(H:Nat)(G:Ae)(E:Nat)(D:Ae):Option A8:=H6 u F 59 Tryz.f59 [.agg [Z,Y,X,Ap 3 W V,U,Ap 1 T S,Ap 1 Q P],Ag O,N] [.r,.r,.r,.l,.r,.l] M ⟨lk [(2,L),(7,.ptr 7 0),(9,K),(10,J)],Fe [(7,.st [Ag I,Ap 3 H G,Ap 2 E D])]⟩
theorem Vh(V U T:Int)(S:Nat)(Q:Ae)(P:Int)(O:Nat)(N:Ae)(M:Nat)(L:Ae)(K J:Int)(I:Nat)(W H:Int)(Z G:Int)(E:Nat)(D:Ae)(Y:Nat)(X:Ae):F6 u F V U T S Q P O N M L K J (I+1) W H Z G E D Y X=(Aq (decide (Z<(↑Y:Int))) (Aw (decide (0<=Z)&&decide (Z<(↑Y:Int)))<|Bn .i64 (X.getD (Z.toNat*2+1) .top) λa=>Aq (decide (a<=W)) (Aw (decide (0<=Z)&&decide (Z<(↑Y:Int)))<|Bn .i64 (X.getD (Z.toNat*2+0) .top) λa=>Aa (wrap .i64 (Z+1)) λb=>F6 u F V U T S Q P O N M L K J I W a b G E D Y X) (Aa (wrap .i64 (Z+1)) λa=>F6 u F V U T S Q P O N M L K J I W H a G E D Y X)) (Bd [H])):=Κ
theorem Y4{p:Option (Ae->Option A8)}(u d:Nat)(Z Y X:Int)(W:Nat)(V:Ae)(U:Int)(T:Nat)(S:Ae)(Q:Nat)(P:Ae)(O N:Int):Ac (CP p) prog u (d+1) 59 [.agg [Z,Y,X,Ap 3 W V,U,Ap 1 T S,Ap 1 Q P],Ag O,N]=(λ(F:Ao)=>De (F 101 [.agg [Z,Y,X,Ap 3 W V,U,Ap 1 T S,Ap 1 Q P],Ag O]) λa b=>Dr a λa=>Bw .u64 a λa c=>Ov 3 c λc e f=>Ov 2 f λf g h=>Ah h<|Hm b λb=>F6 u F Z Y X W V U T S Q P O N u N 0 0 a c e f g) (Ac (CP p) prog u d):=Κ
end
section
variable {B:FuncId->Option (Ae->Option A8)}(u d:Nat)(F:Ao)
theorem ME{p:Option (Ae->Option A8)}(u d:Nat)(Z Y:Int):Ac (CP p) prog u (d+1) 16 [Ag Z,Y]=(λ(F:Ao)=>De (F 40 [Ag Z,Y]) λa b=>Dr a λa=>Bw .i64 a λa c=>Br .u64 c λc=>Br .i64 b λb=>Bd [.agg [a,Ag c]]) (Ac (CP p) prog u d):=Κ
theorem Xe{p:Option (Ae->Option A8)}(u d:Nat)(Z Y:Int)(X:Bool):Ac (CP p) prog u (d+1) 7 [Z,Y,X]=(λ(F:Ao)=>Aa (wrap .u64 Z) λa=>Aa (wrap .u64 (1000+a)) λa=>Aa (wrap .i64 (500+Z)) λb=>De (F 9 [b,(176:Int)]) λb c=>Na 1 b λb e=>Ah c<|Aw (decide (b*1<=e.length))<|Bd [.agg [Ag a,Y,.own 1 b (e.take (b*1)),X]]) (Ac (CP p) prog u d):=Κ
theorem Xs{p:Option (Ae->Option A8)}(u d:Nat)(X W:Int)(V:Nat)(U:Ae)(Z Y:Bool):Ac (CP p) prog u (d+1) 20 [.agg [Ag X,W,Ap 1 V U,Z],Y]=(λ(F:Ao)=>Aq Y (Aq Z (Bd [(13:Int)]) (Bd [(5:Int)])) (Aq Z (Bd [(9:Int)]) (Bd [(1:Int)]))) (Ac (CP p) prog u d):=Κ
theorem Vv{p:Option (Ae->Option A8)}(u d:Nat)(Z Y:Int)(X:Nat)(W:Ae)(U:Bool)(T S:ByteArray)(Q:Nat)(P:Ae)(O:Bool)(V N:Int)(M:ByteArray):Ac (CP p) prog u (d+1) 8 [.agg [Ag Z,Y,Ap 1 X W,U],T,S,Ap 1 Q P,O,V,N,M]=(λ(F:Ao)=>De (F 17 [.agg [(2:Int),Ap 1 Q P,S,false,Bf ⟨#[]⟩]]) λa b=>As a λa=>Br .i64 b λb=>Gm .u64 (F 19 [T]) λb=>Gm .i64 (F 20 [.agg [Ag Z,Y,Ap 1 X W,U],O]) λc=>Aa (wrap .i64 (V+1)) λe=>De (F 18 [.agg [Ag b,c,e,N,Ag 0,Ap 1 0 [],(0:Int),Ag 0]]) λb c=>Na 1 b λb e=>Br .i64 c λc=>Gm .u64 (F 23 [a]) λc=>(λm:PV=>Aw (decide (0+b*1<=e.length))<|Gm .u64 (F 22 [m,Ag c]) λc=>De (F 21 [Ag Z,Y,V,Ag c]) λc f=>Dr c λc=>Bw .i64 c λc g=>ZzO 1 g λg h i=>ZzO 1 i λi j k=>Ah k<|Br .i64 f λf=>Aw (decide (0+g*1<=h.length))<|Aw (decide (0+i*1<=j.length))<|De (F 24 [.agg [c,Ap 1 g (List.take (g*1) (h.drop 0)),Ap 1 i (List.take (i*1) (j.drop 0))]]) λc f=>Na 1 c λc g=>Br .i64 f λf=>Aw (decide (0+b*1<=e.length))<|Aw (decide (0+c*1<=g.length))<|Bd [.agg [(2:Int),a,m,Ap 1 c (List.take (c*1) (g.drop 0)),Ap 1 0 [],(0:Int),Ap 1 X W,M]]) (Ap 1 b (List.take (b*1) (e.drop 0)))) (Ac (CP p) prog u d):=Κ
theorem Vs{p:Option (Ae->Option A8)}(u d:Nat)(W Y:Int)(V U T:Int)(Z:Nat)(X:Ae)(S Q:Int):Ac (CP p) prog u (d+1) 18 [.agg [Ag W,Y,V,U,Ag T,Ap 1 Z X,S,Ag Q]]=(λ(F:Ao)=>Gm .i64 (F 44 [.agg [Ag W,Y,V,U,Ag T,Ap 1 Z X,S,Ag Q]]) λa=>Aq (a != 0) (Bd [.own 1 0 [],a]) (De (F 45 [Ap 1 1 [Ag W]]) λa b=>Na 1 a λa c=>Ah b<|Aa (wrap .u8 Y) λb=>Aa (wrap .u8 V) λe=>Aa (wrap .u8 U) λf=>Aw (decide (a*1<=c.length)&&true&&decide ((a+3)*1<=1099511627776)&&decide (a+3<=1099511627776))<|Aa (a+3) λg=>Aa (List.take (a*1) c++[.sc (.int .u8 b),.sc (.int .u8 e),.sc (.int .u8 f)]) λa=>Aa (C5 .i64 Y 64) λb=>Aq (b != 0) (De (F 46 [.agg [S,Ag Q]]) λb c=>Na 1 b λb e=>Br .i64 c λc=>De (F 45 [Ap 1 1 [Ag T]]) λc f=>Na 1 c λc h=>Ah f<|Aw (decide (0+c*1<=h.length))<|Aw (decide (g*1<=a.length)&&decide (List.length (List.take (c*1) (h.drop 0))=c*1)&&decide ((g+c)*1<=1099511627776)&&decide (g+c<=1099511627776))<|Aa (g+c) λf=>Aa (List.take (g*1) a++List.take (c*1) (h.drop 0)) λa=>Aw (decide (f*1<=a.length)&&decide (X.length=Z*1)&&decide ((f+Z)*1<=1099511627776)&&decide (f+Z<=1099511627776))<|Aa (f+Z) λc=>Aa (List.take (f*1) a++X) λa=>Aw (decide (0+b*1<=e.length))<|Aw (decide (c*1<=a.length)&&decide (List.length (List.take (b*1) (e.drop 0))=b*1)&&decide ((c+b)*1<=1099511627776)&&decide (c+b<=1099511627776))<|Aa (c+b) λf=>Aa (List.take (c*1) a++List.take (b*1) (e.drop 0)) λa=>Aw (decide (f*1<=a.length))<|Bd [.own 1 f (a.take (f*1)),(0:Int)]) (Aw (decide (g*1<=a.length))<|Bd [.own 1 g (a.take (g*1)),(0:Int)]))) (Ac (CP p) prog u d):=Κ
theorem Hi{p:Option (Ae->Option A8)}(u d Z:Nat)(Y:Ae)(X:Int):Ac (CP p) prog u (d+1) 14 [.pbox [Ap 1 Z Y,X]]=(λ(F:Ao)=>An (F 15 [.pbox [Ap 1 Z Y,X],(3:Int)]) λa b=>Br .i64 a λa=>Ad b λb c=>Ov 1 b λb e f=>Br .i64 f λf=>Ah c<|An (F 15 [.pbox [Ap 1 b e,f],(2:Int)]) λb c=>Br .i64 b λb=>Ad c λc e=>Ov 1 c λc f g=>Br .i64 g λg=>Ah e<|An (F 15 [.pbox [Ap 1 c f,g],(2:Int)]) λc e=>Br .i64 c λc=>Ad e λe f=>Ov 1 e λe g h=>Br .i64 h λh=>Ah f<|Aa (wrap .i64 (1+c)) λc=>An (F 15 [.pbox [Ap 1 e g,h],(3:Int)]) λe f=>Br .i64 e λe=>Ad f λf g=>Ov 1 f λf h i=>Br .i64 i λi=>Ah g<|Aa (wrap .i64 (1+e)) λe=>An (F 15 [.pbox [Ap 1 f h,i],(2:Int)]) λf g=>Br .i64 f λf=>Ad g λg h=>Ov 1 g λg i j=>Br .i64 j λj=>Ah h<|An (F 15 [.pbox [Ap 1 g i,j],(3:Int)]) λg h=>Br .i64 g λg=>Ad h λh i=>Ov 1 h λh j k=>Br .i64 k λk=>Ah i<|An (F 15 [.pbox [Ap 1 h j,k],(2:Int)]) λh i=>Br .i64 h λh=>Ad i λi j=>Ov 1 i λi k m=>Br .i64 m λm=>Ah j<|An (F 15 [.pbox [Ap 1 i k,m],(3:Int)]) λi j=>Br .i64 i λi=>Ad j λj k=>Ov 1 j λj m n=>Br .i64 n λn=>Ah k<|Aw (decide (0<=i)&&decide (i<3))<|Bn .i64 (List.getD [(50:Int),(5:Int),(500:Int)] (0+i.toNat*1) .top) λi=>An (F 15 [.pbox [Ap 1 j m,n],(4:Int)]) λj k=>Br .i64 j λj=>Ad k λk m=>Ov 1 k λk n o=>Br .i64 o λo=>Ah m<|Aq (j==3) (An (F 15 [.pbox [Ap 1 k n,o],(2:Int)]) λj k=>Br .i64 j λj=>Ad k λk m=>Ov 1 k λk n o=>Br .i64 o λo=>Ah m<|Aa (wrap .i64 (1+j)) λj=>Aw (decide (0<=j))<|Aw (decide (j.toNat<=2))<|Aa (j.toNat-0) λj=>Aw (decide (j*1<=2))<|some ⟨[.agg [a,Cn (b==1),c,e,Cn (f==1),g,Cn (h==1),.own 1 j (List.take (j*1) [Ag 3,Ag 7]),i]],[[Ap 1 k n,o]]⟩) (some ⟨[.agg [a,Cn (b==1),c,e,Cn (f==1),g,Cn (h==1),.own 1 0 [],i]],[[Ap 1 k n,o]]⟩)) (Ac (CP p) prog u d):=Κ
theorem K8{p:Option (Ae->Option A8)}(u d Z:Nat)(Y:Ae)(X:Int):Ac (CP p) prog u (d+1) 6 [.pbox [Ap 1 Z Y,X]]=(λ(F:Ao)=>An (F 14 [.pbox [Ap 1 Z Y,X]]) λa b=>Ad a λa c=>Dr a λa=>Bw .i64 a λa e=>Ad e λe f=>Be e λe=>Bw .i64 f λf g=>Bw .i64 g λg h=>Ad h λh i=>Be h λh=>Bw .i64 i λi j=>Ad j λj k=>Be j λj=>ZzO 1 k λk m n=>Br .i64 n λn=>Ah c<|Ad b λb c=>Ov 1 b λb o q=>Br .i64 q λq=>Ah c<|An (F 15 [.pbox [Ap 1 b o,q],(3:Int)]) λb c=>Br .i64 b λb=>Ad c λc o=>Ov 1 c λc q s=>Br .i64 s λs=>Ah o<|Aa (wrap .u64 b) λb=>Aa (wrap .u64 (5+b)) λb=>De (F 16 [Ag 31,(4:Int)]) λo t=>Dr o λo=>Bw .i64 o λo l=>Br .u64 l λl=>Ah t<|Aw (decide (0+k*1<=m.length))<|some ⟨[.agg [Bf ⟨#[101,120,97,109,112,108,101,46,99,111,109]⟩,Bf ⟨#[69,120,97,109,112,108,101]⟩,Ap 1 2 [Bf ⟨#[104,116,116,112,115,58,47,47,101,120,97,109,112,108,101,46,99,111,109]⟩,Bf ⟨#[104,116,116,112,115,58,47,47,108,111,103,105,110,46,101,120,97,109,112,108,101,46,99,111,109]⟩],a,e,f,g,h,i,j,Ap 1 k (List.take (k*1) (m.drop 0)),n,Ag b,o,Ag l]],[[Ap 1 c q,s]]⟩) (Ac (CP p) prog u d):=Κ
theorem BO{p:Option (Ae->Option A8)}(u d:Nat)(Z Y:Int)(X:Nat)(W:Ae)(V:Bool)(U:Int):Ac (CP p) prog u (d+1) 11 [.agg [Ag Z,Y,Ap 1 X W,V],Ag U]=(λ(F:Ao)=>De (F 16 [Ag Z,Y]) λa b=>Dr a λa=>Bw .i64 a λa c=>Br .u64 c λc=>Ah b<|Bd [.agg [Ap 1 X W,a,Ag c,Ag U,(0:Int),V,Ag 0,Ap 2 0 [],false,(1:Int),(1:Int)]]) (Ac (CP p) prog u d):=Κ
def N8(Z:Nat)(Y X:ByteArray)(W:Nat)(V:Ae)(U:Int)(T:Bool)(S Q:Int)(P:Bool)(O:Int)(N:Bool)(M:Nat)(L:Ae)(K J:Int)(I H:Int):Option A8:=H6 u F 13 Tryz.f13 [] [.r] Z ⟨lk [(0,.ptr 0 0)],Fe [(0,.st [Y,X,Ap 1 W V,U,T,S,Q,P,O,N,Ap 1 M L,K,Ag J,I,Ag H])]⟩
theorem X5(Z:Nat)(F7:0<Z)(Y X:ByteArray)(W:Nat)(V:Ae)(U:Int)(T:Bool)(S Q:Int)(P:Bool)(O:Int)(N:Bool)(M:Nat)(L:Ae)(K J:Int)(I H:Int):N8 u F Z Y X W V U T S Q P O N M L K J I H=(Bd [.agg [Y,X,Ap 1 W V,U,T,S,Q,P,O,N,Ap 1 M L,K,Ag J,I,Ag H]]):=by cases Z with|zero=>exact absurd F7 (Nat.lt_irrefl 0)|succ Z=>kernel_rfl
theorem CC{p:Option (Ae->Option A8)}(u d:Nat):Ac (CP p) prog u (d+1) 13 []=(λ(F:Ao)=>De (F 5 [Ap 1 0 []]) λa b=>FI a λa=>Ov 1 a λa c e=>Br .i64 e λe=>Ah b<|An (F 6 [.pbox [Ap 1 a c,e]]) λa b=>Ad a λa c=>Dr a λa=>Ad a λa e=>As a λa=>Ad e λe f=>As e λe=>Ov 1 f λf g h=>Bw .i64 h λh i=>Ad i λi j=>Be i λi=>Bw .i64 j λj k=>Bw .i64 k λk m=>Ad m λm n=>Be m λm=>Bw .i64 n λn o=>Ad o λo q=>Be o λo=>Ov 1 q λq s t=>Bw .i64 t λt l=>Bw .u64 l λl v=>Bw .i64 v λv w=>Br .u64 w λw=>Ah c<|Ad b λb c=>Ov 1 b λb z A=>Br .i64 A λb=>Ah c<|N8 u F u a e f g h i j k m n o q s t l v w) (Ac (CP p) prog u d):=Κ
theorem HE{p:Option (Ae->Option A8)}(u d:Nat)(Z Y:ByteArray)(X:Nat)(W:Ae)(V:Int)(U:Bool)(T S:Int)(Q:Bool)(P:Int)(O:Bool)(N:Nat)(M:Ae)(L K:Int)(J I:Int)(H G E:Int)(D:Nat)(B:Ae)(A:Int)(z:Nat)(w:Ae)(v:Nat)(l:Ae)(A46:Nat)(A99:Ae)(Ba8 A92:Int)(Bda Bct:Int)(A2d:Bool)(Ahb:Int)(Abx:Nat)(XS:Ae)(Adq:Bool)(Afl MW:Int)(r:Nat)(a3:Ae)(a4 Aip:Int)(Afd:ByteArray)(A44:Nat)(Bd2:Ae)(Acm:Nat)(Arb:Ae)(QT:Nat)(Agw:Ae)(Ag9:Int)(Adc:Nat)(Aro:Ae)(Ahy:ByteArray):Ac (CP p) prog u (d+1) 10 [.agg [Z,Y,Ap 1 X W,V,U,T,S,Q,P,O,Ap 1 N M,L,Ag K,J,Ag I],.agg [H,G,E,Ap 3 D B,A,Ap 1 z w,Ap 1 v l],.agg [Ap 1 A46 A99,Ba8,Ag A92,Ag Bda,Bct,A2d,Ag Ahb,Ap 2 Abx XS,Adq,Afl,MW],Ap 1 r a3,a4,.agg [Aip,Afd,Ap 1 A44 Bd2,Ap 1 Acm Arb,Ap 1 QT Agw,Ag9,Ap 1 Adc Aro,Ahy]]=(λ(F:Ao)=>(λR:PV=>(λz1:PV=>(λz2:PV=>(λz3:PV=>De (F 12 [z2,z3,R,Ap 1 r a3,a4,z1]) λa b=>Dr a λa=>Ov 1 a λa c e=>Bw .i64 e λe f=>Bw .u64 f λf g=>Bw .u64 g λg h=>Bw .i64 h λh i=>Ad i λi j=>Be i λi=>Bw .u64 j λj k=>Ov 2 k λk m n=>Ad n λn o=>Be n λn=>Bw .i64 o λo q=>Br .i64 q λq=>Br .i64 b λb=>De (F 26 [z2,z3,R,Ap 1 r a3,a4,z1]) λs t=>Dr s λs=>Ov 1 s λs x y=>Bw .i64 y λC x57=>Bw .u64 x57 λx61 x60=>Bw .u64 x60 λx64 x63=>Bw .i64 x63 λx67 x66=>Ad x66 λx68 x69=>Be x68 λx70=>Bw .u64 x69 λx73 x72=>Ov 2 x72 λx77 x78 x75=>Ad x75 λx79 x80=>Be x79 λx81=>Bw .i64 x80 λx84 x83=>Br .i64 x83 λx87=>Br .i64 t λt=>Aq (b==t) (De (F 27 [.agg [Ap 1 a c,e,Ag f,Ag g,h,i,Ag j,Ap 2 k m,n,o,q],.agg [Ap 1 s x,C,Ag x61,Ag x64,x67,x70,Ag x73,Ap 2 x77 x78,x81,x84,x87]]) λa b=>Be a λa=>Ah b<|Bd [a]) (Bd [false])) (.agg [H,G,E,Ap 3 D B,A,Ap 1 z w,Ap 1 v l])) (.agg [Z,Y,Ap 1 X W,V,U,T,S,Q,P,O,Ap 1 N M,L,Ag K,J,Ag I])) (.agg [Aip,Afd,Ap 1 A44 Bd2,Ap 1 Acm Arb,Ap 1 QT Agw,Ag9,Ap 1 Adc Aro,Ahy])) (.agg [Ap 1 A46 A99,Ba8,Ag A92,Ag Bda,Bct,A2d,Ag Ahb,Ap 2 Abx XS,Adq,Afl,MW])) (Ac (CP p) prog u d):=Κ
end
section
variable {B:FuncId->Option (Ae->Option A8)}(u d:Nat)(F:Ao)
def Pm(Z Y:Nat)(X W:Int)(V:Nat)(U:Bool)(T S:Ae)(Q:Int)(P:ByteArray)(O:Nat)(N:Ae)(M:Nat)(L:Ae)(K:Nat)(J:Ae)(I:Int)(H:Nat)(G:Ae)(E:ByteArray):Option A8:=H6 u F 4 Tryz.f4 [] [.r,.r,.r] Z ⟨lk [(1,.ptr 1 0),(2,.view 2 1 0 Y),(3,.ptr 3 0)],Fe [(1,.st [Ag X,W,.view 157 1 0 V,U]),(157,.ar true T),(2,.ar true S),(3,.st [Q,P,Ap 1 O N,Ap 1 M L,Ap 1 K J,I,Ap 1 H G,E])]⟩
def O9(Z Y:Nat)(X:Int)(W:Ae)(V:Int)(U:ByteArray)(T:Nat)(S:Ae)(Q:Nat)(P:Ae)(O:Nat)(N:Ae)(M:Int)(L:Nat)(K:Ae)(J:ByteArray)(I:Nat)(H:Ae)(G E:Int)(D B:Int)(A:Bool)(z:Int)(w:Nat)(v:Ae)(a:Bool)(t FK:Int):Option A8:=H6 u F 4 Tryz.f4 [] [.r,.r,.r,.r] Z ⟨lk [(2,.view 2 1 0 Y),(3,.ptr 3 0),(4,.ptr 4 0),(5,X)],Fe [(2,.ar true W),(3,.st [V,U,Ap 1 T S,Ap 1 Q P,Ap 1 O N,M,Ap 1 L K,J]),(4,.st [Ap 1 I H,G,Ag E,Ag D,B,A,Ag z,Ap 2 w v,a,t,FK])]⟩
def O7(Z:Nat)(Y X:Int)(W:Nat)(V:Ae)(U T:Int)(S Q:Int)(P:Bool)(O:Int)(N:Nat)(M:Ae)(L:Bool)(K J:Int)(I:Nat)(H:Ae)(G E:Int)(D B:Int)(A:Bool)(z:Int)(w:Nat)(v:Ae)(a:Bool)(t FK:Int):Option A8:=H6 u F 4 Tryz.f4 [] [.r,.r,.r,.r,.r] Z ⟨lk [(4,.ptr 4 0),(5,Y),(6,.ptr 6 0),(7,X)],Fe [(4,.st [Ap 1 W V,U,Ag T,Ag S,Q,P,Ag O,Ap 2 N M,L,K,J]),(6,.st [Ap 1 I H,G,Ag E,Ag D,B,A,Ag z,Ap 2 w v,a,t,FK])]⟩
theorem Yo(Y:Nat)(F7:0<Y)(Z:Nat)(H G:Int)(X:Nat)(E:Bool)(V W:Ae)(U:Int)(T:ByteArray)(S:Nat)(Q:Ae)(P:Nat)(O:Ae)(N:Nat)(M:Ae)(L:Int)(K:Nat)(J:Ae)(I:ByteArray):Pm u F Y Z H G X E V W U T S Q P O N M L K J I=(De (F 13 []) λa b=>Dr a λa=>Ad a λa c=>As a λa=>Ad c λc e=>As c λc=>Ov 1 e λe f g=>Bw .i64 g λg h=>Ad h λh i=>Be h λh=>Bw .i64 i λi j=>Bw .i64 j λj k=>Ad k λk m=>Be k λk=>Bw .i64 m λm n=>Ad n λn o=>Be n λn=>Ov 1 o λo p q=>Bw .i64 q λq s=>Bw .u64 s λs t=>Bw .i64 t λt d=>Br .u64 d λd=>Ah b<|Aw (decide (0+X*1<=V.length))<|De (F 11 [.agg [Ag H,G,Ap 1 X (List.take (X*1) (V.drop 0)),E],Ag 0]) λb v=>Dr b λb=>Ov 1 b λb w z=>Bw .i64 z λz A=>Bw .u64 A λA B=>Bw .u64 B λB D=>Bw .i64 D λD Bf2=>Ad Bf2 λBj3 Bfx=>Be Bj3 λBh0=>Bw .u64 Bfx λBhq Bgc=>Ov 2 Bgc λBg4 Bf8 Biv=>Ad Biv λBit Bje=>Be Bit λBfq=>Bw .i64 Bje λBg7 Bjt=>Br .i64 Bjt λA7c=>Ah v<|Aw (decide (0+Z*1<=W.length))<|De (F 12 [.agg [a,c,Ap 1 e f,g,h,i,j,k,m,n,Ap 1 o p,q,Ag s,t,Ag d],.agg [(0:Int),(0:Int),(0:Int),Ap 3 0 [],(0:Int),Ap 1 0 [],Ap 1 0 []],.agg [Ap 1 b w,z,Ag A,Ag B,D,Bh0,Ag Bhq,Ap 2 Bg4 Bf8,Bfq,Bg7,A7c],Ap 1 Z (List.take (Z*1) (W.drop 0)),(5:Int),.agg [U,T,Ap 1 S Q,Ap 1 P O,Ap 1 N M,L,Ap 1 K J,I]]) λa b=>Dr a λa=>Ov 1 a λa c e=>Bw .i64 e λe f=>Bw .u64 f λf g=>Bw .u64 g λg h=>Bw .i64 h λh i=>Ad i λi j=>Be i λi=>Bw .u64 j λj k=>Ov 2 k λk m n=>Ad n λn o=>Be n λn=>Bw .i64 o λo p=>Br .i64 p λp=>Br .i64 b λb=>O9 u F u Z b W U T S Q P O N M L K J I a c e f g h i j k m n o p):=by cases Y with|zero=>exact absurd F7 (Nat.lt_irrefl 0)|succ Y=>kernel_rfl
theorem Y2(Z:Nat)(F7:0<Z)(Y:Nat)(I:Int)(X:Ae)(H:Int)(G:ByteArray)(E:Nat)(D:Ae)(B:Nat)(A:Ae)(z:Nat)(w:Ae)(v:Int)(d:Nat)(t:Ae)(SY:ByteArray)(W:Nat)(V:Ae)(U T:Int)(S Q:Int)(P:Bool)(O:Int)(N:Nat)(M:Ae)(L:Bool)(K J:Int):O9 u F Z Y I X H G E D B A z w v d t SY W V U T S Q P O N M L K J=(De (F 13 []) λa b=>Dr a λa=>Ad a λa c=>As a λa=>Ad c λc e=>As c λc=>Ov 1 e λe f g=>Bw .i64 g λg h=>Ad h λh i=>Be h λh=>Bw .i64 i λi j=>Bw .i64 j λj k=>Ad k λk m=>Be k λk=>Bw .i64 m λm n=>Ad n λn o=>Be n λn=>Ov 1 o λo p q=>Bw .i64 q λq s=>Bw .u64 s λs Bgm=>Bw .i64 Bgm λBh7 Bjq=>Br .u64 Bjq λBjl=>Ah b<|Aw (decide (0+Y*1<=X.length))<|De (F 12 [.agg [a,c,Ap 1 e f,g,h,i,j,k,m,n,Ap 1 o p,q,Ag s,Bh7,Ag Bjl],.agg [(0:Int),(0:Int),(0:Int),Ap 3 0 [],(0:Int),Ap 1 0 [],Ap 1 0 []],.agg [Ap 1 W V,U,Ag T,Ag S,Q,P,Ag O,Ap 2 N M,L,K,J],Ap 1 Y (List.take (Y*1) (X.drop 0)),(5:Int),.agg [H,G,Ap 1 E D,Ap 1 B A,Ap 1 z w,v,Ap 1 d t,SY]]) λa b=>Dr a λa=>Ov 1 a λa c e=>Bw .i64 e λe f=>Bw .u64 f λf g=>Bw .u64 g λg h=>Bw .i64 h λh i=>Ad i λi j=>Be i λi=>Bw .u64 j λj k=>Ov 2 k λk m n=>Ad n λn o=>Be n λn=>Bw .i64 o λo p=>Br .i64 p λp=>Br .i64 b λb=>O7 u F u I b W V U T S Q P O N M L K J a c e f g h i j k m n o p):=by cases Z with|zero=>exact absurd F7 (Nat.lt_irrefl 0)|succ Z=>kernel_rfl
theorem Ys(Z:Nat)(F7:0<Z)(Y X:Int)(T:Nat)(S:Ae)(Q P:Int)(O N:Int)(M:Bool)(W:Int)(L:Nat)(K:Ae)(J:Bool)(I V:Int)(H:Nat)(G:Ae)(E D:Int)(B A:Int)(z:Bool)(w:Int)(v:Nat)(a:Ae)(U:Bool)(t FK:Int):O7 u F Z Y X T S Q P O N M W L K J I V H G E D B A z w v a U t FK=(Aq (Y==0) (Aq (W==4) (Aq (V==5) (Aq (X==37) (Bd [U]) (Bd [false])) (Bd [false])) (Bd [false])) (Bd [false])):=by cases Z with|zero=>exact absurd F7 (Nat.lt_irrefl 0)|succ Z=>kernel_rfl
theorem DW{p:Option (Ae->Option A8)}(u d:Nat):Ac (CP p) prog u (d+1) 4 []=(λ(F:Ao)=>De (F 7 [(1:Int),(2:Int),false]) λa b=>Dr a λa=>Bw .u64 a λa c=>Bw .i64 c λc e=>ZzO 1 e λe f g=>Hm g λg=>Ah b<|De (F 9 [(1:Int),(16:Int)]) λb h=>Na 1 b λb i=>Ah h<|Aw (decide (0+e*1<=f.length))<|Aw (decide (0+b*1<=i.length))<|De (F 8 [.agg [Ag a,c,Ap 1 e (List.take (e*1) (f.drop 0)),g],Bf ⟨#[101,120,97,109,112,108,101,46,99,111,109]⟩,Bf ⟨#[104,116,116,112,115,58,47,47,101,120,97,109,112,108,101,46,99,111,109]⟩,Ap 1 b (List.take (b*1) (i.drop 0)),false,(2:Int),(0:Int),Bf ⟨#[117]⟩]) λh j=>Dr h λh=>Bw .i64 h λh k=>Ad k λk m=>As k λk=>Ov 1 m λm n o=>Ov 1 o λo q s=>Ov 1 s λs t l=>Bw .i64 l λl v=>Ov 1 v λv w z=>Ad z λz A=>As z λz=>Ah A<|Ah j<|Pm u F u b a c e g f i h k m n o q s t l v w z) (Ac (CP p) prog u d):=Κ
end
def eqB(a b:Ak):Bool:=(a.map λn=>n.toNat.toUInt8)==(b.map λn=>n.toNat.toUInt8)
theorem Adk(a b:Ak):(Array.toList (ByteArray.data (ByteArray.mk (List.toArray (a.map λn=>n.toNat.toUInt8))))==Array.toList (ByteArray.data (ByteArray.mk (List.toArray (b.map λn=>n.toNat.toUInt8)))))=eqB a b:=by exact id rfl
theorem Ajp(a:Ak):eqB a a=true:=by unfold eqB;simp
def IM(b:Ak)(c:Int):Int:=Fa 13 (b++B5 c)
section
variable {u d:Nat}
theorem Akd(a b:Ak):Ac C1 prog u (d+1) 29 [.lst false 1 a.length (Af .u8 a),.lst false 1 b.length (Af .u8 b)]=some ⟨[Cn (eqB a b)],[]⟩:=by refine (ZW u d a.length (Af .u8 a) b.length (Af .u8 b)).trans ?_;have La:=Am .u8 a;have Lb:=Am .u8 b;have c:=I3 a;have e:=I3 b;have q:=Adk a b;simp(disch:=omega)only[Av,Au,La,Lb,c,e,q]
theorem A8n{s:ByteArray}(b:s.size<=1000000)(Bg:1000400<=u):Ac C1 prog u (d+6) 31 [Bf s]=some ⟨[Ag (Fa 9 (Ci s))],[]⟩:=by
 refine (KN u (d+5) s).trans ?_;have a:=UA (B:=ZM) (u:=u) (d:=d) (l:=Ci s) (AM s) (by rw[Cb];omega) Ω (by rw[Cb];omega) 9
 have L:(D1 s).length=s.size:=by rw[I1,Am,Cb]
 have t:List.take s.size (D1 s)=Af .u8 (Ci s):=by rw[I1,Jo (by rw[Am,Cb];omega)]
 rw[Cb] at a;simp(disch:=omega)only[Av,Au,L,t,Nr,Jy,a]
theorem Awf{s:ByteArray}(b:s.size<=1000000)(Bg:1000400<=u):Ac C1 prog u (d+6) 34 [Bf s]=some ⟨[Ag (Fa 11 (Ci s))],[]⟩:=by
 refine (KS u (d+5) s).trans ?_;have a:=UA (B:=ZM) (u:=u) (d:=d) (l:=Ci s) (AM s) (by rw[Cb];omega) Ω (by rw[Cb];omega) 11
 have L:(D1 s).length=s.size:=by rw[I1,Am,Cb]
 have t:List.take s.size (D1 s)=Af .u8 (Ci s):=by rw[I1,Jo (by rw[Am,Cb];omega)]
 rw[Cb] at a;simp(disch:=omega)only[Av,Au,L,t,Nr,Jy,a]
theorem Aza{s:ByteArray}(b:s.size<=1000000)(Bg:1000400<=u):Ac C1 prog u (d+5) 19 [Bf s]=some ⟨[Ag (Fa 9 (Ci s))],[]⟩:=by
 refine (BQ u (d+4) s).trans ?_;have a:=LT (B:=ZM) (u:=u) (d:=d) (l:=Ci s) (AM s) (by rw[Cb];omega) Ω (by rw[Cb];omega) 9
 have L:(D1 s).length=s.size:=by rw[I1,Am,Cb]
 have t:List.take s.size (D1 s)=Af .u8 (Ci s):=by rw[I1,Jo (by rw[Am,Cb];omega)]
 rw[Cb] at a;simp(disch:=omega)only[Av,Au,L,t,Nr,Jy,a]
theorem Aay{s:ByteArray}(b:s.size<=1000000)(Bg:1000400<=u):Ac C1 prog u (d+5) 23 [Bf s]=some ⟨[Ag (Fa 11 (Ci s))],[]⟩:=by
 refine (Yj u (d+4) s).trans ?_;have a:=LT (B:=ZM) (u:=u) (d:=d) (l:=Ci s) (AM s) (by rw[Cb];omega) Ω (by rw[Cb];omega) 11
 have L:(D1 s).length=s.size:=by rw[I1,Am,Cb]
 have t:List.take s.size (D1 s)=Af .u8 (Ci s):=by rw[I1,Jo (by rw[Am,Cb];omega)]
 rw[Cb] at a;simp(disch:=omega)only[Av,Au,L,t,Nr,Jy,a]
theorem Apx{b:Ak}(e:Ce b)(k:b.length<=100000)(Bg:1000400<=u)(c:Int):Ac C1 prog u (d+5) 22 [.lst false 1 b.length (Af .u8 b),Ag c]=some ⟨[Ag (IM b c)],[]⟩:=by
 refine (Zr u (d+4) b.length (Af .u8 b) c).trans ?_;unfold IM;have f:=A2i (u:=u) (d:=d+3) Ω c;have Lq:(Af .u8 (B5 c)).length=8:=by rw[Am,C3]
 have g:List.take 8 (Af .u8 (B5 c))=Af .u8 (B5 c):=Jo Ω;have L:=Am .u8 b;have t:=PH .u8 b;have h:Af .u8 b++Af .u8 (B5 c)=Af .u8 (b++B5 c):=by rw[Af,Af,Af,List.flatMap_append]
 have Tn:(b++B5 c).length=b.length+8:=by rw[Vl,C3]
 have a:=LT (B:=ZM) (u:=u) (d:=d) (l:=b++B5 c) (Aee e (LI c)) Ω Ω Ω 13;have i:=Am .u8 (b++B5 c);have j:List.take (b.length+8) (Af .u8 (b++B5 c))=Af .u8 (b++B5 c):=Jo Ω;rw[Tn] at a;simp(disch:=omega)only[Av,Au,f,Nr,Ka,Jy,Lq,g,L,t,h,i,j,a]
theorem At7{n:Int}(e:0<=n)(j:n<=1000000):Ac C1 prog u (d+1) 109 [.lst true 1 0 [],A0 n]=some ⟨[.own 1 0 []],[]⟩:=by
 refine (IF u d n).trans ?_;have b:=dF (q:=n<0) Ω;have c:wrap .i64 (n-0)=n:=Bi
 by_cases h:n>0
 ·have a:=dT h;have f:=dT e;have g:=dT (q:=Int.toNat n*1<=1099511627776) Ω;have i:=dT (q:=n<=1099511627776) Ω;simp only[Av,Au,b,c,a,f,g,i]
 ·have a:=dF h;simp only[Av,Au,b,c,a]
set_option maxHeartbeats 1000000 in
theorem A1a{a b:Ak}(G:a.length<=100000)(H:b.length<=100000)(Bg:1000<=u):Ac C1 prog u (d+2) 73 [.lst false 1 2 [.lst false 1 a.length (Af .u8 a),.lst false 1 b.length (Af .u8 b)]]=some ⟨[.own 1 (a.length+b.length) (Af .u8 (a++b))],[]⟩:=by
 obtain⟨f,rfl⟩:∃f,u=f+3:=⟨u-3,Ω⟩
 refine (EV (f+3) (d+1) 2 _).trans ?_;have La:=Am .u8 a;have Lb:=Am .u8 b;have m:wrap .i64 (0+(a.length:Int))=((a.length:Nat):Int):=Bi
 have o:wrap .i64 (((a.length:Nat):Int)+(b.length:Int))=((a.length+b.length:Nat):Int):=Bi
 have c:wrap .i64 (0+1)=1:=Δ
 have e:wrap .i64 (1+1)=2:=Δ
 have l0:decide ((0:Int)<((2:Nat):Int))=true:=rfl;have g:decide ((1:Int)<((2:Nat):Int))=true:=rfl;have h:decide ((2:Int)<((2:Nat):Int))=false:=rfl;have i:decide ((0:Int)<=0)=true:=rfl;have j:decide ((0:Int)<=1)=true:=rfl;have k:List.getD [PV.lst false 1 a.length (Af .u8 a),PV.lst false 1 b.length (Af .u8 b)] (Int.toNat 0*1) PV.top=PV.lst false 1 a.length (Af .u8 a):=rfl;have l:List.getD [PV.lst false 1 a.length (Af .u8 a),PV.lst false 1 b.length (Af .u8 b)] (Int.toNat 1*1) PV.top=PV.lst false 1 b.length (Af .u8 b):=rfl;have n1:=dF (q:=((a.length:Nat):Int)<0) Ω;have n2:=dF (q:=((a.length+b.length:Nat):Int)<0) Ω;have p:=At7 (u:=f+3) (d:=d) (n:=((a.length+b.length:Nat):Int)) Ω Ω;have c1:decide (0*1<=List.length ([]:Ae))=true:=rfl;have c2:decide (List.length (Af .u8 a)=a.length*1)=true:=dT Ω
 have r:=dT (q:=a.length*1<=1099511627776) Ω;have s:=dT (q:=a.length<=1099511627776) Ω;have t:List.take (0*1) ([]:Ae)=[]:=rfl;have v:([]:Ae)++Af .u8 a=Af .u8 a:=Zzq _;have n0:0+a.length=a.length:=Ka _;have w:decide (a.length*1<=List.length (Af .u8 a))=true:=dT Ω;have x:decide (List.length (Af .u8 b)=b.length*1)=true:=dT Ω;have c7:=dT (q:=(a.length+b.length)*1<=1099511627776) Ω;have y:=dT (q:=a.length+b.length<=1099511627776) Ω;have z:List.take (a.length*1) (Af .u8 a)=Af .u8 a:=Jo Ω;have A:Af .u8 a++Af .u8 b=Af .u8 (a++b):=by rw[Af,Af,Af,List.flatMap_append]
 have C:=Am .u8 (a++b);rw[Vl] at C;have D:decide ((a.length+b.length)*1<=List.length (Af .u8 (a++b)))=true:=dT Ω;have E:List.take ((a.length+b.length)*1) (Af .u8 (a++b))=Af .u8 (a++b):=Jo Ω
 (try dsimp only)
 rw[Iw];simp only[Av,Au,l0,i,k,m,n1,c]
 (try dsimp only)
 rw[Iw];simp only[Av,Au,g,j,l,o,n2,e]
 (try dsimp only)
 rw[Iw];simp only[Av,Au,h,p];rw[Ie];simp only[Av,Au,l0,i,k,c1,c2,r,s,t,v,n0,c];rw[Ie];simp only[Av,Au,g,j,l,w,x,c7,y,z,A,e];rw[Ie];simp only[Av,Au,h,D,E]
theorem A0h{b:Ak}(f:Ce b)(g:b.length<=100000)(Bg:1000400<=u)(c:Int):Ac C1 prog u (d+6) 33 [.lst false 1 b.length (Af .u8 b),Ag c]=some ⟨[Ag (IM b c)],[]⟩:=by
 refine (JT u (d+5) b.length (Af .u8 b) c).trans ?_;unfold IM;have h:=owd (B:=ZM) (u:=u) (d:=d+4) Ω c;have Lq:(Af .u8 (B5 c)).length=8:=by rw[Am,C3]
 have c1:decide (0+8*1<=List.length (Af .u8 (B5 c)))=true:=dT Ω;have i:List.take (8*1) (List.drop 0 (Af .u8 (B5 c)))=Af .u8 (B5 c):=Jo (by rw[Nr];omega)
 have Tn:(b++B5 c).length=b.length+8:=by rw[Vl,C3]
 have cc:=A1a (u:=u) (d:=d+3) (a:=b) (b:=B5 c) g (by rw[C3];omega) Ω
 rw[C3] at cc;have e:=UA (B:=ZM) (u:=u) (d:=d) (l:=b++B5 c) (Aee f (LI c)) Ω Ω Ω 13;have k:=Am .u8 (b++B5 c);have c2:decide (0+(b.length+8)*1<=List.length (Af .u8 (b++B5 c)))=true:=dT Ω;have j:List.take ((b.length+8)*1) (List.drop 0 (Af .u8 (b++B5 c)))=Af .u8 (b++B5 c):=Jo (by rw[Nr];omega)
 rw[Tn] at e;simp only[Av,Au,h,c1,i,cc,c2,j,e]
end
def R7.owned(a:R7):Ae:=[Ag a.rp,A0 a.fl,A0 a.ct,A0 a.rg,Ag a.md,.own 1 a.idn a.id,A0 a.kh,Ag a.kr]
abbrev ad0:R7:=⟨0,0,0,0,0,0,[],0,0⟩
def vT(a:R7):Int:=
 bif C5 .i64 a.fl 64==0 then (bif a.md != 0 then 4 else bif ((a.idn:Nat):Int) != 0 then 4 else bif !(a.kh==0&&(a.kr==0&&true)) then 4 else 0)
 else bif ((a.idn:Nat):Int) != 176 then 4 else if Er a.kh=true then 9 else 0
def vE(a:R7):Int:=
 bif Zp .i64 a.fl 93 != 0 then 9 else bif decide (a.ct<0) then 9 else bif decide (a.ct>16) then 9 else bif decide (a.rg<0) then 9 else bif decide (a.rg>=16) then 9 else
 bif C5 .i64 a.fl 16 != 0 then (bif C5 .i64 a.fl 8==0 then 18 else vT a) else vT a
theorem Ayw(a:Int):(a != 0) = !(a==0):=rfl
section
variable {u d:Nat}
theorem Ady(a:R7)(k:Int):Ac C1 prog u (d+1) 65 [.agg a.cells,A0 k]=some ⟨[Cn (C5 .i64 a.fl k != 0)],[]⟩:=
 (YA u d a.rp a.fl a.ct a.rg a.md a.idn a.id a.kh a.kr k).trans (by simp only[Av,Au])
set_option maxHeartbeats 1000000 in
theorem Apz(Bg:1000<=u)(a:R7):Ac C1 prog u (d+3) 68 [.agg a.cells]=some ⟨[A0 (vE a)],[]⟩:=by
 have l:=Ady (u:=u) (d:=d+1) a 8;have e:=Ady (u:=u) (d:=d+1) a 16;have f:=Ady (u:=u) (d:=d+1) a 64;have b:=Asw (B:=ZM) (u:=u) (d:=d) Bg ⟨a.kh,a.kr⟩;simp only[Ky.cells] at b
 obtain⟨v,w,q⟩:∃n c,Ac C1 prog u (d+2) 107 [.agg [A0 a.kh,Ag a.kr]]=some ⟨[.own 1 n c,A0 (if Er a.kh=true then 9 else 0)],[]⟩:=by
  by_cases j:Er a.kh=true
  ·exact⟨_,_,by rw[Bq j] at b;rw[Bq j];exact b⟩
  ·exact⟨_,_,by rw[Bb j] at b;rw[Bb j];exact b⟩
 simp only[R7.cells] at l e f;refine (GI u (d+2) a.rp a.fl a.ct a.rg a.md a.idn a.id a.kh a.kr).trans ?_;unfold vE;cases g:Zp .i64 a.fl 93 != 0
 rotate_left
 ·simp only[Av,Au,g,cond_true]
 cases h:decide (a.ct<0)
 rotate_left
 ·simp only[Av,Au,g,h,cond_true,cond_false]
 cases i:decide (a.ct>16)
 rotate_left
 ·simp only[Av,Au,g,h,i,cond_true,cond_false]
 cases k:decide (a.rg<0)
 rotate_left
 ·simp only[Av,Au,g,h,i,k,cond_true,cond_false]
 cases m:decide (a.rg>=16)
 rotate_left
 ·simp only[Av,Au,g,h,i,k,m,cond_true,cond_false]
 simp only[Av,Au,g,h,i,k,m,cond_true,cond_false];clear g h i k m;rw[Z5 (F7:=Ω)];unfold vT;simp only[Ayw] at l e f ⊢;cases o:C5 .i64 a.fl 16==0<;>cases b8:C5 .i64 a.fl 8==0<;>cases p:C5 .i64 a.fl 64==0<;>simp only[Av,Au,l,e,f,b8,o,p,cond_true,cond_false]
 all_goals first
  |(cases r:a.md==0<;>cases s:((a.idn:Nat):Int)==0<;>cases t:(a.kh==0&&a.kr==0)<;>simp only[Av,Au,r,s,t,cond_true,cond_false]<;>done)
  |(cases bl:((a.idn:Nat):Int) != 176<;>simp only[Av,Au,bl,q,cond_true,cond_false])
theorem QR(n a hi:Int):Ac C1 prog u (d+1) 87 [A0 n,A0 a,A0 hi]=some ⟨[Cn (decide (a<=n)&&decide (n<=hi))],[]⟩:=by
 refine (BV u d n a hi).trans ?_;by_cases h:a<=n
 ·simp(disch:=omega)only[Av,Au,h,decide_true,Zzm]
 ·simp(disch:=omega)only[Av,Au,h,decide_false,NT]
set_option maxHeartbeats 1000000 in
theorem PK(Bg:1000<=u)(a:R7):Ac C1 prog u (d+3) 44 [.agg a.cells]=some ⟨[A0 (vE a)],[]⟩:=by
 have b:=QR (u:=u) (d:=d+1) a.ct 0 16;have f:=QR (u:=u) (d:=d+1) a.rg 0 15;have e:=Amp (u:=u) (d:=d) Bg ⟨a.kh,a.kr⟩;simp only[Ky.cells] at e
 obtain⟨x,y,p⟩:∃n c,Ac C1 prog u (d+2) 46 [.agg [A0 a.kh,Ag a.kr]]=some ⟨[.own 1 n c,A0 (if Er a.kh=true then 9 else 0)],[]⟩:=by
  by_cases h:Er a.kh=true
  ·exact⟨_,_,by rw[Bq h] at e;rw[Bq h];exact e⟩
  ·exact⟨_,_,by rw[Bb h] at e;rw[Bb h];exact e⟩
 refine (Tb u (d+2) a.rp a.fl a.ct a.rg a.md a.idn a.id a.kh a.kr).trans ?_;unfold vE;cases g:Zp .i64 a.fl 93 != 0
 rotate_left
 ·simp only[Av,Au,g,cond_true]
 have q:(decide ((0:Int)<=a.ct)&&decide (a.ct<=16))=(!decide (a.ct<0) && !decide (a.ct>16)):=by rw[Bool.eq_iff_iff];simp<;>omega
 have r:(decide ((0:Int)<=a.rg)&&decide (a.rg<=15))=(!decide (a.rg<0) && !decide (a.rg>=16)):=by rw[Bool.eq_iff_iff];simp<;>omega
 rw[q] at b;rw[r] at f;cases i:decide (a.ct<0)
 rotate_left
 ·rw[i] at b;simp only[Es,NT] at b;simp only[Av,Au,g,b,cond_true,cond_false]
 cases m:decide (a.ct>16)
 rotate_left
 ·rw[i,m] at b;simp only[Es,Gg,Zzt] at b;simp only[Av,Au,g,b,cond_true,cond_false]
 rw[i,m] at b;simp only[Gg,Zzn] at b;cases j:decide (a.rg<0)
 rotate_left
 ·rw[j] at f;simp only[Es,NT] at f;simp only[Av,Au,g,b,f,cond_true,cond_false]
 cases o:decide (a.rg>=16)
 rotate_left
 ·rw[j,o] at f;simp only[Es,Gg,Zzt] at f;simp only[Av,Au,g,b,f,cond_true,cond_false]
 rw[j,o] at f;simp only[Gg,Zzn] at f;unfold vT;have s:decide (((a.idn:Nat):Int)>0) = !(((a.idn:Nat):Int)==0):=by rw[Bool.eq_iff_iff];simp<;>omega
 rw[Ayw] at g;simp only[Av,Au,Ayw,g,b,f,s,cond_true,cond_false];cases k:C5 .i64 a.fl 16==0<;>cases b8:C5 .i64 a.fl 8==0<;>cases l:C5 .i64 a.fl 64==0<;>simp only[Av,Au,b8,k,l,cond_true,cond_false]
 all_goals first
  |(cases t:a.md==0<;>cases v:((a.idn:Nat):Int)==0<;>cases w:(a.kh==0&&a.kr==0)<;>simp only[Av,Au,t,v,w,cond_true,cond_false]<;>done)
  |(cases bl:((a.idn:Nat):Int) != 176<;>simp only[Av,Au,bl,p,cond_true,cond_false])
end
def ZP(b:Ak):R7:=⟨ZZ (b.take 8),b.getD 8 0,b.getD 9 0,b.getD 10 0,0,0,[],0,0⟩
def adK(b:Ak)(k:Ky):R7:=⟨ZZ (b.take 8),b.getD 8 0,b.getD 9 0,b.getD 10 0,ZZ ((b.drop 11).take 8),176,Af .u8 ((b.drop 19).take 176),k.h,k.root⟩
def Yz(b:Ak):Option R7:=
 if b.length=11 then (if C5 .i64 (b.getD 8 0) 64=0 then (if vE (ZP b)=0 then some (ZP b) else none) else none)
 else if b.length=204 then (if C5 .i64 (b.getD 8 0) 64=0 then none else match Aah (b.drop 195) with|some k=>if vE (adK b k)=0 then some (adK b k) else none|none=>none)
 else none
theorem Aox{b:Ak}(h:b.length=11)(a:C5 .i64 (b.getD 8 0) 64=0):Yz b=if vE (ZP b)=0 then some (ZP b) else none:=by unfold Yz;rw[Bq h,Bq a]
theorem WU{b:Ak}(c:C5 .i64 (b.getD 8 0) 64≠0):Yz b=if b.length=204 then (match Aah (b.drop 195) with|some k=>if vE (adK b k)=0 then some (adK b k) else none|none=>none) else none:=by
 unfold Yz;by_cases h:b.length=11
 ·rw[Bq h,Bb c,Bb Ω]
 ·rw[Bb h];by_cases a:b.length=204
  ·rw[Bq a,Bq a,Bb c]
  ·rw[Bb a,Bb a]
theorem Avl{b:Ak}(h:b.length≠11)(c:C5 .i64 (b.getD 8 0) 64=0):Yz b=none:=by
 unfold Yz;rw[Bb h];by_cases a:b.length=204
 ·rw[Bq a,Bq c]
 ·rw[Bb a]
theorem Agz{b:Ak}(h:b.length≠11)(a:b.length≠204):Yz b=none:=by unfold Yz;rw[Bb h,Bb a]
def Ayr(o:Option R7):Ae:=match o with|some a=>[.agg a.owned,A0 0]|none=>[.agg ad0.owned,A0 2]
def Ans(o:Option R7):Ae:=match o with|some a=>[.agg a.cells,A0 0]|none=>[.agg ad0.cells,A0 2]
section
variable {u d:Nat}
theorem Arm{F:Ao}{n:Nat}{c:Ae}{l:Ak}(p:l.length<=1000):∀(r:Ak)(j nn:Nat)(x:Int),l.drop j=r->r.length<nn->j<=l.length ->
  Kz u F n c nn x l.length (Af .u8 l) (l.length:Int) (j:Int)=some ⟨[Ag (r.foldl Mg x)],[]⟩:=by
 intro r
 induction r with
 |nil=>
  intro j nn x hd b d;obtain⟨m,rfl⟩:∃m,nn=m+1:=⟨nn-1,Ω⟩
  have:=drop_nil hd;rw[Uu,Fd _ _ _ Ω];rfl
 |cons y r f=>
  intro j nn x hd b d;obtain⟨m,rfl⟩:∃m,nn=m+1:=⟨nn-1,Ω⟩
  obtain⟨Cs,h,a⟩:=Cl hd;have g:=Sr (k:=.u8) h;have i:Int.toNat (j:Int)=j:=H8 _;have o:wrap .i64 ((j:Int)+1)=((j+1:Nat):Int):=Bi
  have e:=f (j+1) m (Mg x y) a (by simp at b;omega) Ω
  rw[Uu];simp(disch:=omega)only[Av,Au,i,Jy,g,o];exact e
theorem Ahg(Bg:1000<=u){l:Ak}(a:l.length=8):Ac C1 prog u (d+1) 64 [.lst false 1 8 (Af .u8 l)]=some ⟨[Ag (ZZ l)],[]⟩:=by refine (TN u d 8 (Af .u8 l)).trans ?_;have e:=Arm (u:=u) (F:=Ac C1 prog u d) (n:=8) (c:=Af .u8 l) (l:=l) Ω l 0 u 0 rfl Ω Ω;rw[a] at e;exact e
theorem Aum{l:Ak}(h:l.length≠9):Aah l=none:=by unfold Aah;rw[Bb (λq=>h q.1)]
theorem Z2{b:Ak}(a:Ce b)(i:Nat):0<=b.getD i 0/\b.getD i 0<=255:=by
 rw[List.getD_eq_getElem?_getD];cases h:b[i]? with
 |none=>exact⟨Ψ,Ψ⟩
 |some y=>exact a y (List.mem_of_getElem? h)
theorem AC{b:Ak}{i:Nat}(h:i<b.length):(Af .u8 b).getD i .top=.sc (.int .u8 (b.getD i 0)):=by have g:b[i]?=some b[i]:=List.getElem?_eq_getElem h;have e:=Sr (k:=.u8) g;rw[e,List.getD_eq_getElem?_getD,g];rfl
set_option maxHeartbeats 2000000 in
theorem A03(Bg:1000<=u){b:Ak}(E:Ce b)(X:b.length<=100000):Ac C1 prog u (d+4) 30 [.lst false 1 b.length (Af .u8 b)]=some ⟨Ayr (Yz b),[]⟩:=by
 refine (NB u (d+3) b.length (Af .u8 b)).trans ?_;by_cases R:b.length<11
 ·have o:=dT (q:=((b.length:Nat):Int)<11) Ω;rw[Agz Ω Ω];simp only[Av,Au,o];rfl
 have o:=dF (q:=((b.length:Nat):Int)<11) Ω;have c1:=dT (q:=8<=b.length) Ω;have c2:=dT (q:=(8:Int)<((b.length:Nat):Int)) Ω;have s:=dT (q:=(9:Int)<((b.length:Nat):Int)) Ω;have t:=dT (q:=(10:Int)<((b.length:Nat):Int)) Ω;have v:List.take 8 (List.drop 0 (Af .u8 b))=Af .u8 (b.take 8):=by rw[Nr,Fj]
 have w:=Ahg (u:=u) (d:=d+2) Bg (l:=b.take 8) (by rw[List.length_take];omega)
 have x:=AC (b:=b) (i:=8) Ω;have y:=AC (b:=b) (i:=9) Ω;have a:=AC (b:=b) (i:=10) Ω;have u8:wrap .i64 (b.getD 8 0)=b.getD 8 0:=by have:=Z2 E 8;exact Bc
 have A:wrap .i64 (b.getD 9 0)=b.getD 9 0:=by have:=Z2 E 9;exact Bc
 have f:wrap .i64 (b.getD 10 0)=b.getD 10 0:=by have:=Z2 E 10;exact Bc
 have j:=Ady (u:=u) (d:=d+2) (ZP b) 64;simp only[R7.cells,ZP] at j;cases G:C5 .i64 (b.getD 8 0) 64 != 0 with
 |false=>
  rw[G] at j;have g:C5 .i64 (b.getD 8 0) 64=0:=by simpa using G
  by_cases S:11<b.length
  ·have m:=dT (q:=((b.length:Nat):Int)>11) Ω;rw[Avl Ω g];simp only[Av,Au,o,c1,c2,s,t,v,w,x,y,a,u8,A,f,j,m];rfl
  have m:=dF (q:=((b.length:Nat):Int)>11) Ω;have h:=Apz (u:=u) (d:=d) Bg (ZP b);rw[Aox Ω g];by_cases p:vE (ZP b)=0
  ·rw[Bq p];rw[p] at h;simp only[R7.cells,ZP] at h;have z:((0:Int) != 0)=false:=rfl;simp only[Av,Au,o,c1,c2,s,t,v,w,x,y,a,u8,A,f,j,m,h,z];rfl
  ·rw[Bb p];have z:(vE (ZP b) != 0)=true:=by simpa using p
   generalize vE (ZP b)=T at h z;simp only[R7.cells,ZP] at h;simp only[Av,Au,o,c1,c2,s,t,v,w,x,y,a,u8,A,f,j,m,h,z];rfl
 |true=>
  rw[G] at j;have g:C5 .i64 (b.getD 8 0) 64≠0:=by simpa using G
  by_cases Bpn:b.length<195
  ·have m:=dT (q:=((b.length:Nat):Int)<195) Ω;rw[WU g,Bb Ω];simp only[Av,Au,o,c1,c2,s,t,v,w,x,y,a,u8,A,f,j,m];rfl
  have m:=dF (q:=((b.length:Nat):Int)<195) Ω;have H:=dT (q:=195<=b.length) Ω;have I:=dT (q:=b.length<=b.length) (Cg _)
  have J:List.take ((b.length-195)*1) (List.drop 195 (Af .u8 b))=Af .u8 (b.drop 195):=by
   rw[Gj];exact Jo (by rw[Am,List.length_drop];omega)
  have r:=Ase (B:=ZM) (u:=u) (d:=d+1) Bg (l:=b.drop 195) (E.drop 195);rw[List.length_drop] at r;cases C:Aah (b.drop 195) with
  |none=>
   rw[C] at r;simp only[QK,Ky.cells] at r
   have e:Yz b=none:=by
    rw[WU g,C];split<;>rfl
   have z:((2:Int) != 0)=true:=rfl;rw[e];simp only[Av,Au,o,c1,c2,s,t,v,w,x,y,a,u8,A,f,j,m,H,I,J,r,z];rfl
  |some k=>
   rw[C] at r;simp only[QK,Ky.cells] at r
   have A0m:b.length=204:=by
    rcases Nat.decEq (b.drop 195).length 9 with q|q
    ·rw[Aum q] at C;cases C
    ·rw[List.length_drop] at q;omega
   have K:((0:Int) != 0)=false:=rfl;have L:=dT (q:=19<=b.length) Ω;have M:List.take 8 (List.drop 11 (Af .u8 b))=Af .u8 ((b.drop 11).take 8):=by rw[Gj,Fj]
   have D:=Ahg (u:=u) (d:=d+2) Bg (l:=(b.drop 11).take 8) (by rw[List.length_take,List.length_drop];omega)
   have N:List.take 176 (List.drop 19 (Af .u8 b))=Af .u8 ((b.drop 19).take 176):=by rw[Gj,Fj]
   have U:(Af .u8 ((b.drop 19).take 176)).length=176:=by rw[Am,List.length_take,List.length_drop];omega
   have O:=Acg (B:=ZM) (u:=u) (d:=d+2) (n:=176) (c:=Af .u8 ((b.drop 19).take 176)) U Ω;have P:decide (0+176*1<=List.length (Af .u8 ((b.drop 19).take 176)))=true:=dT Ω;have Q:List.take (176*1) (List.drop 0 (Af .u8 ((b.drop 19).take 176)))=Af .u8 ((b.drop 19).take 176):=Jo (by rw[Nr];omega)
   have V:decide (176*1<=List.length (Af .u8 ((b.drop 19).take 176)))=true:=dT Ω;have W:List.take (176*1) (Af .u8 ((b.drop 19).take 176))=Af .u8 ((b.drop 19).take 176):=Jo Ω;have h:=Apz (u:=u) (d:=d) Bg (adK b k);rw[WU g,Bq A0m,C];by_cases p:vE (adK b k)=0
   ·simp only[p,if_true];rw[p] at h;simp only[R7.cells,adK] at h;simp only[Av,Au,o,c1,c2,s,t,v,w,x,y,a,u8,A,f,j,m,H,I,J,r,K,L,M,D,N,O,P,Q,h,V,W];rfl
   ·simp only[p,if_false];have z:(vE (adK b k) != 0)=true:=by simpa using p
    generalize vE (adK b k)=T at h z;simp only[R7.cells,adK] at h;simp only[Av,Au,o,c1,c2,s,t,v,w,x,y,a,u8,A,f,j,m,H,I,J,r,K,L,M,D,N,O,P,Q,h,z];rfl
set_option maxHeartbeats 2000000 in
theorem A2y(Bg:1000<=u){b:Ak}(y:Ce b)(T:b.length<=100000):Ac C1 prog u (d+4) 54 [.lst false 1 b.length (Af .u8 b)]=some ⟨Ans (Yz b),[]⟩:=by
 refine (V2 u (d+3) b.length (Af .u8 b)).trans ?_;by_cases A:b.length=11
 rotate_left
 ·have h:(((b.length:Nat):Int) != 11)=true:=by simp;omega
  by_cases A0m:b.length=204
  rotate_left
  ·have E:(((b.length:Nat):Int) != 204)=true:=by simp;omega
   rw[Agz A A0m];simp only[Av,Au,h,E];rfl
  have E:(((b.length:Nat):Int) != 204)=false:=by simp;omega
  have c1:=dT (q:=8<=b.length) Ω;have c2:=dT (q:=(8:Int)<((b.length:Nat):Int)) Ω;have o:=dT (q:=(9:Int)<((b.length:Nat):Int)) Ω;have p:=dT (q:=(10:Int)<((b.length:Nat):Int)) Ω;have r:List.take 8 (List.drop 0 (Af .u8 b))=Af .u8 (b.take 8):=by rw[Nr,Fj]
  have s:=FD (u:=u) (d:=d+2) Bg (l:=b.take 8) (by rw[List.length_take];omega)
  have t:=AC (b:=b) (i:=8) Ω;have v:=AC (b:=b) (i:=9) Ω;have a:=AC (b:=b) (i:=10) Ω;have u8:wrap .i64 (b.getD 8 0)=b.getD 8 0:=by have:=Z2 y 8;exact Bc
  have w:wrap .i64 (b.getD 9 0)=b.getD 9 0:=by have:=Z2 y 9;exact Bc
  have c:wrap .i64 (b.getD 10 0)=b.getD 10 0:=by have:=Z2 y 10;exact Bc
  have x:=dT (q:=((b.length:Nat):Int)>11) Ω;have H:=dT (q:=195<=b.length) Ω;have I:=dT (q:=b.length<=b.length) (Cg _)
  have J:List.take ((b.length-195)*1) (List.drop 195 (Af .u8 b))=Af .u8 (b.drop 195):=by
   rw[Gj];exact Jo (by rw[Am,List.length_drop];omega)
  have j:=Ano (u:=u) (d:=d+1) Bg (l:=b.drop 195) (y.drop 195);rw[List.length_drop] at j;unfold Yz;rw[Bb A,Bq A0m];cases Q:Aah (b.drop 195) with
  |none=>
   rw[Q] at j;simp only[QK,Ky.cells] at j;have z:((2:Int) != 0)=true:=rfl;have e:(if C5 .i64 (b.getD 8 0) 64=0 then (none:Option R7) else match (none:Option Ky) with|some k=>if vE (adK b k)=0 then some (adK b k) else none|none=>none)=none:=by split<;>rfl
   rw[e];simp only[Av,Au,h,E,c1,c2,o,p,r,s,t,v,a,u8,w,c,x,H,I,J,j,z];rfl
  |some k=>
   rw[Q] at j;simp only[QK,Ky.cells] at j;have G:((0:Int) != 0)=false:=rfl;have K:=dT (q:=19<=b.length) Ω;have L:List.take 8 (List.drop 11 (Af .u8 b))=Af .u8 ((b.drop 11).take 8):=by rw[Gj,Fj]
   have C:=FD (u:=u) (d:=d+2) Bg (l:=(b.drop 11).take 8) (by rw[List.length_take,List.length_drop];omega)
   have M:List.take 176 (List.drop 19 (Af .u8 b))=Af .u8 ((b.drop 19).take 176):=by rw[Gj,Fj]
   have R:(Af .u8 ((b.drop 19).take 176)).length=176:=by rw[Am,List.length_take,List.length_drop];omega
   have N:decide (List.length (Af .u8 ((b.drop 19).take 176))=176)=true:=dT R;have O:decide (176<=List.length (Af .u8 ((b.drop 19).take 176)))=true:=dT Ω;have P:List.take 176 (List.drop 0 (Af .u8 ((b.drop 19).take 176)))=Af .u8 ((b.drop 19).take 176):=Jo (by rw[Nr];omega)
   have f:=PK (u:=u) (d:=d) Bg (adK b k);by_cases m:vE (adK b k)=0
   ·rw[m] at f;simp only[R7.cells,adK] at f;cases n:C5 .i64 (b.getD 8 0) 64 != 0 with
    |true=>
     have g:C5 .i64 (b.getD 8 0) 64≠0:=by simpa using n
     have D:(!true==true)=false:=rfl;rw[Bb g];simp only[m,if_true];simp only[Av,Au,h,E,c1,c2,o,p,r,s,t,v,a,u8,w,c,x,H,I,J,j,G,K,L,C,M,N,O,P,f,n,D];rfl
    |false=>
     have g:C5 .i64 (b.getD 8 0) 64=0:=by simpa using n
     have D:(!true==false)=true:=rfl;rw[Bq g];simp only[Av,Au,h,E,c1,c2,o,p,r,s,t,v,a,u8,w,c,x,H,I,J,j,G,K,L,C,M,N,O,P,f,n,D];rfl
   ·have z:(vE (adK b k) != 0)=true:=by simpa using m
    have e:(if C5 .i64 (b.getD 8 0) 64=0 then (none:Option R7) else match some k with|some k=>if vE (adK b k)=0 then some (adK b k) else none|none=>none)=none:=by
     split
     ·rfl
     ·simp only[m,if_false]
    rw[e];generalize vE (adK b k)=S at f z;simp only[R7.cells,adK] at f;simp only[Av,Au,h,E,c1,c2,o,p,r,s,t,v,a,u8,w,c,x,H,I,J,j,G,K,L,C,M,N,O,P,f,z];rfl
 have h:(((b.length:Nat):Int) != 11)=false:=by simp;omega
 have c1:=dT (q:=8<=b.length) Ω;have c2:=dT (q:=(8:Int)<((b.length:Nat):Int)) Ω;have o:=dT (q:=(9:Int)<((b.length:Nat):Int)) Ω;have p:=dT (q:=(10:Int)<((b.length:Nat):Int)) Ω;have r:List.take 8 (List.drop 0 (Af .u8 b))=Af .u8 (b.take 8):=by rw[Nr,Fj]
 have s:=FD (u:=u) (d:=d+2) Bg (l:=b.take 8) (by rw[List.length_take];omega)
 have t:=AC (b:=b) (i:=8) Ω;have v:=AC (b:=b) (i:=9) Ω;have a:=AC (b:=b) (i:=10) Ω;have u8:wrap .i64 (b.getD 8 0)=b.getD 8 0:=by have:=Z2 y 8;exact Bc
 have w:wrap .i64 (b.getD 9 0)=b.getD 9 0:=by have:=Z2 y 9;exact Bc
 have c:wrap .i64 (b.getD 10 0)=b.getD 10 0:=by have:=Z2 y 10;exact Bc
 have x:=dF (q:=((b.length:Nat):Int)>11) Ω;have f:=PK (u:=u) (d:=d) Bg (ZP b);have G:((0:Int) != 0)=false:=rfl;unfold Yz;rw[Bq A];by_cases m:vE (ZP b)=0
 ·rw[m] at f;simp only[R7.cells,ZP] at f;cases n:C5 .i64 (b.getD 8 0) 64 != 0 with
  |true=>
   have g:C5 .i64 (b.getD 8 0) 64≠0:=by simpa using n
   have D:(!false==true)=true:=rfl;rw[Bb g];simp only[Av,Au,h,c1,c2,o,p,r,s,t,v,a,u8,w,c,x,f,G,n,D];rfl
  |false=>
   have g:C5 .i64 (b.getD 8 0) 64=0:=by simpa using n
   have D:(!false==false)=false:=rfl;rw[Bq g,Bq m];simp only[Av,Au,h,c1,c2,o,p,r,s,t,v,a,u8,w,c,x,f,G,n,D];rfl
 ·have z:(vE (ZP b) != 0)=true:=by simpa using m
  have e:(if C5 .i64 (b.getD 8 0) 64=0 then (if vE (ZP b)=0 then some (ZP b) else none) else none)=(none:Option R7):=by
   rw[Bb m];split<;>rfl
  rw[e];generalize vE (ZP b)=S at f z;simp only[R7.cells,ZP] at f;simp only[Av,Au,h,c1,c2,o,p,r,s,t,v,a,u8,w,c,x,f,z];rfl
end
structure Cf where
 rp:ByteArray
 ti:ByteArray
 os:List ByteArray
 p:OV
 sec:Int
 kh:Int
 kr:Int
def GX(l:List ByteArray):Ae:=l.flatMap λs=>[Bf s]
theorem Avc{l:List ByteArray}{i:Nat}{s:ByteArray}(h:l[i]?=some s):(GX l).getD (i*1) .top=Bf s:=Aow (k:=1) (λ_=>rfl) h (j:=0) Ω
def Cf.cells(c:Cf):Ae:=[Bf (c.rp),Bf (c.ti),.lst false 1 c.os.length (GX c.os),A0 c.p.vf,Cn (c.p.rs),A0 c.p.ht,A0 c.p.pr,Cn (c.p.sh),A0 c.p.fm,Cn (c.p.od),.lst false 1 c.p.dn.length (Af .u64 c.p.dn),A0 c.p.op,Ag c.sec,A0 c.kh,Ag c.kr]
structure Cf.ok(c:Cf):Prop where
 rp:c.rp.size<=100000
 os:c.os.length<=1000
 dn:c.p.dn.length<=1000
structure Rq where
 kind:Int
 cd:ByteArray
 ad:Ak
 sg:Ak
 cn:Nat
 cc:Ae
 fm:Int
 id:Ak
 us:ByteArray
def Rq.cells(r:Rq):Ae:=[A0 r.kind,Bf (r.cd),.lst false 1 r.ad.length (Af .u8 r.ad),.lst false 1 r.sg.length (Af .u8 r.sg),.lst false 1 r.cn r.cc,A0 r.fm,.lst false 1 r.id.length (Af .u8 r.id),Bf (r.us)]
structure Rq.ok(r:Rq):Prop where
 cd:r.cd.size<=100000
 adB:Ce r.ad
 ad:r.ad.length<=90000
 sgB:Ce r.sg
structure Mt where
 v:Int
 i:Int
 x:Int
 lf:Int
def mnC(l:Ae):Ae:=l
def Mt.es(_:Mt):Ae:=[]
def Mt.n1(_:Mt):Nat:=0
def Mt.c1(_:Mt):Ae:=[]
def Mt.n2(_:Mt):Nat:=0
def Mt.c2(_:Mt):Ae:=[]
def Mt.cells(m:Mt):Ae:=[A0 m.v,A0 m.i,A0 m.x,.lst false 3 m.es.length (mnC m.es),A0 m.lf,.lst false 1 m.n1 m.c1,.lst false 1 m.n2 m.c2]
def Mt.ok(_:Mt):Prop:=True
def stS(_:Mt)(_ _:Int):Int:=0
def inO(os:List ByteArray)(s:ByteArray):Bool:=os.any λo=>Array.toList s.data==Array.toList o.data
def Aau(os:List ByteArray)(k:Int)(ch:Ak)(r:Rq):Int:=
 bif r.kind != k then 3 else match Kk r.cd with
 |.error e=>bif e != 0 then e else 3
 |.ok (j,b,o,x,q)=>bif j != k then 3 else bif !eqB b ch then 35 else bif !inO os (Ab o) then 34 else bif x then (bif !inO os (Ab q) then 34 else 0) else 0
section
variable {u d:Nat}
theorem Ars(u d:Nat)(args:Ae):Ac C1 prog u (d+1) 37 args=Ao9 args:=Κ
theorem Awn{m:Mt}(a:m.ok)(model now:Int):Ac C1 prog u (d+1) 37 [.agg m.cells,Ag model,A0 now]=some ⟨[A0 (stS m model now)],[]⟩:=(Ars u d _).trans rfl
theorem Awk(Bg:2000<=u){m:Mt}(a:m.ok)(model now:Int):Ac C1 prog u (d+2) 59 [.agg m.cells,Ag model,A0 now]=some ⟨[A0 (stS m model now)],[]⟩:=by
 obtain⟨u,rfl⟩:∃k,u=k+1:=⟨u-1,Ω⟩
 have e:Ac C1 prog (u+1) (d+1) 101 [.agg [A0 m.v,A0 m.i,A0 m.x,.lst false 3 0 [],A0 m.lf,.lst false 1 0 [],.lst false 1 0 []],Ag model]=some ⟨[.agg [Ag 0,.lst false 3 0 [],.lst false 2 0 []],Cn false],[]⟩:=by
  refine (CA (u+1) d m.v m.i m.x 0 [] m.lf 0 [] 0 [] model).trans ?_;simp only[Av,Au];rw[Xy,Fd _ _ _ Ω]
 show Ac C1 prog (u+1) (d+2) 59 [.agg [A0 m.v,A0 m.i,A0 m.x,.lst false 3 0 [],A0 m.lf,.lst false 1 0 [],.lst false 1 0 []],Ag model,A0 now]=some ⟨[A0 0],[]⟩;refine (Y4 (u+1) (d+1) m.v m.i m.x 0 [] m.lf 0 [] 0 [] model now).trans ?_;simp only[Av,Au,e];rw[Vh,Fd _ _ _ Ω]
theorem Ask{F:Ao}{n:Nat}{c:Ae}{t s:ByteArray}{os:List ByteArray}(x:os.length<=1000):∀(r:List ByteArray)(i nn:Nat),os.drop i=r->r.length<nn->i<=os.length ->
  ∃v:Int,decide (v>=0)=inO r s/\Gy u F n c t nn os.length (GX os) s (os.length:Int) (i:Int)=some ⟨[A0 v],[]⟩:=by
 intro r
 induction r with
 |nil=>
  intro i nn hd d hi;obtain⟨m,rfl⟩:∃m,nn=m+1:=⟨nn-1,Ω⟩
  have:=drop_nil hd;refine⟨-1,rfl,?_⟩;rw[Mf,Fd _ _ _ Ω]
 |cons o r j=>
  intro i nn hd d hi;obtain⟨m,rfl⟩:∃m,nn=m+1:=⟨nn-1,Ω⟩
  obtain⟨Cs,k,b⟩:=Cl hd;have g:=Avc k;have e:Int.toNat (i:Int)=i:=H8 _;have l:wrap .i64 ((i:Int)+1)=((i+1:Nat):Int):=Bi
  have f:=dT (q:=(i:Int)<((os.length:Nat):Int)) Ω;have h:=dT (q:=(0:Int)<=(i:Int)) Ω;rw[Mf];cases a:Array.toList s.data==Array.toList o.data with
  |true=>
   refine⟨(i:Int),by unfold inO;rw[List.any_cons,a,Bool.true_or];exact dT Ω,?_⟩
   simp only[Av,Au,f,h,e,g,a]
  |false=>
   obtain⟨v,p,w⟩:=j (i+1) m b (by simp at d;omega) Ω
   refine⟨v,by rw[p];unfold inO;rw[List.any_cons,a,Bool.false_or],?_⟩
   simp only[Av,Au,f,h,e,g,a,l];exact w
theorem A42(Bg:2000<=u){os:List ByteArray}(a:os.length<=1000)(s:ByteArray):Ac C1 prog u (d+2) 63 [.lst false 1 os.length (GX os),Bf s]=some ⟨[Cn (inO os s)],[]⟩:=by obtain⟨v,b,f⟩:=Ask (u:=u) (F:=Ac C1 prog u d) (n:=os.length) (c:=GX os) (t:=s) (s:=s) a os 0 u rfl Ω Ω;have e:Ac C1 prog u (d+1) 106 [.lst false 1 os.length (GX os),Bf s]=some ⟨[A0 v],[]⟩:=(BM u d os.length (GX os) s).trans f;refine (X7 u (d+1) os.length (GX os) s).trans ?_;simp only[Av,Au,e];rw[b]
theorem Ahp{F:Ao}{n:Nat}{c:Ae}{t s:ByteArray}{os:List ByteArray}(w:os.length<=1000):∀(r:List ByteArray)(i nn:Nat),os.drop i=r->r.length<nn->i<=os.length ->
  He u F t n c nn s os.length (GX os) (i:Int)=some ⟨[Cn (inO r s)],[]⟩:=by
 intro r
 induction r with
 |nil=>
  intro i nn hd e hi;obtain⟨m,rfl⟩:∃m,nn=m+1:=⟨nn-1,Ω⟩
  have:=drop_nil hd;rw[Ni,Fd _ _ _ Ω];rfl
 |cons o r l=>
  intro i nn hd e hi;obtain⟨m,rfl⟩:∃m,nn=m+1:=⟨nn-1,Ω⟩
  obtain⟨Cs,p,d⟩:=Cl hd;have g:=Avc p;have h:Int.toNat (i:Int)=i:=H8 _;have v:wrap .i64 ((i:Int)+1)=((i+1:Nat):Int):=Bi
  have j:=dT (q:=(i:Int)<((os.length:Nat):Int)) Ω;have k:=dT (q:=(0:Int)<=(i:Int)) Ω;rw[Ni];have a:(Array.toList o.data==Array.toList s.data)=(Array.toList s.data==Array.toList o.data):=Bool.beq_comm;cases b:Array.toList s.data==Array.toList o.data with
  |true=>
   rw[b] at a;have f:inO (o::r) s=true:=by unfold inO;rw[List.any_cons,b,Bool.true_or]
   rw[f];simp only[Av,Au,j,k,h,g,a]
  |false=>
   rw[b] at a;have f:inO (o::r) s=inO r s:=by unfold inO;rw[List.any_cons,b,Bool.false_or]
   have q:=l (i+1) m d (by simp at e;omega) Ω
   rw[f];simp only[Av,Au,j,k,h,g,a,v];exact q
theorem Azd(Bg:2000<=u){os:List ByteArray}(a:os.length<=1000)(s:ByteArray):Ac C1 prog u (d+1) 95 [Bf s,.lst false 1 os.length (GX os)]=some ⟨[Cn (inO os s)],[]⟩:=
 (EN u d s os.length (GX os)).trans (Ahp a os 0 u rfl Ω Ω)
set_option maxHeartbeats 2000000 in
theorem A0v(Bg:1000400<=u){c:Cf}(j:c.ok)(ch:Ak){r:Rq}(s:r.ok):Ac C1 prog u (d+3) 28 [.agg c.cells,.lst false 1 ch.length (Af .u8 ch),.agg r.cells]=some ⟨[A0 (Aau c.os 2 ch r)],[]⟩:=by
 refine (Xf u (d+2) c.rp c.ti c.os.length (GX c.os) c.p.vf c.p.rs c.p.ht c.p.pr c.p.sh c.p.fm c.p.od c.p.dn.length (Af .u64 c.p.dn) c.p.op c.sec c.kh c.kr ch.length (Af .u8 ch) r.kind r.cd r.ad.length (Af .u8 r.ad) r.sg.length (Af .u8 r.sg) r.cn r.cc r.fm r.id.length (Af .u8 r.id) r.us).trans ?_;unfold Aau;cases a:r.kind != 2
 rotate_left
 ·simp only[Av,Au,a,cond_true]
 have e:Ac C1 prog u (d+2) 62 [Bf (r.cd)]=Dg [Bf (r.cd)]:=rfl;unfold Dg at e;simp only[dT (q:=r.cd.size<=9223372036854775807) (by have:=s.cd;omega),cond_true] at e
 cases hp:Kk r.cd with
 |error l=>
  rw[hp] at e;have e:Ac C1 prog u (d+2) 62 [Bf (r.cd)]=some ⟨[.agg [A0 0,.lst false 1 0 [],Bf ⟨#[]⟩,Cn false,Bf ⟨#[]⟩],A0 l],[]⟩:=e;have z:((0:Int) != 2)=true:=rfl;cases f:l != 0
  ·simp only[Av,Au,a,e,f,z,cond_false]
  ·simp only[Av,Au,a,e,f,cond_true,cond_false]
 |ok v=>
  obtain⟨k,b,o,x,q⟩:=v;rw[hp] at e;have e:Ac C1 prog u (d+2) 62 [Bf (r.cd)]=some ⟨[.agg [A0 k,.lst false 1 b.length (Af .u8 b),Bf (Ab o),Cn x,Bf (Ab q)],A0 0],[]⟩:=e;have z:((0:Int) != 0)=false:=rfl;have g:=Akd (u:=u) (d:=d+1) b ch;have h:=A42 (u:=u) (d:=d) Ω j.os (Ab o);have i:=A42 (u:=u) (d:=d) Ω j.os (Ab q);simp only;cases f:k != 2
  rotate_left
  ·simp only[Av,Au,a,e,z,f,cond_true,cond_false]
  cases m:eqB b ch
  ·rw[m] at g;simp only[Av,Au,a,e,z,f,g,cond_true,cond_false]
  rw[m] at g;cases n:inO c.os (Ab o)
  ·rw[n] at h;simp only[Av,Au,a,e,z,f,g,h,cond_true,cond_false]
  rw[n] at h;cases x with
  |false=>simp only[Av,Au,a,e,z,f,g,h,cond_true,cond_false]
  |true=>
   cases p:inO c.os (Ab q)
   ·rw[p] at i;simp only[Av,Au,a,e,z,f,g,h,i,cond_true,cond_false]
   ·rw[p] at i;simp only[Av,Au,a,e,z,f,g,h,i,cond_true,cond_false]
set_option maxHeartbeats 2000000 in
theorem A2e(Bg:1000400<=u){c:Cf}(s:c.ok)(g:Int)(C:g≠0)(ch:Ak){r:Rq}(E:r.ok):Ac C1 prog u (d+24) 53 [.agg c.cells,A0 g,.lst false 1 ch.length (Af .u8 ch),.agg r.cells]=some ⟨[A0 (Aau c.os g ch r)],[]⟩:=by
 refine (BU u (d+23) c.rp c.ti c.os.length (GX c.os) c.p.vf c.p.rs c.p.ht c.p.pr c.p.sh c.p.fm c.p.od c.p.dn.length (Af .u64 c.p.dn) c.p.op c.sec c.kh c.kr g ch.length (Af .u8 ch) r.kind r.cd r.ad.length (Af .u8 r.ad) r.sg.length (Af .u8 r.sg) r.cn r.cc r.fm r.id.length (Af .u8 r.id) r.us).trans ?_;unfold Aau;cases a:r.kind != g
 rotate_left
 ·simp only[Av,Au,a,cond_true]
 have e:=A1h (u:=u) (d:=d) (t:=r.cd) Bg;cases hp:Kk r.cd with
 |error D=>
  rw[hp] at e;simp only[pdR] at e;have z:((0:Int) != g)=true:=by simp;omega
  cases f:D != 0
  ·simp only[Av,Au,a,e,f,z,cond_false]
  ·simp only[Av,Au,a,e,f,cond_true,cond_false]
 |ok v=>
  obtain⟨k,b,o,x,q⟩:=v;rw[hp] at e;simp only[pdR] at e;have z:((0:Int) != 0)=false:=rfl;have Lb:=Am .u8 b;have Lc:=Am .u8 ch;have c1:decide (0+b.length*1<=List.length (Af .u8 b))=true:=dT Ω;have j:List.take (b.length*1) (List.drop 0 (Af .u8 b))=Af .u8 b:=Jo (by rw[Nr];omega)
  have c2:decide (List.length (Af .u8 b)=b.length)=true:=dT Ω;have l:decide (List.length (Af .u8 ch)=ch.length)=true:=dT Ω;have m:=I3 b;have n:=I3 ch;have h:=Adk b ch;have i:=Azd (u:=u) (d:=d+22) Ω s.os (Ab o);have p:=Azd (u:=u) (d:=d+22) Ω s.os (Ab q);simp only;cases f:k != g
  rotate_left
  ·simp only[Av,Au,a,e,z,f,cond_true,cond_false]
  cases w:eqB b ch
  ·rw[w] at h;simp only[Av,Au,a,e,z,f,c1,j,c2,l,m,n,h,cond_true,cond_false]
  rw[w] at h;cases y:inO c.os (Ab o)
  ·rw[y] at i;simp only[Av,Au,a,e,z,f,c1,j,c2,l,m,n,h,i,cond_true,cond_false]
  rw[y] at i;cases x with
  |false=>simp only[Av,Au,a,e,z,f,c1,j,c2,l,m,n,h,i,cond_true,cond_false]
  |true=>
   cases A:inO c.os (Ab q)
   ·rw[A] at p;simp only[Av,Au,a,e,z,f,c1,j,c2,l,m,n,h,i,p,cond_true,cond_false]
   ·rw[A] at p;simp only[Av,Au,a,e,z,f,c1,j,c2,l,m,n,h,i,p,cond_true,cond_false]
end
abbrev sd0:Sd:=⟨[],0,0,0,0,false,0,[],false,0,0⟩
def Ai9(c:Cf)(m:Mt)(s:Sd)(now:Int)(r:Rq)(a:R7)(g:Sg):Sd × Int:=
 bif TM ⟨s.ht,s.root⟩ (IM r.ad (Fa 11 (Ci r.cd))) g != 0 then (sd0,TM ⟨s.ht,s.root⟩ (IM r.ad (Fa 11 (Ci r.cd))) g) else
 bif a.ct != wrap .i64 (g.leaf+1) then (sd0,33) else
 bif UT c.p a s.sh s.model (stS m s.model now) != 0 then (sd0,UT c.p a s.sh s.model (stS m s.model now)) else
 bif (Lo s g.leaf a.rg now).2 != 0 then (bif (Lo s g.leaf a.rg now).2 != 37 then (sd0,(Lo s g.leaf a.rg now).2) else Lo s g.leaf a.rg now) else Lo s g.leaf a.rg now
def Aiz(c:Cf)(m:Mt)(s:Sd)(now:Int)(r:Rq)(a:R7):Sd × Int:=
 bif C5 .i64 a.fl 64 != 0 then (sd0,4) else
 bif a.rp != Fa 9 (Ci c.rp) then (sd0,34) else
 match sgD r.sg with|none=>(sd0,2)|some g=>Ai9 c m s now r a g
def Un(c:Cf)(m:Mt)(s:Sd)(ch:Ak)(now:Int)(r:Rq):Sd × Int:=
 bif decide (now<0) then (sd0,9) else bif decide (now>1099511627776) then (sd0,9) else
 bif Aau c.os 2 ch r != 0 then (sd0,Aau c.os 2 ch r) else
 bif !eqB r.id s.id then (sd0,36) else
 match Yz r.ad with|none=>(sd0,2)|some a=>Aiz c m s now r a
theorem Add{b:Ak}{a:R7}(h:Yz b=some a)(c:C5 .i64 a.fl 64=0):a.idn=0/\a.id=[]:=by
 unfold Yz at h;split at h
 ·split at h
  ·split at h
   ·cases h;exact⟨rfl,rfl⟩
   ·cases h
  ·cases h
 ·split at h
  ·split at h
   ·cases h
   ·rename_i q;split at h
    ·split at h
     ·cases h;exact absurd c q
     ·cases h
    ·cases h
  ·cases h
def Sd.stc(s:Sd):Stc:=⟨s.id.length,Af .u8 s.id,s.ht,s.root,s.model,s.fmt,s.sh,s.used,s.rg.length,PY s.rg,s.sus,s.since,s.last⟩
section
variable {u d:Nat}
set_option maxHeartbeats 8000000 in
theorem JM(Bg:1000400<=u){c:Cf}(A:c.ok){m:Mt}(M:m.ok){s:Sd}(N:s.ok)(ch:Ak)(now:Int){r:Rq}(n:r.ok)(O:∀g,sgD r.sg=some g->s.rg=[]\/WK s.used g.leaf=true):
  Ac C1 prog u (d+9) 12 [.agg c.cells,.agg m.cells,.agg s.cells,.lst false 1 ch.length (Af .u8 ch),A0 now,.agg r.cells]=some ⟨[.agg (Un c m s ch now r).1.cells,A0 (Un c m s ch now r).2],[]⟩:=by
 refine (TU u (d+8) c.rp c.ti c.os.length (GX c.os) c.p.vf c.p.rs c.p.ht c.p.pr c.p.sh c.p.fm c.p.od c.p.dn.length (Af .u64 c.p.dn) c.p.op c.sec c.kh c.kr m.v m.i m.x m.es.length (mnC m.es) m.lf m.n1 m.c1 m.n2 m.c2 s.id.length (Af .u8 s.id) s.ht s.root s.model s.fmt s.sh s.used s.rg.length (PY s.rg) s.sus s.since s.last ch.length (Af .u8 ch) now r.kind r.cd r.ad.length (Af .u8 r.ad) r.sg.length (Af .u8 r.sg) r.cn r.cc r.fm r.id.length (Af .u8 r.id) r.us).trans ?_;unfold Un;cases n1:decide (now<0)
 rotate_left
 ·simp only[Av,Au,n1,cond_true];rfl
 cases n2:decide (now>1099511627776)
 rotate_left
 ·simp only[Av,Au,n1,n2,cond_true,cond_false];rfl
 have e:=A0v (u:=u) (d:=d+5) Bg A ch n;simp only[Cf.cells,Rq.cells] at e;cases h:Aau c.os 2 ch r != 0
 rotate_left
 ·simp only[Av,Au,n1,n2,e,h,cond_true,cond_false];rfl
 have f:=Akd (u:=u) (d:=d+7) r.id s.id;cases J:eqB r.id s.id
 ·rw[J] at f;simp only[Av,Au,n1,n2,e,h,f,cond_true,cond_false];rfl
 rw[J] at f;have b:=A03 (u:=u) (d:=d+4) Ω n.adB (by have:=n.ad;omega)
 have k:((0:Int) != 0)=false:=rfl;have K:((2:Int) != 0)=true:=rfl;cases E:Yz r.ad with
 |none=>
  rw[E] at b;simp only[Ayr,R7.owned] at b;simp only[Av,Au,n1,n2,e,h,f,b,K,cond_true,cond_false];rfl
 |some a=>
  rw[E] at b;simp only[Ayr,R7.owned] at b;simp only;unfold Aiz;cases j:C5 .i64 a.fl 64 != 0
  rotate_left
  ·simp only[Av,Au,n1,n2,e,h,f,b,k,j,cond_true,cond_false];rfl
  obtain⟨i1,i2⟩:=Add E (by simpa using j);rw[i1,i2] at b;have rp:=A8n (u:=u) (d:=d+2) (s:=c.rp) (by have:=A.rp;omega) Bg
  cases l:a.rp != Fa 9 (Ci c.rp)
  rotate_left
  ·simp only[Av,Au,n1,n2,e,h,f,b,k,j,rp,l,cond_true,cond_false];rfl
  have i:=Ar1 (B:=ZM) (u:=u) (d:=d+6) Ω n.sgB;cases H:sgD r.sg with
  |none=>
   rw[H] at i;simp only[WS,Sg.owned] at i;simp only[Av,Au,n1,n2,e,h,f,b,k,K,j,rp,l,i,cond_true,cond_false];rfl
  |some g=>
   rw[H] at i;simp only[WS,Sg.owned] at i;simp only;unfold Ai9;have o:=Awf (u:=u) (d:=d+2) (s:=r.cd) (by have:=n.cd;omega) Bg
   have p:=A0h (u:=u) (d:=d+2) n.adB (by have:=n.ad;omega) Bg (Fa 11 (Ci r.cd))
   have vf:=Ar4 (B:=ZM) (u:=u) (d:=d+0) Ω ⟨s.ht,s.root⟩ (IM r.ad (Fa 11 (Ci r.cd))) g;simp only[Ky.cells,Sg.cells] at vf;have Lc:=Am .u64 g.chains;have Lp:=Am .u64 g.path;have q:decide (0+g.chains.length*1<=List.length (Af .u64 g.chains))=true:=dT Ω;have t:decide (0+g.path.length*1<=List.length (Af .u64 g.path))=true:=dT Ω;have v:List.take (g.chains.length*1) (List.drop 0 (Af .u64 g.chains))=Af .u64 g.chains:=Jo (by rw[Nr];omega)
   have w:List.take (g.path.length*1) (List.drop 0 (Af .u64 g.path))=Af .u64 g.path:=Jo (by rw[Nr];omega)
   obtain⟨W,P⟩:∃W,TM ⟨s.ht,s.root⟩ (IM r.ad (Fa 11 (Ci r.cd))) g=W:=⟨_,rfl⟩
   rw[P] at vf ⊢;cases x:W != 0
   rotate_left
   ·simp only[Av,Au,n1,n2,e,h,f,b,k,j,rp,l,i,o,p,q,t,v,w,vf,x,cond_true,cond_false];rfl
   cases y:a.ct != wrap .i64 (g.leaf+1)
   rotate_left
   ·simp only[Av,Au,n1,n2,e,h,f,b,k,j,rp,l,i,o,p,q,t,v,w,vf,x,y,cond_true,cond_false];rfl
   have st:=Awn (u:=u) (d:=d+7) M s.model now;simp only[Mt.cells] at st;have sg:=A50 (u:=u) (d:=d+4) c.p (by have:=A.dn;simp only[maxLen];omega) (by have:=A.dn;omega) a s.stc (stS m s.model now)
   simp only[OV.cells,R7.cells,Stc.cells,Sd.stc] at sg;rw[i1,i2] at sg;have c0:decide (0+0*1<=List.length ([]:Ae))=true:=rfl;have C:List.take (0*1) (List.drop 0 ([]:Ae))=[]:=rfl;obtain⟨G,Q⟩:∃G,UT c.p a s.sh s.model (stS m s.model now)=G:=⟨_,rfl⟩
   rw[Q] at sg ⊢;cases D:G != 0
   rotate_left
   ·simp only[Av,Au,n1,n2,e,h,f,b,k,j,rp,l,i,o,p,q,t,v,w,vf,x,y,st,c0,C,sg,D,cond_true,cond_false];rfl
   have z:=Ari (u:=u) (d:=d+4) N (O g H) Ω a.rg now;obtain⟨Z,R⟩:∃Z,Lo s g.leaf a.rg now=Z:=⟨_,rfl⟩
   rw[R] at z ⊢;simp only[Sd.cells] at z ⊢;cases I:Z.2 != 0
   ·simp only[Av,Au,n1,n2,e,h,f,b,k,j,rp,l,i,o,p,q,t,v,w,vf,x,y,st,c0,C,sg,D,z,I,cond_true,cond_false]
   cases L:Z.2 != 37
   ·simp only[Av,Au,n1,n2,e,h,f,b,k,j,rp,l,i,o,p,q,t,v,w,vf,x,y,st,c0,C,sg,D,z,I,L,cond_true,cond_false]
   ·simp only[Av,Au,n1,n2,e,h,f,b,k,j,rp,l,i,o,p,q,t,v,w,vf,x,y,st,c0,C,sg,D,z,I,L,cond_true,cond_false];rfl
end
section
variable {u d:Nat}
set_option maxHeartbeats 8000000 in
theorem Amv(Bg:1000400<=u){c:Cf}(I:c.ok){m:Mt}(S:m.ok){s:Sd}(T:s.ok)(ch:Ak)(now:Int){r:Rq}(x:r.ok)(U:∀g,sgD r.sg=some g->s.rg=[]\/WK s.used g.leaf=true):
  Ac C1 prog u (d+25) 26 [.agg c.cells,.agg m.cells,.agg s.cells,.lst false 1 ch.length (Af .u8 ch),A0 now,.agg r.cells]=some ⟨[.agg (Un c m s ch now r).1.cells,A0 (Un c m s ch now r).2],[]⟩:=by
 refine (BW u (d+24) c.rp c.ti c.os.length (GX c.os) c.p.vf c.p.rs c.p.ht c.p.pr c.p.sh c.p.fm c.p.od c.p.dn.length (Af .u64 c.p.dn) c.p.op c.sec c.kh c.kr m.v m.i m.x m.es.length (mnC m.es) m.lf m.n1 m.c1 m.n2 m.c2 s.id.length (Af .u8 s.id) s.ht s.root s.model s.fmt s.sh s.used s.rg.length (PY s.rg) s.sus s.since s.last ch.length (Af .u8 ch) now r.kind r.cd r.ad.length (Af .u8 r.ad) r.sg.length (Af .u8 r.sg) r.cn r.cc r.fm r.id.length (Af .u8 r.id) r.us).trans ?_;unfold Un
 have b:Ac C1 prog u (d+24) 52 [A0 now,A0 0,A0 1099511627776]=some ⟨[Cn (!decide (now<0) && !decide (now>1099511627776))],[]⟩:=by
  refine (CK u (d+23) now 0 1099511627776).trans ?_;by_cases h:now<0
  ·have L:=dF (q:=now>=0) Ω;simp only[Av,Au,L,dT h]
  ·have L:=dT (q:=now>=0) Ω;have V:decide (now<=1099511627776) = !decide (now>1099511627776):=by rw[Bool.eq_iff_iff];simp
   simp only[Av,Au,L,V,dF h]
 cases n1:decide (now<0)
 rotate_left
 ·rw[n1] at b;simp only[Es,NT] at b
  simp only[Av,Au,b,cond_true];rfl
 cases n2:decide (now>1099511627776)
 rotate_left
 ·rw[n1,n2] at b;simp only[Es,Gg,Zzt] at b
  simp only[Av,Au,b,cond_true,cond_false];rfl
 rw[n1,n2] at b;simp only[Gg,Zzn] at b;have i:=A2e (u:=u) (d:=d+0) Bg I 2 Δ ch x;simp only[Cf.cells,Rq.cells] at i;cases k:Aau c.os 2 ch r != 0
 rotate_left
 ·simp only[Av,Au,b,i,k,cond_true,cond_false];rfl
 have Li:=Am .u8 r.id;have Ls:=Am .u8 s.id;have h:decide (List.length (Af .u8 r.id)=r.id.length)=true:=dT Ω;have l:decide (List.length (Af .u8 s.id)=s.id.length)=true:=dT Ω;have n:=I3 r.id;have o:=I3 s.id;have j:=Adk r.id s.id;cases P:eqB r.id s.id
 ·rw[P] at j;simp only[Av,Au,b,i,k,h,l,n,o,j,cond_true,cond_false];rfl
 rw[P] at j;have e:=A2y (u:=u) (d:=d+20) Ω x.adB (by have:=x.ad;omega)
 have v:((0:Int) != 0)=false:=rfl;have Q:((2:Int) != 0)=true:=rfl;cases M:Yz r.ad with
 |none=>
  rw[M] at e;simp only[Ans,R7.cells] at e;simp only[Av,Au,b,i,k,h,l,n,o,j,e,Q,cond_true,cond_false];rfl
 |some a=>
  rw[M] at e;simp only[Ans,R7.cells] at e;simp only;unfold Aiz;cases t:C5 .i64 a.fl 64 != 0
  rotate_left
  ·simp only[Av,Au,b,i,k,h,l,n,o,j,e,v,t,cond_true,cond_false];rfl
  obtain⟨i1,i2⟩:=Add M (by simpa using t);rw[i1,i2] at e;have rp:=Aza (u:=u) (d:=d+19) (s:=c.rp) (by have:=I.rp;omega) Bg
  cases w:a.rp != Fa 9 (Ci c.rp)
  rotate_left
  ·simp only[Av,Au,b,i,k,h,l,n,o,j,e,v,t,rp,w,cond_true,cond_false];rfl
  have p:=Anx (u:=u) (d:=d+22) Ω x.sgB;cases N:sgD r.sg with
  |none=>
   rw[N] at p;simp only[WS,Sg.owned] at p;simp only[Av,Au,b,i,k,h,l,n,o,j,e,v,Q,t,rp,w,p,cond_true,cond_false];rfl
  |some g=>
   rw[N] at p;simp only[WS,Sg.owned] at p;simp only;unfold Ai9;have X:=Aay (u:=u) (d:=d+18) (s:=r.cd) (by have:=x.cd;omega) Bg
   have Y:=Apx (u:=u) (d:=d+18) x.adB (by have:=x.ad;omega) Bg (Fa 11 (Ci r.cd))
   have f:Ac C1 prog u (d+24) 57 [.agg r.cells]=some ⟨[Ag (IM r.ad (Fa 11 (Ci r.cd)))],[]⟩:=by
    refine (AO u (d+23) r.kind r.cd r.ad.length (Af .u8 r.ad) r.sg.length (Af .u8 r.sg) r.cn r.cc r.fm r.id.length (Af .u8 r.id) r.us).trans ?_;simp only[Av,Au,X,Y]
   simp only[Rq.cells] at f;have vf:=Al9 (u:=u) (d:=d+17) Ω ⟨s.ht,s.root⟩ (IM r.ad (Fa 11 (Ci r.cd))) g;simp only[Ky.cells,Sg.cells] at vf;have Lc:=Am .u64 g.chains;have Lp:=Am .u64 g.path;have y:decide (0+g.chains.length*1<=List.length (Af .u64 g.chains))=true:=dT Ω;have z:decide (0+g.path.length*1<=List.length (Af .u64 g.path))=true:=dT Ω;have A:List.take (g.chains.length*1) (List.drop 0 (Af .u64 g.chains))=Af .u64 g.chains:=Jo (by rw[Nr];omega)
   have C:List.take (g.path.length*1) (List.drop 0 (Af .u64 g.path))=Af .u64 g.path:=Jo (by rw[Nr];omega)
   obtain⟨W,hW⟩:∃W,TM ⟨s.ht,s.root⟩ (IM r.ad (Fa 11 (Ci r.cd))) g=W:=⟨_,rfl⟩
   rw[hW] at vf ⊢;cases D:W != 0
   rotate_left
   ·simp only[Av,Au,b,i,k,h,l,n,o,j,e,v,t,rp,w,p,f,y,z,A,C,vf,D,cond_true,cond_false];rfl
   cases E:a.ct != wrap .i64 (g.leaf+1)
   rotate_left
   ·simp only[Av,Au,b,i,k,h,l,n,o,j,e,v,t,rp,w,p,f,y,z,A,C,vf,D,E,cond_true,cond_false];rfl
   have st:=Awk (u:=u) (d:=d+22) Ω S s.model now;simp only[Mt.cells] at st;have sg:=A0b (u:=u) (d:=d+20) c.p (by have:=I.dn;simp only[maxLen];omega) (by have:=I.dn;omega) a s.stc (stS m s.model now)
   simp only[OV.cells,R7.cells,Stc.cells,Sd.stc] at sg;rw[i1,i2] at sg;have c0:decide (0+0*1<=List.length ([]:Ae))=true:=rfl;have J:List.take (0*1) (List.drop 0 ([]:Ae))=[]:=rfl;obtain⟨G,hG⟩:∃G,UT c.p a s.sh s.model (stS m s.model now)=G:=⟨_,rfl⟩
   rw[hG] at sg ⊢;cases K:G != 0
   rotate_left
   ·simp only[Av,Au,b,i,k,h,l,n,o,j,e,v,t,rp,w,p,f,y,z,A,C,vf,D,E,st,c0,J,sg,K,cond_true,cond_false];rfl
   have H:=Amg (u:=u) (d:=d+22) T (U g N) Ω a.rg now;obtain⟨Z,hZ⟩:∃Z,Lo s g.leaf a.rg now=Z:=⟨_,rfl⟩
   rw[hZ] at H ⊢;simp only[Sd.cells] at H ⊢;cases O:Z.2 != 0
   ·simp only[Av,Au,b,i,k,h,l,n,o,j,e,v,t,rp,w,p,f,y,z,A,C,vf,D,E,st,c0,J,sg,K,H,O,cond_true,cond_false]
   cases R:Z.2 != 37
   ·simp only[Av,Au,b,i,k,h,l,n,o,j,e,v,t,rp,w,p,f,y,z,A,C,vf,D,E,st,c0,J,sg,K,H,O,R,cond_true,cond_false]
   ·simp only[Av,Au,b,i,k,h,l,n,o,j,e,v,t,rp,w,p,f,y,z,A,C,vf,D,E,st,c0,J,sg,K,H,O,R,cond_true,cond_false];rfl
end
abbrev exS:ByteArray:=ByteArray.mk #[101,120,97,109,112,108,101,46,99,111,109]
abbrev tiS:ByteArray:=ByteArray.mk #[69,120,97,109,112,108,101]
abbrev oxS:ByteArray:=ByteArray.mk #[104,116,116,112,115,58,47,47,101,120,97,109,112,108,101,46,99,111,109]
abbrev olS:ByteArray:=ByteArray.mk #[104,116,116,112,115,58,47,47,108,111,103,105,110,46,101,120,97,109,112,108,101,46,99,111,109]
abbrev cfW(p:OV)(sec:Int):Cf:=⟨exS,tiS,[oxS,olS],p,sec,4,(Yp 31 4).root⟩
theorem Am9{p:OV}(h:p.dn.length<=2)(sec:Int):(cfW p sec).ok:=⟨by show exS.size<=_;decide,by show (2:Nat)<=1000;omega,by show p.dn.length<=1000;omega⟩
abbrev OY:OV:=⟨0,false,1,1,false,0,false,[],50⟩
def Ns(sh vf:Bool):Int:=if vf=true then (if sh=true then 13 else 5) else if sh=true then 9 else 1
def Tj(a:R7):Ak:=if vE a=0 then B5 a.rp++[wrap .u8 a.fl,wrap .u8 a.ct,wrap .u8 a.rg] else []
def asT(ch o:Ak):ByteArray:=Ab (match TA 2 ch o [] false with | .ok s=>s | .error _=>[])
def FL(rp:ByteArray)(sh vf:Bool)(leaf f:Int):R7:=⟨Fa 9 (Ci rp),Ns sh vf,wrap .i64 (leaf+1),f,0,0,[],0,0⟩
def asG(seed h leaf m:Int):Ak:=match Anm seed h leaf m with|some s=>sgB s|none=>[]
def Ag3(seed h:Int)(id:Ak)(sh:Bool)(rp:ByteArray)(o ch:Ak)(vf:Bool)(leaf f:Int)(us:ByteArray):Rq:=
 ⟨2,asT ch o,Tj (FL rp sh vf leaf f),asG seed h leaf (IM (Tj (FL rp sh vf leaf f)) (Fa 11 (Ci (asT ch o)))),0,[],0,id,us⟩
theorem Agx{ch o:Ak}(c:o.length<=50000):(asT ch o).size<=60000:=by
 unfold asT;rw[Ai];cases h:TA 2 ch o [] false with
 |error e=>simp
 |ok s=>
  simp only;unfold TA at h;have a:tyS 2=some tyG:=rfl;rw[a] at h;simp only at h;split at h
  ·cases h
  split at h
  ·cases h
  simp only[if_true] at h;cases h;have b:=UH ch;rename_i d _;simp only[fmH,UO,ZR,fA3,fA4,tyG,Vl,Ox,SS];omega
theorem Ajb(a:R7):(Tj a).length<=11:=by
 unfold Tj;split
 ·rw[Vl,C3];simp
 ·simp
theorem Au7(v:Int):0<=wrap .u8 v/\wrap .u8 v<=255:=by
 have:wrap .u8 v=v % 256:=by simp[wrap,IntKind.bits,IntKind.signed]
 omega
theorem Aup(a:R7):Ce (Tj a):=by
 unfold Tj;split
 ·refine Aee (LI _) ?_;intro x b;simp only[List.mem_cons,List.not_mem_nil,or_false] at b;rcases b with rfl|rfl|rfl<;>exact Au7 _
 ·intro x b;cases b
theorem Bbe(seed h leaf m:Int):Ce (asG seed h leaf m):=by
 unfold asG;split
 ·exact Bb2 _
 ·intro x a;cases a
theorem Aqd{seed h:Int}{id:Ak}{sh:Bool}{rp:ByteArray}{o ch:Ak}{vf:Bool}{leaf f:Int}{us:ByteArray}(a:o.length<=50000):(Ag3 seed h id sh rp o ch vf leaf f us).ok:=
 ⟨by have:=Agx (ch:=ch) a;show (asT ch o).size<=_;omega,Aup _,by have:=Ajb (FL rp sh vf leaf f);show (Tj _).length<=_;omega,Bbe _ _ _ _⟩
section
variable {u d:Nat}
theorem Alz(Bg:1000<=u)(seed h:Int):Ac C1 prog u (d+13) 16 [Ag seed,A0 h]=some ⟨[.agg (Yp seed h).cells],[]⟩:=by refine (ME u (d+12) seed h).trans ?_;have p:=Am0 (u:=u) (d:=d) Bg seed h;simp only[Ky.cells] at p ⊢;simp only[Av,Au,p]
theorem Bih{l:Ak}(b:l.length<=maxLen)(a:Nat):∃(p:OV)(I:Nat),p.dn.length<=2 /\
  ∀{u d:Nat},Ac C1 prog u (d+3) 14 [.pbox (dkc l a)]=some ⟨[.agg p.own],[dkc l I]⟩:=by
 obtain⟨x,J,T,u1,f⟩:=EF b a 3 Ω Ω;obtain⟨y,K,U,V,g⟩:=EF b J 2 Ω Ω;obtain⟨z,L,W,X,i⟩:=EF b K 2 Ω Ω;obtain⟨A,M,Y,Z,j⟩:=EF b L 3 Ω Ω;obtain⟨C,N,l5,u5,k⟩:=EF b M 2 Ω Ω;obtain⟨D,O,l6,u6,m⟩:=EF b N 3 Ω Ω;obtain⟨E,P,l7,u7,n⟩:=EF b O 2 Ω Ω;obtain⟨t,Q,l8,u8,o⟩:=EF b P 3 Ω Ω;obtain⟨v,G,l9,u9,q⟩:=EF b Q 4 Ω Ω;obtain⟨r,w,R,S,c⟩:=EF b G 2 Ω Ω
 obtain⟨op,e⟩:∃op,List.getD [PV.sc (Value.int IntKind.i64 (50:Int)),PV.sc (Value.int IntKind.i64 (5:Int)),PV.sc (Value.int IntKind.i64 (500:Int))] ((0:Nat)+Int.toNat t*(1:Nat)) PV.top=A0 op:=by
  rcases (by omega:t=0\/t=1\/t=2) with h|h|h<;>subst h
  ·exact⟨50,rfl⟩
  ·exact⟨5,rfl⟩
  ·exact⟨500,rfl⟩
 by_cases H:v=3
 ·refine⟨⟨x,y==1,1+z,1+A,C==1,D,E==1,[3,7].take (1+r).toNat,op⟩,w,?_,λ{u d}=>?_⟩
  ·simp only[List.length_take];exact Nat.min_le_right _ _
  ·have f:=f (u:=u) (d:=d) (p:=some Dg);have g:=g (u:=u) (d:=d) (p:=some Dg);have i:=i (u:=u) (d:=d) (p:=some Dg);have j:=j (u:=u) (d:=d) (p:=some Dg);have k:=k (u:=u) (d:=d) (p:=some Dg);have m:=m (u:=u) (d:=d) (p:=some Dg);have n:=n (u:=u) (d:=d) (p:=some Dg);have o:=o (u:=u) (d:=d) (p:=some Dg);have q:=q (u:=u) (d:=d) (p:=some Dg);have c:=c (u:=u) (d:=d) (p:=some Dg)
   refine (Hi u (d+2) l.length (Af .i64 l) (a:Int)).trans ?_;have s:(v==3)=true:=by rw[H];rfl
   repeat(with_reducible(first|apply Bl|apply A2|apply Bk|apply A5|apply Bp|apply QZ|apply Aoh|apply Kr|apply TW|apply A1|apply Bj|apply H4);· first|constructor|(simp(disch:=omega)only[H5,f,g,i,j,k,m,n,o,q,c,e,s,E0]<;>first|constructor|omega)|omega)
   try simp(disch:=omega)only[Aa,f,g,i,j,k,m,n,o,q,c,e,s,E0]
   rcases (by omega:r=0\/r=1) with h|h<;>subst h<;>rfl
 ·refine⟨⟨x,y==1,1+z,1+A,C==1,D,E==1,[],op⟩,G,?_,λ{u d}=>?_⟩
  ·simp
  ·have f:=f (u:=u) (d:=d) (p:=some Dg);have g:=g (u:=u) (d:=d) (p:=some Dg);have i:=i (u:=u) (d:=d) (p:=some Dg);have j:=j (u:=u) (d:=d) (p:=some Dg);have k:=k (u:=u) (d:=d) (p:=some Dg);have m:=m (u:=u) (d:=d) (p:=some Dg);have n:=n (u:=u) (d:=d) (p:=some Dg);have o:=o (u:=u) (d:=d) (p:=some Dg);have q:=q (u:=u) (d:=d) (p:=some Dg)
   refine (Hi u (d+2) l.length (Af .i64 l) (a:Int)).trans ?_;have s:(v==3)=false:=beq_eq_false_iff_ne.2 H
   repeat(with_reducible(first|apply Bl|apply A2|apply Bk|apply A5|apply Bp|apply QZ|apply Aoh|apply Kr|apply TW|apply A1|apply Bj|apply H4);· first|constructor|(simp(disch:=omega)only[H5,f,g,i,j,k,m,n,o,q,e,s,E0]<;>first|constructor|omega)|omega)
   try simp(disch:=omega)only[Aa,f,g,i,j,k,m,n,o,q,e,s,E0]
   rfl
theorem Bie(Bg:1000<=u){l:Ak}(f:l.length<=maxLen)(a:Nat):∃(p:OV)(sec:Int)(h:Nat),p.dn.length<=2 /\
  Ac C1 prog u (d+14) 6 [.pbox (dkc l a)]=some ⟨[.agg (cfW p sec).cells],[dkc l h]⟩:=by
 obtain⟨p,c,hp,b⟩:=Bih f a;have b:Ac C1 prog u (d+13) 14 [.pbox (dkc l a)]=some ⟨[.agg p.own],[dkc l c]⟩:=b (u:=u) (d:=d+10);obtain⟨v,i,k,m,e⟩:=EF f c 3 Ω Ω;have e:Ac C1 prog u (d+13) 15 [.pbox (dkc l c),A0 3]=_:=e (u:=u) (d:=d+11) (p:=some Dg);have g:=Alz (u:=u) (d:=d) Bg 31 4;have j:(Yp 31 4).cells=[A0 4,Ag (Yp 31 4).root]:=by unfold Ky.cells;rw[Af0 Δ]
 rw[j] at g;refine⟨p,wrap .u64 (5+wrap .u64 v),i,hp,?_⟩;refine (K8 u (d+13) l.length (Af .i64 l) (a:Int)).trans ?_;simp only[OV.own] at b;have L:=Am .u64 p.dn;have t:List.take (p.dn.length*1) (List.drop 0 (Af .u64 p.dn))=Af .u64 p.dn:=Jo (by rw[Nr];omega)
 have c1:decide (0+p.dn.length*1<=List.length (Af .u64 p.dn))=true:=dT Ω;simp only[Av,Au,b,e,g,c1,t];rfl
theorem A36(n:Int):Ac C1 prog u (d+2) 15 [.pbox (dkc [] 0),A0 n]=some ⟨[A0 0],[dkc [] 0]⟩:=
 (Iq u (d+1) 0 [] 0 n).trans rfl
theorem Atb(Bg:1000<=u):Ac C1 prog u (d+15) 13 []=some ⟨[.agg (cfW OY 5).cells],[]⟩:=by
 have nw:Ac C1 prog u (d+14) 5 [.lst false 1 0 []]=some ⟨[.pbox (dkc [] 0)],[]⟩:=Baj (l:=[]);have n0:=λn=>A36 (u:=u) (d:=d+10) n;have a:=λn=>A36 (u:=u) (d:=d+11) n
 have pl:Ac C1 prog u (d+13) 14 [.pbox (dkc [] 0)]=some ⟨[.agg OY.own],[dkc [] 0]⟩:=by
  refine (Hi u (d+12) 0 [] 0).trans ?_
  repeat(with_reducible(first|apply Bl|apply A2|apply Bk|apply A5|apply Bp|apply QZ|apply Aoh|apply Kr|apply TW|apply A1|apply Bj|apply H4);· first|constructor|(simp(disch:=omega)only[H5,n0,E0]<;>first|constructor|omega)|omega)
  try simp(disch:=omega)only[Aa,n0,E0]
  rfl
 have b:=Alz (u:=u) (d:=d) Bg 31 4;have f:(Yp 31 4).cells=[A0 4,Ag (Yp 31 4).root]:=by unfold Ky.cells;rw[Af0 Δ]
 rw[f] at b
 have c:Ac C1 prog u (d+14) 6 [.pbox (dkc [] 0)]=some ⟨[.agg (cfW OY 5).cells],[dkc [] 0]⟩:=by
  refine (K8 u (d+13) 0 [] 0).trans ?_;simp only[OV.own] at pl;have e:wrap .u64 (5+wrap .u64 0)=5:=Δ
  repeat(with_reducible(first|apply Bl|apply A2|apply Bk|apply A5|apply Bp|apply QZ|apply Aoh|apply Kr|apply TW|apply A1|apply Bj|apply H4);· first|constructor|(simp(disch:=omega)only[H5,pl,a,b,e]<;>first|constructor|omega)|omega)
  try simp(disch:=omega)only[Aa,pl,a,b,e]
  rfl
 refine (CC u (d+14)).trans ?_;simp only[Cf.cells] at c ⊢;simp(disch:=omega)only[Av,Au,nw,c,X5]
theorem A4r(Bg:1000<=u)(n h:Int)(sh:Bool):∃id,Ce id/\id.length=176/\Ac C1 prog u (d+7) 7 [A0 n,A0 h,Cn sh]=some ⟨[.agg [Ag (wrap .u64 (1000+wrap .u64 n)),A0 h,.own 1 176 (Af .u8 id),Cn sh]],[]⟩:=by obtain⟨r,b,c,a⟩:=Ak5 (u:=u) (d:=d) (p:=some Dg) Bg (wrap .i64 (500+n)) (n:=176) Ω;have a:Ac C1 prog u (d+6) 9 [A0 (wrap .i64 (500+n)),A0 176]=_:=a;refine⟨r,b,c,?_⟩;have L:=Am .u8 r;have t:List.take (176*1) (Af .u8 r)=Af .u8 r:=Jo Ω;have c1:decide (176*1<=List.length (Af .u8 r))=true:=dT Ω;refine (Xe u (d+6) n h sh).trans ?_;simp only[Av,Au,a,c1,t]
theorem Ayx(seed h:Int)(n:Nat)(c:Ae)(sh vf:Bool):Ac C1 prog u (d+1) 20 [.agg [Ag seed,A0 h,.lst false 1 n c,Cn sh],Cn vf]=some ⟨[A0 (Ns sh vf)],[]⟩:=by refine (Xs u d seed h n c sh vf).trans ?_;cases vf<;>cases sh<;>rfl
theorem A1e(Bg:1000<=u){a:R7}(f:C5 .i64 a.fl 64=0):Ac C1 prog u (d+4) 18 [.agg a.cells]=some ⟨[.own 1 (Tj a).length (Af .u8 (Tj a)),A0 (vE a)],[]⟩:=by
 refine (Vs u (d+3) a.rp a.fl a.ct a.rg a.md a.idn a.id a.kh a.kr).trans ?_;have c:=PK (u:=u) (d:=d) Bg a;simp only[R7.cells] at c;unfold Tj;by_cases b:vE a=0
 ·rw[b] at c;rw[Bq b];have g:((0:Int) != 0)=false:=rfl;have f0:(C5 .i64 a.fl 64 != 0)=false:=by rw[f];rfl
  have h:=A2i (u:=u) (d:=d+2) Bg a.rp;have i:(Af .u8 (B5 a.rp)).length=8:=by rw[Am,C3]
  have c1:decide (8*1<=List.length (Af .u8 (B5 a.rp)))=true:=dT Ω;have j:List.take (8*1) (Af .u8 (B5 a.rp))=Af .u8 (B5 a.rp):=Jo Ω;have c2:decide ((8+3)*1<=1099511627776)=true:=rfl;have k:decide (8+3<=1099511627776)=true:=rfl;have e:Af .u8 (B5 a.rp++[wrap .u8 a.fl,wrap .u8 a.ct,wrap .u8 a.rg])=Af .u8 (B5 a.rp)++[PV.sc (.int .u8 (wrap .u8 a.fl)),.sc (.int .u8 (wrap .u8 a.ct)),.sc (.int .u8 (wrap .u8 a.rg))]:=by simp[Af,List.flatMap_append]
  have o:(Af .u8 (B5 a.rp)++[PV.sc (.int .u8 (wrap .u8 a.fl)),.sc (.int .u8 (wrap .u8 a.ct)),.sc (.int .u8 (wrap .u8 a.rg))]).length=11:=by rw[Vl,i];rfl
  have l:decide ((8+3)*1<=List.length (Af .u8 (B5 a.rp)++[PV.sc (.int .u8 (wrap .u8 a.fl)),.sc (.int .u8 (wrap .u8 a.ct)),.sc (.int .u8 (wrap .u8 a.rg))]))=true:=dT Ω;have m:List.take ((8+3)*1) (Af .u8 (B5 a.rp)++[PV.sc (.int .u8 (wrap .u8 a.fl)),.sc (.int .u8 (wrap .u8 a.ct)),.sc (.int .u8 (wrap .u8 a.rg))])=Af .u8 (B5 a.rp)++[PV.sc (.int .u8 (wrap .u8 a.fl)),.sc (.int .u8 (wrap .u8 a.ct)),.sc (.int .u8 (wrap .u8 a.rg))]:=Jo Ω;have n:(B5 a.rp++[wrap .u8 a.fl,wrap .u8 a.ct,wrap .u8 a.rg]).length=11:=by rw[Vl,C3];rfl
  rw[n,e,b];simp only[Av,Au,c,g,h,c1,c2,k,j,f0,l,m]
 ·have z:(vE a != 0)=true:=by simpa using b
  rw[Bb b];simp only[Av,Au,c,z];rfl
theorem Aeb(sh vf:Bool):C5 .i64 (Ns sh vf) 64=0:=by cases sh<;>cases vf<;>decide
set_option maxHeartbeats 2000000 in
theorem Abm(Bg:1000400<=u){seed h:Int}{id:Ak}{sh:Bool}{rp:ByteArray}{o ch:Ak}{vf:Bool}{leaf f:Int}{us:ByteArray}(w:rp.size<=100000)(g:Ce o)(y:o.length<=50000)(KI:Ce ch)(Q:ch.length<=50000):
  Ac C1 prog u (d+13) 8 [.agg [Ag seed,A0 h,.lst false 1 id.length (Af .u8 id),Cn sh],Bf rp,Bf (Ab o),.lst false 1 ch.length (Af .u8 ch),Cn vf,A0 leaf,A0 f,Bf us]=some ⟨[.agg (Ag3 seed h id sh rp o ch vf leaf f us).cells],[]⟩:=by
 refine (Vv u (d+12) seed h id.length (Af .u8 id) sh rp (Ab o) ch.length (Af .u8 ch) vf leaf f us).trans ?_;have fm:Ac C1 prog u (d+12) 17 [cdA 2 ch o [] false]=some (A2t (TA 2 ch o [] false)):=Aq6 (u:=u) (d:=d+6) (p:=some Dg) KI g (λx z=>nomatch z) Ω Ω Ψ Ω Ω Ω (by simp;omega)
 obtain⟨T,c⟩:∃T,asT ch o=T:=⟨_,rfl⟩
 obtain⟨m,fm⟩:∃m,Ac C1 prog u (d+12) 17 [.agg [A0 2,.lst false 1 ch.length (Af .u8 ch),Bf (Ab o),Cn false,Bf ⟨#[]⟩]]=some ⟨[Bf T,A0 m],[]⟩:=by
  unfold asT at c;cases n:TA 2 ch o [] false with
  |ok s=>rw[n] at fm c;exact⟨0,by rw[<-c];exact fm⟩
  |error e=>rw[n] at fm c;exact⟨e,by rw[<-c];exact fm⟩
 have A:T.size<=60000:=by rw[<-c];exact Agx y
 have q:=Aza (u:=u) (d:=d+7) (s:=rp) Ω Bg;have fl:=Ayx (u:=u) (d:=d+11) seed h id.length (Af .u8 id) sh vf;have r:Ac C1 prog u (d+12) 18 [.agg [Ag (Fa 9 (Ci rp)),A0 (Ns sh vf),A0 (wrap .i64 (leaf+1)),A0 f,Ag 0,.lst false 1 0 [],A0 0,Ag 0]]=some ⟨[.own 1 (Tj (FL rp sh vf leaf f)).length (Af .u8 (Tj (FL rp sh vf leaf f))),A0 (vE (FL rp sh vf leaf f))],[]⟩:=A1e (u:=u) (d:=d+8) Ω (a:=FL rp sh vf leaf f) (Aeb sh vf);have i:=Aup (FL rp sh vf leaf f);have C:=Ajb (FL rp sh vf leaf f);have hd:=Aay (u:=u) (d:=d+7) (s:=T) Ω Bg;have j:=Apx (u:=u) (d:=d+7) i Ω Bg (Fa 11 (Ci T))
 obtain⟨M,k⟩:∃M,IM (Tj (FL rp sh vf leaf f)) (Fa 11 (Ci T))=M:=⟨_,rfl⟩
 rw[k] at j;have sg:=Aux (u:=u) (d:=d) Ω seed h leaf M;have LA:=Am .u8 (Tj (FL rp sh vf leaf f));have cA:decide (0+(Tj (FL rp sh vf leaf f)).length*1<=List.length (Af .u8 (Tj (FL rp sh vf leaf f))))=true:=dT Ω;have tA:List.take ((Tj (FL rp sh vf leaf f)).length*1) (List.drop 0 (Af .u8 (Tj (FL rp sh vf leaf f))))=Af .u8 (Tj (FL rp sh vf leaf f)):=Jo (by rw[Nr];omega)
 have A40:(Ag3 seed h id sh rp o ch vf leaf f us).cells=[A0 2,Bf T,.lst false 1 (Tj (FL rp sh vf leaf f)).length (Af .u8 (Tj (FL rp sh vf leaf f))),.lst false 1 (asG seed h leaf M).length (Af .u8 (asG seed h leaf M)),.lst false 1 0 [],A0 0,.lst false 1 id.length (Af .u8 id),Bf us]:=by
  unfold Ag3 Rq.cells;rw[c,k]
 rw[A40];clear A40 k c;unfold asG;cases b:Anm seed h leaf M with
 |none=>
  rw[b] at sg;simp only[Adr,Sg.owned] at sg;have es:=WF (u:=u) (d:=d+10) Ω ⟨0,[],[]⟩ Ψ;have D:Er (([]:Ak).length:Int)=false:=Δ
  have E:Jc 0 (([]:Ak).length:Int)=false:=Δ
  simp only at es;rw[D,E,Bb Ψ,Bb Ψ,Bq Ψ] at es;have es:Ac C1 prog u (d+12) 24 [.agg [A0 0,.lst false 1 0 [],.lst false 1 0 []]]=some ⟨[.own 1 0 [],A0 4],[]⟩:=es;have sg:Ac C1 prog u (d+12) 21 [Ag seed,A0 h,A0 leaf,Ag M]=some ⟨[.agg [A0 0,.own 1 0 [],.own 1 0 []],A0 9],[]⟩:=sg;have c0:decide (0+0*1<=List.length ([]:Ae))=true:=rfl;have G:List.take (0*1) (List.drop 0 ([]:Ae))=[]:=rfl;simp only[Av,Au,fm,q,fl,r,hd,cA,tA,j,sg,c0,G,es];rfl
 |some s=>
  rw[b] at sg;simp only[Adr,Sg.owned] at sg
  have RX:Er h=false/\Jc leaf h=false/\s.leaf=leaf/\s.chains.length=18/\(s.path.length:Int)=h:=by
   unfold Anm at b;cases l:Er h
   ·rw[l,Bb Ψ] at b;cases t:Jc leaf h
    ·rw[t,Bb Ψ] at b;cases b;have:=Qc l;exact⟨rfl,rfl,rfl,by simp[GU],by simp;omega⟩
    ·rw[t,Bq rfl] at b;cases b
   ·rw[l,Bq rfl] at b;cases b
  obtain⟨v,H,I,J,K⟩:=RX;have R:=Qc v;have es:=WF (u:=u) (d:=d+10) Ω s Ω;rw[K,I,v,H,J,Bb Ψ,Bb Ψ,Bb Ψ] at es;simp only[Sg.cells] at es;have S:=Am .u64 s.chains;have U:=Am .u64 s.path;have V:=Am .u8 (sgB s);have c1:decide (0+s.chains.length*1<=List.length (Af .u64 s.chains))=true:=dT Ω;have c2:decide (0+s.path.length*1<=List.length (Af .u64 s.path))=true:=dT Ω;have L:decide (0+(sgB s).length*1<=List.length (Af .u8 (sgB s)))=true:=dT Ω;have N:List.take (s.chains.length*1) (List.drop 0 (Af .u64 s.chains))=Af .u64 s.chains:=Jo (by rw[Nr];omega)
  have O:List.take (s.path.length*1) (List.drop 0 (Af .u64 s.path))=Af .u64 s.path:=Jo (by rw[Nr];omega)
  have P:List.take ((sgB s).length*1) (List.drop 0 (Af .u8 (sgB s)))=Af .u8 (sgB s):=Jo (by rw[Nr];omega)
  simp only[Av,Au,fm,q,fl,r,hd,cA,tA,j,sg,c1,c2,N,O,es,L,P]
end
theorem A56:sd0.ok:=⟨λx a=>(nomatch a),Δ,Δ,Δ,trivial,Δ⟩
theorem Aw4(c:Cf)(m:Mt)(s:Sd)(ch:Ak)(now:Int)(r:Rq):(Un c m s ch now r).1=sd0\/∃leaf f,(Un c m s ch now r).1=(Lo s leaf f now).1:=by
 unfold Un;simp only[Bool.cond_eq_ite]
 repeat' split
 all_goals first
  |exact .inl rfl
  |skip
 all_goals
  unfold Aiz;simp only[Bool.cond_eq_ite]
  repeat' split
 all_goals first
  |exact .inl rfl
  |skip
 all_goals
  unfold Ai9;simp only[Bool.cond_eq_ite]
  repeat' split
 all_goals first
  |exact .inl rfl
  |exact .inr ⟨_,_,rfl⟩
theorem Aix{c:Cf}{m:Mt}{s:Sd}{ch:Ak}{now:Int}{r:Rq}(a:s.ok)(b:s.rg.length<1000):(Un c m s ch now r).1.ok:=by
 rcases Aw4 c m s ch now r with h|⟨l,f,h⟩
 ·rw[h];exact A56
 ·rw[h];exact A3h a b l f now
theorem As9{rp:ByteArray}{sh vf:Bool}{leaf f:Int}(O:0<=leaf)(P:leaf<=15)(f0:0<=f)(f1:f<=15):vE (FL rp sh vf leaf f)=0/\Yz (Tj (FL rp sh vf leaf f))=some (FL rp sh vf leaf f):=by
 have n:wrap .i64 (leaf+1)=leaf+1:=Bc
 have c:vE (FL rp sh vf leaf f)=0:=by
  unfold vE FL;simp only;rw[n];have v:decide (leaf+1<0)=false:=dF Ω;have w:decide (leaf+1>16)=false:=dF Ω;have x:decide (f<0)=false:=dF Ω;have y:decide (f>=16)=false:=dF Ω;have z:(Zp .i64 (Ns sh vf) 93 != 0)=false:=by cases sh<;>cases vf<;>decide
  have A:(C5 .i64 (Ns sh vf) 16 != 0)=false:=by cases sh<;>cases vf<;>decide
  have C:(C5 .i64 (Ns sh vf) 64==0)=true:=by cases sh<;>cases vf<;>decide
  unfold vT;simp only[v,w,x,y,z,A,C,cond_true,cond_false];rfl
 refine⟨c,?_⟩;obtain⟨a,d⟩:∃a,FL rp sh vf leaf f=a:=⟨_,rfl⟩
 have D:a.fl=Ns sh vf/\a.ct=leaf+1/\a.rg=f/\isU a.rp/\a.md=0/\a.idn=0/\a.id=[]/\a.kh=0/\a.kr=0:=by
  rw[<-d];exact⟨rfl,n,rfl,UG _ _,rfl,rfl,rfl,rfl,rfl⟩
 rw[d] at c ⊢;clear d;obtain⟨b,fl,ct,rg,md,idn,id,kh,kr⟩:=a;obtain⟨e,E,G,h,o,p,q,r,s⟩:=D;simp only at e E G h o p q r s;subst o p q r s;have H:0<=fl/\fl<=255:=by rw[e];cases sh<;>cases vf<;>decide
 have j:C5 .i64 fl 64=0:=by rw[e];exact Aeb sh vf
 have I:wrap .u8 fl=fl:=I8 Ω Ω;have J:wrap .u8 ct=ct:=I8 Ω Ω;have K:wrap .u8 rg=rg:=I8 Ω Ω;unfold Tj;rw[Bq c];simp only;rw[I,J,K];have k:(B5 b).length=8:=C3 _;have l:(B5 b++[fl,ct,rg]).length=11:=by rw[Vl,k];rfl
 have g:∀i,i<3->(B5 b++[fl,ct,rg]).getD (8+i) 0=[fl,ct,rg].getD i 0:=by
  intro i hi;rw[List.getD_eq_getElem?_getD,List.getElem?_append_right Ω,k,show 8+i-8=i by omega,<-List.getD_eq_getElem?_getD]
 have t:(B5 b++[fl,ct,rg]).getD 8 0=fl:=g 0 Ω;have L:(B5 b++[fl,ct,rg]).getD 9 0=ct:=g 1 Ω;have m:(B5 b++[fl,ct,rg]).getD 10 0=rg:=g 2 Ω;have M:(B5 b++[fl,ct,rg]).take 8=B5 b:=List.take_left' k
 have N:ZP (B5 b++[fl,ct,rg])=⟨b,fl,ct,rg,0,0,[],0,0⟩:=by
  unfold ZP;rw[t,L,m,M,Ab0 h.1 h.2]
 rw[Aox l (by rw[t];exact j),N,Bq c]
theorem Asi{ch o:Ak}(c:Ce ch)(h:1<=ch.length)(i:ch.length<=64)(d:o.length<=100)(e:Fg o=0):Kk (asT ch o)=.ok (2,ch,o,false,[]):=by
 have a:TA 2 ch o [] false=.ok (fmH tyG ch o++fA4):=by
  unfold TA;have f:tyS 2=some tyG:=rfl;rw[f];simp only;rw[Bb Ω,Bb (by simp[e])];rfl
 have j:(fmH tyG ch o++fA4).length<=1000:=by
  have g:=UH ch;simp only[fmH,UO,ZR,fA3,fA4,tyG,Vl,Ox,SS];omega
 have b:=A3v (w:=[]) c a (by rfl) (by simp only[Zzq,List.append_nil];omega)
 simp only[Zzq,List.append_nil] at b;unfold asT;rw[a];exact b
theorem Ap5{c:Cf}{m:Mt}{s:Sd}{seed h:Int}{sh:Bool}{o ch:Ak}{vf:Bool}{leaf f now:Int}{us:ByteArray}(n0:0<=now)(n1:now<=1099511627776)(C:Ce ch)(D:1<=ch.length)(E:ch.length<=64)(j:o.length<=100)(G:Fg o=0)(n:Er h=false)(p:Jc leaf h=false)(l0:0<=leaf)(H:leaf<=15)(f0:0<=f)(f1:f<=15)(I:(⟨s.ht,s.root⟩:Ky)=Yp seed h)(KH:inO c.os (Ab o)=true):
  Un c m s ch now (Ag3 seed h s.id sh c.rp o ch vf leaf f us) =
   bif UT c.p (FL c.rp sh vf leaf f) s.sh s.model (stS m s.model now) != 0 then (sd0,UT c.p (FL c.rp sh vf leaf f) s.sh s.model (stS m s.model now)) else
   bif (Lo s leaf f now).2 != 0 then (bif (Lo s leaf f now).2 != 37 then (sd0,(Lo s leaf f now).2) else Lo s leaf f now) else Lo s leaf f now:=by
 have J:decide (now<0)=false:=dF Ω;have K:decide (now>1099511627776)=false:=dF Ω;obtain⟨L,q⟩:=As9 (rp:=c.rp) (sh:=sh) (vf:=vf) l0 H f0 f1;obtain⟨r,b⟩:∃r,Ag3 seed h s.id sh c.rp o ch vf leaf f us=r:=⟨_,rfl⟩
 have N:r.kind=2:=by rw[<-b];rfl
 have t:r.cd=asT ch o:=by rw[<-b];rfl
 have v:r.ad=Tj (FL c.rp sh vf leaf f):=by rw[<-b];rfl
 have O:r.id=s.id:=by rw[<-b];rfl
 have rs:r.sg=asG seed h leaf (IM r.ad (Fa 11 (Ci r.cd))):=by rw[v,t,<-b];rfl
 rw[b];clear b
 have P:Aau c.os 2 ch r=0:=by
  unfold Aau;rw[N,t,Asi C D E j G];simp only[Ajp,KH];rfl
 obtain⟨M,w⟩:∃M,IM r.ad (Fa 11 (Ci r.cd))=M:=⟨_,rfl⟩
 rw[w] at rs;obtain⟨g,s1,s2,k,Q,x,R⟩:=Aoe (seed:=seed) (h:=h) (leaf:=leaf) (m:=M) n p
 have sg:sgD r.sg=some g:=by
  rw[rs];unfold asG;rw[s1];exact Aol s2 (by rw[x];exact n) (by rw[x,k];exact p) Q
 have S:eqB r.id s.id=true:=by rw[O];exact Ajp _
 have y:Yz r.ad=some (FL c.rp sh vf leaf f):=by rw[v];exact q
 have l:TM ⟨s.ht,s.root⟩ M g=0:=by rw[I];exact R
 have DO:(FL c.rp sh vf leaf f).fl=Ns sh vf:=rfl;have d:(FL c.rp sh vf leaf f).rp=Fa 9 (Ci c.rp):=rfl;have e:(FL c.rp sh vf leaf f).ct=wrap .i64 (leaf+1):=rfl;have i:(FL c.rp sh vf leaf f).rg=f:=rfl;obtain⟨a,z⟩:∃a,FL c.rp sh vf leaf f=a:=⟨_,rfl⟩
 rw[z] at y DO d e i ⊢;clear z q L;have T:(C5 .i64 a.fl 64 != 0)=false:=by rw[DO,Aeb sh vf];rfl
 have rpE:(a.rp != Fa 9 (Ci c.rp))=false:=by rw[d];simp
 have ct:(a.ct != wrap .i64 (g.leaf+1))=false:=by rw[k,e];simp
 have A:((0:Int) != 0)=false:=rfl;unfold Un;rw[J,K,P,S,y];simp only[cond_false,Es,A];unfold Aiz;rw[T,rpE,sg];simp only[cond_false];unfold Ai9;rw[w,l,ct,k,i];simp only[cond_false,A]
theorem Axw{seed h leaf m:Int}(a:Er h=false)(b:Jc leaf h=false){g:Sg}(e:sgD (asG seed h leaf m)=some g):g.leaf=leaf:=by
 obtain⟨g',s1,s2,c,f,d,i⟩:=Aoe (seed:=seed) (h:=h) (leaf:=leaf) (m:=m) a b;unfold asG at e;rw[s1] at e;simp only at e;rw[Aol s2 (by rw[d];exact a) (by rw[d,c];exact b) f] at e
 cases e;exact c
theorem A8l(id:Ak)(R:Int):Lo ⟨id,2,R,0,0,false,0,[],false,1,1⟩ 2 0 5=(⟨id,2,R,0,0,false,4,[(0,2)],false,1,5⟩,0):=Κ
theorem A7x(id:Ak)(R:Int):Lo ⟨id,2,R,0,0,false,4,[(0,2)],false,1,5⟩ 2 0 5=(⟨id,2,R,0,0,false,4,[(0,2)],true,1,5⟩,37):=Κ
theorem Ahv(rp:ByteArray)(vf:Bool)(leaf f st:Int):UT OY (FL rp false vf leaf f) false 0 st=0:=by
 have a:KO 0 (Ns false vf)=0:=by cases vf<;>decide
 have b:((C5 .i64 (Ns false vf) 8 != 0)==false)=true:=by cases vf<;>decide
 show (if KO 0 (Ns false vf)=0 then if ((C5 .i64 (Ns false vf) 8 != 0)==false)=true then if (0:Int)=0 then 0 else Aqr [] false 0 st else 40 else KO 0 (Ns false vf))=0;rw[Bq a,Bq b,Bq rfl]
section
variable {u d:Nat}
set_option maxHeartbeats 2000000 in
theorem Af4(Bg:1000400<=u){c:Cf}(h:c.ok){m:Mt}(i:m.ok){s:Sd}(b:s.ok)(a:s.rg=[])(ch:Ak)(now:Int){r:Rq}(j:r.ok):
  Ac C1 prog u (d+26) 10 [.agg c.cells,.agg m.cells,.agg s.cells,.lst false 1 ch.length (Af .u8 ch),A0 now,.agg r.cells]=some ⟨[Cn true],[]⟩:=by
 refine (HE u (d+25) c.rp c.ti c.os.length (GX c.os) c.p.vf c.p.rs c.p.ht c.p.pr c.p.sh c.p.fm c.p.od c.p.dn.length (Af .u64 c.p.dn) c.p.op c.sec c.kh c.kr m.v m.i m.x m.es.length (mnC m.es) m.lf m.n1 m.c1 m.n2 m.c2 s.id.length (Af .u8 s.id) s.ht s.root s.model s.fmt s.sh s.used s.rg.length (PY s.rg) s.sus s.since s.last ch.length (Af .u8 ch) now r.kind r.cd r.ad.length (Af .u8 r.ad) r.sg.length (Af .u8 r.sg) r.cn r.cc r.fm r.id.length (Af .u8 r.id) r.us).trans ?_;have e:=JM (u:=u) (d:=d+16) Bg h i b ch now j (λ_ _=>.inl a);have f:=Amv (u:=u) (d:=d) Bg h i b ch now j (λ_ _=>.inl a);have g:=Aq2 (u:=u) (d:=d+23) (Aix (c:=c) (m:=m) (ch:=ch) (now:=now) (r:=r) b (by rw[a];decide)) Ω
 generalize Un c m s ch now r=Z at e f g;simp only[Cf.cells,Mt.cells,Sd.cells,Rq.cells] at e f g;have z:(Z.2==Z.2)=true:=Ψ
 simp only[Av,Au,e,f,g,z]
abbrev mt0:Mt:=⟨0,0,0,0⟩
theorem YW:mt0.ok:=trivial
def stK(seed h:Int)(id:Ak)(sh:Bool)(model:Int):Sd:=⟨id,(Yp seed h).h,(Yp seed h).root,model,0,sh,0,[],false,1,1⟩
theorem Aue{seed h:Int}{id:Ak}(a:Ce id)(b:id.length=176)(sh:Bool)(model:Int):(stK seed h id sh model).ok:=⟨a,by show id.length<=_;omega,by show (0:Int)<=0;decide,by show (0:Int)<=_;decide,trivial,by show (0:Nat)<=1000;decide⟩
theorem Ac3(Bg:1000<=u)(seed h:Int)(id:Ak)(sh:Bool)(model:Int):Ac C1 prog u (d+14) 11 [.agg [Ag seed,A0 h,.lst false 1 id.length (Af .u8 id),Cn sh],Ag model]=some ⟨[.agg (stK seed h id sh model).cells],[]⟩:=by refine (BO u (d+13) seed h id.length (Af .u8 id) sh model).trans ?_;have a:=Alz (u:=u) (d:=d) Bg seed h;simp only[Ky.cells] at a;simp only[Av,Au,a];rfl
theorem Ap1:Fg (Ci oxS)=0:=by decide +kernel
set_option maxHeartbeats 4000000 in
theorem Auz(Bg:1000400<=u):Ac C1 prog u (d+27) 4 []=some ⟨[Cn true],[]⟩:=by
 refine (DW u (d+26)).trans ?_;obtain⟨id,D,k,N⟩:=A4r (u:=u) (d:=d+19) Ω 1 2 false;have W:wrap .u64 (1000+wrap .u64 1)=1001:=Δ
 rw[W] at N;obtain⟨b,l,Vm,E⟩:=Ak5 (u:=u) (d:=d+20) (p:=some Dg) Ω 1 (n:=16) Ω;have E:Ac C1 prog u (d+26) 9 [A0 1,A0 16]=some ⟨[.own 1 16 (Af .u8 b)],[]⟩:=E;have Li:=Am .u8 id;have Lb:=Am .u8 b;have c1:decide (0+176*1<=List.length (Af .u8 id))=true:=dT Ω;have O:List.take (176*1) (List.drop 0 (Af .u8 id))=Af .u8 id:=Jo (by rw[Nr];omega)
 have c2:decide (0+16*1<=List.length (Af .u8 b))=true:=dT Ω;have G:List.take (16*1) (List.drop 0 (Af .u8 b))=Af .u8 b:=Jo (by rw[Nr];omega)
 have i:=Abm (u:=u) (d:=d+13) Bg (seed:=1001) (h:=2) (id:=id) (sh:=false) (rp:=exS) (o:=Ci oxS) (ch:=b) (vf:=false) (leaf:=2) (f:=0) (us:=ByteArray.mk #[117]) Δ (AM _) (by rw[Cb];decide) l Ω
 rw[Hw,k,Vm] at i;obtain⟨r,t⟩:∃r,Ag3 1001 2 id false exS (Ci oxS) b false 2 0 (ByteArray.mk #[117])=r:=⟨_,rfl⟩
 have Bdh:r.ok:=by rw[<-t];exact Aqd (by rw[Cb];decide)
 rw[t] at i;have H:=Atb (u:=u) (d:=d+11) Ω;have C:=Ac3 (u:=u) (d:=d+12) Ω 1001 2 id false 0;rw[k] at C;obtain⟨R,P⟩:∃R,(Yp 1001 2).root=R:=⟨_,rfl⟩
 have v:stK 1001 2 id false 0=⟨id,2,R,0,0,false,0,[],false,1,1⟩:=by
  unfold stK;rw[Af0 Δ,P]
 have Q:(⟨2,R⟩:Ky)=Yp 1001 2:=by
  have:=Af0 (seed:=1001) (h:=2) Δ;rw[<-P];generalize Yp 1001 2=K at this;obtain⟨x,y⟩:=K;simp only at this;rw[this]
 obtain⟨e,j⟩:∃e:Sd,e=⟨id,2,R,0,0,false,0,[],false,1,1⟩:=⟨_,rfl⟩
 have s0ok:e.ok:=by rw[j,<-v];exact Aue D k _ _
 rw[v,<-j] at C;have S:=Ap5 (c:=cfW OY 5) (m:=mt0) (s:=e) (seed:=1001) (h:=2) (sh:=false) (o:=Ci oxS) (ch:=b) (vf:=false) (leaf:=2) (f:=0) (now:=5) (us:=ByteArray.mk #[117]) Δ Δ l Ω Ω (by rw[Cb];decide) Ap1 Δ Δ Δ Δ Δ Δ (by rw[j];exact Q) (by rw[Hw];decide)
 have X:e.id=id:=by rw[j]
 rw[X,show (cfW OY 5).rp=exS from rfl,t] at S;obtain⟨a,XF⟩:∃a:Sd,a=⟨id,2,R,0,0,false,4,[(0,2)],false,1,5⟩:=⟨_,rfl⟩
 have T:Un (cfW OY 5) mt0 e b 5 r=(a,0):=by
  have I:Lo e 2 0 5=(a,0):=by rw[j,XF];exact A8l id R
  have J:e.sh=false:=by rw[j]
  have L:e.model=0:=by rw[j]
  rw[S,I,J,L,Ahv];rfl
 have s1ok:a.ok:=by
  have:=Aix (c:=cfW OY 5) (m:=mt0) (s:=e) (ch:=b) (now:=5) (r:=r) s0ok (by rw[j];show (0:Nat)<1000;decide)
  rw[T] at this;exact this
 have U:=Ap5 (c:=cfW OY 5) (m:=mt0) (s:=a) (seed:=1001) (h:=2) (sh:=false) (o:=Ci oxS) (ch:=b) (vf:=false) (leaf:=2) (f:=0) (now:=5) (us:=ByteArray.mk #[117]) Δ Δ l Ω Ω (by rw[Cb];decide) Ap1 Δ Δ Δ Δ Δ Δ (by rw[XF];exact Q) (by rw[Hw];decide)
 have i1:a.id=id:=by rw[XF]
 rw[i1,show (cfW OY 5).rp=exS from rfl,t] at U;obtain⟨w,FY⟩:∃w:Sd,w=⟨id,2,R,0,0,false,4,[(0,2)],true,1,5⟩:=⟨_,rfl⟩
 have Y:Un (cfW OY 5) mt0 a b 5 r=(w,37):=by
  have I:Lo a 2 0 5=(w,37):=by rw[XF,FY];exact A7x id R
  have J:a.sh=false:=by rw[XF]
  have L:a.model=0:=by rw[XF]
  rw[U,I,J,L,Ahv];rfl
 have q:∃M,r.sg=asG 1001 2 2 M:=⟨_,by rw[<-t];rfl⟩
 obtain⟨M,q⟩:=q;have z:=JM (u:=u) (d:=d+17) Bg (Am9 (p:=OY) Δ 5) YW s0ok b 5 Bdh (λ_ _=>.inl (by rw[j]));have A:=JM (u:=u) (d:=d+17) Bg (Am9 (p:=OY) Δ 5) YW s1ok b 5 Bdh (λg V=>.inr (by rw[q] at V;rw[Axw Δ Δ V,XF];exact (by decide:Nat.testBit 4 2=true)))
 rw[T] at z;rw[Y] at A;rw[Vm] at z A;simp only[Cf.cells,Sd.cells,Rq.cells] at i H C z A;have Z:mt0.cells=[A0 0,A0 0,A0 0,.lst false 3 0 [],A0 0,.lst false 1 0 [],.lst false 1 0 []]:=rfl;rw[Z] at z A;have u1:a.used=4:=by rw[XF]
 have u2:a.last=5:=by rw[XF]
 have u3:w.sus=true:=by rw[FY]
 have z0:((0:Int)==0)=true:=rfl;have z1:(a.used==4)=true:=by rw[u1];rfl
 have z2:(a.last==5)=true:=by rw[u2];rfl
 have z3:((37:Int)==37)=true:=rfl;simp only[Av,Au,N,E,c1,O,c2,G,i];rw[Yo (F7:=Ω)];simp only[Av,Au,H,c1,O,C,c2,G,z];rw[Y2 (F7:=Ω)];simp only[Av,Au,H,c2,G,A];rw[Ys (F7:=Ω)];simp only[Av,Au,z0,z1,z2,z3,u3]
end
section
variable {B:FuncId->Option (Ae->Option A8)}(u d:Nat)(F:Ao)
def K7(Z:Int)(Y:ByteArray)(X:Nat)(W:Ae)(V:Nat)(U:Ae)(T:Nat)(S:Ae)(Q:Int)(P:Nat)(O:Ae)(N:ByteArray)(M:Nat)(L:Ae)(K:Int)(J:Nat)(I:Ae)(H G:Nat)(E:Ae)(D:Int)(B:Nat)(A:Ae)(z:Int)(w:ByteArray)(v:Nat)(a:Ae)(t:Nat)(b:Ae)(ZQ:Nat)(y12:Ae)(ZJ:Int)(SY:Nat)(c:Ae)(OW:ByteArray):Option A8:=H6 u F 3 Tryz.f3 [.agg [Z,Y,Ap 1 X W,Ap 1 V U,Ap 1 T S,Q,Ap 1 P O,N],Ap 1 M L,K,Ap 1 J I] [.r] H ⟨lk [(1,Ap 1 G E),(2,D),(3,Ap 1 B A),(4,.ptr 4 0)],Fe [(4,.st [z,w,Ap 1 v a,Ap 1 t b,Ap 1 ZQ y12,ZJ,Ap 1 SY c,OW])]⟩
def Le(Z:Int)(Y:ByteArray)(X:Nat)(W:Ae)(V:Nat)(U:Ae)(T:Nat)(S:Ae)(Q:Int)(P:Nat)(O:Ae)(N:ByteArray)(M:Nat)(L:Ae)(K:Int)(J:Nat)(I:Ae)(H G:Nat)(E:Ae)(D B:Int)(A:ByteArray)(z:Nat)(w:Ae)(v:Nat)(a:Ae)(t:Nat)(b:Ae)(ZQ:Int)(y12:Nat)(ZJ:Ae)(SY c OW:ByteArray)(d:Nat)(UZ:Ae)(NY:Int)(OC:Bool)(OD OA:Int)(OE:Bool)(OG:Int)(NV:Bool)(NZ:Nat)(FK:Ae)(NW VU:Int)(e f:Int):Option A8:=H6 u F 3 Tryz.f3 [.agg [Z,Y,Ap 1 X W,Ap 1 V U,Ap 1 T S,Q,Ap 1 P O,N],Ap 1 M L,K,Ap 1 J I] [.r,.r,.r] H ⟨lk [(1,Ap 1 G E),(2,D),(4,.ptr 4 0),(10,.ptr 10 0)],Fe [(4,.st [B,A,Ap 1 z w,Ap 1 v a,Ap 1 t b,ZQ,Ap 1 y12 ZJ,SY]),(10,.st [c,OW,Ap 1 d UZ,NY,OC,OD,OA,OE,OG,NV,Ap 1 NZ FK,NW,Ag VU,e,Ag f])]⟩
def Lf(Z:Int)(Y:ByteArray)(X:Nat)(W:Ae)(V:Nat)(U:Ae)(T:Nat)(S:Ae)(Q:Int)(P:Nat)(O:Ae)(N:ByteArray)(M:Nat)(L:Ae)(K:Int)(J:Nat)(I:Ae)(H G:Nat)(E:Ae)(D B:Int)(A:ByteArray)(z:Nat)(w:Ae)(v:Nat)(a:Ae)(t:Nat)(b:Ae)(ZQ:Int)(y12:Nat)(ZJ:Ae)(SY c OW:ByteArray)(d:Nat)(UZ:Ae)(NY:Int)(OC:Bool)(OD OA:Int)(OE:Bool)(OG:Int)(NV:Bool)(NZ:Nat)(FK:Ae)(NW VU:Int)(e f:Int)(g h:Int)(i:Nat)(j:Bool)(k:Ae)(l:Int)(m:ByteArray)(n:Nat)(o:Ae)(p:Nat)(q:Ae)(r:Nat)(s:Ae)(x:Int)(y:Nat)(C:Ae)(R:ByteArray):Option A8:=H6 u F 3 Tryz.f3 [.agg [Z,Y,Ap 1 X W,Ap 1 V U,Ap 1 T S,Q,Ap 1 P O,N],Ap 1 M L,K,Ap 1 J I] [.r,.r,.r,.r,.r] H ⟨lk [(1,Ap 1 G E),(2,D),(4,.ptr 4 0),(10,.ptr 10 0),(11,.ptr 11 0),(12,.ptr 12 0)],Fe [(4,.st [B,A,Ap 1 z w,Ap 1 v a,Ap 1 t b,ZQ,Ap 1 y12 ZJ,SY]),(10,.st [c,OW,Ap 1 d UZ,NY,OC,OD,OA,OE,OG,NV,Ap 1 NZ FK,NW,Ag VU,e,Ag f]),(11,.st [Ag g,h,.view 275 1 0 i,j]),(275,.ar true k),(12,.st [l,m,Ap 1 n o,Ap 1 p q,Ap 1 r s,x,Ap 1 y C,R])]⟩
theorem Tl(Y:Int)(X:ByteArray)(W:Nat)(V:Ae)(U:Nat)(T:Ae)(S:Nat)(Q:Ae)(P:Int)(O:Nat)(N:Ae)(M:ByteArray)(L:Nat)(K:Ae)(J:Int)(I:Nat)(H:Ae)(Z:Nat)(F7:0<Z)(G:Nat)(E:Ae)(D:Int)(B:Nat)(A:Ae)(z:Int)(w:ByteArray)(v:Nat)(d:Ae)(t:Nat)(l:Ae)(ZQ:Nat)(y12:Ae)(ZJ:Int)(SY:Nat)(r:Ae)(OW:ByteArray):K7 u F Y X W V U T S Q P O N M L K J I H Z G E D B A z w v d t l ZQ y12 ZJ SY r OW=(De (F 5 [Ap 1 B A]) λa b=>FI a λa=>Ov 1 a λa c e=>Br .i64 e λe=>Ah b<|An (F 6 [.pbox [Ap 1 a c,e]]) λa b=>Ad a λa c=>Dr a λa=>Ad a λa e=>As a λa=>Ad e λe f=>As e λe=>Ov 1 f λf g h=>Bw .i64 h λh i=>Ad i λi j=>Be i λi=>Bw .i64 j λj k=>Bw .i64 k λk m=>Ad m λm n=>Be m λm=>Bw .i64 n λn o=>Ad o λo p=>Be o λo=>Ov 1 p λp q s=>Bw .i64 s λs x=>Bw .u64 x λy C=>Bw .i64 C λR x88=>Br .u64 x88 λx92=>Ah c<|Ad b λb c=>Ov 1 b λb x99 x96=>Br .i64 x96 λb=>Ah c<|Le u F Y X W V U T S Q P O N M L K J I H u G E D z w v d t l ZQ y12 ZJ SY r OW a e f g h i j k m n o p q s y R x92):=by cases Z with|zero=>exact absurd F7 (Nat.lt_irrefl 0)|succ Z=>kernel_rfl
theorem Sz(Y:Int)(X:ByteArray)(W:Nat)(V:Ae)(U:Nat)(T:Ae)(S:Nat)(Q:Ae)(P:Int)(O:Nat)(N:Ae)(M:ByteArray)(L:Nat)(K:Ae)(J:Int)(I:Nat)(H:Ae)(Z:Nat)(F7:0<Z)(G:Nat)(E:Ae)(D B:Int)(A:ByteArray)(z:Nat)(w:Ae)(v:Nat)(d:Ae)(t:Nat)(l:Ae)(ZQ:Int)(y12:Nat)(ZJ:Ae)(SY r OW:ByteArray)(x:Nat)(UZ:Ae)(NY:Int)(OC:Bool)(OD OA:Int)(OE:Bool)(OG:Int)(NV:Bool)(NZ:Nat)(FK:Ae)(NW VU:Int)(y C:Int):Le u F Y X W V U T S Q P O N M L K J I H Z G E D B A z w v d t l ZQ y12 ZJ SY r OW x UZ NY OC OD OA OE OG NV NZ FK NW VU y C=(De (F 7 [(2:Int),(1:Int),false]) λa b=>Dr a λa=>Bw .u64 a λa c=>Bw .i64 c λc e=>ZzO 1 e λe f g=>Hm g λg=>Ah b<|De (F 9 [(1:Int),(16:Int)]) λb h=>Na 1 b λb i=>Ah h<|Aw (decide (0+e*1<=f.length))<|Aw (decide (0+b*1<=i.length))<|De (F 8 [.agg [Ag a,c,Ap 1 e (List.take (e*1) (f.drop 0)),g],Bf ⟨#[101,120,97,109,112,108,101,46,99,111,109]⟩,Bf ⟨#[104,116,116,112,115,58,47,47,101,120,97,109,112,108,101,46,99,111,109]⟩,Ap 1 b (List.take (b*1) (i.drop 0)),true,(0:Int),(0:Int),Bf ⟨#[]⟩]) λb h=>Dr b λb=>Bw .i64 b λb i=>Ad i λi j=>As i λi=>Ov 1 j λj k m=>Ov 1 m λm n o=>Ov 1 o λo p q=>Bw .i64 q λq s=>Ov 1 s λs Bfv A7c=>Ad A7c λBgn Bf9=>As Bgn λBil=>Ah Bf9<|Ah h<|Lf u F Y X W V U T S Q P O N M L K J I H u G E D B A z w v d t l ZQ y12 ZJ SY r OW x UZ NY OC OD OA OE OG NV NZ FK NW VU y C a c e g f b i j k m n o p q s Bfv Bil):=by cases Z with|zero=>exact absurd F7 (Nat.lt_irrefl 0)|succ Z=>kernel_rfl
theorem S6(Bf1:Int)(Anc:ByteArray)(YK:Nat)(All:Ae)(Ba6:Nat)(Bjx:Ae)(Bb8:Nat)(Bgw:Ae)(Bhr:Int)(Bbl:Nat)(Bfz:Ae)(Asy:ByteArray)(a1n:Nat)(a1:Ae)(a2:Int)(a3n:Nat)(a3:Ae)(X:Nat)(F7:0<X)(y0:Nat)(y1:Ae)(y2 y3:Int)(y4:ByteArray)(z:Nat)(w:Ae)(v:Nat)(d:Ae)(y9:Nat)(y10:Ae)(ZQ:Int)(y12:Nat)(ZJ:Ae)(SY W V:ByteArray)(U:Nat)(T:Ae)(S:Int)(Q:Bool)(P O:Int)(N:Bool)(M:Int)(L:Bool)(K:Nat)(J:Ae)(I H:Int)(G E:Int)(D B:Int)(Z:Nat)(A:Bool)(Y:Ae)(t:Int)(l:ByteArray)(y39:Nat)(y40:Ae)(y41:Nat)(y42:Ae)(r:Nat)(x:Ae)(y:Int)(C:Nat)(y47:Ae)(y48:ByteArray):Lf u F Bf1 Anc YK All Ba6 Bjx Bb8 Bgw Bhr Bbl Bfz Asy a1n a1 a2 a3n a3 X y0 y1 y2 y3 y4 z w v d y9 y10 ZQ y12 ZJ SY W V U T S Q P O N M L K J I H G E D B Z A Y t l y39 y40 y41 y42 r x y C y47 y48=((λz2:PV=>Aw (decide (0+Z*1<=Y.length))<|De (F 11 [z2,Ag 0]) λa b=>Dr a λa=>Ov 1 a λa c e=>Bw .i64 e λe f=>Bw .u64 f λf g=>Bw .u64 g λg h=>Bw .i64 h λh i=>Ad i λi j=>Be i λi=>Bw .u64 j λj k=>Ov 2 k λk m n=>Ad n λn o=>Be n λn=>Bw .i64 o λo p=>Br .i64 p λp=>(λR:PV=>(λz1:PV=>Ah b<|De (F 10 [z1,R,.agg [Ap 1 a c,e,Ag f,Ag g,h,i,Ag j,Ap 2 k m,n,o,p],Ap 1 y0 y1,y2,.agg [y3,y4,Ap 1 z w,Ap 1 v d,Ap 1 y9 y10,ZQ,Ap 1 y12 ZJ,SY]]) λa b=>Be a λa=>Ah b<|Aq a (Aw (decide (0+Z*1<=Y.length))<|De (F 11 [z2,Ag 0]) λa b=>Dr a λa=>Ov 1 a λa c e=>Bw .i64 e λe f=>Bw .u64 f λf g=>Bw .u64 g λg h=>Bw .i64 h λh i=>Ad i λi j=>Be i λi=>Bw .u64 j λj k=>Ov 2 k λk m n=>Ad n λn o=>Be n λn=>Bw .i64 o λo p=>Br .i64 p λp=>Ah b<|De (F 9 [(1:Int),(16:Int)]) λb q=>Na 1 b λb s=>Ah q<|Aw (decide (0+b*1<=s.length))<|De (F 10 [z1,R,.agg [Ap 1 a c,e,Ag f,Ag g,h,i,Ag j,Ap 2 k m,n,o,p],Ap 1 b (List.take (b*1) (s.drop 0)),(5:Int),.agg [t,l,Ap 1 z w,Ap 1 y41 y42,Ap 1 r x,y,Ap 1 C y47,y48]]) λa b=>Be a λa=>Ah b<|Aq a (Aw (decide (0+Z*1<=Y.length))<|De (F 11 [z2,Ag 0]) λa b=>Dr a λa=>Ov 1 a λa c e=>Bw .i64 e λe f=>Bw .u64 f λf g=>Bw .u64 g λg h=>Bw .i64 h λh i=>Ad i λi j=>Be i λi=>Bw .u64 j λj k=>Ov 2 k λk m n=>Ad n λn o=>Be n λn=>Bw .i64 o λo p=>Br .i64 p λp=>Ah b<|De (F 9 [(1:Int),(16:Int)]) λb q=>Na 1 b λb s=>Ah q<|Aw (decide (0+b*1<=s.length))<|De (F 10 [z1,R,.agg [Ap 1 a c,e,Ag f,Ag g,h,i,Ag j,Ap 2 k m,n,o,p],Ap 1 b (List.take (b*1) (s.drop 0)),(5:Int),.agg [t,l,Ap 1 y39 y40,Ap 1 v d,Ap 1 r x,y,Ap 1 C y47,y48]]) λa b=>Be a λa=>Ah b<|Aq a (De (F 4 []) λa b=>Be a λa=>Ah b<|Bd [a]) (Bd [false])) (Bd [false])) (Bd [false])) (.agg [W,V,Ap 1 U T,S,Q,P,O,N,M,L,Ap 1 K J,I,Ag H,G,Ag E])) (.agg [(0:Int),(0:Int),(0:Int),Ap 3 0 [],(0:Int),Ap 1 0 [],Ap 1 0 []])) (.agg [Ag D,B,Ap 1 Z (List.take (Z*1) (Y.drop 0)),A])):=by cases X with|zero=>exact absurd F7 (Nat.lt_irrefl 0)|succ X=>kernel_rfl
theorem Xm{p:Option (Ae->Option A8)}(u d:Nat)(U:Int)(Z:ByteArray)(Y:Nat)(T:Ae)(X:Nat)(S:Ae)(W:Nat)(Q:Ae)(P:Int)(O:Nat)(N:Ae)(M:ByteArray)(V:Nat)(L:Ae)(K:Int)(J:Nat)(I:Ae):Ac (CP p) prog u (d+1) 3 [.agg [U,Z,Ap 1 Y T,Ap 1 X S,Ap 1 W Q,P,Ap 1 O N,M],Ap 1 V L,K,Ap 1 J I]=(λ(F:Ao)=>(λc:Option A8=>Aq (decide ((↑(ByteArray.size Z):Int)>1100)) c (Aq (decide ((↑Y:Int)>400)) c (Aq (decide ((↑X:Int)>400)) c (Aq (decide ((↑W:Int)>4)) c (Aq (decide ((↑V:Int)>100)) c (K7 u F U Z Y T X S W Q P O N M V L K J I u V L K J I U Z Y T X S W Q P O N M)))))) (De (F 4 []) λa b=>Be a λa=>Ah b<|Bd [a])) (Ac (CP p) prog u d):=Κ
end
theorem TS{d:Nat}{ps:Ae}(h:WT prog d 25 ps):∃(v0:Int)(f:ByteArray)(b:Ak)(v3:Ak)(v4:List Ae) (v5:Int)(c:Ak)(g:ByteArray),ps=[(A0 v0),(Bf f),(.lst false 1 b.length (Af .u8 b)),(.lst false 1 v3.length (Af .u8 v3)),(.lst false 1 v4.length v4.flatten),(A0 v5),(.lst false 1 c.length (Af .u8 c)),(Bf g)]/\(Lit.int .i64 v0).wf=true/\f.size<=maxLen/\b.length<=maxLen/\(∀n∈b,(Lit.int .u8 n).wf=true)/\v3.length<=maxLen/\(∀n∈v3,(Lit.int .u8 n).wf=true)/\v4.length<=maxLen/\(∀r∈v4,r.length=1/\WT prog (d-2) 22 r)/\(Lit.int .i64 v5).wf=true/\c.length<=maxLen/\(∀n∈c,(Lit.int .u8 n).wf=true)/\g.size<=maxLen:=by
 obtain⟨rs,rfl,a⟩:=Bdx (ts:=[3,9,22,22,23,3,22,9]) Κ h;obtain⟨t,_,rfl,i,a⟩:=a.cons_inv;obtain⟨v,_,rfl,j,a⟩:=a.cons_inv;obtain⟨w,_,rfl,l,a⟩:=a.cons_inv;obtain⟨x,_,rfl,m,a⟩:=a.cons_inv;obtain⟨y,_,rfl,o,a⟩:=a.cons_inv;obtain⟨z,_,rfl,p,a⟩:=a.cons_inv;obtain⟨A,_,rfl,q,a⟩:=a.cons_inv;obtain⟨C,_,rfl,s,a⟩:=a.cons_inv;obtain rfl:=a.nil_inv;obtain⟨v0,rfl,w0_0⟩:=Afz (k:=.i64) Κ i;obtain⟨f,rfl,w1_0⟩:=Av6 Κ j;obtain⟨b,rfl,w2_0,w2_1⟩:=UI (k:=.u8) (e:=5) Κ Κ Κ l;obtain⟨v3,rfl,w3_0,w3_1⟩:=UI (k:=.u8) (e:=5) Κ Κ Κ m;obtain⟨v4,rfl,w4_0,w4_1⟩:=A6r (k:=1) (e:=22) Κ Κ o;obtain⟨v5,rfl,w5_0⟩:=Afz (k:=.i64) Κ p
 obtain⟨c,rfl,w6_0,w6_1⟩:=UI (k:=.u8) (e:=5) Κ Κ Κ q;obtain⟨g,rfl,w7_0⟩:=Av6 Κ s;exact⟨v0,f,b,v3,v4,v5,c,g,rfl,w0_0,w1_0,w2_0,w2_1,w3_0,w3_1,w4_0,w4_1,w5_0,w6_0,w6_1,w7_0⟩
theorem Ann{l:Ak}(h:∀n∈l,(Lit.int .u8 n).wf=true):Ce l:=λx a=>Bd1 (h x a)
theorem A2k{p:PV}(h:WTv prog 25 p):∃r:Rq,p=.agg r.cells/\Ce r.ad/\Ce r.sg/\Ce r.id/\r.ad.length<=maxLen/\r.sg.length<=maxLen/\r.id.length<=maxLen:=by obtain⟨ps,rfl,c⟩:=A1j Κ h;obtain⟨d,e,f,g,b,i,j,k,rfl,t,v,l,m,n,o,w,x,y,q,a,s⟩:=TS c;exact⟨⟨d,e,f,g,b.length,b.flatten,i,j,k⟩,rfl,Ann m,Ann o,Ann a,l,n,q⟩
set_option maxHeartbeats 8000000 in
theorem signinAny_plain(P:Ae)(h:Bv (WTv prog) [25,22,3,26] P):∃u d,Ac C1 prog u d 3 P=some ⟨[Cn true],[]⟩:=by
 obtain⟨q0,_,rfl,Q,g⟩:=h.cons_inv;obtain⟨q1,_,rfl,R,g⟩:=g.cons_inv;obtain⟨q2,_,rfl,T,g⟩:=g.cons_inv;obtain⟨q3,_,rfl,U,g⟩:=g.cons_inv;obtain rfl:=g.nil_inv;clear h g;obtain⟨r,rfl,rB1,rB2,rB3,X,Y,Z⟩:=A2k Q;obtain⟨b,rfl,Vm,hbB⟩:=Ahs (k:=.u8) (e:=5) Κ Κ Κ Κ R;obtain⟨E,rfl,_⟩:=A2g (k:=.i64) Κ Κ T;obtain⟨l,rfl,hl,_⟩:=Ahs (k:=.i64) (e:=3) Κ Κ Κ Κ U;clear Q R T U;obtain⟨u,Bg⟩:∃u,u=1000400:=⟨_,rfl⟩
 refine⟨u,28,?_⟩;refine (Xm u 27 r.kind r.cd r.ad.length (Af .u8 r.ad) r.sg.length (Af .u8 r.sg) r.cn r.cc r.fm r.id.length (Af .u8 r.id) r.us b.length (Af .u8 b) E l.length (Af .i64 l)).trans ?_;have z:=Auz (u:=u) (d:=0) Ω;by_cases g1:1100<r.cd.size
 ·have v:=dT (q:=((r.cd.size:Nat):Int)>1100) Ω;simp only[Av,Au,v,z]
 have v:=dF (q:=((r.cd.size:Nat):Int)>1100) Ω;by_cases g2:400<r.ad.length
 ·have w:=dT (q:=((r.ad.length:Nat):Int)>400) Ω;simp only[Av,Au,v,w,z]
 have w:=dF (q:=((r.ad.length:Nat):Int)>400) Ω;by_cases g3:400<r.sg.length
 ·have A:=dT (q:=((r.sg.length:Nat):Int)>400) Ω;simp only[Av,Au,v,w,A,z]
 have A:=dF (q:=((r.sg.length:Nat):Int)>400) Ω;by_cases g4:4<r.cn
 ·have G:=dT (q:=((r.cn:Nat):Int)>4) Ω;simp only[Av,Au,v,w,A,G,z]
 have G:=dF (q:=((r.cn:Nat):Int)>4) Ω;by_cases g5:100<b.length
 ·have J:=dT (q:=((b.length:Nat):Int)>100) Ω;simp only[Av,Au,v,w,A,G,J,z]
 have J:=dF (q:=((b.length:Nat):Int)>100) Ω;simp only[Av,Au,v,w,A,G,J];clear v w A G J;have j:r.ok:=⟨Ω,rB1,Ω,rB2⟩
 have nw:Ac C1 prog u 27 5 [.lst false 1 l.length (Af .i64 l)]=some ⟨[.pbox (dkc l 0)],[]⟩:=Baj (l:=l);obtain⟨p,sec,a',hp,H⟩:=Bie (u:=u) (d:=13) Ω hl 0;have H:Ac C1 prog u 27 6 [.pbox (dkc l 0)]=_:=H;have m:=Am9 hp sec;generalize cfW p sec=c at H m;simp only[Cf.cells] at H;rw[Tl (F7:=Ω)];simp only[Av,Au,nw,H];obtain⟨id,M,y,K⟩:=A4r (u:=u) (d:=20) Ω 2 1 false;have w1:wrap .u64 (1000+wrap .u64 2)=1002:=Δ
 rw[w1] at K;have K:Ac C1 prog u 27 7 [A0 2,A0 1,Cn false]=_:=K;obtain⟨e,N,I,L⟩:=Ak5 (u:=u) (d:=21) (p:=some Dg) Ω 1 (n:=16) Ω;have L:Ac C1 prog u 27 9 [A0 1,A0 16]=some ⟨[.own 1 16 (Af .u8 e)],[]⟩:=L;have Li:=Am .u8 id;have Lb:=Am .u8 e;have c1:decide (0+176*1<=List.length (Af .u8 id))=true:=dT Ω;have V:List.take (176*1) (List.drop 0 (Af .u8 id))=Af .u8 id:=Jo (by rw[Nr];omega)
 have c2:decide (0+16*1<=List.length (Af .u8 e))=true:=dT Ω;have W:List.take (16*1) (List.drop 0 (Af .u8 e))=Af .u8 e:=Jo (by rw[Nr];omega)
 have a:=Abm (u:=u) (d:=14) Ω (seed:=1002) (h:=1) (id:=id) (sh:=false) (rp:=exS) (o:=Ci oxS) (ch:=e) (vf:=true) (leaf:=0) (f:=0) (us:=ByteArray.mk #[]) Δ (AM _) (by rw[Cb];decide) N Ω
 rw[Hw,y,I] at a;obtain⟨x,O⟩:∃x,Ag3 1002 1 id false exS (Ci oxS) e true 0 0 (ByteArray.mk #[])=x:=⟨_,rfl⟩
 have i:x.ok:=by rw[<-O];exact Aqd (by rw[Cb];decide)
 rw[O] at a;clear O;simp only[Rq.cells] at a;have a:Ac C1 prog u 27 8 _=_:=a;rw[Sz (F7:=Ω)];simp only[Av,Au,K,L,c1,V,c2,W,a];have C:=Ac3 (u:=u) (d:=13) Ω 1002 1 id false 0;rw[y] at C;have s:=Aue (seed:=1002) (h:=1) M y false 0;have t:(stK 1002 1 id false 0).rg=[]:=rfl;generalize stK 1002 1 id false 0=S at C s t;simp only[Sd.cells] at C;have C:Ac C1 prog u 27 11 _=_:=C;have m0:mt0.cells=[A0 0,A0 0,A0 0,.lst false 3 0 [],A0 0,.lst false 1 0 [],.lst false 1 0 []]:=rfl;have s1:=Af4 (u:=u) (d:=1) Ω m YW s t b E j;have s2:=Af4 (u:=u) (d:=1) Ω m YW s t e 5 (r:={ x with ad:=r.ad }) ⟨i.cd,j.adB,j.ad,i.sgB⟩
 have D:=Af4 (u:=u) (d:=1) Ω m YW s t e 5 (r:={ x with sg:=r.sg }) ⟨i.cd,i.adB,i.ad,j.sgB⟩;rw[m0] at s1 s2 D;rw[I] at s2 D;simp only[Cf.cells,Sd.cells,Rq.cells] at s1 s2 D;have s1:Ac C1 prog u 27 10 _=_:=s1;have s2:Ac C1 prog u 27 10 _=_:=s2;have D:Ac C1 prog u 27 10 _=_:=D;rw[S6 (F7:=Ω)];simp only[Av,Au,C,L,c1,V,c2,W,s1,s2,D,z]
end
end Go.Proofs.YthlonbjmnomlcaaGreatDoor.Pv
