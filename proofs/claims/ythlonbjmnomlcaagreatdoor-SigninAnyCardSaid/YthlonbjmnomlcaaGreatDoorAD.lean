/-
  The proof of SigninAny, part 4.
-/
import Derived.Test.YthlonbjmnomlcaaGreatDoorAC
import Derived.Test.YthlonbjmnomlcaaGreatDoorRows
import Derived.Lib.RuneBytes
import Derived.Lib.SlTrimSet
import Derived.Lib.BytesEntry
import Derived.Lib.Bytealg
import Derived.Lib.Walk
import Derived.WalkKit
import Derived.WalkMore
import Derived.RangeFuncNested
import Derived.RangeFuncLeaves
import Derived.RangeFuncKeeps
import Derived.Below
import Derived.Handy
import Derived.Shelf.Abstract
import Derived.OwnWalkIn
import Derived.TacticsInMore
import Derived.LoopNIn
import Derived.LoopIn
import Derived.Laws.Bits64b
import Derived.Shelf.Strings.BuilderRune
import Derived.Shelf.Strings.SlTrimAscii
import Derived.Lib.SliceRun
import Derived.Shelf.Unicode.ValidAny
import Derived.Lib.LaidU8T
set_option linter.unusedSimpArgs false
set_option linter.unusedVariables false
namespace Go.Proofs.YthlonbjmnomlcaaGreatDoor.Pv
open Go.IntKind (wrap)
open Go.Proofs.Tryz (prog)
set_option maxRecDepth 1000000
noncomputable section
def Gz(w:Int)(k:Nat):Int:=wrap .u8 (Gs .u64 w (56-8*(k:Int)))
def B5(w:Int):Ak:=(List.range' 0 8).map (Gz w)
def A7(ws:Ak):Ak:=ws.flatMap B5
theorem C3(w:Int):(B5 w).length=8:=rfl
section
variable {u d:Nat}{B:FuncId->Option (Ae->Option A8)}{F:Ao}{n:Nat}{c:Ae}
theorem Akc{ws:Ak}{w:Int}{m0 l:Nat}{i k:Int}:∀(r j nn:Nat)(bs:Ak),8-j=r->r<nn->j<=8->bs.length+r<=34359738368 ->
  Mp u F n c m0 nn bs.length w l (Af .u64 ws) k i j (Af .u8 bs) =
   Je u F n c m0 (bs++(List.range' j (8-j)).map (Gz w)).length l (Af .u64 ws) k (wrap .i64 (i+1)) (Af .u8 (bs++(List.range' j (8-j)).map (Gz w)))
 |r,j,0,bs,_,h,_,_=>Ω
 |0,j,nn+1,bs,b,_,d,_=>by
  have e:j=8:=Ω
  subst e;rw[Wk];simp(disch:=omega)only[Av,Au];simp
 |r+1,j,nn+1,bs,b,m,d,o=>by
  have a:=Akc (ws:=ws) (w:=w) (m0:=m0) (l:=l) (i:=i) (k:=k) r (j+1) nn (bs++[Gz w j]) Ω Ω Ω (by simp;omega)
  have p:=Am .u8 bs;rw[Wk]
  have f:wrap .u8 (Gs .u64 w (wrap .i64 (56-wrap .i64 (8*(j:Int)))))=Gz w j:=by
   rw[E0 (x:=8*(j:Int)) Ω Ω,Bc];rfl
  have g:0<=wrap .i64 (56-wrap .i64 (8*(j:Int))):=by
   rw[E0 (x:=8*(j:Int)) Ω Ω,Bc];omega
  have Anu:List.range' j (8-j)=j::List.range' (j+1) (8-(j+1)):=by
   rw[show 8-j=(8-(j+1))+1 by omega];exact List.range'_succ
  simp (disch:=first|omega|exact g) only[Av,Au,Jy,f,PH,Mh,E0 (x:=(j:Int)+1)];rw[Anu];simp only[Vl,Ox,SS,Ka,Zzv,CZ,List.singleton_append] at a ⊢;exact a
theorem XJ{ws:Ak}(b:ws.length<=1073741824)(Bg:100<=u):∀(r:Ak)(i nn:Nat)(bs:Ak),ws.drop i=r->r.length<nn->bs.length=8*i ->
  Je u F n c nn bs.length ws.length (Af .u64 ws) ws.length i (Af .u8 bs)=some ⟨[.own 1 (bs++A7 r).length (Af .u8 (bs++A7 r))],[]⟩
 |r,i,0,_,_,h,_=>Ω
 |[],i,nn+1,bs,h,_,_=>by
  have:=drop_nil h;have j:=Am .u8 bs;rw[V9];simp(disch:=omega)only[Av,Au,Jy,PH,A7,List.flatMap_nil,List.append_nil]
 |w::r,i,nn+1,bs,h,d,k=>by
  obtain⟨l,f,g⟩:=Cl h;simp only[Ox] at d;rw[V9];simp(disch:=omega)only[Av,Au,H8,Jy,Sr f];rw[show (0:Int)=((0:Nat):Int) from rfl,Akc 8 0 u bs rfl Ω Ω Ω,Bc];have a:=XJ b Bg r (i+1) nn (bs++B5 w) g Ω (by simp[C3];omega)
  have e:bs++B5 w++A7 r=bs++A7 (w::r):=by simp[A7]
  rw[e] at a;exact a
theorem NL{ws:Ak}(a:ws.length<=1073741824)(Bg:100<=u)(b:ws.length<u):Ac (CX B) prog u (d+1) 74 [.lst false 1 ws.length (Af .u64 ws)]=some ⟨[.own 1 (A7 ws).length (Af .u8 (A7 ws))],[]⟩:=by rw[XB];simp(disch:=omega)only[Av,Au,E0,Int.mul_one];exact XJ a Bg ws 0 u [] rfl b rfl
theorem Abf{ws:Ak}{w:Int}{m0 i:Nat}(a:ws[i]?=some w):∀(r nn:Nat)(j:Int)(bs:Ak),j=(r:Int)-1->r<=8->r<nn->bs.length+r<=34359738368 ->
  Hn u F n c m0 nn ws.length (Af .u64 ws) bs.length i j (Af .u8 bs) =
   Ga u F n c m0 ws.length (Af .u64 ws) (bs++(List.range' (8-r) r).map (Gz w)).length (wrap .i64 (i+1)) (Af .u8 (bs++(List.range' (8-r) r).map (Gz w)))
 |r,0,j,bs,_,_,h,_=>Ω
 |0,nn+1,j,bs,d,_,_,_=>by
  rw[Oe];simp(disch:=omega)only[Av,Au];simp
 |r+1,nn+1,j,bs,d,IV,g,k=>by
  have hi:=A7q a;have b:=Abf (m0:=m0) a r nn (j-1) (bs++[Gz w (8-(r+1))]) Ω Ω Ω (by simp;omega)
  have l:=Am .u8 bs
  have e:wrap .u8 (Gs .u64 w (wrap .u64 (wrap .i64 (8*j))))=Gz w (8-(r+1)):=by
   rw[Bc,Do];unfold Gz;rw[show 56-8*((8-(r+1):Nat):Int)=8*j by omega]
  have f:0<=wrap .u64 (wrap .i64 (8*j)):=by
   rw[Bc,Do];omega
  have Anu:List.range' (8-(r+1)) (r+1)=(8-(r+1))::List.range' (8-r) r:=by
   rw[List.range'_succ,show 8-(r+1)+1=8-r by omega]
  rw[Oe];simp (disch:=first|omega|exact f) only[Av,Au,H8,Jy,Sr a,e,PH,Mh,E0 (x:=j-1)];rw[Anu];simp only[Vl,Ox,SS,Ka,Zzv,CZ,List.singleton_append] at b ⊢;exact b
theorem SC{ws:Ak}(b:ws.length<=1073741824)(Bg:100<=u):∀(r:Ak)(i nn:Nat)(bs:Ak),ws.drop i=r->r.length<nn->bs.length=8*i ->
  Ga u F n c nn ws.length (Af .u64 ws) bs.length i (Af .u8 bs)=some ⟨[.own 1 (bs++A7 r).length (Af .u8 (bs++A7 r))],[]⟩
 |r,i,0,_,_,h,_=>Ω
 |[],i,nn+1,bs,h,_,_=>by
  have:=drop_nil h;have j:=Am .u8 bs;rw[Of];simp(disch:=omega)only[Av,Au,Jy,PH,A7,List.flatMap_nil,List.append_nil]
 |w::r,i,nn+1,bs,h,d,k=>by
  obtain⟨l,f,g⟩:=Cl h;simp only[Ox] at d;rw[Of];simp(disch:=omega)only[Av,Au];rw[Abf f 8 u 7 bs rfl Ω Ω Ω,Bc];have a:=SC b Bg r (i+1) nn (bs++B5 w) g Ω (by simp[C3];omega)
  have e:bs++B5 w++A7 r=bs++A7 (w::r):=by simp[A7]
  rw[e] at a;exact a
theorem K1{ws:Ak}(a:ws.length<=1073741824)(Bg:100<=u)(b:ws.length<u):Ac (CX B) prog u (d+1) 45 [.lst false 1 ws.length (Af .u64 ws)]=some ⟨[.own 1 (A7 ws).length (Af .u8 (A7 ws))],[]⟩:=by rw[GQ];exact SC a Bg ws 0 u [] rfl b rfl
end
abbrev Mg(a b:Int):Int:=Vg .u64 (Dx .u64 a 8) (wrap .u64 b)
def ZZ(bs:Ak):Int:=bs.foldl Mg 0
theorem Ba0{q:Int}(a:0<=q)(i:q<=18446744073709551615):Mg (q / 256) (wrap .u8 q)=q:=by
 have b:Dx .u64 (q / 256) 8=q / 256*256:=by
  unfold Dx;have:((8:Int).toNat.min IntKind.u64.bits)=8:=Δ
  show wrap .u64 (q / 256*2 ^ (min (8:Int).toNat IntKind.u64.bits))=_;have c:(2:Int) ^ (min (8:Int).toNat IntKind.u64.bits)=256:=Δ
  rw[c,Do]
 have d:wrap .u8 q=q % 256:=by
  simp only[wrap,IntKind.signed,IntKind.bits];simp
 have e:wrap .u64 (q % 256)=q % 256:=Do;unfold Mg;rw[b,d,e];obtain⟨n,rfl⟩:=Int.eq_ofNat_of_zero_le a;have j:n<18446744073709551616:=Ω
 have f:(BitVec.ofInt 64 ((n:Int) / 256*256)).toNat=n / 256*256:=by
  rw[BitVec.toNat_ofInt];omega
 have g:(BitVec.ofInt 64 ((n:Int) % 256)).toNat=n % 256:=by
  rw[BitVec.toNat_ofInt];omega
 have h:n / 256*256 ||| n % 256=n:=by
  have:=Nat.shiftLeft_add_eq_or_of_lt (show n % 256<2 ^ 8 by omega) (n / 256);rw[Nat.shiftLeft_eq] at this;rw[<-this];omega
 unfold Vg;show wrap .u64 ((BitVec.ofInt 64 ((n:Int) / 256*256) ||| BitVec.ofInt 64 ((n:Int) % 256)).toNat:Int)=n;rw[BitVec.toNat_or,f,g,h,Do]
theorem Atl{w:Int}(k:Nat)(a:k<8):Gz w k=wrap .u8 (w / 2 ^ (56-8*k)):=by
 unfold Gz Gs;have e:(56-8*(k:Int)).toNat=56-8*k:=Ω
 rw[e,Nat.min_eq_left (by show 56-8*k<=64;omega),Int.fdiv_eq_ediv_of_nonneg _ (Int.le_of_lt (Int.pow_pos Ω))]
theorem Ab0{w:Int}(a:0<=w)(h:w<=18446744073709551615):ZZ (B5 w)=w:=by
 have st:∀(k:Nat) (D:Int),k<8->(2:Int) ^ (56-8*k)=D->0<D->Mg (w / D / 256) (Gz w k)=w / D:=by
  intro k D i j hp;rw[Atl k i,j];exact Ba0 (Int.ediv_nonneg a (Int.le_of_lt hp)) (Int.le_trans (Int.ediv_le_self _ a) h)
 have b:=st 0 72057594037927936 Ω Δ Ω;have s1:=st 1 281474976710656 Ω Δ Ω;have s2:=st 2 1099511627776 Ω Δ Ω;have c:=st 3 4294967296 Ω Δ Ω;have d:=st 4 16777216 Ω Δ Ω;have e:=st 5 65536 Ω Δ Ω;have f:=st 6 256 Ω Δ Ω;have g:=st 7 1 Ω Δ Ω;rw[show w / 72057594037927936 / 256=0 by omega] at b;rw[show w / 281474976710656 / 256=w / 72057594037927936 by omega] at s1;rw[show w / 1099511627776 / 256=w / 281474976710656 by omega] at s2;rw[show w / 4294967296 / 256=w / 1099511627776 by omega] at c;rw[show w / 16777216 / 256=w / 4294967296 by omega] at d;rw[show w / 65536 / 256=w / 16777216 by omega] at e;rw[show w / 256 / 256=w / 65536 by omega] at f
 rw[show w / 1 / 256=w / 256 by omega,show w / 1=w by omega] at g;show Mg (Mg (Mg (Mg (Mg (Mg (Mg (Mg 0 (Gz w 0)) (Gz w 1)) (Gz w 2)) (Gz w 3)) (Gz w 4)) (Gz w 5)) (Gz w 6)) (Gz w 7)=w;rw[b,s1,s2,c,d,e,f,g]
section
variable {B:FuncId->Option (Ae->Option A8)}(u d:Nat)(F:Ao)
def Hu(Z:Int)(Y:Nat)(X W V:Int)(U T:Ae):Option A8:=H6 u F 110 Tryz.f110 [Ag Z] [.r,.r,.r,.l,.r,.l] Y ⟨lk [(0,Ag X),(2,.ptr 2 0),(3,.ptr 3 0),(4,W),(6,V)],Fe [(2,.ar false U),(3,.ar false T)]⟩
def Wa(Z:Int)(Y:Nat)(X W:Ae):Option A8:=H6 u F 110 Tryz.f110 [Ag Z] [.r,.r,.r,.r,.r] Y ⟨lk [(2,.ptr 2 0),(3,.ptr 3 0)],Fe [(2,.ar false X),(3,.ar false W)]⟩
def Ww(Z:Int)(Y:Nat)(X:Ae):Option A8:=H6 u F 110 Tryz.f110 [Ag Z] [.r,.r,.r,.r,.r,.r] Y ⟨lk [(2,.ptr 2 0)],Fe [(2,.ar false X)]⟩
theorem Sc(W:Int)(T:Nat)(V X Z:Int)(U Y:Ae):Hu u F W (T+1) V X Z U Y=(Aq (decide (Z<16)) (Aa (wrap .i64 (4*Z)) λa=>Aa (wrap .i64 (60-a)) λa=>Aw (decide (0<=a))<|Aa (Gs .u64 V a) λa=>Aa (C5 .u64 a 15) λa=>Aa (wrap .i64 a) λa=>Aw (decide (0<=Z)&&decide (Z<18))<|Aw (decide (0+Z.toNat*1+1<=Y.length))<|Aa (B1 Y [a] (0+Z.toNat*1)) λa=>Aw (decide (0<=Z)&&decide (Z<18))<|Bn .i64 (a.getD (0+Z.toNat*1) .top) λb=>Aa (wrap .i64 (15-b)) λb=>Aa (wrap .i64 (X+b)) λb=>Aa (wrap .i64 (Z+1)) λc=>Hu u F W T V b c U a) (Aa (wrap .i64 (Int.tdiv X 16)) λa=>Aw (decide (17<=Y.length))<|Aa (B1 Y [a] 16) λa=>Aa (Int.tmod X 16) λb=>Aw (decide (18<=a.length))<|Aa (B1 a [b] 17) λa=>Wa u F W u U a)):=Κ
theorem HI(W:Int)(Y:Nat)(F7:0<Y)(X Z:Ae):Wa u F W Y X Z=(Bn .i64 (Z.getD 0 .top) λa=>Bn .i64 (Z.getD 1 .top) λb=>Bn .i64 (Z.getD 2 .top) λc=>Bn .i64 (Z.getD 3 .top) λe=>Bn .i64 (Z.getD 4 .top) λf=>Bn .i64 (Z.getD 5 .top) λg=>Bn .i64 (Z.getD 6 .top) λh=>Bn .i64 (Z.getD 7 .top) λi=>Bn .i64 (Z.getD 8 .top) λj=>Bn .i64 (Z.getD 9 .top) λk=>Bn .i64 (Z.getD 10 .top) λm=>Bn .i64 (Z.getD 11 .top) λn=>Bn .i64 (Z.getD 12 .top) λo=>Bn .i64 (Z.getD 13 .top) λp=>Bn .i64 (Z.getD 14 .top) λq=>Bn .i64 (Z.getD 15 .top) λs=>Bn .i64 (Z.getD 16 .top) λt=>Bn .i64 (Z.getD 17 .top) λd=>Aw (decide (18<=X.length))<|Aa (B1 X [a,b,c,e,f,g,h,i,j,k,m,n,o,p,q,s,t,d] 0) λa=>Ww u F W u a):=by cases Y with|zero=>exact absurd F7 (Nat.lt_irrefl 0)|succ Y=>kernel_rfl
theorem GK(X:Int)(Y:Nat)(F7:0<Y)(Z:Ae):Ww u F X Y Z=(Bn .i64 (Z.getD 0 .top) λa=>Bn .i64 (Z.getD 1 .top) λb=>Bn .i64 (Z.getD 2 .top) λc=>Bn .i64 (Z.getD 3 .top) λe=>Bn .i64 (Z.getD 4 .top) λf=>Bn .i64 (Z.getD 5 .top) λg=>Bn .i64 (Z.getD 6 .top) λh=>Bn .i64 (Z.getD 7 .top) λi=>Bn .i64 (Z.getD 8 .top) λj=>Bn .i64 (Z.getD 9 .top) λk=>Bn .i64 (Z.getD 10 .top) λm=>Bn .i64 (Z.getD 11 .top) λn=>Bn .i64 (Z.getD 12 .top) λo=>Bn .i64 (Z.getD 13 .top) λp=>Bn .i64 (Z.getD 14 .top) λq=>Bn .i64 (Z.getD 15 .top) λs=>Bn .i64 (Z.getD 16 .top) λt=>Bn .i64 (Z.getD 17 .top) λd=>Bd [.agg [a,b,c,e,f,g,h,i,j,k,m,n,o,p,q,s,t,d]]):=by cases Y with|zero=>exact absurd F7 (Nat.lt_irrefl 0)|succ Y=>kernel_rfl
theorem OR(Z:Int):BA (CX B) u d 110 [Ag Z] λF=>Hu u F Z u Z 0 0 ([(0:Int),(0:Int),(0:Int),(0:Int),(0:Int),(0:Int),(0:Int),(0:Int),(0:Int),(0:Int),(0:Int),(0:Int),(0:Int),(0:Int),(0:Int),(0:Int),(0:Int),(0:Int)]) ([(0:Int),(0:Int),(0:Int),(0:Int),(0:Int),(0:Int),(0:Int),(0:Int),(0:Int),(0:Int),(0:Int),(0:Int),(0:Int),(0:Int),(0:Int),(0:Int),(0:Int),(0:Int)]):=Φ
def Ol(Z Y:Int)(X W V:Int)(U:Nat)(T S:Int)(Q P O:Int):Option A8:=H6 u F 111 Tryz.f111 [Z,Y,X,W,Ag V] [.r,.r,.l,.r,.l] U ⟨lk [(0,T),(1,S),(4,Ag Q),(11,P),(12,O)],Fe []⟩
theorem Yv(U T:Int)(S Q P:Int)(O:Nat)(Y X:Int)(W V Z:Int):Ol u F U T S Q P (O+1) Y X W V Z=(Aq (decide (Z<V)) (Aa (wrap .u64 Y) λa=>Aa (wrap .u64 X) λb=>Aa (wrap .u64 Z) λc=>De (F 74 [Ap 1 4 [Ag a,Ag b,Ag c,Ag W]]) λa b=>Na 1 a λa c=>Ah b<|Aw (decide (0+a*1<=c.length))<|Gm .u64 (F 69 [(1:Int),Ap 1 a (List.take (a*1) (c.drop 0))]) λa=>Aa (wrap .i64 (Z+1)) λb=>Ol u F U T S Q P O Y X a V b) (Bd [Ag W])):=Κ
theorem Aae(X W:Int)(Z Y V:Int):BA (CX B) u d 111 [X,W,Z,Y,Ag V] λF=>Aa (if 15<Y then 15 else Y) λa=>Aa (if Z<0 then 0 else Z) λb=>Ol u F X W Z Y V u X W V a b:=Φ
theorem MK(Z Y:Int)(X W:Int)(V U:Int)(T S:Int)(Q P:Int)(O N:Int)(M L:Int)(K J:Int)(I H G:Int):BA (CX B) u d 112 [Z,.agg [Ag Y,Ag X,Ag W,Ag V,Ag U,Ag T,Ag S,Ag Q,Ag P,Ag O,Ag N,Ag M,Ag L,Ag K,Ag J,Ag I,Ag H,Ag G]] λF=>Aa (wrap .u64 Z) λa=>De (F 74 [Ap 1 19 [Ag a,Ag Y,Ag X,Ag W,Ag V,Ag U,Ag T,Ag S,Ag Q,Ag P,Ag O,Ag N,Ag M,Ag L,Ag K,Ag J,Ag I,Ag H,Ag G]]) λa b=>Na 1 a λa c=>Ah b<|Aw (decide (0+a*1<=c.length))<|Gm .u64 (F 69 [(2:Int),Ap 1 a (List.take (a*1) (c.drop 0))]) λa=>Bd [Ag a]:=Φ
def F0(Z Y:Int)(X:Nat)(W:Ae)(V:Nat)(U:Int)(T:Nat)(S:Ae)(Q P:Int)(O N:Int)(M L:Int)(K J:Int)(I H:Int)(G E:Int)(D B:Int)(A z:Int)(w v a:Int)(t:Ae):Option A8:=H6 u F 75 Tryz.f75 [Z,Ag Y,Ap 1 X W] [.r,.r,.r,.l,.r,.l] V ⟨lk [(0,U),(2,Ap 1 T S),(8,.ptr 8 0),(15,.agg [Q,P,O,N,M,L,K,J,I,H,G,E,D,B,A,z,w,v]),(16,a)],Fe [(8,.ar false t)]⟩
def Ub(Z Y:Int)(X:Nat)(W:Ae)(V:Nat)(U:Int)(T:Ae):Option A8:=H6 u F 75 Tryz.f75 [Z,Ag Y,Ap 1 X W] [.r,.r,.r] V ⟨lk [(0,U),(8,.ptr 8 0)],Fe [(8,.ar false T)]⟩
def Tw(Z Y:Int)(X:Nat)(W:Ae)(V:Nat)(U T:Int):Option A8:=H6 u F 75 Tryz.f75 [Z,Ag Y,Ap 1 X W] [.r,.r,.r,.r] V ⟨lk [(6,Ag U),(7,T)],Fe []⟩
theorem Rg(W V:Int)(U:Nat)(T:Ae)(t:Nat)(Y:Int)(S:Nat)(Q:Ae)(P O:Int)(N M:Int)(L K:Int)(J I:Int)(H G:Int)(E D:Int)(B A:Int)(z w:Int)(v c Z:Int)(X:Ae):F0 u F W V U T (t+1) Y S Q P O N M L K J I H G E D B A z w v c Z X=(Aq (decide (Z<18)) (Aw (decide (0<=Z)&&decide (Z<18)&&true)<|Bn .i64 (List.getD [P,O,N,M,L,K,J,I,H,G,E,D,B,A,z,w,v,c] (Z.toNat*1) .top) λa=>Aw (decide (0<=Z)&&decide (Z<(↑S:Int)))<|Bn .u64 (Q.getD (Z.toNat*1) .top) λb=>Gm .u64 (F 111 [Y,Z,a,(15:Int),Ag b]) λa=>Aw (decide (0<=Z)&&decide (Z<18))<|Aw (decide (0+Z.toNat*1+1<=X.length))<|Aa (B1 X [Ag a] (0+Z.toNat*1)) λa=>Aa (wrap .i64 (Z+1)) λb=>F0 u F W V U T t Y S Q P O N M L K J I H G E D B A z w v c b a) (Ub u F W V U T u Y X)):=Κ
theorem CW(X W:Int)(V:Nat)(U:Ae)(Y:Nat)(F7:0<Y)(T:Int)(Z:Ae):Ub u F X W V U Y T Z=(Bn .u64 (Z.getD 0 .top) λa=>Bn .u64 (Z.getD 1 .top) λb=>Bn .u64 (Z.getD 2 .top) λc=>Bn .u64 (Z.getD 3 .top) λe=>Bn .u64 (Z.getD 4 .top) λf=>Bn .u64 (Z.getD 5 .top) λg=>Bn .u64 (Z.getD 6 .top) λh=>Bn .u64 (Z.getD 7 .top) λi=>Bn .u64 (Z.getD 8 .top) λj=>Bn .u64 (Z.getD 9 .top) λk=>Bn .u64 (Z.getD 10 .top) λm=>Bn .u64 (Z.getD 11 .top) λn=>Bn .u64 (Z.getD 12 .top) λo=>Bn .u64 (Z.getD 13 .top) λp=>Bn .u64 (Z.getD 14 .top) λq=>Bn .u64 (Z.getD 15 .top) λs=>Bn .u64 (Z.getD 16 .top) λt=>Bn .u64 (Z.getD 17 .top) λd=>Gm .u64 (F 112 [T,.agg [Ag a,Ag b,Ag c,Ag e,Ag f,Ag g,Ag h,Ag i,Ag j,Ag k,Ag m,Ag n,Ag o,Ag p,Ag q,Ag s,Ag t,Ag d]]) λa=>Tw u F X W V U u a 0):=by cases Y with|zero=>exact absurd F7 (Nat.lt_irrefl 0)|succ Y=>kernel_rfl
theorem CV(W V:Int)(U:Nat)(T:Ae)(Z:Nat)(F7:0<Z)(Y X:Int):Tw u F W V U T Z Y X=(Bd [Ag Y,X]):=by cases Z with|zero=>exact absurd F7 (Nat.lt_irrefl 0)|succ Z=>kernel_rfl
theorem LQ(Y X:Int)(Z:Nat)(W:Ae):BA (CX B) u d 75 [Y,Ag X,Ap 1 Z W] λF=>Aq ((↑Z:Int) != 18) (Bd [Ag 0,(4:Int)]) (De (F 110 [Ag X]) λa b=>Dr a λa=>Bw .i64 a λa c=>Bw .i64 c λc e=>Bw .i64 e λe f=>Bw .i64 f λf g=>Bw .i64 g λg h=>Bw .i64 h λh i=>Bw .i64 i λi j=>Bw .i64 j λj k=>Bw .i64 k λk m=>Bw .i64 m λm n=>Bw .i64 n λn o=>Bw .i64 o λo p=>Bw .i64 p λp q=>Bw .i64 q λq s=>Bw .i64 s λs t=>Bw .i64 t λt l=>Bw .i64 l λl v=>Br .i64 v λv=>Ah b<|F0 u F Y X Z W u Y Z W a c e f g h i j k m n o p q s t l v 0 ([Ag 0,Ag 0,Ag 0,Ag 0,Ag 0,Ag 0,Ag 0,Ag 0,Ag 0,Ag 0,Ag 0,Ag 0,Ag 0,Ag 0,Ag 0,Ag 0,Ag 0,Ag 0])):=Φ
theorem WX(Z:Int):BA (CX B) u d 70 [Z] λF=>Aq (decide (Z<0)) (Bd [true]) (Bd [Cn (decide (Z>4))]):=Φ
theorem NE(Z Y:Int):BA (CX B) u d 71 [Z,Y] λF=>Aq (decide (Z<0)) (Bd [true]) (Aw (decide (0<=Y))<|Aa (Dx .i64 1 Y) λa=>Bd [Cn (decide (Z>=a))]):=Φ
def Ij(Z:Nat)(Y:Ae)(X W:Nat)(V:Ae)(U:Nat)(T S:Int)(Q:Ae):Option A8:=H6 u F 72 Tryz.f72 [Ap 1 Z Y] [.r,.r,.l,.r,.l] X ⟨lk [(0,Ap 1 W V),(3,.view 3 1 0 U),(12,T),(13,S)],Fe [(3,.ar false Q)]⟩
def K5(Z:Nat)(Y:Ae)(X W V:Nat)(U:Ae)(T:Nat)(S Q P:Int)(O:Nat)(N:Ae)(M L:Int)(K:Ae):Option A8:=H6 u F 72 Tryz.f72 [Ap 1 Z Y] [.r,.r,.l,.r,.l,.i X,.r,.r,.l,.l,.r,.r,.l] W ⟨lk [(0,Ap 1 V U),(3,.view 3 1 0 T),(4,S),(12,Q),(13,P),(22,Ap 1 O N),(23,M),(24,L)],Fe [(3,.ar false K)]⟩
theorem Va(T:Nat)(S:Ae)(Q W:Nat)(V:Ae)(Y:Nat)(U Z:Int)(X:Ae):Ij u F T S (Q+1) W V Y U Z X=(Aq (decide (Z<U)) (Aa (wrap .i64 (8*Z)) λa=>Aa (wrap .i64 (8*Z)) λb=>Aa (wrap .i64 (b+8)) λb=>Aw (decide (0<=a))<|Aw (decide (0<=b))<|Aw (decide (a.toNat<=b.toNat)&&decide (b.toNat<=W))<|Aa (b.toNat-a.toNat) λb=>Aa (List.take (b*1) (V.drop (a.toNat*1))) λa=>K5 u F T S Q u W V Y Z U Z b a (↑b:Int) 0 X) (Aw (decide (Y*1<=X.length))<|Bd [.own 1 Y (X.take (Y*1))])):=Κ
theorem Ug(V:Nat)(U:Ae)(T K S:Nat)(Q:Ae)(X:Nat)(Z P O:Int)(N:Nat)(M:Ae)(L Y:Int)(W:Ae):K5 u F V U T (K+1) S Q X Z P O N M L Y W=(Aq (decide (Y<L)) (Aw (decide (0<=Y)&&decide (Y<(↑N:Int)))<|Bn .u8 (M.getD (Y.toNat*1) .top) λa=>Aw (decide (0<=Z)&&decide (Z<(↑X:Int)))<|Bn .u64 (W.getD (0+Z.toNat*1) .top) λb=>Aa (Dx .u64 b 8) λb=>Aa (wrap .u64 a) λa=>Aa (Vg .u64 b a) λa=>Aw (decide (0<=Z)&&decide (Z<(↑X:Int)))<|Aw (decide (0+Z.toNat*1+1<=W.length))<|Aa (B1 W [Ag a] (0+Z.toNat*1)) λa=>Aa (wrap .i64 (Y+1)) λb=>K5 u F V U T K S Q X Z P O N M L b a) (Aa (wrap .i64 (O+1)) λa=>Ij u F V U T S Q X P a W)):=Κ
theorem SV(Z:Nat)(Y:Ae):BA (CX B) u d 72 [Ap 1 Z Y] λF=>Aa (wrap .i64 (Int.tdiv (↑Z:Int) 8)) λa=>Aw (decide (0<=a)&&decide (a<=a)&&decide (a*8<=1099511627776)&&decide (a<=1099511627776))<|Ij u F Z Y u Z Y a.toNat ((↑a.toNat:Int)) 0 (Vu a.toNat [Ag 0]):=Φ
theorem OP(Z Y X:Int):BA (CX B) u d 76 [Z,Ag Y,Ag X] λF=>Aa (wrap .u64 Z) λa=>De (F 74 [Ap 1 3 [Ag a,Ag Y,Ag X]]) λa b=>Na 1 a λa c=>Ah b<|Aw (decide (0+a*1<=c.length))<|Gm .u64 (F 69 [(3:Int),Ap 1 a (List.take (a*1) (c.drop 0))]) λa=>Bd [Ag a]:=Φ
theorem HD(Z Y:Int):BA (CX B) u d 107 [.agg [Z,Ag Y]] λF=>De (F 70 [Z]) λa b=>Be a λa=>Ah b<|Aq a (Bd [.own 1 0 [],(9:Int)]) (Aa (wrap .u8 Z) λa=>De (F 74 [Ap 1 1 [Ag Y]]) λb c=>Na 1 b λb e=>Ah c<|Aw (decide (0+b*1<=e.length))<|Aw (decide (List.length (List.take (b*1) (e.drop 0))=b*1)&&decide ((1+b)*1<=1099511627776)&&decide (1+b<=1099511627776))<|Aa (1+b) λc=>Aa ([.sc (.int .u8 a)]++List.take (b*1) (e.drop 0)) λa=>Aw (decide (c*1<=a.length))<|Bd [.own 1 c (a.take (c*1)),(0:Int)]):=Φ
theorem HA(Z:Nat)(Y:Ae):BA (CX B) u d 66 [Ap 1 Z Y] λF=>(λf:Option A8=>Aq ((↑Z:Int) != 9) f (Aw (decide (0<(↑Z:Int)))<|Bn .u8 (Y.getD 0 .top) λa=>Aa (wrap .i64 a) λa=>De (F 70 [a]) λa b=>Be a λa=>Ah b<|Aq a f (Aw (decide (0<(↑Z:Int)))<|Bn .u8 (Y.getD 0 .top) λa=>Aa (wrap .i64 a) λa=>Aw (decide (1<=Z)&&decide (Z<=Z))<|Aa (Z-1) λb=>Aa (List.take (b*1) (Y.drop 1)) λc=>De (F 72 [Ap 1 b c]) λb c=>Na 1 b λb e=>Ah c<|Aw (decide (0<(↑b:Int)))<|Bn .u64 (e.getD 0 .top) λb=>Bd [.agg [a,Ag b],(0:Int)]))) (Bd [.agg [(0:Int),Ag 0],(2:Int)]):=Φ
theorem Vz(Z:Nat)(Y:Ae):BA (CX B) u d 32 [Ap 1 Z Y] λF=>(λh:Option A8=>Aq (decide ((↑Z:Int)<2)) h (Aw (decide (0<(↑Z:Int)))<|Bn .u8 (Y.getD 0 .top) λa=>Aa (wrap .i64 a) λa=>Aw (decide (1<(↑Z:Int)))<|Bn .u8 (Y.getD 1 .top) λb=>Aa (wrap .i64 b) λb=>De (F 70 [b]) λc e=>Be c λc=>Ah e<|Aq c h (De (F 71 [a,b]) λc e=>Be c λc=>Ah e<|Aq c h (Aa (wrap .i64 (18+b)) λb=>Aa (wrap .i64 (8*b)) λb=>Aa (wrap .i64 (2+b)) λb=>Aq ((↑Z:Int) != b) h (Aw (decide (146<=Z))<|Aa (List.take 144 (Y.drop 2)) λb=>De (F 72 [Ap 1 144 b]) λb c=>Na 1 b λb e=>Ah c<|Aw (decide (146<=Z)&&decide (Z<=Z))<|Aa (Z-146) λc=>Aa (List.take (c*1) (Y.drop 146)) λf=>De (F 72 [Ap 1 c f]) λc f=>Na 1 c λc g=>Ah f<|Aw (decide (b*1<=e.length))<|Aw (decide (c*1<=g.length))<|Bd [.agg [a,.own 1 b (e.take (b*1)),.own 1 c (g.take (c*1))],(0:Int)]))))) (Bd [.agg [(0:Int),.own 1 0 [],.own 1 0 []],(2:Int)]):=Φ
def Hy(Z Y:Int)(X W:Int)(V:Nat)(U:Ae)(T:Nat)(S:Ae)(Q:Nat)(P:Int)(O:Nat)(N:Ae)(M L:Int)(K J I:Int)(H:Nat)(G:Ae)(E:Nat)(D:Ae):Option A8:=H6 u F 35 Tryz.f35 [.agg [Z,Ag Y],Ag X,.agg [W,Ap 1 V U,Ap 1 T S]] [.r,.r,.r,.r,.r,.l,.r,.l] Q ⟨lk [(3,.ptr 3 0),(5,.ptr 5 0),(7,Ag P),(46,Ap 1 O N),(47,M),(48,L)],Fe [(3,.st [K,Ag J]),(5,.st [I,Ap 1 H G,Ap 1 E D])]⟩
theorem R9(S Q:Int)(P O:Int)(N:Nat)(M:Ae)(L:Nat)(K:Ae)(J:Nat)(Y:Int)(X:Nat)(W:Ae)(V Z:Int)(I U T:Int)(H:Nat)(G:Ae)(E:Nat)(D:Ae):Hy u F S Q P O N M L K (J+1) Y X W V Z I U T H G E D=(Aq (decide (Z<V)) (Aw (decide (0<=Z)&&decide (Z<(↑X:Int)))<|Bn .u64 (W.getD (Z.toNat*1) .top) λa=>Aw (decide (0<=Z))<|Aa (Gs .i64 T Z) λb=>Aa (C5 .i64 b 1) λb=>Aq (b==0) (Aa (wrap .i64 (Z+1)) λb=>Gm .u64 (F 76 [b,Ag Y,Ag a]) λa=>Aa (wrap .i64 (Z+1)) λb=>Hy u F S Q P O N M L K J a X W V b I U T H G E D) (Aa (wrap .i64 (Z+1)) λb=>Gm .u64 (F 76 [b,Ag a,Ag Y]) λa=>Aa (wrap .i64 (Z+1)) λb=>Hy u F S Q P O N M L K J a X W V b I U T H G E D)) (Aq (Y != U) (Bd [(15:Int)]) (Bd [(0:Int)]))):=Κ
theorem OZ(Z T:Int)(S X:Int)(W:Nat)(V:Ae)(Y:Nat)(U:Ae):BA (CX B) u d 35 [.agg [Z,Ag T],Ag S,.agg [X,Ap 1 W V,Ap 1 Y U]] λF=>De (F 70 [Z]) λa b=>Be a λa=>Ah b<|Aq a (Bd [(9:Int)]) (De (F 71 [X,Z]) λa b=>Be a λa=>Ah b<|Aq a (Bd [(9:Int)]) (Aq ((↑W:Int) != 18) (Bd [(4:Int)]) (Aq ((↑Y:Int) != Z) (Bd [(4:Int)]) (De (F 75 [X,Ag S,Ap 1 W V]) λa b=>Bn .u64 a λa=>Br .i64 b λb=>Aq (b != 0) (Bd [b]) (Hy u F Z T S X W V Y U u a Y U (↑Y:Int) 0 Z T X W V Y U))))):=Φ
end
theorem A7u{a m:Int}(b:0<=m)(c:m<=18446744073709551615):0<=C5 .u64 a m/\C5 .u64 a m<=m:=by
 have IV:(BitVec.ofInt 64 a &&& BitVec.ofInt 64 m).toNat<=m.toNat:=by
  rw[BitVec.toNat_and];refine Nat.le_trans Nat.and_le_right ?_;rw[BitVec.toNat_ofInt];omega
 have:C5 .u64 a m=((BitVec.ofInt 64 a &&& BitVec.ofInt 64 m).toNat:Int):=by
  unfold C5;exact XA Ω (by show ((BitVec.ofInt 64 a &&& BitVec.ofInt 64 m).toNat:Int)<=_;omega)
 rw[this];omega
theorem ER(k:IntKind)(l:Ak)(i:Nat)(x:Int):(Af k l).set i (.sc (.int k x))=Af k (l.set i x):=by
 induction l generalizing i with
 |nil=>rfl
 |cons a l b=>
  cases i with
  |zero=>rfl
  |succ i=>
   show (PV.sc (.int k a)::Af k l).set (i+1) _=PV.sc (.int k a)::Af k (l.set i x);rw[List.set_cons_succ,b]
theorem Aya(w:Int)(k:Nat):0<=Gz w k/\Gz w k<=255:=by unfold Gz;simp only[wrap,IntKind.signed,IntKind.bits];simp;omega
theorem LI(w:Int):Ce (B5 w):=by intro x a;obtain⟨k,_,rfl⟩:=List.mem_map.1 a;exact Aya w k
theorem Y6(ws:Ak):Ce (A7 ws):=by intro x a;obtain⟨w,_,a⟩:=List.mem_flatMap.1 a;exact LI w x a
theorem Ff(ws:Ak):(A7 ws).length=8*ws.length:=by
 induction ws with
 |nil=>rfl
 |cons w ws a=>
  show (B5 w++A7 ws).length=_;rw[Vl,a,C3,Ox];omega
def H7(m:Int)(k:Nat):Int:=wrap .i64 (C5 .u64 (Gs .u64 m (60-4*(k:Int))) 15)
theorem Wd(m:Int)(k:Nat):0<=H7 m k/\H7 m k<=15:=by have:=A7u (a:=Gs .u64 m (60-4*(k:Int))) (m:=15) Ω Ω;unfold H7;rw[Bc];exact this
def Mv(m:Int):Nat->Int
 |0=>0
 |k+1=>Mv m k+(15-H7 m k)
theorem M4(m:Int):∀k,0<=Mv m k/\Mv m k<=15*k
 |0=>by simp[Mv]
 |k+1=>by
  have a:=M4 m k;have b:=Wd m k;simp only[Mv];omega
def dgs(m:Int):Ak:=(List.range 16).map (H7 m)++[Mv m 16 / 16,Mv m 16 % 16]
def dg(m:Int)(k:Nat):Int:=(dgs m).getD k 0
theorem Apg(m:Int):(dgs m).length=18:=rfl
theorem A29{m x:Int}(h:x∈dgs m):0<=x/\x<=15:=by
 have a:=M4 m 16;unfold dgs at h;rcases B2.1 h with h|h
 ·obtain⟨k,_,rfl⟩:=List.mem_map.1 h;exact Wd m k
 ·simp at h;rcases h with rfl|rfl<;>omega
theorem FX(m:Int)(k:Nat):0<=dg m k/\dg m k<=15:=by
 unfold dg;rw[List.getD_eq_getElem?_getD];cases h:(dgs m)[k]? with
 |none=>simp
 |some x=>exact A29 (List.mem_of_getElem? h)
def dl(m:Int)(i:Nat):Ak:=(List.range i).map (H7 m)++List.replicate (18-i) 0
theorem Alj(m:Int){i:Nat}(h:i<=18):(dl m i).length=18:=by simp[dl];omega
theorem Bbx(m:Int){i:Nat}(h:i<18):(dl m (i+1))[i]?=some (H7 m i):=by unfold dl;rw[List.getElem?_append_left Ψ];simp
theorem A8w(m:Int){i:Nat}(h:i<18):(dl m i).set i (H7 m i)=dl m (i+1):=by unfold dl;rw[List.set_append_right _ _ Ψ,List.length_map,List.length_range,Nat.sub_self,show 18-i=(18-(i+1))+1 by omega,List.replicate_succ,List.set_cons_zero,List.range_succ,List.map_append,Zzv];rfl
def Za(leaf chain:Int):Nat->Int->Int->Int
 |0,_,x=>x
 |k+1,p,x=>Za leaf chain k (p+1) (Fa 1 (A7 [wrap .u64 leaf,wrap .u64 chain,wrap .u64 p,x]))
theorem Ahm(leaf chain:Int):∀(k j:Nat)(p x:Int),Za leaf chain (k+j) p x=Za leaf chain j (p+k) (Za leaf chain k p x)
 |0,j,p,x=>by simp[Za]
 |k+1,j,p,x=>by
  rw[show k+1+j=(k+j)+1 by omega];simp only[Za];rw[Ahm leaf chain k j]
  congr 1
  omega
def RU(leaf:Int)(E:Ak):Int:=Fa 2 (A7 (wrap .u64 leaf::E))
def GW(leaf m:Int)(s:Ak)(k:Nat):Int:=Za leaf k (15-dg m k).toNat (dg m k) (s.getD k 0)
def VF(leaf m:Int)(s:Ak):Ak:=(List.range 18).map (GW leaf m s)
def Adp(leaf m:Int)(s:Ak):Int:=RU leaf (VF leaf m s)
def el(leaf m:Int)(s:Ak)(i:Nat):Ak:=(List.range i).map (GW leaf m s)++List.replicate (18-i) 0
theorem Avk(leaf m:Int)(s:Ak){i:Nat}(h:i<=18):(el leaf m s i).length=18:=by simp[el];omega
theorem A64(leaf m:Int)(s:Ak){i:Nat}(h:i<18):(el leaf m s i).set i (GW leaf m s i)=el leaf m s (i+1):=by unfold el;rw[List.set_append_right _ _ Ψ,List.length_map,List.length_range,Nat.sub_self,show 18-i=(18-(i+1))+1 by omega,List.replicate_succ,List.set_cons_zero,List.range_succ,List.map_append,Zzv];rfl
theorem A95(leaf m:Int)(s:Ak):el leaf m s 18=VF leaf m s:=by unfold el VF;simp
theorem Aee{a b:Ak}(d:Ce a)(e:Ce b):Ce (a++b):=by
 intro x c;rcases B2.1 c with c|c
 ·exact d x c
 ·exact e x c
section
variable {u d:Nat}{B:FuncId->Option (Ae->Option A8)}
theorem Ayz{ws:Ak}(a:ws.length<=100)(Bg:1000<=u)(dom:Int):Ac (CX B) prog u (d+5) 69 [A0 dom,.lst false 1 (A7 ws).length (Af .u8 (A7 ws))]=some ⟨[Ag (Fa dom (A7 ws))],[]⟩:=
 UA (Y6 ws) (by rw[Ff];omega) Ω (by rw[Ff];omega) dom
theorem Ag6{leaf chain:Int}{a0 a1 a2 a3 a4:Int}(Bg:1000<=u){t:Int}(ht:t<=15):∀(k nn:Nat)(p x:Int),(k:Int)=t-p->0<=p->k<nn ->
  Ol u (Ac (CX B) prog u (d+5)) a0 a1 a2 a3 a4 nn leaf chain x t p=some ⟨[Ag (Za leaf chain k p x)],[]⟩
 |_,0,_,_,_,_,h=>Ω
 |0,nn+1,p,x,e,hp,f=>by
  rw[Yv,Fd _ _ _ Ω];rfl
 |k+1,nn+1,p,x,e,hp,f=>by
  have w:wrap .i64 (p+1)=p+1:=Bc;have a:Ac (CX B) prog u (d+5) 74 [.lst false 1 4 [Ag (wrap .u64 leaf),Ag (wrap .u64 chain),Ag (wrap .u64 p),Ag x]]=_:=NL (ws:=[wrap .u64 leaf,wrap .u64 chain,wrap .u64 p,x]) Ψ Ω (by simp;omega)
  have b:=Ayz (B:=B) (u:=u) (d:=d) (ws:=[wrap .u64 leaf,wrap .u64 chain,wrap .u64 p,x]) Ψ Bg 1;have c:=Ag6 (leaf:=leaf) (chain:=chain) (a0:=a0) (a1:=a1) (a2:=a2) (a3:=a3) (a4:=a4) Bg ht k nn (p+1) (Fa 1 (A7 [wrap .u64 leaf,wrap .u64 chain,wrap .u64 p,x])) Ω Ω Ω;have L:=Am .u8 (A7 [wrap .u64 leaf,wrap .u64 chain,wrap .u64 p,x]);have eR:Za leaf chain (k+1) p x=Za leaf chain k (p+1) (Fa 1 (A7 [wrap .u64 leaf,wrap .u64 chain,wrap .u64 p,x])):=rfl;rw[eR];generalize A7 [wrap .u64 leaf,wrap .u64 chain,wrap .u64 p,x]=W at a b c L ⊢;rw[Yv];simp(disch:=omega)only[Av,Au,a,Jy,Ka,Nr,PH,L,b,w];exact c
theorem A5z{leaf chain:Int}(Bg:1000<=u)(k:Nat)(f t x:Int)(a:(k:Int)=t-f)(b:0<=f)(c:t<=15):Ac (CX B) prog u (d+6) 111 [A0 leaf,A0 chain,A0 f,A0 t,Ag x]=some ⟨[Ag (Za leaf chain k f x)],[]⟩:=by rw[Aae];simp only[Fv];rw[Bb Ω,Bb Ω];exact Ag6 Bg c k u f x a b Ω
theorem SB{F:Ao}{a0 m:Int}{y3:Ae}:∀(k i nn:Nat),i+k=16->k<nn ->
  Hu u F a0 nn m (Mv m i) i y3 (Af .i64 (dl m i))=Hu u F a0 (nn-k) m (Mv m 16) 16 y3 (Af .i64 (dl m 16))
 |_,_,0,_,h=>Ω
 |0,i,nn+1,hi,d=>by
  have e:i=16:=Ω
  subst e;rfl
 |k+1,i,nn+1,hi,d=>by
  have f:=SB (F:=F) (a0:=a0) (y3:=y3) (m:=m) k (i+1) nn Ω Ω;have l:=Wd m i;have n:=M4 m i;have w:wrap .i64 ((i:Int)+1)=((i+1:Nat):Int):=Bi
  have g:wrap .i64 (4*(i:Int))=4*(i:Int):=Bc;have a:wrap .i64 (60-4*(i:Int))=60-4*(i:Int):=Bc;have hd:wrap .i64 (C5 .u64 (Gs .u64 m (60-4*(i:Int))) 15)=H7 m i:=rfl;have b:wrap .i64 (15-H7 m i)=15-H7 m i:=Bc;have j:wrap .i64 (Mv m i+(15-H7 m i))=Mv m (i+1):=by rw[Bc];rfl
  have L:(Af .i64 (dl m i)).length=18:=by rw[Am,Alj m Ω]
  have Ai3:B1 (Af .i64 (dl m i)) [A0 (H7 m i)] i=Af .i64 (dl m (i+1)):=by
   rw[Mr Ω,ER,A8w m Ω]
  have c:(Af .i64 (dl m (i+1))).getD i .top=A0 (H7 m i):=Sr (Bbx m Ω);rw[show nn+1-(k+1)=nn-k by omega,<-f,Sc];simp(disch:=omega)only[Av,Au,H8,Jy,Ka,w,g,a,hd,L,Ai3,c,b,j]
theorem Asm(Bg:1000<=u)(m:Int):Ac (CX B) prog u (d+1) 110 [Ag m]=some ⟨[.agg (Af .i64 (dgs m))],[]⟩:=by
 rw[OR];have e:=SB (u:=u) (F:=Ac (CX B) prog u d) (a0:=m) (m:=m) (y3:=Af .i64 (List.replicate 18 0)) 16 0 u Ω Ω;obtain⟨f',a⟩:∃f',u-16=f'+1:=⟨u-17,Ω⟩
 rw[a] at e;refine Eq.trans e ?_;have p:=M4 m 16
 have f:wrap .i64 (Int.tdiv (Mv m 16) 16)=Mv m 16 / 16:=by
  rw[Int.tdiv_eq_ediv_of_nonneg Ω,Bc]
 have g:Int.tmod (Mv m 16) 16=Mv m 16 % 16:=Int.tmod_eq_emod_of_nonneg Ω;have L:(Af .i64 (dl m 16)).length=18:=by rw[Am,Alj m Ω]
 have h:B1 (Af .i64 (dl m 16)) [A0 (Mv m 16 / 16)] 16=Af .i64 ((dl m 16).set 16 (Mv m 16 / 16)):=by
  rw[Mr Ω,ER]
 have i:(Af .i64 ((dl m 16).set 16 (Mv m 16 / 16))).length=18:=by rw[Am,List.length_set,Alj m Ω]
 have j:B1 (Af .i64 ((dl m 16).set 16 (Mv m 16 / 16))) [A0 (Mv m 16 % 16)] 17=Af .i64 (dgs m):=by
  rw[Mr Ω,ER];rfl
 rw[Sc,Fd _ _ _ Ω];simp only[Fv,f,g,L,h,i,j];generalize k:Mv m 16 / 16=q at *
 generalize l:Mv m 16 % 16=r at *
 have n:Af .i64 (dgs m)=[A0 (H7 m 0),A0 (H7 m 1),A0 (H7 m 2),A0 (H7 m 3),A0 (H7 m 4),A0 (H7 m 5),A0 (H7 m 6),A0 (H7 m 7),A0 (H7 m 8),A0 (H7 m 9),A0 (H7 m 10),A0 (H7 m 11),A0 (H7 m 12),A0 (H7 m 13),A0 (H7 m 14),A0 (H7 m 15),A0 q,A0 r]:=by
  unfold dgs;rw[k,l];rfl
 rw[n];have Bbj:(Af .i64 (List.replicate 18 0)).length=18:=rfl
 have b:∀c:Ae,c.length=18->B1 (Af .i64 (List.replicate 18 0)) c 0=c:=by
  intro c o;unfold B1;rw[o,List.drop_of_length_le (by rw[Bbj];omega)]
  simp
 rw[HI (F7:=Ω)];simp only[Av,Au,List.getD_cons_zero,List.getD_cons_succ,Bbj];rw[b _ rfl];simp(disch:=omega)only[Av,Au,GK,List.getD_cons_zero,List.getD_cons_succ]
theorem Ak9(Bg:1000<=u)(leaf:Int){E:Ak}(w:E.length=18):Ac (CX B) prog u (d+6) 112 [A0 leaf,.agg (Af .u64 E)]=some ⟨[Ag (RU leaf E)],[]⟩:=by
 match E,w with
 |[j,k,l,m,n,o,p,q,r,s,a,b,c,e,f,g,h,i],_=>
  have t:Ac (CX B) prog u (d+5) 74 [.lst false 1 19 [Ag (wrap .u64 leaf),Ag j,Ag k,Ag l,Ag m,Ag n,Ag o,Ag p,Ag q,Ag r,Ag s,Ag a,Ag b,Ag c,Ag e,Ag f,Ag g,Ag h,Ag i]]=_:=NL (ws:=wrap .u64 leaf::[j,k,l,m,n,o,p,q,r,s,a,b,c,e,f,g,h,i]) Ψ Ω (by simp;omega)
  have v:=Ayz (B:=B) (u:=u) (d:=d) (ws:=wrap .u64 leaf::[j,k,l,m,n,o,p,q,r,s,a,b,c,e,f,g,h,i]) Ψ Bg 2;have L:=Am .u8 (A7 (wrap .u64 leaf::[j,k,l,m,n,o,p,q,r,s,a,b,c,e,f,g,h,i]));have eR:RU leaf [j,k,l,m,n,o,p,q,r,s,a,b,c,e,f,g,h,i]=Fa 2 (A7 (wrap .u64 leaf::[j,k,l,m,n,o,p,q,r,s,a,b,c,e,f,g,h,i])):=rfl;rw[eR];generalize A7 (wrap .u64 leaf::[j,k,l,m,n,o,p,q,r,s,a,b,c,e,f,g,h,i])=W at t v L ⊢;refine (MK u (d+5) leaf j k l m n o p q r s a b c e f g h i).trans ?_;simp(disch:=omega)only[Av,Au,t,Jy,Ka,Nr,PH,L,v]
theorem Bbc(g:Nat->Int){i:Nat}(hi:i<18):List.getD [PV.sc (.int .i64 (g 0)),PV.sc (.int .i64 (g 1)),PV.sc (.int .i64 (g 2)),PV.sc (.int .i64 (g 3)),PV.sc (.int .i64 (g 4)),PV.sc (.int .i64 (g 5)),PV.sc (.int .i64 (g 6)),PV.sc (.int .i64 (g 7)),PV.sc (.int .i64 (g 8)),PV.sc (.int .i64 (g 9)),PV.sc (.int .i64 (g 10)),PV.sc (.int .i64 (g 11)),PV.sc (.int .i64 (g 12)),PV.sc (.int .i64 (g 13)),PV.sc (.int .i64 (g 14)),PV.sc (.int .i64 (g 15)),PV.sc (.int .i64 (g 16)),PV.sc (.int .i64 (g 17))] i PV.top=A0 (g i):=by
 have:((List.range 18).map g)[i]?=some (g i):=by simp[hi]
 exact Sr (k:=.i64) this
theorem KM{a0 a1:Int}{a2n:Nat}{a2:Ae}{leaf m:Int}{s:Ak}(j:s.length=18)(Bg:1000<=u)(g:Nat->Int)(a:∀k,g k=dg m k):∀(k i nn:Nat),i+k=18->k<nn ->
  F0 u (Ac (CX B) prog u (d+6)) a0 a1 a2n a2 nn leaf s.length (Af .u64 s) (g 0) (g 1) (g 2) (g 3) (g 4) (g 5) (g 6) (g 7) (g 8) (g 9) (g 10) (g 11) (g 12) (g 13) (g 14) (g 15) (g 16) (g 17) i (Af .u64 (el leaf m s i)) =
   F0 u (Ac (CX B) prog u (d+6)) a0 a1 a2n a2 (nn-k) leaf s.length (Af .u64 s) (g 0) (g 1) (g 2) (g 3) (g 4) (g 5) (g 6) (g 7) (g 8) (g 9) (g 10) (g 11) (g 12) (g 13) (g 14) (g 15) (g 16) (g 17) 18 (Af .u64 (el leaf m s 18))
 |_,_,0,_,h=>Ω
 |0,i,nn+1,hi,l=>by
  have e:i=18:=Ω
  subst e;rfl
 |k+1,i,nn+1,hi,l=>by
  have n:=KM (a0:=a0) (a1:=a1) (a2n:=a2n) (a2:=a2) (leaf:=leaf) (m:=m) j Bg g a k (i+1) nn Ω Ω;obtain⟨x,c⟩:∃x,s[i]?=some x:=⟨_,List.getElem?_eq_getElem Ω⟩
  have p:=FX m i;have b:=Bbc g (i:=i) Ω;have w:wrap .i64 ((i:Int)+1)=((i+1:Nat):Int):=Bi
  have f:=A5z (B:=B) (u:=u) (d:=d) (leaf:=leaf) (chain:=i) Bg (15-dg m i).toNat (g i) 15 x (by rw[a];omega) (by rw[a];omega) Ω
  have o:Za leaf i (15-dg m i).toNat (g i) x=GW leaf m s i:=by
   unfold GW;rw[List.getD_eq_getElem?_getD,c,a];rfl
  rw[o] at f;have L:(Af .u64 (el leaf m s i)).length=18:=by rw[Am,Avk leaf m s Ω]
  have Ai3:B1 (Af .u64 (el leaf m s i)) [Ag (GW leaf m s i)] i=Af .u64 (el leaf m s (i+1)):=by
   rw[Mr Ω,ER,A64 leaf m s Ω]
  rw[show nn+1-(k+1)=nn-k by omega,<-n,Rg];simp(disch:=omega)only[Av,Au,H8,Jy,Ka,b,Sr c,f,L,Ai3,w]
theorem Ajv(Bg:1000<=u){a0 a1 leaf:Int}{a2n n nn:Nat}{a2 c:Ae}{g:Nat->Int}{E:Ak}(l:E.length=18):
  F0 u (Ac (CX B) prog u (d+6)) a0 a1 a2n a2 (nn+1) leaf n c (g 0) (g 1) (g 2) (g 3) (g 4) (g 5) (g 6) (g 7) (g 8) (g 9) (g 10) (g 11) (g 12) (g 13) (g 14) (g 15) (g 16) (g 17) 18 (Af .u64 E)=some ⟨[Ag (RU leaf E),A0 0],[]⟩:=by
 match E,l with
 |[m,o,p,q,r,s,t,v,w,x,a,b,e,f,h,i,j,k],l=>
  have y:=Ak9 (B:=B) (u:=u) (d:=d) Bg leaf l;have z:Af .u64 [m,o,p,q,r,s,t,v,w,x,a,b,e,f,h,i,j,k]=[Ag m,Ag o,Ag p,Ag q,Ag r,Ag s,Ag t,Ag v,Ag w,Ag x,Ag a,Ag b,Ag e,Ag f,Ag h,Ag i,Ag j,Ag k]:=rfl;rw[z] at y ⊢;generalize RU leaf [m,o,p,q,r,s,t,v,w,x,a,b,e,f,h,i,j,k]=R at y ⊢;rw[Rg,Fd _ _ _ Ω];simp(disch:=omega)only[Av,Au,CW,CV,List.getD_cons_zero,List.getD_cons_succ,y]
theorem Ak7(Bg:1000<=u)(leaf m:Int)(s:Ak):Ac (CX B) prog u (d+7) 75 [A0 leaf,Ag m,.lst false 1 s.length (Af .u64 s)]=some ⟨(if s.length=18 then [Ag (Adp leaf m s),A0 0] else [Ag 0,A0 4]),[]⟩:=by
 rw[LQ];by_cases h:s.length=18
 ·have b:=Asm (B:=B) (u:=u) (d:=d+5) Bg m;have e:Af .i64 (dgs m)=[A0 (dg m 0),A0 (dg m 1),A0 (dg m 2),A0 (dg m 3),A0 (dg m 4),A0 (dg m 5),A0 (dg m 6),A0 (dg m 7),A0 (dg m 8),A0 (dg m 9),A0 (dg m 10),A0 (dg m 11),A0 (dg m 12),A0 (dg m 13),A0 (dg m 14),A0 (dg m 15),A0 (dg m 16),A0 (dg m 17)]:=rfl;rw[e] at b;simp only[D8];rw[Bq h,Bq Ω];simp only[Av,Au,b];have c:=KM (B:=B) (u:=u) (d:=d) (a0:=leaf) (a1:=m) (a2n:=s.length) (a2:=Af .u64 s) (leaf:=leaf) (m:=m) h Bg (dg m) (λ_=>rfl) 18 0 u Ω Ω;obtain⟨f',a⟩:∃f',u-18=f'+1:=⟨u-19,Ω⟩
  rw[a] at c;refine Eq.trans c ?_;have eE:el leaf m s 18=VF leaf m s:=A95 leaf m s;have f:(VF leaf m s).length=18:=by rw[<-eE,Avk leaf m s Ω]
  have eR:Adp leaf m s=RU leaf (VF leaf m s):=rfl;rw[eE,eR];exact Ajv Bg f
 ·simp only[D8];rw[Bb h,Bb Ω]
end
structure Ky where
 h:Int
 root:Int
structure Sg where
 leaf:Int
 chains:Ak
 path:Ak
def Ky.cells(k:Ky):Ae:=[A0 k.h,Ag k.root]
def Sg.cells(s:Sg):Ae:=[A0 s.leaf,.lst false 1 s.chains.length (Af .u64 s.chains),.lst false 1 s.path.length (Af .u64 s.path)]
def Er(h:Int):Bool:=decide (h<0)||decide (h>4)
def Jc(leaf h:Int):Bool:=decide (leaf<0)||decide (leaf>=Dx .i64 1 h)
def Td(level a b:Int):Int:=Fa 3 (A7 [wrap .u64 level,a,b])
def EK(leaf:Int):Nat->Int->Ak->Int
 |_,x,[]=>x
 |i,x,s::r=>EK leaf (i+1) (if C5 .i64 (Gs .i64 leaf i) 1=0 then Td ((i+1:Nat):Int) x s else Td ((i+1:Nat):Int) s x) r
def okE(x root:Int):Int:=if x=root then 0 else 15
theorem ZB(leaf:Int)(i:Nat)(x:Int):EK leaf i x []=x:=rfl
theorem FG(leaf:Int)(i:Nat)(x s:Int)(r:Ak):EK leaf i x (s::r)=EK leaf (i+1) (if C5 .i64 (Gs .i64 leaf i) 1=0 then Td ((i+1:Nat):Int) x s else Td ((i+1:Nat):Int) s x) r:=rfl
def TM(k:Ky)(m:Int)(s:Sg):Int:=
 if Er k.h=true then 9 else if Jc s.leaf k.h=true then 9 else if s.chains.length≠18 then 4 else if (s.path.length:Int)≠k.h then 4 else
 okE (EK s.leaf 0 (Adp s.leaf m s.chains) s.path) k.root
theorem Qc{h:Int}(a:Er h=false):0<=h/\h<=4:=by unfold Er at a;simp at a;omega
section
variable {u d:Nat}{B:FuncId->Option (Ae->Option A8)}
theorem UF(h:Int):Ac (CX B) prog u (d+1) 70 [A0 h]=some ⟨[Cn (Er h)],[]⟩:=by
 rw[WX];unfold Er;by_cases a:h<0
 ·simp only[Av,Au,IK,a,decide_true,Bool.true_or,if_true]
 ·simp only[Av,Au,IK,a,decide_false,Bool.false_or,if_false]
theorem VZ(leaf h:Int)(b:0<=h):Ac (CX B) prog u (d+1) 71 [A0 leaf,A0 h]=some ⟨[Cn (Jc leaf h)],[]⟩:=by
 rw[NE];unfold Jc;by_cases a:leaf<0
 ·simp only[Av,Au,IK,a,decide_true,Bool.true_or,if_true]
 ·simp(disch:=omega)only[Av,Au,IK,a,decide_false,Bool.false_or,if_false]
theorem Ac8(Bg:1000<=u)(level a b:Int):Ac (CX B) prog u (d+6) 76 [A0 level,Ag a,Ag b]=some ⟨[Ag (Td level a b)],[]⟩:=by
 have c:Ac (CX B) prog u (d+5) 74 [.lst false 1 3 [Ag (wrap .u64 level),Ag a,Ag b]]=_:=NL (ws:=[wrap .u64 level,a,b]) Ψ Ω (by simp;omega)
 have e:=Ayz (B:=B) (u:=u) (d:=d) (ws:=[wrap .u64 level,a,b]) Ψ Bg 3;have L:=Am .u8 (A7 [wrap .u64 level,a,b]);rw[OP];unfold Td;generalize A7 [wrap .u64 level,a,b]=W at c e L ⊢;simp(disch:=omega)only[Av,Au,c,Jy,Ka,Nr,PH,L,e]
theorem QU{a0 a1 a2 a3:Int}{n1 n2 n3 n4:Nat}{c1 c2 c3 c4:Ae}{y5 root leaf:Int}{path:Ak}(hp:path.length<=100)(Bg:1000<=u):∀(r:Ak)(i nn:Nat)(x:Int),path.drop i=r->r.length<nn->i<=path.length ->
  Hy u (Ac (CX B) prog u (d+6)) a0 a1 a2 a3 n1 c1 n2 c2 nn x path.length (Af .u64 path) path.length i y5 root leaf n3 c3 n4 c4=some ⟨[A0 (okE (EK leaf i x r) root)],[]⟩
 |_,_,0,_,_,h,_=>Ω
 |[],i,nn+1,x,h,b,hi=>by
  have:=drop_nil h;rw[R9,Fd _ _ _ Ω,D8];rw[ZB];unfold okE;by_cases e:x=root
  ·rw[Bq e,Bq e]
  ·rw[Bb e,Bb e]
 |s::r,i,nn+1,x,h,b,hi=>by
  obtain⟨l,c,g⟩:=Cl h;simp only[Ox] at b;have w:wrap .i64 ((i:Int)+1)=((i+1:Nat):Int):=Bi
  have f:=λx=>QU (a0:=a0) (a1:=a1) (a2:=a2) (a3:=a3) (n1:=n1) (n2:=n2) (n3:=n3) (n4:=n4) (c1:=c1) (c2:=c2) (c3:=c3) (c4:=c4) (y5:=y5) (root:=root) (leaf:=leaf) hp Bg r (i+1) nn x g Ω Ω;have j:=Ac8 (B:=B) (u:=u) (d:=d) Bg ((i+1:Nat):Int) x s;have k:=Ac8 (B:=B) (u:=u) (d:=d) Bg ((i+1:Nat):Int) s x;rw[R9,FG];by_cases a:C5 .i64 (Gs .i64 leaf i) 1=0
  ·rw[Bq a,<-f];simp(disch:=omega)only[Av,Au,H8,Jy,Sr c,Hx,a,w,j,if_true]
  ·rw[Bb a,<-f];simp(disch:=omega)only[Av,Au,H8,Jy,Sr c,Hx,a,w,k,if_false]
theorem Ar4(Bg:1000<=u)(k:Ky)(m:Int)(s:Sg):Ac (CX B) prog u (d+8) 35 [.agg k.cells,Ag m,.agg s.cells]=some ⟨[A0 (TM k m s)],[]⟩:=by
 refine (OZ u (d+7) k.h k.root m s.leaf s.chains.length (Af .u64 s.chains) s.path.length (Af .u64 s.path)).trans ?_;have a:=UF (B:=B) (u:=u) (d:=d+6) k.h;unfold TM;cases c1:Er k.h
 ·rw[c1] at a;have g:=Qc c1;have b:=VZ (B:=B) (u:=u) (d:=d+6) s.leaf k.h g.1;cases c2:Jc s.leaf k.h
  ·rw[c2] at b;by_cases e:s.chains.length=18
   ·by_cases c:(s.path.length:Int)=k.h
    ·have f:=Ak7 (B:=B) (u:=u) (d:=d) Bg s.leaf m s.chains;rw[Bq e] at f;have h:=QU (B:=B) (u:=u) (d:=d+1) (a0:=k.h) (a1:=k.root) (a2:=m) (a3:=s.leaf) (n1:=s.chains.length) (n2:=s.path.length) (n3:=s.chains.length) (n4:=s.path.length) (c1:=Af .u64 s.chains) (c2:=Af .u64 s.path) (c3:=Af .u64 s.chains) (c4:=Af .u64 s.path) (y5:=k.h) (root:=k.root) (leaf:=s.leaf) (path:=s.path) Ω Bg s.path 0 u (Adp s.leaf m s.chains) rfl Ω Ω;rw[Bb Ψ,Bb Ψ,Bb Ω,Bb Ω,<-h];simp(disch:=omega)only[Av,Au,a,b,D8,f,if_true,c];rw[Bq Ω];rfl
    ·rw[Bb Ψ,Bb Ψ,Bb Ω,Bq c];simp(disch:=omega)only[Av,Au,a,b,D8,c,if_false];rw[Bq Ω]
   ·rw[Bb Ψ,Bb Ψ,Bq e];simp(disch:=omega)only[Av,Au,a,b,D8];rw[Bb Ω]
  ·rw[c2] at b;rw[Bb Ψ,Bq rfl];simp(disch:=omega)only[Av,Au,a,b]
 ·rw[c1] at a;rw[Bq rfl];simp(disch:=omega)only[Av,Au,a]
def A0p(k:Ky):Ak:=wrap .u8 k.h::B5 k.root
def sgB(s:Sg):Ak:=wrap .u8 s.leaf::wrap .u8 s.path.length::(A7 s.chains++A7 s.path)
theorem owd(Bg:1000<=u)(w:Int):Ac (CX B) prog u (d+1) 74 [.lst false 1 1 [Ag w]]=some ⟨[.own 1 8 (Af .u8 (B5 w))],[]⟩:=by
 have:=NL (B:=B) (u:=u) (d:=d) (ws:=[w]) Ψ Ω (by simp;omega)
 simp only[A7,L6,List.flatMap_nil,List.append_nil,Ox,SS,C3] at this;exact this
theorem Asw(Bg:1000<=u)(k:Ky):Ac (CX B) prog u (d+2) 107 [.agg k.cells]=some ⟨(if Er k.h=true then [.own 1 0 [],A0 9] else [.own 1 9 (Af .u8 (A0p k)),A0 0]),[]⟩:=by
 refine (HD u (d+1) k.h k.root).trans ?_;have a:=UF (B:=B) (u:=u) (d:=d) k.h;have b:=owd (B:=B) (u:=u) (d:=d) Bg k.root;have L:=Am .u8 (B5 k.root);rw[C3] at L;have c:List.take 8 (Af .u8 (B5 k.root))=Af .u8 (B5 k.root):=Jo Ω
 have e:List.take 9 ([PV.sc (.int .u8 (wrap .u8 k.h))]++Af .u8 (B5 k.root))=Af .u8 (A0p k):=by
  rw[Jo (by rw[Vl,L];simp)]
  rfl
 have f:([PV.sc (.int .u8 (wrap .u8 k.h))]++Af .u8 (B5 k.root)).length=9:=by rw[Vl,L];rfl
 cases c1:Er k.h
 ·rw[c1] at a;rw[Bb Ψ];simp(disch:=omega)only[Av,Au,a,b,Jy,Ka,Nr,L,c,Nat.reduceAdd,f,e]
 ·rw[c1] at a;rw[Bq rfl];simp(disch:=omega)only[Av,Au,a]
def Ms(l:Ak)(i:Nat):Int:=ZZ ((l.drop (8*i)).take 8)
def Gc(l:Ak):Ak:=(List.range (l.length / 8)).map (Ms l)
def wl(l:Ak)(i:Nat):Ak:=(List.range i).map (Ms l)++List.replicate (l.length / 8-i) 0
theorem Axn(l:Ak){i:Nat}(h:i<=l.length / 8):(wl l i).length=l.length / 8:=by simp[wl];omega
theorem A6t(l:Ak){i:Nat}(h:i<l.length / 8):(wl l i).set i (Ms l i)=wl l (i+1):=by unfold wl;rw[List.set_append_right _ _ Ψ,List.length_map,List.length_range,Nat.sub_self,show l.length / 8-i=(l.length / 8-(i+1))+1 by omega,List.replicate_succ,List.set_cons_zero,List.range_succ,List.map_append,Zzv];rfl
theorem A1p(l:Ak){i:Nat}(h:i<l.length / 8):(wl l i).set i 0=wl l i:=by unfold wl;rw[List.set_append_right _ _ Ψ,List.length_map,List.length_range,Nat.sub_self,show l.length / 8-i=(l.length / 8-(i+1))+1 by omega,List.replicate_succ,List.set_cons_zero]
theorem Adi{n m0:Nat}{c:Ae}{l:Ak}(f:l.length<=1000000){i:Nat}(hi:i<l.length / 8){q:Ak}(g:q.length<=8):∀(r:Ak)(j nn:Nat)(x:Int),q.drop j=r->r.length<nn->j<=q.length ->
  K5 u (Ac (CX B) prog u d) n c m0 nn l.length (Af .u8 l) (l.length / 8) i ((l.length / 8:Nat):Int) i q.length (Af .u8 q) q.length j (Af .u64 ((wl l i).set i x)) =
   Ij u (Ac (CX B) prog u d) n c m0 l.length (Af .u8 l) (l.length / 8) ((l.length / 8:Nat):Int) ((i+1:Nat):Int) (Af .u64 ((wl l i).set i (r.foldl Mg x)))
 |_,_,0,_,_,h,_=>Ω
 |[],j,nn+1,x,h,e,k=>by
  have:=drop_nil h;have w:wrap .i64 ((i:Int)+1)=((i+1:Nat):Int):=Bi
  rw[Ug,Fd _ _ _ Ω];simp only[Fv,w,List.foldl_nil]
 |b::r,j,nn+1,x,h,e,k=>by
  obtain⟨s,m,o⟩:=Cl h;simp only[Ox] at e;have w:wrap .i64 ((j:Int)+1)=((j+1:Nat):Int):=Bi
  have L:(Af .u64 ((wl l i).set i x)).length=l.length / 8:=by rw[Am,List.length_set,Axn l Ω]
  have a:(Af .u64 ((wl l i).set i x)).getD i .top=Ag x:=Sr (by rw[List.getElem?_set_self (by rw[Axn l Ω];omega)])
  have Ai3:B1 (Af .u64 ((wl l i).set i x)) [Ag (Mg x b)] i=Af .u64 ((wl l i).set i (Mg x b)):=by
   rw[Mr Ω,ER,List.set_set]
  have p:=Adi (n:=n) (m0:=m0) (c:=c) f hi g r (j+1) nn (Mg x b) o Ω Ω;rw[List.foldl_cons,<-p,Ug];simp(disch:=omega)only[Av,Au,H8,Jy,Ka,Sr m,a,L,w];exact congrArg _ Ai3
theorem SG{n:Nat}{c:Ae}{l:Ak}(f:l.length<=1000000)(Bg:100<=u):∀(k i nn:Nat),i+k=l.length / 8->k<nn ->
  Ij u (Ac (CX B) prog u d) n c nn l.length (Af .u8 l) (l.length / 8) ((l.length / 8:Nat):Int) i (Af .u64 (wl l i))=some ⟨[.own 1 (l.length / 8) (Af .u64 (Gc l))],[]⟩
 |_,_,0,_,h=>Ω
 |0,i,nn+1,hi,g=>by
  have e:i=l.length / 8:=Ω
  subst e;have j:wl l (l.length / 8)=Gc l:=by unfold wl Gc;simp
  have L:(Af .u64 (Gc l)).length=l.length / 8:=by rw[Am];simp[Gc]
  have m:List.take (l.length / 8) (Af .u64 (Gc l))=Af .u64 (Gc l):=Jo Ω;rw[Va,Fd _ _ _ Ω,j];simp(disch:=omega)only[Av,Au,Jy,L,m]
 |k+1,i,nn+1,hi,g=>by
  have o:=SG (n:=n) (c:=c) f Bg k (i+1) nn Ω Ω;have p:wrap .i64 (8*(i:Int))=((8*i:Nat):Int):=Bi
  have a:wrap .i64 (((8*i:Nat):Int)+8)=((8*i+8:Nat):Int):=Bi
  have r:8*i+8-8*i=8:=Ω
  have b:((l.drop (8*i)).take 8).length=8:=by rw[List.length_take,List.length_drop];omega
  have st:=Adi (B:=B) (u:=u) (d:=d) (n:=n) (m0:=nn) (c:=c) f (i:=i) Ω (q:=(l.drop (8*i)).take 8) Ω ((l.drop (8*i)).take 8) 0 u 0 rfl Ω Ω;rw[A1p l Ω,b] at st;have s:((l.drop (8*i)).take 8).foldl Mg 0=Ms l i:=rfl;rw[s,A6t l Ω,o] at st;rw[Va];simp(disch:=omega)only[Av,Au,H8,Jy,p,a,r,Gj,Fj];exact st
theorem Ay6(n:Nat):Vu n [Ag 0]=Af .u64 (List.replicate n 0):=by
 induction n with
 |zero=>rfl
 |succ n a=>
  show ([PV.sc (.int .u64 0)]::List.replicate n [PV.sc (.int .u64 0)]).flatten=_;rw[List.flatten_cons,List.replicate_succ];show _++Vu n [Ag 0]=PV.sc (.int .u64 0)::Af .u64 (List.replicate n 0);rw[a];rfl
theorem QP{l:Ak}(b:l.length<=1000000)(Bg:100<=u)(f:l.length<u):Ac (CX B) prog u (d+1) 72 [.lst false 1 l.length (Af .u8 l)]=some ⟨[.own 1 (l.length / 8) (Af .u64 (Gc l))],[]⟩:=by
 rw[SV]
 have w:wrap .i64 (Int.tdiv (l.length:Int) 8)=((l.length / 8:Nat):Int):=by
  rw[Int.tdiv_eq_ediv_of_nonneg Ω,Bc];omega
 have a:=SG (B:=B) (u:=u) (d:=d) (n:=l.length) (c:=Af .u8 l) b Bg (l.length / 8) 0 u Ω Ω;have e:wl l 0=List.replicate (l.length / 8) 0:=by unfold wl;simp
 rw[e] at a;simp(disch:=omega)only[Av,Au,w,H8,Ay6,Int.le_refl];exact a
def Aah(l:Ak):Option Ky:=if l.length=9/\Er (l.getD 0 0)=false then some ⟨l.getD 0 0,Ms (l.drop 1) 0⟩ else none
def QK(o:Option Ky):Ae:=match o with|some k=>[.agg k.cells,A0 0]|none=>[.agg (Ky.mk 0 0).cells,A0 2]
theorem Ase(Bg:1000<=u){l:Ak}(i:Ce l):Ac (CX B) prog u (d+2) 66 [.lst false 1 l.length (Af .u8 l)]=some ⟨QK (Aah l),[]⟩:=by
 refine (HA u (d+1) l.length (Af .u8 l)).trans ?_;unfold Aah;by_cases b:l.length=9
 ·obtain⟨x,c⟩:∃x,l[0]?=some x:=⟨_,List.getElem?_eq_getElem Ω⟩
  have j:=i x (List.mem_of_getElem? c);have g:wrap .i64 x=x:=Bc;have k:l.getD 0 0=x:=by rw[List.getD_eq_getElem?_getD,c];rfl
  have e:=UF (B:=B) (u:=u) (d:=d) x;rw[k];cases c1:Er x
  ·rw[c1] at e;have a:(l.drop 1).length=8:=by rw[List.length_drop];omega
   have h:=QP (B:=B) (u:=u) (d:=d) (l:=l.drop 1) Ω Ω Ω;rw[a] at h;have f:(Af .u64 (Gc (l.drop 1))).getD 0 .top=Ag (Ms (l.drop 1) 0):=Sr (by unfold Gc;rw[a];rfl)
   have m:9-1=8:=rfl;have n:List.take 8 (Af .u8 (l.drop 1))=Af .u8 (l.drop 1):=Jo (by rw[Am];omega)
   rw[Bq ⟨b,rfl⟩,b];simp(disch:=omega)only[Av,Au,D8,Sr c,g,e,Jy,Gj,m,n,h,f];rfl
  ·rw[c1] at e;rw[Bb Ψ,b];simp(disch:=omega)only[Av,Au,D8,Sr c,g,e];rfl
 ·rw[Bb (by simp[b])];simp(disch:=omega)only[D8];rw[Bb Ω];rfl
def sgD(l:Ak):Option Sg:=
 if 2<=l.length/\Er (l.getD 1 0)=false/\Jc (l.getD 0 0) (l.getD 1 0)=false/\(l.length:Int)=2+8*(18+l.getD 1 0) then some ⟨l.getD 0 0,Gc ((l.drop 2).take 144),Gc (l.drop 146)⟩ else none
def Sg.owned(s:Sg):Ae:=[A0 s.leaf,.own 1 s.chains.length (Af .u64 s.chains),.own 1 s.path.length (Af .u64 s.path)]
def WS(o:Option Sg):Ae:=match o with|some s=>[.agg s.owned,A0 0]|none=>[.agg (Sg.mk 0 [] []).owned,A0 2]
theorem KC(l:Ak):(Gc l).length=l.length / 8:=by simp[Gc]
theorem Ar1(Bg:1000<=u){l:Ak}(k:Ce l):Ac (CX B) prog u (d+2) 32 [.lst false 1 l.length (Af .u8 l)]=some ⟨WS (sgD l),[]⟩:=by
 refine (Vz u (d+1) l.length (Af .u8 l)).trans ?_;unfold sgD;by_cases m:2<=l.length
 ·obtain⟨x,a⟩:∃x,l[0]?=some x:=⟨_,List.getElem?_eq_getElem Ω⟩
  obtain⟨y,b⟩:∃y,l[1]?=some y:=⟨_,List.getElem?_eq_getElem Ω⟩
  have s:=k x (List.mem_of_getElem? a);have t:=k y (List.mem_of_getElem? b);have f:wrap .i64 x=x:=Bc;have g:wrap .i64 y=y:=Bc;have v:l.getD 0 0=x:=by rw[List.getD_eq_getElem?_getD,a];rfl
  have w:l.getD 1 0=y:=by rw[List.getD_eq_getElem?_getD,b];rfl
  have c:=UF (B:=B) (u:=u) (d:=d) y;have e:=VZ (B:=B) (u:=u) (d:=d) x y Ω;have n:wrap .i64 (18+y)=18+y:=Bc;have o:wrap .i64 (8*(18+y))=8*(18+y):=Bc;have p:wrap .i64 (2+8*(18+y))=2+8*(18+y):=Bc;rw[v,w];cases c1:Er y
  ·rw[c1] at c;cases c2:Jc x y
   ·rw[c2] at e;by_cases h:(l.length:Int)=2+8*(18+y)
    ·have z:=Qc c1;have q:=QP (B:=B) (u:=u) (d:=d) (l:=(l.drop 2).take 144) (by rw[List.length_take,List.length_drop];omega) Ω (by rw[List.length_take,List.length_drop];omega)
     have r:=QP (B:=B) (u:=u) (d:=d) (l:=l.drop 146) (by rw[List.length_drop];omega) Ω (by rw[List.length_drop];omega)
     have i:((l.drop 2).take 144).length=144:=by rw[List.length_take,List.length_drop];omega
     have j:(l.drop 146).length=l.length-146:=List.length_drop;rw[i] at q;have A:(Af .u64 (Gc ((l.drop 2).take 144))).length=18:=by rw[Am,KC,i]
     have C:(Af .u64 (Gc (l.drop 146))).length=(l.length-146) / 8:=by rw[Am,KC,j]
     rw[j] at r;have D:List.take (144 / 8) (Af .u64 (Gc ((l.drop 2).take 144)))=Af .u64 (Gc ((l.drop 2).take 144)):=Jo Ω;have E:List.take ((l.length-146) / 8) (Af .u64 (Gc (l.drop 146)))=Af .u64 (Gc (l.drop 146)):=Jo Ω;have G:List.take (l.length-146) (l.drop 146)=l.drop 146:=Jo Ω;rw[Bq ⟨m,rfl,rfl,h⟩];simp(disch:=omega)only[Av,Au,D8,Sr a,Sr b,f,g,c,e,n,o,p,Jy,Gj,Fj,q,r,G,A,C,D,E];rw[Bq h];simp only[WS,Sg.owned,KC,i,j]
    ·rw[Bb (by simp[h])];simp(disch:=omega)only[Av,Au,D8,Sr a,Sr b,f,g,c,e,n,o,p];rw[Bb h];rfl
   ·rw[c2] at e;rw[Bb Ψ];simp(disch:=omega)only[Av,Au,D8,Sr a,Sr b,f,g,c,e];rfl
  ·rw[c1] at c;rw[Bb Ψ];simp(disch:=omega)only[Av,Au,D8,Sr a,Sr b,f,g,c];rfl
 ·rw[Bb (by simp[m])];simp(disch:=omega)only[Av,Au];rfl
end
def Amk(seed leaf chain:Int):Int:=A1n seed 1 (A7 [wrap .u64 leaf,wrap .u64 chain])
def Adm(seed leaf:Int)(c:Nat):Int:=Za leaf c 15 0 (Amk seed leaf c)
def PD(seed leaf:Int):Int:=RU leaf ((List.range 18).map (Adm seed leaf))
def Ae2(seed leaf m:Int)(c:Nat):Int:=Za leaf c (dg m c).toNat 0 (Amk seed leaf c)
def GU(seed leaf m:Int):Ak:=(List.range 18).map (Ae2 seed leaf m)
def L8(seed:Int):Nat->Int->Int
 |0,i=>PD seed i
 |l+1,i=>Td ((l+1:Nat):Int) (L8 seed l (2*i)) (L8 seed l (2*i+1))
def Yp(seed:Int)(h:Int):Ky:=if Er h=true then ⟨0,0⟩ else ⟨h,L8 seed h.toNat 0⟩
def CE(leaf:Int)(k:Nat):Int:=E4 .i64 (Gs .i64 leaf k) 1
def Anm(seed:Int)(h leaf m:Int):Option Sg:=if Er h=true then none else if Jc leaf h=true then none else some ⟨leaf,GU seed leaf m,(List.range h.toNat).map λk=>L8 seed k (CE leaf k)⟩
def Adr(o:Option Sg):Ae:=match o with|some s=>[.agg s.owned,A0 0]|none=>[.agg (Sg.mk 0 [] []).owned,A0 9]
section
variable {u d:Nat}{B:FuncId->Option (Ae->Option A8)}
def pl(g:Nat->Int)(i:Nat):Ak:=(List.range i).map g++List.replicate (18-i) 0
end
def Ci(s:ByteArray):Ak:=s.data.toList.map λb=>(b.toNat:Int)
def Ab(l:Ak):ByteArray:=⟨(l.map λn=>n.toNat.toUInt8).toArray⟩
theorem Cb(s:ByteArray):(Ci s).length=s.size:=by unfold Ci;rw[List.length_map];rfl
theorem AM(s:ByteArray):Ce (Ci s):=by intro x a;obtain⟨b,_,rfl⟩:=List.mem_map.1 a;have:=b.toNat_lt;omega
theorem I1(s:ByteArray):D1 s=Af .u8 (Ci s):=by
 unfold D1 Ci
 induction s.data.toList with
 |nil=>rfl
 |cons b l a=>rw[CZ,CZ,a];rfl
theorem Ai(l:Ak):(Ab l).size=l.length:=by show (l.map λn=>n.toNat.toUInt8).toArray.size=_;simp
theorem Ct{l:Ak}(h:Ce l):Ci (Ab l)=l:=by
 unfold Ci Ab;simp only[List.map_map]
 have:∀l:Ak,Ce l->List.map ((λb:UInt8=>(b.toNat:Int)) ∘ λn:Int=>n.toNat.toUInt8) l=l:=by
  intro l
  induction l with
  |nil=>intro _;rfl
  |cons x l a=>
   intro h;have d:=h x Ψ;rw[CZ,a λy c=>h y (by simp[c])]
   congr 1
   show ((x.toNat.toUInt8.toNat:Nat):Int)=x;rw[Nat.toUInt8,UInt8.toNat_ofNat'];omega
 exact this l h
theorem Hw(s:ByteArray):Ab (Ci s)=s:=by
 unfold Ab Ci;simp only[List.map_map]
 have:∀l:List UInt8,List.map ((λn:Int=>n.toNat.toUInt8) ∘ λb:UInt8=>(b.toNat:Int)) l=l:=by
  intro l
  induction l with
  |nil=>rfl
  |cons x l a=>
   rw[CZ,a]
   congr 1
   show ((x.toNat:Int).toNat).toUInt8=x;rw[H8];simp
 rw[this]
theorem I3:∀l:Ak,H9 (Af .u8 l)=some (l.map λn=>n.toNat.toUInt8)
 |[]=>rfl
 |x::l=>by
  show (H9 (Af .u8 l)).map (x.toNat.toUInt8 :: ·)=_;rw[I3 l];rfl
def J9(v:Int):Int:=if v<26 then 65+v else if v<52 then 71+v else if v<62 then v-4 else if v<63 then 45 else 95
def Bo(c:Int):Int:=if 65<=c/\c<=90 then c-65 else if 97<=c/\c<=122 then c-71 else if 48<=c/\c<=57 then c+4 else if c=45 then 62 else if c=95 then 63 else 64
theorem Hc{v:Int}(a:0<=v)(b:v<64):Bo (J9 v)=v:=by unfold Bo J9;split<;>split<;>(try split)<;>(try split)<;>(try split)<;>(try split)<;>(try split)<;>(try split)<;>omega
theorem Tc{c:Int}(h:Bo c<64):J9 (Bo c)=c:=by unfold Bo at h ⊢;unfold J9;split at h<;>(try split at h)<;>(try split at h)<;>(try split at h)<;>(try split at h)<;>simp_all<;>(try split)<;>(try split)<;>(try split)<;>omega
theorem It(c:Int):0<=Bo c/\Bo c<=64:=by
 unfold Bo;split
 ·omega
 split
 ·omega
 split
 ·omega
 split
 ·omega
 split<;>omega
def Fw:Ak->Ak
 |[]=>[]
 |[a]=>[J9 (a / 4),J9 (a % 4*16)]
 |[a,b]=>[J9 (a / 4),J9 (a % 4*16+b / 16),J9 (b % 16*4)]
 |a::b::c::r=>J9 (a / 4)::J9 (a % 4*16+b / 16)::J9 (b % 16*4+c / 64)::J9 (c % 64)::Fw r
def Ly:Ak->Option Ak
 |[]=>some []
 |[_]=>none
 |[p,q]=>if Bo p<64/\Bo q<64/\Bo q % 16=0 then some [Bo p*4+Bo q / 16] else none
 |[p,q,r]=>if Bo p<64/\Bo q<64/\Bo r<64/\Bo r % 4=0 then some [Bo p*4+Bo q / 16,Bo q % 16*16+Bo r / 4] else none
 |p::q::r::s::t=>if Bo p<64/\Bo q<64/\Bo r<64/\Bo s<64 then (Ly t).map (λl=>(Bo p*4+Bo q / 16)::(Bo q % 16*16+Bo r / 4)::(Bo r % 4*64+Bo s)::l) else none
theorem Ca{a:Int}{l:Ak}(h:Ce (a::l)):(0<=a/\a<=255)/\Ce l:=⟨h a Ψ,λx b=>h x (by simp[b])⟩
theorem Afk:∀{l:Ak},Ce l->Ly (Fw l)=some l
 |[],_=>rfl
 |[a],h=>by
  obtain⟨g,_⟩:=Ca h;have d:=Hc (v:=a / 4) Ω Ω;have e:=Hc (v:=a % 4*16) Ω Ω;unfold Fw Ly;rw[d,e,Bq Ω]
  congr 2
  omega
 |[a,b],h=>by
  obtain⟨g,h⟩:=Ca h;obtain⟨i,_⟩:=Ca h;have d:=Hc (v:=a / 4) Ω Ω;have e:=Hc (v:=a % 4*16+b / 16) Ω Ω;have f:=Hc (v:=b % 16*4) Ω Ω;unfold Fw Ly;rw[d,e,f,Bq Ω]
  congr 2
  ·omega
  ·congr 1;omega
 |a::b::c::r,h=>by
  obtain⟨g,h⟩:=Ca h;obtain⟨i,h⟩:=Ca h;obtain⟨k,h⟩:=Ca h;have d:=Hc (v:=a / 4) Ω Ω;have e:=Hc (v:=a % 4*16+b / 16) Ω Ω;have f:=Hc (v:=b % 16*4+c / 64) Ω Ω;have j:=Hc (v:=c % 64) Ω Ω;unfold Fw Ly;rw[d,e,f,j,Bq Ω,Afk h];simp only[Option.map_some]
  congr 2
  ·omega
  ·congr 1
   ·omega
   ·congr 1;omega
theorem Aqe:∀{s l:Ak},Ly s=some l->Fw l=s/\Ce l
 |[],l,h=>by cases h;exact⟨rfl,λx a=>by cases a⟩
 |[_],l,h=>by cases h
 |[p,q],l,h=>by
  unfold Ly at h;split at h
  ·rename_i b;cases h;have c:=It p;have d:=It q;refine⟨?_,λx a=>by simp at a;subst a;omega⟩
   unfold Fw;rw[show (Bo p*4+Bo q / 16) / 4=Bo p by omega,show (Bo p*4+Bo q / 16) % 4*16=Bo q by omega,Tc b.1,Tc b.2.1]
  ·cases h
 |[p,q,r],l,h=>by
  unfold Ly at h;split at h
  ·rename_i b;cases h;have c:=It p;have d:=It q;have e:=It r;refine⟨?_,λx a=>by simp at a;rcases a with rfl|rfl<;>omega⟩
   unfold Fw
   rw[show (Bo p*4+Bo q / 16) / 4=Bo p by omega,show (Bo p*4+Bo q / 16) % 4*16+(Bo q % 16*16+Bo r / 4) / 16=Bo q by omega,
    show (Bo q % 16*16+Bo r / 4) % 16*4=Bo r by omega,Tc b.1,Tc b.2.1,Tc b.2.2.1]
  ·cases h
 |p::q::r::s::t,l,h=>by
  unfold Ly at h;split at h
  ·rename_i b;cases ht:Ly t with
   |none=>rw[ht] at h;cases h
   |some f=>
    rw[ht] at h;cases h;obtain⟨g,i⟩:=Aqe ht;have c:=It p;have d:=It q;have e:=It r;have j:=It s;refine⟨?_,λx a=>?_⟩
    ·show Fw ((Bo p*4+Bo q / 16)::(Bo q % 16*16+Bo r / 4)::(Bo r % 4*64+Bo s)::f)=_;unfold Fw
     rw[g,show (Bo p*4+Bo q / 16) / 4=Bo p by omega,show (Bo p*4+Bo q / 16) % 4*16+(Bo q % 16*16+Bo r / 4) / 16=Bo q by omega,
      show (Bo q % 16*16+Bo r / 4) % 16*4+(Bo r % 4*64+Bo s) / 64=Bo r by omega,show (Bo r % 4*64+Bo s) % 64=Bo s by omega,Tc b.1,Tc b.2.1,Tc b.2.2.1,Tc b.2.2.2]
    ·simp only[List.mem_cons] at a;rcases a with rfl|rfl|rfl|a
     ·omega
     ·omega
     ·omega
     ·exact i x a
  ·cases h
def Qp:Int->Int->Ak->Option Ak
 |_,_,[]=>some []
 |n,bits,c::r=>if Bo c>63 then none else
  if bits+6>=8 then (Qp ((n*64+Bo c) % 65536) (bits-2) r).map (((n*64+Bo c) % 65536 / 2 ^ (bits-2).toNat % 256) :: ·)
  else Qp ((n*64+Bo c) % 65536) (bits+6) r
theorem Ao8:∀{l:Ak},Ce l->∀n:Int,0<=n->Qp n 0 (Fw l)=some l
 |[],_,n,_=>rfl
 |[a],h,n,g=>by
  obtain⟨i,_⟩:=Ca h;have d:=Hc (v:=a / 4) Ω Ω;have e:=Hc (v:=a % 4*16) Ω Ω;unfold Fw Qp;rw[d,Bb Ω,Bb Ω];unfold Qp;rw[e,Bb Ω,Bq Ω];unfold Qp;rw[show (2:Int) ^ (0+6-2:Int).toNat=16 by decide];simp only[Option.map_some]
  congr 2
  omega
 |[a,b],h,n,g=>by
  obtain⟨i,h⟩:=Ca h;obtain⟨j,_⟩:=Ca h;have d:=Hc (v:=a / 4) Ω Ω;have e:=Hc (v:=a % 4*16+b / 16) Ω Ω;have f:=Hc (v:=b % 16*4) Ω Ω;unfold Fw Qp;rw[d,Bb Ω,Bb Ω];unfold Qp;rw[e,Bb Ω,Bq Ω];unfold Qp;rw[f,Bb Ω,Bq Ω];unfold Qp;rw[show (2:Int) ^ (0+6-2:Int).toNat=16 by decide,show (2:Int) ^ (0+6-2-2:Int).toNat=4 by decide];simp only[Option.map_some]
  congr 2
  ·omega
  ·congr 1;omega
 |a::b::c::r,h,n,g=>by
  obtain⟨i,h⟩:=Ca h;obtain⟨j,h⟩:=Ca h;obtain⟨m,h⟩:=Ca h;have d:=Hc (v:=a / 4) Ω Ω;have e:=Hc (v:=a % 4*16+b / 16) Ω Ω;have f:=Hc (v:=b % 16*4+c / 64) Ω Ω;have k:=Hc (v:=c % 64) Ω Ω;unfold Fw Qp;rw[d,Bb Ω,Bb Ω];unfold Qp;rw[e,Bb Ω,Bq Ω];unfold Qp;rw[f,Bb Ω,Bq Ω];unfold Qp;rw[k,Bb Ω,Bq Ω];rw[show (0+6-2-2-2:Int)=0 by decide];rw[show (2:Int) ^ (0+6-2:Int).toNat=16 by decide,show (2:Int) ^ (0+6-2-2:Int).toNat=4 by decide,show (2:Int) ^ (0:Int).toNat=1 by decide];rw[Ao8 h _ Ω];simp only[Option.map_some]
  congr 2
  ·omega
  ·congr 1
   ·omega
   ·congr 1;omega
theorem UH:∀l:Ak,(Fw l).length=(4*l.length+2) / 3
 |[]=>rfl
 |[_]=>by simp[Fw]
 |[_,_]=>by simp[Fw]
 |a::b::c::r=>by
  show (Fw r).length+1+1+1+1=_;rw[UH r];simp only[Ox];omega
def P3(c:Int):Bool:=c==32||c==9||c==10||c==13
def Ax:Ak->Ak
 |[]=>[]
 |c::r=>if P3 c=true then Ax r else c::r
def ST(c:Int):Option Int:=if 48<=c/\c<=57 then some (c-48) else if 97<=c/\c<=102 then some (c-87) else if 65<=c/\c<=70 then some (c-55) else none
abbrev PR(α:Type):=Option α × Ak
def Tm:Nat->Int->Ak->PR Int
 |0,x,l=>(some x,l)
 |_+1,_,[]=>(none,[])
 |n+1,x,c::r=>match ST c with
  |some v=>Tm n (x*16+v) r
  |none=>(none,c::r)
def Xq(x:Int):Bool:=decide (56320<=x)&&decide (x<=57343)
def Ac6(x:Int)(l:Ak):PR Int:=
 match Tm 4 0 l with
 |(some y,r)=>if Xq y=true then (some (65536+(x-55296)*1024+(y-56320)),r) else (none,r)
 |(none,r)=>(none,r)
def Ane:Ak->Bool
 |92::117::_=>true
 |_=>false
def Um(l:Ak):PR Int:=
 match Tm 4 0 l with
 |(none,r)=>(none,r)
 |(some x,r)=>if Xq x=true then (none,r) else if x<55296\/56319<x then (some x,r) else if Ane r=true then Ac6 x (r.drop 2) else (none,r)
def AA(c:Int):Option Int:=if c=34\/c=92\/c=47 then some c else if c=98 then some 8 else if c=102 then some 12 else if c=110 then some 10 else if c=114 then some 13 else if c=116 then some 9 else none
def Ob:Ak->PR Int
 |[]=>(none,[])
 |c::r=>if c=117 then Um r else match AA c with
  |some x=>(some x,r)
  |none=>(none,c::r)
def Jh:Nat->Ak->Ak->PR Ak
  |0,_,l=>(none,l)
  |_+1,_,[]=>(none,[])
  |n+1,a,c::r=>if c<32 then (none,c::r) else if c=34 then (some a,r) else if c=92 then
      (match Ob r with
       |(some x,r')=>Jh n (a++Lib.encodeRuneZ x) r'
       |(none,r')=>(none,r'))
    else Jh n (a++[c]) r
def Dp:Ak->PR Ak
 |[]=>(none,[])
 |c::r=>if c=34 then Jh (r.length+1) [] r else (none,c::r)
def KY(l:Ak):Option (Ak × Ak):=match Dp l with|(some s,r)=>some (s,r)|_=>none
def UJ(c:Int):Bool:=decide (48<=c)&&decide (c<=57)
def Hp:Ak->Ak
 |[]=>[]
 |c::r=>if UJ c=true then Hp r else c::r
def C7:Ak->Option Ak
 |[]=>none
 |c::r=>if UJ c=true then some (Hp r) else none
def Ahx(c:Int):Ak->Ak
 |[]=>[]
 |d::r=>if d=c then r else d::r
def FB:Ak->Option Ak
 |[]=>some []
 |c::r=>if c=101\/c=69 then (match r with
   |43::r'=>C7 r'
   |r=>C7 (Ahx 45 r)) else some (c::r)
def HN:Ak->Option Ak
 |[]=>some []
 |c::r=>if c=46 then (C7 r).bind FB else FB (c::r)
def Ato:Ak->Option Ak
 |[]=>none
 |c::r=>if c=48 then some r else C7 (c::r)
def G0(l:Ak):Option Ak:=(Ato (Ahx 45 l)).bind HN
abbrev JV:=Int × Ak × Bool
abbrev JR(α:Type):=Except Int α
def YO(V:Ak->JR (JV × Ak)):Nat->Ak->JR Ak
 |0,_=>.error 2
 |n+1,l=>match V l with
  |.error e=>.error e
  |.ok (_,r)=>match Ax r with
   |93::r'=>.ok r'
   |44::r'=>YO V n (Ax r')
   |_=>.error 2
def LX(V:Ak->JR (JV × Ak))(l:Ak):JR Ak:=
 match Ax l with
 |93::r=>.ok r
 |a=>YO V (a.length+1) a
def A6m(V:Ak->JR (JV × Ak))(a:Ak->Bool)(l:Ak):JR ((Ak × JV) × Ak):=
 match KY l with
 |none=>.error 2
 |some (b,r)=>if a b=true then .error 10 else
  match Ax r with
  |58::r'=>(match V (Ax r') with
   |.error e=>.error e
   |.ok (v,r'')=>.ok ((b,v),r''))
  |_=>.error 2
def P6(V:Ak->JR (JV × Ak))(kp:Bool):Nat->List (Ak × JV)->Ak->JR (List (Ak × JV) × Ak)
 |0,_,_=>.error 2
 |n+1,a,l=>match A6m V (λb=>kp&&a.any λm=>m.1==b) l with
  |.error e=>.error e
  |.ok (m,r)=>match Ax r with
   |125::r'=>.ok (a++[m],r')
   |44::r'=>P6 V kp n (a++[m]) (Ax r')
   |_=>.error 2
def Ya(V:Ak->JR (JV × Ak))(kp:Bool)(l:Ak):JR (List (Ak × JV) × Ak):=
 match Ax l with
 |125::r=>.ok ([],r)
 |a=>P6 V kp (a.length+1) [] a
def Ar(w l:Ak):Option Ak:=if w.isPrefixOf l=true then some (l.drop w.length) else none
def Cx:Nat->Ak->JR (JV × Ak)
 |k,l=>match l with
  |123::r=>(match k with
   |0=>.error 5
   |k+1=>(match Ya (Cx k) false r with
    |.error e=>.error e
    |.ok (_,r')=>.ok ((6,[],false),r')))
  |91::r=>(match k with
   |0=>.error 5
   |k+1=>(match LX (Cx k) r with
    |.error e=>.error e
    |.ok r'=>.ok ((5,[],false),r')))
  |34::r=>(match KY (34::r) with
   |none=>.error 2
   |some (s,r')=>.ok ((4,s,false),r'))
  |l=>match Ar [116,114,117,101] l with
   |some r=>.ok ((2,[],true),r)
   |none=>match Ar [102,97,108,115,101] l with
    |some r=>.ok ((2,[],false),r)
    |none=>match Ar [110,117,108,108] l with
     |some r=>.ok ((1,[],false),r)
     |none=>match G0 l with
      |some r=>.ok ((3,[],false),r)
      |none=>.error 2
def TL(k:Nat)(l:Ak):JR (List (Ak × JV)):=
 match Ax l with
 |123::r=>(match Ya (Cx k) true r with
  |.error e=>.error e
  |.ok (a,r')=>if Ax r'=[] then .ok a else .error 2)
 |_=>.error 2
def Ao9(args:Ae):Option A8:=
 match args with
 |[.agg [.sc (.int .i64 _),.sc (.int .i64 _),.sc (.int .i64 _),.lst false 3 0 [],.sc (.int .i64 _),.lst false 1 0 [],.lst false 1 0 []],.sc (.int .u64 _),.sc (.int .i64 _)]=>some ⟨[A0 0],[]⟩
 |_=>none
def Axs(args:Ae):Option A8:=
  match args with
  |[.pbox [.sc (.string t),.sc (.int .i64 p)]]=>bif decide (0<=p)&&decide (p<=t.size)&&Nat.ble t.size 1000000 then
      (match Dp ((Ci t).drop p.toNat) with
       |(some s,r)=>some ⟨[Bf (Ab s),Cn true],[[Bf t,A0 (t.size-r.length:Int)]]⟩
       |(none,r)=>some ⟨[Bf ⟨#[]⟩,Cn false],[[Bf t,A0 (t.size-r.length:Int)]]⟩) else none
  |_=>none
def A55(args:Ae):Option A8:=
 match args with
 |[.sc (.string s),.sc (.int .u8 c)]=>some ⟨[A0 (Lib.indexByte s.data.toList c.toNat.toUInt8)],[]⟩
 |_=>none
def A53(args:Ae):Option A8:=
 match args with
 |[.sc (.string s),.sc (.string p)]=>bif Nat.beq p.size 1 then some ⟨[A0 (Lib.countByte s.data.toList p[0]!)],[]⟩ else none
 |_=>none
def Ah5(args:Ae):Option A8:=
 match args with
 |[.sc (.string s),.sc (.string p)]=>bif Nat.ble p.size 1000&&p.data.toList.all (λb=>decide (b.toNat<128))&&decide (s.size<=1000000000) then some ⟨[Bf ⟨(Lib.trimS s.data.toList p.data.toList).toArray⟩],[]⟩ else none
 |_=>none
def Aw3(f:FuncId):Option (Ae->Option A8):=
 bif Nat.beq f 103 then some XL else
 bif Nat.beq f 37 then some Ao9 else
 bif Nat.beq f 163 then some A55 else
 bif Nat.beq f 202 then some A53 else
 bif Nat.beq f 176 then some Ah5 else
 bif Nat.beq f 150 then some Axs else
 bif Nat.beq f 1000000 then some (λ_=>none) else none
def Aff(p:Option (Ae->Option A8))(f:FuncId):Option (Ae->Option A8):=bif Nat.beq f 62 then p else Aw3 f
abbrev CP(p:Option (Ae->Option A8)):J7:=CX (Aff p)
abbrev C0:J7:=CP none
abbrev xs0:=Aff none
section
variable {B:FuncId->Option (Ae->Option A8)}(u d:Nat)(F:Ao)
theorem Aai(Z:Nat)(Y:Ae):BA (CX B) u d 67 [Ap 1 Z Y] λF=>(λc:Option A8=>Aq (decide (0<Z)) c (RR (Bd [.own 1 0 []]) c)) (Aw (decide (Y.length=Z*1)&&decide ((0+Z)*1<=1099511627776)&&decide (0+Z<=1099511627776))<|Aa (0+Z) λa=>Aa ([]++Y) λb=>Aw (decide (a*1<=b.length))<|Bd [.own 1 a (b.take (a*1))]):=Φ
theorem ZW(X:Nat)(Z:Ae)(W:Nat)(Y:Ae):BA (CX B) u d 29 [Ap 1 X Z,Ap 1 W Y] λF=>Aw (decide (Z.length=X))<|Dj (H9 Z) λa=>Aw (decide (Y.length=W))<|Dj (H9 Y) λb=>Bd [Cn (Array.toList (ByteArray.data (ByteArray.mk (List.toArray a)))==Array.toList (ByteArray.data (ByteArray.mk (List.toArray b))))]:=Φ
theorem EM(Z:Nat)(Y:Ae):BA (CX B) u d 116 [Ap 2 Z Y] λF=>(λc:Option A8=>Aq (decide (0<Z)) c (RR (Bd [.own 2 0 []]) c)) (Aw (decide (Y.length=Z*2)&&decide ((0+Z)*16<=1099511627776)&&decide (0+Z<=1099511627776))<|Aa (0+Z) λa=>Aa ([]++Y) λb=>Aw (decide (a*2<=b.length))<|Bd [.own 2 a (b.take (a*2))]):=Φ
theorem DK(Z:Nat)(Y:Ae)(X W:Int)(V U:Int)(T:Bool)(S:Int)(Q:Nat)(P:Ae)(O:Bool)(N M:Int):BA (CX B) u d 81 [.agg [Ap 1 Z Y,X,Ag W,Ag V,U,T,Ag S,Ap 2 Q P,O,N,M]] λF=>De (F 67 [Ap 1 Z Y]) λa b=>Na 1 a λa c=>Ah b<|De (F 116 [Ap 2 Q P]) λb e=>Na 2 b λb f=>Ah e<|Aw (decide (a*1<=c.length))<|Aw (decide (b*2<=f.length))<|Bd [.agg [.own 1 a (c.take (a*1)),X,Ag W,Ag V,U,T,Ag S,.own 2 b (f.take (b*2)),O,N,M]]:=Φ
end
section
open Go.RowKit
def ZF(p:PV)(u:Value):Prop:=p=.sc u\/∃a:List Value,p=.agg (a.map .sc)/\u=.agg ⟨a⟩
theorem GE{w:World}{A:Nat->Prop}{own:Bt}:∀{vs us:List Value}{j:Nat},Gu w A own j (vs.map .sc) us->us=vs
 |[],[],_,_=>rfl
 |[],_::_,_,h=>h.elim
 |_::_,[],_,h=>h.elim
 |v::vs,u::us,j,h=>by
  have a:A9 w A (.sc v) u:=h.1;rw[a.val,GE h.2]
theorem FP{w:World}{A:Nat->Prop}{own:Bt}:∀{vs:List Value}{j:Nat},Gu w A own j (vs.map .sc) vs
 |[],_=>trivial
 |v::vs,j=>⟨show A9 w A (.sc v) v from .sc v,FP⟩
theorem VE{w:World}{A:Nat->Prop}{own:Bt}{z:Nat}:∀{vals:Ae}{us a:List Value}{j:Nat},Bv ZF vals us->Aa1 w A own z j vals a->a=us
 |[],[],[],_,_,_=>rfl
 |[],[],_::_,_,_,h=>h.elim
 |[],_::_,_,_,h,_=>h.elim
 |_::_,[],_,_,h,_=>h.elim
 |_::_,_::_,[],_,_,h=>h.elim
 |p::ps,u::us,c::a,j,b,h=>by
  rw[VE b.2 h.2]
  congr 1
  rcases b.1 with rfl|⟨f,rfl,rfl⟩
  ·exact A9.val (show A9 w A (.sc u) c from h.1)
  ·obtain⟨d,rfl,e⟩:=h.1;rw[GE e]
structure G3(w w':World)(b o n:Nat):Prop where
 os:w'.os=w.os
 tape:w'.tape=w.tape
 output:w'.output=w.output
 size:w.heap.size<=w'.heap.size
 grow:Ku w w' b
 other:∀k,k<w.heap.size->k≠b->w'.heap[k]?=w.heap[k]?
 cells:∀j,(j<o\/o+n<=j)->w'.cell? ⟨b,j,none⟩=w.cell? ⟨b,j,none⟩
 frz:∀j,(j<o\/o+n<=j)->w'.frozen? ⟨b,j,none⟩=w.frozen? ⟨b,j,none⟩
def bt1(b o:Nat):OB:=λi j=>match i,j with|0,0=>some (b,o)|_,_=>none
theorem Au3{b o k:Nat}(h:BtX (bt1 b o) k):k=b:=by
 obtain⟨i,j,a,h⟩:=h;unfold bt1 at h;split at h
 ·cases h;rfl
 ·cases h
theorem MJ{w:World}{A:Nat->Prop}{bt:OB}:∀{i:Nat}{ps:Ae}{us:List Value},Bv ZF ps us->Qm w A bt i ps us
 |_,[],[],_=>trivial
 |_,[],_::_,h=>h.elim
 |_,_::_,[],h=>h.elim
 |i,p::ps,u::us,h=>by
  refine⟨?_,MJ h.2⟩;rcases h.1 with rfl|⟨a,rfl,rfl⟩
  ·exact⟨.inl trivial,show A9 w A (.sc u) u from .sc u⟩
  ·refine⟨a,rfl,λp hp=>?_,FP⟩;obtain⟨v,_,rfl⟩:=List.mem_map.1 hp;exact .inl trivial
theorem Abt{G:KB}{P:Program}{f:FuncId}{vs c:List Value}{args vals:Ae}{us rs:List Value}(H:Ej G P f (.pbox (vs.map .sc)::args) ⟨vals,[c.map .sc]⟩)(I:Bv ZF args us)(J:Bv ZF vals rs){w:World}{b o:Nat}(K:G.ok w)(m:∀k,G.bl k->k<w.heap.size/\k≠b)(l:b<w.heap.size)(L:∀j v,vs[j]?=some v->w.cell? ⟨b,o+j,none⟩=some v)(M:∀j,j<vs.length->w.frozen? ⟨b,o+j,none⟩=false):
  Calls P f (.pointer (some ⟨b,o,none⟩)::us).toArray w λe w'=>e=.returned (Lv rs)/\c.length=vs.length/\(∀j v,c[j]?=some v->w'.cell? ⟨b,o+j,none⟩=some v)/\(∀j,j<vs.length->w'.frozen? ⟨b,o+j,none⟩=false)/\G3 w w' b o vs.length:=by
 have hi:Ins w (λ_=>False) (bt1 b o) (.pbox (vs.map .sc)::args) (.pointer (some ⟨b,o,none⟩)::us):=by
  refine⟨λ_ h=>h.elim,λ_ h=>h.elim,λk h=>by rw[Au3 h];exact l,λi j U V k x W h r=>?_,λi q h=>?_,?_,MJ I⟩
  ·unfold bt1 at h r;split at h
   ·split at r
    ·exact⟨rfl,rfl⟩
    ·cases r
   ·cases h
  ·unfold bt1 at h;split at h
   ·exact⟨_,rfl,rfl⟩
   ·cases h
  ·refine⟨b,o,rfl,rfl,λp hp=>?_,vs,FP,L,λk d=>M k (by simpa using d)⟩;obtain⟨v,_,rfl⟩:=List.mem_map.1 hp;exact .inl trivial
 have Ef:∀i,∀q,(bt1 b o) i 0=some q->i=0/\q=(b,o):=by
  intro i q h;unfold bt1 at h;split at h
  ·cases h;exact⟨rfl,rfl⟩
  ·cases h
 refine (H.2 w _ _ _ hi K (λk d=>⟨(m k d).1,λs=>(m k d).2 (Au3 s)⟩)).mono ?_
 rintro e w' ⟨X,own,rfl,a⟩
 have N:=VE J a.vals;subst N;have O:=a.outs;obtain⟨⟨t,z,Q,C,Y,R,S,D⟩,_⟩:=(show (∃t z,(bt1 b o) 0 0=some (t,z)/\(c.map PV.sc).length=(vs.map PV.sc).length/\Awb w' (YM (bt1 b o) own (λ_=>False)) own (R4 vals) t z (c.map .sc))/\_ from O)
 cases Q;have T:=GE R;subst T;simp only[List.length_map] at C D
 have E:∀k j,k<w.heap.size->(k≠b\/j<o\/o+vs.length<=j)->¬VG (bt1 b o) (.pbox (vs.map .sc)::args) k j:=by
  rintro k j d A ⟨i,p,hp,g⟩
  rcases g with⟨x,y,g,_⟩|⟨y,ps,g,Z,Pt⟩
  ·unfold bt1 at g;split at g
   ·rename_i h;cases h
   ·cases g
  ·obtain⟨rfl,h⟩:=Ef i _ g;cases h;have:p=.pbox (vs.map .sc):=by simpa using hp.symm
   subst this;rcases Pt with⟨e,Cs⟩|e
   ·injection e with e;subst e;rw[List.length_map] at Cs;rcases A with h|h|h
    ·exact h rfl
    ·omega
    ·omega
   ·cases e
 refine⟨rfl,C,S,λj n=>D j Ω,a.os,a.tape,a.output,a.ext.size,a.ext.bs b l,λk d A=>a.ext.keep k d λs=>A (Au3 s),λj n=>(a.rng b j l (E b j l (.inr n))).1,λj n=>(a.rng b j l (E b j l (.inr n))).2⟩
end
section
open Go.RowKit
theorem Zc{w w':World}{Y:Nat->Prop}{bt:OB}{args:Ae}{v:Value}(a:Below w.heap.size w w')(c:HT w' (YM bt (λ_=>none) Y) (λ_=>none) bt (R4 [.sc v]) 0 args []):
  Out w w' Y bt args (λ_=>none) ⟨[.sc v],[]⟩ [v] where
 os:=a.os
 tape:=a.tape
 output:=a.output
 ext:=⟨a.size,λb h _=>a.block b h,λb h=>Ku.same (a.block b h)⟩
 rng:=λb j h _=>⟨by unfold World.cell?;simp only[a.block b h],by unfold World.frozen?;simp only[a.block b h]⟩
 vals:=⟨A9.sc v,trivial⟩
 outs:=c
 fresh:=λj b o h=>by cases h
 inj:=λj d b o e h=>by cases h
end
section
open Go Go.RowKit Go.Shelf
theorem A7d{P:Program}{n:Nat}{g:Operand}{ps:Array Tmp}{assign body:Code}{Q:Exit->Act->World->Prop}{a:Act}{w:World}{gf:Nat}{lb:Array Value}(j:a.eval g=.func (.func gf) #[] lb)(k:∀args w,(callFunc gf args).run P w=.ok (.enter gf args) w)(m:∀l W,Below w.heap.size w W->CallsIn Fence.wide (n-1) P gf (#[.func (.yield l) #[] #[]]++lb) W λe B=>(∃v,e=.returned v)/\B=W)(o:∀B,Below w.heap.size w B->B.heap[w.heap.size]?=some (.deferred (some []))->Q .normal { a with defers:={ target:=.collected w.heap.size,args:= #[] }::a.defers } B):
  (Code.rangeFunc g ps assign body).wpIn Fence.wide n P Q a w:=by
 refine wpIn_rangeFunc ?_;intro fn p;obtain⟨rec,A6k⟩:∃rec:LoopState->Option Code->Loop,rec=λst q=>{ state:=st,pending:=q,fn,tmps:=a.tmps,params:=ps,assign,body,defers:=w.heap.size }:=⟨_,rfl⟩
 obtain⟨c,b⟩:∃c,(w.alloc (.deferred (some []))).alloc (.loop (rec .ready none))=c:=⟨_,rfl⟩
 have d:c.heap[w.heap.size+1]?=some (.loop (rec .ready none)):=by
  rw[<-b];have:=World.alloc_heap_new (w.alloc (.deferred (some []))) (.loop (rec .ready none));rwa [World.size_alloc] at this
 have f:c.heap[w.heap.size]?=some (.deferred (some [])):=by
  rw[<-b];exact (Below.heap_alloc _ _ _ Ψ).trans (World.alloc_heap_new w _)
 have i:Below w.heap.size w c:=by
  rw[<-b];exact ((Below.refl _ _).alloc (Cg _) _).alloc Ψ _
 refine⟨w.heap.size+1,[{ target:=.collected w.heap.size,args:= #[] }],c,{ target:=.fn (.func gf) lb,args:= #[.func (.yield (w.heap.size+1)) #[] #[]] },c,gf,
  #[.func (.yield (w.heap.size+1)) #[] #[]]++lb,c,?_,?_,λ_ _=>trivial,?_,(λh=>by cases h),?_⟩
 ·rw[<-b,A6k];exact run_enterLoop_outer _ _ _ _ _
 ·simp only[resolve,j];simp[go_sem]
 ·simp[invoke,go_sem,k]
 ·refine (m _ _ i).mono ?_
  rintro e B ⟨⟨v,rfl⟩,rfl⟩
  refine⟨none,_,by have:=run_endLoop (P:=P) d (by rw[A6k];simp);rw[A6k] at this;exact this,o _ (i.trans (belowK_b (Cg _) _ _ _ _ Ω d rfl rfl)) ((World.putObj_heap_other Ω).trans f)⟩
set_option maxHeartbeats 2000000 in
theorem A0e(ad:Option Addr)(m:Nat)(w:World)(k q:Nat):CallsIn Fence.wide m prog 80 #[.slice ad k q] w λe w'=>
  e=.returned (.func (.func 115) #[] #[.pointer (some ⟨w.heap.size,0,none⟩)])/\w'=w.alloc (.cells #[.slice ad k q] 127):=by
 refine callsIn_of_wp Tryz.func80 rfl trivial ?_ rfl;simp only[Tryz.ntmps80,List.size_toArray,Ox,SS,Nat.reduceAdd,Nat.reduceSub,Array.replicate_succ,Array.replicate_zero,List.push_toArray,List.append_toArray,Zzq,Zzp]
 gi_wp2
 go_ret
 exact⟨rfl,rfl⟩
set_option maxHeartbeats 2000000 in
theorem A7k{m l B q:Nat}{ad:Option Addr}{W:World}(b:W.cell? ⟨B,0,none⟩=some (.slice ad 0 q)):CallsIn Fence.wide m prog 115 #[.func (.yield l) #[] #[],.pointer (some ⟨B,0,none⟩)] W λe a=>(∃v,e=.returned v)/\a=W:=by
 refine callsIn_of_wp Tryz.func115 rfl trivial ?_ rfl;simp only[Tryz.ntmps115,List.size_toArray,Ox,SS,Nat.reduceAdd,Nat.reduceSub,Array.replicate_succ,Array.replicate_zero,List.push_toArray,List.append_toArray,Zzq,Zzp]
 gi_wp2
 gi_loopw [3] (λi wr=>i=.int .i64 (-1)/\wr=W) (λ_ _=>0)
 case atStart=>exact⟨rfl,rfl⟩
 case round=>
  obtain⟨rfl,rfl⟩:=hrel
  gi_wp2
  go_end0
  exact⟨⟨_,rfl⟩,rfl⟩
set_option maxHeartbeats 2000000 in
theorem Bcq(v i x lf model:Int)(a b c:Option Addr)(d f g:Nat)(w:World):
  Calls prog 79 #[.agg #[.int .i64 v,.int .i64 i,.int .i64 x,.slice a 0 d,.int .i64 lf,.slice b 0 f,.slice c 0 g],.int .u64 model] w λe w'=>e=.returned (.tuple #[.agg #[.int .u64 0,.slice none 0 0,.slice none 0 0],.bool false])/\Below w.heap.size w w':=by
 go_enter Tryz.func79,Tryz.ntmps79
 go_wp2
 go_loopw [11] (λz wr=>z=.int .i64 0/\wr=(w.alloc (.cells #[.int .i64 v,.int .i64 i,.int .i64 x,.slice a 0 d,.int .i64 lf,.slice b 0 f,.slice c 0 g] 50)).alloc (.cells #[.int .u64 0,.slice none 0 0,.slice none 0 0] 129)) (λ_ _=>0)
 case atStart=>exact⟨rfl,rfl⟩
 case round=>
  obtain⟨rfl,rfl⟩:=hrel
  go_wp2
  go_returns
  exact⟨rfl,by go_grown⟩
set_option maxHeartbeats 4000000 in
theorem Bcz(v i x lf model now:Int)(k m o:Option Addr)(p s t:Nat)(w:World):
  Calls prog 37 #[.agg #[.int .i64 v,.int .i64 i,.int .i64 x,.slice k 0 p,.int .i64 lf,.slice m 0 s,.slice o 0 t],.int .u64 model,.int .i64 now] w λe w'=>e=.returned (.int .i64 0)/\Below w.heap.size w w':=by
 refine callsIn_wide.1 (callsIn_of_wp_marks (F:=Fence.wide) (n:=0) Tryz.func37 rfl trivial ?_ rfl);simp only[Tryz.ntmps37,List.size_toArray,Ox,SS,Nat.reduceAdd,Nat.reduceSub,Array.replicate_succ,Array.replicate_zero,List.push_toArray,List.append_toArray,Zzq,Zzp]
 gi_wp2_with ((try refine⟨trivial,rfl,?_⟩);first|(refine (callsIn_wide.2 (Bcq _ _ _ _ _ _ _ _ _ _ _ _)).mono ?_;rintro e w' ⟨rfl,b⟩)|(refine (A0e _ _ _ _ _).mono ?_;rintro e w' ⟨rfl,rfl⟩))
 have f:w'.cell? ⟨w.heap.size+1+1,0,none⟩=some (.int .i64 0):=(b.cell Ψ).trans (by go_simp);have g:w'.frozen? ⟨w.heap.size+1+1,0,none⟩=false:=(b.frozen Ψ).trans (by go_simp);have A:w.heap.size+3<=w'.heap.size:=by have:=b.size;simp at this;omega
 refine A7d (gf:=115) (lb:= #[.pointer (some ⟨w'.heap.size+1,0,none⟩)]) rfl (enters_of Tryz.func115 Κ rfl) (λl W y=>A7k (ad:=none) (q:=0) ((y.cell Ψ).trans (by go_simp))) ?_;intro B h j;have Jv:Below w'.heap.size w' B:=(show Below w'.heap.size w' _ by go_grown).trans (h.mono (by simp;omega))
 have Gf:Below w.heap.size w w':=(show Below w.heap.size w _ by go_grown).trans (b.mono (by simp;omega))
 have c:B.cell? ⟨w.heap.size+1+1,0,none⟩=some (.int .i64 0):=(Jv.cell (by show w.heap.size+1+1<_;omega)).trans f
 have z:B.frozen? ⟨w.heap.size+1+1,0,none⟩=false:=(Jv.frozen (by show w.heap.size+1+1<_;omega)).trans g
 have GV:Below w.heap.size w B:=Gf.trans (Jv.mono Ω);simp only[World.size_alloc] at j ⊢;clear h b Gf f g
 gi_wp2
 have a:=(KeepsOthers.setCell B ⟨w.heap.size+1+1,0,none⟩ (.int .i64 0)).same _ _ j rfl;refine⟨Ψ,.inl ⟨_,_,rfl,run_takeDeferred a,?_⟩⟩;have d:=cell_kept (World.cell?_setCell_same' B ⟨w.heap.size+1+1,0,none⟩ (.int .i64 0) (by rw[c];rfl)) (grownBy_putObj' _ (w'.heap.size+1+1) (.deferred none)) (λr e=>by cases e;exact⟨_,a,rfl⟩)
 refine⟨.int .i64 0,?_,rfl,(GV.setCell (by show _<=w.heap.size+1+1;omega) _).trans (belowK_b (w:=w) (Cg _) _ _ _ _ Ω a rfl rfl)⟩
 simp[results,Tryz.f37,go_sem,d]
theorem A5n{w:World}{S:Nat->Prop}{es:Nat}{v:Value}(h:A9 w S (.lst false es 0 []) v):∃p k,v=.slice p 0 k:=by cases h<;>exact⟨_,_,rfl⟩
theorem Amx{G:KB}{args:Ae}{r:A8}(h:Ao9 args=some r):Ej G prog 37 args r:=by
 unfold Ao9 at h;split at h
 rotate_left
 ·cases h
 cases h;rename_i v i x lf model a;refine⟨⟨_,Tryz.func37,Κ⟩,λw Y J us hi _ _=>?_⟩;have ps:=hi.args
 match us,ps with
 |[u0,u1,b],⟨⟨c,e,_,d⟩,f,g,_⟩=>
  subst e
  match c,d with
  |[j,k,l,K,m,L,M],⟨n,o,p,q,s,t,y,_⟩=>
   obtain rfl:j=.int .i64 v:=A9.val (w:=w) n;obtain rfl:k=.int .i64 i:=A9.val (w:=w) o;obtain rfl:l=.int .i64 x:=A9.val (w:=w) p;obtain⟨z,A,rfl⟩:=A5n q;obtain rfl:m=.int .i64 lf:=A9.val (w:=w) s;obtain⟨C,D,rfl⟩:=A5n t;obtain⟨E,H,rfl⟩:=A5n y;obtain rfl:u1=.int .u64 model:=A9.val (w:=w) f.2;obtain rfl:b=.int .i64 a:=A9.val (w:=w) g.2;refine (Bcz v i x lf model a z C E A D H w).mono ?_
   rintro e w' ⟨rfl,I⟩
   exact⟨[.int .i64 0],λ_=>none,rfl,Zc I rfl⟩
end
section
open Go.RowKit
theorem Atg(G:KB)(args:Ae)(a:A8)(h:A55 args=some a):Ej G prog 163 args a:=by
 refine⟨⟨_,Tryz.func163,Κ⟩,λw Y j us hi _ _=>?_⟩;unfold A55 at h;split at h
 rotate_left
 ·cases h
 rename_i s c;cases h;have ps:=hi.args
 match us,ps with
 |[u1,b],ps=>
  obtain⟨⟨_,d⟩,⟨_,f⟩,_⟩:=ps;have g:u1=.string s:=A9.val (show A9 w _ (Bf s) u1 from d);have i:b=.int .u8 c:=A9.val (show A9 w _ (.sc (.int .u8 c)) b from f);subst g i
  have walk:Calls prog 163 #[.string s,.int .u8 c] w λe w'=>e=.returned (.int .i64 (Lib.indexByte s.data.toList c.toNat.toUInt8))/\w'=w:=by
   go_enter Tryz.func163,Tryz.ntmps163
   go_wp2
   rw[run_callFunc_extern Tryz.func179 Κ Κ Κ (e:=Extern.BytealgIndexByte.indexByte) Κ,Lib.run_indexByteString];simp only[Result.andThen];rw[Oper.upon_value]
   go_wp2
   go_ret
   exact⟨rfl,rfl⟩
  refine walk.mono ?_
  rintro e w' ⟨rfl,rfl⟩
  exact⟨[.int .i64 (Lib.indexByte s.data.toList c.toNat.toUInt8)],λ_=>none,rfl,Zc (Below.refl _ _) rfl⟩
 |[],ps=>exact ps.elim
 |[_],ps=>exact ps.2.elim
 |_::_::_::_,ps=>exact ps.2.2.elim
theorem Ayu{p:ByteArray}(h:p.size=1):p=⟨#[p[0]!]⟩:=by
 obtain⟨⟨l⟩⟩:=p
 match l,h with
 |[x],_=>rfl
theorem Aqy(G:KB)(args:Ae)(a:A8)(h:A53 args=some a):Ej G prog 202 args a:=by
 refine⟨⟨_,Tryz.func202,Κ⟩,λw Y k us hi _ _=>?_⟩;unfold A53 at h;split at h
 rotate_left
 ·cases h
 rename_i s p;cases b:Nat.beq p.size 1
 ·rw[b] at h;cases h
 rw[b,cond_true] at h;cases h;have hp:=Ayu (El b);generalize (p[0]!)=c at hp ⊢;subst hp;have ps:=hi.args
 match us,ps with
 |[u1,d],ps=>
  obtain⟨⟨_,f⟩,⟨_,g⟩,_⟩:=ps;have i:u1=.string s:=A9.val (show A9 w _ (Bf s) u1 from f);have j:d=.string ⟨#[c]⟩:=A9.val (show A9 w _ (Bf ⟨#[c]⟩) d from g);subst i j
  have walk:Calls prog 202 #[.string s,.string ⟨#[c]⟩] w λe w'=>e=.returned (.int .i64 (Lib.countByte s.data.toList c))/\w'=w:=by
   go_enter Tryz.func202,Tryz.ntmps202
   go_wp2
   rw[run_callFunc_extern Tryz.func210 Κ Κ Κ (e:=Extern.BytealgCount.count) Κ,Lib.run_countString];simp only[Result.andThen];rw[Oper.upon_value]
   go_wp2
   go_ret
   exact⟨rfl,rfl⟩
  refine walk.mono ?_
  rintro e w' ⟨rfl,rfl⟩
  exact⟨[.int .i64 (Lib.countByte s.data.toList c)],λ_=>none,rfl,Zc (Below.refl _ _) rfl⟩
 |[],ps=>exact ps.elim
 |[_],ps=>exact ps.2.elim
 |_::_::_::_,ps=>exact ps.2.2.elim
end
theorem Bjz(a b:Nat)(e:a<4294967296)(f:b<4294967296):bits .or .u32 ((a:Nat):Int) ((b:Nat):Int)=((a ||| b:Nat):Int):=by
 have g:a ||| b<2 ^ 32:=Nat.or_lt_two_pow Ω Ω
 have c:(BitVec.ofInt 32 (a:Int)).toNat=a:=by
  rw[BitVec.ofInt_natCast,BitVec.toNat_ofNat];exact Nat.mod_eq_of_lt Ω
 have d:(BitVec.ofInt 32 (b:Int)).toNat=b:=by
  rw[BitVec.ofInt_natCast,BitVec.toNat_ofNat];exact Nat.mod_eq_of_lt Ω
 show IntKind.u32.wrap ((BitVec.ofInt 32 (a:Int) ||| BitVec.ofInt 32 (b:Int)).toNat:Int)=_;rw[BitVec.toNat_or,c,d];simp only[wrap,IntKind.bits,IntKind.signed,NT,Bool.false_eq_true,if_false];omega
def LY(a b c:Int):Ak:=[J9 (a / 4),J9 (a % 4*16+b / 16),J9 (b % 16*4+c / 64),J9 (c % 64)]
def Z4:ByteArray:=⟨#[65,66,67,68,69,70,71,72,73,74,75,76,77,78,79,80,81,82,83,84,85,86,87,88,89,90,97,98,99,100,101,102,103,104,105,106,107,108,109,110,111,112,113,114,115,116,117,118,119,120,121,122,48,49,50,51,52,53,54,55,56,57,45,95]⟩
theorem Aa4{q:Int}(a:0<=q)(b:q<64):0<=J9 q/\J9 q<=255:=by
 unfold J9;split
 ·omega
 split
 ·omega
 split
 ·omega
 split<;>omega
theorem P4{a b:Ak}(c:Ce a)(d:Ce b):Ce (a++b):=by
 intro x e;rcases B2.1 e with h|h
 ·exact c x h
 ·exact d x h
section
open Go.Shelf Go.RowKit Go.Lib
def Aig:Go.Shelf.Ren:=⟨λ|119=>214|120=>213|137=>148|151=>206|152=>212|160=>176|167=>168|168=>167|169=>165|197=>205|217=>163|224=>199|225=>198|227=>189|228=>204|231=>187|232=>188|233=>190|234=>191|235=>192|236=>193|240=>182|242=>183|260=>211|266=>179|271=>207|276=>196|278=>197|n=>n,λ|0=>0|3=>3|4=>4|5=>5|9=>9|20=>20|21=>21|37=>22|46=>103|51=>218|70=>229|72=>231|75=>235|80=>207|105=>259|116=>250|117=>251|119=>184|124=>254|127=>244|138=>186|139=>187|164=>256|n=>n,λ|3=>0|4=>1|n=>n⟩
theorem Am3:Lays.n167 prog Aig:={
 mixed:=Κ
 f167:=Tryz.func168.trans (congrArg some Κ)
 f240:=Tryz.func182.trans (congrArg some Κ)
 f276:=Tryz.func196.trans (congrArg some Κ)
 t0:=Tryz.underlying0
 a0:=Tryz.isAgg0
 z0:=Tryz.sizeOf0
 v0:=Tryz.zeroValue0
 t4:=Tryz.underlying4
 a4:=Tryz.isAgg4
 z4:=Tryz.sizeOf4
 v4:=Tryz.zeroValue4
 t5:=Tryz.underlying5
 a5:=Tryz.isAgg5
 z5:=Tryz.sizeOf5
 v5:=Tryz.zeroValue5
 t9:=Tryz.underlying9
 a9:=Tryz.isAgg9
 z9:=Tryz.sizeOf9
 v9:=Tryz.zeroValue9
 t20:=Tryz.underlying20
 a20:=Tryz.isAgg20
 z20:=Tryz.sizeOf20
 v20:=Tryz.zeroValue20
 t37:=Tryz.underlying22
 a37:=Tryz.isAgg22
 z37:=Tryz.sizeOf22
 v37:=Tryz.zeroValue22
 t70:=Tryz.underlying229
 a70:=Tryz.isAgg229
 z70:=Tryz.sizeOf229
 v70:=Tryz.zeroValue229
 t72:=Tryz.underlying231
 a72:=Tryz.isAgg231
 z72:=Tryz.sizeOf231
 v72:=Tryz.zeroValue231
 t75:=Tryz.underlying235
 a75:=Tryz.isAgg235
 z75:=Tryz.sizeOf235
 v75:=Tryz.zeroValue235
 t164:=Tryz.underlying256
 a164:=Tryz.isAgg256
 z164:=Tryz.sizeOf256
 v164:=Tryz.zeroValue256 }
theorem Alb:Lays.n168 prog Aig:={
 mixed:=Κ
 f168:=Tryz.func167.trans (congrArg some Κ)
 f240:=Tryz.func182.trans (congrArg some Κ)
 f242:=Tryz.func183.trans (congrArg some Κ)
 f276:=Tryz.func196.trans (congrArg some Κ)
 f278:=Tryz.func197.trans (congrArg some Κ)
 t0:=Tryz.underlying0
 a0:=Tryz.isAgg0
 z0:=Tryz.sizeOf0
 v0:=Tryz.zeroValue0
 t3:=Tryz.underlying3
 a3:=Tryz.isAgg3
 z3:=Tryz.sizeOf3
 v3:=Tryz.zeroValue3
 t4:=Tryz.underlying4
 a4:=Tryz.isAgg4
 z4:=Tryz.sizeOf4
 v4:=Tryz.zeroValue4
 t5:=Tryz.underlying5
 a5:=Tryz.isAgg5
 z5:=Tryz.sizeOf5
 v5:=Tryz.zeroValue5
 t9:=Tryz.underlying9
 a9:=Tryz.isAgg9
 z9:=Tryz.sizeOf9
 v9:=Tryz.zeroValue9
 t20:=Tryz.underlying20
 a20:=Tryz.isAgg20
 z20:=Tryz.sizeOf20
 v20:=Tryz.zeroValue20
 t21:=Tryz.underlying21
 a21:=Tryz.isAgg21
 z21:=Tryz.sizeOf21
 v21:=Tryz.zeroValue21
 t37:=Tryz.underlying22
 a37:=Tryz.isAgg22
 z37:=Tryz.sizeOf22
 v37:=Tryz.zeroValue22
 t46:=Tryz.underlying103
 a46:=Tryz.isAgg103
 z46:=Tryz.sizeOf103
 v46:=Tryz.zeroValue103
 t51:=Tryz.underlying218
 a51:=Tryz.isAgg218
 z51:=Tryz.sizeOf218
 v51:=Tryz.zeroValue218
 t70:=Tryz.underlying229
 a70:=Tryz.isAgg229
 z70:=Tryz.sizeOf229
 v70:=Tryz.zeroValue229
 t72:=Tryz.underlying231
 a72:=Tryz.isAgg231
 z72:=Tryz.sizeOf231
 v72:=Tryz.zeroValue231
 t75:=Tryz.underlying235
 a75:=Tryz.isAgg235
 z75:=Tryz.sizeOf235
 v75:=Tryz.zeroValue235
 t164:=Tryz.underlying256
 a164:=Tryz.isAgg256
 z164:=Tryz.sizeOf256
 v164:=Tryz.zeroValue256 }
theorem Am2:Lays.n169 prog Aig:={
 mixed:=Κ
 f169:=Tryz.func165.trans (congrArg some Κ)
 t0:=Tryz.underlying0
 a0:=Tryz.isAgg0
 z0:=Tryz.sizeOf0
 v0:=Tryz.zeroValue0
 t3:=Tryz.underlying3
 a3:=Tryz.isAgg3
 z3:=Tryz.sizeOf3
 v3:=Tryz.zeroValue3
 t9:=Tryz.underlying9
 a9:=Tryz.isAgg9
 z9:=Tryz.sizeOf9
 v9:=Tryz.zeroValue9
 t37:=Tryz.underlying22
 a37:=Tryz.isAgg22
 z37:=Tryz.sizeOf22
 v37:=Tryz.zeroValue22
 t70:=Tryz.underlying229
 a70:=Tryz.isAgg229
 z70:=Tryz.sizeOf229
 v70:=Tryz.zeroValue229
 t72:=Tryz.underlying231
 a72:=Tryz.isAgg231
 z72:=Tryz.sizeOf231
 v72:=Tryz.zeroValue231
 t127:=Tryz.underlying244
 a127:=Tryz.isAgg244
 z127:=Tryz.sizeOf244
 v127:=Tryz.zeroValue244 }
theorem Alh:Lays.n160 prog Aig:={
 mixed:=Κ
 f119:=Tryz.func214.trans (congrArg some Κ)
 f120:=Tryz.func213.trans (congrArg some Κ)
 f137:=Tryz.func148.trans (congrArg some Κ)
 f151:=Tryz.func206.trans (congrArg some Κ)
 f152:=Tryz.func212.trans (congrArg some Κ)
 f160:=Tryz.func176.trans (congrArg some Κ)
 f197:=Tryz.func205.trans (congrArg some Κ)
 f217:=Tryz.func163.trans (congrArg some Κ)
 f224:=Tryz.func199.trans (congrArg some Κ)
 f225:=Tryz.func198.trans (congrArg some Κ)
 f227:=Tryz.func189.trans (congrArg some Κ)
 f228:=Tryz.func204.trans (congrArg some Κ)
 f231:=Tryz.func187.trans (congrArg some Κ)
 f232:=Tryz.func188.trans (congrArg some Κ)
 f233:=Tryz.func190.trans (congrArg some Κ)
 f234:=Tryz.func191.trans (congrArg some Κ)
 f235:=Tryz.func192.trans (congrArg some Κ)
 f236:=Tryz.func193.trans (congrArg some Κ)
 f260:=Tryz.func211.trans (congrArg some Κ)
 f266:=Tryz.func179.trans (congrArg some Κ)
 f271:=Tryz.func207.trans (congrArg some Κ)
 t0:=Tryz.underlying0
 a0:=Tryz.isAgg0
 z0:=Tryz.sizeOf0
 v0:=Tryz.zeroValue0
 t3:=Tryz.underlying3
 a3:=Tryz.isAgg3
 z3:=Tryz.sizeOf3
 v3:=Tryz.zeroValue3
 t4:=Tryz.underlying4
 a4:=Tryz.isAgg4
 z4:=Tryz.sizeOf4
 v4:=Tryz.zeroValue4
 t5:=Tryz.underlying5
 a5:=Tryz.isAgg5
 z5:=Tryz.sizeOf5
 v5:=Tryz.zeroValue5
 t9:=Tryz.underlying9
 a9:=Tryz.isAgg9
 z9:=Tryz.sizeOf9
 v9:=Tryz.zeroValue9
 t21:=Tryz.underlying21
 a21:=Tryz.isAgg21
 z21:=Tryz.sizeOf21
 v21:=Tryz.zeroValue21
 t46:=Tryz.underlying103
 a46:=Tryz.isAgg103
 z46:=Tryz.sizeOf103
 v46:=Tryz.zeroValue103
 t105:=Tryz.underlying259
 a105:=Tryz.isAgg259
 z105:=Tryz.sizeOf259
 v105:=Tryz.zeroValue259
 t116:=Tryz.underlying250
 a116:=Tryz.isAgg250
 z116:=Tryz.sizeOf250
 t117:=Tryz.underlying251
 a117:=Tryz.isAgg251
 z117:=Tryz.sizeOf251
 v117:=Tryz.zeroValue251
 t119:=Tryz.underlying184
 a119:=Tryz.isAgg184
 z119:=Tryz.sizeOf184
 t124:=Tryz.underlying254
 a124:=Tryz.isAgg254
 z124:=Tryz.sizeOf254
 v124:=Tryz.zeroValue254
 t138:=Tryz.underlying186
 a138:=Tryz.isAgg186
 z138:=Tryz.sizeOf186
 v138:=Tryz.zeroValue186
 t139:=Tryz.underlying187
 a139:=Tryz.isAgg187
 z139:=Tryz.sizeOf187
 v139:=Tryz.zeroValue187
 g3:=Κ
 g4:=by kernel_rfl }
theorem Ad9:Builder.Extra prog Aig:={
 sizeBuilder:=Κ
 liesBuilder:=Κ
 t5:=Tryz.underlying5
 a5:=Tryz.isAgg5
 z5:=Tryz.sizeOf5
 v5:=Tryz.zeroValue5
 infoByte:=Κ
 cellsByte:=Κ
 sizeByte:=Κ
 neB5:=by decide }
end
section
variable {B:FuncId->Option (Ae->Option A8)}(u d:Nat)(F:Ao)
theorem Yu(Y Z:ByteArray):BA (CX B) u d 180 [Y,Z] λF=>Aq (decide ((↑(ByteArray.size Y):Int)>=(↑(ByteArray.size Z):Int))) (Aw (decide (Int.toNat (↑(ByteArray.size Z):Int)<=ByteArray.size Y))<|Aa (ByteArray.extract Y 0 (Int.toNat (↑(ByteArray.size Z):Int))) λa=>Bd [Cn (Array.toList (ByteArray.data a)==Array.toList (ByteArray.data Z))]) (Bd [false]):=Φ
theorem GJ(Z Y:ByteArray):BA (CX B) u d 164 [Z,Y] λF=>De (F 180 [Z,Y]) λa b=>Be a λa=>Ah b<|Bd [a]:=Φ
theorem Xa(Y:ByteArray)(Z:Int):BA (CX B) u d 169 [.pbox [Y,Z]] λF=>Aq (decide (Z<(↑(ByteArray.size Y):Int))) (Aw (decide (0<=Z))<|Dj ((Array.toList (ByteArray.data Y))[Z.toNat]?) λa=>some ⟨[.sc (.int .u8 (↑(UInt8.toNat a):Int))],[[Y,Z]]⟩) (some ⟨[.sc (.int .u8 0)],[[Y,Z]]⟩):=Φ
theorem U0(Z:ByteArray)(Y:Int)(X:ByteArray):BA (CX B) u d 149 [.pbox [Z,Y],X] λF=>Aw (decide (0<=Y))<|Aw (decide (Y.toNat<=ByteArray.size Z)&&decide (ByteArray.size Z<=ByteArray.size Z))<|Aa (ByteArray.extract Z Y.toNat (ByteArray.size Z)) λa=>De (F 164 [a,X]) λa b=>Be a λa=>Ah b<|Aq (!a) (some ⟨[false],[[Z,Y]]⟩) (Aa (wrap .i64 (Y+(↑(ByteArray.size X):Int))) λa=>some ⟨[true],[[Z,a]]⟩):=Φ
theorem IW(Z:Int):BA (CX B) u d 195 [.sc (.int .i32 Z)] λF=>Aq (decide (Z>=56320)) (Bd [Cn (decide (Z<=57343))]) (Bd [false]):=Φ
def Cz(Z:ByteArray)(Y:Int)(X:Nat)(W V:Int)(U:ByteArray)(T:Int):Option A8:=H6 u F 194 Tryz.f194 [.pbox [Z,Y]] [.r,.r,.l,.r,.l] X ⟨lk [(0,.ptr 120000 0),(4,.sc (.int .i32 W)),(6,V)],Fe [(120000,.st [U,T])]⟩
theorem Ig(X:ByteArray)(W:Int)(V:Nat)(Z Y:Int)(U:ByteArray)(T:Int):Cz u F X W (V+1) Z Y U T=(Aq (decide (Y<4)) (An (F 169 [.pbox [U,T]]) λa b=>Br .u8 a λa=>Ad b λb c=>Ad b λb e=>As b λb=>Br .i64 e λe=>(λh:Option A8=>(λf:Option A8=>(λg:Option A8=>Ah c<|Aq (decide (a>=48)) (Aq (decide (a<=57)) (Aa (Dx .i32 Z 4) λc=>Aa (wrap .u8 (a-48)) λa=>Aa (wrap .i32 a) λa=>Aa (wrap .i32 (c+a)) λa=>Aa (wrap .i64 (e+1)) λc=>Aa (wrap .i64 (Y+1)) λe=>Cz u F X W V a e b c) g) g) (Aq (decide (a>=97)) (Aq (decide (a<=102)) (Aa (Dx .i32 Z 4) λc=>Aa (wrap .u8 (a-97)) λa=>Aa (wrap .i32 a) λa=>Aa (wrap .i32 (c+a)) λa=>Aa (wrap .i32 (a+10)) λa=>Aa (wrap .i64 (e+1)) λc=>Aa (wrap .i64 (Y+1)) λe=>Cz u F X W V a e b c) f) f)) (Aq (decide (a>=65)) (Aq (decide (a<=70)) (Aa (Dx .i32 Z 4) λc=>Aa (wrap .u8 (a-65)) λa=>Aa (wrap .i32 a) λa=>Aa (wrap .i32 (c+a)) λa=>Aa (wrap .i32 (a+10)) λa=>Aa (wrap .i64 (e+1)) λc=>Aa (wrap .i64 (Y+1)) λe=>Cz u F X W V a e b c) h) h)) (some ⟨[.sc (.int .i32 0),false],[[b,e]]⟩)) (some ⟨[.sc (.int .i32 Z),true],[[U,T]]⟩)):=Κ
theorem S7(Z:ByteArray)(Y:Int):BA (CX B) u d 194 [.pbox [Z,Y]] λF=>Cz u F Z Y u 0 0 Z (Y):=Φ
theorem R2(Z:ByteArray)(Y:Int):BA (CX B) u d 181 [.pbox [Z,Y]] λF=>An (F 194 [.pbox [Z,Y]]) λa b=>Bw .i32 a λa c=>Hm c λc=>Ad b λb e=>Ad b λb f=>As b λb=>Br .i64 f λf=>(λh:Option A8=>Ah e<|Aq (!c) h (De (F 195 [.sc (.int .i32 a)]) λc e=>Be c λc=>(λj:Option A8=>Ah e<|Aq c h (Aq (decide (a<55296)) j (Aq (decide (a>56319)) j (An (F 149 [.pbox [b,f],Bf ⟨#[92,117]⟩]) λb c=>Hm b λb=>Ad c λc e=>Ad c λc f=>As c λc=>Br .i64 f λf=>Ah e<|Aq (!b) (some ⟨[.sc (.int .i32 0),false],[[c,f]]⟩) (An (F 194 [.pbox [c,f]]) λb c=>Bw .i32 b λb e=>Hm e λe=>Ad c λc f=>Ad c λc g=>As c λc=>Br .i64 g λg=>(λi:Option A8=>Ah f<|Aq (!e) i (De (F 195 [.sc (.int .i32 b)]) λe f=>Be e λe=>Ah f<|Aq (!e) i (Aa (wrap .i32 (a-55296)) λa=>Aa (Dx .i32 a 10) λa=>Aa (wrap .i32 (65536+a)) λa=>Aa (wrap .i32 (b-56320)) λb=>Aa (wrap .i32 (a+b)) λa=>some ⟨[.sc (.int .i32 a),true],[[c,g]]⟩))) (some ⟨[.sc (.int .i32 0),false],[[c,g]]⟩)))))) (some ⟨[.sc (.int .i32 a),true],[[b,f]]⟩))) (some ⟨[.sc (.int .i32 0),false],[[b,f]]⟩):=Φ
theorem Qa(Z:ByteArray)(Y:Int):BA (CX B) u d 166 [.pbox [Z,Y]] λF=>An (F 149 [.pbox [Z,Y],Bf ⟨#[117]⟩]) λa b=>Hm a λa=>Ad b λb c=>Ad b λb e=>As b λb=>Br .i64 e λe=>Ah c<|Aq a (An (F 181 [.pbox [b,e]]) λa b=>Bw .i32 a λa c=>Hm c λc=>Ad b λb e=>Ad b λb f=>As b λb=>Br .i64 f λf=>Ah e<|some ⟨[.sc (.int .i32 a),c],[[b,f]]⟩) (An (F 169 [.pbox [b,e]]) λa b=>Br .u8 a λa=>Ad b λb c=>Ad b λb e=>As b λb=>Br .i64 e λe=>Ah c<|Aa (wrap .i32 a) λa=>(λg:Option A8=>Aq (a==34) g (Aq (a==92) g (Aq (a==47) g (Aq (a==98) (Aa (wrap .i64 (e+1)) λa=>some ⟨[.sc (.int .i32 8),true],[[b,a]]⟩) (Aq (a==102) (Aa (wrap .i64 (e+1)) λa=>some ⟨[.sc (.int .i32 12),true],[[b,a]]⟩) (Aq (a==110) (Aa (wrap .i64 (e+1)) λa=>some ⟨[.sc (.int .i32 10),true],[[b,a]]⟩) (Aq (a==114) (Aa (wrap .i64 (e+1)) λa=>some ⟨[.sc (.int .i32 13),true],[[b,a]]⟩) (Aq (a==116) (Aa (wrap .i64 (e+1)) λa=>some ⟨[.sc (.int .i32 9),true],[[b,a]]⟩) (some ⟨[.sc (.int .i32 0),false],[[b,e]]⟩))))))))) (Aa (wrap .i64 (e+1)) λc=>some ⟨[.sc (.int .i32 a),true],[[b,c]]⟩)):=Φ
end
def Dw(t:ByteArray)(r:Ak):Prop:=∃a,Ci t=a++r
theorem Dw.all(t:ByteArray):Dw t (Ci t):=⟨[],rfl⟩
theorem Dw.len{t:ByteArray}{r:Ak}(h:Dw t r):r.length<=t.size:=by obtain⟨a,h⟩:=h;have:=congrArg List.length h;rw[Cb,Vl] at this;omega
theorem Dw.app{t:ByteArray}{a r:Ak}(h:Dw t (a++r)):Dw t r:=by obtain⟨b,h⟩:=h;exact⟨b++a,by rw[h,Zzv]⟩
theorem Dw.tail{t:ByteArray}{c:Int}{r:Ak}(h:Dw t (c::r)):Dw t r:=Dw.app (a:=[c]) h
theorem Dw.drop{t:ByteArray}{r:Ak}(h:Dw t r)(k:Nat):Dw t (r.drop k):=by rw[<-List.take_append_drop k r] at h;exact h.app
def Bm(t:ByteArray)(r:Ak):Nat:=t.size-r.length
theorem Dw.eq{t:ByteArray}{r:Ak}(h:Dw t r):r=(Ci t).drop (Bm t r):=by
 have b:=h.len;obtain⟨a,h⟩:=h
 have e:Bm t r=a.length:=by
  have:=congrArg List.length h;rw[Cb,Vl] at this;unfold Bm;omega
 rw[e,h,List.drop_left]
theorem Dw.B{t:ByteArray}{r:Ak}(h:Dw t r):Ce r:=by obtain⟨a,h⟩:=h;exact λx b=>AM t x (by rw[h];exact List.mem_append_right _ b)
theorem Dw.at{t:ByteArray}{c:Int}{r:Ak}(h:Dw t (c::r)):∃b:UInt8,(Array.toList t.data)[Bm t (c::r)]?=some b/\(b.toNat:Int)=c:=by
 have a:=h.eq
 have:(Ci t)[Bm t (c::r)]?=some c:=by
  have:=congrArg (λl=>l[0]?) a;rw[List.getElem?_drop] at this;exact this.symm
 unfold Ci at this;rw[List.getElem?_map] at this;obtain⟨b,d,rfl⟩:=Option.map_eq_some_iff.1 this;exact⟨b,d,rfl⟩
theorem Jm{t:ByteArray}{c:Int}{r:Ak}(h:Dw t (c::r)):Bm t r=Bm t (c::r)+1:=by have:=h.len;unfold Bm;rw[Ox] at this ⊢;omega
theorem Qg(t:ByteArray):Bm t []=t.size:=rfl
abbrev Co(t:ByteArray)(r:Ak):Ae:=[Bf t,A0 (Bm t r:Int)]
def QJ:Ak->Int
 |[]=>0
 |c::_=>c
section
variable {u d:Nat}{B:FuncId->Option (Ae->Option A8)}
theorem U5{t:ByteArray}{r:Ak}(h:Dw t r):Ac (CX B) prog u (d+1) 169 [.pbox (Co t r)]=some ⟨[.sc (.int .u8 (QJ r))],[Co t r]⟩:=by
 rw[Xa];cases r with
 |nil=>
  show _=some (A8.mk [.sc (.int .u8 0)] [[Bf t,A0 (Bm t []:Int)]]);rw[Qg];have e:decide ((t.size:Int)<(t.size:Int))=false:=Ψ
  simp only[Av,Au,e]
 |cons c r=>
  have f:=h.len;obtain⟨b,a,rfl⟩:=h.at
  have hp:Bm t ((b.toNat:Int)::r)<t.size:=by
   unfold Bm;rw[Ox] at f ⊢;omega
  have e:decide ((Bm t ((b.toNat:Int)::r):Int)<(t.size:Int))=true:=by simp;omega
  have g:decide ((0:Int)<=(Bm t ((b.toNat:Int)::r):Int))=true:=Ψ
  rw[<-H8 (Bm t ((b.toNat:Int)::r))] at a;simp only[Av,Au,e,g,a,QJ]
theorem RY{s:ByteArray}{a:Nat}:s.extract a s.size=Ab ((Ci s).drop a):=by
 rw[<-Hw (s.extract a s.size)]
 congr 1
 unfold Ci;rw[ByteArray.data_extract,Array.toList_extract,List.extract_eq_take_drop,<-List.map_drop,Jo];rw[List.length_drop];exact Cg _
theorem KU{s:ByteArray}{n:Nat}:s.extract 0 n=Ab ((Ci s).take n):=by
 rw[<-Hw (s.extract 0 n)]
 congr 1
 unfold Ci;rw[ByteArray.data_extract,Array.toList_extract,List.extract_eq_take_drop,Nat.sub_zero,Nr,List.map_take]
theorem A45{a w:Ak}(f:Ce a)(j:Ce w):Ac (CX B) prog u (d+1) 180 [Bf (Ab a),Bf (Ab w)]=some ⟨[Cn (w.isPrefixOf a)],[]⟩:=by
 rw[Yu,Ai,Ai];by_cases g:w.length<=a.length
 ·have b:decide ((a.length:Int)>=(w.length:Int))=true:=by simp;omega
  have k:decide (Int.toNat (w.length:Int)<=a.length)=true:=by rw[H8];simp;exact g
  have l:(Ab a).extract 0 (Int.toNat (w.length:Int))=Ab (a.take w.length):=by
   rw[H8,KU,Ct f]
  have c:(Array.toList (Ab (a.take w.length)).data==Array.toList (Ab w).data)=w.isPrefixOf a:=by
   rw[Bool.eq_iff_iff,List.isPrefixOf_iff_prefix,beq_iff_eq];constructor
   ·intro h
    have m:Ab (a.take w.length)=Ab w:=by
     cases e:Ab (a.take w.length);cases n:Ab w;rw[e,n] at h;exact congrArg ByteArray.mk (Array.toList_inj.1 h)
    have i:=congrArg Ci m;rw[Ct j,Ct (λx e=>f x (List.mem_of_mem_take e))] at i;exact List.prefix_iff_eq_take.2 i.symm
   ·intro h;rw[<-List.prefix_iff_eq_take.1 h]
  simp only[Av,Au,b,k,l,c]
 ·have b:decide ((a.length:Int)>=(w.length:Int))=false:=by simp;omega
  have c:w.isPrefixOf a=false:=by
   rw[Bool.eq_false_iff,ne_eq,List.isPrefixOf_iff_prefix];exact λh=>g h.length_le
  simp only[Av,Au,b,c]
theorem Bid{a w:Ak}(b:Ce a)(c:Ce w):Ac (CX B) prog u (d+2) 164 [Bf (Ab a),Bf (Ab w)]=some ⟨[Cn (w.isPrefixOf a)],[]⟩:=by rw[GJ];have e:Ac (CX B) prog u (d+1) 180 [Bf (Ab a),Bf (Ab w)]=_:=A45 b c;simp only[Av,Au,e]
theorem DG{t:ByteArray}{r w:Ak}(h:Dw t r)(ht:t.size<=1000000)(g:Ce w)(i:w.length<=100):Ac (CX B) prog u (d+3) 149 [.pbox (Co t r),Bf (Ab w)]=some (match Ar w r with|some r'=>⟨[Cn true],[Co t r']⟩|none=>⟨[Cn false],[Co t r]⟩):=by
 have m:=h.len;have j:=h.eq;have hp:Bm t r<=t.size:=Nat.sub_le _ _;have b:=Bid (u:=u) (d:=d) (B:=B) h.B g;have c:decide ((0:Int)<=(Bm t r:Int))=true:=Ψ
 have e:(decide (Int.toNat (Bm t r:Int)<=t.size)&&decide (t.size<=t.size))=true:=by
  rw[H8];simp;exact hp
 have f:t.extract (Int.toNat (Bm t r:Int)) t.size=Ab r:=by rw[H8,RY,<-j]
 rw[U0];unfold Ar;by_cases a:w.isPrefixOf r=true
 ·rw[Bq a];rw[a] at b
  have k:w.length<=r.length:=by
   have:=List.IsPrefix.length_le (List.isPrefixOf_iff_prefix.1 a);exact this
  have l:wrap .i64 ((Bm t r:Int)+((Ab w).size:Int))=(Bm t (r.drop w.length):Int):=by
   rw[Ai,Bc];unfold Bm;rw[List.length_drop];omega
  simp only[Av,Au,c,e,f,b,l,Es]
 ·rw[Bb a];have Pt:w.isPrefixOf r=false:=Bool.eq_false_iff.2 a;rw[Pt] at b;simp only[Av,Au,c,e,f,b,Gg]
theorem A1o(x:Int):Ac (CX B) prog u (d+1) 195 [.sc (.int .i32 x)]=some ⟨[Cn (Xq x)],[]⟩:=by
 rw[IW];unfold Xq;by_cases h:56320<=x
 ·have e:decide (x>=56320)=true:=by simp;omega
  have a:decide (56320<=x)=true:=by simp;omega
  simp only[Av,Au,e,a,Zzm]
 ·have e:decide (x>=56320)=false:=by simp;omega
  have a:decide (56320<=x)=false:=by simp;omega
  simp only[Av,Au,e,a,NT]
def A06(t:ByteArray)(o:PR Int):A8:=⟨[.sc (.int .i32 (o.1.getD 0)),Cn (o.1.isSome)],[Co t o.2]⟩
theorem QG(c:Int):(48<=c/\c<=57/\ST c=some (c-48))\/(97<=c/\c<=102/\ST c=some (c-87))\/(65<=c/\c<=70/\ST c=some (c-55))\/(¬(48<=c/\c<=57)/\¬(97<=c/\c<=102)/\¬(65<=c/\c<=70)/\ST c=none):=by
 unfold ST;by_cases a:48<=c/\c<=57
 ·exact .inl ⟨a.1,a.2,Bq a⟩
 ·by_cases b:97<=c/\c<=102
  ·exact .inr (.inl ⟨b.1,b.2,by rw[Bb a,Bq b]⟩)
  ·by_cases d:65<=c/\c<=70
   ·exact .inr (.inr (.inl ⟨d.1,d.2,by rw[Bb a,Bb b,Bq d]⟩))
   ·exact .inr (.inr (.inr ⟨a,b,d,by rw[Bb a,Bb b,Bb d]⟩))
theorem Ed{x:Int}(a: -2147483648<=x)(b:x<=2147483647):wrap .i32 x=x:=by have:=IntWalk.i32_in x Ω;exact this
theorem A30{x:Int}(a:0<=x)(b:x<65536):Dx .i32 x 4=x*16:=by show wrap .i32 (x*2 ^ (min (4:Int).toNat IntKind.i32.bits))=_;rw[show min (4:Int).toNat IntKind.i32.bits=4 from rfl];exact Ed Ω Ω
theorem KP{t s0:ByteArray}{p0:Int}(ht:t.size<=1000000):∀(n:Nat)(nn:Nat)(x:Int)(r:Ak),n<=4->n+1<=nn->0<=x->x<16 ^ (4-n)->Dw t r ->
  Cz u (Ac (CX B) prog u (d+1)) s0 p0 nn x ((4-n:Nat):Int) t (Bm t r:Int)=some (A06 t (Tm n x r))
 |0,nn,x,r,_,A,y,q,h=>by
  obtain⟨k,rfl⟩:∃k,nn=k+1:=⟨nn-1,Ω⟩
  rw[Ig];simp only[Av,Au,show decide (((4-0:Nat):Int)<4)=false from rfl];rfl
 |n+1,nn,x,r,G,A,y,q,h=>by
  obtain⟨k,rfl⟩:∃k,nn=k+1:=⟨nn-1,Ω⟩
  have z:=U5 (u:=u) (d:=d) (B:=B) h;have H:=h.len
  have I:x<4096:=by
   have:n+1=1\/n+1=2\/n+1=3\/n+1=4:=Ω
   rcases this with e|e|e|e<;>rw[e] at q<;>simp at q<;>omega
  have Zt:∀v,0<=v->v<=15->x*16+v<16 ^ (4-n):=by
   intro v C D;have e:4-n=(4-(n+1))+1:=Ω
   rw[e,Int.pow_succ];omega
  have b:decide (((4-(n+1):Nat):Int)<4)=true:=by simp;omega
  have l:wrap .i64 (((4-(n+1):Nat):Int)+1)=((4-n:Nat):Int):=Bi
  have sh:=A30 y Ω;rw[Ig];cases r with
  |nil=>
   have a:Ac (CX B) prog u (d+1) 169 [.pbox (Co t [])]=some ⟨[.sc (.int .u8 0)],[Co t []]⟩:=z
   repeat(with_reducible(first|apply Bl|apply A2|apply Bk|apply A5|apply Bp|apply Fm|apply A1|apply Bj|apply H4);· first|constructor|(simp(disch:=omega)only[H5,b,a,Int.reduceGE,decide_false,decide_true]<;>first|constructor|omega)|omega)
   try simp(disch:=omega)only[Aa,b,a,Int.reduceGE,decide_false,decide_true]
   rfl
  |cons c r=>
   have J:=h.B c Ψ;have hp:=Jm h
   have m:wrap .i64 ((Bm t (c::r):Int)+1)=(Bm t r:Int):=by
    rw[hp,E0 (by unfold Bm;omega) (by unfold Bm;omega)];omega
   have a:Ac (CX B) prog u (d+1) 169 [.pbox (Co t (c::r))]=some ⟨[.sc (.int .u8 c)],[Co t (c::r)]⟩:=z;unfold Tm;rcases QG c with⟨s,w,o⟩|⟨s,w,o⟩|⟨s,w,o⟩|⟨s,w,o,E⟩
   ·rw[o];have f:=KP (s0:=s0) (p0:=p0) ht n k (x*16+(c-48)) r Ω Ω Ω (Zt _ Ω Ω) h.tail;have g:wrap .u8 (c-48)=c-48:=I8 Ω Ω;have i:wrap .i32 (c-48)=c-48:=Ed Ω Ω;have j:wrap .i32 (x*16+(c-48))=x*16+(c-48):=Ed Ω Ω
    repeat(with_reducible(first|apply Bl|apply A2|apply Bk|apply A5|apply Bp|apply Fm|apply A1|apply Bj|apply H4);· first|constructor|(simp(disch:=omega)only[H5,b,a,sh,g,i,j,l,m,f]<;>first|constructor|omega)|omega)
    try simp(disch:=omega)only[Aa,b,a,sh,g,i,j,l,m,f]
   ·rw[o];have f:=KP (s0:=s0) (p0:=p0) ht n k (x*16+(c-87)) r Ω Ω Ω (Zt _ Ω Ω) h.tail;have g:wrap .u8 (c-97)=c-97:=I8 Ω Ω;have i:wrap .i32 (c-97)=c-97:=Ed Ω Ω;have j:wrap .i32 (x*16+(c-97))=x*16+(c-97):=Ed Ω Ω;have p:wrap .i32 (x*16+(c-97)+10)=x*16+(c-87):=by rw[Ed Ω Ω];omega
    repeat(with_reducible(first|apply Bl|apply A2|apply Bk|apply A5|apply Bp|apply Fm|apply A1|apply Bj|apply H4);· first|constructor|(simp(disch:=omega)only[H5,b,a,sh,g,i,j,p,l,m,f]<;>first|constructor|omega)|omega)
    try simp(disch:=omega)only[Aa,b,a,sh,g,i,j,p,l,m,f]
   ·rw[o];have f:=KP (s0:=s0) (p0:=p0) ht n k (x*16+(c-55)) r Ω Ω Ω (Zt _ Ω Ω) h.tail;have g:wrap .u8 (c-65)=c-65:=I8 Ω Ω;have i:wrap .i32 (c-65)=c-65:=Ed Ω Ω;have j:wrap .i32 (x*16+(c-65))=x*16+(c-65):=Ed Ω Ω;have p:wrap .i32 (x*16+(c-65)+10)=x*16+(c-55):=by rw[Ed Ω Ω];omega
    repeat(with_reducible(first|apply Bl|apply A2|apply Bk|apply A5|apply Bp|apply Fm|apply A1|apply Bj|apply H4);· first|constructor|(simp(disch:=omega)only[H5,b,a,sh,g,i,j,p,l,m,f]<;>first|constructor|omega)|omega)
    try simp(disch:=omega)only[Aa,b,a,sh,g,i,j,p,l,m,f]
   ·rw[E];by_cases K:48<=c
    ·by_cases L:97<=c
     ·skip
      repeat(with_reducible(first|apply Bl|apply A2|apply Bk|apply A5|apply Bp|apply Fm|apply A1|apply Bj|apply H4);· first|constructor|(simp(disch:=omega)only[H5,b,a]<;>first|constructor|omega)|omega)
      try simp(disch:=omega)only[Aa,b,a]
      rfl
     ·by_cases M:65<=c
      ·skip
       repeat(with_reducible(first|apply Bl|apply A2|apply Bk|apply A5|apply Bp|apply Fm|apply A1|apply Bj|apply H4);· first|constructor|(simp(disch:=omega)only[H5,b,a]<;>first|constructor|omega)|omega)
       try simp(disch:=omega)only[Aa,b,a]
       rfl
      ·skip
       repeat(with_reducible(first|apply Bl|apply A2|apply Bk|apply A5|apply Bp|apply Fm|apply A1|apply Bj|apply H4);· first|constructor|(simp(disch:=omega)only[H5,b,a]<;>first|constructor|omega)|omega)
       try simp(disch:=omega)only[Aa,b,a]
       rfl
    ·skip
     repeat(with_reducible(first|apply Bl|apply A2|apply Bk|apply A5|apply Bp|apply Fm|apply A1|apply Bj|apply H4);· first|constructor|(simp(disch:=omega)only[H5,b,a]<;>first|constructor|omega)|omega)
     try simp(disch:=omega)only[Aa,b,a]
     rfl
theorem A5i{t:ByteArray}{r:Ak}(Bg:10<=u)(h:Dw t r)(ht:t.size<=1000000):Ac (CX B) prog u (d+2) 194 [.pbox (Co t r)]=some (A06 t (Tm 4 0 r)):=by rw[S7];exact KP ht 4 u 0 r Ω Ω Ω Δ h
theorem Kb:∀(n:Nat)(x:Int)(l:Ak)(y:Int)(r:Ak),Tm n x l=(some y,r)->0<=x->0<=y/\y<(x+1)*16 ^ n
 |0,x,l,y,r,h,f=>by
  cases h;omega
 |n+1,x,[],y,r,h,f=>by cases h
 |n+1,x,c::l,y,r,h,f=>by
  unfold Tm at h;rcases QG c with⟨b,d,a⟩|⟨b,d,a⟩|⟨b,d,a⟩|⟨b,d,a,g⟩
  ·rw[a] at h;have:=Kb n _ l y r h Ω
   have e:(x*16+(c-48)+1)*16 ^ n<=(x+1)*16 ^ (n+1):=by
    rw[Int.pow_succ,Int.mul_comm (16 ^ n) 16,<-Int.mul_assoc];exact Int.mul_le_mul_of_nonneg_right Ω (Int.pow_nonneg Ω)
   omega
  ·rw[a] at h;have:=Kb n _ l y r h Ω
   have e:(x*16+(c-87)+1)*16 ^ n<=(x+1)*16 ^ (n+1):=by
    rw[Int.pow_succ,Int.mul_comm (16 ^ n) 16,<-Int.mul_assoc];exact Int.mul_le_mul_of_nonneg_right Ω (Int.pow_nonneg Ω)
   omega
  ·rw[a] at h;have:=Kb n _ l y r h Ω
   have e:(x*16+(c-55)+1)*16 ^ n<=(x+1)*16 ^ (n+1):=by
    rw[Int.pow_succ,Int.mul_comm (16 ^ n) 16,<-Int.mul_assoc];exact Int.mul_le_mul_of_nonneg_right Ω (Int.pow_nonneg Ω)
   omega
  ·rw[g] at h;cases h
theorem MU{t:ByteArray}:∀(n:Nat)(x:Int)(l:Ak),Dw t l->Dw t (Tm n x l).2
 |0,x,l,h=>h
 |n+1,x,[],h=>h
 |n+1,x,c::l,h=>by
  unfold Tm;cases ST c with
  |none=>exact h
  |some v=>exact MU n _ l h.tail
theorem Axu(l:Ak):Ane l=List.isPrefixOf [92,117] l:=by
 match l with
 |[]=>rfl
 |[a]=>
  unfold Ane;split
  ·rename_i e;cases e
  ·simp[List.isPrefixOf]
 |a::b::r=>
  unfold Ane;split
  ·rename_i e;cases e;rfl
  ·rename_i h
   symm
   rw[Bool.eq_false_iff];intro hp;simp[List.isPrefixOf] at hp;exact h r (by rw[<-hp.1,<-hp.2])
theorem Ayp{x:Int}(a:0<=x)(b:x<2097152):Dx .i32 x 10=x*1024:=by show wrap .i32 (x*2 ^ (min (10:Int).toNat IntKind.i32.bits))=_;rw[show min (10:Int).toNat IntKind.i32.bits=10 from rfl];exact Ed Ω Ω
theorem A8t{t:ByteArray}{r:Ak}(Bg:10<=u)(h:Dw t r)(ht:t.size<=1000000):Ac (CX B) prog u (d+4) 181 [.pbox (Co t r)]=some (A06 t (Um r)):=by
 have f:=A5i (d:=d+1) (B:=B) Bg h ht;have i:=MU 4 0 r h;have A:=Kb 4 0 r;rw[R2];unfold Um;rcases m:Tm 4 0 r with⟨o,e⟩;rw[m] at f i;simp only at i;cases o with
 |none=>
  have Zt:Ac (CX B) prog u (d+3) 194 [.pbox (Co t r)]=some ⟨[.sc (.int .i32 0),Cn false],[Co t e]⟩:=f
  repeat(with_reducible(first|apply Bl|apply A2|apply Bk|apply A5|apply Bp|apply Fm|apply A1|apply Bj|apply H4);· first|constructor|(simp(disch:=omega)only[H5,Zt,Gg]<;>first|constructor|omega)|omega)
  try simp(disch:=omega)only[Aa,Zt,Gg]
  rfl
 |some x=>
  have Zt:Ac (CX B) prog u (d+3) 194 [.pbox (Co t r)]=some ⟨[.sc (.int .i32 x),Cn true],[Co t e]⟩:=f;have D:=A x e m Ω;have c:∀x,Ac (CX B) prog u (d+3) 195 [.sc (.int .i32 x)]=some ⟨[Cn (Xq x)],[]⟩:=λx=>A1o (d:=d+2) x;cases a:Xq x
  ·simp only[a,Bool.false_eq_true,if_false];by_cases c1:x<55296
   ·rw[Bq (Or.inl c1)]
    repeat(with_reducible(first|apply Bl|apply A2|apply Bk|apply A5|apply Bp|apply Fm|apply A1|apply Bj|apply H4);· first|constructor|(simp(disch:=omega)only[H5,Zt,c,a,Es]<;>first|constructor|omega)|omega)
    try simp(disch:=omega)only[Aa,Zt,c,a,Es]
    rfl
   ·by_cases c2:56319<x
    ·rw[Bq (Or.inr c2)]
     repeat(with_reducible(first|apply Bl|apply A2|apply Bk|apply A5|apply Bp|apply Fm|apply A1|apply Bj|apply H4);· first|constructor|(simp(disch:=omega)only[H5,Zt,c,a,Es]<;>first|constructor|omega)|omega)
     try simp(disch:=omega)only[Aa,Zt,c,a,Es]
     rfl
    ·rw[Bb Ω];have g:=DG (u:=u) (d:=d) (B:=B) i ht (w:=[92,117]) (λx f=>by simp at f;rcases f with rfl|rfl<;>omega) Δ
     unfold Ar at g;rw[<-Axu] at g;cases n:Ane e
     ·rw[n,Bb Ψ] at g;simp only[Bool.false_eq_true,if_false];have Zn:Ac (CX B) prog u (d+3) 149 [.pbox (Co t e),Bf ⟨#[92,117]⟩]=some ⟨[Cn false],[Co t e]⟩:=g
      repeat(with_reducible(first|apply Bl|apply A2|apply Bk|apply A5|apply Bp|apply Fm|apply A1|apply Bj|apply H4);· first|constructor|(simp(disch:=omega)only[H5,Zt,c,a,Zn,Es,Gg]<;>first|constructor|omega)|omega)
      try simp(disch:=omega)only[Aa,Zt,c,a,Zn,Es,Gg]
      rfl
     ·rw[n,Bq rfl] at g;simp only[if_true];have Zn:Ac (CX B) prog u (d+3) 149 [.pbox (Co t e),Bf ⟨#[92,117]⟩]=some ⟨[Cn true],[Co t (e.drop 2)]⟩:=g;have j:=A5i (d:=d+1) (B:=B) Bg (i.drop 2) ht;have k:=Kb 4 0 (e.drop 2);unfold Ac6;rcases Pt:Tm 4 0 (e.drop 2) with⟨C,l⟩;rw[Pt] at j;cases C with
      |none=>
       have b:Ac (CX B) prog u (d+3) 194 [.pbox (Co t (e.drop 2))]=some ⟨[.sc (.int .i32 0),Cn false],[Co t l]⟩:=j
       repeat(with_reducible(first|apply Bl|apply A2|apply Bk|apply A5|apply Bp|apply Fm|apply A1|apply Bj|apply H4);· first|constructor|(simp(disch:=omega)only[H5,Zt,c,a,Zn,b,Es,Gg]<;>first|constructor|omega)|omega)
       try simp(disch:=omega)only[Aa,Zt,c,a,Zn,b,Es,Gg]
       rfl
      |some y=>
       have b:Ac (CX B) prog u (d+3) 194 [.pbox (Co t (e.drop 2))]=some ⟨[.sc (.int .i32 y),Cn true],[Co t l]⟩:=j;have by_:=k y l Pt Ω;cases Tn:Xq y
       ·simp only[Bool.false_eq_true,if_false]
        repeat(with_reducible(first|apply Bl|apply A2|apply Bk|apply A5|apply Bp|apply Fm|apply A1|apply Bj|apply H4);· first|constructor|(simp(disch:=omega)only[H5,Zt,c,a,Tn,Zn,b,Es,Gg]<;>first|constructor|omega)|omega)
        try simp(disch:=omega)only[Aa,Zt,c,a,Tn,Zn,b,Es,Gg]
        rfl
       ·simp only[if_true]
        have E:56320<=y/\y<=57343:=by
         unfold Xq at Tn
         simpa using Tn
        have p:wrap .i32 (x-55296)=x-55296:=Ed Ω Ω;have q:=Ayp (x:=x-55296) Ω Ω;have s:wrap .i32 (65536+(x-55296)*1024)=65536+(x-55296)*1024:=Ed Ω Ω;have v:wrap .i32 (y-56320)=y-56320:=Ed Ω Ω;have z:wrap .i32 (65536+(x-55296)*1024+(y-56320))=65536+(x-55296)*1024+(y-56320):=Ed Ω Ω
        repeat(with_reducible(first|apply Bl|apply A2|apply Bk|apply A5|apply Bp|apply Fm|apply A1|apply Bj|apply H4);· first|constructor|(simp(disch:=omega)only[H5,Zt,c,a,Tn,Zn,b,p,q,s,v,z,Es,Gg]<;>first|constructor|omega)|omega)
        try simp(disch:=omega)only[Aa,Zt,c,a,Tn,Zn,b,p,q,s,v,z,Es,Gg]
        rfl
  ·simp only[if_true]
   repeat(with_reducible(first|apply Bl|apply A2|apply Bk|apply A5|apply Bp|apply Fm|apply A1|apply Bj|apply H4);· first|constructor|(simp(disch:=omega)only[H5,Zt,c,a,Es]<;>first|constructor|omega)|omega)
   try simp(disch:=omega)only[Aa,Zt,c,a,Es]
   rfl
theorem Ab7(c:Int):(c=34/\AA c=some 34)\/(c=92/\AA c=some 92)\/(c=47/\AA c=some 47)\/(c=98/\AA c=some 8)\/(c=102/\AA c=some 12)\/(c=110/\AA c=some 10)\/(c=114/\AA c=some 13)\/(c=116/\AA c=some 9) \/
  ((c≠34/\c≠92/\c≠47/\c≠98/\c≠102/\c≠110/\c≠114/\c≠116)/\AA c=none):=by
 by_cases g:c=34
 ·subst g;exact .inl ⟨rfl,rfl⟩
 by_cases h:c=92
 ·subst h;exact .inr (.inl ⟨rfl,rfl⟩)
 by_cases i:c=47
 ·subst i;exact .inr (.inr (.inl ⟨rfl,rfl⟩))
 by_cases a:c=98
 ·subst a;exact .inr (.inr (.inr (.inl ⟨rfl,rfl⟩)))
 by_cases b:c=102
 ·subst b;exact .inr (.inr (.inr (.inr (.inl ⟨rfl,rfl⟩))))
 by_cases d:c=110
 ·subst d;exact .inr (.inr (.inr (.inr (.inr (.inl ⟨rfl,rfl⟩)))))
 by_cases e:c=114
 ·subst e;exact .inr (.inr (.inr (.inr (.inr (.inr (.inl ⟨rfl,rfl⟩))))))
 by_cases f:c=116
 ·subst f;exact .inr (.inr (.inr (.inr (.inr (.inr (.inr (.inl ⟨rfl,rfl⟩)))))))
 refine .inr (.inr (.inr (.inr (.inr (.inr (.inr (.inr ⟨⟨g,h,i,a,b,d,e,f⟩,?_⟩)))))));unfold AA;rw[Bb Ω,Bb a,Bb b,Bb d,Bb e,Bb f]
theorem Bd5{t:ByteArray}{r:Ak}(Bg:10<=u)(h:Dw t r)(ht:t.size<=1000000):Ac (CX B) prog u (d+5) 166 [.pbox (Co t r)]=some (A06 t (Ob r)):=by
 have e:=DG (u:=u) (d:=d+1) (B:=B) h ht (w:=[117]) (λx s=>by simp at s;omega) Δ
 have H:=h.len;rw[Qa];cases r with
 |nil=>
  have Zn:Ac (CX B) prog u (d+4) 149 [.pbox (Co t []),Bf ⟨#[117]⟩]=some ⟨[Cn false],[Co t []]⟩:=e;have a:Ac (CX B) prog u (d+4) 169 [.pbox (Co t [])]=some ⟨[.sc (.int .u8 0)],[Co t []]⟩:=U5 (d:=d+3) h;have w0:wrap .i32 0=0:=rfl
  repeat(with_reducible(first|apply Bl|apply A2|apply Bk|apply A5|apply Bp|apply Fm|apply A1|apply Bj|apply H4);· first|constructor|(simp(disch:=omega)only[H5,Zn,a,w0,Int.reduceBEq]<;>first|constructor|omega)|omega)
  try simp(disch:=omega)only[Aa,Zn,a,w0,Int.reduceBEq]
  rfl
 |cons c r=>
  have I:=h.B c Ψ;have hp:=Jm h
  have b:wrap .i64 ((Bm t (c::r):Int)+1)=(Bm t r:Int):=by
   rw[hp,E0 (by unfold Bm;omega) (by unfold Bm;omega)];omega
  have w0:wrap .i32 c=c:=Ed Ω Ω;have a:Ac (CX B) prog u (d+4) 169 [.pbox (Co t (c::r))]=some ⟨[.sc (.int .u8 c)],[Co t (c::r)]⟩:=U5 (d:=d+3) h;have v:Ob (c::r)=if c=117 then Um r else match AA c with|some x=>(some x,r)|none=>(none,c::r):=rfl
  rw[v];unfold Ar at e;by_cases i:c=117
  ·subst i;rw[Bq rfl];have Zn:Ac (CX B) prog u (d+4) 149 [.pbox (Co t (117::r)),Bf ⟨#[117]⟩]=some ⟨[Cn true],[Co t r]⟩:=e;have f:Ac (CX B) prog u (d+4) 181 [.pbox (Co t r)]=some ⟨[.sc (.int .i32 ((Um r).1.getD 0)),Cn ((Um r).1.isSome)],[Co t (Um r).2]⟩:=A8t Bg h.tail ht
   repeat(with_reducible(first|apply Bl|apply A2|apply Bk|apply A5|apply Bp|apply Fm|apply A1|apply Bj|apply H4);· first|constructor|(simp(disch:=omega)only[H5,Zn,f]<;>first|constructor|omega)|omega)
   try simp(disch:=omega)only[Aa,Zn,f]
   rfl
  ·rw[Bb i]
   have y:(List.isPrefixOf [117] (c::r))=false:=by
    rw[Bool.eq_false_iff];intro hp;simp[List.isPrefixOf] at hp;exact i hp.symm
   rw[y,Bb Ψ] at e;have Zn:Ac (CX B) prog u (d+4) 149 [.pbox (Co t (c::r)),Bf ⟨#[117]⟩]=some ⟨[Cn false],[Co t (c::r)]⟩:=e;rcases Ab7 c with⟨rfl,g⟩|⟨rfl,g⟩|⟨rfl,g⟩|⟨rfl,g⟩|⟨rfl,g⟩|⟨rfl,g⟩|⟨rfl,g⟩|⟨rfl,g⟩|⟨z,g⟩
   ·rw[g]
    repeat(with_reducible(first|apply Bl|apply A2|apply Bk|apply A5|apply Bp|apply Fm|apply A1|apply Bj|apply H4);· first|constructor|(simp(disch:=omega)only[H5,Zn,a,w0,b,Int.reduceBEq]<;>first|constructor|omega)|omega)
    try simp(disch:=omega)only[Aa,Zn,a,w0,b,Int.reduceBEq]
    rfl
   ·rw[g]
    repeat(with_reducible(first|apply Bl|apply A2|apply Bk|apply A5|apply Bp|apply Fm|apply A1|apply Bj|apply H4);· first|constructor|(simp(disch:=omega)only[H5,Zn,a,w0,b,Int.reduceBEq]<;>first|constructor|omega)|omega)
    try simp(disch:=omega)only[Aa,Zn,a,w0,b,Int.reduceBEq]
    rfl
   ·rw[g]
    repeat(with_reducible(first|apply Bl|apply A2|apply Bk|apply A5|apply Bp|apply Fm|apply A1|apply Bj|apply H4);· first|constructor|(simp(disch:=omega)only[H5,Zn,a,w0,b,Int.reduceBEq]<;>first|constructor|omega)|omega)
    try simp(disch:=omega)only[Aa,Zn,a,w0,b,Int.reduceBEq]
    rfl
   ·rw[g]
    repeat(with_reducible(first|apply Bl|apply A2|apply Bk|apply A5|apply Bp|apply Fm|apply A1|apply Bj|apply H4);· first|constructor|(simp(disch:=omega)only[H5,Zn,a,w0,b,Int.reduceBEq]<;>first|constructor|omega)|omega)
    try simp(disch:=omega)only[Aa,Zn,a,w0,b,Int.reduceBEq]
    rfl
   ·rw[g]
    repeat(with_reducible(first|apply Bl|apply A2|apply Bk|apply A5|apply Bp|apply Fm|apply A1|apply Bj|apply H4);· first|constructor|(simp(disch:=omega)only[H5,Zn,a,w0,b,Int.reduceBEq]<;>first|constructor|omega)|omega)
    try simp(disch:=omega)only[Aa,Zn,a,w0,b,Int.reduceBEq]
    rfl
   ·rw[g]
    repeat(with_reducible(first|apply Bl|apply A2|apply Bk|apply A5|apply Bp|apply Fm|apply A1|apply Bj|apply H4);· first|constructor|(simp(disch:=omega)only[H5,Zn,a,w0,b,Int.reduceBEq]<;>first|constructor|omega)|omega)
    try simp(disch:=omega)only[Aa,Zn,a,w0,b,Int.reduceBEq]
    rfl
   ·rw[g]
    repeat(with_reducible(first|apply Bl|apply A2|apply Bk|apply A5|apply Bp|apply Fm|apply A1|apply Bj|apply H4);· first|constructor|(simp(disch:=omega)only[H5,Zn,a,w0,b,Int.reduceBEq]<;>first|constructor|omega)|omega)
    try simp(disch:=omega)only[Aa,Zn,a,w0,b,Int.reduceBEq]
    rfl
   ·rw[g]
    repeat(with_reducible(first|apply Bl|apply A2|apply Bk|apply A5|apply Bp|apply Fm|apply A1|apply Bj|apply H4);· first|constructor|(simp(disch:=omega)only[H5,Zn,a,w0,b,Int.reduceBEq]<;>first|constructor|omega)|omega)
    try simp(disch:=omega)only[Aa,Zn,a,w0,b,Int.reduceBEq]
    rfl
   ·rw[g];obtain⟨n1,n2,A,C,D,E,n7,G⟩:=z;have j:(c==(34:Int))=false:=by simp[n1]
    have k:(c==(92:Int))=false:=by simp[n2]
    have l:(c==(47:Int))=false:=by simp[A]
    have m:(c==(98:Int))=false:=by simp[C]
    have n:(c==(102:Int))=false:=by simp[D]
    have o:(c==(110:Int))=false:=by simp[E]
    have p:(c==(114:Int))=false:=by simp[n7]
    have q:(c==(116:Int))=false:=by simp[G]
    repeat(with_reducible(first|apply Bl|apply A2|apply Bk|apply A5|apply Bp|apply Fm|apply A1|apply Bj|apply H4);· first|constructor|(simp(disch:=omega)only[H5,Zn,a,w0,b,j,k,l,m,n,o,p,q]<;>first|constructor|omega)|omega)
    try simp(disch:=omega)only[Aa,Zn,a,w0,b,j,k,l,m,n,o,p,q]
    rfl
theorem Yd{t:ByteArray}{l:Ak}(h:Dw t l):Dw t (Ob l).2:=by
 have A94:∀l,Dw t l->Dw t (Um l).2:=by
  intro l h;have a:=MU 4 0 l h;unfold Um;rcases d:Tm 4 0 l with⟨o,r⟩;rw[d] at a;cases o with
  |none=>exact a
  |some x=>
   simp only;split
   ·exact a
   split
   ·exact a
   split
   ·have b:=MU 4 0 (r.drop 2) (Dw.drop a 2);unfold Ac6;rcases Pt:Tm 4 0 (r.drop 2) with⟨e,g⟩;rw[Pt] at b;cases e with
    |none=>exact b
    |some y=>
     simp only;split<;>exact b
   ·exact a
 cases l with
 |nil=>exact h
 |cons c r=>
  have f:Ob (c::r)=if c=117 then Um r else match AA c with|some x=>(some x,r)|none=>(none,c::r):=rfl
  rw[f];split
  ·exact A94 r h.tail
  ·cases AA c with
   |none=>exact h
   |some x=>exact h.tail
end
section
open Go.RowKit Go.Lib
abbrev u8C(l:Ak):List Value:=l.map (Value.int .u8)
theorem Aon(a b:Ak):u8C (a++b)=u8C a++u8C b:=List.map_append
theorem Aby:∀{l:Ak},Ce l->u8C l=Lib.byteCells (l.map λn=>n.toNat.toUInt8)
 |[],_=>rfl
 |x::l,h=>by
  obtain⟨a,h⟩:=Ca h;show Value.int .u8 x::u8C l=Value.int .u8 ((x.toNat.toUInt8).toNat:Int)::Lib.byteCells (l.map λn=>n.toNat.toUInt8);rw[Aby h]
  congr 2
  have:(x.toNat.toUInt8).toNat=x.toNat:=by
   show x.toNat % 256=x.toNat;omega
  rw[this];omega
theorem NC(k:IntKind):∀l:Ak,Af k l=l.map λn=>.sc (.int k n)
 |[]=>rfl
 |x::l=>by
  show PV.sc (.int k x)::Af k l=_;rw[NC k l];rfl
end
section
open Go Go.RowKit
theorem G3.refl(w:World)(b o n:Nat):G3 w w b o n:=⟨rfl,rfl,rfl,Cg _,Ku.refl _ _,λ_ _ _=>rfl,λ_ _=>rfl,λ_ _=>rfl⟩
theorem G3.trans{w w' w'':World}{b o n:Nat}(h:G3 w w' b o n)(k:G3 w' w'' b o n):G3 w w'' b o n:=
 ⟨k.os.trans h.os,k.tape.trans h.tape,k.output.trans h.output,Nat.le_trans h.size k.size,h.grow.trans k.grow,λi hi c=>(k.other i (H2 hi h.size) c).trans (h.other i hi c),λj a=>(k.cells j a).trans (h.cells j a),λj a=>(k.frz j a).trans (h.frz j a)⟩
theorem G3.below{w w' w'':World}{b o n:Nat}(h:G3 w w' b o n)(k:Below w.heap.size w' w'')(a:b<w.heap.size):G3 w w'' b o n:=
 ⟨k.os.trans h.os,k.tape.trans h.tape,k.output.trans h.output,Nat.le_trans h.size k.size,h.grow.trans (Ku.same (k.block b a)),λi hi d=>(k.block i hi).trans (h.other i hi d),λj c=>(k.cell (p:=⟨b,j,none⟩) a).trans (h.cells j c),λj c=>(k.frozen (p:=⟨b,j,none⟩) a).trans (h.frz j c)⟩
theorem G3.drew{w w':World}{b o n:Nat}(h:G3 w w' b o n):G3 w w'.drew b o n:=⟨h.os,h.tape,h.output,h.size,h.grow,h.other,h.cells,h.frz⟩
theorem G3.setCell(w:World)(b o n j:Nat)(v:Value)(f:o<=j)(c:j<o+n)(g:b<w.heap.size):G3 w (w.setCell ⟨b,j,none⟩ v) b o n:=by have a:E2 b w (w.setCell ⟨b,j,none⟩ v):=E2.setCells b [v] j w;refine⟨a.os,a.tape,a.output,Nat.le_of_eq a.size.symm,a.grow b,λk h d=>a.other k d,λi hi=>?_,λi _=>a.frz i⟩;exact World.cell?_setCell_other _ _ _ _ (by intro e;injection e;omega)
theorem KJ{T e:TypeId}{B c:Nat}{bs:List Value}{W f:World}{b o n:Nat}(h:Lib.IsBuilderF T e B c bs W)(a:G3 W f b o n)(s:b<B):Lib.IsBuilderF T e B c bs f:=by
 have d:∀p,Lib.BuilderAtF T e B c p bs W->Lib.BuilderAtF T e B c p bs f:=by
  intro p h;have Cs:=h.lt;obtain⟨j,v,l,i,m⟩:=h;refine⟨j,v,(a.other c Cs Ω).trans l,i.kept (row:=some b) ⟨a.os,a.tape,a.output,a.size,λk Rr A6l=>a.other k Rr (λe=>A6l (by rw[e]))⟩ ?_,m⟩;rcases i.2 with⟨rfl,_⟩|⟨g,q,r,fz,rfl,t,_⟩
  ·exact .inl rfl
  ·refine .inr (λe=>?_);simp[Value.ownBlock] at e;omega
 exact h.imp (d _) (d _)
def GR:KB:=⟨λ_=>False,λ_=>True,λ_ _ _ _=>trivial⟩
def noR:FuncId->Option (Ae->Option A8):=λ_=>none
theorem A57:Aci GR prog (CX noR):=by intro f g args b h _;have a:(bif LW.any (Nat.beq f) then none else (none:Option (Ae->Option A8)))=some g:=h;cases c:LW.any (Nat.beq f)<;>rw[c] at a<;>cases a
theorem ngR:NoNG prog:=by
 have h:(prog.funcs.toList.all fun a=> !(a.name == "runtime.NumGoroutine"))=true:=by kernel_rfl
 intro f a b;have:=List.all_eq_true.1 h a (Array.mem_toList_iff.2 (Array.mem_of_getElem? b))
 simpa using this
theorem mxR:prog.follows .mixedOrders=true:=Κ
structure MI(w:World)(b o:Nat)(t:ByteArray)(r:Ak):Prop where
 lt:b<w.heap.size
 c0:w.cell? ⟨b,o,none⟩=some (.string t)
 c1:w.cell? ⟨b,o+1,none⟩=some (.int .i64 (Bm t r:Int))
 f0:w.frozen? ⟨b,o,none⟩=false
 f1:w.frozen? ⟨b,o+1,none⟩=false
theorem Aek{f:FuncId}{t:ByteArray}{r r':Ak}{args vals:Ae}{us rs:List Value}{d:Nat}(e:Ac (CX noR) prog 2000 d f (.pbox (Co t r)::args)=some ⟨vals,[Co t r']⟩)(k:Bv ZF args us)(l:Bv ZF vals rs){w:World}{b o:Nat}(h:MI w b o t r):Calls prog f (.pointer (some ⟨b,o,none⟩)::us).toArray w λe w'=>e=.returned (Lv rs)/\MI w' b o t r'/\G3 w w' b o 2:=by
 have m:Ej GR prog f (.pbox ([Value.string t,.int .i64 (Bm t r:Int)].map .sc)::args) ⟨vals,[[Value.string t,.int .i64 (Bm t r':Int)].map .sc]⟩:=Nm ngR mxR A57 d f _ _ e;refine (Abt m k l (w:=w) (b:=b) (o:=o) trivial (λ_ h=>h.elim) h.lt ?_ ?_).mono ?_
 ·intro j v a
  match j,a with
  |0,a=>cases a;exact h.c0
  |1,a=>cases a;exact h.c1
 ·intro j n
  match j,n with
  |0,_=>exact h.f0
  |1,_=>exact h.f1
 ·rintro e w' ⟨rfl,_,c,g,i⟩
  exact⟨rfl,⟨H2 h.lt i.size,c 0 _ rfl,c 1 _ rfl,g 0 (Nat.zero_lt_succ _),g 1 (Nat.succ_lt_succ (Nat.zero_lt_succ _))⟩,i⟩
theorem Kx{t:ByteArray}{r w0:Ak}(f:Dw t r)(ht:t.size<=1000000)(g:Ce w0)(a:w0.length<=100){w:World}{b o:Nat}(h:MI w b o t r):
  Calls prog 149 #[.pointer (some ⟨b,o,none⟩),.string (Ab w0)] w λe w'=>e=.returned (.bool (Ar w0 r).isSome)/\MI w' b o t ((Ar w0 r).getD r)/\G3 w w' b o 2:=by
 have e:=DG (u:=2000) (d:=0) (B:=noR) f ht g a;cases c:Ar w0 r with
 |none=>
  rw[c] at e;exact Aek (us:=[.string (Ab w0)]) (rs:=[.bool false]) e ⟨.inl rfl,trivial⟩ ⟨.inl rfl,trivial⟩ h
 |some r'=>
  rw[c] at e;exact Aek (us:=[.string (Ab w0)]) (rs:=[.bool true]) e ⟨.inl rfl,trivial⟩ ⟨.inl rfl,trivial⟩ h
theorem Ash{t:ByteArray}{r:Ak}(a:Dw t r)(ht:t.size<=1000000){w:World}{b o:Nat}(h:MI w b o t r):
  Calls prog 166 #[.pointer (some ⟨b,o,none⟩)] w λe w'=>e=.returned (.tuple #[.int .i32 ((Ob r).1.getD 0),.bool (Ob r).1.isSome])/\MI w' b o t (Ob r).2/\G3 w w' b o 2:=by
 have e:=Bd5 (u:=2000) (d:=0) (B:=noR) Ω a ht;exact Aek (us:=[]) (rs:=[.int .i32 ((Ob r).1.getD 0),.bool (Ob r).1.isSome]) e trivial ⟨.inl rfl,.inl rfl,trivial⟩ h
end
section
open Go Go.RowKit Go.Lib
def Bi7(o:Option Ak):Value:=.tuple #[.string (Ab (o.getD [])),.bool o.isSome]
theorem MI.below{B:Nat}{w w':World}{b o:Nat}{t:ByteArray}{r:Ak}(h:MI w b o t r)(a:Below B w w')(c:b<B):MI w' b o t r:=
 ⟨H2 h.lt a.size,(a.cell (p:=⟨b,o,none⟩) c).trans h.c0,(a.cell (p:=⟨b,o+1,none⟩) c).trans h.c1,(a.frozen (p:=⟨b,o,none⟩) c).trans h.f0,(a.frozen (p:=⟨b,o+1,none⟩) c).trans h.f1⟩
theorem Ai8{l:Ak}(h:Ce l):(Ob l).2.length<=l.length:=by
 have a:Dw (Ab l) l:=⟨[],by rw[Ct h];rfl⟩
 have:=(Yd a).len
 rwa [Ai] at this
theorem Ad6{l r:Ak}{x:Int}(h:Um l=(some x,r)):0<=x/\x<=1114111:=by
 have d:=Kb 4 0 l;unfold Um at h;rcases b:Tm 4 0 l with⟨o,a⟩;rw[b] at h;cases o with
 |none=>cases h
 |some y=>
  have by_:=d y a b Ω;simp only at h;split at h
  ·cases h
  split at h
  ·cases h;omega
  split at h
  ·have Jv:=Kb 4 0 (a.drop 2);unfold Ac6 at h;rcases Pt:Tm 4 0 (a.drop 2) with⟨e,f⟩;rw[Pt] at h;cases e with
   |none=>cases h
   |some z=>
    have g:=Jv z f Pt Ω;simp only at h;split at h
    ·rename_i c
     have i:56320<=z/\z<=57343:=by
      unfold Xq at c
      simpa using c
     cases h;omega
    ·cases h
  ·cases h
theorem Ahf{l r:Ak}{x:Int}(h:Ob l=(some x,r)):0<=x/\x<=1114111:=by
 cases l with
 |nil=>cases h
 |cons c l=>
  have a:Ob (c::l)=if c=117 then Um l else match AA c with|some x=>(some x,l)|none=>(none,c::l):=rfl
  rw[a] at h;split at h
  ·exact Ad6 h
  ·rcases Ab7 c with⟨rfl,g⟩|⟨rfl,g⟩|⟨rfl,g⟩|⟨rfl,g⟩|⟨rfl,g⟩|⟨rfl,g⟩|⟨rfl,g⟩|⟨rfl,g⟩|⟨b,g⟩<;>rw[g] at h<;>cases h<;>omega
set_option maxHeartbeats 4000000 in
theorem Ahw{t:ByteArray}{r:Ak}(Z:Dw t r)(ht:t.size<=1000000){w:World}{b o:Nat}(h:MI w b o t r):
    Calls prog 150 #[.pointer (some ⟨b,o,none⟩)] w λe w'=>e=.returned (Bi7 (Dp r).1)/\MI w' b o t (Dp r).2/\G3 w w' b o 2:=by
  have mixed:prog.follows Departure.mixedOrders=true:=Κ
  have P:=Kx Z ht (w0:=[34]) (λx I=>by simp at I;omega) Δ h
  go_enter Tryz.func150,Tryz.ntmps150
  go_wp2_with (go_at_call 149;refine P.mono ?_)
  rintro e d ⟨rfl,i,N⟩
  cases q:Ar [34] r with
  |none=>
    rw[q] at i
    go_wp2
    go_ret2
    have e:Dp r=(none,r):=by
      cases r with
      |nil=>rfl
      |cons c l=>
        have hc:c≠34:=by
          rintro rfl
          unfold Ar at q
          rw[Bq (by simp[List.isPrefixOf])] at q
          cases q
        show (if c=34 then _ else (none,c::l))=_
        rw[Bb hc]
    rw[e]
    exact⟨rfl,i,N⟩
  |some j=>
    rw[q] at i
    have ZL:r=34::j:=by
      unfold Ar at q
      split at q
      · rename_i hp
        obtain⟨s,hs⟩:=List.isPrefixOf_iff_prefix.1 hp
        rw[<-hs] at q ⊢
        cases q
        rfl
      · cases q
    subst ZL
    have e:Dp (34::j)=Jh (j.length+1) [] j:=by
      show (if (34:Int)=34 then Jh (j.length+1) [] j else (none,34::j))=_
      exact Bq rfl
    have XF:Dw t j:=Z.tail
    have h2:MI (d.alloc (.cells #[.pointer none,.slice none 0 0] 231)) b o t j:=by
      have J:Below d.heap.size d (d.alloc (.cells #[.pointer none,.slice none 0 0] 231)):=(Below.refl _ d).alloc (Cg _) _
      exact⟨H2 i.lt J.size,(J.cell (p:=⟨b,o,none⟩) i.lt).trans i.c0,(J.cell (p:=⟨b,o+1,none⟩) i.lt).trans i.c1,(J.frozen (p:=⟨b,o,none⟩) i.lt).trans i.f0,(J.frozen (p:=⟨b,o+1,none⟩) i.lt).trans i.f1⟩
    have k2:G3 w (d.alloc (.cells #[.pointer none,.slice none 0 0] 231)) b o 2:=N.below ((Below.refl _ d).alloc (Cg _) _ |>.mono N.size) h.lt
    have k:b<d.heap.size:=i.lt
    have v:w.heap.size<=d.heap.size:=N.size
    go_wp2
    go_loopw [] (λwr=>∃(n:Nat) (a l:Ak),Jh (j.length+1) [] j=Jh n a l/\l.length<n/\Ce a/\a.length+4*l.length<=4*t.size/\Dw t l/\MI wr b o t l/\G3 w wr b o 2/\d.heap.size<=wr.heap.size/\Lib.IsBuilderF 231 5 d.heap.size d.heap.size (u8C a) wr) (λwr=>match wr.cell? ⟨b,o+1,none⟩ with|some (.int _ p)=>t.size-p.toNat|_=>0)
    case atStart=>
      exact⟨j.length+1,[],j,rfl,Nat.lt_succ_self _,(λx I=>by cases I),(by have:=XF.len;simp;omega),XF,h2,k2,((Below.refl d.heap.size d).alloc (Cg _) _).size,Lib.IsBuilderF.of (Lib.fresh_isBuilder 231 5 d)⟩
    case round=>
      obtain⟨n,a,l,Iy,hn,z,K,f,Q,R,S,hI⟩:=hrel
      obtain⟨Cs,A,ZK,C,D⟩:=Q
      cases l with
      |nil=>
        rw[Qg] at ZK
        go_wp2
        go_region_o
        go_wp2
        go_ret2
        rw[e,Iy]
        obtain⟨m,rfl⟩:∃m,n=m+1:=⟨n-1,Ω⟩
        exact⟨rfl,⟨Cs,A,ZK,C,D⟩,R.drew⟩
      |cons c l=>
        obtain⟨m,rfl⟩:∃m,n=m+1:=⟨n-1,Ω⟩
        obtain⟨g,L,rfl⟩:=f.at
        have T:=f.len
        have Zo:Bm t ((g.toNat:Int)::l)<t.size:=by
          unfold Bm
          rw[Ox] at T ⊢
          omega
        have App:=Jm f
        have VI:t[Bm t ((g.toNat:Int)::l)]'(Zo)=g:=by
          rw[Array.getElem?_toList,Array.getElem?_eq_getElem Zo] at L
          exact Option.some.inj L
        have hcb:=g.toNat_lt
        generalize hp:Bm t ((g.toNat:Int)::l)=p at *
        have Bou:(p:Int)<t.size:=Ω
        have O:G3 wr (wr.setCell ⟨b,o+1,none⟩ (.int .i64 ((p:Int)+1))).drew.drew b o 2:=((G3.setCell wr b o 2 (o+1) _ Ω Ω Cs).drew).drew
        have U:=R.trans O
        have E:=KJ hI O k
        have Af9:MI (wr.setCell ⟨b,o+1,none⟩ (.int .i64 ((p:Int)+1))).drew.drew b o t l:=by
          refine⟨H2 Cs O.size,?_,?_,?_,?_⟩
          · exact (World.cell?_setCell_other _ _ _ _ (by intro e;injection e;omega)).trans A
          · have:(Bm t l:Int)=(p:Int)+1:=Ω
            rw[this]
            exact World.cell?_setCell_same _ _ _ ZK
          · exact (World.frozen?_setCell _ _ _ _).trans C
          · exact (World.frozen?_setCell _ _ _ _).trans D
        have A0g:d.heap.size<=(wr.setCell ⟨b,o+1,none⟩ (.int .i64 ((p:Int)+1))).drew.drew.heap.size:=Nat.le_trans S O.size
        have V:Jh (m+1) a ((g.toNat:Int)::l)=if (g.toNat:Int)<32 then (none,(g.toNat:Int)::l) else if (g.toNat:Int)=34 then (some a,l) else if (g.toNat:Int)=92 then
            (match Ob l with
             |(some x,r')=>Jh m (a++Lib.encodeRuneZ x) r'
             |(none,r')=>(none,r')) else Jh m (a++[(g.toNat:Int)]) l:=rfl
        rw[V] at Iy
        have Blx:(u8C a).length+4<=140737488355328:=by
          rw[List.length_map]
          omega
        by_cases Bao:(g.toNat:Int)<32
        · rw[Bq Bao] at Iy
          go_wp2
          go_region_o
          go_wp2
          go_region_o
          go_wp2
          go_ret2
          rw[e,Iy]
          exact⟨rfl,⟨Cs,A,by rw[hp];exact ZK,C,D⟩,R.drew.drew⟩
        · rw[Bb Bao] at Iy
          by_cases Bd6:(g.toNat:Int)=34
          · rw[Bq Bd6] at Iy
            go_wp2
            go_region_o
            go_wp2
            go_region_o
            go_wp2_with (go_at_call 165;refine (Any.Builder_String_any_k Am2 Ad9 d.heap.size d.heap.size (a.map λn=>n.toNat.toUInt8) _ (by rw[<-Aby z];exact E) A0g).mono ?_)
            rintro e2 W3 ⟨rfl,_,H,_⟩
            go_wp2
            go_ret2
            rw[e,Iy]
            exact⟨rfl,Af9.below H k,U.below (H.mono v) h.lt⟩
          · rw[Bb Bd6] at Iy
            by_cases Bbo:(g.toNat:Int)=92
            · rw[Bq Bbo] at Iy
              have E3:=Ash f.tail ht Af9
              go_wp2
              go_region_o
              go_wp2
              go_region_o
              go_wp2_with (go_at_call 166;refine E3.mono ?_)
              rintro e2 W3 ⟨rfl,As5,W⟩
              have Rp:=U.trans W
              have X:=KJ E W k
              have Bdq:=Nat.le_trans A0g W.size
              have G:=Ai8 (l:=l) f.tail.B
              have CH:=Yd f.tail
              rcases M:Ob l with⟨oe,le⟩
              rw[M] at As5 Iy G CH
              cases oe with
              |none=>
                go_wp2
                go_ret2
                rw[e,Iy]
                exact⟨rfl,As5,Rp⟩
              |some x=>
                have Rs:=Ahf M
                go_wp2_with (go_at_call 167;refine (Any.Builder_WriteRune_k Alb Ad9 d.heap.size d.heap.size _ x Ω Ω _ X Ω Bdq).mono ?_)
                rintro e3 W4 ⟨rfl,i4,Y,_⟩
                go_wp2
                have Bbv:=As5.below Y k
                have hrl:=Lib.encodeRuneZ_length x
                refine⟨⟨m,a++Lib.encodeRuneZ x,le,Iy,by simp at hn G;omega,P4 z (λy hy=>by have:=Lib.encodeRuneZ_byte x y hy;omega),by simp at K G ⊢;omega,CH,Bbv,Rp.below (Y.mono v) h.lt,Nat.le_trans Bdq Y.size,by rw[Aon];exact Or.inr i4⟩,?_⟩
                have IV:=CH.len
                have hp3:Bm t l<=Bm t le:=by unfold Bm;omega
                have hp4:Bm t le<=t.size:=Nat.sub_le _ _
                simp only[Bbv.c1,ZK,H8]
                omega
            · rw[Bb Bbo] at Iy
              go_wp2
              go_region_o
              go_wp2
              go_region_o
              go_wp2_with (go_at_call 168;refine (Any.Builder_WriteByte_k Am3 Ad9 d.heap.size d.heap.size _ _ _ E Ω A0g).mono ?_)
              rintro e2 W3 ⟨rfl,i3,H,_⟩
              go_wp2
              have As5:=Af9.below H k
              refine⟨⟨m,a++[(g.toNat:Int)],l,Iy,by simp at hn;omega,P4 z (λx I=>by simp at I;omega),by simp at K ⊢;omega,f.tail,As5,U.below (H.mono v) h.lt,Nat.le_trans A0g H.size,by rw[Aon];exact Or.inr i3⟩,?_⟩
              simp only[As5.c1,ZK,H8]
              omega
end
section
open Go Go.RowKit
theorem WD{t:ByteArray}:∀(n:Nat)(a l:Ak),Dw t l->Dw t (Jh n a l).2
  |0,_,_,h=>h
  |_+1,_,[],h=>h
  |n+1,a,c::l,h=>by
    have e:Jh (n+1) a (c::l)=if c<32 then (none,c::l) else if c=34 then (some a,l) else if c=92 then
        (match Ob l with
         |(some x,r')=>Jh n (a++Lib.encodeRuneZ x) r'
         |(none,r')=>(none,r')) else Jh n (a++[c]) l:=rfl
    rw[e]
    split
    · exact h
    split
    · exact h.tail
    split
    · have b:=Yd h.tail
      rcases d:Ob l with⟨o,r⟩
      rw[d] at b
      cases o with
      |none=>exact b
      |some x=>exact WD n _ r b
    · exact WD n _ l h.tail
theorem Hk{t:ByteArray}{l:Ak}(h:Dw t l):Dw t (Dp l).2:=by
 cases l with
 |nil=>exact h
 |cons c l=>
  have e:Dp (c::l)=if c=34 then Jh (l.length+1) [] l else (none,c::l):=rfl
  rw[e];split
  ·exact WD _ _ _ h.tail
  ·exact h
theorem Av9{w w':World}{Y:Nat->Prop}{bt:OB}{vs f:List Value}{us:List Value}{b o:Nat}{a c:Value}(hi:Ins w Y bt [.pbox (vs.map .sc)] us)(g:bt 0 0=some (b,o))(d:G3 w w' b o vs.length)(m:f.length=vs.length)(p:∀j v,f[j]?=some v->w'.cell? ⟨b,o+j,none⟩=some v)(q:∀j,j<vs.length->w'.frozen? ⟨b,o+j,none⟩=false):
  Out w w' Y bt [.pbox (vs.map .sc)] (λ_=>none) ⟨[.sc a,.sc c],[f.map .sc]⟩ [a,c] where
 os:=d.os
 tape:=d.tape
 output:=d.output
 ext:=⟨d.size,λk h r=>d.other k h (λe=>r (by rw[e];exact⟨0,0,o,g⟩)),λk h=>by
  by_cases e:k=b
  ·rw[e];exact d.grow
  ·exact Ku.same (d.other k h e)⟩
 rng:=λk j h s=>by
  by_cases e:k=b
  ·subst e
   have n:j<o\/o+vs.length<=j:=by
    rcases Jt j o with i|i
    ·exact .inl i
    ·rcases Jt j (o+vs.length) with l|l
     ·exact absurd ⟨0,_,rfl,.inr ⟨o,vs.map .sc,g,i,.inl ⟨rfl,by rw[List.length_map];exact l⟩⟩⟩ s
     ·exact .inr l
   exact⟨d.cells j n,d.frz j n⟩
  ·have:=d.other k h e;exact⟨by unfold World.cell?;simp only[this],by unfold World.frozen?;simp only[this]⟩
 vals:=⟨A9.sc a,A9.sc c,trivial⟩
 outs:=⟨⟨b,o,g,by rw[List.length_map,List.length_map,m],f,FP,p,λk h=>q k (by rw[List.length_map,m] at h;exact h)⟩,rfl⟩
 fresh:=λj b o h=>by cases h
 inj:=λj t b o x h=>by cases h
theorem Asj(G:KB)(args:Ae)(d:A8)(h:Axs args=some d):Ej G prog 150 args d:=by
 refine⟨⟨_,Tryz.func150,Κ⟩,λw Y x us hi _ _=>?_⟩;unfold Axs at h;split at h
 rotate_left
 ·cases h
 rename_i t p;cases i:(decide (0<=p)&&decide (p<=t.size)&&Nat.ble t.size 1000000)
 ·rw[i] at h;cases h
 rw[i,cond_true] at h;simp only[Ge,JI] at i;obtain⟨⟨Rx,Dz⟩,l⟩:=i;have l:=Zy l;obtain⟨p,rfl⟩:=Int.eq_ofNat_of_zero_le Rx;rw[H8] at h;have n:Dw t ((Ci t).drop p):=(Dw.all t).drop p
 have Ai2:(Bm t ((Ci t).drop p):Int)=(p:Int):=by
  unfold Bm;rw[List.length_drop,Cb];omega
 have ps:=hi.args
 match us,ps with
 |[u1],ps=>
  obtain⟨b,o,q,rfl,_,D,UP,Eu,f⟩:=ps.1;have CJ:=GE (vs:=[.string t,.int .i64 (p:Int)]) UP;subst CJ;have m:MI w b o t ((Ci t).drop p):=⟨hi.lt b ⟨0,0,o,q⟩,Eu 0 _ rfl,by rw[Ai2];exact Eu 1 _ rfl,f 0 (Nat.zero_lt_succ _),f 1 (Nat.succ_lt_succ (Nat.zero_lt_succ _))⟩
  refine (Ahw n l m).mono ?_
  rintro e w' ⟨rfl,Af9,y⟩
  rcases r:Dp ((Ci t).drop p) with⟨z,k⟩;rw[r] at h Af9
  have A:k.length<=t.size:=by
   have:=Hk n;rw[r] at this;exact this.len
  have Bdb:(Bm t k:Int)=(t.size:Int)-k.length:=by
   unfold Bm;omega
  have TF:∀a c:Value,Out w w' Y x [.pbox ([Value.string t,.int .i64 (p:Int)].map .sc)] (λ_=>none) ⟨[.sc a,.sc c],[[Value.string t,.int .i64 ((t.size:Int)-k.length)].map .sc]⟩ [a,c]:=by
   intro a c;refine Av9 hi q y rfl ?_ ?_
   ·intro j v g
    match j,g with
    |0,g=>cases g;exact Af9.c0
    |1,g=>cases g;rw[<-Bdb];exact Af9.c1
   ·intro j C
    match j,C with
    |0,_=>exact Af9.f0
    |1,_=>exact Af9.f1
  cases z with
  |none=>
   cases h;exact⟨[.string ⟨#[]⟩,.bool false],λ_=>none,rfl,TF _ _⟩
  |some s=>
   cases h;exact⟨[.string (Ab s),.bool true],λ_=>none,rfl,TF _ _⟩
 |[],ps=>exact ps.elim
 |_::_::_,ps=>exact ps.2.elim
end
section
variable {B:FuncId->Option (Ae->Option A8)}(u d:Nat)(F:Ao)
theorem Sk{p:Option (Ae->Option A8)}(u d:Nat)(Z:ByteArray)(Y:Int):Ac (CP p) prog u (d+1) 148 [Z,.sc (.int .u8 Y)]=(λ(F:Ao)=>Gm .i64 (F 163 [Z,.sc (.int .u8 Y)]) λa=>Bd [a]) (Ac (CP p) prog u d):=Κ
def Eh(Z:ByteArray)(Y:Int)(X:Nat)(W:ByteArray)(V:Int):Option A8:=H6 u F 129 Tryz.f129 [.pbox [Z,Y]] [.l] X ⟨lk [(0,.ptr 64000 0)],Fe [(64000,.st [W,V])]⟩
theorem Ho(X:ByteArray)(W:Int)(V:Nat)(Y:ByteArray)(Z:Int):Eh u F X W (V+1) Y Z=(Aq (decide (Z<(↑(ByteArray.size Y):Int))) (Aw (decide (0<=Z))<|Dj ((Array.toList (ByteArray.data Y))[Z.toNat]?) λa=>Gm .i64 (F 148 [Bf ⟨#[32,9,10,13]⟩,.sc (.int .u8 (↑(UInt8.toNat a):Int))]) λa=>Aq (decide (a>=0)) (Aa (wrap .i64 (Z+1)) λa=>Eh u F X W V Y a) (some ⟨[],[[Y,Z]]⟩)) (some ⟨[],[[Y,Z]]⟩)):=Κ
theorem Qy{p:Option (Ae->Option A8)}(u d:Nat)(Z:ByteArray)(Y:Int):Ac (CP p) prog u (d+1) 129 [.pbox [Z,Y]]=(λ(F:Ao)=>Eh u F Z Y u Z Y) (Ac (CP p) prog u d):=Κ
def D5(Z:ByteArray)(Y:Int)(X:Nat)(W:Int)(V:ByteArray)(U:Int):Option A8:=H6 u F 184 Tryz.f184 [.pbox [Z,Y]] [.r,.r,.l,.l] X ⟨lk [(0,.ptr 58000 0),(3,W)],Fe [(58000,.st [V,U])]⟩
theorem Hg(Y:ByteArray)(X:Int)(W:Nat)(Z:Int)(V:ByteArray)(U:Int):D5 u F Y X (W+1) Z V U=(An (F 169 [.pbox [V,U]]) λa b=>Br .u8 a λa=>Ad b λb c=>Ad b λb e=>As b λb=>Br .i64 e λe=>Ah c<|Aq (decide (a>=48)) (An (F 169 [.pbox [b,e]]) λa b=>Br .u8 a λa=>Ad b λb c=>Ad b λb e=>As b λb=>Br .i64 e λe=>Ah c<|Aq (decide (a<=57)) (Aa (wrap .i64 (e+1)) λa=>D5 u F Y X W Z b a) (some ⟨[Cn (decide (e>Z))],[[b,e]]⟩)) (some ⟨[Cn (decide (e>Z))],[[b,e]]⟩)):=Κ
theorem Pu{p:Option (Ae->Option A8)}(u d:Nat)(Y:ByteArray)(Z:Int):Ac (CP p) prog u (d+1) 184 [.pbox [Y,Z]]=(λ(F:Ao)=>D5 u F Y Z u Z Y Z) (Ac (CP p) prog u d):=Κ
theorem Al{p:Option (Ae->Option A8)}(u d:Nat)(Z:ByteArray)(Y:Int):Ac (CP p) prog u (d+1) 171 [.pbox [Z,Y]]=(λ(F:Ao)=>An (F 149 [.pbox [Z,Y],Bf ⟨#[45]⟩]) λa b=>Hm a λa=>Ad b λa b=>Ad a λa c=>As a λa=>Br .i64 c λc=>Ah b<|An (F 149 [.pbox [a,c],Bf ⟨#[48]⟩]) λa b=>Hm a λa=>Ad b λb c=>Ad b λb e=>As b λb=>Br .i64 e λe=>Ah c<|Aq (!a) (An (F 184 [.pbox [b,e]]) λa b=>Hm a λa=>Ad b λb c=>Ad b λb e=>As b λb=>Br .i64 e λe=>Ah c<|Aq (!a) (some ⟨[false],[[b,e]]⟩) (An (F 149 [.pbox [b,e],Bf ⟨#[46]⟩]) λa b=>Hm a λa=>Ad b λb c=>Ad b λb e=>As b λb=>Br .i64 e λe=>Ah c<|Aq a (An (F 184 [.pbox [b,e]]) λa b=>Hm a λa=>Ad b λb c=>Ad b λb e=>As b λb=>Br .i64 e λe=>Ah c<|Aq (!a) (some ⟨[false],[[b,e]]⟩) (An (F 149 [.pbox [b,e],Bf ⟨#[101]⟩]) λa b=>Hm a λa=>Ad b λb c=>Ad b λb e=>As b λb=>Br .i64 e λe=>Ah c<|Aq a (An (F 149 [.pbox [b,e],Bf ⟨#[43]⟩]) λa b=>Hm a λa=>Ad b λb c=>Ad b λb e=>As b λb=>Br .i64 e λe=>Ah c<|Aq (!a) (An (F 149 [.pbox [b,e],Bf ⟨#[45]⟩]) λa b=>Hm a λa=>Ad b λa b=>Ad a λa c=>As a λa=>Br .i64 c λc=>Ah b<|An (F 184 [.pbox [a,c]]) λa b=>Hm a λa=>Ad b λb c=>Ad b λb e=>As b λb=>Br .i64 e λe=>Ah c<|some ⟨[a],[[b,e]]⟩) (An (F 184 [.pbox [b,e]]) λa b=>Hm a λa=>Ad b λb c=>Ad b λb e=>As b λb=>Br .i64 e λe=>Ah c<|some ⟨[a],[[b,e]]⟩)) (An (F 149 [.pbox [b,e],Bf ⟨#[69]⟩]) λa b=>Hm a λa=>Ad b λb c=>Ad b λb e=>As b λb=>Br .i64 e λe=>Ah c<|Aq a (An (F 149 [.pbox [b,e],Bf ⟨#[43]⟩]) λa b=>Hm a λa=>Ad b λb c=>Ad b λb e=>As b λb=>Br .i64 e λe=>Ah c<|Aq (!a) (An (F 149 [.pbox [b,e],Bf ⟨#[45]⟩]) λa b=>Hm a λa=>Ad b λa b=>Ad a λa c=>As a λa=>Br .i64 c λc=>Ah b<|An (F 184 [.pbox [a,c]]) λa b=>Hm a λa=>Ad b λb c=>Ad b λb e=>As b λb=>Br .i64 e λe=>Ah c<|some ⟨[a],[[b,e]]⟩) (An (F 184 [.pbox [b,e]]) λa b=>Hm a λa=>Ad b λb c=>Ad b λb e=>As b λb=>Br .i64 e λe=>Ah c<|some ⟨[a],[[b,e]]⟩)) (some ⟨[true],[[b,e]]⟩)))) (An (F 149 [.pbox [b,e],Bf ⟨#[101]⟩]) λa b=>Hm a λa=>Ad b λb c=>Ad b λb e=>As b λb=>Br .i64 e λe=>Ah c<|Aq a (An (F 149 [.pbox [b,e],Bf ⟨#[43]⟩]) λa b=>Hm a λa=>Ad b λb c=>Ad b λb e=>As b λb=>Br .i64 e λe=>Ah c<|Aq (!a) (An (F 149 [.pbox [b,e],Bf ⟨#[45]⟩]) λa b=>Hm a λa=>Ad b λa b=>Ad a λa c=>As a λa=>Br .i64 c λc=>Ah b<|An (F 184 [.pbox [a,c]]) λa b=>Hm a λa=>Ad b λb c=>Ad b λb e=>As b λb=>Br .i64 e λe=>Ah c<|some ⟨[a],[[b,e]]⟩) (An (F 184 [.pbox [b,e]]) λa b=>Hm a λa=>Ad b λb c=>Ad b λb e=>As b λb=>Br .i64 e λe=>Ah c<|some ⟨[a],[[b,e]]⟩)) (An (F 149 [.pbox [b,e],Bf ⟨#[69]⟩]) λa b=>Hm a λa=>Ad b λb c=>Ad b λb e=>As b λb=>Br .i64 e λe=>Ah c<|Aq a (An (F 149 [.pbox [b,e],Bf ⟨#[43]⟩]) λa b=>Hm a λa=>Ad b λb c=>Ad b λb e=>As b λb=>Br .i64 e λe=>Ah c<|Aq (!a) (An (F 149 [.pbox [b,e],Bf ⟨#[45]⟩]) λa b=>Hm a λa=>Ad b λa b=>Ad a λa c=>As a λa=>Br .i64 c λc=>Ah b<|An (F 184 [.pbox [a,c]]) λa b=>Hm a λa=>Ad b λb c=>Ad b λb e=>As b λb=>Br .i64 e λe=>Ah c<|some ⟨[a],[[b,e]]⟩) (An (F 184 [.pbox [b,e]]) λa b=>Hm a λa=>Ad b λb c=>Ad b λb e=>As b λb=>Br .i64 e λe=>Ah c<|some ⟨[a],[[b,e]]⟩)) (some ⟨[true],[[b,e]]⟩))))) (An (F 149 [.pbox [b,e],Bf ⟨#[46]⟩]) λa b=>Hm a λa=>Ad b λb c=>Ad b λb e=>As b λb=>Br .i64 e λe=>Ah c<|Aq a (An (F 184 [.pbox [b,e]]) λa b=>Hm a λa=>Ad b λb c=>Ad b λb e=>As b λb=>Br .i64 e λe=>Ah c<|Aq (!a) (some ⟨[false],[[b,e]]⟩) (An (F 149 [.pbox [b,e],Bf ⟨#[101]⟩]) λa b=>Hm a λa=>Ad b λb c=>Ad b λb e=>As b λb=>Br .i64 e λe=>Ah c<|Aq a (An (F 149 [.pbox [b,e],Bf ⟨#[43]⟩]) λa b=>Hm a λa=>Ad b λb c=>Ad b λb e=>As b λb=>Br .i64 e λe=>Ah c<|Aq (!a) (An (F 149 [.pbox [b,e],Bf ⟨#[45]⟩]) λa b=>Hm a λa=>Ad b λa b=>Ad a λa c=>As a λa=>Br .i64 c λc=>Ah b<|An (F 184 [.pbox [a,c]]) λa b=>Hm a λa=>Ad b λb c=>Ad b λb e=>As b λb=>Br .i64 e λe=>Ah c<|some ⟨[a],[[b,e]]⟩) (An (F 184 [.pbox [b,e]]) λa b=>Hm a λa=>Ad b λb c=>Ad b λb e=>As b λb=>Br .i64 e λe=>Ah c<|some ⟨[a],[[b,e]]⟩)) (An (F 149 [.pbox [b,e],Bf ⟨#[69]⟩]) λa b=>Hm a λa=>Ad b λb c=>Ad b λb e=>As b λb=>Br .i64 e λe=>Ah c<|Aq a (An (F 149 [.pbox [b,e],Bf ⟨#[43]⟩]) λa b=>Hm a λa=>Ad b λb c=>Ad b λb e=>As b λb=>Br .i64 e λe=>Ah c<|Aq (!a) (An (F 149 [.pbox [b,e],Bf ⟨#[45]⟩]) λa b=>Hm a λa=>Ad b λa b=>Ad a λa c=>As a λa=>Br .i64 c λc=>Ah b<|An (F 184 [.pbox [a,c]]) λa b=>Hm a λa=>Ad b λb c=>Ad b λb e=>As b λb=>Br .i64 e λe=>Ah c<|some ⟨[a],[[b,e]]⟩) (An (F 184 [.pbox [b,e]]) λa b=>Hm a λa=>Ad b λb c=>Ad b λb e=>As b λb=>Br .i64 e λe=>Ah c<|some ⟨[a],[[b,e]]⟩)) (some ⟨[true],[[b,e]]⟩)))) (An (F 149 [.pbox [b,e],Bf ⟨#[101]⟩]) λa b=>Hm a λa=>Ad b λb c=>Ad b λb e=>As b λb=>Br .i64 e λe=>Ah c<|Aq a (An (F 149 [.pbox [b,e],Bf ⟨#[43]⟩]) λa b=>Hm a λa=>Ad b λb c=>Ad b λb e=>As b λb=>Br .i64 e λe=>Ah c<|Aq (!a) (An (F 149 [.pbox [b,e],Bf ⟨#[45]⟩]) λa b=>Hm a λa=>Ad b λa b=>Ad a λa c=>As a λa=>Br .i64 c λc=>Ah b<|An (F 184 [.pbox [a,c]]) λa b=>Hm a λa=>Ad b λb c=>Ad b λb e=>As b λb=>Br .i64 e λe=>Ah c<|some ⟨[a],[[b,e]]⟩) (An (F 184 [.pbox [b,e]]) λa b=>Hm a λa=>Ad b λb c=>Ad b λb e=>As b λb=>Br .i64 e λe=>Ah c<|some ⟨[a],[[b,e]]⟩)) (An (F 149 [.pbox [b,e],Bf ⟨#[69]⟩]) λa b=>Hm a λa=>Ad b λb c=>Ad b λb e=>As b λb=>Br .i64 e λe=>Ah c<|Aq a (An (F 149 [.pbox [b,e],Bf ⟨#[43]⟩]) λa b=>Hm a λa=>Ad b λb c=>Ad b λb e=>As b λb=>Br .i64 e λe=>Ah c<|Aq (!a) (An (F 149 [.pbox [b,e],Bf ⟨#[45]⟩]) λa b=>Hm a λa=>Ad b λa b=>Ad a λa c=>As a λa=>Br .i64 c λc=>Ah b<|An (F 184 [.pbox [a,c]]) λa b=>Hm a λa=>Ad b λb c=>Ad b λb e=>As b λb=>Br .i64 e λe=>Ah c<|some ⟨[a],[[b,e]]⟩) (An (F 184 [.pbox [b,e]]) λa b=>Hm a λa=>Ad b λb c=>Ad b λb e=>As b λb=>Br .i64 e λe=>Ah c<|some ⟨[a],[[b,e]]⟩)) (some ⟨[true],[[b,e]]⟩))))) (Ac (CP p) prog u d):=Κ
def Ei(Z:ByteArray)(Y X:Int)(W:Nat)(V:Int)(U:ByteArray)(T:Int):Option A8:=H6 u F 170 Tryz.f170 [.pbox [Z,Y],X] [.r,.r,.r,.r,.l] W ⟨lk [(0,.ptr 64000 0),(1,V)],Fe [(64000,.st [U,T])]⟩
theorem N3(Y:ByteArray)(X W:Int)(V:Nat)(Z:Int)(U:ByteArray)(T:Int):Ei u F Y X W (V+1) Z U T=(An (F 151 [.pbox [U,T],Z]) λa b=>Ad a λa c=>Dr a λa=>Bw .i64 a λa e=>Ad e λa e=>As a λa=>Hm e λa=>Br .i64 c λa=>Ad b λb c=>Ad b λb e=>As b λb=>Br .i64 e λe=>Ah c<|Aq (a != 0) (some ⟨[a],[[b,e]]⟩) (An (F 129 [.pbox [b,e]]) λa b=>Ah a<|Ad b λa b=>Ad a λa c=>As a λa=>Br .i64 c λc=>Ah b<|An (F 149 [.pbox [a,c],Bf ⟨#[93]⟩]) λa b=>Hm a λa=>Ad b λb c=>Ad b λb e=>As b λb=>Br .i64 e λe=>Ah c<|Aq a (some ⟨[(0:Int)],[[b,e]]⟩) (An (F 149 [.pbox [b,e],Bf ⟨#[44]⟩]) λa b=>Hm a λa=>Ad b λb c=>Ad b λb e=>As b λb=>Br .i64 e λe=>Ah c<|Aq (!a) (some ⟨[(2:Int)],[[b,e]]⟩) (An (F 129 [.pbox [b,e]]) λa b=>Ah a<|Ad b λa b=>Ad a λa c=>As a λa=>Br .i64 c λc=>Ah b<|Ei u F Y X W V Z a c)))):=Κ
theorem Rn{p:Option (Ae->Option A8)}(u d:Nat)(Z:ByteArray)(Y X:Int):Ac (CP p) prog u (d+1) 170 [.pbox [Z,Y],X]=(λ(F:Ao)=>An (F 149 [.pbox [Z,Y],Bf ⟨#[91]⟩]) λa b=>Hm a λa=>Ad b λb c=>Ad b λb e=>As b λb=>Br .i64 e λe=>Ah c<|Aq (!a) (some ⟨[(2:Int)],[[b,e]]⟩) (An (F 129 [.pbox [b,e]]) λa b=>Ah a<|Ad b λa b=>Ad a λa c=>As a λa=>Br .i64 c λc=>Ah b<|An (F 149 [.pbox [a,c],Bf ⟨#[93]⟩]) λa b=>Hm a λa=>Ad b λb c=>Ad b λb e=>As b λb=>Br .i64 e λe=>Ah c<|Aq a (some ⟨[(0:Int)],[[b,e]]⟩) (Ei u F Z Y X u X b e))) (Ac (CP p) prog u d):=Κ
def D6(Z:ByteArray)(Y X:Int)(W:Nat)(V:Int)(U:ByteArray)(T:Int):Option A8:=H6 u F 130 Tryz.f130 [.pbox [Z,Y],X,.sc (Value.map none)] [.r,.r,.r,.r,.l] W ⟨lk [(0,.ptr 128000 0),(1,V),(2,.sc (Value.map none))],Fe [(128000,.st [U,T])]⟩
theorem Np(Y:ByteArray)(X W:Int)(V:Nat)(Z:Int)(U:ByteArray)(T:Int):D6 u F Y X W (V+1) Z U T=(An (F 150 [.pbox [U,T]]) λa b=>Ad a λa c=>As a λa=>Hm c λa=>Ad b λb c=>Ad b λb e=>As b λb=>Br .i64 e λe=>Ah c<|Aq (!a) (some ⟨[(2:Int)],[[b,e]]⟩) (An (F 129 [.pbox [b,e]]) λa b=>Ah a<|Ad b λa b=>Ad a λa c=>As a λa=>Br .i64 c λc=>Ah b<|An (F 149 [.pbox [a,c],Bf ⟨#[58]⟩]) λa b=>Hm a λa=>Ad b λb c=>Ad b λb e=>As b λb=>Br .i64 e λe=>Ah c<|Aq (!a) (some ⟨[(2:Int)],[[b,e]]⟩) (An (F 129 [.pbox [b,e]]) λa b=>Ah a<|Ad b λa b=>Ad a λa c=>As a λa=>Br .i64 c λc=>Ah b<|An (F 151 [.pbox [a,c],Z]) λa b=>Ad a λa c=>Dr a λa=>Bw .i64 a λa e=>Ad e λa e=>As a λa=>Hm e λa=>Br .i64 c λa=>Ad b λb c=>Ad b λb e=>As b λb=>Br .i64 e λe=>Ah c<|Aq (a != 0) (some ⟨[a],[[b,e]]⟩) (An (F 129 [.pbox [b,e]]) λa b=>Ah a<|Ad b λa b=>Ad a λa c=>As a λa=>Br .i64 c λc=>Ah b<|An (F 149 [.pbox [a,c],Bf ⟨#[125]⟩]) λa b=>Hm a λa=>Ad b λb c=>Ad b λb e=>As b λb=>Br .i64 e λe=>Ah c<|Aq a (some ⟨[(0:Int)],[[b,e]]⟩) (An (F 149 [.pbox [b,e],Bf ⟨#[44]⟩]) λa b=>Hm a λa=>Ad b λb c=>Ad b λb e=>As b λb=>Br .i64 e λe=>Ah c<|Aq (!a) (some ⟨[(2:Int)],[[b,e]]⟩) (An (F 129 [.pbox [b,e]]) λa b=>Ah a<|Ad b λa b=>Ad a λa c=>As a λa=>Br .i64 c λc=>Ah b<|D6 u F Y X W V Z a c)))))):=Κ
theorem P8{p:Option (Ae->Option A8)}(u d:Nat)(Z:ByteArray)(Y X:Int):Ac (CP p) prog u (d+1) 130 [.pbox [Z,Y],X,.sc (Value.map none)]=(λ(F:Ao)=>An (F 149 [.pbox [Z,Y],Bf ⟨#[123]⟩]) λa b=>Hm a λa=>Ad b λb c=>Ad b λb e=>As b λb=>Br .i64 e λe=>Ah c<|Aq (!a) (some ⟨[(2:Int)],[[b,e]]⟩) (An (F 129 [.pbox [b,e]]) λa b=>Ah a<|Ad b λa b=>Ad a λa c=>As a λa=>Br .i64 c λc=>Ah b<|An (F 149 [.pbox [a,c],Bf ⟨#[125]⟩]) λa b=>Hm a λa=>Ad b λb c=>Ad b λb e=>As b λb=>Br .i64 e λe=>Ah c<|Aq a (some ⟨[(0:Int)],[[b,e]]⟩) (D6 u F Z Y X u X b e))) (Ac (CP p) prog u d):=Κ
theorem Cu{p:Option (Ae->Option A8)}(u d:Nat)(Y:ByteArray)(X Z:Int):Ac (CP p) prog u (d+1) 151 [.pbox [Y,X],Z]=(λ(F:Ao)=>An (F 169 [.pbox [Y,X]]) λa b=>Br .u8 a λa=>Ad b λb c=>Ad b λb e=>As b λb=>Br .i64 e λe=>(λh:PV=>(λg:Option A8=>(λi:Option A8=>Ah c<|Aq (a==123) i (Aq (a==91) i g)) (Aq (decide (Z>8)) (some ⟨[h,(5:Int)],[[b,e]]⟩) g)) (Aq (a==123) (Aa (wrap .i64 (Z+1)) λa=>An (F 130 [.pbox [b,e],a,.sc (Value.map none)]) λa b=>Br .i64 a λa=>Ad b λb c=>Ad b λb e=>As b λb=>Br .i64 e λe=>Ah c<|some ⟨[.agg [(6:Int),Bf ⟨#[]⟩,false],a],[[b,e]]⟩) (Aq (a==91) (Aa (wrap .i64 (Z+1)) λa=>An (F 170 [.pbox [b,e],a]) λa b=>Br .i64 a λa=>Ad b λb c=>Ad b λb e=>As b λb=>Br .i64 e λe=>Ah c<|some ⟨[.agg [(5:Int),Bf ⟨#[]⟩,false],a],[[b,e]]⟩) (Aq (a==34) (An (F 150 [.pbox [b,e]]) λa b=>Ad a λa c=>As a λa=>Hm c λc=>Ad b λb e=>Ad b λb f=>As b λb=>Br .i64 f λf=>Ah e<|Aq c (some ⟨[.agg [(4:Int),a,false],(0:Int)],[[b,f]]⟩) (some ⟨[h,(2:Int)],[[b,f]]⟩)) (An (F 149 [.pbox [b,e],Bf ⟨#[116,114,117,101]⟩]) λa b=>Hm a λa=>Ad b λb c=>Ad b λb e=>As b λb=>Br .i64 e λe=>Ah c<|Aq a (some ⟨[.agg [(2:Int),Bf ⟨#[]⟩,true],(0:Int)],[[b,e]]⟩) (An (F 149 [.pbox [b,e],Bf ⟨#[102,97,108,115,101]⟩]) λa b=>Hm a λa=>Ad b λb c=>Ad b λb e=>As b λb=>Br .i64 e λe=>Ah c<|Aq a (some ⟨[.agg [(2:Int),Bf ⟨#[]⟩,false],(0:Int)],[[b,e]]⟩) (An (F 149 [.pbox [b,e],Bf ⟨#[110,117,108,108]⟩]) λa b=>Hm a λa=>Ad b λb c=>Ad b λb e=>As b λb=>Br .i64 e λe=>Ah c<|Aq a (some ⟨[.agg [(1:Int),Bf ⟨#[]⟩,false],(0:Int)],[[b,e]]⟩) (An (F 171 [.pbox [b,e]]) λa b=>Hm a λa=>Ad b λb c=>Ad b λb e=>As b λb=>Br .i64 e λe=>Ah c<|Aq a (some ⟨[.agg [(3:Int),Bf ⟨#[]⟩,false],(0:Int)],[[b,e]]⟩) (some ⟨[h,(2:Int)],[[b,e]]⟩))))))))) (.agg [(0:Int),Bf ⟨#[]⟩,false])) (Ac (CP p) prog u d):=Κ
end
theorem A54:∀n:Fin 256,decide (Lib.indexByte [32,9,10,13] (n.val:Int).toNat.toUInt8>=0)=P3 (n.val:Int):=by decide +kernel
theorem Bat{c:Int}(a:0<=c)(b:c<=255):decide (Lib.indexByte [32,9,10,13] c.toNat.toUInt8>=0)=P3 c:=by obtain⟨n,rfl⟩:=Int.eq_ofNat_of_zero_le a;exact A54 ⟨n,Ω⟩
theorem B4{t:ByteArray}:∀{l:Ak},Dw t l->Dw t (Ax l)
 |[],h=>h
 |c::l,h=>by
  unfold Ax;split
  ·exact B4 h.tail
  ·exact h
theorem Ha:∀(l:Ak),(Ax l).length<=l.length
 |[]=>Cg _
 |c::l=>by
  unfold Ax;split
  ·exact Nat.le_succ_of_le (Ha l)
  ·exact Cg _
section
variable {u d:Nat}
theorem Bcm(s:ByteArray)(c:Int):Ac C0 prog u (d+2) 148 [Bf s,.sc (.int .u8 c)]=some ⟨[A0 (Lib.indexByte s.data.toList c.toNat.toUInt8)],[]⟩:=by have e:Ac C0 prog u (d+1) 163 [Bf s,.sc (.int .u8 c)]=some ⟨[A0 (Lib.indexByte s.data.toList c.toNat.toUInt8)],[]⟩:=rfl;rw[Sk];simp only[Av,Au,e]
theorem Abw{t s0:ByteArray}{p0:Int}(ht:t.size<=1000000):∀(r:Ak)(nn:Nat),r.length+1<=nn->Dw t r ->
  Eh u (Ac C0 prog u (d+2)) s0 p0 nn t (Bm t r:Int)=some ⟨[],[Co t (Ax r)]⟩
 |[],nn,i,h=>by
  obtain⟨k,rfl⟩:∃k,nn=k+1:=⟨nn-1,Ω⟩
  have e:decide ((Bm t []:Int)<(t.size:Int))=false:=by simp[Qg]
  rw[Ho];simp only[Av,Au,e];rfl
 |c::r,nn,i,h=>by
  obtain⟨k,rfl⟩:∃k,nn=k+1:=⟨nn-1,Ω⟩
  have n:=Abw (s0:=s0) (p0:=p0) ht r k (by simp at i;omega) h.tail
  have j:=h.B c Ψ;have o:=h.len;have hp:=Jm h
  have p:wrap .i64 ((Bm t (c::r):Int)+1)=(Bm t r:Int):=by
   rw[hp,E0 (by unfold Bm;omega) (by unfold Bm;omega)];omega
  have Zo:Bm t (c::r)<t.size:=by
   unfold Bm;rw[Ox] at o ⊢;omega
  obtain⟨b,g,rfl⟩:=h.at;have e:decide ((Bm t ((b.toNat:Int)::r):Int)<(t.size:Int))=true:=by simp;omega
  have l:decide ((0:Int)<=(Bm t ((b.toNat:Int)::r):Int))=true:=Ψ
  rw[<-H8 (Bm t ((b.toNat:Int)::r))] at g;have m:Ac C0 prog u (d+2) 148 [Bf ⟨#[32,9,10,13]⟩,.sc (.int .u8 (b.toNat:Int))]=some ⟨[A0 (Lib.indexByte [32,9,10,13] (b.toNat:Int).toNat.toUInt8)],[]⟩:=Bcm _ _;have a:=Bat j.1 j.2;rw[Ho];cases f:P3 (b.toNat:Int)
  ·rw[f] at a
   have es:Ax ((b.toNat:Int)::r)=(b.toNat:Int)::r:=by
    show (if P3 _=true then _ else _)=_;rw[f];rfl
   rw[es];simp only[Av,Au,e,l,g,m,a]
  ·rw[f] at a
   have es:Ax ((b.toNat:Int)::r)=Ax r:=by
    show (if P3 _=true then _ else _)=_;rw[f];rfl
   rw[es];simp only[Av,Au,e,l,g,m,a,p,n]
theorem AV{t:ByteArray}{r:Ak}(h:Dw t r)(ht:t.size<=1000000)(Bg:t.size+1<=u):Ac C0 prog u (d+3) 129 [.pbox (Co t r)]=some ⟨[],[Co t (Ax r)]⟩:=by rw[Qy];exact Abw ht r u (by have:=h.len;omega) h
theorem Acq{t:ByteArray}:∀{l:Ak},Dw t l->Dw t (Hp l)
 |[],h=>h
 |c::l,h=>by
  unfold Hp;split
  ·exact Acq h.tail
  ·exact h
theorem Aca:∀(l:Ak),(Hp l).length<=l.length
 |[]=>Cg _
 |c::l=>by
  unfold Hp;split
  ·exact Nat.le_succ_of_le (Aca l)
  ·exact Cg _
theorem Ac5{t s0:ByteArray}{p0 y0:Int}(ht:t.size<=1000000):∀(r:Ak)(nn:Nat),r.length+1<=nn->Dw t r ->
  D5 u (Ac C0 prog u (d+1)) s0 p0 nn y0 t (Bm t r:Int)=some ⟨[Cn (decide ((Bm t (Hp r):Int)>y0))],[Co t (Hp r)]⟩
 |[],nn,i,h=>by
  obtain⟨k,rfl⟩:∃k,nn=k+1:=⟨nn-1,Ω⟩
  have a:Ac C0 prog u (d+1) 169 [.pbox (Co t [])]=some ⟨[.sc (.int .u8 0)],[Co t []]⟩:=U5 (B:=xs0) h;have e:decide ((0:Int)>=48)=false:=rfl;rw[Hg];simp only[Av,Au,a,e];rfl
 |c::r,nn,i,h=>by
  obtain⟨k,rfl⟩:∃k,nn=k+1:=⟨nn-1,Ω⟩
  have j:=Ac5 (s0:=s0) (p0:=p0) (y0:=y0) ht r k (by simp at i;omega) h.tail
  have n:=h.B c Ψ;have o:=h.len;have hp:=Jm h
  have l:wrap .i64 ((Bm t (c::r):Int)+1)=(Bm t r:Int):=by
   rw[hp,E0 (by unfold Bm;omega) (by unfold Bm;omega)];omega
  have a:Ac C0 prog u (d+1) 169 [.pbox (Co t (c::r))]=some ⟨[.sc (.int .u8 c)],[Co t (c::r)]⟩:=U5 (B:=xs0) h;have m:Hp (c::r)=if UJ c=true then Hp r else c::r:=rfl
  rw[Hg,m];by_cases p:48<=c
  ·have f:decide (c>=48)=true:=by simp;omega
   by_cases q:c<=57
   ·have g:decide (c<=57)=true:=by simp;omega
    have b:UJ c=true:=by simp[UJ];omega
    rw[Bq b];simp only[Av,Au,a,f,g,l,j]
   ·have g:decide (c<=57)=false:=by simp;omega
    have b:¬UJ c=true:=by simp[UJ];omega
    rw[Bb b];simp only[Av,Au,a,f,g]
  ·have f:decide (c>=48)=false:=by simp;omega
   have b:¬UJ c=true:=by simp[UJ];omega
   rw[Bb b];simp only[Av,Au,a,f]
def Bbz(t:ByteArray)(r:Ak)(o:Option Ak):A8:=⟨[Cn (o.isSome)],[Co t (o.getD r)]⟩
theorem E6{t:ByteArray}{r:Ak}(h:Dw t r)(ht:t.size<=1000000)(Bg:t.size+1<=u):Ac C0 prog u (d+2) 184 [.pbox (Co t r)]=some (Bbz t r (C7 r)):=by
 rw[Pu];refine (Ac5 ht r u (by have:=h.len;omega) h).trans ?_
 cases r with
 |nil=>
  have e:decide ((Bm t (Hp []):Int)>(Bm t []:Int))=false:=by simp[Hp]
  rw[e];rfl
 |cons c r=>
  have a:=h.len;have hp:=Jm h;have b:Hp (c::r)=if UJ c=true then Hp r else c::r:=rfl
  have f:C7 (c::r)=if UJ c=true then some (Hp r) else none:=rfl
  rw[b,f];have hd:=Aca r;by_cases q:UJ c=true
  ·rw[Bq q,Bq q]
   have e:decide ((Bm t (Hp r):Int)>(Bm t (c::r):Int))=true:=by
    rw[Ox] at a;simp only[gt_iff_lt,JI];unfold Bm;rw[Ox];omega
   rw[e];rfl
  ·rw[Bb q,Bb q];have e:decide ((Bm t (c::r):Int)>(Bm t (c::r):Int))=false:=Ψ
   rw[e];rfl
theorem Ang{t:ByteArray}{r:Ak}(c:UInt8)(h:Dw t r)(ht:t.size<=1000000):Ac C0 prog u (d+3) 149 [.pbox (Co t r),Bf (ByteArray.mk #[c])]=some (Bbz t r (Ar [(c.toNat:Int)] r)):=by
 have f:=c.toNat_lt;have e:=DG (u:=u) (d:=d) (B:=xs0) h ht (w:=[(c.toNat:Int)]) (λx a=>by simp at a;omega) (show 1<=100 by decide)
 have b:Ab [(c.toNat:Int)]=ByteArray.mk #[c]:=by
  show ByteArray.mk #[((c.toNat:Int)).toNat.toUInt8]=_;rw[H8];simp
 rw[b] at e;refine e.trans ?_;cases Ar [(c.toNat:Int)] r<;>rfl
theorem C4(c:Int):∀r:Ak,Ar [c] r=match r with|[]=>none|x::r'=>if x=c then some r' else none
 |[]=>rfl
 |x::r=>by
  unfold Ar;by_cases h:x=c
  ·subst h;rw[Bq (by simp[List.isPrefixOf])];simp
  ·rw[Bb (by simp[List.isPrefixOf];exact λe=>h e.symm)]
   simp[h]
theorem A6{t:ByteArray}{w r r':Ak}(h:Dw t r)(e:Ar w r=some r'):Dw t r':=by
 unfold Ar at e;split at e
 ·cases e;exact h.drop _
 ·cases e
theorem Yg(c:Int)(r:Ak):Ahx c r=(Ar [c] r).getD r:=by
 rw[C4];cases r with
 |nil=>rfl
 |cons x r=>
  show (if x=c then r else x::r)=_;split<;>simp_all
theorem GC(r:Ak):Ato r=match Ar [48] r with|some q=>some q|none=>C7 r:=by
 rw[C4];cases r with
 |nil=>rfl
 |cons x r=>
  show (if x=48 then some r else C7 (x::r))=_;by_cases h:x=48
  ·rw[Bq h];simp[h]
  ·rw[Bb h];simp[h]
theorem AL(r:Ak):HN r=match Ar [46] r with|some q=>(C7 q).bind FB|none=>FB r:=by
 rw[C4];cases r with
 |nil=>rfl
 |cons x r=>
  show (if x=46 then (C7 r).bind FB else FB (x::r))=_;by_cases h:x=46
  ·rw[Bq h];simp[h]
  ·rw[Bb h];simp[h]
def Ru(r:Ak):Option Ak:=match Ar [43] r with|some q=>C7 q|none=>C7 ((Ar [45] r).getD r)
theorem A3s(r:Ak):(match r with|43::r'=>C7 r'|r=>C7 (Ahx 45 r))=Ru r:=by
 unfold Ru;rw[C4 43,<-Yg];split
 ·simp
 ·rename_i a;cases r with
  |nil=>rfl
  |cons x r=>
   by_cases h:x=43
   ·exact absurd (by rw[h]) (a r)
   ·simp[h]
theorem Ts(r:Ak):FB r=match Ar [101] r with|some q=>Ru q|none=>match Ar [69] r with|some q=>Ru q|none=>some r:=by
 rw[C4,C4];cases r with
 |nil=>rfl
 |cons x r=>
  have e:FB (x::r)=if x=101\/x=69 then Ru r else some (x::r):=by
   rw[<-A3s];rfl
  rw[e];by_cases h:x=101
  ·rw[Bq (Or.inl h)];simp[h]
  ·by_cases a:x=69
   ·rw[Bq (Or.inr a)];simp[a]
   ·rw[Bb Ω];simp[h,a]
theorem D9{t:ByteArray}{r r':Ak}(h:Dw t r)(e:C7 r=some r'):Dw t r':=by
 cases r with
 |nil=>cases e
 |cons c r=>
  have a:C7 (c::r)=if UJ c=true then some (Hp r) else none:=rfl
  rw[a] at e;split at e
  ·cases e;exact Acq h.tail
  ·cases e
theorem Di{t:ByteArray}{r:Ak}{o:Option Ak}(h:Dw t r)(a:∀q,o=some q->Dw t q):Dw t (o.getD r):=by
 cases o with
 |none=>exact h
 |some q=>exact a q rfl
end
section
variable {u d:Nat}
theorem Gd{t:ByteArray}{r:Ak}(c:UInt8)(n:Int)(a:(c.toNat:Int)=n)(h:Dw t r)(ht:t.size<=1000000)(b:Ar [n] r=none):Ac C0 prog u (d+3) 149 [.pbox (Co t r),Bf (ByteArray.mk #[c])]=some ⟨[Cn false],[Co t r]⟩:=by subst a;have e:=Ang (u:=u) (d:=d) c h ht;rw[b] at e;exact e
theorem D7{t:ByteArray}{r q:Ak}(c:UInt8)(n:Int)(a:(c.toNat:Int)=n)(h:Dw t r)(ht:t.size<=1000000)(b:Ar [n] r=some q):Ac C0 prog u (d+3) 149 [.pbox (Co t r),Bf (ByteArray.mk #[c])]=some ⟨[Cn true],[Co t q]⟩:=by subst a;have e:=Ang (u:=u) (d:=d) c h ht;rw[b] at e;exact e
theorem S4{t:ByteArray}{r:Ak}(c:UInt8)(n:Int)(a:(c.toNat:Int)=n)(h:Dw t r)(ht:t.size<=1000000):Ac C0 prog u (d+3) 149 [.pbox (Co t r),Bf (ByteArray.mk #[c])]=some ⟨[Cn ((Ar [n] r).isSome)],[Co t ((Ar [n] r).getD r)]⟩:=by subst a;exact Ang (u:=u) (d:=d) c h ht
set_option maxHeartbeats 2000000 in
theorem Azm{t:ByteArray}{r:Ak}(h:Dw t r)(ht:t.size<=1000000)(Bg:t.size+1<=u):∃r',Dw t r'/\Ac C0 prog u (d+4) 171 [.pbox (Co t r)]=some ⟨[Cn ((G0 r).isSome)],[Co t r']⟩/\∀q,G0 r=some q->r'=q:=by
 have f:=S4 (u:=u) (d:=d) 45 45 rfl h ht;have XF:Dw t ((Ar [45] r).getD r):=Di h λq e=>A6 h e;have NX:G0 r=(Ato ((Ar [45] r).getD r)).bind HN:=by rw[<-Yg];rfl
 generalize (Ar [45] r).getD r=z at f XF NX;generalize (Ar [45] r).isSome=C at f;rw[GC] at NX;rcases A:Ar [48] z with _|n
 ·have Sa:=Gd (u:=u) (d:=d) 48 48 rfl XF ht A;rw[A] at NX;have w:=E6 (d:=d+1) XF ht Bg;rcases x:C7 z with _|n
  ·simp only[x] at w NX;have DB:Ac C0 prog u (d+3) 184 [.pbox (Co t z)]=some ⟨[Cn false],[Co t z]⟩:=w;have b:G0 r=none:=NX;refine⟨z,XF,?_,?_⟩
   ·rw[b,Al]
    repeat(with_reducible(first|apply Bl|apply A2|apply Bk|apply A5|apply Bp|apply A1|apply Bj|apply H4);· first|constructor|(simp(disch:=omega)only[H5,f,Sa,DB,Es,Gg]<;>first|constructor|omega)|omega)
    try simp(disch:=omega)only[Aa,f,Sa,DB,Es,Gg]
    try rfl
   ·rw[b];intro q e;cases e
  ·simp only[x] at w NX;have DB:Ac C0 prog u (d+3) 184 [.pbox (Co t z)]=some ⟨[Cn true],[Co t n]⟩:=w;have FY:=D9 XF x;have i:G0 r=HN n:=NX;rw[AL] at i;rcases j:Ar [46] n with _|s
   ·have Ti:=Gd (u:=u) (d:=d) 46 46 rfl FY ht j;rw[j] at i;have Vj:G0 r=FB n:=i;rw[Ts] at Vj;rcases k:Ar [101] n with _|c
    ·have Uo:=Gd (u:=u) (d:=d) 101 101 rfl FY ht k;rw[k] at Vj;rcases l:Ar [69] n with _|c
     ·have IH:=Gd (u:=u) (d:=d) 69 69 rfl FY ht l;have b:G0 r=some n:=by rw[Vj,l]
      refine⟨n,FY,?_,?_⟩
      ·rw[b,Al]
       repeat(with_reducible(first|apply Bl|apply A2|apply Bk|apply A5|apply Bp|apply A1|apply Bj|apply H4);· first|constructor|(simp(disch:=omega)only[H5,f,Sa,DB,Ti,Uo,IH,Es,Gg]<;>first|constructor|omega)|omega)
       try simp(disch:=omega)only[Aa,f,Sa,DB,Ti,Uo,IH,Es,Gg]
       try rfl
      ·rw[b];intro q e;cases e;rfl
     ·have IH:=D7 (u:=u) (d:=d) 69 69 rfl FY ht l;have Oq:=A6 FY l;rw[l] at Vj;simp only at Vj;rcases hp:Ar [43] c with _|a
      ·have Rx:=Gd (u:=u) (d:=d) 43 43 rfl Oq ht hp;have Dz:=S4 (u:=u) (d:=d) 45 45 rfl Oq ht;have Jr:Dw t ((Ar [45] c).getD c):=Di Oq λq e=>A6 Oq e;have b:G0 r=C7 ((Ar [45] c).getD c):=by rw[Vj];unfold Ru;rw[hp]
       generalize (Ar [45] c).getD c=a at Dz Jr b;generalize (Ar [45] c).isSome=y at Dz;have g:Ac C0 prog u (d+3) 184 [.pbox (Co t a)]=some ⟨[Cn ((C7 a).isSome)],[Co t ((C7 a).getD a)]⟩:=E6 (d:=d+1) Jr ht Bg;refine⟨(C7 a).getD a,Di Jr λq e=>D9 Jr e,?_,?_⟩
       ·rw[b,Al]
        repeat(with_reducible(first|apply Bl|apply A2|apply Bk|apply A5|apply Bp|apply A1|apply Bj|apply H4);· first|constructor|(simp(disch:=omega)only[H5,f,Sa,DB,Ti,Uo,IH,Rx,Dz,g,Es,Gg]<;>first|constructor|omega)|omega)
        try simp(disch:=omega)only[Aa,f,Sa,DB,Ti,Uo,IH,Rx,Dz,g,Es,Gg]
        try rfl
       ·rw[b];intro q e;rw[e];rfl
      ·have Rx:=D7 (u:=u) (d:=d) 43 43 rfl Oq ht hp;have Jr:=A6 Oq hp;have b:G0 r=C7 a:=by rw[Vj];unfold Ru;rw[hp]
       have g:Ac C0 prog u (d+3) 184 [.pbox (Co t a)]=some ⟨[Cn ((C7 a).isSome)],[Co t ((C7 a).getD a)]⟩:=E6 (d:=d+1) Jr ht Bg;refine⟨(C7 a).getD a,Di Jr λq e=>D9 Jr e,?_,?_⟩
       ·rw[b,Al]
        repeat(with_reducible(first|apply Bl|apply A2|apply Bk|apply A5|apply Bp|apply A1|apply Bj|apply H4);· first|constructor|(simp(disch:=omega)only[H5,f,Sa,DB,Ti,Uo,IH,Rx,g,Es,Gg]<;>first|constructor|omega)|omega)
        try simp(disch:=omega)only[Aa,f,Sa,DB,Ti,Uo,IH,Rx,g,Es,Gg]
        try rfl
       ·rw[b];intro q e;rw[e];rfl
    ·have Uo:=D7 (u:=u) (d:=d) 101 101 rfl FY ht k;have Oq:=A6 FY k;rw[k] at Vj;simp only at Vj;rcases hp:Ar [43] c with _|a
     ·have Rx:=Gd (u:=u) (d:=d) 43 43 rfl Oq ht hp;have Dz:=S4 (u:=u) (d:=d) 45 45 rfl Oq ht;have Jr:Dw t ((Ar [45] c).getD c):=Di Oq λq e=>A6 Oq e;have b:G0 r=C7 ((Ar [45] c).getD c):=by rw[Vj];unfold Ru;rw[hp]
      generalize (Ar [45] c).getD c=a at Dz Jr b;generalize (Ar [45] c).isSome=y at Dz;have g:Ac C0 prog u (d+3) 184 [.pbox (Co t a)]=some ⟨[Cn ((C7 a).isSome)],[Co t ((C7 a).getD a)]⟩:=E6 (d:=d+1) Jr ht Bg;refine⟨(C7 a).getD a,Di Jr λq e=>D9 Jr e,?_,?_⟩
      ·rw[b,Al]
       repeat(with_reducible(first|apply Bl|apply A2|apply Bk|apply A5|apply Bp|apply A1|apply Bj|apply H4);· first|constructor|(simp(disch:=omega)only[H5,f,Sa,DB,Ti,Uo,Rx,Dz,g,Es,Gg]<;>first|constructor|omega)|omega)
       try simp(disch:=omega)only[Aa,f,Sa,DB,Ti,Uo,Rx,Dz,g,Es,Gg]
       try rfl
      ·rw[b];intro q e;rw[e];rfl
     ·have Rx:=D7 (u:=u) (d:=d) 43 43 rfl Oq ht hp;have Jr:=A6 Oq hp;have b:G0 r=C7 a:=by rw[Vj];unfold Ru;rw[hp]
      have g:Ac C0 prog u (d+3) 184 [.pbox (Co t a)]=some ⟨[Cn ((C7 a).isSome)],[Co t ((C7 a).getD a)]⟩:=E6 (d:=d+1) Jr ht Bg;refine⟨(C7 a).getD a,Di Jr λq e=>D9 Jr e,?_,?_⟩
      ·rw[b,Al]
       repeat(with_reducible(first|apply Bl|apply A2|apply Bk|apply A5|apply Bp|apply A1|apply Bj|apply H4);· first|constructor|(simp(disch:=omega)only[H5,f,Sa,DB,Ti,Uo,Rx,g,Es,Gg]<;>first|constructor|omega)|omega)
       try simp(disch:=omega)only[Aa,f,Sa,DB,Ti,Uo,Rx,g,Es,Gg]
       try rfl
      ·rw[b];intro q e;rw[e];rfl
   ·have Ti:=D7 (u:=u) (d:=d) 46 46 rfl FY ht j;have o:=A6 FY j;rw[j] at i;have i:G0 r=(C7 s).bind FB:=i;have m:=E6 (d:=d+1) o ht Bg;rcases p:C7 s with _|v
    ·rw[p] at m i;have Ta:Ac C0 prog u (d+3) 184 [.pbox (Co t s)]=some ⟨[Cn false],[Co t s]⟩:=m;have b:G0 r=none:=i;refine⟨s,o,?_,?_⟩
     ·rw[b,Al]
      repeat(with_reducible(first|apply Bl|apply A2|apply Bk|apply A5|apply Bp|apply A1|apply Bj|apply H4);· first|constructor|(simp(disch:=omega)only[H5,f,Sa,DB,Ti,Ta,Es,Gg]<;>first|constructor|omega)|omega)
      try simp(disch:=omega)only[Aa,f,Sa,DB,Ti,Ta,Es,Gg]
      try rfl
     ·rw[b];intro q e;cases e
    ·rw[p] at m i;have Ta:Ac C0 prog u (d+3) 184 [.pbox (Co t s)]=some ⟨[Cn true],[Co t v]⟩:=m;have UE:=D9 o p;have Vj:G0 r=FB v:=i;rw[Ts] at Vj;rcases k:Ar [101] v with _|c
     ·have Uo:=Gd (u:=u) (d:=d) 101 101 rfl UE ht k;rw[k] at Vj;rcases l:Ar [69] v with _|c
      ·have IH:=Gd (u:=u) (d:=d) 69 69 rfl UE ht l;have b:G0 r=some v:=by rw[Vj,l]
       refine⟨v,UE,?_,?_⟩
       ·rw[b,Al]
        repeat(with_reducible(first|apply Bl|apply A2|apply Bk|apply A5|apply Bp|apply A1|apply Bj|apply H4);· first|constructor|(simp(disch:=omega)only[H5,f,Sa,DB,Ti,Ta,Uo,IH,Es,Gg]<;>first|constructor|omega)|omega)
        try simp(disch:=omega)only[Aa,f,Sa,DB,Ti,Ta,Uo,IH,Es,Gg]
        try rfl
       ·rw[b];intro q e;cases e;rfl
      ·have IH:=D7 (u:=u) (d:=d) 69 69 rfl UE ht l;have Oq:=A6 UE l;rw[l] at Vj;simp only at Vj;rcases hp:Ar [43] c with _|a
       ·have Rx:=Gd (u:=u) (d:=d) 43 43 rfl Oq ht hp;have Dz:=S4 (u:=u) (d:=d) 45 45 rfl Oq ht;have Jr:Dw t ((Ar [45] c).getD c):=Di Oq λq e=>A6 Oq e;have b:G0 r=C7 ((Ar [45] c).getD c):=by rw[Vj];unfold Ru;rw[hp]
        generalize (Ar [45] c).getD c=a at Dz Jr b;generalize (Ar [45] c).isSome=y at Dz;have g:Ac C0 prog u (d+3) 184 [.pbox (Co t a)]=some ⟨[Cn ((C7 a).isSome)],[Co t ((C7 a).getD a)]⟩:=E6 (d:=d+1) Jr ht Bg;refine⟨(C7 a).getD a,Di Jr λq e=>D9 Jr e,?_,?_⟩
        ·rw[b,Al]
         repeat(with_reducible(first|apply Bl|apply A2|apply Bk|apply A5|apply Bp|apply A1|apply Bj|apply H4);· first|constructor|(simp(disch:=omega)only[H5,f,Sa,DB,Ti,Ta,Uo,IH,Rx,Dz,g,Es,Gg]<;>first|constructor|omega)|omega)
         try simp(disch:=omega)only[Aa,f,Sa,DB,Ti,Ta,Uo,IH,Rx,Dz,g,Es,Gg]
         try rfl
        ·rw[b];intro q e;rw[e];rfl
       ·have Rx:=D7 (u:=u) (d:=d) 43 43 rfl Oq ht hp;have Jr:=A6 Oq hp;have b:G0 r=C7 a:=by rw[Vj];unfold Ru;rw[hp]
        have g:Ac C0 prog u (d+3) 184 [.pbox (Co t a)]=some ⟨[Cn ((C7 a).isSome)],[Co t ((C7 a).getD a)]⟩:=E6 (d:=d+1) Jr ht Bg;refine⟨(C7 a).getD a,Di Jr λq e=>D9 Jr e,?_,?_⟩
        ·rw[b,Al]
         repeat(with_reducible(first|apply Bl|apply A2|apply Bk|apply A5|apply Bp|apply A1|apply Bj|apply H4);· first|constructor|(simp(disch:=omega)only[H5,f,Sa,DB,Ti,Ta,Uo,IH,Rx,g,Es,Gg]<;>first|constructor|omega)|omega)
         try simp(disch:=omega)only[Aa,f,Sa,DB,Ti,Ta,Uo,IH,Rx,g,Es,Gg]
         try rfl
        ·rw[b];intro q e;rw[e];rfl
     ·have Uo:=D7 (u:=u) (d:=d) 101 101 rfl UE ht k;have Oq:=A6 UE k;rw[k] at Vj;simp only at Vj;rcases hp:Ar [43] c with _|a
      ·have Rx:=Gd (u:=u) (d:=d) 43 43 rfl Oq ht hp;have Dz:=S4 (u:=u) (d:=d) 45 45 rfl Oq ht;have Jr:Dw t ((Ar [45] c).getD c):=Di Oq λq e=>A6 Oq e;have b:G0 r=C7 ((Ar [45] c).getD c):=by rw[Vj];unfold Ru;rw[hp]
       generalize (Ar [45] c).getD c=a at Dz Jr b;generalize (Ar [45] c).isSome=y at Dz;have g:Ac C0 prog u (d+3) 184 [.pbox (Co t a)]=some ⟨[Cn ((C7 a).isSome)],[Co t ((C7 a).getD a)]⟩:=E6 (d:=d+1) Jr ht Bg;refine⟨(C7 a).getD a,Di Jr λq e=>D9 Jr e,?_,?_⟩
       ·rw[b,Al]
        repeat(with_reducible(first|apply Bl|apply A2|apply Bk|apply A5|apply Bp|apply A1|apply Bj|apply H4);· first|constructor|(simp(disch:=omega)only[H5,f,Sa,DB,Ti,Ta,Uo,Rx,Dz,g,Es,Gg]<;>first|constructor|omega)|omega)
        try simp(disch:=omega)only[Aa,f,Sa,DB,Ti,Ta,Uo,Rx,Dz,g,Es,Gg]
        try rfl
       ·rw[b];intro q e;rw[e];rfl
      ·have Rx:=D7 (u:=u) (d:=d) 43 43 rfl Oq ht hp;have Jr:=A6 Oq hp;have b:G0 r=C7 a:=by rw[Vj];unfold Ru;rw[hp]
       have g:Ac C0 prog u (d+3) 184 [.pbox (Co t a)]=some ⟨[Cn ((C7 a).isSome)],[Co t ((C7 a).getD a)]⟩:=E6 (d:=d+1) Jr ht Bg;refine⟨(C7 a).getD a,Di Jr λq e=>D9 Jr e,?_,?_⟩
       ·rw[b,Al]
        repeat(with_reducible(first|apply Bl|apply A2|apply Bk|apply A5|apply Bp|apply A1|apply Bj|apply H4);· first|constructor|(simp(disch:=omega)only[H5,f,Sa,DB,Ti,Ta,Uo,Rx,g,Es,Gg]<;>first|constructor|omega)|omega)
        try simp(disch:=omega)only[Aa,f,Sa,DB,Ti,Ta,Uo,Rx,g,Es,Gg]
        try rfl
       ·rw[b];intro q e;rw[e];rfl
 ·have Sa:=D7 (u:=u) (d:=d) 48 48 rfl XF ht A;rw[A] at NX;have FY:=A6 XF A;have i:G0 r=HN n:=NX;rw[AL] at i;rcases j:Ar [46] n with _|s
  ·have Ti:=Gd (u:=u) (d:=d) 46 46 rfl FY ht j;rw[j] at i;have Vj:G0 r=FB n:=i;rw[Ts] at Vj;rcases k:Ar [101] n with _|c
   ·have Uo:=Gd (u:=u) (d:=d) 101 101 rfl FY ht k;rw[k] at Vj;rcases l:Ar [69] n with _|c
    ·have IH:=Gd (u:=u) (d:=d) 69 69 rfl FY ht l;have b:G0 r=some n:=by rw[Vj,l]
     refine⟨n,FY,?_,?_⟩
     ·rw[b,Al]
      repeat(with_reducible(first|apply Bl|apply A2|apply Bk|apply A5|apply Bp|apply A1|apply Bj|apply H4);· first|constructor|(simp(disch:=omega)only[H5,f,Sa,Ti,Uo,IH,Es,Gg]<;>first|constructor|omega)|omega)
      try simp(disch:=omega)only[Aa,f,Sa,Ti,Uo,IH,Es,Gg]
      try rfl
     ·rw[b];intro q e;cases e;rfl
    ·have IH:=D7 (u:=u) (d:=d) 69 69 rfl FY ht l;have Oq:=A6 FY l;rw[l] at Vj;simp only at Vj;rcases hp:Ar [43] c with _|a
     ·have Rx:=Gd (u:=u) (d:=d) 43 43 rfl Oq ht hp;have Dz:=S4 (u:=u) (d:=d) 45 45 rfl Oq ht;have Jr:Dw t ((Ar [45] c).getD c):=Di Oq λq e=>A6 Oq e;have b:G0 r=C7 ((Ar [45] c).getD c):=by rw[Vj];unfold Ru;rw[hp]
      generalize (Ar [45] c).getD c=a at Dz Jr b;generalize (Ar [45] c).isSome=y at Dz;have g:Ac C0 prog u (d+3) 184 [.pbox (Co t a)]=some ⟨[Cn ((C7 a).isSome)],[Co t ((C7 a).getD a)]⟩:=E6 (d:=d+1) Jr ht Bg;refine⟨(C7 a).getD a,Di Jr λq e=>D9 Jr e,?_,?_⟩
      ·rw[b,Al]
       repeat(with_reducible(first|apply Bl|apply A2|apply Bk|apply A5|apply Bp|apply A1|apply Bj|apply H4);· first|constructor|(simp(disch:=omega)only[H5,f,Sa,Ti,Uo,IH,Rx,Dz,g,Es,Gg]<;>first|constructor|omega)|omega)
       try simp(disch:=omega)only[Aa,f,Sa,Ti,Uo,IH,Rx,Dz,g,Es,Gg]
       try rfl
      ·rw[b];intro q e;rw[e];rfl
     ·have Rx:=D7 (u:=u) (d:=d) 43 43 rfl Oq ht hp;have Jr:=A6 Oq hp;have b:G0 r=C7 a:=by rw[Vj];unfold Ru;rw[hp]
      have g:Ac C0 prog u (d+3) 184 [.pbox (Co t a)]=some ⟨[Cn ((C7 a).isSome)],[Co t ((C7 a).getD a)]⟩:=E6 (d:=d+1) Jr ht Bg;refine⟨(C7 a).getD a,Di Jr λq e=>D9 Jr e,?_,?_⟩
      ·rw[b,Al]
       repeat(with_reducible(first|apply Bl|apply A2|apply Bk|apply A5|apply Bp|apply A1|apply Bj|apply H4);· first|constructor|(simp(disch:=omega)only[H5,f,Sa,Ti,Uo,IH,Rx,g,Es,Gg]<;>first|constructor|omega)|omega)
       try simp(disch:=omega)only[Aa,f,Sa,Ti,Uo,IH,Rx,g,Es,Gg]
       try rfl
      ·rw[b];intro q e;rw[e];rfl
   ·have Uo:=D7 (u:=u) (d:=d) 101 101 rfl FY ht k;have Oq:=A6 FY k;rw[k] at Vj;simp only at Vj;rcases hp:Ar [43] c with _|a
    ·have Rx:=Gd (u:=u) (d:=d) 43 43 rfl Oq ht hp;have Dz:=S4 (u:=u) (d:=d) 45 45 rfl Oq ht;have Jr:Dw t ((Ar [45] c).getD c):=Di Oq λq e=>A6 Oq e;have b:G0 r=C7 ((Ar [45] c).getD c):=by rw[Vj];unfold Ru;rw[hp]
     generalize (Ar [45] c).getD c=a at Dz Jr b;generalize (Ar [45] c).isSome=y at Dz;have g:Ac C0 prog u (d+3) 184 [.pbox (Co t a)]=some ⟨[Cn ((C7 a).isSome)],[Co t ((C7 a).getD a)]⟩:=E6 (d:=d+1) Jr ht Bg;refine⟨(C7 a).getD a,Di Jr λq e=>D9 Jr e,?_,?_⟩
     ·rw[b,Al]
      repeat(with_reducible(first|apply Bl|apply A2|apply Bk|apply A5|apply Bp|apply A1|apply Bj|apply H4);· first|constructor|(simp(disch:=omega)only[H5,f,Sa,Ti,Uo,Rx,Dz,g,Es,Gg]<;>first|constructor|omega)|omega)
      try simp(disch:=omega)only[Aa,f,Sa,Ti,Uo,Rx,Dz,g,Es,Gg]
      try rfl
     ·rw[b];intro q e;rw[e];rfl
    ·have Rx:=D7 (u:=u) (d:=d) 43 43 rfl Oq ht hp;have Jr:=A6 Oq hp;have b:G0 r=C7 a:=by rw[Vj];unfold Ru;rw[hp]
     have g:Ac C0 prog u (d+3) 184 [.pbox (Co t a)]=some ⟨[Cn ((C7 a).isSome)],[Co t ((C7 a).getD a)]⟩:=E6 (d:=d+1) Jr ht Bg;refine⟨(C7 a).getD a,Di Jr λq e=>D9 Jr e,?_,?_⟩
     ·rw[b,Al]
      repeat(with_reducible(first|apply Bl|apply A2|apply Bk|apply A5|apply Bp|apply A1|apply Bj|apply H4);· first|constructor|(simp(disch:=omega)only[H5,f,Sa,Ti,Uo,Rx,g,Es,Gg]<;>first|constructor|omega)|omega)
      try simp(disch:=omega)only[Aa,f,Sa,Ti,Uo,Rx,g,Es,Gg]
      try rfl
     ·rw[b];intro q e;rw[e];rfl
  ·have Ti:=D7 (u:=u) (d:=d) 46 46 rfl FY ht j;have o:=A6 FY j;rw[j] at i;have i:G0 r=(C7 s).bind FB:=i;have m:=E6 (d:=d+1) o ht Bg;rcases p:C7 s with _|v
   ·rw[p] at m i;have Ta:Ac C0 prog u (d+3) 184 [.pbox (Co t s)]=some ⟨[Cn false],[Co t s]⟩:=m;have b:G0 r=none:=i;refine⟨s,o,?_,?_⟩
    ·rw[b,Al]
     repeat(with_reducible(first|apply Bl|apply A2|apply Bk|apply A5|apply Bp|apply A1|apply Bj|apply H4);· first|constructor|(simp(disch:=omega)only[H5,f,Sa,Ti,Ta,Es,Gg]<;>first|constructor|omega)|omega)
     try simp(disch:=omega)only[Aa,f,Sa,Ti,Ta,Es,Gg]
     try rfl
    ·rw[b];intro q e;cases e
   ·rw[p] at m i;have Ta:Ac C0 prog u (d+3) 184 [.pbox (Co t s)]=some ⟨[Cn true],[Co t v]⟩:=m;have UE:=D9 o p;have Vj:G0 r=FB v:=i;rw[Ts] at Vj;rcases k:Ar [101] v with _|c
    ·have Uo:=Gd (u:=u) (d:=d) 101 101 rfl UE ht k;rw[k] at Vj;rcases l:Ar [69] v with _|c
     ·have IH:=Gd (u:=u) (d:=d) 69 69 rfl UE ht l;have b:G0 r=some v:=by rw[Vj,l]
      refine⟨v,UE,?_,?_⟩
      ·rw[b,Al]
       repeat(with_reducible(first|apply Bl|apply A2|apply Bk|apply A5|apply Bp|apply A1|apply Bj|apply H4);· first|constructor|(simp(disch:=omega)only[H5,f,Sa,Ti,Ta,Uo,IH,Es,Gg]<;>first|constructor|omega)|omega)
       try simp(disch:=omega)only[Aa,f,Sa,Ti,Ta,Uo,IH,Es,Gg]
       try rfl
      ·rw[b];intro q e;cases e;rfl
     ·have IH:=D7 (u:=u) (d:=d) 69 69 rfl UE ht l;have Oq:=A6 UE l;rw[l] at Vj;simp only at Vj;rcases hp:Ar [43] c with _|a
      ·have Rx:=Gd (u:=u) (d:=d) 43 43 rfl Oq ht hp;have Dz:=S4 (u:=u) (d:=d) 45 45 rfl Oq ht;have Jr:Dw t ((Ar [45] c).getD c):=Di Oq λq e=>A6 Oq e;have b:G0 r=C7 ((Ar [45] c).getD c):=by rw[Vj];unfold Ru;rw[hp]
       generalize (Ar [45] c).getD c=a at Dz Jr b;generalize (Ar [45] c).isSome=y at Dz;have g:Ac C0 prog u (d+3) 184 [.pbox (Co t a)]=some ⟨[Cn ((C7 a).isSome)],[Co t ((C7 a).getD a)]⟩:=E6 (d:=d+1) Jr ht Bg;refine⟨(C7 a).getD a,Di Jr λq e=>D9 Jr e,?_,?_⟩
       ·rw[b,Al]
        repeat(with_reducible(first|apply Bl|apply A2|apply Bk|apply A5|apply Bp|apply A1|apply Bj|apply H4);· first|constructor|(simp(disch:=omega)only[H5,f,Sa,Ti,Ta,Uo,IH,Rx,Dz,g,Es,Gg]<;>first|constructor|omega)|omega)
        try simp(disch:=omega)only[Aa,f,Sa,Ti,Ta,Uo,IH,Rx,Dz,g,Es,Gg]
        try rfl
       ·rw[b];intro q e;rw[e];rfl
      ·have Rx:=D7 (u:=u) (d:=d) 43 43 rfl Oq ht hp;have Jr:=A6 Oq hp;have b:G0 r=C7 a:=by rw[Vj];unfold Ru;rw[hp]
       have g:Ac C0 prog u (d+3) 184 [.pbox (Co t a)]=some ⟨[Cn ((C7 a).isSome)],[Co t ((C7 a).getD a)]⟩:=E6 (d:=d+1) Jr ht Bg;refine⟨(C7 a).getD a,Di Jr λq e=>D9 Jr e,?_,?_⟩
       ·rw[b,Al]
        repeat(with_reducible(first|apply Bl|apply A2|apply Bk|apply A5|apply Bp|apply A1|apply Bj|apply H4);· first|constructor|(simp(disch:=omega)only[H5,f,Sa,Ti,Ta,Uo,IH,Rx,g,Es,Gg]<;>first|constructor|omega)|omega)
        try simp(disch:=omega)only[Aa,f,Sa,Ti,Ta,Uo,IH,Rx,g,Es,Gg]
        try rfl
       ·rw[b];intro q e;rw[e];rfl
    ·have Uo:=D7 (u:=u) (d:=d) 101 101 rfl UE ht k;have Oq:=A6 UE k;rw[k] at Vj;simp only at Vj;rcases hp:Ar [43] c with _|a
     ·have Rx:=Gd (u:=u) (d:=d) 43 43 rfl Oq ht hp;have Dz:=S4 (u:=u) (d:=d) 45 45 rfl Oq ht;have Jr:Dw t ((Ar [45] c).getD c):=Di Oq λq e=>A6 Oq e;have b:G0 r=C7 ((Ar [45] c).getD c):=by rw[Vj];unfold Ru;rw[hp]
      generalize (Ar [45] c).getD c=a at Dz Jr b;generalize (Ar [45] c).isSome=y at Dz;have g:Ac C0 prog u (d+3) 184 [.pbox (Co t a)]=some ⟨[Cn ((C7 a).isSome)],[Co t ((C7 a).getD a)]⟩:=E6 (d:=d+1) Jr ht Bg;refine⟨(C7 a).getD a,Di Jr λq e=>D9 Jr e,?_,?_⟩
      ·rw[b,Al]
       repeat(with_reducible(first|apply Bl|apply A2|apply Bk|apply A5|apply Bp|apply A1|apply Bj|apply H4);· first|constructor|(simp(disch:=omega)only[H5,f,Sa,Ti,Ta,Uo,Rx,Dz,g,Es,Gg]<;>first|constructor|omega)|omega)
       try simp(disch:=omega)only[Aa,f,Sa,Ti,Ta,Uo,Rx,Dz,g,Es,Gg]
       try rfl
      ·rw[b];intro q e;rw[e];rfl
     ·have Rx:=D7 (u:=u) (d:=d) 43 43 rfl Oq ht hp;have Jr:=A6 Oq hp;have b:G0 r=C7 a:=by rw[Vj];unfold Ru;rw[hp]
      have g:Ac C0 prog u (d+3) 184 [.pbox (Co t a)]=some ⟨[Cn ((C7 a).isSome)],[Co t ((C7 a).getD a)]⟩:=E6 (d:=d+1) Jr ht Bg;refine⟨(C7 a).getD a,Di Jr λq e=>D9 Jr e,?_,?_⟩
      ·rw[b,Al]
       repeat(with_reducible(first|apply Bl|apply A2|apply Bk|apply A5|apply Bp|apply A1|apply Bj|apply H4);· first|constructor|(simp(disch:=omega)only[H5,f,Sa,Ti,Ta,Uo,Rx,g,Es,Gg]<;>first|constructor|omega)|omega)
       try simp(disch:=omega)only[Aa,f,Sa,Ti,Ta,Uo,Rx,g,Es,Gg]
       try rfl
      ·rw[b];intro q e;rw[e];rfl
end
theorem Dw.trans{t:ByteArray}{r q:Ak}(h:Dw t r)(k:Dw (Ab r) q):Dw t q:=by obtain⟨a,k⟩:=k;rw[Ct h.B] at k;rw[k] at h;exact h.app
theorem Dw.self{l:Ak}(h:Ce l):Dw (Ab l) l:=⟨[],by rw[Ct h];rfl⟩
theorem Dw.le{l q:Ak}(h:Dw (Ab l) q):q.length<=l.length:=by
 have:=h.len
 rwa [Ai] at this
def Ami(t:ByteArray)(l:Ak)(x:JR (JV × Ak))(a:A8):Prop:=
 match x with
 |.ok (v,q)=>Dw (Ab l) q/\a=⟨[.agg [A0 v.1,Bf (Ab v.2.1),Cn (v.2.2)],A0 0],[Co t q]⟩
 |.error e=>e≠0/\∃c1 c2 b q,Dw t q/\a=⟨[.agg [A0 c1,Bf c2,Cn b],A0 e],[Co t q]⟩
def Bdk(t:ByteArray)(l:Ak)(x:JR Ak)(a:A8):Prop:=
 match x with
 |.ok q=>Dw (Ab l) q/\a=⟨[A0 0],[Co t q]⟩
 |.error e=>e≠0/\∃q,Dw t q/\a=⟨[A0 e],[Co t q]⟩
theorem Auv{α:Type}(a b:Int)(Xd:a≠b)(A B:Ak->α)(C:α)(x:Ak):
  (match Ar [a] x with|some r=>A r|none=>match Ar [b] x with|some r=>B r|none=>C)=(match x with|[]=>C|y::r=>if y=a then A r else if y=b then B r else C):=by
 rw[C4,C4];cases x with
 |nil=>rfl
 |cons y r=>
  by_cases h:y=a
  ·simp[h]
  ·by_cases c:y=b
   ·subst c;simp[h]
   ·simp[h,c]
theorem Ain(V:Ak->JR (JV × Ak))(n:Nat)(l:Ak):YO V (n+1) l=match V l with
  |.error e=>.error e
  |.ok (_,r)=>match Ar [93] (Ax r) with
   |some r'=>.ok r'
   |none=>match Ar [44] (Ax r) with
    |some r'=>YO V n (Ax r')
    |none=>.error 2:=by
 show (match V l with | .error e=>_ | .ok (_,r)=>_)=_;cases V l with
 |error e=>rfl
 |ok x=>
  obtain⟨v,r⟩:=x;simp only;rw[Auv 93 44 Δ (λr'=>Except.ok r') (λr'=>YO V n (Ax r')) (Except.error 2)];cases Ax r with
  |nil=>rfl
  |cons y r=>
   by_cases h:y=93
   ·subst h;rfl
   ·by_cases a:y=44
    ·subst a;rfl
    ·simp only[Bb h,Bb a];split
     ·rename_i e;injection e with b _;exact absurd b h
     ·rename_i e;injection e with b _;exact absurd b a
     ·rfl
section
variable {u d:Nat}
theorem Axf{t s0:ByteArray}{p0 D0 D:Int}(ht:t.size<=1000000)(Bg:t.size+1<=u)(V:Ak->JR (JV × Ak))(HV:∀r,Dw t r->∃a,Ac C0 prog u (d+3) 151 [.pbox (Co t r),A0 D]=some a/\Ami t r (V r) a):∀(n nn:Nat)(l:Ak),l.length+1<=n->l.length+1<=nn->Dw t l ->
  ∃a,Ei u (Ac C0 prog u (d+3)) s0 p0 D0 nn D t (Bm t l:Int)=some a/\Bdk t l (YO V n l) a:=by
 intro n
 induction n with
 |zero=>intro nn l w;omega
 |succ n J=>
  intro nn l N O h;obtain⟨k,rfl⟩:∃k,nn=k+1:=⟨nn-1,Ω⟩
  obtain⟨P,g,z⟩:=HV l h;rw[Ain,N3];cases G:V l with
  |error e=>
   rw[G] at z;obtain⟨H,c1,c2,Q,q,j,rfl⟩:=z;have f:(e != (0:Int))=true:=by simp[H]
   refine⟨⟨[A0 e],[Co t q]⟩,?_,H,q,j,rfl⟩
   repeat(with_reducible(first|apply Bl|apply A2|apply Bk|apply A5|apply Bp|apply Kr|apply A1|apply Bj|apply H4);· first|constructor|(simp(disch:=omega)only[H5,g,f]<;>first|constructor|omega)|omega)
   try simp(disch:=omega)only[Aa,g,f]
  |ok x=>
   obtain⟨v,q⟩:=x;rw[G] at z;obtain⟨j,rfl⟩:=z;have m:=h.trans j;have K:=AV (u:=u) (d:=d) m ht Bg;have RX:Ac C0 prog u (d+3) 129 [.pbox (Co t q)]=some ⟨[],[Co t (Ax q)]⟩:=K;have b:=B4 m;have Bd4:=B4 j;have f:((0:Int) != (0:Int))=false:=rfl;simp only;cases w:Ar [93] (Ax q) with
   |some r'=>
    have i:=D7 (u:=u) (d:=d) 93 93 rfl b ht w;refine⟨⟨[A0 0],[Co t r']⟩,?_,A6 Bd4 w,rfl⟩
    repeat(with_reducible(first|apply Bl|apply A2|apply Bk|apply A5|apply Bp|apply Kr|apply A1|apply Bj|apply H4);· first|constructor|(simp(disch:=omega)only[H5,g,f,RX,i]<;>first|constructor|omega)|omega)
    try simp(disch:=omega)only[Aa,g,f,RX,i]
   |none=>
    have i:=Gd (u:=u) (d:=d) 93 93 rfl b ht w;cases c:Ar [44] (Ax q) with
    |none=>
     have o:=Gd (u:=u) (d:=d) 44 44 rfl b ht c;refine⟨⟨[A0 2],[Co t (Ax q)]⟩,?_,Δ,Ax q,b,rfl⟩
     repeat(with_reducible(first|apply Bl|apply A2|apply Bk|apply A5|apply Bp|apply Kr|apply A1|apply Bj|apply H4);· first|constructor|(simp(disch:=omega)only[H5,g,f,RX,i,o,Gg]<;>first|constructor|omega)|omega)
     try simp(disch:=omega)only[Aa,g,f,RX,i,o,Gg]
    |some r'=>
     have o:=D7 (u:=u) (d:=d) 44 44 rfl b ht c;have I:=A6 b c;have C:=A6 Bd4 c;have p:Ac C0 prog u (d+3) 129 [.pbox (Co t r')]=some ⟨[],[Co t (Ax r')]⟩:=AV (u:=u) (d:=d) I ht Bg
     have L:(Ax r').length+1<=l.length:=by
      have R:=j.le;have S:=Ha q;have T:=Ha r'
      have U:r'.length+1<=(Ax q).length:=by
       rw[C4] at c
       revert c
       cases Ax q with
       |nil=>intro c;cases c
       |cons y s=>
        intro c;simp only at c;split at c
        ·cases c;simp
        ·cases c
      omega
     obtain⟨a,M,A⟩:=J k (Ax r') Ω Ω (B4 I);refine⟨a,?_,?_⟩
     ·skip
      repeat(with_reducible(first|apply Bl|apply A2|apply Bk|apply A5|apply Bp|apply Kr|apply A1|apply Bj|apply H4);· first|constructor|(simp(disch:=omega)only[H5,g,f,RX,i,o,p,Es]<;>first|constructor|omega)|omega)
      try simp(disch:=omega)only[Aa,g,f,RX,i,o,p,Es]
      exact M
     ·simp only;have E:Dw (Ab l) (Ax r'):=B4 C
      revert A
      cases YO V n (Ax r') with
      |error e=>exact id
      |ok W=>exact λA=>⟨E.trans A.1,A.2⟩
end
theorem LS{c:Int}{x r:Ak}(h:Ar [c] x=some r):r.length+1<=x.length:=by
 rw[C4] at h
 revert h
 cases x with
 |nil=>intro h;cases h
 |cons y s=>
  intro h;simp only at h;split at h
  ·cases h;simp
  ·cases h
theorem Ko(V:Ak->JR (JV × Ak))(kp:Bool)(n:Nat)(ms:List (Ak × JV))(l:Ak):P6 V kp (n+1) ms l=match Dp l with
  |(none,_)=>.error 2
  |(some a,r)=>if (kp&&ms.any λm=>m.1==a)=true then .error 10 else match Ar [58] (Ax r) with
   |none=>.error 2
   |some i=>match V (Ax i) with
    |.error e=>.error e
    |.ok (v,c)=>match Ar [125] (Ax c) with
     |some d=>.ok (ms++[(a,v)],d)
     |none=>match Ar [44] (Ax c) with
      |some d=>P6 V kp n (ms++[(a,v)]) (Ax d)
      |none=>.error 2:=by
 show (match A6m V (λa=>kp&&ms.any λm=>m.1==a) l with | .error e=>_ | .ok (m,r)=>_)=_;unfold A6m KY;rcases Dp l with⟨o,r⟩;cases o with
 |none=>rfl
 |some a=>
  simp only;by_cases hd:(kp&&ms.any λm=>m.1==a)=true
  rotate_left
  ·simp only[Bb hd];rw[C4];cases Ax r with
   |nil=>rfl
   |cons y s=>
    by_cases h:y=58
    ·subst h;simp only[if_true];cases V (Ax s) with
     |error e=>rfl
     |ok x=>
      obtain⟨v,c⟩:=x;simp only;rw[C4,C4];cases Ax c with
      |nil=>rfl
      |cons y s=>
       by_cases h:y=125
       ·subst h;simp
       ·by_cases f:y=44
        ·subst f;simp
        ·simp only[Bb h,Bb f];split
         ·rename_i e;injection e with b _;exact absurd b h
         ·rename_i e;injection e with b _;exact absurd b f
         ·rfl
    ·simp only[Bb h];split
     ·rename_i e;split at e
      ·rename_i g;injection g with b _;exact absurd b h
      ·cases e;rfl
     ·rename_i e;split at e
      ·rename_i g;injection g with b _;exact absurd b h
      ·cases e
  ·simp only[Bq hd]
def Bc8{α:Type}(t:ByteArray)(l:Ak)(x:JR (α × Ak))(a:A8):Prop:=
 match x with
 |.ok (_,q)=>Dw (Ab l) q/\a=⟨[A0 0],[Co t q]⟩
 |.error e=>e≠0/\∃q,Dw t q/\a=⟨[A0 e],[Co t q]⟩
section
variable {u d:Nat}
theorem A4m{t:ByteArray}{r:Ak}(h:Dw t r)(ht:t.size<=1000000):Ac C0 prog u (d+1) 150 [.pbox (Co t r)]=some ⟨[Bf (Ab ((Dp r).1.getD [])),Cn ((Dp r).1.isSome)],[Co t (Dp r).2]⟩:=by
 have c:Ac C0 prog u (d+1) 150 [.pbox (Co t r)]=Axs [.pbox (Co t r)]:=rfl;have i:=h.len
 have e:(decide ((0:Int)<=(Bm t r:Int))&&decide ((Bm t r:Int)<=t.size)&&Nat.ble t.size 1000000)=true:=by
  simp only[Ge,JI,Nat.ble_eq];unfold Bm;omega
 have f:(Ci t).drop (Bm t r:Int).toNat=r:=by rw[H8];exact h.eq.symm
 have a:=(Hk h).len;rw[c];unfold Axs;simp only[e,cond_true,f];rcases g:Dp r with⟨o,q⟩;rw[g] at a;have b:(t.size:Int)-q.length=(Bm t q:Int):=by unfold Bm;simp only at a;omega
 cases o with
 |none=>simp only[b];rfl
 |some s=>simp only[b];rfl
theorem Bee{t:ByteArray}{D:Int}(ht:t.size<=1000000)(Bg:t.size+1<=u)(V:Ak->JR (JV × Ak))(HV:∀r,Dw t r->∃a,Ac C0 prog u (d+3) 151 [.pbox (Co t r),A0 D]=some a/\Ami t r (V r) a){l:Ak}(h:Dw t (91::l)):
  ∃a,Ac C0 prog u (d+4) 170 [.pbox (Co t (91::l)),A0 D]=some a/\Bdk t l (LX V l) a:=by
 have c:=D7 (u:=u) (d:=d) (q:=l) 91 91 rfl h ht (by rw[C4];rfl)
 have f:Ac C0 prog u (d+3) 129 [.pbox (Co t l)]=some ⟨[],[Co t (Ax l)]⟩:=AV (u:=u) (d:=d) h.tail ht Bg;have g:=B4 h.tail;have FY:=B4 (Dw.self h.tail.B)
 have eA:LX V l=match Ar [93] (Ax l) with|some r=>.ok r|none=>YO V ((Ax l).length+1) (Ax l):=by
  unfold LX;rw[C4];cases Ax l with
  |nil=>rfl
  |cons y s=>
   by_cases j:y=93
   ·subst j;rfl
   ·simp only[Bb j];split
    ·rename_i e;injection e with n _;exact absurd n j
    ·rfl
 have m:=Rn (p:=none) u (d+3) t (Bm t (91::l):Int) D;rw[eA];cases k:Ar [93] (Ax l) with
 |some r=>
  have b:=D7 (u:=u) (d:=d) 93 93 rfl g ht k;refine⟨⟨[A0 0],[Co t r]⟩,m.trans ?_,A6 FY k,rfl⟩
  repeat(with_reducible(first|apply Bl|apply A2|apply Bk|apply A5|apply Bp|apply A1|apply Bj|apply H4);· first|constructor|(simp(disch:=omega)only[H5,c,f,b,Es]<;>first|constructor|omega)|omega)
  try simp(disch:=omega)only[Aa,c,f,b,Es]
 |none=>
  have b:=Gd (u:=u) (d:=d) 93 93 rfl g ht k;obtain⟨a,o,i⟩:=Axf (u:=u) (d:=d) (s0:=t) (p0:=(Bm t (91::l):Int)) (D0:=D) ht Bg V HV ((Ax l).length+1) u (Ax l) (Cg _) (by have:=g.len;omega) g
  refine⟨a,m.trans ?_,?_⟩
  ·skip
   repeat(with_reducible(first|apply Bl|apply A2|apply Bk|apply A5|apply Bp|apply A1|apply Bj|apply H4);· first|constructor|(simp(disch:=omega)only[H5,c,f,b,Es]<;>first|constructor|omega)|omega)
   try simp(disch:=omega)only[Aa,c,f,b,Es]
   exact o
  ·simp only
   revert i
   cases YO V ((Ax l).length+1) (Ax l) with
   |error e=>exact id
   |ok v=>exact λi=>⟨FY.trans i.1,i.2⟩
end
section
variable {u d:Nat}
theorem Aym{t s0:ByteArray}{p0 D0 D:Int}(ht:t.size<=1000000)(Bg:t.size+1<=u)(V:Ak->JR (JV × Ak))(HV:∀r,Dw t r->∃c,Ac C0 prog u (d+3) 151 [.pbox (Co t r),A0 D]=some c/\Ami t r (V r) c):∀(n nn:Nat)(ms:List (Ak × JV)) (l:Ak),l.length+1<=n->l.length+1<=nn->Dw t l ->
  ∃c,D6 u (Ac C0 prog u (d+3)) s0 p0 D0 nn D t (Bm t l:Int)=some c/\Bc8 t l (P6 V false n ms l) c:=by
 intro n
 induction n with
 |zero=>intro nn ms l A;omega
 |succ n Z=>
  intro nn ms l hn F7 h;obtain⟨k,rfl⟩:∃k,nn=k+1:=⟨nn-1,Ω⟩
  have N:Ac C0 prog u (d+3) 150 [.pbox (Co t l)]=_:=A4m (d:=d+2) h ht;have i:=Hk h;have Af7:=Hk (Dw.self h.B);rw[Ko,Np];rcases hx:Dp l with⟨o,q⟩;rw[hx] at N i Af7;cases o with
  |none=>
   have a:Ac C0 prog u (d+3) 150 [.pbox (Co t l)]=some ⟨[Bf (Ab []),Cn false],[Co t q]⟩:=N;refine⟨⟨[A0 2],[Co t q]⟩,?_,Δ,q,i,rfl⟩
   repeat(with_reducible(first|apply Bl|apply A2|apply Bk|apply A5|apply Bp|apply Kr|apply A1|apply Bj|apply H4);· first|constructor|(simp(disch:=omega)only[H5,a,Gg]<;>first|constructor|omega)|omega)
   try simp(disch:=omega)only[Aa,a,Gg]
  |some O=>
   have a:Ac C0 prog u (d+3) 150 [.pbox (Co t l)]=some ⟨[Bf (Ab O),Cn true],[Co t q]⟩:=N;simp only at i Af7;have RX:Ac C0 prog u (d+3) 129 [.pbox (Co t q)]=some ⟨[],[Co t (Ax q)]⟩:=AV (u:=u) (d:=d) i ht Bg;have NU:=B4 i;have Pt:=B4 Af7;simp only[NT,Bool.false_eq_true,if_false];cases A:Ar [58] (Ax q) with
   |none=>
    have j:=Gd (u:=u) (d:=d) 58 58 rfl NU ht A;refine⟨⟨[A0 2],[Co t (Ax q)]⟩,?_,Δ,Ax q,NU,rfl⟩
    repeat(with_reducible(first|apply Bl|apply A2|apply Bk|apply A5|apply Bp|apply Kr|apply A1|apply Bj|apply H4);· first|constructor|(simp(disch:=omega)only[H5,a,RX,j,Es,Gg]<;>first|constructor|omega)|omega)
    try simp(disch:=omega)only[Aa,a,RX,j,Es,Gg]
   |some K=>
    have j:=D7 (u:=u) (d:=d) 58 58 rfl NU ht A;have ZL:=A6 NU A;have P:=A6 Pt A;have b:Ac C0 prog u (d+3) 129 [.pbox (Co t K)]=some ⟨[],[Co t (Ax K)]⟩:=AV (u:=u) (d:=d) ZL ht Bg;have C:=B4 ZL;have Q:=B4 P;obtain⟨rv,w,L⟩:=HV (Ax K) C;simp only;cases W:V (Ax K) with
    |error e=>
     rw[W] at L;obtain⟨X,c1,c2,c3,Y,m,rfl⟩:=L;have p:(e != (0:Int))=true:=by simp[X]
     refine⟨⟨[A0 e],[Co t Y]⟩,?_,X,Y,m,rfl⟩
     repeat(with_reducible(first|apply Bl|apply A2|apply Bk|apply A5|apply Bp|apply Kr|apply A1|apply Bj|apply H4);· first|constructor|(simp(disch:=omega)only[H5,a,RX,j,b,w,p,Es]<;>first|constructor|omega)|omega)
     try simp(disch:=omega)only[Aa,a,RX,j,b,w,p,Es]
    |ok x=>
     obtain⟨v,z⟩:=x;rw[W] at L;obtain⟨m,rfl⟩:=L;have p:((0:Int) != (0:Int))=false:=rfl;have E:=C.trans m;have R:=Q.trans m;have f:Ac C0 prog u (d+3) 129 [.pbox (Co t z)]=some ⟨[],[Co t (Ax z)]⟩:=AV (u:=u) (d:=d) E ht Bg;have g:=B4 E;have DB:=B4 R;simp only;cases S:Ar [125] (Ax z) with
     |some s=>
      have y:=D7 (u:=u) (d:=d) 125 125 rfl g ht S;refine⟨⟨[A0 0],[Co t s]⟩,?_,A6 DB S,rfl⟩
      repeat(with_reducible(first|apply Bl|apply A2|apply Bk|apply A5|apply Bp|apply Kr|apply A1|apply Bj|apply H4);· first|constructor|(simp(disch:=omega)only[H5,a,RX,j,b,w,p,f,y,Es]<;>first|constructor|omega)|omega)
      try simp(disch:=omega)only[Aa,a,RX,j,b,w,p,f,y,Es]
     |none=>
      have y:=Gd (u:=u) (d:=d) 125 125 rfl g ht S;cases G:Ar [44] (Ax z) with
      |none=>
       have H:=Gd (u:=u) (d:=d) 44 44 rfl g ht G;refine⟨⟨[A0 2],[Co t (Ax z)]⟩,?_,Δ,Ax z,g,rfl⟩
       repeat(with_reducible(first|apply Bl|apply A2|apply Bk|apply A5|apply Bp|apply Kr|apply A1|apply Bj|apply H4);· first|constructor|(simp(disch:=omega)only[H5,a,RX,j,b,w,p,f,y,H,Es,Gg]<;>first|constructor|omega)|omega)
       try simp(disch:=omega)only[Aa,a,RX,j,b,w,p,f,y,H,Es,Gg]
      |some s=>
       have H:=D7 (u:=u) (d:=d) 44 44 rfl g ht G;have I:=A6 g G;have T:=A6 DB G;have J:Ac C0 prog u (d+3) 129 [.pbox (Co t s)]=some ⟨[],[Co t (Ax s)]⟩:=AV (u:=u) (d:=d) I ht Bg
       have hlr:(Ax s).length+1<=l.length:=by
        have e1:=DB.le;have e2:=Ha s;have e3:=LS G;omega
       obtain⟨c,e5,M⟩:=Z k (ms++[(O,v)]) (Ax s) Ω Ω (B4 I);refine⟨c,?_,?_⟩
       ·skip
        repeat(with_reducible(first|apply Bl|apply A2|apply Bk|apply A5|apply Bp|apply Kr|apply A1|apply Bj|apply H4);· first|constructor|(simp(disch:=omega)only[H5,a,RX,j,b,w,p,f,y,H,J,Es]<;>first|constructor|omega)|omega)
        try simp(disch:=omega)only[Aa,a,RX,j,b,w,p,f,y,H,J,Es]
        exact e5
       ·simp only;have U:Dw (Ab l) (Ax s):=B4 T
        revert M
        cases P6 V false n (ms++[(O,v)]) (Ax s) with
        |error e=>exact id
        |ok q2=>exact λM=>⟨U.trans M.1,M.2⟩
theorem Bcp{t:ByteArray}{D:Int}(ht:t.size<=1000000)(Bg:t.size+1<=u)(V:Ak->JR (JV × Ak))(HV:∀r,Dw t r->∃a,Ac C0 prog u (d+3) 151 [.pbox (Co t r),A0 D]=some a/\Ami t r (V r) a){l:Ak}(h:Dw t (123::l)):
  ∃a,Ac C0 prog u (d+4) 130 [.pbox (Co t (123::l)),A0 D,.sc (.map none)]=some a/\Bc8 t l (Ya V false l) a:=by
 have c:=D7 (u:=u) (d:=d) (q:=l) 123 123 rfl h ht (by rw[C4];rfl)
 have f:Ac C0 prog u (d+3) 129 [.pbox (Co t l)]=some ⟨[],[Co t (Ax l)]⟩:=AV (u:=u) (d:=d) h.tail ht Bg;have g:=B4 h.tail;have FY:=B4 (Dw.self h.tail.B)
 have eA:Ya V false l=match Ar [125] (Ax l) with|some r=>.ok ([],r)|none=>P6 V false ((Ax l).length+1) [] (Ax l):=by
  unfold Ya;rw[C4];cases Ax l with
  |nil=>rfl
  |cons y s=>
   by_cases j:y=125
   ·subst j;rfl
   ·simp only[Bb j];split
    ·rename_i e;injection e with n _;exact absurd n j
    ·rfl
 have m:=P8 (p:=none) u (d+3) t (Bm t (123::l):Int) D;rw[eA];cases k:Ar [125] (Ax l) with
 |some r=>
  have b:=D7 (u:=u) (d:=d) 125 125 rfl g ht k;refine⟨⟨[A0 0],[Co t r]⟩,m.trans ?_,A6 FY k,rfl⟩
  repeat(with_reducible(first|apply Bl|apply A2|apply Bk|apply A5|apply Bp|apply Kr|apply A1|apply Bj|apply H4);· first|constructor|(simp(disch:=omega)only[H5,c,f,b,Es]<;>first|constructor|omega)|omega)
  try simp(disch:=omega)only[Aa,c,f,b,Es]
 |none=>
  have b:=Gd (u:=u) (d:=d) 125 125 rfl g ht k;obtain⟨a,o,i⟩:=Aym (u:=u) (d:=d) (s0:=t) (p0:=(Bm t (123::l):Int)) (D0:=D) ht Bg V HV ((Ax l).length+1) u [] (Ax l) (Cg _) (by have:=g.len;omega) g
  refine⟨a,m.trans ?_,?_⟩
  ·skip
   repeat(with_reducible(first|apply Bl|apply A2|apply Bk|apply A5|apply Bp|apply Kr|apply A1|apply Bj|apply H4);· first|constructor|(simp(disch:=omega)only[H5,c,f,b,Es]<;>first|constructor|omega)|omega)
   try simp(disch:=omega)only[Aa,c,f,b,Es]
   exact o
  ·simp only
   revert i
   cases P6 V false ((Ax l).length+1) [] (Ax l) with
   |error e=>exact id
   |ok v=>exact λi=>⟨FY.trans i.1,i.2⟩
end
def KT(l:Ak):JR (JV × Ak):=
 match Ar [116,114,117,101] l with
 |some r=>.ok ((2,[],true),r)
 |none=>match Ar [102,97,108,115,101] l with
  |some r=>.ok ((2,[],false),r)
  |none=>match Ar [110,117,108,108] l with
   |some r=>.ok ((1,[],false),r)
   |none=>match G0 l with
    |some r=>.ok ((3,[],false),r)
    |none=>.error 2
theorem PM(k:Nat){l:Ak}(a:QJ l≠123)(b:QJ l≠91)(c:QJ l≠34):Cx k l=KT l:=by
 unfold Cx;split
 ·exact absurd rfl a
 ·exact absurd rfl b
 ·exact absurd rfl c
 ·rfl
theorem Axr{l r:Ak}(h:Ce l)(e:G0 l=some r):Dw (Ab l) r:=by
 have d:=Dw.self h;have k:G0 l=(Ato (Ahx 45 l)).bind HN:=rfl;rw[k,Yg,GC] at e;have f:Dw (Ab l) ((Ar [45] l).getD l):=Di d λq e=>A6 d e
 have g:∀x q,Dw (Ab l) x->FB x=some q->Dw (Ab l) q:=by
  have i:∀x q,Dw (Ab l) x->Ru x=some q->Dw (Ab l) q:=by
   intro x q a e;unfold Ru at e;split at e
   ·rename_i b;exact D9 (A6 a b) e
   ·exact D9 (Di a λq e=>A6 a e) e
  intro x q a e;rw[Ts] at e;split at e
  ·rename_i b;exact i _ _ (A6 a b) e
  ·split at e
   ·rename_i b;exact i _ _ (A6 a b) e
   ·cases e;exact a
 have j:∀x q,Dw (Ab l) x->HN x=some q->Dw (Ab l) q:=by
  intro x q a e;rw[AL] at e;split at e
  ·rename_i b;obtain⟨y,c,e⟩:=Option.bind_eq_some_iff.1 e;exact g _ _ (D9 (A6 a b) c) e
  ·exact g _ _ a e
 obtain⟨y,c,e⟩:=Option.bind_eq_some_iff.1 e;split at c
 ·rename_i b;cases c;exact j _ _ (A6 f b) e
 ·exact j _ _ (D9 f c) e
section
variable {u d:Nat}
theorem A6h{t:ByteArray}{r:Ak}(w:Ak)(lit:ByteArray)(a:Ab w=lit)(b:Ce w)(c:w.length<=100)(h:Dw t r)(ht:t.size<=1000000):Ac C0 prog u (d+3) 149 [.pbox (Co t r),Bf lit]=some ⟨[Cn ((Ar w r).isSome)],[Co t ((Ar w r).getD r)]⟩:=by subst a;have e:=DG (u:=u) (d:=d) (B:=xs0) h ht (w:=w) b c;refine e.trans ?_;cases Ar w r<;>rfl
theorem Au1{t:ByteArray}(ht:t.size<=1000000)(Bg:t.size+1<=u){D:Int}{l:Ak}(h:Dw t l)(G:QJ l≠123)(H:QJ l≠91)(I:QJ l≠34):∃m,Ac C0 prog u (d+5) 151 [.pbox (Co t l),A0 D]=some m/\Ami t l (KT l) m:=by
 have n:=Cu (p:=none) u (d+4) t (Bm t l:Int) D;have f:Ac C0 prog u (d+4) 169 [.pbox (Co t l)]=some ⟨[.sc (.int .u8 (QJ l))],[Co t l]⟩:=U5 (B:=xs0) (d:=d+3) h;have g:(QJ l==(123:Int))=false:=by simp[G]
 have i:(QJ l==(91:Int))=false:=by simp[H]
 have j:(QJ l==(34:Int))=false:=by simp[I]
 have Azf:=Dw.self h.B;have q:=A6h (u:=u) (d:=d+1) [116,114,117,101] (ByteArray.mk #[116,114,117,101]) rfl (λx o=>by simp at o;omega) Δ h ht
 have s:=A6h (u:=u) (d:=d+1) [102,97,108,115,101] (ByteArray.mk #[102,97,108,115,101]) rfl (λx o=>by simp at o;omega) Δ h ht
 have v:=A6h (u:=u) (d:=d+1) [110,117,108,108] (ByteArray.mk #[110,117,108,108]) rfl (λx o=>by simp at o;omega) Δ h ht
 obtain⟨w,z,J,K⟩:=Azm (u:=u) (d:=d) h ht Bg;have k:Ac C0 prog u (d+4) 171 [.pbox (Co t l)]=some ⟨[Cn ((G0 l).isSome)],[Co t w]⟩:=J;unfold KT;cases A:Ar [116,114,117,101] l with
 |some r=>
  rw[A] at q;have a:Ac C0 prog u (d+4) 149 [.pbox (Co t l),Bf ⟨#[116,114,117,101]⟩]=some ⟨[Cn true],[Co t r]⟩:=q;refine⟨_,n.trans ?_,A6 Azf A,rfl⟩
  repeat(with_reducible(first|apply Bl|apply A2|apply Bk|apply A5|apply Bp|apply A1|apply Bj|apply H4);· first|constructor|(simp(disch:=omega)only[H5,f,g,i,j,a]<;>first|constructor|omega)|omega)
  try simp(disch:=omega)only[Aa,f,g,i,j,a]
  rfl
 |none=>
  rw[A] at q;have a:Ac C0 prog u (d+4) 149 [.pbox (Co t l),Bf ⟨#[116,114,117,101]⟩]=some ⟨[Cn false],[Co t l]⟩:=q;cases C:Ar [102,97,108,115,101] l with
  |some r=>
   rw[C] at s;have b:Ac C0 prog u (d+4) 149 [.pbox (Co t l),Bf ⟨#[102,97,108,115,101]⟩]=some ⟨[Cn true],[Co t r]⟩:=s;refine⟨_,n.trans ?_,A6 Azf C,rfl⟩
   repeat(with_reducible(first|apply Bl|apply A2|apply Bk|apply A5|apply Bp|apply A1|apply Bj|apply H4);· first|constructor|(simp(disch:=omega)only[H5,f,g,i,j,a,b]<;>first|constructor|omega)|omega)
   try simp(disch:=omega)only[Aa,f,g,i,j,a,b]
   rfl
  |none=>
   rw[C] at s;have b:Ac C0 prog u (d+4) 149 [.pbox (Co t l),Bf ⟨#[102,97,108,115,101]⟩]=some ⟨[Cn false],[Co t l]⟩:=s;cases E:Ar [110,117,108,108] l with
   |some r=>
    rw[E] at v;have c:Ac C0 prog u (d+4) 149 [.pbox (Co t l),Bf ⟨#[110,117,108,108]⟩]=some ⟨[Cn true],[Co t r]⟩:=v;refine⟨_,n.trans ?_,A6 Azf E,rfl⟩
    repeat(with_reducible(first|apply Bl|apply A2|apply Bk|apply A5|apply Bp|apply A1|apply Bj|apply H4);· first|constructor|(simp(disch:=omega)only[H5,f,g,i,j,a,b,c]<;>first|constructor|omega)|omega)
    try simp(disch:=omega)only[Aa,f,g,i,j,a,b,c]
    rfl
   |none=>
    rw[E] at v;have c:Ac C0 prog u (d+4) 149 [.pbox (Co t l),Bf ⟨#[110,117,108,108]⟩]=some ⟨[Cn false],[Co t l]⟩:=v;cases y:G0 l with
    |some r=>
     rw[y] at k;have:=K r y;subst this;have e:Ac C0 prog u (d+4) 171 [.pbox (Co t l)]=some ⟨[Cn true],[Co t w]⟩:=k;refine⟨_,n.trans ?_,Axr h.B y,rfl⟩
     repeat(with_reducible(first|apply Bl|apply A2|apply Bk|apply A5|apply Bp|apply A1|apply Bj|apply H4);· first|constructor|(simp(disch:=omega)only[H5,f,g,i,j,a,b,c,e]<;>first|constructor|omega)|omega)
     try simp(disch:=omega)only[Aa,f,g,i,j,a,b,c,e]
     rfl
    |none=>
     rw[y] at k;have e:Ac C0 prog u (d+4) 171 [.pbox (Co t l)]=some ⟨[Cn false],[Co t w]⟩:=k;refine⟨_,n.trans ?_,Δ,0,⟨#[]⟩,false,w,z,rfl⟩
     repeat(with_reducible(first|apply Bl|apply A2|apply Bk|apply A5|apply Bp|apply A1|apply Bj|apply H4);· first|constructor|(simp(disch:=omega)only[H5,f,g,i,j,a,b,c,e]<;>first|constructor|omega)|omega)
     try simp(disch:=omega)only[Aa,f,g,i,j,a,b,c,e]
theorem Ad8(k:Nat)(r:Ak):Cx k (34::r)=match Dp (34::r) with|(some s,q)=>.ok ((4,s,false),q)|(none,_)=>.error 2:=by
 have e:Cx k (34::r)=match KY (34::r) with|none=>.error 2|some (s,r')=>.ok ((4,s,false),r'):=by
  cases k<;>rfl
 rw[e];unfold KY;rcases Dp (34::r) with⟨o,q⟩;cases o<;>rfl
theorem Ahr{t:ByteArray}(ht:t.size<=1000000)(k:Nat){D:Int}{l:Ak}(h:Dw t (34::l)):∃a,Ac C0 prog u (d+5) 151 [.pbox (Co t (34::l)),A0 D]=some a/\Ami t (34::l) (Cx k (34::l)) a:=by
 have i:=Cu (p:=none) u (d+4) t (Bm t (34::l):Int) D;have c:Ac C0 prog u (d+4) 169 [.pbox (Co t (34::l))]=some ⟨[.sc (.int .u8 34)],[Co t (34::l)]⟩:=U5 (B:=xs0) (d:=d+3) h;have Iy:Ac C0 prog u (d+4) 150 [.pbox (Co t (34::l))]=_:=A4m (d:=d+3) h ht;have b:=Hk h;have Af7:=Hk (Dw.self h.B);have e:((34:Int)==(123:Int))=false:=rfl;have f:((34:Int)==(91:Int))=false:=rfl;have g:((34:Int)==(34:Int))=true:=rfl;rw[Ad8];rcases j:Dp (34::l) with⟨o,q⟩;rw[j] at Iy b Af7;cases o with
 |none=>
  have Aug:Ac C0 prog u (d+4) 150 [.pbox (Co t (34::l))]=some ⟨[Bf (Ab []),Cn false],[Co t q]⟩:=Iy;refine⟨_,i.trans ?_,Δ,0,⟨#[]⟩,false,q,b,rfl⟩
  repeat(with_reducible(first|apply Bl|apply A2|apply Bk|apply A5|apply Bp|apply A1|apply Bj|apply H4);· first|constructor|(simp(disch:=omega)only[H5,c,e,f,g,Aug]<;>first|constructor|omega)|omega)
  try simp(disch:=omega)only[Aa,c,e,f,g,Aug]
 |some s=>
  have Aug:Ac C0 prog u (d+4) 150 [.pbox (Co t (34::l))]=some ⟨[Bf (Ab s),Cn true],[Co t q]⟩:=Iy;refine⟨_,i.trans ?_,Af7,rfl⟩
  repeat(with_reducible(first|apply Bl|apply A2|apply Bk|apply A5|apply Bp|apply A1|apply Bj|apply H4);· first|constructor|(simp(disch:=omega)only[H5,c,e,f,g,Aug]<;>first|constructor|omega)|omega)
  try simp(disch:=omega)only[Aa,c,e,f,g,Aug]
theorem Avx{t:ByteArray}(ht:t.size<=1000000)(Bg:t.size+1<=u):∀(k:Nat)(D:Int),D+k=9->1<=D->∀l,Dw t l->∃g,Ac C0 prog u (d+2*k+5) 151 [.pbox (Co t l),A0 D]=some g/\Ami t l (Cx k l) g:=by
 intro k
 induction k with
 |zero=>
  intro D G H l h;by_cases m:QJ l=123
  ·cases l with
   |nil=>cases m
   |cons c l=>
    have i:c=123:=m;subst i;have n:=Cu (p:=none) u (d+4) t (Bm t (123::l):Int) D;have a:Ac C0 prog u (d+4) 169 [.pbox (Co t (123::l))]=some ⟨[.sc (.int .u8 123)],[Co t (123::l)]⟩:=U5 (B:=xs0) (d:=d+3) h;have b:((123:Int)==(123:Int))=true:=rfl;have f:decide (D>8)=true:=by simp;omega
    refine⟨_,n.trans ?_,(by decide:(5:Int)≠0),0,⟨#[]⟩,false,123::l,h,rfl⟩
    repeat(with_reducible(first|apply Bl|apply A2|apply Bk|apply A5|apply Bp|apply A1|apply Bj|apply H4);· first|constructor|(simp(disch:=omega)only[H5,a,b,f]<;>first|constructor|omega)|omega)
    try simp(disch:=omega)only[Aa,a,b,f]
  ·by_cases i:QJ l=91
   ·cases l with
    |nil=>cases i
    |cons c l=>
     have j:c=91:=i;subst j;have n:=Cu (p:=none) u (d+4) t (Bm t (91::l):Int) D;have a:Ac C0 prog u (d+4) 169 [.pbox (Co t (91::l))]=some ⟨[.sc (.int .u8 91)],[Co t (91::l)]⟩:=U5 (B:=xs0) (d:=d+3) h;have v:((91:Int)==(123:Int))=false:=rfl;have b:((91:Int)==(91:Int))=true:=rfl;have f:decide (D>8)=true:=by simp;omega
     refine⟨_,n.trans ?_,(by decide:(5:Int)≠0),0,⟨#[]⟩,false,91::l,h,rfl⟩
     repeat(with_reducible(first|apply Bl|apply A2|apply Bk|apply A5|apply Bp|apply A1|apply Bj|apply H4);· first|constructor|(simp(disch:=omega)only[H5,a,v,b,f]<;>first|constructor|omega)|omega)
     try simp(disch:=omega)only[Aa,a,v,b,f]
   ·by_cases j:QJ l=34
    ·cases l with
     |nil=>cases j
     |cons c l=>
      have z:c=34:=j;subst z;exact Ahr ht 0 h
    ·rw[PM 0 m i j];exact Au1 ht Bg h m i j
 |succ k I=>
  intro D G H l h;have HV:=I (D+1) Ω Ω;by_cases m:QJ l=123
  ·cases l with
   |nil=>cases m
   |cons c l=>
    have i:c=123:=m;subst i;have n:=Cu (p:=none) u (d+2*(k+1)+4) t (Bm t (123::l):Int) D;have a:Ac C0 prog u (d+2*(k+1)+4) 169 [.pbox (Co t (123::l))]=some ⟨[.sc (.int .u8 123)],[Co t (123::l)]⟩:=U5 (B:=xs0) (d:=d+2*(k+1)+3) h;have b:((123:Int)==(123:Int))=true:=rfl;have f:decide (D>8)=false:=by simp;omega
    have o:wrap .i64 (D+1)=D+1:=Bc;obtain⟨g,A,r⟩:=Bcp (u:=u) (d:=d+2*k+2) (D:=D+1) ht Bg (Cx k) HV h;have s:Ac C0 prog u (d+2*(k+1)+4) 130 [.pbox (Co t (123::l)),A0 (D+1),.sc (.map none)]=some g:=A;have C:Cx (k+1) (123::l)=match Ya (Cx k) false l with | .error e=>.error e | .ok (_,r')=>.ok ((6,[],false),r'):=rfl
    rw[C];cases y:Ya (Cx k) false l with
    |error e=>
     rw[y] at r;obtain⟨E,q,w,rfl⟩:=r;refine⟨_,n.trans ?_,E,6,⟨#[]⟩,false,q,w,rfl⟩
     repeat(with_reducible(first|apply Bl|apply A2|apply Bk|apply A5|apply Bp|apply A1|apply Bj|apply H4);· first|constructor|(simp(disch:=omega)only[H5,a,b,f,o,s]<;>first|constructor|omega)|omega)
     try simp(disch:=omega)only[Aa,a,b,f,o,s]
    |ok x=>
     obtain⟨J,q⟩:=x;rw[y] at r;obtain⟨w,rfl⟩:=r;refine⟨_,n.trans ?_,(Dw.self h.B).tail.trans w,rfl⟩
     repeat(with_reducible(first|apply Bl|apply A2|apply Bk|apply A5|apply Bp|apply A1|apply Bj|apply H4);· first|constructor|(simp(disch:=omega)only[H5,a,b,f,o,s]<;>first|constructor|omega)|omega)
     try simp(disch:=omega)only[Aa,a,b,f,o,s]
     rfl
  ·by_cases i:QJ l=91
   ·cases l with
    |nil=>cases i
    |cons c l=>
     have j:c=91:=i;subst j;have n:=Cu (p:=none) u (d+2*(k+1)+4) t (Bm t (91::l):Int) D;have a:Ac C0 prog u (d+2*(k+1)+4) 169 [.pbox (Co t (91::l))]=some ⟨[.sc (.int .u8 91)],[Co t (91::l)]⟩:=U5 (B:=xs0) (d:=d+2*(k+1)+3) h;have v:((91:Int)==(123:Int))=false:=rfl;have b:((91:Int)==(91:Int))=true:=rfl;have f:decide (D>8)=false:=by simp;omega
     have o:wrap .i64 (D+1)=D+1:=Bc;obtain⟨g,A,r⟩:=Bee (u:=u) (d:=d+2*k+2) (D:=D+1) ht Bg (Cx k) HV h;have s:Ac C0 prog u (d+2*(k+1)+4) 170 [.pbox (Co t (91::l)),A0 (D+1)]=some g:=A;have C:Cx (k+1) (91::l)=match LX (Cx k) l with | .error e=>.error e | .ok r'=>.ok ((5,[],false),r'):=rfl
     rw[C];cases y:LX (Cx k) l with
     |error e=>
      rw[y] at r;obtain⟨E,q,w,rfl⟩:=r;refine⟨_,n.trans ?_,E,5,⟨#[]⟩,false,q,w,rfl⟩
      repeat(with_reducible(first|apply Bl|apply A2|apply Bk|apply A5|apply Bp|apply A1|apply Bj|apply H4);· first|constructor|(simp(disch:=omega)only[H5,a,v,b,f,o,s]<;>first|constructor|omega)|omega)
      try simp(disch:=omega)only[Aa,a,v,b,f,o,s]
     |ok q=>
      rw[y] at r;obtain⟨w,rfl⟩:=r;refine⟨_,n.trans ?_,(Dw.self h.B).tail.trans w,rfl⟩
      repeat(with_reducible(first|apply Bl|apply A2|apply Bk|apply A5|apply Bp|apply A1|apply Bj|apply H4);· first|constructor|(simp(disch:=omega)only[H5,a,v,b,f,o,s]<;>first|constructor|omega)|omega)
      try simp(disch:=omega)only[Aa,a,v,b,f,o,s]
      rfl
   ·by_cases j:QJ l=34
    ·cases l with
     |nil=>cases j
     |cons c l=>
      have z:c=34:=j;subst z;exact Ahr (d:=d+2*(k+1)) ht (k+1) h
    ·rw[PM (k+1) m i j];exact Au1 (d:=d+2*(k+1)) ht Bg h m i j
end
section
open Go.Shelf Go.RowKit Go.Lib
theorem Anh(G:KB)(args:Ae)(a:A8)(h:Ah5 args=some a):Ej G prog 176 args a:=by
 refine⟨⟨_,Tryz.func176,Κ⟩,λw Y o us hi _ _=>?_⟩;unfold Ah5 at h;split at h
 rotate_left
 ·cases h
 rename_i s p;cases c:(Nat.ble p.size 1000&&p.data.toList.all (λb=>decide (b.toNat<128))&&decide (s.size<=1000000000))
 ·rw[c] at h;cases h
 rw[c,cond_true] at h;cases h;rw[Ge,Ge] at c;obtain⟨⟨d,i⟩,f⟩:=c;have d:=Zy d;have f:=of_decide_eq_true f;have ps:=hi.args
 match us,ps with
 |[u1,g],ps=>
  obtain⟨⟨_,j⟩,⟨_,k⟩,_⟩:=ps;have l:u1=.string s:=A9.val (show A9 w _ (Bf s) u1 from j);have m:g=.string p:=A9.val (show A9 w _ (Bf p) g from k);subst l m;refine (Any.strings_Trim_laid Alh Κ s p w Ω Ω (ascii_of_all i)).mono ?_
  rintro e w' ⟨rfl,n⟩
  exact⟨[.string ⟨(Lib.trimS s.data.toList p.data.toList).toArray⟩],λ_=>none,rfl,Zc n rfl⟩
 |[],ps=>exact ps.elim
 |[_],ps=>exact ps.2.elim
 |_::_::_::_,ps=>exact ps.2.2.elim
end
section
open Go.Shelf Go.RowKit Go.Lib
def Bce:Go.Shelf.Ren:=⟨λ|196=>103|259=>128|n=>n,λ|0=>0|3=>3|4=>4|5=>5|9=>9|12=>12|46=>103|53=>34|119=>184|138=>186|139=>187|n=>n,λ|3=>0|4=>1|n=>n⟩
theorem laysVS:Lays.n196 prog Bce:={
 mixed:=Κ
 f196:=Tryz.func103.trans (congrArg some Κ)
 f259:=Tryz.func128.trans (congrArg some Κ)
 t0:=Tryz.underlying0
 a0:=Tryz.isAgg0
 z0:=Tryz.sizeOf0
 v0:=Tryz.zeroValue0
 t3:=Tryz.underlying3
 a3:=Tryz.isAgg3
 z3:=Tryz.sizeOf3
 v3:=Tryz.zeroValue3
 t4:=Tryz.underlying4
 a4:=Tryz.isAgg4
 z4:=Tryz.sizeOf4
 v4:=Tryz.zeroValue4
 t5:=Tryz.underlying5
 a5:=Tryz.isAgg5
 z5:=Tryz.sizeOf5
 v5:=Tryz.zeroValue5
 t9:=Tryz.underlying9
 a9:=Tryz.isAgg9
 z9:=Tryz.sizeOf9
 v9:=Tryz.zeroValue9
 t12:=Tryz.underlying12
 a12:=Tryz.isAgg12
 z12:=Tryz.sizeOf12
 v12:=Tryz.zeroValue12
 t46:=Tryz.underlying103
 a46:=Tryz.isAgg103
 z46:=Tryz.sizeOf103
 v46:=Tryz.zeroValue103
 t53:=Tryz.underlying34
 a53:=Tryz.isAgg34
 z53:=Tryz.sizeOf34
 v53:=Tryz.zeroValue34
 t119:=Tryz.underlying184
 a119:=Tryz.isAgg184
 z119:=Tryz.sizeOf184
 t138:=Tryz.underlying186
 a138:=Tryz.isAgg186
 z138:=Tryz.sizeOf186
 v138:=Tryz.zeroValue186
 t139:=Tryz.underlying187
 a139:=Tryz.isAgg187
 z139:=Tryz.sizeOf187
 v139:=Tryz.zeroValue187
 g3:=Κ
 g4:=by kernel_rfl }
def gU:KB:=⟨λb=>b=0\/b=1,λw=>0<w.heap.size/\1<w.heap.size/\Lib.Utf8Tabs 0 1 w,λw w' h ⟨s1,s2,j,k⟩=>by
 have e:=h _ (.inl rfl) s1;have f:=h _ (.inr rfl) s2
 have g:∀b,b<w.heap.size->w'.heap[b]?=w.heap[b]?->b<w'.heap.size:=by
  intro b l d;rw[Array.getElem?_eq_getElem l] at d;rcases Jt b w'.heap.size with q|q
  ·exact q
  ·rw[Array.getElem?_eq_none q] at d;cases d
 refine⟨g _ s1 e,g _ s2 f,λc m=>?_,λi hi=>?_⟩
 ·have:=j c m;unfold World.cell? at this ⊢;simp only[e] at this ⊢;exact this
 ·obtain⟨a,b⟩:=k i hi;unfold World.cell? at a b ⊢;simp only[f] at a b ⊢;exact⟨a,b⟩⟩
theorem Aim(args:Ae)(a:A8)(h:XL args=some a):Ej gU prog 103 args a:=by
 refine⟨⟨_,Tryz.func103,Κ⟩,λw Y i us hi b _=>?_⟩;unfold XL at h;split at h
 rotate_left
 ·cases h
 rename_i s;cases c:decide (s.size<=9223372036854775807)
 ·rw[c] at h;cases h
 rw[c] at h;cases h;have d:=of_decide_eq_true c;have ps:=hi.args
 match us,ps with
 |[u],ps=>
  have f:u=.string s:=by
   have:A9 w _ (Bf s) u:=ps.1.2;exact this.val
  subst f;refine (Any.utf8_ValidString laysVS s w d b.2.2).mono ?_
  rintro e w' ⟨rfl,g⟩
  exact⟨[.bool (Lib.validD s.data.toList)],λ_=>none,rfl,Zc g rfl⟩
 |[],ps=>exact ps.elim
 |_::_::_,ps=>exact ps.2.elim
theorem A4l{p:Option (Ae->Option A8)}(hp:∀g,p=some g->∀args a,g args=some a->Ej gU prog 62 args a):Aci gU prog (CP p):=by
 intro f g args a o c;have b:(bif LW.any (Nat.beq f) then none else Aff p f)=some g:=o;cases m:LW.any (Nat.beq f)
 rotate_left
 ·rw[m,cond_true] at b;cases b
 rw[m,cond_false] at b;unfold Aff at b;cases d:Nat.beq f 62
 rotate_left
 ·rw[d,cond_true] at b;rw[El d];exact hp g b args a c
 rw[d,cond_false] at b;have DT:Aw3 f=some g:=b;unfold Aw3 at DT;cases e:Nat.beq f 103
 rotate_left
 ·rw[e,cond_true] at DT;cases DT;rw[El e];exact Aim args a c
 rw[e,cond_false] at DT;cases h:Nat.beq f 37
 rotate_left
 ·rw[h,cond_true] at DT;cases DT;rw[El h];exact Amx c
 rw[h,cond_false] at DT;cases i:Nat.beq f 163
 rotate_left
 ·rw[i,cond_true] at DT;cases DT;rw[El i];exact Atg gU args a c
 rw[i,cond_false] at DT;cases j:Nat.beq f 202
 rotate_left
 ·rw[j,cond_true] at DT;cases DT;rw[El j];exact Aqy gU args a c
 rw[j,cond_false] at DT;cases k:Nat.beq f 176
 rotate_left
 ·rw[k,cond_true] at DT;cases DT;rw[El k];exact Anh gU args a c
 rw[k,cond_false] at DT;cases l:Nat.beq f 150
 rotate_left
 ·rw[l,cond_true] at DT;cases DT;rw[El l];exact Asj gU args a c
 rw[l,cond_false] at DT;cases n:Nat.beq f 1000000
 ·rw[n,cond_false] at DT;cases DT
 ·rw[n,cond_true] at DT;cases DT;cases c
theorem A7g:Aci gU prog C0:=A4l (λ_ h=>by cases h)
end
section
open Go Go.RowKit
def FA(v:JV):Value:=.agg #[.int .i64 v.1,.string (Ab v.2.1),.bool v.2.2]
def N4:Nat->List (Ak × JV)->List MapEntry
 |_,[]=>[]
 |i,m::r=>{ key:=.string (Ab m.1),val:=FA m.2,born:=i }::N4 (i+1) r
theorem Aa5:∀(i:Nat)(a b:List (Ak × JV)),N4 i (a++b)=N4 i a++N4 (i+a.length) b
 |_,[],_=>rfl
 |i,m::r,b=>by
  show _::N4 (i+1) (r++b)=_;rw[Aa5 (i+1) r b];show _=_::(N4 (i+1) r++N4 (i+(r.length+1)) b);rw[show i+1+r.length=i+(r.length+1) by omega]
def Ji(nm:Ak)(ms:List (Ak × JV)):Option JV:=(ms.find? λm=>m.1==nm).map (·.2)
theorem RA{a b:Ak}(c:Ce a)(d:Ce b)(h:Ab a=Ab b):a=b:=by
 have:=congrArg Ci h
 rwa [Ct c,Ct d] at this
theorem Ax0(a b:ByteArray):(a==b)=decide (a=b):=by
 have e:(a==b)=(a.data==b.data):=by
  cases a;cases b;rfl
 rw[e,Bool.eq_iff_iff,beq_iff_eq,decide_eq_true_iff];constructor
 ·intro h;cases a;cases b;exact congrArg ByteArray.mk h
 ·intro h;rw[h]
theorem EO{nm:Ak}(a:Ce nm):∀(ms:List (Ak × JV)) (i j:Nat),(∀m∈ms,Ce m.1)->∃r,Instr.findNow .string (.string (Ab nm)) (N4 i ms) j=some r/\(match Ji nm ms with|none=>r=none|some v=>∃k,r=some (k,FA v))
 |[],_,_,_=>⟨none,rfl,rfl⟩
 |m::r,i,j,b=>by
  by_cases h:m.1=nm
  ·refine⟨some (j,FA m.2),?_,?_⟩
   ·show (match Instr.sameNow .string (.string (Ab nm)) (.string (Ab m.1)) with|some true=>some (some (j,FA m.2))|some false=>Instr.findNow .string (.string (Ab nm)) (N4 (i+1) r) (j+1)|none=>none)=_
    have e:Instr.sameNow .string (.string (Ab nm)) (.string (Ab m.1))=some true:=by
     show some (Ab nm==Ab m.1)=some true;rw[h,Ax0];simp
    rw[e]
   ·have e:Ji nm (m::r)=some m.2:=by
     unfold Ji;rw[List.find?_cons_of_pos (by simp[h])];rfl
    rw[e];exact⟨j,rfl⟩
  ·obtain⟨q,c,d⟩:=EO a r (i+1) (j+1) λm f=>b m (Yh _ f);refine⟨q,?_,?_⟩
   ·show (match Instr.sameNow .string (.string (Ab nm)) (.string (Ab m.1)) with|some true=>some (some (j,FA m.2))|some false=>Instr.findNow .string (.string (Ab nm)) (N4 (i+1) r) (j+1)|none=>none)=_
    have e:Instr.sameNow .string (.string (Ab nm)) (.string (Ab m.1))=some false:=by
     show some (Ab nm==Ab m.1)=some false;have:Ab nm≠Ab m.1:=λe=>h (RA a (b m (IQ ..)) e).symm;rw[Ax0];simp[this]
    rw[e];exact c
   ·have e:Ji nm (m::r)=Ji nm r:=by
     unfold Ji;rw[List.find?_cons_of_neg (by simp[h])]
    rw[e];exact d
def XV(w:World)(b:Nat)(ms:List (Ak × JV)):Prop:=w.heap[b]?=some (.map (N4 0 ms).toArray ms.length)
theorem VN{w:World}{b:Nat}{ms:List (Ak × JV)}(h:XV w b ms):(getObj b).run prog w=.ok (.map (N4 0 ms).toArray ms.length) w:=by simp[getObj,Sem.run,show w.heap[b]?=_ from h]
def Ajh(nm:Ak)(ms:List (Ak × JV)):Value:=match Ji nm ms with|some v=>FA v|none=>FA (0,[],false)
theorem WC{w:World}{b:Nat}{ms:List (Ak × JV)}(h:XV w b ms)(l:∀m∈ms,Ce m.1){nm:Ak}(o:Ce nm)(ok:Bool):(Instr.lookup 152 (.map (some b)) (.string (Ab nm)) ok).run prog w=.ok (if ok then .tuple #[Ajh nm ms,.bool (Ji nm ms).isSome] else Ajh nm ms) w:=by
 have f:=run_underlying (w:=w) Tryz.underlying152;have d:=run_underlying (w:=w) Tryz.underlying9;have e:∀c (n:Nat),(Instr.checkKey c (n+1) 9 (.string (Ab nm))).run prog w=.ok () w:=λc n=>by simp[Instr.checkKey,d]
 have g:∀c,(Instr.checkKey c 10000 9 (.string (Ab nm))).run prog w=.ok () w:=λc=>e c 9999;obtain⟨r,i,a⟩:=EO o ms 0 0 l;have p:(zeroValue 193).run prog w=.ok (FA (0,[],false)) w:=Tryz.zeroValue193 w;unfold Ajh;cases j:Ji nm ms with
 |none=>
  rw[j] at a;simp only at a;subst a;cases ok<;>simp[Instr.lookup,f,d,VN h,g,Instr.findKey,i,p]<;>rfl
 |some v=>
  rw[j] at a;obtain⟨k,a⟩:=a;subst a;cases ok<;>simp[Instr.lookup,f,d,VN h,g,Instr.findKey,i]
theorem Ak4{w:World}{b:Nat}{ms:List (Ak × JV)}(h:XV w b ms)(i:∀m∈ms,Ce m.1){nm:Ak}(j:Ce nm)(a:Ji nm ms=none)(v:JV):(Instr.mapUpdate 152 (.map (some b)) (.string (Ab nm)) (FA v)).run prog w=.ok () { w with heap:=w.heap.setIfInBounds b (.map (N4 0 (ms++[(nm,v)])).toArray (ms++[(nm,v)]).length) }:=by
 have k:=run_underlying (w:=w) Tryz.underlying152;have g:=run_underlying (w:=w) Tryz.underlying9;have d:∀c (n:Nat),(Instr.checkKey c (n+1) 9 (.string (Ab nm))).run prog w=.ok () w:=λc n=>by simp[Instr.checkKey,g]
 have l:∀c,(Instr.checkKey c 10000 9 (.string (Ab nm))).run prog w=.ok () w:=λc=>d c 9999;obtain⟨r,p,f⟩:=EO j ms 0 0 i;rw[a] at f;simp only at f;subst f
 have e:N4 0 (ms++[(nm,v)])=N4 0 ms++[{ key:=.string (Ab nm),val:=FA v,born:=ms.length }]:=by
  rw[Aa5];show _++[_]=_;rw[Ka]
 have q:∀o,(setObj b o).run prog w=.ok () { w with heap:=w.heap.setIfInBounds b o }:=λo=>by
  simp[setObj,Sem.run,show w.heap[b]?=_ from h]
 rw[e];simp[Instr.mapUpdate,k,g,VN h,l,Instr.findKey,p,q]
end
section
open Go Go.RowKit
structure Ss(w:World)(b:Nat):Prop where
 ok:gU.ok w
 bl:∀k,gU.bl k->k<w.heap.size/\k≠b
theorem YH{f:FuncId}{t:ByteArray}{r r':Ak}{args vals:Ae}{us rs:List Value}{u d:Nat}(e:Ac C0 prog u d f (.pbox (Co t r)::args)=some ⟨vals,[Co t r']⟩)(l:Bv ZF args us)(m:Bv ZF vals rs){w:World}{b o:Nat}(c:Ss w b)(h:MI w b o t r):Calls prog f (.pointer (some ⟨b,o,none⟩)::us).toArray w λe w'=>e=.returned (Lv rs)/\MI w' b o t r'/\G3 w w' b o 2:=by
 have n:Ej gU prog f (.pbox ([Value.string t,.int .i64 (Bm t r:Int)].map .sc)::args) ⟨vals,[[Value.string t,.int .i64 (Bm t r':Int)].map .sc]⟩:=Nm ngR mxR A7g d f _ _ e;refine (Abt n l m (w:=w) (b:=b) (o:=o) c.ok c.bl h.lt ?_ ?_).mono ?_
 ·intro j v a
  match j,a with
  |0,a=>cases a;exact h.c0
  |1,a=>cases a;exact h.c1
 ·intro j p
  match j,p with
  |0,_=>exact h.f0
  |1,_=>exact h.f1
 ·rintro e w' ⟨rfl,_,g,i,k⟩
  exact⟨rfl,⟨H2 h.lt k.size,g 0 _ rfl,g 1 _ rfl,i 0 (Nat.zero_lt_succ _),i 1 (Nat.succ_lt_succ (Nat.zero_lt_succ _))⟩,k⟩
theorem Mu{t:ByteArray}{r:Ak}(a:Dw t r)(ht:t.size<=1000000){w:World}{b o:Nat}(c:Ss w b)(h:MI w b o t r):
  Calls prog 129 #[.pointer (some ⟨b,o,none⟩)] w λe w'=>e=.returned (.tuple #[])/\MI w' b o t (Ax r)/\G3 w w' b o 2:=by
 have e:=AV (u:=1000001) (d:=0) a ht Ω;exact YH (us:=[]) (rs:=[]) e trivial trivial c h
def A8s(t:ByteArray)(r r':Ak)(e:Ending):Prop:=
 match Cx 8 r with
 |.ok (v,q)=>r'=q/\Dw (Ab r) q/\e=.returned (.tuple #[FA v,.int .i64 0])
 |.error a=>a≠0/\Dw t r'/\∃u:JV,e=.returned (.tuple #[FA u,.int .i64 a])
theorem Aqs{t:ByteArray}{r:Ak}(l:Dw t r)(ht:t.size<=1000000){w:World}{b o:Nat}(j:Ss w b)(h:MI w b o t r):
  Calls prog 151 #[.pointer (some ⟨b,o,none⟩),.int .i64 1] w λe w'=>∃r',MI w' b o t r'/\G3 w w' b o 2 /\
   A8s t r r' e:=by
 unfold A8s;obtain⟨m,e,a⟩:=Avx (u:=1000001) (d:=0) ht Ω 8 1 Ω Ω r l;cases k:Cx 8 r with
 |error n=>
  rw[k] at a;obtain⟨p,c1,c2,c,q,f,rfl⟩:=a;refine (YH (us:=[.int .i64 1]) (rs:=[.agg #[.int .i64 c1,.string c2,.bool c],.int .i64 n]) e ⟨.inl rfl,trivial⟩ ⟨.inr ⟨[.int .i64 c1,.string c2,.bool c],rfl,rfl⟩,.inl rfl,trivial⟩ j h).mono ?_
  rintro e w' ⟨rfl,g,i⟩
  exact⟨q,g,i,p,f,(c1,Ci c2,c),by unfold FA;simp only[Hw];rfl⟩
 |ok x=>
  obtain⟨v,q⟩:=x;rw[k] at a;obtain⟨f,rfl⟩:=a;refine (YH (us:=[.int .i64 1]) (rs:=[FA v,.int .i64 0]) e ⟨.inl rfl,trivial⟩ ⟨.inr ⟨[.int .i64 v.1,.string (Ab v.2.1),.bool v.2.2],rfl,rfl⟩,.inl rfl,trivial⟩ j h).mono ?_
  rintro e w' ⟨rfl,g,i⟩
  exact⟨q,g,i,rfl,f,rfl⟩
end
section
open Go Go.RowKit Go.Lib
theorem Ss.keep{w w':World}{b o n:Nat}(h:Ss w b)(k:G3 w w' b o n):Ss w' b:=
 ⟨gU.stable w w' (λj a c=>k.other j c (h.bl j a).2) h.ok,λj a=>⟨H2 (h.bl j a).1 k.size,(h.bl j a).2⟩⟩
theorem XV.keep{w w':World}{b mb o n:Nat}{ms:List (Ak × JV)}(h:XV w mb ms)(k:G3 w w' b o n)(a:mb≠b):XV w' mb ms:=by have Cs:mb<w.heap.size:=(Array.getElem?_eq_some_iff.1 h).1;exact (k.other mb Cs a).trans h
structure Fh(w w':World)(b mb:Nat):Prop where
 os:w'.os=w.os
 tape:w'.tape=w.tape
 output:w'.output=w.output
 size:w.heap.size<=w'.heap.size
 other:∀k,k<w.heap.size->k≠b->k≠mb->w'.heap[k]?=w.heap[k]?
theorem Fh.of{w w':World}{b mb o n:Nat}(k:G3 w w' b o n):Fh w w' b mb:=⟨k.os,k.tape,k.output,k.size,λj a c _=>k.other j a c⟩
theorem Ss.below{w w':World}{b:Nat}(h:Ss w b)(k:Below w.heap.size w w'):Ss w' b:=
 ⟨gU.stable w w' (λj _ c=>k.block j c) h.ok,λj a=>⟨H2 (h.bl j a).1 k.size,(h.bl j a).2⟩⟩
theorem XV.below{w w':World}{mb:Nat}{ms:List (Ak × JV)}(h:XV w mb ms)(k:Below w.heap.size w w'):XV w' mb ms:=by have Cs:mb<w.heap.size:=(Array.getElem?_eq_some_iff.1 h).1;exact (k.block mb Cs).trans h
theorem Fh.trans{w w' w'':World}{b mb:Nat}(h:Fh w w' b mb)(k:Fh w' w'' b mb):Fh w w'' b mb:=
 ⟨k.os.trans h.os,k.tape.trans h.tape,k.output.trans h.output,Nat.le_trans h.size k.size,λi hi a c=>(k.other i (H2 hi h.size) a c).trans (h.other i hi a c)⟩
theorem Al1:∀(n:Nat)(a l s q:Ak),Ce a->Ce l->Jh n a l=(some s,q)->Ce s
  |0,_,_,_,_,_,_,h=>by cases h
  |_+1,_,[],_,_,_,_,h=>by cases h
  |n+1,a,c::l,s,q,b,g,h=>by
    have e:Jh (n+1) a (c::l)=if c<32 then (none,c::l) else if c=34 then (some a,l) else if c=92 then
        (match Ob l with
         |(some x,r')=>Jh n (a++Lib.encodeRuneZ x) r'
         |(none,r')=>(none,r')) else Jh n (a++[c]) l:=rfl
    have Tn:=Ca g
    rw[e] at h
    split at h
    · cases h
    split at h
    · cases h;exact b
    split at h
    · have f:=Yd (Dw.self Tn.2)
      rcases i:Ob l with⟨o,r⟩
      rw[i] at f h
      cases o with
      |none=>cases h
      |some x=>exact Al1 n _ r s q (P4 b (λy d=>by have:=Lib.encodeRuneZ_byte x y d;omega)) (by have:=f.B;exact this) h
    · exact Al1 n _ l s q (P4 b (λy d=>by simp at d;omega)) Tn.2 h
theorem Ae9{l s q:Ak}(a:Ce l)(h:Dp l=(some s,q)):Ce s:=by
 cases l with
 |nil=>cases h
 |cons c l=>
  have e:Dp (c::l)=if c=34 then Jh (l.length+1) [] l else (none,c::l):=rfl
  rw[e] at h;split at h
  ·exact Al1 _ _ _ _ _ (λx b=>by cases b) (Ca a).2 h
  ·cases h
theorem Fh.below{w w':World}{b mb:Nat}(k:Below w.heap.size w w'):Fh w w' b mb:=⟨k.os,k.tape,k.output,k.size,λi hi _ _=>k.block i hi⟩
theorem A3d{P:Program}{t k e:TypeId}(a:P.underlying t=some (.map k e))(mb:Nat)(w:World):(binOp .neq t (.map (some mb)) (.map none)).run P w=.ok (.bool true) w:=by
 have h:∀d,(Op.equalIn (d+1) t (.map (some mb)) (.map none)).run P w=.ok false w:=λd=>by
  simp[Op.equalIn,run_underlying a]
 simp only[binOp];simp[Op.equal,Op.maxDepth,h 9999]
theorem Ayh(nm:Ak)(ms:List (Ak × JV)):(ms.any λm=>m.1==nm)=(Ji nm ms).isSome:=by
 unfold Ji
 induction ms with
 |nil=>rfl
 |cons m r a=>
  by_cases h:m.1=nm
  ·rw[List.find?_cons_of_pos (by simp[h])];simp[h]
  ·rw[List.find?_cons_of_neg (by simp[h]),<-a];simp[h]
theorem M5(V:Ak->JR (JV × Ak))(kp:Bool)(l:Ak):Ya V kp l=match Ar [125] (Ax l) with|some r=>.ok ([],r)|none=>P6 V kp ((Ax l).length+1) [] (Ax l):=by
 unfold Ya;rw[C4];cases Ax l with
 |nil=>rfl
 |cons y s=>
  by_cases a:y=125
  ·subst a;rfl
  ·simp only[Bb a];split
   ·rename_i e;injection e with b _;exact absurd b a
   ·rfl
theorem UV{W:World}{mb b:Nat}{ob:Obj}(a:mb≠b):({ W with heap:=W.heap.setIfInBounds mb ob }:World).heap[b]?=W.heap[b]?:=Array.getElem?_setIfInBounds_ne a
theorem MI.put{W:World}{b o mb:Nat}{t:ByteArray}{r:Ak}{ob:Obj}(h:MI W b o t r)(a:mb≠b):MI { W with heap:=W.heap.setIfInBounds mb ob } b o t r:=by
 have e:=UV (W:=W) (ob:=ob) a;refine⟨by simpa using h.lt,(World.cell?_of_block e).trans h.c0,(World.cell?_of_block e).trans h.c1,?_,?_⟩
 ·have:=h.f0;unfold World.frozen? at this ⊢;simp only[e] at this ⊢;exact this
 ·have:=h.f1;unfold World.frozen? at this ⊢;simp only[e] at this ⊢;exact this
theorem Ss.put{W:World}{b mb:Nat}{ob:Obj}(h:Ss W b)(c:¬gU.bl mb):Ss { W with heap:=W.heap.setIfInBounds mb ob } b:=
 ⟨gU.stable W _ (λj a _=>UV (λe=>c (e ▸ a))) h.ok,λj a=>⟨by simpa using (h.bl j a).1,(h.bl j a).2⟩⟩
theorem Fh.put{W:World}{b mb:Nat}{ob:Obj}:Fh W { W with heap:=W.heap.setIfInBounds mb ob } b mb:=
 ⟨rfl,rfl,rfl,Ψ,λk _ _ h=>UV (λe=>h e.symm)⟩
theorem XV.put{W:World}{mb n:Nat}{ms ms':List (Ak × JV)}(h:XV W mb ms)(a:ms'.length=n):XV { W with heap:=W.heap.setIfInBounds mb (.map (N4 0 ms').toArray n) } mb ms':=by have Cs:mb<W.heap.size:=(Array.getElem?_eq_some_iff.1 h).1;subst a;exact Array.getElem?_setIfInBounds_self_of_lt Cs
def RoP(w':World)(mb:Nat)(l r':Ak)(e:Ending):Prop:=
 match Ar [123] l with
 |some b=>(match Ya (Cx 8) true b with
  |.ok (c,q)=>r'=q/\e=.returned (.int .i64 0)/\XV w' mb c
  |.error a=>a≠0/\e=.returned (.int .i64 a))
 |none=>e=.returned (.int .i64 2)
set_option maxHeartbeats 4000000 in
theorem A0c{t:ByteArray}{l:Ak}(hS:Dw t l)(ht:t.size<=1000000){w:World}{b o mb:Nat}(hU:Ss w b)(h:MI w b o t l)(hM:XV w mb [])(a:mb≠b)(hmU:¬gU.bl mb):
  Calls prog 130 #[.pointer (some ⟨b,o,none⟩),.int .i64 1,.map (some mb)] w λe w'=>Fh w w' b mb/\∃r',Dw t r'/\MI w' b o t r' /\
   RoP w' mb l r' e:=by
 have mixed:prog.follows Departure.mixedOrders=true:=Κ
 have hac:=Kx hS ht (w0:=[123]) (λx d=>by simp at d;omega) Δ h
 go_enter Tryz.func130,Tryz.ntmps130
 go_wp2_with (go_at_call 149;refine hac.mono ?_)
 rintro e W1 ⟨rfl,h1,H⟩
 cases O:Ar [123] l with
 |none=>
  rw[O] at h1
  go_wp2
  go_ret
  exact⟨Fh.of H,l,hS,h1,by unfold RoP;rw[O];rfl⟩
 |some G=>
  rw[O] at h1;have XF:=A6 hS O;have hsk:=Mu XF ht (hU.keep H) h1
  go_wp2_with (go_at_call 129;refine hsk.mono ?_)
  rintro e W2 ⟨rfl,h2,R⟩
  have FY:=B4 XF;have Bkb:=Kx FY ht (w0:=[125]) (λx d=>by simp at d;omega) Δ h2
  go_wp2_with (go_at_call 149;refine Bkb.mono ?_)
  rintro e W3 ⟨rfl,h3,S⟩
  cases Pt:Ar [125] (Ax G) with
  |some T=>
   rw[Pt] at h3
   go_wp2
   go_ret
   refine⟨((Fh.of H).trans (Fh.of R)).trans (Fh.of S),T,A6 FY Pt,h3,?_⟩;unfold RoP;rw[O];simp only;rw[M5,Pt];exact⟨rfl,rfl,((hM.keep H a).keep R a).keep S a⟩
  |none=>
   rw[Pt] at h3
   have f:∀w' r' e,(match P6 (Cx 8) true ((Ax G).length+1) [] (Ax G) with
     |.ok (c,q)=>r'=q/\e=.returned (.int .i64 0)/\XV w' mb c
     |.error er=>er≠0/\e=.returned (.int .i64 er))->RoP w' mb l r' e:=by
    intro w' r' e h;unfold RoP;rw[O];simp only;rw[M5,Pt];exact h
   have hU3:=((hU.keep H).keep R).keep S;have hM3:=((hM.keep H a).keep R a).keep S a;have Rp:Fh w W3 b mb:=((Fh.of H).trans (Fh.of R)).trans (Fh.of S)
   go_wp2
   go_loopw [] (λwr=>∃(n:Nat) (c:List (Ak × JV)) (x:Ak),P6 (Cx 8) true ((Ax G).length+1) [] (Ax G)=P6 (Cx 8) true n c x/\x.length<n/\Dw t x/\MI wr b o t x/\XV wr mb c/\(∀m∈c,Ce m.1)/\Ss wr b/\Fh w wr b mb) (λwr=>match wr.cell? ⟨b,o+1,none⟩ with|some (.int _ p)=>t.size-p.toNat|_=>0)
   case atStart=>
    exact⟨_,[],Ax G,rfl,Nat.lt_succ_self _,FY,h3,hM3,(λm hm=>by cases hm),hU3,Rp⟩
   case round=>
    obtain⟨n,c,x,Iy,hn,i,U,hMx,I,hUx,hkx⟩:=hrel;have hrd:Calls prog 150 #[.pointer (some ⟨b,o,none⟩)] wr λe w'=>e=.returned (.tuple #[.string (Ab ((Dp x).1.getD [])),.bool (Dp x).1.isSome])/\MI w' b o t (Dp x).2/\G3 wr w' b o 2:=Ahw i ht U
    go_wp2_with (go_at_call 150;refine hrd.mono ?_)
    rintro e W4 ⟨rfl,P,k4⟩
    obtain⟨m,rfl⟩:∃m,n=m+1:=⟨n-1,Ω⟩
    rw[Ko (Cx 8) true m c x] at Iy;have FM:Fh w W4 b mb:=hkx.trans (Fh.of k4);have UE:=Hk i;rcases d:Dp x with⟨o4,q4⟩;rw[d] at P Iy UE;cases o4 with
    |none=>
     go_wp2
     go_ret
     exact⟨FM,q4,UE,P,f _ _ _ (by rw[Iy];exact⟨Δ,rfl⟩)⟩
    |some j=>
     have SX:=Ae9 i.B d;have V:=hMx.keep k4 a;have z:=WC V I SX true;simp only[Zzm,Ayh] at Iy;cases W:Ji j c with
     |some v=>
      rw[W] at z Iy;have J:Ajh j c=.agg #[.int .i64 v.1,.string (Ab v.2.1),.bool v.2.2]:=by unfold Ajh;rw[W];rfl
      rw[J] at z
      go_wp2
      go_ret
      have Vm:=λob=>(Below.refl W4.heap.size W4).alloc (Cg _) ob;exact⟨FM.trans (Fh.below (Vm _)),q4,UE,P.below (Vm _) P.lt,f _ _ _ (by rw[Iy];exact⟨Δ,rfl⟩)⟩
     |none=>
      rw[W] at z Iy;have J:Ajh j c=.agg #[.int .i64 0,.string ⟨#[]⟩,.bool false]:=by unfold Ajh;rw[W];rfl
      rw[J] at z;have Vm:Below W4.heap.size W4 (W4.alloc (.cells #[.int .i64 0,.string ⟨#[]⟩,.bool false] 193)):=(Below.refl W4.heap.size W4).alloc (Cg _) _;have h5:=P.below Vm P.lt;have hM5:=V.below Vm;have X:=(hUx.keep k4).below Vm;have hk5:=FM.trans (Fh.below (b:=b) (mb:=mb) Vm);have A7y:=Mu UE ht X h5
      go_wp2_with (go_at_call 129;refine A7y.mono ?_)
      rintro e W6 ⟨rfl,h6,k6⟩
      have Jr:=B4 UE;have Bib:=Kx Jr ht (w0:=[58]) (λx d=>by simp at d;omega) Δ h6
      go_wp2_with (go_at_call 149;refine Bib.mono ?_)
      rintro e W7 ⟨rfl,h7,k7⟩
      have Y:=(hk5.trans (Fh.of k6)).trans (Fh.of k7);cases g:Ar [58] (Ax q4) with
      |none=>
       rw[g] at h7
       go_wp2
       go_ret
       exact⟨Y,Ax q4,Jr,h7,f _ _ _ (by rw[Iy];simp only[Option.isSome_none,Bool.false_eq_true,if_false,g];exact⟨Δ,rfl⟩)⟩
      |some r7=>
       rw[g] at h7;have Z:=A6 Jr g;have K:=(X.keep k6).keep k7;have hM7:=(hM5.keep k6 a).keep k7 a;have Bg3:=Mu Z ht K h7
       go_wp2_with (go_at_call 129;refine Bg3.mono ?_)
       rintro e W8 ⟨rfl,h8,k8⟩
       have hS8:=B4 Z;have hvc:=Aqs hS8 ht (K.keep k8) h8
       go_wp2_with (go_at_call 151;refine hvc.mono ?_)
       rintro e L ⟨r9,h9,k9,k⟩
       have hk9:=(Y.trans (Fh.of k8)).trans (Fh.of k9)
       have Atd:P6 (Cx 8) true ((Ax G).length+1) [] (Ax G)=match Cx 8 (Ax r7) with
         |.error e=>.error e
         |.ok (v,r2)=>match Ar [125] (Ax r2) with
          |some T=>.ok (c++[(j,v)],T)
          |none=>match Ar [44] (Ax r2) with
           |some T=>P6 (Cx 8) true m (c++[(j,v)]) (Ax T)
           |none=>.error 2:=by
        rw[Iy];simp only[Option.isSome_none,Bool.false_eq_true,if_false,g]
        all_goals (rcases Cx 8 (Ax r7) with e|⟨v,r2⟩;rfl;simp only;cases Ar [125] (Ax r2)<;>cases Ar [44] (Ax r2)<;>rfl)
       unfold A8s at k;cases hv:Cx 8 (Ax r7) with
       |error er=>
        rw[hv] at k Atd;obtain⟨he,hs9,u,rfl⟩:=k;unfold FA;have hbe:(er != (0:Int))=true:=by simp[he]
        go_wp2
        go_ret
        have Ak8:=λob=>(Below.refl L.heap.size L).alloc (Cg _) ob;exact⟨hk9.trans (Fh.below (Ak8 _)),r9,hs9,h9.below (Ak8 _) h9.lt,f _ _ _ (by rw[Atd];exact⟨he,rfl⟩)⟩
       |ok x9=>
        obtain⟨s,q9⟩:=x9;rw[hv] at k Atd;obtain⟨rfl,hq9,rfl⟩:=k;unfold FA;have Ak8:Below L.heap.size L (L.alloc (.cells #[.int .i64 s.1,.string (Ab s.2.1),.bool s.2.2] 193)):=(Below.refl L.heap.size L).alloc (Cg _) _;have h10:=h9.below Ak8 h9.lt;have Ba4:=((hM7.keep k8 a).keep k9 a).below Ak8;have Bhu:=((K.keep k8).keep k9).below Ak8;have Bi9:=hk9.trans (Fh.below (b:=b) (mb:=mb) Ak8);have hup:=Ak4 Ba4 I SX W s;unfold FA at hup;have F1:=A3d Tryz.underlying152 mb;have hS9:=hS8.trans hq9;have h11:=h10.put (mb:=mb) (ob:=.map (N4 0 (c++[(j,s)])).toArray (c.length+1)) a;have Bdj:=Bhu.put (ob:=.map (N4 0 (c++[(j,s)])).toArray (c.length+1)) hmU;have hln:(c++[(j,s)]).length=c.length+1:=Ψ
        rw[hln] at hup;have Bde:=Ba4.put (ms':=c++[(j,s)]) hln;have Bi6:=Bi9.trans (Fh.put (b:=b) (ob:=.map (N4 0 (c++[(j,s)])).toArray (c.length+1)));have Bdv:=Mu hS9 ht Bdj h11
        go_wp2_with (go_at_call 129;refine Bdv.mono ?_)
        rintro e W12 ⟨rfl,h12,A⟩
        have Avo:=B4 hS9;have Baw:=Kx Avo ht (w0:=[125]) (λx d=>by simp at d;omega) Δ h12
        go_wp2_with (go_at_call 149;refine Baw.mono ?_)
        rintro e W13 ⟨rfl,C,D⟩
        have Bcd:=(Bi6.trans (Fh.of A)).trans (Fh.of D);cases Aqx:Ar [125] (Ax r9) with
        |some r13=>
         rw[Aqx] at C
         go_wp2
         go_ret
         exact⟨Bcd,r13,A6 Avo Aqx,C,f _ _ _ (by rw[Atd];simp only;rw[Aqx];exact⟨rfl,rfl,(Bde.keep A a).keep D a⟩)⟩
        |none=>
         rw[Aqx] at C;have A93:=Kx Avo ht (w0:=[44]) (λx d=>by simp at d;omega) Δ C
         go_wp2_with (go_at_call 149;refine A93.mono ?_)
         rintro e W14 ⟨rfl,E,M⟩
         have Bbw:=Bcd.trans (Fh.of M);cases Arv:Ar [44] (Ax r9) with
         |none=>
          rw[Arv] at E
          go_wp2
          go_ret
          exact⟨Bbw,Ax r9,Avo,E,f _ _ _ (by rw[Atd];simp only;rw[Aqx];simp only;rw[Arv];exact⟨Δ,rfl⟩)⟩
         |some r=>
          rw[Arv] at E;have Bc3:=A6 Avo Arv;have Bdn:=((Bdj.keep A).keep D).keep M;have Bf6:=((Bde.keep A a).keep D a).keep M a;have Bcu:=Mu Bc3 ht Bdn E
          go_wp2_with (go_at_call 129;refine Bcu.mono ?_)
          rintro e W15 ⟨rfl,h15,N⟩
          have Bgz:=B4 Bc3
          have hlr:(Ax r).length+1<=x.length:=by
           have Af7:=Hk (Dw.self i.B);rw[d] at Af7;have g1:=(B4 (A6 (B4 Af7) g))
           have g2:=((B4 (g1.trans hq9))).le;have g3:=Ha r;have g4:=LS Arv;omega
          have hxl:=i.len
          go_wp2
          refine⟨⟨m,c++[(j,s)],Ax r,by rw[Atd];simp only[Aqx,Arv],Ω,Bgz,h15,Bf6.keep N a,λy Q=>?_,Bdn.keep N,Bbw.trans (Fh.of N)⟩,?_⟩
          ·rcases B2.1 Q with Q|Q
           ·exact I y Q
           ·simp at Q;subst Q;exact SX
          ·have hp3:Bm t x<Bm t (Ax r):=by unfold Bm;omega
           have hp4:Bm t (Ax r)<=t.size:=Nat.sub_le _ _;simp only[h15.c1,U.c1,H8];omega
end
def Bh(c:Int):Ak->List Ak
 |[]=>[[]]
 |x::r=>if x=c then []::Bh c r else match Bh c r with
  |h::t=>(x::h)::t
  |[]=>[[x]]
theorem To(c:Int)(l:Ak):Bh c l≠[]:=by
 cases l with
 |nil=>simp[Bh]
 |cons x r=>
  unfold Bh;split
  ·simp
  ·cases Bh c r<;>simp
def Bz(c:Int)(l:Ak):Ak:=l.takeWhile (λx=>x != c)
theorem SI(c:Int):∀(l:Ak),Bh c l=if (Bz c l).length<l.length then Bz c l::Bh c (l.drop ((Bz c l).length+1)) else [l]
 |[]=>rfl
 |x::r=>by
  by_cases h:x=c
  ·subst h;have e:Bz x (x::r)=[]:=by unfold Bz;rw[List.takeWhile_cons_of_neg Ψ]
   have b:Bh x (x::r)=[]::Bh x r:=by
    show (if x=x then []::Bh x r else _)=_;rw[Bq rfl]
   rw[e,Bq Ψ,b];rfl
  ·have e:Bz c (x::r)=x::Bz c r:=by unfold Bz;rw[List.takeWhile_cons_of_pos (by simp[h])]
   have b:Bh c (x::r)=match Bh c r with|a::t=>(x::a)::t|[]=>[[x]]:=by
    show (if x=c then []::Bh c r else _)=_;rw[Bb h]
   rw[e,b,SI c r];by_cases g:(Bz c r).length<r.length
   ·rw[Bq g,Bq (by simp;omega)]
    rfl
   ·rw[Bb g,Bb (by simp;omega)]
def Uy(x:Int):Bool:=decide (48<=x)&&decide (x<=57)
def ltB(x:Int):Bool:=(decide (97<=x)&&decide (x<=122))||Uy x
def M1(l:Ak):Bool:=decide (1<=l.length)&&decide (l.length<=63) && !(l.head?==some 45) && !(l.getLast?==some 45)&&l.all (λx=>ltB x||x==45)
def Ws(l:Ak):Int:=
 if 100<l.length then 8 else if (Bh 46 l).all M1=false then 2 else if ((Bh 46 l).getLastD []).all Uy=true then 2 else 0
def KA(l:Ak):Int:=l.foldl (λn x=>10*n+(x-48)) 0
def Lg(l:Ak):Bool:=decide (1<=l.length)&&decide (l.length<=5) && !(l.head?==some 48)&&l.all Uy
def dfl(s:Bool):Int:=if s=true then 443 else 80
def DH(s:Bool)(r:Ak):Int:=
 let a:=Bz 58 r
 if Ws a≠0 then Ws a else if a.length=r.length then 0 else
  if Lg (r.drop (a.length+1))=true/\KA (r.drop (a.length+1))<=65535/\KA (r.drop (a.length+1))≠dfl s then 0 else 2
def Fg(l:Ak):Int:=
 if [104,116,116,112,115,58,47,47].isPrefixOf l=true then DH true (l.drop 8)
 else if [104,116,116,112,58,47,47].isPrefixOf l=true then DH false (l.drop 7) else 2
end
end Go.Proofs.YthlonbjmnomlcaaGreatDoor.Pv
