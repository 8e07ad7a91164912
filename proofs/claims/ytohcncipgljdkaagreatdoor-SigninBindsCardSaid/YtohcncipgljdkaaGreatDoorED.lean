/-
  The proof of SigninBinds, part 4.
-/
import Derived.Test.YtohcncipgljdkaaGreatDoorEC
import Derived.Test.YtohcncipgljdkaaGreatDoorRows
import Derived.Lib.RuneBytes
import Derived.Lib.SlTrimSet
import Derived.RangeFuncNested
import Derived.RangeFuncLeaves
import Derived.WalkKit
import Derived.LoopNIn
import Derived.OrdersIn
import Derived.Shelf.Abstract
import Derived.OwnWalkIn
import Derived.TacticsInMore
import Derived.Lib.BytesEntry
import Derived.Lib.Bytealg
import Derived.Lib.Walk
import Derived.WalkMore
import Derived.Laws.Bits64b
import Derived.Shelf.Strings.BuilderRune
import Derived.Shelf.Strings.SlTrimAscii
import Derived.Shelf.RegionOpenPlain
import Derived.Lib.Overlaps
import Derived.Lib.AppendZerosOnto
import Derived.Lib.SliceRun
import Derived.Laws.Externs
import Derived.Laws.IdiomCopy
import Derived.Laws.NewBlocks
set_option linter.unusedSimpArgs false
set_option linter.unusedVariables false
namespace Go.Proofs.YtohcncipgljdkaaGreatDoor.Pv
open Go.IntKind (wrap)
open Go.Proofs.Tryz (prog)
set_option maxRecDepth 1000000
noncomputable section
def F7(w:Int)(k:Nat):Int:=wrap .u8 (Hc .u64 w (56-8*(k:Int)))
def Bu(w:Int):Al:=(List.range' 0 8).map (F7 w)
def A8(ws:Al):Al:=ws.flatMap Bu
theorem Cl(w:Int):(Bu w).length=8:=rfl
section
variable {fu d:Nat}{xs:FuncId->Option (Ae->Option Bv)}{call:Ap}{n:Nat}{c:Ae}
theorem Aef{ws:Al}{w:Int}{m0 l:Nat}{i k:Int}:∀(r j nn:Nat)(bs:Al),8-j=r->r<nn->j<=8->bs.length+r<=34359738368 ->
  K5 fu call n c m0 nn bs.length w l (Af .u64 ws) k i j (Af .u8 bs) =
   Im fu call n c m0 (bs++(List.range' j (8-j)).map (F7 w)).length l (Af .u64 ws) k (wrap .i64 (i+1)) (Af .u8 (bs++(List.range' j (8-j)).map (F7 w)))
 |r,j,0,bs,_,h,_,_=>by omega
 |0,j,nn+1,bs,hr,_,hj,_=>by
  have e:j=8:=by omega
  subst e;rw[U9];simp(disch:=omega)only[Be,Bf];simp
 |r+1,j,nn+1,bs,hr,hn,hj,hb=>by
  have ih:=Aef (ws:=ws) (w:=w) (m0:=m0) (l:=l) (i:=i) (k:=k) r (j+1) nn (bs++[F7 w j]) (by omega) (by omega) (by omega) (by simp;omega)
  have e8:=An .u8 bs;rw[U9]
  have hx:wrap .u8 (Hc .u64 w (wrap .i64 (56-wrap .i64 (8*(j:Int)))))=F7 w j:=by
   rw[wrap_i64 (x:=8*(j:Int)) (by omega) (by omega),Bn];rfl
  have h0:0<=wrap .i64 (56-wrap .i64 (8*(j:Int))):=by
   rw[wrap_i64 (x:=8*(j:Int)) (by omega) (by omega),Bn];omega
  have Ajb:List.range' j (8-j)=j::List.range' (j+1) (8-(j+1)):=by
   rw[show 8-j=(8-(j+1))+1 by omega];exact List.range'_succ
  simp (disch:=first|omega|exact h0) only[Be,Bf,J1,hx,PL,Wv,wrap_i64 (x:=(j:Int)+1)];rw[Ajb];simp only[Wy,Tm,WG,Ie,Zzv,X4,List.singleton_append] at ih ⊢;exact ih
theorem TZ{ws:Al}(hl:ws.length<=1073741824)(B2:100<=fu):∀(r:Al)(i nn:Nat)(bs:Al),ws.drop i=r->r.length<nn->bs.length=8*i ->
  Im fu call n c nn bs.length ws.length (Af .u64 ws) ws.length i (Af .u8 bs)=some ⟨[.own 1 (bs++A8 r).length (Af .u8 (bs++A8 r))],[]⟩
 |r,i,0,_,_,h,_=>by omega
 |[],i,nn+1,bs,h,_,_=>by
  have:=drop_nil h;have e8:=An .u8 bs;rw[Un];simp(disch:=omega)only[Be,Bf,J1,PL,A8,List.flatMap_nil,List.append_nil]
 |w::r,i,nn+1,bs,h,hn,hb=>by
  obtain⟨h1,h2,h3⟩:=D8 h;simp only[Tm] at hn;rw[Un];simp(disch:=omega)only[Be,Bf,Jd,J1,HJ h2];rw[show (0:Int)=((0:Nat):Int) from rfl,Aef 8 0 fu bs rfl (by omega) (by omega) (by omega),Bn];have ih:=TZ hl B2 r (i+1) nn (bs++Bu w) h3 (by omega) (by simp[Cl];omega)
  have e:bs++Bu w++A8 r=bs++A8 (w::r):=by simp[A8]
  rw[e] at ih;exact ih
theorem IC{ws:Al}(hl:ws.length<=1073741824)(B2:100<=fu)(hf:ws.length<fu):Ac (CX xs) prog fu (d+1) 91 [.lst false 1 ws.length (Af .u64 ws)]=some ⟨[.own 1 (A8 ws).length (Af .u8 (A8 ws))],[]⟩:=by rw[SW];simp(disch:=omega)only[Be,Bf,wrap_i64,Int.mul_one];exact TZ hl B2 ws 0 fu [] rfl hf rfl
theorem ZS{ws:Al}{w:Int}{m0 i:Nat}(hw:ws[i]?=some w):∀(r nn:Nat)(j:Int)(bs:Al),j=(r:Int)-1->r<=8->r<nn->bs.length+r<=34359738368 ->
  Gz fu call n c m0 nn ws.length (Af .u64 ws) bs.length i j (Af .u8 bs) =
   Fq fu call n c m0 ws.length (Af .u64 ws) (bs++(List.range' (8-r) r).map (F7 w)).length (wrap .i64 (i+1)) (Af .u8 (bs++(List.range' (8-r) r).map (F7 w)))
 |r,0,j,bs,_,_,h,_=>by omega
 |0,nn+1,j,bs,hr,_,_,_=>by
  rw[Ms];simp(disch:=omega)only[Be,Bf];simp
 |r+1,nn+1,j,bs,hr,Zi,hn,hb=>by
  have hi:=Yo hw;have ih:=ZS (m0:=m0) hw r nn (j-1) (bs++[F7 w (8-(r+1))]) (by omega) (by omega) (by omega) (by simp;omega)
  have e8:=An .u8 bs
  have hx:wrap .u8 (Hc .u64 w (wrap .u64 (wrap .i64 (8*j))))=F7 w (8-(r+1)):=by
   rw[Bn,Ej];unfold F7;rw[show 56-8*((8-(r+1):Nat):Int)=8*j by omega]
  have h0:0<=wrap .u64 (wrap .i64 (8*j)):=by
   rw[Bn,Ej];omega
  have Ajb:List.range' (8-(r+1)) (r+1)=(8-(r+1))::List.range' (8-r) r:=by
   rw[List.range'_succ,show 8-(r+1)+1=8-r by omega]
  rw[Ms];simp (disch:=first|omega|exact h0) only[Be,Bf,Jd,J1,HJ hw,hx,PL,Wv,wrap_i64 (x:=j-1)];rw[Ajb];simp only[Wy,Tm,WG,Ie,Zzv,X4,List.singleton_append] at ih ⊢;exact ih
theorem ON{ws:Al}(hl:ws.length<=1073741824)(B2:100<=fu):∀(r:Al)(i nn:Nat)(bs:Al),ws.drop i=r->r.length<nn->bs.length=8*i ->
  Fq fu call n c nn ws.length (Af .u64 ws) bs.length i (Af .u8 bs)=some ⟨[.own 1 (bs++A8 r).length (Af .u8 (bs++A8 r))],[]⟩
 |r,i,0,_,_,h,_=>by omega
 |[],i,nn+1,bs,h,_,_=>by
  have:=drop_nil h;have e8:=An .u8 bs;rw[Mi];simp(disch:=omega)only[Be,Bf,J1,PL,A8,List.flatMap_nil,List.append_nil]
 |w::r,i,nn+1,bs,h,hn,hb=>by
  obtain⟨h1,h2,h3⟩:=D8 h;simp only[Tm] at hn;rw[Mi];simp(disch:=omega)only[Be,Bf];rw[ZS h2 8 fu 7 bs rfl (by omega) (by omega) (by omega),Bn];have ih:=ON hl B2 r (i+1) nn (bs++Bu w) h3 (by omega) (by simp[Cl];omega)
  have e:bs++Bu w++A8 r=bs++A8 (w::r):=by simp[A8]
  rw[e] at ih;exact ih
theorem J6{ws:Al}(hl:ws.length<=1073741824)(B2:100<=fu)(hf:ws.length<fu):Ac (CX xs) prog fu (d+1) 62 [.lst false 1 ws.length (Af .u64 ws)]=some ⟨[.own 1 (A8 ws).length (Af .u8 (A8 ws))],[]⟩:=by rw[DM];exact ON hl B2 ws 0 fu [] rfl hf rfl
end
abbrev M6(a b:Int):Int:=Xr .u64 (Eu .u64 a 8) (wrap .u64 b)
def Ans(bs:Al):Int:=bs.foldl M6 0
theorem A9t{q:Int}(h0:0<=q)(h1:q<=18446744073709551615):M6 (q / 256) (wrap .u8 q)=q:=by
 have e1:Eu .u64 (q / 256) 8=q / 256*256:=by
  unfold Eu;have:((8:Int).toNat.min IntKind.u64.bits)=8:=by decide
  show wrap .u64 (q / 256*2 ^ (min (8:Int).toNat IntKind.u64.bits))=_;have h2:(2:Int) ^ (min (8:Int).toNat IntKind.u64.bits)=256:=by decide
  rw[h2,Ej]
 have e2:wrap .u8 q=q % 256:=by
  simp only[wrap,IntKind.signed,IntKind.bits];simp
 have e3:wrap .u64 (q % 256)=q % 256:=Ej;unfold M6;rw[e1,e2,e3];obtain⟨n,rfl⟩:=Int.eq_ofNat_of_zero_le h0;have hn:n<18446744073709551616:=by omega
 have e4:(BitVec.ofInt 64 ((n:Int) / 256*256)).toNat=n / 256*256:=by
  rw[BitVec.toNat_ofInt];omega
 have e5:(BitVec.ofInt 64 ((n:Int) % 256)).toNat=n % 256:=by
  rw[BitVec.toNat_ofInt];omega
 have e6:n / 256*256 ||| n % 256=n:=by
  have:=Nat.shiftLeft_add_eq_or_of_lt (show n % 256<2 ^ 8 by omega) (n / 256);rw[Nat.shiftLeft_eq] at this;rw[<-this];omega
 unfold Xr;show wrap .u64 ((BitVec.ofInt 64 ((n:Int) / 256*256) ||| BitVec.ofInt 64 ((n:Int) % 256)).toNat:Int)=n;rw[BitVec.toNat_or,e4,e5,e6,Ej]
theorem Ana{w:Int}(k:Nat)(hk:k<8):F7 w k=wrap .u8 (w / 2 ^ (56-8*k)):=by
 unfold F7 Hc;have e:(56-8*(k:Int)).toNat=56-8*k:=by omega
 rw[e,Nat.min_eq_left (by show 56-8*k<=64;omega),Int.fdiv_eq_ediv_of_nonneg _ (Int.le_of_lt (Int.pow_pos (by omega)))]
theorem YJ{w:Int}(h0:0<=w)(h1:w<=18446744073709551615):Ans (Bu w)=w:=by
 have st:∀(k:Nat) (D:Int),k<8->(2:Int) ^ (56-8*k)=D->0<D->M6 (w / D / 256) (F7 w k)=w / D:=by
  intro k D hk hD hp;rw[Ana k hk,hD];exact A9t (Int.ediv_nonneg h0 (Int.le_of_lt hp)) (Int.le_trans (Int.ediv_le_self _ h0) h1)
 have s0:=st 0 72057594037927936 (by omega) (by decide) (by omega);have s1:=st 1 281474976710656 (by omega) (by decide) (by omega);have s2:=st 2 1099511627776 (by omega) (by decide) (by omega);have s3:=st 3 4294967296 (by omega) (by decide) (by omega);have s4:=st 4 16777216 (by omega) (by decide) (by omega);have s5:=st 5 65536 (by omega) (by decide) (by omega);have s6:=st 6 256 (by omega) (by decide) (by omega);have s7:=st 7 1 (by omega) (by decide) (by omega);rw[show w / 72057594037927936 / 256=0 by omega] at s0;rw[show w / 281474976710656 / 256=w / 72057594037927936 by omega] at s1;rw[show w / 1099511627776 / 256=w / 281474976710656 by omega] at s2;rw[show w / 4294967296 / 256=w / 1099511627776 by omega] at s3;rw[show w / 16777216 / 256=w / 4294967296 by omega] at s4;rw[show w / 65536 / 256=w / 16777216 by omega] at s5;rw[show w / 256 / 256=w / 65536 by omega] at s6
 rw[show w / 1 / 256=w / 256 by omega,show w / 1=w by omega] at s7;show M6 (M6 (M6 (M6 (M6 (M6 (M6 (M6 0 (F7 w 0)) (F7 w 1)) (F7 w 2)) (F7 w 3)) (F7 w 4)) (F7 w 5)) (F7 w 6)) (F7 w 7)=w;rw[s0,s1,s2,s3,s4,s5,s6,s7]
section
variable {xs:FuncId->Option (Ae->Option Bv)}(fu d:Nat)(call:Ap)
def G5(Z:Int)(Y:Nat)(X W V:Int)(U T:Ae):Option Bv:=Kk fu call 131 Tryz.f131 [Ag Z] [.r,.r,.r,.l,.r,.l] Y ⟨lk [(0,Ag X),(2,.ptr 2 0),(3,.ptr 3 0),(4,W),(6,V)],C4 [(2,.ar false U),(3,.ar false T)]⟩
def U5(Z:Int)(Y:Nat)(X W:Ae):Option Bv:=Kk fu call 131 Tryz.f131 [Ag Z] [.r,.r,.r,.r,.r] Y ⟨lk [(2,.ptr 2 0),(3,.ptr 3 0)],C4 [(2,.ar false X),(3,.ar false W)]⟩
def Um(Z:Int)(Y:Nat)(X:Ae):Option Bv:=Kk fu call 131 Tryz.f131 [Ag Z] [.r,.r,.r,.r,.r,.r] Y ⟨lk [(2,.ptr 2 0)],C4 [(2,.ar false X)]⟩
theorem Q5(W:Int)(T:Nat)(V X Z:Int)(U Y:Ae):G5 fu call W (T+1) V X Z U Y=(Aw (decide (Z<16)) (Aa (wrap .i64 (4*Z)) fun a=>Aa (wrap .i64 (60-a)) fun a=>As (decide (0<=a))<|Aa (Hc .u64 V a) fun a=>Aa (D2 .u64 a 15) fun a=>Aa (wrap .i64 a) fun a=>As (decide (0<=Z)&&decide (Z<18))<|As (decide (0+Z.toNat*1+1<=Y.length))<|Aa (B6 Y [a] (0+Z.toNat*1)) fun a=>As (decide (0<=Z)&&decide (Z<18))<|Bq .i64 (a.getD (0+Z.toNat*1) .top) fun b=>Aa (wrap .i64 (15-b)) fun b=>Aa (wrap .i64 (X+b)) fun b=>Aa (wrap .i64 (Z+1)) fun c=>G5 fu call W T V b c U a) (Aa (wrap .i64 (Int.tdiv X 16)) fun a=>As (decide (17<=Y.length))<|Aa (B6 Y [a] 16) fun a=>Aa (Int.tmod X 16) fun b=>As (decide (18<=a.length))<|Aa (B6 a [b] 17) fun a=>U5 fu call W fu U a)):=by kernel_rfl
theorem EO(W:Int)(Y:Nat)(Gc:0<Y)(X Z:Ae):U5 fu call W Y X Z=(Bq .i64 (Z.getD 0 .top) fun a=>Bq .i64 (Z.getD 1 .top) fun b=>Bq .i64 (Z.getD 2 .top) fun c=>Bq .i64 (Z.getD 3 .top) fun e=>Bq .i64 (Z.getD 4 .top) fun f=>Bq .i64 (Z.getD 5 .top) fun g=>Bq .i64 (Z.getD 6 .top) fun h=>Bq .i64 (Z.getD 7 .top) fun i=>Bq .i64 (Z.getD 8 .top) fun j=>Bq .i64 (Z.getD 9 .top) fun k=>Bq .i64 (Z.getD 10 .top) fun m=>Bq .i64 (Z.getD 11 .top) fun n=>Bq .i64 (Z.getD 12 .top) fun o=>Bq .i64 (Z.getD 13 .top) fun p=>Bq .i64 (Z.getD 14 .top) fun q=>Bq .i64 (Z.getD 15 .top) fun s=>Bq .i64 (Z.getD 16 .top) fun t=>Bq .i64 (Z.getD 17 .top) fun u=>As (decide (18<=X.length))<|Aa (B6 X [a,b,c,e,f,g,h,i,j,k,m,n,o,p,q,s,t,u] 0) fun a=>Um fu call W fu a):=by cases Y with|zero=>exact absurd Gc (Nat.lt_irrefl 0)|succ Y=>kernel_rfl
theorem DN(X:Int)(Y:Nat)(Gc:0<Y)(Z:Ae):Um fu call X Y Z=(Bq .i64 (Z.getD 0 .top) fun a=>Bq .i64 (Z.getD 1 .top) fun b=>Bq .i64 (Z.getD 2 .top) fun c=>Bq .i64 (Z.getD 3 .top) fun e=>Bq .i64 (Z.getD 4 .top) fun f=>Bq .i64 (Z.getD 5 .top) fun g=>Bq .i64 (Z.getD 6 .top) fun h=>Bq .i64 (Z.getD 7 .top) fun i=>Bq .i64 (Z.getD 8 .top) fun j=>Bq .i64 (Z.getD 9 .top) fun k=>Bq .i64 (Z.getD 10 .top) fun m=>Bq .i64 (Z.getD 11 .top) fun n=>Bq .i64 (Z.getD 12 .top) fun o=>Bq .i64 (Z.getD 13 .top) fun p=>Bq .i64 (Z.getD 14 .top) fun q=>Bq .i64 (Z.getD 15 .top) fun s=>Bq .i64 (Z.getD 16 .top) fun t=>Bq .i64 (Z.getD 17 .top) fun u=>Bk [.agg [a,b,c,e,f,g,h,i,j,k,m,n,o,p,q,s,t,u]]):=by cases Y with|zero=>exact absurd Gc (Nat.lt_irrefl 0)|succ Y=>kernel_rfl
theorem MR(Z:Int):Wn (CX xs) fu d 131 [Ag Z] fun call=>G5 fu call Z fu Z 0 0 ([(0:Int),(0:Int),(0:Int),(0:Int),(0:Int),(0:Int),(0:Int),(0:Int),(0:Int),(0:Int),(0:Int),(0:Int),(0:Int),(0:Int),(0:Int),(0:Int),(0:Int),(0:Int)]) ([(0:Int),(0:Int),(0:Int),(0:Int),(0:Int),(0:Int),(0:Int),(0:Int),(0:Int),(0:Int),(0:Int),(0:Int),(0:Int),(0:Int),(0:Int),(0:Int),(0:Int),(0:Int)]):=by show _=_;kernel_rfl
def Mv(Z Y:Int)(X W V:Int)(U:Nat)(T S:Int)(Q P O:Int):Option Bv:=Kk fu call 132 Tryz.f132 [Z,Y,X,W,Ag V] [.r,.r,.l,.r,.l] U ⟨lk [(0,T),(1,S),(4,Ag Q),(11,P),(12,O)],C4 []⟩
theorem V7(U T:Int)(S Q P:Int)(O:Nat)(Y X:Int)(W V Z:Int):Mv fu call U T S Q P (O+1) Y X W V Z=(Aw (decide (Z<V)) (Aa (wrap .u64 Y) fun a=>Aa (wrap .u64 X) fun b=>Aa (wrap .u64 Z) fun c=>Dl (call 91 [Am 1 4 [Ag a,Ag b,Ag c,Ag W]]) fun a b=>Kf 1 a fun a c=>Ak b<|As (decide (0+a*1<=c.length))<|Gt .u64 (call 86 [(1:Int),Am 1 a (List.take (a*1) (c.drop 0))]) fun a=>Aa (wrap .i64 (Z+1)) fun b=>Mv fu call U T S Q P O Y X a V b) (Bk [Ag W])):=by kernel_rfl
theorem WW(X W:Int)(Z Y V:Int):Wn (CX xs) fu d 132 [X,W,Z,Y,Ag V] fun call=>Aa (if 15<Y then 15 else Y) fun a=>Aa (if Z<0 then 0 else Z) fun b=>Mv fu call X W Z Y V fu X W V a b:=by show _=_;kernel_rfl
theorem JK(Z Y:Int)(X W:Int)(V U:Int)(T S:Int)(Q P:Int)(O N:Int)(M L:Int)(K J:Int)(I H G:Int):Wn (CX xs) fu d 133 [Z,.agg [Ag Y,Ag X,Ag W,Ag V,Ag U,Ag T,Ag S,Ag Q,Ag P,Ag O,Ag N,Ag M,Ag L,Ag K,Ag J,Ag I,Ag H,Ag G]] fun call=>Aa (wrap .u64 Z) fun a=>Dl (call 91 [Am 1 19 [Ag a,Ag Y,Ag X,Ag W,Ag V,Ag U,Ag T,Ag S,Ag Q,Ag P,Ag O,Ag N,Ag M,Ag L,Ag K,Ag J,Ag I,Ag H,Ag G]]) fun a b=>Kf 1 a fun a c=>Ak b<|As (decide (0+a*1<=c.length))<|Gt .u64 (call 86 [(2:Int),Am 1 a (List.take (a*1) (c.drop 0))]) fun a=>Bk [Ag a]:=by show _=_;kernel_rfl
def Ff(Z Y:Int)(X:Nat)(W:Ae)(V:Nat)(U:Int)(T:Nat)(S:Ae)(Q P:Int)(O N:Int)(M L:Int)(K J:Int)(I H:Int)(G E:Int)(D B:Int)(A z:Int)(w v u:Int)(t:Ae):Option Bv:=Kk fu call 92 Tryz.f92 [Z,Ag Y,Am 1 X W] [.r,.r,.r,.l,.r,.l] V ⟨lk [(0,U),(2,Am 1 T S),(8,.ptr 8 0),(15,.agg [Q,P,O,N,M,L,K,J,I,H,G,E,D,B,A,z,w,v]),(16,u)],C4 [(8,.ar false t)]⟩
def Ti(Z Y:Int)(X:Nat)(W:Ae)(V:Nat)(U:Int)(T:Ae):Option Bv:=Kk fu call 92 Tryz.f92 [Z,Ag Y,Am 1 X W] [.r,.r,.r] V ⟨lk [(0,U),(8,.ptr 8 0)],C4 [(8,.ar false T)]⟩
def Td(Z Y:Int)(X:Nat)(W:Ae)(V:Nat)(U T:Int):Option Bv:=Kk fu call 92 Tryz.f92 [Z,Ag Y,Am 1 X W] [.r,.r,.r,.r] V ⟨lk [(6,Ag U),(7,T)],C4 []⟩
theorem Pm(W V:Int)(U:Nat)(T:Ae)(t:Nat)(Y:Int)(S:Nat)(Q:Ae)(P O:Int)(N M:Int)(L K:Int)(J I:Int)(H G:Int)(E D:Int)(B A:Int)(z w:Int)(v u Z:Int)(X:Ae):Ff fu call W V U T (t+1) Y S Q P O N M L K J I H G E D B A z w v u Z X=(Aw (decide (Z<18)) (As (decide (0<=Z)&&decide (Z<18)&&true)<|Bq .i64 (List.getD [P,O,N,M,L,K,J,I,H,G,E,D,B,A,z,w,v,u] (Z.toNat*1) .top) fun a=>As (decide (0<=Z)&&decide (Z<(↑S:Int)))<|Bq .u64 (Q.getD (Z.toNat*1) .top) fun b=>Gt .u64 (call 132 [Y,Z,a,(15:Int),Ag b]) fun a=>As (decide (0<=Z)&&decide (Z<18))<|As (decide (0+Z.toNat*1+1<=X.length))<|Aa (B6 X [Ag a] (0+Z.toNat*1)) fun a=>Aa (wrap .i64 (Z+1)) fun b=>Ff fu call W V U T t Y S Q P O N M L K J I H G E D B A z w v u b a) (Ti fu call W V U T fu Y X)):=by kernel_rfl
theorem BB(X W:Int)(V:Nat)(U:Ae)(Y:Nat)(Gc:0<Y)(T:Int)(Z:Ae):Ti fu call X W V U Y T Z=(Bq .u64 (Z.getD 0 .top) fun a=>Bq .u64 (Z.getD 1 .top) fun b=>Bq .u64 (Z.getD 2 .top) fun c=>Bq .u64 (Z.getD 3 .top) fun e=>Bq .u64 (Z.getD 4 .top) fun f=>Bq .u64 (Z.getD 5 .top) fun g=>Bq .u64 (Z.getD 6 .top) fun h=>Bq .u64 (Z.getD 7 .top) fun i=>Bq .u64 (Z.getD 8 .top) fun j=>Bq .u64 (Z.getD 9 .top) fun k=>Bq .u64 (Z.getD 10 .top) fun m=>Bq .u64 (Z.getD 11 .top) fun n=>Bq .u64 (Z.getD 12 .top) fun o=>Bq .u64 (Z.getD 13 .top) fun p=>Bq .u64 (Z.getD 14 .top) fun q=>Bq .u64 (Z.getD 15 .top) fun s=>Bq .u64 (Z.getD 16 .top) fun t=>Bq .u64 (Z.getD 17 .top) fun u=>Gt .u64 (call 133 [T,.agg [Ag a,Ag b,Ag c,Ag e,Ag f,Ag g,Ag h,Ag i,Ag j,Ag k,Ag m,Ag n,Ag o,Ag p,Ag q,Ag s,Ag t,Ag u]]) fun a=>Td fu call X W V U fu a 0):=by cases Y with|zero=>exact absurd Gc (Nat.lt_irrefl 0)|succ Y=>kernel_rfl
theorem BS(W V:Int)(U:Nat)(T:Ae)(Z:Nat)(Gc:0<Z)(Y X:Int):Td fu call W V U T Z Y X=(Bk [Ag Y,X]):=by cases Z with|zero=>exact absurd Gc (Nat.lt_irrefl 0)|succ Z=>kernel_rfl
theorem KL(Y X:Int)(Z:Nat)(W:Ae):Wn (CX xs) fu d 92 [Y,Ag X,Am 1 Z W] fun call=>Aw ((↑Z:Int) != 18) (Bk [Ag 0,(4:Int)]) (Dl (call 131 [Ag X]) fun a b=>Di a fun a=>Br .i64 a fun a c=>Br .i64 c fun c e=>Br .i64 e fun e f=>Br .i64 f fun f g=>Br .i64 g fun g h=>Br .i64 h fun h i=>Br .i64 i fun i j=>Br .i64 j fun j k=>Br .i64 k fun k m=>Br .i64 m fun m n=>Br .i64 n fun n o=>Br .i64 o fun o p=>Br .i64 p fun p q=>Br .i64 q fun q s=>Br .i64 s fun s t=>Br .i64 t fun t u=>Br .i64 u fun u v=>Cg .i64 v fun v=>Ak b<|Ff fu call Y X Z W fu Y Z W a c e f g h i j k m n o p q s t u v 0 ([Ag 0,Ag 0,Ag 0,Ag 0,Ag 0,Ag 0,Ag 0,Ag 0,Ag 0,Ag 0,Ag 0,Ag 0,Ag 0,Ag 0,Ag 0,Ag 0,Ag 0,Ag 0])):=by show _=_;kernel_rfl
theorem UV(Z:Int):Wn (CX xs) fu d 87 [Z] fun call=>Aw (decide (Z<0)) (Bk [true]) (Bk [De (decide (Z>4))]):=by show _=_;kernel_rfl
theorem KV(Z Y:Int):Wn (CX xs) fu d 88 [Z,Y] fun call=>Aw (decide (Z<0)) (Bk [true]) (As (decide (0<=Y))<|Aa (Eu .i64 1 Y) fun a=>Bk [De (decide (Z>=a))]):=by show _=_;kernel_rfl
def Ht(Z:Nat)(Y:Ae)(X W:Nat)(V:Ae)(U:Nat)(T S:Int)(Q:Ae):Option Bv:=Kk fu call 89 Tryz.f89 [Am 1 Z Y] [.r,.r,.l,.r,.l] X ⟨lk [(0,Am 1 W V),(3,.view 3 1 0 U),(12,T),(13,S)],C4 [(3,.ar false Q)]⟩
def Jy(Z:Nat)(Y:Ae)(X W V:Nat)(U:Ae)(T:Nat)(S Q P:Int)(O:Nat)(N:Ae)(M L:Int)(K:Ae):Option Bv:=Kk fu call 89 Tryz.f89 [Am 1 Z Y] [.r,.r,.l,.r,.l,.i X,.r,.r,.l,.l,.r,.r,.l] W ⟨lk [(0,Am 1 V U),(3,.view 3 1 0 T),(4,S),(12,Q),(13,P),(22,Am 1 O N),(23,M),(24,L)],C4 [(3,.ar false K)]⟩
theorem Sz(T:Nat)(S:Ae)(Q W:Nat)(V:Ae)(Y:Nat)(U Z:Int)(X:Ae):Ht fu call T S (Q+1) W V Y U Z X=(Aw (decide (Z<U)) (Aa (wrap .i64 (8*Z)) fun a=>Aa (wrap .i64 (8*Z)) fun b=>Aa (wrap .i64 (b+8)) fun b=>As (decide (0<=a))<|As (decide (0<=b))<|As (decide (a.toNat<=b.toNat)&&decide (b.toNat<=W))<|Aa (b.toNat-a.toNat) fun b=>Aa (List.take (b*1) (V.drop (a.toNat*1))) fun a=>Jy fu call T S Q fu W V Y Z U Z b a (↑b:Int) 0 X) (As (decide (Y*1<=X.length))<|Bk [.own 1 Y (X.take (Y*1))])):=by kernel_rfl
theorem R6(V:Nat)(U:Ae)(T K S:Nat)(Q:Ae)(X:Nat)(Z P O:Int)(N:Nat)(M:Ae)(L Y:Int)(W:Ae):Jy fu call V U T (K+1) S Q X Z P O N M L Y W=(Aw (decide (Y<L)) (As (decide (0<=Y)&&decide (Y<(↑N:Int)))<|Bq .u8 (M.getD (Y.toNat*1) .top) fun a=>As (decide (0<=Z)&&decide (Z<(↑X:Int)))<|Bq .u64 (W.getD (0+Z.toNat*1) .top) fun b=>Aa (Eu .u64 b 8) fun b=>Aa (wrap .u64 a) fun a=>Aa (Xr .u64 b a) fun a=>As (decide (0<=Z)&&decide (Z<(↑X:Int)))<|As (decide (0+Z.toNat*1+1<=W.length))<|Aa (B6 W [Ag a] (0+Z.toNat*1)) fun a=>Aa (wrap .i64 (Y+1)) fun b=>Jy fu call V U T K S Q X Z P O N M L b a) (Aa (wrap .i64 (O+1)) fun a=>Ht fu call V U T S Q X P a W)):=by kernel_rfl
theorem PG(Z:Nat)(Y:Ae):Wn (CX xs) fu d 89 [Am 1 Z Y] fun call=>Aa (wrap .i64 (Int.tdiv (↑Z:Int) 8)) fun a=>As (decide (0<=a)&&decide (a<=a)&&decide (a*8<=1099511627776)&&decide (a<=1099511627776))<|Ht fu call Z Y fu Z Y a.toNat ((↑a.toNat:Int)) 0 (Tx a.toNat [Ag 0]):=by show _=_;kernel_rfl
theorem LL(Z Y X:Int):Wn (CX xs) fu d 93 [Z,Ag Y,Ag X] fun call=>Aa (wrap .u64 Z) fun a=>Dl (call 91 [Am 1 3 [Ag a,Ag Y,Ag X]]) fun a b=>Kf 1 a fun a c=>Ak b<|As (decide (0+a*1<=c.length))<|Gt .u64 (call 86 [(3:Int),Am 1 a (List.take (a*1) (c.drop 0))]) fun a=>Bk [Ag a]:=by show _=_;kernel_rfl
theorem DU(Z Y:Int):Wn (CX xs) fu d 128 [.agg [Z,Ag Y]] fun call=>Dl (call 87 [Z]) fun a b=>Ax a fun a=>Ak b<|Aw a (Bk [.own 1 0 [],(9:Int)]) (Aa (wrap .u8 Z) fun a=>Dl (call 91 [Am 1 1 [Ag Y]]) fun b c=>Kf 1 b fun b e=>Ak c<|As (decide (0+b*1<=e.length))<|As (decide (List.length (List.take (b*1) (e.drop 0))=b*1)&&decide ((1+b)*1<=1099511627776)&&decide (1+b<=1099511627776))<|Aa (1+b) fun c=>Aa ([.sc (.int .u8 a)]++List.take (b*1) (e.drop 0)) fun a=>As (decide (c*1<=a.length))<|Bk [.own 1 c (a.take (c*1)),(0:Int)]):=by show _=_;kernel_rfl
theorem EA(Z:Nat)(Y:Ae):Wn (CX xs) fu d 83 [Am 1 Z Y] fun call=>Aw ((↑Z:Int) != 9) (Bk [.agg [(0:Int),Ag 0],(2:Int)]) (As (decide (0<(↑Z:Int)))<|Bq .u8 (Y.getD 0 .top) fun a=>Aa (wrap .i64 a) fun a=>Dl (call 87 [a]) fun a b=>Ax a fun a=>Ak b<|Aw a (Bk [.agg [(0:Int),Ag 0],(2:Int)]) (As (decide (0<(↑Z:Int)))<|Bq .u8 (Y.getD 0 .top) fun a=>Aa (wrap .i64 a) fun a=>As (decide (1<=Z)&&decide (Z<=Z))<|Aa (Z-1) fun b=>Aa (List.take (b*1) (Y.drop 1)) fun c=>Dl (call 89 [Am 1 b c]) fun b c=>Kf 1 b fun b e=>Ak c<|As (decide (0<(↑b:Int)))<|Bq .u64 (e.getD 0 .top) fun b=>Bk [.agg [a,Ag b],(0:Int)])):=by show _=_;kernel_rfl
theorem Tt(Z:Nat)(Y:Ae):Wn (CX xs) fu d 49 [Am 1 Z Y] fun call=>Aw (decide ((↑Z:Int)<2)) (Bk [.agg [(0:Int),.own 1 0 [],.own 1 0 []],(2:Int)]) (As (decide (0<(↑Z:Int)))<|Bq .u8 (Y.getD 0 .top) fun a=>Aa (wrap .i64 a) fun a=>As (decide (1<(↑Z:Int)))<|Bq .u8 (Y.getD 1 .top) fun b=>Aa (wrap .i64 b) fun b=>Dl (call 87 [b]) fun c e=>Ax c fun c=>Ak e<|Aw c (Bk [.agg [(0:Int),.own 1 0 [],.own 1 0 []],(2:Int)]) (Dl (call 88 [a,b]) fun c e=>Ax c fun c=>Ak e<|Aw c (Bk [.agg [(0:Int),.own 1 0 [],.own 1 0 []],(2:Int)]) (Aa (wrap .i64 (18+b)) fun b=>Aa (wrap .i64 (8*b)) fun b=>Aa (wrap .i64 (2+b)) fun b=>Aw ((↑Z:Int) != b) (Bk [.agg [(0:Int),.own 1 0 [],.own 1 0 []],(2:Int)]) (As (decide (146<=Z))<|Aa (List.take 144 (Y.drop 2)) fun b=>Dl (call 89 [Am 1 144 b]) fun b c=>Kf 1 b fun b e=>Ak c<|As (decide (146<=Z)&&decide (Z<=Z))<|Aa (Z-146) fun c=>Aa (List.take (c*1) (Y.drop 146)) fun f=>Dl (call 89 [Am 1 c f]) fun c f=>Kf 1 c fun c g=>Ak f<|As (decide (b*1<=e.length))<|As (decide (c*1<=g.length))<|Bk [.agg [a,.own 1 b (e.take (b*1)),.own 1 c (g.take (c*1))],(0:Int)])))):=by show _=_;kernel_rfl
def G3(Z Y:Int)(X W:Int)(V:Nat)(U:Ae)(T:Nat)(S:Ae)(Q:Nat)(P:Int)(O:Nat)(N:Ae)(M L:Int)(K J I:Int)(H:Nat)(G:Ae)(E:Nat)(D:Ae):Option Bv:=Kk fu call 52 Tryz.f52 [.agg [Z,Ag Y],Ag X,.agg [W,Am 1 V U,Am 1 T S]] [.r,.r,.r,.r,.r,.l,.r,.l] Q ⟨lk [(3,.ptr 3 0),(5,.ptr 5 0),(7,Ag P),(46,Am 1 O N),(47,M),(48,L)],C4 [(3,.st [K,Ag J]),(5,.st [I,Am 1 H G,Am 1 E D])]⟩
theorem Qz(S Q:Int)(P O:Int)(N:Nat)(M:Ae)(L:Nat)(K:Ae)(J:Nat)(Y:Int)(X:Nat)(W:Ae)(V Z:Int)(I U T:Int)(H:Nat)(G:Ae)(E:Nat)(D:Ae):G3 fu call S Q P O N M L K (J+1) Y X W V Z I U T H G E D=(Aw (decide (Z<V)) (As (decide (0<=Z)&&decide (Z<(↑X:Int)))<|Bq .u64 (W.getD (Z.toNat*1) .top) fun a=>As (decide (0<=Z))<|Aa (Hc .i64 T Z) fun b=>Aa (D2 .i64 b 1) fun b=>Aw (b==0) (Aa (wrap .i64 (Z+1)) fun b=>Gt .u64 (call 93 [b,Ag Y,Ag a]) fun a=>Aa (wrap .i64 (Z+1)) fun b=>G3 fu call S Q P O N M L K J a X W V b I U T H G E D) (Aa (wrap .i64 (Z+1)) fun b=>Gt .u64 (call 93 [b,Ag a,Ag Y]) fun a=>Aa (wrap .i64 (Z+1)) fun b=>G3 fu call S Q P O N M L K J a X W V b I U T H G E D)) (Aw (Y != U) (Bk [(15:Int)]) (Bk [(0:Int)]))):=by kernel_rfl
theorem NI(Z T:Int)(S X:Int)(W:Nat)(V:Ae)(Y:Nat)(U:Ae):Wn (CX xs) fu d 52 [.agg [Z,Ag T],Ag S,.agg [X,Am 1 W V,Am 1 Y U]] fun call=>Dl (call 87 [Z]) fun a b=>Ax a fun a=>Ak b<|Aw a (Bk [(9:Int)]) (Dl (call 88 [X,Z]) fun a b=>Ax a fun a=>Ak b<|Aw a (Bk [(9:Int)]) (Aw ((↑W:Int) != 18) (Bk [(4:Int)]) (Aw ((↑Y:Int) != Z) (Bk [(4:Int)]) (Dl (call 92 [X,Ag S,Am 1 W V]) fun a b=>Bq .u64 a fun a=>Cg .i64 b fun b=>Aw (b != 0) (Bk [b]) (G3 fu call Z T S X W V Y U fu a Y U (↑Y:Int) 0 Z T X W V Y U))))):=by show _=_;kernel_rfl
end
theorem A4q{a m:Int}(h0:0<=m)(h1:m<=18446744073709551615):0<=D2 .u64 a m/\D2 .u64 a m<=m:=by
 have Zi:(BitVec.ofInt 64 a &&& BitVec.ofInt 64 m).toNat<=m.toNat:=by
  rw[BitVec.toNat_and];refine Nat.le_trans Nat.and_le_right ?_;rw[BitVec.toNat_ofInt];omega
 have:D2 .u64 a m=((BitVec.ofInt 64 a &&& BitVec.ofInt 64 m).toNat:Int):=by
  unfold D2;exact RW (by omega) (by show ((BitVec.ofInt 64 a &&& BitVec.ofInt 64 m).toNat:Int)<=_;omega)
 rw[this];omega
theorem AK(k:IntKind)(l:Al)(i:Nat)(x:Int):(Af k l).set i (.sc (.int k x))=Af k (l.set i x):=by
 induction l generalizing i with
 |nil=>rfl
 |cons a l ih=>
  cases i with
  |zero=>rfl
  |succ i=>
   show (PV.sc (.int k a)::Af k l).set (i+1) _=PV.sc (.int k a)::Af k (l.set i x);rw[List.set_cons_succ,ih]
theorem As9(w:Int)(k:Nat):0<=F7 w k/\F7 w k<=255:=by unfold F7;simp only[wrap,IntKind.signed,IntKind.bits];simp;omega
theorem Uh(w:Int):Cz (Bu w):=by intro x hx;obtain⟨k,_,rfl⟩:=List.mem_map.1 hx;exact As9 w k
theorem Xc(ws:Al):Cz (A8 ws):=by intro x hx;obtain⟨w,_,hx⟩:=List.mem_flatMap.1 hx;exact Uh w x hx
theorem E4(ws:Al):(A8 ws).length=8*ws.length:=by
 induction ws with
 |nil=>rfl
 |cons w ws ih=>
  show (Bu w++A8 ws).length=_;rw[Wy,ih,Cl,Tm];omega
def Hd(m:Int)(k:Nat):Int:=wrap .i64 (D2 .u64 (Hc .u64 m (60-4*(k:Int))) 15)
theorem Ue(m:Int)(k:Nat):0<=Hd m k/\Hd m k<=15:=by have:=A4q (a:=Hc .u64 m (60-4*(k:Int))) (m:=15) (by omega) (by omega);unfold Hd;rw[Bn];exact this
def K8(m:Int):Nat->Int
 |0=>0
 |k+1=>K8 m k+(15-Hd m k)
theorem Ls(m:Int):∀k,0<=K8 m k/\K8 m k<=15*k
 |0=>by simp[K8]
 |k+1=>by
  have h1:=Ls m k;have h2:=Ue m k;simp only[K8];omega
def dgs(m:Int):Al:=(List.range 16).map (Hd m)++[K8 m 16 / 16,K8 m 16 % 16]
def dg(m:Int)(k:Nat):Int:=(dgs m).getD k 0
theorem Ak0(m:Int):(dgs m).length=18:=rfl
theorem Awk{m x:Int}(h:x∈dgs m):0<=x/\x<=15:=by
 have hs:=Ls m 16;unfold dgs at h;rcases B5.1 h with h|h
 ·obtain⟨k,_,rfl⟩:=List.mem_map.1 h;exact Ue m k
 ·simp at h;rcases h with rfl|rfl<;>omega
theorem MC(m:Int)(k:Nat):0<=dg m k/\dg m k<=15:=by
 unfold dg;rw[List.getD_eq_getElem?_getD];cases h:(dgs m)[k]? with
 |none=>simp
 |some x=>exact Awk (List.mem_of_getElem? h)
def dl(m:Int)(i:Nat):Al:=(List.range i).map (Hd m)++List.replicate (18-i) 0
theorem Aiz(m:Int){i:Nat}(h:i<=18):(dl m i).length=18:=by simp[dl];omega
theorem Bdc(m:Int){i:Nat}(h:i<18):(dl m (i+1))[i]?=some (Hd m i):=by unfold dl;rw[List.getElem?_append_left (by simp)];simp
theorem A6b(m:Int){i:Nat}(h:i<18):(dl m i).set i (Hd m i)=dl m (i+1):=by unfold dl;rw[List.set_append_right _ _ (by simp),List.length_map,List.length_range,Nat.sub_self,show 18-i=(18-(i+1))+1 by omega,List.replicate_succ,List.set_cons_zero,List.range_succ,List.map_append,Zzv];rfl
def Yb(leaf chain:Int):Nat->Int->Int->Int
 |0,_,x=>x
 |k+1,p,x=>Yb leaf chain k (p+1) (E3 1 (A8 [wrap .u64 leaf,wrap .u64 chain,wrap .u64 p,x]))
theorem Agc(leaf chain:Int):∀(k j:Nat)(p x:Int),Yb leaf chain (k+j) p x=Yb leaf chain j (p+k) (Yb leaf chain k p x)
 |0,j,p,x=>by simp[Yb]
 |k+1,j,p,x=>by
  rw[show k+1+j=(k+j)+1 by omega];simp only[Yb];rw[Agc leaf chain k j]
  congr 1
  omega
def NQ(leaf:Int)(E:Al):Int:=E3 2 (A8 (wrap .u64 leaf::E))
def Aie(leaf m:Int)(s:Al)(k:Nat):Int:=Yb leaf k (15-dg m k).toNat (dg m k) (s.getD k 0)
def SE(leaf m:Int)(s:Al):Al:=(List.range 18).map (Aie leaf m s)
def Ann(leaf m:Int)(s:Al):Int:=NQ leaf (SE leaf m s)
def el(leaf m:Int)(s:Al)(i:Nat):Al:=(List.range i).map (Aie leaf m s)++List.replicate (18-i) 0
theorem Aui(leaf m:Int)(s:Al){i:Nat}(h:i<=18):(el leaf m s i).length=18:=by simp[el];omega
theorem A2j(leaf m:Int)(s:Al){i:Nat}(h:i<18):(el leaf m s i).set i (Aie leaf m s i)=el leaf m s (i+1):=by unfold el;rw[List.set_append_right _ _ (by simp),List.length_map,List.length_range,Nat.sub_self,show 18-i=(18-(i+1))+1 by omega,List.replicate_succ,List.set_cons_zero,List.range_succ,List.map_append,Zzv];rfl
theorem A8u(leaf m:Int)(s:Al):el leaf m s 18=SE leaf m s:=by unfold el SE;simp
theorem Yf{a b:Al}(ha:Cz a)(hb:Cz b):Cz (a++b):=by
 intro x hx;rcases B5.1 hx with hx|hx
 ·exact ha x hx
 ·exact hb x hx
section
variable {fu d:Nat}{xs:FuncId->Option (Ae->Option Bv)}
theorem As5{ws:Al}(hl:ws.length<=100)(B2:1000<=fu)(dom:Int):Ac (CX xs) prog fu (d+5) 86 [Ar dom,.lst false 1 (A8 ws).length (Af .u8 (A8 ws))]=some ⟨[Ag (E3 dom (A8 ws))],[]⟩:=
 QX (Xc ws) (by rw[E4];omega) (by omega) (by rw[E4];omega) dom
theorem Aec{leaf chain:Int}{a0 a1 a2 a3 a4:Int}(B2:1000<=fu){t:Int}(ht:t<=15):∀(k nn:Nat)(p x:Int),(k:Int)=t-p->0<=p->k<nn ->
  Mv fu (Ac (CX xs) prog fu (d+5)) a0 a1 a2 a3 a4 nn leaf chain x t p=some ⟨[Ag (Yb leaf chain k p x)],[]⟩
 |_,0,_,_,_,_,h=>by omega
 |0,nn+1,p,x,hk,hp,hn=>by
  rw[V7,Gs _ _ _ (by omega)];rfl
 |k+1,nn+1,p,x,hk,hp,hn=>by
  have w:wrap .i64 (p+1)=p+1:=Bn;have wd:Ac (CX xs) prog fu (d+5) 91 [.lst false 1 4 [Ag (wrap .u64 leaf),Ag (wrap .u64 chain),Ag (wrap .u64 p),Ag x]]=_:=IC (ws:=[wrap .u64 leaf,wrap .u64 chain,wrap .u64 p,x]) (by simp) (by omega) (by simp;omega)
  have hs:=As5 (xs:=xs) (fu:=fu) (d:=d) (ws:=[wrap .u64 leaf,wrap .u64 chain,wrap .u64 p,x]) (by simp) B2 1;have ih:=Aec (leaf:=leaf) (chain:=chain) (a0:=a0) (a1:=a1) (a2:=a2) (a3:=a3) (a4:=a4) B2 ht k nn (p+1) (E3 1 (A8 [wrap .u64 leaf,wrap .u64 chain,wrap .u64 p,x])) (by omega) (by omega) (by omega);have L:=An .u8 (A8 [wrap .u64 leaf,wrap .u64 chain,wrap .u64 p,x]);have eR:Yb leaf chain (k+1) p x=Yb leaf chain k (p+1) (E3 1 (A8 [wrap .u64 leaf,wrap .u64 chain,wrap .u64 p,x])):=rfl;rw[eR];generalize A8 [wrap .u64 leaf,wrap .u64 chain,wrap .u64 p,x]=W at wd hs ih L ⊢;rw[V7];simp(disch:=omega)only[Be,Bf,wd,J1,Ie,Me,PL,L,hs,w];exact ih
theorem A3d{leaf chain:Int}(B2:1000<=fu)(k:Nat)(f t x:Int)(hk:(k:Int)=t-f)(h0:0<=f)(h1:t<=15):Ac (CX xs) prog fu (d+6) 132 [Ar leaf,Ar chain,Ar f,Ar t,Ag x]=some ⟨[Ag (Yb leaf chain k f x)],[]⟩:=by rw[WW];simp only[Gf];rw[B3 (by omega),B3 (by omega)];exact Aec B2 h1 k fu f x hk h0 (by omega)
theorem OL{call:Ap}{a0 m:Int}{y3:Ae}:∀(k i nn:Nat),i+k=16->k<nn ->
  G5 fu call a0 nn m (K8 m i) i y3 (Af .i64 (dl m i))=G5 fu call a0 (nn-k) m (K8 m 16) 16 y3 (Af .i64 (dl m 16))
 |_,_,0,_,h=>by omega
 |0,i,nn+1,hi,hn=>by
  have e:i=16:=by omega
  subst e;rfl
 |k+1,i,nn+1,hi,hn=>by
  have ih:=OL (call:=call) (a0:=a0) (y3:=y3) (m:=m) k (i+1) nn (by omega) (by omega);have hb:=Ue m i;have hs:=Ls m i;have w:wrap .i64 ((i:Int)+1)=((i+1:Nat):Int):=B0
  have w4:wrap .i64 (4*(i:Int))=4*(i:Int):=Bn;have w60:wrap .i64 (60-4*(i:Int))=60-4*(i:Int):=Bn;have hd:wrap .i64 (D2 .u64 (Hc .u64 m (60-4*(i:Int))) 15)=Hd m i:=rfl;have w15:wrap .i64 (15-Hd m i)=15-Hd m i:=Bn;have ws:wrap .i64 (K8 m i+(15-Hd m i))=K8 m (i+1):=by rw[Bn];rfl
  have L:(Af .i64 (dl m i)).length=18:=by rw[An,Aiz m (by omega)]
  have Adv:B6 (Af .i64 (dl m i)) [Ar (Hd m i)] i=Af .i64 (dl m (i+1)):=by
   rw[Id (by omega),AK,A6b m (by omega)]
  have hat:(Af .i64 (dl m (i+1))).getD i .top=Ar (Hd m i):=HJ (Bdc m (by omega));rw[show nn+1-(k+1)=nn-k by omega,<-ih,Q5];simp(disch:=omega)only[Be,Bf,Jd,J1,Ie,w,w4,w60,hd,L,Adv,hat,w15,ws]
theorem Ap4(B2:1000<=fu)(m:Int):Ac (CX xs) prog fu (d+1) 131 [Ag m]=some ⟨[.agg (Af .i64 (dgs m))],[]⟩:=by
 rw[MR];have lp:=OL (fu:=fu) (call:=Ac (CX xs) prog fu d) (a0:=m) (m:=m) (y3:=Af .i64 (List.replicate 18 0)) 16 0 fu (by omega) (by omega);obtain⟨f',hf'⟩:∃f',fu-16=f'+1:=⟨fu-17,by omega⟩
 rw[hf'] at lp;refine Eq.trans lp ?_;have hs:=Ls m 16
 have wq:wrap .i64 (Int.tdiv (K8 m 16) 16)=K8 m 16 / 16:=by
  rw[Int.tdiv_eq_ediv_of_nonneg (by omega),Bn]
 have wm:Int.tmod (K8 m 16) 16=K8 m 16 % 16:=Int.tmod_eq_emod_of_nonneg (by omega);have L:(Af .i64 (dl m 16)).length=18:=by rw[An,Aiz m (by omega)]
 have h1:B6 (Af .i64 (dl m 16)) [Ar (K8 m 16 / 16)] 16=Af .i64 ((dl m 16).set 16 (K8 m 16 / 16)):=by
  rw[Id (by omega),AK]
 have L2:(Af .i64 ((dl m 16).set 16 (K8 m 16 / 16))).length=18:=by rw[An,List.length_set,Aiz m (by omega)]
 have h2:B6 (Af .i64 ((dl m 16).set 16 (K8 m 16 / 16))) [Ar (K8 m 16 % 16)] 17=Af .i64 (dgs m):=by
  rw[Id (by omega),AK];rfl
 rw[Q5,Gs _ _ _ (by omega)];simp only[Gf,wq,wm,L,h1,L2,h2];generalize hq:K8 m 16 / 16=q at *
 generalize hr:K8 m 16 % 16=r at *
 have hD:Af .i64 (dgs m)=[Ar (Hd m 0),Ar (Hd m 1),Ar (Hd m 2),Ar (Hd m 3),Ar (Hd m 4),Ar (Hd m 5),Ar (Hd m 6),Ar (Hd m 7),Ar (Hd m 8),Ar (Hd m 9),Ar (Hd m 10),Ar (Hd m 11),Ar (Hd m 12),Ar (Hd m 13),Ar (Hd m 14),Ar (Hd m 15),Ar q,Ar r]:=by
  unfold dgs;rw[hq,hr];rfl
 rw[hD];have A96:(Af .i64 (List.replicate 18 0)).length=18:=rfl
 have hsp:∀c:Ae,c.length=18->B6 (Af .i64 (List.replicate 18 0)) c 0=c:=by
  intro c hc;unfold B6;rw[hc,List.drop_of_length_le (by rw[A96];omega)]
  simp
 rw[EO (Gc:=by omega)];simp only[Be,Bf,List.getD_cons_zero,List.getD_cons_succ,A96];rw[hsp _ rfl];simp(disch:=omega)only[Be,Bf,DN,List.getD_cons_zero,List.getD_cons_succ]
theorem Air(B2:1000<=fu)(leaf:Int){E:Al}(hE:E.length=18):Ac (CX xs) prog fu (d+6) 133 [Ar leaf,.agg (Af .u64 E)]=some ⟨[Ag (NQ leaf E)],[]⟩:=by
 match E,hE with
 |[e0,e1,e2,e3,e4,e5,e6,e7,e8,e9,e10,e11,e12,e13,e14,e15,e16,e17],_=>
  have wd:Ac (CX xs) prog fu (d+5) 91 [.lst false 1 19 [Ag (wrap .u64 leaf),Ag e0,Ag e1,Ag e2,Ag e3,Ag e4,Ag e5,Ag e6,Ag e7,Ag e8,Ag e9,Ag e10,Ag e11,Ag e12,Ag e13,Ag e14,Ag e15,Ag e16,Ag e17]]=_:=IC (ws:=wrap .u64 leaf::[e0,e1,e2,e3,e4,e5,e6,e7,e8,e9,e10,e11,e12,e13,e14,e15,e16,e17]) (by simp) (by omega) (by simp;omega)
  have hs:=As5 (xs:=xs) (fu:=fu) (d:=d) (ws:=wrap .u64 leaf::[e0,e1,e2,e3,e4,e5,e6,e7,e8,e9,e10,e11,e12,e13,e14,e15,e16,e17]) (by simp) B2 2;have L:=An .u8 (A8 (wrap .u64 leaf::[e0,e1,e2,e3,e4,e5,e6,e7,e8,e9,e10,e11,e12,e13,e14,e15,e16,e17]));have eR:NQ leaf [e0,e1,e2,e3,e4,e5,e6,e7,e8,e9,e10,e11,e12,e13,e14,e15,e16,e17]=E3 2 (A8 (wrap .u64 leaf::[e0,e1,e2,e3,e4,e5,e6,e7,e8,e9,e10,e11,e12,e13,e14,e15,e16,e17])):=rfl;rw[eR];generalize A8 (wrap .u64 leaf::[e0,e1,e2,e3,e4,e5,e6,e7,e8,e9,e10,e11,e12,e13,e14,e15,e16,e17])=W at wd hs L ⊢;refine (JK fu (d+5) leaf e0 e1 e2 e3 e4 e5 e6 e7 e8 e9 e10 e11 e12 e13 e14 e15 e16 e17).trans ?_;simp(disch:=omega)only[Be,Bf,wd,J1,Ie,Me,PL,L,hs]
theorem Bcz(g:Nat->Int){i:Nat}(hi:i<18):List.getD [PV.sc (.int .i64 (g 0)),PV.sc (.int .i64 (g 1)),PV.sc (.int .i64 (g 2)),PV.sc (.int .i64 (g 3)),PV.sc (.int .i64 (g 4)),PV.sc (.int .i64 (g 5)),PV.sc (.int .i64 (g 6)),PV.sc (.int .i64 (g 7)),PV.sc (.int .i64 (g 8)),PV.sc (.int .i64 (g 9)),PV.sc (.int .i64 (g 10)),PV.sc (.int .i64 (g 11)),PV.sc (.int .i64 (g 12)),PV.sc (.int .i64 (g 13)),PV.sc (.int .i64 (g 14)),PV.sc (.int .i64 (g 15)),PV.sc (.int .i64 (g 16)),PV.sc (.int .i64 (g 17))] i PV.top=Ar (g i):=by
 have:((List.range 18).map g)[i]?=some (g i):=by simp[hi]
 exact HJ (k:=.i64) this
theorem KS{a0 a1:Int}{a2n:Nat}{a2:Ae}{leaf m:Int}{s:Al}(hs:s.length=18)(B2:1000<=fu)(g:Nat->Int)(hg:∀k,g k=dg m k):∀(k i nn:Nat),i+k=18->k<nn ->
  Ff fu (Ac (CX xs) prog fu (d+6)) a0 a1 a2n a2 nn leaf s.length (Af .u64 s) (g 0) (g 1) (g 2) (g 3) (g 4) (g 5) (g 6) (g 7) (g 8) (g 9) (g 10) (g 11) (g 12) (g 13) (g 14) (g 15) (g 16) (g 17) i (Af .u64 (el leaf m s i)) =
   Ff fu (Ac (CX xs) prog fu (d+6)) a0 a1 a2n a2 (nn-k) leaf s.length (Af .u64 s) (g 0) (g 1) (g 2) (g 3) (g 4) (g 5) (g 6) (g 7) (g 8) (g 9) (g 10) (g 11) (g 12) (g 13) (g 14) (g 15) (g 16) (g 17) 18 (Af .u64 (el leaf m s 18))
 |_,_,0,_,h=>by omega
 |0,i,nn+1,hi,hn=>by
  have e:i=18:=by omega
  subst e;rfl
 |k+1,i,nn+1,hi,hn=>by
  have ih:=KS (a0:=a0) (a1:=a1) (a2n:=a2n) (a2:=a2) (leaf:=leaf) (m:=m) hs B2 g hg k (i+1) nn (by omega) (by omega);obtain⟨x,hx⟩:∃x,s[i]?=some x:=⟨_,List.getElem?_eq_getElem (by omega)⟩
  have hb:=MC m i;have hgi:=Bcz g (i:=i) (by omega);have w:wrap .i64 ((i:Int)+1)=((i+1:Nat):Int):=B0
  have rn:=A3d (xs:=xs) (fu:=fu) (d:=d) (leaf:=leaf) (chain:=i) B2 (15-dg m i).toNat (g i) 15 x (by rw[hg];omega) (by rw[hg];omega) (by omega)
  have ev:Yb leaf i (15-dg m i).toNat (g i) x=Aie leaf m s i:=by
   unfold Aie;rw[List.getD_eq_getElem?_getD,hx,hg];rfl
  rw[ev] at rn;have L:(Af .u64 (el leaf m s i)).length=18:=by rw[An,Aui leaf m s (by omega)]
  have Adv:B6 (Af .u64 (el leaf m s i)) [Ag (Aie leaf m s i)] i=Af .u64 (el leaf m s (i+1)):=by
   rw[Id (by omega),AK,A2j leaf m s (by omega)]
  rw[show nn+1-(k+1)=nn-k by omega,<-ih,Pm];simp(disch:=omega)only[Be,Bf,Jd,J1,Ie,hgi,HJ hx,rn,L,Adv,w]
theorem Agz(B2:1000<=fu){a0 a1 leaf:Int}{a2n n nn:Nat}{a2 c:Ae}{g:Nat->Int}{E:Al}(hE:E.length=18):
  Ff fu (Ac (CX xs) prog fu (d+6)) a0 a1 a2n a2 (nn+1) leaf n c (g 0) (g 1) (g 2) (g 3) (g 4) (g 5) (g 6) (g 7) (g 8) (g 9) (g 10) (g 11) (g 12) (g 13) (g 14) (g 15) (g 16) (g 17) 18 (Af .u64 E)=some ⟨[Ag (NQ leaf E),Ar 0],[]⟩:=by
 match E,hE with
 |[e0,e1,e2,e3,e4,e5,e6,e7,e8,e9,e10,e11,e12,e13,e14,e15,e16,e17],hE=>
  have cb:=Air (xs:=xs) (fu:=fu) (d:=d) B2 leaf hE;have hc:Af .u64 [e0,e1,e2,e3,e4,e5,e6,e7,e8,e9,e10,e11,e12,e13,e14,e15,e16,e17]=[Ag e0,Ag e1,Ag e2,Ag e3,Ag e4,Ag e5,Ag e6,Ag e7,Ag e8,Ag e9,Ag e10,Ag e11,Ag e12,Ag e13,Ag e14,Ag e15,Ag e16,Ag e17]:=rfl;rw[hc] at cb ⊢;generalize NQ leaf [e0,e1,e2,e3,e4,e5,e6,e7,e8,e9,e10,e11,e12,e13,e14,e15,e16,e17]=R at cb ⊢;rw[Pm,Gs _ _ _ (by omega)];simp(disch:=omega)only[Be,Bf,BB,BS,List.getD_cons_zero,List.getD_cons_succ,cb]
theorem Ahr(B2:1000<=fu)(leaf m:Int)(s:Al):Ac (CX xs) prog fu (d+7) 92 [Ar leaf,Ag m,.lst false 1 s.length (Af .u64 s)]=some ⟨(if s.length=18 then [Ag (Ann leaf m s),Ar 0] else [Ag 0,Ar 4]),[]⟩:=by
 rw[KL];by_cases h:s.length=18
 ·have dq:=Ap4 (xs:=xs) (fu:=fu) (d:=d+5) B2 m;have hD:Af .i64 (dgs m)=[Ar (dg m 0),Ar (dg m 1),Ar (dg m 2),Ar (dg m 3),Ar (dg m 4),Ar (dg m 5),Ar (dg m 6),Ar (dg m 7),Ar (dg m 8),Ar (dg m 9),Ar (dg m 10),Ar (dg m 11),Ar (dg m 12),Ar (dg m 13),Ar (dg m 14),Ar (dg m 15),Ar (dg m 16),Ar (dg m 17)]:=rfl;rw[hD] at dq;simp only[Hh];rw[Cr h,Cr (by omega)];simp only[Be,Bf,dq];have lp:=KS (xs:=xs) (fu:=fu) (d:=d) (a0:=leaf) (a1:=m) (a2n:=s.length) (a2:=Af .u64 s) (leaf:=leaf) (m:=m) h B2 (dg m) (fun _=>rfl) 18 0 fu (by omega) (by omega);obtain⟨f',hf'⟩:∃f',fu-18=f'+1:=⟨fu-19,by omega⟩
  rw[hf'] at lp;refine Eq.trans lp ?_;have eE:el leaf m s 18=SE leaf m s:=A8u leaf m s;have hl:(SE leaf m s).length=18:=by rw[<-eE,Aui leaf m s (by omega)]
  have eR:Ann leaf m s=NQ leaf (SE leaf m s):=rfl;rw[eE,eR];exact Agz B2 hl
 ·simp only[Hh];rw[B3 h,B3 (by omega)]
end
structure Ky where
 h:Int
 root:Int
structure Sg where
 leaf:Int
 chains:Al
 path:Al
def Ky.cells(k:Ky):Ae:=[Ar k.h,Ag k.root]
def Sg.cells(s:Sg):Ae:=[Ar s.leaf,.lst false 1 s.chains.length (Af .u64 s.chains),.lst false 1 s.path.length (Af .u64 s.path)]
def E2(h:Int):Bool:=decide (h<0)||decide (h>4)
def L7(leaf h:Int):Bool:=decide (leaf<0)||decide (leaf>=Eu .i64 1 h)
def Rh(level a b:Int):Int:=E3 3 (A8 [wrap .u64 level,a,b])
def HF(leaf:Int):Nat->Int->Al->Int
 |_,x,[]=>x
 |i,x,s::r=>HF leaf (i+1) (if D2 .i64 (Hc .i64 leaf i) 1=0 then Rh ((i+1:Nat):Int) x s else Rh ((i+1:Nat):Int) s x) r
def okE(x root:Int):Int:=if x=root then 0 else 15
theorem Ajj(leaf:Int)(i:Nat)(x:Int):HF leaf i x []=x:=rfl
theorem NU(leaf:Int)(i:Nat)(x s:Int)(r:Al):HF leaf i x (s::r)=HF leaf (i+1) (if D2 .i64 (Hc .i64 leaf i) 1=0 then Rh ((i+1:Nat):Int) x s else Rh ((i+1:Nat):Int) s x) r:=rfl
def Acp(k:Ky)(m:Int)(s:Sg):Int:=
 if E2 k.h=true then 9 else if L7 s.leaf k.h=true then 9 else if s.chains.length≠18 then 4 else if (s.path.length:Int)≠k.h then 4 else
 okE (HF s.leaf 0 (Ann s.leaf m s.chains) s.path) k.root
theorem Rc{h:Int}(hh:E2 h=false):0<=h/\h<=4:=by unfold E2 at hh;simp at hh;omega
section
variable {fu d:Nat}{xs:FuncId->Option (Ae->Option Bv)}
theorem QL(h:Int):Ac (CX xs) prog fu (d+1) 87 [Ar h]=some ⟨[De (E2 h)],[]⟩:=by
 rw[UV];unfold E2;by_cases h0:h<0
 ·simp only[Be,Bf,GB,h0,decide_true,Bool.true_or,if_true]
 ·simp only[Be,Bf,GB,h0,decide_false,Bool.false_or,if_false]
theorem SU(leaf h:Int)(h0:0<=h):Ac (CX xs) prog fu (d+1) 88 [Ar leaf,Ar h]=some ⟨[De (L7 leaf h)],[]⟩:=by
 rw[KV];unfold L7;by_cases hl:leaf<0
 ·simp only[Be,Bf,GB,hl,decide_true,Bool.true_or,if_true]
 ·simp(disch:=omega)only[Be,Bf,GB,hl,decide_false,Bool.false_or,if_false]
theorem ZG(B2:1000<=fu)(level a b:Int):Ac (CX xs) prog fu (d+6) 93 [Ar level,Ag a,Ag b]=some ⟨[Ag (Rh level a b)],[]⟩:=by
 have wd:Ac (CX xs) prog fu (d+5) 91 [.lst false 1 3 [Ag (wrap .u64 level),Ag a,Ag b]]=_:=IC (ws:=[wrap .u64 level,a,b]) (by simp) (by omega) (by simp;omega)
 have hs:=As5 (xs:=xs) (fu:=fu) (d:=d) (ws:=[wrap .u64 level,a,b]) (by simp) B2 3;have L:=An .u8 (A8 [wrap .u64 level,a,b]);rw[LL];unfold Rh;generalize A8 [wrap .u64 level,a,b]=W at wd hs L ⊢;simp(disch:=omega)only[Be,Bf,wd,J1,Ie,Me,PL,L,hs]
theorem NL{a0 a1 a2 a3:Int}{n1 n2 n3 n4:Nat}{c1 c2 c3 c4:Ae}{y5 root leaf:Int}{path:Al}(hp:path.length<=100)(B2:1000<=fu):∀(r:Al)(i nn:Nat)(x:Int),path.drop i=r->r.length<nn->i<=path.length ->
  G3 fu (Ac (CX xs) prog fu (d+6)) a0 a1 a2 a3 n1 c1 n2 c2 nn x path.length (Af .u64 path) path.length i y5 root leaf n3 c3 n4 c4=some ⟨[Ar (okE (HF leaf i x r) root)],[]⟩
 |_,_,0,_,_,h,_=>by omega
 |[],i,nn+1,x,h,hn,hi=>by
  have:=drop_nil h;rw[Qz,Gs _ _ _ (by omega),Hh];rw[Ajj];unfold okE;by_cases e:x=root
  ·rw[Cr e,Cr e]
  ·rw[B3 e,B3 e]
 |s::r,i,nn+1,x,h,hn,hi=>by
  obtain⟨h1,h2,h3⟩:=D8 h;simp only[Tm] at hn;have w:wrap .i64 ((i:Int)+1)=((i+1:Nat):Int):=B0
  have ih:=fun x=>NL (a0:=a0) (a1:=a1) (a2:=a2) (a3:=a3) (n1:=n1) (n2:=n2) (n3:=n3) (n4:=n4) (c1:=c1) (c2:=c2) (c3:=c3) (c4:=c4) (y5:=y5) (root:=root) (leaf:=leaf) hp B2 r (i+1) nn x h3 (by omega) (by omega);have p1:=ZG (xs:=xs) (fu:=fu) (d:=d) B2 ((i+1:Nat):Int) x s;have p2:=ZG (xs:=xs) (fu:=fu) (d:=d) B2 ((i+1:Nat):Int) s x;rw[Qz,NU];by_cases hb:D2 .i64 (Hc .i64 leaf i) 1=0
  ·rw[Cr hb,<-ih];simp(disch:=omega)only[Be,Bf,Jd,J1,HJ h2,Ov,hb,w,p1,if_true]
  ·rw[B3 hb,<-ih];simp(disch:=omega)only[Be,Bf,Jd,J1,HJ h2,Ov,hb,w,p2,if_false]
theorem An3(B2:1000<=fu)(k:Ky)(m:Int)(s:Sg):Ac (CX xs) prog fu (d+8) 52 [.agg k.cells,Ag m,.agg s.cells]=some ⟨[Ar (Acp k m s)],[]⟩:=by
 refine (NI fu (d+7) k.h k.root m s.leaf s.chains.length (Af .u64 s.chains) s.path.length (Af .u64 s.path)).trans ?_;have h1:=QL (xs:=xs) (fu:=fu) (d:=d+6) k.h;unfold Acp;cases c1:E2 k.h
 ·rw[c1] at h1;have hb:=Rc c1;have h2:=SU (xs:=xs) (fu:=fu) (d:=d+6) s.leaf k.h hb.1;cases c2:L7 s.leaf k.h
  ·rw[c2] at h2;by_cases c3:s.chains.length=18
   ·by_cases c4:(s.path.length:Int)=k.h
    ·have rc:=Ahr (xs:=xs) (fu:=fu) (d:=d) B2 s.leaf m s.chains;rw[Cr c3] at rc;have vl:=NL (xs:=xs) (fu:=fu) (d:=d+1) (a0:=k.h) (a1:=k.root) (a2:=m) (a3:=s.leaf) (n1:=s.chains.length) (n2:=s.path.length) (n3:=s.chains.length) (n4:=s.path.length) (c1:=Af .u64 s.chains) (c2:=Af .u64 s.path) (c3:=Af .u64 s.chains) (c4:=Af .u64 s.path) (y5:=k.h) (root:=k.root) (leaf:=s.leaf) (path:=s.path) (by omega) B2 s.path 0 fu (Ann s.leaf m s.chains) rfl (by omega) (by omega);rw[B3 (by simp),B3 (by simp),B3 (by omega),B3 (by omega),<-vl];simp(disch:=omega)only[Be,Bf,h1,h2,Hh,rc,if_true,c4];rw[Cr (by omega)];rfl
    ·rw[B3 (by simp),B3 (by simp),B3 (by omega),Cr c4];simp(disch:=omega)only[Be,Bf,h1,h2,Hh,c4,if_false];rw[Cr (by omega)]
   ·rw[B3 (by simp),B3 (by simp),Cr c3];simp(disch:=omega)only[Be,Bf,h1,h2,Hh];rw[B3 (by omega)]
  ·rw[c2] at h2;rw[B3 (by simp),Cr rfl];simp(disch:=omega)only[Be,Bf,h1,h2]
 ·rw[c1] at h1;rw[Cr rfl];simp(disch:=omega)only[Be,Bf,h1]
def IW(k:Ky):Al:=wrap .u8 k.h::Bu k.root
def sgB(s:Sg):Al:=wrap .u8 s.leaf::wrap .u8 s.path.length::(A8 s.chains++A8 s.path)
theorem owd(B2:1000<=fu)(w:Int):Ac (CX xs) prog fu (d+1) 91 [.lst false 1 1 [Ag w]]=some ⟨[.own 1 8 (Af .u8 (Bu w))],[]⟩:=by
 have:=IC (xs:=xs) (fu:=fu) (d:=d) (ws:=[w]) (by simp) (by omega) (by simp;omega)
 simp only[A8,Ji,List.flatMap_nil,List.append_nil,Tm,WG,Cl] at this;exact this
theorem Aos(B2:1000<=fu)(k:Ky):Ac (CX xs) prog fu (d+2) 128 [.agg k.cells]=some ⟨(if E2 k.h=true then [.own 1 0 [],Ar 9] else [.own 1 9 (Af .u8 (IW k)),Ar 0]),[]⟩:=by
 refine (DU fu (d+1) k.h k.root).trans ?_;have h1:=QL (xs:=xs) (fu:=fu) (d:=d) k.h;have wd:=owd (xs:=xs) (fu:=fu) (d:=d) B2 k.root;have L:=An .u8 (Bu k.root);rw[Cl] at L;have t8:List.take 8 (Af .u8 (Bu k.root))=Af .u8 (Bu k.root):=Hz (by omega)
 have t9:List.take 9 ([PV.sc (.int .u8 (wrap .u8 k.h))]++Af .u8 (Bu k.root))=Af .u8 (IW k):=by
  rw[Hz (by rw[Wy,L];simp)]
  rfl
 have L9:([PV.sc (.int .u8 (wrap .u8 k.h))]++Af .u8 (Bu k.root)).length=9:=by rw[Wy,L];rfl
 cases c1:E2 k.h
 ·rw[c1] at h1;rw[B3 (by simp)];simp(disch:=omega)only[Be,Bf,h1,wd,J1,Ie,Me,L,t8,Nat.reduceAdd,L9,t9]
 ·rw[c1] at h1;rw[Cr rfl];simp(disch:=omega)only[Be,Bf,h1]
def Yi(l:Al)(i:Nat):Int:=Ans ((l.drop (8*i)).take 8)
def Gq(l:Al):Al:=(List.range (l.length / 8)).map (Yi l)
def wl(l:Al)(i:Nat):Al:=(List.range i).map (Yi l)++List.replicate (l.length / 8-i) 0
theorem Avo(l:Al){i:Nat}(h:i<=l.length / 8):(wl l i).length=l.length / 8:=by simp[wl];omega
theorem A3t(l:Al){i:Nat}(h:i<l.length / 8):(wl l i).set i (Yi l i)=wl l (i+1):=by unfold wl;rw[List.set_append_right _ _ (by simp),List.length_map,List.length_range,Nat.sub_self,show l.length / 8-i=(l.length / 8-(i+1))+1 by omega,List.replicate_succ,List.set_cons_zero,List.range_succ,List.map_append,Zzv];rfl
theorem Axh(l:Al){i:Nat}(h:i<l.length / 8):(wl l i).set i 0=wl l i:=by unfold wl;rw[List.set_append_right _ _ (by simp),List.length_map,List.length_range,Nat.sub_self,show l.length / 8-i=(l.length / 8-(i+1))+1 by omega,List.replicate_succ,List.set_cons_zero]
theorem XN{n m0:Nat}{c:Ae}{l:Al}(hl:l.length<=1000000){i:Nat}(hi:i<l.length / 8){q:Al}(hq:q.length<=8):∀(r:Al)(j nn:Nat)(x:Int),q.drop j=r->r.length<nn->j<=q.length ->
  Jy fu (Ac (CX xs) prog fu d) n c m0 nn l.length (Af .u8 l) (l.length / 8) i ((l.length / 8:Nat):Int) i q.length (Af .u8 q) q.length j (Af .u64 ((wl l i).set i x)) =
   Ht fu (Ac (CX xs) prog fu d) n c m0 l.length (Af .u8 l) (l.length / 8) ((l.length / 8:Nat):Int) ((i+1:Nat):Int) (Af .u64 ((wl l i).set i (r.foldl M6 x)))
 |_,_,0,_,_,h,_=>by omega
 |[],j,nn+1,x,h,hn,hj=>by
  have:=drop_nil h;have w:wrap .i64 ((i:Int)+1)=((i+1:Nat):Int):=B0
  rw[R6,Gs _ _ _ (by omega)];simp only[Gf,w,List.foldl_nil]
 |b::r,j,nn+1,x,h,hn,hj=>by
  obtain⟨h1,h2,h3⟩:=D8 h;simp only[Tm] at hn;have w:wrap .i64 ((j:Int)+1)=((j+1:Nat):Int):=B0
  have L:(Af .u64 ((wl l i).set i x)).length=l.length / 8:=by rw[An,List.length_set,Avo l (by omega)]
  have hat:(Af .u64 ((wl l i).set i x)).getD i .top=Ag x:=HJ (by rw[List.getElem?_set_self (by rw[Avo l (by omega)];omega)])
  have Adv:B6 (Af .u64 ((wl l i).set i x)) [Ag (M6 x b)] i=Af .u64 ((wl l i).set i (M6 x b)):=by
   rw[Id (by omega),AK,List.set_set]
  have ih:=XN (n:=n) (m0:=m0) (c:=c) hl hi hq r (j+1) nn (M6 x b) h3 (by omega) (by omega);rw[List.foldl_cons,<-ih,R6];simp(disch:=omega)only[Be,Bf,Jd,J1,Ie,HJ h2,hat,L,w];exact congrArg _ Adv
theorem NM{n:Nat}{c:Ae}{l:Al}(hl:l.length<=1000000)(B2:100<=fu):∀(k i nn:Nat),i+k=l.length / 8->k<nn ->
  Ht fu (Ac (CX xs) prog fu d) n c nn l.length (Af .u8 l) (l.length / 8) ((l.length / 8:Nat):Int) i (Af .u64 (wl l i))=some ⟨[.own 1 (l.length / 8) (Af .u64 (Gq l))],[]⟩
 |_,_,0,_,h=>by omega
 |0,i,nn+1,hi,hn=>by
  have e:i=l.length / 8:=by omega
  subst e;have e2:wl l (l.length / 8)=Gq l:=by unfold wl Gq;simp
  have L:(Af .u64 (Gq l)).length=l.length / 8:=by rw[An];simp[Gq]
  have tk:List.take (l.length / 8) (Af .u64 (Gq l))=Af .u64 (Gq l):=Hz (by omega);rw[Sz,Gs _ _ _ (by omega),e2];simp(disch:=omega)only[Be,Bf,J1,L,tk]
 |k+1,i,nn+1,hi,hn=>by
  have ih:=NM (n:=n) (c:=c) hl B2 k (i+1) nn (by omega) (by omega);have w8:wrap .i64 (8*(i:Int))=((8*i:Nat):Int):=B0
  have w88:wrap .i64 (((8*i:Nat):Int)+8)=((8*i+8:Nat):Int):=B0
  have e8:8*i+8-8*i=8:=by omega
  have hdl:((l.drop (8*i)).take 8).length=8:=by rw[List.length_take,List.length_drop];omega
  have st:=XN (xs:=xs) (fu:=fu) (d:=d) (n:=n) (m0:=nn) (c:=c) hl (i:=i) (by omega) (q:=(l.drop (8*i)).take 8) (by omega) ((l.drop (8*i)).take 8) 0 fu 0 rfl (by omega) (by omega);rw[Axh l (by omega),hdl] at st;have ew:((l.drop (8*i)).take 8).foldl M6 0=Yi l i:=rfl;rw[ew,A3t l (by omega),ih] at st;rw[Sz];simp(disch:=omega)only[Be,Bf,Jd,J1,w8,w88,e8,Ln,Ir];exact st
theorem Asp(n:Nat):Tx n [Ag 0]=Af .u64 (List.replicate n 0):=by
 induction n with
 |zero=>rfl
 |succ n ih=>
  show ([PV.sc (.int .u64 0)]::List.replicate n [PV.sc (.int .u64 0)]).flatten=_;rw[List.flatten_cons,List.replicate_succ];show _++Tx n [Ag 0]=PV.sc (.int .u64 0)::Af .u64 (List.replicate n 0);rw[ih];rfl
theorem MH{l:Al}(hl:l.length<=1000000)(B2:100<=fu)(hf:l.length<fu):Ac (CX xs) prog fu (d+1) 89 [.lst false 1 l.length (Af .u8 l)]=some ⟨[.own 1 (l.length / 8) (Af .u64 (Gq l))],[]⟩:=by
 rw[PG]
 have w:wrap .i64 (Int.tdiv (l.length:Int) 8)=((l.length / 8:Nat):Int):=by
  rw[Int.tdiv_eq_ediv_of_nonneg (by omega),Bn];omega
 have lp:=NM (xs:=xs) (fu:=fu) (d:=d) (n:=l.length) (c:=Af .u8 l) hl B2 (l.length / 8) 0 fu (by omega) (by omega);have e0:wl l 0=List.replicate (l.length / 8) 0:=by unfold wl;simp
 rw[e0] at lp;simp(disch:=omega)only[Be,Bf,w,Jd,Asp,Int.le_refl];exact lp
def Ah4(l:Al):Option Ky:=if l.length=9/\E2 (l.getD 0 0)=false then some ⟨l.getD 0 0,Yi (l.drop 1) 0⟩ else none
def Ai9(o:Option Ky):Ae:=match o with|some k=>[.agg k.cells,Ar 0]|none=>[.agg (Ky.mk 0 0).cells,Ar 2]
theorem Am8(B2:1000<=fu){l:Al}(hb:Cz l):Ac (CX xs) prog fu (d+2) 83 [.lst false 1 l.length (Af .u8 l)]=some ⟨Ai9 (Ah4 l),[]⟩:=by
 refine (EA fu (d+1) l.length (Af .u8 l)).trans ?_;unfold Ah4;by_cases h9:l.length=9
 ·obtain⟨x,hx⟩:∃x,l[0]?=some x:=⟨_,List.getElem?_eq_getElem (by omega)⟩
  have hxb:=hb x (List.mem_of_getElem? hx);have wx:wrap .i64 x=x:=Bn;have gx:l.getD 0 0=x:=by rw[List.getD_eq_getElem?_getD,hx];rfl
  have h1:=QL (xs:=xs) (fu:=fu) (d:=d) x;rw[gx];cases c1:E2 x
  ·rw[c1] at h1;have hdl:(l.drop 1).length=8:=by rw[List.length_drop];omega
   have dw:=MH (xs:=xs) (fu:=fu) (d:=d) (l:=l.drop 1) (by omega) (by omega) (by omega);rw[hdl] at dw;have hat:(Af .u64 (Gq (l.drop 1))).getD 0 .top=Ag (Yi (l.drop 1) 0):=HJ (by unfold Gq;rw[hdl];rfl)
   have e8:9-1=8:=rfl;have tk:List.take 8 (Af .u8 (l.drop 1))=Af .u8 (l.drop 1):=Hz (by rw[An];omega)
   rw[Cr ⟨h9,rfl⟩,h9];simp(disch:=omega)only[Be,Bf,Hh,HJ hx,wx,h1,J1,Ln,e8,tk,dw,hat];rfl
  ·rw[c1] at h1;rw[B3 (by simp),h9];simp(disch:=omega)only[Be,Bf,Hh,HJ hx,wx,h1];rfl
 ·rw[B3 (by simp[h9])];simp(disch:=omega)only[Hh];rw[B3 (by omega)];rfl
def sgD(l:Al):Option Sg:=
 if 2<=l.length/\E2 (l.getD 1 0)=false/\L7 (l.getD 0 0) (l.getD 1 0)=false/\(l.length:Int)=2+8*(18+l.getD 1 0) then some ⟨l.getD 0 0,Gq ((l.drop 2).take 144),Gq (l.drop 146)⟩ else none
def Sg.owned(s:Sg):Ae:=[Ar s.leaf,.own 1 s.chains.length (Af .u64 s.chains),.own 1 s.path.length (Af .u64 s.path)]
def Akz(o:Option Sg):Ae:=match o with|some s=>[.agg s.owned,Ar 0]|none=>[.agg (Sg.mk 0 [] []).owned,Ar 2]
theorem FU(l:Al):(Gq l).length=l.length / 8:=by simp[Gq]
theorem Aot(B2:1000<=fu){l:Al}(hb:Cz l):Ac (CX xs) prog fu (d+2) 49 [.lst false 1 l.length (Af .u8 l)]=some ⟨Akz (sgD l),[]⟩:=by
 refine (Tt fu (d+1) l.length (Af .u8 l)).trans ?_;unfold sgD;by_cases h2:2<=l.length
 ·obtain⟨x,hx⟩:∃x,l[0]?=some x:=⟨_,List.getElem?_eq_getElem (by omega)⟩
  obtain⟨y,hy⟩:∃y,l[1]?=some y:=⟨_,List.getElem?_eq_getElem (by omega)⟩
  have hxb:=hb x (List.mem_of_getElem? hx);have hyb:=hb y (List.mem_of_getElem? hy);have wx:wrap .i64 x=x:=Bn;have wy:wrap .i64 y=y:=Bn;have gx:l.getD 0 0=x:=by rw[List.getD_eq_getElem?_getD,hx];rfl
  have gy:l.getD 1 0=y:=by rw[List.getD_eq_getElem?_getD,hy];rfl
  have h1:=QL (xs:=xs) (fu:=fu) (d:=d) y;have ho:=SU (xs:=xs) (fu:=fu) (d:=d) x y (by omega);have w1:wrap .i64 (18+y)=18+y:=Bn;have w2:wrap .i64 (8*(18+y))=8*(18+y):=Bn;have w3:wrap .i64 (2+8*(18+y))=2+8*(18+y):=Bn;rw[gx,gy];cases c1:E2 y
  ·rw[c1] at h1;cases c2:L7 x y
   ·rw[c2] at ho;by_cases c3:(l.length:Int)=2+8*(18+y)
    ·have hy4:=Rc c1;have d1:=MH (xs:=xs) (fu:=fu) (d:=d) (l:=(l.drop 2).take 144) (by rw[List.length_take,List.length_drop];omega) (by omega) (by rw[List.length_take,List.length_drop];omega)
     have d2:=MH (xs:=xs) (fu:=fu) (d:=d) (l:=l.drop 146) (by rw[List.length_drop];omega) (by omega) (by rw[List.length_drop];omega)
     have l1:((l.drop 2).take 144).length=144:=by rw[List.length_take,List.length_drop];omega
     have l2:(l.drop 146).length=l.length-146:=List.length_drop;rw[l1] at d1;have L1:(Af .u64 (Gq ((l.drop 2).take 144))).length=18:=by rw[An,FU,l1]
     have L2:(Af .u64 (Gq (l.drop 146))).length=(l.length-146) / 8:=by rw[An,FU,l2]
     rw[l2] at d2;have t1:List.take (144 / 8) (Af .u64 (Gq ((l.drop 2).take 144)))=Af .u64 (Gq ((l.drop 2).take 144)):=Hz (by omega);have t2:List.take ((l.length-146) / 8) (Af .u64 (Gq (l.drop 146)))=Af .u64 (Gq (l.drop 146)):=Hz (by omega);have t3:List.take (l.length-146) (l.drop 146)=l.drop 146:=Hz (by omega);rw[Cr ⟨h2,rfl,rfl,c3⟩];simp(disch:=omega)only[Be,Bf,Hh,HJ hx,HJ hy,wx,wy,h1,ho,w1,w2,w3,J1,Ln,Ir,d1,d2,t3,L1,L2,t1,t2];rw[Cr c3];simp only[Akz,Sg.owned,FU,l1,l2]
    ·rw[B3 (by simp[c3])];simp(disch:=omega)only[Be,Bf,Hh,HJ hx,HJ hy,wx,wy,h1,ho,w1,w2,w3];rw[B3 c3];rfl
   ·rw[c2] at ho;rw[B3 (by simp)];simp(disch:=omega)only[Be,Bf,Hh,HJ hx,HJ hy,wx,wy,h1,ho];rfl
  ·rw[c1] at h1;rw[B3 (by simp)];simp(disch:=omega)only[Be,Bf,Hh,HJ hx,HJ hy,wx,wy,h1];rfl
 ·rw[B3 (by simp[h2])];simp(disch:=omega)only[Be,Bf];rfl
end
def Ajs(seed leaf chain:Int):Int:=Axp seed 1 (A8 [wrap .u64 leaf,wrap .u64 chain])
def Abl(seed leaf:Int)(c:Nat):Int:=Yb leaf c 15 0 (Ajs seed leaf c)
def LP(seed leaf:Int):Int:=NQ leaf ((List.range 18).map (Abl seed leaf))
def Acb(seed leaf m:Int)(c:Nat):Int:=Yb leaf c (dg m c).toNat 0 (Ajs seed leaf c)
def EI(seed leaf m:Int):Al:=(List.range 18).map (Acb seed leaf m)
def K1(seed:Int):Nat->Int->Int
 |0,i=>LP seed i
 |l+1,i=>Rh ((l+1:Nat):Int) (K1 seed l (2*i)) (K1 seed l (2*i+1))
def Ts(seed:Int)(h:Int):Ky:=if E2 h=true then ⟨0,0⟩ else ⟨h,K1 seed h.toNat 0⟩
def Zz(leaf:Int)(k:Nat):Int:=Ew .i64 (Hc .i64 leaf k) 1
def Ai7(seed:Int)(h leaf m:Int):Option Sg:=if E2 h=true then none else if L7 leaf h=true then none else some ⟨leaf,EI seed leaf m,(List.range h.toNat).map fun k=>K1 seed k (Zz leaf k)⟩
def Aa4(o:Option Sg):Ae:=match o with|some s=>[.agg s.owned,Ar 0]|none=>[.agg (Sg.mk 0 [] []).owned,Ar 9]
section
variable {fu d:Nat}{xs:FuncId->Option (Ae->Option Bv)}
def pl(g:Nat->Int)(i:Nat):Al:=(List.range i).map g++List.replicate (18-i) 0
end
def Cs(s:ByteArray):Al:=s.data.toList.map fun b=>(b.toNat:Int)
def Ab(l:Al):ByteArray:=⟨(l.map fun n=>n.toNat.toUInt8).toArray⟩
theorem Ca(s:ByteArray):(Cs s).length=s.size:=by unfold Cs;rw[List.length_map];rfl
theorem Va(s:ByteArray):Cz (Cs s):=by intro x hx;obtain⟨b,_,rfl⟩:=List.mem_map.1 hx;have:=b.toNat_lt;omega
theorem H7(s:ByteArray):D3 s=Af .u8 (Cs s):=by
 unfold D3 Cs
 induction s.data.toList with
 |nil=>rfl
 |cons b l ih=>rw[X4,X4,ih];rfl
theorem Ai(l:Al):(Ab l).size=l.length:=by show (l.map fun n=>n.toNat.toUInt8).toArray.size=_;simp
theorem C7{l:Al}(h:Cz l):Cs (Ab l)=l:=by
 unfold Cs Ab;simp only[List.map_map]
 have:∀l:Al,Cz l->List.map ((fun b:UInt8=>(b.toNat:Int)) ∘ fun n:Int=>n.toNat.toUInt8) l=l:=by
  intro l
  induction l with
  |nil=>intro _;rfl
  |cons x l ih=>
   intro h;have hx:=h x (by simp);rw[X4,ih fun y hy=>h y (by simp[hy])]
   congr 1
   show ((x.toNat.toUInt8.toNat:Nat):Int)=x;rw[Nat.toUInt8,UInt8.toNat_ofNat'];omega
 exact this l h
theorem Es(s:ByteArray):Ab (Cs s)=s:=by
 unfold Ab Cs;simp only[List.map_map]
 have:∀l:List UInt8,List.map ((fun n:Int=>n.toNat.toUInt8) ∘ fun b:UInt8=>(b.toNat:Int)) l=l:=by
  intro l
  induction l with
  |nil=>rfl
  |cons x l ih=>
   rw[X4,ih]
   congr 1
   show ((x.toNat:Int).toNat).toUInt8=x;rw[Jd];simp
 rw[this]
theorem Pn:∀l:Al,K4 (Af .u8 l)=some (l.map fun n=>n.toNat.toUInt8)
 |[]=>rfl
 |x::l=>by
  show (K4 (Af .u8 l)).map (x.toNat.toUInt8 :: ·)=_;rw[Pn l];rfl
def Ou(v:Int):Int:=if v<26 then 65+v else if v<52 then 71+v else if v<62 then v-4 else if v<63 then 45 else 95
def Cq(c:Int):Int:=if 65<=c/\c<=90 then c-65 else if 97<=c/\c<=122 then c-71 else if 48<=c/\c<=57 then c+4 else if c=45 then 62 else if c=95 then 63 else 64
theorem Rm{v:Int}(h0:0<=v)(h1:v<64):Cq (Ou v)=v:=by unfold Cq Ou;split<;>split<;>(try split)<;>(try split)<;>(try split)<;>(try split)<;>(try split)<;>(try split)<;>omega
theorem Vw(c:Int):0<=Cq c/\Cq c<=64:=by
 unfold Cq;split
 ·omega
 split
 ·omega
 split
 ·omega
 split
 ·omega
 split<;>omega
def Jp:Al->Al
 |[]=>[]
 |[a]=>[Ou (a / 4),Ou (a % 4*16)]
 |[a,b]=>[Ou (a / 4),Ou (a % 4*16+b / 16),Ou (b % 16*4)]
 |a::b::c::r=>Ou (a / 4)::Ou (a % 4*16+b / 16)::Ou (b % 16*4+c / 64)::Ou (c % 64)::Jp r
def Sx:Al->Option Al
 |[]=>some []
 |[_]=>none
 |[p,q]=>if Cq p<64/\Cq q<64/\Cq q % 16=0 then some [Cq p*4+Cq q / 16] else none
 |[p,q,r]=>if Cq p<64/\Cq q<64/\Cq r<64/\Cq r % 4=0 then some [Cq p*4+Cq q / 16,Cq q % 16*16+Cq r / 4] else none
 |p::q::r::s::t=>if Cq p<64/\Cq q<64/\Cq r<64/\Cq s<64 then (Sx t).map (fun l=>(Cq p*4+Cq q / 16)::(Cq q % 16*16+Cq r / 4)::(Cq r % 4*64+Cq s)::l) else none
theorem D5{a:Int}{l:Al}(h:Cz (a::l)):(0<=a/\a<=255)/\Cz l:=⟨h a (by simp),fun x hx=>h x (by simp[hx])⟩
theorem Amq:∀{l:Al},Cz l->Sx (Jp l)=some l
 |[],_=>rfl
 |[a],h=>by
  obtain⟨ha,_⟩:=D5 h;have e1:=Rm (v:=a / 4) (by omega) (by omega);have e2:=Rm (v:=a % 4*16) (by omega) (by omega);unfold Jp Sx;rw[e1,e2,Cr (by omega)]
  congr 2
  omega
 |[a,b],h=>by
  obtain⟨ha,h⟩:=D5 h;obtain⟨hb,_⟩:=D5 h;have e1:=Rm (v:=a / 4) (by omega) (by omega);have e2:=Rm (v:=a % 4*16+b / 16) (by omega) (by omega);have e3:=Rm (v:=b % 16*4) (by omega) (by omega);unfold Jp Sx;rw[e1,e2,e3,Cr (by omega)]
  congr 2
  ·omega
  ·congr 1;omega
 |a::b::c::r,h=>by
  obtain⟨ha,h⟩:=D5 h;obtain⟨hb,h⟩:=D5 h;obtain⟨hc,h⟩:=D5 h;have e1:=Rm (v:=a / 4) (by omega) (by omega);have e2:=Rm (v:=a % 4*16+b / 16) (by omega) (by omega);have e3:=Rm (v:=b % 16*4+c / 64) (by omega) (by omega);have e4:=Rm (v:=c % 64) (by omega) (by omega);unfold Jp Sx;rw[e1,e2,e3,e4,Cr (by omega),Amq h];simp only[Option.map_some]
  congr 2
  ·omega
  ·congr 1
   ·omega
   ·congr 1;omega
theorem ID:∀l:Al,(Jp l).length=(4*l.length+2) / 3
 |[]=>rfl
 |[_]=>by simp[Jp]
 |[_,_]=>by simp[Jp]
 |a::b::c::r=>by
  show (Jp r).length+1+1+1+1=_;rw[ID r];simp only[Tm];omega
def FO(c:Int):Bool:=c==32||c==9||c==10||c==13
def Bz:Al->Al
 |[]=>[]
 |c::r=>if FO c=true then Bz r else c::r
def Aix(c:Int):Option Int:=if 48<=c/\c<=57 then some (c-48) else if 97<=c/\c<=102 then some (c-87) else if 65<=c/\c<=70 then some (c-55) else none
abbrev PR(α:Type):=Option α × Al
def EC:Nat->Int->Al->PR Int
 |0,x,l=>(some x,l)
 |_+1,_,[]=>(none,[])
 |n+1,x,c::r=>match Aix c with
  |some v=>EC n (x*16+v) r
  |none=>(none,c::r)
def Aa0(x:Int):Bool:=decide (56320<=x)&&decide (x<=57343)
def Al8(x:Int)(l:Al):PR Int:=
 match EC 4 0 l with
 |(some y,r)=>if Aa0 y=true then (some (65536+(x-55296)*1024+(y-56320)),r) else (none,r)
 |(none,r)=>(none,r)
def Arj:Al->Bool
 |92::117::_=>true
 |_=>false
def Wt(l:Al):PR Int:=
 match EC 4 0 l with
 |(none,r)=>(none,r)
 |(some x,r)=>if Aa0 x=true then (none,r) else if x<55296\/56319<x then (some x,r) else if Arj r=true then Al8 x (r.drop 2) else (none,r)
def GL(c:Int):Option Int:=if c=34\/c=92\/c=47 then some c else if c=98 then some 8 else if c=102 then some 12 else if c=110 then some 10 else if c=114 then some 13 else if c=116 then some 9 else none
def T8:Al->PR Int
 |[]=>(none,[])
 |c::r=>if c=117 then Wt r else match GL c with
  |some x=>(some x,r)
  |none=>(none,c::r)
def Md:Nat->Al->Al->PR Al
  |0,_,l=>(none,l)
  |_+1,_,[]=>(none,[])
  |n+1,out,c::r=>if c<32 then (none,c::r) else if c=34 then (some out,r) else if c=92 then
      (match T8 r with
       |(some x,r')=>Md n (out++Lib.encodeRuneZ x) r'
       |(none,r')=>(none,r'))
    else Md n (out++[c]) r
def Gk:Al->PR Al
 |[]=>(none,[])
 |c::r=>if c=34 then Md (r.length+1) [] r else (none,c::r)
def HX(l:Al):Option (Al × Al):=match Gk l with|(some s,r)=>some (s,r)|_=>none
def dgS(c:Int):Bool:=decide (48<=c)&&decide (c<=57)
def Pk:Al->Al
 |[]=>[]
 |c::r=>if dgS c=true then Pk r else c::r
def Dm:Al->Option Al
 |[]=>none
 |c::r=>if dgS c=true then some (Pk r) else none
def Aq7(c:Int):Al->Al
 |[]=>[]
 |d::r=>if d=c then r else d::r
def FZ:Al->Option Al
 |[]=>some []
 |c::r=>if c=101\/c=69 then (match r with
   |43::r'=>Dm r'
   |r=>Dm (Aq7 45 r)) else some (c::r)
def SC:Al->Option Al
 |[]=>some []
 |c::r=>if c=46 then (Dm r).bind FZ else FZ (c::r)
def Awh:Al->Option Al
 |[]=>none
 |c::r=>if c=48 then some r else Dm (c::r)
def H5(l:Al):Option Al:=(Awh (Aq7 45 l)).bind SC
abbrev JV:=Int × Al × Bool
abbrev JR(α:Type):=Except Int α
def Ac0(V:Al->JR (JV × Al)):Nat->Al->JR Al
 |0,_=>.error 2
 |n+1,l=>match V l with
  |.error e=>.error e
  |.ok (_,r)=>match Bz r with
   |93::r'=>.ok r'
   |44::r'=>Ac0 V n (Bz r')
   |_=>.error 2
def Aoo(V:Al->JR (JV × Al))(l:Al):JR Al:=
 match Bz l with
 |93::r=>.ok r
 |l'=>Ac0 V (l'.length+1) l'
def A2s(V:Al->JR (JV × Al))(dup:Al->Bool)(l:Al):JR ((Al × JV) × Al):=
 match HX l with
 |none=>.error 2
 |some (nm,r)=>if dup nm=true then .error 10 else
  match Bz r with
  |58::r'=>(match V (Bz r') with
   |.error e=>.error e
   |.ok (v,r'')=>.ok ((nm,v),r''))
  |_=>.error 2
def Zv(V:Al->JR (JV × Al))(kp:Bool):Nat->List (Al × JV)->Al->JR (List (Al × JV) × Al)
 |0,_,_=>.error 2
 |n+1,ms,l=>match A2s V (fun nm=>kp&&ms.any fun m=>m.1==nm) l with
  |.error e=>.error e
  |.ok (m,r)=>match Bz r with
   |125::r'=>.ok (ms++[m],r')
   |44::r'=>Zv V kp n (ms++[m]) (Bz r')
   |_=>.error 2
def KJ(V:Al->JR (JV × Al))(kp:Bool)(l:Al):JR (List (Al × JV) × Al):=
 match Bz l with
 |125::r=>.ok ([],r)
 |l'=>Zv V kp (l'.length+1) [] l'
def A7(w l:Al):Option Al:=if w.isPrefixOf l=true then some (l.drop w.length) else none
def Ha:Nat->Al->JR (JV × Al)
 |k,l=>match l with
  |123::r=>(match k with
   |0=>.error 5
   |k+1=>(match KJ (Ha k) false r with
    |.error e=>.error e
    |.ok (_,r')=>.ok ((6,[],false),r')))
  |91::r=>(match k with
   |0=>.error 5
   |k+1=>(match Aoo (Ha k) r with
    |.error e=>.error e
    |.ok r'=>.ok ((5,[],false),r')))
  |34::r=>(match HX (34::r) with
   |none=>.error 2
   |some (s,r')=>.ok ((4,s,false),r'))
  |l=>match A7 [116,114,117,101] l with
   |some r=>.ok ((2,[],true),r)
   |none=>match A7 [102,97,108,115,101] l with
    |some r=>.ok ((2,[],false),r)
    |none=>match A7 [110,117,108,108] l with
     |some r=>.ok ((1,[],false),r)
     |none=>match H5 l with
      |some r=>.ok ((3,[],false),r)
      |none=>.error 2
def Aea(k:Nat)(l:Al):JR (List (Al × JV)):=
 match Bz l with
 |123::r=>(match KJ (Ha k) true r with
  |.error e=>.error e
  |.ok (ms,r')=>if Bz r'=[] then .ok ms else .error 2)
 |_=>.error 2
structure En where
 k:Int
 na:Nat
 an:Ae
 ns:Nat
 st:Ae
def Ye:Ae->Option (List En)
 |[]=>some []
 |.sc (.int .u64 k) :: .lst false 3 na an :: .lst false 2 ns st::r=>bif Nat.beq an.length (na*3)&&Nat.beq st.length (ns*2)&&Nat.ble na 1000&&Nat.ble ns 1000 then (Ye r).map (⟨k,na,an,ns,st⟩ :: ·) else none
 |_=>none
def Rk:Ae->Option (List (Int × Int))
 |[]=>some []
 |.sc (.int .i64 k) :: .sc (.int .i64 t)::r=>(Rk r).map ((k,t) :: ·)
 |_=>none
def Ai5(model:Int)(es:List En):Ae:=match es.find? fun e=>e.k==model with|some e=>e.st|none=>[]
def Gr(now:Int)(l:List (Int × Int)):Int:=match l.reverse.find? fun p=>decide (p.2<=now) with|some p=>p.1|none=>0
def Akp(args:Ae):Option Bv:=
  match args with
  |[.agg [.sc (.int .i64 _),.sc (.int .i64 _),.sc (.int .i64 _),.lst false 3 n c,.sc (.int .i64 _),.lst false 1 _ _,.lst false 1 _ _],.sc (.int .u64 model),.sc (.int .i64 now)]=>
    bif Nat.beq c.length (n*3)&&Nat.ble n 1000 then
      (match Ye c with
       |some es=>(match Rk (Ai5 model es) with|some l=>some ⟨[Ar (Gr now l)],[]⟩|none=>none)
       |none=>none)
    else none
  |_=>none
def UB:PV->Bool
 |.sc (.int .i64 _)=>true
 |_=>false
def Avs(args:Ae):Option Bv:=
 match args with
 |[.own 2 n c,.sc (.int .i64 i),.tup [.own 2 1 [.sc (.int .i64 f),.sc (.int .i64 l)]]]=>
  bif Nat.beq c.length (n*2)&&decide (0<=i)&&decide (i<=n)&&Nat.ble n 100000&&c.all UB then
   some ⟨[.own 2 (n+1) (c.take (i.toNat*2)++(Ar f :: Ar l::c.drop (i.toNat*2)))],[[Ar f,Ar l]]⟩
  else none
 |_=>none
def Atx(args:Ae):Option Bv:=
  match args with
  |[.pbox [.sc (.string t),.sc (.int .i64 p)]]=>bif decide (0<=p)&&decide (p<=t.size)&&Nat.ble t.size 1000000 then
      (match Gk ((Cs t).drop p.toNat) with
       |(some s,r)=>some ⟨[Bl (Ab s),De true],[[Bl t,Ar (t.size-r.length:Int)]]⟩
       |(none,r)=>some ⟨[Bl ⟨#[]⟩,De false],[[Bl t,Ar (t.size-r.length:Int)]]⟩) else none
  |_=>none
def A5q(args:Ae):Option Bv:=
 match args with
 |[.sc (.string s),.sc (.int .u8 c)]=>some ⟨[Ar (Lib.indexByte s.data.toList c.toNat.toUInt8)],[]⟩
 |_=>none
def A46(args:Ae):Option Bv:=
 match args with
 |[.sc (.string s),.sc (.string p)]=>bif Nat.beq p.size 1 then some ⟨[Ar (Lib.countByte s.data.toList p[0]!)],[]⟩ else none
 |_=>none
def Ady(args:Ae):Option Bv:=
 match args with
 |[.sc (.string s),.sc (.string p)]=>bif Nat.ble p.size 1000&&p.data.toList.all (fun b=>decide (b.toNat<128))&&decide (s.size<=1000000000) then some ⟨[Bl ⟨(Lib.trimS s.data.toList p.data.toList).toArray⟩],[]⟩ else none
 |_=>none
def Asb(f:FuncId):Option (Ae->Option Bv):=
 bif Nat.beq f 124 then some Ah5 else
 bif Nat.beq f 54 then some Akp else
 bif Nat.beq f 99 then some Avs else
 bif Nat.beq f 190 then some A5q else
 bif Nat.beq f 229 then some A46 else
 bif Nat.beq f 203 then some Ady else
 bif Nat.beq f 177 then some Atx else
 bif Nat.beq f 1000000 then some (fun _=>none) else none
def Adb(p:Option (Ae->Option Bv))(f:FuncId):Option (Ae->Option Bv):=bif Nat.beq f 79 then p else Asb f
abbrev CP(p:Option (Ae->Option Bv)):Ih:=CX (Adb p)
abbrev C0:Ih:=CP none
abbrev xs0:=Adb none
section
variable {xs:FuncId->Option (Ae->Option Bv)}(fu d:Nat)(call:Ap)
theorem Zs(Z:Nat)(Y:Ae):Wn (CX xs) fu d 162 [Am 3 Z Y] fun call=>Aw (decide (0<Z)) (As (decide (Y.length=Z*3)&&decide ((0+Z)*32<=1099511627776)&&decide (0+Z<=1099511627776))<|Aa (0+Z) fun a=>Aa ([]++Y) fun b=>As (decide (0+a*3<=b.length))<|Bk [Am 3 a (List.take (a*3) (b.drop 0))]) (EQ (Bk [Am 3 0 []]) (As (decide (Y.length=Z*3)&&decide ((0+Z)*32<=1099511627776)&&decide (0+Z<=1099511627776))<|Aa (0+Z) fun a=>Aa ([]++Y) fun b=>As (decide (0+a*3<=b.length))<|Bk [Am 3 a (List.take (a*3) (b.drop 0))])):=by show _=_;kernel_rfl
theorem Zj(Z:Nat)(Y:Ae):Wn (CX xs) fu d 163 [Am 2 Z Y] fun call=>Aw (decide (0<Z)) (As (decide (Y.length=Z*2)&&decide ((0+Z)*16<=1099511627776)&&decide (0+Z<=1099511627776))<|Aa (0+Z) fun a=>Aa ([]++Y) fun b=>As (decide (0+a*2<=b.length))<|Bk [Am 2 a (List.take (a*2) (b.drop 0))]) (EQ (Bk [Am 2 0 []]) (As (decide (Y.length=Z*2)&&decide ((0+Z)*16<=1099511627776)&&decide (0+Z<=1099511627776))<|Aa (0+Z) fun a=>Aa ([]++Y) fun b=>As (decide (0+a*2<=b.length))<|Bk [Am 2 a (List.take (a*2) (b.drop 0))])):=by show _=_;kernel_rfl
theorem BN(Z:Int)(Y:Nat)(X:Ae)(W:Nat)(V:Ae):Wn (CX xs) fu d 135 [.agg [Ag Z,Am 3 Y X,Am 2 W V]] fun call=>Dl (call 162 [Am 3 Y X]) fun a b=>Ys 3 a fun a c e=>Ak b<|Dl (call 163 [Am 2 W V]) fun a b=>Ys 2 a fun a f g=>Ak b<|Bk [.agg [Ag Z,Am 3 c e,Am 2 f g]]:=by show _=_;kernel_rfl
def Ic(Z Y X:Int)(W:Nat)(V:Ae)(U:Int)(T:Nat)(S:Ae)(Q:Nat)(P:Ae)(O:Int)(N:Nat)(M:Int)(L:Nat)(K:Ae)(J I H:Int)(G E:Nat)(D B:Ae):Option Bv:=Kk fu call 96 Tryz.f96 [.agg [Z,Y,X,Am 3 W V,U,Am 1 T S,Am 1 Q P],Ag O] [.r,.l,.r,.l] N ⟨lk [(1,Ag M),(4,.ptr 4 0),(9,Am 3 L K),(10,J),(11,I)],C4 [(4,.st [Ag H,.view 50 3 0 G,.view 73 2 0 E]),(50,.ar false D),(73,.ar false B)]⟩
theorem Pa(U T S:Int)(Q:Nat)(P:Ae)(O:Int)(N:Nat)(M:Ae)(L:Nat)(K:Ae)(J:Int)(I:Nat)(X:Int)(W:Nat)(Y:Ae)(V Z H:Int)(G E:Nat)(D B:Ae):Ic fu call U T S Q P O N M L K J (I+1) X W Y V Z H G E D B=(Aw (decide (Z<V)) (As (decide (0<=Z)&&decide (Z<(↑W:Int)))<|Bq .u64 (Y.getD (Z.toNat*3) .top) fun a=>Ys 3 (Y.getD (Z.toNat*3+1) .top) fun b c e=>Ys 2 (Y.getD (Z.toNat*3+1+1) .top) fun b f g=>Aw (a==X) (Dl (call 135 [.agg [Ag a,Am 3 c e,Am 2 f g]]) fun a b=>Di a fun a=>Br .u64 a fun a c=>Gg 3 c fun c e f=>Gg 2 f fun f g h=>Ak h<|Ak b<|Bk [.agg [Ag a,Am 3 c e,Am 2 f g],true]) (Aa (wrap .i64 (Z+1)) fun a=>Ic fu call U T S Q P O N M L K J I X W Y V a H G E D B)) (Bk [.agg [Ag 0,Am 3 0 [],Am 2 0 []],false])):=by kernel_rfl
theorem KA(W V U:Int)(Z:Nat)(Y:Ae)(T:Int)(S:Nat)(Q:Ae)(P:Nat)(O:Ae)(X:Int):Wn (CX xs) fu d 96 [.agg [W,V,U,Am 3 Z Y,T,Am 1 S Q,Am 1 P O],Ag X] fun call=>Ic fu call W V U Z Y T S Q P O X fu X Z Y (↑Z:Int) 0 0 0 0 ([]) ([]):=by show _=_;kernel_rfl
end
section
variable {xs:FuncId->Option (Ae->Option Bv)}(fu d:Nat)(call:Ap)
theorem WL(Z:Nat)(Y:Ae):Wn (CX xs) fu d 84 [Am 1 Z Y] fun call=>Aw (decide (0<Z)) (As (decide (Y.length=Z*1)&&decide ((0+Z)*1<=1099511627776)&&decide (0+Z<=1099511627776))<|Aa (0+Z) fun a=>Aa ([]++Y) fun b=>As (decide (a*1<=b.length))<|Bk [.own 1 a (b.take (a*1))]) (EQ (Bk [.own 1 0 []]) (As (decide (Y.length=Z*1)&&decide ((0+Z)*1<=1099511627776)&&decide (0+Z<=1099511627776))<|Aa (0+Z) fun a=>Aa ([]++Y) fun b=>As (decide (a*1<=b.length))<|Bk [.own 1 a (b.take (a*1))])):=by show _=_;kernel_rfl
theorem WZ(X:Nat)(Z:Ae)(W:Nat)(Y:Ae):Wn (CX xs) fu d 46 [Am 1 X Z,Am 1 W Y] fun call=>As (decide (Z.length=X))<|D4 (K4 Z) fun a=>As (decide (Y.length=W))<|D4 (K4 Y) fun b=>Bk [De (Array.toList (ByteArray.data (ByteArray.mk (List.toArray a)))==Array.toList (ByteArray.data (ByteArray.mk (List.toArray b))))]:=by show _=_;kernel_rfl
theorem AP(Z:Nat)(Y:Ae):Wn (CX xs) fu d 137 [Am 2 Z Y] fun call=>Aw (decide (0<Z)) (As (decide (Y.length=Z*2)&&decide ((0+Z)*16<=1099511627776)&&decide (0+Z<=1099511627776))<|Aa (0+Z) fun a=>Aa ([]++Y) fun b=>As (decide (a*2<=b.length))<|Bk [.own 2 a (b.take (a*2))]) (EQ (Bk [.own 2 0 []]) (As (decide (Y.length=Z*2)&&decide ((0+Z)*16<=1099511627776)&&decide (0+Z<=1099511627776))<|Aa (0+Z) fun a=>Aa ([]++Y) fun b=>As (decide (a*2<=b.length))<|Bk [.own 2 a (b.take (a*2))])):=by show _=_;kernel_rfl
theorem AU(Z:Nat)(Y:Ae)(X W:Int)(V U:Int)(T:Bool)(S:Int)(Q:Nat)(P:Ae)(O:Bool)(N M:Int):Wn (CX xs) fu d 98 [.agg [Am 1 Z Y,X,Ag W,Ag V,U,T,Ag S,Am 2 Q P,O,N,M]] fun call=>Dl (call 84 [Am 1 Z Y]) fun a b=>Kf 1 a fun a c=>Ak b<|Dl (call 137 [Am 2 Q P]) fun b e=>Kf 2 b fun b f=>Ak e<|As (decide (a*1<=c.length))<|As (decide (b*2<=f.length))<|Bk [.agg [.own 1 a (c.take (a*1)),X,Ag W,Ag V,U,T,Ag S,.own 2 b (f.take (b*2)),O,N,M]]:=by show _=_;kernel_rfl
end
section
open Go Go.RowKit
structure LF(Z Z':Nat->Prop)(w w':World):Prop where
 os:w'.os=w.os
 tape:w'.tape=w.tape
 output:w'.output=w.output
 size:w.heap.size<=w'.heap.size
 keep:∀b,b<w.heap.size->¬Z b->w'.heap[b]?=w.heap[b]?
 sub:∀b,Z b->Z' b
 new:∀b,Z' b->Z b\/w.heap.size<=b
 lt:∀b,Z' b->b<w'.heap.size
 bs:∀b,b<w.heap.size->Fi w w' b
structure BQ(Z:Nat->Prop)(w w':World):Prop where
 os:w'.os=w.os
 tape:w'.tape=w.tape
 output:w'.output=w.output
 size:w.heap.size<=w'.heap.size
 same:∀b,Z b->w'.heap[b]?=w.heap[b]?
theorem BQ.sub{Z Z':Nat->Prop}{w w':World}(h:BQ Z w w')(hs:∀b,Z' b->Z b):BQ Z' w w':=⟨h.os,h.tape,h.output,h.size,fun b hb=>h.same b (hs b hb)⟩
theorem Aeh{P:Program}{n m l:Nat}{f:FuncId}{tmps:Array Value}{assign body:Code}{w:World}{R:Ending->World->Prop}(h:RoundIn Fence.wide n P l f tmps assign body w R):RoundIn Fence.wide m P l f tmps assign body w R:=
 ⟨h.1,fun c cs _=>h.2 c cs (room_wide _)⟩
def Ake{α:Type}(D:Nat)(I:(Nat->Prop)->List α->World->Prop)(Ix:Code->(Nat->Prop)->List α->World->Prop)(Z:Nat->Prop)(xs:List α)(A:World):Exit->Act->World->Prop:=fun e _ B=>
 ∃Z',LF Z Z' A B/\B.heap[D]?=A.heap[D]?/\B.heap[D+1]?=A.heap[D+1]? /\
  match e with
  |.normal=>I Z' xs B
  |.ret=>Ix .ret Z' xs B
  |.exit id=>Ix (.exit id) Z' xs B
  |.goto t=>Ix (.goto t) Z' xs B
  |_=>False
def A4x(s:St)(β:Bt):F3:={ X:=II s.hp β,L:=fun b _=>II s.hp β b,pn:=fun _=>False,pt:=fun _=>none,p8:=fun _ h=>h.elim }
theorem Cj.rebase{N:Nat}{w0 w w':World}{X0:F3}{Y Z':Nat->Prop}{β:Bt}{s:St}{a:Act}(h:Cj N w0 X0 Y β s a w)(ht:LF Y Z' w w')(hns:∀id c,s.hp id≠some (.st c)):Cj N w' (A4x s β) Z' β s a w':=by
 have hW:Cw (Dv s.hp β Y) w w':=⟨ht.size,fun b hb hn=>ht.keep b hb fun y=>hn (.inr y),ht.bs⟩
 have hA:∀b,b<w.heap.size->Dv s.hp β Z' b->Dv s.hp β Y b:=by
  rintro b hb (hx|hz)
  ·exact .inl hx
  ·rcases ht.new b hz with h1|h1
   ·exact .inr h1
   ·omega
 have FD:∀b,b<w.heap.size->¬Y b->w'.heap[b]?=w.heap[b]?:=ht.keep
 refine⟨h.dfr,h.tsz,h.tmo,fun i hi=>(h.tms i hi).step hW hA fun _ _=>rfl,fun id bx Mz=>?_,h.inj,fun id b o h1 h2=>Ft (h.blt id b o h1 h2) ht.size,h.wfT,h.wfB,fun b hb=>.inl hb,
  fun id bx b o h1 h2 h3 _ j _=>⟨id,o,by rw[h1];exact h2,h3⟩,fun i hi=>hi.elim,fun id c b o h1=>absurd h1 (hns id c),fun b hz=>?_,ht.lt,⟨rfl,rfl,rfl,⟨Ci _,fun _ _ _=>rfl,fun _ _=>Fi.refl _ _⟩,fun _ _ _ _=>⟨rfl,rfl⟩⟩⟩
 ·cases bx with
  |st c=>exact absurd Mz (hns id c)
  |mv=>trivial
  |ar fz cells=>
   rcases h.box id _ Mz with h1|⟨b,o,h1,h2,h3,h4⟩
   ·exact .inl h1
   ·have Ck:b<w.heap.size:=h.blt id b o (by rw[Mz];simp) h1
    have hnY:¬Y b:=by
     cases fz with
     |false=>exact fun y=>h.Yx b y ⟨id,o,by rw[Mz];trivial,h1⟩
     |true=>exact fun y=>h4 rfl (.inr y)
    have hh:=FD b Ck hnY;have Iq:bsz w' b=bsz w b:=by unfold bsz;rw[hh]
    refine .inr ⟨b,o,h1,fun j c hj=>?_,fun hf j hj hjb=>?_,fun hf=>fun hA'=>h4 hf (hA b Ck hA')⟩
    ·obtain⟨v,hv,hv1,hv2⟩:=h2 j c hj;exact⟨v,(World.cell?_of_block (a:=(⟨b,o,none⟩:Addr).add j) (by rw[Fv];exact hh)).trans hv,hv1,hv2.step hW hA⟩
    ·rw[Iq] at hjb;have:=h3 hf j hj hjb;rw[<-this];unfold World.frozen?;simp only[hh]
 ·rintro⟨id,o,h1,h2⟩
  have Ck:b<w.heap.size:=h.blt id b o (Dw h1) h2;rcases ht.new b hz with h3|h3
  ·exact h.Yx b h3 ⟨id,o,h1,h2⟩
  ·omega
theorem Cj.stay{N:Nat}{w0 w:World}{X0:F3}{Y:Nat->Prop}{β:Bt}{s:St}{a:Act}(h:Cj N w0 X0 Y β s a w)(hd:∀b,Y b->¬X0.X b):BQ Y w0 w:=
 ⟨h.fr.os,h.fr.tape,h.fr.output,h.fr.step.size,fun b hb=>h.fr.step.keep b (h.Ylt b hb) (hd b hb)⟩
end
section
open Go Go.RowKit
abbrev WF(ro:Option Nat):Fence:={ fn:=fun _=>True,depth:=none,alive:=false,round:=ro }
def Adc(o:Oper):Bool:=
 match o.op with
 |.defer _=>false
 |_=>true
def okR:Code->Bool
 |.region _ ops _=>ops.toList.all Adc
 |.seq a b=>okR a&&okR b
 |.cond _ a b=>okR a&&okR b
 |.block _ c=>okR c
 |.loop c=>okR c
 |.skip=>true
 |.exit _=>true
 |.ret=>true
 |_=>false
theorem LG{P:Program}{o:Oper}{a:Act}{w:World}{next:Act->World->Prop}{Q:Exit->Act->World->Prop}{ro:Option Nat}{n:Nat}(hd:Adc o=true)(h:o.wp P a w next Q):o.wpIn (WF ro) n P a w next Q:=by
 refine⟨fun _ _=>trivial,?_⟩;have e:o.semAt (WF ro).round a.eval=execOp a.eval o:=Oper.semAt_eq _ _ _ (by intro c hc;unfold Adc at hd;rw[hc] at hd;cases hd)
 rw[e];unfold Oper.wp at h
 revert h
 generalize (execOp a.eval o).run P w=q;intro h;cases q with
 |halt x w'=>cases x<;>first|exact h|exact h.elim
 |ok v w'=>
  cases v with
  |value v=>exact h
  |skip=>exact h
  |defer d=>exact h
  |enter f args=>exact⟨(fun h=>by cases h),(callsIn_wide.2 h:CallsIn Fence.wide (n-1) P f args w' _)⟩
  |row row args=>exact⟨(fun h=>by cases h),fun c cs _=>let ⟨v,w',r,s⟩:=h c cs;⟨v,w',r,stepsIn_wide.2 s⟩⟩
  |_=>exact h.elim
theorem Ade{P:Program}{ops:Array Oper}{Q:Exit->Act->World->Prop}{K K':Act->World->Prop}{ro:Option Nat}{i n:Nat}{a:Act}{w:World}(LI:¬LetsOut Q)(WA:ops.toList.all Adc=true)(hK:∀a w,K a w->K' a w)(h:wpOp P ops Q i K a w):wpOpIn (WF ro) n P ops Q i K' a w:=by
 unfold wpOp at h;unfold wpOpIn;cases ho:ops[i]? with
 |none=>rw[ho] at h;exact hK _ _ h
 |some o=>
  rw[ho] at h;simp only at h ⊢;have hn:Adc o=true:=List.all_eq_true.1 WA o (Array.mem_toList_iff.2 (Array.mem_of_getElem? ho));by_cases hw:Region.wanted o (yielded ops a.tmps)=true
  ·rw[Cr hw] at h ⊢;rcases h with h|h
   ·exact LG hn (Oper.wp_mono hK h)
   ·exact absurd h.2 LI
  ·rw[B3 hw] at h ⊢;exact⟨fun _ _=>trivial,hK _ _ h⟩
theorem Vf{P:Program}{ops:Array Oper}{Q:Exit->Act->World->Prop}{ro:Option Nat}{n:Nat}{md:Region.Mode}(LI:¬LetsOut Q)(WA:ops.toList.all Adc=true):∀(fuel:Nat)(listed:Array Bool)(a:Act)(w:World),wpAny P md ops Q fuel listed a w->wpAnyIn (WF ro) n P md ops Q fuel listed a w
 |0,_,_,_,h=>h
 |fuel+1,_,_,_,h=>⟨h.1,fun i hi=>Ade LI WA (fun a w=>Vf LI WA fuel _ a w) (h.2 i hi)⟩
section
variable {P:Program}{C:Ih}{N:Nat}{call:Ap}{w0:World}{X0:F3}{Y:Nat->Prop}{R:Type}{r:R}{β:Bt}{s:St}{a:Act}{w:World}{o:Oper}{ops:Array Oper}{K:St->Option R}{ro:Option Nat}{n:Nat}
theorem PD(h:Cj N w0 X0 Y β s a w){G:Vg}(I7:NT P G w0 X0)(Dc:∀f args res,call f args=some res->C9 G P f args res)(WA:Adc o=true)(hk:Eo C P N call ops o s K=some r):
  ∃s',K s'=some r/\∀(next:Act->World->Prop) (Q:Exit->Act->World->Prop),(∀a' w' β',Cj N w0 X0 Y β' s' a' w'->next a' w') ->
   if Region.wanted o (yielded ops a.tmps) then o.wpIn (WF ro) n P a w next Q else (∀f,o.about P w a.eval=some f->(WF ro).fn f)/\next (a.put o.dst undef) w:=by
 rw[QT] at hk
 have hw:∀b,Hl ops o s.tm=some b->Region.wanted o (yielded ops a.tmps)=b:=by
  intro b hb;unfold Hl at hb;unfold Region.wanted;cases hg:o.guard with
  |none=>rw[hg] at hb;simpa using hb
  |some q=>
   obtain⟨j,want⟩:=q;rw[hg] at hb;simp only at hb ⊢;cases hd:(ops[j]?).bind (·.dst) with
   |none=>rw[hd] at hb;cases hb
   |some d=>
    rw[hd] at hb;simp only at hb;split at hb
    ·rename_i b' ht;rw[Yh h hd ht];simp at hb;rw[<-hb];cases b'<;>cases want<;>rfl
    ·rename_i ht;rw[Yh h hd ht];simp at hb;rw[hb];rfl
    ·cases hb
 split at hk
 ·cases hk
 ·rename_i hv;obtain⟨s',hs',hn⟩:=TI h I7 Dc hk;refine⟨s',hs',fun next Q VL=>?_⟩;simp only[hw _ hv,if_true];exact LG WA (hn next Q VL)
 ·rename_i hv;obtain⟨hd,hk⟩:=Aq hk;refine⟨_,hk,fun next Q VL=>?_⟩;simp only[hw _ hv];exact⟨fun _ _=>trivial,VL _ _ β (h.put hd (Av.sc _) (by simp[Cd,Ct,Au]))⟩
theorem ES{G:Vg}(I7:NT P G w0 X0)(Dc:∀f args res,call f args=some res->C9 G P f args res){Q:Exit->Act->World->Prop}(hQ:∀s' a' w' β',K s'=some r->Cj N w0 X0 Y β' s' a' w'->Q .normal a' w'):
  ∀(li:B9) (os:List Oper),li.length=os.length->(∀(k i:Nat),li[k]?=some i->ops[i]?=os[k]?)->os.all Adc=true->∀{s:St} {a:Act} {w:World} {β:Bt},Cj N w0 X0 Y β s a w->Ve C P N call ops os s K=some r->wpOpsIn (WF ro) n P ops Q li a w
 |[],[],_,_,_,s,a,w,β,h,hk=>by
  show Q .normal a w;exact hQ s a w β hk h
 |[],_::_,hl,_,_,_,_,_,_,_,_=>by cases hl
 |_::_,[],hl,_,_,_,_,_,_,_,_=>by cases hl
 |i::li,o::os,hl,hi,WA,s,a,w,β,h,hk=>by
  obtain⟨s1,hk,h⟩:=Yw h hk;rw[List.all_cons,Fc] at WA;have hio:ops[i]?=some o:=by simpa using hi 0 i rfl
  obtain⟨s',hs',hn⟩:=PD (ro:=ro) (n:=n) h I7 Dc WA.1 hk;unfold wpOpsIn;rw[hio];exact hn _ _ fun a' w' β' h'=>ES I7 Dc hQ li os (by simpa using hl) (fun k j hj=>by simpa using hi (k+1) j (by simpa using hj)) WA.2 h' hs'
theorem OJ{c:Code}{Q:Exit->Act->World->Prop}{F:(St->Option R)->St->Option R}{nm:St->(St->Option R)->Option R}(QS:∀{β s a w} {K:St->Option R},Cj N w0 X0 Y β s a w->nm s K=some r->∃β' s',K s'=some r/\Cj N w0 X0 Y β' s' a w)(hF:∀{β s a w} {K:St->Option R}{Q':Act->World->Prop},Cj N w0 X0 Y β s a w->F K s=some r->(∀s' a' w' β',K s'=some r->Cj N w0 X0 Y β' s' a' w'->Q' a' w')->c.wpIn (WF ro) n P (Exit.then Q' Q) a w):
  ∀(m:Nat) {β s a w},Cj N w0 X0 Y β s a w->Adw F nm m s=some r->Code.roundsIn (WF ro) n P c Q m a w
 |0,_,_,_,_,_,hk=>by cases hk
 |m+1,β,s,a,w,h,hk=>by
  rw[roundsIn_succ];refine hF h hk fun s' a' w' β' H4 h'=>?_;obtain⟨β1,s1,Er,h1⟩:=QS h' H4;exact OJ QS hF m h1 Er
theorem OE{G:Vg}(I7:NT P G w0 X0)(Dc:∀f args res,call f args=some res->C9 G P f args res)(hm:P.follows .mixedOrders=true){fu:Nat}:
  ∀(c:Code),okR c=true->∀{ln:Nat} {lx:Nat->Nat} {lr:Nat} {kn:St->Option R} {kx:Nat->St->Option R} {kr:St->Option R} {β:Bt} {s:St} {a:Act} {w:World} {Q:Exit->Act->World->Prop},(∀a w,¬Q .outgrown a w)->Cj N w0 X0 Y β s a w ->
   Mq C P fu N call c ln lx lr kn kx kr s=some r->(∀s' a' w' β',kn s'=some r->Cj N w0 X0 Y β' s' a' w'->Q .normal a' w') ->
   (∀id s' a' w' β',kx id s'=some r->Cj N w0 X0 Y β' s' a' w'->Q (.exit id) a' w')->(∀s' a' w' β',kr s'=some r->Cj N w0 X0 Y β' s' a' w'->Q .ret a' w')->c.wpIn (WF ro) n P Q a w:=by
 intro c
 induction c with
 |skip=>intro _ ln lx lr kn kx kr β s a w Q LI h hk hn hx hr;exact wpIn_skip (hn s a w β hk h)
 |region id ops draw=>
  intro ho ln lx lr kn kx kr β s a w Q LI h hk hn hx hr;unfold okR at ho;unfold Mq at hk;cases draw
  ·simp only[XA,UR,cond_false] at hk;refine wpIn_region (ES I7 Dc hn (List.range ops.size) ops.toList (by simp) (fun k i hi=>?_) ho h hk);rw[List.getElem?_range] at hi
   ·simp at hi;subst hi;simp
   ·rcases Ig k ops.size with h'|h'
    ·exact h'
    ·rw[List.getElem?_eq_none (by simpa using h')] at hi;cases hi
  ·have hLo:¬LetsOut Q:=fun ⟨a,w,q⟩=>LI a w q;simp only[XA,Avu,XY,cond_true] at hk;cases hb:SQ C P ops<;>rw[hb] at hk
   ·obtain⟨Iq,Er⟩:=Aq (show As _ _=some r from hk);exact wpIn_region_any hm (Vf hLo ho _ _ _ _ (Y6 h I7 Dc hm Iq Er hn))
   ·exact wpIn_region_any hm (Vf hLo ho _ _ _ _ (Wl h I7 Dc hm hb hk hn))
 |seq c1 c2 ih1 ih2=>
  intro ho ln lx lr kn kx kr β s a w Q LI h hk hn hx hr;unfold okR at ho;rw[Fc] at ho;unfold Mq at hk
  refine wpIn_seq (ih1 ho.1 (fun a w=>LI a w) h hk (fun s' a' w' β' H4 h'=>by
    cases hc:Aml P c1 c2
    ·rw[hc] at H4;exact ih2 ho.2 LI h' H4 hn hx hr
    ·rw[hc] at H4;cases hq:JF c1 c2
     ·rw[hq] at H4;obtain⟨β1,s1,Er,h1⟩:=Cv h' (show Mu _ _ _ _=some r from H4);exact ih2 ho.2 LI h1 (DE Er) hn hx hr
     ·rw[hq] at H4;obtain⟨β1,s1,Er,h1⟩:=OM h' (show Aez _ _ _ _=some r from H4);exact ih2 ho.2 LI h1 (DE Er) hn hx hr) (fun id s' a' w' β' H4 h'=>hx id s' a' w' β' H4 h') (fun s' a' w' β' H4 h'=>hr s' a' w' β' H4 h'))
 |cond c c1 c2 ih1 ih2=>
  intro ho ln lx lr kn kx kr β s a w Q LI h hk hn hx hr;unfold okR at ho;rw[Fc] at ho;unfold Mq at hk;rcases NS h hk with⟨hc,Er⟩|⟨hc,Er⟩
  ·exact wpIn_cond_true hc (ih1 ho.1 LI h Er hn hx hr)
  ·exact wpIn_cond_false hc (ih2 ho.2 LI h Er hn hx hr)
 |block id c ih=>
  intro ho ln lx lr kn kx kr β s a w Q LI h hk hn hx hr;unfold okR at ho;unfold Mq at hk;refine wpIn_block (ih ho (fun a w=>LI a w) h hk (fun s' a' w' β' H4 h'=>hn s' a' w' β' H4 h') (fun j s' a' w' β' H4 h'=>?_) (fun s' a' w' β' H4 h'=>hr s' a' w' β' H4 h'));show (if j=id then _ else _);by_cases e:j=id
  ·subst e;rw[Cr rfl];rw[Og] at H4;exact hn s' a' w' β' H4 h'
  ·rw[B3 e]
   have:Nat.beq j id=false:=by
    cases hb:Nat.beq j id
    ·rfl
    ·exact absurd (Dx hb) e
   rw[this] at H4;exact hx j s' a' w' β' H4 h'
 |loop c ih=>
  intro ho ln lx lr kn kx kr β s a w Q LI h hk hn hx hr;unfold okR at ho;unfold Mq at hk;obtain⟨β1,s1,Er,h1⟩:=Cv h hk;refine wpIn_loop_rounds fu (OJ (fun h hk=>Cv h hk) (fun h hk hQ=>?_) fu h1 Er);exact ih ho (fun a w=>LI a w) h hk hQ (fun id s' a' w' β' H4 h'=>hx id s' a' w' β' H4 h') (fun s' a' w' β' H4 h'=>hr s' a' w' β' H4 h')
 |«exit» id=>intro _ ln lx lr kn kx kr β s a w Q LI h hk hn hx hr;exact wpIn_exit (hx id s a w β hk h)
 |ret=>intro _ ln lx lr kn kx kr β s a w Q LI h hk hn hx hr;exact wpIn_ret (hr s a w β hk h)
 |_=>intro ho;cases ho
end
end
section
open Go Go.RowKit
theorem Rn:∀(l:List (Nat × PV)) (i:Nat),lk l i=.top\/∃q∈l,q.1=i/\lk l i=q.2
 |[],_=>.inl rfl
 |(j,p)::l,i=>by
  by_cases e:i=j
  ·subst e;refine .inr ⟨(i,p),by simp,rfl,?_⟩;simp[lk,Og]
  ·have hb:Nat.beq i j=false:=by
    cases h:Nat.beq i j
    ·rfl
    ·exact absurd (Dx h) e
   have Iq:Nat.beq j i=false:=by
    cases h:Nat.beq j i
    ·rfl
    ·exact absurd (Dx h).symm e
   have h1:lk ((j,p)::l) i=lk l i:=by simp[lk,hb,Iq]
   rw[h1];rcases Rn l i with h|⟨q,hq,h2,h3⟩
   ·exact .inl h
   ·exact .inr ⟨q,Tz _ hq,h2,h3⟩
theorem HL:∀(l:List (Nat × Cc)) (i:Nat),C4 l i=none\/∃q∈l,q.1=i/\C4 l i=some q.2
 |[],_=>.inl rfl
 |(j,p)::l,i=>by
  by_cases e:i=j
  ·subst e;refine .inr ⟨(i,p),by simp,rfl,?_⟩;simp[C4,Og]
  ·have hb:Nat.beq i j=false:=by
    cases h:Nat.beq i j
    ·rfl
    ·exact absurd (Dx h) e
   have Iq:Nat.beq j i=false:=by
    cases h:Nat.beq j i
    ·rfl
    ·exact absurd (Dx h).symm e
   have h1:C4 ((j,p)::l) i=C4 l i:=by simp[C4,hb,Iq]
   rw[h1];rcases HL l i with h|⟨q,hq,h2,h3⟩
   ·exact .inl h
   ·exact .inr ⟨q,Tz _ hq,h2,h3⟩
theorem Ao3{P:Program}{a:Act}{w:World}{o:Oper}{c:Call}{t l:Nat}(ho:o.op=.call c)(hc:c.callee=.value (.tmp t))(ht:a.eval (.tmp t)=.func (.yield l) #[] #[]){r:Result Next}(hy:(Instr.yield l (c.args.map a.eval)).run P w=r):
  (execOp a.eval o).run P w=r:=by
 unfold execOp;rw[ho];simp[resolve,hc,ht,Deferred.ofValue,invoke,hy]
section
variable {P:Program}{C:Ih}{N:Nat}{call:Ap}{w0:World}{X0:F3}{Y:Nat->Prop}{R:Type}{r:R}{β:Bt}{s:St}{a:Act}{w:World}{o:Oper}{ops:Array Oper}{K:St->Option R}{ro:Option Nat}{n:Nat}
theorem Cj.part(h:Cj N w0 X0 Y β s a w)(tm':Nat->PV)(Do:Nat->Option Cc)(ht:∀i,tm' i=.top\/tm' i=s.tm i)(hh:∀id,Do id=none\/Do id=s.hp id)(hw:∀i,i<N->∀id∈Cd (tm' i),Do id≠none)(hwB:∀id cells,Do id=some (.st cells)->∀c∈cells,∀id'∈Au c,Do id'≠none)(BL:∀i,X0.pn i->Do (D1 N i)≠none):Cj N w0 X0 Y β ⟨tm',Do⟩ a w:=by
 have hX:∀b,II Do β b->II s.hp β b:=by
  rintro b ⟨id,o,h1,h2⟩
  rcases hh id with e|e
  ·rw[e] at h1;exact h1.elim
  ·rw[e] at h1;exact⟨id,o,h1,h2⟩
 have hA:∀b,Dv Do β Y b->Dv s.hp β Y b:=fun b hb=>hb.elim (fun x=>.inl (hX b x)) .inr
 have hs:∀{id bx},Do id=some bx->s.hp id=some bx:=by
  intro id bx e;rcases hh id with e'|e'
  ·rw[e'] at e;cases e
  ·rw[<-e'];exact e
 have hn:∀{id},Do id≠none->s.hp id≠none:=by
  intro id e;rcases hh id with e'|e'
  ·exact absurd e' e
  ·rw[<-e'];exact e
 have hl:∀{id},Dj (Do id)->Dj (s.hp id):=by
  intro id e;rcases hh id with e'|e'
  ·rw[e'] at e;exact e.elim
  ·rw[<-e'];exact e
 have Fn:Cw (Dv s.hp β Y) w w:=⟨Ci _,fun _ _ _=>rfl,fun _ _=>Fi.refl _ _⟩
 refine⟨h.dfr,h.tsz,fun i hi=>?_,fun i hi=>?_,fun id bx Mz=>?_,fun id id' b o o' h1 h2=>h.inj id id' b o o' (hl h1) (hl h2),fun id b o h1 h2=>h.blt id b o (hn h1) h2,hw,hwB,fun b hb=>h.ownd b (hX b hb),fun id bx b o h1 h2 h3 h4=>h.rngB id bx b o (hs h1) h2 h3 h4,
  fun i hi=>⟨BL i hi,(h.pin i hi).2⟩,fun id c b o h1=>h.stp id c b o (hs h1),fun b hy hx=>h.Yx b hy (hX b hx),h.Ylt,h.fr⟩
 ·rcases ht i with e|e
  ·exact e
  ·exact e.trans (h.tmo i hi)
 ·show Ex w (Dv Do β Y) β (tm' i) _;rcases ht i with e|e
  ·rw[e];exact Av.top _
  ·rw[e];exact (h.tms i hi).step Fn (fun b _=>hA b) fun _ _=>rfl
 ·have h0:=h.box id bx (hs Mz);exact h0.step' hA
theorem Cj.pick(h:Cj N w0 X0 Y β s a w)(l:List (Nat × PV))(bl:List (Nat × Cc))(hl:∀q∈l,q.2=s.tm q.1)(hb:∀q∈bl,some q.2=s.hp q.1)(hw:∀q∈l,∀id∈Cd q.2,C4 bl id≠none)(hwB:∀q∈bl,∀cells,q.2=.st cells->∀c∈cells,∀id'∈Au c,C4 bl id'≠none)(BL:∀i,X0.pn i->C4 bl (D1 N i)≠none):Cj N w0 X0 Y β ⟨lk l,C4 bl⟩ a w:=by
 refine h.part (lk l) (C4 bl) (fun i=>?_) (fun id=>?_) (fun i _ id B4=>?_) (fun id cells e=>?_) BL
 ·rcases Rn l i with e|⟨q,hq,h1,h2⟩
  ·exact .inl e
  ·exact .inr (by rw[h2,hl q hq,h1])
 ·rcases HL bl id with e|⟨q,hq,h1,h2⟩
  ·exact .inl e
  ·exact .inr (by rw[h2,hb q hq,h1])
 ·rcases Rn l i with e|⟨q,hq,h1,h2⟩
  ·rw[e] at B4;simp[Cd,Ct,Au] at B4
  ·rw[h2] at B4;exact hw q hq id B4
 ·rcases HL bl id with e'|⟨q,hq,h1,h2⟩
  ·rw[e'] at e;cases e
  ·rw[h2] at e;exact hwB q hq cells (by injection e)
theorem L6{G:Vg}(I7:NT P G w0 X0)(Dc:∀f args res,call f args=some res->C9 G P f args res){Q:Exit->Act->World->Prop}{rest:B9}(hQ:∀s' a' w' β',K s'=some r->Cj N w0 X0 Y β' s' a' w'->wpOpsIn (WF ro) n P ops Q rest a' w'):
  ∀(li:B9) (os:List Oper),li.length=os.length->(∀(k i:Nat),li[k]?=some i->ops[i]?=os[k]?)->os.all Adc=true->∀{s:St} {a:Act} {w:World} {β:Bt},Cj N w0 X0 Y β s a w->Ve C P N call ops os s K=some r->wpOpsIn (WF ro) n P ops Q (li++rest) a w
 |[],[],_,_,_,s,a,w,β,h,hk=>hQ s a w β hk h
 |[],_::_,hl,_,_,_,_,_,_,_,_=>by cases hl
 |_::_,[],hl,_,_,_,_,_,_,_,_=>by cases hl
 |i::li,o::os,hl,hi,WA,s,a,w,β,h,hk=>by
  obtain⟨s1,hk,h⟩:=Yw h hk;rw[List.all_cons,Fc] at WA;have hio:ops[i]?=some o:=by simpa using hi 0 i rfl
  obtain⟨s',hs',hn⟩:=PD (ro:=ro) (n:=n) h I7 Dc WA.1 hk;rw[Zzp];unfold wpOpsIn;rw[hio];exact hn _ _ fun a' w' β' h'=>L6 I7 Dc hQ li os (by simpa using hl) (fun k j hj=>by simpa using hi (k+1) j (by simpa using hj)) WA.2 h' hs'
end
end
section
open Go Go.RowKit
def sL:Code->Code
 |.seq a _=>a
 |c=>c
def sR:Code->Code
 |.seq _ b=>b
 |c=>c
def sB:Code->Code
 |.block _ c=>c
 |.loop c=>c
 |c=>c
def sF:Code->Code
 |.rangeFunc _ _ _ b=>b
 |c=>c
def sA:Code->Code
 |.rangeFunc _ _ a _=>a
 |c=>c
def Vc:Code->Array Oper
 |.region _ ops _=>ops
 |_=> #[]
def CS:Ih:={ CB with shr:=fun _=>true }
abbrev seg(N:Nat)(call:Ap)(c:Code)(L:Nat)(s:St):Option (Nat × St):=
 Mq CB prog 2000 N call c L (fun _=>L) 0 (fun s=>Mu N L s fun s'=>some (0,s')) (fun id s=>Mu N L s fun s'=>some (id+1,s')) (fun _=>none) s
section
variable {N:Nat}{w0:World}{X0:F3}{Y:Nat->Prop}{β:Bt}{s s1:St}{a:Act}{w:World}
theorem Ry{G:Vg}(I7:NT prog G w0 X0)(hm:prog.follows .mixedOrders=true){call:Ap}(Dc:∀f args res,call f args=some res->C9 G prog f args res){c:Code}{L t:Nat}{Q:Exit->Act->World->Prop}(h:Cj N w0 X0 Y β s a w)(hk:seg N call c L s=some (t,s1))(hQ:∀a' w' β',Cj N w0 X0 Y β' s1 a' w'->match t with|0=>Q .normal a' w'|id+1=>Q (.exit id) a' w'):c.wp prog Q a w:=by
 refine GC I7 Dc hm c h hk (fun s' a' w' β' h1 h2=>?_) (fun id s' a' w' β' h1 h2=>?_) (fun s' a' w' β' h1 h2=>by cases h1)
 ·obtain⟨β1,s2,h3,h4⟩:=Cv h2 h1;cases h3;exact hQ _ _ _ h4
 ·obtain⟨β1,s2,h3,h4⟩:=Cv h2 h1;cases h3;exact hQ _ _ _ h4
theorem Ai2{G:Vg}(I7:NT prog G w0 X0)(hm:prog.follows .mixedOrders=true){call:Ap}(Dc:∀f args res,call f args=some res->C9 G prog f args res){ro:Option Nat}{n:Nat}{c:Code}(ho:okR c=true){L t:Nat}{Q:Exit->Act->World->Prop}(LI:∀a w,¬Q .outgrown a w)(h:Cj N w0 X0 Y β s a w)(hk:seg N call c L s=some (t,s1))(hQ:∀a' w' β',Cj N w0 X0 Y β' s1 a' w'->match t with|0=>Q .normal a' w'|id+1=>Q (.exit id) a' w'):c.wpIn (WF ro) n prog Q a w:=by
 refine OE I7 Dc hm c ho LI h hk (fun s' a' w' β' h1 h2=>?_) (fun id s' a' w' β' h1 h2=>?_) (fun s' a' w' β' h1 h2=>by cases h1)
 ·obtain⟨β1,s2,h3,h4⟩:=Cv h2 h1;cases h3;exact hQ _ _ _ h4
 ·obtain⟨β1,s2,h3,h4⟩:=Cv h2 h1;cases h3;exact hQ _ _ _ h4
end
end
section
open Go Go.RowKit
abbrev Ww(ds:List Deferred)(a:Act):Act:={ a with defers:=a.defers++ds }
def TD(ds:List Deferred)(Q:Exit->Act->World->Prop):Exit->Act->World->Prop:=fun e a w=>∃a0:Act,a=Ww ds a0/\Q e a0 w
section
variable {P:Program}{ops:Array Oper}{Q:Exit->Act->World->Prop}{ro:Option Nat}{n:Nat}{ds:List Deferred}
theorem Sf(a:Act)(d:Option Tmp)(v:Value):(Ww ds a).put d v=Ww ds (a.put d v):=by cases d<;>rfl
theorem Avl(h:LetsOut Q):LetsOut (TD ds Q):=let ⟨a,w,q⟩:=h;⟨_,w,a,rfl,q⟩
theorem Ao5{o:Oper}{a:Act}{w:World}{K K':Act->World->Prop}(hK:∀a w,K a w->K' (Ww ds a) w)(h:o.wpIn (WF ro) n P a w K Q):o.wpIn (WF ro) n P (Ww ds a) w K' (TD ds Q):=by
 refine⟨fun _ _=>trivial,?_⟩;have h:=h.2;show o.uponIn _ _ _ _ _ _ ((o.semAt (WF ro).round a.eval).run P w);generalize (o.semAt (WF ro).round a.eval).run P w=q at h;cases q with
 |halt x w'=>cases x<;>first|exact⟨a,rfl,h⟩|exact h.elim
 |ok v w'=>
  cases v with
  |value v=>show K' ((Ww ds a).put o.dst v) w';rw[Sf];exact hK _ _ h
  |skip=>show K' ((Ww ds a).put o.dst undef) w';rw[Sf];exact hK _ _ h
  |defer d=>
   show K' (({ (Ww ds a) with defers:=d::(Ww ds a).defers }:Act).put o.dst undef) w';rw[show ({ (Ww ds a) with defers:=d::(Ww ds a).defers }:Act)=Ww ds { a with defers:=d::a.defers } from rfl,Sf];exact hK _ _ h
  |enter f args=>
   refine⟨h.1,h.2.mono ?_⟩;intro e w'' he;cases e with
   |returned v=>show K' ((Ww ds a).put o.dst v) w'';rw[Sf];exact hK _ _ he
   |panicked c=>exact⟨a,rfl,he⟩
   |outgrown=>exact Avl he
  |row row args=>
   refine⟨h.1,h.2.mono ?_⟩;intro v w'' he;show K' ((Ww ds a).put o.dst v) w'';rw[Sf];exact hK _ _ he
  |round l f tmps assign body=>
   refine⟨h.1,h.2.mono ?_⟩;intro e w'' he;cases e with
   |returned v=>show K' ((Ww ds a).put o.dst v) w'';rw[Sf];exact hK _ _ he
   |panicked c=>exact⟨a,rfl,he⟩
   |outgrown=>exact Avl he
  |_=>exact h.elim
theorem X7:∀(li:B9){a:Act}{w:World},wpOpsIn (WF ro) n P ops Q li a w->wpOpsIn (WF ro) n P ops (TD ds Q) li (Ww ds a) w
 |[],a,w,h=>⟨a,rfl,h⟩
 |i::li,a,w,h=>by
  rw[wpOpsIn_cons] at h ⊢;unfold wpOpIn at h ⊢;cases ho:ops[i]? with
  |none=>rw[ho] at h;exact X7 li h
  |some o=>
   rw[ho] at h;simp only at h ⊢;by_cases hw:Region.wanted o (yielded ops a.tmps)=true
   ·rw[Cr hw] at h ⊢;exact Ao5 (fun a w=>X7 li) h
   ·rw[B3 hw] at h ⊢;refine⟨fun _ _=>trivial,?_⟩;rw[Sf];exact X7 li h.2
end
structure Ac3(w w':World):Prop where
 os:w'.os=w.os
 tape:w'.tape=w.tape
 output:w'.output=w.output
 size:w'.heap.size=w.heap.size
 cell:∀a,w'.cell? a=w.cell? a
 frz:∀a,w'.frozen? a=w.frozen? a
 bs:∀b,bsz w' b=bsz w b
theorem Ac3.endF{w w':World}(h:Ac3 w w')(b:Nat):Pv.endF w' b=Pv.endF w b:=by unfold Pv.endF;rw[h.bs,h.frz]
theorem Av.same{w w':World}{A:Nat->Prop}(h:Ac3 w w'){p:PV}{v:Value}(t:Av w A p v):Av w' A p v:=by
 induction t with
 |sc v=>exact .sc v
 |top v=>exact .top v
 |ub b=>exact .ub b
 |lnil z es=>exact .lnil z es
 |lemp es a cap=>exact .lemp es a cap
 |lst es n cells a cap f hs hb hA1 hn hc h1 hr ih=>exact .lst es n cells a cap f hs (by rw[h.size];exact hb) hA1 hn (fun j c hj=>by rw[h.cell];exact hc j c hj) h1 (fun j c hj=>ih j c hj)
theorem VV.same{w w':World}{A:Nat->Prop}(h:Ac3 w w'){a:Addr}{c:Ae}(t:VV w A a c):VV w' A a c:=fun j x hj=>by
 obtain⟨v,h1,h2,h3⟩:=t j x hj;exact⟨v,by rw[h.cell];exact h1,h2,h3.same h⟩
theorem Cm.same{w w':World}{A:Nat->Prop}{β:Nat->Option (Nat × Nat)}(h:Ac3 w w'){p:PV}{v:Value}(t:Cm w A β p v):Cm w' A β p v:=by
 cases p with
 |view id es off n=>
  rcases t with t|⟨b,o,x,cap,h1,h2,hx,h3,h4,h5⟩
  ·exact .inl t
  ·exact .inr ⟨b,o,x,cap,h1,h2,hx,h3,⟨by rw[h.bs];exact h4.1,h4.2.imp (fun q=>q) fun q=>by rw[h.endF];exact q⟩,by rw[h.size];exact h5⟩
 |ptr id off=>exact t
 |iptr c off=>
  obtain⟨a,h1,h2,h3,h4,h5⟩:=t;exact⟨a,h1,h2,by rw[h.size];exact h3,h4,h5.same h⟩
 |_=>exact Av.same h t
theorem Bx.imp'{α β:Type}{R S:α->β->Prop}{zs:List α}{bs:List β}(h:Bx R zs bs)(f:∀a b,R a b->S a b):Bx S zs bs:=h.mono f
theorem Hq.same{w w':World}{A:Nat->Prop}{β:Nat->Option (Nat × Nat)}(h:Ac3 w w'){p:PV}{v:Value}(t:Hq w A β p v):Hq w' A β p v:=by
 cases p with
 |agg cs=>obtain⟨vs,h1,h2⟩:=t;exact⟨vs,h1,h2.imp' fun _ _=>Cm.same h⟩
 |_=>exact (Yn (by intro cs e;cases e)).2 (Cm.same h ((Yn (by intro cs e;cases e)).1 t))
theorem Ex.same{w w':World}{A:Nat->Prop}{β:Nat->Option (Nat × Nat)}(h:Ac3 w w'){p:PV}{v:Value}(t:Ex w A β p v):Ex w' A β p v:=by
 cases p with
 |tup cs=>obtain⟨vs,h1,h2⟩:=t;exact⟨vs,h1,h2.imp' fun _ _=>Hq.same h⟩
 |_=>exact (Oy (by intro cs e;cases e)).2 (Hq.same h ((Oy (by intro cs e;cases e)).1 t))
theorem Cj.same{N:Nat}{w0 w w':World}{X0:F3}{Y:Nat->Prop}{β:Bt}{s:St}{a:Act}(h:Cj N w0 X0 Y β s a w)(hs:Ac3 w w')(h0:∀b,b<w0.heap.size->w'.heap[b]?=w.heap[b]?):Cj N w0 X0 Y β s a w':=by
 refine⟨h.dfr,h.tsz,h.tmo,fun i hi=>(h.tms i hi).same hs,fun id bx e=>?_,h.inj,fun id b o h1 h2=>by rw[hs.size];exact h.blt id b o h1 h2,h.wfT,h.wfB,h.ownd,h.rngB,h.pin,h.stp,h.Yx,h.Ylt,
  ⟨hs.os.trans h.fr.os,hs.tape.trans h.fr.tape,hs.output.trans h.fr.output,⟨by rw[hs.size];exact h.fr.step.size,fun b hb hn=>(h0 b hb).trans (h.fr.step.keep b hb hn),fun b hb=>⟨by rw[hs.bs];exact (h.fr.step.bs b hb).1,fun q=>by rw[hs.endF];exact (h.fr.step.bs b hb).2 q⟩⟩,fun b j hb hn=>by rw[hs.cell,hs.frz];exact h.fr.rng b j hb hn⟩⟩
 have h1:=h.box id bx e;cases bx with
 |st c=>
  obtain⟨b,o,g1,g2,g3⟩:=h1;refine⟨b,o,g1,fun j c hj=>?_,fun j hj=>by rw[hs.frz];exact g3 j hj⟩
  obtain⟨v,k1,k2⟩:=g2 j c hj;exact⟨v,by rw[hs.cell];exact k1,k2.same hs⟩
 |ar fz c=>
  rcases h1 with h1|⟨b,o,g1,g2,g3,g4⟩
  ·exact .inl h1
  ·exact .inr ⟨b,o,g1,g2.same hs,fun hf j hj hjb=>by rw[hs.frz];exact g3 hf j hj (by rw[<-hs.bs];exact hjb),g4⟩
 |mv=>trivial
theorem Aet{w:World}{D:Nat}{x y:Option (List Deferred)}(h:w.heap[D]?=some (.deferred x)):Ac3 w (w.putObj D (.deferred y)):=by
 have hD:D<w.heap.size:=(Array.getElem?_eq_some_iff.1 h).1;have hs:(w.putObj D (.deferred y)).heap[D]?=some (.deferred y):=World.putObj_heap_same hD;refine⟨rfl,rfl,rfl,by simp,fun a=>?_,fun a=>?_,fun b=>?_⟩
 ·by_cases e:a.block=D
  ·unfold World.cell?;rw[e,hs,h]
  ·exact World.cell?_of_block (World.putObj_heap_other e)
 ·by_cases e:a.block=D
  ·unfold World.frozen?;rw[e,hs,h]
  ·unfold World.frozen?;rw[World.putObj_heap_other e]
 ·by_cases e:b=D
  ·subst e;unfold bsz;rw[hs,h]
  ·unfold bsz;rw[World.putObj_heap_other e]
end
section
open Go Go.RowKit
noncomputable abbrev stC:Code:=Aje Tryz.f54
noncomputable abbrev bwC:Code:=Aje Tryz.f136
noncomputable abbrev bwL:Code:=sB (sB (sR bwC))
noncomputable abbrev bwX:Code:=sB (sL (sR bwL))
noncomputable abbrev A9m:Code:=sB (sR (sL (sR (sR stC))))
noncomputable abbrev Amc:Code:=sA A9m
noncomputable abbrev Abw:Code:=sF A9m
abbrev Ayx(N:Nat)(call:Ap)(c:Code)(L:Nat)(s:St):Option (Nat × St):=
 Mq CB prog 2000 N call c L (fun _=>L) L (fun s=>Mu N L s fun s'=>some (0,s')) (fun id s=>Mu N L s fun s'=>some (id+2,s')) (fun s=>Mu N L s fun s'=>some (1,s')) s
section
variable {N:Nat}{w0:World}{X0:F3}{Y:Nat->Prop}{β:Bt}{s s1:St}{a:Act}{w:World}
theorem SX{G:Vg}(I7:NT prog G w0 X0)(hm:prog.follows .mixedOrders=true){call:Ap}(Dc:∀f args res,call f args=some res->C9 G prog f args res){c:Code}{L t:Nat}{Q:Exit->Act->World->Prop}(h:Cj N w0 X0 Y β s a w)(hk:Ayx N call c L s=some (t,s1))(hQ:∀a' w' β' e,Cj N w0 X0 Y β' s1 a' w'->(t=0/\e=.normal)\/(t=1/\e=.ret)\/(∃id,t=id+2/\e=.exit id)->Q e a' w'):c.wp prog Q a w:=by
 refine GC I7 Dc hm c h hk (fun s' a' w' β' h1 h2=>?_) (fun id s' a' w' β' h1 h2=>?_) (fun s' a' w' β' h1 h2=>?_)
 ·obtain⟨β1,s2,h3,h4⟩:=Cv h2 h1;cases h3;exact hQ _ _ _ _ h4 (.inl ⟨rfl,rfl⟩)
 ·obtain⟨β1,s2,h3,h4⟩:=Cv h2 h1;cases h3;exact hQ _ _ _ _ h4 (.inr (.inr ⟨id,rfl,rfl⟩))
 ·obtain⟨β1,s2,h3,h4⟩:=Cv h2 h1;cases h3;exact hQ _ _ _ _ h4 (.inr (.inl ⟨rfl,rfl⟩))
theorem OK{G:Vg}(I7:NT prog G w0 X0)(hm:prog.follows .mixedOrders=true){call:Ap}(Dc:∀f args res,call f args=some res->C9 G prog f args res){ro:Option Nat}{n:Nat}{c:Code}(ho:okR c=true){L t:Nat}{Q:Exit->Act->World->Prop}(LI:∀a w,¬Q .outgrown a w)(h:Cj N w0 X0 Y β s a w)(hk:Ayx N call c L s=some (t,s1))(hQ:∀a' w' β' e,Cj N w0 X0 Y β' s1 a' w'->(t=0/\e=.normal)\/(t=1/\e=.ret)\/(∃id,t=id+2/\e=.exit id)->Q e a' w'):c.wpIn (WF ro) n prog Q a w:=by
 refine OE I7 Dc hm c ho LI h hk (fun s' a' w' β' h1 h2=>?_) (fun id s' a' w' β' h1 h2=>?_) (fun s' a' w' β' h1 h2=>?_)
 ·obtain⟨β1,s2,h3,h4⟩:=Cv h2 h1;cases h3;exact hQ _ _ _ _ h4 (.inl ⟨rfl,rfl⟩)
 ·obtain⟨β1,s2,h3,h4⟩:=Cv h2 h1;cases h3;exact hQ _ _ _ _ h4 (.inr (.inr ⟨id,rfl,rfl⟩))
 ·obtain⟨β1,s2,h3,h4⟩:=Cv h2 h1;cases h3;exact hQ _ _ _ _ h4 (.inr (.inl ⟨rfl,rfl⟩))
end
end
section
open Go Go.RowKit
def G1:Vg:=⟨fun _=>False,fun _=>True,fun _ _ _ _=>trivial⟩
def noX:FuncId->Option (Ae->Option Bv):=fun _=>none
theorem A55:SP G1 prog (CX noX):=by intro f g args res h _;have h':(bif Ya.any (Nat.beq f) then none else (none:Option (Ae->Option Bv)))=some g:=h;cases hb:Ya.any (Nat.beq f)<;>rw[hb] at h'<;>cases h'
abbrev cl:Ap:=Ac (CX noX) prog 2000 8
theorem ngT:NoNG prog:=by
 have h:(prog.funcs.toList.all fun fn=> !(fn.name == "runtime.NumGoroutine"))=true:=by kernel_rfl
 intro f fn hf;have:=List.all_eq_true.1 h fn (Array.mem_toList_iff.2 (Array.mem_of_getElem? hf))
 simpa using this
theorem mxT:prog.follows .mixedOrders=true:=by kernel_rfl
theorem F2:∀f args res,cl f args=some res->C9 G1 prog f args res:=fun f args res h=>Jf ngT mxT A55 8 f args res h
theorem ED(w0:World)(X0:F3):NT prog G1 w0 X0:=⟨ngT,fun _ _=>trivial,fun _ h=>h.elim⟩
end
section
open Go Go.RowKit
theorem KQ{F:Fence}{n:Nat}{P:Program}{c c':Code}{Q:Exit->Act->World->Prop}{a:Act}{w:World}(e:c=c')(h:c'.wpIn F n P Q a w):c.wpIn F n P Q a w:=e ▸ h
section
variable {seed:Int}{h l:Nat}{w0:World}{X0:F3}{Z:Nat->Prop}{β:Bt}{a:Act}{w:World}
end
end
section
open Go Go.RowKit
def noL:F3:={ X:=fun _=>False,L:=fun _ _=>False,pn:=fun _=>False,pt:=fun _=>none,p8:=fun _ h=>h.elim }
theorem Cj.init{N:Nat}{W:World}{Z0:Nat->Prop}(l:List (Nat × PV))(a:Act)(hd:a.defers=[])(Km:a.tmps.size=N)(Ck:∀q∈l,q.1<N)(hv:∀q∈l,Ex W Z0 (fun _=>none) q.2 (a.tmps.getD q.1 undef))(hr:∀q∈l,Cd q.2=[])(hZ:∀b,Z0 b->b<W.heap.size):
  Cj N W noL Z0 (fun _=>none) ⟨lk l,C4 []⟩ a W:=by
 have hA:∀b,b<W.heap.size->Dv (C4 []) (fun _=>none) Z0 b->Z0 b:=fun b _ hb=>hb.elim (fun ⟨_,_,h,_⟩=>(h:Dj none).elim) id;have Fn:Cw Z0 W W:=⟨Ci _,fun _ _ _=>rfl,fun _ _=>Fi.refl _ _⟩
 refine⟨hd,Km,fun i hi=>?_,fun i hi=>?_,fun id bx e=>(by cases e),fun id id' b o o' h=>(h:Dj none).elim,fun id b o h=>(h rfl).elim,fun i hi id B4=>?_,fun id c e=>(by cases e),fun b ⟨_,_,h,_⟩=>(h:Dj none).elim,fun id bx b o e=>(by cases e),
  fun i hi=>hi.elim,fun id c b o e=>(by cases e),fun b hz ⟨_,_,h,_⟩=>(h:Dj none).elim,hZ,⟨rfl,rfl,rfl,⟨Ci _,fun _ _ _=>rfl,fun _ _=>Fi.refl _ _⟩,fun _ _ _ _=>⟨rfl,rfl⟩⟩⟩
 ·rcases Rn l i with e|⟨q,hq,h1,h2⟩
  ·exact e
  ·have:=Ck q hq;omega
 ·show Ex W (Dv (C4 []) (fun _=>none) Z0) (fun _=>none) (lk l i) _;rcases Rn l i with e|⟨q,hq,h1,h2⟩
  ·rw[e];exact Av.top _
  ·rw[h2,<-h1];exact (hv q hq).step Fn hA fun _ _=>rfl
 ·rcases Rn l i with e|⟨q,hq,h1,h2⟩
  ·rw[show (St.mk (lk l) (C4 [])).tm i=lk l i from rfl,e] at B4;simp[Cd,Ct,Au] at B4
  ·rw[show (St.mk (lk l) (C4 [])).tm i=lk l i from rfl,h2,hr q hq] at B4;cases B4
end
section
open Go Go.RowKit
theorem Cj.make{N:Nat}{W:World}{Y:Nat->Prop}{β:Bt}(l:List (Nat × PV))(bl:List (Nat × Cc))(a:Act)(pn:Nat->Prop)(p8:∀i,pn i->i<8)(hd:a.defers=[])(Km:a.tmps.size=N)(Ck:∀q∈l,q.1<N)(hv:∀q∈l,Ex W (Dv (C4 bl) β Y) β q.2 (a.tmps.getD q.1 undef))(hb:∀id bx,C4 bl id=some bx->Wq W (Dv (C4 bl) β Y) β id bx)(inj:∀id id' b o o',Dj (C4 bl id)->Dj (C4 bl id')->β id=some (b,o)->β id'=some (b,o')->id=id')(blt:∀id b o,C4 bl id≠none->β id=some (b,o)->b<W.heap.size)(wfT:∀q∈l,∀id∈Cd q.2,C4 bl id≠none)(wfB:∀id cells,C4 bl id=some (.st cells)->∀c∈cells,∀i∈Au c,C4 bl i≠none)(BL:∀i,pn i->C4 bl (D1 N i)≠none)(stp:∀id c,C4 bl id=some (.st c)->∃i,id=D1 N i/\pn i)(Yx:∀b,Y b->¬II (C4 bl) β b)(Ylt:∀b,Y b->b<W.heap.size):
  Cj N W { X:=II (C4 bl) β,L:=fun b _=>II (C4 bl) β b,pn:=pn,pt:=fun i=>β (D1 N i),p8:=p8 } Y β ⟨lk l,C4 bl⟩ a W:=by
 refine⟨hd,Km,fun i hi=>?_,fun i hi=>?_,hb,inj,blt,fun i hi id B4=>?_,wfB,fun b hb=>.inl hb,fun id bx b o h1 h2 h3 _ j _=>⟨id,o,by rw[show C4 bl id=some bx from h1];exact h2,h3⟩,fun i hi=>⟨BL i hi,rfl⟩,
  fun id c b o h1 _ _=>stp id c h1,Yx,Ylt,⟨rfl,rfl,rfl,⟨Ci _,fun _ _ _=>rfl,fun _ _=>Fi.refl _ _⟩,fun _ _ _ _=>⟨rfl,rfl⟩⟩⟩
 ·rcases Rn l i with e|⟨q,hq,h1,h2⟩
  ·exact e
  ·have:=Ck q hq;omega
 ·show Ex W _ β (lk l i) _;rcases Rn l i with e|⟨q,hq,h1,h2⟩
  ·rw[e];exact Av.top _
  ·rw[h2,<-h1];exact hv q hq
 ·rcases Rn l i with e|⟨q,hq,h1,h2⟩
  ·rw[show (St.mk (lk l) (C4 bl)).tm i=lk l i from rfl,e] at B4;simp[Cd,Ct,Au] at B4
  ·rw[show (St.mk (lk l) (C4 bl)).tm i=lk l i from rfl,h2] at B4;exact wfT q hq id B4
theorem FQ{a:Act}{i j:Nat}{v:Value}(h:i≠j):(a.put (some i) v).tmps.getD j undef=a.tmps.getD j undef:=by show (a.tmps.setIfInBounds i v).getD j undef=_;simp[Array.getD_eq_getD_getElem?,Array.getElem?_setIfInBounds_ne h]
theorem Ar9{a:Act}{i:Nat}{v:Value}(h:i<a.tmps.size):(a.put (some i) v).tmps.getD i undef=v:=by show (a.tmps.setIfInBounds i v).getD i undef=_;simp[Array.getD_eq_getD_getElem?,h]
theorem Ad0{P:Program}{ops:Array Oper}{Q Q':Exit->Act->World->Prop}{n id:Nat}{ds:List Deferred}{a:Act}{w:World}(h:wpOpsIn (WF none) n P ops Q' (List.range ops.size) a w)(hq:∀e a w,TD ds Q' e a w->Q e a w):(Code.region id ops false).wpIn Fence.wide n P Q (Ww ds a) w:=
 wpIn_mono (wpIn_region (F:=Fence.wide) (X7 _ h)) hq
theorem frozen?_of_block{A B:World}{b j:Nat}(h:B.heap[b]?=A.heap[b]?):B.frozen? ⟨b,j,none⟩=A.frozen? ⟨b,j,none⟩:=by unfold World.frozen?;simp only[h]
theorem Cj.unbase{N:Nat}{we B w':World}{X XB:F3}{Y YB:Nat->Prop}{β:Bt}{s:St}{a:Act}(h:Cj N B XB YB β s a w')(hY:∀b,Y b->YB b)(A2b:∀b,Y b->b<we.heap.size)(Hf:∀b,XB.X b->we.heap.size<=b)(hpn:∀i,¬X.pn i)(hos:B.os=we.os)(ht:B.tape=we.tape)(hou:B.output=we.output)(Km:we.heap.size<=B.heap.size)(hk:∀b,b<we.heap.size->B.heap[b]?=we.heap[b]?):Cj N we X Y β s a w':=by
 have hX:∀b,II s.hp β b->we.heap.size<=b:=fun b hb=>(h.ownd b hb).elim (Hf b) (fun h1=>Nat.le_trans Km h1);have hA:∀b,Dv s.hp β Y b->Dv s.hp β YB b:=fun b hb=>hb.imp (fun x=>x) (hY b);have Fn:Cw (Dv s.hp β YB) w' w':=⟨Ci _,fun _ _ _=>rfl,fun _ _=>Fi.refl _ _⟩
 have hkw:∀b,b<we.heap.size->w'.heap[b]?=we.heap[b]?:=fun b hb=>(h.fr.step.keep b (by omega) fun hx=>by have:=Hf b hx;omega).trans (hk b hb)
 refine⟨h.dfr,h.tsz,h.tmo,fun i hi=>(h.tms i hi).step Fn (fun b _=>hA b) fun _ _=>rfl,fun id bx e=>(h.box id bx e).step' hA,h.inj,h.blt,h.wfT,h.wfB,fun b hb=>.inr (hX b hb),fun id bx b o h1 h2 h3 h4=>?_,fun i hi=>absurd hi (hpn i),fun id c b o h1 h2 h3=>?_,fun b hy=>h.Yx b (hY b hy),A2b,
  ⟨h.fr.os.trans hos,h.fr.tape.trans ht,h.fr.output.trans hou,⟨Nat.le_trans Km h.fr.step.size,fun b hb _=>hkw b hb,fun b hb=>Fi.same (hkw b hb)⟩,fun b j hb _=>⟨World.cell?_of_block (hkw b hb),frozen?_of_block (hkw b hb)⟩⟩⟩
 ·have:=hX b ⟨id,o,by rw[h1];exact h2,h3⟩
  omega
 ·have:=hX b ⟨id,o,by rw[h1];trivial,h2⟩
  omega
theorem Cj.var{N:Nat}{w0:World}{X0:F3}{Y:Nat->Prop}{β:Bt}{s:St}{a:Act}{w:World}(h:Cj N w0 X0 Y β s a w){i id:Nat}{cells:Ae}(hi:i<N)(ht:s.tm i=.ptr id 0)(hb:s.hp id=some (.st cells)):
  ∃b o,β id=some (b,o)/\a.tmps.getD i undef=.pointer (some ⟨b,o,none⟩)/\b<w.heap.size/\(∀j c,cells[j]?=some c->∃v,w.cell? ⟨b,o+j,none⟩=some v/\Cm w (Dv s.hp β Y) β c v)/\∀j,j<cells.length->w.frozen? ⟨b,o+j,none⟩=false:=by
 have h1:=h.tms i hi;rw[ht] at h1;obtain⟨b,o,e1,e2⟩:=(show ∃b o,β id=some (b,o)/\a.tmps.getD i undef=.pointer (some ⟨b,o+0,none⟩) from h1)
 obtain⟨b',o',e3,e4,e5⟩:=(show ∃b o,β id=some (b,o)/\_/\_ from h.box id _ hb)
 rw[e1] at e3;cases e3;exact⟨b,o,e1,e2,h.blt id b o (by rw[hb];simp) e1,e4,e5⟩
end
theorem A38(call:Ap)(v i x lf model now:Int)(n n1 n2:Nat)(c c1 c2:Ae):seg 28 call (sL stC) 106 ⟨lk [(0,.agg [Ar v,Ar i,Ar x,.lst false 3 n c,Ar lf,.lst false 1 n1 c1,.lst false 1 n2 c2]),(1,Ag model),(2,Ar now)],C4 []⟩=(
 some (0,⟨lk [(1,(Ag (model))),(3,(.ptr 3 0)),(5,(.ptr 5 0)),(6,(.ptr 6 0))],C4 [(3,(.st [(Ar (v)),(Ar (i)),(Ar (x)),(.lst false 3 (n) (c)),(Ar (lf)),(.lst false 1 (n1) (c1)),(.lst false 1 (n2) (c2))])),(5,(.st [(Ar (now))])),(6,(.st [(Ar ((0:Int)))]))]⟩)):=by kernel_rfl
theorem A3v(call:Ap)(v i x lf model now:Int)(n n1 n2:Nat)(c c1 c2:Ae):seg 28 call (sL (sR stC)) 224 ⟨lk [(1,Ag model),(3,.ptr 3 0),(5,.ptr 5 0),(6,.ptr 6 0)],C4 [(3,.st [Ar v,Ar i,Ar x,.lst false 3 n c,Ar lf,.lst false 1 n1 c1,.lst false 1 n2 c2]),(5,.st [Ar now]),(6,.st [Ar 0])]⟩=(
 A9 (call (96:Nat) [PV.agg [PV.sc (Value.int IntKind.i64 v),PV.sc (Value.int IntKind.i64 i),PV.sc (Value.int IntKind.i64 x),PV.lst false (3:Nat) n c,PV.sc (Value.int IntKind.i64 lf),PV.lst false (1:Nat) n1 c1,PV.lst false (1:Nat) n2 c2],PV.sc (Value.int IntKind.u64 model)]) fun x1 x2=>
 Ak (x2) <|
 Ad (x1) fun x3 x4=>
 Di (x3) fun x5=>
 Ad (x5) fun x6 x7=>
 Bq (IntKind.u64) (x6) fun x8=>
 Ad (x7) fun x9 x10=>
 Ys ((3:Nat)) (x9) fun x11 x12 x13=>
 Ad (x10) fun x14 x15=>
 Ys ((2:Nat)) (x14) fun x16 x17 x18=>
 Ak (x15) <|
 Ad (x4) fun x19 x20=>
 Ax (x19) fun x21=>
 Ak (x20) <|
 some (0,⟨lk [(5,(.ptr 5 0)),(6,(.ptr 6 0)),(7,(.ptr 7 0))],C4 [(5,(.st [(Ar (now))])),(6,(.st [(Ar ((0:Int)))])),(7,(.st [(Ag (x8)),(.lst false 3 (x12) (x13)),(.lst false 2 (x17) (x18))]))]⟩)):=by kernel_rfl
theorem A5g(call:Ap)(mo now:Int)(n1 n2:Nat)(c1 c2:Ae):Ve CB prog 28 call (Vc (sL (sL (sR (sR stC))))) (List.take 2 (Vc (sL (sL (sR (sR stC))))).toList) ⟨lk [(5,.ptr 5 0),(6,.ptr 6 0),(7,.ptr 7 0)],C4 [(5,.st [Ar now]),(6,.st [Ar 0]),(7,.st [Ag mo,.lst false 3 n1 c1,.lst false 2 n2 c2])]⟩ (fun s=>Mu 28 262240 s fun s'=>some (0,s'))=(
 some (0,⟨lk [(5,(.ptr 5 0)),(6,(.ptr 6 0)),(18,(.lst false 2 (n2) (c2)))],C4 [(5,(.st [(Ar (now))])),(6,(.st [(Ar ((0:Int)))]))]⟩)):=by kernel_rfl
theorem A2f(call:Ap)(v5 v6:Value)(kd t:Int):seg 28 call Amc 1120 ⟨lk [(5,.sc v5),(6,.sc v6),(21,.agg [Ar kd,Ar t])],C4 []⟩=(
 some (0,⟨lk [(5,(.sc (v5))),(6,(.sc (v6))),(10,(.ptr 10 0))],C4 [(10,(.st [(Ar (kd)),(Ar (t))]))]⟩)):=by kernel_rfl
theorem Aq8(call:Ap)(now kd t:Int):Ayx 28 call Abw 64 ⟨lk [(5,.iptr [Ar now] 0),(6,.ptr 56000 0),(10,.iptr [Ar kd,Ar t] 0)],C4 [(56000,.st [Ar 0])]⟩=(
  Aw (decide (t<=now))
   (
   some (1,⟨lk [(6,(.ptr 56000 0))],C4 [(56000,(.st [(Ar (kd))]))]⟩))
   (
   some (0,⟨lk [(6,(.ptr 56000 0))],C4 [(56000,(.st [(Ar ((0:Int)))]))]⟩))):=by kernel_rfl
theorem A5y(call:Ap)(k:Int):Ve CB prog 28 call (Vc (sL (sR (sR (sR stC))))) (Vc (sL (sR (sR (sR stC))))).toList ⟨lk [(6,.ptr 56000 0)],C4 [(56000,.st [Ar k])]⟩ (fun s=>Mu 28 64 s fun s'=>some (0,s'))=(
 some (0,⟨lk [(6,(.ptr 56000 0))],C4 [(56000,(.st [(Ar ((0:Int)))]))]⟩)):=by kernel_rfl
theorem A3f(v i x lf model now k:Int)(n n1 n2:Nat)(c c1 c2:Ae):Ahq CS prog 54 Tryz.f54 [.agg [Ar v,Ar i,Ar x,.lst false 3 n c,Ar lf,.lst false 1 n1 c1,.lst false 1 n2 c2],Ag model,Ar now] ⟨lk [(6,.ptr 56000 0)],C4 [(56000,.st [Ar k])]⟩=(
 some (Bv.mk [PV.sc (Value.int IntKind.i64 k)] [])):=by kernel_rfl
theorem A3u(call:Ap)(yv:Value)(n:Nat)(c:Ae):seg 19 call (sL bwC) 11 ⟨lk [(0,.sc yv),(1,.iptr [.lst false 2 n c] 0)],C4 []⟩=(
 Aa (wrap IntKind.i64 ((↑n:Int)-(1:Int))) fun x1=>
 some (0,⟨lk [(0,(.sc (yv))),(1,(.iptr ([PV.lst false (2:Nat) n c]) ((0:Nat)))),(3,(Ar (x1)))],C4 []⟩)):=by kernel_rfl
theorem Asa(call:Ap)(yv:Value)(n:Nat)(c:Ae)(i:Int):seg 19 call (sL bwL) 11 ⟨lk [(0,.sc yv),(1,.iptr [.lst false 2 n c] 0),(3,Ar i)],C4 []⟩=(
  Aw (decide (i>=(0:Int)))
   (
   some (0,⟨lk [(0,(.sc (yv))),(1,(.iptr ([PV.lst false (2:Nat) n c]) ((0:Nat)))),(3,(Ar (i)))],C4 []⟩))
   (
   some (1,⟨lk [(0,(.sc (yv))),(1,(.iptr ([PV.lst false (2:Nat) n c]) ((0:Nat)))),(3,(Ar (i)))],C4 []⟩))):=by kernel_rfl
theorem A5o(call:Ap)(yv:Value)(n:Nat)(c:Ae)(i:Int):Ve CB prog 19 call (Vc (sL bwX)) (List.take 6 (Vc (sL bwX)).toList) ⟨lk [(0,.sc yv),(1,.iptr [.lst false 2 n c] 0),(3,Ar i)],C4 []⟩ (fun s=>Mu 19 71691 s fun s'=>some (0,s'))=(
 As (decide ((0:Int)<=i)&&decide (i<(↑n:Int))) <|
 Bq (IntKind.i64) (List.getD c (Int.toNat i*(2:Nat)) PV.top) fun x1=>
 Bq (IntKind.i64) (List.getD c (Int.toNat i*(2:Nat)+(1:Nat)) PV.top) fun x2=>
 some (0,⟨lk [(0,(.sc (yv))),(1,(.iptr ([PV.lst false (2:Nat) n c]) ((0:Nat)))),(3,(Ar (i))),(11,(.sc (yv))),(12,(Ar (i))),(16,(.agg [(Ar (x1)),(Ar (x2))]))],C4 []⟩)):=by kernel_rfl
theorem Aqq(call:Ap)(yv:Value)(n:Nat)(c:Ae)(i:Int)(e:Bool):Ve CB prog 19 call (Vc (sL bwX)) (List.drop 7 (Vc (sL bwX)).toList) ⟨lk [(0,.sc yv),(1,.iptr [.lst false 2 n c] 0),(3,Ar i),(17,De e)],C4 []⟩ (fun s=>Mu 19 262155 s fun s'=>some (0,s'))=(
 some (0,⟨lk [(0,(.sc (yv))),(1,(.iptr ([PV.lst false (2:Nat) n c]) ((0:Nat)))),(3,(Ar (i))),(18,(De (!e)))],C4 []⟩)):=by kernel_rfl
theorem As8(call:Ap)(yv:Value)(n:Nat)(c:Ae)(i:Int)(q:Bool):Ayx 19 call (sR bwX) 11 ⟨lk [(0,.sc yv),(1,.iptr [.lst false 2 n c] 0),(3,Ar i),(18,De q)],C4 []⟩=(
  Aw (q)
   (
   some (1,⟨lk [(0,(.sc (yv))),(1,(.iptr ([PV.lst false (2:Nat) n c]) ((0:Nat)))),(3,(Ar (i)))],C4 []⟩))
   (
   some (0,⟨lk [(0,(.sc (yv))),(1,(.iptr ([PV.lst false (2:Nat) n c]) ((0:Nat)))),(3,(Ar (i)))],C4 []⟩))):=by kernel_rfl
theorem A5e(call:Ap)(yv:Value)(n:Nat)(c:Ae)(i:Int):seg 19 call (sR (sR bwL)) 11 ⟨lk [(0,.sc yv),(1,.iptr [.lst false 2 n c] 0),(3,Ar i)],C4 []⟩=(
 Aa (wrap IntKind.i64 (i-(1:Int))) fun x1=>
 some (0,⟨lk [(0,(.sc (yv))),(1,(.iptr ([PV.lst false (2:Nat) n c]) ((0:Nat)))),(3,(Ar (x1)))],C4 []⟩)):=by kernel_rfl
section
open Go Go.RowKit
theorem LF.trans{Z Z1 Z2:Nat->Prop}{A B C:World}(h:LF Z Z1 A B)(g:LF Z1 Z2 B C):LF Z Z2 A C:=
 ⟨g.os.trans h.os,g.tape.trans h.tape,g.output.trans h.output,Nat.le_trans h.size g.size,fun b hb hn=>(g.keep b (Ft hb h.size) fun h1=>(h.new b h1).elim hn fun h2=>by omega).trans (h.keep b hb hn),
  fun b hb=>g.sub b (h.sub b hb),fun b hb=>(g.new b hb).elim (h.new b) fun h1=>.inr (Nat.le_trans h.size h1),g.lt,fun b hb=>(h.bs b hb).trans (g.bs b (Ft hb h.size))⟩
def A06{α:Type}(P:Program)(gf:Nat)(lb:Array Value)(M:List α->α->Array Value->(Nat->Prop)->World->Prop)(S Sp:List α->Prop)(Pre:(Nat->Prop)->World->Prop):Prop:=
 ∀(l:Nat) (J Jx:(Nat->Prop)->List α->World->Prop) (W:World) (Z0:Nat->Prop),(∀b,Z0 b->b<W.heap.size)->Pre Z0 W ->
  (∀Z pre A B,J Z pre A->BQ (fun b=>b<A.heap.size) A B->J Z pre B)->(∀Z pre A B,Jx Z pre A->BQ (fun b=>b<A.heap.size) A B->Jx Z pre B) ->
  (∀Z pre x args A,J Z pre A->M pre x args Z A->YieldAt Fence.wide 0 P l args A fun e B=>∃Z',LF Z Z' A B /\
   ((e=.returned (.bool true)/\J Z' (pre++[x]) B)\/(e=.returned (.bool false)/\Jx Z' (pre++[x]) B))) ->
  J Z0 [] W ->
  Calls P gf (#[.func (.yield l) #[] #[]]++lb) W fun e B=>(∃v,e=.returned v)/\∃Z xs,(S xs/\J Z xs B)\/(Sp xs/\Jx Z xs B)
theorem Ahu{α:Type}{P:Program}{n:Nat}{g:Operand}{ps:Array Tmp}{assign body:Code}{Q:Exit->Act->World->Prop}{a:Act}{w:World}{gf:Nat}{lb:Array Value}(hg:a.eval g=.func (.func gf) #[] lb)(eg:∀args w,(callFunc gf args).run P w=.ok (.enter gf args) w){M:List α->α->Array Value->(Nat->Prop)->World->Prop}{S Sp:List α->Prop}{Pre:(Nat->Prop)->World->Prop}(hit:A06 P gf lb M S Sp Pre){Z0:Nat->Prop}(hZ0:∀b,Z0 b->b<w.heap.size)(A8c:∀W:World,W.heap.size=w.heap.size+2->(∀b,b<w.heap.size->W.heap[b]?=w.heap[b]?)->Pre (fun b=>Z0 b\/b=w.heap.size\/b=w.heap.size+1) W)(MS:∀pre x args Z A,M pre x args Z A->args.size=ps.size)(I:(Nat->Prop)->List α->World->Prop)(Ix:Code->(Nat->Prop)->List α->World->Prop)(hI:∀Z pre A B,I Z pre A->BQ (fun b=>b<A.heap.size/\b≠w.heap.size/\b≠w.heap.size+1) A B->I Z pre B)(hIx:∀c Z pre A B,Ix c Z pre A->BQ (fun b=>b<A.heap.size/\b≠w.heap.size/\b≠w.heap.size+1) A B->Ix c Z pre B)(h0:∀W,W.heap.size=w.heap.size+2->BQ (fun b=>b<w.heap.size) w W->I (fun b=>Z0 b\/b=w.heap.size\/b=w.heap.size+1) [] W)(Nn:(Nat->Prop)->List α->α->Act->World->Prop)(hN:∀Z pre x a' A B,Nn Z pre x a' A->BQ (fun b=>b<A.heap.size/\b≠w.heap.size/\b≠w.heap.size+1) A B->Nn Z pre x a' B)(Alj:∀Z pre x args A (K:Act->World->Prop),Z w.heap.size->Z (w.heap.size+1)->I Z pre A->M pre x args Z A->(∀Z1 a' A1,LF Z Z1 A A1->A1.heap[w.heap.size]?=A.heap[w.heap.size]?->A1.heap[w.heap.size+1]?=A.heap[w.heap.size+1]?->Nn Z1 pre x a' A1->K a' A1) ->
   assign.wpIn (Fence.wide.inRound (w.heap.size+1)) 0 P (Exit.then K (fun _ _ _=>False)) { tmps:=(ps.zip args).foldl (fun t (p,v)=>t.setIfInBounds p v) a.tmps,defers:=[] } A)(A1r:∀Z pre x a' A,Z w.heap.size->Z (w.heap.size+1)->Nn Z pre x a' A->body.wpIn (Fence.wide.inRound (w.heap.size+1)) 0 P (Ake w.heap.size I Ix Z (pre++[x]) A) a' A)(A1e:∀Z xs B,S xs->I Z xs B->B.heap[w.heap.size]?=some (.deferred (some []))->Q .normal { a with defers:={ target:=.collected w.heap.size,args:= #[] }::a.defers } B)(A0h:∀c Z xs B,Sp xs->Ix c Z xs B->B.heap[w.heap.size]?=some (.deferred (some []))->c.wpIn Fence.wide n P Q { a with defers:={ target:=.collected w.heap.size,args:= #[] }::a.defers } B):
  (Code.rangeFunc g ps assign body).wpIn Fence.wide n P Q a w:=by
 refine wpIn_rangeFunc ?_;intro fn hfn;obtain⟨rec,Aaz⟩:∃rec:LoopState->Option Code->Loop,rec=fun st pe=>{ state:=st,pending:=pe,fn,tmps:=a.tmps,params:=ps,assign,body,defers:=w.heap.size }:=⟨_,rfl⟩
 obtain⟨D,hD⟩:∃D,w.heap.size=D:=⟨_,rfl⟩
 rw[hD] at hI hIx h0 hN Alj A1r A1e A0h hZ0 A8c;obtain⟨W1,VR⟩:∃W1,(w.alloc (.deferred (some []))).alloc (.loop (rec .ready none))=W1:=⟨_,rfl⟩
 have RB:W1.heap.size=D+2:=by rw[<-VR,World.size_alloc,World.size_alloc,hD]
 have hL1:W1.heap[D+1]?=some (.loop (rec .ready none)):=by
  rw[<-VR,<-hD];have:=World.alloc_heap_new (w.alloc (.deferred (some []))) (.loop (rec .ready none));rwa [World.size_alloc] at this
 have hK1:W1.heap[D]?=some (.deferred (some [])):=by
  rw[<-VR,<-hD];exact (Below.heap_alloc _ _ _ (by simp)).trans (World.alloc_heap_new w _)
 have Fn:BQ (fun b=>b<D) w W1:=by
  rw[<-VR,<-hD];exact⟨rfl,rfl,rfl,by simp;omega,fun b hb=>(Below.heap_alloc _ _ _ (by simp;omega)).trans (Below.heap_alloc _ _ _ hb)⟩
 refine⟨D+1,[{ target:=.collected D,args:= #[] }],W1,{ target:=.fn (.func gf) lb,args:= #[.func (.yield (D+1)) #[] #[]] },W1,gf,
  #[.func (.yield (D+1)) #[] #[]]++lb,W1,?_,?_,fun _ _=>trivial,?_,(fun h=>by cases h),?_⟩
 ·rw[<-VR,Aaz,<-hD];exact run_enterLoop_outer _ _ _ _ _
 ·simp only[resolve,hg];simp[go_sem]
 ·simp[invoke,go_sem,eg]
 ·have put:∀{A:World} (o:Obj),BQ (fun b=>b<A.heap.size/\b≠D/\b≠D+1) A (A.putObj (D+1) o):=fun o=>
   ⟨rfl,rfl,rfl,by simp,fun b hb=>World.putObj_heap_other hb.2.2⟩
  refine callsIn_wide.2 (Calls.mono (hit (D+1)
   (fun Z pre A=>(Z D/\Z (D+1))/\I Z pre A/\A.heap[D+1]?=some (.loop (rec .ready none))/\A.heap[D]?=some (.deferred (some [])))
   (fun Z pre A=>(Z D/\Z (D+1))/\∃c,Ix c Z pre A/\A.heap[D+1]?=some (.loop (rec .done (some c)))/\A.heap[D]?=some (.deferred (some [])))
   W1 (fun b=>Z0 b\/b=D\/b=D+1) (fun b hb=>by rw[RB];exact hb.elim (fun h=>by have:=hZ0 b h;omega) fun h=>by omega) (A8c W1 RB (fun b hb=>Fn.same b hb)) ?_ ?_ ?_ ?_) ?_)
  ·rintro Z pre A B ⟨hz,hi,hl,hk⟩ hs
   exact⟨hz,hI Z pre A B hi (hs.sub fun _ h=>h.1),(hs.same _ (Array.getElem?_eq_some_iff.1 hl).1).trans hl,(hs.same _ (Array.getElem?_eq_some_iff.1 hk).1).trans hk⟩
  ·rintro Z pre A B ⟨hz,c,hi,hl,hk⟩ hs
   exact⟨hz,c,hIx c Z pre A B hi (hs.sub fun _ h=>h.1),(hs.same _ (Array.getElem?_eq_some_iff.1 hl).1).trans hl,(hs.same _ (Array.getElem?_eq_some_iff.1 hk).1).trans hk⟩
  ·rintro Z0' pre x args A0 ⟨Mb,hi,WP,hk0⟩ hm
   have hy:=run_yield (P:=P) (args:=args) WP (by rw[Aaz];exact MS pre x args Z0' A0 hm)
   rw[Aaz] at hy;refine⟨fn,_,assign,body,hy,roundIn_of_wpIn hfn (Alj Z0' pre x args A0 _ Mb.1 Mb.2 hi hm ?_)⟩;intro Z a' A ht0 k0 k1 hn;have hz:Z D/\Z (D+1):=⟨ht0.sub _ Mb.1,ht0.sub _ Mb.2⟩
   have hl:=k1.trans WP;have hk:=k0.trans hk0;have Ck:D+1<A.heap.size:=(Array.getElem?_eq_some_iff.1 hl).1;refine⟨_,run_beginRound hl (by rw[Aaz]),?_⟩;obtain⟨A2,hA2⟩:∃A2,A.putObj (D+1) (.loop { rec .ready none with state:=.busy })=A2:=⟨_,rfl⟩
   rw[hA2];have Ws:A2.heap[D+1]?=some (.loop { rec .ready none with state:=.busy }):=by rw[<-hA2];exact World.putObj_heap_same Ck
   have Fz:A2.heap[D]?=some (.deferred (some [])):=by rw[<-hA2];exact (World.putObj_heap_other (by omega)).trans hk
   have Yq:A2.heap.size=A.heap.size:=by rw[<-hA2];simp
   have hn2:Nn Z pre x a' A2:=by rw[<-hA2];exact hN Z pre x a' A _ hn (put _)
   refine wpIn_mono (A1r Z pre x a' A2 hz.1 hz.2 hn2) ?_
   have fin:∀(jump:Option Code) (W3:World) (Z':Nat->Prop),LF Z Z' A2 W3->W3.heap[D]?=A2.heap[D]?->W3.heap[D+1]?=A2.heap[D+1]? ->
     (Instr.endRound (D+1) jump).run P W3=.ok (.bool jump.isNone) (W3.putObj (D+1) (.loop (rec (if jump.isNone then .ready else .done) jump))) /\
     (W3.putObj (D+1) (.loop (rec (if jump.isNone then .ready else .done) jump))).heap[D+1]?=some (.loop (rec (if jump.isNone then .ready else .done) jump)) /\
     (W3.putObj (D+1) (.loop (rec (if jump.isNone then .ready else .done) jump))).heap[D]?=some (.deferred (some [])) /\
     LF Z Z' A (W3.putObj (D+1) (.loop (rec (if jump.isNone then .ready else .done) jump))):=fun jump W3 Z' ht e1 e2=>by
    have hl3:=e2.trans Ws;have:=run_endRound (P:=P) jump hl3;rw[Aaz] at this ⊢;refine⟨this,World.putObj_heap_same (Array.getElem?_eq_some_iff.1 hl3).1,(World.putObj_heap_other (by omega)).trans (e1.trans Fz),?_⟩;have hA:A2.os=A.os/\A2.tape=A.tape/\A2.output=A.output:=by rw[<-hA2];exact⟨rfl,rfl,rfl⟩
    refine⟨ht.os.trans hA.1,ht.tape.trans hA.2.1,ht.output.trans hA.2.2,by have:=ht.size;simp;omega,fun b hb hn=>?_,ht.sub,fun b hb=>by have:=ht.new b hb;rw[Yq] at this;exact this,fun b hb=>by simpa using ht.lt b hb,fun b hb=>?_⟩
    ·have Gh:b≠D+1:=fun e=>hn (e ▸ hz.2);rw[World.putObj_heap_other Gh,ht.keep b (by omega) hn,<-hA2,World.putObj_heap_other Gh]
    ·by_cases Gh:b=D+1
     ·subst Gh;exact⟨by unfold bsz;rw[hl];exact Nat.zero_le _,fun _=>by unfold endF World.frozen?;simp only[World.putObj_heap_same (Array.getElem?_eq_some_iff.1 hl3).1]⟩
     ·exact ((Fi.same (by rw[<-hA2,World.putObj_heap_other Gh])).trans (ht.bs b (by omega))).trans (Fi.same (World.putObj_heap_other Gh))
   rintro e a3 W3 ⟨Z',ht,e1,e2,hp⟩
   cases e with
   |normal=>
    obtain⟨hr,hl4,Ug,ht4⟩:=fin none W3 Z' ht e1 e2;exact⟨_,_,hr,Z',ht0.trans ht4,.inl ⟨rfl,⟨ht.sub _ hz.1,ht.sub _ hz.2⟩,hI Z' _ _ _ hp (put _),hl4,Ug⟩⟩
   |ret=>
    obtain⟨hr,hl4,Ug,ht4⟩:=fin (some .ret) W3 Z' ht e1 e2;exact⟨_,_,hr,Z',ht0.trans ht4,.inr ⟨rfl,⟨ht.sub _ hz.1,ht.sub _ hz.2⟩,.ret,hIx _ Z' _ _ _ hp (put _),hl4,Ug⟩⟩
   |exit id=>
    obtain⟨hr,hl4,Ug,ht4⟩:=fin (some (.exit id)) W3 Z' ht e1 e2;exact⟨_,_,hr,Z',ht0.trans ht4,.inr ⟨rfl,⟨ht.sub _ hz.1,ht.sub _ hz.2⟩,.exit id,hIx _ Z' _ _ _ hp (put _),hl4,Ug⟩⟩
   |goto t=>
    obtain⟨hr,hl4,Ug,ht4⟩:=fin (some (.goto t)) W3 Z' ht e1 e2;exact⟨_,_,hr,Z',ht0.trans ht4,.inr ⟨rfl,⟨ht.sub _ hz.1,ht.sub _ hz.2⟩,.goto t,hIx _ Z' _ _ _ hp (put _),hl4,Ug⟩⟩
   |panic ch=>exact hp.elim
   |outgrown=>exact hp.elim
  ·exact⟨⟨.inr (.inl rfl),.inr (.inr rfl)⟩,h0 W1 RB Fn,hL1,hK1⟩
  ·rintro e W2 ⟨⟨v,rfl⟩,Z,xs,(⟨hS,hz,hi,hl,hk⟩|⟨hSp,hz,c,hi,hl,hk⟩)⟩
   ·exact⟨none,_,by have:=run_endLoop (P:=P) hl (by rw[Aaz];simp);rw[Aaz] at this;exact this,A1e Z xs _ hS (hI Z _ _ _ hi (put _)) ((World.putObj_heap_other (by omega)).trans hk)⟩
   ·exact⟨some c,_,by have:=run_endLoop (P:=P) hl (by rw[Aaz];simp);rw[Aaz] at this;exact this,A0h c Z xs _ hSp (hIx c Z _ _ _ hi (put _)) ((World.putObj_heap_other (by omega)).trans hk)⟩
end
section
open Go Go.RowKit
def prC(p:Int × Int):Ae:=[Ar p.1,Ar p.2]
def Jm(l:List (Int × Int)):Ae:=l.flatMap prC
theorem Abt(p:Int × Int):(prC p).length=2:=rfl
theorem An0(l:List (Int × Int)):(Jm l).length=l.length*2:=UN Abt l
theorem Asu{l:List (Int × Int)}{i:Nat}{p:Int × Int}(h:l[i]?=some p):(Jm l).getD (i*2) .top=Ar p.1/\(Jm l).getD (i*2+1) .top=Ar p.2:=
 ⟨KU Abt h (j:=0) (by omega),KU Abt h (j:=1) (by omega)⟩
theorem A3i:bwC=.seq (sL bwC) (.block 0 (.loop bwL)):=by kernel_rfl
theorem Aue:bwL=.seq (sL bwL) (.seq (.block 1 bwX) (sR (sR bwL))):=by kernel_rfl
theorem A48:bwX=.seq (.region 3 (Vc (sL bwX)) false) (sR bwX):=by kernel_rfl
theorem A8b:∃ty pos aft x,(Vc (sL bwX))[6]?=some { dst:=some 17,op:=.call { callee:=.value (.tmp 11),args:= #[.tmp 12,.tmp 16],argTypes:=x },type:=ty,pos:=pos,after:=aft,guard:=none }:=
 ⟨_,_,_,_,rfl⟩
abbrev bwS(yv:Value)(l:List (Int × Int))(i:Int):St:=⟨lk [(0,.sc yv),(1,.iptr [.lst false 2 l.length (Jm l)] 0),(3,Ar i)],C4 []⟩
abbrev Ata(yv:Value)(l:List (Int × Int))(i kd t:Int):St:=⟨lk [(0,.sc yv),(1,.iptr [.lst false 2 l.length (Jm l)] 0),(3,Ar i),(11,.sc yv),(12,Ar i),(16,.agg [Ar kd,Ar t])],C4 []⟩
abbrev Bl6(yv:Value)(l:List (Int × Int))(i:Int)(e:Bool):St:=⟨lk [(0,.sc yv),(1,.iptr [.lst false 2 l.length (Jm l)] 0),(3,Ar i),(17,De e)],C4 []⟩
abbrev A7f(yv:Value)(l:List (Int × Int))(i:Int)(e:Bool):St:=⟨lk [(0,.sc yv),(1,.iptr [.lst false 2 l.length (Jm l)] 0),(3,Ar i),(18,De e)],C4 []⟩
def bwM(l:List (Int × Int))(pre:B9)(i:Nat)(args:Array Value)(Z:Nat->Prop)(A:World):Prop:=
 (∀j,i<j->j<l.length->j∈pre)/\∃p,l[i]?=some p/\args = #[.int .i64 i,.agg #[.int .i64 p.1,.int .i64 p.2]]
theorem Asm{l:List (Int × Int)}{pre:B9}{i:Nat}{args:Array Value}{Z:Nat->Prop}{A:World}(hm:bwM l pre i args Z A):args.size=2:=by obtain⟨_,p,_,h⟩:=hm;rw[h];rfl
theorem Cj.stayA{N:Nat}{w0 w:World}{X0:F3}{Y:Nat->Prop}{β:Bt}{s:St}{a:Act}(h:Cj N w0 X0 Y β s a w)(hx:∀b,¬X0.X b):BQ (fun b=>b<w0.heap.size) w0 w:=
 ⟨h.fr.os,h.fr.tape,h.fr.output,h.fr.step.size,fun b hb=>h.fr.step.keep b hb (hx b)⟩
theorem A0k(b:Nat):¬noL.X b:=fun h=>h
theorem P7{id:Nat}{bx:Cc}:C4 [] id=some bx->False:=fun h=>by cases h
theorem Biy{β:Bt}{b:Nat}:¬II (C4 []) β b:=fun ⟨_,_,h,_⟩=>(h:Dj none).elim
section
variable {l:List (Int × Int)}{y:Nat}{w0:World}{X0:F3}{Z:Nat->Prop}{β:Bt}{a:Act}{w:World}
theorem Azz{yv:Value}{i kd t:Int}(hs:Cj 19 w0 X0 Z β (Ata yv l i kd t) a w):
  a.tmps.getD 11 undef=yv/\a.tmps.getD 12 undef=.int .i64 i/\a.tmps.getD 16 undef=.agg #[.int .i64 kd,.int .i64 t]:=by
 refine⟨Vi (hs.tms 11 (by decide)),Vi (hs.tms 12 (by decide)),?_⟩;obtain⟨vs,h1,h2⟩:=(show ∃vs,a.tmps.getD 16 undef=.agg ⟨vs⟩/\Bx (Cm w (Dv (C4 []) β Z) β) [Ar kd,Ar t] vs from hs.tms 16 (by decide))
 match vs,h2 with
 |[u,v],⟨k1,k2,_⟩=>
  have e1:=Av.val (w:=w) k1;have e2:=Av.val (w:=w) k2;rw[h1,<-e1,<-e2]
theorem Ak7{yv:Value}{i kd t:Int}{Z':Nat->Prop}{B:World}(b:Bool)(hs:Cj 19 w0 X0 Z β (Ata yv l i kd t) a w)(ht:LF Z Z' w B):
  Cj 19 B (A4x (Ata yv l i kd t) β) Z' β (Bl6 yv l i b) (a.put (some 17) (.bool b)) B:=by
 have h1:=(hs.rebase ht (fun id c (e:(C4 [] id:Option Cc)=some (.st c))=>P7 e)).put (d:=some 17) (v:=De b) (val:=.bool b) rfl (Av.sc _) (by simp[Cd,Ct,Au]);refine h1.pick _ _ ?_ ?_ ?_ ?_ (fun _ h=>h.elim)
 ·intro q hq;simp only[Ch,Zp,or_false] at hq;rcases hq with rfl|rfl|rfl|rfl<;>rfl
 ·intro q hq;cases hq
 ·intro q hq id B4;simp only[Ch,Zp,or_false] at hq;rcases hq with rfl|rfl|rfl|rfl<;>simp[Cd,Ct,Au] at B4
 ·intro q hq;cases hq
theorem XR{J Jx:(Nat->Prop)->B9->World->Prop}(hJ:∀Z pre A B,J Z pre A->BQ (fun b=>b<A.heap.size) A B->J Z pre B)(hJx:∀Z pre A B,Jx Z pre A->BQ (fun b=>b<A.heap.size) A B->Jx Z pre B)(hY:∀Z pre x args A,J Z pre A->bwM l pre x args Z A->YieldAt Fence.wide 0 prog y args A fun e B=>∃Z',LF Z Z' A B/\((e=.returned (.bool true)/\J Z' (pre++[x]) B)\/(e=.returned (.bool false)/\Jx Z' (pre++[x]) B)))(hl:l.length<=100000){Q:Exit->Act->World->Prop}(Arn:∀e a' w',e=.exit 0\/e=.ret->a'.defers=[]->(∃Z xs,((∀j,j<l.length->j∈xs)/\J Z xs w')\/Jx Z xs w')->Q e a' w'):
  ∀(k nn:Nat),k<=l.length->k<nn->∀{w0:World} {X0:F3} {Z:Nat->Prop} {β:Bt} {a:Act} {w:World} {pre:B9},
   Cj 19 w0 X0 Z β (bwS (.func (.yield y) #[] #[]) l ((k:Int)-1)) a w->(∀b,¬X0.X b)->(∀j,k<=j->j<l.length->j∈pre)->J Z pre w0->Code.roundsIn Fence.wide 0 prog bwL Q nn a w
 |_,0,_,h=>by omega
 |0,nn+1,hk,hn=>by
  intro hs hd Anu hj;rename_i w0 X0 Z β a w pre;rw[roundsIn_succ];refine KQ Aue (wpIn_seq (wpIn_wide.2 (Ry (ED _ _) mxT F2 hs (t:=1) (L:=11) (s1:=bwS (.func (.yield y) #[] #[]) l (((0:Nat):Int)-1)) ?_ ?_)))
  ·exact (Asa cl _ l.length (Jm l) _).trans (Gs _ _ _ (by omega))
  ·intro a' w' β' h';exact Arn _ a' w' (.inl rfl) h'.dfr ⟨Z,pre,.inl ⟨fun j hj2=>Anu j (by omega) hj2,hJ Z pre _ _ hj (h'.stayA hd)⟩⟩
 |k+1,nn+1,hk,hn=>by
  intro hs hd Anu hj;rename_i w0 X0 Z β a w pre;rw[roundsIn_succ];have ek:(((k+1:Nat):Int)-1)=(k:Int):=by omega
  rw[ek] at hs;refine KQ Aue (wpIn_seq (wpIn_wide.2 (Ry (ED _ _) mxT F2 hs (t:=0) (L:=11) (s1:=bwS (.func (.yield y) #[] #[]) l (k:Int)) ?_ ?_)))
  ·exact (Asa cl _ l.length (Jm l) _).trans (GX _ _ _ (by omega))
  intro a1 w1 β1 RB;show (Code.seq (.block 1 bwX) (sR (sR bwL))).wpIn Fence.wide 0 prog _ a1 w1;refine wpIn_seq (wpIn_block (KQ A48 (wpIn_seq (wpIn_region ?_))));have hli:List.range (Vc (sL bwX)).size=[0,1,2,3,4,5]++[6,7]:=by kernel_rfl
  rw[hli];have Ck:k<l.length:=by omega
  have hp:=List.getElem?_eq_getElem Ck;generalize l[k]=p at hp;obtain⟨g0,g1⟩:=Asu hp;refine L6 (ro:=none) (C:=CB) (call:=cl) (r:=((0:Nat),Ata (.func (.yield y) #[] #[]) l k p.1 p.2)) (ED _ _) F2 ?_ [0,1,2,3,4,5] (List.take 6 (Vc (sL bwX)).toList) (by kernel_rfl) ?_ (by kernel_rfl) RB ((A5o cl _ l.length (Jm l) k).trans ?_)
  rotate_left
  ·intro j i hj
   match j,hj with
   |0,hj=>cases hj;rfl
   |1,hj=>cases hj;rfl
   |2,hj=>cases hj;rfl
   |3,hj=>cases hj;rfl
   |4,hj=>cases hj;rfl
   |5,hj=>cases hj;rfl
  ·simp(disch:=omega)only[Be,Bf,Jd,g0,g1]
  intro s' a2 w2 β2 Fz HK;obtain⟨β3,s3,Ox,hs3⟩:=Cv HK Fz;cases Ox;obtain⟨v11,v12,v16⟩:=Azz hs3;have hjw:J Z pre w2:=hJ Z _ _ _ hj (hs3.stayA hd);have hm:bwM l pre k #[.int .i64 k,.agg #[.int .i64 p.1,.int .i64 p.2]] Z w2:=⟨fun j h1 h2=>Anu j (by omega) h2,p,hp,rfl⟩
  obtain⟨fn,tmps,assign,body,hy,hR⟩:=hY Z _ k _ w2 hjw hm;obtain⟨ty,pos,aft,x,ho⟩:=A8b;rw[wpOpsIn_cons];unfold wpOpIn;rw[ho];simp only[Region.wanted,if_true]
  have run:(execOp a2.eval { dst:=some 17,op:=.call { callee:=.value (.tmp 11),args:= #[.tmp 12,.tmp 16],argTypes:=x },type:=ty,pos:=pos,after:=aft,guard:=none }).run prog w2=.ok (.round y fn tmps assign body) w2:=by
   have e11:a2.eval (.tmp 11)=.func (.yield y) #[] #[]:=v11;have e12:a2.eval (.tmp 12)=.int .i64 k:=v12;have e16:a2.eval (.tmp 16)=.agg #[.int .i64 p.1,.int .i64 p.2]:=v16;refine Ao3 rfl rfl e11 ?_;rw[<-hy];simp only[List.map_toArray,X4,List.map_nil,e12,e16]
  refine⟨fun _ _=>trivial,?_⟩;rw[show Oper.semAt (WF none).round a2.eval { dst:=some 17,op:=.call { callee:=.value (.tmp 11),args:= #[.tmp 12,.tmp 16],argTypes:=x },type:=ty,pos:=pos,after:=aft,guard:=none }=execOp a2.eval { dst:=some 17,op:=.call { callee:=.value (.tmp 11),args:= #[.tmp 12,.tmp 16],argTypes:=x },type:=ty,pos:=pos,after:=aft,guard:=none } from rfl,run];refine⟨(fun h=>by cases h),(Aeh hR).mono ?_⟩
  rintro e B ⟨Z',ht,he⟩
  have Hf:∀b,¬(A4x (Ata (.func (.yield y) #[] #[]) l k p.1 p.2) β3).X b:=fun b hb=>Biy hb;rcases he with⟨rfl,hj2⟩|⟨rfl,hj2⟩
  ·have h4:=Ak7 true hs3 ht;show wpOpsIn _ _ _ _ _ ([7]++[]) _ _;refine L6 (ro:=none) (C:=CB) (call:=cl) (r:=((0:Nat),A7f (.func (.yield y) #[] #[]) l k (!true))) (ED _ _) F2 ?_ [7] (List.drop 7 (Vc (sL bwX)).toList) (by kernel_rfl) ?_ (by kernel_rfl) h4 (Aqq cl _ l.length (Jm l) k true)
   rotate_left
   ·intro j i hj
    match j,hj with
    |0,hj=>cases hj;rfl
   intro s' a5 w5 β5 WM MZ;obtain⟨β6,s6,hk6,hs6⟩:=Cv MZ WM;cases hk6;show (sR bwX).wpIn Fence.wide 0 prog _ a5 w5;refine wpIn_wide.2 (SX (ED _ _) mxT F2 hs6 (t:=0) (L:=11) (s1:=bwS (.func (.yield y) #[] #[]) l k) (As8 cl _ l.length (Jm l) k false) ?_)
   rintro a' w' β' e' h' (⟨_,rfl⟩|⟨h1,_⟩|⟨id,h1,_⟩)
   ·show (sR (sR bwL)).wpIn Fence.wide 0 prog _ a' w';refine wpIn_wide.2 (Ry (ED _ _) mxT F2 h' (t:=0) (L:=11) (s1:=bwS (.func (.yield y) #[] #[]) l ((k:Int)-1)) ?_ ?_)
    ·have wk:wrap .i64 ((k:Int)-1)=(k:Int)-1:=Bn;refine (A5e cl _ l.length (Jm l) k).trans ?_;simp only[Be,Bf,wk]
    ·intro a7 w7 β7 h7
     exact XR hJ hJx hY hl Arn k nn (by omega) (by omega) h7 Hf (fun j h1 h2=>B5.2 (by
      rcases Ig k j with h3|h3
      ·exact .inl (Anu j (by omega) h2)
      ·exact .inr (Qi.2 (by omega)))) hj2
   ·cases h1
   ·omega
  ·have h4:=Ak7 false hs3 ht;show wpOpsIn _ _ _ _ _ ([7]++[]) _ _;refine L6 (ro:=none) (C:=CB) (call:=cl) (r:=((0:Nat),A7f (.func (.yield y) #[] #[]) l k (!false))) (ED _ _) F2 ?_ [7] (List.drop 7 (Vc (sL bwX)).toList) (by kernel_rfl) ?_ (by kernel_rfl) h4 (Aqq cl _ l.length (Jm l) k false)
   rotate_left
   ·intro j i hj
    match j,hj with
    |0,hj=>cases hj;rfl
   intro s' a5 w5 β5 WM MZ;obtain⟨β6,s6,hk6,hs6⟩:=Cv MZ WM;cases hk6;show (sR bwX).wpIn Fence.wide 0 prog _ a5 w5;refine wpIn_wide.2 (SX (ED _ _) mxT F2 hs6 (t:=1) (L:=11) (s1:=bwS (.func (.yield y) #[] #[]) l k) (As8 cl _ l.length (Jm l) k true) ?_)
   rintro a' w' β' e' h' (⟨h1,_⟩|⟨_,rfl⟩|⟨id,h1,rfl⟩)
   ·cases h1
   ·exact Arn _ a' w' (.inr rfl) h'.dfr ⟨Z',_,.inr (hJx Z' _ _ _ hj2 (h'.stayA Hf))⟩
   ·omega
end
end
section
open Go Go.RowKit Go.Shelf
def Bce(S0:Nat)(l:List (Int × Int))(Z0:Nat->Prop)(W:World):Prop:=VV W Z0 ⟨S0,0,none⟩ [.lst false 2 l.length (Jm l)]/\S0<W.heap.size/\¬Z0 S0
theorem Azd{S0:Nat}{l:List (Int × Int)}(hl:l.length<=100000):A06 prog 136 #[.pointer (some ⟨S0,0,none⟩)] (bwM l) (fun xs=>∀j,j<l.length->j∈xs) (fun _=>True) (Bce S0 l):=by
 intro y J Jx W Z0 hZ hP hJ hJx hY h0;obtain⟨p1,p2,p3⟩:=hP;refine callsIn_wide.1 (callsIn_of_wp (F:=Fence.wide) (n:=0) Tryz.func136 rfl trivial ?_ rfl);show bwC.wpIn _ _ _ _ _ _;have t1:(({ tmps:=(#[Value.func (.yield y) #[] #[]] ++ #[Value.pointer (some ⟨S0,0,none⟩)])++Array.replicate (Tryz.f136.ntmps-(#[Value.func (.yield y) #[] #[]] ++ #[Value.pointer (some ⟨S0,0,none⟩)]).size) undef,defers:=[] }:Act))={ tmps:=(Value.func (.yield y) #[] #[]::Value.pointer (some ⟨S0,0,none⟩)::List.replicate 17 undef).toArray,defers:=[] }:=by kernel_rfl
 rw[t1]
 have i0:Cj 19 W noL Z0 (fun _=>none) ⟨lk [(0,.sc (.func (.yield y) #[] #[])),(1,.iptr [.lst false 2 l.length (Jm l)] 0)],C4 []⟩ { tmps:=(Value.func (.yield y) #[] #[]::Value.pointer (some ⟨S0,0,none⟩)::List.replicate 17 undef).toArray,defers:=[] } W:=by
  refine Cj.init _ _ rfl (by simp) ?_ ?_ ?_ hZ
  ·intro q hq;simp only[Ch,Zp,or_false] at hq;rcases hq with rfl|rfl<;>simp
  ·intro q hq;simp only[Ch,Zp,or_false] at hq;rcases hq with rfl|rfl
   ·exact Av.sc _
   ·exact⟨⟨S0,0,none⟩,rfl,rfl,p2,p3,p1⟩
  ·intro q hq;simp only[Ch,Zp,or_false] at hq;rcases hq with rfl|rfl<;>rfl
 generalize ({ tmps:=(Value.func (.yield y) #[] #[]::Value.pointer (some ⟨S0,0,none⟩)::List.replicate 17 undef).toArray,defers:=[] }:Act)=a0 at i0 ⊢;refine KQ A3i (wpIn_seq (wpIn_wide.2 (Ry (ED _ _) mxT F2 i0 (L:=11) (t:=0) (s1:=bwS (.func (.yield y) #[] #[]) l ((l.length:Int)-1)) ?_ ?_)))
 ·have wk:wrap .i64 ((l.length:Int)-1)=(l.length:Int)-1:=Bn;refine (A3u cl _ l.length (Jm l)).trans ?_;simp only[Be,Bf,wk]
 intro a1 w1 β1 h1;refine wpIn_block (wpIn_loop_rounds (l.length+1) (XR hJ hJx hY hl ?_ l.length (l.length+1) (Ci _) (by omega) h1 A0k (fun j h1 h2=>by omega) h0))
 rintro e a5 w5 he h5 ⟨Z,xs,h6⟩
 have h7:∃Z xs,((∀j,j<l.length->j∈xs)/\J Z xs w5)\/(True/\Jx Z xs w5):=⟨Z,xs,h6.imp (fun x=>x) fun x=>⟨trivial,x⟩⟩
 rcases he with rfl|rfl
 ·exact⟨h5,_,results_none rfl _ _ _,⟨_,rfl⟩,h7⟩
 ·exact⟨h5,_,results_none rfl _ _ _,⟨_,rfl⟩,h7⟩
set_option maxHeartbeats 2000000 in
theorem Aw5(ad:Option Addr)(n c:Int)(m:Nat)(w:World)(k q:Nat):CallsIn Fence.wide m prog 97 #[.slice ad k q] w fun e w'=>
  e=.returned (.func (.func 136) #[] #[.pointer (some ⟨w.heap.size,0,none⟩)])/\w'=w.alloc (.cells #[.slice ad k q] 99):=by
 refine callsIn_of_wp Tryz.func97 rfl trivial ?_ rfl;simp only[Tryz.ntmps97,List.size_toArray,Tm,WG,Nat.reduceAdd,Nat.reduceSub,Array.replicate_succ,Array.replicate_zero,List.push_toArray,List.append_toArray,VW,Zzp]
 gi_wp2
 go_ret
 exact⟨rfl,rfl⟩
end
section
open Go Go.RowKit
structure QB(wS:World)(D b6 o6:Nat)(v:Int)(Z:Nat->Prop)(A:World):Prop where
 os:A.os=wS.os
 tape:A.tape=wS.tape
 output:A.output=wS.output
 size:D+2<=A.heap.size
 zlt:∀b,Z b->b<A.heap.size
 z6:Z b6
 zn:∀b,Z b->b=b6\/D<=b
 keep:∀b,b<D->b≠b6->A.heap[b]?=wS.heap[b]?
 bs:bsz wS b6<=bsz A b6
 c6:A.cell? ⟨b6,o6,none⟩=some (.int .i64 v)
 f6:A.frozen? ⟨b6,o6,none⟩=false
theorem QB.stay{wS:World}{D b6 o6:Nat}{v:Int}{Z:Nat->Prop}{A B:World}(hI:QB wS D b6 o6 v Z A)(l6:b6<D)(hs:BQ (fun b=>b<A.heap.size/\b≠D/\b≠D+1) A B):QB wS D b6 o6 v Z B:=by
 have hz:=hI.size;have e:∀b,b<D->B.heap[b]?=A.heap[b]?:=fun b hb=>hs.same b ⟨by omega,by omega,by omega⟩;have hb6:bsz B b6=bsz A b6:=by unfold bsz;rw[e b6 l6]
 exact⟨hs.os.trans hI.os,hs.tape.trans hI.tape,hs.output.trans hI.output,Nat.le_trans hI.size hs.size,fun b hb=>Ft (hI.zlt b hb) hs.size,hI.z6,hI.zn,fun b hb hn=>(e b hb).trans (hI.keep b hb hn),by rw[hb6];exact hI.bs,
  (World.cell?_of_block (e b6 l6)).trans hI.c6,by rw[frozen?_of_block (e b6 l6)];exact hI.f6⟩
def A5a(l:List (Int × Int))(now:Int)(pre:B9):Prop:=∀j∈pre,∀p,l[j]?=some p->now<p.2
structure Azp(v5 v6:Value)(D:Nat)(kd t:Int)(a:Act)(A:World):Prop where
 dfr:a.defers=[]
 size:a.tmps.size=28
 t5:a.tmps.getD 5 undef=v5
 t6:a.tmps.getD 6 undef=v6
 t10:∃b o,a.tmps.getD 10 undef=.pointer (some ⟨b,o,none⟩)/\D+2<=b/\b<A.heap.size/\A.cell? ⟨b,o,none⟩=some (.int .i64 kd)/\A.cell? ⟨b,o+1,none⟩=some (.int .i64 t)
theorem Azp.stay{v5 v6:Value}{D:Nat}{kd t:Int}{a:Act}{A B:World}(h:Azp v5 v6 D kd t a A)(hs:BQ (fun b=>b<A.heap.size/\b≠D/\b≠D+1) A B):Azp v5 v6 D kd t a B:=by obtain⟨b,o,h1,h2,h3,h4,h5⟩:=h.t10;have e:B.heap[b]?=A.heap[b]?:=hs.same b ⟨h3,by omega,by omega⟩;exact⟨h.dfr,h.size,h.t5,h.t6,b,o,h1,h2,Ft h3 hs.size,(World.cell?_of_block e).trans h4,(World.cell?_of_block (a:=⟨b,o+1,none⟩) e).trans h5⟩
def A6d(wS:World)(D b6 o6:Nat)(v5 v6:Value)(l:List (Int × Int))(now:Int)(Z:Nat->Prop)(pre:B9)(x:Nat)(a:Act)(A:World):Prop:=
 QB wS D b6 o6 0 Z A/\A5a l now pre/\(∀j,x<j->j<l.length->j∈pre)/\∃p,l[x]?=some p/\Azp v5 v6 D p.1 p.2 a A
def stI(wS:World)(D b6 o6:Nat)(l:List (Int × Int))(now:Int)(Z:Nat->Prop)(pre:B9)(A:World):Prop:=QB wS D b6 o6 0 Z A/\A5a l now pre
def A16(wS:World)(D b6 o6:Nat)(l:List (Int × Int))(now:Int)(c:Code)(Z:Nat->Prop)(xs:B9)(B:World):Prop:=
 c=.ret/\∃pre x p,A5a l now pre/\(∀j,x<j->j<l.length->j∈pre)/\l[x]?=some p/\p.2<=now/\QB wS D b6 o6 p.1 Z B
theorem Apj{wS:World}{D b6 o6:Nat}{v5 v6:Value}{l:List (Int × Int)}{now:Int}{Z:Nat->Prop}{pre:B9}{x:Nat}{args:Array Value}{A:World}{a:Act}{K:Act->World->Prop}(l6:b6<D)(hI:stI wS D b6 o6 l now Z pre A)(hm:bwM l pre x args Z A)(hd:a.tmps.size=28)(h5:a.tmps.getD 5 undef=v5)(h6:a.tmps.getD 6 undef=v6)(hK:∀Z1 a' A1,LF Z Z1 A A1->A1.heap[D]?=A.heap[D]?->A1.heap[D+1]?=A.heap[D+1]?->A6d wS D b6 o6 v5 v6 l now Z1 pre x a' A1->K a' A1):
  Amc.wpIn (Fence.wide.inRound (D+1)) 0 prog (Exit.then K (fun _ _ _=>False)) { tmps:=((#[20,21]:Array Tmp).zip args).foldl (fun t (p,v)=>t.setIfInBounds p v) a.tmps,defers:=[] } A:=by
 obtain⟨Z3,hI2⟩:=hI;obtain⟨VI,p,hp,rfl⟩:=hm;obtain⟨b0,QQ⟩:∃b0:Act,({ tmps:=a.tmps,defers:=[] }:Act)=b0:=⟨_,rfl⟩
 have PZ:b0.tmps.size=28:=by rw[<-QQ];exact hd
 have ez:((#[20,21]:Array Tmp).zip #[Value.int .i64 (x:Int),.agg #[.int .i64 p.1,.int .i64 p.2]]) = #[(20,Value.int .i64 (x:Int)),(21,.agg #[.int .i64 p.1,.int .i64 p.2])]:=by simp
 have ea:({ tmps:=((#[20,21]:Array Tmp).zip #[Value.int .i64 (x:Int),.agg #[.int .i64 p.1,.int .i64 p.2]]).foldl (fun t (p,v)=>t.setIfInBounds p v) a.tmps,defers:=[] }:Act)=(b0.put (some 20) (.int .i64 (x:Int))).put (some 21) (.agg #[.int .i64 p.1,.int .i64 p.2]):=by
  rw[ez,<-QQ];simp[Act.put]
 rw[ea];have Qm:b0.defers=[]:=by rw[<-QQ]
 have ht0:b0.tmps=a.tmps:=by rw[<-QQ]
 obtain⟨a1,ha1⟩:∃a1,(b0.put (some 20) (.int .i64 (x:Int))).put (some 21) (.agg #[.int .i64 p.1,.int .i64 p.2])=a1:=⟨_,rfl⟩
 rw[ha1];have z1:a1.defers=[]:=by rw[<-ha1];simp only[Oj,Qm]
 have z2:a1.tmps.size=28:=by rw[<-ha1];simp only[Pj,PZ]
 have z5:a1.tmps.getD 5 undef=v5:=by rw[<-ha1,FQ (by decide),FQ (by decide),ht0];exact h5
 have z6:a1.tmps.getD 6 undef=v6:=by rw[<-ha1,FQ (by decide),FQ (by decide),ht0];exact h6
 have z21:a1.tmps.getD 21 undef=.agg #[.int .i64 p.1,.int .i64 p.2]:=by rw[<-ha1,Ar9 (by simp only[Pj,PZ];decide)]
 have i0:Cj 28 A noL (fun _=>False) (fun _=>none) ⟨lk [(5,.sc v5),(6,.sc v6),(21,.agg [Ar p.1,Ar p.2])],C4 []⟩ a1 A:=by
  refine Cj.init _ _ z1 z2 ?_ ?_ ?_ (fun _ h=>h.elim)
  ·intro q hq;simp only[Ch,Zp,or_false] at hq;rcases hq with rfl|rfl|rfl<;>simp
  ·intro q hq;simp only[Ch,Zp,or_false] at hq;rcases hq with rfl|rfl|rfl
   ·rw[z5];exact Av.sc _
   ·rw[z6];exact Av.sc _
   ·exact⟨[.int .i64 p.1,.int .i64 p.2],z21,Av.sc _,Av.sc _,trivial⟩
  ·intro q hq;simp only[Ch,Zp,or_false] at hq;rcases hq with rfl|rfl|rfl<;>rfl
 refine Ai2 (ro:=some (D+1)) (ED _ _) mxT F2 (by kernel_rfl) (fun _ _ h=>h) i0 (t:=0) (L:=1120) (s1:=⟨lk [(5,.sc v5),(6,.sc v6),(10,.ptr 10 0)],C4 [(10,.st [Ar p.1,Ar p.2])]⟩) (A2f cl v5 v6 p.1 p.2) ?_;intro a2 w2 β2 h2;have Km:=Z3.size;have Fn:=h2.stayA A0k;have keep:∀b,b<A.heap.size->w2.heap[b]?=A.heap[b]?:=Fn.same;obtain⟨b10,o10,e10,t10,l10,k10,_⟩:=h2.var (i:=10) (id:=10) (by decide) rfl rfl;obtain⟨v0,q0,r0⟩:=k10 0 _ rfl;obtain⟨v1,q1,r1⟩:=k10 1 _ rfl;have r0:=Av.val r0;have r1:=Av.val r1;subst r0 r1;have g10:A.heap.size<=b10:=(h2.ownd b10 ⟨10,o10,by trivial,e10⟩).elim (fun h=>h.elim) (fun h=>h)
 refine hK (fun b=>Z b\/(A.heap.size<=b/\b<w2.heap.size)) a2 w2 ⟨h2.fr.os,h2.fr.tape,h2.fr.output,h2.fr.step.size,fun b hb _=>keep b hb,fun b hb=>.inl hb,fun b hb=>hb.imp (fun h=>h) (·.1),fun b hb=>hb.elim (fun h=>Ft (Z3.zlt b h) h2.fr.step.size) (·.2),h2.fr.step.bs⟩ (keep D (by omega)) (keep (D+1) (by omega)) ⟨?_,hI2,VI,p,hp,⟨h2.dfr,h2.tsz,Vi (h2.tms 5 (by decide)),Vi (h2.tms 6 (by decide)),b10,o10,t10,by omega,l10,q0,q1⟩⟩;have k6:=keep b6 (by omega)
 exact⟨h2.fr.os.trans Z3.os,h2.fr.tape.trans Z3.tape,h2.fr.output.trans Z3.output,Nat.le_trans Km h2.fr.step.size,fun b hb=>hb.elim (fun h=>Ft (Z3.zlt b h) h2.fr.step.size) (·.2),.inl Z3.z6,fun b hb=>hb.elim (Z3.zn b) (fun h=>.inr (by omega)),fun b hb hn=>(keep b (by omega)).trans (Z3.keep b hb hn),
  Nat.le_trans Z3.bs (h2.fr.step.bs b6 (by omega)).1,(World.cell?_of_block k6).trans Z3.c6,by rw[frozen?_of_block k6];exact Z3.f6⟩
theorem Amj{B:World}{Y:Nat->Prop}{a:Act}{l:List (Nat × PV)}{b6 o6:Nat}{v:Int}(hd:a.defers=[])(Km:a.tmps.size=28)(Ck:∀q∈l,q.1<28)(c6:B.cell? ⟨b6,o6,none⟩=some (.int .i64 v))(f6:B.frozen? ⟨b6,o6,none⟩=false)(l6:b6<B.heap.size)(y6:¬Y b6)(hY:∀b,Y b->b<B.heap.size)(hv:∀(β:Bt),β 56000=some (b6,o6)->(∀b,Dv (C4 [(56000,.st [Ar v])]) β Y b->b=b6\/Y b)->∀q∈l,Ex B (Dv (C4 [(56000,.st [Ar v])]) β Y) β q.2 (a.tmps.getD q.1 undef))(hr:∀q∈l,∀id∈Cd q.2,id=56000):
  ∃X0 β,(∀b,X0.X b->b=b6)/\X0.pt 0=some (b6,o6)/\X0.pn 0/\(∀i,X0.pn i->i=0)/\Cj 28 B X0 Y β ⟨lk l,C4 [(56000,.st [Ar v])]⟩ a B:=by
 obtain⟨β,hβ⟩:∃β:Bt,β=fun id=>if id=56000 then some (b6,o6) else none:=⟨_,rfl⟩
 have e1:β 56000=some (b6,o6):=by rw[hβ];rfl
 have WP:∀id bx,C4 [(56000,Cc.st [Ar v])] id=some bx->id=56000/\bx=.st [Ar v]:=by
  intro id bx e;rcases HL [(56000,Cc.st [Ar v])] id with h1|⟨p,hp,h1,h2⟩
  ·rw[h1] at e;cases e
  ·rw[h2] at e;cases e;simp only[Ch,Zp,or_false] at hp;subst hp;exact⟨h1.symm,rfl⟩
 have hX:∀b,II (C4 [(56000,Cc.st [Ar v])]) β b->b=b6:=by
  rintro b' ⟨id,o',hl,hb⟩
  cases hh:C4 [(56000,Cc.st [Ar v])] id with
  |none=>rw[hh] at hl;exact hl.elim
  |some bx=>
   obtain⟨rfl,_⟩:=WP id bx hh;rw[e1] at hb;cases hb;rfl
 have hA:∀b,Dv (C4 [(56000,Cc.st [Ar v])]) β Y b->b=b6\/Y b:=fun b hb=>hb.imp (hX b) (fun x=>x);refine⟨_,β,hX,e1,rfl,fun i hi=>hi,Cj.make l [(56000,.st [Ar v])] a (fun i=>i=0) (fun i hi=>by omega) hd Km Ck (hv β e1 hA) ?_ ?_ ?_ ?_ ?_ ?_ ?_ ?_ hY⟩
 ·intro id bx e;obtain⟨rfl,rfl⟩:=WP id bx e;refine⟨b6,o6,e1,fun j c hj=>?_,fun j hj=>?_⟩
  ·match j,hj with
   |0,hj=>cases hj;exact⟨_,c6,Av.sc _⟩
  ·match j,hj with
   |0,_=>exact f6
 ·intro id id' b1 o1 o2 g1 g2 g3 g4
  have B4:∀i,Dj (C4 [(56000,Cc.st [Ar v])] i)->i=56000:=by
   intro i hi;cases hh:C4 [(56000,Cc.st [Ar v])] i with
   |none=>rw[hh] at hi;exact hi.elim
   |some bx=>exact (WP i bx hh).1
  rw[B4 id g1,B4 id' g2]
 ·intro id b1 o1 g1 g2;cases hh:C4 [(56000,Cc.st [Ar v])] id with
  |none=>exact absurd hh g1
  |some bx=>
   obtain⟨rfl,_⟩:=WP id bx hh;rw[e1] at g2;cases g2;exact l6
 ·intro p hp id B4;rw[hr p hp id B4];simp[C4]
 ·intro id cells e c hc i hi;obtain⟨rfl,e'⟩:=WP id _ e;cases e';simp only[Ch,Zp,or_false] at hc;subst hc;simp[Au] at hi
 ·intro i hi;subst hi;simp[C4,D1]
 ·intro id c e;obtain⟨rfl,_⟩:=WP id _ e;exact⟨0,rfl,rfl⟩
 ·intro b hy hx;rw[hX b hx] at hy;exact y6 hy
theorem Alo{wS:World}{D b6 o6:Nat}{v v':Int}{Z:Nat->Prop}{A w':World}{X0:F3}{β':Bt}{a':Act}(l6:b6<D)(hI:QB wS D b6 o6 v Z A)(hx1:X0.pt 0=some (b6,o6))(FV:X0.pn 0)(hX:∀b,X0.X b->b=b6)(hs:Cj 28 A X0 (fun _=>False) β' ⟨lk [(6,.ptr 56000 0)],C4 [(56000,.st [Ar v'])]⟩ a' w'):
  LF Z (fun b=>Z b\/(A.heap.size<=b/\b<w'.heap.size)) A w'/\w'.heap[D]?=A.heap[D]?/\w'.heap[D+1]?=A.heap[D+1]?/\QB wS D b6 o6 v' (fun b=>Z b\/(A.heap.size<=b/\b<w'.heap.size)) w':=by
 have Km:=hI.size;have Fn:=hs.fr.step;have same:∀b,b<A.heap.size->b≠b6->w'.heap[b]?=A.heap[b]?:=fun b hb hn=>Fn.keep b hb fun hx=>hn (hX b hx);have hp:β' 56000=some (b6,o6):=(hs.pin 0 FV).2.trans hx1;obtain⟨b,o,g1,g2,g3⟩:=(show ∃b o,β' 56000=some (b,o)/\_/\_ from hs.box 56000 _ (rfl:_=some (Cc.st [Ar v'])))
 rw[hp] at g1;cases g1;obtain⟨v0,q0,r0⟩:=g2 0 _ rfl;have r0:=Av.val r0;subst r0
 refine⟨⟨hs.fr.os,hs.fr.tape,hs.fr.output,Fn.size,fun b hb hn=>same b hb fun e=>hn (e ▸ hI.z6),fun b hb=>.inl hb,fun b hb=>hb.imp (fun x=>x) (·.1),fun b hb=>hb.elim (fun h1=>Ft (hI.zlt b h1) Fn.size) (·.2),Fn.bs⟩,
  same D (by omega) (by omega),same (D+1) (by omega) (by omega),?_⟩
 exact⟨hs.fr.os.trans hI.os,hs.fr.tape.trans hI.tape,hs.fr.output.trans hI.output,by have:=Fn.size;omega,fun b hb=>hb.elim (fun h1=>Ft (hI.zlt b h1) Fn.size) (·.2),.inl hI.z6,fun b hb=>hb.elim (hI.zn b) (fun h=>.inr (by omega)),fun b hb hn=>(same b (by omega) hn).trans (hI.keep b hb hn),Nat.le_trans hI.bs (Fn.bs b6 (by omega)).1,q0,g3 0 (Nat.zero_lt_succ _)⟩
theorem Aut{wS:World}{D b5 o5 b6 o6:Nat}{l:List (Int × Int)}{now:Int}{Z:Nat->Prop}{pre:B9}{x:Nat}{a:Act}{A:World}(l5:b5<D)(l6:b6<D)(n5:b5≠b6)(h5:wS.cell? ⟨b5,o5,none⟩=some (.int .i64 now))(hn:A6d wS D b6 o6 (.pointer (some ⟨b5,o5,none⟩)) (.pointer (some ⟨b6,o6,none⟩)) l now Z pre x a A):
  Abw.wpIn (WF (some (D+1))) 0 prog (Ake D (stI wS D b6 o6 l now) (A16 wS D b6 o6 l now) Z (pre++[x]) A) a A:=by
 obtain⟨hI,A7r,Anu,p,hp,hN⟩:=hn;obtain⟨b10,o10,t10,g10,l10,c0,c1⟩:=hN.t10;have Km:=hI.size
 obtain⟨X0,β,hX,hx1,FV,_,hs⟩:=Amj (B:=A) (Y:=fun _=>False) (a:=a) (l:=[(5,.iptr [Ar now] 0),(6,.ptr 56000 0),(10,.iptr [Ar p.1,Ar p.2] 0)]) (b6:=b6) (o6:=o6) (v:=0) hN.dfr hN.size (by
   intro q hq;simp only[Ch,Zp,or_false] at hq;rcases hq with rfl|rfl|rfl<;>simp) hI.c6 hI.f6 (by omega) (fun h=>h) (fun _ h=>h.elim) (by
   intro β e1 hA q hq;simp only[Ch,Zp,or_false] at hq;rcases hq with rfl|rfl|rfl
   ·refine⟨⟨b5,o5,none⟩,hN.t5,rfl,by show b5<_;omega,fun hb=>?_,fun j c hj=>?_⟩
    ·rcases hA _ hb with h1|h1
     ·exact n5 h1
     ·exact h1
    ·match j,hj with
     |0,hj=>cases hj;exact⟨_,(World.cell?_of_block (a:=⟨b5,o5,none⟩) (hI.keep b5 l5 n5)).trans h5,rfl,Av.sc _⟩
   ·exact⟨b6,o6,e1,hN.t6⟩
   ·refine⟨⟨b10,o10,none⟩,t10,rfl,l10,fun hb=>?_,fun j c hj=>?_⟩
    ·rcases hA _ hb with h1|h1
     ·have h1:b10=b6:=h1;omega
     ·exact h1
    ·match j,hj with
     |0,hj=>cases hj;exact⟨_,c0,rfl,Av.sc _⟩
     |1,hj=>cases hj;exact⟨_,c1,rfl,Av.sc _⟩) (by
   intro q hq id B4;simp only[Ch,Zp,or_false] at hq;rcases hq with rfl|rfl|rfl<;>simp[Cd,Ct,Au] at B4
   exact B4)
 have LI:∀a w,¬Ake D (stI wS D b6 o6 l now) (A16 wS D b6 o6 l now) Z (pre++[x]) A .outgrown a w:=fun a w ⟨_,_,_,_,hf⟩=>hf;by_cases Zi:p.2<=now
 ·refine OK (ED _ _) mxT F2 (by kernel_rfl) LI hs (t:=1) (L:=64) (s1:=⟨lk [(6,.ptr 56000 0)],C4 [(56000,.st [Ar p.1])]⟩) ((Aq8 cl now p.1 p.2).trans (GX _ _ _ Zi)) ?_
  rintro a' w' β' e' h' (⟨h1,_⟩|⟨_,rfl⟩|⟨id,h1,_⟩)
  ·cases h1
  ·obtain⟨k1,k2,k3,k4⟩:=Alo l6 hI hx1 FV hX h';exact⟨_,k1,k2,k3,rfl,pre,x,p,A7r,Anu,hp,Zi,k4⟩
  ·omega
 ·refine OK (ED _ _) mxT F2 (by kernel_rfl) LI hs (t:=0) (L:=64) (s1:=⟨lk [(6,.ptr 56000 0)],C4 [(56000,.st [Ar 0])]⟩) ((Aq8 cl now p.1 p.2).trans (Gs _ _ _ Zi)) ?_
  rintro a' w' β' e' h' (⟨_,rfl⟩|⟨h1,_⟩|⟨id,h1,_⟩)
  ·obtain⟨k1,k2,k3,k4⟩:=Alo l6 hI hx1 FV hX h';refine⟨_,k1,k2,k3,k4,fun j hj q hq=>?_⟩;rcases B5.1 hj with h1|h1
   ·exact A7r j h1 q hq
   ·rw[Qi.1 h1,hp] at hq;cases hq;omega
  ·cases h1
  ·omega
end
def En.cells(e:En):Ae:=[Ag e.k,.lst false 3 e.na e.an,.lst false 2 e.ns e.st]
theorem En.cells_len(e:En):e.cells.length=3:=rfl
def Mf(l:List En):Ae:=l.flatMap En.cells
def En.fit(e:En):Prop:=e.an.length=e.na*3/\e.st.length=e.ns*2/\e.na<=1000/\e.ns<=1000
theorem Arf{l:List En}{i:Nat}{e:En}(h:l[i]?=some e):(Mf l).getD (i*3) .top=Ag e.k/\(Mf l).getD (i*3+1) .top=.lst false 3 e.na e.an/\(Mf l).getD (i*3+2) .top=.lst false 2 e.ns e.st:=
 ⟨KU En.cells_len h (j:=0) (by omega),KU En.cells_len h (j:=1) (by omega),KU En.cells_len h (j:=2) (by omega)⟩
theorem Af1{c:Ae}{es:List En}(h:Ye c=some es):c=Mf es/\∀e∈es,e.fit:=by
 fun_induction Ye c generalizing es with
 |case1=>cases h;exact⟨rfl,fun e he=>by cases he⟩
 |case2 k na an ns st r hb ih=>
  simp only[Fc] at hb;obtain⟨⟨⟨b1,b2⟩,b3⟩,b4⟩:=hb;cases hr:Ye r with
  |none=>rw[hr] at h;cases h
  |some es'=>
   rw[hr] at h;cases h;obtain⟨h1,h2⟩:=ih hr;refine⟨by rw[h1];rfl,fun e he=>?_⟩
   rcases Ch.1 he with rfl|he
   ·exact⟨Dx b1,Dx b2,R5 b3,R5 b4⟩
   ·exact h2 e he
 |case3=>cases h
 |case4=>cases h
theorem Aa7{st:Ae}{l:List (Int × Int)}(h:Rk st=some l):st=Jm l:=by
 fun_induction Rk st generalizing l with
 |case1=>cases h;rfl
 |case2 k t r ih=>
  cases hr:Rk r with
  |none=>rw[hr] at h;cases h
  |some l'=>
   rw[hr] at h;cases h;rw[ih hr];rfl
 |case3=>cases h
section
variable {xs:FuncId->Option (Ae->Option Bv)}{fu d:Nat}
theorem A4p{n:Nat}{c:Ae}(h:c.length=n*3)(hn:n<=1000):Ac (CX xs) prog fu (d+1) 162 [.lst false 3 n c]=some ⟨[.lst false 3 n c],[]⟩:=by
 refine (Zs fu d n c).trans ?_;have t:List.take (n*3) c=c:=Hz (by omega);by_cases h0:0<n
 ·simp(disch:=omega)only[Be,Bf,VW,Ie,Me,h,t]
 ·obtain rfl:n=0:=by omega
  have:c=[]:=List.length_eq_zero_iff.1 (by omega);subst this;simp(disch:=omega)only[Be,Bf,VW,Ie,Me,WG,Nat.zero_mul,List.take_nil]
theorem A3g{n:Nat}{c:Ae}(h:c.length=n*2)(hn:n<=1000):Ac (CX xs) prog fu (d+1) 163 [.lst false 2 n c]=some ⟨[.lst false 2 n c],[]⟩:=by
 refine (Zj fu d n c).trans ?_;have t:List.take (n*2) c=c:=Hz (by omega);by_cases h0:0<n
 ·simp(disch:=omega)only[Be,Bf,VW,Ie,Me,h,t]
 ·obtain rfl:n=0:=by omega
  have:c=[]:=List.length_eq_zero_iff.1 (by omega);subst this;simp(disch:=omega)only[Be,Bf,VW,Ie,Me,WG,Nat.zero_mul,List.take_nil]
theorem A23{e:En}(h:e.fit):Ac (CX xs) prog fu (d+2) 135 [.agg e.cells]=some ⟨[.agg e.cells],[]⟩:=by refine (BN fu (d+1) e.k e.na e.an e.ns e.st).trans ?_;have a:=A4p (xs:=xs) (fu:=fu) (d:=d) h.1 h.2.2.1;have s:=A3g (xs:=xs) (fu:=fu) (d:=d) h.2.1 h.2.2.2;simp only[Be,Bf,a,s];rfl
def en0:En:=⟨0,0,[],0,[]⟩
def Wk(model:Int)(es:List En):En:=(es.find? fun e=>e.k==model).getD en0
theorem Auy(model:Int)(es:List En):(Wk model es).st=Ai5 model es:=by unfold Wk Ai5;cases es.find? fun e=>e.k==model<;>rfl
theorem An8{model:Int}{es:List En}(h:∀e∈es,e.fit):(Wk model es).fit:=by
 unfold Wk;cases hf:es.find? fun e=>e.k==model with
 |none=>exact⟨rfl,rfl,by decide,by decide⟩
 |some e=>exact h e (List.mem_of_find?_eq_some hf)
theorem Aro{Ayz Aif Ahx Ax3 a1:Int}{Ams Ala Akn:Nat}{Ayd Az7 Azl:Ae}{es:List En}(hn:es.length<=1000)(hf:∀e∈es,e.fit){model:Int}:∀(r:List En)(i nn:Nat),es.drop i=r->r.length<nn ->
  ∃b,Ic fu (Ac (CX xs) prog fu (d+2)) Ayz Aif Ahx Ams Ayd Ax3 Ala Az7 Akn Azl a1 nn model es.length (Mf es) (es.length:Int) (i:Int) 0 0 0 [] []=some ⟨[.agg (Wk model r).cells,De b],[]⟩
 |_,_,0,_,h=>by omega
 |[],i,nn+1,hr,Gc=>by
  have hi:=drop_nil hr;refine⟨false,?_⟩;rw[Pa];simp(disch:=omega)only[Be,Bf];rfl
 |e::r,i,nn+1,hr,Gc=>by
  obtain⟨Ck,h1,h2⟩:=D8 hr;obtain⟨g0,g1,g2⟩:=Arf h1;have g2':(Mf es).getD (i*3+1+1) .top=.lst false 2 e.ns e.st:=g2;rw[Pa];by_cases hk:e.k=model
  ·refine⟨true,?_⟩;have q:(e.k==model)=true:=by simp[hk]
   have cp:=A23 (xs:=xs) (fu:=fu) (d:=d) (hf e (List.mem_of_getElem? h1));have fe:Wk model (e::r)=e:=by unfold Wk;rw[List.find?_cons_of_pos (by simpa using hk)];rfl
   rw[fe];simp only[En.cells] at cp;simp(disch:=omega)only[Be,Bf,Jd,g0,g1,g2',q,cp];rfl
  ·have q:(e.k==model)=false:=by simp[hk]
   have w:wrap .i64 ((i:Int)+1)=((i+1:Nat):Int):=B0
   obtain⟨b,ih⟩:=Aro (Ayz:=Ayz) (Aif:=Aif) (Ahx:=Ahx) (Ax3:=Ax3) (a1:=a1) (Ams:=Ams) (Ala:=Ala) (Akn:=Akn) (Ayd:=Ayd) (Az7:=Az7) (Azl:=Azl) hn hf (model:=model) r (i+1) nn h2 (by simp only[Tm] at Gc;omega)
   have fe:Wk model (e::r)=Wk model r:=by unfold Wk;rw[List.find?_cons_of_neg (by simpa using hk)]
   refine⟨b,?_⟩;rw[fe,<-ih];simp(disch:=omega)only[Be,Bf,Jd,g0,g1,g2',q,w]
theorem A5c{es:List En}(hn:es.length<=1000)(B2:1000<fu)(hf:∀e∈es,e.fit)(v i x lf model:Int)(n1 n2:Nat)(c1 c2:Ae):
  ∃b,Ac (CX xs) prog fu (d+3) 96 [.agg [Ar v,Ar i,Ar x,.lst false 3 es.length (Mf es),Ar lf,.lst false 1 n1 c1,.lst false 1 n2 c2],Ag model]=some ⟨[.agg (Wk model es).cells,De b],[]⟩:=by
 obtain⟨b,h⟩:=Aro (xs:=xs) (fu:=fu) (d:=d) (Ayz:=v) (Aif:=i) (Ahx:=x) (Ax3:=lf) (a1:=model) (Ams:=es.length) (Ala:=n1) (Akn:=n2) (Ayd:=Mf es) (Az7:=c1) (Azl:=c2) hn hf (model:=model) es 0 fu rfl (by omega);exact⟨b,(KA fu (d+2) v i x es.length (Mf es) lf n1 c1 n2 c2 model).trans h⟩
end
section
open Go Go.RowKit
theorem Aga{now:Int}{l:List (Int × Int)}(h:∀p∈l,now<p.2):Gr now l=0:=by
 unfold Gr
 have:l.reverse.find? (fun p=>decide (p.2<=now))=none:=by
  rw[List.find?_eq_none];intro p hp;have:=h p (List.mem_reverse.1 hp);simp only[GF];omega
 rw[this]
theorem Aom{now:Int}{l:List (Int × Int)}{x:Nat}{p:Int × Int}(h:l[x]?=some p)(Zi:p.2<=now)(hn:∀j,x<j->∀q,l[j]?=some q->now<q.2):Gr now l=p.1:=by
 unfold Gr;have Ck:=(List.getElem?_eq_some_iff.1 h).1
 have e:l=l.take x++p::l.drop (x+1):=by
  have:l[x]=p:=(List.getElem?_eq_some_iff.1 h).2;rw[<-this,List.getElem_cons_drop,List.take_append_drop]
 have h1:(l.drop (x+1)).reverse.find? (fun p=>decide (p.2<=now))=none:=by
  rw[List.find?_eq_none];intro q hq;obtain⟨j,hj⟩:=List.mem_iff_getElem?.1 (List.mem_reverse.1 hq);rw[List.getElem?_drop] at hj;have:=hn (x+1+j) (by omega) q hj;simp only[GF];omega
 have h2:l.reverse.find? (fun p=>decide (p.2<=now))=some p:=by
  rw[e,List.reverse_append,List.reverse_cons,List.find?_append,List.find?_append,h1];simp[Zi]
 rw[h2]
theorem Axo{w4 w5:World}{Y:Nat->Prop}{now:Int}{l:List (Int × Int)}{a4 a5:Act}{b5 o5 b6 o6:Nat}{sv:Value}(hl:l.length<=100000)(t5:a4.tmps.getD 5 undef=.pointer (some ⟨b5,o5,none⟩))(t6:a4.tmps.getD 6 undef=.pointer (some ⟨b6,o6,none⟩))(l5:b5<w4.heap.size)(l6:b6<w4.heap.size)(n5:b5≠b6)(c5:w4.cell? ⟨b5,o5,none⟩=some (.int .i64 now))(c6:w4.cell? ⟨b6,o6,none⟩=some (.int .i64 0))(f6:w4.frozen? ⟨b6,o6,none⟩=false)(hsv:Av w4 (fun b=>b=b6) (.lst false 2 l.length (Jm l)) sv)(RB:sv.oneCell'=true)(Km:a4.tmps.size=28)(hw5:w5=w4.alloc (.cells #[sv] 99))(ha5:a5=a4.put (some 19) (.func (.func 136) #[] #[.pointer (some ⟨w4.heap.size,0,none⟩)])){K:Act->World->Prop}{Q:Exit->Act->World->Prop}(hK0:∀Z B,QB w5 (w4.heap.size+1) b6 o6 (Gr now l) Z B->Gr now l=0->B.heap[w4.heap.size+1]?=some (.deferred (some []))->K { a5 with defers:={ target:=.collected (w4.heap.size+1),args:= #[] }::a5.defers } B)(hK1:∀Z B,QB w5 (w4.heap.size+1) b6 o6 (Gr now l) Z B->B.heap[w4.heap.size+1]?=some (.deferred (some []))->Q .ret { a5 with defers:={ target:=.collected (w4.heap.size+1),args:= #[] }::a5.defers } B):
  (Code.block 0 (.rangeFunc (.tmp 19) #[20,21] Amc Abw)).wpIn Fence.wide 0 prog (Exit.then K Q) a5 w5:=by
 have MZ:w5.heap.size=w4.heap.size+1:=by rw[hw5,World.size_alloc]
 have hold:∀b,b<w4.heap.size->w5.heap[b]?=w4.heap[b]?:=fun b hb=>by rw[hw5];exact Below.heap_alloc _ _ _ hb
 have hB0:w5.heap[w4.heap.size]?=some (.cells #[sv] 99):=by rw[hw5];exact World.alloc_heap_new w4 _
 have Bn9:a5.tmps.size=28:=by rw[ha5,Pj];exact Km
 have g5:a5.tmps.getD 5 undef=.pointer (some ⟨b5,o5,none⟩):=by rw[ha5,FQ (by decide)];exact t5
 have g6:a5.tmps.getD 6 undef=.pointer (some ⟨b6,o6,none⟩):=by rw[ha5,FQ (by decide)];exact t6
 have g19:a5.eval (.tmp 19)=.func (.func 136) #[] #[.pointer (some ⟨w4.heap.size,0,none⟩)]:=by
  show a5.tmps.getD 19 undef=_;rw[ha5,Ar9 (by omega)]
 have Adw:=Azd (S0:=w4.heap.size) (l:=l) hl
 refine wpIn_block (Ahu (Z0:=fun b=>b=b6) g19 (enters_of Tryz.func136 (by kernel_rfl) rfl) Adw (fun b hb=>by omega) (fun W hW hk=>?_) (fun pre x args Z A hm=>Asm hm)
  (stI w5 (w4.heap.size+1) b6 o6 l now) (A16 w5 (w4.heap.size+1) b6 o6 l now) ?_ ?_ ?_ (A6d w5 (w4.heap.size+1) b6 o6 (.pointer (some ⟨b5,o5,none⟩)) (.pointer (some ⟨b6,o6,none⟩)) l now) ?_ ?_ ?_ ?_ ?_)
 ·have hkk:∀b,b<w4.heap.size->W.heap[b]?=w4.heap[b]?:=fun b hb=>(hk b (by omega)).trans (hold b hb);have k0:=hk w4.heap.size (by omega);refine⟨fun j c hj=>?_,by omega,by rintro (h|h|h)<;>omega⟩
  match j,hj with
  |0,hj=>
   cases hj;refine⟨sv,(World.cell?_of_block (a:=⟨w4.heap.size,0,none⟩) k0).trans ?_,RB,?_⟩
   ·unfold World.cell?;rw[hB0];rfl
   ·refine hsv.step (w':=W) ⟨by omega,fun b hb _=>hkk b hb,fun b hb=>?_⟩ fun b hb h=>?_
    ·exact Fi.same (hkk b hb)
    ·rcases h with h|h|h
     ·exact h
     ·omega
     ·omega
 ·intro Z pre A B hI hs;rw[MZ] at hs;exact⟨hI.1.stay (by omega) hs,hI.2⟩
 ·rintro c' Z pre A B ⟨h1,pre',x,p,q1,q2,q3,q4,hI⟩ hs
  rw[MZ] at hs;exact⟨h1,pre',x,p,q1,q2,q3,q4,hI.stay (by omega) hs⟩
 ·intro W hW Fn;have e:∀b,b<w4.heap.size+1->W.heap[b]?=w5.heap[b]?:=fun b hb=>Fn.same b (by omega);have e6:=(e b6 (by omega)).trans (hold b6 l6);refine⟨⟨Fn.os,Fn.tape,Fn.output,by omega,fun b hb=>by rcases hb with hb|hb|hb<;>omega,.inl rfl,fun b hb=>by rcases hb with hb|hb|hb<;>omega,fun b hb _=>e b hb,by unfold bsz;rw[e b6 (by omega)];exact Ci _,(World.cell?_of_block e6).trans c6,by rw[frozen?_of_block e6];exact f6⟩,fun j hj=>by cases hj⟩
 ·intro Z pre x a' A B hn hs;rw[MZ] at hs;obtain⟨h1,h2,h3,p,h4,h5⟩:=hn;exact⟨h1.stay (by omega) hs,h2,h3,p,h4,h5.stay hs⟩
 ·intro Z pre x args A K' hZ1 hZ2 hI hm hk;rw[MZ] at hk ⊢;exact Apj (by omega) hI hm Bn9 g5 g6 hk
 ·intro Z pre x a' A hZ1 hZ2 hn;rw[MZ];exact Aut (by omega) (by omega) n5 ((World.cell?_of_block (hold b5 l5)).trans c5) hn
 ·intro Z xs B hS hI hdf
  have h0:Gr now l=0:=Aga fun p hp=>by
   obtain⟨j,hj⟩:=List.mem_iff_getElem?.1 hp;exact hI.2 j (hS j (List.getElem?_eq_some_iff.1 hj).1) p hj
  rw[MZ] at hdf ⊢;exact hK0 Z B (by rw[h0];exact hI.1) h0 hdf
 ·rintro c' Z xs B _ ⟨rfl,pre,x,p,q1,q2,q3,q4,hI⟩ hdf
  have hp:Gr now l=p.1:=Aom q3 q4 fun j hj q hq=>q1 j (q2 j hj (List.getElem?_eq_some_iff.1 hq).1) q hq;rw[MZ] at hdf ⊢;refine wpIn_ret ?_;exact hK1 Z B (by rw[hp];exact hI) hdf
theorem A2t:stC=.seq (sL stC) (.seq (sL (sR stC)) (.seq (.seq (.region 2 (Vc (sL (sL (sR (sR stC))))) false) (.block 0 (.rangeFunc (.tmp 19) #[20,21] Amc Abw))) (.seq (.region 6 (Vc (sL (sR (sR (sR stC))))) false) .ret))):=by kernel_rfl
theorem Bau:∃ty pos aft x,(Vc (sL (sL (sR (sR stC)))))[2]?=some { dst:=some 19,op:=.call { callee:=.value (.func 97),args:= #[.tmp 18],argTypes:=x },type:=ty,pos:=pos,after:=aft,guard:=none }:=
 ⟨_,_,_,_,rfl⟩
abbrev UO(v i x lf model now:Int)(n n1 n2:Nat)(c c1 c2:Ae):Ae:=[.agg [Ar v,Ar i,Ar x,.lst false 3 n c,Ar lf,.lst false 1 n1 c1,.lst false 1 n2 c2],Ag model,Ar now]
abbrev Bjr(now:Int)(e:En):St:=⟨lk [(5,.ptr 5 0),(6,.ptr 6 0),(7,.ptr 7 0)],C4 [(5,.st [Ar now]),(6,.st [Ar 0]),(7,.st [Ag e.k,.lst false 3 e.na e.an,.lst false 2 e.ns e.st])]⟩
abbrev A9b(now:Int)(n:Nat)(c:Ae):St:=⟨lk [(5,.ptr 5 0),(6,.ptr 6 0),(18,.lst false 2 n c)],C4 [(5,.st [Ar now]),(6,.st [Ar 0])]⟩
abbrev As7(k:Int):St:=⟨lk [(6,.ptr 56000 0)],C4 [(56000,.st [Ar k])]⟩
theorem Aex{G:Vg}{P:Program}{f:FuncId}{args:Ae}{vals:Ae}(hf:∃fn,P.funcs[f]?=some fn/\fn.body.isSome=true)(F0:∀(i:Nat)(p:PV),args[i]?=some p->IE p=false)(htr:∀(w:World)(A:Nat->Prop)(bt:FK)(us:List Value),Nr w A bt 0 args us->Bx (Vx w A) args us)(ho0:∀(w:World)(A:Nat->Prop)(bt:FK)(own:Bt),Kv w A own bt (N6 vals) 0 args [])(h:∀(w:World)(Y:Nat->Prop)(us:List Value),Ins w Y FJ args us->Calls P f us.toArray w fun e w'=>∃vs own,e=.returned (G8 vs)/\Out w w' Y FJ args own ⟨vals,[]⟩ vs):C9 G P f args ⟨vals,[]⟩:=by
 refine⟨hf,fun w Y bt us Rs _ _=>?_⟩
 have hl:∀i q,bt i 0≠some q:=by
  intro i q e;obtain⟨p,h1,h2⟩:=Rs.l0 i q e;rw[F0 i p h1] at h2;cases h2
 have ht:=htr w _ bt us Rs.args;have Bib:Ins w Y FJ args us:=⟨Rs.Ylt,fun b _=>Ng b,fun b x=>(Ng b x).elim,fun _ _ _ _ _ _ _ x=>(by cases x),fun _ _ x=>(by cases x),GG (ht.mono fun p v hp=>ZD (fun b _ hb=>hb.elim (fun x=>(Ng b x).elim) .inr) hp)⟩
 refine (h w Y us Bib).mono ?_
 rintro e w' ⟨vs,own,rfl,ho⟩
 have hA:Yr bt own Y=Yr FJ own Y:=by
  funext b
  apply propext;constructor
  ·rintro (h1|⟨i,o,h1⟩|h1)
   ·exact .inl h1
   ·exact absurd h1 (hl i _)
   ·exact .inr (.inr h1)
  ·rintro (h1|⟨i,o,h1⟩|h1)
   ·exact .inl h1
   ·cases h1
   ·exact .inr (.inr h1)
 refine⟨vs,own,rfl,ho.os,ho.tape,ho.output,ho.ext.weaken (fun b _ hb=>absurd hb (Ng b)),fun b j hb _=>ho.rng b j hb ?_,by rw[hA];exact ho.vals,ho0 _ _ _ _,fun j b o hj=>⟨(ho.fresh j b o hj).1,fun Ck=>?_⟩,ho.inj⟩
 ·rintro⟨i,p,_,⟨k,o,h1,_⟩|⟨o,ps,h1,_⟩⟩
  ·cases h1
  ·cases h1
 ·obtain⟨⟨i,k,o',h1⟩,_⟩:=(ho.fresh j b o hj).2 Ck;cases h1
theorem Av.slice_form{w:World}{A:Nat->Prop}{z:Bool}{es n:Nat}{c:Ae}{v:Value}(h:Av w A (.lst z es n c) v):∃ad k q,v=.slice ad k q:=by generalize hp:PV.lst z es n c=p at h;cases h<;>first|exact⟨_,_,_,rfl⟩|cases hp
theorem Azi{G:Vg}{v i x lf model now:Int}{n1 n2:Nat}{c1 c2:Ae}{es:List En}{l:List (Int × Int)}(hn:es.length<=1000)(hf:∀e∈es,e.fit)(Fn:Ai5 model es=Jm l):C9 G prog 54 (UO v i x lf model now es.length n1 n2 (Mf es) c1 c2) ⟨[Ar (Gr now l)],[]⟩:=by
 refine Aex ⟨_,Tryz.func54,rfl⟩ ?_ ?_ (fun _ _ _ _=>rfl) ?_
 ·intro i p h
  match i,h with
  |0,h=>cases h;rfl
  |1,h=>cases h;rfl
  |2,h=>cases h;rfl
 ·intro w A bt us hp
  match us,hp with
  |[u0,u1,u2],⟨⟨vs,e,_,h0⟩,h1,h2,_⟩=>
   refine⟨⟨vs,e,?_⟩,⟨trivial,h1.2⟩,⟨trivial,h2.2⟩,trivial⟩
   match vs,h0 with
   |[v0,v1,v2,v3,v4,v5,v6],⟨k0,k1,k2,k3,k4,k5,k6,_⟩=>exact⟨⟨trivial,k0⟩,⟨trivial,k1⟩,⟨trivial,k2⟩,⟨trivial,k3⟩,⟨trivial,k4⟩,⟨trivial,k5⟩,⟨trivial,k6⟩,trivial⟩
 intro w Y us Rs;have hY:=Rs.Ylt;have hk0:Am6 prog 28 0 Tryz.f54.params.toList (UO v i x lf model now es.length n1 n2 (Mf es) c1 c2) (fun tms bs=>some (tms,bs))=some ([(0,.agg [Ar v,Ar i,Ar x,.lst false 3 es.length (Mf es),Ar lf,.lst false 1 n1 c1,.lst false 1 n2 c2]),(1,Ag model),(2,Ar now)],[]):=by kernel_rfl
 have hus:us.length=3:=by
  match us,Rs.args with
  |[u0,u1,u2],_=>rfl
 obtain⟨tms,bs,Er,A28⟩:=XI Rs hk0;cases Er;obtain⟨h8,β0,hs0⟩:=A28 rfl (by omega);refine callsIn_wide.1 (callsIn_of_wp_marks (F:=Fence.wide) (n:=0) Tryz.func54 rfl trivial ?_ rfl);show stC.wpIn _ _ _ _ { tmps:=us.toArray++Array.replicate (28-us.toArray.size) undef,defers:=[] } _;generalize ({ tmps:=us.toArray++Array.replicate (28-us.toArray.size) undef,defers:=[] }:Act)=a0 at hs0 ⊢;have hXn:∀b,¬(TV FJ (UO v i x lf model now es.length n1 n2 (Mf es) c1 c2) h8).X b:=Ng;obtain⟨bq,el⟩:=A5c (xs:=noX) (fu:=2000) (d:=5) (es:=es) hn (by omega) hf v i x lf model n1 n2 c1 c2;have el:cl 96 _=_:=el;simp only[En.cells] at el;have An4:=An8 (model:=model) hf;have hfs:(Wk model es).st=Jm l:=(Auy model es).trans Fn;generalize Wk model es=E at el An4 hfs
 have hns:E.ns=l.length:=by
  have h1:=An4.2.1;rw[hfs,An0] at h1;omega
 refine KQ A2t (wpIn_seq (wpIn_wide.2 (Ry (ED _ _) mxT F2 hs0 (A38 cl v i x lf model now es.length n1 n2 (Mf es) c1 c2) ?_)));intro a1 w1 β1 RB;refine wpIn_seq (wpIn_wide.2 (Ry (ED _ _) mxT F2 RB (L:=224) (t:=0) (s1:=Bjr now E) ?_ ?_))
 ·refine (A3v cl v i x lf model now es.length n1 n2 (Mf es) c1 c2).trans ?_;simp only[Be,Bf,el]
 intro a2 w2 β2 HK;refine wpIn_seq (wpIn_seq (wpIn_region ?_));have hli:List.range (Vc (sL (sL (sR (sR stC))))).size=[0,1]++[2]:=by kernel_rfl
 rw[hli];refine L6 (ro:=none) (C:=CB) (call:=cl) (r:=((0:Nat),A9b now E.ns E.st)) (ED _ _) F2 ?_ [0,1] (List.take 2 (Vc (sL (sL (sR (sR stC))))).toList) (by kernel_rfl) ?_ (by kernel_rfl) HK (A5g cl E.k now E.na E.ns E.an E.st)
 rotate_left
 ·intro j i hj
  match j,hj with
  |0,hj=>cases hj;rfl
  |1,hj=>cases hj;rfl
 intro s' a4 w4 β4 Ug hs4;obtain⟨β5,s5,WM,MZ⟩:=Cv hs4 Ug;cases WM;obtain⟨b5,o5,e5,t5,l5,k5,f5⟩:=MZ.var (i:=5) (id:=5) (by decide) rfl rfl;obtain⟨b6,o6,e6,t6,l6,k6,f6⟩:=MZ.var (i:=6) (id:=6) (by decide) rfl rfl;obtain⟨v5,q5,r5⟩:=k5 0 _ rfl;obtain⟨v6,q6,r6⟩:=k6 0 _ rfl;have r5:=Av.val r5;have r6:=Av.val r6;subst r5 r6;have own6:w.heap.size<=b6/\¬Y b6:=⟨(MZ.ownd b6 ⟨6,o6,by trivial,e6⟩).elim (fun h=>absurd h (hXn b6)) (fun h=>h),fun hy=>MZ.Yx b6 hy ⟨6,o6,by trivial,e6⟩⟩
 have n56:b5≠b6:=fun e=>by
  subst e;have:=MZ.inj 5 6 b5 o5 o6 (by trivial) (by trivial) e5 e6;cases this
 have h18:Av w4 (Dv (A9b now E.ns E.st).hp β5 Y) (.lst false 2 E.ns E.st) (a4.tmps.getD 18 undef):=MZ.tms 18 (by decide);rw[hfs,hns] at h18
 have A7m:Av w4 (fun b=>b=b6) (.lst false 2 l.length (Jm l)) (a4.tmps.getD 18 undef):=h18.step ⟨Ci _,fun _ _ _=>rfl,fun _ _=>Fi.refl _ _⟩ fun b _ hb=>by
  have hb:b=b6:=hb;subst hb;exact .inl ⟨6,o6,by trivial,e6⟩
 obtain⟨ad,kk,qq,XW⟩:=Av.slice_form h18;have Ek:l.length<=100000:=by have:=An4.2.2.2;omega
 obtain⟨ty,pos,aft,xx,ho⟩:=Bau;rw[wpOpsIn_cons];unfold wpOpIn;rw[ho];simp only[Region.wanted,if_true];refine⟨fun _ _=>trivial,?_⟩
 rw[show Oper.semAt (WF none).round a4.eval { dst:=some 19,op:=.call { callee:=.value (.func 97),args:= #[.tmp 18],argTypes:=xx },type:=ty,pos:=pos,after:=aft,guard:=none }=execOp a4.eval { dst:=some 19,op:=.call { callee:=.value (.func 97),args:= #[.tmp 18],argTypes:=xx },type:=ty,pos:=pos,after:=aft,guard:=none } from rfl,
  TA (o:={ dst:=some 19,op:=.call { callee:=.value (.func 97),args:= #[.tmp 18],argTypes:=xx },type:=ty,pos:=pos,after:=aft,guard:=none }) rfl rfl ngT Tryz.func97 rfl]
 have e18:a4.eval (.tmp 18)=.slice ad kk qq:=XW;simp only[List.map_toArray,X4,List.map_nil,e18];refine⟨(fun h=>by cases h),(Aw5 ad 0 0 _ w4 kk qq).mono ?_⟩
 rintro e w5 ⟨rfl,hw5⟩
 have Bt7:w5.heap.size=w4.heap.size+1:=by rw[hw5,World.size_alloc]
 have o5w:w5.os=w4.os/\w5.tape=w4.tape/\w5.output=w4.output:=by rw[hw5];exact⟨rfl,rfl,rfl⟩
 have hold:∀b,b<w4.heap.size->w5.heap[b]?=w4.heap[b]?:=fun b hb=>by rw[hw5];exact Below.heap_alloc _ _ _ hb
 obtain⟨a5,ha5⟩:∃a5,a4.put (some 19) (.func (.func 136) #[] #[.pointer (some ⟨w4.heap.size,0,none⟩)])=a5:=⟨_,rfl⟩
 have hd5:a5.defers=[]:=by rw[<-ha5,Oj];exact MZ.dfr
 have hz5:a5.tmps.size=28:=by rw[<-ha5,Pj];exact MZ.tsz
 have t6':a5.tmps.getD 6 undef=.pointer (some ⟨b6,o6,none⟩):=by rw[<-ha5,FQ (by decide)];exact t6
 have ea:({ a5 with defers:={ target:=.collected (w4.heap.size+1),args:= #[] }::a5.defers }:Act)=Ww [{ target:=.collected (w4.heap.size+1),args:= #[] }] a5:=by unfold Ww;rw[hd5];rfl
 have XF:=MZ.fr;have hw4:=XF.step.size
 have mk:∀{Z B},QB w5 (w4.heap.size+1) b6 o6 (Gr now l) Z B->∃X0 β,(∀b,X0.X b->b=b6)/\Cj 28 B X0 Y β (As7 (Gr now l)) a5 B:=by
  intro Z B hI
  obtain⟨X0,β,h1,_,_,_,h2⟩:=Amj (B:=B) (Y:=Y) (a:=a5) (l:=[(6,.ptr 56000 0)]) (b6:=b6) (o6:=o6) (v:=Gr now l) hd5 hz5 (by
   intro q hq;simp only[Ch,Zp,or_false] at hq;subst hq;simp) hI.c6 hI.f6 (by have:=hI.size;omega) own6.2 (fun b hb=>by have:=hY b hb;have:=hI.size;omega) (by
   intro β e1 hA q hq;simp only[Ch,Zp,or_false] at hq;subst hq;exact⟨b6,o6,e1,t6'⟩) (by
   intro q hq id B4;simp only[Ch,Zp,or_false] at hq;subst hq;simp[Cd,Ct,Au] at B4;exact B4)
  exact⟨X0,β,h1,h2⟩
 have leave:∀{Z B XB β6 a6 w7},QB w5 (w4.heap.size+1) b6 o6 (Gr now l) Z B->B.heap[w4.heap.size+1]?=some (.deferred (some []))->(∀b,XB.X b->b=b6)->Cj 28 B XB Y β6 (As7 (Gr now l)) a6 w7 ->
   bodyPostM Fence.wide 0 prog Tryz.f54 (fun e w'=>∃vs own,e=.returned (G8 vs)/\Out w w' Y FJ (UO v i x lf model now es.length n1 n2 (Mf es) c1 c2) own ⟨[Ar (Gr now l)],[]⟩ vs) .ret (Ww [{ target:=.collected (w4.heap.size+1),args:= #[] }] a6) w7:=by
  intro Z B XB β6 a6 w7 hI hdf hXB hz;have Km:=hI.size
  have hD':w7.heap[w4.heap.size+1]?=some (.deferred (some [])):=by
   rw[hz.fr.step.keep (w4.heap.size+1) (by omega) fun hx=>by have:=hXB _ hx;omega]
   exact hdf
  show LeavesInM _ _ _ _ _ _ (a6.defers++[{ target:=.collected (w4.heap.size+1),args:= #[] }]) .returning w7;rw[hz.dfr];refine⟨by simp,.inl ⟨_,_,rfl,run_takeDeferred hD',?_⟩⟩
  have hu:Cj 28 w (TV FJ (UO v i x lf model now es.length n1 n2 (Mf es) c1 c2) h8) Y β6 (As7 (Gr now l)) a6 w7:=
   hz.unbase (fun _ h=>h) hY (fun b hx=>by rw[hXB b hx];exact own6.1) (fun k ⟨p,h1,h2⟩=>by
    match k,h1 with
    |0,h1=>cases h1;cases h2
    |1,h1=>cases h1;cases h2
    |2,h1=>cases h1;cases h2) (hI.os.trans (o5w.1.trans XF.os)) (hI.tape.trans (o5w.2.1.trans XF.tape)) (hI.output.trans (o5w.2.2.trans XF.output)) (by omega) (fun b hb=>(hI.keep b (by omega) (by omega)).trans ((hold b (by omega)).trans (XF.step.keep b hb (hXn b))))
  have hv:=hu.same (Aet (y:=none) hD') fun b hb=>World.putObj_heap_other (by omega);obtain⟨_,vv,r1,vs,own,r2,r3⟩:=LT (C:=CS) (f:=54) (fn:=Tryz.f54) Rs (res:=⟨[Ar (Gr now l)],[]⟩) (A3f v i x lf model now (Gr now l) es.length n1 n2 (Mf es) c1 c2) hv;exact⟨vv,r1,vs,own,r2,r3⟩
 rw[XW] at A7m;refine Axo (Y:=Y) (sv:=.slice ad kk qq) Ek t5 t6 l5 l6 n56 q5 q6 (f6 0 (Nat.zero_lt_succ _)) A7m rfl MZ.tsz hw5 rfl ?_ ?_
 ·intro Z B hI h0 hdf;rw[ha5,ea];obtain⟨XB,βB,hXB,hB⟩:=mk hI;refine wpIn_seq (Ad0 (Q':=fun e a' w'=>e=.normal/\∃β',Cj 28 B XB Y β' (As7 (Gr now l)) a' w') ?_ ?_)
  ·have hl9:List.range (Vc (sL (sR (sR (sR stC))))).size=[0]++[]:=by kernel_rfl
   rw[hl9];rw[h0] at hB ⊢;refine L6 (ro:=none) (C:=CB) (call:=cl) (r:=((0:Nat),As7 0)) (ED _ _) F2 ?_ [0] (Vc (sL (sR (sR (sR stC))))).toList (by kernel_rfl) ?_ (by kernel_rfl) hB (A5y cl 0)
   rotate_left
   ·intro j i hj
    match j,hj with
    |0,hj=>cases hj;rfl
   intro s6 a6 w6 β6 hk6 hs6;obtain⟨β7,s7,hk7,hs7⟩:=Cv hs6 hk6;cases hk7;exact⟨rfl,β7,hs7⟩
  ·rintro e a7 w7 ⟨a6,rfl,rfl,β6,hz⟩
   exact wpIn_ret (leave hI hdf hXB hz)
 ·intro Z B hI hdf;rw[ha5,ea];obtain⟨XB,βB,hXB,hB⟩:=mk hI;exact leave hI hdf hXB hB
theorem Ah9{G:Vg}{args:Ae}{r:Bv}(h:Akp args=some r):C9 G prog 54 args r:=by
 unfold Akp at h;split at h
 ·rename_i v i x n c lf n1 c1 n2 c2 model now;cases hb:(Nat.beq c.length (n*3)&&Nat.ble n 1000)
  ·rw[hb,cond_false] at h;cases h
  rw[hb,cond_true] at h;simp only[Fc] at hb;cases he:Ye c with
  |none=>rw[he] at h;cases h
  |some es=>
   rw[he] at h;simp only at h;cases hp:Rk (Ai5 model es) with
   |none=>rw[hp] at h;cases h
   |some l=>
    rw[hp] at h;cases h;obtain⟨rfl,hf⟩:=Af1 he;have hl:(Mf es).length=es.length*3:=UN En.cells_len es;have hn:n=es.length:=by have:=Dx hb.1;omega
    subst hn;exact Azi (R5 hb.2) hf (Aa7 hp)
 ·cases h
end
section
open Go.RowKit
def UK(p:PV)(u:Value):Prop:=p=.sc u\/∃vs:List Value,p=.agg (vs.map .sc)/\u=.agg ⟨vs⟩
theorem CL{w:World}{A:Nat->Prop}{own:Bt}:∀{vs us:List Value}{j:Nat},F6 w A own j (vs.map .sc) us->us=vs
 |[],[],_,_=>rfl
 |[],_::_,_,h=>h.elim
 |_::_,[],_,h=>h.elim
 |v::vs,u::us,j,h=>by
  have h1:Av w A (.sc v) u:=h.1;rw[h1.val,CL h.2]
theorem DB{w:World}{A:Nat->Prop}{own:Bt}:∀{vs:List Value}{j:Nat},F6 w A own j (vs.map .sc) vs
 |[],_=>trivial
 |v::vs,j=>⟨show Av w A (.sc v) v from .sc v,DB⟩
theorem VB{w:World}{A:Nat->Prop}{own:Bt}{z:Nat}:∀{vals:Ae}{us us':List Value}{j:Nat},Bx UK vals us->Aah w A own z j vals us'->us'=us
 |[],[],[],_,_,_=>rfl
 |[],[],_::_,_,_,h=>h.elim
 |[],_::_,_,_,h,_=>h.elim
 |_::_,[],_,_,h,_=>h.elim
 |_::_,_::_,[],_,_,h=>h.elim
 |p::ps,u::us,u'::us',j,hs,h=>by
  rw[VB hs.2 h.2]
  congr 1
  rcases hs.1 with rfl|⟨vs,rfl,rfl⟩
  ·exact Av.val (show Av w A (.sc u) u' from h.1)
  ·obtain⟨vs',rfl,h2⟩:=h.1;rw[CL h2]
structure Ga(w w':World)(b o n:Nat):Prop where
 os:w'.os=w.os
 tape:w'.tape=w.tape
 output:w'.output=w.output
 size:w.heap.size<=w'.heap.size
 grow:Fi w w' b
 other:∀k,k<w.heap.size->k≠b->w'.heap[k]?=w.heap[k]?
 cells:∀j,(j<o\/o+n<=j)->w'.cell? ⟨b,j,none⟩=w.cell? ⟨b,j,none⟩
 frz:∀j,(j<o\/o+n<=j)->w'.frozen? ⟨b,j,none⟩=w.frozen? ⟨b,j,none⟩
def bt1(b o:Nat):FK:=fun i j=>match i,j with|0,0=>some (b,o)|_,_=>none
theorem Aq2{b o k:Nat}(h:BtX (bt1 b o) k):k=b:=by
 obtain⟨i,j,o',h⟩:=h;unfold bt1 at h;split at h
 ·cases h;rfl
 ·cases h
theorem IZ{w:World}{A:Nat->Prop}{bt:FK}:∀{i:Nat}{ps:Ae}{us:List Value},Bx UK ps us->Nr w A bt i ps us
 |_,[],[],_=>trivial
 |_,[],_::_,h=>h.elim
 |_,_::_,[],h=>h.elim
 |i,p::ps,u::us,h=>by
  refine⟨?_,IZ h.2⟩;rcases h.1 with rfl|⟨vs,rfl,rfl⟩
  ·exact⟨.inl trivial,show Av w A (.sc u) u from .sc u⟩
  ·refine⟨vs,rfl,fun p hp=>?_,DB⟩;obtain⟨v,_,rfl⟩:=List.mem_map.1 hp;exact .inl trivial
theorem ZA{G:Vg}{P:Program}{f:FuncId}{vs vs':List Value}{args vals:Ae}{us rs:List Value}(hs:C9 G P f (.pbox (vs.map .sc)::args) ⟨vals,[vs'.map .sc]⟩)(ha:Bx UK args us)(hr:Bx UK vals rs){w:World}{b o:Nat}(hG:G.ok w)(hGl:∀k,G.bl k->k<w.heap.size/\k≠b)(hb:b<w.heap.size)(hc:∀j v,vs[j]?=some v->w.cell? ⟨b,o+j,none⟩=some v)(hf:∀j,j<vs.length->w.frozen? ⟨b,o+j,none⟩=false):
  Calls P f (.pointer (some ⟨b,o,none⟩)::us).toArray w fun e w'=>e=.returned (G8 rs)/\vs'.length=vs.length/\(∀j v,vs'[j]?=some v->w'.cell? ⟨b,o+j,none⟩=some v)/\(∀j,j<vs.length->w'.frozen? ⟨b,o+j,none⟩=false)/\Ga w w' b o vs.length:=by
 have hi:Ins w (fun _=>False) (bt1 b o) (.pbox (vs.map .sc)::args) (.pointer (some ⟨b,o,none⟩)::us):=by
  refine⟨fun _ h=>h.elim,fun _ h=>h.elim,fun k h=>by rw[Aq2 h];exact hb,fun i j i' j' k x x' h h'=>?_,fun i q h=>?_,?_,IZ ha⟩
  ·unfold bt1 at h h';split at h
   ·split at h'
    ·exact⟨rfl,rfl⟩
    ·cases h'
   ·cases h
  ·unfold bt1 at h;split at h
   ·exact⟨_,rfl,rfl⟩
   ·cases h
  ·refine⟨b,o,rfl,rfl,fun p hp=>?_,vs,DB,hc,fun k hk=>hf k (by simpa using hk)⟩;obtain⟨v,_,rfl⟩:=List.mem_map.1 hp;exact .inl trivial
 have Ek:∀i,∀q,(bt1 b o) i 0=some q->i=0/\q=(b,o):=by
  intro i q h;unfold bt1 at h;split at h
  ·cases h;exact⟨rfl,rfl⟩
  ·cases h
 refine (hs.2 w _ _ _ hi hG (fun k hk=>⟨(hGl k hk).1,fun hx=>(hGl k hk).2 (Aq2 hx)⟩)).mono ?_
 rintro e w' ⟨ws,own,rfl,out⟩
 have hv:=VB hr out.vals;subst hv;have ho:=out.outs;obtain⟨⟨b',o',h1,h2,zs,h3,h4,h5⟩,_⟩:=(show (∃b' o',(bt1 b o) 0 0=some (b',o')/\(vs'.map PV.sc).length=(vs.map PV.sc).length/\Atf w' (Yr (bt1 b o) own (fun _=>False)) own (N6 vals) b' o' (vs'.map .sc))/\_ from ho)
 cases h1;have hz:=CL h3;subst hz;simp only[List.length_map] at h2 h5
 have hL:∀k j,k<w.heap.size->(k≠b\/j<o\/o+vs.length<=j)->¬SK (bt1 b o) (.pbox (vs.map .sc)::args) k j:=by
  rintro k j hk Gh ⟨i,p,hp,hq⟩
  rcases hq with⟨x,y,hq,_⟩|⟨y,ps,hq,hy,Nl⟩
  ·unfold bt1 at hq;split at hq
   ·rename_i h;cases h
   ·cases hq
  ·obtain⟨rfl,h⟩:=Ek i _ hq;cases h;have:p=.pbox (vs.map .sc):=by simpa using hp.symm
   subst this;rcases Nl with⟨e,Ck⟩|e
   ·injection e with e;subst e;rw[List.length_map] at Ck;rcases Gh with h|h|h
    ·exact h rfl
    ·omega
    ·omega
   ·cases e
 refine⟨rfl,h2,h4,fun j hj=>h5 j (by omega),out.os,out.tape,out.output,out.ext.size,out.ext.bs b hb,fun k hk Gh=>out.ext.keep k hk fun hx=>Gh (Aq2 hx),fun j hj=>(out.rng b j hb (hL b j hb (.inr hj))).1,fun j hj=>(out.rng b j hb (hL b j hb (.inr hj))).2⟩
end
section
open Go.RowKit
theorem DI{w w':World}{Y:Nat->Prop}{bt:FK}{args:Ae}{v:Value}(hb:Below w.heap.size w w')(ho:Kv w' (Yr bt (fun _=>none) Y) (fun _=>none) bt (N6 [.sc v]) 0 args []):
  Out w w' Y bt args (fun _=>none) ⟨[.sc v],[]⟩ [v] where
 os:=hb.os
 tape:=hb.tape
 output:=hb.output
 ext:=⟨hb.size,fun b h _=>hb.block b h,fun b h=>Fi.same (hb.block b h)⟩
 rng:=fun b j h _=>⟨by unfold World.cell?;simp only[hb.block b h],by unfold World.frozen?;simp only[hb.block b h]⟩
 vals:=⟨Av.sc v,trivial⟩
 outs:=ho
 fresh:=fun j b o h=>by cases h
 inj:=fun j j' b o o' h=>by cases h
end
section
open Go.RowKit
theorem Aps(G:Vg)(args:Ae)(res:Bv)(h:A5q args=some res):C9 G prog 190 args res:=by
 refine⟨⟨_,Tryz.func190,by kernel_rfl⟩,fun w Y bt us hi _ _=>?_⟩;unfold A5q at h;split at h
 rotate_left
 ·cases h
 rename_i s c;cases h;have ps:=hi.args
 match us,ps with
 |[u1,u2],ps=>
  obtain⟨⟨_,p1⟩,⟨_,p2⟩,_⟩:=ps;have e1:u1=.string s:=Av.val (show Av w _ (Bl s) u1 from p1);have e2:u2=.int .u8 c:=Av.val (show Av w _ (.sc (.int .u8 c)) u2 from p2);subst e1 e2
  have walk:Calls prog 190 #[.string s,.int .u8 c] w fun e w'=>e=.returned (.int .i64 (Lib.indexByte s.data.toList c.toNat.toUInt8))/\w'=w:=by
   go_enter Tryz.func190,Tryz.ntmps190
   go_wp2
   rw[run_callFunc_extern Tryz.func206 (by kernel_rfl) (by kernel_rfl) (by kernel_rfl) (e:=Extern.BytealgIndexByte.indexByte) (by kernel_rfl),Lib.run_indexByteString];simp only[Result.andThen];rw[Oper.upon_value]
   go_wp2
   go_ret
   exact⟨rfl,rfl⟩
  refine walk.mono ?_
  rintro e w' ⟨rfl,rfl⟩
  exact⟨[.int .i64 (Lib.indexByte s.data.toList c.toNat.toUInt8)],fun _=>none,rfl,DI (Below.refl _ _) rfl⟩
 |[],ps=>exact ps.elim
 |[_],ps=>exact ps.2.elim
 |_::_::_::_,ps=>exact ps.2.2.elim
theorem Asj{p:ByteArray}(h:p.size=1):p=⟨#[p[0]!]⟩:=by
 obtain⟨⟨l⟩⟩:=p
 match l,h with
 |[x],_=>rfl
theorem Ape(G:Vg)(args:Ae)(res:Bv)(h:A46 args=some res):C9 G prog 229 args res:=by
 refine⟨⟨_,Tryz.func229,by kernel_rfl⟩,fun w Y bt us hi _ _=>?_⟩;unfold A46 at h;split at h
 rotate_left
 ·cases h
 rename_i s p;cases hq:Nat.beq p.size 1
 ·rw[hq] at h;cases h
 rw[hq,cond_true] at h;cases h;have hp:=Asj (Dx hq);generalize (p[0]!)=c at hp ⊢;subst hp;have ps:=hi.args
 match us,ps with
 |[u1,u2],ps=>
  obtain⟨⟨_,p1⟩,⟨_,p2⟩,_⟩:=ps;have e1:u1=.string s:=Av.val (show Av w _ (Bl s) u1 from p1);have e2:u2=.string ⟨#[c]⟩:=Av.val (show Av w _ (Bl ⟨#[c]⟩) u2 from p2);subst e1 e2
  have walk:Calls prog 229 #[.string s,.string ⟨#[c]⟩] w fun e w'=>e=.returned (.int .i64 (Lib.countByte s.data.toList c))/\w'=w:=by
   go_enter Tryz.func229,Tryz.ntmps229
   go_wp2
   rw[run_callFunc_extern Tryz.func237 (by kernel_rfl) (by kernel_rfl) (by kernel_rfl) (e:=Extern.BytealgCount.count) (by kernel_rfl),Lib.run_countString];simp only[Result.andThen];rw[Oper.upon_value]
   go_wp2
   go_ret
   exact⟨rfl,rfl⟩
  refine walk.mono ?_
  rintro e w' ⟨rfl,rfl⟩
  exact⟨[.int .i64 (Lib.countByte s.data.toList c)],fun _=>none,rfl,DI (Below.refl _ _) rfl⟩
 |[],ps=>exact ps.elim
 |[_],ps=>exact ps.2.elim
 |_::_::_::_,ps=>exact ps.2.2.elim
end
theorem Bko(a b:Nat)(ha:a<4294967296)(hb:b<4294967296):bits .or .u32 ((a:Nat):Int) ((b:Nat):Int)=((a ||| b:Nat):Int):=by
 have hx:a ||| b<2 ^ 32:=Nat.or_lt_two_pow (by omega) (by omega)
 have h1:(BitVec.ofInt 32 (a:Int)).toNat=a:=by
  rw[BitVec.ofInt_natCast,BitVec.toNat_ofNat];exact Nat.mod_eq_of_lt (by omega)
 have h2:(BitVec.ofInt 32 (b:Int)).toNat=b:=by
  rw[BitVec.ofInt_natCast,BitVec.toNat_ofNat];exact Nat.mod_eq_of_lt (by omega)
 show IntKind.u32.wrap ((BitVec.ofInt 32 (a:Int) ||| BitVec.ofInt 32 (b:Int)).toNat:Int)=_;rw[BitVec.toNat_or,h1,h2];simp only[wrap,IntKind.bits,IntKind.signed,UR,Bool.false_eq_true,if_false];omega
def HQ(a b c:Int):Al:=[Ou (a / 4),Ou (a % 4*16+b / 16),Ou (b % 16*4+c / 64),Ou (c % 64)]
def Acd:ByteArray:=⟨#[65,66,67,68,69,70,71,72,73,74,75,76,77,78,79,80,81,82,83,84,85,86,87,88,89,90,97,98,99,100,101,102,103,104,105,106,107,108,109,110,111,112,113,114,115,116,117,118,119,120,121,122,48,49,50,51,52,53,54,55,56,57,45,95]⟩
theorem R7{a b:Al}(ha:Cz a)(hb:Cz b):Cz (a++b):=by
 intro x hx;rcases B5.1 hx with h|h
 ·exact ha x h
 ·exact hb x h
section
open Go.Shelf Go.RowKit Go.Lib
def Afw:Go.Shelf.Ren:=⟨fun|119=>241|120=>240|137=>175|151=>233|152=>239|160=>203|167=>195|168=>194|169=>192|197=>232|217=>190|224=>226|225=>225|227=>216|228=>231|231=>214|232=>215|233=>217|234=>218|235=>219|236=>220|240=>209|242=>210|260=>238|266=>206|271=>234|276=>223|278=>224|n=>n,fun|0=>0|3=>3|4=>4|5=>5|9=>9|20=>20|21=>21|37=>35|46=>48|51=>246|70=>257|72=>259|75=>263|80=>235|105=>287|116=>278|117=>279|119=>212|124=>282|127=>272|138=>214|139=>215|164=>284|n=>n,fun|3=>0|4=>1|n=>n⟩
theorem Ahz:Lays.n167 prog Afw:={
 mixed:=by kernel_rfl
 f167:=Tryz.func195.trans (congrArg some (by kernel_rfl))
 f240:=Tryz.func209.trans (congrArg some (by kernel_rfl))
 f276:=Tryz.func223.trans (congrArg some (by kernel_rfl))
 t0:=Tryz.underlying0
 a0:=Tryz.isAgg0
 z0:=Tryz.sizeOf0
 v0:=Tryz.zeroValue0
 t4:=Tryz.underlying4
 a4:=Tryz.isAgg4
 z4:=Tryz.sizeOf4
 v4:=Tryz.zeroValue4
 t5:=Tryz.underlying5
 a5:=Tryz.isAgg5
 z5:=Tryz.sizeOf5
 v5:=Tryz.zeroValue5
 t9:=Tryz.underlying9
 a9:=Tryz.isAgg9
 z9:=Tryz.sizeOf9
 v9:=Tryz.zeroValue9
 t20:=Tryz.underlying20
 a20:=Tryz.isAgg20
 z20:=Tryz.sizeOf20
 v20:=Tryz.zeroValue20
 t37:=Tryz.underlying35
 a37:=Tryz.isAgg35
 z37:=Tryz.sizeOf35
 v37:=Tryz.zeroValue35
 t70:=Tryz.underlying257
 a70:=Tryz.isAgg257
 z70:=Tryz.sizeOf257
 v70:=Tryz.zeroValue257
 t72:=Tryz.underlying259
 a72:=Tryz.isAgg259
 z72:=Tryz.sizeOf259
 v72:=Tryz.zeroValue259
 t75:=Tryz.underlying263
 a75:=Tryz.isAgg263
 z75:=Tryz.sizeOf263
 v75:=Tryz.zeroValue263
 t164:=Tryz.underlying284
 a164:=Tryz.isAgg284
 z164:=Tryz.sizeOf284
 v164:=Tryz.zeroValue284 }
theorem Ajy:Lays.n168 prog Afw:={
 mixed:=by kernel_rfl
 f168:=Tryz.func194.trans (congrArg some (by kernel_rfl))
 f240:=Tryz.func209.trans (congrArg some (by kernel_rfl))
 f242:=Tryz.func210.trans (congrArg some (by kernel_rfl))
 f276:=Tryz.func223.trans (congrArg some (by kernel_rfl))
 f278:=Tryz.func224.trans (congrArg some (by kernel_rfl))
 t0:=Tryz.underlying0
 a0:=Tryz.isAgg0
 z0:=Tryz.sizeOf0
 v0:=Tryz.zeroValue0
 t3:=Tryz.underlying3
 a3:=Tryz.isAgg3
 z3:=Tryz.sizeOf3
 v3:=Tryz.zeroValue3
 t4:=Tryz.underlying4
 a4:=Tryz.isAgg4
 z4:=Tryz.sizeOf4
 v4:=Tryz.zeroValue4
 t5:=Tryz.underlying5
 a5:=Tryz.isAgg5
 z5:=Tryz.sizeOf5
 v5:=Tryz.zeroValue5
 t9:=Tryz.underlying9
 a9:=Tryz.isAgg9
 z9:=Tryz.sizeOf9
 v9:=Tryz.zeroValue9
 t20:=Tryz.underlying20
 a20:=Tryz.isAgg20
 z20:=Tryz.sizeOf20
 v20:=Tryz.zeroValue20
 t21:=Tryz.underlying21
 a21:=Tryz.isAgg21
 z21:=Tryz.sizeOf21
 v21:=Tryz.zeroValue21
 t37:=Tryz.underlying35
 a37:=Tryz.isAgg35
 z37:=Tryz.sizeOf35
 v37:=Tryz.zeroValue35
 t46:=Tryz.underlying48
 a46:=Tryz.isAgg48
 z46:=Tryz.sizeOf48
 v46:=Tryz.zeroValue48
 t51:=Tryz.underlying246
 a51:=Tryz.isAgg246
 z51:=Tryz.sizeOf246
 v51:=Tryz.zeroValue246
 t70:=Tryz.underlying257
 a70:=Tryz.isAgg257
 z70:=Tryz.sizeOf257
 v70:=Tryz.zeroValue257
 t72:=Tryz.underlying259
 a72:=Tryz.isAgg259
 z72:=Tryz.sizeOf259
 v72:=Tryz.zeroValue259
 t75:=Tryz.underlying263
 a75:=Tryz.isAgg263
 z75:=Tryz.sizeOf263
 v75:=Tryz.zeroValue263
 t164:=Tryz.underlying284
 a164:=Tryz.isAgg284
 z164:=Tryz.sizeOf284
 v164:=Tryz.zeroValue284 }
theorem Ajf:Lays.n169 prog Afw:={
 mixed:=by kernel_rfl
 f169:=Tryz.func192.trans (congrArg some (by kernel_rfl))
 t0:=Tryz.underlying0
 a0:=Tryz.isAgg0
 z0:=Tryz.sizeOf0
 v0:=Tryz.zeroValue0
 t3:=Tryz.underlying3
 a3:=Tryz.isAgg3
 z3:=Tryz.sizeOf3
 v3:=Tryz.zeroValue3
 t9:=Tryz.underlying9
 a9:=Tryz.isAgg9
 z9:=Tryz.sizeOf9
 v9:=Tryz.zeroValue9
 t37:=Tryz.underlying35
 a37:=Tryz.isAgg35
 z37:=Tryz.sizeOf35
 v37:=Tryz.zeroValue35
 t70:=Tryz.underlying257
 a70:=Tryz.isAgg257
 z70:=Tryz.sizeOf257
 v70:=Tryz.zeroValue257
 t72:=Tryz.underlying259
 a72:=Tryz.isAgg259
 z72:=Tryz.sizeOf259
 v72:=Tryz.zeroValue259
 t127:=Tryz.underlying272
 a127:=Tryz.isAgg272
 z127:=Tryz.sizeOf272
 v127:=Tryz.zeroValue272 }
theorem Ajw:Lays.n160 prog Afw:={
 mixed:=by kernel_rfl
 f119:=Tryz.func241.trans (congrArg some (by kernel_rfl))
 f120:=Tryz.func240.trans (congrArg some (by kernel_rfl))
 f137:=Tryz.func175.trans (congrArg some (by kernel_rfl))
 f151:=Tryz.func233.trans (congrArg some (by kernel_rfl))
 f152:=Tryz.func239.trans (congrArg some (by kernel_rfl))
 f160:=Tryz.func203.trans (congrArg some (by kernel_rfl))
 f197:=Tryz.func232.trans (congrArg some (by kernel_rfl))
 f217:=Tryz.func190.trans (congrArg some (by kernel_rfl))
 f224:=Tryz.func226.trans (congrArg some (by kernel_rfl))
 f225:=Tryz.func225.trans (congrArg some (by kernel_rfl))
 f227:=Tryz.func216.trans (congrArg some (by kernel_rfl))
 f228:=Tryz.func231.trans (congrArg some (by kernel_rfl))
 f231:=Tryz.func214.trans (congrArg some (by kernel_rfl))
 f232:=Tryz.func215.trans (congrArg some (by kernel_rfl))
 f233:=Tryz.func217.trans (congrArg some (by kernel_rfl))
 f234:=Tryz.func218.trans (congrArg some (by kernel_rfl))
 f235:=Tryz.func219.trans (congrArg some (by kernel_rfl))
 f236:=Tryz.func220.trans (congrArg some (by kernel_rfl))
 f260:=Tryz.func238.trans (congrArg some (by kernel_rfl))
 f266:=Tryz.func206.trans (congrArg some (by kernel_rfl))
 f271:=Tryz.func234.trans (congrArg some (by kernel_rfl))
 t0:=Tryz.underlying0
 a0:=Tryz.isAgg0
 z0:=Tryz.sizeOf0
 v0:=Tryz.zeroValue0
 t3:=Tryz.underlying3
 a3:=Tryz.isAgg3
 z3:=Tryz.sizeOf3
 v3:=Tryz.zeroValue3
 t4:=Tryz.underlying4
 a4:=Tryz.isAgg4
 z4:=Tryz.sizeOf4
 v4:=Tryz.zeroValue4
 t5:=Tryz.underlying5
 a5:=Tryz.isAgg5
 z5:=Tryz.sizeOf5
 v5:=Tryz.zeroValue5
 t9:=Tryz.underlying9
 a9:=Tryz.isAgg9
 z9:=Tryz.sizeOf9
 v9:=Tryz.zeroValue9
 t21:=Tryz.underlying21
 a21:=Tryz.isAgg21
 z21:=Tryz.sizeOf21
 v21:=Tryz.zeroValue21
 t46:=Tryz.underlying48
 a46:=Tryz.isAgg48
 z46:=Tryz.sizeOf48
 v46:=Tryz.zeroValue48
 t105:=Tryz.underlying287
 a105:=Tryz.isAgg287
 z105:=Tryz.sizeOf287
 v105:=Tryz.zeroValue287
 t116:=Tryz.underlying278
 a116:=Tryz.isAgg278
 z116:=Tryz.sizeOf278
 t117:=Tryz.underlying279
 a117:=Tryz.isAgg279
 z117:=Tryz.sizeOf279
 v117:=Tryz.zeroValue279
 t119:=Tryz.underlying212
 a119:=Tryz.isAgg212
 z119:=Tryz.sizeOf212
 t124:=Tryz.underlying282
 a124:=Tryz.isAgg282
 z124:=Tryz.sizeOf282
 v124:=Tryz.zeroValue282
 t138:=Tryz.underlying214
 a138:=Tryz.isAgg214
 z138:=Tryz.sizeOf214
 v138:=Tryz.zeroValue214
 t139:=Tryz.underlying215
 a139:=Tryz.isAgg215
 z139:=Tryz.sizeOf215
 v139:=Tryz.zeroValue215
 g3:=by kernel_rfl
 g4:=by kernel_rfl }
theorem Ab7:Builder.Extra prog Afw:={
 sizeBuilder:=by kernel_rfl
 liesBuilder:=by kernel_rfl
 t5:=Tryz.underlying5
 a5:=Tryz.isAgg5
 z5:=Tryz.sizeOf5
 v5:=Tryz.zeroValue5
 infoByte:=by kernel_rfl
 cellsByte:=by kernel_rfl
 sizeByte:=by kernel_rfl
 neB5:=by decide }
end
section
open Go.RowKit Go.Lib
section
variable {P:Program}
theorem CO(w:World)(dT sT ty elem:TypeId)(i:TypeInfo)(b o dLen dCap:Nat)(a:Addr)(sLen sCap k:Nat)(cs:List Value)(hu:P.underlying dT=some (.slice elem))(hq:P.info? elem=some i)(hk:k=Nat.min sLen dLen)(hn:cs.length=k*i.size)(Wj:∀j v,cs[j]?=some v->w.cell? (a.add j)=some v)(hc:∀j,j<cs.length->(w.cell? ⟨b,o+j,none⟩).isSome=true)(hf:∀j,j<cs.length->w.frozen? ⟨b,o+j,none⟩=false)(h1:∀v∈cs,v.oneCell'=true):
  (Builtin.copy_ #[dT,sT] ty #[.slice (some ⟨b,o,none⟩) dLen dCap,.slice (some a) sLen sCap]).run P w=.ok (goInt k) (w.setCells b o cs):=by
 have hl:=run_loadCells_list (P:=P) w a cs Wj;have Fn:=run_storeCells_cells (P:=P) b o cs 0 w (by simpa using hc) (by simpa using hf) h1;simp[Builtin.copy_,run_underlying hu,Builtin.lenOf,Builtin.firstCells,sizeOf,typeInfo,hq,<-hk,<-hn,hl,Fn]
theorem Qo(b:Nat)(vs:List Value)(o:Nat)(w:World)(k:Nat)(hk:(w.cell? ⟨b,k,none⟩).isSome=true):((w.setCells b o vs).cell? ⟨b,k,none⟩).isSome=true:=by have h:=(Db.setCells b vs o w).bs;obtain⟨v,hv⟩:=Option.isSome_iff_exists.1 hk;have h1:=KN hv;exact BF (by omega)
theorem Abv(w:World){o:Oper}{a:Act}{K:Act->World->Prop}{Q:Exit->Act->World->Prop}(d s:Operand)(t t':TypeId)(ho:o.op=.call { callee:=.builtin .copy,args:= #[d,s],argTypes:= #[t,t'] })(v u:Value)(hd:a.eval d=v)(hs:a.eval s=u){v':Value}{w':World}(hr:(Builtin.copy_ #[t,t'] o.type #[v,u]).run P w=.ok v' w')(h:K (a.put o.dst v') w'):o.wp P a w K Q:=by unfold Oper.wp execOp;simp only[ho,resolve,invoke,builtin,Sem.run_bind,Sem.run_pure,Result.andThen_ok,List.map_toArray,X4,List.map_nil,hd,hs,hr];exact h
theorem On(w:World){ops:Array Oper}{rest:List Oper}{o:Oper}{a:Act}{Q:Exit->Act->World->Prop}(hgd:o.guard=none)(d s:Operand)(t t':TypeId)(ho:o.op=.call { callee:=.builtin .copy,args:= #[d,s],argTypes:= #[t,t'] })(v u:Value)(hd:a.eval d=v)(hs:a.eval s=u){v':Value}{w':World}(hr:(Builtin.copy_ #[t,t'] o.type #[v,u]).run P w=.ok v' w')(h:wpList P ops Q rest (a.put o.dst v') w'):wpList P ops Q (o::rest) a w:=
 wpList_plain hgd fun _ hK=>Abv w d s t t' ho v u hd hs hr (hK _ _ h)
theorem BT{ops:Array Oper}{o:Oper}{a:Act}{w:World}{K:Act->World->Prop}{Q:Exit->Act->World->Prop}{E:Prop}(hg:o.guard=none)(d x:Operand)(dT sT:TypeId)(hop:o.op=Op.call { callee:=Callee.builtin Builtin.copy,args:= #[d,x],argTypes:= #[dT,sT] })(v u:Value)(hd:a.eval d=v)(hx:a.eval x=u){v':Value}{w':World}(hr:(Builtin.copy_ #[dT,sT] o.type #[v,u]).run P w=.ok v' w')(hK:K (a.put o.dst v') w'):
  if Region.wanted o (yielded ops a.tmps)=true then Oper.wp P o a w K Q else E:=by
 have hw:Region.wanted o (yielded ops a.tmps)=true:=by simp[Region.wanted,hg]
 rw[Cr hw];unfold Oper.wp;simp[execOp,hop,resolve,invoke,builtin,hd,hx,hr,Result.andThen];exact hK
end
end
section
variable {xs:FuncId->Option (Ae->Option Bv)}(fu d:Nat)(call:Ap)
theorem We(Y Z:ByteArray):Wn (CX xs) fu d 207 [Y,Z] fun call=>Aw (decide ((↑(ByteArray.size Y):Int)>=(↑(ByteArray.size Z):Int))) (As (decide (Int.toNat (↑(ByteArray.size Z):Int)<=ByteArray.size Y))<|Aa (ByteArray.extract Y 0 (Int.toNat (↑(ByteArray.size Z):Int))) fun a=>Bk [De (Array.toList (ByteArray.data a)==Array.toList (ByteArray.data Z))]) (Bk [false]):=by show _=_;kernel_rfl
theorem EG(Z Y:ByteArray):Wn (CX xs) fu d 191 [Z,Y] fun call=>Dl (call 207 [Z,Y]) fun a b=>Ax a fun a=>Ak b<|Bk [a]:=by show _=_;kernel_rfl
theorem Vu(Y:ByteArray)(Z:Int):Wn (CX xs) fu d 196 [.pbox [Y,Z]] fun call=>Aw (decide (Z<(↑(ByteArray.size Y):Int))) (As (decide (0<=Z))<|D4 ((Array.toList (ByteArray.data Y))[Z.toNat]?) fun a=>some ⟨[.sc (.int .u8 (↑(UInt8.toNat a):Int))],[[Y,Z]]⟩) (some ⟨[.sc (.int .u8 0)],[[Y,Z]]⟩):=by show _=_;kernel_rfl
theorem Sr(Z:ByteArray)(Y:Int)(X:ByteArray):Wn (CX xs) fu d 176 [.pbox [Z,Y],X] fun call=>As (decide (0<=Y))<|As (decide (Y.toNat<=ByteArray.size Z)&&decide (ByteArray.size Z<=ByteArray.size Z))<|Aa (ByteArray.extract Z Y.toNat (ByteArray.size Z)) fun a=>Dl (call 191 [a,X]) fun a b=>Ax a fun a=>Ak b<|Aw (!a) (some ⟨[false],[[Z,Y]]⟩) (Aa (wrap .i64 (Y+(↑(ByteArray.size X):Int))) fun a=>some ⟨[true],[[Z,a]]⟩):=by show _=_;kernel_rfl
theorem GI(Z:Int):Wn (CX xs) fu d 222 [.sc (.int .i32 Z)] fun call=>Aw (decide (Z>=56320)) (Bk [De (decide (Z<=57343))]) (Bk [false]):=by show _=_;kernel_rfl
def Bw(Z:ByteArray)(Y:Int)(X:Nat)(W V:Int)(U:ByteArray)(T:Int):Option Bv:=Kk fu call 221 Tryz.f221 [.pbox [Z,Y]] [.r,.r,.l,.r,.l] X ⟨lk [(0,.ptr 120000 0),(4,.sc (.int .i32 W)),(6,V)],C4 [(120000,.st [U,T])]⟩
theorem Ho(X:ByteArray)(W:Int)(V:Nat)(Z Y:Int)(U:ByteArray)(T:Int):Bw fu call X W (V+1) Z Y U T=(Aw (decide (Y<4)) (A9 (call 196 [.pbox [U,T]]) fun a b=>Cg .u8 a fun a=>Ad b fun b c=>Ad b fun b e=>Bd b fun b=>Cg .i64 e fun e=>Ak c<|Aw (decide (a>=48)) (Aw (decide (a<=57)) (Aa (Eu .i32 Z 4) fun c=>Aa (wrap .u8 (a-48)) fun a=>Aa (wrap .i32 a) fun a=>Aa (wrap .i32 (c+a)) fun a=>Aa (wrap .i64 (e+1)) fun c=>Aa (wrap .i64 (Y+1)) fun e=>Bw fu call X W V a e b c) (Aw (decide (a>=97)) (Aw (decide (a<=102)) (Aa (Eu .i32 Z 4) fun c=>Aa (wrap .u8 (a-97)) fun a=>Aa (wrap .i32 a) fun a=>Aa (wrap .i32 (c+a)) fun a=>Aa (wrap .i32 (a+10)) fun a=>Aa (wrap .i64 (e+1)) fun c=>Aa (wrap .i64 (Y+1)) fun e=>Bw fu call X W V a e b c) (Aw (decide (a>=65)) (Aw (decide (a<=70)) (Aa (Eu .i32 Z 4) fun c=>Aa (wrap .u8 (a-65)) fun a=>Aa (wrap .i32 a) fun a=>Aa (wrap .i32 (c+a)) fun a=>Aa (wrap .i32 (a+10)) fun a=>Aa (wrap .i64 (e+1)) fun c=>Aa (wrap .i64 (Y+1)) fun e=>Bw fu call X W V a e b c) (some ⟨[.sc (.int .i32 0),false],[[b,e]]⟩)) (some ⟨[.sc (.int .i32 0),false],[[b,e]]⟩))) (Aw (decide (a>=65)) (Aw (decide (a<=70)) (Aa (Eu .i32 Z 4) fun c=>Aa (wrap .u8 (a-65)) fun a=>Aa (wrap .i32 a) fun a=>Aa (wrap .i32 (c+a)) fun a=>Aa (wrap .i32 (a+10)) fun a=>Aa (wrap .i64 (e+1)) fun c=>Aa (wrap .i64 (Y+1)) fun e=>Bw fu call X W V a e b c) (some ⟨[.sc (.int .i32 0),false],[[b,e]]⟩)) (some ⟨[.sc (.int .i32 0),false],[[b,e]]⟩)))) (Aw (decide (a>=97)) (Aw (decide (a<=102)) (Aa (Eu .i32 Z 4) fun c=>Aa (wrap .u8 (a-97)) fun a=>Aa (wrap .i32 a) fun a=>Aa (wrap .i32 (c+a)) fun a=>Aa (wrap .i32 (a+10)) fun a=>Aa (wrap .i64 (e+1)) fun c=>Aa (wrap .i64 (Y+1)) fun e=>Bw fu call X W V a e b c) (Aw (decide (a>=65)) (Aw (decide (a<=70)) (Aa (Eu .i32 Z 4) fun c=>Aa (wrap .u8 (a-65)) fun a=>Aa (wrap .i32 a) fun a=>Aa (wrap .i32 (c+a)) fun a=>Aa (wrap .i32 (a+10)) fun a=>Aa (wrap .i64 (e+1)) fun c=>Aa (wrap .i64 (Y+1)) fun e=>Bw fu call X W V a e b c) (some ⟨[.sc (.int .i32 0),false],[[b,e]]⟩)) (some ⟨[.sc (.int .i32 0),false],[[b,e]]⟩))) (Aw (decide (a>=65)) (Aw (decide (a<=70)) (Aa (Eu .i32 Z 4) fun c=>Aa (wrap .u8 (a-65)) fun a=>Aa (wrap .i32 a) fun a=>Aa (wrap .i32 (c+a)) fun a=>Aa (wrap .i32 (a+10)) fun a=>Aa (wrap .i64 (e+1)) fun c=>Aa (wrap .i64 (Y+1)) fun e=>Bw fu call X W V a e b c) (some ⟨[.sc (.int .i32 0),false],[[b,e]]⟩)) (some ⟨[.sc (.int .i32 0),false],[[b,e]]⟩)))) (some ⟨[.sc (.int .i32 Z),true],[[U,T]]⟩)):=by kernel_rfl
theorem Ru(Z:ByteArray)(Y:Int):Wn (CX xs) fu d 221 [.pbox [Z,Y]] fun call=>Bw fu call Z Y fu 0 0 Z (Y):=by show _=_;kernel_rfl
theorem Qj(Z:ByteArray)(Y:Int):Wn (CX xs) fu d 208 [.pbox [Z,Y]] fun call=>A9 (call 221 [.pbox [Z,Y]]) fun a b=>Br .i32 a fun a c=>Gv c fun c=>Ad b fun b e=>Ad b fun b f=>Bd b fun b=>Cg .i64 f fun f=>Ak e<|Aw (!c) (some ⟨[.sc (.int .i32 0),false],[[b,f]]⟩) (Dl (call 222 [.sc (.int .i32 a)]) fun c e=>Ax c fun c=>Ak e<|Aw c (some ⟨[.sc (.int .i32 0),false],[[b,f]]⟩) (Aw (decide (a<55296)) (some ⟨[.sc (.int .i32 a),true],[[b,f]]⟩) (Aw (decide (a>56319)) (some ⟨[.sc (.int .i32 a),true],[[b,f]]⟩) (A9 (call 176 [.pbox [b,f],Bl ⟨#[92,117]⟩]) fun b c=>Gv b fun b=>Ad c fun c e=>Ad c fun c f=>Bd c fun c=>Cg .i64 f fun f=>Ak e<|Aw (!b) (some ⟨[.sc (.int .i32 0),false],[[c,f]]⟩) (A9 (call 221 [.pbox [c,f]]) fun b c=>Br .i32 b fun b e=>Gv e fun e=>Ad c fun c f=>Ad c fun c g=>Bd c fun c=>Cg .i64 g fun g=>Ak f<|Aw (!e) (some ⟨[.sc (.int .i32 0),false],[[c,g]]⟩) (Dl (call 222 [.sc (.int .i32 b)]) fun e f=>Ax e fun e=>Ak f<|Aw (!e) (some ⟨[.sc (.int .i32 0),false],[[c,g]]⟩) (Aa (wrap .i32 (a-55296)) fun a=>Aa (Eu .i32 a 10) fun a=>Aa (wrap .i32 (65536+a)) fun a=>Aa (wrap .i32 (b-56320)) fun b=>Aa (wrap .i32 (a+b)) fun a=>some ⟨[.sc (.int .i32 a),true],[[c,g]]⟩))))))):=by show _=_;kernel_rfl
theorem Oe(Z:ByteArray)(Y:Int):Wn (CX xs) fu d 193 [.pbox [Z,Y]] fun call=>A9 (call 176 [.pbox [Z,Y],Bl ⟨#[117]⟩]) fun a b=>Gv a fun a=>Ad b fun b c=>Ad b fun b e=>Bd b fun b=>Cg .i64 e fun e=>Ak c<|Aw a (A9 (call 208 [.pbox [b,e]]) fun a b=>Br .i32 a fun a c=>Gv c fun c=>Ad b fun b e=>Ad b fun b f=>Bd b fun b=>Cg .i64 f fun f=>Ak e<|some ⟨[.sc (.int .i32 a),c],[[b,f]]⟩) (A9 (call 196 [.pbox [b,e]]) fun a b=>Cg .u8 a fun a=>Ad b fun b c=>Ad b fun b e=>Bd b fun b=>Cg .i64 e fun e=>Ak c<|Aa (wrap .i32 a) fun a=>Aw (a==34) (Aa (wrap .i64 (e+1)) fun c=>some ⟨[.sc (.int .i32 a),true],[[b,c]]⟩) (Aw (a==92) (Aa (wrap .i64 (e+1)) fun c=>some ⟨[.sc (.int .i32 a),true],[[b,c]]⟩) (Aw (a==47) (Aa (wrap .i64 (e+1)) fun c=>some ⟨[.sc (.int .i32 a),true],[[b,c]]⟩) (Aw (a==98) (Aa (wrap .i64 (e+1)) fun a=>some ⟨[.sc (.int .i32 8),true],[[b,a]]⟩) (Aw (a==102) (Aa (wrap .i64 (e+1)) fun a=>some ⟨[.sc (.int .i32 12),true],[[b,a]]⟩) (Aw (a==110) (Aa (wrap .i64 (e+1)) fun a=>some ⟨[.sc (.int .i32 10),true],[[b,a]]⟩) (Aw (a==114) (Aa (wrap .i64 (e+1)) fun a=>some ⟨[.sc (.int .i32 13),true],[[b,a]]⟩) (Aw (a==116) (Aa (wrap .i64 (e+1)) fun a=>some ⟨[.sc (.int .i32 9),true],[[b,a]]⟩) (some ⟨[.sc (.int .i32 0),false],[[b,e]]⟩))))))))):=by show _=_;kernel_rfl
end
def Eh(t:ByteArray)(r:Al):Prop:=∃pre,Cs t=pre++r
theorem Eh.all(t:ByteArray):Eh t (Cs t):=⟨[],rfl⟩
theorem Eh.len{t:ByteArray}{r:Al}(h:Eh t r):r.length<=t.size:=by obtain⟨pre,h⟩:=h;have:=congrArg List.length h;rw[Ca,Wy] at this;omega
theorem Eh.app{t:ByteArray}{a r:Al}(h:Eh t (a++r)):Eh t r:=by obtain⟨pre,h⟩:=h;exact⟨pre++a,by rw[h,Zzv]⟩
theorem Eh.tail{t:ByteArray}{c:Int}{r:Al}(h:Eh t (c::r)):Eh t r:=Eh.app (a:=[c]) h
theorem Eh.drop{t:ByteArray}{r:Al}(h:Eh t r)(k:Nat):Eh t (r.drop k):=by rw[<-List.take_append_drop k r] at h;exact h.app
def Cn(t:ByteArray)(r:Al):Nat:=t.size-r.length
theorem Eh.eq{t:ByteArray}{r:Al}(h:Eh t r):r=(Cs t).drop (Cn t r):=by
 have hl:=h.len;obtain⟨pre,h⟩:=h
 have e:Cn t r=pre.length:=by
  have:=congrArg List.length h;rw[Ca,Wy] at this;unfold Cn;omega
 rw[e,h,List.drop_left]
theorem Eh.B{t:ByteArray}{r:Al}(h:Eh t r):Cz r:=by obtain⟨pre,h⟩:=h;exact fun x hx=>Va t x (by rw[h];exact List.mem_append_right _ hx)
theorem Eh.at{t:ByteArray}{c:Int}{r:Al}(h:Eh t (c::r)):∃b:UInt8,(Array.toList t.data)[Cn t (c::r)]?=some b/\(b.toNat:Int)=c:=by
 have he:=h.eq
 have:(Cs t)[Cn t (c::r)]?=some c:=by
  have:=congrArg (fun l=>l[0]?) he;rw[List.getElem?_drop] at this;exact this.symm
 unfold Cs at this;rw[List.getElem?_map] at this;obtain⟨b,hb,rfl⟩:=Option.map_eq_some_iff.1 this;exact⟨b,hb,rfl⟩
theorem R0{t:ByteArray}{c:Int}{r:Al}(h:Eh t (c::r)):Cn t r=Cn t (c::r)+1:=by have:=h.len;unfold Cn;rw[Tm] at this ⊢;omega
theorem JB(t:ByteArray):Cn t []=t.size:=rfl
abbrev Cy(t:ByteArray)(r:Al):Ae:=[Bl t,Ar (Cn t r:Int)]
def hdS:Al->Int
 |[]=>0
 |c::_=>c
section
variable {fu d:Nat}{xs:FuncId->Option (Ae->Option Bv)}
theorem Sk{t:ByteArray}{r:Al}(h:Eh t r):Ac (CX xs) prog fu (d+1) 196 [.pbox (Cy t r)]=some ⟨[.sc (.int .u8 (hdS r))],[Cy t r]⟩:=by
 rw[Vu];cases r with
 |nil=>
  show _=some (Bv.mk [.sc (.int .u8 0)] [[Bl t,Ar (Cn t []:Int)]]);rw[JB];have e:decide ((t.size:Int)<(t.size:Int))=false:=by simp
  simp only[Be,Bf,e]
 |cons c r=>
  have hl:=h.len;obtain⟨b,hb,rfl⟩:=h.at
  have hp:Cn t ((b.toNat:Int)::r)<t.size:=by
   unfold Cn;rw[Tm] at hl ⊢;omega
  have e:decide ((Cn t ((b.toNat:Int)::r):Int)<(t.size:Int))=true:=by simp;omega
  have e2:decide ((0:Int)<=(Cn t ((b.toNat:Int)::r):Int))=true:=by simp
  rw[<-Jd (Cn t ((b.toNat:Int)::r))] at hb;simp only[Be,Bf,e,e2,hb,hdS]
theorem OT{s:ByteArray}{a:Nat}:s.extract a s.size=Ab ((Cs s).drop a):=by
 rw[<-Es (s.extract a s.size)]
 congr 1
 unfold Cs;rw[ByteArray.data_extract,Array.toList_extract,List.extract_eq_take_drop,<-List.map_drop,Hz];rw[List.length_drop];exact Ci _
theorem LB{s:ByteArray}{n:Nat}:s.extract 0 n=Ab ((Cs s).take n):=by
 rw[<-Es (s.extract 0 n)]
 congr 1
 unfold Cs;rw[ByteArray.data_extract,Array.toList_extract,List.extract_eq_take_drop,Nat.sub_zero,Me,List.map_take]
theorem A0q{a w:Al}(ha:Cz a)(hw:Cz w):Ac (CX xs) prog fu (d+1) 207 [Bl (Ab a),Bl (Ab w)]=some ⟨[De (w.isPrefixOf a)],[]⟩:=by
 rw[We,Ai,Ai];by_cases hl:w.length<=a.length
 ·have e1:decide ((a.length:Int)>=(w.length:Int))=true:=by simp;omega
  have e2:decide (Int.toNat (w.length:Int)<=a.length)=true:=by rw[Jd];simp;exact hl
  have e3:(Ab a).extract 0 (Int.toNat (w.length:Int))=Ab (a.take w.length):=by
   rw[Jd,LB,C7 ha]
  have e4:(Array.toList (Ab (a.take w.length)).data==Array.toList (Ab w).data)=w.isPrefixOf a:=by
   rw[Bool.eq_iff_iff,List.isPrefixOf_iff_prefix,beq_iff_eq];constructor
   ·intro h
    have h2:Ab (a.take w.length)=Ab w:=by
     cases hx:Ab (a.take w.length);cases hy:Ab w;rw[hx,hy] at h;exact congrArg ByteArray.mk (Array.toList_inj.1 h)
    have h3:=congrArg Cs h2;rw[C7 hw,C7 (fun x hx=>ha x (List.mem_of_mem_take hx))] at h3;exact List.prefix_iff_eq_take.2 h3.symm
   ·intro h;rw[<-List.prefix_iff_eq_take.1 h]
  simp only[Be,Bf,e1,e2,e3,e4]
 ·have e1:decide ((a.length:Int)>=(w.length:Int))=false:=by simp;omega
  have e4:w.isPrefixOf a=false:=by
   rw[Bool.eq_false_iff,ne_eq,List.isPrefixOf_iff_prefix];exact fun h=>hl h.length_le
  simp only[Be,Bf,e1,e4]
theorem Bgx{a w:Al}(ha:Cz a)(hw:Cz w):Ac (CX xs) prog fu (d+2) 191 [Bl (Ab a),Bl (Ab w)]=some ⟨[De (w.isPrefixOf a)],[]⟩:=by rw[EG];have e:Ac (CX xs) prog fu (d+1) 207 [Bl (Ab a),Bl (Ab w)]=_:=A0q ha hw;simp only[Be,Bf,e]
theorem Z6{t:ByteArray}{r w:Al}(h:Eh t r)(ht:t.size<=1000000)(hw:Cz w)(hw2:w.length<=100):Ac (CX xs) prog fu (d+3) 176 [.pbox (Cy t r),Bl (Ab w)]=some (match A7 w r with|some r'=>⟨[De true],[Cy t r']⟩|none=>⟨[De false],[Cy t r]⟩):=by
 have hl:=h.len;have he:=h.eq;have hp:Cn t r<=t.size:=Nat.sub_le _ _;have hh:=Bgx (fu:=fu) (d:=d) (xs:=xs) h.B hw;have e1:decide ((0:Int)<=(Cn t r:Int))=true:=by simp
 have e2:(decide (Int.toNat (Cn t r:Int)<=t.size)&&decide (t.size<=t.size))=true:=by
  rw[Jd];simp;exact hp
 have e3:t.extract (Int.toNat (Cn t r:Int)) t.size=Ab r:=by rw[Jd,OT,<-he]
 rw[Sr];unfold A7;by_cases hq:w.isPrefixOf r=true
 ·rw[Cr hq];rw[hq] at hh
  have hwl:w.length<=r.length:=by
   have:=List.IsPrefix.length_le (List.isPrefixOf_iff_prefix.1 hq);exact this
  have e4:wrap .i64 ((Cn t r:Int)+((Ab w).size:Int))=(Cn t (r.drop w.length):Int):=by
   rw[Ai,Bn];unfold Cn;rw[List.length_drop];omega
  simp only[Be,Bf,e1,e2,e3,hh,e4,Fl]
 ·rw[B3 hq];have Nl:w.isPrefixOf r=false:=Bool.eq_false_iff.2 hq;rw[Nl] at hh;simp only[Be,Bf,e1,e2,e3,hh,Gw]
theorem Az4(x:Int):Ac (CX xs) prog fu (d+1) 222 [.sc (.int .i32 x)]=some ⟨[De (Aa0 x)],[]⟩:=by
 rw[GI];unfold Aa0;by_cases h:56320<=x
 ·have e:decide (x>=56320)=true:=by simp;omega
  have e2:decide (56320<=x)=true:=by simp;omega
  simp only[Be,Bf,e,e2,XY]
 ·have e:decide (x>=56320)=false:=by simp;omega
  have e2:decide (56320<=x)=false:=by simp;omega
  simp only[Be,Bf,e,e2,UR]
def Axi(t:ByteArray)(o:PR Int):Bv:=⟨[.sc (.int .i32 (o.1.getD 0)),De (o.1.isSome)],[Cy t o.2]⟩
theorem ZP(c:Int):(48<=c/\c<=57/\Aix c=some (c-48))\/(97<=c/\c<=102/\Aix c=some (c-87))\/(65<=c/\c<=70/\Aix c=some (c-55))\/(¬(48<=c/\c<=57)/\¬(97<=c/\c<=102)/\¬(65<=c/\c<=70)/\Aix c=none):=by
 unfold Aix;by_cases h1:48<=c/\c<=57
 ·exact .inl ⟨h1.1,h1.2,Cr h1⟩
 ·by_cases h2:97<=c/\c<=102
  ·exact .inr (.inl ⟨h2.1,h2.2,by rw[B3 h1,Cr h2]⟩)
  ·by_cases h3:65<=c/\c<=70
   ·exact .inr (.inr (.inl ⟨h3.1,h3.2,by rw[B3 h1,B3 h2,Cr h3]⟩))
   ·exact .inr (.inr (.inr ⟨h1,h2,h3,by rw[B3 h1,B3 h2,B3 h3]⟩))
theorem Gj{x:Int}(h1: -2147483648<=x)(h2:x<=2147483647):wrap .i32 x=x:=by have:=IntWalk.i32_in x (by omega);exact this
theorem A9z{x:Int}(h0:0<=x)(h1:x<65536):Eu .i32 x 4=x*16:=by show wrap .i32 (x*2 ^ (min (4:Int).toNat IntKind.i32.bits))=_;rw[show min (4:Int).toNat IntKind.i32.bits=4 from rfl];exact Gj (by omega) (by omega)
theorem JL{t s0:ByteArray}{p0:Int}(ht:t.size<=1000000):∀(n:Nat)(nn:Nat)(x:Int)(r:Al),n<=4->n+1<=nn->0<=x->x<16 ^ (4-n)->Eh t r ->
  Bw fu (Ac (CX xs) prog fu (d+1)) s0 p0 nn x ((4-n:Nat):Int) t (Cn t r:Int)=some (Axi t (EC n x r))
 |0,nn,x,r,_,Gc,h0,h1,h=>by
  obtain⟨k,rfl⟩:∃k,nn=k+1:=⟨nn-1,by omega⟩
  rw[Ho];simp only[Be,Bf,show decide (((4-0:Nat):Int)<4)=false from rfl];rfl
 |n+1,nn,x,r,hn,Gc,h0,h1,h=>by
  obtain⟨k,rfl⟩:∃k,nn=k+1:=⟨nn-1,by omega⟩
  have pk:=Sk (fu:=fu) (d:=d) (xs:=xs) h;have hl:=h.len
  have hx:x<4096:=by
   have:n+1=1\/n+1=2\/n+1=3\/n+1=4:=by omega
   rcases this with e|e|e|e<;>rw[e] at h1<;>simp at h1<;>omega
  have FV:∀v,0<=v->v<=15->x*16+v<16 ^ (4-n):=by
   intro v hv0 hv1;have e:4-n=(4-(n+1))+1:=by omega
   rw[e,Int.pow_succ];omega
  have e4:decide (((4-(n+1):Nat):Int)<4)=true:=by simp;omega
  have e5:wrap .i64 (((4-(n+1):Nat):Int)+1)=((4-n:Nat):Int):=B0
  have sh:=A9z h0 (by omega);rw[Ho];cases r with
  |nil=>
   have pk2:Ac (CX xs) prog fu (d+1) 196 [.pbox (Cy t [])]=some ⟨[.sc (.int .u8 0)],[Cy t []]⟩:=pk
   repeat(with_reducible(first|apply Bj|apply Ay|apply Bi|apply Ba|apply Bm|apply Fb|apply Az|apply Bh|apply Hg);· first|constructor|(simp(disch:=omega)only[He,e4,pk2,Int.reduceGE,decide_false,decide_true]<;>first|constructor|omega)|omega)
   try simp(disch:=omega)only[Aa,e4,pk2,Int.reduceGE,decide_false,decide_true]
   rfl
  |cons c r=>
   have hc:=h.B c (by simp);have hp:=R0 h
   have e6:wrap .i64 ((Cn t (c::r):Int)+1)=(Cn t r:Int):=by
    rw[hp,wrap_i64 (by unfold Cn;omega) (by unfold Cn;omega)];omega
   have pk2:Ac (CX xs) prog fu (d+1) 196 [.pbox (Cy t (c::r))]=some ⟨[.sc (.int .u8 c)],[Cy t (c::r)]⟩:=pk;unfold EC;rcases ZP c with⟨g1,g2,g3⟩|⟨g1,g2,g3⟩|⟨g1,g2,g3⟩|⟨g1,g2,g3,g4⟩
   ·rw[g3];have ih:=JL (s0:=s0) (p0:=p0) ht n k (x*16+(c-48)) r (by omega) (by omega) (by omega) (FV _ (by omega) (by omega)) h.tail;have w1:wrap .u8 (c-48)=c-48:=Ow (by omega) (by omega);have w2:wrap .i32 (c-48)=c-48:=Gj (by omega) (by omega);have w3:wrap .i32 (x*16+(c-48))=x*16+(c-48):=Gj (by omega) (by omega)
    repeat(with_reducible(first|apply Bj|apply Ay|apply Bi|apply Ba|apply Bm|apply Fb|apply Az|apply Bh|apply Hg);· first|constructor|(simp(disch:=omega)only[He,e4,pk2,sh,w1,w2,w3,e5,e6,ih]<;>first|constructor|omega)|omega)
    try simp(disch:=omega)only[Aa,e4,pk2,sh,w1,w2,w3,e5,e6,ih]
   ·rw[g3];have ih:=JL (s0:=s0) (p0:=p0) ht n k (x*16+(c-87)) r (by omega) (by omega) (by omega) (FV _ (by omega) (by omega)) h.tail;have w1:wrap .u8 (c-97)=c-97:=Ow (by omega) (by omega);have w2:wrap .i32 (c-97)=c-97:=Gj (by omega) (by omega);have w3:wrap .i32 (x*16+(c-97))=x*16+(c-97):=Gj (by omega) (by omega);have w4:wrap .i32 (x*16+(c-97)+10)=x*16+(c-87):=by rw[Gj (by omega) (by omega)];omega
    repeat(with_reducible(first|apply Bj|apply Ay|apply Bi|apply Ba|apply Bm|apply Fb|apply Az|apply Bh|apply Hg);· first|constructor|(simp(disch:=omega)only[He,e4,pk2,sh,w1,w2,w3,w4,e5,e6,ih]<;>first|constructor|omega)|omega)
    try simp(disch:=omega)only[Aa,e4,pk2,sh,w1,w2,w3,w4,e5,e6,ih]
   ·rw[g3];have ih:=JL (s0:=s0) (p0:=p0) ht n k (x*16+(c-55)) r (by omega) (by omega) (by omega) (FV _ (by omega) (by omega)) h.tail;have w1:wrap .u8 (c-65)=c-65:=Ow (by omega) (by omega);have w2:wrap .i32 (c-65)=c-65:=Gj (by omega) (by omega);have w3:wrap .i32 (x*16+(c-65))=x*16+(c-65):=Gj (by omega) (by omega);have w4:wrap .i32 (x*16+(c-65)+10)=x*16+(c-55):=by rw[Gj (by omega) (by omega)];omega
    repeat(with_reducible(first|apply Bj|apply Ay|apply Bi|apply Ba|apply Bm|apply Fb|apply Az|apply Bh|apply Hg);· first|constructor|(simp(disch:=omega)only[He,e4,pk2,sh,w1,w2,w3,w4,e5,e6,ih]<;>first|constructor|omega)|omega)
    try simp(disch:=omega)only[Aa,e4,pk2,sh,w1,w2,w3,w4,e5,e6,ih]
   ·rw[g4];by_cases k1:48<=c
    ·by_cases k2:97<=c
     ·skip
      repeat(with_reducible(first|apply Bj|apply Ay|apply Bi|apply Ba|apply Bm|apply Fb|apply Az|apply Bh|apply Hg);· first|constructor|(simp(disch:=omega)only[He,e4,pk2]<;>first|constructor|omega)|omega)
      try simp(disch:=omega)only[Aa,e4,pk2]
      rfl
     ·by_cases k3:65<=c
      ·skip
       repeat(with_reducible(first|apply Bj|apply Ay|apply Bi|apply Ba|apply Bm|apply Fb|apply Az|apply Bh|apply Hg);· first|constructor|(simp(disch:=omega)only[He,e4,pk2]<;>first|constructor|omega)|omega)
       try simp(disch:=omega)only[Aa,e4,pk2]
       rfl
      ·skip
       repeat(with_reducible(first|apply Bj|apply Ay|apply Bi|apply Ba|apply Bm|apply Fb|apply Az|apply Bh|apply Hg);· first|constructor|(simp(disch:=omega)only[He,e4,pk2]<;>first|constructor|omega)|omega)
       try simp(disch:=omega)only[Aa,e4,pk2]
       rfl
    ·skip
     repeat(with_reducible(first|apply Bj|apply Ay|apply Bi|apply Ba|apply Bm|apply Fb|apply Az|apply Bh|apply Hg);· first|constructor|(simp(disch:=omega)only[He,e4,pk2]<;>first|constructor|omega)|omega)
     try simp(disch:=omega)only[Aa,e4,pk2]
     rfl
theorem A0s{t:ByteArray}{r:Al}(B2:10<=fu)(h:Eh t r)(ht:t.size<=1000000):Ac (CX xs) prog fu (d+2) 221 [.pbox (Cy t r)]=some (Axi t (EC 4 0 r)):=by rw[Ru];exact JL ht 4 fu 0 r (by omega) (by omega) (by omega) (by decide) h
theorem Jo:∀(n:Nat)(x:Int)(l:Al)(y:Int)(r:Al),EC n x l=(some y,r)->0<=x->0<=y/\y<(x+1)*16 ^ n
 |0,x,l,y,r,h,h0=>by
  cases h;omega
 |n+1,x,[],y,r,h,h0=>by cases h
 |n+1,x,c::l,y,r,h,h0=>by
  unfold EC at h;rcases ZP c with⟨g1,g2,g3⟩|⟨g1,g2,g3⟩|⟨g1,g2,g3⟩|⟨g1,g2,g3,g4⟩
  ·rw[g3] at h;have:=Jo n _ l y r h (by omega)
   have e:(x*16+(c-48)+1)*16 ^ n<=(x+1)*16 ^ (n+1):=by
    rw[Int.pow_succ,Int.mul_comm (16 ^ n) 16,<-Int.mul_assoc];exact Int.mul_le_mul_of_nonneg_right (by omega) (Int.pow_nonneg (by omega))
   omega
  ·rw[g3] at h;have:=Jo n _ l y r h (by omega)
   have e:(x*16+(c-87)+1)*16 ^ n<=(x+1)*16 ^ (n+1):=by
    rw[Int.pow_succ,Int.mul_comm (16 ^ n) 16,<-Int.mul_assoc];exact Int.mul_le_mul_of_nonneg_right (by omega) (Int.pow_nonneg (by omega))
   omega
  ·rw[g3] at h;have:=Jo n _ l y r h (by omega)
   have e:(x*16+(c-55)+1)*16 ^ n<=(x+1)*16 ^ (n+1):=by
    rw[Int.pow_succ,Int.mul_comm (16 ^ n) 16,<-Int.mul_assoc];exact Int.mul_le_mul_of_nonneg_right (by omega) (Int.pow_nonneg (by omega))
   omega
  ·rw[g4] at h;cases h
theorem JT{t:ByteArray}:∀(n:Nat)(x:Int)(l:Al),Eh t l->Eh t (EC n x l).2
 |0,x,l,h=>h
 |n+1,x,[],h=>h
 |n+1,x,c::l,h=>by
  unfold EC;cases Aix c with
  |none=>exact h
  |some v=>exact JT n _ l h.tail
theorem Aqo(l:Al):Arj l=List.isPrefixOf [92,117] l:=by
 match l with
 |[]=>rfl
 |[a]=>
  unfold Arj;split
  ·rename_i e;cases e
  ·simp[List.isPrefixOf]
 |a::b::r=>
  unfold Arj;split
  ·rename_i e;cases e;rfl
  ·rename_i h
   symm
   rw[Bool.eq_false_iff];intro hp;simp[List.isPrefixOf] at hp;exact h r (by rw[<-hp.1,<-hp.2])
theorem A5j{x:Int}(h0:0<=x)(h1:x<2097152):Eu .i32 x 10=x*1024:=by show wrap .i32 (x*2 ^ (min (10:Int).toNat IntKind.i32.bits))=_;rw[show min (10:Int).toNat IntKind.i32.bits=10 from rfl];exact Gj (by omega) (by omega)
theorem A2m{t:ByteArray}{r:Al}(B2:10<=fu)(h:Eh t r)(ht:t.size<=1000000):Ac (CX xs) prog fu (d+4) 208 [.pbox (Cy t r)]=some (Axi t (Wt r)):=by
 have hx:=A0s (d:=d+1) (xs:=xs) B2 h ht;have hs:=JT 4 0 r h;have hb:=Jo 4 0 r;rw[Qj];unfold Wt;rcases hq:EC 4 0 r with⟨o,r1⟩;rw[hq] at hx hs;simp only at hs;cases o with
 |none=>
  have FV:Ac (CX xs) prog fu (d+3) 221 [.pbox (Cy t r)]=some ⟨[.sc (.int .i32 0),De false],[Cy t r1]⟩:=hx
  repeat(with_reducible(first|apply Bj|apply Ay|apply Bi|apply Ba|apply Bm|apply Fb|apply Az|apply Bh|apply Hg);· first|constructor|(simp(disch:=omega)only[He,FV,Gw]<;>first|constructor|omega)|omega)
  try simp(disch:=omega)only[Aa,FV,Gw]
  rfl
 |some x=>
  have FV:Ac (CX xs) prog fu (d+3) 221 [.pbox (Cy t r)]=some ⟨[.sc (.int .i32 x),De true],[Cy t r1]⟩:=hx;have bx:=hb x r1 hq (by omega);have lw:∀x,Ac (CX xs) prog fu (d+3) 222 [.sc (.int .i32 x)]=some ⟨[De (Aa0 x)],[]⟩:=fun x=>Az4 (d:=d+2) x;cases hl:Aa0 x
  ·simp only[hl,Bool.false_eq_true,if_false];by_cases c1:x<55296
   ·rw[Cr (Or.inl c1)]
    repeat(with_reducible(first|apply Bj|apply Ay|apply Bi|apply Ba|apply Bm|apply Fb|apply Az|apply Bh|apply Hg);· first|constructor|(simp(disch:=omega)only[He,FV,lw,hl,Fl]<;>first|constructor|omega)|omega)
    try simp(disch:=omega)only[Aa,FV,lw,hl,Fl]
    rfl
   ·by_cases c2:56319<x
    ·rw[Cr (Or.inr c2)]
     repeat(with_reducible(first|apply Bj|apply Ay|apply Bi|apply Ba|apply Bm|apply Fb|apply Az|apply Bh|apply Hg);· first|constructor|(simp(disch:=omega)only[He,FV,lw,hl,Fl]<;>first|constructor|omega)|omega)
     try simp(disch:=omega)only[Aa,FV,lw,hl,Fl]
     rfl
    ·rw[B3 (by omega)];have ha:=Z6 (fu:=fu) (d:=d) (xs:=xs) hs ht (w:=[92,117]) (fun x hx=>by simp at hx;rcases hx with rfl|rfl<;>omega) (by decide)
     unfold A7 at ha;rw[<-Aqo] at ha;cases hB:Arj r1
     ·rw[hB,B3 (by simp)] at ha;simp only[Bool.false_eq_true,if_false];have Xk:Ac (CX xs) prog fu (d+3) 176 [.pbox (Cy t r1),Bl ⟨#[92,117]⟩]=some ⟨[De false],[Cy t r1]⟩:=ha
      repeat(with_reducible(first|apply Bj|apply Ay|apply Bi|apply Ba|apply Bm|apply Fb|apply Az|apply Bh|apply Hg);· first|constructor|(simp(disch:=omega)only[He,FV,lw,hl,Xk,Fl,Gw]<;>first|constructor|omega)|omega)
      try simp(disch:=omega)only[Aa,FV,lw,hl,Xk,Fl,Gw]
      rfl
     ·rw[hB,Cr rfl] at ha;simp only[if_true];have Xk:Ac (CX xs) prog fu (d+3) 176 [.pbox (Cy t r1),Bl ⟨#[92,117]⟩]=some ⟨[De true],[Cy t (r1.drop 2)]⟩:=ha;have hy:=A0s (d:=d+1) (xs:=xs) B2 (hs.drop 2) ht;have hby:=Jo 4 0 (r1.drop 2);unfold Al8;rcases Nl:EC 4 0 (r1.drop 2) with⟨o2,r2⟩;rw[Nl] at hy;cases o2 with
      |none=>
       have hy2:Ac (CX xs) prog fu (d+3) 221 [.pbox (Cy t (r1.drop 2))]=some ⟨[.sc (.int .i32 0),De false],[Cy t r2]⟩:=hy
       repeat(with_reducible(first|apply Bj|apply Ay|apply Bi|apply Ba|apply Bm|apply Fb|apply Az|apply Bh|apply Hg);· first|constructor|(simp(disch:=omega)only[He,FV,lw,hl,Xk,hy2,Fl,Gw]<;>first|constructor|omega)|omega)
       try simp(disch:=omega)only[Aa,FV,lw,hl,Xk,hy2,Fl,Gw]
       rfl
      |some y=>
       have hy2:Ac (CX xs) prog fu (d+3) 221 [.pbox (Cy t (r1.drop 2))]=some ⟨[.sc (.int .i32 y),De true],[Cy t r2]⟩:=hy;have by_:=hby y r2 Nl (by omega);cases Ws:Aa0 y
       ·simp only[Bool.false_eq_true,if_false]
        repeat(with_reducible(first|apply Bj|apply Ay|apply Bi|apply Ba|apply Bm|apply Fb|apply Az|apply Bh|apply Hg);· first|constructor|(simp(disch:=omega)only[He,FV,lw,hl,Ws,Xk,hy2,Fl,Gw]<;>first|constructor|omega)|omega)
        try simp(disch:=omega)only[Aa,FV,lw,hl,Ws,Xk,hy2,Fl,Gw]
        rfl
       ·simp only[if_true]
        have ly:56320<=y/\y<=57343:=by
         unfold Aa0 at Ws
         simpa using Ws
        have w1:wrap .i32 (x-55296)=x-55296:=Gj (by omega) (by omega);have w2:=A5j (x:=x-55296) (by omega) (by omega);have w3:wrap .i32 (65536+(x-55296)*1024)=65536+(x-55296)*1024:=Gj (by omega) (by omega);have w4:wrap .i32 (y-56320)=y-56320:=Gj (by omega) (by omega);have w5:wrap .i32 (65536+(x-55296)*1024+(y-56320))=65536+(x-55296)*1024+(y-56320):=Gj (by omega) (by omega)
        repeat(with_reducible(first|apply Bj|apply Ay|apply Bi|apply Ba|apply Bm|apply Fb|apply Az|apply Bh|apply Hg);· first|constructor|(simp(disch:=omega)only[He,FV,lw,hl,Ws,Xk,hy2,w1,w2,w3,w4,w5,Fl,Gw]<;>first|constructor|omega)|omega)
        try simp(disch:=omega)only[Aa,FV,lw,hl,Ws,Xk,hy2,w1,w2,w3,w4,w5,Fl,Gw]
        rfl
  ·simp only[if_true]
   repeat(with_reducible(first|apply Bj|apply Ay|apply Bi|apply Ba|apply Bm|apply Fb|apply Az|apply Bh|apply Hg);· first|constructor|(simp(disch:=omega)only[He,FV,lw,hl,Fl]<;>first|constructor|omega)|omega)
   try simp(disch:=omega)only[Aa,FV,lw,hl,Fl]
   rfl
theorem ZM(c:Int):(c=34/\GL c=some 34)\/(c=92/\GL c=some 92)\/(c=47/\GL c=some 47)\/(c=98/\GL c=some 8)\/(c=102/\GL c=some 12)\/(c=110/\GL c=some 10)\/(c=114/\GL c=some 13)\/(c=116/\GL c=some 9) \/
  ((c≠34/\c≠92/\c≠47/\c≠98/\c≠102/\c≠110/\c≠114/\c≠116)/\GL c=none):=by
 by_cases h1:c=34
 ·subst h1;exact .inl ⟨rfl,rfl⟩
 by_cases h2:c=92
 ·subst h2;exact .inr (.inl ⟨rfl,rfl⟩)
 by_cases h3:c=47
 ·subst h3;exact .inr (.inr (.inl ⟨rfl,rfl⟩))
 by_cases h4:c=98
 ·subst h4;exact .inr (.inr (.inr (.inl ⟨rfl,rfl⟩)))
 by_cases h5:c=102
 ·subst h5;exact .inr (.inr (.inr (.inr (.inl ⟨rfl,rfl⟩))))
 by_cases h6:c=110
 ·subst h6;exact .inr (.inr (.inr (.inr (.inr (.inl ⟨rfl,rfl⟩)))))
 by_cases h7:c=114
 ·subst h7;exact .inr (.inr (.inr (.inr (.inr (.inr (.inl ⟨rfl,rfl⟩))))))
 by_cases h8:c=116
 ·subst h8;exact .inr (.inr (.inr (.inr (.inr (.inr (.inr (.inl ⟨rfl,rfl⟩)))))))
 refine .inr (.inr (.inr (.inr (.inr (.inr (.inr (.inr ⟨⟨h1,h2,h3,h4,h5,h6,h7,h8⟩,?_⟩)))))));unfold GL;rw[B3 (by omega),B3 h4,B3 h5,B3 h6,B3 h7,B3 h8]
theorem Bc7{t:ByteArray}{r:Al}(B2:10<=fu)(h:Eh t r)(ht:t.size<=1000000):Ac (CX xs) prog fu (d+5) 193 [.pbox (Cy t r)]=some (Axi t (T8 r)):=by
 have ha:=Z6 (fu:=fu) (d:=d+1) (xs:=xs) h ht (w:=[117]) (fun x hx=>by simp at hx;omega) (by decide)
 have hl:=h.len;rw[Oe];cases r with
 |nil=>
  have Xk:Ac (CX xs) prog fu (d+4) 176 [.pbox (Cy t []),Bl ⟨#[117]⟩]=some ⟨[De false],[Cy t []]⟩:=ha;have pk:Ac (CX xs) prog fu (d+4) 196 [.pbox (Cy t [])]=some ⟨[.sc (.int .u8 0)],[Cy t []]⟩:=Sk (d:=d+3) h;have w0:wrap .i32 0=0:=rfl
  repeat(with_reducible(first|apply Bj|apply Ay|apply Bi|apply Ba|apply Bm|apply Fb|apply Az|apply Bh|apply Hg);· first|constructor|(simp(disch:=omega)only[He,Xk,pk,w0,Int.reduceBEq]<;>first|constructor|omega)|omega)
  try simp(disch:=omega)only[Aa,Xk,pk,w0,Int.reduceBEq]
  rfl
 |cons c r=>
  have hc:=h.B c (by simp);have hp:=R0 h
  have e6:wrap .i64 ((Cn t (c::r):Int)+1)=(Cn t r:Int):=by
   rw[hp,wrap_i64 (by unfold Cn;omega) (by unfold Cn;omega)];omega
  have w0:wrap .i32 c=c:=Gj (by omega) (by omega);have pk:Ac (CX xs) prog fu (d+4) 196 [.pbox (Cy t (c::r))]=some ⟨[.sc (.int .u8 c)],[Cy t (c::r)]⟩:=Sk (d:=d+3) h;have he:T8 (c::r)=if c=117 then Wt r else match GL c with|some x=>(some x,r)|none=>(none,c::r):=rfl
  rw[he];unfold A7 at ha;by_cases hu:c=117
  ·subst hu;rw[Cr rfl];have Xk:Ac (CX xs) prog fu (d+4) 176 [.pbox (Cy t (117::r)),Bl ⟨#[117]⟩]=some ⟨[De true],[Cy t r]⟩:=ha;have hcd:Ac (CX xs) prog fu (d+4) 208 [.pbox (Cy t r)]=some ⟨[.sc (.int .i32 ((Wt r).1.getD 0)),De ((Wt r).1.isSome)],[Cy t (Wt r).2]⟩:=A2m B2 h.tail ht
   repeat(with_reducible(first|apply Bj|apply Ay|apply Bi|apply Ba|apply Bm|apply Fb|apply Az|apply Bh|apply Hg);· first|constructor|(simp(disch:=omega)only[He,Xk,hcd]<;>first|constructor|omega)|omega)
   try simp(disch:=omega)only[Aa,Xk,hcd]
   rfl
  ·rw[B3 hu]
   have hb:(List.isPrefixOf [117] (c::r))=false:=by
    rw[Bool.eq_false_iff];intro hp;simp[List.isPrefixOf] at hp;exact hu hp.symm
   rw[hb,B3 (by simp)] at ha;have Xk:Ac (CX xs) prog fu (d+4) 176 [.pbox (Cy t (c::r)),Bl ⟨#[117]⟩]=some ⟨[De false],[Cy t (c::r)]⟩:=ha;rcases ZM c with⟨rfl,g⟩|⟨rfl,g⟩|⟨rfl,g⟩|⟨rfl,g⟩|⟨rfl,g⟩|⟨rfl,g⟩|⟨rfl,g⟩|⟨rfl,g⟩|⟨g1,g⟩
   ·rw[g]
    repeat(with_reducible(first|apply Bj|apply Ay|apply Bi|apply Ba|apply Bm|apply Fb|apply Az|apply Bh|apply Hg);· first|constructor|(simp(disch:=omega)only[He,Xk,pk,w0,e6,Int.reduceBEq]<;>first|constructor|omega)|omega)
    try simp(disch:=omega)only[Aa,Xk,pk,w0,e6,Int.reduceBEq]
    rfl
   ·rw[g]
    repeat(with_reducible(first|apply Bj|apply Ay|apply Bi|apply Ba|apply Bm|apply Fb|apply Az|apply Bh|apply Hg);· first|constructor|(simp(disch:=omega)only[He,Xk,pk,w0,e6,Int.reduceBEq]<;>first|constructor|omega)|omega)
    try simp(disch:=omega)only[Aa,Xk,pk,w0,e6,Int.reduceBEq]
    rfl
   ·rw[g]
    repeat(with_reducible(first|apply Bj|apply Ay|apply Bi|apply Ba|apply Bm|apply Fb|apply Az|apply Bh|apply Hg);· first|constructor|(simp(disch:=omega)only[He,Xk,pk,w0,e6,Int.reduceBEq]<;>first|constructor|omega)|omega)
    try simp(disch:=omega)only[Aa,Xk,pk,w0,e6,Int.reduceBEq]
    rfl
   ·rw[g]
    repeat(with_reducible(first|apply Bj|apply Ay|apply Bi|apply Ba|apply Bm|apply Fb|apply Az|apply Bh|apply Hg);· first|constructor|(simp(disch:=omega)only[He,Xk,pk,w0,e6,Int.reduceBEq]<;>first|constructor|omega)|omega)
    try simp(disch:=omega)only[Aa,Xk,pk,w0,e6,Int.reduceBEq]
    rfl
   ·rw[g]
    repeat(with_reducible(first|apply Bj|apply Ay|apply Bi|apply Ba|apply Bm|apply Fb|apply Az|apply Bh|apply Hg);· first|constructor|(simp(disch:=omega)only[He,Xk,pk,w0,e6,Int.reduceBEq]<;>first|constructor|omega)|omega)
    try simp(disch:=omega)only[Aa,Xk,pk,w0,e6,Int.reduceBEq]
    rfl
   ·rw[g]
    repeat(with_reducible(first|apply Bj|apply Ay|apply Bi|apply Ba|apply Bm|apply Fb|apply Az|apply Bh|apply Hg);· first|constructor|(simp(disch:=omega)only[He,Xk,pk,w0,e6,Int.reduceBEq]<;>first|constructor|omega)|omega)
    try simp(disch:=omega)only[Aa,Xk,pk,w0,e6,Int.reduceBEq]
    rfl
   ·rw[g]
    repeat(with_reducible(first|apply Bj|apply Ay|apply Bi|apply Ba|apply Bm|apply Fb|apply Az|apply Bh|apply Hg);· first|constructor|(simp(disch:=omega)only[He,Xk,pk,w0,e6,Int.reduceBEq]<;>first|constructor|omega)|omega)
    try simp(disch:=omega)only[Aa,Xk,pk,w0,e6,Int.reduceBEq]
    rfl
   ·rw[g]
    repeat(with_reducible(first|apply Bj|apply Ay|apply Bi|apply Ba|apply Bm|apply Fb|apply Az|apply Bh|apply Hg);· first|constructor|(simp(disch:=omega)only[He,Xk,pk,w0,e6,Int.reduceBEq]<;>first|constructor|omega)|omega)
    try simp(disch:=omega)only[Aa,Xk,pk,w0,e6,Int.reduceBEq]
    rfl
   ·rw[g];obtain⟨n1,n2,n3,n4,n5,n6,n7,n8⟩:=g1;have m1:(c==(34:Int))=false:=by simp[n1]
    have m2:(c==(92:Int))=false:=by simp[n2]
    have m3:(c==(47:Int))=false:=by simp[n3]
    have m4:(c==(98:Int))=false:=by simp[n4]
    have m5:(c==(102:Int))=false:=by simp[n5]
    have m6:(c==(110:Int))=false:=by simp[n6]
    have m7:(c==(114:Int))=false:=by simp[n7]
    have m8:(c==(116:Int))=false:=by simp[n8]
    repeat(with_reducible(first|apply Bj|apply Ay|apply Bi|apply Ba|apply Bm|apply Fb|apply Az|apply Bh|apply Hg);· first|constructor|(simp(disch:=omega)only[He,Xk,pk,w0,e6,m1,m2,m3,m4,m5,m6,m7,m8]<;>first|constructor|omega)|omega)
    try simp(disch:=omega)only[Aa,Xk,pk,w0,e6,m1,m2,m3,m4,m5,m6,m7,m8]
    rfl
theorem AN{t:ByteArray}{l:Al}(h:Eh t l):Eh t (T8 l).2:=by
 have Bao:∀l,Eh t l->Eh t (Wt l).2:=by
  intro l h;have h1:=JT 4 0 l h;unfold Wt;rcases hq:EC 4 0 l with⟨o,r⟩;rw[hq] at h1;cases o with
  |none=>exact h1
  |some x=>
   simp only;split
   ·exact h1
   split
   ·exact h1
   split
   ·have h2:=JT 4 0 (r.drop 2) (Eh.drop h1 2);unfold Al8;rcases Nl:EC 4 0 (r.drop 2) with⟨o2,r2⟩;rw[Nl] at h2;cases o2 with
    |none=>exact h2
    |some y=>
     simp only;split<;>exact h2
   ·exact h1
 cases l with
 |nil=>exact h
 |cons c r=>
  have he:T8 (c::r)=if c=117 then Wt r else match GL c with|some x=>(some x,r)|none=>(none,c::r):=rfl
  rw[he];split
  ·exact Bao r h.tail
  ·cases GL c with
   |none=>exact h
   |some x=>exact h.tail
end
section
open Go.RowKit Go.Lib
abbrev u8C(l:Al):List Value:=l.map (Value.int .u8)
theorem Alu(a b:Al):u8C (a++b)=u8C a++u8C b:=List.map_append
theorem YY:∀{l:Al},Cz l->u8C l=Lib.byteCells (l.map fun n=>n.toNat.toUInt8)
 |[],_=>rfl
 |x::l,h=>by
  obtain⟨hx,h⟩:=D5 h;show Value.int .u8 x::u8C l=Value.int .u8 ((x.toNat.toUInt8).toNat:Int)::Lib.byteCells (l.map fun n=>n.toNat.toUInt8);rw[YY h]
  congr 2
  have:(x.toNat.toUInt8).toNat=x.toNat:=by
   show x.toNat % 256=x.toNat;omega
  rw[this];omega
theorem JD(k:IntKind):∀l:Al,Af k l=l.map fun n=>.sc (.int k n)
 |[]=>rfl
 |x::l=>by
  show PV.sc (.int k x)::Af k l=_;rw[JD k l];rfl
end
section
open Go Go.RowKit
theorem Ga.refl(w:World)(b o n:Nat):Ga w w b o n:=⟨rfl,rfl,rfl,Ci _,Fi.refl _ _,fun _ _ _=>rfl,fun _ _=>rfl,fun _ _=>rfl⟩
theorem Ga.trans{w w' w'':World}{b o n:Nat}(h:Ga w w' b o n)(k:Ga w' w'' b o n):Ga w w'' b o n:=
 ⟨k.os.trans h.os,k.tape.trans h.tape,k.output.trans h.output,Nat.le_trans h.size k.size,h.grow.trans k.grow,fun i hi Gh=>(k.other i (Ft hi h.size) Gh).trans (h.other i hi Gh),fun j hj=>(k.cells j hj).trans (h.cells j hj),fun j hj=>(k.frz j hj).trans (h.frz j hj)⟩
theorem Ga.below{w w' w'':World}{b o n:Nat}(h:Ga w w' b o n)(k:Below w.heap.size w' w'')(hb:b<w.heap.size):Ga w w'' b o n:=
 ⟨k.os.trans h.os,k.tape.trans h.tape,k.output.trans h.output,Nat.le_trans h.size k.size,h.grow.trans (Fi.same (k.block b hb)),fun i hi Gh=>(k.block i hi).trans (h.other i hi Gh),fun j hj=>(k.cell (p:=⟨b,j,none⟩) hb).trans (h.cells j hj),fun j hj=>(k.frozen (p:=⟨b,j,none⟩) hb).trans (h.frz j hj)⟩
theorem Ga.drew{w w':World}{b o n:Nat}(h:Ga w w' b o n):Ga w w'.drew b o n:=⟨h.os,h.tape,h.output,h.size,h.grow,h.other,h.cells,h.frz⟩
theorem Ga.setCell(w:World)(b o n j:Nat)(v:Value)(hj:o<=j)(hj2:j<o+n)(hb:b<w.heap.size):Ga w (w.setCell ⟨b,j,none⟩ v) b o n:=by have hw:Db b w (w.setCell ⟨b,j,none⟩ v):=Db.setCells b [v] j w;refine⟨hw.os,hw.tape,hw.output,Nat.le_of_eq hw.size.symm,hw.grow b,fun k hk Gh=>hw.other k Gh,fun i hi=>?_,fun i _=>hw.frz i⟩;exact World.cell?_setCell_other _ _ _ _ (by intro e;injection e;omega)
theorem IX{T e:TypeId}{B c:Nat}{bs:List Value}{W W':World}{b o n:Nat}(h:Lib.IsBuilderF T e B c bs W)(hk:Ga W W' b o n)(hb:b<B):Lib.IsBuilderF T e B c bs W':=by
 have key:∀p,Lib.BuilderAtF T e B c p bs W->Lib.BuilderAtF T e B c p bs W':=by
  intro p h;have Ck:=h.lt;obtain⟨hB,v,hv,Hf,Gh⟩:=h;refine⟨hB,v,(hk.other c Ck (by omega)).trans hv,Hf.kept (row:=some b) ⟨hk.os,hk.tape,hk.output,hk.size,fun k H4 A18=>hk.other k H4 (fun e=>A18 (by rw[e]))⟩ ?_,Gh⟩;rcases Hf.2 with⟨rfl,_⟩|⟨g,cap,cur,fz,rfl,hg,_⟩
  ·exact .inl rfl
  ·refine .inr (fun e=>?_);simp[Value.ownBlock] at e;omega
 exact h.imp (key _) (key _)
def GR:Vg:=⟨fun _=>False,fun _=>True,fun _ _ _ _=>trivial⟩
def noR:FuncId->Option (Ae->Option Bv):=fun _=>none
theorem A4a:SP GR prog (CX noR):=by intro f g args res h _;have h':(bif Ya.any (Nat.beq f) then none else (none:Option (Ae->Option Bv)))=some g:=h;cases hb:Ya.any (Nat.beq f)<;>rw[hb] at h'<;>cases h'
theorem ngR:NoNG prog:=by
 have h:(prog.funcs.toList.all fun fn=> !(fn.name == "runtime.NumGoroutine"))=true:=by kernel_rfl
 intro f fn hf;have:=List.all_eq_true.1 h fn (Array.mem_toList_iff.2 (Array.mem_of_getElem? hf))
 simpa using this
theorem mxR:prog.follows .mixedOrders=true:=by kernel_rfl
structure HW(w:World)(b o:Nat)(t:ByteArray)(r:Al):Prop where
 lt:b<w.heap.size
 c0:w.cell? ⟨b,o,none⟩=some (.string t)
 c1:w.cell? ⟨b,o+1,none⟩=some (.int .i64 (Cn t r:Int))
 f0:w.frozen? ⟨b,o,none⟩=false
 f1:w.frozen? ⟨b,o+1,none⟩=false
theorem Acf{f:FuncId}{t:ByteArray}{r r':Al}{args vals:Ae}{us rs:List Value}{d:Nat}(e:Ac (CX noR) prog 2000 d f (.pbox (Cy t r)::args)=some ⟨vals,[Cy t r']⟩)(ha:Bx UK args us)(hr:Bx UK vals rs){w:World}{b o:Nat}(h:HW w b o t r):Calls prog f (.pointer (some ⟨b,o,none⟩)::us).toArray w fun e w'=>e=.returned (G8 rs)/\HW w' b o t r'/\Ga w w' b o 2:=by
 have hs:C9 GR prog f (.pbox ([Value.string t,.int .i64 (Cn t r:Int)].map .sc)::args) ⟨vals,[[Value.string t,.int .i64 (Cn t r':Int)].map .sc]⟩:=Jf ngR mxR A4a d f _ _ e;refine (ZA hs ha hr (w:=w) (b:=b) (o:=o) trivial (fun _ h=>h.elim) h.lt ?_ ?_).mono ?_
 ·intro j v hv
  match j,hv with
  |0,hv=>cases hv;exact h.c0
  |1,hv=>cases hv;exact h.c1
 ·intro j hj
  match j,hj with
  |0,_=>exact h.f0
  |1,_=>exact h.f1
 ·rintro e w' ⟨rfl,_,h4,h5,hk⟩
  exact⟨rfl,⟨Ft h.lt hk.size,h4 0 _ rfl,h4 1 _ rfl,h5 0 (Nat.zero_lt_succ _),h5 1 (Nat.succ_lt_succ (Nat.zero_lt_succ _))⟩,hk⟩
theorem Jw{t:ByteArray}{r w0:Al}(hS:Eh t r)(ht:t.size<=1000000)(hw:Cz w0)(hw2:w0.length<=100){w:World}{b o:Nat}(h:HW w b o t r):
  Calls prog 176 #[.pointer (some ⟨b,o,none⟩),.string (Ab w0)] w fun e w'=>e=.returned (.bool (A7 w0 r).isSome)/\HW w' b o t ((A7 w0 r).getD r)/\Ga w w' b o 2:=by
 have e:=Z6 (fu:=2000) (d:=0) (xs:=noR) hS ht hw hw2;cases hq:A7 w0 r with
 |none=>
  rw[hq] at e;exact Acf (us:=[.string (Ab w0)]) (rs:=[.bool false]) e ⟨.inl rfl,trivial⟩ ⟨.inl rfl,trivial⟩ h
 |some r'=>
  rw[hq] at e;exact Acf (us:=[.string (Ab w0)]) (rs:=[.bool true]) e ⟨.inl rfl,trivial⟩ ⟨.inl rfl,trivial⟩ h
theorem Apo{t:ByteArray}{r:Al}(hS:Eh t r)(ht:t.size<=1000000){w:World}{b o:Nat}(h:HW w b o t r):
  Calls prog 193 #[.pointer (some ⟨b,o,none⟩)] w fun e w'=>e=.returned (.tuple #[.int .i32 ((T8 r).1.getD 0),.bool (T8 r).1.isSome])/\HW w' b o t (T8 r).2/\Ga w w' b o 2:=by
 have e:=Bc7 (fu:=2000) (d:=0) (xs:=noR) (by omega) hS ht;exact Acf (us:=[]) (rs:=[.int .i32 ((T8 r).1.getD 0),.bool (T8 r).1.isSome]) e trivial ⟨.inl rfl,.inl rfl,trivial⟩ h
end
section
open Go Go.RowKit Go.Lib
def Bju(o:Option Al):Value:=.tuple #[.string (Ab (o.getD [])),.bool o.isSome]
theorem HW.below{B:Nat}{w w':World}{b o:Nat}{t:ByteArray}{r:Al}(h:HW w b o t r)(hb:Below B w w')(hB:b<B):HW w' b o t r:=
 ⟨Ft h.lt hb.size,(hb.cell (p:=⟨b,o,none⟩) hB).trans h.c0,(hb.cell (p:=⟨b,o+1,none⟩) hB).trans h.c1,(hb.frozen (p:=⟨b,o,none⟩) hB).trans h.f0,(hb.frozen (p:=⟨b,o+1,none⟩) hB).trans h.f1⟩
theorem Ase{l:Al}(h:Cz l):(T8 l).2.length<=l.length:=by
 have h1:Eh (Ab l) l:=⟨[],by rw[C7 h];rfl⟩
 have:=(AN h1).len
 rwa [Ai] at this
theorem Ab8{l r:Al}{x:Int}(h:Wt l=(some x,r)):0<=x/\x<=1114111:=by
 have hb:=Jo 4 0 l;unfold Wt at h;rcases hq:EC 4 0 l with⟨o,r1⟩;rw[hq] at h;cases o with
 |none=>cases h
 |some y=>
  have by_:=hb y r1 hq (by omega);simp only at h;split at h
  ·cases h
  split at h
  ·cases h;omega
  split at h
  ·have Ko:=Jo 4 0 (r1.drop 2);unfold Al8 at h;rcases Nl:EC 4 0 (r1.drop 2) with⟨o2,r2⟩;rw[Nl] at h;cases o2 with
   |none=>cases h
   |some z=>
    have bz:=Ko z r2 Nl (by omega);simp only at h;split at h
    ·rename_i hz
     have lz:56320<=z/\z<=57343:=by
      unfold Aa0 at hz
      simpa using hz
     cases h;omega
    ·cases h
  ·cases h
theorem Ae7{l r:Al}{x:Int}(h:T8 l=(some x,r)):0<=x/\x<=1114111:=by
 cases l with
 |nil=>cases h
 |cons c l=>
  have he:T8 (c::l)=if c=117 then Wt l else match GL c with|some x=>(some x,l)|none=>(none,c::l):=rfl
  rw[he] at h;split at h
  ·exact Ab8 h
  ·rcases ZM c with⟨rfl,g⟩|⟨rfl,g⟩|⟨rfl,g⟩|⟨rfl,g⟩|⟨rfl,g⟩|⟨rfl,g⟩|⟨rfl,g⟩|⟨rfl,g⟩|⟨g1,g⟩<;>rw[g] at h<;>cases h<;>omega
set_option maxHeartbeats 4000000 in
theorem Afr{t:ByteArray}{r:Al}(hS:Eh t r)(ht:t.size<=1000000){w:World}{b o:Nat}(h:HW w b o t r):
    Calls prog 177 #[.pointer (some ⟨b,o,none⟩)] w fun e w'=>e=.returned (Bju (Gk r).1)/\HW w' b o t (Gk r).2/\Ga w w' b o 2:=by
  have mixed:prog.follows Departure.mixedOrders=true:=by kernel_rfl
  have hac:=Jw hS ht (w0:=[34]) (fun x hx=>by simp at hx;omega) (by decide) h
  go_enter Tryz.func177,Tryz.ntmps177
  go_wp2_with (go_at_call 176;refine hac.mono ?_)
  rintro e W1 ⟨rfl,h1,k1⟩
  cases hq:A7 [34] r with
  |none=>
    rw[hq] at h1
    go_wp2
    go_ret2
    have e:Gk r=(none,r):=by
      cases r with
      |nil=>rfl
      |cons c l=>
        have hc:c≠34:=by
          rintro rfl
          unfold A7 at hq
          rw[Cr (by simp[List.isPrefixOf])] at hq
          cases hq
        show (if c=34 then _ else (none,c::l))=_
        rw[B3 hc]
    rw[e]
    exact⟨rfl,h1,k1⟩
  |some r1=>
    rw[hq] at h1
    have VU:r=34::r1:=by
      unfold A7 at hq
      split at hq
      · rename_i hp
        obtain⟨s,hs⟩:=List.isPrefixOf_iff_prefix.1 hp
        rw[<-hs] at hq ⊢
        cases hq
        rfl
      · cases hq
    subst VU
    have e:Gk (34::r1)=Md (r1.length+1) [] r1:=by
      show (if (34:Int)=34 then Md (r1.length+1) [] r1 else (none,34::r1))=_
      exact Cr rfl
    have WE:Eh t r1:=hS.tail
    have h2:HW (W1.alloc (.cells #[.pointer none,.slice none 0 0] 259)) b o t r1:=by
      have hb:Below W1.heap.size W1 (W1.alloc (.cells #[.pointer none,.slice none 0 0] 259)):=(Below.refl _ W1).alloc (Ci _) _
      exact⟨Ft h1.lt hb.size,(hb.cell (p:=⟨b,o,none⟩) h1.lt).trans h1.c0,(hb.cell (p:=⟨b,o+1,none⟩) h1.lt).trans h1.c1,(hb.frozen (p:=⟨b,o,none⟩) h1.lt).trans h1.f0,(hb.frozen (p:=⟨b,o+1,none⟩) h1.lt).trans h1.f1⟩
    have k2:Ga w (W1.alloc (.cells #[.pointer none,.slice none 0 0] 259)) b o 2:=k1.below ((Below.refl _ W1).alloc (Ci _) _ |>.mono k1.size) h.lt
    have hB1:b<W1.heap.size:=h1.lt
    have hw1:w.heap.size<=W1.heap.size:=k1.size
    go_wp2
    go_loopw [] (fun wr=>∃(n:Nat) (out l:Al),Md (r1.length+1) [] r1=Md n out l/\l.length<n/\Cz out/\out.length+4*l.length<=4*t.size/\Eh t l/\HW wr b o t l/\Ga w wr b o 2/\W1.heap.size<=wr.heap.size/\Lib.IsBuilderF 259 5 W1.heap.size W1.heap.size (u8C out) wr) (fun wr=>match wr.cell? ⟨b,o+1,none⟩ with|some (.int _ p)=>t.size-p.toNat|_=>0)
    case atStart=>
      exact⟨r1.length+1,[],r1,rfl,Nat.lt_succ_self _,(fun x hx=>by cases hx),(by have:=WE.len;simp;omega),WE,h2,k2,((Below.refl W1.heap.size W1).alloc (Ci _) _).size,Lib.IsBuilderF.of (Lib.fresh_isBuilder 259 5 W1)⟩
    case round=>
      obtain⟨n,out,l,Fn,hn,hoB,XX,hSl,hat,hk,hws,hI⟩:=hrel
      obtain⟨Ck,hc0,DZ,hf0,hf1⟩:=hat
      cases l with
      |nil=>
        rw[JB] at DZ
        go_wp2
        go_region_o
        go_wp2
        go_ret2
        rw[e,Fn]
        obtain⟨m,rfl⟩:∃m,n=m+1:=⟨n-1,by omega⟩
        exact⟨rfl,⟨Ck,hc0,DZ,hf0,hf1⟩,hk.drew⟩
      |cons c l=>
        obtain⟨m,rfl⟩:∃m,n=m+1:=⟨n-1,by omega⟩
        obtain⟨bb,hbb,rfl⟩:=hSl.at
        have hll:=hSl.len
        have Xl:Cn t ((bb.toNat:Int)::l)<t.size:=by
          unfold Cn
          rw[Tm] at hll ⊢
          omega
        have Ald:=R0 hSl
        have LX:t[Cn t ((bb.toNat:Int)::l)]'(Xl)=bb:=by
          rw[Array.getElem?_toList,Array.getElem?_eq_getElem Xl] at hbb
          exact Option.some.inj hbb
        have hcb:=bb.toNat_lt
        generalize hp:Cn t ((bb.toNat:Int)::l)=p at *
        have Bqs:(p:Int)<t.size:=by omega
        have kw:Ga wr (wr.setCell ⟨b,o+1,none⟩ (.int .i64 ((p:Int)+1))).drew.drew b o 2:=((Ga.setCell wr b o 2 (o+1) _ (by omega) (by omega) Ck).drew).drew
        have Fz:=hk.trans kw
        have hI2:=IX hI kw hB1
        have Ab1:HW (wr.setCell ⟨b,o+1,none⟩ (.int .i64 ((p:Int)+1))).drew.drew b o t l:=by
          refine⟨Ft Ck kw.size,?_,?_,?_,?_⟩
          · exact (World.cell?_setCell_other _ _ _ _ (by intro e;injection e;omega)).trans hc0
          · have:(Cn t l:Int)=(p:Int)+1:=by omega
            rw[this]
            exact World.cell?_setCell_same _ _ _ DZ
          · exact (World.frozen?_setCell _ _ _ _).trans hf0
          · exact (World.frozen?_setCell _ _ _ _).trans hf1
        have Axa:W1.heap.size<=(wr.setCell ⟨b,o+1,none⟩ (.int .i64 ((p:Int)+1))).drew.drew.heap.size:=Nat.le_trans hws kw.size
        have hsm:Md (m+1) out ((bb.toNat:Int)::l)=if (bb.toNat:Int)<32 then (none,(bb.toNat:Int)::l) else if (bb.toNat:Int)=34 then (some out,l) else if (bb.toNat:Int)=92 then
            (match T8 l with
             |(some x,r')=>Md m (out++Lib.encodeRuneZ x) r'
             |(none,r')=>(none,r')) else Md m (out++[(bb.toNat:Int)]) l:=rfl
        rw[hsm] at Fn
        have Bp6:(u8C out).length+4<=140737488355328:=by
          rw[List.length_map]
          omega
        by_cases Am2:(bb.toNat:Int)<32
        · rw[Cr Am2] at Fn
          go_wp2
          go_region_o
          go_wp2
          go_region_o
          go_wp2
          go_ret2
          rw[e,Fn]
          exact⟨rfl,⟨Ck,hc0,by rw[hp];exact DZ,hf0,hf1⟩,hk.drew.drew⟩
        · rw[B3 Am2] at Fn
          by_cases A8g:(bb.toNat:Int)=34
          · rw[Cr A8g] at Fn
            go_wp2
            go_region_o
            go_wp2
            go_region_o
            go_wp2_with (go_at_call 192;refine (Any.Builder_String_any_k Ajf Ab7 W1.heap.size W1.heap.size (out.map fun n=>n.toNat.toUInt8) _ (by rw[<-YY hoB];exact hI2) Axa).mono ?_)
            rintro e2 W3 ⟨rfl,_,b3,_⟩
            go_wp2
            go_ret2
            rw[e,Fn]
            exact⟨rfl,Ab1.below b3 hB1,Fz.below (b3.mono hw1) h.lt⟩
          · rw[B3 A8g] at Fn
            by_cases Bda:(bb.toNat:Int)=92
            · rw[Cr Bda] at Fn
              have Dc:=Apo hSl.tail ht Ab1
              go_wp2
              go_region_o
              go_wp2
              go_region_o
              go_wp2_with (go_at_call 193;refine Dc.mono ?_)
              rintro e2 W3 ⟨rfl,Ap0,k3⟩
              have Ox:=Fz.trans k3
              have hI3:=IX hI2 k3 hB1
              have Bbm:=Nat.le_trans Axa k3.size
              have hel:=Ase (l:=l) hSl.tail.B
              have DV:=AN hSl.tail
              rcases hqe:T8 l with⟨oe,le⟩
              rw[hqe] at Ap0 Fn hel DV
              cases oe with
              |none=>
                go_wp2
                go_ret2
                rw[e,Fn]
                exact⟨rfl,Ap0,Ox⟩
              |some x=>
                have Mz:=Ae7 hqe
                go_wp2_with (go_at_call 194;refine (Any.Builder_WriteRune_k Ajy Ab7 W1.heap.size W1.heap.size _ x (by omega) (by omega) _ hI3 (by omega) Bbm).mono ?_)
                rintro e3 W4 ⟨rfl,i4,b4,_⟩
                go_wp2
                have A9s:=Ap0.below b4 hB1
                have hrl:=Lib.encodeRuneZ_length x
                refine⟨⟨m,out++Lib.encodeRuneZ x,le,Fn,by simp at hn hel;omega,R7 hoB (fun y hy=>by have:=Lib.encodeRuneZ_byte x y hy;omega),by simp at XX hel ⊢;omega,DV,A9s,Ox.below (b4.mono hw1) h.lt,Nat.le_trans Bbm b4.size,by rw[Alu];exact Or.inr i4⟩,?_⟩
                have Zi:=DV.len
                have hp3:Cn t l<=Cn t le:=by unfold Cn;omega
                have hp4:Cn t le<=t.size:=Nat.sub_le _ _
                simp only[A9s.c1,DZ,Jd]
                omega
            · rw[B3 Bda] at Fn
              go_wp2
              go_region_o
              go_wp2
              go_region_o
              go_wp2_with (go_at_call 195;refine (Any.Builder_WriteByte_k Ahz Ab7 W1.heap.size W1.heap.size _ _ _ hI2 (by omega) Axa).mono ?_)
              rintro e2 W3 ⟨rfl,i3,b3,_⟩
              go_wp2
              have Ap0:=Ab1.below b3 hB1
              refine⟨⟨m,out++[(bb.toNat:Int)],l,Fn,by simp at hn;omega,R7 hoB (fun x hx=>by simp at hx;omega),by simp at XX ⊢;omega,hSl.tail,Ap0,Fz.below (b3.mono hw1) h.lt,Nat.le_trans Axa b3.size,by rw[Alu];exact Or.inr i3⟩,?_⟩
              simp only[Ap0.c1,DZ,Jd]
              omega
end
section
open Go Go.RowKit
theorem RR{t:ByteArray}:∀(n:Nat)(out l:Al),Eh t l->Eh t (Md n out l).2
  |0,_,_,h=>h
  |_+1,_,[],h=>h
  |n+1,out,c::l,h=>by
    have e:Md (n+1) out (c::l)=if c<32 then (none,c::l) else if c=34 then (some out,l) else if c=92 then
        (match T8 l with
         |(some x,r')=>Md n (out++Lib.encodeRuneZ x) r'
         |(none,r')=>(none,r')) else Md n (out++[c]) l:=rfl
    rw[e]
    split
    · exact h
    split
    · exact h.tail
    split
    · have h2:=AN h.tail
      rcases hq:T8 l with⟨o,r⟩
      rw[hq] at h2
      cases o with
      |none=>exact h2
      |some x=>exact RR n _ r h2
    · exact RR n _ l h.tail
theorem J4{t:ByteArray}{l:Al}(h:Eh t l):Eh t (Gk l).2:=by
 cases l with
 |nil=>exact h
 |cons c l=>
  have e:Gk (c::l)=if c=34 then Md (l.length+1) [] l else (none,c::l):=rfl
  rw[e];split
  ·exact RR _ _ _ h.tail
  ·exact h
theorem Aux{w w':World}{Y:Nat->Prop}{bt:FK}{vs vs':List Value}{us:List Value}{b o:Nat}{a c:Value}(hi:Ins w Y bt [.pbox (vs.map .sc)] us)(hb:bt 0 0=some (b,o))(hk:Ga w w' b o vs.length)(hl:vs'.length=vs.length)(hc:∀j v,vs'[j]?=some v->w'.cell? ⟨b,o+j,none⟩=some v)(hf:∀j,j<vs.length->w'.frozen? ⟨b,o+j,none⟩=false):
  Out w w' Y bt [.pbox (vs.map .sc)] (fun _=>none) ⟨[.sc a,.sc c],[vs'.map .sc]⟩ [a,c] where
 os:=hk.os
 tape:=hk.tape
 output:=hk.output
 ext:=⟨hk.size,fun k h Gh=>hk.other k h (fun e=>Gh (by rw[e];exact⟨0,0,o,hb⟩)),fun k h=>by
  by_cases e:k=b
  ·rw[e];exact hk.grow
  ·exact Fi.same (hk.other k h e)⟩
 rng:=fun k j h hn=>by
  by_cases e:k=b
  ·subst e
   have hj:j<o\/o+vs.length<=j:=by
    rcases Ig j o with h1|h1
    ·exact .inl h1
    ·rcases Ig j (o+vs.length) with h2|h2
     ·exact absurd ⟨0,_,rfl,.inr ⟨o,vs.map .sc,hb,h1,.inl ⟨rfl,by rw[List.length_map];exact h2⟩⟩⟩ hn
     ·exact .inr h2
   exact⟨hk.cells j hj,hk.frz j hj⟩
  ·have:=hk.other k h e;exact⟨by unfold World.cell?;simp only[this],by unfold World.frozen?;simp only[this]⟩
 vals:=⟨Av.sc a,Av.sc c,trivial⟩
 outs:=⟨⟨b,o,hb,by rw[List.length_map,List.length_map,hl],vs',DB,hc,fun k h=>hf k (by rw[List.length_map,hl] at h;exact h)⟩,rfl⟩
 fresh:=fun j b o h=>by cases h
 inj:=fun j j' b o o' h=>by cases h
theorem Aop(G:Vg)(args:Ae)(res:Bv)(h:Atx args=some res):C9 G prog 177 args res:=by
 refine⟨⟨_,Tryz.func177,by kernel_rfl⟩,fun w Y bt us hi _ _=>?_⟩;unfold Atx at h;split at h
 rotate_left
 ·cases h
 rename_i t p;cases hq:(decide (0<=p)&&decide (p<=t.size)&&Nat.ble t.size 1000000)
 ·rw[hq] at h;cases h
 rw[hq,cond_true] at h;simp only[Fc,GF] at hq;obtain⟨⟨P7,Dr⟩,hm⟩:=hq;have hm:=R5 hm;obtain⟨p,rfl⟩:=Int.eq_ofNat_of_zero_le P7;rw[Jd] at h;have hS:Eh t ((Cs t).drop p):=(Eh.all t).drop p
 have Ags:(Cn t ((Cs t).drop p):Int)=(p:Int):=by
  unfold Cn;rw[List.length_drop,Ca];omega
 have ps:=hi.args
 match us,ps with
 |[u1],ps=>
  obtain⟨b,o,hb,rfl,_,vs,Z5,Ev,XF⟩:=ps.1;have Ma:=CL (vs:=[.string t,.int .i64 (p:Int)]) Z5;subst Ma;have hat:HW w b o t ((Cs t).drop p):=⟨hi.lt b ⟨0,0,o,hb⟩,Ev 0 _ rfl,by rw[Ags];exact Ev 1 _ rfl,XF 0 (Nat.zero_lt_succ _),XF 1 (Nat.succ_lt_succ (Nat.zero_lt_succ _))⟩
  refine (Afr hS hm hat).mono ?_
  rintro e w' ⟨rfl,Ab1,hk⟩
  rcases hx:Gk ((Cs t).drop p) with⟨o2,r2⟩;rw[hx] at h Ab1
  have hr2:r2.length<=t.size:=by
   have:=J4 hS;rw[hx] at this;exact this.len
  have Bcn:(Cn t r2:Int)=(t.size:Int)-r2.length:=by
   unfold Cn;omega
  have PM:∀a c:Value,Out w w' Y bt [.pbox ([Value.string t,.int .i64 (p:Int)].map .sc)] (fun _=>none) ⟨[.sc a,.sc c],[[Value.string t,.int .i64 ((t.size:Int)-r2.length)].map .sc]⟩ [a,c]:=by
   intro a c;refine Aux hi hb hk rfl ?_ ?_
   ·intro j v hv
    match j,hv with
    |0,hv=>cases hv;exact Ab1.c0
    |1,hv=>cases hv;rw[<-Bcn];exact Ab1.c1
   ·intro j hj
    match j,hj with
    |0,_=>exact Ab1.f0
    |1,_=>exact Ab1.f1
  cases o2 with
  |none=>
   cases h;exact⟨[.string ⟨#[]⟩,.bool false],fun _=>none,rfl,PM _ _⟩
  |some s=>
   cases h;exact⟨[.string (Ab s),.bool true],fun _=>none,rfl,PM _ _⟩
 |[],ps=>exact ps.elim
 |_::_::_,ps=>exact ps.2.elim
end
end
end Go.Proofs.YtohcncipgljdkaaGreatDoor.Pv
