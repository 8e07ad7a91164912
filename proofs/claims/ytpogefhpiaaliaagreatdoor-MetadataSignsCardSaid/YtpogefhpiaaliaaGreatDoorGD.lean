/-
  The proof of MetadataSigns, part 4.
-/
import Derived.Test.YtpogefhpiaaliaaGreatDoorGC
import Derived.Test.YtpogefhpiaaliaaGreatDoorRows
import Derived.RangeFuncNested
import Derived.RangeFuncLeaves
import Derived.WalkKit
import Derived.LoopNIn
import Derived.OrdersIn
set_option linter.unusedSimpArgs false
set_option linter.unusedVariables false
namespace Go.Proofs.YtpogefhpiaaliaaGreatDoor.Pv
open Go.IntKind (wrap)
open Go.Proofs.Tryz (prog)
set_option maxRecDepth 1000000
noncomputable section
def Dz(w:Int)(k:Nat):Int:=wrap .u8 (Ff .u64 w (56-8*(k:Int)))
def Ew(w:Int):Cg:=(List.range' 0 8).map (Dz w)
def A9(ws:Cg):Cg:=ws.flatMap Ew
theorem Gp(w:Int):(Ew w).length=8:=rfl
section
variable {fu d:Nat}{xs:FuncId->Option (Ab->Option Dl)}{call:Bi}{n:Nat}{c:Ab}
theorem Aen{ws:Cg}{w:Int}{m0 l:Nat}{i k:Int}:∀(r j nn:Nat)(bs:Cg),8-j=r->r<nn->j<=8->bs.length+r<=34359738368 ->
  L6 fu call n c m0 nn bs.length w l (Ad .u64 ws) k i j (Ad .u8 bs) =
   Ji fu call n c m0 (bs++(List.range' j (8-j)).map (Dz w)).length l (Ad .u64 ws) k (wrap .i64 (i+1)) (Ad .u8 (bs++(List.range' j (8-j)).map (Dz w)))
 |r,j,0,bs,_,h,_,_=>by omega
 |0,j,nn+1,bs,hr,_,hj,_=>by
  have e:j=8:=by omega
  subst e;rw[Uk];simp(disch:=omega)only[B4,B3];simp
 |r+1,j,nn+1,bs,hr,hn,hj,hb=>by
  have ih:=Aen (ws:=ws) (w:=w) (m0:=m0) (l:=l) (i:=i) (k:=k) r (j+1) nn (bs++[Dz w j]) (by omega) (by omega) (by omega) (by simp;omega)
  have e8:=Am .u8 bs;rw[Uk]
  have hx:wrap .u8 (Ff .u64 w (wrap .i64 (56-wrap .i64 (8*(j:Int)))))=Dz w j:=by
   rw[Ah (x:=8*(j:Int)) (by omega) (by omega),Ah (by omega) (by omega)];rfl
  have h0:0<=wrap .i64 (56-wrap .i64 (8*(j:Int))):=by
   rw[Ah (x:=8*(j:Int)) (by omega) (by omega),Ah (by omega) (by omega)];omega
  have Afm:List.range' j (8-j)=j::List.range' (j+1) (8-(j+1)):=by
   rw[show 8-j=(8-(j+1))+1 by omega];exact List.range'_succ
  simp (disch:=first|omega|exact h0) only[B4,B3,Ec,hx,Ob,Hi,Ah (x:=(j:Int)+1)];rw[Afm];simp only[G8,G9,Vl,Cu,IU,Rz,List.singleton_append] at ih ⊢;exact ih
theorem QC{ws:Cg}(hl:ws.length<=1073741824)(Bo:100<=fu):∀(r:Cg)(i nn:Nat)(bs:Cg),ws.drop i=r->r.length<nn->bs.length=8*i ->
  Ji fu call n c nn bs.length ws.length (Ad .u64 ws) ws.length i (Ad .u8 bs)=some ⟨[.own 1 (bs++A9 r).length (Ad .u8 (bs++A9 r))],[]⟩
 |r,i,0,_,_,h,_=>by omega
 |[],i,nn+1,bs,h,_,_=>by
  have:=drop_nil h;have e8:=Am .u8 bs;rw[Ur];simp(disch:=omega)only[B4,B3,Ec,Ob,A9,List.flatMap_nil,List.append_nil]
 |w::r,i,nn+1,bs,h,hn,hb=>by
  obtain⟨h1,h2,h3⟩:=C1 h;simp only[G9] at hn;rw[Ur];simp(disch:=omega)only[B4,B3,Ij,Ec,Z5 h2];rw[show (0:Int)=((0:Nat):Int) from rfl,Aen 8 0 fu bs rfl (by omega) (by omega) (by omega),Ah (by omega) (by omega)];have ih:=QC hl Bo r (i+1) nn (bs++Ew w) h3 (by omega) (by simp[Gp];omega)
  have e:bs++Ew w++A9 r=bs++A9 (w::r):=by simp[A9]
  rw[e] at ih;exact ih
theorem R9{ws:Cg}(hl:ws.length<=1073741824)(Bo:100<=fu)(hf:ws.length<fu):Ap (CX xs) prog fu (d+1) 86 [.lst false 1 ws.length (Ad .u64 ws)]=some ⟨[.own 1 (A9 ws).length (Ad .u8 (A9 ws))],[]⟩:=by rw[SJ];simp(disch:=omega)only[B4,B3,Ah,Int.mul_one];exact QC hl Bo ws 0 fu [] rfl hf rfl
theorem YC{ws:Cg}{w:Int}{m0 i:Nat}(hw:ws[i]?=some w):∀(r nn:Nat)(j:Int)(bs:Cg),j=(r:Int)-1->r<=8->r<nn->bs.length+r<=34359738368 ->
  H2 fu call n c m0 nn ws.length (Ad .u64 ws) bs.length i j (Ad .u8 bs) =
   Gf fu call n c m0 ws.length (Ad .u64 ws) (bs++(List.range' (8-r) r).map (Dz w)).length (wrap .i64 (i+1)) (Ad .u8 (bs++(List.range' (8-r) r).map (Dz w)))
 |r,0,j,bs,_,_,h,_=>by omega
 |0,nn+1,j,bs,hr,_,_,_=>by
  rw[Nv];simp(disch:=omega)only[B4,B3];simp
 |r+1,nn+1,j,bs,hr,CL,hn,hb=>by
  have hi:=Aza hw;have ih:=YC (m0:=m0) hw r nn (j-1) (bs++[Dz w (8-(r+1))]) (by omega) (by omega) (by omega) (by simp;omega)
  have e8:=Am .u8 bs
  have hx:wrap .u8 (Ff .u64 w (wrap .u64 (wrap .i64 (8*j))))=Dz w (8-(r+1)):=by
   rw[Ah (by omega) (by omega),Cm (by omega) (by omega)];unfold Dz;rw[show 56-8*((8-(r+1):Nat):Int)=8*j by omega]
  have h0:0<=wrap .u64 (wrap .i64 (8*j)):=by
   rw[Ah (by omega) (by omega),Cm (by omega) (by omega)];omega
  have Afm:List.range' (8-(r+1)) (r+1)=(8-(r+1))::List.range' (8-r) r:=by
   rw[List.range'_succ,show 8-(r+1)+1=8-r by omega]
  rw[Nv];simp (disch:=first|omega|exact h0) only[B4,B3,Ij,Ec,Z5 hw,hx,Ob,Hi,Ah (x:=j-1)];rw[Afm];simp only[G8,G9,Vl,Cu,IU,Rz,List.singleton_append] at ih ⊢;exact ih
theorem MZ{ws:Cg}(hl:ws.length<=1073741824)(Bo:100<=fu):∀(r:Cg)(i nn:Nat)(bs:Cg),ws.drop i=r->r.length<nn->bs.length=8*i ->
  Gf fu call n c nn ws.length (Ad .u64 ws) bs.length i (Ad .u8 bs)=some ⟨[.own 1 (bs++A9 r).length (Ad .u8 (bs++A9 r))],[]⟩
 |r,i,0,_,_,h,_=>by omega
 |[],i,nn+1,bs,h,_,_=>by
  have:=drop_nil h;have e8:=Am .u8 bs;rw[Ni];simp(disch:=omega)only[B4,B3,Ec,Ob,A9,List.flatMap_nil,List.append_nil]
 |w::r,i,nn+1,bs,h,hn,hb=>by
  obtain⟨h1,h2,h3⟩:=C1 h;simp only[G9] at hn;rw[Ni];simp(disch:=omega)only[B4,B3];rw[YC h2 8 fu 7 bs rfl (by omega) (by omega) (by omega),Ah (by omega) (by omega)];have ih:=MZ hl Bo r (i+1) nn (bs++Ew w) h3 (by omega) (by simp[Gp];omega)
  have e:bs++Ew w++A9 r=bs++A9 (w::r):=by simp[A9]
  rw[e] at ih;exact ih
theorem Vn{ws:Cg}(hl:ws.length<=1073741824)(Bo:100<=fu)(hf:ws.length<fu):Ap (CX xs) prog fu (d+1) 79 [.lst false 1 ws.length (Ad .u64 ws)]=some ⟨[.own 1 (A9 ws).length (Ad .u8 (A9 ws))],[]⟩:=by rw[CN];exact MZ hl Bo ws 0 fu [] rfl hf rfl
end
abbrev G6(a b:Int):Int:=VB .u64 (Iy .u64 a 8) (wrap .u64 b)
def RA(bs:Cg):Int:=bs.foldl G6 0
theorem Awa{q:Int}(h0:0<=q)(h1:q<=18446744073709551615):G6 (q / 256) (wrap .u8 q)=q:=by
 have e1:Iy .u64 (q / 256) 8=q / 256*256:=by
  unfold Iy;have:((8:Int).toNat.min IntKind.u64.bits)=8:=by decide
  show wrap .u64 (q / 256*2 ^ (min (8:Int).toNat IntKind.u64.bits))=_;have h2:(2:Int) ^ (min (8:Int).toNat IntKind.u64.bits)=256:=by decide
  rw[h2,Cm (by omega) (by omega)]
 have e2:wrap .u8 q=q % 256:=by
  simp only[wrap,IntKind.signed,IntKind.bits];simp
 have e3:wrap .u64 (q % 256)=q % 256:=Cm (by omega) (by omega);unfold G6;rw[e1,e2,e3];obtain⟨n,rfl⟩:=Int.eq_ofNat_of_zero_le h0;have hn:n<18446744073709551616:=by omega
 have e4:(BitVec.ofInt 64 ((n:Int) / 256*256)).toNat=n / 256*256:=by
  rw[BitVec.toNat_ofInt];omega
 have e5:(BitVec.ofInt 64 ((n:Int) % 256)).toNat=n % 256:=by
  rw[BitVec.toNat_ofInt];omega
 have e6:n / 256*256 ||| n % 256=n:=by
  have:=Nat.shiftLeft_add_eq_or_of_lt (show n % 256<2 ^ 8 by omega) (n / 256);rw[Nat.shiftLeft_eq] at this;rw[<-this];omega
 unfold VB;show wrap .u64 ((BitVec.ofInt 64 ((n:Int) / 256*256) ||| BitVec.ofInt 64 ((n:Int) % 256)).toNat:Int)=n;rw[BitVec.toNat_or,e4,e5,e6,Cm (by omega) (by omega)]
theorem XH{w:Int}(k:Nat)(hk:k<8):Dz w k=wrap .u8 (w / 2 ^ (56-8*k)):=by
 unfold Dz Ff;have e:(56-8*(k:Int)).toNat=56-8*k:=by omega
 rw[e,Nat.min_eq_left (by show 56-8*k<=64;omega),Int.fdiv_eq_ediv_of_nonneg _ (Int.le_of_lt (Int.pow_pos (by omega)))]
theorem VO{w:Int}(h0:0<=w)(h1:w<=18446744073709551615):RA (Ew w)=w:=by
 have st:∀(k:Nat) (D:Int),k<8->(2:Int) ^ (56-8*k)=D->0<D->G6 (w / D / 256) (Dz w k)=w / D:=by
  intro k D hk hD hp;rw[XH k hk,hD];exact Awa (Int.ediv_nonneg h0 (Int.le_of_lt hp)) (Int.le_trans (Int.ediv_le_self _ h0) h1)
 have s0:=st 0 72057594037927936 (by omega) (by decide) (by omega);have s1:=st 1 281474976710656 (by omega) (by decide) (by omega);have s2:=st 2 1099511627776 (by omega) (by decide) (by omega);have s3:=st 3 4294967296 (by omega) (by decide) (by omega);have s4:=st 4 16777216 (by omega) (by decide) (by omega);have s5:=st 5 65536 (by omega) (by decide) (by omega);have s6:=st 6 256 (by omega) (by decide) (by omega);have s7:=st 7 1 (by omega) (by decide) (by omega);rw[show w / 72057594037927936 / 256=0 by omega] at s0;rw[show w / 281474976710656 / 256=w / 72057594037927936 by omega] at s1;rw[show w / 1099511627776 / 256=w / 281474976710656 by omega] at s2;rw[show w / 4294967296 / 256=w / 1099511627776 by omega] at s3;rw[show w / 16777216 / 256=w / 4294967296 by omega] at s4;rw[show w / 65536 / 256=w / 16777216 by omega] at s5;rw[show w / 256 / 256=w / 65536 by omega] at s6
 rw[show w / 1 / 256=w / 256 by omega,show w / 1=w by omega] at s7;show G6 (G6 (G6 (G6 (G6 (G6 (G6 (G6 0 (Dz w 0)) (Dz w 1)) (Dz w 2)) (Dz w 3)) (Dz w 4)) (Dz w 5)) (Dz w 6)) (Dz w 7)=w;rw[s0,s1,s2,s3,s4,s5,s6,s7]
section
variable {xs:FuncId->Option (Ab->Option Dl)}(fu d:Nat)(call:Bi)
def H1(Z:Int)(Y:Nat)(X W V:Int)(U T:Ab):Option Dl:=Lu fu call 110 Tryz.f110 [Ac Z] [.r,.r,.r,.l,.r,.l] Y ⟨lk [(0,Ac X),(2,.ptr 2 0),(3,.ptr 3 0),(4,W),(6,V)],Bq [(2,.ar false U),(3,.ar false T)]⟩
def T8(Z:Int)(Y:Nat)(X W:Ab):Option Dl:=Lu fu call 110 Tryz.f110 [Ac Z] [.r,.r,.r,.r,.r] Y ⟨lk [(2,.ptr 2 0),(3,.ptr 3 0)],Bq [(2,.ar false X),(3,.ar false W)]⟩
def Uc(Z:Int)(Y:Nat)(X:Ab):Option Dl:=Lu fu call 110 Tryz.f110 [Ac Z] [.r,.r,.r,.r,.r,.r] Y ⟨lk [(2,.ptr 2 0)],Bq [(2,.ar false X)]⟩
theorem Rc(W:Int)(T:Nat)(V X Z:Int)(U Y:Ab):H1 fu call W (T+1) V X Z U Y=(Bd (decide (Z<16)) (Aa (wrap .i64 (4*Z)) fun a=>Aa (wrap .i64 (60-a)) fun a=>At (decide (0<=a))<|Aa (Ff .u64 V a) fun a=>Aa (Tp .u64 a 15) fun a=>Aa (wrap .i64 a) fun a=>At (decide (0<=Z)&&decide (Z<18))<|At (decide (0+Z.toNat*1+1<=Y.length))<|Aa (Bp Y [a] (0+Z.toNat*1)) fun a=>At (decide (0<=Z)&&decide (Z<18))<|A8 .i64 (a.getD (0+Z.toNat*1) .top) fun b=>Aa (wrap .i64 (15-b)) fun b=>Aa (wrap .i64 (X+b)) fun b=>Aa (wrap .i64 (Z+1)) fun c=>H1 fu call W T V b c U a) (Aa (wrap .i64 (Int.tdiv X 16)) fun a=>At (decide (17<=Y.length))<|Aa (Bp Y [a] 16) fun a=>Aa (Int.tmod X 16) fun b=>At (decide (18<=a.length))<|Aa (Bp a [b] 17) fun a=>T8 fu call W fu U a)):=by kernel_rfl
theorem BZ(W:Int)(Y:Nat)(Ld:0<Y)(X Z:Ab):T8 fu call W Y X Z=(A8 .i64 (Z.getD 0 .top) fun a=>A8 .i64 (Z.getD 1 .top) fun b=>A8 .i64 (Z.getD 2 .top) fun c=>A8 .i64 (Z.getD 3 .top) fun e=>A8 .i64 (Z.getD 4 .top) fun f=>A8 .i64 (Z.getD 5 .top) fun g=>A8 .i64 (Z.getD 6 .top) fun h=>A8 .i64 (Z.getD 7 .top) fun i=>A8 .i64 (Z.getD 8 .top) fun j=>A8 .i64 (Z.getD 9 .top) fun k=>A8 .i64 (Z.getD 10 .top) fun m=>A8 .i64 (Z.getD 11 .top) fun n=>A8 .i64 (Z.getD 12 .top) fun o=>A8 .i64 (Z.getD 13 .top) fun p=>A8 .i64 (Z.getD 14 .top) fun q=>A8 .i64 (Z.getD 15 .top) fun s=>A8 .i64 (Z.getD 16 .top) fun t=>A8 .i64 (Z.getD 17 .top) fun u=>At (decide (18<=X.length))<|Aa (Bp X [a,b,c,e,f,g,h,i,j,k,m,n,o,p,q,s,t,u] 0) fun a=>Uc fu call W fu a):=by cases Y with|zero=>exact absurd Ld (Nat.lt_irrefl 0)|succ Y=>kernel_rfl
theorem CF(X:Int)(Y:Nat)(Ld:0<Y)(Z:Ab):Uc fu call X Y Z=(A8 .i64 (Z.getD 0 .top) fun a=>A8 .i64 (Z.getD 1 .top) fun b=>A8 .i64 (Z.getD 2 .top) fun c=>A8 .i64 (Z.getD 3 .top) fun e=>A8 .i64 (Z.getD 4 .top) fun f=>A8 .i64 (Z.getD 5 .top) fun g=>A8 .i64 (Z.getD 6 .top) fun h=>A8 .i64 (Z.getD 7 .top) fun i=>A8 .i64 (Z.getD 8 .top) fun j=>A8 .i64 (Z.getD 9 .top) fun k=>A8 .i64 (Z.getD 10 .top) fun m=>A8 .i64 (Z.getD 11 .top) fun n=>A8 .i64 (Z.getD 12 .top) fun o=>A8 .i64 (Z.getD 13 .top) fun p=>A8 .i64 (Z.getD 14 .top) fun q=>A8 .i64 (Z.getD 15 .top) fun s=>A8 .i64 (Z.getD 16 .top) fun t=>A8 .i64 (Z.getD 17 .top) fun u=>Bv [.agg [a,b,c,e,f,g,h,i,j,k,m,n,o,p,q,s,t,u]]):=by cases Y with|zero=>exact absurd Ld (Nat.lt_irrefl 0)|succ Y=>kernel_rfl
theorem IX(Z:Int):F1 (CX xs) fu d 110 [Ac Z] fun call=>H1 fu call Z fu Z 0 0 ([(0:Int),(0:Int),(0:Int),(0:Int),(0:Int),(0:Int),(0:Int),(0:Int),(0:Int),(0:Int),(0:Int),(0:Int),(0:Int),(0:Int),(0:Int),(0:Int),(0:Int),(0:Int)]) ([(0:Int),(0:Int),(0:Int),(0:Int),(0:Int),(0:Int),(0:Int),(0:Int),(0:Int),(0:Int),(0:Int),(0:Int),(0:Int),(0:Int),(0:Int),(0:Int),(0:Int),(0:Int)]):=by show _=_;kernel_rfl
def N4(Z Y:Int)(X W V:Int)(U:Nat)(T S:Int)(Q P O:Int):Option Dl:=Lu fu call 111 Tryz.f111 [Z,Y,X,W,Ac V] [.r,.r,.l,.r,.l] U ⟨lk [(0,T),(1,S),(4,Ac Q),(11,P),(12,O)],Bq []⟩
theorem Wg(U T:Int)(S Q P:Int)(O:Nat)(Y X:Int)(W V Z:Int):N4 fu call U T S Q P (O+1) Y X W V Z=(Bd (decide (Z<V)) (Aa (wrap .u64 Y) fun a=>Aa (wrap .u64 X) fun b=>Aa (wrap .u64 Z) fun c=>Eb (call 86 [Ai 1 4 [Ac a,Ac b,Ac c,Ac W]]) fun a b=>Kn 1 a fun a c=>Aq b<|At (decide (0+a*1<=c.length))<|J1 .u64 (call 66 [(1:Int),Ai 1 a (List.take (a*1) (c.drop 0))]) fun a=>Aa (wrap .i64 (Z+1)) fun b=>N4 fu call U T S Q P O Y X a V b) (Bv [Ac W])):=by kernel_rfl
theorem TX(X W:Int)(Z Y V:Int):F1 (CX xs) fu d 111 [X,W,Z,Y,Ac V] fun call=>Aa (if 15<Y then 15 else Y) fun a=>Aa (if Z<0 then 0 else Z) fun b=>N4 fu call X W Z Y V fu X W V a b:=by show _=_;kernel_rfl
theorem FZ(Z Y:Int)(X W:Int)(V U:Int)(T S:Int)(Q P:Int)(O N:Int)(M L:Int)(K J:Int)(I H G:Int):F1 (CX xs) fu d 115 [Z,.agg [Ac Y,Ac X,Ac W,Ac V,Ac U,Ac T,Ac S,Ac Q,Ac P,Ac O,Ac N,Ac M,Ac L,Ac K,Ac J,Ac I,Ac H,Ac G]] fun call=>Aa (wrap .u64 Z) fun a=>Eb (call 86 [Ai 1 19 [Ac a,Ac Y,Ac X,Ac W,Ac V,Ac U,Ac T,Ac S,Ac Q,Ac P,Ac O,Ac N,Ac M,Ac L,Ac K,Ac J,Ac I,Ac H,Ac G]]) fun a b=>Kn 1 a fun a c=>Aq b<|At (decide (0+a*1<=c.length))<|J1 .u64 (call 66 [(2:Int),Ai 1 a (List.take (a*1) (c.drop 0))]) fun a=>Bv [Ac a]:=by show _=_;kernel_rfl
def F4(Z Y:Int)(X:Nat)(W:Ab)(V:Nat)(U:Int)(T:Nat)(S:Ab)(Q P:Int)(O N:Int)(M L:Int)(K J:Int)(I H:Int)(G E:Int)(D B:Int)(A z:Int)(w v u:Int)(t:Ab):Option Dl:=Lu fu call 75 Tryz.f75 [Z,Ac Y,Ai 1 X W] [.r,.r,.r,.l,.r,.l] V ⟨lk [(0,U),(2,Ai 1 T S),(8,.ptr 8 0),(15,.agg [Q,P,O,N,M,L,K,J,I,H,G,E,D,B,A,z,w,v]),(16,u)],Bq [(8,.ar false t)]⟩
def Tk(Z Y:Int)(X:Nat)(W:Ab)(V:Nat)(U:Int)(T:Ab):Option Dl:=Lu fu call 75 Tryz.f75 [Z,Ac Y,Ai 1 X W] [.r,.r,.r] V ⟨lk [(0,U),(8,.ptr 8 0)],Bq [(8,.ar false T)]⟩
def S5(Z Y:Int)(X:Nat)(W:Ab)(V:Nat)(U T:Int):Option Dl:=Lu fu call 75 Tryz.f75 [Z,Ac Y,Ai 1 X W] [.r,.r,.r,.r] V ⟨lk [(6,Ac U),(7,T)],Bq []⟩
theorem Ql(W V:Int)(U:Nat)(T:Ab)(t:Nat)(Y:Int)(S:Nat)(Q:Ab)(P O:Int)(N M:Int)(L K:Int)(J I:Int)(H G:Int)(E D:Int)(B A:Int)(z w:Int)(v u Z:Int)(X:Ab):F4 fu call W V U T (t+1) Y S Q P O N M L K J I H G E D B A z w v u Z X=(Bd (decide (Z<18)) (At (decide (0<=Z)&&decide (Z<18)&&true)<|A8 .i64 (List.getD [P,O,N,M,L,K,J,I,H,G,E,D,B,A,z,w,v,u] (Z.toNat*1) .top) fun a=>At (decide (0<=Z)&&decide (Z<(↑S:Int)))<|A8 .u64 (Q.getD (Z.toNat*1) .top) fun b=>J1 .u64 (call 111 [Y,Z,a,(15:Int),Ac b]) fun a=>At (decide (0<=Z)&&decide (Z<18))<|At (decide (0+Z.toNat*1+1<=X.length))<|Aa (Bp X [Ac a] (0+Z.toNat*1)) fun a=>Aa (wrap .i64 (Z+1)) fun b=>F4 fu call W V U T t Y S Q P O N M L K J I H G E D B A z w v u b a) (Tk fu call W V U T fu Y X)):=by kernel_rfl
theorem Y5(X W:Int)(V:Nat)(U:Ab)(Y:Nat)(Ld:0<Y)(T:Int)(Z:Ab):Tk fu call X W V U Y T Z=(A8 .u64 (Z.getD 0 .top) fun a=>A8 .u64 (Z.getD 1 .top) fun b=>A8 .u64 (Z.getD 2 .top) fun c=>A8 .u64 (Z.getD 3 .top) fun e=>A8 .u64 (Z.getD 4 .top) fun f=>A8 .u64 (Z.getD 5 .top) fun g=>A8 .u64 (Z.getD 6 .top) fun h=>A8 .u64 (Z.getD 7 .top) fun i=>A8 .u64 (Z.getD 8 .top) fun j=>A8 .u64 (Z.getD 9 .top) fun k=>A8 .u64 (Z.getD 10 .top) fun m=>A8 .u64 (Z.getD 11 .top) fun n=>A8 .u64 (Z.getD 12 .top) fun o=>A8 .u64 (Z.getD 13 .top) fun p=>A8 .u64 (Z.getD 14 .top) fun q=>A8 .u64 (Z.getD 15 .top) fun s=>A8 .u64 (Z.getD 16 .top) fun t=>A8 .u64 (Z.getD 17 .top) fun u=>J1 .u64 (call 115 [T,.agg [Ac a,Ac b,Ac c,Ac e,Ac f,Ac g,Ac h,Ac i,Ac j,Ac k,Ac m,Ac n,Ac o,Ac p,Ac q,Ac s,Ac t,Ac u]]) fun a=>S5 fu call X W V U fu a 0):=by cases Y with|zero=>exact absurd Ld (Nat.lt_irrefl 0)|succ Y=>kernel_rfl
theorem Z4(W V:Int)(U:Nat)(T:Ab)(Z:Nat)(Ld:0<Z)(Y X:Int):S5 fu call W V U T Z Y X=(Bv [Ac Y,X]):=by cases Z with|zero=>exact absurd Ld (Nat.lt_irrefl 0)|succ Z=>kernel_rfl
theorem HW(Y X:Int)(Z:Nat)(W:Ab):F1 (CX xs) fu d 75 [Y,Ac X,Ai 1 Z W] fun call=>Bd ((↑Z:Int) != 18) (Bv [Ac 0,(4:Int)]) (Eb (call 110 [Ac X]) fun a b=>D3 a fun a=>Di .i64 a fun a c=>Di .i64 c fun c e=>Di .i64 e fun e f=>Di .i64 f fun f g=>Di .i64 g fun g h=>Di .i64 h fun h i=>Di .i64 i fun i j=>Di .i64 j fun j k=>Di .i64 k fun k m=>Di .i64 m fun m n=>Di .i64 n fun n o=>Di .i64 o fun o p=>Di .i64 p fun p q=>Di .i64 q fun q s=>Di .i64 s fun s t=>Di .i64 t fun t u=>Di .i64 u fun u v=>D1 .i64 v fun v=>Aq b<|F4 fu call Y X Z W fu Y Z W a c e f g h i j k m n o p q s t u v 0 ([Ac 0,Ac 0,Ac 0,Ac 0,Ac 0,Ac 0,Ac 0,Ac 0,Ac 0,Ac 0,Ac 0,Ac 0,Ac 0,Ac 0,Ac 0,Ac 0,Ac 0,Ac 0])):=by show _=_;kernel_rfl
theorem JQ(Z Y X:Int):F1 (CX xs) fu d 112 [Ac Z,Y,X] fun call=>Aa (wrap .u64 Y) fun a=>Aa (wrap .u64 X) fun b=>Eb (call 86 [Ai 1 2 [Ac a,Ac b]]) fun a b=>Kn 1 a fun a c=>Aq b<|At (decide (0+a*1<=c.length))<|J1 .u64 (call 137 [Ac Z,(1:Int),Ai 1 a (List.take (a*1) (c.drop 0))]) fun a=>Bv [Ac a]:=by show _=_;kernel_rfl
def Gr(Z Y:Int)(X:Nat)(W V U:Int)(T:Ab):Option Dl:=Lu fu call 114 Tryz.f114 [Ac Z,Y] [.r,.r,.l,.r,.l] X ⟨lk [(0,Ac W),(1,V),(5,.ptr 5 0),(7,U)],Bq [(5,.ar false T)]⟩
def Ux(Z Y:Int)(X:Nat)(W:Int)(V:Ab):Option Dl:=Lu fu call 114 Tryz.f114 [Ac Z,Y] [.r,.r] X ⟨lk [(1,W),(5,.ptr 5 0)],Bq [(5,.ar false V)]⟩
def Uo(Z Y:Int)(X:Nat)(W:Int):Option Dl:=Lu fu call 114 Tryz.f114 [Ac Z,Y] [.r,.r,.r] X ⟨lk [(4,Ac W)],Bq []⟩
theorem Q2(W V:Int)(T:Nat)(U Y Z:Int)(X:Ab):Gr fu call W V (T+1) U Y Z X=(Bd (decide (Z<18)) (J1 .u64 (call 112 [Ac U,Y,Z]) fun a=>J1 .u64 (call 111 [Y,Z,(0:Int),(15:Int),Ac a]) fun a=>At (decide (0<=Z)&&decide (Z<18))<|At (decide (0+Z.toNat*1+1<=X.length))<|Aa (Bp X [Ac a] (0+Z.toNat*1)) fun a=>Aa (wrap .i64 (Z+1)) fun b=>Gr fu call W V T U Y b a) (Ux fu call W V fu Y X)):=by kernel_rfl
theorem CK(X W:Int)(Y:Nat)(Ld:0<Y)(V:Int)(Z:Ab):Ux fu call X W Y V Z=(A8 .u64 (Z.getD 0 .top) fun a=>A8 .u64 (Z.getD 1 .top) fun b=>A8 .u64 (Z.getD 2 .top) fun c=>A8 .u64 (Z.getD 3 .top) fun e=>A8 .u64 (Z.getD 4 .top) fun f=>A8 .u64 (Z.getD 5 .top) fun g=>A8 .u64 (Z.getD 6 .top) fun h=>A8 .u64 (Z.getD 7 .top) fun i=>A8 .u64 (Z.getD 8 .top) fun j=>A8 .u64 (Z.getD 9 .top) fun k=>A8 .u64 (Z.getD 10 .top) fun m=>A8 .u64 (Z.getD 11 .top) fun n=>A8 .u64 (Z.getD 12 .top) fun o=>A8 .u64 (Z.getD 13 .top) fun p=>A8 .u64 (Z.getD 14 .top) fun q=>A8 .u64 (Z.getD 15 .top) fun s=>A8 .u64 (Z.getD 16 .top) fun t=>A8 .u64 (Z.getD 17 .top) fun u=>J1 .u64 (call 115 [V,.agg [Ac a,Ac b,Ac c,Ac e,Ac f,Ac g,Ac h,Ac i,Ac j,Ac k,Ac m,Ac n,Ac o,Ac p,Ac q,Ac s,Ac t,Ac u]]) fun a=>Uo fu call X W fu a):=by cases Y with|zero=>exact absurd Ld (Nat.lt_irrefl 0)|succ Y=>kernel_rfl
theorem BL(X W:Int)(Z:Nat)(Ld:0<Z)(Y:Int):Uo fu call X W Z Y=(Bv [Ac Y]):=by cases Z with|zero=>exact absurd Ld (Nat.lt_irrefl 0)|succ Z=>kernel_rfl
theorem IY(Z Y:Int):F1 (CX xs) fu d 114 [Ac Z,Y] fun call=>Gr fu call Z Y fu Z Y 0 ([Ac 0,Ac 0,Ac 0,Ac 0,Ac 0,Ac 0,Ac 0,Ac 0,Ac 0,Ac 0,Ac 0,Ac 0,Ac 0,Ac 0,Ac 0,Ac 0,Ac 0,Ac 0]):=by show _=_;kernel_rfl
def L5(Z Y X:Int)(W:Nat)(V U:Int)(T S:Int)(Q P:Int)(O N:Int)(M L:Int)(K J:Int)(I H:Int)(G E:Int)(D B:Int)(A z w:Int)(v:Ab):Option Dl:=Lu fu call 69 Tryz.f69 [Ac Z,Y,Ac X] [.r,.r,.l,.r,.l] W ⟨lk [(0,Ac V),(1,U),(7,.ptr 7 0),(11,.agg [T,S,Q,P,O,N,M,L,K,J,I,H,G,E,D,B,A,z]),(12,w)],Bq [(7,.ar false v)]⟩
theorem Ub(A z w:Int)(v:Nat)(W X:Int)(V U:Int)(T S:Int)(Q P:Int)(O N:Int)(M L:Int)(K J:Int)(I H:Int)(G E:Int)(D B Z:Int)(Y:Ab):L5 fu call A z w (v+1) W X V U T S Q P O N M L K J I H G E D B Z Y=(Bd (decide (Z<18)) (At (decide (0<=Z)&&decide (Z<18)&&true)<|A8 .i64 (List.getD [V,U,T,S,Q,P,O,N,M,L,K,J,I,H,G,E,D,B] (Z.toNat*1) .top) fun a=>J1 .u64 (call 112 [Ac W,X,Z]) fun b=>J1 .u64 (call 111 [X,Z,(0:Int),a,Ac b]) fun a=>At (decide (0<=Z)&&decide (Z<18))<|At (decide (0+Z.toNat*1+1<=Y.length))<|Aa (Bp Y [Ac a] (0+Z.toNat*1)) fun a=>Aa (wrap .i64 (Z+1)) fun b=>L5 fu call A z w v W X V U T S Q P O N M L K J I H G E D B b a) (At (decide (18<=Y.length))<|At (decide (18<=Y.length))<|Bv [.own 1 18 (Y.take 18)])):=by kernel_rfl
theorem RH(Z Y X:Int):F1 (CX xs) fu d 69 [Ac Z,Y,Ac X] fun call=>Eb (call 110 [Ac X]) fun a b=>D3 a fun a=>Di .i64 a fun a c=>Di .i64 c fun c e=>Di .i64 e fun e f=>Di .i64 f fun f g=>Di .i64 g fun g h=>Di .i64 h fun h i=>Di .i64 i fun i j=>Di .i64 j fun j k=>Di .i64 k fun k m=>Di .i64 m fun m n=>Di .i64 n fun n o=>Di .i64 o fun o p=>Di .i64 p fun p q=>Di .i64 q fun q s=>Di .i64 s fun s t=>Di .i64 t fun t u=>Di .i64 u fun u v=>D1 .i64 v fun v=>Aq b<|L5 fu call Z Y X fu Z Y a c e f g h i j k m n o p q s t u v 0 ([Ac 0,Ac 0,Ac 0,Ac 0,Ac 0,Ac 0,Ac 0,Ac 0,Ac 0,Ac 0,Ac 0,Ac 0,Ac 0,Ac 0,Ac 0,Ac 0,Ac 0,Ac 0]):=by show _=_;kernel_rfl
theorem QW(Z:Int):F1 (CX xs) fu d 67 [Z] fun call=>Bd (decide (Z<0)) (Bv [.sc (.bool true)]) (Bv [.sc (.bool (decide (Z>4)))]):=by show _=_;kernel_rfl
theorem FR(Z Y:Int):F1 (CX xs) fu d 68 [Z,Y] fun call=>Bd (decide (Z<0)) (Bv [.sc (.bool true)]) (At (decide (0<=Y))<|Aa (Iy .i64 1 Y) fun a=>Bv [.sc (.bool (decide (Z>=a)))]):=by show _=_;kernel_rfl
def Ip(Z:Nat)(Y:Ab)(X W:Nat)(V:Ab)(U:Nat)(T S:Int)(Q:Ab):Option Dl:=Lu fu call 92 Tryz.f92 [Ai 1 Z Y] [.r,.r,.l,.r,.l] X ⟨lk [(0,Ai 1 W V),(3,.view 3 1 0 U),(12,T),(13,S)],Bq [(3,.ar false Q)]⟩
def Kq(Z:Nat)(Y:Ab)(X W V:Nat)(U:Ab)(T:Nat)(S Q P:Int)(O:Nat)(N:Ab)(M L:Int)(K:Ab):Option Dl:=Lu fu call 92 Tryz.f92 [Ai 1 Z Y] [.r,.r,.l,.r,.l,.i X,.r,.r,.l,.l,.r,.r,.l] W ⟨lk [(0,Ai 1 V U),(3,.view 3 1 0 T),(4,S),(12,Q),(13,P),(22,Ai 1 O N),(23,M),(24,L)],Bq [(3,.ar false K)]⟩
theorem Sx(T:Nat)(S:Ab)(Q W:Nat)(V:Ab)(Y:Nat)(U Z:Int)(X:Ab):Ip fu call T S (Q+1) W V Y U Z X=(Bd (decide (Z<U)) (Aa (wrap .i64 (8*Z)) fun a=>Aa (wrap .i64 (8*Z)) fun b=>Aa (wrap .i64 (b+8)) fun b=>At (decide (0<=a))<|At (decide (0<=b))<|At (decide (a.toNat<=b.toNat)&&decide (b.toNat<=W))<|Aa (b.toNat-a.toNat) fun b=>Aa (List.take (b*1) (V.drop (a.toNat*1))) fun a=>Kq fu call T S Q fu W V Y Z U Z b a (↑b:Int) 0 X) (At (decide (Y*1<=X.length))<|Bv [.own 1 Y (X.take (Y*1))])):=by kernel_rfl
theorem R4(V:Nat)(U:Ab)(T K S:Nat)(Q:Ab)(X:Nat)(Z P O:Int)(N:Nat)(M:Ab)(L Y:Int)(W:Ab):Kq fu call V U T (K+1) S Q X Z P O N M L Y W=(Bd (decide (Y<L)) (At (decide (0<=Y)&&decide (Y<(↑N:Int)))<|A8 .u8 (M.getD (Y.toNat*1) .top) fun a=>At (decide (0<=Z)&&decide (Z<(↑X:Int)))<|A8 .u64 (W.getD (0+Z.toNat*1) .top) fun b=>Aa (Iy .u64 b 8) fun b=>Aa (wrap .u64 a) fun a=>Aa (VB .u64 b a) fun a=>At (decide (0<=Z)&&decide (Z<(↑X:Int)))<|At (decide (0+Z.toNat*1+1<=W.length))<|Aa (Bp W [Ac a] (0+Z.toNat*1)) fun a=>Aa (wrap .i64 (Y+1)) fun b=>Kq fu call V U T K S Q X Z P O N M L b a) (Aa (wrap .i64 (O+1)) fun a=>Ip fu call V U T S Q X P a W)):=by kernel_rfl
theorem NW(Z:Nat)(Y:Ab):F1 (CX xs) fu d 92 [Ai 1 Z Y] fun call=>Aa (wrap .i64 (Int.tdiv (↑Z:Int) 8)) fun a=>At (decide (0<=a)&&decide (a<=a)&&decide (a*8<=1099511627776)&&decide (a<=1099511627776))<|Ip fu call Z Y fu Z Y a.toNat ((↑a.toNat:Int)) 0 (V5 a.toNat [Ac 0]):=by show _=_;kernel_rfl
theorem JR(Z Y X:Int):F1 (CX xs) fu d 76 [Z,Ac Y,Ac X] fun call=>Aa (wrap .u64 Z) fun a=>Eb (call 86 [Ai 1 3 [Ac a,Ac Y,Ac X]]) fun a b=>Kn 1 a fun a c=>Aq b<|At (decide (0+a*1<=c.length))<|J1 .u64 (call 66 [(3:Int),Ai 1 a (List.take (a*1) (c.drop 0))]) fun a=>Bv [Ac a]:=by show _=_;kernel_rfl
theorem CM(Z Y:Int):F1 (CX xs) fu d 129 [.agg [Z,Ac Y]] fun call=>Eb (call 67 [Z]) fun a b=>Co a fun a=>Aq b<|Bd a (Bv [.own 1 0 [],(9:Int)]) (Aa (wrap .u8 Z) fun a=>Eb (call 86 [Ai 1 1 [Ac Y]]) fun b c=>Kn 1 b fun b e=>Aq c<|At (decide (0+b*1<=e.length))<|At (decide (List.length (List.take (b*1) (e.drop 0))=b*1)&&decide ((1+b)*1<=1099511627776)&&decide (1+b<=1099511627776))<|Aa (1+b) fun c=>Aa ([.sc (.int .u8 a)]++List.take (b*1) (e.drop 0)) fun a=>At (decide (c*1<=a.length))<|Bv [.own 1 c (a.take (c*1)),(0:Int)]):=by show _=_;kernel_rfl
theorem BS(Z:Nat)(Y:Ab):F1 (CX xs) fu d 125 [Ai 1 Z Y] fun call=>Bd ((↑Z:Int) != 9) (Bv [.agg [(0:Int),Ac 0],(2:Int)]) (At (decide (0<(↑Z:Int)))<|A8 .u8 (Y.getD 0 .top) fun a=>Aa (wrap .i64 a) fun a=>Eb (call 67 [a]) fun a b=>Co a fun a=>Aq b<|Bd a (Bv [.agg [(0:Int),Ac 0],(2:Int)]) (At (decide (0<(↑Z:Int)))<|A8 .u8 (Y.getD 0 .top) fun a=>Aa (wrap .i64 a) fun a=>At (decide (1<=Z)&&decide (Z<=Z))<|Aa (Z-1) fun b=>Aa (List.take (b*1) (Y.drop 1)) fun c=>Eb (call 92 [Ai 1 b c]) fun b c=>Kn 1 b fun b e=>Aq c<|At (decide (0<(↑b:Int)))<|A8 .u64 (e.getD 0 .top) fun b=>Bv [.agg [a,Ac b],(0:Int)])):=by show _=_;kernel_rfl
theorem Ts(Y:Int)(X:Nat)(W:Ab)(Z:Nat)(V:Ab):F1 (CX xs) fu d 46 [.agg [Y,Ai 1 X W,Ai 1 Z V]] fun call=>Eb (call 67 [(↑Z:Int)]) fun a b=>Co a fun a=>Aq b<|Bd a (Bv [.own 1 0 [],(9:Int)]) (Eb (call 68 [Y,(↑Z:Int)]) fun a b=>Co a fun a=>Aq b<|Bd a (Bv [.own 1 0 [],(9:Int)]) (Bd ((↑X:Int) != 18) (Bv [.own 1 0 [],(4:Int)]) (Aa (wrap .u8 Y) fun a=>Aa (wrap .u8 (↑Z:Int)) fun b=>Eb (call 86 [Ai 1 X W]) fun c e=>Kn 1 c fun c f=>Aq e<|At (decide (0+c*1<=f.length))<|At (decide (List.length (List.take (c*1) (f.drop 0))=c*1)&&decide ((2+c)*1<=1099511627776)&&decide (2+c<=1099511627776))<|Aa (2+c) fun e=>Aa ([.sc (.int .u8 a),.sc (.int .u8 b)]++List.take (c*1) (f.drop 0)) fun a=>Eb (call 86 [Ai 1 Z V]) fun b c=>Kn 1 b fun b f=>Aq c<|At (decide (0+b*1<=f.length))<|At (decide (e*1<=a.length)&&decide (List.length (List.take (b*1) (f.drop 0))=b*1)&&decide ((e+b)*1<=1099511627776)&&decide (e+b<=1099511627776))<|Aa (e+b) fun c=>Aa (List.take (e*1) a++List.take (b*1) (f.drop 0)) fun a=>At (decide (c*1<=a.length))<|Bv [.own 1 c (a.take (c*1)),(0:Int)]))):=by show _=_;kernel_rfl
theorem Tm(Z:Nat)(Y:Ab):F1 (CX xs) fu d 49 [Ai 1 Z Y] fun call=>Bd (decide ((↑Z:Int)<2)) (Bv [.agg [(0:Int),.own 1 0 [],.own 1 0 []],(2:Int)]) (At (decide (0<(↑Z:Int)))<|A8 .u8 (Y.getD 0 .top) fun a=>Aa (wrap .i64 a) fun a=>At (decide (1<(↑Z:Int)))<|A8 .u8 (Y.getD 1 .top) fun b=>Aa (wrap .i64 b) fun b=>Eb (call 67 [b]) fun c e=>Co c fun c=>Aq e<|Bd c (Bv [.agg [(0:Int),.own 1 0 [],.own 1 0 []],(2:Int)]) (Eb (call 68 [a,b]) fun c e=>Co c fun c=>Aq e<|Bd c (Bv [.agg [(0:Int),.own 1 0 [],.own 1 0 []],(2:Int)]) (Aa (wrap .i64 (18+b)) fun b=>Aa (wrap .i64 (8*b)) fun b=>Aa (wrap .i64 (2+b)) fun b=>Bd ((↑Z:Int) != b) (Bv [.agg [(0:Int),.own 1 0 [],.own 1 0 []],(2:Int)]) (At (decide (146<=Z))<|Aa (List.take 144 (Y.drop 2)) fun b=>Eb (call 92 [Ai 1 144 b]) fun b c=>Kn 1 b fun b e=>Aq c<|At (decide (146<=Z)&&decide (Z<=Z))<|Aa (Z-146) fun c=>Aa (List.take (c*1) (Y.drop 146)) fun f=>Eb (call 92 [Ai 1 c f]) fun c f=>Kn 1 c fun c g=>Aq f<|At (decide (b*1<=e.length))<|At (decide (c*1<=g.length))<|Bv [.agg [a,.own 1 b (e.take (b*1)),.own 1 c (g.take (c*1))],(0:Int)])))):=by show _=_;kernel_rfl
def Hx(Z Y:Int)(X W:Int)(V:Nat)(U:Ab)(T:Nat)(S:Ab)(Q:Nat)(P:Int)(O:Nat)(N:Ab)(M L:Int)(K J I:Int)(H:Nat)(G:Ab)(E:Nat)(D:Ab):Option Dl:=Lu fu call 40 Tryz.f40 [.agg [Z,Ac Y],Ac X,.agg [W,Ai 1 V U,Ai 1 T S]] [.r,.r,.r,.r,.r,.l,.r,.l] Q ⟨lk [(3,.ptr 3 0),(5,.ptr 5 0),(7,Ac P),(46,Ai 1 O N),(47,M),(48,L)],Bq [(3,.st [K,Ac J]),(5,.st [I,Ai 1 H G,Ai 1 E D])]⟩
theorem Qw(S Q:Int)(P O:Int)(N:Nat)(M:Ab)(L:Nat)(K:Ab)(J:Nat)(Y:Int)(X:Nat)(W:Ab)(V Z:Int)(I U T:Int)(H:Nat)(G:Ab)(E:Nat)(D:Ab):Hx fu call S Q P O N M L K (J+1) Y X W V Z I U T H G E D=(Bd (decide (Z<V)) (At (decide (0<=Z)&&decide (Z<(↑X:Int)))<|A8 .u64 (W.getD (Z.toNat*1) .top) fun a=>At (decide (0<=Z))<|Aa (Ff .i64 T Z) fun b=>Aa (Tp .i64 b 1) fun b=>Bd (b==0) (Aa (wrap .i64 (Z+1)) fun b=>J1 .u64 (call 76 [b,Ac Y,Ac a]) fun a=>Aa (wrap .i64 (Z+1)) fun b=>Hx fu call S Q P O N M L K J a X W V b I U T H G E D) (Aa (wrap .i64 (Z+1)) fun b=>J1 .u64 (call 76 [b,Ac a,Ac Y]) fun a=>Aa (wrap .i64 (Z+1)) fun b=>Hx fu call S Q P O N M L K J a X W V b I U T H G E D)) (Bd (Y != U) (Bv [(15:Int)]) (Bv [(0:Int)]))):=by kernel_rfl
theorem KM(Z T:Int)(S X:Int)(W:Nat)(V:Ab)(Y:Nat)(U:Ab):F1 (CX xs) fu d 40 [.agg [Z,Ac T],Ac S,.agg [X,Ai 1 W V,Ai 1 Y U]] fun call=>Eb (call 67 [Z]) fun a b=>Co a fun a=>Aq b<|Bd a (Bv [(9:Int)]) (Eb (call 68 [X,Z]) fun a b=>Co a fun a=>Aq b<|Bd a (Bv [(9:Int)]) (Bd ((↑W:Int) != 18) (Bv [(4:Int)]) (Bd ((↑Y:Int) != Z) (Bv [(4:Int)]) (Eb (call 75 [X,Ac S,Ai 1 W V]) fun a b=>A8 .u64 a fun a=>D1 .i64 b fun b=>Bd (b != 0) (Bv [b]) (Hx fu call Z T S X W V Y U fu a Y U (↑Y:Int) 0 Z T X W V Y U))))):=by show _=_;kernel_rfl
end
theorem Ayy{a m:Int}(h0:0<=m)(h1:m<=18446744073709551615):0<=Tp .u64 a m/\Tp .u64 a m<=m:=by
 have CL:(BitVec.ofInt 64 a &&& BitVec.ofInt 64 m).toNat<=m.toNat:=by
  rw[BitVec.toNat_and];refine Nat.le_trans Nat.and_le_right ?_;rw[BitVec.toNat_ofInt];omega
 have:Tp .u64 a m=((BitVec.ofInt 64 a &&& BitVec.ofInt 64 m).toNat:Int):=by
  unfold Tp;exact Cm (by omega) (by show ((BitVec.ofInt 64 a &&& BitVec.ofInt 64 m).toNat:Int)<=_;omega)
 rw[this];omega
theorem Nw(k:IntKind)(l:Cg)(i:Nat)(x:Int):(Ad k l).set i (.sc (.int k x))=Ad k (l.set i x):=by
 induction l generalizing i with
 |nil=>rfl
 |cons a l ih=>
  cases i with
  |zero=>rfl
  |succ i=>
   show (PV.sc (.int k a)::Ad k l).set (i+1) _=PV.sc (.int k a)::Ad k (l.set i x);rw[List.set_cons_succ,ih]
theorem Adx(w:Int)(k:Nat):0<=Dz w k/\Dz w k<=255:=by unfold Dz;simp only[wrap,IntKind.signed,IntKind.bits];simp;omega
theorem Ajk(w:Int):Mn (Ew w):=by intro x hx;obtain⟨k,_,rfl⟩:=List.mem_map.1 hx;exact Adx w k
theorem Wr(ws:Cg):Mn (A9 ws):=by intro x hx;obtain⟨w,_,hx⟩:=List.mem_flatMap.1 hx;exact Ajk w x hx
theorem D9(ws:Cg):(A9 ws).length=8*ws.length:=by
 induction ws with
 |nil=>rfl
 |cons w ws ih=>
  show (Ew w++A9 ws).length=_;rw[G8,ih,Gp,G9];omega
def Ie(m:Int)(k:Nat):Int:=wrap .i64 (Tp .u64 (Ff .u64 m (60-4*(k:Int))) 15)
theorem T0(m:Int)(k:Nat):0<=Ie m k/\Ie m k<=15:=by have:=Ayy (a:=Ff .u64 m (60-4*(k:Int))) (m:=15) (by omega) (by omega);unfold Ie;rw[Ah (by omega) (by omega)];exact this
def Mh(m:Int):Nat->Int
 |0=>0
 |k+1=>Mh m k+(15-Ie m k)
theorem M1(m:Int):∀k,0<=Mh m k/\Mh m k<=15*k
 |0=>by simp[Mh]
 |k+1=>by
  have h1:=M1 m k;have h2:=T0 m k;simp only[Mh];omega
def UJ(m:Int):Cg:=(List.range 16).map (Ie m)++[Mh m 16 / 16,Mh m 16 % 16]
def dg(m:Int)(k:Nat):Int:=(UJ m).getD k 0
theorem Ajp(m:Int):(UJ m).length=18:=rfl
theorem Aum{m x:Int}(h:x∈UJ m):0<=x/\x<=15:=by
 have hs:=M1 m 16;unfold UJ at h;rcases Bu.1 h with h|h
 ·obtain⟨k,_,rfl⟩:=List.mem_map.1 h;exact T0 m k
 ·simp at h;rcases h with rfl|rfl<;>omega
theorem Wi(m:Int)(k:Nat):0<=dg m k/\dg m k<=15:=by
 unfold dg;rw[List.getD_eq_getElem?_getD];cases h:(UJ m)[k]? with
 |none=>simp
 |some x=>exact Aum (List.mem_of_getElem? h)
def dl(m:Int)(i:Nat):Cg:=(List.range i).map (Ie m)++List.replicate (18-i) 0
theorem Af6(m:Int){i:Nat}(h:i<=18):(dl m i).length=18:=by simp[dl];omega
theorem A1s(m:Int){i:Nat}(h:i<18):(dl m (i+1))[i]?=some (Ie m i):=by unfold dl;rw[List.getElem?_append_left (by simp)];simp
theorem Ay1(m:Int){i:Nat}(h:i<18):(dl m i).set i (Ie m i)=dl m (i+1):=by unfold dl;rw[List.set_append_right _ _ (by simp),List.length_map,List.length_range,Nat.sub_self,show 18-i=(18-(i+1))+1 by omega,List.replicate_succ,List.set_cons_zero,List.range_succ,List.map_append,IU];rfl
def Tr(leaf chain:Int):Nat->Int->Int->Int
 |0,_,x=>x
 |k+1,p,x=>Tr leaf chain k (p+1) (P8 1 (A9 [wrap .u64 leaf,wrap .u64 chain,wrap .u64 p,x]))
theorem Aeq(leaf chain:Int):∀(k j:Nat)(p x:Int),Tr leaf chain (k+j) p x=Tr leaf chain j (p+k) (Tr leaf chain k p x)
 |0,j,p,x=>by simp[Tr]
 |k+1,j,p,x=>by
  rw[show k+1+j=(k+j)+1 by omega];simp only[Tr];rw[Aeq leaf chain k j]
  congr 1
  omega
def CQ(leaf:Int)(E:Cg):Int:=P8 2 (A9 (wrap .u64 leaf::E))
def CD(leaf m:Int)(s:Cg)(k:Nat):Int:=Tr leaf k (15-dg m k).toNat (dg m k) (s.getD k 0)
def PK(leaf m:Int)(s:Cg):Cg:=(List.range 18).map (CD leaf m s)
def ZR(leaf m:Int)(s:Cg):Int:=CQ leaf (PK leaf m s)
def el(leaf m:Int)(s:Cg)(i:Nat):Cg:=(List.range i).map (CD leaf m s)++List.replicate (18-i) 0
theorem Anr(leaf m:Int)(s:Cg){i:Nat}(h:i<=18):(el leaf m s i).length=18:=by simp[el];omega
theorem Axu(leaf m:Int)(s:Cg){i:Nat}(h:i<18):(el leaf m s i).set i (CD leaf m s i)=el leaf m s (i+1):=by unfold el;rw[List.set_append_right _ _ (by simp),List.length_map,List.length_range,Nat.sub_self,show 18-i=(18-(i+1))+1 by omega,List.replicate_succ,List.set_cons_zero,List.range_succ,List.map_append,IU];rfl
theorem A2h(leaf m:Int)(s:Cg):el leaf m s 18=PK leaf m s:=by unfold el PK;simp
section
variable {fu d:Nat}{xs:FuncId->Option (Ab->Option Dl)}
theorem Aps{ws:Cg}(hl:ws.length<=100)(Bo:1000<=fu)(dom:Int):Ap (CX xs) prog fu (d+5) 66 [Ao dom,.lst false 1 (A9 ws).length (Ad .u8 (A9 ws))]=some ⟨[Ac (P8 dom (A9 ws))],[]⟩:=
 Ait (Wr ws) (by rw[D9];omega) (by omega) (by rw[D9];omega) dom
theorem Abl{leaf chain:Int}{a0 a1 a2 a3 a4:Int}(Bo:1000<=fu){t:Int}(ht:t<=15):∀(k nn:Nat)(p x:Int),(k:Int)=t-p->0<=p->k<nn ->
  N4 fu (Ap (CX xs) prog fu (d+5)) a0 a1 a2 a3 a4 nn leaf chain x t p=some ⟨[Ac (Tr leaf chain k p x)],[]⟩
 |_,0,_,_,_,_,h=>by omega
 |0,nn+1,p,x,hk,hp,hn=>by
  rw[Wg,D0 _ _ _ (by omega)];rfl
 |k+1,nn+1,p,x,hk,hp,hn=>by
  have w:wrap .i64 (p+1)=p+1:=Ah (by omega) (by omega);have wd:Ap (CX xs) prog fu (d+5) 86 [.lst false 1 4 [Ac (wrap .u64 leaf),Ac (wrap .u64 chain),Ac (wrap .u64 p),Ac x]]=_:=R9 (ws:=[wrap .u64 leaf,wrap .u64 chain,wrap .u64 p,x]) (by simp) (by omega) (by simp;omega)
  have hs:=Aps (xs:=xs) (fu:=fu) (d:=d) (ws:=[wrap .u64 leaf,wrap .u64 chain,wrap .u64 p,x]) (by simp) Bo 1;have ih:=Abl (leaf:=leaf) (chain:=chain) (a0:=a0) (a1:=a1) (a2:=a2) (a3:=a3) (a4:=a4) Bo ht k nn (p+1) (P8 1 (A9 [wrap .u64 leaf,wrap .u64 chain,wrap .u64 p,x])) (by omega) (by omega) (by omega);have L:=Am .u8 (A9 [wrap .u64 leaf,wrap .u64 chain,wrap .u64 p,x]);have eR:Tr leaf chain (k+1) p x=Tr leaf chain k (p+1) (P8 1 (A9 [wrap .u64 leaf,wrap .u64 chain,wrap .u64 p,x])):=rfl;rw[eR];generalize A9 [wrap .u64 leaf,wrap .u64 chain,wrap .u64 p,x]=W at wd hs ih L ⊢;rw[Wg];simp(disch:=omega)only[B4,B3,wd,Ec,Cu,Fi,Ob,L,hs,w];exact ih
theorem Ag3{leaf chain:Int}(Bo:1000<=fu)(k:Nat)(f t x:Int)(hk:(k:Int)=t-f)(h0:0<=f)(h1:t<=15):Ap (CX xs) prog fu (d+6) 111 [Ao leaf,Ao chain,Ao f,Ao t,Ac x]=some ⟨[Ac (Tr leaf chain k f x)],[]⟩:=by rw[TX];simp only[Je];rw[Ba (by omega),Ba (by omega)];exact Abl Bo h1 k fu f x hk h0 (by omega)
theorem KS{call:Bi}{a0 m:Int}{y3:Ab}:∀(k i nn:Nat),i+k=16->k<nn ->
  H1 fu call a0 nn m (Mh m i) i y3 (Ad .i64 (dl m i))=H1 fu call a0 (nn-k) m (Mh m 16) 16 y3 (Ad .i64 (dl m 16))
 |_,_,0,_,h=>by omega
 |0,i,nn+1,hi,hn=>by
  have e:i=16:=by omega
  subst e;rfl
 |k+1,i,nn+1,hi,hn=>by
  have ih:=KS (call:=call) (a0:=a0) (y3:=y3) (m:=m) k (i+1) nn (by omega) (by omega);have hb:=T0 m i;have hs:=M1 m i;have w:wrap .i64 ((i:Int)+1)=((i+1:Nat):Int):=by rw[Ah (by omega) (by omega)];omega
  have w4:wrap .i64 (4*(i:Int))=4*(i:Int):=Ah (by omega) (by omega);have w60:wrap .i64 (60-4*(i:Int))=60-4*(i:Int):=Ah (by omega) (by omega);have hd:wrap .i64 (Tp .u64 (Ff .u64 m (60-4*(i:Int))) 15)=Ie m i:=rfl;have w15:wrap .i64 (15-Ie m i)=15-Ie m i:=Ah (by omega) (by omega);have ws:wrap .i64 (Mh m i+(15-Ie m i))=Mh m (i+1):=by rw[Ah (by omega) (by omega)];rfl
  have L:(Ad .i64 (dl m i)).length=18:=by rw[Am,Af6 m (by omega)]
  have BT:Bp (Ad .i64 (dl m i)) [Ao (Ie m i)] i=Ad .i64 (dl m (i+1)):=by
   rw[Hh (by omega),Nw,Ay1 m (by omega)]
  have hat:(Ad .i64 (dl m (i+1))).getD i .top=Ao (Ie m i):=Z5 (A1s m (by omega));rw[show nn+1-(k+1)=nn-k by omega,<-ih,Rc];simp(disch:=omega)only[B4,B3,Ij,Ec,Cu,w,w4,w60,hd,L,BT,hat,w15,ws]
theorem WW(Bo:1000<=fu)(m:Int):Ap (CX xs) prog fu (d+1) 110 [Ac m]=some ⟨[.agg (Ad .i64 (UJ m))],[]⟩:=by
 rw[IX];have lp:=KS (fu:=fu) (call:=Ap (CX xs) prog fu d) (a0:=m) (m:=m) (y3:=Ad .i64 (List.replicate 18 0)) 16 0 fu (by omega) (by omega);obtain⟨f',ZO⟩:∃f',fu-16=f'+1:=⟨fu-17,by omega⟩
 rw[ZO] at lp;refine Eq.trans lp ?_;have hs:=M1 m 16
 have wq:wrap .i64 (Int.tdiv (Mh m 16) 16)=Mh m 16 / 16:=by
  rw[Int.tdiv_eq_ediv_of_nonneg (by omega),Ah (by omega) (by omega)]
 have wm:Int.tmod (Mh m 16) 16=Mh m 16 % 16:=Int.tmod_eq_emod_of_nonneg (by omega);have L:(Ad .i64 (dl m 16)).length=18:=by rw[Am,Af6 m (by omega)]
 have h1:Bp (Ad .i64 (dl m 16)) [Ao (Mh m 16 / 16)] 16=Ad .i64 ((dl m 16).set 16 (Mh m 16 / 16)):=by
  rw[Hh (by omega),Nw]
 have L2:(Ad .i64 ((dl m 16).set 16 (Mh m 16 / 16))).length=18:=by rw[Am,List.length_set,Af6 m (by omega)]
 have h2:Bp (Ad .i64 ((dl m 16).set 16 (Mh m 16 / 16))) [Ao (Mh m 16 % 16)] 17=Ad .i64 (UJ m):=by
  rw[Hh (by omega),Nw];rfl
 rw[Rc,D0 _ _ _ (by omega)];simp only[Je,wq,wm,L,h1,L2,h2];generalize hq:Mh m 16 / 16=q at *
 generalize hr:Mh m 16 % 16=r at *
 have hD:Ad .i64 (UJ m)=[Ao (Ie m 0),Ao (Ie m 1),Ao (Ie m 2),Ao (Ie m 3),Ao (Ie m 4),Ao (Ie m 5),Ao (Ie m 6),Ao (Ie m 7),Ao (Ie m 8),Ao (Ie m 9),Ao (Ie m 10),Ao (Ie m 11),Ao (Ie m 12),Ao (Ie m 13),Ao (Ie m 14),Ao (Ie m 15),Ao q,Ao r]:=by
  unfold UJ;rw[hq,hr];rfl
 rw[hD];have A28:(Ad .i64 (List.replicate 18 0)).length=18:=rfl
 have hsp:∀c:Ab,c.length=18->Bp (Ad .i64 (List.replicate 18 0)) c 0=c:=by
  intro c hc;unfold Bp;rw[hc,List.drop_of_length_le (by rw[A28];omega)]
  simp
 rw[BZ (Ld:=by omega)];simp only[B4,B3,List.getD_cons_zero,List.getD_cons_succ,A28];rw[hsp _ rfl];simp(disch:=omega)only[B4,B3,CF,List.getD_cons_zero,List.getD_cons_succ]
theorem SP(Bo:1000<=fu)(leaf:Int){E:Cg}(hE:E.length=18):Ap (CX xs) prog fu (d+6) 115 [Ao leaf,.agg (Ad .u64 E)]=some ⟨[Ac (CQ leaf E)],[]⟩:=by
 match E,hE with
 |[e0,e1,e2,e3,e4,e5,e6,e7,e8,e9,e10,e11,e12,e13,e14,e15,e16,e17],_=>
  have wd:Ap (CX xs) prog fu (d+5) 86 [.lst false 1 19 [Ac (wrap .u64 leaf),Ac e0,Ac e1,Ac e2,Ac e3,Ac e4,Ac e5,Ac e6,Ac e7,Ac e8,Ac e9,Ac e10,Ac e11,Ac e12,Ac e13,Ac e14,Ac e15,Ac e16,Ac e17]]=_:=R9 (ws:=wrap .u64 leaf::[e0,e1,e2,e3,e4,e5,e6,e7,e8,e9,e10,e11,e12,e13,e14,e15,e16,e17]) (by simp) (by omega) (by simp;omega)
  have hs:=Aps (xs:=xs) (fu:=fu) (d:=d) (ws:=wrap .u64 leaf::[e0,e1,e2,e3,e4,e5,e6,e7,e8,e9,e10,e11,e12,e13,e14,e15,e16,e17]) (by simp) Bo 2;have L:=Am .u8 (A9 (wrap .u64 leaf::[e0,e1,e2,e3,e4,e5,e6,e7,e8,e9,e10,e11,e12,e13,e14,e15,e16,e17]));have eR:CQ leaf [e0,e1,e2,e3,e4,e5,e6,e7,e8,e9,e10,e11,e12,e13,e14,e15,e16,e17]=P8 2 (A9 (wrap .u64 leaf::[e0,e1,e2,e3,e4,e5,e6,e7,e8,e9,e10,e11,e12,e13,e14,e15,e16,e17])):=rfl;rw[eR];generalize A9 (wrap .u64 leaf::[e0,e1,e2,e3,e4,e5,e6,e7,e8,e9,e10,e11,e12,e13,e14,e15,e16,e17])=W at wd hs L ⊢;refine (FZ fu (d+5) leaf e0 e1 e2 e3 e4 e5 e6 e7 e8 e9 e10 e11 e12 e13 e14 e15 e16 e17).trans ?_;simp(disch:=omega)only[B4,B3,wd,Ec,Cu,Fi,Ob,L,hs]
theorem Awg(g:Nat->Int){i:Nat}(hi:i<18):List.getD [PV.sc (.int .i64 (g 0)),PV.sc (.int .i64 (g 1)),PV.sc (.int .i64 (g 2)),PV.sc (.int .i64 (g 3)),PV.sc (.int .i64 (g 4)),PV.sc (.int .i64 (g 5)),PV.sc (.int .i64 (g 6)),PV.sc (.int .i64 (g 7)),PV.sc (.int .i64 (g 8)),PV.sc (.int .i64 (g 9)),PV.sc (.int .i64 (g 10)),PV.sc (.int .i64 (g 11)),PV.sc (.int .i64 (g 12)),PV.sc (.int .i64 (g 13)),PV.sc (.int .i64 (g 14)),PV.sc (.int .i64 (g 15)),PV.sc (.int .i64 (g 16)),PV.sc (.int .i64 (g 17))] i PV.top=Ao (g i):=by
 have:((List.range 18).map g)[i]?=some (g i):=by simp[hi]
 exact Z5 (k:=.i64) this
theorem GM{a0 a1:Int}{a2n:Nat}{a2:Ab}{leaf m:Int}{s:Cg}(hs:s.length=18)(Bo:1000<=fu)(g:Nat->Int)(hg:∀k,g k=dg m k):∀(k i nn:Nat),i+k=18->k<nn ->
  F4 fu (Ap (CX xs) prog fu (d+6)) a0 a1 a2n a2 nn leaf s.length (Ad .u64 s) (g 0) (g 1) (g 2) (g 3) (g 4) (g 5) (g 6) (g 7) (g 8) (g 9) (g 10) (g 11) (g 12) (g 13) (g 14) (g 15) (g 16) (g 17) i (Ad .u64 (el leaf m s i)) =
   F4 fu (Ap (CX xs) prog fu (d+6)) a0 a1 a2n a2 (nn-k) leaf s.length (Ad .u64 s) (g 0) (g 1) (g 2) (g 3) (g 4) (g 5) (g 6) (g 7) (g 8) (g 9) (g 10) (g 11) (g 12) (g 13) (g 14) (g 15) (g 16) (g 17) 18 (Ad .u64 (el leaf m s 18))
 |_,_,0,_,h=>by omega
 |0,i,nn+1,hi,hn=>by
  have e:i=18:=by omega
  subst e;rfl
 |k+1,i,nn+1,hi,hn=>by
  have ih:=GM (a0:=a0) (a1:=a1) (a2n:=a2n) (a2:=a2) (leaf:=leaf) (m:=m) hs Bo g hg k (i+1) nn (by omega) (by omega);obtain⟨x,hx⟩:∃x,s[i]?=some x:=⟨_,List.getElem?_eq_getElem (by omega)⟩
  have hb:=Wi m i;have hgi:=Awg g (i:=i) (by omega);have w:wrap .i64 ((i:Int)+1)=((i+1:Nat):Int):=by rw[Ah (by omega) (by omega)];omega
  have rn:=Ag3 (xs:=xs) (fu:=fu) (d:=d) (leaf:=leaf) (chain:=i) Bo (15-dg m i).toNat (g i) 15 x (by rw[hg];omega) (by rw[hg];omega) (by omega)
  have ev:Tr leaf i (15-dg m i).toNat (g i) x=CD leaf m s i:=by
   unfold CD;rw[List.getD_eq_getElem?_getD,hx,hg];rfl
  rw[ev] at rn;have L:(Ad .u64 (el leaf m s i)).length=18:=by rw[Am,Anr leaf m s (by omega)]
  have BT:Bp (Ad .u64 (el leaf m s i)) [Ac (CD leaf m s i)] i=Ad .u64 (el leaf m s (i+1)):=by
   rw[Hh (by omega),Nw,Axu leaf m s (by omega)]
  rw[show nn+1-(k+1)=nn-k by omega,<-ih,Ql];simp(disch:=omega)only[B4,B3,Ij,Ec,Cu,hgi,Z5 hx,rn,L,BT,w]
theorem Ad2(Bo:1000<=fu){a0 a1 leaf:Int}{a2n n nn:Nat}{a2 c:Ab}{g:Nat->Int}{E:Cg}(hE:E.length=18):
  F4 fu (Ap (CX xs) prog fu (d+6)) a0 a1 a2n a2 (nn+1) leaf n c (g 0) (g 1) (g 2) (g 3) (g 4) (g 5) (g 6) (g 7) (g 8) (g 9) (g 10) (g 11) (g 12) (g 13) (g 14) (g 15) (g 16) (g 17) 18 (Ad .u64 E)=some ⟨[Ac (CQ leaf E),Ao 0],[]⟩:=by
 match E,hE with
 |[e0,e1,e2,e3,e4,e5,e6,e7,e8,e9,e10,e11,e12,e13,e14,e15,e16,e17],hE=>
  have cb:=SP (xs:=xs) (fu:=fu) (d:=d) Bo leaf hE;have hc:Ad .u64 [e0,e1,e2,e3,e4,e5,e6,e7,e8,e9,e10,e11,e12,e13,e14,e15,e16,e17]=[Ac e0,Ac e1,Ac e2,Ac e3,Ac e4,Ac e5,Ac e6,Ac e7,Ac e8,Ac e9,Ac e10,Ac e11,Ac e12,Ac e13,Ac e14,Ac e15,Ac e16,Ac e17]:=rfl;rw[hc] at cb ⊢;generalize CQ leaf [e0,e1,e2,e3,e4,e5,e6,e7,e8,e9,e10,e11,e12,e13,e14,e15,e16,e17]=R at cb ⊢;rw[Ql,D0 _ _ _ (by omega)];simp(disch:=omega)only[B4,B3,Y5,Z4,List.getD_cons_zero,List.getD_cons_succ,cb]
theorem Ag1(Bo:1000<=fu)(leaf m:Int)(s:Cg):Ap (CX xs) prog fu (d+7) 75 [Ao leaf,Ac m,.lst false 1 s.length (Ad .u64 s)]=some ⟨(if s.length=18 then [Ac (ZR leaf m s),Ao 0] else [Ac 0,Ao 4]),[]⟩:=by
 rw[HW];by_cases h:s.length=18
 ·have dq:=WW (xs:=xs) (fu:=fu) (d:=d+5) Bo m;have hD:Ad .i64 (UJ m)=[Ao (dg m 0),Ao (dg m 1),Ao (dg m 2),Ao (dg m 3),Ao (dg m 4),Ao (dg m 5),Ao (dg m 6),Ao (dg m 7),Ao (dg m 8),Ao (dg m 9),Ao (dg m 10),Ao (dg m 11),Ao (dg m 12),Ao (dg m 13),Ao (dg m 14),Ao (dg m 15),Ao (dg m 16),Ao (dg m 17)]:=rfl;rw[hD] at dq;simp only[Fb];rw[B7 h,B7 (by omega)];simp only[B4,B3,dq];have lp:=GM (xs:=xs) (fu:=fu) (d:=d) (a0:=leaf) (a1:=m) (a2n:=s.length) (a2:=Ad .u64 s) (leaf:=leaf) (m:=m) h Bo (dg m) (fun _=>rfl) 18 0 fu (by omega) (by omega);obtain⟨f',ZO⟩:∃f',fu-18=f'+1:=⟨fu-19,by omega⟩
  rw[ZO] at lp;refine Eq.trans lp ?_;have eE:el leaf m s 18=PK leaf m s:=A2h leaf m s;have hl:(PK leaf m s).length=18:=by rw[<-eE,Anr leaf m s (by omega)]
  have eR:ZR leaf m s=CQ leaf (PK leaf m s):=rfl;rw[eE,eR];exact Ad2 Bo hl
 ·simp only[Fb];rw[Ba h,Ba (by omega)]
end
structure Ky where
 h:Int
 root:Int
structure Sg where
 leaf:Int
 chains:Cg
 path:Cg
def Ky.cells(k:Ky):Ab:=[Ao k.h,Ac k.root]
def Sg.cells(s:Sg):Ab:=[Ao s.leaf,.lst false 1 s.chains.length (Ad .u64 s.chains),.lst false 1 s.path.length (Ad .u64 s.path)]
def D6(h:Int):Bool:=decide (h<0)||decide (h>4)
def J8(leaf h:Int):Bool:=decide (leaf<0)||decide (leaf>=Iy .i64 1 h)
def Pn(level a b:Int):Int:=P8 3 (A9 [wrap .u64 level,a,b])
def AE(leaf:Int):Nat->Int->Cg->Int
 |_,x,[]=>x
 |i,x,s::r=>AE leaf (i+1) (if Tp .i64 (Ff .i64 leaf i) 1=0 then Pn ((i+1:Nat):Int) x s else Pn ((i+1:Nat):Int) s x) r
def okE(x root:Int):Int:=if x=root then 0 else 15
theorem PG(leaf:Int)(i:Nat)(x:Int):AE leaf i x []=x:=rfl
theorem Zg(leaf:Int)(i:Nat)(x s:Int)(r:Cg):AE leaf i x (s::r)=AE leaf (i+1) (if Tp .i64 (Ff .i64 leaf i) 1=0 then Pn ((i+1:Nat):Int) x s else Pn ((i+1:Nat):Int) s x) r:=rfl
def Acj(k:Ky)(m:Int)(s:Sg):Int:=
 if D6 k.h=true then 9 else if J8 s.leaf k.h=true then 9 else if s.chains.length≠18 then 4 else if (s.path.length:Int)≠k.h then 4 else
 okE (AE s.leaf 0 (ZR s.leaf m s.chains) s.path) k.root
theorem I5{h:Int}(hh:D6 h=false):0<=h/\h<=4:=by unfold D6 at hh;simp at hh;omega
section
variable {fu d:Nat}{xs:FuncId->Option (Ab->Option Dl)}
theorem Xc(h:Int):Ap (CX xs) prog fu (d+1) 67 [Ao h]=some ⟨[.sc (.bool (D6 h))],[]⟩:=by
 rw[QW];unfold D6;by_cases h0:h<0
 ·simp only[B4,B3,JI,h0,decide_true,Bool.true_or,if_true]
 ·simp only[B4,B3,JI,h0,decide_false,Bool.false_or,if_false]
theorem Si(leaf h:Int)(h0:0<=h):Ap (CX xs) prog fu (d+1) 68 [Ao leaf,Ao h]=some ⟨[.sc (.bool (J8 leaf h))],[]⟩:=by
 rw[FR];unfold J8;by_cases hl:leaf<0
 ·simp only[B4,B3,JI,hl,decide_true,Bool.true_or,if_true]
 ·simp(disch:=omega)only[B4,B3,JI,hl,decide_false,Bool.false_or,if_false]
theorem KQ(Bo:1000<=fu)(level a b:Int):Ap (CX xs) prog fu (d+6) 76 [Ao level,Ac a,Ac b]=some ⟨[Ac (Pn level a b)],[]⟩:=by
 have wd:Ap (CX xs) prog fu (d+5) 86 [.lst false 1 3 [Ac (wrap .u64 level),Ac a,Ac b]]=_:=R9 (ws:=[wrap .u64 level,a,b]) (by simp) (by omega) (by simp;omega)
 have hs:=Aps (xs:=xs) (fu:=fu) (d:=d) (ws:=[wrap .u64 level,a,b]) (by simp) Bo 3;have L:=Am .u8 (A9 [wrap .u64 level,a,b]);rw[JR];unfold Pn;generalize A9 [wrap .u64 level,a,b]=W at wd hs L ⊢;simp(disch:=omega)only[B4,B3,wd,Ec,Cu,Fi,Ob,L,hs]
theorem MB{a0 a1 a2 a3:Int}{n1 n2 n3 n4:Nat}{c1 c2 c3 c4:Ab}{y5 root leaf:Int}{path:Cg}(hp:path.length<=100)(Bo:1000<=fu):∀(r:Cg)(i nn:Nat)(x:Int),path.drop i=r->r.length<nn->i<=path.length ->
  Hx fu (Ap (CX xs) prog fu (d+6)) a0 a1 a2 a3 n1 c1 n2 c2 nn x path.length (Ad .u64 path) path.length i y5 root leaf n3 c3 n4 c4=some ⟨[Ao (okE (AE leaf i x r) root)],[]⟩
 |_,_,0,_,_,h,_=>by omega
 |[],i,nn+1,x,h,hn,hi=>by
  have:=drop_nil h;rw[Qw,D0 _ _ _ (by omega),Fb];rw[PG];unfold okE;by_cases e:x=root
  ·rw[B7 e,B7 e]
  ·rw[Ba e,Ba e]
 |s::r,i,nn+1,x,h,hn,hi=>by
  obtain⟨h1,h2,h3⟩:=C1 h;simp only[G9] at hn;have w:wrap .i64 ((i:Int)+1)=((i+1:Nat):Int):=by rw[Ah (by omega) (by omega)];omega
  have ih:=fun x=>MB (a0:=a0) (a1:=a1) (a2:=a2) (a3:=a3) (n1:=n1) (n2:=n2) (n3:=n3) (n4:=n4) (c1:=c1) (c2:=c2) (c3:=c3) (c4:=c4) (y5:=y5) (root:=root) (leaf:=leaf) hp Bo r (i+1) nn x h3 (by omega) (by omega);have p1:=KQ (xs:=xs) (fu:=fu) (d:=d) Bo ((i+1:Nat):Int) x s;have p2:=KQ (xs:=xs) (fu:=fu) (d:=d) Bo ((i+1:Nat):Int) s x;rw[Qw,Zg];by_cases hb:Tp .i64 (Ff .i64 leaf i) 1=0
  ·rw[B7 hb,<-ih];simp(disch:=omega)only[B4,B3,Ij,Ec,Z5 h2,Ga,hb,w,p1,if_true]
  ·rw[Ba hb,<-ih];simp(disch:=omega)only[B4,B3,Ij,Ec,Z5 h2,Ga,hb,w,p2,if_false]
theorem Ake(Bo:1000<=fu)(k:Ky)(m:Int)(s:Sg):Ap (CX xs) prog fu (d+8) 40 [.agg k.cells,Ac m,.agg s.cells]=some ⟨[Ao (Acj k m s)],[]⟩:=by
 refine (KM fu (d+7) k.h k.root m s.leaf s.chains.length (Ad .u64 s.chains) s.path.length (Ad .u64 s.path)).trans ?_;have h1:=Xc (xs:=xs) (fu:=fu) (d:=d+6) k.h;unfold Acj;cases c1:D6 k.h
 ·rw[c1] at h1;have hb:=I5 c1;have h2:=Si (xs:=xs) (fu:=fu) (d:=d+6) s.leaf k.h hb.1;cases c2:J8 s.leaf k.h
  ·rw[c2] at h2;by_cases c3:s.chains.length=18
   ·by_cases c4:(s.path.length:Int)=k.h
    ·have rc:=Ag1 (xs:=xs) (fu:=fu) (d:=d) Bo s.leaf m s.chains;rw[B7 c3] at rc;have vl:=MB (xs:=xs) (fu:=fu) (d:=d+1) (a0:=k.h) (a1:=k.root) (a2:=m) (a3:=s.leaf) (n1:=s.chains.length) (n2:=s.path.length) (n3:=s.chains.length) (n4:=s.path.length) (c1:=Ad .u64 s.chains) (c2:=Ad .u64 s.path) (c3:=Ad .u64 s.chains) (c4:=Ad .u64 s.path) (y5:=k.h) (root:=k.root) (leaf:=s.leaf) (path:=s.path) (by omega) Bo s.path 0 fu (ZR s.leaf m s.chains) rfl (by omega) (by omega);rw[Ba (by simp),Ba (by simp),Ba (by omega),Ba (by omega),<-vl];simp(disch:=omega)only[B4,B3,h1,h2,Fb,rc,if_true,c4];rw[B7 (by omega)];rfl
    ·rw[Ba (by simp),Ba (by simp),Ba (by omega),B7 c4];simp(disch:=omega)only[B4,B3,h1,h2,Fb,c4,if_false];rw[B7 (by omega)]
   ·rw[Ba (by simp),Ba (by simp),B7 c3];simp(disch:=omega)only[B4,B3,h1,h2,Fb];rw[Ba (by omega)]
  ·rw[c2] at h2;rw[Ba (by simp),B7 rfl];simp(disch:=omega)only[B4,B3,h1,h2]
 ·rw[c1] at h1;rw[B7 rfl];simp(disch:=omega)only[B4,B3,h1]
def I7(k:Ky):Cg:=wrap .u8 k.h::Ew k.root
def DK(s:Sg):Cg:=wrap .u8 s.leaf::wrap .u8 s.path.length::(A9 s.chains++A9 s.path)
theorem owd(Bo:1000<=fu)(w:Int):Ap (CX xs) prog fu (d+1) 86 [.lst false 1 1 [Ac w]]=some ⟨[.own 1 8 (Ad .u8 (Ew w))],[]⟩:=by
 have:=R9 (xs:=xs) (fu:=fu) (d:=d) (ws:=[w]) (by simp) (by omega) (by simp;omega)
 simp only[A9,J7,List.flatMap_nil,List.append_nil,G9,Vl,Gp] at this;exact this
theorem Amu(Bo:1000<=fu)(k:Ky):Ap (CX xs) prog fu (d+2) 129 [.agg k.cells]=some ⟨(if D6 k.h=true then [.own 1 0 [],Ao 9] else [.own 1 9 (Ad .u8 (I7 k)),Ao 0]),[]⟩:=by
 refine (CM fu (d+1) k.h k.root).trans ?_;have h1:=Xc (xs:=xs) (fu:=fu) (d:=d) k.h;have wd:=owd (xs:=xs) (fu:=fu) (d:=d) Bo k.root;have L:=Am .u8 (Ew k.root);rw[Gp] at L;have t8:List.take 8 (Ad .u8 (Ew k.root))=Ad .u8 (Ew k.root):=I9 (by omega)
 have t9:List.take 9 ([PV.sc (.int .u8 (wrap .u8 k.h))]++Ad .u8 (Ew k.root))=Ad .u8 (I7 k):=by
  rw[I9 (by rw[G8,L];simp)]
  rfl
 have L9:([PV.sc (.int .u8 (wrap .u8 k.h))]++Ad .u8 (Ew k.root)).length=9:=by rw[G8,L];rfl
 cases c1:D6 k.h
 ·rw[c1] at h1;rw[Ba (by simp)];simp(disch:=omega)only[B4,B3,h1,wd,Ec,Cu,Fi,L,t8,Nat.reduceAdd,L9,t9]
 ·rw[c1] at h1;rw[B7 rfl];simp(disch:=omega)only[B4,B3,h1]
theorem Amd(Bo:1000<=fu)(s:Sg)(hp:s.path.length<=1000000000)(hf:s.path.length<fu):Ap (CX xs) prog fu (d+2) 46 [.agg s.cells]=some ⟨(if D6 s.path.length=true then [.own 1 0 [],Ao 9] else if J8 s.leaf s.path.length=true then [.own 1 0 [],Ao 9] else if s.chains.length≠18 then [.own 1 0 [],Ao 4] else [.own 1 (DK s).length (Ad .u8 (DK s)),Ao 0]),[]⟩:=by
 refine (Ts fu (d+1) s.leaf s.chains.length (Ad .u64 s.chains) s.path.length (Ad .u64 s.path)).trans ?_;have h1:=Xc (xs:=xs) (fu:=fu) (d:=d) s.path.length;cases c1:D6 s.path.length
 ·rw[c1] at h1;have hb:=I5 c1;have h2:=Si (xs:=xs) (fu:=fu) (d:=d) s.leaf s.path.length hb.1;cases c2:J8 s.leaf s.path.length
  ·rw[c2] at h2;by_cases c3:s.chains.length=18
   ·have w1:=R9 (xs:=xs) (fu:=fu) (d:=d) (ws:=s.chains) (by omega) (by omega) (by omega);have w2:=R9 (xs:=xs) (fu:=fu) (d:=d) (ws:=s.path) (by omega) (by omega) (by omega);have l1:=D9 s.chains;have l2:=D9 s.path;have L1:=Am .u8 (A9 s.chains);have L2:=Am .u8 (A9 s.path)
    have eB:Ad .u8 (DK s)=[PV.sc (.int .u8 (wrap .u8 s.leaf)),PV.sc (.int .u8 (wrap .u8 s.path.length))]++Ad .u8 (A9 s.chains)++Ad .u8 (A9 s.path):=by
     unfold DK;simp
    have eL:(DK s).length=2+(A9 s.chains).length+(A9 s.path).length:=by
     unfold DK;simp;omega
    rw[Ba (by simp),Ba (by simp),Ba (by omega),eB,eL];have t2:List.take (2+(A9 s.chains).length) ([PV.sc (.int .u8 (wrap .u8 s.leaf)),PV.sc (.int .u8 (wrap .u8 s.path.length))]++Ad .u8 (A9 s.chains))=[PV.sc (.int .u8 (wrap .u8 s.leaf)),PV.sc (.int .u8 (wrap .u8 s.path.length))]++Ad .u8 (A9 s.chains):=I9 (by rw[G8,L1];simp)
    have t3:List.take (2+(A9 s.chains).length+(A9 s.path).length) ([PV.sc (.int .u8 (wrap .u8 s.leaf)),PV.sc (.int .u8 (wrap .u8 s.path.length))]++Ad .u8 (A9 s.chains)++Ad .u8 (A9 s.path))=[PV.sc (.int .u8 (wrap .u8 s.leaf)),PV.sc (.int .u8 (wrap .u8 s.path.length))]++Ad .u8 (A9 s.chains)++Ad .u8 (A9 s.path):=I9 (by rw[G8,G8,L1,L2];simp)
    have k2:([PV.sc (.int .u8 (wrap .u8 s.leaf)),PV.sc (.int .u8 (wrap .u8 s.path.length))]++Ad .u8 (A9 s.chains)).length=2+(A9 s.chains).length:=by rw[G8,L1];rfl
    have k3:([PV.sc (.int .u8 (wrap .u8 s.leaf)),PV.sc (.int .u8 (wrap .u8 s.path.length))]++Ad .u8 (A9 s.chains)++Ad .u8 (A9 s.path)).length=2+(A9 s.chains).length+(A9 s.path).length:=by rw[G8,k2,L2]
    simp(disch:=omega)only[B4,B3,h1,h2,Fb,w1,w2,Ec,Cu,Fi,L1,L2,Ob,t2,t3,k2,k3];rw[B7 (by omega)]
   ·rw[Ba (by simp),Ba (by simp),B7 c3];simp(disch:=omega)only[B4,B3,h1,h2,Fb];rw[Ba (by omega)]
  ·rw[c2] at h2;rw[Ba (by simp),B7 rfl];simp(disch:=omega)only[B4,B3,h1,h2]
 ·rw[c1] at h1;rw[B7 rfl];simp(disch:=omega)only[B4,B3,h1]
def Va(l:Cg)(i:Nat):Int:=RA ((l.drop (8*i)).take 8)
def Hc(l:Cg):Cg:=(List.range (l.length / 8)).map (Va l)
def wl(l:Cg)(i:Nat):Cg:=(List.range i).map (Va l)++List.replicate (l.length / 8-i) 0
theorem Aq5(l:Cg){i:Nat}(h:i<=l.length / 8):(wl l i).length=l.length / 8:=by simp[wl];omega
theorem Ax4(l:Cg){i:Nat}(h:i<l.length / 8):(wl l i).set i (Va l i)=wl l (i+1):=by unfold wl;rw[List.set_append_right _ _ (by simp),List.length_map,List.length_range,Nat.sub_self,show l.length / 8-i=(l.length / 8-(i+1))+1 by omega,List.replicate_succ,List.set_cons_zero,List.range_succ,List.map_append,IU];rfl
theorem Atl(l:Cg){i:Nat}(h:i<l.length / 8):(wl l i).set i 0=wl l i:=by unfold wl;rw[List.set_append_right _ _ (by simp),List.length_map,List.length_range,Nat.sub_self,show l.length / 8-i=(l.length / 8-(i+1))+1 by omega,List.replicate_succ,List.set_cons_zero]
theorem WK{n m0:Nat}{c:Ab}{l:Cg}(hl:l.length<=1000000){i:Nat}(hi:i<l.length / 8){q:Cg}(hq:q.length<=8):∀(r:Cg)(j nn:Nat)(x:Int),q.drop j=r->r.length<nn->j<=q.length ->
  Kq fu (Ap (CX xs) prog fu d) n c m0 nn l.length (Ad .u8 l) (l.length / 8) i ((l.length / 8:Nat):Int) i q.length (Ad .u8 q) q.length j (Ad .u64 ((wl l i).set i x)) =
   Ip fu (Ap (CX xs) prog fu d) n c m0 l.length (Ad .u8 l) (l.length / 8) ((l.length / 8:Nat):Int) ((i+1:Nat):Int) (Ad .u64 ((wl l i).set i (r.foldl G6 x)))
 |_,_,0,_,_,h,_=>by omega
 |[],j,nn+1,x,h,hn,hj=>by
  have:=drop_nil h;have w:wrap .i64 ((i:Int)+1)=((i+1:Nat):Int):=by rw[Ah (by omega) (by omega)];omega
  rw[R4,D0 _ _ _ (by omega)];simp only[Je,w,List.foldl_nil]
 |b::r,j,nn+1,x,h,hn,hj=>by
  obtain⟨h1,h2,h3⟩:=C1 h;simp only[G9] at hn;have w:wrap .i64 ((j:Int)+1)=((j+1:Nat):Int):=by rw[Ah (by omega) (by omega)];omega
  have L:(Ad .u64 ((wl l i).set i x)).length=l.length / 8:=by rw[Am,List.length_set,Aq5 l (by omega)]
  have hat:(Ad .u64 ((wl l i).set i x)).getD i .top=Ac x:=Z5 (by rw[List.getElem?_set_self (by rw[Aq5 l (by omega)];omega)])
  have BT:Bp (Ad .u64 ((wl l i).set i x)) [Ac (G6 x b)] i=Ad .u64 ((wl l i).set i (G6 x b)):=by
   rw[Hh (by omega),Nw,List.set_set]
  have ih:=WK (n:=n) (m0:=m0) (c:=c) hl hi hq r (j+1) nn (G6 x b) h3 (by omega) (by omega);rw[List.foldl_cons,<-ih,R4];simp(disch:=omega)only[B4,B3,Ij,Ec,Cu,Z5 h2,hat,L,w];exact congrArg _ BT
theorem MT{n:Nat}{c:Ab}{l:Cg}(hl:l.length<=1000000)(Bo:100<=fu):∀(k i nn:Nat),i+k=l.length / 8->k<nn ->
  Ip fu (Ap (CX xs) prog fu d) n c nn l.length (Ad .u8 l) (l.length / 8) ((l.length / 8:Nat):Int) i (Ad .u64 (wl l i))=some ⟨[.own 1 (l.length / 8) (Ad .u64 (Hc l))],[]⟩
 |_,_,0,_,h=>by omega
 |0,i,nn+1,hi,hn=>by
  have e:i=l.length / 8:=by omega
  subst e;have e2:wl l (l.length / 8)=Hc l:=by unfold wl Hc;simp
  have L:(Ad .u64 (Hc l)).length=l.length / 8:=by rw[Am];simp[Hc]
  have tk:List.take (l.length / 8) (Ad .u64 (Hc l))=Ad .u64 (Hc l):=I9 (by omega);rw[Sx,D0 _ _ _ (by omega),e2];simp(disch:=omega)only[B4,B3,Ec,L,tk]
 |k+1,i,nn+1,hi,hn=>by
  have ih:=MT (n:=n) (c:=c) hl Bo k (i+1) nn (by omega) (by omega);have w8:wrap .i64 (8*(i:Int))=((8*i:Nat):Int):=by rw[Ah (by omega) (by omega)];omega
  have w88:wrap .i64 (((8*i:Nat):Int)+8)=((8*i+8:Nat):Int):=by rw[Ah (by omega) (by omega)];omega
  have e8:8*i+8-8*i=8:=by omega
  have hdl:((l.drop (8*i)).take 8).length=8:=by rw[List.length_take,List.length_drop];omega
  have st:=WK (xs:=xs) (fu:=fu) (d:=d) (n:=n) (m0:=nn) (c:=c) hl (i:=i) (by omega) (q:=(l.drop (8*i)).take 8) (by omega) ((l.drop (8*i)).take 8) 0 fu 0 rfl (by omega) (by omega);rw[Atl l (by omega),hdl] at st;have ew:((l.drop (8*i)).take 8).foldl G6 0=Va l i:=rfl;rw[ew,Ax4 l (by omega),ih] at st;rw[Sx];simp(disch:=omega)only[B4,B3,Ij,Ec,w8,w88,e8,Ks,Rx];exact st
theorem SB(n:Nat):V5 n [Ac 0]=Ad .u64 (List.replicate n 0):=by
 induction n with
 |zero=>rfl
 |succ n ih=>
  show ([PV.sc (.int .u64 0)]::List.replicate n [PV.sc (.int .u64 0)]).flatten=_;rw[List.flatten_cons,List.replicate_succ];show _++V5 n [Ac 0]=PV.sc (.int .u64 0)::Ad .u64 (List.replicate n 0);rw[ih];rfl
theorem JG{l:Cg}(hl:l.length<=1000000)(Bo:100<=fu)(hf:l.length<fu):Ap (CX xs) prog fu (d+1) 92 [.lst false 1 l.length (Ad .u8 l)]=some ⟨[.own 1 (l.length / 8) (Ad .u64 (Hc l))],[]⟩:=by
 rw[NW]
 have w:wrap .i64 (Int.tdiv (l.length:Int) 8)=((l.length / 8:Nat):Int):=by
  rw[Int.tdiv_eq_ediv_of_nonneg (by omega),Ah (by omega) (by omega)];omega
 have lp:=MT (xs:=xs) (fu:=fu) (d:=d) (n:=l.length) (c:=Ad .u8 l) hl Bo (l.length / 8) 0 fu (by omega) (by omega);have e0:wl l 0=List.replicate (l.length / 8) 0:=by unfold wl;simp
 rw[e0] at lp;simp(disch:=omega)only[B4,B3,w,Ij,SB,Int.le_refl];exact lp
def QV(l:Cg):Option Ky:=if l.length=9/\D6 (l.getD 0 0)=false then some ⟨l.getD 0 0,Va (l.drop 1) 0⟩ else none
def Ae9(o:Option Ky):Ab:=match o with|some k=>[.agg k.cells,Ao 0]|none=>[.agg (Ky.mk 0 0).cells,Ao 2]
theorem Alb(Bo:1000<=fu){l:Cg}(hb:Mn l):Ap (CX xs) prog fu (d+2) 125 [.lst false 1 l.length (Ad .u8 l)]=some ⟨Ae9 (QV l),[]⟩:=by
 refine (BS fu (d+1) l.length (Ad .u8 l)).trans ?_;unfold QV;by_cases h9:l.length=9
 ·obtain⟨x,hx⟩:∃x,l[0]?=some x:=⟨_,List.getElem?_eq_getElem (by omega)⟩
  have hxb:=hb x (List.mem_of_getElem? hx);have wx:wrap .i64 x=x:=Ah (by omega) (by omega);have gx:l.getD 0 0=x:=by rw[List.getD_eq_getElem?_getD,hx];rfl
  have h1:=Xc (xs:=xs) (fu:=fu) (d:=d) x;rw[gx];cases c1:D6 x
  ·rw[c1] at h1;have hdl:(l.drop 1).length=8:=by rw[List.length_drop];omega
   have dw:=JG (xs:=xs) (fu:=fu) (d:=d) (l:=l.drop 1) (by omega) (by omega) (by omega);rw[hdl] at dw;have hat:(Ad .u64 (Hc (l.drop 1))).getD 0 .top=Ac (Va (l.drop 1) 0):=Z5 (by unfold Hc;rw[hdl];rfl)
   have e8:9-1=8:=rfl;have tk:List.take 8 (Ad .u8 (l.drop 1))=Ad .u8 (l.drop 1):=I9 (by rw[Am];omega)
   rw[B7 ⟨h9,rfl⟩,h9];simp(disch:=omega)only[B4,B3,Fb,Z5 hx,wx,h1,Ec,Ks,e8,tk,dw,hat];rfl
  ·rw[c1] at h1;rw[Ba (by simp),h9];simp(disch:=omega)only[B4,B3,Fb,Z5 hx,wx,h1];rfl
 ·rw[Ba (by simp[h9])];simp(disch:=omega)only[Fb];rw[Ba (by omega)];rfl
def sgD(l:Cg):Option Sg:=
 if 2<=l.length/\D6 (l.getD 1 0)=false/\J8 (l.getD 0 0) (l.getD 1 0)=false/\(l.length:Int)=2+8*(18+l.getD 1 0) then some ⟨l.getD 0 0,Hc ((l.drop 2).take 144),Hc (l.drop 146)⟩ else none
def Sg.owned(s:Sg):Ab:=[Ao s.leaf,.own 1 s.chains.length (Ad .u64 s.chains),.own 1 s.path.length (Ad .u64 s.path)]
def Ajn(o:Option Sg):Ab:=match o with|some s=>[.agg s.owned,Ao 0]|none=>[.agg (Sg.mk 0 [] []).owned,Ao 2]
theorem Su(l:Cg):(Hc l).length=l.length / 8:=by simp[Hc]
theorem Aj6(Bo:1000<=fu){l:Cg}(hb:Mn l):Ap (CX xs) prog fu (d+2) 49 [.lst false 1 l.length (Ad .u8 l)]=some ⟨Ajn (sgD l),[]⟩:=by
 refine (Tm fu (d+1) l.length (Ad .u8 l)).trans ?_;unfold sgD;by_cases h2:2<=l.length
 ·obtain⟨x,hx⟩:∃x,l[0]?=some x:=⟨_,List.getElem?_eq_getElem (by omega)⟩
  obtain⟨y,hy⟩:∃y,l[1]?=some y:=⟨_,List.getElem?_eq_getElem (by omega)⟩
  have hxb:=hb x (List.mem_of_getElem? hx);have hyb:=hb y (List.mem_of_getElem? hy);have wx:wrap .i64 x=x:=Ah (by omega) (by omega);have wy:wrap .i64 y=y:=Ah (by omega) (by omega);have gx:l.getD 0 0=x:=by rw[List.getD_eq_getElem?_getD,hx];rfl
  have gy:l.getD 1 0=y:=by rw[List.getD_eq_getElem?_getD,hy];rfl
  have h1:=Xc (xs:=xs) (fu:=fu) (d:=d) y;have ho:=Si (xs:=xs) (fu:=fu) (d:=d) x y (by omega);have w1:wrap .i64 (18+y)=18+y:=Ah (by omega) (by omega);have w2:wrap .i64 (8*(18+y))=8*(18+y):=Ah (by omega) (by omega);have w3:wrap .i64 (2+8*(18+y))=2+8*(18+y):=Ah (by omega) (by omega);rw[gx,gy];cases c1:D6 y
  ·rw[c1] at h1;cases c2:J8 x y
   ·rw[c2] at ho;by_cases c3:(l.length:Int)=2+8*(18+y)
    ·have hy4:=I5 c1;have d1:=JG (xs:=xs) (fu:=fu) (d:=d) (l:=(l.drop 2).take 144) (by rw[List.length_take,List.length_drop];omega) (by omega) (by rw[List.length_take,List.length_drop];omega)
     have d2:=JG (xs:=xs) (fu:=fu) (d:=d) (l:=l.drop 146) (by rw[List.length_drop];omega) (by omega) (by rw[List.length_drop];omega)
     have l1:((l.drop 2).take 144).length=144:=by rw[List.length_take,List.length_drop];omega
     have l2:(l.drop 146).length=l.length-146:=List.length_drop;rw[l1] at d1;have L1:(Ad .u64 (Hc ((l.drop 2).take 144))).length=18:=by rw[Am,Su,l1]
     have L2:(Ad .u64 (Hc (l.drop 146))).length=(l.length-146) / 8:=by rw[Am,Su,l2]
     rw[l2] at d2;have t1:List.take (144 / 8) (Ad .u64 (Hc ((l.drop 2).take 144)))=Ad .u64 (Hc ((l.drop 2).take 144)):=I9 (by omega);have t2:List.take ((l.length-146) / 8) (Ad .u64 (Hc (l.drop 146)))=Ad .u64 (Hc (l.drop 146)):=I9 (by omega);have t3:List.take (l.length-146) (l.drop 146)=l.drop 146:=I9 (by omega);rw[B7 ⟨h2,rfl,rfl,c3⟩];simp(disch:=omega)only[B4,B3,Fb,Z5 hx,Z5 hy,wx,wy,h1,ho,w1,w2,w3,Ec,Ks,Rx,d1,d2,t3,L1,L2,t1,t2];rw[B7 c3];simp only[Ajn,Sg.owned,Su,l1,l2]
    ·rw[Ba (by simp[c3])];simp(disch:=omega)only[B4,B3,Fb,Z5 hx,Z5 hy,wx,wy,h1,ho,w1,w2,w3];rw[Ba c3];rfl
   ·rw[c2] at ho;rw[Ba (by simp)];simp(disch:=omega)only[B4,B3,Fb,Z5 hx,Z5 hy,wx,wy,h1,ho];rfl
  ·rw[c1] at h1;rw[Ba (by simp)];simp(disch:=omega)only[B4,B3,Fb,Z5 hx,Z5 hy,wx,wy,h1];rfl
 ·rw[Ba (by simp[h2])];simp(disch:=omega)only[B4,B3];rfl
end
def JS(seed leaf chain:Int):Int:=Atn seed 1 (A9 [wrap .u64 leaf,wrap .u64 chain])
def CC(seed leaf:Int)(c:Nat):Int:=Tr leaf c 15 0 (JS seed leaf c)
def Kd(seed leaf:Int):Int:=CQ leaf ((List.range 18).map (CC seed leaf))
def Y3(seed leaf m:Int)(c:Nat):Int:=Tr leaf c (dg m c).toNat 0 (JS seed leaf c)
def Ls(seed leaf m:Int):Cg:=(List.range 18).map (Y3 seed leaf m)
def Ci(seed:Int):Nat->Int->Int
 |0,i=>Kd seed i
 |l+1,i=>Pn ((l+1:Nat):Int) (Ci seed l (2*i)) (Ci seed l (2*i+1))
def Xd(seed:Int)(h:Int):Ky:=if D6 h=true then ⟨0,0⟩ else ⟨h,Ci seed h.toNat 0⟩
def Ha(leaf:Int)(k:Nat):Int:=E6 .i64 (Ff .i64 leaf k) 1
def HJ(seed:Int)(h leaf m:Int):Option Sg:=if D6 h=true then none else if J8 leaf h=true then none else some ⟨leaf,Ls seed leaf m,(List.range h.toNat).map fun k=>Ci seed k (Ha leaf k)⟩
def ZF(o:Option Sg):Ab:=match o with|some s=>[.agg s.owned,Ao 0]|none=>[.agg (Sg.mk 0 [] []).owned,Ao 9]
section
variable {fu d:Nat}{xs:FuncId->Option (Ab->Option Dl)}
theorem Ayb{l:Cg}(hb:Mn l)(hl:l.length<=1099511627776)(Bo:100<=fu)(hf:l.length<fu)(key dom:Int):Ap (CX xs) prog fu (d+5) 137 [Ac key,Ao dom,.lst false 1 l.length (Ad .u8 l)]=some ⟨[Ac (Atn key dom l)],[]⟩:=by rw[ZS];have s:=Ao7 (xs:=xs) (fu:=fu) (d:=d) hb hl Bo hf key (wrap .u64 (1+wrap .u64 dom));simp only[B4,B3,s];rfl
theorem WS(Bo:1000<=fu)(seed leaf chain:Int):Ap (CX xs) prog fu (d+6) 112 [Ac seed,Ao leaf,Ao chain]=some ⟨[Ac (JS seed leaf chain)],[]⟩:=by
 have wd:Ap (CX xs) prog fu (d+5) 86 [.lst false 1 2 [Ac (wrap .u64 leaf),Ac (wrap .u64 chain)]]=_:=R9 (ws:=[wrap .u64 leaf,wrap .u64 chain]) (by simp) (by omega) (by simp;omega)
 have hs:=Ayb (xs:=xs) (fu:=fu) (d:=d) (Wr [wrap .u64 leaf,wrap .u64 chain]) (by rw[D9];simp) (by omega) (by rw[D9];simp;omega) seed 1
 have L:=Am .u8 (A9 [wrap .u64 leaf,wrap .u64 chain]);rw[JQ];unfold JS;generalize A9 [wrap .u64 leaf,wrap .u64 chain]=W at wd hs L ⊢;simp(disch:=omega)only[B4,B3,wd,Ec,Cu,Fi,Ob,L,hs]
def pl(g:Nat->Int)(i:Nat):Cg:=(List.range i).map g++List.replicate (18-i) 0
theorem Agf(g:Nat->Int){i:Nat}(h:i<=18):(pl g i).length=18:=by simp[pl];omega
theorem Aor(g:Nat->Int){i:Nat}(h:i<18):(pl g i).set i (g i)=pl g (i+1):=by unfold pl;rw[List.set_append_right _ _ (by simp),List.length_map,List.length_range,Nat.sub_self,show 18-i=(18-(i+1))+1 by omega,List.replicate_succ,List.set_cons_zero,List.range_succ,List.map_append,IU];rfl
theorem Aw4(g:Nat->Int):pl g 18=(List.range 18).map g:=by simp[pl]
theorem MH{a0 a1 seed leaf:Int}(Bo:1000<=fu):∀(k i nn:Nat),i+k=18->k<nn ->
  Gr fu (Ap (CX xs) prog fu (d+6)) a0 a1 nn seed leaf i (Ad .u64 (pl (CC seed leaf) i))=Gr fu (Ap (CX xs) prog fu (d+6)) a0 a1 (nn-k) seed leaf 18 (Ad .u64 (pl (CC seed leaf) 18))
 |_,_,0,_,h=>by omega
 |0,i,nn+1,hi,hn=>by
  have e:i=18:=by omega
  subst e;rfl
 |k+1,i,nn+1,hi,hn=>by
  have ih:=MH (a0:=a0) (a1:=a1) (seed:=seed) (leaf:=leaf) Bo k (i+1) nn (by omega) (by omega);have w:wrap .i64 ((i:Int)+1)=((i+1:Nat):Int):=by rw[Ah (by omega) (by omega)];omega
  have sc:=WS (xs:=xs) (fu:=fu) (d:=d) Bo seed leaf i;have rn:=Ag3 (xs:=xs) (fu:=fu) (d:=d) (leaf:=leaf) (chain:=i) Bo 15 0 15 (JS seed leaf i) (by omega) (by omega) (by omega);have ev:Tr leaf i 15 0 (JS seed leaf i)=CC seed leaf i:=rfl;rw[ev] at rn;have L:(Ad .u64 (pl (CC seed leaf) i)).length=18:=by rw[Am,Agf _ (by omega)]
  have BT:Bp (Ad .u64 (pl (CC seed leaf) i)) [Ac (CC seed leaf i)] i=Ad .u64 (pl (CC seed leaf) (i+1)):=by
   rw[Hh (by omega),Nw,Aor _ (by omega)]
  rw[show nn+1-(k+1)=nn-k by omega,<-ih,Q2];simp(disch:=omega)only[B4,B3,Ij,Ec,Cu,sc,rn,L,BT,w]
theorem Ahf(Bo:1000<=fu){a0 a1 seed leaf:Int}{nn:Nat}{E:Cg}(hE:E.length=18):
  Gr fu (Ap (CX xs) prog fu (d+6)) a0 a1 (nn+1) seed leaf 18 (Ad .u64 E)=some ⟨[Ac (CQ leaf E)],[]⟩:=by
 match E,hE with
 |[e0,e1,e2,e3,e4,e5,e6,e7,e8,e9,e10,e11,e12,e13,e14,e15,e16,e17],hE=>
  have cb:=SP (xs:=xs) (fu:=fu) (d:=d) Bo leaf hE;have hc:Ad .u64 [e0,e1,e2,e3,e4,e5,e6,e7,e8,e9,e10,e11,e12,e13,e14,e15,e16,e17]=[Ac e0,Ac e1,Ac e2,Ac e3,Ac e4,Ac e5,Ac e6,Ac e7,Ac e8,Ac e9,Ac e10,Ac e11,Ac e12,Ac e13,Ac e14,Ac e15,Ac e16,Ac e17]:=rfl;rw[hc] at cb ⊢;generalize CQ leaf [e0,e1,e2,e3,e4,e5,e6,e7,e8,e9,e10,e11,e12,e13,e14,e15,e16,e17]=R at cb ⊢;rw[Q2,D0 _ _ _ (by omega)];simp(disch:=omega)only[B4,B3,CK,BL,List.getD_cons_zero,List.getD_cons_succ,cb]
theorem Al4(Bo:1000<=fu)(seed leaf:Int):Ap (CX xs) prog fu (d+7) 114 [Ac seed,Ao leaf]=some ⟨[Ac (Kd seed leaf)],[]⟩:=by
 rw[IY];have lp:=MH (xs:=xs) (fu:=fu) (d:=d) (a0:=seed) (a1:=leaf) (seed:=seed) (leaf:=leaf) Bo 18 0 fu (by omega) (by omega);obtain⟨f',ZO⟩:∃f',fu-18=f'+1:=⟨fu-19,by omega⟩
 rw[ZO] at lp;refine Eq.trans lp ?_;rw[Aw4];exact Ahf Bo (by simp)
theorem VC{a0 a1 a2:Int}{seed leaf m:Int}(Bo:1000<=fu)(g:Nat->Int)(hg:∀k,g k=dg m k):∀(k i nn:Nat),i+k=18->k<nn ->
  L5 fu (Ap (CX xs) prog fu (d+6)) a0 a1 a2 nn seed leaf (g 0) (g 1) (g 2) (g 3) (g 4) (g 5) (g 6) (g 7) (g 8) (g 9) (g 10) (g 11) (g 12) (g 13) (g 14) (g 15) (g 16) (g 17) i (Ad .u64 (pl (Y3 seed leaf m) i)) =
   some ⟨[.own 1 18 (Ad .u64 (Ls seed leaf m))],[]⟩
 |_,_,0,_,h=>by omega
 |0,i,nn+1,hi,hn=>by
  have e:i=18:=by omega
  subst e;have L:(Ad .u64 (pl (Y3 seed leaf m) 18)).length=18:=by rw[Am,Agf _ (by omega)]
  have T:List.take 18 (Ad .u64 (pl (Y3 seed leaf m) 18))=Ad .u64 (Ls seed leaf m):=by rw[I9 (by omega),Aw4];rfl
  rw[Ub,D0 _ _ _ (by omega)];simp(disch:=omega)only[B4,B3,L,T]
 |k+1,i,nn+1,hi,hn=>by
  have ih:=VC (a0:=a0) (a1:=a1) (a2:=a2) (seed:=seed) (leaf:=leaf) (m:=m) Bo g hg k (i+1) nn (by omega) (by omega);have hb:=Wi m i;have hgi:=Awg g (i:=i) (by omega);have w:wrap .i64 ((i:Int)+1)=((i+1:Nat):Int):=by rw[Ah (by omega) (by omega)];omega
  have sc:=WS (xs:=xs) (fu:=fu) (d:=d) Bo seed leaf i;have rn:=Ag3 (xs:=xs) (fu:=fu) (d:=d) (leaf:=leaf) (chain:=i) Bo (dg m i).toNat 0 (g i) (JS seed leaf i) (by rw[hg];omega) (by omega) (by rw[hg];omega)
  have ev:Tr leaf i (dg m i).toNat 0 (JS seed leaf i)=Y3 seed leaf m i:=rfl;rw[ev] at rn;have L:(Ad .u64 (pl (Y3 seed leaf m) i)).length=18:=by rw[Am,Agf _ (by omega)]
  have BT:Bp (Ad .u64 (pl (Y3 seed leaf m) i)) [Ac (Y3 seed leaf m i)] i=Ad .u64 (pl (Y3 seed leaf m) (i+1)):=by
   rw[Hh (by omega),Nw,Aor _ (by omega)]
  rw[Ub];simp(disch:=omega)only[B4,B3,Ij,Ec,Cu,hgi,sc,rn,L,BT,w];exact ih
theorem Atv(Bo:1000<=fu)(seed leaf m:Int):Ap (CX xs) prog fu (d+7) 69 [Ac seed,Ao leaf,Ac m]=some ⟨[.own 1 18 (Ad .u64 (Ls seed leaf m))],[]⟩:=by rw[RH];have dq:=WW (xs:=xs) (fu:=fu) (d:=d+5) Bo m;have hD:Ad .i64 (UJ m)=[Ao (dg m 0),Ao (dg m 1),Ao (dg m 2),Ao (dg m 3),Ao (dg m 4),Ao (dg m 5),Ao (dg m 6),Ao (dg m 7),Ao (dg m 8),Ao (dg m 9),Ao (dg m 10),Ao (dg m 11),Ao (dg m 12),Ao (dg m 13),Ao (dg m 14),Ao (dg m 15),Ao (dg m 16),Ao (dg m 17)]:=rfl;rw[hD] at dq;simp only[B4,B3,dq];exact VC (fu:=fu) (d:=d) (a0:=seed) (a1:=leaf) (a2:=m) Bo (dg m) (fun _=>rfl) 18 0 fu (by omega) (by omega)
end
def RP(h leaf:Int):Bool:=D6 h||J8 leaf h
def tkL(h leaf:Int):Int:=if RP h leaf=true then 0 else leaf
def tkC(seed h leaf m:Int):Cg:=if RP h leaf=true then [] else Ls seed leaf m
def tkP(seed h leaf:Int):Cg:=if RP h leaf=true then [] else (List.range h.toNat).map fun k=>Ci seed k (Ha leaf k)
def tkE(h leaf:Int):Int:=if RP h leaf=true then 9 else 0
def Ayz(args:Ab):Option Dl:=
 match args with
 |[.sc (.int .u64 seed),.sc (.int .i64 h),.sc (.int .i64 leaf),.sc (.int .u64 m)]=>
  some ⟨[.agg [Ao (tkL h leaf),.lst false 1 (tkC seed h leaf m).length (Ad .u64 (tkC seed h leaf m)),.lst false 1 (tkP seed h leaf).length (Ad .u64 (tkP seed h leaf))],Ao (tkE h leaf)],[]⟩
 |_=>none
structure En where
 k:Int
 na:Nat
 an:Ab
 ns:Nat
 st:Ab
def Ya:Ab->Option (List En)
 |[]=>some []
 |.sc (.int .u64 k) :: .lst false 3 na an :: .lst false 2 ns st::r=>bif Nat.beq an.length (na*3)&&Nat.beq st.length (ns*2)&&Nat.ble na 1000&&Nat.ble ns 1000 then (Ya r).map (⟨k,na,an,ns,st⟩ :: ·) else none
 |_=>none
def Ri:Ab->Option (List (Int × Int))
 |[]=>some []
 |.sc (.int .i64 k) :: .sc (.int .i64 t)::r=>(Ri r).map ((k,t) :: ·)
 |_=>none
def Ae6(model:Int)(es:List En):Ab:=match es.find? fun e=>e.k==model with|some e=>e.st|none=>[]
def Hs(now:Int)(l:List (Int × Int)):Int:=match l.reverse.find? fun p=>decide (p.2<=now) with|some p=>p.1|none=>0
def Ajr(args:Ab):Option Dl:=
  match args with
  |[.agg [.sc (.int .i64 _),.sc (.int .i64 _),.sc (.int .i64 _),.lst false 3 n c,.sc (.int .i64 _),.lst false 1 _ _,.lst false 1 _ _],.sc (.int .u64 model),.sc (.int .i64 now)]=>
    bif Nat.beq c.length (n*3)&&Nat.ble n 1000 then
      (match Ya c with
       |some es=>(match Ri (Ae6 model es) with|some l=>some ⟨[Ao (Hs now l)],[]⟩|none=>none)
       |none=>none)
    else none
  |_=>none
def Nz(f:FuncId):Option (Ab->Option Dl):=
 bif Nat.beq f 126 then some PI else
 bif Nat.beq f 148 then some Za else
 bif Nat.beq f 36 then some Ayz else
 bif Nat.beq f 29 then some Ajr else
 bif Nat.beq f 1000000 then some (fun _=>none) else none
abbrev C0:Jm:=CX Nz
section
variable {xs:FuncId->Option (Ab->Option Dl)}(fu d:Nat)(call:Bi)
theorem Oq(Z:Nat)(Y:Ab):F1 (CX xs) fu d 71 [Ai 3 Z Y] fun call=>Bd (decide (0<Z)) (At (decide (Y.length=Z*3)&&decide ((0+Z)*32<=1099511627776)&&decide (0+Z<=1099511627776))<|Aa (0+Z) fun a=>Aa ([]++Y) fun b=>At (decide (0+a*3<=b.length))<|Bv [Ai 3 a (List.take (a*3) (b.drop 0))]) (Ym (Bv [Ai 3 0 []]) (At (decide (Y.length=Z*3)&&decide ((0+Z)*32<=1099511627776)&&decide (0+Z<=1099511627776))<|Aa (0+Z) fun a=>Aa ([]++Y) fun b=>At (decide (0+a*3<=b.length))<|Bv [Ai 3 a (List.take (a*3) (b.drop 0))])):=by show _=_;kernel_rfl
theorem On(Z:Nat)(Y:Ab):F1 (CX xs) fu d 72 [Ai 2 Z Y] fun call=>Bd (decide (0<Z)) (At (decide (Y.length=Z*2)&&decide ((0+Z)*16<=1099511627776)&&decide (0+Z<=1099511627776))<|Aa (0+Z) fun a=>Aa ([]++Y) fun b=>At (decide (0+a*2<=b.length))<|Bv [Ai 2 a (List.take (a*2) (b.drop 0))]) (Ym (Bv [Ai 2 0 []]) (At (decide (Y.length=Z*2)&&decide ((0+Z)*16<=1099511627776)&&decide (0+Z<=1099511627776))<|Aa (0+Z) fun a=>Aa ([]++Y) fun b=>At (decide (0+a*2<=b.length))<|Bv [Ai 2 a (List.take (a*2) (b.drop 0))])):=by show _=_;kernel_rfl
theorem Qb(Z:Int)(Y:Nat)(X:Ab)(W:Nat)(V:Ab):F1 (CX xs) fu d 37 [.agg [Ac Z,Ai 3 Y X,Ai 2 W V]] fun call=>Eb (call 71 [Ai 3 Y X]) fun a b=>M0 3 a fun a c e=>Aq b<|Eb (call 72 [Ai 2 W V]) fun a b=>M0 2 a fun a f g=>Aq b<|Bv [.agg [Ac Z,Ai 3 c e,Ai 2 f g]]:=by show _=_;kernel_rfl
def I6(Z Y X:Int)(W:Nat)(V:Ab)(U:Int)(T:Nat)(S:Ab)(Q:Nat)(P:Ab)(O:Int)(N:Nat)(M:Int)(L:Nat)(K:Ab)(J I H:Int)(G E:Nat)(D B:Ab):Option Dl:=Lu fu call 52 Tryz.f52 [.agg [Z,Y,X,Ai 3 W V,U,Ai 1 T S,Ai 1 Q P],Ac O] [.r,.l,.r,.l] N ⟨lk [(1,Ac M),(4,.ptr 4 0),(9,Ai 3 L K),(10,J),(11,I)],Bq [(4,.st [Ac H,.view 50 3 0 G,.view 73 2 0 E]),(50,.ar false D),(73,.ar false B)]⟩
theorem Qf(U T S:Int)(Q:Nat)(P:Ab)(O:Int)(N:Nat)(M:Ab)(L:Nat)(K:Ab)(J:Int)(I:Nat)(X:Int)(W:Nat)(Y:Ab)(V Z H:Int)(G E:Nat)(D B:Ab):I6 fu call U T S Q P O N M L K J (I+1) X W Y V Z H G E D B=(Bd (decide (Z<V)) (At (decide (0<=Z)&&decide (Z<(↑W:Int)))<|A8 .u64 (Y.getD (Z.toNat*3) .top) fun a=>M0 3 (Y.getD (Z.toNat*3+1) .top) fun b c e=>M0 2 (Y.getD (Z.toNat*3+1+1) .top) fun b f g=>Bd (a==X) (Eb (call 37 [.agg [Ac a,Ai 3 c e,Ai 2 f g]]) fun a b=>D3 a fun a=>Di .u64 a fun a c=>J9 3 c fun c e f=>J9 2 f fun f g h=>Aq h<|Aq b<|Bv [.agg [Ac a,Ai 3 c e,Ai 2 f g],.sc (.bool true)]) (Aa (wrap .i64 (Z+1)) fun a=>I6 fu call U T S Q P O N M L K J I X W Y V a H G E D B)) (Bv [.agg [Ac 0,Ai 3 0 [],Ai 2 0 []],.sc (.bool false)])):=by kernel_rfl
theorem HS(W V U:Int)(Z:Nat)(Y:Ab)(T:Int)(S:Nat)(Q:Ab)(P:Nat)(O:Ab)(X:Int):F1 (CX xs) fu d 52 [.agg [W,V,U,Ai 3 Z Y,T,Ai 1 S Q,Ai 1 P O],Ac X] fun call=>I6 fu call W V U Z Y T S Q P O X fu X Z Y (↑Z:Int) 0 0 0 0 ([]) ([]):=by show _=_;kernel_rfl
end
section
open Go Go.RowKit
structure Sd(Z Z':Nat->Prop)(w w':World):Prop where
 os:w'.os=w.os
 tape:w'.tape=w.tape
 output:w'.output=w.output
 size:w.heap.size<=w'.heap.size
 keep:∀b,b<w.heap.size->¬Z b->w'.heap[b]?=w.heap[b]?
 sub:∀b,Z b->Z' b
 new:∀b,Z' b->Z b\/w.heap.size<=b
 lt:∀b,Z' b->b<w'.heap.size
 bs:∀b,b<w.heap.size->bsz w b<=bsz w' b
structure Nu(Z:Nat->Prop)(w w':World):Prop where
 os:w'.os=w.os
 tape:w'.tape=w.tape
 output:w'.output=w.output
 size:w.heap.size<=w'.heap.size
 same:∀b,Z b->w'.heap[b]?=w.heap[b]?
theorem Nu.sub{Z Z':Nat->Prop}{w w':World}(h:Nu Z w w')(hs:∀b,Z' b->Z b):Nu Z' w w':=⟨h.os,h.tape,h.output,h.size,fun b hb=>h.same b (hs b hb)⟩
def Aw7{α:Type}(P:Program)(gf:Nat)(lb:Array Value)(M:List α->α->Array Value->(Nat->Prop)->World->Prop)(S Sp:List α->Prop)(Pre:(Nat->Prop)->World->Prop):Prop:=
 ∀(l:Nat) (J Jx:(Nat->Prop)->List α->World->Prop) (W:World) (Z0:Nat->Prop),(∀b,Z0 b->b<W.heap.size)->Pre Z0 W ->
  (∀Z pre A B,J Z pre A->Nu Z A B->J Z pre B)->(∀Z pre A B,Jx Z pre A->Nu Z A B->Jx Z pre B) ->
  (∀Z pre x args A,J Z pre A->M pre x args Z A->YieldAt Fence.wide 0 P l args A fun e B=>∃Z',Sd Z Z' A B /\
   ((e=.returned (.bool true)/\J Z' (pre++[x]) B)\/(e=.returned (.bool false)/\Jx Z' (pre++[x]) B))) ->
  J Z0 [] W ->
  Calls P gf (#[.func (.yield l) #[] #[]]++lb) W fun e B=>(∃v,e=.returned v)/\∃Z xs,(S xs/\J Z xs B)\/(Sp xs/\Jx Z xs B)
theorem MM{P:Program}{n m l:Nat}{f:FuncId}{tmps:Array Value}{assign body:Code}{w:World}{R:Ending->World->Prop}(h:RoundIn Fence.wide n P l f tmps assign body w R):RoundIn Fence.wide m P l f tmps assign body w R:=
 ⟨h.1,fun c cs _=>h.2 c cs (room_wide _)⟩
def KE{α:Type}(D:Nat)(I:(Nat->Prop)->List α->World->Prop)(Ix:Code->(Nat->Prop)->List α->World->Prop)(Z:Nat->Prop)(xs:List α)(A:World):Exit->Act->World->Prop:=fun e _ B=>
 ∃Z',Sd Z Z' A B/\B.heap[D]?=A.heap[D]?/\B.heap[D+1]?=A.heap[D+1]? /\
  match e with
  |.normal=>I Z' xs B
  |.ret=>Ix .ret Z' xs B
  |.exit id=>Ix (.exit id) Z' xs B
  |.goto t=>Ix (.goto t) Z' xs B
  |_=>False
theorem Amj{α:Type}{P:Program}{n:Nat}{g:Operand}{ps:Array Tmp}{assign body:Code}{Q:Exit->Act->World->Prop}{a:Act}{w:World}{gf:Nat}{lb:Array Value}(hg:a.eval g=.func (.func gf) #[] lb)(eg:∀args w,(callFunc gf args).run P w=.ok (.enter gf args) w){M:List α->α->Array Value->(Nat->Prop)->World->Prop}{S Sp:List α->Prop}{Pre:(Nat->Prop)->World->Prop}(hit:Aw7 P gf lb M S Sp Pre){Z0:Nat->Prop}(hZ0:∀b,Z0 b->b<w.heap.size)(Apc:∀W:World,W.heap.size=w.heap.size+2->(∀b,b<w.heap.size->W.heap[b]?=w.heap[b]?)->Pre (fun b=>Z0 b\/b=w.heap.size\/b=w.heap.size+1) W)(hM:∀pre x args Z A B,M pre x args Z A->A.heap.size<=B.heap.size->(∀b,b<A.heap.size->¬Z b->B.heap[b]?=A.heap[b]?)->M pre x args Z B)(KV:∀pre x args Z A,M pre x args Z A->args.size=ps.size)(I:(Nat->Prop)->List α->World->Prop)(Ix:Code->(Nat->Prop)->List α->World->Prop)(hI:∀Z pre A B,I Z pre A->Nu (fun b=>Z b/\b≠w.heap.size/\b≠w.heap.size+1) A B->I Z pre B)(hIx:∀c Z pre A B,Ix c Z pre A->Nu (fun b=>Z b/\b≠w.heap.size/\b≠w.heap.size+1) A B->Ix c Z pre B)(h0:∀W,W.heap.size=w.heap.size+2->Nu (fun b=>b<w.heap.size) w W->I (fun b=>Z0 b\/b=w.heap.size\/b=w.heap.size+1) [] W)(a₁:Array Value->Act)(FW:∀pre x args Z A (K:Act->World->Prop),M pre x args Z A->K (a₁ args) A->assign.wpIn (Fence.wide.inRound (w.heap.size+1)) 0 P (Exit.then K (fun _ _ _=>False)) { tmps:=(ps.zip args).foldl (fun t (p,v)=>t.setIfInBounds p v) a.tmps,defers:=[] } A)(Adv:∀Z pre x args A,Z w.heap.size->Z (w.heap.size+1)->I Z pre A->M pre x args Z A->body.wpIn (Fence.wide.inRound (w.heap.size+1)) 0 P (KE w.heap.size I Ix Z (pre++[x]) A) (a₁ args) A)(Acx:∀Z xs B,S xs->I Z xs B->B.heap[w.heap.size]?=some (.deferred (some []))->Q .normal { a with defers:={ target:=.collected w.heap.size,args:= #[] }::a.defers } B)(Ab2:∀c Z xs B,Sp xs->Ix c Z xs B->B.heap[w.heap.size]?=some (.deferred (some []))->c.wpIn Fence.wide n P Q { a with defers:={ target:=.collected w.heap.size,args:= #[] }::a.defers } B):
  (Code.rangeFunc g ps assign body).wpIn Fence.wide n P Q a w:=by
 refine wpIn_rangeFunc ?_;intro fn hfn;obtain⟨rec,Xs⟩:∃rec:LoopState->Option Code->Loop,rec=fun st pe=>{ state:=st,pending:=pe,fn,tmps:=a.tmps,params:=ps,assign,body,defers:=w.heap.size }:=⟨_,rfl⟩
 obtain⟨D,hD⟩:∃D,w.heap.size=D:=⟨_,rfl⟩
 rw[hD] at hI hIx h0 FW Adv Acx Ab2 hZ0 Apc;obtain⟨W1,hW1⟩:∃W1,(w.alloc (.deferred (some []))).alloc (.loop (rec .ready none))=W1:=⟨_,rfl⟩
 have MY:W1.heap.size=D+2:=by rw[<-hW1,World.size_alloc,World.size_alloc,hD]
 have hL1:W1.heap[D+1]?=some (.loop (rec .ready none)):=by
  rw[<-hW1,<-hD];have:=World.alloc_heap_new (w.alloc (.deferred (some []))) (.loop (rec .ready none));rwa [World.size_alloc] at this
 have hK1:W1.heap[D]?=some (.deferred (some [])):=by
  rw[<-hW1,<-hD];exact (Below.heap_alloc _ _ _ (by simp)).trans (World.alloc_heap_new w _)
 have Gn:Nu (fun b=>b<D) w W1:=by
  rw[<-hW1,<-hD];exact⟨rfl,rfl,rfl,by simp;omega,fun b hb=>(Below.heap_alloc _ _ _ (by simp;omega)).trans (Below.heap_alloc _ _ _ hb)⟩
 refine⟨D+1,[{ target:=.collected D,args:= #[] }],W1,{ target:=.fn (.func gf) lb,args:= #[.func (.yield (D+1)) #[] #[]] },W1,gf,
  #[.func (.yield (D+1)) #[] #[]]++lb,W1,?_,?_,fun _ _=>trivial,?_,(fun h=>by cases h),?_⟩
 ·rw[<-hW1,Xs,<-hD];exact run_enterLoop_outer _ _ _ _ _
 ·simp only[resolve,hg];simp[go_sem]
 ·simp[invoke,go_sem,eg]
 ·have put:∀{Z:Nat->Prop} {A:World} (o:Obj),Nu (fun b=>Z b/\b≠D/\b≠D+1) A (A.putObj (D+1) o):=fun o=>
   ⟨rfl,rfl,rfl,by simp,fun b hb=>World.putObj_heap_other hb.2.2⟩
  refine callsIn_wide.2 (Calls.mono (hit (D+1)
   (fun Z pre A=>(Z D/\Z (D+1))/\I Z pre A/\A.heap[D+1]?=some (.loop (rec .ready none))/\A.heap[D]?=some (.deferred (some [])))
   (fun Z pre A=>(Z D/\Z (D+1))/\∃c,Ix c Z pre A/\A.heap[D+1]?=some (.loop (rec .done (some c)))/\A.heap[D]?=some (.deferred (some [])))
   W1 (fun b=>Z0 b\/b=D\/b=D+1) (fun b hb=>by rw[MY];exact hb.elim (fun h=>by have:=hZ0 b h;omega) fun h=>by omega) (Apc W1 MY (fun b hb=>Gn.same b hb)) ?_ ?_ ?_ ?_) ?_)
  ·rintro Z pre A B ⟨hz,hi,hl,hk⟩ hs
   exact⟨hz,hI Z pre A B hi (hs.sub fun _ h=>h.1),(hs.same _ hz.2).trans hl,(hs.same _ hz.1).trans hk⟩
  ·rintro Z pre A B ⟨hz,c,hi,hl,hk⟩ hs
   exact⟨hz,c,hIx c Z pre A B hi (hs.sub fun _ h=>h.1),(hs.same _ hz.2).trans hl,(hs.same _ hz.1).trans hk⟩
  ·rintro Z pre x args A ⟨hz,hi,hl,hk⟩ hm
   have Ch:D+1<A.heap.size:=(Array.getElem?_eq_some_iff.1 hl).1;have hy:=run_yield (P:=P) (args:=args) hl (by rw[Xs];exact KV pre x args Z A hm)
   rw[Xs] at hy;refine⟨fn,_,assign,body,hy,roundIn_of_wpIn hfn (FW pre x args Z A _ hm ?_)⟩;refine⟨_,run_beginRound hl (by rw[Xs]),?_⟩;obtain⟨A2,hA2⟩:∃A2,A.putObj (D+1) (.loop { rec .ready none with state:=.busy })=A2:=⟨_,rfl⟩
   rw[hA2];have NC:A2.heap[D+1]?=some (.loop { rec .ready none with state:=.busy }):=by rw[<-hA2];exact World.putObj_heap_same Ch
   have Gy:A2.heap[D]?=some (.deferred (some [])):=by rw[<-hA2];exact (World.putObj_heap_other (by omega)).trans hk
   have hz2:A2.heap.size=A.heap.size:=by rw[<-hA2];simp
   have hi2:I Z pre A2:=by rw[<-hA2];exact hI Z pre A _ hi (put _)
   have hm2:M pre x args Z A2:=by
    rw[<-hA2];exact hM pre x args Z A _ hm (by simp) fun b _ hb=>World.putObj_heap_other fun e=>hb (e ▸ hz.2)
   refine wpIn_mono (Adv Z pre x args A2 hz.1 hz.2 hi2 hm2) ?_
   have fin:∀(jump:Option Code) (W3:World) (Z':Nat->Prop),Sd Z Z' A2 W3->W3.heap[D]?=A2.heap[D]?->W3.heap[D+1]?=A2.heap[D+1]? ->
     (Instr.endRound (D+1) jump).run P W3=.ok (.bool jump.isNone) (W3.putObj (D+1) (.loop (rec (if jump.isNone then .ready else .done) jump))) /\
     (W3.putObj (D+1) (.loop (rec (if jump.isNone then .ready else .done) jump))).heap[D+1]?=some (.loop (rec (if jump.isNone then .ready else .done) jump)) /\
     (W3.putObj (D+1) (.loop (rec (if jump.isNone then .ready else .done) jump))).heap[D]?=some (.deferred (some [])) /\
     Sd Z Z' A (W3.putObj (D+1) (.loop (rec (if jump.isNone then .ready else .done) jump))):=fun jump W3 Z' ht e1 e2=>by
    have hl3:=e2.trans NC;have:=run_endRound (P:=P) jump hl3;rw[Xs] at this ⊢;refine⟨this,World.putObj_heap_same (Array.getElem?_eq_some_iff.1 hl3).1,(World.putObj_heap_other (by omega)).trans (e1.trans Gy),?_⟩;have hA:A2.os=A.os/\A2.tape=A.tape/\A2.output=A.output:=by rw[<-hA2];exact⟨rfl,rfl,rfl⟩
    refine⟨ht.os.trans hA.1,ht.tape.trans hA.2.1,ht.output.trans hA.2.2,by have:=ht.size;simp;omega,fun b hb hn=>?_,ht.sub,fun b hb=>by have:=ht.new b hb;rw[hz2] at this;exact this,fun b hb=>by simpa using ht.lt b hb,fun b hb=>?_⟩
    ·have Ge:b≠D+1:=fun e=>hn (e ▸ hz.2);rw[World.putObj_heap_other Ge,ht.keep b (by omega) hn,<-hA2,World.putObj_heap_other Ge]
    ·by_cases Ge:b=D+1
     ·subst Ge;unfold bsz;rw[hl];exact Nat.zero_le _
     ·have h5:=ht.bs b (by omega);have h6:bsz A2 b=bsz A b:=by unfold bsz;rw[<-hA2,World.putObj_heap_other Ge]
      have h7:∀o,bsz (W3.putObj (D+1) o) b=bsz W3 b:=fun o=>by unfold bsz;rw[World.putObj_heap_other Ge]
      rw[h7,<-h6];exact h5
   rintro e a3 W3 ⟨Z',ht,e1,e2,hp⟩
   cases e with
   |normal=>
    obtain⟨hr,hl4,U8,ht4⟩:=fin none W3 Z' ht e1 e2;exact⟨_,_,hr,Z',ht4,.inl ⟨rfl,⟨ht.sub _ hz.1,ht.sub _ hz.2⟩,hI Z' _ _ _ hp (put _),hl4,U8⟩⟩
   |ret=>
    obtain⟨hr,hl4,U8,ht4⟩:=fin (some .ret) W3 Z' ht e1 e2;exact⟨_,_,hr,Z',ht4,.inr ⟨rfl,⟨ht.sub _ hz.1,ht.sub _ hz.2⟩,.ret,hIx _ Z' _ _ _ hp (put _),hl4,U8⟩⟩
   |exit id=>
    obtain⟨hr,hl4,U8,ht4⟩:=fin (some (.exit id)) W3 Z' ht e1 e2;exact⟨_,_,hr,Z',ht4,.inr ⟨rfl,⟨ht.sub _ hz.1,ht.sub _ hz.2⟩,.exit id,hIx _ Z' _ _ _ hp (put _),hl4,U8⟩⟩
   |goto t=>
    obtain⟨hr,hl4,U8,ht4⟩:=fin (some (.goto t)) W3 Z' ht e1 e2;exact⟨_,_,hr,Z',ht4,.inr ⟨rfl,⟨ht.sub _ hz.1,ht.sub _ hz.2⟩,.goto t,hIx _ Z' _ _ _ hp (put _),hl4,U8⟩⟩
   |panic ch=>exact hp.elim
   |outgrown=>exact hp.elim
  ·exact⟨⟨.inr (.inl rfl),.inr (.inr rfl)⟩,h0 W1 MY Gn,hL1,hK1⟩
  ·rintro e W2 ⟨⟨v,rfl⟩,Z,xs,(⟨hS,hz,hi,hl,hk⟩|⟨hSp,hz,c,hi,hl,hk⟩)⟩
   ·exact⟨none,_,by have:=run_endLoop (P:=P) hl (by rw[Xs];simp);rw[Xs] at this;exact this,Acx Z xs _ hS (hI Z _ _ _ hi (put _)) ((World.putObj_heap_other (by omega)).trans hk)⟩
   ·exact⟨some c,_,by have:=run_endLoop (P:=P) hl (by rw[Xs];simp);rw[Xs] at this;exact this,Ab2 c Z xs _ hSp (hIx c Z _ _ _ hi (put _)) ((World.putObj_heap_other (by omega)).trans hk)⟩
def Alm(s:St)(β:Bt):F6:={ X:=DS s.hp β,L:=fun b _=>DS s.hp β b,pn:=fun _=>False,pt:=fun _=>none,p8:=fun _ h=>h.elim }
theorem B9.rebase{N:Nat}{w0 w w':World}{X0:F6}{Y Z':Nat->Prop}{β:Bt}{s:St}{a:Act}(h:B9 N w0 X0 Y β s a w)(ht:Sd Y Z' w w')(hns:∀id c,s.hp id≠some (.st c)):B9 N w' (Alm s β) Z' β s a w':=by
 have hW:Cq (Dd s.hp β Y) w w':=⟨ht.size,fun b hb hn=>ht.keep b hb fun y=>hn (.inr y),ht.bs⟩
 have hA:∀b,b<w.heap.size->Dd s.hp β Z' b->Dd s.hp β Y b:=by
  rintro b hb (hx|hz)
  ·exact .inl hx
  ·rcases ht.new b hz with h1|h1
   ·exact .inr h1
   ·omega
 have Yl:∀b,b<w.heap.size->¬Y b->w'.heap[b]?=w.heap[b]?:=ht.keep
 refine⟨h.dfr,h.tsz,h.tmo,fun i hi=>(h.tms i hi).step hW hA fun _ _=>rfl,fun id bx Oc=>?_,h.inj,fun id b o h1 h2=>Io (h.blt id b o h1 h2) ht.size,h.wfT,h.wfB,fun b hb=>.inl hb,
  fun id bx b o h1 h2 h3 _ j _=>⟨id,o,by rw[h1];exact h2,h3⟩,fun i hi=>hi.elim,fun id c b o h1=>absurd h1 (hns id c),fun b hz=>?_,ht.lt,⟨rfl,rfl,rfl,⟨Dn _,fun _ _ _=>rfl,fun _ _=>Dn _⟩,fun _ _ _ _=>⟨rfl,rfl⟩⟩⟩
 ·cases bx with
  |st c=>exact absurd Oc (hns id c)
  |mv=>trivial
  |ar fz cells=>
   rcases h.box id _ Oc with h1|⟨b,o,h1,h2,h3,h4⟩
   ·exact .inl h1
   ·have Ch:b<w.heap.size:=h.blt id b o (by rw[Oc];simp) h1
    have hnY:¬Y b:=by
     cases fz with
     |false=>exact fun y=>h.Yx b y ⟨id,o,by rw[Oc];trivial,h1⟩
     |true=>exact fun y=>h4 rfl (.inr y)
    have hh:=Yl b Ch hnY;have Jh:bsz w' b=bsz w b:=by unfold bsz;rw[hh]
    refine .inr ⟨b,o,h1,fun j c hj=>?_,fun hf j hj hjb=>?_,fun hf=>fun hA'=>h4 hf (hA b Ch hA')⟩
    ·obtain⟨v,hv,hv1,hv2⟩:=h2 j c hj;exact⟨v,(World.cell?_of_block (a:=(⟨b,o,none⟩:Addr).add j) (by rw[Hu];exact hh)).trans hv,hv1,hv2.step hW hA⟩
    ·rw[Jh] at hjb;have:=h3 hf j hj hjb;rw[<-this];unfold World.frozen?;simp only[hh]
 ·rintro⟨id,o,h1,h2⟩
  have Ch:b<w.heap.size:=h.blt id b o (Dj h1) h2;rcases ht.new b hz with h3|h3
  ·exact h.Yx b h3 ⟨id,o,h1,h2⟩
  ·omega
theorem B9.stay{N:Nat}{w0 w:World}{X0:F6}{Y:Nat->Prop}{β:Bt}{s:St}{a:Act}(h:B9 N w0 X0 Y β s a w)(hd:∀b,Y b->¬X0.X b):Nu Y w0 w:=
 ⟨h.fr.os,h.fr.tape,h.fr.output,h.fr.step.size,fun b hb=>h.fr.step.keep b (h.Ylt b hb) (hd b hb)⟩
end
section
open Go Go.RowKit
abbrev WF(ro:Option Nat):Fence:={ fn:=fun _=>True,depth:=none,alive:=false,round:=ro }
def ZL(o:Oper):Bool:=
 match o.op with
 |.defer _=>false
 |_=>true
def okR:Code->Bool
 |.region _ ops _=>ops.toList.all ZL
 |.seq a b=>okR a&&okR b
 |.cond _ a b=>okR a&&okR b
 |.block _ c=>okR c
 |.loop c=>okR c
 |.skip=>true
 |.exit _=>true
 |.ret=>true
 |_=>false
theorem II{P:Program}{o:Oper}{a:Act}{w:World}{next:Act->World->Prop}{Q:Exit->Act->World->Prop}{ro:Option Nat}{n:Nat}(hd:ZL o=true)(h:o.wp P a w next Q):o.wpIn (WF ro) n P a w next Q:=by
 refine⟨fun _ _=>trivial,?_⟩;have e:o.semAt (WF ro).round a.eval=execOp a.eval o:=Oper.semAt_eq _ _ _ (by intro c hc;unfold ZL at hd;rw[hc] at hd;cases hd)
 rw[e];unfold Oper.wp at h
 revert h
 generalize (execOp a.eval o).run P w=q;intro h;cases q with
 |halt x w'=>cases x<;>first|exact h|exact h.elim
 |ok v w'=>
  cases v with
  |value v=>exact h
  |skip=>exact h
  |defer d=>exact h
  |enter f args=>exact⟨(fun h=>by cases h),(callsIn_wide.2 h:CallsIn Fence.wide (n-1) P f args w' _)⟩
  |row row args=>exact⟨(fun h=>by cases h),fun c cs _=>let ⟨v,w',r,s⟩:=h c cs;⟨v,w',r,stepsIn_wide.2 s⟩⟩
  |_=>exact h.elim
theorem YL{P:Program}{ops:Array Oper}{Q:Exit->Act->World->Prop}{K K':Act->World->Prop}{ro:Option Nat}{i n:Nat}{a:Act}{w:World}(DV:¬LetsOut Q)(TC:ops.toList.all ZL=true)(hK:∀a w,K a w->K' a w)(h:wpOp P ops Q i K a w):wpOpIn (WF ro) n P ops Q i K' a w:=by
 unfold wpOp at h;unfold wpOpIn;cases ho:ops[i]? with
 |none=>rw[ho] at h;exact hK _ _ h
 |some o=>
  rw[ho] at h;simp only at h ⊢;have hn:ZL o=true:=List.all_eq_true.1 TC o (Array.mem_toList_iff.2 (Array.mem_of_getElem? ho));by_cases hw:Region.wanted o (yielded ops a.tmps)=true
  ·rw[B7 hw] at h ⊢;rcases h with h|h
   ·exact II hn (Oper.wp_mono hK h)
   ·exact absurd h.2 DV
  ·rw[Ba hw] at h ⊢;exact⟨fun _ _=>trivial,hK _ _ h⟩
theorem Vf{P:Program}{ops:Array Oper}{Q:Exit->Act->World->Prop}{ro:Option Nat}{n:Nat}{md:Region.Mode}(DV:¬LetsOut Q)(TC:ops.toList.all ZL=true):∀(fuel:Nat)(listed:Array Bool)(a:Act)(w:World),wpAny P md ops Q fuel listed a w->wpAnyIn (WF ro) n P md ops Q fuel listed a w
 |0,_,_,_,h=>h
 |fuel+1,_,_,_,h=>⟨h.1,fun i hi=>YL DV TC (fun a w=>Vf DV TC fuel _ a w) (h.2 i hi)⟩
section
variable {P:Program}{C:Jm}{N:Nat}{call:Bi}{w0:World}{X0:F6}{Y:Nat->Prop}{R:Type}{r:R}{β:Bt}{s:St}{a:Act}{w:World}{o:Oper}{ops:Array Oper}{K:St->Option R}{ro:Option Nat}{n:Nat}
theorem KX(h:B9 N w0 X0 Y β s a w){G:Vs}(Jz:MD P G w0 X0)(C6:∀f args res,call f args=some res->C7 G P f args res)(TC:ZL o=true)(hk:Em C P N call ops o s K=some r):
  ∃s',K s'=some r/\∀(next:Act->World->Prop) (Q:Exit->Act->World->Prop),(∀a' w' β',B9 N w0 X0 Y β' s' a' w'->next a' w') ->
   if Region.wanted o (yielded ops a.tmps) then o.wpIn (WF ro) n P a w next Q else (∀f,o.about P w a.eval=some f->(WF ro).fn f)/\next (a.put o.dst undef) w:=by
 rw[OG] at hk
 have hw:∀b,Ih ops o s.tm=some b->Region.wanted o (yielded ops a.tmps)=b:=by
  intro b hb;unfold Ih at hb;unfold Region.wanted;cases hg:o.guard with
  |none=>rw[hg] at hb;simpa using hb
  |some q=>
   obtain⟨j,want⟩:=q;rw[hg] at hb;simp only at hb ⊢;cases hd:(ops[j]?).bind (·.dst) with
   |none=>rw[hd] at hb;cases hb
   |some d=>
    rw[hd] at hb;simp only at hb;split at hb
    ·rename_i b' ht;rw[X7 h hd ht];simp at hb;rw[<-hb];cases b'<;>cases want<;>rfl
    ·rename_i ht;rw[X7 h hd ht];simp at hb;rw[hb];rfl
    ·cases hb
 split at hk
 ·cases hk
 ·rename_i hv;obtain⟨s',hs',hn⟩:=SC h Jz C6 hk;refine⟨s',hs',fun next Q SS=>?_⟩;simp only[hw _ hv,if_true];exact II TC (hn next Q SS)
 ·rename_i hv;obtain⟨hd,hk⟩:=Au hk;refine⟨_,hk,fun next Q SS=>?_⟩;simp only[hw _ hv];exact⟨fun _ _=>trivial,SS _ _ β (h.put hd (Az.sc _) (by simp[Cc,Cn,Aw]))⟩
theorem DD{G:Vs}(Jz:MD P G w0 X0)(C6:∀f args res,call f args=some res->C7 G P f args res){Q:Exit->Act->World->Prop}(hQ:∀s' a' w' β',K s'=some r->B9 N w0 X0 Y β' s' a' w'->Q .normal a' w'):
  ∀(li:B5) (os:List Oper),li.length=os.length->(∀(k i:Nat),li[k]?=some i->ops[i]?=os[k]?)->os.all ZL=true->∀{s:St} {a:Act} {w:World} {β:Bt},B9 N w0 X0 Y β s a w->Lj C P N call ops os s K=some r->wpOpsIn (WF ro) n P ops Q li a w
 |[],[],_,_,_,s,a,w,β,h,hk=>by
  show Q .normal a w;exact hQ s a w β hk h
 |[],_::_,hl,_,_,_,_,_,_,_,_=>by cases hl
 |_::_,[],hl,_,_,_,_,_,_,_,_=>by cases hl
 |i::li,o::os,hl,hi,TC,s,a,w,β,h,hk=>by
  obtain⟨s1,hk,h⟩:=Xl h hk;rw[List.all_cons,Gl] at TC;have hio:ops[i]?=some o:=by simpa using hi 0 i rfl
  obtain⟨s',hs',hn⟩:=KX (ro:=ro) (n:=n) h Jz C6 TC.1 hk;unfold wpOpsIn;rw[hio];exact hn _ _ fun a' w' β' h'=>DD Jz C6 hQ li os (by simpa using hl) (fun k j hj=>by simpa using hi (k+1) j (by simpa using hj)) TC.2 h' hs'
theorem MU{c:Code}{Q:Exit->Act->World->Prop}{F:(St->Option R)->St->Option R}{nm:St->(St->Option R)->Option R}(hnm:∀{β s a w} {K:St->Option R},B9 N w0 X0 Y β s a w->nm s K=some r->∃β' s',K s'=some r/\B9 N w0 X0 Y β' s' a w)(hF:∀{β s a w} {K:St->Option R}{Q':Act->World->Prop},B9 N w0 X0 Y β s a w->F K s=some r->(∀s' a' w' β',K s'=some r->B9 N w0 X0 Y β' s' a' w'->Q' a' w')->c.wpIn (WF ro) n P (Exit.then Q' Q) a w):
  ∀(m:Nat) {β s a w},B9 N w0 X0 Y β s a w->UI F nm m s=some r->Code.roundsIn (WF ro) n P c Q m a w
 |0,_,_,_,_,_,hk=>by cases hk
 |m+1,β,s,a,w,h,hk=>by
  rw[roundsIn_succ];refine hF h hk fun s' a' w' β' Jj h'=>?_;obtain⟨β1,s1,Eg,h1⟩:=hnm h' Jj;exact MU hnm hF m h1 Eg
theorem KY{G:Vs}(Jz:MD P G w0 X0)(C6:∀f args res,call f args=some res->C7 G P f args res)(hm:P.follows .mixedOrders=true){fu:Nat}:
  ∀(c:Code),okR c=true->∀{ln:Nat} {lx:Nat->Nat} {lr:Nat} {kn:St->Option R} {kx:Nat->St->Option R} {kr:St->Option R} {β:Bt} {s:St} {a:Act} {w:World} {Q:Exit->Act->World->Prop},(∀a w,¬Q .outgrown a w)->B9 N w0 X0 Y β s a w ->
   Nf C P fu N call c ln lx lr kn kx kr s=some r->(∀s' a' w' β',kn s'=some r->B9 N w0 X0 Y β' s' a' w'->Q .normal a' w') ->
   (∀id s' a' w' β',kx id s'=some r->B9 N w0 X0 Y β' s' a' w'->Q (.exit id) a' w')->(∀s' a' w' β',kr s'=some r->B9 N w0 X0 Y β' s' a' w'->Q .ret a' w')->c.wpIn (WF ro) n P Q a w:=by
 intro c
 induction c with
 |skip=>intro _ ln lx lr kn kx kr β s a w Q DV h hk hn hx hr;exact wpIn_skip (hn s a w β hk h)
 |region id ops draw=>
  intro ho ln lx lr kn kx kr β s a w Q DV h hk hn hx hr;unfold okR at ho;unfold Nf at hk;cases draw
  ·simp only[UM,Zzs,cond_false] at hk;refine wpIn_region (DD Jz C6 hn (List.range ops.size) ops.toList (by simp) (fun k i hi=>?_) ho h hk);rw[List.getElem?_range] at hi
   ·simp at hi;subst hi;simp
   ·rcases K6 k ops.size with h'|h'
    ·exact h'
    ·rw[List.getElem?_eq_none (by simpa using h')] at hi;cases hi
  ·have hLo:¬LetsOut Q:=fun ⟨a,w,q⟩=>DV a w q;simp only[UM,Ar2,Zzm,cond_true] at hk;cases hb:QY C P ops<;>rw[hb] at hk
   ·obtain⟨Jh,Eg⟩:=Au (show At _ _=some r from hk);exact wpIn_region_any hm (Vf hLo ho _ _ _ _ (Yo h Jz C6 hm Jh Eg hn))
   ·exact wpIn_region_any hm (Vf hLo ho _ _ _ _ (Wk h Jz C6 hm hb hk hn))
 |seq c1 c2 ih1 ih2=>
  intro ho ln lx lr kn kx kr β s a w Q DV h hk hn hx hr;unfold okR at ho;rw[Gl] at ho;unfold Nf at hk
  refine wpIn_seq (ih1 ho.1 (fun a w=>DV a w) h hk (fun s' a' w' β' Jj h'=>by
    cases hc:Ah8 P c1 c2
    ·rw[hc] at Jj;exact ih2 ho.2 DV h' Jj hn hx hr
    ·rw[hc] at Jj;cases hq:GR c1 c2
     ·rw[hq] at Jj;obtain⟨β1,s1,Eg,h1⟩:=Cb h' (show Jg _ _ _ _=some r from Jj);exact ih2 ho.2 DV h1 (BF Eg) hn hx hr
     ·rw[hq] at Jj;obtain⟨β1,s1,Eg,h1⟩:=NA h' (show Ad5 _ _ _ _=some r from Jj);exact ih2 ho.2 DV h1 (BF Eg) hn hx hr) (fun id s' a' w' β' Jj h'=>hx id s' a' w' β' Jj h') (fun s' a' w' β' Jj h'=>hr s' a' w' β' Jj h'))
 |cond c c1 c2 ih1 ih2=>
  intro ho ln lx lr kn kx kr β s a w Q DV h hk hn hx hr;unfold okR at ho;rw[Gl] at ho;unfold Nf at hk;rcases LL h hk with⟨hc,Eg⟩|⟨hc,Eg⟩
  ·exact wpIn_cond_true hc (ih1 ho.1 DV h Eg hn hx hr)
  ·exact wpIn_cond_false hc (ih2 ho.2 DV h Eg hn hx hr)
 |block id c ih=>
  intro ho ln lx lr kn kx kr β s a w Q DV h hk hn hx hr;unfold okR at ho;unfold Nf at hk;refine wpIn_block (ih ho (fun a w=>DV a w) h hk (fun s' a' w' β' Jj h'=>hn s' a' w' β' Jj h') (fun j s' a' w' β' Jj h'=>?_) (fun s' a' w' β' Jj h'=>hr s' a' w' β' Jj h'));show (if j=id then _ else _);by_cases e:j=id
  ·subst e;rw[B7 rfl];rw[Of] at Jj;exact hn s' a' w' β' Jj h'
  ·rw[Ba e]
   have:Nat.beq j id=false:=by
    cases hb:Nat.beq j id
    ·rfl
    ·exact absurd (D4 hb) e
   rw[this] at Jj;exact hx j s' a' w' β' Jj h'
 |loop c ih=>
  intro ho ln lx lr kn kx kr β s a w Q DV h hk hn hx hr;unfold okR at ho;unfold Nf at hk;obtain⟨β1,s1,Eg,h1⟩:=Cb h hk;refine wpIn_loop_rounds fu (MU (fun h hk=>Cb h hk) (fun h hk hQ=>?_) fu h1 Eg);exact ih ho (fun a w=>DV a w) h hk hQ (fun id s' a' w' β' Jj h'=>hx id s' a' w' β' Jj h') (fun s' a' w' β' Jj h'=>hr s' a' w' β' Jj h')
 |«exit» id=>intro _ ln lx lr kn kx kr β s a w Q DV h hk hn hx hr;exact wpIn_exit (hx id s a w β hk h)
 |ret=>intro _ ln lx lr kn kx kr β s a w Q DV h hk hn hx hr;exact wpIn_ret (hr s a w β hk h)
 |_=>intro ho;cases ho
end
end
section
open Go Go.RowKit
theorem Rq:∀(l:List (Nat × PV)) (i:Nat),lk l i=.top\/∃q∈l,q.1=i/\lk l i=q.2
 |[],_=>.inl rfl
 |(j,p)::l,i=>by
  by_cases e:i=j
  ·subst e;refine .inr ⟨(i,p),by simp,rfl,?_⟩;simp[lk,Of]
  ·have hb:Nat.beq i j=false:=by
    cases h:Nat.beq i j
    ·rfl
    ·exact absurd (D4 h) e
   have Jh:Nat.beq j i=false:=by
    cases h:Nat.beq j i
    ·rfl
    ·exact absurd (D4 h).symm e
   have h1:lk ((j,p)::l) i=lk l i:=by simp[lk,hb,Jh]
   rw[h1];rcases Rq l i with h|⟨q,hq,h2,h3⟩
   ·exact .inl h
   ·exact .inr ⟨q,Rw _ hq,h2,h3⟩
theorem Sk:∀(l:List (Nat × Bz)) (i:Nat),Bq l i=none\/∃q∈l,q.1=i/\Bq l i=some q.2
 |[],_=>.inl rfl
 |(j,p)::l,i=>by
  by_cases e:i=j
  ·subst e;refine .inr ⟨(i,p),by simp,rfl,?_⟩;simp[Bq,Of]
  ·have hb:Nat.beq i j=false:=by
    cases h:Nat.beq i j
    ·rfl
    ·exact absurd (D4 h) e
   have Jh:Nat.beq j i=false:=by
    cases h:Nat.beq j i
    ·rfl
    ·exact absurd (D4 h).symm e
   have h1:Bq ((j,p)::l) i=Bq l i:=by simp[Bq,hb,Jh]
   rw[h1];rcases Sk l i with h|⟨q,hq,h2,h3⟩
   ·exact .inl h
   ·exact .inr ⟨q,Rw _ hq,h2,h3⟩
theorem VT{P:Program}{a:Act}{w:World}{o:Oper}{c:Call}{t l:Nat}(ho:o.op=.call c)(hc:c.callee=.value (.tmp t))(ht:a.eval (.tmp t)=.func (.yield l) #[] #[]){r:Result Next}(hy:(Instr.yield l (c.args.map a.eval)).run P w=r):
  (execOp a.eval o).run P w=r:=by
 unfold execOp;rw[ho];simp[resolve,hc,ht,Deferred.ofValue,invoke,hy]
section
variable {P:Program}{C:Jm}{N:Nat}{call:Bi}{w0:World}{X0:F6}{Y:Nat->Prop}{R:Type}{r:R}{β:Bt}{s:St}{a:Act}{w:World}{o:Oper}{ops:Array Oper}{K:St->Option R}{ro:Option Nat}{n:Nat}
theorem B9.part(h:B9 N w0 X0 Y β s a w)(tm':Nat->PV)(C5:Nat->Option Bz)(ht:∀i,tm' i=.top\/tm' i=s.tm i)(hh:∀id,C5 id=none\/C5 id=s.hp id)(hw:∀i,i<N->∀id∈Cc (tm' i),C5 id≠none)(hwB:∀id cells,C5 id=some (.st cells)->∀c∈cells,∀id'∈Aw c,C5 id'≠none)(Zu:∀i,X0.pn i->C5 (Dm N i)≠none):B9 N w0 X0 Y β ⟨tm',C5⟩ a w:=by
 have hX:∀b,DS C5 β b->DS s.hp β b:=by
  rintro b ⟨id,o,h1,h2⟩
  rcases hh id with e|e
  ·rw[e] at h1;exact h1.elim
  ·rw[e] at h1;exact⟨id,o,h1,h2⟩
 have hA:∀b,Dd C5 β Y b->Dd s.hp β Y b:=fun b hb=>hb.elim (fun x=>.inl (hX b x)) .inr
 have hs:∀{id bx},C5 id=some bx->s.hp id=some bx:=by
  intro id bx e;rcases hh id with e'|e'
  ·rw[e'] at e;cases e
  ·rw[<-e'];exact e
 have hn:∀{id},C5 id≠none->s.hp id≠none:=by
  intro id e;rcases hh id with e'|e'
  ·exact absurd e' e
  ·rw[<-e'];exact e
 have hl:∀{id},Ct (C5 id)->Ct (s.hp id):=by
  intro id e;rcases hh id with e'|e'
  ·rw[e'] at e;exact e.elim
  ·rw[<-e'];exact e
 have Gn:Cq (Dd s.hp β Y) w w:=⟨Dn _,fun _ _ _=>rfl,fun _ _=>Dn _⟩
 refine⟨h.dfr,h.tsz,fun i hi=>?_,fun i hi=>?_,fun id bx Oc=>?_,fun id id' b o o' h1 h2=>h.inj id id' b o o' (hl h1) (hl h2),fun id b o h1 h2=>h.blt id b o (hn h1) h2,hw,hwB,fun b hb=>h.ownd b (hX b hb),fun id bx b o h1 h2 h3 h4=>h.rngB id bx b o (hs h1) h2 h3 h4,
  fun i hi=>⟨Zu i hi,(h.pin i hi).2⟩,fun id c b o h1=>h.stp id c b o (hs h1),fun b hy hx=>h.Yx b hy (hX b hx),h.Ylt,h.fr⟩
 ·rcases ht i with e|e
  ·exact e
  ·exact e.trans (h.tmo i hi)
 ·show Eo w (Dd C5 β Y) β (tm' i) _;rcases ht i with e|e
  ·rw[e];exact Az.top _
  ·rw[e];exact (h.tms i hi).step Gn (fun b _=>hA b) fun _ _=>rfl
 ·have h0:=h.box id bx (hs Oc);exact h0.step' hA
theorem B9.pick(h:B9 N w0 X0 Y β s a w)(l:List (Nat × PV))(bl:List (Nat × Bz))(hl:∀q∈l,q.2=s.tm q.1)(hb:∀q∈bl,some q.2=s.hp q.1)(hw:∀q∈l,∀id∈Cc q.2,Bq bl id≠none)(hwB:∀q∈bl,∀cells,q.2=.st cells->∀c∈cells,∀id'∈Aw c,Bq bl id'≠none)(Zu:∀i,X0.pn i->Bq bl (Dm N i)≠none):B9 N w0 X0 Y β ⟨lk l,Bq bl⟩ a w:=by
 refine h.part (lk l) (Bq bl) (fun i=>?_) (fun id=>?_) (fun i _ id Br=>?_) (fun id cells e=>?_) Zu
 ·rcases Rq l i with e|⟨q,hq,h1,h2⟩
  ·exact .inl e
  ·exact .inr (by rw[h2,hl q hq,h1])
 ·rcases Sk bl id with e|⟨q,hq,h1,h2⟩
  ·exact .inl e
  ·exact .inr (by rw[h2,hb q hq,h1])
 ·rcases Rq l i with e|⟨q,hq,h1,h2⟩
  ·rw[e] at Br;simp[Cc,Cn,Aw] at Br
  ·rw[h2] at Br;exact hw q hq id Br
 ·rcases Sk bl id with e'|⟨q,hq,h1,h2⟩
  ·rw[e'] at e;cases e
  ·rw[h2] at e;exact hwB q hq cells (by injection e)
theorem G4{G:Vs}(Jz:MD P G w0 X0)(C6:∀f args res,call f args=some res->C7 G P f args res){Q:Exit->Act->World->Prop}{rest:B5}(hQ:∀s' a' w' β',K s'=some r->B9 N w0 X0 Y β' s' a' w'->wpOpsIn (WF ro) n P ops Q rest a' w'):
  ∀(li:B5) (os:List Oper),li.length=os.length->(∀(k i:Nat),li[k]?=some i->ops[i]?=os[k]?)->os.all ZL=true->∀{s:St} {a:Act} {w:World} {β:Bt},B9 N w0 X0 Y β s a w->Lj C P N call ops os s K=some r->wpOpsIn (WF ro) n P ops Q (li++rest) a w
 |[],[],_,_,_,s,a,w,β,h,hk=>hQ s a w β hk h
 |[],_::_,hl,_,_,_,_,_,_,_,_=>by cases hl
 |_::_,[],hl,_,_,_,_,_,_,_,_=>by cases hl
 |i::li,o::os,hl,hi,TC,s,a,w,β,h,hk=>by
  obtain⟨s1,hk,h⟩:=Xl h hk;rw[List.all_cons,Gl] at TC;have hio:ops[i]?=some o:=by simpa using hi 0 i rfl
  obtain⟨s',hs',hn⟩:=KX (ro:=ro) (n:=n) h Jz C6 TC.1 hk;rw[Zzp];unfold wpOpsIn;rw[hio];exact hn _ _ fun a' w' β' h'=>G4 Jz C6 hQ li os (by simpa using hl) (fun k j hj=>by simpa using hi (k+1) j (by simpa using hj)) TC.2 h' hs'
end
end
section
open Go Go.RowKit
abbrev Tn(ds:List Deferred)(a:Act):Act:={ a with defers:=a.defers++ds }
def TD(ds:List Deferred)(Q:Exit->Act->World->Prop):Exit->Act->World->Prop:=fun e a w=>∃a0:Act,a=Tn ds a0/\Q e a0 w
section
variable {P:Program}{ops:Array Oper}{Q:Exit->Act->World->Prop}{ro:Option Nat}{n:Nat}{ds:List Deferred}
theorem R7(a:Act)(d:Option Tmp)(v:Value):(Tn ds a).put d v=Tn ds (a.put d v):=by cases d<;>rfl
theorem An4(h:LetsOut Q):LetsOut (TD ds Q):=let ⟨a,w,q⟩:=h;⟨_,w,a,rfl,q⟩
theorem Ami{o:Oper}{a:Act}{w:World}{K K':Act->World->Prop}(hK:∀a w,K a w->K' (Tn ds a) w)(h:o.wpIn (WF ro) n P a w K Q):o.wpIn (WF ro) n P (Tn ds a) w K' (TD ds Q):=by
 refine⟨fun _ _=>trivial,?_⟩;have h:=h.2;show o.uponIn _ _ _ _ _ _ ((o.semAt (WF ro).round a.eval).run P w);generalize (o.semAt (WF ro).round a.eval).run P w=q at h;cases q with
 |halt x w'=>cases x<;>first|exact⟨a,rfl,h⟩|exact h.elim
 |ok v w'=>
  cases v with
  |value v=>show K' ((Tn ds a).put o.dst v) w';rw[R7];exact hK _ _ h
  |skip=>show K' ((Tn ds a).put o.dst undef) w';rw[R7];exact hK _ _ h
  |defer d=>
   show K' (({ (Tn ds a) with defers:=d::(Tn ds a).defers }:Act).put o.dst undef) w';rw[show ({ (Tn ds a) with defers:=d::(Tn ds a).defers }:Act)=Tn ds { a with defers:=d::a.defers } from rfl,R7];exact hK _ _ h
  |enter f args=>
   refine⟨h.1,h.2.mono ?_⟩;intro e w'' he;cases e with
   |returned v=>show K' ((Tn ds a).put o.dst v) w'';rw[R7];exact hK _ _ he
   |panicked c=>exact⟨a,rfl,he⟩
   |outgrown=>exact An4 he
  |row row args=>
   refine⟨h.1,h.2.mono ?_⟩;intro v w'' he;show K' ((Tn ds a).put o.dst v) w'';rw[R7];exact hK _ _ he
  |round l f tmps assign body=>
   refine⟨h.1,h.2.mono ?_⟩;intro e w'' he;cases e with
   |returned v=>show K' ((Tn ds a).put o.dst v) w'';rw[R7];exact hK _ _ he
   |panicked c=>exact⟨a,rfl,he⟩
   |outgrown=>exact An4 he
  |_=>exact h.elim
theorem X8:∀(li:B5){a:Act}{w:World},wpOpsIn (WF ro) n P ops Q li a w->wpOpsIn (WF ro) n P ops (TD ds Q) li (Tn ds a) w
 |[],a,w,h=>⟨a,rfl,h⟩
 |i::li,a,w,h=>by
  rw[wpOpsIn_cons] at h ⊢;unfold wpOpIn at h ⊢;cases ho:ops[i]? with
  |none=>rw[ho] at h;exact X8 li h
  |some o=>
   rw[ho] at h;simp only at h ⊢;by_cases hw:Region.wanted o (yielded ops a.tmps)=true
   ·rw[B7 hw] at h ⊢;exact Ami (fun a w=>X8 li) h
   ·rw[Ba hw] at h ⊢;refine⟨fun _ _=>trivial,?_⟩;rw[R7];exact X8 li h.2
end
structure Agw(w w':World):Prop where
 os:w'.os=w.os
 tape:w'.tape=w.tape
 output:w'.output=w.output
 size:w'.heap.size=w.heap.size
 cell:∀a,w'.cell? a=w.cell? a
 frz:∀a,w'.frozen? a=w.frozen? a
 bs:∀b,bsz w' b=bsz w b
theorem Az.same{w w':World}{A:Nat->Prop}(h:Agw w w'){p:PV}{v:Value}(t:Az w A p v):Az w' A p v:=by
 induction t with
 |sc v=>exact .sc v
 |top v=>exact .top v
 |ub b=>exact .ub b
 |lnil z es=>exact .lnil z es
 |lemp es a cap=>exact .lemp es a cap
 |lst es n cells a cap f hs hb hA1 hn hc h1 hr ih=>exact .lst es n cells a cap f hs (by rw[h.size];exact hb) hA1 hn (fun j c hj=>by rw[h.cell];exact hc j c hj) h1 (fun j c hj=>ih j c hj)
theorem UQ.same{w w':World}{A:Nat->Prop}(h:Agw w w'){a:Addr}{c:Ab}(t:UQ w A a c):UQ w' A a c:=fun j x hj=>by
 obtain⟨v,h1,h2,h3⟩:=t j x hj;exact⟨v,by rw[h.cell];exact h1,h2,h3.same h⟩
theorem Ck.same{w w':World}{A:Nat->Prop}{β:Nat->Option (Nat × Nat)}(h:Agw w w'){p:PV}{v:Value}(t:Ck w A β p v):Ck w' A β p v:=by
 cases p with
 |view id es off n=>
  rcases t with t|⟨b,o,x,cap,h1,h2,hx,h3,h4,h5⟩
  ·exact .inl t
  ·exact .inr ⟨b,o,x,cap,h1,h2,hx,h3,by rw[h.bs];exact h4,by rw[h.size];exact h5⟩
 |ptr id off=>exact t
 |iptr c off=>
  obtain⟨a,h1,h2,h3,h4,h5⟩:=t;exact⟨a,h1,h2,by rw[h.size];exact h3,h4,h5.same h⟩
 |_=>exact Az.same h t
theorem Bw.imp'{α β:Type}{R S:α->β->Prop}{zs:List α}{bs:List β}(h:Bw R zs bs)(f:∀a b,R a b->S a b):Bw S zs bs:=h.mono f
theorem Iw.same{w w':World}{A:Nat->Prop}{β:Nat->Option (Nat × Nat)}(h:Agw w w'){p:PV}{v:Value}(t:Iw w A β p v):Iw w' A β p v:=by
 cases p with
 |agg cs=>obtain⟨vs,h1,h2⟩:=t;exact⟨vs,h1,h2.imp' fun _ _=>Ck.same h⟩
 |_=>exact (Xj (by intro cs e;cases e)).2 (Ck.same h ((Xj (by intro cs e;cases e)).1 t))
theorem Eo.same{w w':World}{A:Nat->Prop}{β:Nat->Option (Nat × Nat)}(h:Agw w w'){p:PV}{v:Value}(t:Eo w A β p v):Eo w' A β p v:=by
 cases p with
 |tup cs=>obtain⟨vs,h1,h2⟩:=t;exact⟨vs,h1,h2.imp' fun _ _=>Iw.same h⟩
 |_=>exact (Rk (by intro cs e;cases e)).2 (Iw.same h ((Rk (by intro cs e;cases e)).1 t))
theorem B9.same{N:Nat}{w0 w w':World}{X0:F6}{Y:Nat->Prop}{β:Bt}{s:St}{a:Act}(h:B9 N w0 X0 Y β s a w)(hs:Agw w w')(h0:∀b,b<w0.heap.size->w'.heap[b]?=w.heap[b]?):B9 N w0 X0 Y β s a w':=by
 refine⟨h.dfr,h.tsz,h.tmo,fun i hi=>(h.tms i hi).same hs,fun id bx e=>?_,h.inj,fun id b o h1 h2=>by rw[hs.size];exact h.blt id b o h1 h2,h.wfT,h.wfB,h.ownd,h.rngB,h.pin,h.stp,h.Yx,h.Ylt,
  ⟨hs.os.trans h.fr.os,hs.tape.trans h.fr.tape,hs.output.trans h.fr.output,⟨by rw[hs.size];exact h.fr.step.size,fun b hb hn=>(h0 b hb).trans (h.fr.step.keep b hb hn),fun b hb=>by rw[hs.bs];exact h.fr.step.bs b hb⟩,fun b j hb hn=>by rw[hs.cell,hs.frz];exact h.fr.rng b j hb hn⟩⟩
 have h1:=h.box id bx e;cases bx with
 |st c=>
  obtain⟨b,o,g1,g2,g3⟩:=h1;refine⟨b,o,g1,fun j c hj=>?_,fun j hj=>by rw[hs.frz];exact g3 j hj⟩
  obtain⟨v,k1,k2⟩:=g2 j c hj;exact⟨v,by rw[hs.cell];exact k1,k2.same hs⟩
 |ar fz c=>
  rcases h1 with h1|⟨b,o,g1,g2,g3,g4⟩
  ·exact .inl h1
  ·exact .inr ⟨b,o,g1,g2.same hs,fun hf j hj hjb=>by rw[hs.frz];exact g3 hf j hj (by rw[<-hs.bs];exact hjb),g4⟩
 |mv=>trivial
theorem LY{w:World}{D:Nat}{x y:Option (List Deferred)}(h:w.heap[D]?=some (.deferred x)):Agw w (w.putObj D (.deferred y)):=by
 have hD:D<w.heap.size:=(Array.getElem?_eq_some_iff.1 h).1;have hs:(w.putObj D (.deferred y)).heap[D]?=some (.deferred y):=World.putObj_heap_same hD;refine⟨rfl,rfl,rfl,by simp,fun a=>?_,fun a=>?_,fun b=>?_⟩
 ·by_cases e:a.block=D
  ·unfold World.cell?;rw[e,hs,h]
  ·exact World.cell?_of_block (World.putObj_heap_other e)
 ·by_cases e:a.block=D
  ·unfold World.frozen?;rw[e,hs,h]
  ·unfold World.frozen?;rw[World.putObj_heap_other e]
 ·by_cases e:b=D
  ·subst e;unfold bsz;rw[hs,h]
  ·unfold bsz;rw[World.putObj_heap_other e]
end
section
variable {xs:FuncId->Option (Ab->Option Dl)}(fu d:Nat)(call:Bi)
theorem Zb(Z:Int):F1 C0 fu d 54 [Z] fun call=>Bd (decide (Z>=0)) (Bv [.sc (.bool (decide (Z<=4)))]) (Bv [.sc (.bool false)]):=by show _=_;kernel_rfl
def H5(Z:Int)(Y:Nat)(X:Int)(W:Nat)(V U:Int)(T:Ab):Option Dl:=Lu fu call 100 Tryz.f100 [Ac Z] [.r,.r,.r,.l,.r,.l] Y ⟨lk [(0,Ac X),(3,.view 3 1 0 W),(4,V),(5,U)],Bq [(3,.ar false T)]⟩
theorem Nh(U:Int)(T:Nat)(V:Int)(Z:Nat)(Y X:Int)(W:Ab):H5 fu call U (T+1) V Z Y X W=(Bd (decide (X>=0)) (Aa (wrap .i64 (4*X)) fun a=>Aa (wrap .u64 a) fun a=>At (decide (0<=a))<|Aa (Ff .u64 V a) fun a=>Aa (Tp .u64 a 15) fun a=>Aa (wrap .i64 a) fun a=>Ve Z 1 8 W [a] fun b c=>Aa (wrap .i64 (15-a)) fun a=>Aa (wrap .i64 (Y+a)) fun a=>Aa (wrap .i64 (X-1)) fun e=>H5 fu call U T V b a e c) (Aa (wrap .i64 (Int.tdiv Y 16)) fun a=>Aa (Int.tmod Y 16) fun b=>At (decide (Z*1<=W.length)&&true&&decide ((Z+2)*8<=1099511627776)&&decide (Z+2<=1099511627776))<|Aa (Z+2) fun c=>Aa (List.take (Z*1) W++[Ao a,Ao b]) fun a=>At (decide (c*1<=a.length))<|Bv [.own 1 c (a.take (c*1))])):=by kernel_rfl
theorem BN(Z:Int):F1 C0 fu d 100 [Ac Z] fun call=>H5 fu call Z fu Z 0 0 15 ([]):=by show _=_;kernel_rfl
def Ja(Z Y:Int)(X W V:Int)(U:Nat)(T S:Int)(Q P O:Int):Option Dl:=Lu fu call 101 Tryz.f101 [Z,Y,X,W,Ac V] [.r,.l,.r,.l] U ⟨lk [(0,T),(1,S),(3,Q),(4,Ac P),(11,O)],Bq []⟩
theorem Qg(U T:Int)(S Q P:Int)(O:Nat)(X W:Int)(Z V Y:Int):Ja fu call U T S Q P (O+1) X W Z V Y=(Aa (if 15<Z then 15 else Z) fun a=>Bd (decide (Y<a)) (Aa (wrap .u64 X) fun a=>Aa (wrap .u64 W) fun b=>Aa (wrap .u64 Y) fun c=>Eb (call 79 [Ai 1 4 [Ac a,Ac b,Ac c,Ac V]]) fun a b=>Kn 1 a fun a c=>Aq b<|At (decide (0+a*1<=c.length))<|J1 .u64 (call 33 [(1:Int),Ai 1 a (List.take (a*1) (c.drop 0))]) fun a=>Aa (wrap .i64 (Y+1)) fun b=>Ja fu call U T S Q P O X W Z a b) (Bv [Ac V])):=by kernel_rfl
theorem GT(Y X:Int)(Z W V:Int):F1 C0 fu d 101 [Y,X,Z,W,Ac V] fun call=>Aa (if Z<0 then 0 else Z) fun a=>Ja fu call Y X Z W V fu Y X W V a:=by show _=_;kernel_rfl
theorem Zv(Z Y X:Int):F1 C0 fu d 102 [Ac Z,Y,X] fun call=>Aa (wrap .u64 Y) fun a=>Aa (wrap .u64 X) fun b=>Eb (call 79 [Ai 1 2 [Ac a,Ac b]]) fun a b=>Kn 1 a fun a c=>Aq b<|At (decide (0+a*1<=c.length))<|J1 .u64 (call 85 [Ac Z,(1:Int),Ai 1 a (List.take (a*1) (c.drop 0))]) fun a=>Bv [Ac a]:=by show _=_;kernel_rfl
theorem EQ(Z:Int)(Y:Nat)(X:Ab):F1 C0 fu d 116 [Z,Ai 1 Y X] fun call=>Aa (wrap .u64 Z) fun a=>Eb (call 79 [Ai 1 1 [Ac a]]) fun a b=>Kn 1 a fun a c=>Aq b<|Eb (call 79 [Ai 1 Y X]) fun b e=>Kn 1 b fun b f=>Aq e<|At (decide (0+b*1<=f.length))<|At (decide (a*1<=c.length)&&decide (List.length (List.take (b*1) (f.drop 0))=b*1)&&decide ((a+b)*1<=1099511627776)&&decide (a+b<=1099511627776))<|Aa (a+b) fun e=>Aa (List.take (a*1) c++List.take (b*1) (f.drop 0)) fun a=>At (decide (0+e*1<=a.length))<|J1 .u64 (call 33 [(2:Int),Ai 1 e (List.take (e*1) (a.drop 0))]) fun a=>Bv [Ac a]:=by show _=_;kernel_rfl
def Il(Z Y:Int)(X:Nat)(W V:Int)(U:Nat)(T:Int)(S:Ab):Option Dl:=Lu fu call 94 Tryz.f94 [Ac Z,Y] [.r,.r,.l,.r,.l] X ⟨lk [(0,Ac W),(1,V),(5,.view 5 1 0 U),(6,T)],Bq [(5,.ar false S)]⟩
theorem Ov(U T:Int)(S:Nat)(V Z:Int)(Y:Nat)(X:Int)(W:Ab):Il fu call U T (S+1) V Z Y X W=(Bd (decide (X<18)) (J1 .u64 (call 102 [Ac V,Z,X]) fun a=>J1 .u64 (call 101 [Z,X,(0:Int),(15:Int),Ac a]) fun a=>Ve Y 1 8 W [Ac a] fun a b=>Aa (wrap .i64 (X+1)) fun c=>Il fu call U T S V Z a c b) (At (decide (0+Y*1<=W.length))<|J1 .u64 (call 116 [Z,Ai 1 Y (List.take (Y*1) (W.drop 0))]) fun a=>Bv [Ac a])):=by kernel_rfl
theorem DX(Z Y:Int):F1 C0 fu d 94 [Ac Z,Y] fun call=>Il fu call Z Y fu Z Y 0 0 ([]):=by show _=_;kernel_rfl
def Gs(Z Y X:Int)(W:Nat)(V U:Int)(T S:Nat)(Q:Int)(P O:Ab):Option Dl:=Lu fu call 60 Tryz.f60 [Ac Z,Y,Ac X] [.r,.r,.r,.l,.r,.l] W ⟨lk [(0,Ac V),(1,U),(7,.view 7 1 0 T),(8,.view 8 1 0 S),(9,Q)],Bq [(7,.ar false P),(8,.ar false O)]⟩
theorem K9(S Q P:Int)(O:Nat)(V X:Int)(U Y:Nat)(Z:Int)(T W:Ab):Gs fu call S Q P (O+1) V X U Y Z T W=(Bd (decide (Z<18)) (At (decide (0<=Z)&&decide (Z<(↑U:Int)))<|A8 .i64 (T.getD (0+Z.toNat*1) .top) fun a=>J1 .u64 (call 102 [Ac V,X,Z]) fun b=>J1 .u64 (call 101 [X,Z,(0:Int),a,Ac b]) fun a=>Ve Y 1 8 W [Ac a] fun a b=>Aa (wrap .i64 (Z+1)) fun c=>Gs fu call S Q P O V X U a c T b) (At (decide (Y*1<=W.length))<|Bv [.own 1 Y (W.take (Y*1))])):=by kernel_rfl
theorem Xf(Z Y X:Int):F1 C0 fu d 60 [Ac Z,Y,Ac X] fun call=>Eb (call 100 [Ac X]) fun a b=>Kn 1 a fun a c=>Aq b<|Gs fu call Z Y X fu Z Y a 0 0 c ([]):=by show _=_;kernel_rfl
def Gz(Z Y:Int)(X:Nat)(W:Ab)(V:Nat)(U:Int)(T:Nat)(S:Ab)(Q P:Nat)(O:Int)(N M:Ab):Option Dl:=Lu fu call 77 Tryz.f77 [Z,Ac Y,Ai 1 X W] [.r,.r,.r,.r,.l,.r,.l] V ⟨lk [(0,U),(2,Ai 1 T S),(8,.view 8 1 0 Q),(9,.view 9 1 0 P),(10,O)],Bq [(8,.ar false N),(9,.ar false M)]⟩
theorem Lr(Q P:Int)(O:Nat)(N:Ab)(M:Nat)(X:Int)(V:Nat)(U:Ab)(T Y:Nat)(Z:Int)(S W:Ab):Gz fu call Q P O N (M+1) X V U T Y Z S W=(Bd (decide (Z<18)) (At (decide (0<=Z)&&decide (Z<(↑T:Int)))<|A8 .i64 (S.getD (0+Z.toNat*1) .top) fun a=>At (decide (0<=Z)&&decide (Z<(↑V:Int)))<|A8 .u64 (U.getD (Z.toNat*1) .top) fun b=>J1 .u64 (call 101 [X,Z,a,(15:Int),Ac b]) fun a=>Ve Y 1 8 W [Ac a] fun a b=>Aa (wrap .i64 (Z+1)) fun c=>Gz fu call Q P O N M X V U T a c S b) (At (decide (0+Y*1<=W.length))<|J1 .u64 (call 116 [X,Ai 1 Y (List.take (Y*1) (W.drop 0))]) fun a=>Bv [Ac a,(0:Int)])):=by kernel_rfl
theorem Ys(Y X:Int)(Z:Nat)(W:Ab):F1 C0 fu d 77 [Y,Ac X,Ai 1 Z W] fun call=>Bd ((↑Z:Int) != 18) (Bv [Ac 0,(4:Int)]) (Eb (call 100 [Ac X]) fun a b=>Kn 1 a fun a c=>Aq b<|Gz fu call Y X Z W fu Y Z W a 0 0 c ([])):=by show _=_;kernel_rfl
theorem AG(Z Y X:Int):F1 C0 fu d 78 [Z,Ac Y,Ac X] fun call=>Aa (wrap .u64 Z) fun a=>Eb (call 79 [Ai 1 3 [Ac a,Ac Y,Ac X]]) fun a b=>Kn 1 a fun a c=>Aq b<|At (decide (0+a*1<=c.length))<|J1 .u64 (call 33 [(3:Int),Ai 1 a (List.take (a*1) (c.drop 0))]) fun a=>Bv [Ac a]:=by show _=_;kernel_rfl
theorem Sh(Y Z X:Int):F1 C0 fu d 55 [Ac Y,Z,X] fun call=>Bd (Z==0) (J1 .u64 (call 94 [Ac Y,X]) fun a=>Bv [Ac a]) (Aa (wrap .i64 (Z-1)) fun a=>Aa (wrap .i64 (2*X)) fun b=>J1 .u64 (call 55 [Ac Y,a,b]) fun a=>Aa (wrap .i64 (Z-1)) fun b=>Aa (wrap .i64 (2*X)) fun c=>Aa (wrap .i64 (c+1)) fun c=>J1 .u64 (call 55 [Ac Y,b,c]) fun b=>J1 .u64 (call 78 [Z,Ac a,Ac b]) fun a=>Bv [Ac a]):=by show _=_;kernel_rfl
theorem Zf(Y Z:Int):F1 C0 fu d 30 [Ac Y,Z] fun call=>Eb (call 54 [Z]) fun a b=>Co a fun a=>Aq b<|Bd (!a) (Bv [.agg [(0:Int),Ac 0],(9:Int)]) (J1 .u64 (call 55 [Ac Y,Z,(0:Int)]) fun a=>Bv [.agg [Z,Ac a],(0:Int)]):=by show _=_;kernel_rfl
def Ik(Z Y:Int)(X W:Int)(V:Nat)(U T:Int)(S Q P:Int)(O N:Nat)(M L:Ab)(K:Int)(J I:Nat)(H G:Ab):Option Dl:=Lu fu call 32 Tryz.f32 [Ac Z,Y,X,Ac W] [.r,.r,.r,.l,.r,.l] V ⟨lk [(0,Ac U),(1,T),(2,S),(8,.ptr 8 0),(10,.ptr 10 0),(11,Q)],Bq [(8,.st [P,.view 112 1 0 O,.view 164 1 0 N]),(112,.ar false M),(164,.ar false L),(10,.st [K,.view 114 1 0 J,.view 166 1 0 I]),(114,.ar false H),(166,.ar false G)]⟩
theorem Oi(P O:Int)(N M:Int)(L:Nat)(U T:Int)(S Z K:Int)(J I:Nat)(H G:Ab)(Q:Int)(Y X:Nat)(W V:Ab):Ik fu call P O N M (L+1) U T S Z K J I H G Q Y X W V=(Bd (decide (Z<T)) (Aa (wrap .u64 Z) fun a=>At (decide (0<=a))<|Aa (Ff .i64 S a) fun a=>Aa (E6 .i64 a 1) fun a=>J1 .u64 (call 55 [Ac U,Z,a]) fun a=>Ve X 1 8 V [Ac a] fun a b=>Aa (wrap .i64 (Z+1)) fun c=>Ik fu call P O N M L U T S c K J I H G Q Y a W b) (At (decide (Y*1<=W.length))<|At (decide (X*1<=V.length))<|Bv [.agg [Q,.own 1 Y (W.take (Y*1)),.own 1 X (V.take (X*1))],(0:Int)])):=by kernel_rfl
theorem ES(X Y:Int)(Z W:Int):F1 C0 fu d 32 [Ac X,Y,Z,Ac W] fun call=>Eb (call 54 [Y]) fun a b=>Co a fun a=>Aq b<|Bd (!a) (Bv [.agg [(0:Int),.own 1 0 [],.own 1 0 []],(9:Int)]) (Bd (decide (Z<0)) (Bv [.agg [(0:Int),.own 1 0 [],.own 1 0 []],(9:Int)]) (Aa (wrap .u64 Y) fun a=>At (decide (0<=a))<|Aa (Iy .i64 1 a) fun a=>Bd (decide (Z>=a)) (Bv [.agg [(0:Int),.own 1 0 [],.own 1 0 []],(9:Int)]) (Eb (call 60 [Ac X,Z,Ac W]) fun a b=>Kn 1 a fun a c=>Aq b<|Ik fu call X Y Z W fu X Y Z 0 0 0 0 ([]) ([]) Z a 0 c ([])))):=by show _=_;kernel_rfl
def Fy(Z Y:Int)(X W:Int)(V:Nat)(U:Ab)(T:Nat)(S:Ab)(Q:Nat)(P O:Int)(N M L:Int)(K:Nat)(J:Ab)(I:Nat)(H:Ab):Option Dl:=Lu fu call 41 Tryz.f41 [.agg [Z,Ac Y],Ac X,.agg [W,Ai 1 V U,Ai 1 T S]] [.r,.r,.r,.r,.l,.r,.l] Q ⟨lk [(3,.ptr 3 0),(5,.ptr 5 0),(7,Ac P),(9,O)],Bq [(3,.st [N,Ac M]),(5,.st [L,Ai 1 K J,Ai 1 I H])]⟩
theorem Ms(S Q:Int)(P O:Int)(N:Nat)(M:Ab)(L:Nat)(K:Ab)(J:Nat)(W Z:Int)(V U T:Int)(I:Nat)(H:Ab)(Y:Nat)(X:Ab):Fy fu call S Q P O N M L K (J+1) W Z V U T I H Y X=(Bd (decide (Z<V)) (Aa (wrap .u64 Z) fun a=>At (decide (0<=a))<|Aa (Ff .i64 T a) fun a=>Aa (Tp .i64 a 1) fun a=>Bd (a==0) (Aa (wrap .i64 (Z+1)) fun a=>At (decide (0<=Z)&&decide (Z<(↑Y:Int)))<|A8 .u64 (X.getD (Z.toNat*1) .top) fun b=>J1 .u64 (call 78 [a,Ac W,Ac b]) fun a=>Aa (wrap .i64 (Z+1)) fun b=>Fy fu call S Q P O N M L K J a b V U T I H Y X) (Aa (wrap .i64 (Z+1)) fun a=>At (decide (0<=Z)&&decide (Z<(↑Y:Int)))<|A8 .u64 (X.getD (Z.toNat*1) .top) fun b=>J1 .u64 (call 78 [a,Ac b,Ac W]) fun a=>Aa (wrap .i64 (Z+1)) fun b=>Fy fu call S Q P O N M L K J a b V U T I H Y X)) (Bd (W != U) (Bv [(15:Int)]) (Bv [(0:Int)]))):=by kernel_rfl
theorem Zr(Z U:Int)(T Y:Int)(X:Nat)(W:Ab)(V:Nat)(S:Ab):F1 C0 fu d 41 [.agg [Z,Ac U],Ac T,.agg [Y,Ai 1 X W,Ai 1 V S]] fun call=>Eb (call 54 [Z]) fun a b=>Co a fun a=>Aq b<|Bd (!a) (Bv [(9:Int)]) (Bd (decide (Y<0)) (Bv [(9:Int)]) (Aa (wrap .u64 Z) fun a=>At (decide (0<=a))<|Aa (Iy .i64 1 a) fun a=>Bd (decide (Y>=a)) (Bv [(9:Int)]) (Bd ((↑X:Int) != 18) (Bv [(4:Int)]) (Bd ((↑V:Int) != Z) (Bv [(4:Int)]) (Eb (call 77 [Y,Ac T,Ai 1 X W]) fun a b=>A8 .u64 a fun a=>D1 .i64 b fun b=>Fy fu call Z U T Y X W V S fu a 0 Z U Y X W V S))))):=by show _=_;kernel_rfl
theorem Vo(Z Y:Int):F1 C0 fu d 96 [.agg [Z,Ac Y]] fun call=>Eb (call 54 [Z]) fun a b=>Co a fun a=>Aq b<|Bd (!a) (Bv [.own 1 0 [],(9:Int)]) (Aa (wrap .u8 Z) fun a=>Eb (call 79 [Ai 1 1 [Ac Y]]) fun b c=>Kn 1 b fun b e=>Aq c<|At (decide (0+b*1<=e.length))<|At (decide (List.length (List.take (b*1) (e.drop 0))=b*1)&&decide ((1+b)*1<=1099511627776)&&decide (1+b<=1099511627776))<|Aa (1+b) fun c=>Aa ([.sc (.int .u8 a)]++List.take (b*1) (e.drop 0)) fun a=>At (decide (c*1<=a.length))<|Bv [.own 1 c (a.take (c*1)),(0:Int)]):=by show _=_;kernel_rfl
def F8(Z:Nat)(Y:Ab)(X:Nat)(W:Ab)(V U:Nat)(T:Ab)(S:Nat)(Q:Ab)(P:Int):Option Dl:=Lu fu call 74 Tryz.f74 [Ai 1 Z Y,Ai 1 X W] [.r,.r,.l,.r,.l] V ⟨lk [(0,Ai 1 U T),(1,Ai 1 S Q),(5,P)],Bq []⟩
theorem Ke(U:Nat)(T:Ab)(S:Nat)(Q:Ab)(P Y:Nat)(X:Ab)(W:Nat)(V:Ab)(Z:Int):F8 fu call U T S Q (P+1) Y X W V Z=(Bd (decide (Z<(↑Y:Int))) (At (decide (0<=Z)&&decide (Z<(↑Y:Int)))<|A8 .u64 (X.getD (Z.toNat*1) .top) fun a=>At (decide (0<=Z)&&decide (Z<(↑W:Int)))<|A8 .u64 (V.getD (Z.toNat*1) .top) fun b=>Bd (a != b) (Bv [.sc (.bool false)]) (Aa (wrap .i64 (Z+1)) fun a=>F8 fu call U T S Q P Y X W V a)) (Bv [.sc (.bool true)])):=by kernel_rfl
theorem Vt(Z:Nat)(X:Ab)(Y:Nat)(W:Ab):F1 C0 fu d 74 [Ai 1 Z X,Ai 1 Y W] fun call=>Bd ((↑Z:Int) != (↑Y:Int)) (Bv [.sc (.bool false)]) (F8 fu call Z X Y W fu Z X Y W 0):=by show _=_;kernel_rfl
theorem Rj(Z:Int)(Y:Nat)(X:Ab)(W:Nat)(V:Ab)(U:Int)(T:Nat)(S:Ab)(Q:Nat)(P:Ab):F1 C0 fu d 39 [.agg [Z,Ai 1 Y X,Ai 1 W V],.agg [U,Ai 1 T S,Ai 1 Q P]] fun call=>Bd (Z==U) (Eb (call 74 [Ai 1 Y X,Ai 1 T S]) fun a b=>Co a fun a=>Aq b<|Bd a (Eb (call 74 [Ai 1 W V,Ai 1 Q P]) fun a b=>Co a fun a=>Aq b<|Bv [.sc (.bool a)]) (Bv [.sc (.bool false)])) (Bv [.sc (.bool false)]):=by show _=_;kernel_rfl
end
theorem Tf{α:Type}(f:Nat->α)(i:Nat):(List.range (i+1)).map f=(List.range i).map f++[f i]:=by rw[List.range_succ,List.map_append];rfl
section
variable {fu d:Nat}
theorem Xt(h:Int):Ap C0 prog fu (d+1) 54 [Ao h]=some ⟨[.sc (.bool (!D6 h))],[]⟩:=by
 rw[Zb];unfold D6;by_cases h0:h<0
 ·simp(disch:=omega)only[B4,B3,h0,decide_true,Bool.true_or,Dx]
 ·have e:decide (h<=4) = !decide (h>4):=by
   by_cases c:h<=4
   ·have:¬h>4:=by omega
    simp[c,this]
   ·have:h>4:=by omega
    simp[c,this]
  simp(disch:=omega)only[B4,B3,h0,decide_false,Bool.false_or,e]
theorem Agb{ws:Cg}(hl:ws.length<=100)(Bo:1000<=fu)(dom:Int):Ap C0 prog fu (d+4) 33 [Ao dom,.lst false 1 (A9 ws).length (Ad .u8 (A9 ws))]=some ⟨[Ac (P8 dom (A9 ws))],[]⟩:=
 QB (xs:=Nz) (Wr ws) (by rw[D9];omega) (by omega) (by rw[D9];omega) dom
theorem LP{call:Bi}{a0 m:Int}:∀(k nn:Nat)(i:Nat),i+k=16->k<nn ->
  H5 fu call a0 nn m ((List.range i).map (Ie m)).length (Mh m i) (15-(i:Int)) (Ad .i64 ((List.range i).map (Ie m)))=some ⟨[.own 1 18 (Ad .i64 (UJ m))],[]⟩
 |_,0,_,_,h=>by omega
 |0,nn+1,i,hi,hn=>by
  have e:i=16:=by omega
  subst e;have hs:=M1 m 16
  have wq:wrap .i64 (Int.tdiv (Mh m 16) 16)=Mh m 16 / 16:=by
   rw[Int.tdiv_eq_ediv_of_nonneg (by omega),Ah (by omega) (by omega)]
  have wm:Int.tmod (Mh m 16) 16=Mh m 16 % 16:=Int.tmod_eq_emod_of_nonneg (by omega)
  have e2:Ad .i64 ((List.range 16).map (Ie m))++[PV.sc (.int .i64 (Mh m 16 / 16)),PV.sc (.int .i64 (Mh m 16 % 16))]=Ad .i64 (UJ m):=by
   unfold UJ;rw[Ad,Ad,List.flatMap_append];rfl
  have L:(Ad .i64 (UJ m)).length=18:=by rw[Am,Ajp]
  have tk:List.take 18 (Ad .i64 (UJ m))=Ad .i64 (UJ m):=I9 (by omega);have l16:((List.range 16).map (Ie m)).length=16:=by simp
  have L16:=Am .i64 ((List.range 16).map (Ie m));have t16:=Ob .i64 ((List.range 16).map (Ie m));rw[l16] at L16 t16 ⊢;rw[Nh,D0 _ _ _ (by omega)];simp(disch:=omega)only[B4,B3,wq,wm,Ec,t16,e2,L16,Nat.reduceAdd,L,tk]
 |k+1,nn+1,i,hi,hn=>by
  have ih:=LP (call:=call) (a0:=a0) (m:=m) k nn (i+1) (by omega) (by omega);have hb:=T0 m i;have hs:=M1 m i;have w1:wrap .i64 (4*(15-(i:Int)))=60-4*(i:Int):=by rw[Ah (by omega) (by omega)];omega
  have w2:wrap .u64 (60-4*(i:Int))=60-4*(i:Int):=Cm (by omega) (by omega);have hd:wrap .i64 (Tp .u64 (Ff .u64 m (60-4*(i:Int))) 15)=Ie m i:=rfl;have w15:wrap .i64 (15-Ie m i)=15-Ie m i:=Ah (by omega) (by omega);have ws:wrap .i64 (Mh m i+(15-Ie m i))=Mh m (i+1):=by rw[Ah (by omega) (by omega)];rfl
  have wi:wrap .i64 (15-(i:Int)-1)=15-((i+1:Nat):Int):=by rw[Ah (by omega) (by omega)];omega
  have L:=Am .i64 ((List.range i).map (Ie m));have l16:((List.range i).map (Ie m)).length=i:=by simp
  rw[Tf,G8,List.length_singleton,<-Hi] at ih;rw[Nh];simp(disch:=omega)only[B4,B3,w1,w2,hd,w15,ws,wi,Ec,Ob,L];exact ih
theorem XQ(Bo:1000<=fu)(m:Int):Ap C0 prog fu (d+1) 100 [Ac m]=some ⟨[.own 1 18 (Ad .i64 (UJ m))],[]⟩:=by rw[BN];exact LP (fu:=fu) (a0:=m) (m:=m) 16 fu 0 (by omega) (by omega)
theorem WI{leaf chain:Int}{a0 a1 a2 a3 a4:Int}(Bo:1000<=fu){t:Int}(ht:t<=15):∀(k nn:Nat)(p x:Int),(k:Int)=t-p->0<=p->k<nn ->
  Ja fu (Ap C0 prog fu (d+4)) a0 a1 a2 a3 a4 nn leaf chain t x p=some ⟨[Ac (Tr leaf chain k p x)],[]⟩
 |_,0,_,_,_,_,h=>by omega
 |0,nn+1,p,x,hk,hp,hn=>by
  rw[Qg];simp only[Je];rw[Ba (by omega),D0 _ _ _ (by omega)];rfl
 |k+1,nn+1,p,x,hk,hp,hn=>by
  have w:wrap .i64 (p+1)=p+1:=Ah (by omega) (by omega);have wd:Ap C0 prog fu (d+4) 79 [.lst false 1 4 [Ac (wrap .u64 leaf),Ac (wrap .u64 chain),Ac (wrap .u64 p),Ac x]]=_:=Vn (xs:=Nz) (ws:=[wrap .u64 leaf,wrap .u64 chain,wrap .u64 p,x]) (by simp) (by omega) (by simp;omega)
  have hs:=Agb (fu:=fu) (d:=d) (ws:=[wrap .u64 leaf,wrap .u64 chain,wrap .u64 p,x]) (by simp) Bo 1;have ih:=WI (leaf:=leaf) (chain:=chain) (a0:=a0) (a1:=a1) (a2:=a2) (a3:=a3) (a4:=a4) Bo ht k nn (p+1) (P8 1 (A9 [wrap .u64 leaf,wrap .u64 chain,wrap .u64 p,x])) (by omega) (by omega) (by omega);have L:=Am .u8 (A9 [wrap .u64 leaf,wrap .u64 chain,wrap .u64 p,x]);have eR:Tr leaf chain (k+1) p x=Tr leaf chain k (p+1) (P8 1 (A9 [wrap .u64 leaf,wrap .u64 chain,wrap .u64 p,x])):=rfl;rw[eR];generalize A9 [wrap .u64 leaf,wrap .u64 chain,wrap .u64 p,x]=W at wd hs ih L ⊢;have e15:(if (15:Int)<t then 15 else t)=t:=Ba (by omega);rw[Qg]
  simp(disch:=omega)only[B4,B3,e15,wd,Ec,Cu,Fi,Ob,L,hs,w];exact ih
theorem Aav{leaf chain:Int}(Bo:1000<=fu)(k:Nat)(f t x:Int)(hk:(k:Int)=t-f)(h0:0<=f)(h1:t<=15):Ap C0 prog fu (d+5) 101 [Ao leaf,Ao chain,Ao f,Ao t,Ac x]=some ⟨[Ac (Tr leaf chain k f x)],[]⟩:=by rw[GT];simp only[Je];rw[Ba (by omega)];exact WI Bo h1 k fu f x hk h0 (by omega)
theorem PP(Bo:1000<=fu)(seed leaf chain:Int):Ap C0 prog fu (d+5) 102 [Ac seed,Ao leaf,Ao chain]=some ⟨[Ac (JS seed leaf chain)],[]⟩:=by
 have wd:Ap C0 prog fu (d+4) 79 [.lst false 1 2 [Ac (wrap .u64 leaf),Ac (wrap .u64 chain)]]=_:=Vn (xs:=Nz) (ws:=[wrap .u64 leaf,wrap .u64 chain]) (by simp) (by omega) (by simp;omega)
 have hs:=Atc (xs:=Nz) (fu:=fu) (d:=d) (Wr [wrap .u64 leaf,wrap .u64 chain]) (by rw[D9];simp) (by omega) (by rw[D9];simp;omega) seed 1
 have L:=Am .u8 (A9 [wrap .u64 leaf,wrap .u64 chain]);rw[Zv];unfold JS;generalize A9 [wrap .u64 leaf,wrap .u64 chain]=W at wd hs L ⊢;simp(disch:=omega)only[B4,B3,wd,Ec,Cu,Fi,Ob,L,hs]
theorem Axp(Bo:1000<=fu)(w:Int):Ap C0 prog fu (d+1) 79 [.lst false 1 1 [Ac w]]=some ⟨[.own 1 8 (Ad .u8 (Ew w))],[]⟩:=by
 have:=Vn (xs:=Nz) (fu:=fu) (d:=d) (ws:=[w]) (by simp) (by omega) (by simp;omega)
 simp only[A9,J7,List.flatMap_nil,List.append_nil,G9,Vl,Gp] at this;exact this
theorem Adq(Bo:1000<=fu)(leaf:Int){E:Cg}(hE:E.length<=50):Ap C0 prog fu (d+5) 116 [Ao leaf,.lst false 1 E.length (Ad .u64 E)]=some ⟨[Ac (CQ leaf E)],[]⟩:=by
 have w1:=Axp (fu:=fu) (d:=d+3) Bo (wrap .u64 leaf);have w2:=Vn (xs:=Nz) (fu:=fu) (d:=d+3) (ws:=E) (by omega) (by omega) (by omega);have hs:=Agb (fu:=fu) (d:=d) (ws:=wrap .u64 leaf::E) (by simp;omega) Bo 2
 have eW:A9 (wrap .u64 leaf::E)=Ew (wrap .u64 leaf)++A9 E:=rfl
 have eC:Ad .u8 (Ew (wrap .u64 leaf))++Ad .u8 (A9 E)=Ad .u8 (A9 (wrap .u64 leaf::E)):=by
  rw[eW,Ad,Ad,Ad,List.flatMap_append]
 have l0:(Ew (wrap .u64 leaf)).length=8:=Gp _;have l1:=D9 E;have l2:(A9 (wrap .u64 leaf::E)).length=8+(A9 E).length:=by rw[eW,G8,l0]
 have L0:=Am .u8 (Ew (wrap .u64 leaf));rw[l0] at L0;have L1:=Am .u8 (A9 E);have L2:=Am .u8 (A9 (wrap .u64 leaf::E));have t8:List.take 8 (Ad .u8 (Ew (wrap .u64 leaf)))=Ad .u8 (Ew (wrap .u64 leaf)):=I9 (by omega);have tW:List.take (8+(A9 E).length) (Ad .u8 (A9 (wrap .u64 leaf::E)))=Ad .u8 (A9 (wrap .u64 leaf::E)):=I9 (by omega);rw[l2] at hs;rw[EQ];simp(disch:=omega)only[B4,B3,w1,w2,Ec,Cu,Fi,Ob,t8,L0,L1,eC,L2,tW,hs];rfl
theorem SE{a0 a1 seed leaf:Int}(Bo:1000<=fu):∀(k nn i:Nat),i+k=18->k<nn ->
  Il fu (Ap C0 prog fu (d+5)) a0 a1 nn seed leaf ((List.range i).map (CC seed leaf)).length i (Ad .u64 ((List.range i).map (CC seed leaf)))=some ⟨[Ac (Kd seed leaf)],[]⟩
 |_,0,_,_,h=>by omega
 |0,nn+1,i,hi,hn=>by
  have e:i=18:=by omega
  subst e;have l18:((List.range 18).map (CC seed leaf)).length=18:=by simp
  have en:=Adq (fu:=fu) (d:=d) Bo leaf (E:=(List.range 18).map (CC seed leaf)) (by omega);have L:=Am .u64 ((List.range 18).map (CC seed leaf));rw[Ov,D0 _ _ _ (by omega)];simp(disch:=omega)only[B4,B3,Ec,Cu,Fi,Ob,L,en];rfl
 |k+1,nn+1,i,hi,hn=>by
  have ih:=SE (a0:=a0) (a1:=a1) (seed:=seed) (leaf:=leaf) Bo k nn (i+1) (by omega) (by omega);have sc:=PP (fu:=fu) (d:=d) Bo seed leaf i;have rn:=Aav (fu:=fu) (d:=d) (leaf:=leaf) (chain:=i) Bo 15 0 15 (JS seed leaf i) (by omega) (by omega) (by omega);have w:wrap .i64 ((i:Int)+1)=((i+1:Nat):Int):=by rw[Ah (by omega) (by omega)];omega
  have L:=Am .u64 ((List.range i).map (CC seed leaf));have li:((List.range i).map (CC seed leaf)).length=i:=by simp
  rw[Tf,G8,List.length_singleton,<-Hi] at ih;rw[Ov];simp(disch:=omega)only[B4,B3,sc,rn,Ec,Ob,L,w];exact ih
theorem Aqn(Bo:1000<=fu)(seed leaf:Int):Ap C0 prog fu (d+6) 94 [Ac seed,Ao leaf]=some ⟨[Ac (Kd seed leaf)],[]⟩:=by rw[DX];exact SE (fu:=fu) (d:=d) Bo 18 fu 0 (by omega) (by omega)
theorem Awe(m:Int){i:Nat}(h:i<18):(UJ m)[i]?=some (dg m i):=by
 unfold dg;rw[List.getD_eq_getElem?_getD,List.getElem?_eq_getElem (by rw[Ajp];omega)]
 rfl
theorem AN{a0 a1 a2 seed leaf m:Int}(Bo:1000<=fu):∀(k nn i:Nat),i+k=18->k<nn ->
  Gs fu (Ap C0 prog fu (d+5)) a0 a1 a2 nn seed leaf 18 ((List.range i).map (Y3 seed leaf m)).length i (Ad .i64 (UJ m)) (Ad .u64 ((List.range i).map (Y3 seed leaf m)))=some ⟨[.own 1 18 (Ad .u64 (Ls seed leaf m))],[]⟩
 |_,0,_,_,h=>by omega
 |0,nn+1,i,hi,hn=>by
  have e:i=18:=by omega
  subst e;have l18:((List.range 18).map (Y3 seed leaf m)).length=18:=by simp
  have L:=Am .u64 ((List.range 18).map (Y3 seed leaf m));rw[K9,D0 _ _ _ (by omega)];simp(disch:=omega)only[B4,B3,Ec,Ob,L];rw[l18];rfl
 |k+1,nn+1,i,hi,hn=>by
  have ih:=AN (a0:=a0) (a1:=a1) (a2:=a2) (seed:=seed) (leaf:=leaf) (m:=m) Bo k nn (i+1) (by omega) (by omega);have hb:=Wi m i;have sc:=PP (fu:=fu) (d:=d) Bo seed leaf i;have rn:=Aav (fu:=fu) (d:=d) (leaf:=leaf) (chain:=i) Bo (dg m i).toNat 0 (dg m i) (JS seed leaf i) (by omega) (by omega) (by omega);have w:wrap .i64 ((i:Int)+1)=((i+1:Nat):Int):=by rw[Ah (by omega) (by omega)];omega
  have L:=Am .u64 ((List.range i).map (Y3 seed leaf m));have li:((List.range i).map (Y3 seed leaf m)).length=i:=by simp
  rw[Tf,G8,List.length_singleton,<-Hi] at ih;rw[K9];simp(disch:=omega)only[B4,B3,Ij,Ec,Cu,Z5 (Awe m (show i<18 by omega)),sc,rn,Ob,L,w];exact ih
theorem YN(Bo:1000<=fu)(seed leaf m:Int):Ap C0 prog fu (d+6) 60 [Ac seed,Ao leaf,Ac m]=some ⟨[.own 1 18 (Ad .u64 (Ls seed leaf m))],[]⟩:=by rw[Xf];have sp:=XQ (fu:=fu) (d:=d+4) Bo m;simp only[B4,B3,sp];exact AN (fu:=fu) (d:=d) Bo 18 fu 0 (by omega) (by omega)
theorem CZ{a0 a1:Int}{n:Nat}{c:Ab}{leaf m:Int}{s:Cg}(hs:s.length=18)(Bo:1000<=fu):∀(k nn i:Nat),i+k=18->k<nn ->
  Gz fu (Ap C0 prog fu (d+5)) a0 a1 n c nn leaf s.length (Ad .u64 s) 18 ((List.range i).map (CD leaf m s)).length i (Ad .i64 (UJ m)) (Ad .u64 ((List.range i).map (CD leaf m s)))=some ⟨[Ac (ZR leaf m s),Ao 0],[]⟩
 |_,0,_,_,h=>by omega
 |0,nn+1,i,hi,hn=>by
  have e:i=18:=by omega
  subst e;have l18:((List.range 18).map (CD leaf m s)).length=18:=by simp
  have en:=Adq (fu:=fu) (d:=d) Bo leaf (E:=(List.range 18).map (CD leaf m s)) (by omega);have L:=Am .u64 ((List.range 18).map (CD leaf m s));rw[Lr,D0 _ _ _ (by omega)];simp(disch:=omega)only[B4,B3,Ec,Cu,Fi,Ob,L,en];rfl
 |k+1,nn+1,i,hi,hn=>by
  have ih:=CZ (a0:=a0) (a1:=a1) (n:=n) (c:=c) (leaf:=leaf) (m:=m) hs Bo k nn (i+1) (by omega) (by omega);obtain⟨x,hx⟩:∃x,s[i]?=some x:=⟨_,List.getElem?_eq_getElem (by omega)⟩
  have hb:=Wi m i;have rn:=Aav (fu:=fu) (d:=d) (leaf:=leaf) (chain:=i) Bo (15-dg m i).toNat (dg m i) 15 x (by omega) (by omega) (by omega)
  have ev:Tr leaf i (15-dg m i).toNat (dg m i) x=CD leaf m s i:=by
   unfold CD;rw[List.getD_eq_getElem?_getD,hx];rfl
  rw[ev] at rn;have w:wrap .i64 ((i:Int)+1)=((i+1:Nat):Int):=by rw[Ah (by omega) (by omega)];omega
  have L:=Am .u64 ((List.range i).map (CD leaf m s));have li:((List.range i).map (CD leaf m s)).length=i:=by simp
  rw[Tf,G8,List.length_singleton,<-Hi] at ih;rw[Lr];simp(disch:=omega)only[B4,B3,Ij,Ec,Cu,Z5 (Awe m (show i<18 by omega)),Z5 hx,rn,Ob,L,w];exact ih
theorem Acv(Bo:1000<=fu)(leaf m:Int)(s:Cg):Ap C0 prog fu (d+6) 77 [Ao leaf,Ac m,.lst false 1 s.length (Ad .u64 s)]=some ⟨(if s.length=18 then [Ac (ZR leaf m s),Ao 0] else [Ac 0,Ao 4]),[]⟩:=by
 refine (Ys fu (d+5) leaf m s.length (Ad .u64 s)).trans ?_;by_cases h:s.length=18
 ·have sp:=XQ (fu:=fu) (d:=d+4) Bo m;have lp:=CZ (fu:=fu) (d:=d) (a0:=leaf) (a1:=m) (n:=s.length) (c:=Ad .u64 s) (leaf:=leaf) (m:=m) h Bo 18 fu 0 (by omega) (by omega);simp only[Fb];rw[B7 h,B7 (by omega)];simp only[B4,B3,sp];exact lp
 ·simp only[Fb];rw[Ba h,Ba (by omega)]
theorem EG(Bo:1000<=fu)(level a b:Int):Ap C0 prog fu (d+5) 78 [Ao level,Ac a,Ac b]=some ⟨[Ac (Pn level a b)],[]⟩:=by
 have wd:Ap C0 prog fu (d+4) 79 [.lst false 1 3 [Ac (wrap .u64 level),Ac a,Ac b]]=_:=Vn (xs:=Nz) (ws:=[wrap .u64 level,a,b]) (by simp) (by omega) (by simp;omega)
 have hs:=Agb (fu:=fu) (d:=d) (ws:=[wrap .u64 level,a,b]) (by simp) Bo 3;have L:=Am .u8 (A9 [wrap .u64 level,a,b]);rw[AG];unfold Pn;generalize A9 [wrap .u64 level,a,b]=W at wd hs L ⊢;simp(disch:=omega)only[B4,B3,wd,Ec,Cu,Fi,Ob,L,hs]
theorem HD(Bo:1000<=fu)(seed:Int):∀(l:Nat)(i B:Int),0<=i->i<=B->(2 ^ l:Nat)*(B+1)<=1000000000->l<=20->Ap C0 prog fu (d+7+l) 55 [Ac seed,Ao l,Ao i]=some ⟨[Ac (Ci seed l i)],[]⟩
 |0,i,B,h0,h1,h2,hl=>by
  have lf:=Aqn (fu:=fu) (d:=d) Bo seed i;refine (Sh fu (d+6) seed 0 i).trans ?_;simp only[B4,B3,Ga,if_true,lf];rfl
 |l+1,i,B,h0,h1,h2,hl=>by
  have hq:(2 ^ (l+1):Nat)=2 ^ l*2:=Nat.pow_succ _ _;have Ave:0<2 ^ l:=Nat.pow_pos (by omega);rw[hq] at h2;generalize hQ:2 ^ l=q at h2 Ave
  have hb:((q*2:Nat):Int)*(B+1)=(q:Int)*(2*B+1+1):=by
   rw[Int.natCast_mul,Int.mul_assoc]
   congr 1
   omega
  rw[hb] at h2
  have hBq:2*B+1+1<=(q:Int)*(2*B+1+1):=by
   have:=Int.mul_le_mul_of_nonneg_right (show (1:Int)<=q by omega) (show (0:Int)<=2*B+1+1 by omega);omega
  have n1:=HD Bo seed l (2*i) (2*B+1) (by omega) (by omega) (by rw[hQ];exact h2) (by omega)
  have n2:=HD Bo seed l (2*i+1) (2*B+1) (by omega) (by omega) (by rw[hQ];exact h2) (by omega)
  have pr:=EG (fu:=fu) (d:=d+2+l) Bo ((l+1:Nat):Int) (Ci seed l (2*i)) (Ci seed l (2*i+1));rw[show d+2+l+5=d+7+l by omega] at pr;have w1:wrap .i64 (((l+1:Nat):Int)-1)=(l:Int):=by rw[Ah (by omega) (by omega)];omega
  have w2:wrap .i64 (2*i)=2*i:=Ah (by omega) (by omega);have w3:wrap .i64 (2*i+1)=2*i+1:=Ah (by omega) (by omega);have ne:¬(((l+1:Nat):Int)=0):=by omega
  refine (Sh fu (d+7+l) seed ((l+1:Nat):Int) i).trans ?_;simp only[B4,B3,Ga,ne,if_false,w1,w2,w3,n1,n2,pr];rfl
end
theorem wu{h:Int}(h0:0<=h)(h4:h<=4):wrap .u64 h=h:=Cm (by omega) (by omega)
theorem Af2{leaf h:Int}(h0:0<=h)(h4:h<=4)(ho:J8 leaf h=false):0<=leaf/\leaf<2 ^ h.toNat:=by
 unfold J8 at ho;simp only[Bool.or_eq_false_iff,PA] at ho;have:h=0\/h=1\/h=2\/h=3\/h=4:=by omega
 rcases this with rfl|rfl|rfl|rfl|rfl
 ·have e:Iy .i64 1 0=1:=by decide
  rw[e] at ho;exact⟨by omega,by show leaf<1;omega⟩
 ·have e:Iy .i64 1 1=2:=by decide
  rw[e] at ho;exact⟨by omega,by show leaf<2;omega⟩
 ·have e:Iy .i64 1 2=4:=by decide
  rw[e] at ho;exact⟨by omega,by show leaf<4;omega⟩
 ·have e:Iy .i64 1 3=8:=by decide
  rw[e] at ho;exact⟨by omega,by show leaf<8;omega⟩
 ·have e:Iy .i64 1 4=16:=by decide
  rw[e] at ho;exact⟨by omega,by show leaf<16;omega⟩
theorem Ay8{h:Int}(h0:0<=h)(h4:h<=4):(2:Int) ^ h.toNat<=16:=by
 have:h=0\/h=1\/h=2\/h=3\/h=4:=by omega
 rcases this with rfl|rfl|rfl|rfl|rfl<;>decide
theorem Agx{leaf:Int}(h0:0<=leaf)(h1:leaf<16){k:Nat}(hk:k<4):0<=Ha leaf k/\Ha leaf k<=15:=by
 have H:∀n:Fin 16,∀k:Fin 4,0<=Ha (n.val:Int) k.val/\Ha (n.val:Int) k.val<=15:=by decide
 obtain⟨n,rfl⟩:=Int.eq_ofNat_of_zero_le h0;exact H ⟨n,by omega⟩ ⟨k,hk⟩
section
variable {fu d:Nat}
theorem OV(Bo:1000<=fu)(seed h:Int):Ap C0 prog fu (d+12) 30 [Ac seed,Ao h]=some ⟨[.agg (Xd seed h).cells,Ao (if D6 h=true then 9 else 0)],[]⟩:=by
 refine (Zf fu (d+11) seed h).trans ?_;have h1:=Xt (fu:=fu) (d:=d+10) h;unfold Xd;cases c1:D6 h
 ·rw[c1] at h1;have hb:=I5 c1
  have nd:=HD (fu:=fu) (d:=d+4-h.toNat) Bo seed h.toNat 0 0 (by omega) (by omega) (by
   have:h=0\/h=1\/h=2\/h=3\/h=4:=by omega
   rcases this with rfl|rfl|rfl|rfl|rfl<;>decide) (by omega)
  rw[show d+4-h.toNat+7+h.toNat=d+11 by omega,show ((h.toNat:Nat):Int)=h by omega] at nd;simp only[B4,B3,h1,nd];rfl
 ·rw[c1] at h1;simp only[B4,B3,h1];rfl
theorem QZ{a0 a1 a2 a3:Int}{seed leaf h:Int}(hh:0<=h/\h<=4)(hl:0<=leaf/\leaf<16)(Bo:1000<=fu){y4 y9:Int}{y5 y6:Nat}{y7 y8:Ab}{ch:Cg}:∀(k nn i:Nat),i+k=h.toNat->k<nn ->
  Ik fu (Ap C0 prog fu (d+11)) a0 a1 a2 a3 nn seed h leaf i y4 y5 y6 y7 y8 leaf ch.length ((List.range i).map fun k=>Ci seed k (Ha leaf k)).length (Ad .u64 ch) (Ad .u64 ((List.range i).map fun k=>Ci seed k (Ha leaf k)))=some ⟨[.agg (Sg.mk leaf ch ((List.range h.toNat).map fun k=>Ci seed k (Ha leaf k))).owned,Ao 0],[]⟩
 |_,0,_,_,h=>by omega
 |0,nn+1,i,hi,hn=>by
  have e:i=h.toNat:=by omega
  subst e;have L1:=Am .u64 ch;have L2:=Am .u64 ((List.range h.toNat).map fun k=>Ci seed k (Ha leaf k));rw[Oi,D0 _ _ _ (by omega)];simp(disch:=omega)only[B4,B3,Ec,Ob,L1,L2];rfl
 |k+1,nn+1,i,hi,hn=>by
  have ih:=QZ (a0:=a0) (a1:=a1) (a2:=a2) (a3:=a3) (seed:=seed) (y4:=y4) (y9:=y9) (y5:=y5) (y6:=y6) (y7:=y7) (y8:=y8) (ch:=ch) hh hl Bo k nn (i+1) (by omega) (by omega);have sb:=Agx hl.1 hl.2 (k:=i) (by omega)
  have nd:=HD (fu:=fu) (d:=d+4-i) Bo seed i (Ha leaf i) 15 sb.1 sb.2 (by
   have:i=0\/i=1\/i=2\/i=3:=by omega
   rcases this with rfl|rfl|rfl|rfl<;>decide) (by omega)
  rw[show d+4-i+7+i=d+11 by omega] at nd;have es:E6 .i64 (Ff .i64 leaf (i:Int)) 1=Ha leaf i:=rfl;have w:wrap .i64 ((i:Int)+1)=((i+1:Nat):Int):=by rw[Ah (by omega) (by omega)];omega
  have wi:wrap .u64 (i:Int)=i:=Cm (by omega) (by omega);have L:=Am .u64 ((List.range i).map fun k=>Ci seed k (Ha leaf k));have li:((List.range i).map fun k=>Ci seed k (Ha leaf k)).length=i:=by simp
  rw[Tf,G8,List.length_singleton,<-Hi] at ih;rw[Oi];simp(disch:=omega)only[B4,B3,wi,es,nd,Ec,Ob,L,w];exact ih
theorem Ane(Bo:1000<=fu)(seed h leaf m:Int):Ap C0 prog fu (d+12) 32 [Ac seed,Ao h,Ao leaf,Ac m]=some ⟨ZF (HJ seed h leaf m),[]⟩:=by
 refine (ES fu (d+11) seed h leaf m).trans ?_;have h1:=Xt (fu:=fu) (d:=d+10) h;unfold HJ;cases c1:D6 h
 ·rw[c1] at h1;have hb:=I5 c1;have w:=wu hb.1 hb.2;rw[Ba (by simp)];by_cases hn:leaf<0
  ·have ho:J8 leaf h=true:=by unfold J8;simp[hn]
   rw[B7 ho];simp(disch:=omega)only[B4,B3,h1];rfl
  ·by_cases hg:leaf>=Iy .i64 1 h
   ·have ho:J8 leaf h=true:=by unfold J8;simp[hg]
    rw[B7 ho];simp (disch:=first|omega|exact hg) only[B4,B3,h1,w];rfl
   ·have ho:J8 leaf h=false:=by unfold J8;simp only[Bool.or_eq_false_iff,PA];exact⟨hn,hg⟩
    have Ch:=Af2 hb.1 hb.2 ho;have h16:=Ay8 hb.1 hb.2;rw[Ba (by rw[ho];simp)]
    have sl:=YN (fu:=fu) (d:=d+5) Bo seed leaf m;have lp:=QZ (fu:=fu) (d:=d) (a0:=seed) (a1:=h) (a2:=leaf) (a3:=m) (seed:=seed) (leaf:=leaf) (h:=h) hb (by omega) Bo (y4:=0) (y9:=0) (y5:=0) (y6:=0) (y7:=[]) (y8:=[]) (ch:=Ls seed leaf m) h.toNat fu 0 (by omega) (by omega);have l18:(Ls seed leaf m).length=18:=by simp[Ls]
    rw[l18] at lp;simp (disch:=first|omega|exact hg) only[B4,B3,h1,w,sl];exact lp
 ·rw[c1] at h1;rw[B7 rfl];simp(disch:=omega)only[B4,B3,h1];rfl
theorem HT{a0 a1 a2 a3:Int}{n1 n2 n3:Nat}{c1 c2 c3:Ab}{root leaf:Int}{path:Cg}(hp:path.length<=100)(Bo:1000<=fu):∀(r:Cg)(i nn:Nat)(x:Int),path.drop i=r->r.length<nn->i<=path.length ->
  Fy fu (Ap C0 prog fu (d+5)) a0 a1 a2 a3 n1 c1 n2 c2 nn x i path.length root leaf n3 c3 path.length (Ad .u64 path)=some ⟨[Ao (okE (AE leaf i x r) root)],[]⟩
 |_,_,0,_,_,h,_=>by omega
 |[],i,nn+1,x,h,hn,hi=>by
  have:=drop_nil h;rw[Ms,D0 _ _ _ (by omega),Fb];rw[PG];unfold okE;by_cases e:x=root
  ·rw[B7 e,B7 e]
  ·rw[Ba e,Ba e]
 |s::r,i,nn+1,x,h,hn,hi=>by
  obtain⟨h1,h2,h3⟩:=C1 h;simp only[G9] at hn;have w:wrap .i64 ((i:Int)+1)=((i+1:Nat):Int):=by rw[Ah (by omega) (by omega)];omega
  have wi:wrap .u64 (i:Int)=i:=Cm (by omega) (by omega);have ih:=fun x=>HT (a0:=a0) (a1:=a1) (a2:=a2) (a3:=a3) (n1:=n1) (n2:=n2) (n3:=n3) (c1:=c1) (c2:=c2) (c3:=c3) (root:=root) (leaf:=leaf) hp Bo r (i+1) nn x h3 (by omega) (by omega);have p1:=EG (fu:=fu) (d:=d) Bo ((i+1:Nat):Int) x s;have p2:=EG (fu:=fu) (d:=d) Bo ((i+1:Nat):Int) s x;rw[Ms,Zg];by_cases hb:Tp .i64 (Ff .i64 leaf i) 1=0
  ·rw[B7 hb,<-ih];simp(disch:=omega)only[B4,B3,Ij,Ec,Z5 h2,Ga,wi,hb,w,p1,if_true]
  ·rw[Ba hb,<-ih];simp(disch:=omega)only[B4,B3,Ij,Ec,Z5 h2,Ga,wi,hb,w,p2,if_false]
theorem Af5(Bo:1000<=fu)(k:Ky)(m:Int)(s:Sg):Ap C0 prog fu (d+7) 41 [.agg k.cells,Ac m,.agg s.cells]=some ⟨[Ao (Acj k m s)],[]⟩:=by
 refine (Zr fu (d+6) k.h k.root m s.leaf s.chains.length (Ad .u64 s.chains) s.path.length (Ad .u64 s.path)).trans ?_;have h1:=Xt (fu:=fu) (d:=d+5) k.h;unfold Acj;cases c1:D6 k.h
 ·rw[c1] at h1;have hb:=I5 c1;have w:=wu hb.1 hb.2;rw[Ba (by simp)];by_cases hn:s.leaf<0
  ·have ho:J8 s.leaf k.h=true:=by unfold J8;simp[hn]
   rw[B7 ho];simp(disch:=omega)only[B4,B3,h1]
  ·by_cases hg:s.leaf>=Iy .i64 1 k.h
   ·have ho:J8 s.leaf k.h=true:=by unfold J8;simp[hg]
    rw[B7 ho];simp (disch:=first|omega|exact hg) only[B4,B3,h1,w]
   ·have ho:J8 s.leaf k.h=false:=by unfold J8;simp only[Bool.or_eq_false_iff,PA];exact⟨hn,hg⟩
    rw[Ba (by rw[ho];simp)]
    by_cases c3:s.chains.length=18
    ·by_cases c4:(s.path.length:Int)=k.h
     ·have rc:=Acv (fu:=fu) (d:=d) Bo s.leaf m s.chains;rw[B7 c3] at rc;have vl:=HT (fu:=fu) (d:=d+1) (a0:=k.h) (a1:=k.root) (a2:=m) (a3:=s.leaf) (n1:=s.chains.length) (n2:=s.path.length) (n3:=s.chains.length) (c1:=Ad .u64 s.chains) (c2:=Ad .u64 s.path) (c3:=Ad .u64 s.chains) (root:=k.root) (leaf:=s.leaf) (path:=s.path) (by omega) Bo s.path 0 fu (ZR s.leaf m s.chains) rfl (by omega) (by omega);rw[Ba (by omega),Ba (by omega),<-vl];simp (disch:=first|omega|exact hg) only[B4,B3,h1,w,Fb,rc,c4,if_true];rw[B7 (by omega)];rfl
     ·rw[Ba (by omega),B7 c4];simp (disch:=first|omega|exact hg) only[B4,B3,h1,w,Fb,c4,if_false];rw[B7 (by omega)]
    ·rw[B7 c3];simp (disch:=first|omega|exact hg) only[B4,B3,h1,w,Fb];rw[Ba (by omega)]
 ·rw[c1] at h1;rw[B7 rfl];simp(disch:=omega)only[B4,B3,h1]
theorem Agj(Bo:1000<=fu)(k:Ky):Ap C0 prog fu (d+2) 96 [.agg k.cells]=some ⟨(if D6 k.h=true then [.own 1 0 [],Ao 9] else [.own 1 9 (Ad .u8 (I7 k)),Ao 0]),[]⟩:=by
 refine (Vo fu (d+1) k.h k.root).trans ?_;have h1:=Xt (fu:=fu) (d:=d) k.h;have wd:=Axp (fu:=fu) (d:=d) Bo k.root;have L:=Am .u8 (Ew k.root);rw[Gp] at L;have t8:List.take 8 (Ad .u8 (Ew k.root))=Ad .u8 (Ew k.root):=I9 (by omega)
 have t9:List.take 9 ([PV.sc (.int .u8 (wrap .u8 k.h))]++Ad .u8 (Ew k.root))=Ad .u8 (I7 k):=by
  rw[I9 (by rw[G8,L];simp)]
  rfl
 have L9:([PV.sc (.int .u8 (wrap .u8 k.h))]++Ad .u8 (Ew k.root)).length=9:=by rw[G8,L];rfl
 cases c1:D6 k.h
 ·rw[c1] at h1;rw[Ba (by simp)];simp(disch:=omega)only[B4,B3,h1,wd,Ec,Cu,Fi,L,t8,Nat.reduceAdd,L9,t9]
 ·rw[c1] at h1;rw[B7 rfl];simp(disch:=omega)only[B4,B3,h1]
end
section
variable {fu d:Nat}
end
theorem Aqr(seed leaf m:Int):ZR leaf m (Ls seed leaf m)=Kd seed leaf:=by
 unfold ZR Kd PK
 congr 1
 refine List.map_congr_left fun i hi=>?_;have hi:=List.mem_range.1 hi;have hb:=Wi m i;unfold CD CC
 have e:(Ls seed leaf m).getD i 0=Y3 seed leaf m i:=by
  unfold Ls;rw[List.getD_eq_getElem?_getD,List.getElem?_map,List.getElem?_range hi];rfl
 rw[e];unfold Y3;have:=Aeq leaf i (dg m i).toNat (15-dg m i).toNat 0 (JS seed leaf i);rw[show (dg m i).toNat+(15-dg m i).toNat=15 by omega,show (0:Int)+((dg m i).toNat:Nat)=dg m i by omega] at this;exact this.symm
theorem Alf:∀n:Fin 16,∀k:Fin 4,
  (Tp .i64 (Ff .i64 (n.val:Int) k.val) 1=0/\Ff .i64 (n.val:Int) k.val=2*Ff .i64 (n.val:Int) ((k.val+1:Nat):Int)/\Ha n.val k.val=2*Ff .i64 (n.val:Int) ((k.val+1:Nat):Int)+1) \/
  (Tp .i64 (Ff .i64 (n.val:Int) k.val) 1≠0/\Ff .i64 (n.val:Int) k.val=2*Ff .i64 (n.val:Int) ((k.val+1:Nat):Int)+1/\Ha n.val k.val=2*Ff .i64 (n.val:Int) ((k.val+1:Nat):Int)):=by decide
theorem RZ(seed:Int){leaf:Int}(h0:0<=leaf)(h1:leaf<16):∀(k i:Nat),i+k<=4 ->
  AE leaf i (Ci seed i (Ff .i64 leaf i)) ((List.range' i k).map fun j=>Ci seed j (Ha leaf j))=Ci seed (i+k) (Ff .i64 leaf ((i+k:Nat):Int))
 |0,i,_=>rfl
 |k+1,i,h=>by
  rw[List.range'_succ,Rz,Zg];obtain⟨n,rfl⟩:=Int.eq_ofNat_of_zero_le h0;have ih:=RZ seed h0 h1 k (i+1) (by omega);rw[show i+(k+1)=i+1+k by omega,<-ih]
  congr 1
  rcases Alf ⟨n,by omega⟩ ⟨i,by omega⟩ with⟨a,b,c⟩|⟨a,b,c⟩
  ·simp only at a b c;rw[B7 a,b,c];rfl
  ·simp only at a b c;rw[Ba a,b,c];rfl
theorem An2{seed h leaf m:Int}(hh:D6 h=false)(ho:J8 leaf h=false):Acj (Xd seed h) m ⟨leaf,Ls seed leaf m,(List.range h.toNat).map fun k=>Ci seed k (Ha leaf k)⟩=0:=by
 have hb:=I5 hh;have hl:=Af2 hb.1 hb.2 ho;have h16:=Ay8 hb.1 hb.2
 have eP:Xd seed h=⟨h,Ci seed h.toNat 0⟩:=by
  unfold Xd;rw[hh];rfl
 rw[eP];unfold Acj;simp only;rw[Ba (show ¬D6 h=true by rw[hh];simp),Ba (show ¬J8 leaf h=true by rw[ho];simp),Ba (show ¬(Ls seed leaf m).length≠18 by simp[Ls]),Ba (by rw[List.length_map,List.length_range];omega),Aqr]
 have c:=RZ seed hl.1 (show leaf<16 by omega) h.toNat 0 (by omega)
 have e0:Ff .i64 leaf ((0:Nat):Int)=leaf:=by
  show leaf.fdiv (2 ^ (min ((0:Nat):Int).toNat IntKind.i64.bits))=leaf;have:(2:Int) ^ (min ((0:Nat):Int).toNat IntKind.i64.bits)=1:=by decide
  rw[this,Int.fdiv_one]
 have eh:Ff .i64 leaf ((0+h.toNat:Nat):Int)=0:=by
  have H:∀n:Fin 16,∀k:Fin 5,(n.val:Int)<2 ^ k.val->Ff .i64 (n.val:Int) ((0+k.val:Nat):Int)=0:=by decide
  obtain⟨n,hn⟩:=Int.eq_ofNat_of_zero_le hl.1;have:=H ⟨n,by omega⟩ ⟨h.toNat,by omega⟩ (by simp only;rw[<-hn];exact hl.2)
  rw[hn];exact this
 rw[e0,eh,Cu] at c;have er:List.range' 0 h.toNat=List.range h.toNat:=List.range_eq_range'.symm;rw[er] at c;have el:Ci seed 0 leaf=Kd seed leaf:=rfl;rw[el] at c;rw[c];unfold okE;rw[B7 rfl]
section
variable {xs:FuncId->Option (Ab->Option Dl)}(fu d:Nat)(call:Bi)
theorem Adg(Z:ByteArray):F1 C0 fu d 130 [.sc (.string Z)] fun call=>Bv [.own 3 1 [(4:Int),Ac 0,.sc (.string Z)]]:=by show _=_;kernel_rfl
theorem Adu(Z:Int):F1 C0 fu d 64 [Ac Z] fun call=>Bv [.own 3 1 [(1:Int),Ac Z,.sc (.string (ByteArray.mk #[]))]]:=by show _=_;kernel_rfl
theorem Aae(Y:Nat)(Z:Ab):F1 C0 fu d 131 [Ai 1 Y Z] fun call=>At (decide (Z.length=Y))<|Gi (bytesOf Z) fun a=>Bv [.own 3 1 [(3:Int),Ac 0,.sc (.string (ByteArray.mk (List.toArray a)))]]:=by show _=_;kernel_rfl
theorem ZB(Z:Int):F1 C0 fu d 141 [Ac Z] fun call=>Bd (decide (Z<24)) (Bv [(0:Int)]) (Bd (decide (Z<256)) (Bv [(1:Int)]) (Bd (decide (Z<65536)) (Bv [(2:Int)]) (Bd (decide (Z<4294967296)) (Bv [(4:Int)]) (Bv [(8:Int)])))):=by show _=_;kernel_rfl
theorem UN(Z Y:Int)(X:ByteArray):F1 C0 fu d 146 [.agg [Z,Ac Y,.sc (.string X)]] fun call=>Bd (Z==3) (Bv [.sc (.bool (Y==0))]) (Bd (Z==4) (Bv [.sc (.bool (Y==0))]) (Bd (Z==8) (Bd (Y==0) (Bv [.sc (.bool (Array.toList (ByteArray.data X)==Array.toList (ByteArray.data (ByteArray.mk #[]))))]) (Bv [.sc (.bool false)])) (Bd (Z==7) (Bd (decide (Y<=1)) (Bv [.sc (.bool (Array.toList (ByteArray.data X)==Array.toList (ByteArray.data (ByteArray.mk #[]))))]) (Bv [.sc (.bool false)])) (Bv [.sc (.bool (Array.toList (ByteArray.data X)==Array.toList (ByteArray.data (ByteArray.mk #[]))))])))):=by show _=_;kernel_rfl
theorem QJ(Z:Nat)(X:Ab)(Y:Nat)(W:Ab):F1 C0 fu d 143 [Ai 1 Z X,Ai 1 Y W] fun call=>Bd ((↑Z:Int) != (↑Y:Int)) (Bv [.sc (.bool (decide ((↑Z:Int)<(↑Y:Int))))]) (J1 .i64 (call 148 [Ai 1 Z X,Ai 1 Y W]) fun a=>Bv [.sc (.bool (decide (a<0)))]):=by show _=_;kernel_rfl
def Ev(Z:Nat)(Y:Ab)(X W:Int)(V U:Nat)(T S:Int)(Q:Ab):Option Dl:=Lu fu call 133 Tryz.f133 [.own 1 Z Y,.sc (.int .u8 X),Ac W] [.r,.r,.r,.r,.r,.l,.r,.l] V ⟨lk [(0,.view 0 1 0 U),(2,Ac T),(9,S)],Bq [(0,.ar false Q)]⟩
theorem Qc(V:Nat)(U:Ab)(T S:Int)(Q Z:Nat)(W Y:Int)(X:Ab):Ev fu call V U T S (Q+1) Z W Y X=(Bd (decide (Y>=0)) (Aa (wrap .i64 (8*Y)) fun a=>At (decide (0<=a))<|Aa (Ff .u64 W a) fun a=>Aa (wrap .u8 a) fun a=>Ve Z 1 1 X [.sc (.int .u8 a)] fun a b=>Aa (wrap .i64 (Y-1)) fun c=>Ev fu call V U T S Q a W c b) (At (decide (Z*1<=X.length))<|Bv [.own 1 Z (X.take (Z*1))])):=by kernel_rfl
theorem GS(Y:Nat)(X:Ab)(W Z:Int):F1 C0 fu d 133 [.own 1 Y X,.sc (.int .u8 W),Ac Z] fun call=>Aa (Iy .u8 W 5) fun a=>Bd (decide (Z<24)) (Aa (wrap .u8 Z) fun b=>Aa (wrap .u8 (a+b)) fun a=>Ve Y 1 1 X [.sc (.int .u8 a)] fun a b=>At (decide (a*1<=b.length))<|Bv [.own 1 a (b.take (a*1))]) (Bd (decide (Z<256)) (Aa (wrap .u8 (a+24)) fun a=>Ve Y 1 1 X [.sc (.int .u8 a)] fun a b=>Ev fu call Y X W Z fu a Z 0 b) (Bd (decide (Z<65536)) (Aa (wrap .u8 (a+25)) fun a=>Ve Y 1 1 X [.sc (.int .u8 a)] fun a b=>Ev fu call Y X W Z fu a Z 1 b) (Bd (decide (Z<4294967296)) (Aa (wrap .u8 (a+26)) fun a=>Ve Y 1 1 X [.sc (.int .u8 a)] fun a b=>Ev fu call Y X W Z fu a Z 3 b) (Aa (wrap .u8 (a+27)) fun a=>Ve Y 1 1 X [.sc (.int .u8 a)] fun a b=>Ev fu call Y X W Z fu a Z 7 b)))):=by show _=_;kernel_rfl
theorem GH(Y:Nat)(X:Ab)(W V:Int)(Z:ByteArray):F1 C0 fu d 108 [.own 1 Y X,.agg [W,Ac V,.sc (.string Z)]] fun call=>Bd (W==7) (Aa (wrap .u8 V) fun a=>Aa (wrap .u8 (244+a)) fun a=>Ve Y 1 1 X [.sc (.int .u8 a)] fun a b=>At (decide (a*1<=b.length))<|Bv [.own 1 a (b.take (a*1))]) (Bd (W==8) (Ve Y 1 1 X [.sc (.int .u8 246)] fun a b=>At (decide (a*1<=b.length))<|Bv [.own 1 a (b.take (a*1))]) (Bd (W==3) (Aa (wrap .i64 (W-1)) fun a=>Aa (wrap .u8 a) fun a=>Aa (wrap .u64 (↑(ByteArray.size Z):Int)) fun b=>At (decide (Y*1<=X.length))<|Bk (call 133 [.own 1 Y (X.take (Y*1)),.sc (.int .u8 a),Ac b]) fun a b=>Xi 1 a fun a c e=>Aq e<|Aq b<|At (decide (a*1<=c.length)&&decide (List.length (Ej Z)=ByteArray.size Z*1)&&decide ((a+ByteArray.size Z)*1<=1099511627776)&&decide (a+ByteArray.size Z<=1099511627776))<|Aa (a+ByteArray.size Z) fun b=>Aa (List.take (a*1) c++Ej Z) fun a=>At (decide (b*1<=a.length))<|Bv [.own 1 b (a.take (b*1))]) (Bd (W==4) (Aa (wrap .i64 (W-1)) fun a=>Aa (wrap .u8 a) fun a=>Aa (wrap .u64 (↑(ByteArray.size Z):Int)) fun b=>At (decide (Y*1<=X.length))<|Bk (call 133 [.own 1 Y (X.take (Y*1)),.sc (.int .u8 a),Ac b]) fun a b=>Xi 1 a fun a c e=>Aq e<|Aq b<|At (decide (a*1<=c.length)&&decide (List.length (Ej Z)=ByteArray.size Z*1)&&decide ((a+ByteArray.size Z)*1<=1099511627776)&&decide (a+ByteArray.size Z<=1099511627776))<|Aa (a+ByteArray.size Z) fun b=>Aa (List.take (a*1) c++Ej Z) fun a=>At (decide (b*1<=a.length))<|Bv [.own 1 b (a.take (b*1))]) (Aa (wrap .i64 (W-1)) fun a=>Aa (wrap .u8 a) fun a=>At (decide (Y*1<=X.length))<|Bk (call 133 [.own 1 Y (X.take (Y*1)),.sc (.int .u8 a),Ac V]) fun a b=>Xi 1 a fun a c e=>Aq e<|Aq b<|At (decide (a*1<=c.length))<|Bv [.own 1 a (c.take (a*1))])))):=by show _=_;kernel_rfl
theorem JH(Z:Nat)(Y:Ab)(X:Int):F1 C0 fu d 87 [.pbox [.own 3 Z Y,X]] fun call=>Bd (decide (X>0)) (At (decide (Z*3<=Y.length))<|some ⟨[.sc (.bool ((↑Z:Int)==0))],[[.own 3 Z (Y.take (Z*3)),X]]⟩) (At (decide (Z*3<=Y.length))<|some ⟨[.sc (.bool false)],[[.own 3 Z (Y.take (Z*3)),X]]⟩):=by show _=_;kernel_rfl
theorem GL(Z:Nat)(Y:Ab)(X:Int):F1 C0 fu d 142 [.pbox [.own 3 Z Y,X]] fun call=>Bd (decide ((↑Z:Int)>0)) (Aa (wrap .i64 ((↑Z:Int)-1)) fun a=>At (decide (0<=a)&&decide (a<(↑Z:Int)))<|Co (Y.getD (0+a.toNat*3+0) .top) fun a=>Bd a (Aa (wrap .i64 ((↑Z:Int)-1)) fun a=>At (decide (0<=a)&&decide (a<(↑Z:Int)))<|A8 .i64 (Y.getD (0+a.toNat*3+1) .top) fun a=>Aa (Int.tmod a 2) fun a=>At (decide (Z*3<=Y.length))<|some ⟨[.sc (.bool (a==0))],[[.own 3 Z (Y.take (Z*3)),X]]⟩) (At (decide (Z*3<=Y.length))<|some ⟨[.sc (.bool false)],[[.own 3 Z (Y.take (Z*3)),X]]⟩)) (At (decide (Z*3<=Y.length))<|some ⟨[.sc (.bool false)],[[.own 3 Z (Y.take (Z*3)),X]]⟩):=by show _=_;kernel_rfl
theorem IG(Z:Nat)(Y:Ab)(X W:Int):F1 C0 fu d 122 [.pbox [.own 3 Z Y,X],W] fun call=>Bd (decide (X>=512)) (At (decide (Z*3<=Y.length))<|some ⟨[(8:Int)],[[.own 3 Z (Y.take (Z*3)),X]]⟩) (Bd (decide (W<1)) (At (decide (Z*3<=Y.length))<|some ⟨[(3:Int)],[[.own 3 Z (Y.take (Z*3)),X]]⟩) (Bd (decide (W>8)) (At (decide (Z*3<=Y.length))<|some ⟨[(3:Int)],[[.own 3 Z (Y.take (Z*3)),X]]⟩) (At (decide (Z*3<=Y.length))<|Bk (call 142 [.pbox [.own 3 Z (Y.take (Z*3)),X]]) fun a b=>MI a fun a=>Av b fun b c=>Xi 3 b fun b e f=>D1 .i64 f fun f=>Aq c<|Bd a (Bd (W != 1) (Bd (W != 2) (Bd (W != 4) (At (decide (b*3<=e.length))<|some ⟨[(3:Int)],[[.own 3 b (e.take (b*3)),f]]⟩) (Bd (decide ((↑b:Int)>8)) (At (decide (b*3<=e.length))<|some ⟨[(5:Int)],[[.own 3 b (e.take (b*3)),f]]⟩) (At (decide (b*3<=e.length))<|some ⟨[(0:Int)],[[.own 3 b (e.take (b*3)),f]]⟩))) (Bd (decide ((↑b:Int)>8)) (At (decide (b*3<=e.length))<|some ⟨[(5:Int)],[[.own 3 b (e.take (b*3)),f]]⟩) (At (decide (b*3<=e.length))<|some ⟨[(0:Int)],[[.own 3 b (e.take (b*3)),f]]⟩))) (Bd (decide ((↑b:Int)>8)) (At (decide (b*3<=e.length))<|some ⟨[(5:Int)],[[.own 3 b (e.take (b*3)),f]]⟩) (At (decide (b*3<=e.length))<|some ⟨[(0:Int)],[[.own 3 b (e.take (b*3)),f]]⟩))) (Bd (decide ((↑b:Int)>8)) (At (decide (b*3<=e.length))<|some ⟨[(5:Int)],[[.own 3 b (e.take (b*3)),f]]⟩) (At (decide (b*3<=e.length))<|some ⟨[(0:Int)],[[.own 3 b (e.take (b*3)),f]]⟩))))):=by show _=_;kernel_rfl
def Be(Z:Nat)(Y:Ab)(X W V:Int)(U:ByteArray)(T:Nat)(S:Int)(Q:Nat)(P:Int)(O:Ab):Option Dl:=Lu fu call 144 Tryz.f144 [.pbox [.own 3 Z Y,X],.agg [W,Ac V,.sc (.string U)]] [.r,.r,.r,.r,.r,.r,.l] T ⟨lk [(0,.ptr 212000 0),(5,S)],Bq [(212000,.st [.view 212106 3 0 Q,P]),(212106,.ar false O)]⟩
theorem Re(V:Nat)(U:Ab)(T S Q:Int)(P:ByteArray)(O:Nat)(X:Int)(Z:Nat)(W:Int)(Y:Ab):Be fu call V U T S Q P (O+1) X Z W Y=(Bd (decide (X>0)) (Aa (wrap .i64 (X-1)) fun a=>At (decide (0<=a)&&decide (a<(↑Z:Int)))<|A8 .i64 (Y.getD (0+a.toNat*3+1) .top) fun a=>Bd (a==0) (Aa (wrap .i64 (X-1)) fun a=>At (decide (0<=a))<|At (decide (a.toNat<=Z))<|Aa (a.toNat-0) fun a=>Aa (wrap .i64 (X-1)) fun b=>Be fu call V U T S Q P O b a W Y) (At (decide (Z*3<=Y.length))<|some ⟨[],[[.own 3 Z (Y.take (Z*3)),W]]⟩)) (At (decide (Z*3<=Y.length))<|some ⟨[],[[.own 3 Z (Y.take (Z*3)),W]]⟩)):=by kernel_rfl
theorem KL(Z:Nat)(X:Ab)(V W Y:Int)(U:ByteArray):F1 C0 fu d 144 [.pbox [.own 3 Z X,V],.agg [W,Ac Y,.sc (.string U)]] fun call=>Aa (wrap .i64 (V+1)) fun a=>Bd (decide ((↑Z:Int)>0)) (Aa (wrap .i64 ((↑Z:Int)-1)) fun b=>At (decide (0<=b)&&decide (b<(↑Z:Int)))<|A8 .i64 (X.getD (0+b.toNat*3+1) .top) fun c=>Aa (wrap .i64 (c-1)) fun c=>At (decide (0<=b)&&decide (b<(↑Z:Int)))<|At (decide (0+b.toNat*3+1+1<=X.length))<|Aa (Bp X [c] (0+b.toNat*3+1)) fun b=>Bd (W==5) (Bd (decide (Y>0)) (Aa (wrap .i64 Y) fun c=>Ve Z 3 40 b [.sc (.bool false),c,Ai 1 0 []] fun b c=>Bd (W==6) (Bd (decide (Y>0)) (Aa (wrap .i64 Y) fun e=>Aa (wrap .i64 (2*e)) fun e=>Ve b 3 40 c [.sc (.bool true),e,Ai 1 0 []] fun b c=>Be fu call Z X V W Y U fu (↑b:Int) b a c) (Be fu call Z X V W Y U fu (↑b:Int) b a c)) (Be fu call Z X V W Y U fu (↑b:Int) b a c)) (Bd (W==6) (Bd (decide (Y>0)) (Aa (wrap .i64 Y) fun c=>Aa (wrap .i64 (2*c)) fun c=>Ve Z 3 40 b [.sc (.bool true),c,Ai 1 0 []] fun b c=>Be fu call Z X V W Y U fu (↑b:Int) b a c) (Be fu call Z X V W Y U fu (↑Z:Int) Z a b)) (Be fu call Z X V W Y U fu (↑Z:Int) Z a b))) (Bd (W==6) (Bd (decide (Y>0)) (Aa (wrap .i64 Y) fun c=>Aa (wrap .i64 (2*c)) fun c=>Ve Z 3 40 b [.sc (.bool true),c,Ai 1 0 []] fun b c=>Be fu call Z X V W Y U fu (↑b:Int) b a c) (Be fu call Z X V W Y U fu (↑Z:Int) Z a b)) (Be fu call Z X V W Y U fu (↑Z:Int) Z a b))) (Bd (W==5) (Bd (decide (Y>0)) (Aa (wrap .i64 Y) fun b=>Ve Z 3 40 X [.sc (.bool false),b,Ai 1 0 []] fun b c=>Bd (W==6) (Bd (decide (Y>0)) (Aa (wrap .i64 Y) fun e=>Aa (wrap .i64 (2*e)) fun e=>Ve b 3 40 c [.sc (.bool true),e,Ai 1 0 []] fun b c=>Be fu call Z X V W Y U fu (↑b:Int) b a c) (Be fu call Z X V W Y U fu (↑b:Int) b a c)) (Be fu call Z X V W Y U fu (↑b:Int) b a c)) (Bd (W==6) (Bd (decide (Y>0)) (Aa (wrap .i64 Y) fun b=>Aa (wrap .i64 (2*b)) fun b=>Ve Z 3 40 X [.sc (.bool true),b,Ai 1 0 []] fun b c=>Be fu call Z X V W Y U fu (↑b:Int) b a c) (Be fu call Z X V W Y U fu (↑Z:Int) Z a X)) (Be fu call Z X V W Y U fu (↑Z:Int) Z a X))) (Bd (W==6) (Bd (decide (Y>0)) (Aa (wrap .i64 Y) fun b=>Aa (wrap .i64 (2*b)) fun b=>Ve Z 3 40 X [.sc (.bool true),b,Ai 1 0 []] fun b c=>Be fu call Z X V W Y U fu (↑b:Int) b a c) (Be fu call Z X V W Y U fu (↑Z:Int) Z a X)) (Be fu call Z X V W Y U fu (↑Z:Int) Z a X))):=by show _=_;kernel_rfl
theorem Mm(W:Nat)(V:Ab)(U Z X:Int)(Y:ByteArray):F1 C0 fu d 123 [.pbox [.own 3 W V,U],.agg [Z,Ac X,.sc (.string Y)]] fun call=>Bd (Z==4) (Eb (call 126 [.sc (.string Y)]) fun a b=>Co a fun a=>Aq b<|Bd (!a) (At (decide (W*3<=V.length))<|some ⟨[(6:Int)],[[.own 3 W (V.take (W*3)),U]]⟩) (At (decide (W*3<=V.length))<|Bk (call 142 [.pbox [.own 3 W (V.take (W*3)),U]]) fun a b=>MI a fun a=>Av b fun b c=>Xi 3 b fun b e f=>D1 .i64 f fun f=>Aq c<|Bd a (Aa (wrap .i64 ((↑b:Int)-1)) fun a=>At (decide (0<=a)&&decide (a<(↑b:Int)))<|Bk (call 108 [.own 1 0 [],.agg [Z,Ac X,.sc (.string Y)]]) fun c g=>Xi 1 c fun c h i=>Aq i<|Aq g<|M0 1 (e.getD (0+a.toNat*3+0+2) .top) fun g i j=>Bd (decide (0<i)) (M0 1 (e.getD (0+a.toNat*3+0+2) .top) fun g i j=>At (decide (0+c*1<=h.length))<|Eb (call 143 [Ai 1 i j,Ai 1 c (List.take (c*1) (h.drop 0))]) fun g i=>Co g fun g=>Aq i<|Bd (!g) (At (decide (b*3<=e.length))<|some ⟨[(7:Int)],[[.own 3 b (e.take (b*3)),f]]⟩) (At (decide (0+a.toNat*3+0+2+1<=e.length))<|At (decide (0+c*1<=h.length))<|Aa (Bp e [Ai 1 c (List.take (c*1) (h.drop 0))] (0+a.toNat*3+0+2)) fun a=>At (decide (b*3<=a.length))<|Bk (call 144 [.pbox [.own 3 b (a.take (b*3)),f],.agg [Z,Ac X,.sc (.string Y)]]) fun a b=>Aq a<|Av b fun a b=>Xi 3 a fun a c e=>D1 .i64 e fun e=>Aq b<|At (decide (a*3<=c.length))<|some ⟨[(0:Int)],[[.own 3 a (c.take (a*3)),e]]⟩)) (Ym (M0 1 (e.getD (0+a.toNat*3+0+2) .top) fun g i j=>At (decide (0+c*1<=h.length))<|Eb (call 143 [Ai 1 i j,Ai 1 c (List.take (c*1) (h.drop 0))]) fun g i=>Co g fun g=>Aq i<|Bd (!g) (At (decide (b*3<=e.length))<|some ⟨[(7:Int)],[[.own 3 b (e.take (b*3)),f]]⟩) (At (decide (0+a.toNat*3+0+2+1<=e.length))<|At (decide (0+c*1<=h.length))<|Aa (Bp e [Ai 1 c (List.take (c*1) (h.drop 0))] (0+a.toNat*3+0+2)) fun a=>At (decide (b*3<=a.length))<|Bk (call 144 [.pbox [.own 3 b (a.take (b*3)),f],.agg [Z,Ac X,.sc (.string Y)]]) fun a b=>Aq a<|Av b fun a b=>Xi 3 a fun a c e=>D1 .i64 e fun e=>Aq b<|At (decide (a*3<=c.length))<|some ⟨[(0:Int)],[[.own 3 a (c.take (a*3)),e]]⟩)) (At (decide (0+a.toNat*3+0+2+1<=e.length))<|At (decide (0+c*1<=h.length))<|Aa (Bp e [Ai 1 c (List.take (c*1) (h.drop 0))] (0+a.toNat*3+0+2)) fun a=>At (decide (b*3<=a.length))<|Bk (call 144 [.pbox [.own 3 b (a.take (b*3)),f],.agg [Z,Ac X,.sc (.string Y)]]) fun a b=>Aq a<|Av b fun a b=>Xi 3 a fun a c e=>D1 .i64 e fun e=>Aq b<|At (decide (a*3<=c.length))<|some ⟨[(0:Int)],[[.own 3 a (c.take (a*3)),e]]⟩))) (At (decide (b*3<=e.length))<|Bk (call 144 [.pbox [.own 3 b (e.take (b*3)),f],.agg [Z,Ac X,.sc (.string Y)]]) fun a b=>Aq a<|Av b fun a b=>Xi 3 a fun a c e=>D1 .i64 e fun e=>Aq b<|At (decide (a*3<=c.length))<|some ⟨[(0:Int)],[[.own 3 a (c.take (a*3)),e]]⟩))) (At (decide (W*3<=V.length))<|Bk (call 142 [.pbox [.own 3 W (V.take (W*3)),U]]) fun a b=>MI a fun a=>Av b fun b c=>Xi 3 b fun b e f=>D1 .i64 f fun f=>Aq c<|Bd a (Aa (wrap .i64 ((↑b:Int)-1)) fun a=>At (decide (0<=a)&&decide (a<(↑b:Int)))<|Bk (call 108 [.own 1 0 [],.agg [Z,Ac X,.sc (.string Y)]]) fun c g=>Xi 1 c fun c h i=>Aq i<|Aq g<|M0 1 (e.getD (0+a.toNat*3+0+2) .top) fun g i j=>Bd (decide (0<i)) (M0 1 (e.getD (0+a.toNat*3+0+2) .top) fun g i j=>At (decide (0+c*1<=h.length))<|Eb (call 143 [Ai 1 i j,Ai 1 c (List.take (c*1) (h.drop 0))]) fun g i=>Co g fun g=>Aq i<|Bd (!g) (At (decide (b*3<=e.length))<|some ⟨[(7:Int)],[[.own 3 b (e.take (b*3)),f]]⟩) (At (decide (0+a.toNat*3+0+2+1<=e.length))<|At (decide (0+c*1<=h.length))<|Aa (Bp e [Ai 1 c (List.take (c*1) (h.drop 0))] (0+a.toNat*3+0+2)) fun a=>At (decide (b*3<=a.length))<|Bk (call 144 [.pbox [.own 3 b (a.take (b*3)),f],.agg [Z,Ac X,.sc (.string Y)]]) fun a b=>Aq a<|Av b fun a b=>Xi 3 a fun a c e=>D1 .i64 e fun e=>Aq b<|At (decide (a*3<=c.length))<|some ⟨[(0:Int)],[[.own 3 a (c.take (a*3)),e]]⟩)) (Ym (M0 1 (e.getD (0+a.toNat*3+0+2) .top) fun g i j=>At (decide (0+c*1<=h.length))<|Eb (call 143 [Ai 1 i j,Ai 1 c (List.take (c*1) (h.drop 0))]) fun g i=>Co g fun g=>Aq i<|Bd (!g) (At (decide (b*3<=e.length))<|some ⟨[(7:Int)],[[.own 3 b (e.take (b*3)),f]]⟩) (At (decide (0+a.toNat*3+0+2+1<=e.length))<|At (decide (0+c*1<=h.length))<|Aa (Bp e [Ai 1 c (List.take (c*1) (h.drop 0))] (0+a.toNat*3+0+2)) fun a=>At (decide (b*3<=a.length))<|Bk (call 144 [.pbox [.own 3 b (a.take (b*3)),f],.agg [Z,Ac X,.sc (.string Y)]]) fun a b=>Aq a<|Av b fun a b=>Xi 3 a fun a c e=>D1 .i64 e fun e=>Aq b<|At (decide (a*3<=c.length))<|some ⟨[(0:Int)],[[.own 3 a (c.take (a*3)),e]]⟩)) (At (decide (0+a.toNat*3+0+2+1<=e.length))<|At (decide (0+c*1<=h.length))<|Aa (Bp e [Ai 1 c (List.take (c*1) (h.drop 0))] (0+a.toNat*3+0+2)) fun a=>At (decide (b*3<=a.length))<|Bk (call 144 [.pbox [.own 3 b (a.take (b*3)),f],.agg [Z,Ac X,.sc (.string Y)]]) fun a b=>Aq a<|Av b fun a b=>Xi 3 a fun a c e=>D1 .i64 e fun e=>Aq b<|At (decide (a*3<=c.length))<|some ⟨[(0:Int)],[[.own 3 a (c.take (a*3)),e]]⟩))) (At (decide (b*3<=e.length))<|Bk (call 144 [.pbox [.own 3 b (e.take (b*3)),f],.agg [Z,Ac X,.sc (.string Y)]]) fun a b=>Aq a<|Av b fun a b=>Xi 3 a fun a c e=>D1 .i64 e fun e=>Aq b<|At (decide (a*3<=c.length))<|some ⟨[(0:Int)],[[.own 3 a (c.take (a*3)),e]]⟩)):=by show _=_;kernel_rfl
theorem CE(W:Nat)(V:Ab)(U Z Y:Int)(X:ByteArray):F1 C0 fu d 132 [.pbox [.own 3 W V,U],.agg [Z,Ac Y,.sc (.string X)]] fun call=>At (decide (W*3<=V.length))<|Bk (call 87 [.pbox [.own 3 W (V.take (W*3)),U]]) fun a b=>MI a fun a=>Av b fun b c=>Xi 3 b fun b e f=>D1 .i64 f fun f=>Aq c<|Bd a (At (decide (b*3<=e.length))<|some ⟨[(2:Int)],[[.own 3 b (e.take (b*3)),f]]⟩) (At (decide (b*3<=e.length))<|Bk (call 122 [.pbox [.own 3 b (e.take (b*3)),f],Z]) fun a b=>D1 .i64 a fun a=>Av b fun b c=>Xi 3 b fun b e f=>D1 .i64 f fun f=>Aq c<|Bd (a != 0) (At (decide (b*3<=e.length))<|some ⟨[a],[[.own 3 b (e.take (b*3)),f]]⟩) (Eb (call 146 [.agg [Z,Ac Y,.sc (.string X)]]) fun a c=>Co a fun a=>Aq c<|Bd (!a) (At (decide (b*3<=e.length))<|some ⟨[(4:Int)],[[.own 3 b (e.take (b*3)),f]]⟩) (Bd (decide ((↑(ByteArray.size X):Int)>1024)) (At (decide (b*3<=e.length))<|some ⟨[(8:Int)],[[.own 3 b (e.take (b*3)),f]]⟩) (Bd (Z==5) (Bd (decide (Y>512)) (At (decide (b*3<=e.length))<|some ⟨[(8:Int)],[[.own 3 b (e.take (b*3)),f]]⟩) (At (decide (b*3<=e.length))<|Bk (call 123 [.pbox [.own 3 b (e.take (b*3)),f],.agg [Z,Ac Y,.sc (.string X)]]) fun a b=>D1 .i64 a fun a=>Av b fun b c=>Xi 3 b fun b e f=>D1 .i64 f fun f=>Aq c<|At (decide (b*3<=e.length))<|some ⟨[a],[[.own 3 b (e.take (b*3)),f]]⟩)) (Bd (Z==6) (Bd (decide (Y>512)) (At (decide (b*3<=e.length))<|some ⟨[(8:Int)],[[.own 3 b (e.take (b*3)),f]]⟩) (At (decide (b*3<=e.length))<|Bk (call 123 [.pbox [.own 3 b (e.take (b*3)),f],.agg [Z,Ac Y,.sc (.string X)]]) fun a b=>D1 .i64 a fun a=>Av b fun b c=>Xi 3 b fun b e f=>D1 .i64 f fun f=>Aq c<|At (decide (b*3<=e.length))<|some ⟨[a],[[.own 3 b (e.take (b*3)),f]]⟩)) (At (decide (b*3<=e.length))<|Bk (call 123 [.pbox [.own 3 b (e.take (b*3)),f],.agg [Z,Ac Y,.sc (.string X)]]) fun a b=>D1 .i64 a fun a=>Av b fun b c=>Xi 3 b fun b e f=>D1 .i64 f fun f=>Aq c<|At (decide (b*3<=e.length))<|some ⟨[a],[[.own 3 b (e.take (b*3)),f]]⟩)))))):=by show _=_;kernel_rfl
def K5(Z:Nat)(Y:Ab)(X W:Nat)(V:Ab)(U T:Int)(S:Nat)(Q:Int)(P:Ab):Option Dl:=Lu fu call 107 Tryz.f107 [Ai 3 Z Y] [.r,.r,.l,.r,.l] X ⟨lk [(3,.ptr 3 0),(7,Ai 3 W V),(8,U),(9,T)],Bq [(3,.st [.view 25 3 0 S,Q]),(25,.ar false P)]⟩
theorem Td(S:Nat)(Q:Ab)(P V:Nat)(X:Ab)(U Z:Int)(Y:Nat)(T:Int)(W:Ab):K5 fu call S Q (P+1) V X U Z Y T W=(Bd (decide (Z<U)) (At (decide (0<=Z)&&decide (Z<(↑V:Int)))<|A8 .i64 (X.getD (Z.toNat*3) .top) fun a=>A8 .u64 (X.getD (Z.toNat*3+1) .top) fun b=>Ez (X.getD (Z.toNat*3+1+1) .top) fun c=>At (decide (Y*3<=W.length))<|Bk (call 132 [.pbox [.own 3 Y (W.take (Y*3)),T],.agg [a,Ac b,.sc (.string c)]]) fun a b=>D1 .i64 a fun a=>Av b fun b c=>Xi 3 b fun b e f=>D1 .i64 f fun f=>Aq c<|Bd (a != 0) (Bv [a]) (Aa (wrap .i64 (Z+1)) fun a=>K5 fu call S Q P V X U a b f e)) (At (decide (Y*3<=W.length))<|Bk (call 87 [.pbox [.own 3 Y (W.take (Y*3)),T]]) fun a b=>MI a fun a=>Av b fun b c=>Xi 3 b fun b e f=>D1 .i64 f fun b=>Aq c<|Bd (!a) (Bv [(1:Int)]) (Bv [(0:Int)]))):=by kernel_rfl
theorem NY(Z:Nat)(Y:Ab):F1 C0 fu d 107 [Ai 3 Z Y] fun call=>K5 fu call Z Y fu Z Y (↑Z:Int) 0 0 0 ([]):=by show _=_;kernel_rfl
theorem QP(Z:Nat)(Y:Ab):F1 C0 fu d 106 [.own 3 Z Y] fun call=>At (decide (0+Z*3<=Y.length))<|J1 .i64 (call 107 [Ai 3 Z (List.take (Z*3) (Y.drop 0))]) fun a=>Bd (a != 0) (Bv [.own 3 0 [],a]) (At (decide (Z*3<=Y.length))<|Bv [.own 3 Z (Y.take (Z*3)),(0:Int)]):=by show _=_;kernel_rfl
def N6(Z:Nat)(Y:Ab)(X W:Nat)(V:Ab)(U T:Int):Option Dl:=Lu fu call 105 Tryz.f105 [Ai 1 Z Y] [.r,.l,.r,.l] X ⟨lk [(6,Ai 1 W V),(7,U),(8,T)],Bq []⟩
theorem V0(V:Nat)(U:Ab)(T Y:Nat)(X:Ab)(W Z:Int):N6 fu call V U (T+1) Y X W Z=(Bd (decide (Z<W)) (At (decide (0<=Z)&&decide (Z<(↑Y:Int)))<|M0 3 (X.getD (Z.toNat*1) .top) fun a b c=>J1 .i64 (call 107 [Ai 3 b c]) fun a=>Bd (a != 0) (Bv [a]) (Aa (wrap .i64 (Z+1)) fun a=>N6 fu call V U T Y X W a)) (Bv [(0:Int)])):=by kernel_rfl
theorem TP(Z:Nat)(Y:Ab):F1 C0 fu d 105 [Ai 1 Z Y] fun call=>N6 fu call Z Y fu Z Y (↑Z:Int) 0:=by show _=_;kernel_rfl
def Pp(Z:Nat)(Y:Ab)(X W V:Nat)(U:Ab)(T S:Int)(Q:Ab):Option Dl:=Lu fu call 63 Tryz.f63 [Ai 1 Z Y] [.r,.r,.r,.l,.r,.l] X ⟨lk [(5,.view 5 3 0 W),(18,Ai 1 V U),(19,T),(20,S)],Bq [(5,.ar false Q)]⟩
theorem Yj(T:Nat)(S:Ab)(Q Z W:Nat)(V:Ab)(U X:Int)(Y:Ab):Pp fu call T S (Q+1) Z W V U X Y=(Bd (decide (X<U)) (At (decide (0<=X)&&decide (X<(↑W:Int)))<|M0 3 (V.getD (X.toNat*1) .top) fun a b c=>Bd (decide ((↑Z:Int)>512)) (At (decide (Z*3<=Y.length))<|Bk (call 106 [.own 3 Z (Y.take (Z*3))]) fun a b=>Xi 3 a fun a c e=>D1 .i64 e fun e=>Aq b<|At (decide (a*3<=c.length))<|Bv [.own 3 a (c.take (a*3)),e]) (At (decide (Z*3<=Y.length)&&decide (c.length=b*3)&&decide ((Z+b)*32<=1099511627776)&&decide (Z+b<=1099511627776))<|Aa (Z+b) fun a=>Aa (List.take (Z*3) Y++c) fun b=>Aa (wrap .i64 (X+1)) fun c=>Pp fu call T S Q a W V U c b)) (At (decide (Z*3<=Y.length))<|Bk (call 106 [.own 3 Z (Y.take (Z*3))]) fun a b=>Xi 3 a fun a c e=>D1 .i64 e fun e=>Aq b<|At (decide (a*3<=c.length))<|Bv [.own 3 a (c.take (a*3)),e])):=by kernel_rfl
theorem YF(Z:Nat)(Y:Ab):F1 C0 fu d 63 [Ai 1 Z Y] fun call=>J1 .i64 (call 105 [Ai 1 Z Y]) fun a=>Bd (a != 0) (Bv [.own 3 0 [],a]) (Aa (wrap .u64 (↑Z:Int)) fun a=>Pp fu call Z Y fu 1 Z Y (↑Z:Int) 0 ([(5:Int),Ac a,.sc (.string (ByteArray.mk #[]))])):=by show _=_;kernel_rfl
def Nl(Z:Nat)(Y:Ab)(X W V:Nat)(U:Ab)(T S:Int)(Q:Ab):Option Dl:=Lu fu call 65 Tryz.f65 [Ai 3 Z Y] [.r,.r,.r,.l,.r,.l] X ⟨lk [(5,.view 5 1 0 W),(13,Ai 3 V U),(14,T),(15,S)],Bq [(5,.ar false Q)]⟩
theorem V3(T:Nat)(S:Ab)(Q Y V:Nat)(X:Ab)(U Z:Int)(W:Ab):Nl fu call T S (Q+1) Y V X U Z W=(Bd (decide (Z<U)) (At (decide (0<=Z)&&decide (Z<(↑V:Int)))<|A8 .i64 (X.getD (Z.toNat*3) .top) fun a=>A8 .u64 (X.getD (Z.toNat*3+1) .top) fun b=>Ez (X.getD (Z.toNat*3+1+1) .top) fun c=>At (decide (Y*1<=W.length))<|Bk (call 108 [.own 1 Y (W.take (Y*1)),.agg [a,Ac b,.sc (.string c)]]) fun a b=>Xi 1 a fun a c e=>Aq e<|Aq b<|Aa (wrap .i64 (Z+1)) fun b=>Nl fu call T S Q a V X U b c) (At (decide (Y*1<=W.length))<|Bv [.own 1 Y (W.take (Y*1)),(0:Int)])):=by kernel_rfl
theorem UC(Z:Nat)(Y:Ab):F1 C0 fu d 65 [Ai 3 Z Y] fun call=>J1 .i64 (call 107 [Ai 3 Z Y]) fun a=>Bd (a != 0) (Bv [.own 1 0 [],a]) (Nl fu call Z Y fu 0 Z Y (↑Z:Int) 0 ([])):=by show _=_;kernel_rfl
end
section
variable {xs:FuncId->Option (Ab->Option Dl)}(fu d:Nat)(call:Bi)
def Dy(Z Y:Int)(X:ByteArray)(W:Nat)(V U:Int):Option Dl:=Lu fu call 127 Tryz.f127 [.agg [Z,Ac Y,.sc (.string X)]] [.r,.r,.r] W ⟨lk [(3,Ac V),(4,.sc (.int .u8 U))],Bq []⟩
theorem Yt(W V:Int)(U:ByteArray)(X:Nat)(Ld:0<X)(Z Y:Int):Dy fu call W V U X Z Y=(Bd (decide (Z<24)) (Aa (wrap .u8 Z) fun a=>Aa (wrap .u8 (Y+a)) fun a=>Bv [.own 1 1 [.sc (.int .u8 a)]]) (Bd (decide (Z<256)) (Aa (wrap .u8 (Y+24)) fun a=>Aa (wrap .u8 Z) fun b=>Bv [.own 1 2 [.sc (.int .u8 a),.sc (.int .u8 b)]]) (Bd (decide (Z<65536)) (Aa (wrap .u8 (Y+25)) fun a=>Aa (Ff .u64 Z 8) fun b=>Aa (wrap .u8 b) fun b=>Aa (wrap .u8 Z) fun c=>Bv [.own 1 3 [.sc (.int .u8 a),.sc (.int .u8 b),.sc (.int .u8 c)]]) (Bd (decide (Z<4294967296)) (Aa (wrap .u8 (Y+26)) fun a=>Aa (Ff .u64 Z 24) fun b=>Aa (wrap .u8 b) fun b=>Aa (Ff .u64 Z 16) fun c=>Aa (wrap .u8 c) fun c=>Aa (Ff .u64 Z 8) fun e=>Aa (wrap .u8 e) fun e=>Aa (wrap .u8 Z) fun f=>Bv [.own 1 5 [.sc (.int .u8 a),.sc (.int .u8 b),.sc (.int .u8 c),.sc (.int .u8 e),.sc (.int .u8 f)]]) (Aa (wrap .u8 (Y+27)) fun a=>Eb (call 79 [Ai 1 1 [Ac Z]]) fun b c=>Kn 1 b fun b e=>Aq c<|At (decide (0+b*1<=e.length))<|At (decide (List.length (List.take (b*1) (e.drop 0))=b*1)&&decide ((1+b)*1<=1099511627776)&&decide (1+b<=1099511627776))<|Aa (1+b) fun c=>Aa ([.sc (.int .u8 a)]++List.take (b*1) (e.drop 0)) fun a=>At (decide (c*1<=a.length))<|Bv [.own 1 c (a.take (c*1))]))))):=by cases X with|zero=>exact absurd Ld (Nat.lt_irrefl 0)|succ X=>kernel_rfl
theorem DU(Z Y:Int)(X:ByteArray):F1 C0 fu d 127 [.agg [Z,Ac Y,.sc (.string X)]] fun call=>Bd (Z==7) (Aa (wrap .u8 Y) fun a=>Aa (wrap .u8 (244+a)) fun a=>Bv [.own 1 1 [.sc (.int .u8 a)]]) (Bd (Z==8) (Bv [.own 1 1 [.sc (.int .u8 246)]]) (Bd (Z==2) (Dy fu call Z Y X fu Y 32) (Bd (Z==3) (Aa (wrap .u64 (↑(ByteArray.size X):Int)) fun a=>Dy fu call Z Y X fu a 64) (Bd (Z==4) (Aa (wrap .u64 (↑(ByteArray.size X):Int)) fun a=>Dy fu call Z Y X fu a 96) (Bd (Z==5) (Dy fu call Z Y X fu Y 128) (Bd (Z==6) (Dy fu call Z Y X fu Y 160) (Dy fu call Z Y X fu Y 0))))))):=by show _=_;kernel_rfl
theorem BQ(Y X:Int)(Z:ByteArray):F1 C0 fu d 99 [.agg [Y,Ac X,.sc (.string Z)]] fun call=>Eb (call 127 [.agg [Y,Ac X,.sc (.string Z)]]) fun a b=>Kn 1 a fun a c=>Aq b<|At (decide (0+a*1<=c.length))<|At (decide (List.length (List.take (a*1) (c.drop 0))=a))<|Gi (bytesOf (List.take (a*1) (c.drop 0))) fun a=>At (decide (ByteArray.size (ByteArray.mk (List.toArray a))+ByteArray.size Z<=9223372036854775807))<|Aa (ByteArray.mk (List.toArray a)++Z) fun a=>Bv [.sc (.string a)]:=by show _=_;kernel_rfl
end
def Mi(s:ByteArray):Cg:=s.data.toList.map fun b=>(b.toNat:Int)
def Cf(l:Cg):ByteArray:=⟨(l.map fun n=>n.toNat.toUInt8).toArray⟩
theorem Sj(s:ByteArray):(Mi s).length=s.size:=by unfold Mi;rw[List.length_map];rfl
theorem Ag2(s:ByteArray):Mn (Mi s):=by intro x hx;obtain⟨b,_,rfl⟩:=List.mem_map.1 hx;have:=b.toNat_lt;omega
theorem P6(s:ByteArray):Ej s=Ad .u8 (Mi s):=by
 unfold Ej Mi
 induction s.data.toList with
 |nil=>rfl
 |cons b l ih=>rw[Rz,Rz,ih];rfl
theorem K7(l:Cg):(Cf l).size=l.length:=by show (l.map fun n=>n.toNat.toUInt8).toArray.size=_;simp
theorem Rh{l:Cg}(h:Mn l):Mi (Cf l)=l:=by
 unfold Mi Cf;simp only[List.map_map]
 have:∀l:Cg,Mn l->List.map ((fun b:UInt8=>(b.toNat:Int)) ∘ fun n:Int=>n.toNat.toUInt8) l=l:=by
  intro l
  induction l with
  |nil=>intro _;rfl
  |cons x l ih=>
   intro h;have hx:=h x (by simp);rw[Rz,ih fun y hy=>h y (by simp[hy])]
   congr 1
   show ((x.toNat.toUInt8.toNat:Nat):Int)=x;rw[Nat.toUInt8,UInt8.toNat_ofNat'];omega
 exact this l h
theorem IJ(s:ByteArray):Cf (Mi s)=s:=by
 unfold Cf Mi;simp only[List.map_map]
 have:∀l:List UInt8,List.map ((fun n:Int=>n.toNat.toUInt8) ∘ fun b:UInt8=>(b.toNat:Int)) l=l:=by
  intro l
  induction l with
  |nil=>rfl
  |cons x l ih=>
   rw[Rz,ih]
   congr 1
   show ((x.toNat:Int).toNat).toUInt8=x;rw[Ij];simp
 rw[this]
theorem I1:∀l:Cg,bytesOf (Ad .u8 l)=some (l.map fun n=>n.toNat.toUInt8)
 |[]=>rfl
 |x::l=>by
  show (bytesOf (Ad .u8 l)).map (x.toNat.toUInt8 :: ·)=_;rw[I1 l];rfl
theorem Ac9(l:Cg)(s:ByteArray):Cf l++s=Cf (l++Mi s):=by
 conv=>lhs;rw[<-IJ s]
 unfold Cf;apply ByteArray.ext;rw[ByteArray.data_append];simp
def tb(n:Int)(k:Nat):Cg:=(List.range' (8-k) k).map (Dz n)
def Dk(mj n:Int):Cg:=
 if n<24 then [32*mj+n] else if n<256 then (32*mj+24)::tb n 1 else if n<65536 then (32*mj+25)::tb n 2 else if n<4294967296 then (32*mj+26)::tb n 4 else (32*mj+27)::tb n 8
structure It where
 k:Int
 n:Int
 s:ByteArray
def It.cells(x:It):Ab:=[Ao x.k,Ac x.n,.sc (.string x.s)]
def Cs(x:It):Cg:=
 if x.k=7 then [wrap .u8 (244+wrap .u8 x.n)] else if x.k=8 then [246] else if x.k=3 then Dk 2 x.s.size++Mi x.s else if x.k=4 then Dk 3 x.s.size++Mi x.s else Dk (x.k-1) x.n
theorem ET(n:Int)(k:Nat):(tb n k).length=k:=by simp[tb]
theorem A61(n:Int)(k:Nat):Mn (tb n k):=by intro x hx;obtain⟨j,_,rfl⟩:=List.mem_map.1 hx;exact Adx n j
theorem Jn(mj n:Int):1<=(Dk mj n).length/\(Dk mj n).length<=9:=by
 unfold Dk
 repeat' split
 all_goals simp[ET]
theorem YZ{mj n:Int}(h0:0<=mj)(h1:mj<=6)(hn:0<=n):Mn (Dk mj n):=by
 have hc:∀(a:Int) (l:Cg),0<=a/\a<=255->Mn l->Mn (a::l):=by
  intro a l ha hl x hx;rcases Bx.1 hx with rfl|hx
  ·exact ha
  ·exact hl x hx
 unfold Dk
 repeat' split
 ·exact hc _ _ (by omega) (fun _ h=>by simp at h)
 all_goals exact hc _ _ (by omega) (A61 _ _)
theorem Ah1{x:It}(h0:1<=x.k)(h1:x.k<=8)(hn:0<=x.n):Mn (Cs x):=by
 have A2t:∀(a b:Cg),Mn a->Mn b->Mn (a++b):=by
  intro a b ha hb y hy;rcases Bu.1 hy with h|h
  ·exact ha y h
  ·exact hb y h
 unfold Cs
 repeat' split
 ·intro y hy;simp at hy;subst hy;simp only[wrap,IntKind.signed,IntKind.bits];simp;omega
 ·intro y hy;simp at hy;omega
 ·exact A2t _ _ (YZ (by omega) (by omega) (by omega)) (Ag2 _)
 ·exact A2t _ _ (YZ (by omega) (by omega) (by omega)) (Ag2 _)
 ·exact YZ (by omega) (by omega) hn
theorem VN(x:It):(Cs x).length<=9+x.s.size:=by
 unfold Cs;have h2:=Jn 2 x.s.size;have h3:=Jn 3 x.s.size;have h4:=Jn (x.k-1) x.n;have hs:=Sj x.s
 repeat' split
 all_goals try simp only[G8,G9,Vl]
 all_goals omega
section
variable {fu d:Nat}
theorem XG{call:Bi}{Ta:Nat}{a0:Ab}{a1 a2 n:Int}:∀(k nn:Nat)(l:Cg),k<=8->k<nn->l.length+k<=1000000 ->
  Ev fu call Ta a0 a1 a2 nn l.length n ((k:Int)-1) (Ad .u8 l)=some ⟨[.own 1 (l++tb n k).length (Ad .u8 (l++tb n k))],[]⟩
 |_,0,_,_,h,_=>by omega
 |0,nn+1,l,hk,hn,hl=>by
  have L:=Am .u8 l;rw[Qc,D0 _ _ _ (by omega)];simp(disch:=omega)only[B4,B3,Ec,Ob,L];simp[tb]
 |k+1,nn+1,l,hk,hn,hl=>by
  have ih:=XG (call:=call) (Ta:=Ta) (a0:=a0) (a1:=a1) (a2:=a2) (n:=n) k nn (l++[Dz n (8-(k+1))]) (by omega) (by omega) (by simp;omega)
  have L:=Am .u8 l;have w8:wrap .i64 (8*(((k+1:Nat):Int)-1))=8*(k:Int):=by rw[Ah (by omega) (by omega)];omega
  have w:wrap .i64 (((k+1:Nat):Int)-1-1)=(k:Int)-1:=by rw[Ah (by omega) (by omega)];omega
  have hb:wrap .u8 (Ff .u64 n (8*(k:Int)))=Dz n (8-(k+1)):=by
   unfold Dz;rw[show 56-8*((8-(k+1):Nat):Int)=8*(k:Int) by omega]
  have et:tb n (k+1)=Dz n (8-(k+1))::tb n k:=by
   unfold tb;rw[List.range'_succ,Rz,show 8-(k+1)+1=8-k by omega]
  have ea:l++tb n (k+1)=l++[Dz n (8-(k+1))]++tb n k:=by rw[et];simp
  rw[ea,<-ih,Qc];simp(disch:=omega)only[B4,B3,w8,hb,w,Ec,Ob,L,Hi,G8,G9,Vl,Cu]
theorem A5k{mj:Int}(h0:0<=mj)(h1:mj<=7):Iy .u8 mj 5=32*mj:=by
 have:mj=0\/mj=1\/mj=2\/mj=3\/mj=4\/mj=5\/mj=6\/mj=7:=by omega
 rcases this with rfl|rfl|rfl|rfl|rfl|rfl|rfl|rfl<;>decide
theorem Ai9(Bo:1000<=fu){l:Cg}(hl:l.length<=900000){mj n:Int}(h0:0<=mj)(h1:mj<=5)(hn:0<=n):Ap C0 prog fu (d+1) 133 [.own 1 l.length (Ad .u8 l),.sc (.int .u8 mj),Ac n]=some ⟨[.own 1 (l++Dk mj n).length (Ad .u8 (l++Dk mj n))],[]⟩:=by
 rw[GS];have s5:=A5k h0 (by omega);have L:=Am .u8 l;have w24:wrap .u8 (32*mj+24)=32*mj+24:=Hp (by omega) (by omega);have w25:wrap .u8 (32*mj+25)=32*mj+25:=Hp (by omega) (by omega);have w26:wrap .u8 (32*mj+26)=32*mj+26:=Hp (by omega) (by omega);have w27:wrap .u8 (32*mj+27)=32*mj+27:=Hp (by omega) (by omega);have lp:=fun (k:Nat) (hk:k<=8) (b:Int)=>XG (fu:=fu) (call:=Ap C0 prog fu d) (Ta:=l.length) (a0:=Ad .u8 l) (a1:=mj) (a2:=n) (n:=n) k fu (l++[b]) hk (by omega) (by simp;omega)
 have ec:∀(b:Int) (t:Cg),l++b::t=l++[b]++t:=by intro b t;simp
 unfold Dk;by_cases c1:n<24
 ·have wn:wrap .u8 n=n:=Hp (by omega) (by omega);have ws:wrap .u8 (32*mj+n)=32*mj+n:=Hp (by omega) (by omega);have L1:=Am .u8 (l++[32*mj+n]);have t1:=Ob .u8 (l++[32*mj+n]);simp only[G8,G9,Vl,Cu] at L1 t1;rw[B7 c1];simp(disch:=omega)only[B4,B3,s5,wn,ws,Ec,Ob,L,Hi,L1,t1,G8,G9,Vl,Cu]
 ·by_cases c2:n<256
  ·have l1:=lp 1 (by omega) (32*mj+24);rw[show ((1:Nat):Int)-1=0 by omega] at l1;rw[Ba c1,B7 c2,ec,<-l1];simp(disch:=omega)only[B4,B3,s5,w24,Ec,Ob,L,Hi,G8,G9,Vl,Cu]
  ·by_cases c3:n<65536
   ·have l1:=lp 2 (by omega) (32*mj+25);rw[show ((2:Nat):Int)-1=1 by omega] at l1;rw[Ba c1,Ba c2,B7 c3,ec,<-l1];simp(disch:=omega)only[B4,B3,s5,w25,Ec,Ob,L,Hi,G8,G9,Vl,Cu]
   ·by_cases c4:n<4294967296
    ·have l1:=lp 4 (by omega) (32*mj+26);rw[show ((4:Nat):Int)-1=3 by omega] at l1;rw[Ba c1,Ba c2,Ba c3,B7 c4,ec,<-l1];simp(disch:=omega)only[B4,B3,s5,w26,Ec,Ob,L,Hi,G8,G9,Vl,Cu]
    ·have l1:=lp 8 (by omega) (32*mj+27);rw[show ((8:Nat):Int)-1=7 by omega] at l1;rw[Ba c1,Ba c2,Ba c3,Ba c4,ec,<-l1];simp(disch:=omega)only[B4,B3,s5,w27,Ec,Ob,L,Hi,G8,G9,Vl,Cu]
structure It.ok(x:It):Prop where
 k1:1<=x.k
 k8:x.k<=8
 n0:0<=x.n
 s0:x.s.size<=500000
theorem Ail(Bo:1000<=fu){l:Cg}(hl:l.length<=300000){x:It}(hx:x.ok):Ap C0 prog fu (d+2) 108 [.own 1 l.length (Ad .u8 l),.agg x.cells]=some ⟨[.own 1 (l++Cs x).length (Ad .u8 (l++Cs x))],[]⟩:=by
 obtain⟨k,n,s⟩:=x;obtain⟨k1,k8,n0,s0⟩:=hx;simp only at k1 k8 n0 s0;refine (GH fu (d+1) l.length (Ad .u8 l) k n s).trans ?_;have L:=Am .u8 l;have OM:=Sj s;unfold Cs;simp only;by_cases c7:k=7
 ·subst c7;have L1:=Am .u8 (l++[wrap .u8 (244+wrap .u8 n)]);have t1:=Ob .u8 (l++[wrap .u8 (244+wrap .u8 n)]);simp only[G8,G9,Vl,Cu] at L1 t1;simp(disch:=omega)only[B4,B3,Ga,if_true,Ec,Ob,L,Hi,L1,t1,G8,G9,Vl,Cu]
 ·by_cases c8:k=8
  ·subst c8;have L1:=Am .u8 (l++[246]);have t1:=Ob .u8 (l++[246]);simp only[G8,G9,Vl,Cu] at L1 t1;rw[Ba c7,B7 rfl];simp(disch:=omega)only[B4,B3,Ga,c7,if_false,if_true,Ec,Ob,L,Hi,L1,t1,G8,G9,Vl,Cu]
  ·have dat:∀mj:Int,0<=mj->mj<=5->(Ap C0 prog fu (d+1) 133 [.own 1 l.length (Ad .u8 l),.sc (.int .u8 mj),Ac s.size]=some ⟨[.own 1 (l++Dk mj s.size).length (Ad .u8 (l++Dk mj s.size))],[]⟩)/\(l++Dk mj s.size).length<=300009/\List.take (l++Dk mj s.size).length (Ad .u8 (l++Dk mj s.size))=Ad .u8 (l++Dk mj s.size)/\(Ad .u8 (l++Dk mj s.size)).length=(l++Dk mj s.size).length/\Ad .u8 (l++Dk mj s.size)++Ej s=Ad .u8 (l++(Dk mj s.size++Mi s))/\(l++(Dk mj s.size++Mi s)).length=(l++Dk mj s.size).length+s.size/\(Ad .u8 (l++(Dk mj s.size++Mi s))).length=(l++Dk mj s.size).length+s.size:=by
    intro mj h0 h1;have hh:=Jn mj s.size;refine⟨Ai9 Bo (by omega) h0 h1 (by omega),by rw[G8];omega,Ob _ _,Am _ _,?_,?_,?_⟩
    ·rw[P6,<-IU,Ad,Ad,Ad,List.flatMap_append (xs:=l++Dk mj s.size)]
    ·rw[<-IU,G8,OM]
    ·rw[Am,<-IU,G8,OM]
   have ss:(Ej s).length=s.size:=by rw[P6,Am,OM]
   have wsz:wrap .u64 (s.size:Int)=s.size:=Cm (by omega) (by omega);rw[Ba c7,Ba c8];by_cases c3:k=3
   ·subst c3;obtain⟨p1,p2,p3,p4,p5,p6,p7⟩:=dat 2 (by omega) (by omega);have w1:wrap .i64 ((3:Int)-1)=2:=by decide
    have w2:wrap .u8 (2:Int)=2:=by decide
    have t1:List.take ((l++Dk 2 s.size).length+s.size) (Ad .u8 (l++(Dk 2 s.size++Mi s)))=Ad .u8 (l++(Dk 2 s.size++Mi s)):=I9 (by omega);rw[B7 rfl];simp(disch:=omega)only[B4,B3,Ga,c7,c8,if_false,if_true,w1,w2,wsz,Ec,Ob,L,p1];generalize (l++Dk 2 s.size).length=N at *
    simp(disch:=omega)only[B4,B3,Ec,p3,p4,p5,p7,t1,ss];rw[p6]
   ·by_cases c4:k=4
    ·subst c4;obtain⟨p1,p2,p3,p4,p5,p6,p7⟩:=dat 3 (by omega) (by omega);have w1:wrap .i64 ((4:Int)-1)=3:=by decide
     have w2:wrap .u8 (3:Int)=3:=by decide
     have t1:List.take ((l++Dk 3 s.size).length+s.size) (Ad .u8 (l++(Dk 3 s.size++Mi s)))=Ad .u8 (l++(Dk 3 s.size++Mi s)):=I9 (by omega);rw[Ba c3,B7 rfl];simp(disch:=omega)only[B4,B3,Ga,c7,c8,c3,if_false,if_true,w1,w2,wsz,Ec,Ob,L,p1];generalize (l++Dk 3 s.size).length=N at *
     simp(disch:=omega)only[B4,B3,Ec,p3,p4,p5,p7,t1,ss];rw[p6]
    ·have w1:wrap .i64 (k-1)=k-1:=Ah (by omega) (by omega);have w2:wrap .u8 (k-1)=k-1:=Hp (by omega) (by omega);have p1:=Ai9 (fu:=fu) (d:=d) Bo (l:=l) (by omega) (mj:=k-1) (n:=n) (by omega) (by omega) n0;have L2:=Am .u8 (l++Dk (k-1) n);have t2:=Ob .u8 (l++Dk (k-1) n);rw[Ba c3,Ba c4];simp(disch:=omega)only[B4,B3,Ga,c7,c8,c3,c4,if_false,w1,w2,Ec,Ob,L,p1,L2,t2]
end
section
variable {xs:FuncId->Option (Ab->Option Dl)}(fu d:Nat)(call:Bi)
theorem Yr(Z Y X:Int):F1 C0 fu d 51 [Z,Y,X] fun call=>Bd (decide (Z>=Y)) (Bv [.sc (.bool (decide (Z<=X)))]) (Bv [.sc (.bool false)]):=by show _=_;kernel_rfl
theorem AM(Z:Int):F1 C0 fu d 56 [Z] fun call=>Aa (wrap .u64 Z) fun a=>Bv [.agg [(5:Int),Ac a,.sc (.string (ByteArray.mk #[]))]]:=by show _=_;kernel_rfl
theorem BW(Z:ByteArray):F1 C0 fu d 97 [.sc (.string Z)] fun call=>Bv [.agg [(4:Int),Ac 0,.sc (.string Z)]]:=by show _=_;kernel_rfl
theorem Yw(Z:Int):F1 C0 fu d 57 [Ac Z] fun call=>Bv [.agg [(1:Int),Ac Z,.sc (.string (ByteArray.mk #[]))]]:=by show _=_;kernel_rfl
theorem CI(Y:Nat)(Z:Ab):F1 C0 fu d 98 [Ai 1 Y Z] fun call=>At (decide (Z.length=Y))<|Gi (bytesOf Z) fun a=>Bv [.agg [(3:Int),Ac 0,.sc (.string (ByteArray.mk (List.toArray a)))]]:=by show _=_;kernel_rfl
def Hn(Z:Nat)(Y:Ab)(X W:Nat)(V:Ab)(U:Nat)(T:Int)(S:Ab):Option Dl:=Lu fu call 59 Tryz.f59 [Ai 3 Z Y] [.r,.r,.l,.r,.l] X ⟨lk [(0,Ai 3 W V),(3,.view 3 1 0 U),(4,T)],Bq [(3,.ar false S)]⟩
theorem M6(U:Nat)(T:Ab)(S V:Nat)(X:Ab)(Z:Nat)(Y:Int)(W:Ab):Hn fu call U T (S+1) V X Z Y W=(Bd (decide (Y<(↑V:Int))) (At (decide (0<=Y)&&decide (Y<(↑V:Int)))<|A8 .i64 (X.getD (Y.toNat*3) .top) fun a=>A8 .u64 (X.getD (Y.toNat*3+1) .top) fun b=>Ez (X.getD (Y.toNat*3+1+1) .top) fun c=>Eb (call 99 [.agg [a,Ac b,.sc (.string c)]]) fun a b=>Ez a fun a=>Aq b<|At (decide (Z*1<=W.length)&&decide (List.length (Ej a)=ByteArray.size a*1)&&decide ((Z+ByteArray.size a)*1<=1099511627776)&&decide (Z+ByteArray.size a<=1099511627776))<|Aa (Z+ByteArray.size a) fun b=>Aa (List.take (Z*1) W++Ej a) fun a=>Aa (wrap .i64 (Y+1)) fun c=>Hn fu call U T S V X b c a) (At (decide (Z*1<=W.length))<|Bv [.own 1 Z (W.take (Z*1))])):=by kernel_rfl
theorem AC(Z:Nat)(Y:Ab):F1 C0 fu d 59 [Ai 3 Z Y] fun call=>Hn fu call Z Y fu Z Y 0 0 ([]):=by show _=_;kernel_rfl
end
def V8(x:It):Cg:=
 if x.k=7 then [wrap .u8 (244+wrap .u8 x.n)] else if x.k=8 then [246] else if x.k=3 then Dk 2 x.s.size else if x.k=4 then Dk 3 x.s.size else Dk (x.k-1) x.n
def It.dat(x:It):Prop:=x.k=3\/x.k=4\/Mi x.s=[]
theorem Akt{x:It}(h:x.dat):Cs x=V8 x++Mi x.s:=by
 unfold Cs V8;by_cases c7:x.k=7
 ·rcases h with h|h|h
  ·omega
  ·omega
  ·simp[c7,h]
 ·by_cases c8:x.k=8
  ·rcases h with h|h|h
   ·omega
   ·omega
   ·simp[c8,h]
  ·by_cases c3:x.k=3
   ·simp[c3]
   ·by_cases c4:x.k=4
    ·simp[c4]
    ·rcases h with h|h|h
     ·omega
     ·omega
     ·simp[c7,c8,c3,c4,h]
theorem Aka(x:It):(V8 x).length<=9:=by
 have h2:=Jn 2 x.s.size;have h3:=Jn 3 x.s.size;have h4:=Jn (x.k-1) x.n;unfold V8
 repeat' split
 all_goals try simp only[G9,Vl]
 all_goals omega
theorem Aov(v:Int):Ff .u64 v 0=v:=by
 show v.fdiv (2 ^ (min (0:Int).toNat IntKind.u64.bits))=v;have:(2:Int) ^ (min (0:Int).toNat IntKind.u64.bits)=1:=by decide
 rw[this,Int.fdiv_one]
theorem tb1(v:Int):tb v 1=[wrap .u8 v]:=by show [wrap .u8 (Ff .u64 v (56-8*((7:Nat):Int)))]=_;rw[show (56:Int)-8*((7:Nat):Int)=0 by omega,Aov]
theorem tb2(v:Int):tb v 2=[wrap .u8 (Ff .u64 v 8),wrap .u8 v]:=by show [wrap .u8 (Ff .u64 v (56-8*((6:Nat):Int))),wrap .u8 (Ff .u64 v (56-8*((7:Nat):Int)))]=_;rw[show (56:Int)-8*((7:Nat):Int)=0 by omega,show (56:Int)-8*((6:Nat):Int)=8 by omega,Aov]
theorem tb4(v:Int):tb v 4=[wrap .u8 (Ff .u64 v 24),wrap .u8 (Ff .u64 v 16),wrap .u8 (Ff .u64 v 8),wrap .u8 v]:=by show [wrap .u8 (Ff .u64 v (56-8*((4:Nat):Int))),wrap .u8 (Ff .u64 v (56-8*((5:Nat):Int))),wrap .u8 (Ff .u64 v (56-8*((6:Nat):Int))),wrap .u8 (Ff .u64 v (56-8*((7:Nat):Int)))]=_;rw[show (56:Int)-8*((7:Nat):Int)=0 by omega,show (56:Int)-8*((6:Nat):Int)=8 by omega,show (56:Int)-8*((5:Nat):Int)=16 by omega,show (56:Int)-8*((4:Nat):Int)=24 by omega,Aov]
theorem tb8(v:Int):tb v 8=Ew v:=rfl
section
variable {fu d:Nat}
theorem Apg(Bo:1000<=fu){k n:Int}{s:ByteArray}{nn:Nat}(hn:0<nn){mj v:Int}(h0:0<=mj)(h1:mj<=5)(hv:0<=v):
  Dy fu (Ap C0 prog fu (d+1)) k n s nn v (32*mj)=some ⟨[.own 1 (Dk mj v).length (Ad .u8 (Dk mj v))],[]⟩:=by
 rw[Yt (Ld:=hn)];have w24:wrap .u8 (32*mj+24)=32*mj+24:=Hp (by omega) (by omega);have w25:wrap .u8 (32*mj+25)=32*mj+25:=Hp (by omega) (by omega);have w26:wrap .u8 (32*mj+26)=32*mj+26:=Hp (by omega) (by omega);have w27:wrap .u8 (32*mj+27)=32*mj+27:=Hp (by omega) (by omega);unfold Dk;by_cases c1:v<24
 ·have wn:wrap .u8 v=v:=Hp (by omega) (by omega);have ws:wrap .u8 (32*mj+v)=32*mj+v:=Hp (by omega) (by omega);rw[B7 c1];simp(disch:=omega)only[B4,B3,wn,ws];rfl
 ·by_cases c2:v<256
  ·rw[Ba c1,B7 c2,tb1];simp(disch:=omega)only[B4,B3,w24];rfl
  ·by_cases c3:v<65536
   ·rw[Ba c1,Ba c2,B7 c3,tb2];simp(disch:=omega)only[B4,B3,w25];rfl
   ·by_cases c4:v<4294967296
    ·rw[Ba c1,Ba c2,Ba c3,B7 c4,tb4];simp(disch:=omega)only[B4,B3,w26];rfl
    ·have wd:=Axp (fu:=fu) (d:=d) Bo v;have L:=Am .u8 (Ew v);rw[Gp] at L;have t8:List.take 8 (Ad .u8 (Ew v))=Ad .u8 (Ew v):=I9 (by omega);have eC:[PV.sc (.int .u8 (32*mj+27))]++Ad .u8 (Ew v)=Ad .u8 ((32*mj+27)::Ew v):=rfl;have L9:(Ad .u8 ((32*mj+27)::Ew v)).length=9:=by rw[Am,G9,Gp]
     have t9:List.take 9 (Ad .u8 ((32*mj+27)::Ew v))=Ad .u8 ((32*mj+27)::Ew v):=I9 (by omega);rw[Ba c1,Ba c2,Ba c3,Ba c4,tb8,G9,Gp];simp(disch:=omega)only[B4,B3,w27,wd,Ec,Cu,Fi,L,t8,eC,Nat.reduceAdd,L9,t9]
theorem Ano(Bo:1000<=fu){x:It}(hx:x.ok):Ap C0 prog fu (d+2) 127 [.agg x.cells]=some ⟨[.own 1 (V8 x).length (Ad .u8 (V8 x))],[]⟩:=by
 obtain⟨k,n,s⟩:=x;obtain⟨k1,k8,n0,s0⟩:=hx;simp only at k1 k8 n0 s0;refine (DU fu (d+1) k n s).trans ?_;have wsz:wrap .u64 (s.size:Int)=s.size:=Cm (by omega) (by omega);have J:=fun (mj v:Int) (h0:0<=mj) (h1:mj<=5) (hv:0<=v)=>Apg (fu:=fu) (d:=d) Bo (k:=k) (n:=n) (s:=s) (nn:=fu) (by omega) h0 h1 hv;have j0:=J 0 n (by omega) (by omega) n0;have j1:=J 1 n (by omega) (by omega) n0;have j2:=J 2 s.size (by omega) (by omega) (by omega);have j3:=J 3 s.size (by omega) (by omega) (by omega);have j4:=J 4 n (by omega) (by omega) n0;have j5:=J 5 n (by omega) (by omega) n0;rw[show (32:Int)*0=0 by omega] at j0;rw[show (32:Int)*1=32 by omega] at j1;rw[show (32:Int)*2=64 by omega] at j2;rw[show (32:Int)*3=96 by omega] at j3;rw[show (32:Int)*4=128 by omega] at j4;rw[show (32:Int)*5=160 by omega] at j5;unfold V8;simp only
 have:k=1\/k=2\/k=3\/k=4\/k=5\/k=6\/k=7\/k=8:=by omega
 rcases this with rfl|rfl|rfl|rfl|rfl|rfl|rfl|rfl
 ·simp only[B4,B3,Ga,Int.reduceEq,if_true,if_false,Int.reduceSub,j0]
 ·simp only[B4,B3,Ga,Int.reduceEq,if_true,if_false,Int.reduceSub,j1]
 ·simp only[B4,B3,Ga,Int.reduceEq,if_true,if_false,Int.reduceSub,wsz,j2]
 ·simp only[B4,B3,Ga,Int.reduceEq,if_true,if_false,Int.reduceSub,wsz,j3]
 ·simp only[B4,B3,Ga,Int.reduceEq,if_true,if_false,Int.reduceSub,j4]
 ·simp only[B4,B3,Ga,Int.reduceEq,if_true,if_false,Int.reduceSub,j5]
 ·simp only[B4,B3,Ga,Int.reduceEq,if_true,if_false];rfl
 ·simp only[B4,B3,Ga,Int.reduceEq,if_true,if_false];rfl
theorem Ak7(Bo:1000<=fu){x:It}(hx:x.ok)(hd:x.dat):Ap C0 prog fu (d+3) 99 [.agg x.cells]=some ⟨[.sc (.string (Cf (Cs x)))],[]⟩:=by
 refine (BQ fu (d+2) x.k x.n x.s).trans ?_;have hr:=Ano (fu:=fu) (d:=d) Bo hx;have L:=Am .u8 (V8 x);have l9:=Aka x;have bo:=I1 (V8 x);have eA:ByteArray.mk (List.map (fun n:Int=>n.toNat.toUInt8) (V8 x)).toArray=Cf (V8 x):=rfl;have sz:=K7 (V8 x);have s0:=hx.s0;have ap:Cf (V8 x)++x.s=Cf (Cs x):=by rw[Ac9,Akt hd]
 simp only[It.cells] at hr;simp(disch:=omega)only[B4,B3,hr,Ec,Cu,Fi,Ob,L,bo,eA,sz,ap]
def A6(its:List It):Ab:=its.flatMap It.cells
theorem It.cells_len(x:It):x.cells.length=3:=rfl
def Bn(its:List It):Cg:=its.flatMap Cs
theorem KT{Ta:Nat}{a0:Ab}{its:List It}(hk:∀x∈its,x.ok/\x.dat)(hl:its.length<=1000)(Bo:1000<=fu):∀(r:List It)(i nn:Nat)(b:Cg),its.drop i=r->r.length<nn->b.length+500010*r.length<=1000000000 ->
  Hn fu (Ap C0 prog fu (d+3)) Ta a0 nn its.length (A6 its) b.length i (Ad .u8 b)=some ⟨[.own 1 (b++Bn r).length (Ad .u8 (b++Bn r))],[]⟩
 |_,_,0,_,_,h,_=>by omega
 |[],i,nn+1,b,h,hn,hb=>by
  have:=drop_nil h;have L:=Am .u8 b;rw[M6,D0 _ _ _ (by omega)];simp(disch:=omega)only[B4,B3,Ec,Ob,L];simp[Bn]
 |x::r,i,nn+1,b,h,hn,hb=>by
  obtain⟨h1,h2,h3⟩:=C1 h;simp only[G9] at hn hb;obtain⟨ok,dt⟩:=hk x (List.mem_of_getElem? h2);have hil:=VN x;have QM:=ok.s0;have g0:(A6 its).getD (i*3) .top=Ao x.k:=H4 It.cells_len h2 (j:=0) (by omega);have g1:(A6 its).getD (i*3+1) .top=Ac x.n:=H4 It.cells_len h2 (j:=1) (by omega);have g2:(A6 its).getD (i*3+1+1) .top=.sc (.string x.s):=H4 It.cells_len h2 (j:=2) (by omega);have by_:=Ak7 (fu:=fu) (d:=d) Bo ok dt;simp only[It.cells] at by_;have ih:=KT (Ta:=Ta) (a0:=a0) hk hl Bo r (i+1) nn (b++Cs x) h3 (by omega) (by rw[G8];omega)
  have w:wrap .i64 ((i:Int)+1)=((i+1:Nat):Int):=by rw[Ah (by omega) (by omega)];omega
  have L:=Am .u8 b;have hB:=Ah1 ok.k1 ok.k8 ok.n0;have sc:Ej (Cf (Cs x))=Ad .u8 (Cs x):=by rw[P6,Rh hB]
  have sz:=K7 (Cs x);have Li:=Am .u8 (Cs x);have ea:Ad .u8 b++Ad .u8 (Cs x)=Ad .u8 (b++Cs x):=by rw[Ad,Ad,Ad,List.flatMap_append]
  have ei:Bn (x::r)=Cs x++Bn r:=rfl;rw[ei,<-IU,<-ih,M6];simp(disch:=omega)only[B4,B3,Ij,g0,g1,g2,by_,sc,sz,Li,Ec,Ob,L,ea,w,G8]
theorem Alj{its:List It}(hk:∀x∈its,x.ok/\x.dat)(hl:its.length<=900)(Bo:1000<=fu):Ap C0 prog fu (d+4) 59 [.lst false 3 its.length (A6 its)]=some ⟨[.own 1 (Bn its).length (Ad .u8 (Bn its))],[]⟩:=by rw[AC];exact KT (fu:=fu) (d:=d) (Ta:=its.length) (a0:=A6 its) hk (by omega) Bo its 0 fu [] rfl (by omega) (by simp;omega)
end
structure Ce where
 subj:ByteArray
 iss:ByteArray
 serial:Int
 key:Ky
 fr:Int
 un:Int
 auth:Bool
 path:Int
 model:Int
 sig:Sg
def Ce.cells(c:Ce):Ab:=[.sc (.string c.subj),.sc (.string c.iss),Ac c.serial,Ao c.key.h,Ac c.key.root,Ao c.fr,Ao c.un,.sc (.bool c.auth),Ao c.path,Ac c.model,Ao c.sig.leaf,.lst false 1 c.sig.chains.length (Ad .u64 c.sig.chains),.lst false 1 c.sig.path.length (Ad .u64 c.sig.path)]
abbrev okS(s:ByteArray):Bool:=Lib.validD s.data.toList
abbrev N9:ByteArray:=⟨#[]⟩
structure Ce.wf(c:Ce):Prop where
 ser:0<=c.serial
 mod:0<=c.model
section
variable {fu d:Nat}
theorem Y6(s:ByteArray)(h:s.size<=9223372036854775807):Ap C0 prog fu (d+1) 126 [.sc (.string s)]=some ⟨[.sc (.bool (okS s))],[]⟩:=by show PI [.sc (.string s)]=_;unfold PI;simp[h]
theorem JW(n lo hi:Int):Ap C0 prog fu (d+1) 51 [Ao n,Ao lo,Ao hi]=some ⟨[.sc (.bool (decide (lo<=n)&&decide (n<=hi)))],[]⟩:=by
 rw[Yr];by_cases h:lo<=n
 ·simp(disch:=omega)only[B4,B3,h,decide_true,Zzm]
 ·simp(disch:=omega)only[B4,B3,h,decide_false,Zzs]
theorem Pe(n:Int)(h0:0<=n)(h1:n<=1000):Ap C0 prog fu (d+1) 56 [Ao n]=some ⟨[.agg [Ao 5,Ac n,.sc (.string N9)]],[]⟩:=by rw[AM];have w:wrap .u64 n=n:=Cm (by omega) (by omega);simp only[B4,B3,w]
theorem Anb(s:ByteArray):Ap C0 prog fu (d+1) 97 [.sc (.string s)]=some ⟨[.agg [Ao 4,Ac 0,.sc (.string s)]],[]⟩:=by rw[BW]
theorem Ph(n:Int):Ap C0 prog fu (d+1) 57 [Ac n]=some ⟨[.agg [Ao 1,Ac n,.sc (.string N9)]],[]⟩:=by rw[Yw]
theorem Aqb(l:Cg):Ap C0 prog fu (d+1) 98 [.lst false 1 l.length (Ad .u8 l)]=some ⟨[.agg [Ao 3,Ac 0,.sc (.string (Cf l))]],[]⟩:=by rw[CI];have L:=Am .u8 l;have bo:=I1 l;simp(disch:=omega)only[B4,B3,L,bo];rfl
end
def QG(s:Sg):Int:=if D6 s.path.length=true then 9 else if J8 s.leaf s.path.length=true then 9 else if s.chains.length≠18 then 4 else 0
theorem Aku{seed h leaf m:Int}{s:Sg}(e:HJ seed h leaf m=some s):s.chains.length=18/\s.path.length<=4:=by
 unfold HJ at e;split at e
 ·cases e
 ·rename_i hh;split at e
  ·cases e
  ·cases e;have:=I5 (by simpa using hh);simp[Ls];omega
section
variable {fu d:Nat}{c:Ce}
end
structure Hw where
 p:Bool
 left:Int
 last:Cg
def Hw.cells(f:Hw):Ab:=[.sc (.bool f.p),Ao f.left,.lst false 1 f.last.length (Ad .u8 f.last)]
def Gk(l:List Hw):Ab:=l.flatMap Hw.cells
theorem Hw.cells_len(f:Hw):f.cells.length=3:=rfl
theorem Dq(l:List Hw):(Gk l).length=l.length*3:=U6 Hw.cells_len l
theorem Ed(l:List Hw):List.take (l.length*3) (Gk l)=Gk l:=I9 (by rw[Dq];omega)
def Ti(l:List Hw):Bool:=match l.getLast? with|some f=>f.p&&(Int.tmod f.left 2==0)|none=>false
def Nb(l:List Hw)(cnt k:Int):Int:=
 if cnt>=512 then 8 else if k<1 then 3 else if k>8 then 3 else if Ti l=true/\k≠1/\k≠2/\k≠4 then 3 else if (l.length:Int)>8 then 5 else 0
abbrev Og(l:List Hw)(cnt:Int):Ab:=[.own 3 l.length (Gk l),Ao cnt]
section
variable {fu d:Nat}
theorem ZY(l:List Hw)(cnt:Int):Ap C0 prog fu (d+1) 87 [.pbox (Og l cnt)]=some ⟨[.sc (.bool (decide (cnt>0)&&((l.length:Int)==0)))],[Og l cnt]⟩:=by
 rw[JH];have L:=Dq l;have t:=Ed l;by_cases h:cnt>0
 ·simp(disch:=omega)only[B4,B3,h,decide_true,Zzm,L,t]
 ·simp(disch:=omega)only[B4,B3,h,decide_false,Zzs,L,t]
theorem OY{l:List Hw}(hl:l.length<=1000000)(cnt:Int):Ap C0 prog fu (d+1) 142 [.pbox (Og l cnt)]=some ⟨[.sc (.bool (Ti l))],[Og l cnt]⟩:=by
 rw[GL];have L:=Dq l;have t:=Ed l;unfold Ti;rcases List.eq_nil_or_concat l with rfl|⟨l',f,rfl⟩
 ·have e0:¬(((([]:List Hw).length:Nat):Int)>0):=by simp
  simp (disch:=first|assumption|omega) only[B4,B3,L,t]
  first|done|rfl
 ·have hn:(l'.concat f).length=l'.length+1:=by simp
  have hx:(l'.concat f)[l'.length]?=some f:=by simp
  have gl:(l'.concat f).getLast?=some f:=by simp
  have w:wrap .i64 (((l'.concat f).length:Int)-1)=(l'.length:Int):=by rw[Ah (by omega) (by omega)];omega
  have g0:(Gk (l'.concat f)).getD (l'.length*3) .top=.sc (.bool f.p):=H4 Hw.cells_len hx (j:=0) (by omega);have g1:(Gk (l'.concat f)).getD (l'.length*3+1) .top=Ao f.left:=H4 Hw.cells_len hx (j:=1) (by omega);rw[gl];cases hp:f.p
  ·rw[hp] at g0;simp(disch:=omega)only[B4,B3,w,Ij,Cu,GD,g0,L,t,hp,Zzs]
  ·rw[hp] at g0;simp(disch:=omega)only[B4,B3,w,Ij,Cu,GD,g0,g1,L,t,hp,Zzm]
theorem Abj{l:List Hw}(hl:l.length<=1000000)(cnt k:Int):Ap C0 prog fu (d+2) 122 [.pbox (Og l cnt),Ao k]=some ⟨[Ao (Nb l cnt k)],[Og l cnt]⟩:=by
 refine (IG fu (d+1) l.length (Gk l) cnt k).trans ?_;have L:=Dq l;have t:=Ed l;have ak:=OY (fu:=fu) (d:=d) hl cnt;unfold Og at ak;unfold Nb;by_cases c1:cnt>=512
 ·rw[B7 c1];simp(disch:=omega)only[B4,B3,L,t]
 rw[Ba c1];by_cases c2:k<1
 ·rw[B7 c2];simp(disch:=omega)only[B4,B3,L,t]
 rw[Ba c2];by_cases c3:k>8
 ·rw[B7 c3];simp(disch:=omega)only[B4,B3,L,t]
 rw[Ba c3];cases ha:Ti l
 ·rw[ha] at ak;rw[Ba (by simp)];by_cases c5:(l.length:Int)>8
  ·rw[B7 c5];simp(disch:=omega)only[B4,B3,L,t,ak]
  ·rw[Ba c5];simp(disch:=omega)only[B4,B3,L,t,ak]
 ·rw[ha] at ak;by_cases c4:k≠1/\k≠2/\k≠4
  ·rw[B7 ⟨rfl,c4⟩];simp(disch:=omega)only[B4,B3,L,t,ak,Fb];rw[Ba c4.1,Ba c4.2.1,Ba c4.2.2]
  ·rw[Ba (fun h=>c4 h.2)];have hk:k=1\/k=2\/k=4:=by omega
   by_cases c5:(l.length:Int)>8
   ·rw[B7 c5];rcases hk with rfl|rfl|rfl<;>simp(disch:=omega)only[B4,B3,L,t,ak,Fb,Int.reduceEq,if_true,if_false]
   ·rw[Ba c5];rcases hk with rfl|rfl|rfl<;>simp(disch:=omega)only[B4,B3,L,t,ak,Fb,Int.reduceEq,if_true,if_false]
end
theorem Kf(l:List Hw):l=[]\/∃l' f,l=l'++[f]:=by
 rcases List.eq_nil_or_concat l with h|⟨a,b,h⟩
 ·exact .inl h
 ·exact .inr ⟨a,b,by simpa using h⟩
def HQ(l:List Hw):List Hw:=(l.reverse.dropWhile fun f=>f.left==0).reverse
theorem XR{l:List Hw}{f:Hw}(h:f.left=0):HQ (l++[f])=HQ l:=by unfold HQ;rw[List.reverse_append,List.reverse_singleton,List.singleton_append,List.dropWhile_cons_of_pos (by simp[h])]
theorem RG{l:List Hw}{f:Hw}(h:f.left≠0):HQ (l++[f])=l++[f]:=by unfold HQ;rw[List.reverse_append,List.reverse_singleton,List.singleton_append,List.dropWhile_cons_of_neg (by simp[h])];simp
def Xe(l:List Hw):List Hw:=match l.getLast? with|some f=>l.dropLast++[⟨f.p,wrap .i64 (f.left-1),f.last⟩]|none=>[]
def OW(l:List Hw)(x:It):List Hw:=
 if x.k=5/\x.n>0 then l++[⟨false,wrap .i64 x.n,[]⟩] else if x.k=6/\x.n>0 then l++[⟨true,wrap .i64 (2*wrap .i64 x.n),[]⟩] else l
def Hm(l:List Hw)(x:It):List Hw:=HQ (OW (Xe l) x)
theorem Ug(l:List Hw)(f:Hw):Xe (l++[f])=l++[⟨f.p,wrap .i64 (f.left-1),f.last⟩]:=by unfold Xe;simp
theorem FH(l:List Hw):(Xe l).length=l.length:=by
 rcases Kf l with rfl|⟨l',f,rfl⟩
 ·rfl
 ·rw[Ug];simp
theorem V9(a b:List Hw):Gk (a++b)=Gk a++Gk b:=by unfold Gk;rw[List.flatMap_append]
theorem Wz(f:Hw):Gk [f]=f.cells:=by unfold Gk;simp
section
variable {fu d:Nat}
theorem VF{call:Bi}{Ul:Nat}{Dc:Ab}{Cj CA CH:Int}{HF:ByteArray}{c:Int}:∀(n:Nat)(l:List Hw)(r:Ab)(nn:Nat),l.length=n->n<nn->n<=1000000 ->
  Be fu call Ul Dc Cj CA CH HF nn (l.length:Int) l.length c (Gk l++r)=some ⟨[],[Og (HQ l) c]⟩:=by
 intro n
 induction n with
 |zero=>
  intro l r nn hl hn _;obtain rfl:l=[]:=List.eq_nil_of_length_eq_zero hl;obtain⟨m,rfl⟩:∃m,nn=m+1:=⟨nn-1,by omega⟩
  have e0:¬(((([]:List Hw).length:Nat):Int)>0):=by simp
  have e1:([]:List Hw).length*3<=(Gk []++r).length:=by simp
  rw[Re];simp (disch:=first|assumption|omega) only[B4,B3];rfl
 |succ n ih=>
  intro l r nn hl hn hm;obtain⟨m,rfl⟩:∃m,nn=m+1:=⟨nn-1,by omega⟩
  rcases Kf l with rfl|⟨l',f,rfl⟩
  ·simp at hl
  have hn':(l'++[f]).length=l'.length+1:=by simp
  have hx:(l'++[f])[l'.length]?=some f:=by simp
  have w:wrap .i64 (((l'++[f]).length:Int)-1)=(l'.length:Int):=by rw[Ah (by omega) (by omega)];omega
  have L:=Dq (l'++[f]);have L2:(Gk (l'++[f])++r).length=(l'++[f]).length*3+r.length:=by rw[G8,L]
  have t:List.take ((l'++[f]).length*3) (Gk (l'++[f])++r)=Gk (l'++[f]):=by rw[<-L,List.take_left'];rfl
  have g1:(Gk (l'++[f])++r).getD (l'.length*3+1) .top=Ao f.left:=by
   have:=H4 (f:=Hw.cells) Hw.cells_len hx (j:=1) (by omega);rw[List.getD_eq_getElem?_getD,List.getElem?_append_left (by rw[L];omega),<-List.getD_eq_getElem?_getD]
   exact this
  rw[Re];by_cases hz:f.left=0
  ·have e:Gk (l'++[f])++r=Gk l'++(f.cells++r):=by rw[V9,Wz,IU]
   have q:=ih l' (f.cells++r) m (by omega) (by omega) (by omega);rw[<-e] at q;rw[XR hz];have hb:(f.left==(0:Int))=true:=by simp[hz]
   simp(disch:=omega)only[B4,B3,w,Ij,Cu,Nat.sub_zero,g1,hb,q]
  ·rw[RG hz];have hb:(f.left==(0:Int))=false:=by simp[hz]
   simp(disch:=omega)only[B4,B3,w,Ij,Cu,g1,hb,L2,t]
theorem Ah5{l:List Hw}{x:It}{cnt:Int}(hl:l.length<=100000)(hf:l.length+1<fu)(h0:0<=cnt)(h1:cnt<=1000000):
  Ap C0 prog fu (d+1) 144 [.pbox (Og l cnt),.agg x.cells]=some ⟨[],[Og (Hm l x) (cnt+1)]⟩:=by
 obtain⟨k,v,s⟩:=x;refine (KL fu d l.length (Gk l) cnt k v s).trans ?_;have w1:wrap .i64 (cnt+1)=cnt+1:=Ah (by omega) (by omega);unfold Hm OW;have DL:=FH l;generalize hD:Xe l=l1 at DL ⊢;have L1:(Gk l1).length=l.length*3:=by rw[Dq,DL]
 have t1:List.take (l.length*3) (Gk l1)=Gk l1:=I9 (by omega)
 have p5:∀b u,Gk l1++[.sc (.bool b),Ao u,.lst false 1 0 []]=Gk (l1++[⟨b,u,[]⟩]):=by
  intro b u;rw[V9,Wz];rfl
 have lp0:∀call,Be fu call l.length (Gk l) cnt k v s fu (l.length:Int) l.length (cnt+1) (Gk l1)=some ⟨[],[Og (HQ l1) (cnt+1)]⟩:=by
  intro call;have:=VF (fu:=fu) (call:=call) (Ul:=l.length) (Dc:=Gk l) (Cj:=cnt) (CA:=k) (CH:=v) (HF:=s) (c:=cnt+1) _ l1 [] fu rfl (by omega) (by omega);rw[List.append_nil,DL] at this;exact this
 have lp1:∀call f,Be fu call l.length (Gk l) cnt k v s fu ((l.length+1:Nat):Int) (l.length+1) (cnt+1) (Gk (l1++[f]))=some ⟨[],[Og (HQ (l1++[f])) (cnt+1)]⟩:=by
  intro call f;have ll:(l1++[f]).length=l.length+1:=by simp[DL]
  have:=VF (fu:=fu) (call:=call) (Ul:=l.length) (Dc:=Gk l) (Cj:=cnt) (CA:=k) (CH:=v) (HF:=s) (c:=cnt+1) _ (l1++[f]) [] fu rfl (by omega) (by omega);rw[List.append_nil,ll] at this;exact this
 rcases Kf l with rfl|⟨l',f,rfl⟩
 ·have e0:¬(((([]:List Hw).length:Nat):Int)>0):=by simp
  obtain rfl:l1=[]:=by rw[<-hD];rfl
  by_cases k5:k=5
  ·subst k5;by_cases hv:v>0
   ·rw[B7 ⟨rfl,hv⟩];simp (disch:=first|assumption|omega) only[B4,B3,w1,L1,t1,p5,lp1,Int.reduceBEq]
   ·rw[Ba (fun h=>hv h.2),Ba (fun h=>hv h.2)];simp (disch:=first|assumption|omega) only[B4,B3,w1,L1,t1,p5,lp0,Int.reduceBEq]
  ·have b5:(k==(5:Int))=false:=by simp[k5]
   rw[Ba (fun h=>k5 h.1)];by_cases k6:k=6
   ·subst k6;by_cases hv:v>0
    ·rw[B7 ⟨rfl,hv⟩];simp (disch:=first|assumption|omega) only[B4,B3,w1,L1,t1,p5,lp1,Int.reduceBEq]
    ·rw[Ba (fun h=>hv h.2)];simp (disch:=first|assumption|omega) only[B4,B3,w1,L1,t1,p5,lp0,Int.reduceBEq]
   ·have b6:(k==(6:Int))=false:=by simp[k6]
    rw[Ba (fun h=>k6 h.1)];simp (disch:=first|assumption|omega) only[B4,B3,w1,L1,t1,p5,lp0,b5,b6]
 ·have hn':(l'++[f]).length=l'.length+1:=by simp
  have hx:(l'++[f])[l'.length]?=some f:=by simp
  have w:wrap .i64 (((l'++[f]).length:Int)-1)=(l'.length:Int):=by rw[Ah (by omega) (by omega)];omega
  have L:=Dq (l'++[f]);have g1:(Gk (l'++[f])).getD (l'.length*3+1) .top=Ao f.left:=H4 Hw.cells_len hx (j:=1) (by omega)
  have sp:Bp (Gk (l'++[f])) [Ao (wrap .i64 (f.left-1))] (l'.length*3+1)=Gk l1:=by
   rw[Hh (by omega),<-hD,Ug,V9,V9,Wz,Wz];have:=Dq l';rw[List.set_append_right _ _ (by omega)];have:l'.length*3+1-(Gk l').length=1:=by omega
   rw[this];rfl
  by_cases k5:k=5
  ·subst k5;by_cases hv:v>0
   ·rw[B7 ⟨rfl,hv⟩];simp (disch:=first|assumption|omega) only[B4,B3,w,w1,Ij,Cu,g1,sp,L1,t1,p5,lp1,Int.reduceBEq]
   ·rw[Ba (fun h=>hv h.2),Ba (fun h=>hv h.2)];simp (disch:=first|assumption|omega) only[B4,B3,w,w1,Ij,Cu,g1,sp,L1,t1,p5,lp0,Int.reduceBEq]
  ·have b5:(k==(5:Int))=false:=by simp[k5]
   rw[Ba (fun h=>k5 h.1)];by_cases k6:k=6
   ·subst k6;by_cases hv:v>0
    ·rw[B7 ⟨rfl,hv⟩];simp (disch:=first|assumption|omega) only[B4,B3,w,w1,Ij,Cu,g1,sp,L1,t1,p5,lp1,Int.reduceBEq]
    ·rw[Ba (fun h=>hv h.2)];simp (disch:=first|assumption|omega) only[B4,B3,w,w1,Ij,Cu,g1,sp,L1,t1,p5,lp0,Int.reduceBEq]
   ·have b6:(k==(6:Int))=false:=by simp[k6]
    rw[Ba (fun h=>k6 h.1)];simp (disch:=first|assumption|omega) only[B4,B3,w,w1,Ij,Cu,g1,sp,L1,t1,p5,lp0,b5,b6]
end
def Abs(s:ByteArray):Bool:=Array.toList (ByteArray.data s)==Array.toList (ByteArray.data (ByteArray.mk #[]))
def L7(x:It):Bool:=
 if x.k=3 then x.n==0 else if x.k=4 then x.n==0 else if x.k=8 then (x.n==0)&&Abs x.s else if x.k=7 then decide (x.n<=1)&&Abs x.s else Abs x.s
section
variable {fu d:Nat}
theorem Amt(x:It):Ap C0 prog fu (d+1) 146 [.agg x.cells]=some ⟨[.sc (.bool (L7 x))],[]⟩:=by
 obtain⟨k,n,s⟩:=x;refine (UN fu d k n s).trans ?_;unfold L7;show _=some (⟨[.sc (.bool (if k=3 then n==0 else if k=4 then n==0 else if k=8 then (n==0)&&Abs s else if k=7 then decide (n<=1)&&Abs s else Abs s))],[]⟩:Dl);by_cases h3:k=3
 ·subst h3;simp only[B4,B3,Int.reduceBEq,if_true]
 by_cases h4:k=4
 ·subst h4;simp only[B4,B3,Int.reduceBEq,Int.reduceEq,if_true,if_false]
 have b3:(k==(3:Int))=false:=by simp[h3]
 have b4:(k==(4:Int))=false:=by simp[h4]
 by_cases h8:k=8
 ·subst h8;cases hn:n==0<;>simp only[B4,B3,Int.reduceBEq,Int.reduceEq,if_true,if_false,hn,Zzm,Zzs]<;>rfl
 have b8:(k==(8:Int))=false:=by simp[h8]
 by_cases h7:k=7
 ·subst h7;cases hn:decide (n<=1)<;>simp only[B4,B3,Int.reduceBEq,Int.reduceEq,if_true,if_false,hn,Zzm,Zzs]<;>rfl
 have b7:(k==(7:Int))=false:=by simp[h7]
 simp only[B4,B3,b3,b4,b8,b7,Ba h3,Ba h4,Ba h8,Ba h7];rfl
theorem LU{l:List Hw}{x:It}{cnt:Int}(hl:l.length<=1000)(hf:l.length+1<fu)(h0:0<=cnt)(h1:cnt<=1000000)(ha:Ti l=false)(hs:x.s.size<=100000)(hv:x.k=4->Lib.validD x.s.data.toList=true):
  Ap C0 prog fu (d+2) 123 [.pbox (Og l cnt),.agg x.cells]=some ⟨[Ao 0],[Og (Hm l x) (cnt+1)]⟩:=by
 have st:=Ah5 (fu:=fu) (d:=d) (l:=l) (x:=x) (cnt:=cnt) (by omega) hf h0 h1;have ak:=OY (fu:=fu) (d:=d) (l:=l) (by omega) cnt;have L:=Dq l;have t:=Ed l;have L2:=Dq (Hm l x);have t2:=Ed (Hm l x);rw[ha] at ak;generalize hE:Hm l x=E at *
 obtain⟨k,n,s⟩:=x;have va:=Y6 (fu:=fu) (d:=d) s (Nat.le_trans hs (by omega));unfold okS at va;refine (Mm fu (d+1) l.length (Gk l) cnt k n s).trans ?_;unfold Og It.cells at st;unfold Og at ak;by_cases k4:k=4
 ·subst k4;rw[hv rfl] at va;simp(disch:=omega)only[B4,B3,Int.reduceBEq,va,Dx,L,t,ak,st,L2,t2]
 ·have b4:(k==(4:Int))=false:=by simp[k4]
  simp(disch:=omega)only[B4,B3,b4,L,t,ak,st,L2,t2]
theorem Apq{l:List Hw}{x:It}{cnt:Int}(hl:l.length<=1000)(hf:l.length+1<fu)(h0:0<=cnt)(h1:cnt<=1000000)(ha:Ti l=false)(hs:x.s.size<=1024)(hv:x.k=4->Lib.validD x.s.data.toList=true)(hd:(decide (cnt>0)&&((l.length:Int)==0))=false)(hm:Nb l cnt x.k=0)(hsh:L7 x=true)(hn:x.n<=512\/(x.k≠5/\x.k≠6)):
  Ap C0 prog fu (d+3) 132 [.pbox (Og l cnt),.agg x.cells]=some ⟨[Ao 0],[Og (Hm l x) (cnt+1)]⟩:=by
 have ac:=LU (fu:=fu) (d:=d) (l:=l) (x:=x) (cnt:=cnt) hl hf h0 h1 ha (by omega) hv;have dn:=ZY (fu:=fu) (d:=d+1) l cnt;have ad:=Abj (fu:=fu) (d:=d) (l:=l) (by omega) cnt x.k;have sh:=Amt (fu:=fu) (d:=d+1) x;rw[hd] at dn;rw[hm] at ad;rw[hsh] at sh;have L:=Dq l;have t:=Ed l;have L2:=Dq (Hm l x);have t2:=Ed (Hm l x);generalize hE:Hm l x=E at *
 obtain⟨k,n,s⟩:=x;have hs':¬((s.size:Int)>1024):=by have:s.size<=1024:=hs;omega
 refine (CE fu (d+2) l.length (Gk l) cnt k n s).trans ?_;unfold Og It.cells at ac;unfold Og at dn ad;unfold It.cells at sh;by_cases k5:k=5
 ·subst k5;have hn':¬(n>512):=hn.elim (fun h=>Int.not_lt.2 h) (fun h=>absurd rfl h.1);simp (disch:=first|assumption|omega) only[B4,B3,Int.reduceBEq,dn,ad,sh,ac,Dx,L,t,L2,t2,bne_self_eq_false]
 have b5:(k==(5:Int))=false:=by simp[k5]
 by_cases k6:k=6
 ·subst k6;have hn':¬(n>512):=hn.elim (fun h=>Int.not_lt.2 h) (fun h=>absurd rfl h.2);simp (disch:=first|assumption|omega) only[B4,B3,Int.reduceBEq,dn,ad,sh,ac,Dx,L,t,L2,t2,bne_self_eq_false]
 have b6:(k==(6:Int))=false:=by simp[k6]
 simp (disch:=first|assumption|omega) only[B4,B3,b5,b6,dn,ad,sh,ac,Dx,L,t,L2,t2,bne_self_eq_false]
end
theorem Fa(l:List It):(A6 l).length=l.length*3:=U6 It.cells_len l
structure Axh(l:List Hw)(cnt:Int)(x:It):Prop where
 hl:l.length<=100
 h0:0<=cnt
 h1:cnt<=1000
 ha:Ti l=false
 hs:x.s.size<=1024
 hv:x.k=4->Lib.validD x.s.data.toList=true
 hd:(decide (cnt>0)&&((l.length:Int)==0))=false
 hm:Nb l cnt x.k=0
 hsh:L7 x=true
 hn:x.n<=512\/(x.k≠5/\x.k≠6)
def Q7:List Hw->Int->List It->Prop
 |l,cnt,[]=>l=[]/\cnt>0
 |l,cnt,x::r=>Axh l cnt x/\Q7 (Hm l x) (cnt+1) r
section
variable {fu d:Nat}
theorem TU(Bo:200<=fu){l:List It}(hl:l.length<=100000){Ta:Nat}{a0:Ab}:∀(r:List It)(i:Nat)(fs:List Hw)(cnt:Int)(nn:Nat),l.drop i=r->i+r.length=l.length->r.length<nn->Q7 fs cnt r ->
  K5 fu (Ap C0 prog fu (d+3)) Ta a0 nn l.length (A6 l) (l.length:Int) (i:Int) fs.length cnt (Gk fs)=some ⟨[Ao 0],[]⟩:=by
 intro r
 induction r with
 |nil=>
  intro i fs cnt nn hd hi hn hg;obtain⟨rfl,hc⟩:=hg;obtain⟨m,rfl⟩:∃m,nn=m+1:=⟨nn-1,by omega⟩
  rw[Vl,GD] at hi;rw[Td];have dn:=ZY (fu:=fu) (d:=d+2) [] cnt;have e:(decide (cnt>0)&&(((([]:List Hw).length:Nat):Int)==0))=true:=by simp[hc]
  rw[e] at dn;unfold Og at dn;have L:=Dq [];have t:=Ed [];have c:¬((i:Int)<(l.length:Int)):=by omega
  simp (disch:=first|assumption|omega) only[B4,B3,L,t,dn,Dx]
 |cons x r ih=>
  intro i fs cnt nn hd hi hn hg;obtain⟨g,hg⟩:=hg;obtain⟨m,rfl⟩:∃m,nn=m+1:=⟨nn-1,by omega⟩
  rw[G9] at hi hn
  have hx:l[i]?=some x:=by
   have:=congrArg (fun q=>q[0]?) hd
   simpa using this
  have hd':l.drop (i+1)=r:=by
   have:=congrArg (List.drop 1) hd;rw[List.drop_drop] at this
   simpa using this
  have q:=ih (i+1) (Hm fs x) (cnt+1) m hd' (by omega) (by omega) hg;have ck:=Apq (fu:=fu) (d:=d) (l:=fs) (x:=x) (cnt:=cnt) (by have:=g.hl;omega) (by have:=g.hl;omega) g.h0 (by have:=g.h1;omega) g.ha g.hs g.hv g.hd g.hm g.hsh g.hn
  generalize Hm fs x=E at *
  have g0:(A6 l).getD (i*3) .top=Ao x.k:=H4 It.cells_len hx (j:=0) (by omega);have g1:(A6 l).getD (i*3+1) .top=Ac x.n:=H4 It.cells_len hx (j:=1) (by omega);have g2:(A6 l).getD (i*3+1+1) .top=.sc (.string x.s):=H4 It.cells_len hx (j:=2) (by omega);have L:=Dq fs;have t:=Ed fs;have w:wrap .i64 ((i:Int)+1)=((i+1:Nat):Int):=by rw[Ah (by omega) (by omega)];omega
  rw[Td];unfold Og It.cells at ck;simp (disch:=first|assumption|omega) only[B4,B3,Ij,g0,g1,g2,L,t,ck,bne_self_eq_false,w,q]
theorem U7(Bo:200<=fu){l:List It}(hl:l.length<=100000)(hf:l.length<fu)(hg:Q7 [] 0 l):Ap C0 prog fu (d+4) 107 [.lst false 3 l.length (A6 l)]=some ⟨[Ao 0],[]⟩:=by rw[NY];exact TU Bo hl l 0 [] 0 fu rfl (by omega) hf hg
end
section
variable {fu d:Nat}
theorem Adh(Bo:1000<=fu){l:List It}(hl:l.length<=100000){Ta:Nat}{a0:Ab}:∀(r:List It)(i:Nat)(o:Cg)(nn:Nat),l.drop i=r->i+r.length=l.length->r.length<nn->(∀x∈r,x.ok)->(o++Bn r).length<=300000 ->
  Nl fu (Ap C0 prog fu (d+2)) Ta a0 nn o.length l.length (A6 l) (l.length:Int) (i:Int) (Ad .u8 o)=some ⟨[.own 1 (o++Bn r).length (Ad .u8 (o++Bn r)),Ao 0],[]⟩:=by
 intro r
 induction r with
 |nil=>
  intro i o nn hd hi hn hg hb;obtain⟨m,rfl⟩:∃m,nn=m+1:=⟨nn-1,by omega⟩
  rw[Vl,GD] at hi;have e:o++Bn []=o:=by simp[Bn]
  rw[e,V3];have L:(Ad .u8 o).length=o.length:=Am _ _;have t:List.take o.length (Ad .u8 o)=Ad .u8 o:=I9 (by omega);have c:¬((i:Int)<(l.length:Int)):=by omega
  simp (disch:=first|assumption|omega) only[B4,B3,Ec,L,t]
 |cons x r ih=>
  intro i o nn hd hi hn hg hb;obtain⟨m,rfl⟩:∃m,nn=m+1:=⟨nn-1,by omega⟩
  rw[G9] at hi hn
  have hx:l[i]?=some x:=by
   have:=congrArg (fun q=>q[0]?) hd
   simpa using this
  have hd':l.drop (i+1)=r:=by
   have:=congrArg (List.drop 1) hd;rw[List.drop_drop] at this
   simpa using this
  have e:o++Bn (x::r)=(o++Cs x)++Bn r:=by simp[Bn]
  rw[e] at hb ⊢
  have ho:o.length<=300000:=by
   rw[G8,G8] at hb;omega
  have q:=ih (i+1) (o++Cs x) m hd' (by omega) (by omega) (fun y hy=>hg y (Rw _ hy)) hb;have it:=Ail (fu:=fu) (d:=d) Bo (l:=o) ho (x:=x) (hg x (by simp));have g0:(A6 l).getD (i*3) .top=Ao x.k:=H4 It.cells_len hx (j:=0) (by omega);have g1:(A6 l).getD (i*3+1) .top=Ac x.n:=H4 It.cells_len hx (j:=1) (by omega);have g2:(A6 l).getD (i*3+1+1) .top=.sc (.string x.s):=H4 It.cells_len hx (j:=2) (by omega);have L:(Ad .u8 o).length=o.length:=Am _ _;have t:List.take o.length (Ad .u8 o)=Ad .u8 o:=I9 (by omega);have w:wrap .i64 ((i:Int)+1)=((i+1:Nat):Int):=by rw[Ah (by omega) (by omega)];omega
  rw[V3];unfold It.cells at it;simp (disch:=first|assumption|omega) only[B4,B3,Ij,Ec,g0,g1,g2,L,t,it,w,q]
theorem Aed(Bo:1000<=fu){l:List It}(hl:l.length<=100000)(hf:l.length<fu)(hg:Q7 [] 0 l)(hk:∀x∈l,x.ok)(hb:(Bn l).length<=300000):
  Ap C0 prog fu (d+5) 65 [.lst false 3 l.length (A6 l)]=some ⟨[.own 1 (Bn l).length (Ad .u8 (Bn l)),Ao 0],[]⟩:=by
 rw[UC];have v:=U7 (fu:=fu) (d:=d) (by omega) hl hf hg;have q:=Adh (fu:=fu) (d:=d+2) Bo hl (Ta:=l.length) (a0:=A6 l) l 0 [] fu rfl (by omega) hf hk (by simpa using hb);rw[PT] at q;simp only[B4,B3,v,bne_self_eq_false];exact q
end
section
variable {fu d:Nat}
theorem Aax(Bo:200<=fu){l:List It}(hl:l.length<=100000)(hf:l.length<fu)(hg:Q7 [] 0 l):
  Ap C0 prog fu (d+5) 106 [.own 3 l.length (A6 l)]=some ⟨[.own 3 l.length (A6 l),Ao 0],[]⟩:=by
 rw[QP];have v:=U7 (fu:=fu) (d:=d) Bo hl hf hg;have L:=Fa l;have t:List.take (l.length*3) (A6 l)=A6 l:=I9 (by omega);simp(disch:=omega)only[B4,B3,L,t,Fi,v,bne_self_eq_false]
end
structure US(x:It):Prop where
 kd:x.k=1\/x.k=2\/x.k=3\/x.k=4\/x.k=7\/x.k=8
 hs:x.s.size<=1024
 hv:x.k=4->Lib.validD x.s.data.toList=true
 hsh:L7 x=true
 n0:0<=x.n
theorem US.ok{x:It}(h:US x):x.ok:=by have:=h.kd;have:=h.hs;exact⟨by omega,by omega,h.n0,by omega⟩
theorem US.push{x:It}(h:US x)(l:List Hw):OW l x=l:=by unfold OW;have:=h.kd;rw[Ba (by omega),Ba (by omega)]
def Aw9(v:List It):Ab:=[.lst false 3 v.length (A6 v)]
theorem VG(v:List It):(Aw9 v).length=1:=rfl
def Gd(l:List (List It)):Ab:=l.flatMap Aw9
theorem atv{l:List (List It)}{i:Nat}{v:List It}(h:l[i]?=some v):(Gd l).getD (i*1) .top=.lst false 3 v.length (A6 v):=by exact H4 VG h (j:=0) (by omega)
section
variable {fu d:Nat}
theorem LZ(Bo:1000<=fu){Ta:Nat}{a0:Ab}{vs:List (List It)}(hl:vs.length<=100000):∀(r:List (List It)) (i nn:Nat),vs.drop i=r->r.length<nn->(∀v∈r,Q7 [] 0 v/\v.length<1000)->i<=vs.length ->
  N6 fu (Ap C0 prog fu (d+4)) Ta a0 nn vs.length (Gd vs) (vs.length:Int) (i:Int)=some ⟨[Ao 0],[]⟩
 |_,_,0,_,h,_,_=>by omega
 |[],i,nn+1,h,hn,hg,hi=>by
  have:=drop_nil h;rw[V0,D0 _ _ _ (by omega)]
 |v::r,i,nn+1,h,hn,hg,hi=>by
  obtain⟨h1,h2,h3⟩:=C1 h;simp only[G9] at hn;have w:wrap .i64 ((i:Int)+1)=((i+1:Nat):Int):=by rw[Ah (by omega) (by omega)];omega
  have ih:=LZ Bo (Ta:=Ta) (a0:=a0) hl r (i+1) nn h3 (by omega) (fun v hv=>hg v (Rw _ hv)) (by omega);obtain⟨g,gl⟩:=hg v (by simp);have vg:=U7 (fu:=fu) (d:=d) (by omega) (by omega) (by omega) g;have g0:=atv h2;rw[V0];simp(disch:=omega)only[B4,B3,Ij,g0,vg,bne_self_eq_false,w,ih]
theorem Abr(Bo:1000<=fu){vs:List (List It)}(hl:vs.length<1000)(hg:∀v∈vs,Q7 [] 0 v/\v.length<1000):
  Ap C0 prog fu (d+5) 105 [.lst false 1 vs.length (Gd vs)]=some ⟨[Ao 0],[]⟩:=by
 rw[TP];exact LZ Bo (by omega) vs 0 fu rfl (by omega) hg (by omega)
theorem Zx(a b:List It):A6 (a++b)=A6 a++A6 b:=by unfold A6;rw[List.flatMap_append]
theorem RY(Bo:1000<=fu){Ta:Nat}{a0:Ab}{vs:List (List It)}(hl:vs.length<=100000):∀(r:List (List It)) (i nn:Nat)(o:List It),vs.drop i=r->r.length<nn->Q7 [] 0 (o++r.flatten)->(o++r.flatten).length<=500->i<=vs.length ->
  Pp fu (Ap C0 prog fu (d+5)) Ta a0 nn o.length vs.length (Gd vs) (vs.length:Int) (i:Int) (A6 o)=some ⟨[.own 3 (o++r.flatten).length (A6 (o++r.flatten)),Ao 0],[]⟩
 |_,_,0,_,_,h,_,_,_=>by omega
 |[],i,nn+1,o,h,hn,hg,hb,hi=>by
  have:=drop_nil h;have e:o++([]:List (List It)).flatten=o:=by simp
  rw[e] at hg hb ⊢;have L:=Fa o;have t:List.take (o.length*3) (A6 o)=A6 o:=I9 (by omega);have ck:=Aax (fu:=fu) (d:=d) (by omega) (by omega) (by omega) hg;rw[Yj,D0 _ _ _ (by omega)];simp(disch:=omega)only[B4,B3,L,t,ck]
 |v::r,i,nn+1,o,h,hn,hg,hb,hi=>by
  obtain⟨h1,h2,h3⟩:=C1 h;simp only[G9] at hn;have w:wrap .i64 ((i:Int)+1)=((i+1:Nat):Int):=by rw[Ah (by omega) (by omega)];omega
  have e:o++(v::r).flatten=(o++v)++r.flatten:=by simp
  rw[e] at hg hb ⊢
  have Jh:o.length+v.length<=500:=by
   rw[G8,G8] at hb;omega
  have ih:=RY Bo (Ta:=Ta) (a0:=a0) hl r (i+1) nn (o++v) h3 (by omega) hg hb (by omega);have g0:=atv h2;have L:=Fa o;have Lv:=Fa v;have t:List.take (o.length*3) (A6 o)=A6 o:=I9 (by omega);rw[G8,Zx] at ih;rw[Yj];simp(disch:=omega)only[B4,B3,Ij,g0,L,Lv,t,w,ih]
theorem Ags(Bo:1000<=fu){vs:List (List It)}(hg:∀v∈vs,Q7 [] 0 v/\v.length<1000)(hl:vs.length<=400)(ha:Q7 [] 0 (⟨5,vs.length,⟨#[]⟩⟩::vs.flatten))(hb:vs.flatten.length<=499):
  Ap C0 prog fu (d+6) 63 [.lst false 1 vs.length (Gd vs)]=some ⟨[.own 3 (vs.flatten.length+1) (A6 (⟨5,vs.length,⟨#[]⟩⟩::vs.flatten)),Ao 0],[]⟩:=by
 rw[YF];have f:=Abr (fu:=fu) (d:=d) Bo (by omega) hg;have w:wrap .u64 (vs.length:Int)=vs.length:=Cm (by omega) (by omega);have q:=RY (fu:=fu) (d:=d) Bo (Ta:=vs.length) (a0:=Gd vs) (by omega) vs 0 fu [⟨5,vs.length,⟨#[]⟩⟩] rfl (by omega) ha (by rw[G8,List.length_singleton];omega) (by omega)
 simp only[B4,B3,f,bne_self_eq_false,w];exact q
end
def A12(a b:Cg):Int:=Lib.compareBytes (a.map fun n=>n.toNat.toUInt8) (b.map fun n=>n.toNat.toUInt8)
def Wb(a b:Cg):Bool:=if a.length=b.length then decide (A12 a b<0) else decide (a.length<b.length)
def Mg(l:List Hw)(key:Cg):List Hw:=match l.getLast? with|some f=>l.dropLast++[⟨f.p,f.left,key⟩]|none=>l
theorem Px(l:List Hw)(f:Hw)(key:Cg):Mg (l++[f]) key=l++[⟨f.p,f.left,key⟩]:=by unfold Mg;simp
def OK(l:List Hw):Cg:=match l.getLast? with|some f=>f.last|none=>[]
theorem Aab(l:List Hw)(f:Hw):OK (l++[f])=f.last:=by unfold OK;simp
def Fc(l:List Hw)(x:It):Int × List Hw:=
 if x.k=4/\okS x.s=false then (6,l)
 else if Ti l=true then (if OK l≠[]/\Wb (OK l) (Cs x)=false then (7,l) else (0,Hm (Mg l (Cs x)) x))
 else (0,Hm l x)
theorem Alh(x:It):1<=(Cs x).length:=by
 unfold Cs;have h2:=Jn 2 x.s.size;have h3:=Jn 3 x.s.size;have h4:=Jn (x.k-1) x.n
 repeat' split
 all_goals try simp only[G8,G9,Vl]
 all_goals omega
section
variable {fu d:Nat}
theorem Af8(a b:Cg):Ap C0 prog fu (d+1) 148 [.lst false 1 a.length (Ad .u8 a),.lst false 1 b.length (Ad .u8 b)]=some ⟨[Ao (A12 a b)],[]⟩:=by
 have h:Ap C0 prog fu (d+1) 148 [.lst false 1 a.length (Ad .u8 a),.lst false 1 b.length (Ad .u8 b)]=Za [.lst false 1 a.length (Ad .u8 a),.lst false 1 b.length (Ad .u8 b)]:=by kernel_rfl
 rw[h];unfold Za;simp only[Am,Of,Bool.and_self,cond_true,I1];rfl
theorem Agg(a b:Cg):Ap C0 prog fu (d+2) 143 [.lst false 1 a.length (Ad .u8 a),.lst false 1 b.length (Ad .u8 b)]=some ⟨[.sc (.bool (Wb a b))],[]⟩:=by
 refine (QJ fu (d+1) _ _ _ _).trans ?_;have c:=Af8 (fu:=fu) (d:=d) a b;unfold Wb;by_cases h:a.length=b.length
 ·have b0:((a.length:Int) != (b.length:Int))=false:=by simp[h]
  rw[B7 h];simp only[B4,B3,b0,c]
 ·have b0:((a.length:Int) != (b.length:Int))=true:=by simp;omega
  rw[Ba h];simp only[B4,B3,b0];simp
theorem XD{l:List Hw}{x:It}{cnt:Int}(Bo:1000<=fu)(hl:l.length<=900)(h0:0<=cnt)(h1:cnt<=1000000)(hx:x.ok)(hs:x.s.size<=100000):
  Ap C0 prog fu (d+3) 123 [.pbox (Og l cnt),.agg x.cells]=some ⟨[Ao (Fc l x).1],[Og (Fc l x).2 (if (Fc l x).1=0 then cnt+1 else cnt)]⟩:=by
 cases ha:Ti l with
 |false=>
  cases hv:(x.k==4) && !okS x.s with
  |false=>
   have e:Fc l x=(0,Hm l x):=by
    unfold Fc;rw[Ba,Ba (by simp[ha])];intro hh;simp[hh.1,hh.2] at hv
   have:=LU (fu:=fu) (d:=d+1) (l:=l) (x:=x) (cnt:=cnt) (by omega) (by omega) h0 h1 ha hs (by
    intro hk;simp[hk] at hv;exact hv)
   rw[e,this];rfl
  |true=>
   simp at hv
   have e:Fc l x=(6,l):=by
    unfold Fc;rw[B7 hv]
   rw[e];obtain⟨k,n,s⟩:=x;have va:=Y6 (fu:=fu) (d:=d+1) s (Nat.le_trans hs (by omega));simp only at hv;obtain⟨rfl,hv⟩:=hv;rw[hv] at va;have L:=Dq l;have t:=Ed l;refine (Mm fu (d+2) l.length (Gk l) cnt 4 n s).trans ?_;simp(disch:=omega)only[B4,B3,Int.reduceBEq,va,L,t];rfl
 |true=>
  rcases Kf l with rfl|⟨l',f,rfl⟩
  ·exact absurd ha (by decide)
  have it:=Ail (fu:=fu) (d:=d) Bo (l:=[]) (by simp) hx;rw[PT] at it;have hp:=Alh x;have sm:=Agg (fu:=fu) (d:=d) f.last (Cs x);have ak:=OY (fu:=fu) (d:=d+1) (l:=l'++[f]) (by omega) cnt;rw[ha] at ak;have st:=Ah5 (fu:=fu) (d:=d+1) (l:=Mg (l'++[f]) (Cs x)) (x:=x) (cnt:=cnt) (by rw[Px];simp at hl ⊢;omega) (by rw[Px];simp at hl ⊢;omega) h0 h1
  have E:Fc (l'++[f]) x=(if x.k=4/\okS x.s=false then (6,l'++[f]) else if f.last≠[]/\Wb f.last (Cs x)=false then (7,l'++[f]) else (0,Hm (Mg (l'++[f]) (Cs x)) x)):=by
   unfold Fc;rw[ha,Aab];simp only[if_true]
  have hn':(l'++[f]).length=l'.length+1:=by simp
  have BX:(l'++[f])[l'.length]?=some f:=by simp
  have w:wrap .i64 (((l'++[f]).length:Int)-1)=(l'.length:Int):=by rw[Ah (by omega) (by omega)];omega
  have L:=Dq (l'++[f]);have t:=Ed (l'++[f]);have g2:(Gk (l'++[f])).getD (l'.length*3+2) .top=.lst false 1 f.last.length (Ad .u8 f.last):=H4 Hw.cells_len BX (j:=2) (by omega)
  have sp:Bp (Gk (l'++[f])) [.lst false 1 (Cs x).length (Ad .u8 (Cs x))] (l'.length*3+2)=Gk (Mg (l'++[f]) (Cs x)):=by
   rw[Hh (by omega),Px,V9,V9,Wz,Wz];have:=Dq l';rw[List.set_append_right _ _ (by omega)];have:l'.length*3+2-(Gk l').length=2:=by omega
   rw[this];rfl
  have LK:=Dq (Mg (l'++[f]) (Cs x));have tK:=Ed (Mg (l'++[f]) (Cs x));have nK:(Mg (l'++[f]) (Cs x)).length=(l'++[f]).length:=by rw[Px];simp
  rw[nK] at LK tK;have L2:=Dq (Hm (Mg (l'++[f]) (Cs x)) x);have t2:=Ed (Hm (Mg (l'++[f]) (Cs x)) x);have Lk:=Am .u8 (Cs x);have tk:=Ob .u8 (Cs x);unfold Og at st ak ⊢;rw[nK] at st;rw[E];generalize Hm (Mg (l'++[f]) (Cs x)) x=S at *
  generalize Gk (Mg (l'++[f]) (Cs x))=K at *
  have hsm:f.last.length=0->Wb f.last (Cs x)=true:=by
   intro hz;unfold Wb;rw[Ba (by omega)];simp;omega
  have NB:f.last≠[]↔0<f.last.length:=by rw[List.length_pos_iff]
  generalize hKe:Cs x=key at *
  obtain⟨k,n,s⟩:=x;have va:=Y6 (fu:=fu) (d:=d+1) s (Nat.le_trans hs (by omega));unfold okS at va ⊢;unfold It.cells at st it ⊢;simp only at st it hs ⊢;refine (Mm fu (d+2) (l'++[f]).length (Gk (l'++[f])) cnt k n s).trans ?_;simp only[Vl] at it;have it0:Ad .u8 []=[]:=rfl;rw[it0] at it
  try unfold Aa Ve
  repeat' first
   |((with_reducible first|apply Al|apply Af|apply Ak|apply As|apply Bf|apply A7|apply Ag);· first|with_reducible rfl|(simp (disch:=first|with_reducible assumption|omega) only[va,L,t,ak,w,Ij,Cu,GD,it,g2,Ec,Fi,Lk,tk,sm,sp,LK,tK,st,L2,t2]<;>with_reducible rfl))
   |((with_reducible first|apply Aj|apply Afw);· first|with_reducible rfl|with_reducible assumption|omega|(simp (disch:=first|with_reducible assumption|omega) only[gT,va,L,t,ak,w,Ij,Cu,GD,it,g2,Ec,Fi,Lk,tk,sm,sp,LK,tK,st,L2,t2]<;>omega))
   |(with_reducible apply Ag5;· first|with_reducible rfl|with_reducible assumption|(simp (disch:=first|with_reducible assumption|omega) only[gF,va,L,t,ak,w,Ij,Cu,GD,it,g2,Ec,Fi,Lk,tk,sm,sp,LK,tK,st,L2,t2]<;>omega))
   |(with_reducible refine Aqc ?_ ?_<;>intro hb<;>try simp only[IR,PA,beq_iff_eq,beq_eq_false_iff_ne,bne_iff_ne,bne_eq_false_iff_eq,ne_eq,Bool.not_eq_true',Bool.not_eq_false',Bool.not_eq_true,Bool.not_eq_false] at hb)
   |(with_reducible refine ZK ?_ ?_)
  all_goals try simp (disch:=first|with_reducible assumption|omega) only[va,L,t,ak,w,Ij,Cu,GD,it,g2,Ec,Fi,Lk,tk,sm,sp,LK,tK,st,L2,t2]
  all_goals clear st it ak va sm L t g2 sp LK tK L2 t2 Lk tk it0 E ha hKe
  all_goals repeat' split
  all_goals first
   |rfl
   |(exfalso;simp_all;done)
   |(exfalso;simp_all;omega)
end
section
variable {xs:FuncId->Option (Ab->Option Dl)}(fu d:Nat)(call:Bi)
def Ii(Z:Nat)(Y:Ab)(X:Int)(W:Nat)(V:Ab)(U:Int)(T:Nat)(S Q P:Int)(O:Nat)(N:Ab)(M L:Int)(K:Nat)(J:Int)(I:Nat)(H:Ab)(G:Int)(E:Ab):Option Dl:=Lu fu call 121 Tryz.f121 [.pbox [.own 3 Z Y,X,Ai 1 W V,U]] [.r,.r,.r,.r,.r,.r,.r,.r,.r,.r,.r,.l,.r,.l] T ⟨lk [(0,.ptr 240000 0),(2,S),(3,Ac Q),(8,P),(94,Ai 1 O N),(95,M),(96,L)],Bq [(240000,.st [.view 240120 3 0 K,J,Ai 1 I H,G]),(240120,.ar false E)]⟩
theorem Oh(L:Nat)(K:Ab)(J:Int)(I:Nat)(H:Ab)(G:Int)(E:Nat)(Q W V:Int)(P:Nat)(O:Ab)(N Y:Int)(Z:Nat)(U:Int)(T:Nat)(S:Ab)(M:Int)(X:Ab):Ii fu call L K J I H G (E+1) Q W V P O N Y Z U T S M X=(Bd (decide (Y<N)) (At (decide (0<=Y)&&decide (Y<(↑P:Int)))<|A8 .u8 (O.getD (Y.toNat*1) .top) fun a=>Aa (Iy .u64 W 8) fun b=>Aa (wrap .u64 a) fun a=>Aa (VB .u64 b a) fun a=>Aa (wrap .i64 (Y+1)) fun b=>Ii fu call L K J I H G E Q a V P O N b Z U T S M X) (Aa (wrap .i64 (M+V)) fun a=>J1 .i64 (call 141 [Ac W]) fun b=>Bd (decide (b<V)) (At (decide (Z*3<=X.length))<|some ⟨[(0:Int),Ac 0,(2:Int)],[[.own 3 Z (X.take (Z*3)),U,Ai 1 T S,a]]⟩) (At (decide (Z*3<=X.length))<|some ⟨[Q,Ac W,(0:Int)],[[.own 3 Z (X.take (Z*3)),U,Ai 1 T S,a]]⟩))):=by kernel_rfl
theorem EX(Z:Nat)(Y:Ab)(V:Int)(X:Nat)(W:Ab)(U:Int):F1 C0 fu d 121 [.pbox [.own 3 Z Y,V,Ai 1 X W,U]] fun call=>Bd (decide (U>=(↑X:Int))) (At (decide (Z*3<=Y.length))<|some ⟨[(0:Int),Ac 0,(1:Int)],[[.own 3 Z (Y.take (Z*3)),V,Ai 1 X W,U]]⟩) (At (decide (0<=U)&&decide (U<(↑X:Int)))<|A8 .u8 (W.getD (U.toNat*1) .top) fun a=>Aa (wrap .i64 (U+1)) fun b=>Bd (a==244) (Aa (wrap .u8 (a-244)) fun a=>Aa (wrap .u64 a) fun a=>At (decide (Z*3<=Y.length))<|some ⟨[(7:Int),Ac a,(0:Int)],[[.own 3 Z (Y.take (Z*3)),V,Ai 1 X W,b]]⟩) (Bd (a==245) (Aa (wrap .u8 (a-244)) fun a=>Aa (wrap .u64 a) fun a=>At (decide (Z*3<=Y.length))<|some ⟨[(7:Int),Ac a,(0:Int)],[[.own 3 Z (Y.take (Z*3)),V,Ai 1 X W,b]]⟩) (Bd (a==246) (At (decide (Z*3<=Y.length))<|some ⟨[(8:Int),Ac 0,(0:Int)],[[.own 3 Z (Y.take (Z*3)),V,Ai 1 X W,b]]⟩) (Aa (Ff .u8 a 5) fun c=>Aa (Tp .u8 a 31) fun a=>Bd (decide (c>5)) (At (decide (Z*3<=Y.length))<|some ⟨[(0:Int),Ac 0,(2:Int)],[[.own 3 Z (Y.take (Z*3)),V,Ai 1 X W,b]]⟩) (Bd (decide (a>27)) (At (decide (Z*3<=Y.length))<|some ⟨[(0:Int),Ac 0,(2:Int)],[[.own 3 Z (Y.take (Z*3)),V,Ai 1 X W,b]]⟩) (Aa (wrap .i64 c) fun c=>Aa (wrap .i64 (1+c)) fun c=>Bd (decide (a<24)) (Aa (wrap .u64 a) fun a=>At (decide (Z*3<=Y.length))<|some ⟨[c,Ac a,(0:Int)],[[.own 3 Z (Y.take (Z*3)),V,Ai 1 X W,b]]⟩) (Aa (wrap .u8 (a-24)) fun a=>At (decide (0<=a))<|Aa (Iy .i64 1 a) fun a=>Aa (wrap .i64 ((↑X:Int)-b)) fun e=>Bd (decide (e<a)) (At (decide (Z*3<=Y.length))<|some ⟨[(0:Int),Ac 0,(1:Int)],[[.own 3 Z (Y.take (Z*3)),V,Ai 1 X W,b]]⟩) (Aa (wrap .i64 (b+a)) fun e=>At (decide (0<=b))<|At (decide (0<=e))<|At (decide (b.toNat<=e.toNat)&&decide (e.toNat<=X))<|Aa (e.toNat-b.toNat) fun e=>Aa (List.take (e*1) (W.drop (b.toNat*1))) fun f=>Ii fu call Z Y V X W U fu c 0 a e f (↑e:Int) 0 Z V X W b Y)))))))):=by show _=_;kernel_rfl
theorem EN(Z:Nat)(Y:Ab)(X:Int)(W:Nat)(V:Ab)(U:Int):F1 C0 fu d 88 [.pbox [.own 3 Z Y,X,Ai 1 W V,U]] fun call=>At (decide (Z*3<=Y.length))<|Bk (call 121 [.pbox [.own 3 Z (Y.take (Z*3)),X,Ai 1 W V,U]]) fun a b=>Di .i64 a fun a c=>Di .u64 c fun c e=>D1 .i64 e fun e=>Av b fun b f=>Xi 3 b fun b g h=>Di .i64 h fun h i=>J9 1 i fun i j k=>D1 .i64 k fun k=>Aq f<|Bd (e != 0) (At (decide (b*3<=g.length))<|some ⟨[.agg [(0:Int),Ac 0,.sc (.string (ByteArray.mk #[]))],e],[[.own 3 b (g.take (b*3)),h,Ai 1 i j,k]]⟩) (At (decide (b*3<=g.length))<|Bk (call 122 [.pbox [.own 3 b (g.take (b*3)),h],a]) fun b e=>D1 .i64 b fun b=>Av e fun e f=>Xi 3 e fun e g h=>D1 .i64 h fun h=>Aq f<|Bd (b != 0) (At (decide (e*3<=g.length))<|some ⟨[.agg [(0:Int),Ac 0,.sc (.string (ByteArray.mk #[]))],b],[[.own 3 e (g.take (e*3)),h,Ai 1 i j,k]]⟩) (Bd (a==5) (Bd (decide (c>512)) (At (decide (e*3<=g.length))<|some ⟨[.agg [(0:Int),Ac 0,.sc (.string (ByteArray.mk #[]))],(8:Int)],[[.own 3 e (g.take (e*3)),h,Ai 1 i j,k]]⟩) (At (decide (e*3<=g.length))<|Bk (call 123 [.pbox [.own 3 e (g.take (e*3)),h],.agg [a,Ac c,.sc (.string (ByteArray.mk #[]))]]) fun b e=>D1 .i64 b fun b=>Av e fun e f=>Xi 3 e fun e g h=>D1 .i64 h fun h=>Aq f<|Bd (b != 0) (At (decide (e*3<=g.length))<|some ⟨[.agg [(0:Int),Ac 0,.sc (.string (ByteArray.mk #[]))],b],[[.own 3 e (g.take (e*3)),h,Ai 1 i j,k]]⟩) (At (decide (e*3<=g.length))<|some ⟨[.agg [a,Ac c,.sc (.string (ByteArray.mk #[]))],(0:Int)],[[.own 3 e (g.take (e*3)),h,Ai 1 i j,k]]⟩))) (Bd (a==6) (Bd (decide (c>512)) (At (decide (e*3<=g.length))<|some ⟨[.agg [(0:Int),Ac 0,.sc (.string (ByteArray.mk #[]))],(8:Int)],[[.own 3 e (g.take (e*3)),h,Ai 1 i j,k]]⟩) (At (decide (e*3<=g.length))<|Bk (call 123 [.pbox [.own 3 e (g.take (e*3)),h],.agg [a,Ac c,.sc (.string (ByteArray.mk #[]))]]) fun b e=>D1 .i64 b fun b=>Av e fun e f=>Xi 3 e fun e g h=>D1 .i64 h fun h=>Aq f<|Bd (b != 0) (At (decide (e*3<=g.length))<|some ⟨[.agg [(0:Int),Ac 0,.sc (.string (ByteArray.mk #[]))],b],[[.own 3 e (g.take (e*3)),h,Ai 1 i j,k]]⟩) (At (decide (e*3<=g.length))<|some ⟨[.agg [a,Ac c,.sc (.string (ByteArray.mk #[]))],(0:Int)],[[.own 3 e (g.take (e*3)),h,Ai 1 i j,k]]⟩))) (Bd (a==3) (Bd (decide (c>1024)) (At (decide (e*3<=g.length))<|some ⟨[.agg [(0:Int),Ac 0,.sc (.string (ByteArray.mk #[]))],(8:Int)],[[.own 3 e (g.take (e*3)),h,Ai 1 i j,k]]⟩) (Aa (wrap .i64 ((↑i:Int)-k)) fun b=>Aa (wrap .i64 c) fun f=>Bd (decide (b<f)) (At (decide (e*3<=g.length))<|some ⟨[.agg [(0:Int),Ac 0,.sc (.string (ByteArray.mk #[]))],(1:Int)],[[.own 3 e (g.take (e*3)),h,Ai 1 i j,k]]⟩) (Aa (wrap .i64 c) fun b=>Aa (wrap .i64 (k+b)) fun b=>At (decide (0<=k))<|At (decide (0<=b))<|At (decide (k.toNat<=b.toNat)&&decide (b.toNat<=i))<|Aa (b.toNat-k.toNat) fun b=>Aa (List.take (b*1) (j.drop (k.toNat*1))) fun f=>At (decide (f.length=b))<|Gi (bytesOf f) fun b=>Aa (wrap .i64 c) fun c=>Aa (wrap .i64 (k+c)) fun c=>At (decide (e*3<=g.length))<|Bk (call 123 [.pbox [.own 3 e (g.take (e*3)),h],.agg [a,Ac 0,.sc (.string (ByteArray.mk (List.toArray b)))]]) fun e f=>D1 .i64 e fun e=>Av f fun f g=>Xi 3 f fun f h k=>D1 .i64 k fun k=>Aq g<|Bd (e != 0) (At (decide (f*3<=h.length))<|some ⟨[.agg [(0:Int),Ac 0,.sc (.string (ByteArray.mk #[]))],e],[[.own 3 f (h.take (f*3)),k,Ai 1 i j,c]]⟩) (At (decide (f*3<=h.length))<|some ⟨[.agg [a,Ac 0,.sc (.string (ByteArray.mk (List.toArray b)))],(0:Int)],[[.own 3 f (h.take (f*3)),k,Ai 1 i j,c]]⟩)))) (Bd (a==4) (Bd (decide (c>1024)) (At (decide (e*3<=g.length))<|some ⟨[.agg [(0:Int),Ac 0,.sc (.string (ByteArray.mk #[]))],(8:Int)],[[.own 3 e (g.take (e*3)),h,Ai 1 i j,k]]⟩) (Aa (wrap .i64 ((↑i:Int)-k)) fun b=>Aa (wrap .i64 c) fun f=>Bd (decide (b<f)) (At (decide (e*3<=g.length))<|some ⟨[.agg [(0:Int),Ac 0,.sc (.string (ByteArray.mk #[]))],(1:Int)],[[.own 3 e (g.take (e*3)),h,Ai 1 i j,k]]⟩) (Aa (wrap .i64 c) fun b=>Aa (wrap .i64 (k+b)) fun b=>At (decide (0<=k))<|At (decide (0<=b))<|At (decide (k.toNat<=b.toNat)&&decide (b.toNat<=i))<|Aa (b.toNat-k.toNat) fun b=>Aa (List.take (b*1) (j.drop (k.toNat*1))) fun f=>At (decide (f.length=b))<|Gi (bytesOf f) fun b=>Aa (wrap .i64 c) fun c=>Aa (wrap .i64 (k+c)) fun c=>At (decide (e*3<=g.length))<|Bk (call 123 [.pbox [.own 3 e (g.take (e*3)),h],.agg [a,Ac 0,.sc (.string (ByteArray.mk (List.toArray b)))]]) fun e f=>D1 .i64 e fun e=>Av f fun f g=>Xi 3 f fun f h k=>D1 .i64 k fun k=>Aq g<|Bd (e != 0) (At (decide (f*3<=h.length))<|some ⟨[.agg [(0:Int),Ac 0,.sc (.string (ByteArray.mk #[]))],e],[[.own 3 f (h.take (f*3)),k,Ai 1 i j,c]]⟩) (At (decide (f*3<=h.length))<|some ⟨[.agg [a,Ac 0,.sc (.string (ByteArray.mk (List.toArray b)))],(0:Int)],[[.own 3 f (h.take (f*3)),k,Ai 1 i j,c]]⟩)))) (At (decide (e*3<=g.length))<|Bk (call 123 [.pbox [.own 3 e (g.take (e*3)),h],.agg [a,Ac c,.sc (.string (ByteArray.mk #[]))]]) fun b e=>D1 .i64 b fun b=>Av e fun e f=>Xi 3 e fun e g h=>D1 .i64 h fun h=>Aq f<|Bd (b != 0) (At (decide (e*3<=g.length))<|some ⟨[.agg [(0:Int),Ac 0,.sc (.string (ByteArray.mk #[]))],b],[[.own 3 e (g.take (e*3)),h,Ai 1 i j,k]]⟩) (At (decide (e*3<=g.length))<|some ⟨[.agg [a,Ac c,.sc (.string (ByteArray.mk #[]))],(0:Int)],[[.own 3 e (g.take (e*3)),h,Ai 1 i j,k]]⟩))))))):=by show _=_;kernel_rfl
def Na(Z:Nat)(Y:Ab)(X W:Nat)(V:Ab)(U:Nat)(T:Int)(S:Nat)(Q:Ab)(P:Int)(O:Ab):Option Dl:=Lu fu call 47 Tryz.f47 [Ai 1 Z Y] [.r,.r,.l,.l] X ⟨lk [(2,.view 2 3 0 W),(5,.ptr 5 0)],Bq [(2,.ar false V),(5,.st [.view 32 3 0 U,T,Ai 1 S Q,P]),(32,.ar false O)]⟩
theorem KD(U:Nat)(T:Ab)(S Z:Nat)(Y:Ab)(X:Nat)(Q:Int)(P:Nat)(O:Ab)(W:Int)(V:Ab):Na fu call U T (S+1) Z Y X Q P O W V=(At (decide (X*3<=V.length))<|Bk (call 87 [.pbox [.own 3 X (V.take (X*3)),Q]]) fun a b=>MI a fun a=>Av b fun b c=>Xi 3 b fun b e f=>D1 .i64 f fun f=>Aq c<|Bd (!a) (At (decide (b*3<=e.length))<|Bk (call 88 [.pbox [.own 3 b (e.take (b*3)),f,Ai 1 P O,W]]) fun a b=>Av a fun a c=>D3 a fun a=>Di .i64 a fun a e=>Di .u64 e fun e f=>Av f fun f g=>Ez f fun f=>Aq g<|D1 .i64 c fun c=>Av b fun b g=>Xi 3 b fun b h i=>Di .i64 i fun i j=>J9 1 j fun j k m=>D1 .i64 m fun m=>Aq g<|Bd (c != 0) (Bv [.own 3 0 [],(0:Int),c]) (Ve Z 3 32 Y [a,Ac e,.sc (.string f)] fun a c=>Na fu call U T S a c b i j k m h)) (At (decide (Z*3<=Y.length))<|Bv [.own 3 Z (Y.take (Z*3)),W,(0:Int)])):=by kernel_rfl
theorem UA(Z:Nat)(Y:Ab):F1 C0 fu d 47 [Ai 1 Z Y] fun call=>Na fu call Z Y fu 0 ([]) 0 0 Z Y 0 ([]):=by show _=_;kernel_rfl
end
structure Hd where
 k:Int
 n:Int
 e:Int
 at_:Nat
def R6(n:Int):Int:=if n<24 then 0 else if n<256 then 1 else if n<65536 then 2 else if n<4294967296 then 4 else 8
def szE(low:Int):Nat:=if low=24 then 1 else if low=25 then 2 else if low=26 then 4 else 8
def Yk(b:Cg)(at_:Nat)(x:Int):Hd:=
 if x=244 then ⟨7,0,0,at_+1⟩ else if x=245 then ⟨7,1,0,at_+1⟩ else if x=246 then ⟨8,0,0,at_+1⟩
 else if x / 32>5 then ⟨0,0,2,at_+1⟩ else if x % 32>27 then ⟨0,0,2,at_+1⟩
 else if x % 32<24 then ⟨1+x / 32,x % 32,0,at_+1⟩
 else if b.length-(at_+1)<szE (x % 32) then ⟨0,0,1,at_+1⟩
 else if R6 (RA ((b.drop (at_+1)).take (szE (x % 32))))<szE (x % 32) then ⟨0,0,2,at_+1+szE (x % 32)⟩
 else ⟨1+x / 32,RA ((b.drop (at_+1)).take (szE (x % 32))),0,at_+1+szE (x % 32)⟩
def Ib(b:Cg)(at_:Nat):Hd:=match b[at_]? with|none=>⟨0,0,1,at_⟩|some x=>Yk b at_ x
theorem A58{x:Int}(h:0<=x):Ff .u8 x 5=x / 32:=by
 unfold Ff;show x.fdiv (2 ^ (min (5:Int).toNat IntKind.u8.bits))=_;have h2:(2:Int) ^ (min (5:Int).toNat IntKind.u8.bits)=32:=by decide
 rw[h2,Int.fdiv_eq_ediv_of_nonneg _ (by omega)]
theorem A2x{x:Int}(h0:0<=x)(h1:x<=255):Tp .u8 x 31=x % 32:=by
 obtain⟨n,rfl⟩:=Int.eq_ofNat_of_zero_le h0;have hn:n<256:=by omega
 have e1:(BitVec.ofInt 8 (n:Int)).toNat=n:=by
  rw[BitVec.toNat_ofInt];omega
 have e2:(BitVec.ofInt 8 (31:Int)).toNat=2 ^ 5-1:=by decide
 unfold Tp;show wrap .u8 ((BitVec.ofInt 8 (n:Int) &&& BitVec.ofInt 8 (31:Int)).toNat:Int)=_;rw[BitVec.toNat_and,e1,e2,Nat.and_two_pow_sub_one_eq_mod,Hp (by omega) (by omega)];omega
abbrev Amc(l:List Hw)(cnt:Int)(b:Cg)(at_:Nat):Ab:=[.own 3 l.length (Gk l),Ao cnt,.lst false 1 b.length (Ad .u8 b),Ao at_]
section
variable {fu d:Nat}
theorem Aoa(n:Int):Ap C0 prog fu (d+1) 141 [Ac n]=some ⟨[Ao (R6 n)],[]⟩:=by
 rw[ZB];unfold R6
 try unfold Aa Ve
 repeat' first
  |((with_reducible first|apply Al|apply Af|apply Ak|apply Ag);· first|with_reducible rfl|(simp (disch:=first|with_reducible assumption|omega) only[B7,Ba]<;>with_reducible rfl))
  |((with_reducible first|apply Aj|apply Afw);· first|with_reducible rfl|with_reducible assumption|omega|(simp (disch:=first|with_reducible assumption|omega) only[gT,B7,Ba]<;>omega))
  |(with_reducible apply Ag5;· first|with_reducible rfl|with_reducible assumption|(simp (disch:=first|with_reducible assumption|omega) only[gF,B7,Ba]<;>omega))
  |(with_reducible refine Aqc ?_ ?_<;>intro hb<;>try simp only[IR,PA,beq_iff_eq,beq_eq_false_iff_ne,bne_iff_ne,bne_eq_false_iff_eq,ne_eq,Bool.not_eq_true',Bool.not_eq_false',Bool.not_eq_true,Bool.not_eq_false] at hb)
  |(with_reducible refine ZK ?_ ?_)
 all_goals try simp (disch:=first|with_reducible assumption|omega) only[B7,Ba]
theorem RF{Ta a2n:Nat}{a0 a2:Ab}{a1 a3 k cnt:Int}{l:List Hw}{b:Cg}{off sz:Nat}{q:Cg}(hq:q.length=sz)(hb:b.length<=1000000)(ho:off+sz<=b.length):∀(r:Cg)(i nn:Nat)(v:Int),q.drop i=r->r.length<nn->i<=sz ->
    Ii fu (Ap C0 prog fu (d+1)) Ta a0 a1 a2n a2 a3 nn k v (sz:Int) sz (Ad .u8 q) (sz:Int) (i:Int) l.length cnt b.length (Ad .u8 b) (off:Int) (Gk l) =
      (if R6 (r.foldl G6 v)<sz then some ⟨[Ao 0,Ac 0,Ao 2],[Amc l cnt b (off+sz)]⟩
       else some ⟨[Ao k,Ac (r.foldl G6 v),Ao 0],[Amc l cnt b (off+sz)]⟩)
  |_,_,0,_,_,h,_=>by omega
  |[],i,nn+1,v,hd,hn,hi=>by
    have:=drop_nil hd
    have sh:=Aoa (fu:=fu) (d:=d) v
    have L:=Dq l
    have t:=Ed l
    have w:wrap .i64 ((off:Int)+(sz:Int))=((off+sz:Nat):Int):=by rw[Ah (by omega) (by omega)];omega
    rw[Oh,D0 _ _ _ (by omega),List.foldl_nil]
    by_cases hs:R6 v<sz
    · rw[B7 hs]
      simp(disch:=omega)only[B4,B3,w,sh,L,t,Ec]
    · rw[Ba hs]
      simp(disch:=omega)only[B4,B3,w,sh,L,t,Ec]
  |x::r,i,nn+1,v,hd,hn,hi=>by
    obtain⟨h1,h2,h3⟩:=C1 hd
    simp only[G9] at hn
    have g0:=Z5 (k:=.u8) h2
    have w:wrap .i64 ((i:Int)+1)=((i+1:Nat):Int):=by rw[Ah (by omega) (by omega)];omega
    have ih:=RF (Ta:=Ta) (a2n:=a2n) (a0:=a0) (a2:=a2) (a1:=a1) (a3:=a3) (k:=k) (cnt:=cnt) (l:=l) hq hb ho r (i+1) nn (G6 v x) h3 (by omega) (by omega)
    rw[List.foldl_cons,<-ih,Oh]
    simp(disch:=omega)only[B4,B3,Ij,Ec,g0,w]
theorem Ao3{l:List Hw}{cnt:Int}{b:Cg}{at_:Nat}(Bo:1000<=fu)(hb:Mn b)(hl:b.length<=1000000):
  Ap C0 prog fu (d+2) 121 [.pbox (Amc l cnt b at_)]=some ⟨[Ao (Ib b at_).k,Ac (Ib b at_).n,Ao (Ib b at_).e],[Amc l cnt b (Ib b at_).at_]⟩:=by
 refine (EX fu (d+1) l.length (Gk l) cnt b.length (Ad .u8 b) (at_:Int)).trans ?_;have L:=Dq l;have t:=Ed l;have Lb:=Am .u8 b;have tb:=Ob .u8 b;unfold Ib;by_cases Ch:at_<b.length
 rotate_left
 ·have hg:b[at_]?=none:=List.getElem?_eq_none (by omega);rw[hg];simp(disch:=omega)only[B4,B3,L,t,Lb,tb,Ec]
 have hg:b[at_]?=some b[at_]:=List.getElem?_eq_getElem Ch;have hB:=hb _ (List.getElem_mem Ch);rw[hg];generalize b[at_]=x at hg hB;have g0:=Z5 (k:=.u8) hg;have w1:wrap .i64 ((at_:Int)+1)=((at_+1:Nat):Int):=by rw[Ah (by omega) (by omega)];omega
 have s5:=A58 hB.1;have a31:=A2x hB.1 hB.2;unfold Yk;simp only;by_cases c1:x=244
 ·subst c1;have q:wrap .u64 (wrap .u8 ((244:Int)-244))=0:=by decide
  simp(disch:=omega)only[B4,B3,Ij,Cu,Ec,g0,Int.reduceBEq,w1,L,t,Lb,tb,q]
 rw[Ba c1];have b1:(x==(244:Int))=false:=by simp[c1]
 by_cases c2:x=245
 ·subst c2;have q:wrap .u64 (wrap .u8 ((245:Int)-244))=1:=by decide
  simp(disch:=omega)only[B4,B3,Ij,Cu,Ec,g0,Int.reduceBEq,w1,L,t,Lb,tb,q,if_true]
 rw[Ba c2];have b2:(x==(245:Int))=false:=by simp[c2]
 by_cases c3:x=246
 ·subst c3;simp(disch:=omega)only[B4,B3,Ij,Cu,Ec,g0,Int.reduceBEq,w1,L,t,Lb,tb,if_true]
 rw[Ba c3];have b3:(x==(246:Int))=false:=by simp[c3]
 by_cases c4:x / 32>5
 ·rw[B7 c4];simp(disch:=omega)only[B4,B3,Ij,Cu,Ec,g0,b1,b2,b3,s5,a31,w1,L,t,Lb,tb]
 rw[Ba c4];by_cases c5:x % 32>27
 ·rw[B7 c5];simp(disch:=omega)only[B4,B3,Ij,Cu,Ec,g0,b1,b2,b3,s5,a31,w1,L,t,Lb,tb]
 rw[Ba c5];have wk1:wrap .i64 (x / 32)=x / 32:=Ah (by omega) (by omega);have wk2:wrap .i64 (1+x / 32)=1+x / 32:=Ah (by omega) (by omega);by_cases c6:x % 32<24
 ·have wn:wrap .u64 (x % 32)=x % 32:=Cm (by omega) (by omega);rw[B7 c6];simp(disch:=omega)only[B4,B3,Ij,Cu,Ec,g0,b1,b2,b3,s5,a31,w1,wk1,wk2,wn,L,t,Lb,tb]
 rw[Ba c6];have q1:wrap .u8 (x % 32-24)=x % 32-24:=Hp (by omega) (by omega)
 have q2:Iy .i64 1 (x % 32-24)=(szE (x % 32):Int):=by
  have:x % 32=24\/x % 32=25\/x % 32=26\/x % 32=27:=by omega
  rcases this with h|h|h|h<;>rw[h]<;>decide
 have q3:szE (x % 32)<=8:=by
  unfold szE
  repeat' split
  all_goals omega
 generalize szE (x % 32)=sz at q2 q3 ⊢;have q4:wrap .i64 ((b.length:Int)-((at_+1:Nat):Int))=((b.length-(at_+1):Nat):Int):=by rw[Ah (by omega) (by omega)];omega
 by_cases c7:b.length-(at_+1)<sz
 ·rw[B7 c7];simp(disch:=omega)only[B4,B3,Ij,Cu,Ec,g0,b1,b2,b3,s5,a31,w1,wk1,wk2,q1,q2,q4,L,t,Lb,tb]
 rw[Ba c7];have q5:wrap .i64 (((at_+1:Nat):Int)+(sz:Int))=((at_+1+sz:Nat):Int):=by rw[Ah (by omega) (by omega)];omega
 have q6:at_+1+sz-(at_+1)=sz:=by omega
 have lp:=RF (fu:=fu) (d:=d) (Ta:=l.length) (a2n:=b.length) (a0:=Gk l) (a2:=Ad .u8 b) (a1:=cnt) (a3:=(at_:Int)) (k:=1+x / 32) (cnt:=cnt) (l:=l) (b:=b) (off:=at_+1) (sz:=sz) (q:=(b.drop (at_+1)).take sz) (by rw[List.length_take,List.length_drop];omega) hl (by omega) _ 0 fu 0 rfl (by rw[Fi,List.length_take];omega) (by omega)
 rw[Fi] at lp;have lp':=lp;unfold RA;by_cases c8:R6 (((b.drop (at_+1)).take sz).foldl G6 0)<sz
 ·rw[B7 c8] at lp' ⊢;simp(disch:=omega)only[B4,B3,Ij,Cu,Ec,g0,b1,b2,b3,s5,a31,w1,wk1,wk2,q1,q2,q4,q5,q6,Ks,Rx,L,t,Lb,tb];exact lp'
 ·rw[Ba c8] at lp' ⊢;simp(disch:=omega)only[B4,B3,Ij,Cu,Ec,g0,b1,b2,b3,s5,a31,w1,wk1,wk2,q1,q2,q4,q5,q6,Ks,Rx,L,t,Lb,tb];exact lp'
end
structure Rd where
 x:It
 e:Int
 l:List Hw
 cnt:Int
 at_:Nat
def it0:It:=⟨0,0,⟨#[]⟩⟩
def Yd(l:List Hw)(cnt:Int)(x:It)(at_:Nat):Rd:=if (Fc l x).1=0 then ⟨x,0,(Fc l x).2,cnt+1,at_⟩ else ⟨it0,(Fc l x).1,(Fc l x).2,cnt,at_⟩
def Aa2(l:List Hw)(cnt:Int)(b:Cg)(h:Hd):Rd:=
 if h.e≠0 then ⟨it0,h.e,l,cnt,h.at_⟩
 else if Nb l cnt h.k≠0 then ⟨it0,Nb l cnt h.k,l,cnt,h.at_⟩
 else if h.k=5\/h.k=6 then (if h.n>512 then ⟨it0,8,l,cnt,h.at_⟩ else Yd l cnt ⟨h.k,h.n,⟨#[]⟩⟩ h.at_)
 else if h.k=3\/h.k=4 then (if h.n>1024 then ⟨it0,8,l,cnt,h.at_⟩ else if b.length-h.at_<h.n.toNat then ⟨it0,1,l,cnt,h.at_⟩
  else Yd l cnt ⟨h.k,0,Cf ((b.drop h.at_).take h.n.toNat)⟩ (h.at_+h.n.toNat))
 else Yd l cnt ⟨h.k,h.n,⟨#[]⟩⟩ h.at_
def G2(l:List Hw)(cnt:Int)(b:Cg)(at_:Nat):Rd:=Aa2 l cnt b (Ib b at_)
theorem LQ(a b:Int):0<=G6 a b/\G6 a b<=18446744073709551615:=Kh _
theorem Ze:∀(l:Cg)(v:Int),0<=v->v<=18446744073709551615->0<=l.foldl G6 v/\l.foldl G6 v<=18446744073709551615
 |[],v,h0,h1=>⟨h0,h1⟩
 |x::l,v,h0,h1=>Ze l _ (LQ v x).1 (LQ v x).2
theorem VU{b:Cg}{at_:Nat}(hb:Mn b)(ha:at_<=b.length):(Ib b at_).at_<=b.length/\((Ib b at_).e=0->1<=(Ib b at_).k/\(Ib b at_).k<=8/\0<=(Ib b at_).n/\(Ib b at_).n<=18446744073709551615/\at_<(Ib b at_).at_):=by
 unfold Ib;by_cases Ch:at_<b.length
 rotate_left
 ·have hg:b[at_]?=none:=List.getElem?_eq_none (by omega);rw[hg];exact⟨ha,fun h=>by simp at h⟩
 have hg:b[at_]?=some b[at_]:=List.getElem?_eq_getElem Ch;have hB:=hb _ (List.getElem_mem Ch);rw[hg];generalize b[at_]=x at hB;have hd:=Ze ((b.drop (at_+1)).take (szE (x % 32))) 0 (by omega) (by omega);show (Yk b at_ x).at_<=b.length/\_;simp only[Yk];unfold RA
 repeat' split
 all_goals refine⟨by simp only;omega,fun h=>?_⟩
 all_goals first
  |(simp at h;done)
  |(simp only;omega)
section
variable {fu d:Nat}
theorem Ap3{l:List Hw}{cnt:Int}{b:Cg}{at_:Nat}(Bo:1000<=fu)(hb:Mn b)(hl:b.length<=1000000)(ha:at_<=b.length)(hf:l.length<=900)(h0:0<=cnt)(h1:cnt<=1000000):
  Ap C0 prog fu (d+4) 88 [.pbox (Amc l cnt b at_)]=some ⟨[.agg (G2 l cnt b at_).x.cells,Ao (G2 l cnt b at_).e],[Amc (G2 l cnt b at_).l (G2 l cnt b at_).cnt b (G2 l cnt b at_).at_]⟩:=by
 refine (EN fu (d+3) l.length (Gk l) cnt b.length (Ad .u8 b) (at_:Int)).trans ?_;have hd:=Ao3 (fu:=fu) (d:=d+1) (l:=l) (cnt:=cnt) (at_:=at_) Bo hb hl;have hk:=VU hb ha;unfold G2;generalize Ib b at_=h at hd hk ⊢;obtain⟨k,n,e,a⟩:=h;obtain⟨ka,hk⟩:=hk;simp only at hd ka hk;have L:=Dq l;have t:=Ed l;have ad:=Abj (fu:=fu) (d:=d+1) (l:=l) (by omega) cnt k;unfold Og at ad;unfold Aa2;by_cases he:e=0
 rotate_left
 ·simp only[ne_eq,he,not_false_eq_true,if_true];have he':(e != 0)=true:=by simp[he]
  repeat(with_reducible(first|apply Al|apply Af|apply Ak|apply Bf|apply A7|apply Ahg|apply Ag|apply Aj|apply Do);· first|constructor|(simp(disch:=omega)only[Dp,hd,he',L,t]<;>first|constructor|omega)|omega)
  try simp(disch:=omega)only[Aa,hd,he',L,t]
  all_goals rfl
 subst he;obtain⟨k1,k8,n0,n1,_⟩:=hk rfl;obtain⟨m,rfl⟩:=Int.eq_ofNat_of_zero_le n0;have e00:((0:Int) != 0)=false:=rfl;simp only[ne_eq,not_true_eq_false,if_false];by_cases hm:Nb l cnt k=0
 rotate_left
 ·simp only[hm,not_false_eq_true,if_true];have he':(Nb l cnt k != 0)=true:=by simp[hm]
  repeat(with_reducible(first|apply Al|apply Af|apply Ak|apply Bf|apply A7|apply Ahg|apply Ag|apply Aj|apply Do);· first|constructor|(simp(disch:=omega)only[Dp,hd,e00,ad,he',L,t]<;>first|constructor|omega)|omega)
  try simp(disch:=omega)only[Aa,hd,e00,ad,he',L,t]
  all_goals rfl
 rw[hm] at ad ⊢;simp only[not_true_eq_false,if_false,Ij];have ac1:=XD (fu:=fu) (d:=d) (l:=l) (x:=⟨k,m,⟨#[]⟩⟩) (cnt:=cnt) Bo (by omega) h0 h1 ⟨k1,k8,n0,Nat.zero_le _⟩ (Nat.zero_le _);have LA:=Dq (Fc l ⟨k,m,⟨#[]⟩⟩).2;have tA:=Ed (Fc l ⟨k,m,⟨#[]⟩⟩).2;have B:=fun (hn:m<=1024)=>XD (fu:=fu) (d:=d) (l:=l) (x:=⟨k,0,Cf ((b.drop a).take m)⟩) (cnt:=cnt) Bo (by omega) h0 h1 ⟨k1,k8,by simp,by rw[K7,List.length_take];omega⟩ (by rw[K7,List.length_take];omega)
 have LB:=Dq (Fc l ⟨k,0,Cf ((b.drop a).take m)⟩).2;have tB:=Ed (Fc l ⟨k,0,Cf ((b.drop a).take m)⟩).2;unfold Yd;generalize Fc l ⟨k,m,⟨#[]⟩⟩=A at *
 obtain⟨A1,A2⟩:=A;have eB:ByteArray.mk (List.toArray (((b.drop a).take m).map fun n=>n.toNat.toUInt8))=Cf ((b.drop a).take m):=rfl;have bo:=I1 ((b.drop a).take m);have tk:List.take m (List.drop a (Ad .u8 b))=Ad .u8 ((b.drop a).take m):=by rw[Ks,Rx]
 have lq:(Ad .u8 ((b.drop a).take m)).length=min m (b.length-a):=by rw[Am,List.length_take,List.length_drop]
 have Lb:=Am .u8 b;generalize Cf ((b.drop a).take m)=S at *
 generalize Fc l ⟨k,0,S⟩=B' at *
 obtain⟨B1,B2⟩:=B';generalize (b.drop a).take m=q at *
 unfold Og It.cells at ac1 B;simp only at ac1 B LA tA LB tB;have w1:wrap .i64 ((b.length:Int)-(a:Int))=((b.length-a:Nat):Int):=by rw[Ah (by omega) (by omega)];omega
 have w2:m<=1024->wrap .i64 (m:Int)=m:=fun h=>Ah (by omega) (by omega);have w3:m<=1024->wrap .i64 ((a:Int)+(m:Int))=((a+m:Nat):Int):=fun h=>by rw[Ah (by omega) (by omega)];omega
 have w4:a+m-a=m:=by omega
 try unfold Aa Ve
 repeat' first
  |((with_reducible first|apply Al|apply Af|apply Ak|apply Bf|apply A7|apply Ahg|apply Ag);· first|with_reducible rfl|(simp (disch:=first|with_reducible assumption|omega) only[hd,e00,ad,L,t,ac1,LA,tA,B,LB,tB,w1,w2,w3,w4,tk,bo,lq,eB,Ij,Ec,Cu]<;>with_reducible rfl))
  |((with_reducible first|apply Aj|apply Afw);· first|with_reducible rfl|with_reducible assumption|omega|(simp (disch:=first|with_reducible assumption|omega) only[gT,hd,e00,ad,L,t,ac1,LA,tA,B,LB,tB,w1,w2,w3,w4,tk,bo,lq,eB,Ij,Ec,Cu]<;>omega))
  |(with_reducible apply Ag5;· first|with_reducible rfl|with_reducible assumption|(simp (disch:=first|with_reducible assumption|omega) only[gF,hd,e00,ad,L,t,ac1,LA,tA,B,LB,tB,w1,w2,w3,w4,tk,bo,lq,eB,Ij,Ec,Cu]<;>omega))
  |(with_reducible refine Aqc ?_ ?_<;>intro hb<;>try simp only[IR,PA,beq_iff_eq,beq_eq_false_iff_ne,bne_iff_ne,bne_eq_false_iff_eq,ne_eq,Bool.not_eq_true',Bool.not_eq_false',Bool.not_eq_true,Bool.not_eq_false] at hb)
  |(with_reducible refine ZK ?_ ?_)
 all_goals try simp (disch:=first|with_reducible assumption|omega) only[hd,e00,ad,L,t,ac1,LA,tA,B,LB,tB,w1,w2,w3,w4,tk,bo,lq,eB,Ij,Ec,Cu,B7,Ba]
 all_goals rfl
end
def SW(l:List Hw)(cnt:Int):Bool:=decide (cnt>0)&&((l.length:Int)==0)
def Jv:Nat->List Hw->Int->Cg->Nat->List It->List It × Nat × Int
 |0,_,_,_,_,_=>([],0,2)
 |m+1,l,cnt,b,at_,its=>if SW l cnt=true then (its,at_,0) else
  if (G2 l cnt b at_).e≠0 then ([],0,(G2 l cnt b at_).e) else Jv m (G2 l cnt b at_).l (G2 l cnt b at_).cnt b (G2 l cnt b at_).at_ (its++[(G2 l cnt b at_).x])
def Afe(r:List It × Nat × Int):Ab:=[.own 3 r.1.length (A6 r.1),Ao r.2.1,Ao r.2.2]
theorem An7(l:List Hw):(HQ l).length<=l.length:=by unfold HQ;rw[List.length_reverse];have:=(List.dropWhile_sublist (l:=l.reverse) fun f=>f.left==0).length_le;rw[List.length_reverse] at this;exact this
theorem WX(l:List Hw)(x:It):(Hm l x).length<=l.length+1:=by
 unfold Hm;refine Nat.le_trans (An7 _) ?_;have:=FH l;unfold OW
 repeat' split
 all_goals simp
 all_goals omega
theorem Ahi(l:List Hw)(k:Cg):(Mg l k).length=l.length:=by
 rcases Kf l with rfl|⟨l',f,rfl⟩
 ·rfl
 ·rw[Px];simp
theorem Aea(l:List Hw)(x:It):(Fc l x).2.length<=l.length+1:=by
 unfold Fc;have h1:=WX l x;have h2:=WX (Mg l (Cs x)) x;rw[Ahi] at h2
 repeat' split
 all_goals simp only
 all_goals omega
structure OkX(x:It):Prop where
 k1:1<=x.k
 k8:x.k<=8
 n0:0<=x.n
 n1:x.n<=18446744073709551615
 s1:x.s.size<=1024
theorem Aqm{l:List Hw}{cnt k:Int}(h:Nb l cnt k=0):cnt<512/\l.length<=8:=by
 unfold Nb at h
 repeat' split at h
 all_goals first
  |(cases h;done)
  |omega
theorem QD{l:List Hw}{cnt:Int}{x:It}{at_:Nat}(hx:OkX x)(h:(Yd l cnt x at_).e=0):(Yd l cnt x at_).cnt=cnt+1/\(Yd l cnt x at_).l.length<=l.length+1/\(Yd l cnt x at_).at_=at_/\OkX (Yd l cnt x at_).x:=by
 have:=Aea l x;unfold Yd at h ⊢;by_cases hz:(Fc l x).1=0
 ·rw[B7 hz];exact⟨rfl,this,rfl,hx⟩
 ·rw[Ba hz] at h;exact absurd h hz
theorem JK{l:List Hw}{cnt:Int}{b:Cg}{at_:Nat}(hb:Mn b)(ha:at_<=b.length)(h:(G2 l cnt b at_).e=0):
  cnt<512/\(G2 l cnt b at_).cnt=cnt+1/\(G2 l cnt b at_).l.length<=9/\at_<(G2 l cnt b at_).at_/\(G2 l cnt b at_).at_<=b.length/\OkX (G2 l cnt b at_).x:=by
 have hk:=VU hb ha;unfold G2 at h ⊢;generalize Ib b at_=q at h hk ⊢;obtain⟨k,n,e,a⟩:=q;obtain⟨ka,hk⟩:=hk;unfold Aa2 at h ⊢;simp only at h hk ka ⊢;by_cases he:e=0
 rotate_left
 ·rw[B7 he] at h;exact absurd h he
 subst he;obtain⟨k1,k8,n0,n1,Ch⟩:=hk rfl;rw[Ba (by simp)] at h ⊢;by_cases hm:Nb l cnt k=0
 rotate_left
 ·rw[B7 hm] at h;exact absurd h hm
 obtain⟨c1,c2⟩:=Aqm hm;rw[Ba (by simp[hm])] at h ⊢;have z:(ByteArray.mk #[]).size<=1024:=Nat.zero_le _;by_cases h56:k=5\/k=6
 ·rw[B7 h56] at h ⊢;by_cases hn:n>512
  ·rw[B7 hn] at h;exact absurd h (by simp)
  ·rw[Ba hn] at h ⊢;obtain⟨p1,p2,p3,p4⟩:=QD ⟨k1,k8,n0,n1,z⟩ h;exact⟨c1,p1,by omega,by omega,by omega,p4⟩
 ·rw[Ba h56] at h ⊢;by_cases h34:k=3\/k=4
  ·rw[B7 h34] at h ⊢;by_cases hn:n>1024
   ·rw[B7 hn] at h;exact absurd h (by simp)
   ·rw[Ba hn] at h ⊢;by_cases hr:b.length-a<n.toNat
    ·rw[B7 hr] at h;exact absurd h (by simp)
    ·rw[Ba hr] at h ⊢;obtain⟨p1,p2,p3,p4⟩:=QD ⟨k1,k8,by simp,by simp,by rw[K7,List.length_take];omega⟩ h
     exact⟨c1,p1,by omega,by omega,by omega,p4⟩
  ·rw[Ba h34] at h ⊢;obtain⟨p1,p2,p3,p4⟩:=QD ⟨k1,k8,n0,n1,z⟩ h;exact⟨c1,p1,by omega,by omega,by omega,p4⟩
theorem Aes{b:Cg}(hb:Mn b):∀(m:Nat)(l:List Hw)(cnt:Int)(at_:Nat)(its:List It),at_<=b.length->(∀x∈its,OkX x)->(Jv m l cnt b at_ its).2.1<=b.length/\∀x∈(Jv m l cnt b at_ its).1,OkX x
 |0,l,cnt,at_,its,h,hi=>⟨by simp[Jv],by intro x hx;simp[Jv] at hx⟩
 |m+1,l,cnt,at_,its,h,hi=>by
  unfold Jv;by_cases hd:SW l cnt=true
  ·rw[B7 hd];exact⟨h,hi⟩
  ·rw[Ba hd];by_cases he:(G2 l cnt b at_).e=0
   ·rw[Ba (by simp[he])];obtain⟨_,_,_,_,p,q⟩:=JK hb h he;refine Aes hb m _ _ _ _ p ?_;intro x hx;rcases Bu.1 hx with hx|hx
    ·exact hi x hx
    ·simp at hx;subst hx;exact q
   ·rw[B7 he];exact⟨by simp,by intro x hx;simp at hx⟩
section
variable {fu d:Nat}
theorem Aeg(Bo:1000<=fu){Ta:Nat}{a0:Ab}{b:Cg}(hb:Mn b)(hl:b.length<=1000000):∀(nn:Nat)(l:List Hw)(cnt:Int)(at_:Nat)(its:List It),0<=cnt->cnt<=512->512-cnt<nn->l.length<=9->at_<=b.length->its.length=cnt.toNat ->
  Na fu (Ap C0 prog fu (d+4)) Ta a0 nn its.length (A6 its) l.length cnt b.length (Ad .u8 b) (at_:Int) (Gk l)=some ⟨Afe (Jv nn l cnt b at_ its),[]⟩
 |0,_,_,_,_,_,_,h,_,_,_=>by omega
 |nn+1,l,cnt,at_,its,h0,h1,hn,hf,ha,hi=>by
  have dn:=ZY (fu:=fu) (d:=d+3) l cnt;have ri:=Ap3 (fu:=fu) (d:=d) (l:=l) (cnt:=cnt) (b:=b) (at_:=at_) Bo hb hl ha (by omega) h0 (by omega);have ok:=JK (l:=l) (cnt:=cnt) hb ha;have L:=Dq l;have t:=Ed l;have LT:=Fa its;have tT:List.take (its.length*3) (A6 its)=A6 its:=I9 (by omega);have ih:=Aeg Bo (Ta:=Ta) (a0:=a0) hb hl nn;rw[KD];unfold Jv;unfold Og at dn;change _=some (Dl.mk [.sc (.bool (SW l cnt))] _) at dn;generalize G2 l cnt b at_=r at ri ok ⊢;obtain⟨x,e,l2,cnt2,at2⟩:=r;simp only at ri ok ⊢;cases hd:SW l cnt
  ·rw[hd] at dn;rw[Ba (by simp)];by_cases he:e=0
   ·subst he;obtain⟨p1,rfl,p3,p4,p5,p6⟩:=ok rfl;have q:=ih l2 (cnt+1) at2 (its++[x]) (by omega) (by omega) (by omega) p3 p5 (by simp;omega)
    rw[Ba (by simp),<-q,Zx,G8];have e1:A6 [x]=x.cells:=by simp[A6]
    rw[e1];obtain⟨xk,xn,xs⟩:=x;unfold It.cells at ri ⊢;have e00:((0:Int) != 0)=false:=rfl
    repeat(with_reducible(first|apply Al|apply Af|apply Ak|apply As|apply Bb|apply Bf|apply A7|apply Ay|apply Ag|apply Aj|apply Do);· first|constructor|(simp(disch:=omega)only[Dp,dn,ri,e00,L,t,LT,tT]<;>first|constructor|omega)|omega)
    try simp(disch:=omega)only[Aa,dn,ri,e00,L,t,LT,tT]
    all_goals rfl
   ·have he':(e != 0)=true:=by simp[he]
    rw[B7 he];obtain⟨xk,xn,xs⟩:=x;unfold It.cells at ri
    repeat(with_reducible(first|apply Al|apply Af|apply Ak|apply As|apply Bb|apply Bf|apply A7|apply Ay|apply Ag|apply Aj|apply Do);· first|constructor|(simp(disch:=omega)only[Dp,dn,ri,he',L,t,LT,tT]<;>first|constructor|omega)|omega)
    try simp(disch:=omega)only[Aa,dn,ri,he',L,t,LT,tT]
    all_goals rfl
  ·rw[hd] at dn;rw[B7 rfl]
   repeat(with_reducible(first|apply Al|apply Af|apply Ak|apply As|apply Bb|apply Bf|apply A7|apply Ay|apply Ag|apply Aj|apply Do);· first|constructor|(simp(disch:=omega)only[Dp,dn,L,t,LT,tT]<;>first|constructor|omega)|omega)
   try simp(disch:=omega)only[Aa,dn,L,t,LT,tT]
   all_goals rfl
theorem Aj3(Bo:1000<=fu){b:Cg}(hb:Mn b)(hl:b.length<=1000000):
  Ap C0 prog fu (d+5) 47 [.lst false 1 b.length (Ad .u8 b)]=some ⟨Afe (Jv fu [] 0 b 0 []),[]⟩:=by
 rw[UA];exact Aeg Bo hb hl fu [] 0 0 [] (by omega) (by omega) (by omega) (by simp) (by omega) (by simp)
end
end
end Go.Proofs.YtpogefhpiaaliaaGreatDoor.Pv
