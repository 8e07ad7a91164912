/-
  The proof of MetadataDecodes, part 4.
-/
import Derived.Test.YtpogefhpiaaliaaGreatDoorDC
import Derived.Test.YtpogefhpiaaliaaGreatDoorRows
import Derived.RangeFuncNested
import Derived.RangeFuncLeaves
import Derived.WalkKit
import Derived.LoopNIn
import Derived.OrdersIn
set_option linter.unusedSimpArgs false
set_option linter.unusedVariables false
namespace Go.Proofs.YtpogefhpiaaliaaGreatDoor.Pv
open Go.IntKind (wrap)
open Go.Proofs.Tryz (prog)
set_option maxRecDepth 1000000
noncomputable section
def Ep(w:Int)(k:Nat):Int:=wrap .u8 (F2 .u64 w (56-8*(k:Int)))
def Ew(w:Int):Ca:=(List.range' 0 8).map (Ep w)
def A4(ws:Ca):Ca:=ws.flatMap Ew
theorem Fb(w:Int):(Ew w).length=8:=rfl
section
variable {fu d:Nat}{xs:FuncId->Option (Ab->Option D0)}{call:Bp}{n:Nat}{c:Ab}
theorem Af4{ws:Ca}{w:Int}{m0 l:Nat}{i k:Int}:∀(r j nn:Nat)(bs:Ca),8-j=r->r<nn->j<=8->bs.length+r<=34359738368 ->
  Nb fu call n c m0 nn bs.length w l (Ac .u64 ws) k i j (Ac .u8 bs) =
   Kb fu call n c m0 (bs++(List.range' j (8-j)).map (Ep w)).length l (Ac .u64 ws) k (wrap .i64 (i+1)) (Ac .u8 (bs++(List.range' j (8-j)).map (Ep w)))
 |r,j,0,bs,_,h,_,_=>by omega
 |0,j,nn+1,bs,hr,_,hj,_=>by
  have e:j=8:=by omega
  subst e;rw[Wo];simp(disch:=omega)only[B4,B3];simp
 |r+1,j,nn+1,bs,hr,hn,hj,hb=>by
  have ih:=Af4 (ws:=ws) (w:=w) (m0:=m0) (l:=l) (i:=i) (k:=k) r (j+1) nn (bs++[Ep w j]) (by omega) (by omega) (by omega) (by simp;omega)
  have e8:=Am .u8 bs;rw[Wo]
  have hx:wrap .u8 (F2 .u64 w (wrap .i64 (56-wrap .i64 (8*(j:Int)))))=Ep w j:=by
   rw[Ag (x:=8*(j:Int)) (by omega) (by omega),Ag (by omega) (by omega)];rfl
  have h0:0<=wrap .i64 (56-wrap .i64 (8*(j:Int))):=by
   rw[Ag (x:=8*(j:Int)) (by omega) (by omega),Ag (by omega) (by omega)];omega
  have Aka:List.range' j (8-j)=j::List.range' (j+1) (8-(j+1)):=by
   rw[show 8-j=(8-(j+1))+1 by omega];exact List.range'_succ
  simp (disch:=first|omega|exact h0) only[B4,B3,Df,hx,Mb,Hj,Ag (x:=(j:Int)+1)];rw[Aka];simp only[Fw,G7,Vx,Cm,FC,Sf,List.singleton_append] at ih ⊢;exact ih
theorem SS{ws:Ca}(hl:ws.length<=1073741824)(Bn:100<=fu):∀(r:Ca)(i nn:Nat)(bs:Ca),ws.drop i=r->r.length<nn->bs.length=8*i ->
  Kb fu call n c nn bs.length ws.length (Ac .u64 ws) ws.length i (Ac .u8 bs)=some ⟨[.own 1 (bs++A4 r).length (Ac .u8 (bs++A4 r))],[]⟩
 |r,i,0,_,_,h,_=>by omega
 |[],i,nn+1,bs,h,_,_=>by
  have:=drop_nil h;have e8:=Am .u8 bs;rw[Wg];simp(disch:=omega)only[B4,B3,Df,Mb,A4,List.flatMap_nil,List.append_nil]
 |w::r,i,nn+1,bs,h,hn,hb=>by
  obtain⟨h1,h2,h3⟩:=Dc h;simp only[G7] at hn;rw[Wg];simp(disch:=omega)only[B4,B3,H0,Df,Vg h2];rw[show (0:Int)=((0:Nat):Int) from rfl,Af4 8 0 fu bs rfl (by omega) (by omega) (by omega),Ag (by omega) (by omega)];have ih:=SS hl Bn r (i+1) nn (bs++Ew w) h3 (by omega) (by simp[Fb];omega)
  have e:bs++Ew w++A4 r=bs++A4 (w::r):=by simp[A4]
  rw[e] at ih;exact ih
theorem Vc{ws:Ca}(hl:ws.length<=1073741824)(Bn:100<=fu)(hf:ws.length<fu):Ar (CX xs) prog fu (d+1) 86 [.lst false 1 ws.length (Ac .u64 ws)]=some ⟨[.own 1 (A4 ws).length (Ac .u8 (A4 ws))],[]⟩:=by rw[WO];simp(disch:=omega)only[B4,B3,Ag,Int.mul_one];exact SS hl Bn ws 0 fu [] rfl hf rfl
theorem Abj{ws:Ca}{w:Int}{m0 i:Nat}(hw:ws[i]?=some w):∀(r nn:Nat)(j:Int)(bs:Ca),j=(r:Int)-1->r<=8->r<nn->bs.length+r<=34359738368 ->
  Iv fu call n c m0 nn ws.length (Ac .u64 ws) bs.length i j (Ac .u8 bs) =
   G6 fu call n c m0 ws.length (Ac .u64 ws) (bs++(List.range' (8-r) r).map (Ep w)).length (wrap .i64 (i+1)) (Ac .u8 (bs++(List.range' (8-r) r).map (Ep w)))
 |r,0,j,bs,_,_,h,_=>by omega
 |0,nn+1,j,bs,hr,_,_,_=>by
  rw[Oi];simp(disch:=omega)only[B4,B3];simp
 |r+1,nn+1,j,bs,hr,ET,hn,hb=>by
  have hi:=A2x hw;have ih:=Abj (m0:=m0) hw r nn (j-1) (bs++[Ep w (8-(r+1))]) (by omega) (by omega) (by omega) (by simp;omega)
  have e8:=Am .u8 bs
  have hx:wrap .u8 (F2 .u64 w (wrap .u64 (wrap .i64 (8*j))))=Ep w (8-(r+1)):=by
   rw[Ag (by omega) (by omega),Cd (by omega) (by omega)];unfold Ep;rw[show 56-8*((8-(r+1):Nat):Int)=8*j by omega]
  have h0:0<=wrap .u64 (wrap .i64 (8*j)):=by
   rw[Ag (by omega) (by omega),Cd (by omega) (by omega)];omega
  have Aka:List.range' (8-(r+1)) (r+1)=(8-(r+1))::List.range' (8-r) r:=by
   rw[List.range'_succ,show 8-(r+1)+1=8-r by omega]
  rw[Oi];simp (disch:=first|omega|exact h0) only[B4,B3,H0,Df,Vg hw,hx,Mb,Hj,Ag (x:=j-1)];rw[Aka];simp only[Fw,G7,Vx,Cm,FC,Sf,List.singleton_append] at ih ⊢;exact ih
theorem PP{ws:Ca}(hl:ws.length<=1073741824)(Bn:100<=fu):∀(r:Ca)(i nn:Nat)(bs:Ca),ws.drop i=r->r.length<nn->bs.length=8*i ->
  G6 fu call n c nn ws.length (Ac .u64 ws) bs.length i (Ac .u8 bs)=some ⟨[.own 1 (bs++A4 r).length (Ac .u8 (bs++A4 r))],[]⟩
 |r,i,0,_,_,h,_=>by omega
 |[],i,nn+1,bs,h,_,_=>by
  have:=drop_nil h;have e8:=Am .u8 bs;rw[O4];simp(disch:=omega)only[B4,B3,Df,Mb,A4,List.flatMap_nil,List.append_nil]
 |w::r,i,nn+1,bs,h,hn,hb=>by
  obtain⟨h1,h2,h3⟩:=Dc h;simp only[G7] at hn;rw[O4];simp(disch:=omega)only[B4,B3];rw[Abj h2 8 fu 7 bs rfl (by omega) (by omega) (by omega),Ag (by omega) (by omega)];have ih:=PP hl Bn r (i+1) nn (bs++Ew w) h3 (by omega) (by simp[Fb];omega)
  have e:bs++Ew w++A4 r=bs++A4 (w::r):=by simp[A4]
  rw[e] at ih;exact ih
theorem N5{ws:Ca}(hl:ws.length<=1073741824)(Bn:100<=fu)(hf:ws.length<fu):Ar (CX xs) prog fu (d+1) 79 [.lst false 1 ws.length (Ac .u64 ws)]=some ⟨[.own 1 (A4 ws).length (Ac .u8 (A4 ws))],[]⟩:=by rw[FL];exact PP hl Bn ws 0 fu [] rfl hf rfl
end
abbrev Gc(a b:Int):Int:=XH .u64 (Hm .u64 a 8) (wrap .u64 b)
def FO(bs:Ca):Int:=bs.foldl Gc 0
theorem Azw{q:Int}(h0:0<=q)(h1:q<=18446744073709551615):Gc (q / 256) (wrap .u8 q)=q:=by
 have e1:Hm .u64 (q / 256) 8=q / 256*256:=by
  unfold Hm;have:((8:Int).toNat.min IntKind.u64.bits)=8:=by decide
  show wrap .u64 (q / 256*2 ^ (min (8:Int).toNat IntKind.u64.bits))=_;have h2:(2:Int) ^ (min (8:Int).toNat IntKind.u64.bits)=256:=by decide
  rw[h2,Cd (by omega) (by omega)]
 have e2:wrap .u8 q=q % 256:=by
  simp only[wrap,IntKind.signed,IntKind.bits];simp
 have e3:wrap .u64 (q % 256)=q % 256:=Cd (by omega) (by omega);unfold Gc;rw[e1,e2,e3];obtain⟨n,rfl⟩:=Int.eq_ofNat_of_zero_le h0;have hn:n<18446744073709551616:=by omega
 have e4:(BitVec.ofInt 64 ((n:Int) / 256*256)).toNat=n / 256*256:=by
  rw[BitVec.toNat_ofInt];omega
 have e5:(BitVec.ofInt 64 ((n:Int) % 256)).toNat=n % 256:=by
  rw[BitVec.toNat_ofInt];omega
 have e6:n / 256*256 ||| n % 256=n:=by
  have:=Nat.shiftLeft_add_eq_or_of_lt (show n % 256<2 ^ 8 by omega) (n / 256);rw[Nat.shiftLeft_eq] at this;rw[<-this];omega
 unfold XH;show wrap .u64 ((BitVec.ofInt 64 ((n:Int) / 256*256) ||| BitVec.ofInt 64 ((n:Int) % 256)).toNat:Int)=n;rw[BitVec.toNat_or,e4,e5,e6,Cd (by omega) (by omega)]
theorem Abe{w:Int}(k:Nat)(hk:k<8):Ep w k=wrap .u8 (w / 2 ^ (56-8*k)):=by
 unfold Ep F2;have e:(56-8*(k:Int)).toNat=56-8*k:=by omega
 rw[e,Nat.min_eq_left (by show 56-8*k<=64;omega),Int.fdiv_eq_ediv_of_nonneg _ (Int.le_of_lt (Int.pow_pos (by omega)))]
theorem YX{w:Int}(h0:0<=w)(h1:w<=18446744073709551615):FO (Ew w)=w:=by
 have st:∀(k:Nat) (D:Int),k<8->(2:Int) ^ (56-8*k)=D->0<D->Gc (w / D / 256) (Ep w k)=w / D:=by
  intro k D hk hD hp;rw[Abe k hk,hD];exact Azw (Int.ediv_nonneg h0 (Int.le_of_lt hp)) (Int.le_trans (Int.ediv_le_self _ h0) h1)
 have s0:=st 0 72057594037927936 (by omega) (by decide) (by omega);have s1:=st 1 281474976710656 (by omega) (by decide) (by omega);have s2:=st 2 1099511627776 (by omega) (by decide) (by omega);have s3:=st 3 4294967296 (by omega) (by decide) (by omega);have s4:=st 4 16777216 (by omega) (by decide) (by omega);have s5:=st 5 65536 (by omega) (by decide) (by omega);have s6:=st 6 256 (by omega) (by decide) (by omega);have s7:=st 7 1 (by omega) (by decide) (by omega);rw[show w / 72057594037927936 / 256=0 by omega] at s0;rw[show w / 281474976710656 / 256=w / 72057594037927936 by omega] at s1;rw[show w / 1099511627776 / 256=w / 281474976710656 by omega] at s2;rw[show w / 4294967296 / 256=w / 1099511627776 by omega] at s3;rw[show w / 16777216 / 256=w / 4294967296 by omega] at s4;rw[show w / 65536 / 256=w / 16777216 by omega] at s5;rw[show w / 256 / 256=w / 65536 by omega] at s6
 rw[show w / 1 / 256=w / 256 by omega,show w / 1=w by omega] at s7;show Gc (Gc (Gc (Gc (Gc (Gc (Gc (Gc 0 (Ep w 0)) (Ep w 1)) (Ep w 2)) (Ep w 3)) (Ep w 4)) (Ep w 5)) (Ep w 6)) (Ep w 7)=w;rw[s0,s1,s2,s3,s4,s5,s6,s7]
section
variable {xs:FuncId->Option (Ab->Option D0)}(fu d:Nat)(call:Bp)
def Iq(Z:Int)(Y:Nat)(X W V:Int)(U T:Ab):Option D0:=Mg fu call 110 Tryz.f110 [Af Z] [.r,.r,.r,.l,.r,.l] Y ⟨lk [(0,Af X),(2,.ptr 2 0),(3,.ptr 3 0),(4,W),(6,V)],B0 [(2,.ar false U),(3,.ar false T)]⟩
def Wm(Z:Int)(Y:Nat)(X W:Ab):Option D0:=Mg fu call 110 Tryz.f110 [Af Z] [.r,.r,.r,.r,.r] Y ⟨lk [(2,.ptr 2 0),(3,.ptr 3 0)],B0 [(2,.ar false X),(3,.ar false W)]⟩
def Wf(Z:Int)(Y:Nat)(X:Ab):Option D0:=Mg fu call 110 Tryz.f110 [Af Z] [.r,.r,.r,.r,.r,.r] Y ⟨lk [(2,.ptr 2 0)],B0 [(2,.ar false X)]⟩
theorem Sq(W:Int)(T:Nat)(V X Z:Int)(U Y:Ab):Iq fu call W (T+1) V X Z U Y=(A3 (decide (Z<16)) (Aa (wrap .i64 (4*Z)) fun a=>Aa (wrap .i64 (60-a)) fun a=>As (decide (0<=a))<|Aa (F2 .u64 V a) fun a=>Aa (Qg .u64 a 15) fun a=>Aa (wrap .i64 a) fun a=>As (decide (0<=Z)&&decide (Z<18))<|As (decide (0+Z.toNat*1+1<=Y.length))<|Aa (Bx Y [a] (0+Z.toNat*1)) fun a=>As (decide (0<=Z)&&decide (Z<18))<|Be .i64 (a.getD (0+Z.toNat*1) .top) fun b=>Aa (wrap .i64 (15-b)) fun b=>Aa (wrap .i64 (X+b)) fun b=>Aa (wrap .i64 (Z+1)) fun c=>Iq fu call W T V b c U a) (Aa (wrap .i64 (Int.tdiv X 16)) fun a=>As (decide (17<=Y.length))<|Aa (Bx Y [a] 16) fun a=>Aa (Int.tmod X 16) fun b=>As (decide (18<=a.length))<|Aa (Bx a [b] 17) fun a=>Wm fu call W fu U a)):=by kernel_rfl
theorem FN(W:Int)(Y:Nat)(Mz:0<Y)(X Z:Ab):Wm fu call W Y X Z=(Be .i64 (Z.getD 0 .top) fun a=>Be .i64 (Z.getD 1 .top) fun b=>Be .i64 (Z.getD 2 .top) fun c=>Be .i64 (Z.getD 3 .top) fun e=>Be .i64 (Z.getD 4 .top) fun f=>Be .i64 (Z.getD 5 .top) fun g=>Be .i64 (Z.getD 6 .top) fun h=>Be .i64 (Z.getD 7 .top) fun i=>Be .i64 (Z.getD 8 .top) fun j=>Be .i64 (Z.getD 9 .top) fun k=>Be .i64 (Z.getD 10 .top) fun m=>Be .i64 (Z.getD 11 .top) fun n=>Be .i64 (Z.getD 12 .top) fun o=>Be .i64 (Z.getD 13 .top) fun p=>Be .i64 (Z.getD 14 .top) fun q=>Be .i64 (Z.getD 15 .top) fun s=>Be .i64 (Z.getD 16 .top) fun t=>Be .i64 (Z.getD 17 .top) fun u=>As (decide (18<=X.length))<|Aa (Bx X [a,b,c,e,f,g,h,i,j,k,m,n,o,p,q,s,t,u] 0) fun a=>Wf fu call W fu a):=by cases Y with|zero=>exact absurd Mz (Nat.lt_irrefl 0)|succ Y=>kernel_rfl
theorem FQ(X:Int)(Y:Nat)(Mz:0<Y)(Z:Ab):Wf fu call X Y Z=(Be .i64 (Z.getD 0 .top) fun a=>Be .i64 (Z.getD 1 .top) fun b=>Be .i64 (Z.getD 2 .top) fun c=>Be .i64 (Z.getD 3 .top) fun e=>Be .i64 (Z.getD 4 .top) fun f=>Be .i64 (Z.getD 5 .top) fun g=>Be .i64 (Z.getD 6 .top) fun h=>Be .i64 (Z.getD 7 .top) fun i=>Be .i64 (Z.getD 8 .top) fun j=>Be .i64 (Z.getD 9 .top) fun k=>Be .i64 (Z.getD 10 .top) fun m=>Be .i64 (Z.getD 11 .top) fun n=>Be .i64 (Z.getD 12 .top) fun o=>Be .i64 (Z.getD 13 .top) fun p=>Be .i64 (Z.getD 14 .top) fun q=>Be .i64 (Z.getD 15 .top) fun s=>Be .i64 (Z.getD 16 .top) fun t=>Be .i64 (Z.getD 17 .top) fun u=>Bv [.agg [a,b,c,e,f,g,h,i,j,k,m,n,o,p,q,s,t,u]]):=by cases Y with|zero=>exact absurd Mz (Nat.lt_irrefl 0)|succ Y=>kernel_rfl
theorem OE(Z:Int):Fn (CX xs) fu d 110 [Af Z] fun call=>Iq fu call Z fu Z 0 0 ([(0:Int),(0:Int),(0:Int),(0:Int),(0:Int),(0:Int),(0:Int),(0:Int),(0:Int),(0:Int),(0:Int),(0:Int),(0:Int),(0:Int),(0:Int),(0:Int),(0:Int),(0:Int)]) ([(0:Int),(0:Int),(0:Int),(0:Int),(0:Int),(0:Int),(0:Int),(0:Int),(0:Int),(0:Int),(0:Int),(0:Int),(0:Int),(0:Int),(0:Int),(0:Int),(0:Int),(0:Int)]):=by show _=_;kernel_rfl
def Ov(Z Y:Int)(X W V:Int)(U:Nat)(T S:Int)(Q P O:Int):Option D0:=Mg fu call 111 Tryz.f111 [Z,Y,X,W,Af V] [.r,.r,.l,.r,.l] U ⟨lk [(0,T),(1,S),(4,Af Q),(11,P),(12,O)],B0 []⟩
theorem Y5(U T:Int)(S Q P:Int)(O:Nat)(Y X:Int)(W V Z:Int):Ov fu call U T S Q P (O+1) Y X W V Z=(A3 (decide (Z<V)) (Aa (wrap .u64 Y) fun a=>Aa (wrap .u64 X) fun b=>Aa (wrap .u64 Z) fun c=>Dm (call 86 [Ap 1 4 [Af a,Af b,Af c,Af W]]) fun a b=>Je 1 a fun a c=>Aq b<|As (decide (0+a*1<=c.length))<|Na .u64 (call 66 [(1:Int),Ap 1 a (List.take (a*1) (c.drop 0))]) fun a=>Aa (wrap .i64 (Z+1)) fun b=>Ov fu call U T S Q P O Y X a V b) (Bv [Af W])):=by kernel_rfl
theorem XX(X W:Int)(Z Y V:Int):Fn (CX xs) fu d 111 [X,W,Z,Y,Af V] fun call=>Aa (if 15<Y then 15 else Y) fun a=>Aa (if Z<0 then 0 else Z) fun b=>Ov fu call X W Z Y V fu X W V a b:=by show _=_;kernel_rfl
theorem JH(Z Y:Int)(X W:Int)(V U:Int)(T S:Int)(Q P:Int)(O N:Int)(M L:Int)(K J:Int)(I H G:Int):Fn (CX xs) fu d 115 [Z,.agg [Af Y,Af X,Af W,Af V,Af U,Af T,Af S,Af Q,Af P,Af O,Af N,Af M,Af L,Af K,Af J,Af I,Af H,Af G]] fun call=>Aa (wrap .u64 Z) fun a=>Dm (call 86 [Ap 1 19 [Af a,Af Y,Af X,Af W,Af V,Af U,Af T,Af S,Af Q,Af P,Af O,Af N,Af M,Af L,Af K,Af J,Af I,Af H,Af G]]) fun a b=>Je 1 a fun a c=>Aq b<|As (decide (0+a*1<=c.length))<|Na .u64 (call 66 [(2:Int),Ap 1 a (List.take (a*1) (c.drop 0))]) fun a=>Bv [Af a]:=by show _=_;kernel_rfl
def Gp(Z Y:Int)(X:Nat)(W:Ab)(V:Nat)(U:Int)(T:Nat)(S:Ab)(Q P:Int)(O N:Int)(M L:Int)(K J:Int)(I H:Int)(G E:Int)(D B:Int)(A z:Int)(w v u:Int)(t:Ab):Option D0:=Mg fu call 75 Tryz.f75 [Z,Af Y,Ap 1 X W] [.r,.r,.r,.l,.r,.l] V ⟨lk [(0,U),(2,Ap 1 T S),(8,.ptr 8 0),(15,.agg [Q,P,O,N,M,L,K,J,I,H,G,E,D,B,A,z,w,v]),(16,u)],B0 [(8,.ar false t)]⟩
def U9(Z Y:Int)(X:Nat)(W:Ab)(V:Nat)(U:Int)(T:Ab):Option D0:=Mg fu call 75 Tryz.f75 [Z,Af Y,Ap 1 X W] [.r,.r,.r] V ⟨lk [(0,U),(8,.ptr 8 0)],B0 [(8,.ar false T)]⟩
def Uu(Z Y:Int)(X:Nat)(W:Ab)(V:Nat)(U T:Int):Option D0:=Mg fu call 75 Tryz.f75 [Z,Af Y,Ap 1 X W] [.r,.r,.r,.r] V ⟨lk [(6,Af U),(7,T)],B0 []⟩
theorem Rq(W V:Int)(U:Nat)(T:Ab)(t:Nat)(Y:Int)(S:Nat)(Q:Ab)(P O:Int)(N M:Int)(L K:Int)(J I:Int)(H G:Int)(E D:Int)(B A:Int)(z w:Int)(v u Z:Int)(X:Ab):Gp fu call W V U T (t+1) Y S Q P O N M L K J I H G E D B A z w v u Z X=(A3 (decide (Z<18)) (As (decide (0<=Z)&&decide (Z<18)&&true)<|Be .i64 (List.getD [P,O,N,M,L,K,J,I,H,G,E,D,B,A,z,w,v,u] (Z.toNat*1) .top) fun a=>As (decide (0<=Z)&&decide (Z<(↑S:Int)))<|Be .u64 (Q.getD (Z.toNat*1) .top) fun b=>Na .u64 (call 111 [Y,Z,a,(15:Int),Af b]) fun a=>As (decide (0<=Z)&&decide (Z<18))<|As (decide (0+Z.toNat*1+1<=X.length))<|Aa (Bx X [Af a] (0+Z.toNat*1)) fun a=>Aa (wrap .i64 (Z+1)) fun b=>Gp fu call W V U T t Y S Q P O N M L K J I H G E D B A z w v u b a) (U9 fu call W V U T fu Y X)):=by kernel_rfl
theorem CC(X W:Int)(V:Nat)(U:Ab)(Y:Nat)(Mz:0<Y)(T:Int)(Z:Ab):U9 fu call X W V U Y T Z=(Be .u64 (Z.getD 0 .top) fun a=>Be .u64 (Z.getD 1 .top) fun b=>Be .u64 (Z.getD 2 .top) fun c=>Be .u64 (Z.getD 3 .top) fun e=>Be .u64 (Z.getD 4 .top) fun f=>Be .u64 (Z.getD 5 .top) fun g=>Be .u64 (Z.getD 6 .top) fun h=>Be .u64 (Z.getD 7 .top) fun i=>Be .u64 (Z.getD 8 .top) fun j=>Be .u64 (Z.getD 9 .top) fun k=>Be .u64 (Z.getD 10 .top) fun m=>Be .u64 (Z.getD 11 .top) fun n=>Be .u64 (Z.getD 12 .top) fun o=>Be .u64 (Z.getD 13 .top) fun p=>Be .u64 (Z.getD 14 .top) fun q=>Be .u64 (Z.getD 15 .top) fun s=>Be .u64 (Z.getD 16 .top) fun t=>Be .u64 (Z.getD 17 .top) fun u=>Na .u64 (call 115 [T,.agg [Af a,Af b,Af c,Af e,Af f,Af g,Af h,Af i,Af j,Af k,Af m,Af n,Af o,Af p,Af q,Af s,Af t,Af u]]) fun a=>Uu fu call X W V U fu a 0):=by cases Y with|zero=>exact absurd Mz (Nat.lt_irrefl 0)|succ Y=>kernel_rfl
theorem CG(W V:Int)(U:Nat)(T:Ab)(Z:Nat)(Mz:0<Z)(Y X:Int):Uu fu call W V U T Z Y X=(Bv [Af Y,X]):=by cases Z with|zero=>exact absurd Mz (Nat.lt_irrefl 0)|succ Z=>kernel_rfl
theorem JZ(Y X:Int)(Z:Nat)(W:Ab):Fn (CX xs) fu d 75 [Y,Af X,Ap 1 Z W] fun call=>A3 ((↑Z:Int) != 18) (Bv [Af 0,(4:Int)]) (Dm (call 110 [Af X]) fun a b=>Dr a fun a=>C2 .i64 a fun a c=>C2 .i64 c fun c e=>C2 .i64 e fun e f=>C2 .i64 f fun f g=>C2 .i64 g fun g h=>C2 .i64 h fun h i=>C2 .i64 i fun i j=>C2 .i64 j fun j k=>C2 .i64 k fun k m=>C2 .i64 m fun m n=>C2 .i64 n fun n o=>C2 .i64 o fun o p=>C2 .i64 p fun p q=>C2 .i64 q fun q s=>C2 .i64 s fun s t=>C2 .i64 t fun t u=>C2 .i64 u fun u v=>Dk .i64 v fun v=>Aq b<|Gp fu call Y X Z W fu Y Z W a c e f g h i j k m n o p q s t u v 0 ([Af 0,Af 0,Af 0,Af 0,Af 0,Af 0,Af 0,Af 0,Af 0,Af 0,Af 0,Af 0,Af 0,Af 0,Af 0,Af 0,Af 0,Af 0])):=by show _=_;kernel_rfl
theorem NL(Z Y X:Int):Fn (CX xs) fu d 112 [Af Z,Y,X] fun call=>Aa (wrap .u64 Y) fun a=>Aa (wrap .u64 X) fun b=>Dm (call 86 [Ap 1 2 [Af a,Af b]]) fun a b=>Je 1 a fun a c=>Aq b<|As (decide (0+a*1<=c.length))<|Na .u64 (call 137 [Af Z,(1:Int),Ap 1 a (List.take (a*1) (c.drop 0))]) fun a=>Bv [Af a]:=by show _=_;kernel_rfl
def Hb(Z Y:Int)(X:Nat)(W V U:Int)(T:Ab):Option D0:=Mg fu call 114 Tryz.f114 [Af Z,Y] [.r,.r,.l,.r,.l] X ⟨lk [(0,Af W),(1,V),(5,.ptr 5 0),(7,U)],B0 [(5,.ar false T)]⟩
def W9(Z Y:Int)(X:Nat)(W:Int)(V:Ab):Option D0:=Mg fu call 114 Tryz.f114 [Af Z,Y] [.r,.r] X ⟨lk [(1,W),(5,.ptr 5 0)],B0 [(5,.ar false V)]⟩
def W0(Z Y:Int)(X:Nat)(W:Int):Option D0:=Mg fu call 114 Tryz.f114 [Af Z,Y] [.r,.r,.r] X ⟨lk [(4,Af W)],B0 []⟩
theorem Td(W V:Int)(T:Nat)(U Y Z:Int)(X:Ab):Hb fu call W V (T+1) U Y Z X=(A3 (decide (Z<18)) (Na .u64 (call 112 [Af U,Y,Z]) fun a=>Na .u64 (call 111 [Y,Z,(0:Int),(15:Int),Af a]) fun a=>As (decide (0<=Z)&&decide (Z<18))<|As (decide (0+Z.toNat*1+1<=X.length))<|Aa (Bx X [Af a] (0+Z.toNat*1)) fun a=>Aa (wrap .i64 (Z+1)) fun b=>Hb fu call W V T U Y b a) (W9 fu call W V fu Y X)):=by kernel_rfl
theorem FD(X W:Int)(Y:Nat)(Mz:0<Y)(V:Int)(Z:Ab):W9 fu call X W Y V Z=(Be .u64 (Z.getD 0 .top) fun a=>Be .u64 (Z.getD 1 .top) fun b=>Be .u64 (Z.getD 2 .top) fun c=>Be .u64 (Z.getD 3 .top) fun e=>Be .u64 (Z.getD 4 .top) fun f=>Be .u64 (Z.getD 5 .top) fun g=>Be .u64 (Z.getD 6 .top) fun h=>Be .u64 (Z.getD 7 .top) fun i=>Be .u64 (Z.getD 8 .top) fun j=>Be .u64 (Z.getD 9 .top) fun k=>Be .u64 (Z.getD 10 .top) fun m=>Be .u64 (Z.getD 11 .top) fun n=>Be .u64 (Z.getD 12 .top) fun o=>Be .u64 (Z.getD 13 .top) fun p=>Be .u64 (Z.getD 14 .top) fun q=>Be .u64 (Z.getD 15 .top) fun s=>Be .u64 (Z.getD 16 .top) fun t=>Be .u64 (Z.getD 17 .top) fun u=>Na .u64 (call 115 [V,.agg [Af a,Af b,Af c,Af e,Af f,Af g,Af h,Af i,Af j,Af k,Af m,Af n,Af o,Af p,Af q,Af s,Af t,Af u]]) fun a=>W0 fu call X W fu a):=by cases Y with|zero=>exact absurd Mz (Nat.lt_irrefl 0)|succ Y=>kernel_rfl
theorem FR(X W:Int)(Z:Nat)(Mz:0<Z)(Y:Int):W0 fu call X W Z Y=(Bv [Af Y]):=by cases Z with|zero=>exact absurd Mz (Nat.lt_irrefl 0)|succ Z=>kernel_rfl
theorem OG(Z Y:Int):Fn (CX xs) fu d 114 [Af Z,Y] fun call=>Hb fu call Z Y fu Z Y 0 ([Af 0,Af 0,Af 0,Af 0,Af 0,Af 0,Af 0,Af 0,Af 0,Af 0,Af 0,Af 0,Af 0,Af 0,Af 0,Af 0,Af 0,Af 0]):=by show _=_;kernel_rfl
def Nc(Z Y X:Int)(W:Nat)(V U:Int)(T S:Int)(Q P:Int)(O N:Int)(M L:Int)(K J:Int)(I H:Int)(G E:Int)(D B:Int)(A z w:Int)(v:Ab):Option D0:=Mg fu call 69 Tryz.f69 [Af Z,Y,Af X] [.r,.r,.l,.r,.l] W ⟨lk [(0,Af V),(1,U),(7,.ptr 7 0),(11,.agg [T,S,Q,P,O,N,M,L,K,J,I,H,G,E,D,B,A,z]),(12,w)],B0 [(7,.ar false v)]⟩
theorem Wb(A z w:Int)(v:Nat)(W X:Int)(V U:Int)(T S:Int)(Q P:Int)(O N:Int)(M L:Int)(K J:Int)(I H:Int)(G E:Int)(D B Z:Int)(Y:Ab):Nc fu call A z w (v+1) W X V U T S Q P O N M L K J I H G E D B Z Y=(A3 (decide (Z<18)) (As (decide (0<=Z)&&decide (Z<18)&&true)<|Be .i64 (List.getD [V,U,T,S,Q,P,O,N,M,L,K,J,I,H,G,E,D,B] (Z.toNat*1) .top) fun a=>Na .u64 (call 112 [Af W,X,Z]) fun b=>Na .u64 (call 111 [X,Z,(0:Int),a,Af b]) fun a=>As (decide (0<=Z)&&decide (Z<18))<|As (decide (0+Z.toNat*1+1<=Y.length))<|Aa (Bx Y [Af a] (0+Z.toNat*1)) fun a=>Aa (wrap .i64 (Z+1)) fun b=>Nc fu call A z w v W X V U T S Q P O N M L K J I H G E D B b a) (As (decide (18<=Y.length))<|As (decide (18<=Y.length))<|Bv [.own 1 18 (Y.take 18)])):=by kernel_rfl
theorem UX(Z Y X:Int):Fn (CX xs) fu d 69 [Af Z,Y,Af X] fun call=>Dm (call 110 [Af X]) fun a b=>Dr a fun a=>C2 .i64 a fun a c=>C2 .i64 c fun c e=>C2 .i64 e fun e f=>C2 .i64 f fun f g=>C2 .i64 g fun g h=>C2 .i64 h fun h i=>C2 .i64 i fun i j=>C2 .i64 j fun j k=>C2 .i64 k fun k m=>C2 .i64 m fun m n=>C2 .i64 n fun n o=>C2 .i64 o fun o p=>C2 .i64 p fun p q=>C2 .i64 q fun q s=>C2 .i64 s fun s t=>C2 .i64 t fun t u=>C2 .i64 u fun u v=>Dk .i64 v fun v=>Aq b<|Nc fu call Z Y X fu Z Y a c e f g h i j k m n o p q s t u v 0 ([Af 0,Af 0,Af 0,Af 0,Af 0,Af 0,Af 0,Af 0,Af 0,Af 0,Af 0,Af 0,Af 0,Af 0,Af 0,Af 0,Af 0,Af 0]):=by show _=_;kernel_rfl
theorem TC(Z:Int):Fn (CX xs) fu d 67 [Z] fun call=>A3 (decide (Z<0)) (Bv [.sc (.bool true)]) (Bv [.sc (.bool (decide (Z>4)))]):=by show _=_;kernel_rfl
theorem KV(Z Y:Int):Fn (CX xs) fu d 68 [Z,Y] fun call=>A3 (decide (Z<0)) (Bv [.sc (.bool true)]) (As (decide (0<=Y))<|Aa (Hm .i64 1 Y) fun a=>Bv [.sc (.bool (decide (Z>=a)))]):=by show _=_;kernel_rfl
def Jk(Z:Nat)(Y:Ab)(X W:Nat)(V:Ab)(U:Nat)(T S:Int)(Q:Ab):Option D0:=Mg fu call 92 Tryz.f92 [Ap 1 Z Y] [.r,.r,.l,.r,.l] X ⟨lk [(0,Ap 1 W V),(3,.view 3 1 0 U),(12,T),(13,S)],B0 [(3,.ar false Q)]⟩
def Ma(Z:Nat)(Y:Ab)(X W V:Nat)(U:Ab)(T:Nat)(S Q P:Int)(O:Nat)(N:Ab)(M L:Int)(K:Ab):Option D0:=Mg fu call 92 Tryz.f92 [Ap 1 Z Y] [.r,.r,.l,.r,.l,.i X,.r,.r,.l,.l,.r,.r,.l] W ⟨lk [(0,Ap 1 V U),(3,.view 3 1 0 T),(4,S),(12,Q),(13,P),(22,Ap 1 O N),(23,M),(24,L)],B0 [(3,.ar false K)]⟩
theorem Uw(T:Nat)(S:Ab)(Q W:Nat)(V:Ab)(Y:Nat)(U Z:Int)(X:Ab):Jk fu call T S (Q+1) W V Y U Z X=(A3 (decide (Z<U)) (Aa (wrap .i64 (8*Z)) fun a=>Aa (wrap .i64 (8*Z)) fun b=>Aa (wrap .i64 (b+8)) fun b=>As (decide (0<=a))<|As (decide (0<=b))<|As (decide (a.toNat<=b.toNat)&&decide (b.toNat<=W))<|Aa (b.toNat-a.toNat) fun b=>Aa (List.take (b*1) (V.drop (a.toNat*1))) fun a=>Ma fu call T S Q fu W V Y Z U Z b a (↑b:Int) 0 X) (As (decide (Y*1<=X.length))<|Bv [.own 1 Y (X.take (Y*1))])):=by kernel_rfl
theorem Uc(V:Nat)(U:Ab)(T K S:Nat)(Q:Ab)(X:Nat)(Z P O:Int)(N:Nat)(M:Ab)(L Y:Int)(W:Ab):Ma fu call V U T (K+1) S Q X Z P O N M L Y W=(A3 (decide (Y<L)) (As (decide (0<=Y)&&decide (Y<(↑N:Int)))<|Be .u8 (M.getD (Y.toNat*1) .top) fun a=>As (decide (0<=Z)&&decide (Z<(↑X:Int)))<|Be .u64 (W.getD (0+Z.toNat*1) .top) fun b=>Aa (Hm .u64 b 8) fun b=>Aa (wrap .u64 a) fun a=>Aa (XH .u64 b a) fun a=>As (decide (0<=Z)&&decide (Z<(↑X:Int)))<|As (decide (0+Z.toNat*1+1<=W.length))<|Aa (Bx W [Af a] (0+Z.toNat*1)) fun a=>Aa (wrap .i64 (Y+1)) fun b=>Ma fu call V U T K S Q X Z P O N M L b a) (Aa (wrap .i64 (O+1)) fun a=>Jk fu call V U T S Q X P a W)):=by kernel_rfl
theorem RX(Z:Nat)(Y:Ab):Fn (CX xs) fu d 92 [Ap 1 Z Y] fun call=>Aa (wrap .i64 (Int.tdiv (↑Z:Int) 8)) fun a=>As (decide (0<=a)&&decide (a<=a)&&decide (a*8<=1099511627776)&&decide (a<=1099511627776))<|Jk fu call Z Y fu Z Y a.toNat ((↑a.toNat:Int)) 0 (Yg a.toNat [Af 0]):=by show _=_;kernel_rfl
theorem NS(Z Y X:Int):Fn (CX xs) fu d 76 [Z,Af Y,Af X] fun call=>Aa (wrap .u64 Z) fun a=>Dm (call 86 [Ap 1 3 [Af a,Af Y,Af X]]) fun a b=>Je 1 a fun a c=>Aq b<|As (decide (0+a*1<=c.length))<|Na .u64 (call 66 [(3:Int),Ap 1 a (List.take (a*1) (c.drop 0))]) fun a=>Bv [Af a]:=by show _=_;kernel_rfl
theorem FI(Z Y:Int):Fn (CX xs) fu d 129 [.agg [Z,Af Y]] fun call=>Dm (call 67 [Z]) fun a b=>Cg a fun a=>Aq b<|A3 a (Bv [.own 1 0 [],(9:Int)]) (Aa (wrap .u8 Z) fun a=>Dm (call 86 [Ap 1 1 [Af Y]]) fun b c=>Je 1 b fun b e=>Aq c<|As (decide (0+b*1<=e.length))<|As (decide (List.length (List.take (b*1) (e.drop 0))=b*1)&&decide ((1+b)*1<=1099511627776)&&decide (1+b<=1099511627776))<|Aa (1+b) fun c=>Aa ([.sc (.int .u8 a)]++List.take (b*1) (e.drop 0)) fun a=>As (decide (c*1<=a.length))<|Bv [.own 1 c (a.take (c*1)),(0:Int)]):=by show _=_;kernel_rfl
theorem FJ(Z:Nat)(Y:Ab):Fn (CX xs) fu d 125 [Ap 1 Z Y] fun call=>A3 ((↑Z:Int) != 9) (Bv [.agg [(0:Int),Af 0],(2:Int)]) (As (decide (0<(↑Z:Int)))<|Be .u8 (Y.getD 0 .top) fun a=>Aa (wrap .i64 a) fun a=>Dm (call 67 [a]) fun a b=>Cg a fun a=>Aq b<|A3 a (Bv [.agg [(0:Int),Af 0],(2:Int)]) (As (decide (0<(↑Z:Int)))<|Be .u8 (Y.getD 0 .top) fun a=>Aa (wrap .i64 a) fun a=>As (decide (1<=Z)&&decide (Z<=Z))<|Aa (Z-1) fun b=>Aa (List.take (b*1) (Y.drop 1)) fun c=>Dm (call 92 [Ap 1 b c]) fun b c=>Je 1 b fun b e=>Aq c<|As (decide (0<(↑b:Int)))<|Be .u64 (e.getD 0 .top) fun b=>Bv [.agg [a,Af b],(0:Int)])):=by show _=_;kernel_rfl
theorem V7(Y:Int)(X:Nat)(W:Ab)(Z:Nat)(V:Ab):Fn (CX xs) fu d 46 [.agg [Y,Ap 1 X W,Ap 1 Z V]] fun call=>Dm (call 67 [(↑Z:Int)]) fun a b=>Cg a fun a=>Aq b<|A3 a (Bv [.own 1 0 [],(9:Int)]) (Dm (call 68 [Y,(↑Z:Int)]) fun a b=>Cg a fun a=>Aq b<|A3 a (Bv [.own 1 0 [],(9:Int)]) (A3 ((↑X:Int) != 18) (Bv [.own 1 0 [],(4:Int)]) (Aa (wrap .u8 Y) fun a=>Aa (wrap .u8 (↑Z:Int)) fun b=>Dm (call 86 [Ap 1 X W]) fun c e=>Je 1 c fun c f=>Aq e<|As (decide (0+c*1<=f.length))<|As (decide (List.length (List.take (c*1) (f.drop 0))=c*1)&&decide ((2+c)*1<=1099511627776)&&decide (2+c<=1099511627776))<|Aa (2+c) fun e=>Aa ([.sc (.int .u8 a),.sc (.int .u8 b)]++List.take (c*1) (f.drop 0)) fun a=>Dm (call 86 [Ap 1 Z V]) fun b c=>Je 1 b fun b f=>Aq c<|As (decide (0+b*1<=f.length))<|As (decide (e*1<=a.length)&&decide (List.length (List.take (b*1) (f.drop 0))=b*1)&&decide ((e+b)*1<=1099511627776)&&decide (e+b<=1099511627776))<|Aa (e+b) fun c=>Aa (List.take (e*1) a++List.take (b*1) (f.drop 0)) fun a=>As (decide (c*1<=a.length))<|Bv [.own 1 c (a.take (c*1)),(0:Int)]))):=by show _=_;kernel_rfl
theorem V8(Z:Nat)(Y:Ab):Fn (CX xs) fu d 49 [Ap 1 Z Y] fun call=>A3 (decide ((↑Z:Int)<2)) (Bv [.agg [(0:Int),.own 1 0 [],.own 1 0 []],(2:Int)]) (As (decide (0<(↑Z:Int)))<|Be .u8 (Y.getD 0 .top) fun a=>Aa (wrap .i64 a) fun a=>As (decide (1<(↑Z:Int)))<|Be .u8 (Y.getD 1 .top) fun b=>Aa (wrap .i64 b) fun b=>Dm (call 67 [b]) fun c e=>Cg c fun c=>Aq e<|A3 c (Bv [.agg [(0:Int),.own 1 0 [],.own 1 0 []],(2:Int)]) (Dm (call 68 [a,b]) fun c e=>Cg c fun c=>Aq e<|A3 c (Bv [.agg [(0:Int),.own 1 0 [],.own 1 0 []],(2:Int)]) (Aa (wrap .i64 (18+b)) fun b=>Aa (wrap .i64 (8*b)) fun b=>Aa (wrap .i64 (2+b)) fun b=>A3 ((↑Z:Int) != b) (Bv [.agg [(0:Int),.own 1 0 [],.own 1 0 []],(2:Int)]) (As (decide (146<=Z))<|Aa (List.take 144 (Y.drop 2)) fun b=>Dm (call 92 [Ap 1 144 b]) fun b c=>Je 1 b fun b e=>Aq c<|As (decide (146<=Z)&&decide (Z<=Z))<|Aa (Z-146) fun c=>Aa (List.take (c*1) (Y.drop 146)) fun f=>Dm (call 92 [Ap 1 c f]) fun c f=>Je 1 c fun c g=>Aq f<|As (decide (b*1<=e.length))<|As (decide (c*1<=g.length))<|Bv [.agg [a,.own 1 b (e.take (b*1)),.own 1 c (g.take (c*1))],(0:Int)])))):=by show _=_;kernel_rfl
def Is(Z Y:Int)(X W:Int)(V:Nat)(U:Ab)(T:Nat)(S:Ab)(Q:Nat)(P:Int)(O:Nat)(N:Ab)(M L:Int)(K J I:Int)(H:Nat)(G:Ab)(E:Nat)(D:Ab):Option D0:=Mg fu call 40 Tryz.f40 [.agg [Z,Af Y],Af X,.agg [W,Ap 1 V U,Ap 1 T S]] [.r,.r,.r,.r,.r,.l,.r,.l] Q ⟨lk [(3,.ptr 3 0),(5,.ptr 5 0),(7,Af P),(46,Ap 1 O N),(47,M),(48,L)],B0 [(3,.st [K,Af J]),(5,.st [I,Ap 1 H G,Ap 1 E D])]⟩
theorem Sz(S Q:Int)(P O:Int)(N:Nat)(M:Ab)(L:Nat)(K:Ab)(J:Nat)(Y:Int)(X:Nat)(W:Ab)(V Z:Int)(I U T:Int)(H:Nat)(G:Ab)(E:Nat)(D:Ab):Is fu call S Q P O N M L K (J+1) Y X W V Z I U T H G E D=(A3 (decide (Z<V)) (As (decide (0<=Z)&&decide (Z<(↑X:Int)))<|Be .u64 (W.getD (Z.toNat*1) .top) fun a=>As (decide (0<=Z))<|Aa (F2 .i64 T Z) fun b=>Aa (Qg .i64 b 1) fun b=>A3 (b==0) (Aa (wrap .i64 (Z+1)) fun b=>Na .u64 (call 76 [b,Af Y,Af a]) fun a=>Aa (wrap .i64 (Z+1)) fun b=>Is fu call S Q P O N M L K J a X W V b I U T H G E D) (Aa (wrap .i64 (Z+1)) fun b=>Na .u64 (call 76 [b,Af a,Af Y]) fun a=>Aa (wrap .i64 (Z+1)) fun b=>Is fu call S Q P O N M L K J a X W V b I U T H G E D)) (A3 (Y != U) (Bv [(15:Int)]) (Bv [(0:Int)]))):=by kernel_rfl
theorem NP(Z T:Int)(S X:Int)(W:Nat)(V:Ab)(Y:Nat)(U:Ab):Fn (CX xs) fu d 40 [.agg [Z,Af T],Af S,.agg [X,Ap 1 W V,Ap 1 Y U]] fun call=>Dm (call 67 [Z]) fun a b=>Cg a fun a=>Aq b<|A3 a (Bv [(9:Int)]) (Dm (call 68 [X,Z]) fun a b=>Cg a fun a=>Aq b<|A3 a (Bv [(9:Int)]) (A3 ((↑W:Int) != 18) (Bv [(4:Int)]) (A3 ((↑Y:Int) != Z) (Bv [(4:Int)]) (Dm (call 75 [X,Af S,Ap 1 W V]) fun a b=>Be .u64 a fun a=>Dk .i64 b fun b=>A3 (b != 0) (Bv [b]) (Is fu call Z T S X W V Y U fu a Y U (↑Y:Int) 0 Z T X W V Y U))))):=by show _=_;kernel_rfl
end
theorem A1e{a m:Int}(h0:0<=m)(h1:m<=18446744073709551615):0<=Qg .u64 a m/\Qg .u64 a m<=m:=by
 have ET:(BitVec.ofInt 64 a &&& BitVec.ofInt 64 m).toNat<=m.toNat:=by
  rw[BitVec.toNat_and];refine Nat.le_trans Nat.and_le_right ?_;rw[BitVec.toNat_ofInt];omega
 have:Qg .u64 a m=((BitVec.ofInt 64 a &&& BitVec.ofInt 64 m).toNat:Int):=by
  unfold Qg;exact Cd (by omega) (by show ((BitVec.ofInt 64 a &&& BitVec.ofInt 64 m).toNat:Int)<=_;omega)
 rw[this];omega
theorem O2(k:IntKind)(l:Ca)(i:Nat)(x:Int):(Ac k l).set i (.sc (.int k x))=Ac k (l.set i x):=by
 induction l generalizing i with
 |nil=>rfl
 |cons a l ih=>
  cases i with
  |zero=>rfl
  |succ i=>
   show (PV.sc (.int k a)::Ac k l).set (i+1) _=PV.sc (.int k a)::Ac k (l.set i x);rw[List.set_cons_succ,ih]
theorem Aes(w:Int)(k:Nat):0<=Ep w k/\Ep w k<=255:=by unfold Ep;simp only[wrap,IntKind.signed,IntKind.bits];simp;omega
theorem Ac6(w:Int):Ii (Ew w):=by intro x hx;obtain⟨k,_,rfl⟩:=List.mem_map.1 hx;exact Aes w k
theorem Uk(ws:Ca):Ii (A4 ws):=by intro x hx;obtain⟨w,_,hx⟩:=List.mem_flatMap.1 hx;exact Ac6 w x hx
theorem Da(ws:Ca):(A4 ws).length=8*ws.length:=by
 induction ws with
 |nil=>rfl
 |cons w ws ih=>
  show (Ew w++A4 ws).length=_;rw[Fw,ih,Fb,G7];omega
def I5(m:Int)(k:Nat):Int:=wrap .i64 (Qg .u64 (F2 .u64 m (60-4*(k:Int))) 15)
theorem Wq(m:Int)(k:Nat):0<=I5 m k/\I5 m k<=15:=by have:=A1e (a:=F2 .u64 m (60-4*(k:Int))) (m:=15) (by omega) (by omega);unfold I5;rw[Ag (by omega) (by omega)];exact this
def Nm(m:Int):Nat->Int
 |0=>0
 |k+1=>Nm m k+(15-I5 m k)
theorem N8(m:Int):∀k,0<=Nm m k/\Nm m k<=15*k
 |0=>by simp[Nm]
 |k+1=>by
  have h1:=N8 m k;have h2:=Wq m k;simp only[Nm];omega
def dgs(m:Int):Ca:=(List.range 16).map (I5 m)++[Nm m 16 / 16,Nm m 16 % 16]
def dg(m:Int)(k:Nat):Int:=(dgs m).getD k 0
theorem Akw(m:Int):(dgs m).length=18:=rfl
theorem Ayq{m x:Int}(h:x∈dgs m):0<=x/\x<=15:=by
 have hs:=N8 m 16;unfold dgs at h;rcases Bz.1 h with h|h
 ·obtain⟨k,_,rfl⟩:=List.mem_map.1 h;exact Wq m k
 ·simp at h;rcases h with rfl|rfl<;>omega
theorem EW(m:Int)(k:Nat):0<=dg m k/\dg m k<=15:=by
 unfold dg;rw[List.getD_eq_getElem?_getD];cases h:(dgs m)[k]? with
 |none=>simp
 |some x=>exact Ayq (List.mem_of_getElem? h)
def dl(m:Int)(i:Nat):Ca:=(List.range i).map (I5 m)++List.replicate (18-i) 0
theorem Aiw(m:Int){i:Nat}(h:i<=18):(dl m i).length=18:=by simp[dl];omega
theorem A7o(m:Int){i:Nat}(h:i<18):(dl m (i+1))[i]?=some (I5 m i):=by unfold dl;rw[List.getElem?_append_left (by simp)];simp
theorem A2s(m:Int){i:Nat}(h:i<18):(dl m i).set i (I5 m i)=dl m (i+1):=by unfold dl;rw[List.set_append_right _ _ (by simp),List.length_map,List.length_range,Nat.sub_self,show 18-i=(18-(i+1))+1 by omega,List.replicate_succ,List.set_cons_zero,List.range_succ,List.map_append,FC];rfl
def Xb(leaf chain:Int):Nat->Int->Int->Int
 |0,_,x=>x
 |k+1,p,x=>Xb leaf chain k (p+1) (S4 1 (A4 [wrap .u64 leaf,wrap .u64 chain,wrap .u64 p,x]))
theorem Aet(leaf chain:Int):∀(k j:Nat)(p x:Int),Xb leaf chain (k+j) p x=Xb leaf chain j (p+k) (Xb leaf chain k p x)
 |0,j,p,x=>by simp[Xb]
 |k+1,j,p,x=>by
  rw[show k+1+j=(k+j)+1 by omega];simp only[Xb];rw[Aet leaf chain k j]
  congr 1
  omega
def GC(leaf:Int)(E:Ca):Int:=S4 2 (A4 (wrap .u64 leaf::E))
def Ajs(leaf m:Int)(s:Ca)(k:Nat):Int:=Xb leaf k (15-dg m k).toNat (dg m k) (s.getD k 0)
def VY(leaf m:Int)(s:Ca):Ca:=(List.range 18).map (Ajs leaf m s)
def Aou(leaf m:Int)(s:Ca):Int:=GC leaf (VY leaf m s)
def el(leaf m:Int)(s:Ca)(i:Nat):Ca:=(List.range i).map (Ajs leaf m s)++List.replicate (18-i) 0
theorem Aua(leaf m:Int)(s:Ca){i:Nat}(h:i<=18):(el leaf m s i).length=18:=by simp[el];omega
theorem A1t(leaf m:Int)(s:Ca){i:Nat}(h:i<18):(el leaf m s i).set i (Ajs leaf m s i)=el leaf m s (i+1):=by unfold el;rw[List.set_append_right _ _ (by simp),List.length_map,List.length_range,Nat.sub_self,show 18-i=(18-(i+1))+1 by omega,List.replicate_succ,List.set_cons_zero,List.range_succ,List.map_append,FC];rfl
theorem A6t(leaf m:Int)(s:Ca):el leaf m s 18=VY leaf m s:=by unfold el VY;simp
section
variable {fu d:Nat}{xs:FuncId->Option (Ab->Option D0)}
theorem Aqq{ws:Ca}(hl:ws.length<=100)(Bn:1000<=fu)(dom:Int):Ar (CX xs) prog fu (d+5) 66 [At dom,.lst false 1 (A4 ws).length (Ac .u8 (A4 ws))]=some ⟨[Af (S4 dom (A4 ws))],[]⟩:=
 Akv (Uk ws) (by rw[Da];omega) (by omega) (by rw[Da];omega) dom
theorem Ag7{leaf chain:Int}{a0 a1 a2 a3 a4:Int}(Bn:1000<=fu){t:Int}(ht:t<=15):∀(k nn:Nat)(p x:Int),(k:Int)=t-p->0<=p->k<nn ->
  Ov fu (Ar (CX xs) prog fu (d+5)) a0 a1 a2 a3 a4 nn leaf chain x t p=some ⟨[Af (Xb leaf chain k p x)],[]⟩
 |_,0,_,_,_,_,h=>by omega
 |0,nn+1,p,x,hk,hp,hn=>by
  rw[Y5,Ef _ _ _ (by omega)];rfl
 |k+1,nn+1,p,x,hk,hp,hn=>by
  have w:wrap .i64 (p+1)=p+1:=Ag (by omega) (by omega);have wd:Ar (CX xs) prog fu (d+5) 86 [.lst false 1 4 [Af (wrap .u64 leaf),Af (wrap .u64 chain),Af (wrap .u64 p),Af x]]=_:=Vc (ws:=[wrap .u64 leaf,wrap .u64 chain,wrap .u64 p,x]) (by simp) (by omega) (by simp;omega)
  have hs:=Aqq (xs:=xs) (fu:=fu) (d:=d) (ws:=[wrap .u64 leaf,wrap .u64 chain,wrap .u64 p,x]) (by simp) Bn 1;have ih:=Ag7 (leaf:=leaf) (chain:=chain) (a0:=a0) (a1:=a1) (a2:=a2) (a3:=a3) (a4:=a4) Bn ht k nn (p+1) (S4 1 (A4 [wrap .u64 leaf,wrap .u64 chain,wrap .u64 p,x])) (by omega) (by omega) (by omega);have L:=Am .u8 (A4 [wrap .u64 leaf,wrap .u64 chain,wrap .u64 p,x]);have eR:Xb leaf chain (k+1) p x=Xb leaf chain k (p+1) (S4 1 (A4 [wrap .u64 leaf,wrap .u64 chain,wrap .u64 p,x])):=rfl;rw[eR];generalize A4 [wrap .u64 leaf,wrap .u64 chain,wrap .u64 p,x]=W at wd hs ih L ⊢;rw[Y5];simp(disch:=omega)only[B4,B3,wd,Df,Cm,Es,Mb,L,hs,w];exact ih
theorem Akj{leaf chain:Int}(Bn:1000<=fu)(k:Nat)(f t x:Int)(hk:(k:Int)=t-f)(h0:0<=f)(h1:t<=15):Ar (CX xs) prog fu (d+6) 111 [At leaf,At chain,At f,At t,Af x]=some ⟨[Af (Xb leaf chain k f x)],[]⟩:=by rw[XX];simp only[Jc];rw[A5 (by omega),A5 (by omega)];exact Ag7 Bn h1 k fu f x hk h0 (by omega)
theorem OW{call:Bp}{a0 m:Int}{y3:Ab}:∀(k i nn:Nat),i+k=16->k<nn ->
  Iq fu call a0 nn m (Nm m i) i y3 (Ac .i64 (dl m i))=Iq fu call a0 (nn-k) m (Nm m 16) 16 y3 (Ac .i64 (dl m 16))
 |_,_,0,_,h=>by omega
 |0,i,nn+1,hi,hn=>by
  have e:i=16:=by omega
  subst e;rfl
 |k+1,i,nn+1,hi,hn=>by
  have ih:=OW (call:=call) (a0:=a0) (y3:=y3) (m:=m) k (i+1) nn (by omega) (by omega);have hb:=Wq m i;have hs:=N8 m i;have w:wrap .i64 ((i:Int)+1)=((i+1:Nat):Int):=by rw[Ag (by omega) (by omega)];omega
  have w4:wrap .i64 (4*(i:Int))=4*(i:Int):=Ag (by omega) (by omega);have w60:wrap .i64 (60-4*(i:Int))=60-4*(i:Int):=Ag (by omega) (by omega);have hd:wrap .i64 (Qg .u64 (F2 .u64 m (60-4*(i:Int))) 15)=I5 m i:=rfl;have w15:wrap .i64 (15-I5 m i)=15-I5 m i:=Ag (by omega) (by omega);have ws:wrap .i64 (Nm m i+(15-I5 m i))=Nm m (i+1):=by rw[Ag (by omega) (by omega)];rfl
  have L:(Ac .i64 (dl m i)).length=18:=by rw[Am,Aiw m (by omega)]
  have FG:Bx (Ac .i64 (dl m i)) [At (I5 m i)] i=Ac .i64 (dl m (i+1)):=by
   rw[Hg (by omega),O2,A2s m (by omega)]
  have hat:(Ac .i64 (dl m (i+1))).getD i .top=At (I5 m i):=Vg (A7o m (by omega));rw[show nn+1-(k+1)=nn-k by omega,<-ih,Sq];simp(disch:=omega)only[B4,B3,H0,Df,Cm,w,w4,w60,hd,L,FG,hat,w15,ws]
theorem ZH(Bn:1000<=fu)(m:Int):Ar (CX xs) prog fu (d+1) 110 [Af m]=some ⟨[.agg (Ac .i64 (dgs m))],[]⟩:=by
 rw[OE];have lp:=OW (fu:=fu) (call:=Ar (CX xs) prog fu d) (a0:=m) (m:=m) (y3:=Ac .i64 (List.replicate 18 0)) 16 0 fu (by omega) (by omega);obtain⟨f',hf'⟩:∃f',fu-16=f'+1:=⟨fu-17,by omega⟩
 rw[hf'] at lp;refine Eq.trans lp ?_;have hs:=N8 m 16
 have wq:wrap .i64 (Int.tdiv (Nm m 16) 16)=Nm m 16 / 16:=by
  rw[Int.tdiv_eq_ediv_of_nonneg (by omega),Ag (by omega) (by omega)]
 have wm:Int.tmod (Nm m 16) 16=Nm m 16 % 16:=Int.tmod_eq_emod_of_nonneg (by omega);have L:(Ac .i64 (dl m 16)).length=18:=by rw[Am,Aiw m (by omega)]
 have h1:Bx (Ac .i64 (dl m 16)) [At (Nm m 16 / 16)] 16=Ac .i64 ((dl m 16).set 16 (Nm m 16 / 16)):=by
  rw[Hg (by omega),O2]
 have L2:(Ac .i64 ((dl m 16).set 16 (Nm m 16 / 16))).length=18:=by rw[Am,List.length_set,Aiw m (by omega)]
 have h2:Bx (Ac .i64 ((dl m 16).set 16 (Nm m 16 / 16))) [At (Nm m 16 % 16)] 17=Ac .i64 (dgs m):=by
  rw[Hg (by omega),O2];rfl
 rw[Sq,Ef _ _ _ (by omega)];simp only[Jc,wq,wm,L,h1,L2,h2];generalize hq:Nm m 16 / 16=q at *
 generalize hr:Nm m 16 % 16=r at *
 have hD:Ac .i64 (dgs m)=[At (I5 m 0),At (I5 m 1),At (I5 m 2),At (I5 m 3),At (I5 m 4),At (I5 m 5),At (I5 m 6),At (I5 m 7),At (I5 m 8),At (I5 m 9),At (I5 m 10),At (I5 m 11),At (I5 m 12),At (I5 m 13),At (I5 m 14),At (I5 m 15),At q,At r]:=by
  unfold dgs;rw[hq,hr];rfl
 rw[hD];have A52:(Ac .i64 (List.replicate 18 0)).length=18:=rfl
 have hsp:∀c:Ab,c.length=18->Bx (Ac .i64 (List.replicate 18 0)) c 0=c:=by
  intro c hc;unfold Bx;rw[hc,List.drop_of_length_le (by rw[A52];omega)]
  simp
 rw[FN (Mz:=by omega)];simp only[B4,B3,List.getD_cons_zero,List.getD_cons_succ,A52];rw[hsp _ rfl];simp(disch:=omega)only[B4,B3,FQ,List.getD_cons_zero,List.getD_cons_succ]
theorem WK(Bn:1000<=fu)(leaf:Int){E:Ca}(hE:E.length=18):Ar (CX xs) prog fu (d+6) 115 [At leaf,.agg (Ac .u64 E)]=some ⟨[Af (GC leaf E)],[]⟩:=by
 match E,hE with
 |[e0,e1,e2,e3,e4,e5,e6,e7,e8,e9,e10,e11,e12,e13,e14,e15,e16,e17],_=>
  have wd:Ar (CX xs) prog fu (d+5) 86 [.lst false 1 19 [Af (wrap .u64 leaf),Af e0,Af e1,Af e2,Af e3,Af e4,Af e5,Af e6,Af e7,Af e8,Af e9,Af e10,Af e11,Af e12,Af e13,Af e14,Af e15,Af e16,Af e17]]=_:=Vc (ws:=wrap .u64 leaf::[e0,e1,e2,e3,e4,e5,e6,e7,e8,e9,e10,e11,e12,e13,e14,e15,e16,e17]) (by simp) (by omega) (by simp;omega)
  have hs:=Aqq (xs:=xs) (fu:=fu) (d:=d) (ws:=wrap .u64 leaf::[e0,e1,e2,e3,e4,e5,e6,e7,e8,e9,e10,e11,e12,e13,e14,e15,e16,e17]) (by simp) Bn 2;have L:=Am .u8 (A4 (wrap .u64 leaf::[e0,e1,e2,e3,e4,e5,e6,e7,e8,e9,e10,e11,e12,e13,e14,e15,e16,e17]));have eR:GC leaf [e0,e1,e2,e3,e4,e5,e6,e7,e8,e9,e10,e11,e12,e13,e14,e15,e16,e17]=S4 2 (A4 (wrap .u64 leaf::[e0,e1,e2,e3,e4,e5,e6,e7,e8,e9,e10,e11,e12,e13,e14,e15,e16,e17])):=rfl;rw[eR];generalize A4 (wrap .u64 leaf::[e0,e1,e2,e3,e4,e5,e6,e7,e8,e9,e10,e11,e12,e13,e14,e15,e16,e17])=W at wd hs L ⊢;refine (JH fu (d+5) leaf e0 e1 e2 e3 e4 e5 e6 e7 e8 e9 e10 e11 e12 e13 e14 e15 e16 e17).trans ?_;simp(disch:=omega)only[B4,B3,wd,Df,Cm,Es,Mb,L,hs]
theorem A0d(g:Nat->Int){i:Nat}(hi:i<18):List.getD [PV.sc (.int .i64 (g 0)),PV.sc (.int .i64 (g 1)),PV.sc (.int .i64 (g 2)),PV.sc (.int .i64 (g 3)),PV.sc (.int .i64 (g 4)),PV.sc (.int .i64 (g 5)),PV.sc (.int .i64 (g 6)),PV.sc (.int .i64 (g 7)),PV.sc (.int .i64 (g 8)),PV.sc (.int .i64 (g 9)),PV.sc (.int .i64 (g 10)),PV.sc (.int .i64 (g 11)),PV.sc (.int .i64 (g 12)),PV.sc (.int .i64 (g 13)),PV.sc (.int .i64 (g 14)),PV.sc (.int .i64 (g 15)),PV.sc (.int .i64 (g 16)),PV.sc (.int .i64 (g 17))] i PV.top=At (g i):=by
 have:((List.range 18).map g)[i]?=some (g i):=by simp[hi]
 exact Vg (k:=.i64) this
theorem LO{a0 a1:Int}{a2n:Nat}{a2:Ab}{leaf m:Int}{s:Ca}(hs:s.length=18)(Bn:1000<=fu)(g:Nat->Int)(hg:∀k,g k=dg m k):∀(k i nn:Nat),i+k=18->k<nn ->
  Gp fu (Ar (CX xs) prog fu (d+6)) a0 a1 a2n a2 nn leaf s.length (Ac .u64 s) (g 0) (g 1) (g 2) (g 3) (g 4) (g 5) (g 6) (g 7) (g 8) (g 9) (g 10) (g 11) (g 12) (g 13) (g 14) (g 15) (g 16) (g 17) i (Ac .u64 (el leaf m s i)) =
   Gp fu (Ar (CX xs) prog fu (d+6)) a0 a1 a2n a2 (nn-k) leaf s.length (Ac .u64 s) (g 0) (g 1) (g 2) (g 3) (g 4) (g 5) (g 6) (g 7) (g 8) (g 9) (g 10) (g 11) (g 12) (g 13) (g 14) (g 15) (g 16) (g 17) 18 (Ac .u64 (el leaf m s 18))
 |_,_,0,_,h=>by omega
 |0,i,nn+1,hi,hn=>by
  have e:i=18:=by omega
  subst e;rfl
 |k+1,i,nn+1,hi,hn=>by
  have ih:=LO (a0:=a0) (a1:=a1) (a2n:=a2n) (a2:=a2) (leaf:=leaf) (m:=m) hs Bn g hg k (i+1) nn (by omega) (by omega);obtain⟨x,hx⟩:∃x,s[i]?=some x:=⟨_,List.getElem?_eq_getElem (by omega)⟩
  have hb:=EW m i;have hgi:=A0d g (i:=i) (by omega);have w:wrap .i64 ((i:Int)+1)=((i+1:Nat):Int):=by rw[Ag (by omega) (by omega)];omega
  have rn:=Akj (xs:=xs) (fu:=fu) (d:=d) (leaf:=leaf) (chain:=i) Bn (15-dg m i).toNat (g i) 15 x (by rw[hg];omega) (by rw[hg];omega) (by omega)
  have ev:Xb leaf i (15-dg m i).toNat (g i) x=Ajs leaf m s i:=by
   unfold Ajs;rw[List.getD_eq_getElem?_getD,hx,hg];rfl
  rw[ev] at rn;have L:(Ac .u64 (el leaf m s i)).length=18:=by rw[Am,Aua leaf m s (by omega)]
  have FG:Bx (Ac .u64 (el leaf m s i)) [Af (Ajs leaf m s i)] i=Ac .u64 (el leaf m s (i+1)):=by
   rw[Hg (by omega),O2,A1t leaf m s (by omega)]
  rw[show nn+1-(k+1)=nn-k by omega,<-ih,Rq];simp(disch:=omega)only[B4,B3,H0,Df,Cm,hgi,Vg hx,rn,L,FG,w]
theorem Afl(Bn:1000<=fu){a0 a1 leaf:Int}{a2n n nn:Nat}{a2 c:Ab}{g:Nat->Int}{E:Ca}(hE:E.length=18):
  Gp fu (Ar (CX xs) prog fu (d+6)) a0 a1 a2n a2 (nn+1) leaf n c (g 0) (g 1) (g 2) (g 3) (g 4) (g 5) (g 6) (g 7) (g 8) (g 9) (g 10) (g 11) (g 12) (g 13) (g 14) (g 15) (g 16) (g 17) 18 (Ac .u64 E)=some ⟨[Af (GC leaf E),At 0],[]⟩:=by
 match E,hE with
 |[e0,e1,e2,e3,e4,e5,e6,e7,e8,e9,e10,e11,e12,e13,e14,e15,e16,e17],hE=>
  have cb:=WK (xs:=xs) (fu:=fu) (d:=d) Bn leaf hE;have hc:Ac .u64 [e0,e1,e2,e3,e4,e5,e6,e7,e8,e9,e10,e11,e12,e13,e14,e15,e16,e17]=[Af e0,Af e1,Af e2,Af e3,Af e4,Af e5,Af e6,Af e7,Af e8,Af e9,Af e10,Af e11,Af e12,Af e13,Af e14,Af e15,Af e16,Af e17]:=rfl;rw[hc] at cb ⊢;generalize GC leaf [e0,e1,e2,e3,e4,e5,e6,e7,e8,e9,e10,e11,e12,e13,e14,e15,e16,e17]=R at cb ⊢;rw[Rq,Ef _ _ _ (by omega)];simp(disch:=omega)only[B4,B3,CC,CG,List.getD_cons_zero,List.getD_cons_succ,cb]
theorem Ajr(Bn:1000<=fu)(leaf m:Int)(s:Ca):Ar (CX xs) prog fu (d+7) 75 [At leaf,Af m,.lst false 1 s.length (Ac .u64 s)]=some ⟨(if s.length=18 then [Af (Aou leaf m s),At 0] else [Af 0,At 4]),[]⟩:=by
 rw[JZ];by_cases h:s.length=18
 ·have dq:=ZH (xs:=xs) (fu:=fu) (d:=d+5) Bn m;have hD:Ac .i64 (dgs m)=[At (dg m 0),At (dg m 1),At (dg m 2),At (dg m 3),At (dg m 4),At (dg m 5),At (dg m 6),At (dg m 7),At (dg m 8),At (dg m 9),At (dg m 10),At (dg m 11),At (dg m 12),At (dg m 13),At (dg m 14),At (dg m 15),At (dg m 16),At (dg m 17)]:=rfl;rw[hD] at dq;simp only[Fj];rw[Bq h,Bq (by omega)];simp only[B4,B3,dq];have lp:=LO (xs:=xs) (fu:=fu) (d:=d) (a0:=leaf) (a1:=m) (a2n:=s.length) (a2:=Ac .u64 s) (leaf:=leaf) (m:=m) h Bn (dg m) (fun _=>rfl) 18 0 fu (by omega) (by omega);obtain⟨f',hf'⟩:∃f',fu-18=f'+1:=⟨fu-19,by omega⟩
  rw[hf'] at lp;refine Eq.trans lp ?_;have eE:el leaf m s 18=VY leaf m s:=A6t leaf m s;have hl:(VY leaf m s).length=18:=by rw[<-eE,Aua leaf m s (by omega)]
  have eR:Aou leaf m s=GC leaf (VY leaf m s):=rfl;rw[eE,eR];exact Afl Bn hl
 ·simp only[Fj];rw[A5 h,A5 (by omega)]
end
structure Ky where
 h:Int
 root:Int
structure Sg where
 leaf:Int
 chains:Ca
 path:Ca
def Ky.cells(k:Ky):Ab:=[At k.h,Af k.root]
def Sg.cells(s:Sg):Ab:=[At s.leaf,.lst false 1 s.chains.length (Ac .u64 s.chains),.lst false 1 s.path.length (Ac .u64 s.path)]
def D1(h:Int):Bool:=decide (h<0)||decide (h>4)
def Js(leaf h:Int):Bool:=decide (leaf<0)||decide (leaf>=Hm .i64 1 h)
def Q4(level a b:Int):Int:=S4 3 (A4 [wrap .u64 level,a,b])
def HC(leaf:Int):Nat->Int->Ca->Int
 |_,x,[]=>x
 |i,x,s::r=>HC leaf (i+1) (if Qg .i64 (F2 .i64 leaf i) 1=0 then Q4 ((i+1:Nat):Int) x s else Q4 ((i+1:Nat):Int) s x) r
def okE(x root:Int):Int:=if x=root then 0 else 15
theorem Aj7(leaf:Int)(i:Nat)(x:Int):HC leaf i x []=x:=rfl
theorem QT(leaf:Int)(i:Nat)(x s:Int)(r:Ca):HC leaf i x (s::r)=HC leaf (i+1) (if Qg .i64 (F2 .i64 leaf i) 1=0 then Q4 ((i+1:Nat):Int) x s else Q4 ((i+1:Nat):Int) s x) r:=rfl
def Apa(k:Ky)(m:Int)(s:Sg):Int:=
 if D1 k.h=true then 9 else if Js s.leaf k.h=true then 9 else if s.chains.length≠18 then 4 else if (s.path.length:Int)≠k.h then 4 else
 okE (HC s.leaf 0 (Aou s.leaf m s.chains) s.path) k.root
theorem H7{h:Int}(hh:D1 h=false):0<=h/\h<=4:=by unfold D1 at hh;simp at hh;omega
section
variable {fu d:Nat}{xs:FuncId->Option (Ab->Option D0)}
theorem Zz(h:Int):Ar (CX xs) prog fu (d+1) 67 [At h]=some ⟨[.sc (.bool (D1 h))],[]⟩:=by
 rw[TC];unfold D1;by_cases h0:h<0
 ·simp only[B4,B3,NF,h0,decide_true,Bool.true_or,if_true]
 ·simp only[B4,B3,NF,h0,decide_false,Bool.false_or,if_false]
theorem Vp(leaf h:Int)(h0:0<=h):Ar (CX xs) prog fu (d+1) 68 [At leaf,At h]=some ⟨[.sc (.bool (Js leaf h))],[]⟩:=by
 rw[KV];unfold Js;by_cases hl:leaf<0
 ·simp only[B4,B3,NF,hl,decide_true,Bool.true_or,if_true]
 ·simp(disch:=omega)only[B4,B3,NF,hl,decide_false,Bool.false_or,if_false]
theorem OH(Bn:1000<=fu)(level a b:Int):Ar (CX xs) prog fu (d+6) 76 [At level,Af a,Af b]=some ⟨[Af (Q4 level a b)],[]⟩:=by
 have wd:Ar (CX xs) prog fu (d+5) 86 [.lst false 1 3 [Af (wrap .u64 level),Af a,Af b]]=_:=Vc (ws:=[wrap .u64 level,a,b]) (by simp) (by omega) (by simp;omega)
 have hs:=Aqq (xs:=xs) (fu:=fu) (d:=d) (ws:=[wrap .u64 level,a,b]) (by simp) Bn 3;have L:=Am .u8 (A4 [wrap .u64 level,a,b]);rw[NS];unfold Q4;generalize A4 [wrap .u64 level,a,b]=W at wd hs L ⊢;simp(disch:=omega)only[B4,B3,wd,Df,Cm,Es,Mb,L,hs]
theorem PU{a0 a1 a2 a3:Int}{n1 n2 n3 n4:Nat}{c1 c2 c3 c4:Ab}{y5 root leaf:Int}{path:Ca}(hp:path.length<=100)(Bn:1000<=fu):∀(r:Ca)(i nn:Nat)(x:Int),path.drop i=r->r.length<nn->i<=path.length ->
  Is fu (Ar (CX xs) prog fu (d+6)) a0 a1 a2 a3 n1 c1 n2 c2 nn x path.length (Ac .u64 path) path.length i y5 root leaf n3 c3 n4 c4=some ⟨[At (okE (HC leaf i x r) root)],[]⟩
 |_,_,0,_,_,h,_=>by omega
 |[],i,nn+1,x,h,hn,hi=>by
  have:=drop_nil h;rw[Sz,Ef _ _ _ (by omega),Fj];rw[Aj7];unfold okE;by_cases e:x=root
  ·rw[Bq e,Bq e]
  ·rw[A5 e,A5 e]
 |s::r,i,nn+1,x,h,hn,hi=>by
  obtain⟨h1,h2,h3⟩:=Dc h;simp only[G7] at hn;have w:wrap .i64 ((i:Int)+1)=((i+1:Nat):Int):=by rw[Ag (by omega) (by omega)];omega
  have ih:=fun x=>PU (a0:=a0) (a1:=a1) (a2:=a2) (a3:=a3) (n1:=n1) (n2:=n2) (n3:=n3) (n4:=n4) (c1:=c1) (c2:=c2) (c3:=c3) (c4:=c4) (y5:=y5) (root:=root) (leaf:=leaf) hp Bn r (i+1) nn x h3 (by omega) (by omega);have p1:=OH (xs:=xs) (fu:=fu) (d:=d) Bn ((i+1:Nat):Int) x s;have p2:=OH (xs:=xs) (fu:=fu) (d:=d) Bn ((i+1:Nat):Int) s x;rw[Sz,QT];by_cases hb:Qg .i64 (F2 .i64 leaf i) 1=0
  ·rw[Bq hb,<-ih];simp(disch:=omega)only[B4,B3,H0,Df,Vg h2,Hn,hb,w,p1,if_true]
  ·rw[A5 hb,<-ih];simp(disch:=omega)only[B4,B3,H0,Df,Vg h2,Hn,hb,w,p2,if_false]
theorem Aoh(Bn:1000<=fu)(k:Ky)(m:Int)(s:Sg):Ar (CX xs) prog fu (d+8) 40 [.agg k.cells,Af m,.agg s.cells]=some ⟨[At (Apa k m s)],[]⟩:=by
 refine (NP fu (d+7) k.h k.root m s.leaf s.chains.length (Ac .u64 s.chains) s.path.length (Ac .u64 s.path)).trans ?_;have h1:=Zz (xs:=xs) (fu:=fu) (d:=d+6) k.h;unfold Apa;cases c1:D1 k.h
 ·rw[c1] at h1;have hb:=H7 c1;have h2:=Vp (xs:=xs) (fu:=fu) (d:=d+6) s.leaf k.h hb.1;cases c2:Js s.leaf k.h
  ·rw[c2] at h2;by_cases c3:s.chains.length=18
   ·by_cases c4:(s.path.length:Int)=k.h
    ·have rc:=Ajr (xs:=xs) (fu:=fu) (d:=d) Bn s.leaf m s.chains;rw[Bq c3] at rc;have vl:=PU (xs:=xs) (fu:=fu) (d:=d+1) (a0:=k.h) (a1:=k.root) (a2:=m) (a3:=s.leaf) (n1:=s.chains.length) (n2:=s.path.length) (n3:=s.chains.length) (n4:=s.path.length) (c1:=Ac .u64 s.chains) (c2:=Ac .u64 s.path) (c3:=Ac .u64 s.chains) (c4:=Ac .u64 s.path) (y5:=k.h) (root:=k.root) (leaf:=s.leaf) (path:=s.path) (by omega) Bn s.path 0 fu (Aou s.leaf m s.chains) rfl (by omega) (by omega);rw[A5 (by simp),A5 (by simp),A5 (by omega),A5 (by omega),<-vl];simp(disch:=omega)only[B4,B3,h1,h2,Fj,rc,if_true,c4];rw[Bq (by omega)];rfl
    ·rw[A5 (by simp),A5 (by simp),A5 (by omega),Bq c4];simp(disch:=omega)only[B4,B3,h1,h2,Fj,c4,if_false];rw[Bq (by omega)]
   ·rw[A5 (by simp),A5 (by simp),Bq c3];simp(disch:=omega)only[B4,B3,h1,h2,Fj];rw[A5 (by omega)]
  ·rw[c2] at h2;rw[A5 (by simp),Bq rfl];simp(disch:=omega)only[B4,B3,h1,h2]
 ·rw[c1] at h1;rw[Bq rfl];simp(disch:=omega)only[B4,B3,h1]
def Ij(k:Ky):Ca:=wrap .u8 k.h::Ew k.root
def Sj(s:Sg):Ca:=wrap .u8 s.leaf::wrap .u8 s.path.length::(A4 s.chains++A4 s.path)
theorem owd(Bn:1000<=fu)(w:Int):Ar (CX xs) prog fu (d+1) 86 [.lst false 1 1 [Af w]]=some ⟨[.own 1 8 (Ac .u8 (Ew w))],[]⟩:=by
 have:=Vc (xs:=xs) (fu:=fu) (d:=d) (ws:=[w]) (by simp) (by omega) (by simp;omega)
 simp only[A4,Jr,List.flatMap_nil,List.append_nil,G7,Vx,Fb] at this;exact this
theorem Ap5(Bn:1000<=fu)(k:Ky):Ar (CX xs) prog fu (d+2) 129 [.agg k.cells]=some ⟨(if D1 k.h=true then [.own 1 0 [],At 9] else [.own 1 9 (Ac .u8 (Ij k)),At 0]),[]⟩:=by
 refine (FI fu (d+1) k.h k.root).trans ?_;have h1:=Zz (xs:=xs) (fu:=fu) (d:=d) k.h;have wd:=owd (xs:=xs) (fu:=fu) (d:=d) Bn k.root;have L:=Am .u8 (Ew k.root);rw[Fb] at L;have t8:List.take 8 (Ac .u8 (Ew k.root))=Ac .u8 (Ew k.root):=Gv (by omega)
 have t9:List.take 9 ([PV.sc (.int .u8 (wrap .u8 k.h))]++Ac .u8 (Ew k.root))=Ac .u8 (Ij k):=by
  rw[Gv (by rw[Fw,L];simp)]
  rfl
 have L9:([PV.sc (.int .u8 (wrap .u8 k.h))]++Ac .u8 (Ew k.root)).length=9:=by rw[Fw,L];rfl
 cases c1:D1 k.h
 ·rw[c1] at h1;rw[A5 (by simp)];simp(disch:=omega)only[B4,B3,h1,wd,Df,Cm,Es,L,t8,Nat.reduceAdd,L9,t9]
 ·rw[c1] at h1;rw[Bq rfl];simp(disch:=omega)only[B4,B3,h1]
theorem Anp(Bn:1000<=fu)(s:Sg)(hp:s.path.length<=1000000000)(hf:s.path.length<fu):Ar (CX xs) prog fu (d+2) 46 [.agg s.cells]=some ⟨(if D1 s.path.length=true then [.own 1 0 [],At 9] else if Js s.leaf s.path.length=true then [.own 1 0 [],At 9] else if s.chains.length≠18 then [.own 1 0 [],At 4] else [.own 1 (Sj s).length (Ac .u8 (Sj s)),At 0]),[]⟩:=by
 refine (V7 fu (d+1) s.leaf s.chains.length (Ac .u64 s.chains) s.path.length (Ac .u64 s.path)).trans ?_;have h1:=Zz (xs:=xs) (fu:=fu) (d:=d) s.path.length;cases c1:D1 s.path.length
 ·rw[c1] at h1;have hb:=H7 c1;have h2:=Vp (xs:=xs) (fu:=fu) (d:=d) s.leaf s.path.length hb.1;cases c2:Js s.leaf s.path.length
  ·rw[c2] at h2;by_cases c3:s.chains.length=18
   ·have w1:=Vc (xs:=xs) (fu:=fu) (d:=d) (ws:=s.chains) (by omega) (by omega) (by omega);have w2:=Vc (xs:=xs) (fu:=fu) (d:=d) (ws:=s.path) (by omega) (by omega) (by omega);have l1:=Da s.chains;have l2:=Da s.path;have L1:=Am .u8 (A4 s.chains);have L2:=Am .u8 (A4 s.path)
    have eB:Ac .u8 (Sj s)=[PV.sc (.int .u8 (wrap .u8 s.leaf)),PV.sc (.int .u8 (wrap .u8 s.path.length))]++Ac .u8 (A4 s.chains)++Ac .u8 (A4 s.path):=by
     unfold Sj;simp
    have eL:(Sj s).length=2+(A4 s.chains).length+(A4 s.path).length:=by
     unfold Sj;simp;omega
    rw[A5 (by simp),A5 (by simp),A5 (by omega),eB,eL];have t2:List.take (2+(A4 s.chains).length) ([PV.sc (.int .u8 (wrap .u8 s.leaf)),PV.sc (.int .u8 (wrap .u8 s.path.length))]++Ac .u8 (A4 s.chains))=[PV.sc (.int .u8 (wrap .u8 s.leaf)),PV.sc (.int .u8 (wrap .u8 s.path.length))]++Ac .u8 (A4 s.chains):=Gv (by rw[Fw,L1];simp)
    have t3:List.take (2+(A4 s.chains).length+(A4 s.path).length) ([PV.sc (.int .u8 (wrap .u8 s.leaf)),PV.sc (.int .u8 (wrap .u8 s.path.length))]++Ac .u8 (A4 s.chains)++Ac .u8 (A4 s.path))=[PV.sc (.int .u8 (wrap .u8 s.leaf)),PV.sc (.int .u8 (wrap .u8 s.path.length))]++Ac .u8 (A4 s.chains)++Ac .u8 (A4 s.path):=Gv (by rw[Fw,Fw,L1,L2];simp)
    have k2:([PV.sc (.int .u8 (wrap .u8 s.leaf)),PV.sc (.int .u8 (wrap .u8 s.path.length))]++Ac .u8 (A4 s.chains)).length=2+(A4 s.chains).length:=by rw[Fw,L1];rfl
    have k3:([PV.sc (.int .u8 (wrap .u8 s.leaf)),PV.sc (.int .u8 (wrap .u8 s.path.length))]++Ac .u8 (A4 s.chains)++Ac .u8 (A4 s.path)).length=2+(A4 s.chains).length+(A4 s.path).length:=by rw[Fw,k2,L2]
    simp(disch:=omega)only[B4,B3,h1,h2,Fj,w1,w2,Df,Cm,Es,L1,L2,Mb,t2,t3,k2,k3];rw[Bq (by omega)]
   ·rw[A5 (by simp),A5 (by simp),Bq c3];simp(disch:=omega)only[B4,B3,h1,h2,Fj];rw[A5 (by omega)]
  ·rw[c2] at h2;rw[A5 (by simp),Bq rfl];simp(disch:=omega)only[B4,B3,h1,h2]
 ·rw[c1] at h1;rw[Bq rfl];simp(disch:=omega)only[B4,B3,h1]
def My(l:Ca)(i:Nat):Int:=FO ((l.drop (8*i)).take 8)
def Gk(l:Ca):Ca:=(List.range (l.length / 8)).map (My l)
def wl(l:Ca)(i:Nat):Ca:=(List.range i).map (My l)++List.replicate (l.length / 8-i) 0
theorem Avg(l:Ca){i:Nat}(h:i<=l.length / 8):(wl l i).length=l.length / 8:=by simp[wl];omega
theorem A2f(l:Ca){i:Nat}(h:i<l.length / 8):(wl l i).set i (My l i)=wl l (i+1):=by unfold wl;rw[List.set_append_right _ _ (by simp),List.length_map,List.length_range,Nat.sub_self,show l.length / 8-i=(l.length / 8-(i+1))+1 by omega,List.replicate_succ,List.set_cons_zero,List.range_succ,List.map_append,FC];rfl
theorem Ax9(l:Ca){i:Nat}(h:i<l.length / 8):(wl l i).set i 0=wl l i:=by unfold wl;rw[List.set_append_right _ _ (by simp),List.length_map,List.length_range,Nat.sub_self,show l.length / 8-i=(l.length / 8-(i+1))+1 by omega,List.replicate_succ,List.set_cons_zero]
theorem ZX{n m0:Nat}{c:Ab}{l:Ca}(hl:l.length<=1000000){i:Nat}(hi:i<l.length / 8){q:Ca}(hq:q.length<=8):∀(r:Ca)(j nn:Nat)(x:Int),q.drop j=r->r.length<nn->j<=q.length ->
  Ma fu (Ar (CX xs) prog fu d) n c m0 nn l.length (Ac .u8 l) (l.length / 8) i ((l.length / 8:Nat):Int) i q.length (Ac .u8 q) q.length j (Ac .u64 ((wl l i).set i x)) =
   Jk fu (Ar (CX xs) prog fu d) n c m0 l.length (Ac .u8 l) (l.length / 8) ((l.length / 8:Nat):Int) ((i+1:Nat):Int) (Ac .u64 ((wl l i).set i (r.foldl Gc x)))
 |_,_,0,_,_,h,_=>by omega
 |[],j,nn+1,x,h,hn,hj=>by
  have:=drop_nil h;have w:wrap .i64 ((i:Int)+1)=((i+1:Nat):Int):=by rw[Ag (by omega) (by omega)];omega
  rw[Uc,Ef _ _ _ (by omega)];simp only[Jc,w,List.foldl_nil]
 |b::r,j,nn+1,x,h,hn,hj=>by
  obtain⟨h1,h2,h3⟩:=Dc h;simp only[G7] at hn;have w:wrap .i64 ((j:Int)+1)=((j+1:Nat):Int):=by rw[Ag (by omega) (by omega)];omega
  have L:(Ac .u64 ((wl l i).set i x)).length=l.length / 8:=by rw[Am,List.length_set,Avg l (by omega)]
  have hat:(Ac .u64 ((wl l i).set i x)).getD i .top=Af x:=Vg (by rw[List.getElem?_set_self (by rw[Avg l (by omega)];omega)])
  have FG:Bx (Ac .u64 ((wl l i).set i x)) [Af (Gc x b)] i=Ac .u64 ((wl l i).set i (Gc x b)):=by
   rw[Hg (by omega),O2,List.set_set]
  have ih:=ZX (n:=n) (m0:=m0) (c:=c) hl hi hq r (j+1) nn (Gc x b) h3 (by omega) (by omega);rw[List.foldl_cons,<-ih,Uc];simp(disch:=omega)only[B4,B3,H0,Df,Cm,Vg h2,hat,L,w];exact congrArg _ FG
theorem QM{n:Nat}{c:Ab}{l:Ca}(hl:l.length<=1000000)(Bn:100<=fu):∀(k i nn:Nat),i+k=l.length / 8->k<nn ->
  Jk fu (Ar (CX xs) prog fu d) n c nn l.length (Ac .u8 l) (l.length / 8) ((l.length / 8:Nat):Int) i (Ac .u64 (wl l i))=some ⟨[.own 1 (l.length / 8) (Ac .u64 (Gk l))],[]⟩
 |_,_,0,_,h=>by omega
 |0,i,nn+1,hi,hn=>by
  have e:i=l.length / 8:=by omega
  subst e;have e2:wl l (l.length / 8)=Gk l:=by unfold wl Gk;simp
  have L:(Ac .u64 (Gk l)).length=l.length / 8:=by rw[Am];simp[Gk]
  have tk:List.take (l.length / 8) (Ac .u64 (Gk l))=Ac .u64 (Gk l):=Gv (by omega);rw[Uw,Ef _ _ _ (by omega),e2];simp(disch:=omega)only[B4,B3,Df,L,tk]
 |k+1,i,nn+1,hi,hn=>by
  have ih:=QM (n:=n) (c:=c) hl Bn k (i+1) nn (by omega) (by omega);have w8:wrap .i64 (8*(i:Int))=((8*i:Nat):Int):=by rw[Ag (by omega) (by omega)];omega
  have w88:wrap .i64 (((8*i:Nat):Int)+8)=((8*i+8:Nat):Int):=by rw[Ag (by omega) (by omega)];omega
  have e8:8*i+8-8*i=8:=by omega
  have hdl:((l.drop (8*i)).take 8).length=8:=by rw[List.length_take,List.length_drop];omega
  have st:=ZX (xs:=xs) (fu:=fu) (d:=d) (n:=n) (m0:=nn) (c:=c) hl (i:=i) (by omega) (q:=(l.drop (8*i)).take 8) (by omega) ((l.drop (8*i)).take 8) 0 fu 0 rfl (by omega) (by omega);rw[Ax9 l (by omega),hdl] at st;have ew:((l.drop (8*i)).take 8).foldl Gc 0=My l i:=rfl;rw[ew,A2f l (by omega),ih] at st;rw[Uw];simp(disch:=omega)only[B4,B3,H0,Df,w8,w88,e8,Ha,Hx];exact st
theorem UU(n:Nat):Yg n [Af 0]=Ac .u64 (List.replicate n 0):=by
 induction n with
 |zero=>rfl
 |succ n ih=>
  show ([PV.sc (.int .u64 0)]::List.replicate n [PV.sc (.int .u64 0)]).flatten=_;rw[List.flatten_cons,List.replicate_succ];show _++Yg n [Af 0]=PV.sc (.int .u64 0)::Ac .u64 (List.replicate n 0);rw[ih];rfl
theorem OJ{l:Ca}(hl:l.length<=1000000)(Bn:100<=fu)(hf:l.length<fu):Ar (CX xs) prog fu (d+1) 92 [.lst false 1 l.length (Ac .u8 l)]=some ⟨[.own 1 (l.length / 8) (Ac .u64 (Gk l))],[]⟩:=by
 rw[RX]
 have w:wrap .i64 (Int.tdiv (l.length:Int) 8)=((l.length / 8:Nat):Int):=by
  rw[Int.tdiv_eq_ediv_of_nonneg (by omega),Ag (by omega) (by omega)];omega
 have lp:=QM (xs:=xs) (fu:=fu) (d:=d) (n:=l.length) (c:=Ac .u8 l) hl Bn (l.length / 8) 0 fu (by omega) (by omega);have e0:wl l 0=List.replicate (l.length / 8) 0:=by unfold wl;simp
 rw[e0] at lp;simp(disch:=omega)only[B4,B3,w,H0,UU,Int.le_refl];exact lp
def IG(l:Ca):Option Ky:=if l.length=9/\D1 (l.getD 0 0)=false then some ⟨l.getD 0 0,My (l.drop 1) 0⟩ else none
def OT(o:Option Ky):Ab:=match o with|some k=>[.agg k.cells,At 0]|none=>[.agg (Ky.mk 0 0).cells,At 2]
theorem Aor(Bn:1000<=fu){l:Ca}(hb:Ii l):Ar (CX xs) prog fu (d+2) 125 [.lst false 1 l.length (Ac .u8 l)]=some ⟨OT (IG l),[]⟩:=by
 refine (FJ fu (d+1) l.length (Ac .u8 l)).trans ?_;unfold IG;by_cases h9:l.length=9
 ·obtain⟨x,hx⟩:∃x,l[0]?=some x:=⟨_,List.getElem?_eq_getElem (by omega)⟩
  have hxb:=hb x (List.mem_of_getElem? hx);have wx:wrap .i64 x=x:=Ag (by omega) (by omega);have gx:l.getD 0 0=x:=by rw[List.getD_eq_getElem?_getD,hx];rfl
  have h1:=Zz (xs:=xs) (fu:=fu) (d:=d) x;rw[gx];cases c1:D1 x
  ·rw[c1] at h1;have hdl:(l.drop 1).length=8:=by rw[List.length_drop];omega
   have dw:=OJ (xs:=xs) (fu:=fu) (d:=d) (l:=l.drop 1) (by omega) (by omega) (by omega);rw[hdl] at dw;have hat:(Ac .u64 (Gk (l.drop 1))).getD 0 .top=Af (My (l.drop 1) 0):=Vg (by unfold Gk;rw[hdl];rfl)
   have e8:9-1=8:=rfl;have tk:List.take 8 (Ac .u8 (l.drop 1))=Ac .u8 (l.drop 1):=Gv (by rw[Am];omega)
   rw[Bq ⟨h9,rfl⟩,h9];simp(disch:=omega)only[B4,B3,Fj,Vg hx,wx,h1,Df,Ha,e8,tk,dw,hat];rfl
  ·rw[c1] at h1;rw[A5 (by simp),h9];simp(disch:=omega)only[B4,B3,Fj,Vg hx,wx,h1];rfl
 ·rw[A5 (by simp[h9])];simp(disch:=omega)only[Fj];rw[A5 (by omega)];rfl
def sgD(l:Ca):Option Sg:=
 if 2<=l.length/\D1 (l.getD 1 0)=false/\Js (l.getD 0 0) (l.getD 1 0)=false/\(l.length:Int)=2+8*(18+l.getD 1 0) then some ⟨l.getD 0 0,Gk ((l.drop 2).take 144),Gk (l.drop 146)⟩ else none
def Sg.owned(s:Sg):Ab:=[At s.leaf,.own 1 s.chains.length (Ac .u64 s.chains),.own 1 s.path.length (Ac .u64 s.path)]
def CF(o:Option Sg):Ab:=match o with|some s=>[.agg s.owned,At 0]|none=>[.agg (Sg.mk 0 [] []).owned,At 2]
theorem Uq(l:Ca):(Gk l).length=l.length / 8:=by simp[Gk]
theorem Ano(Bn:1000<=fu){l:Ca}(hb:Ii l):Ar (CX xs) prog fu (d+2) 49 [.lst false 1 l.length (Ac .u8 l)]=some ⟨CF (sgD l),[]⟩:=by
 refine (V8 fu (d+1) l.length (Ac .u8 l)).trans ?_;unfold sgD;by_cases h2:2<=l.length
 ·obtain⟨x,hx⟩:∃x,l[0]?=some x:=⟨_,List.getElem?_eq_getElem (by omega)⟩
  obtain⟨y,hy⟩:∃y,l[1]?=some y:=⟨_,List.getElem?_eq_getElem (by omega)⟩
  have hxb:=hb x (List.mem_of_getElem? hx);have hyb:=hb y (List.mem_of_getElem? hy);have wx:wrap .i64 x=x:=Ag (by omega) (by omega);have wy:wrap .i64 y=y:=Ag (by omega) (by omega);have gx:l.getD 0 0=x:=by rw[List.getD_eq_getElem?_getD,hx];rfl
  have gy:l.getD 1 0=y:=by rw[List.getD_eq_getElem?_getD,hy];rfl
  have h1:=Zz (xs:=xs) (fu:=fu) (d:=d) y;have ho:=Vp (xs:=xs) (fu:=fu) (d:=d) x y (by omega);have w1:wrap .i64 (18+y)=18+y:=Ag (by omega) (by omega);have w2:wrap .i64 (8*(18+y))=8*(18+y):=Ag (by omega) (by omega);have w3:wrap .i64 (2+8*(18+y))=2+8*(18+y):=Ag (by omega) (by omega);rw[gx,gy];cases c1:D1 y
  ·rw[c1] at h1;cases c2:Js x y
   ·rw[c2] at ho;by_cases c3:(l.length:Int)=2+8*(18+y)
    ·have hy4:=H7 c1;have d1:=OJ (xs:=xs) (fu:=fu) (d:=d) (l:=(l.drop 2).take 144) (by rw[List.length_take,List.length_drop];omega) (by omega) (by rw[List.length_take,List.length_drop];omega)
     have d2:=OJ (xs:=xs) (fu:=fu) (d:=d) (l:=l.drop 146) (by rw[List.length_drop];omega) (by omega) (by rw[List.length_drop];omega)
     have l1:((l.drop 2).take 144).length=144:=by rw[List.length_take,List.length_drop];omega
     have l2:(l.drop 146).length=l.length-146:=List.length_drop;rw[l1] at d1;have L1:(Ac .u64 (Gk ((l.drop 2).take 144))).length=18:=by rw[Am,Uq,l1]
     have L2:(Ac .u64 (Gk (l.drop 146))).length=(l.length-146) / 8:=by rw[Am,Uq,l2]
     rw[l2] at d2;have t1:List.take (144 / 8) (Ac .u64 (Gk ((l.drop 2).take 144)))=Ac .u64 (Gk ((l.drop 2).take 144)):=Gv (by omega);have t2:List.take ((l.length-146) / 8) (Ac .u64 (Gk (l.drop 146)))=Ac .u64 (Gk (l.drop 146)):=Gv (by omega);have t3:List.take (l.length-146) (l.drop 146)=l.drop 146:=Gv (by omega);rw[Bq ⟨h2,rfl,rfl,c3⟩];simp(disch:=omega)only[B4,B3,Fj,Vg hx,Vg hy,wx,wy,h1,ho,w1,w2,w3,Df,Ha,Hx,d1,d2,t3,L1,L2,t1,t2];rw[Bq c3];simp only[CF,Sg.owned,Uq,l1,l2]
    ·rw[A5 (by simp[c3])];simp(disch:=omega)only[B4,B3,Fj,Vg hx,Vg hy,wx,wy,h1,ho,w1,w2,w3];rw[A5 c3];rfl
   ·rw[c2] at ho;rw[A5 (by simp)];simp(disch:=omega)only[B4,B3,Fj,Vg hx,Vg hy,wx,wy,h1,ho];rfl
  ·rw[c1] at h1;rw[A5 (by simp)];simp(disch:=omega)only[B4,B3,Fj,Vg hx,Vg hy,wx,wy,h1];rfl
 ·rw[A5 (by simp[h2])];simp(disch:=omega)only[B4,B3];rfl
end
def OM(seed leaf chain:Int):Int:=Aui seed 1 (A4 [wrap .u64 leaf,wrap .u64 chain])
def FE(seed leaf:Int)(c:Nat):Int:=Xb leaf c 15 0 (OM seed leaf c)
def Lm(seed leaf:Int):Int:=GC leaf ((List.range 18).map (FE seed leaf))
def DT(seed leaf m:Int)(c:Nat):Int:=Xb leaf c (dg m c).toNat 0 (OM seed leaf c)
def M8(seed leaf m:Int):Ca:=(List.range 18).map (DT seed leaf m)
def Cs(seed:Int):Nat->Int->Int
 |0,i=>Lm seed i
 |l+1,i=>Q4 ((l+1:Nat):Int) (Cs seed l (2*i)) (Cs seed l (2*i+1))
def BP(seed:Int)(h:Int):Ky:=if D1 h=true then ⟨0,0⟩ else ⟨h,Cs seed h.toNat 0⟩
def H3(leaf:Int)(k:Nat):Int:=Fi .i64 (F2 .i64 leaf k) 1
def LH(seed:Int)(h leaf m:Int):Option Sg:=if D1 h=true then none else if Js leaf h=true then none else some ⟨leaf,M8 seed leaf m,(List.range h.toNat).map fun k=>Cs seed k (H3 leaf k)⟩
def Add(o:Option Sg):Ab:=match o with|some s=>[.agg s.owned,At 0]|none=>[.agg (Sg.mk 0 [] []).owned,At 9]
section
variable {fu d:Nat}{xs:FuncId->Option (Ab->Option D0)}
theorem A37{l:Ca}(hb:Ii l)(hl:l.length<=1099511627776)(Bn:100<=fu)(hf:l.length<fu)(key dom:Int):Ar (CX xs) prog fu (d+5) 137 [Af key,At dom,.lst false 1 l.length (Ac .u8 l)]=some ⟨[Af (Aui key dom l)],[]⟩:=by rw[Acd];have s:=Auf (xs:=xs) (fu:=fu) (d:=d) hb hl Bn hf key (wrap .u64 (1+wrap .u64 dom));simp only[B4,B3,s];rfl
theorem Aaj(Bn:1000<=fu)(seed leaf chain:Int):Ar (CX xs) prog fu (d+6) 112 [Af seed,At leaf,At chain]=some ⟨[Af (OM seed leaf chain)],[]⟩:=by
 have wd:Ar (CX xs) prog fu (d+5) 86 [.lst false 1 2 [Af (wrap .u64 leaf),Af (wrap .u64 chain)]]=_:=Vc (ws:=[wrap .u64 leaf,wrap .u64 chain]) (by simp) (by omega) (by simp;omega)
 have hs:=A37 (xs:=xs) (fu:=fu) (d:=d) (Uk [wrap .u64 leaf,wrap .u64 chain]) (by rw[Da];simp) (by omega) (by rw[Da];simp;omega) seed 1
 have L:=Am .u8 (A4 [wrap .u64 leaf,wrap .u64 chain]);rw[NL];unfold OM;generalize A4 [wrap .u64 leaf,wrap .u64 chain]=W at wd hs L ⊢;simp(disch:=omega)only[B4,B3,wd,Df,Cm,Es,Mb,L,hs]
def pl(g:Nat->Int)(i:Nat):Ca:=(List.range i).map g++List.replicate (18-i) 0
theorem Akm(g:Nat->Int){i:Nat}(h:i<=18):(pl g i).length=18:=by simp[pl];omega
theorem Aqv(g:Nat->Int){i:Nat}(h:i<18):(pl g i).set i (g i)=pl g (i+1):=by unfold pl;rw[List.set_append_right _ _ (by simp),List.length_map,List.length_range,Nat.sub_self,show 18-i=(18-(i+1))+1 by omega,List.replicate_succ,List.set_cons_zero,List.range_succ,List.map_append,FC];rfl
theorem Azv(g:Nat->Int):pl g 18=(List.range 18).map g:=by simp[pl]
theorem PH{a0 a1 seed leaf:Int}(Bn:1000<=fu):∀(k i nn:Nat),i+k=18->k<nn ->
  Hb fu (Ar (CX xs) prog fu (d+6)) a0 a1 nn seed leaf i (Ac .u64 (pl (FE seed leaf) i))=Hb fu (Ar (CX xs) prog fu (d+6)) a0 a1 (nn-k) seed leaf 18 (Ac .u64 (pl (FE seed leaf) 18))
 |_,_,0,_,h=>by omega
 |0,i,nn+1,hi,hn=>by
  have e:i=18:=by omega
  subst e;rfl
 |k+1,i,nn+1,hi,hn=>by
  have ih:=PH (a0:=a0) (a1:=a1) (seed:=seed) (leaf:=leaf) Bn k (i+1) nn (by omega) (by omega);have w:wrap .i64 ((i:Int)+1)=((i+1:Nat):Int):=by rw[Ag (by omega) (by omega)];omega
  have sc:=Aaj (xs:=xs) (fu:=fu) (d:=d) Bn seed leaf i;have rn:=Akj (xs:=xs) (fu:=fu) (d:=d) (leaf:=leaf) (chain:=i) Bn 15 0 15 (OM seed leaf i) (by omega) (by omega) (by omega);have ev:Xb leaf i 15 0 (OM seed leaf i)=FE seed leaf i:=rfl;rw[ev] at rn;have L:(Ac .u64 (pl (FE seed leaf) i)).length=18:=by rw[Am,Akm _ (by omega)]
  have FG:Bx (Ac .u64 (pl (FE seed leaf) i)) [Af (FE seed leaf i)] i=Ac .u64 (pl (FE seed leaf) (i+1)):=by
   rw[Hg (by omega),O2,Aqv _ (by omega)]
  rw[show nn+1-(k+1)=nn-k by omega,<-ih,Td];simp(disch:=omega)only[B4,B3,H0,Df,Cm,sc,rn,L,FG,w]
theorem Akr(Bn:1000<=fu){a0 a1 seed leaf:Int}{nn:Nat}{E:Ca}(hE:E.length=18):
  Hb fu (Ar (CX xs) prog fu (d+6)) a0 a1 (nn+1) seed leaf 18 (Ac .u64 E)=some ⟨[Af (GC leaf E)],[]⟩:=by
 match E,hE with
 |[e0,e1,e2,e3,e4,e5,e6,e7,e8,e9,e10,e11,e12,e13,e14,e15,e16,e17],hE=>
  have cb:=WK (xs:=xs) (fu:=fu) (d:=d) Bn leaf hE;have hc:Ac .u64 [e0,e1,e2,e3,e4,e5,e6,e7,e8,e9,e10,e11,e12,e13,e14,e15,e16,e17]=[Af e0,Af e1,Af e2,Af e3,Af e4,Af e5,Af e6,Af e7,Af e8,Af e9,Af e10,Af e11,Af e12,Af e13,Af e14,Af e15,Af e16,Af e17]:=rfl;rw[hc] at cb ⊢;generalize GC leaf [e0,e1,e2,e3,e4,e5,e6,e7,e8,e9,e10,e11,e12,e13,e14,e15,e16,e17]=R at cb ⊢;rw[Td,Ef _ _ _ (by omega)];simp(disch:=omega)only[B4,B3,FD,FR,List.getD_cons_zero,List.getD_cons_succ,cb]
theorem An9(Bn:1000<=fu)(seed leaf:Int):Ar (CX xs) prog fu (d+7) 114 [Af seed,At leaf]=some ⟨[Af (Lm seed leaf)],[]⟩:=by
 rw[OG];have lp:=PH (xs:=xs) (fu:=fu) (d:=d) (a0:=seed) (a1:=leaf) (seed:=seed) (leaf:=leaf) Bn 18 0 fu (by omega) (by omega);obtain⟨f',hf'⟩:∃f',fu-18=f'+1:=⟨fu-19,by omega⟩
 rw[hf'] at lp;refine Eq.trans lp ?_;rw[Azv];exact Akr Bn (by simp)
theorem Aa0{a0 a1 a2:Int}{seed leaf m:Int}(Bn:1000<=fu)(g:Nat->Int)(hg:∀k,g k=dg m k):∀(k i nn:Nat),i+k=18->k<nn ->
  Nc fu (Ar (CX xs) prog fu (d+6)) a0 a1 a2 nn seed leaf (g 0) (g 1) (g 2) (g 3) (g 4) (g 5) (g 6) (g 7) (g 8) (g 9) (g 10) (g 11) (g 12) (g 13) (g 14) (g 15) (g 16) (g 17) i (Ac .u64 (pl (DT seed leaf m) i)) =
   some ⟨[.own 1 18 (Ac .u64 (M8 seed leaf m))],[]⟩
 |_,_,0,_,h=>by omega
 |0,i,nn+1,hi,hn=>by
  have e:i=18:=by omega
  subst e;have L:(Ac .u64 (pl (DT seed leaf m) 18)).length=18:=by rw[Am,Akm _ (by omega)]
  have T:List.take 18 (Ac .u64 (pl (DT seed leaf m) 18))=Ac .u64 (M8 seed leaf m):=by rw[Gv (by omega),Azv];rfl
  rw[Wb,Ef _ _ _ (by omega)];simp(disch:=omega)only[B4,B3,L,T]
 |k+1,i,nn+1,hi,hn=>by
  have ih:=Aa0 (a0:=a0) (a1:=a1) (a2:=a2) (seed:=seed) (leaf:=leaf) (m:=m) Bn g hg k (i+1) nn (by omega) (by omega);have hb:=EW m i;have hgi:=A0d g (i:=i) (by omega);have w:wrap .i64 ((i:Int)+1)=((i+1:Nat):Int):=by rw[Ag (by omega) (by omega)];omega
  have sc:=Aaj (xs:=xs) (fu:=fu) (d:=d) Bn seed leaf i;have rn:=Akj (xs:=xs) (fu:=fu) (d:=d) (leaf:=leaf) (chain:=i) Bn (dg m i).toNat 0 (g i) (OM seed leaf i) (by rw[hg];omega) (by omega) (by rw[hg];omega)
  have ev:Xb leaf i (dg m i).toNat 0 (OM seed leaf i)=DT seed leaf m i:=rfl;rw[ev] at rn;have L:(Ac .u64 (pl (DT seed leaf m) i)).length=18:=by rw[Am,Akm _ (by omega)]
  have FG:Bx (Ac .u64 (pl (DT seed leaf m) i)) [Af (DT seed leaf m i)] i=Ac .u64 (pl (DT seed leaf m) (i+1)):=by
   rw[Hg (by omega),O2,Aqv _ (by omega)]
  rw[Wb];simp(disch:=omega)only[B4,B3,H0,Df,Cm,hgi,sc,rn,L,FG,w];exact ih
theorem Aw4(Bn:1000<=fu)(seed leaf m:Int):Ar (CX xs) prog fu (d+7) 69 [Af seed,At leaf,Af m]=some ⟨[.own 1 18 (Ac .u64 (M8 seed leaf m))],[]⟩:=by rw[UX];have dq:=ZH (xs:=xs) (fu:=fu) (d:=d+5) Bn m;have hD:Ac .i64 (dgs m)=[At (dg m 0),At (dg m 1),At (dg m 2),At (dg m 3),At (dg m 4),At (dg m 5),At (dg m 6),At (dg m 7),At (dg m 8),At (dg m 9),At (dg m 10),At (dg m 11),At (dg m 12),At (dg m 13),At (dg m 14),At (dg m 15),At (dg m 16),At (dg m 17)]:=rfl;rw[hD] at dq;simp only[B4,B3,dq];exact Aa0 (fu:=fu) (d:=d) (a0:=seed) (a1:=leaf) (a2:=m) Bn (dg m) (fun _=>rfl) 18 0 fu (by omega) (by omega)
end
def UN(h leaf:Int):Bool:=D1 h||Js leaf h
def tkL(h leaf:Int):Int:=if UN h leaf=true then 0 else leaf
def tkC(seed h leaf m:Int):Ca:=if UN h leaf=true then [] else M8 seed leaf m
def tkP(seed h leaf:Int):Ca:=if UN h leaf=true then [] else (List.range h.toNat).map fun k=>Cs seed k (H3 leaf k)
def tkE(h leaf:Int):Int:=if UN h leaf=true then 9 else 0
def A4f(args:Ab):Option D0:=
 match args with
 |[.sc (.int .u64 seed),.sc (.int .i64 h),.sc (.int .i64 leaf),.sc (.int .u64 m)]=>
  some ⟨[.agg [At (tkL h leaf),.lst false 1 (tkC seed h leaf m).length (Ac .u64 (tkC seed h leaf m)),.lst false 1 (tkP seed h leaf).length (Ac .u64 (tkP seed h leaf))],At (tkE h leaf)],[]⟩
 |_=>none
structure En where
 k:Int
 na:Nat
 an:Ab
 ns:Nat
 st:Ab
def AM:Ab->Option (List En)
 |[]=>some []
 |.sc (.int .u64 k) :: .lst false 3 na an :: .lst false 2 ns st::r=>bif Nat.beq an.length (na*3)&&Nat.beq st.length (ns*2)&&Nat.ble na 1000&&Nat.ble ns 1000 then (AM r).map (⟨k,na,an,ns,st⟩ :: ·) else none
 |_=>none
def Tg:Ab->Option (List (Int × Int))
 |[]=>some []
 |.sc (.int .i64 k) :: .sc (.int .i64 t)::r=>(Tg r).map ((k,t) :: ·)
 |_=>none
def Aix(model:Int)(es:List En):Ab:=match es.find? fun e=>e.k==model with|some e=>e.st|none=>[]
def Ih(now:Int)(l:List (Int × Int)):Int:=match l.reverse.find? fun p=>decide (p.2<=now) with|some p=>p.1|none=>0
def Amw(args:Ab):Option D0:=
  match args with
  |[.agg [.sc (.int .i64 _),.sc (.int .i64 _),.sc (.int .i64 _),.lst false 3 n c,.sc (.int .i64 _),.lst false 1 _ _,.lst false 1 _ _],.sc (.int .u64 model),.sc (.int .i64 now)]=>
    bif Nat.beq c.length (n*3)&&Nat.ble n 1000 then
      (match AM c with
       |some es=>(match Tg (Aix model es) with|some l=>some ⟨[At (Ih now l)],[]⟩|none=>none)
       |none=>none)
    else none
  |_=>none
def Mm(f:FuncId):Option (Ab->Option D0):=
 bif Nat.beq f 126 then some UD else
 bif Nat.beq f 148 then some DV else
 bif Nat.beq f 36 then some A4f else
 bif Nat.beq f 29 then some Amw else
 bif Nat.beq f 1000000 then some (fun _=>none) else none
abbrev C0:Kk:=CX Mm
section
variable {xs:FuncId->Option (Ab->Option D0)}(fu d:Nat)(call:Bp)
theorem P0(Z:Nat)(Y:Ab):Fn (CX xs) fu d 71 [Ap 3 Z Y] fun call=>A3 (decide (0<Z)) (As (decide (Y.length=Z*3)&&decide ((0+Z)*32<=1099511627776)&&decide (0+Z<=1099511627776))<|Aa (0+Z) fun a=>Aa ([]++Y) fun b=>As (decide (0+a*3<=b.length))<|Bv [Ap 3 a (List.take (a*3) (b.drop 0))]) (BC (Bv [Ap 3 0 []]) (As (decide (Y.length=Z*3)&&decide ((0+Z)*32<=1099511627776)&&decide (0+Z<=1099511627776))<|Aa (0+Z) fun a=>Aa ([]++Y) fun b=>As (decide (0+a*3<=b.length))<|Bv [Ap 3 a (List.take (a*3) (b.drop 0))])):=by show _=_;kernel_rfl
theorem P1(Z:Nat)(Y:Ab):Fn (CX xs) fu d 72 [Ap 2 Z Y] fun call=>A3 (decide (0<Z)) (As (decide (Y.length=Z*2)&&decide ((0+Z)*16<=1099511627776)&&decide (0+Z<=1099511627776))<|Aa (0+Z) fun a=>Aa ([]++Y) fun b=>As (decide (0+a*2<=b.length))<|Bv [Ap 2 a (List.take (a*2) (b.drop 0))]) (BC (Bv [Ap 2 0 []]) (As (decide (Y.length=Z*2)&&decide ((0+Z)*16<=1099511627776)&&decide (0+Z<=1099511627776))<|Aa (0+Z) fun a=>Aa ([]++Y) fun b=>As (decide (0+a*2<=b.length))<|Bv [Ap 2 a (List.take (a*2) (b.drop 0))])):=by show _=_;kernel_rfl
theorem Rm(Z:Int)(Y:Nat)(X:Ab)(W:Nat)(V:Ab):Fn (CX xs) fu d 37 [.agg [Af Z,Ap 3 Y X,Ap 2 W V]] fun call=>Dm (call 71 [Ap 3 Y X]) fun a b=>Pq 3 a fun a c e=>Aq b<|Dm (call 72 [Ap 2 W V]) fun a b=>Pq 2 a fun a f g=>Aq b<|Bv [.agg [Af Z,Ap 3 c e,Ap 2 f g]]:=by show _=_;kernel_rfl
def J0(Z Y X:Int)(W:Nat)(V:Ab)(U:Int)(T:Nat)(S:Ab)(Q:Nat)(P:Ab)(O:Int)(N:Nat)(M:Int)(L:Nat)(K:Ab)(J I H:Int)(G E:Nat)(D B:Ab):Option D0:=Mg fu call 52 Tryz.f52 [.agg [Z,Y,X,Ap 3 W V,U,Ap 1 T S,Ap 1 Q P],Af O] [.r,.l,.r,.l] N ⟨lk [(1,Af M),(4,.ptr 4 0),(9,Ap 3 L K),(10,J),(11,I)],B0 [(4,.st [Af H,.view 50 3 0 G,.view 73 2 0 E]),(50,.ar false D),(73,.ar false B)]⟩
theorem Ri(U T S:Int)(Q:Nat)(P:Ab)(O:Int)(N:Nat)(M:Ab)(L:Nat)(K:Ab)(J:Int)(I:Nat)(X:Int)(W:Nat)(Y:Ab)(V Z H:Int)(G E:Nat)(D B:Ab):J0 fu call U T S Q P O N M L K J (I+1) X W Y V Z H G E D B=(A3 (decide (Z<V)) (As (decide (0<=Z)&&decide (Z<(↑W:Int)))<|Be .u64 (Y.getD (Z.toNat*3) .top) fun a=>Pq 3 (Y.getD (Z.toNat*3+1) .top) fun b c e=>Pq 2 (Y.getD (Z.toNat*3+1+1) .top) fun b f g=>A3 (a==X) (Dm (call 37 [.agg [Af a,Ap 3 c e,Ap 2 f g]]) fun a b=>Dr a fun a=>C2 .u64 a fun a c=>Hw 3 c fun c e f=>Hw 2 f fun f g h=>Aq h<|Aq b<|Bv [.agg [Af a,Ap 3 c e,Ap 2 f g],.sc (.bool true)]) (Aa (wrap .i64 (Z+1)) fun a=>J0 fu call U T S Q P O N M L K J I X W Y V a H G E D B)) (Bv [.agg [Af 0,Ap 3 0 [],Ap 2 0 []],.sc (.bool false)])):=by kernel_rfl
theorem KX(W V U:Int)(Z:Nat)(Y:Ab)(T:Int)(S:Nat)(Q:Ab)(P:Nat)(O:Ab)(X:Int):Fn (CX xs) fu d 52 [.agg [W,V,U,Ap 3 Z Y,T,Ap 1 S Q,Ap 1 P O],Af X] fun call=>J0 fu call W V U Z Y T S Q P O X fu X Z Y (↑Z:Int) 0 0 0 0 ([]) ([]):=by show _=_;kernel_rfl
end
section
open Go Go.RowKit
structure Ug(Z Z':Nat->Prop)(w w':World):Prop where
 os:w'.os=w.os
 tape:w'.tape=w.tape
 output:w'.output=w.output
 size:w.heap.size<=w'.heap.size
 keep:∀b,b<w.heap.size->¬Z b->w'.heap[b]?=w.heap[b]?
 sub:∀b,Z b->Z' b
 new:∀b,Z' b->Z b\/w.heap.size<=b
 lt:∀b,Z' b->b<w'.heap.size
 bs:∀b,b<w.heap.size->bsz w b<=bsz w' b
structure O7(Z:Nat->Prop)(w w':World):Prop where
 os:w'.os=w.os
 tape:w'.tape=w.tape
 output:w'.output=w.output
 size:w.heap.size<=w'.heap.size
 same:∀b,Z b->w'.heap[b]?=w.heap[b]?
theorem O7.sub{Z Z':Nat->Prop}{w w':World}(h:O7 Z w w')(hs:∀b,Z' b->Z b):O7 Z' w w':=⟨h.os,h.tape,h.output,h.size,fun b hb=>h.same b (hs b hb)⟩
def A06{α:Type}(P:Program)(gf:Nat)(lb:Array Value)(M:List α->α->Array Value->(Nat->Prop)->World->Prop)(S Sp:List α->Prop)(Pre:(Nat->Prop)->World->Prop):Prop:=
 ∀(l:Nat) (J Jx:(Nat->Prop)->List α->World->Prop) (W:World) (Z0:Nat->Prop),(∀b,Z0 b->b<W.heap.size)->Pre Z0 W ->
  (∀Z pre A B,J Z pre A->O7 Z A B->J Z pre B)->(∀Z pre A B,Jx Z pre A->O7 Z A B->Jx Z pre B) ->
  (∀Z pre x args A,J Z pre A->M pre x args Z A->YieldAt Fence.wide 0 P l args A fun e B=>∃Z',Ug Z Z' A B /\
   ((e=.returned (.bool true)/\J Z' (pre++[x]) B)\/(e=.returned (.bool false)/\Jx Z' (pre++[x]) B))) ->
  J Z0 [] W ->
  Calls P gf (#[.func (.yield l) #[] #[]]++lb) W fun e B=>(∃v,e=.returned v)/\∃Z xs,(S xs/\J Z xs B)\/(Sp xs/\Jx Z xs B)
theorem PS{P:Program}{n m l:Nat}{f:FuncId}{tmps:Array Value}{assign body:Code}{w:World}{R:Ending->World->Prop}(h:RoundIn Fence.wide n P l f tmps assign body w R):RoundIn Fence.wide m P l f tmps assign body w R:=
 ⟨h.1,fun c cs _=>h.2 c cs (room_wide _)⟩
def MX{α:Type}(D:Nat)(I:(Nat->Prop)->List α->World->Prop)(Ix:Code->(Nat->Prop)->List α->World->Prop)(Z:Nat->Prop)(xs:List α)(A:World):Exit->Act->World->Prop:=fun e _ B=>
 ∃Z',Ug Z Z' A B/\B.heap[D]?=A.heap[D]?/\B.heap[D+1]?=A.heap[D+1]? /\
  match e with
  |.normal=>I Z' xs B
  |.ret=>Ix .ret Z' xs B
  |.exit id=>Ix (.exit id) Z' xs B
  |.goto t=>Ix (.goto t) Z' xs B
  |_=>False
theorem Ank{α:Type}{P:Program}{n:Nat}{g:Operand}{ps:Array Tmp}{assign body:Code}{Q:Exit->Act->World->Prop}{a:Act}{w:World}{gf:Nat}{lb:Array Value}(hg:a.eval g=.func (.func gf) #[] lb)(eg:∀args w,(callFunc gf args).run P w=.ok (.enter gf args) w){M:List α->α->Array Value->(Nat->Prop)->World->Prop}{S Sp:List α->Prop}{Pre:(Nat->Prop)->World->Prop}(hit:A06 P gf lb M S Sp Pre){Z0:Nat->Prop}(hZ0:∀b,Z0 b->b<w.heap.size)(Aux:∀W:World,W.heap.size=w.heap.size+2->(∀b,b<w.heap.size->W.heap[b]?=w.heap[b]?)->Pre (fun b=>Z0 b\/b=w.heap.size\/b=w.heap.size+1) W)(hM:∀pre x args Z A B,M pre x args Z A->A.heap.size<=B.heap.size->(∀b,b<A.heap.size->¬Z b->B.heap[b]?=A.heap[b]?)->M pre x args Z B)(PX:∀pre x args Z A,M pre x args Z A->args.size=ps.size)(I:(Nat->Prop)->List α->World->Prop)(Ix:Code->(Nat->Prop)->List α->World->Prop)(hI:∀Z pre A B,I Z pre A->O7 (fun b=>Z b/\b≠w.heap.size/\b≠w.heap.size+1) A B->I Z pre B)(hIx:∀c Z pre A B,Ix c Z pre A->O7 (fun b=>Z b/\b≠w.heap.size/\b≠w.heap.size+1) A B->Ix c Z pre B)(h0:∀W,W.heap.size=w.heap.size+2->O7 (fun b=>b<w.heap.size) w W->I (fun b=>Z0 b\/b=w.heap.size\/b=w.heap.size+1) [] W)(a₁:Array Value->Act)(JU:∀pre x args Z A (K:Act->World->Prop),M pre x args Z A->K (a₁ args) A->assign.wpIn (Fence.wide.inRound (w.heap.size+1)) 0 P (Exit.then K (fun _ _ _=>False)) { tmps:=(ps.zip args).foldl (fun t (p,v)=>t.setIfInBounds p v) a.tmps,defers:=[] } A)(Ahq:∀Z pre x args A,Z w.heap.size->Z (w.heap.size+1)->I Z pre A->M pre x args Z A->body.wpIn (Fence.wide.inRound (w.heap.size+1)) 0 P (MX w.heap.size I Ix Z (pre++[x]) A) (a₁ args) A)(Ae7:∀Z xs B,S xs->I Z xs B->B.heap[w.heap.size]?=some (.deferred (some []))->Q .normal { a with defers:={ target:=.collected w.heap.size,args:= #[] }::a.defers } B)(Ag0:∀c Z xs B,Sp xs->Ix c Z xs B->B.heap[w.heap.size]?=some (.deferred (some []))->c.wpIn Fence.wide n P Q { a with defers:={ target:=.collected w.heap.size,args:= #[] }::a.defers } B):
  (Code.rangeFunc g ps assign body).wpIn Fence.wide n P Q a w:=by
 refine wpIn_rangeFunc ?_;intro fn hfn;obtain⟨rec,AG⟩:∃rec:LoopState->Option Code->Loop,rec=fun st pe=>{ state:=st,pending:=pe,fn,tmps:=a.tmps,params:=ps,assign,body,defers:=w.heap.size }:=⟨_,rfl⟩
 obtain⟨D,hD⟩:∃D,w.heap.size=D:=⟨_,rfl⟩
 rw[hD] at hI hIx h0 JU Ahq Ae7 Ag0 hZ0 Aux;obtain⟨W1,hW1⟩:∃W1,(w.alloc (.deferred (some []))).alloc (.loop (rec .ready none))=W1:=⟨_,rfl⟩
 have PI:W1.heap.size=D+2:=by rw[<-hW1,World.size_alloc,World.size_alloc,hD]
 have hL1:W1.heap[D+1]?=some (.loop (rec .ready none)):=by
  rw[<-hW1,<-hD];have:=World.alloc_heap_new (w.alloc (.deferred (some []))) (.loop (rec .ready none));rwa [World.size_alloc] at this
 have hK1:W1.heap[D]?=some (.deferred (some [])):=by
  rw[<-hW1,<-hD];exact (Below.heap_alloc _ _ _ (by simp)).trans (World.alloc_heap_new w _)
 have Hc:O7 (fun b=>b<D) w W1:=by
  rw[<-hW1,<-hD];exact⟨rfl,rfl,rfl,by simp;omega,fun b hb=>(Below.heap_alloc _ _ _ (by simp;omega)).trans (Below.heap_alloc _ _ _ hb)⟩
 refine⟨D+1,[{ target:=.collected D,args:= #[] }],W1,{ target:=.fn (.func gf) lb,args:= #[.func (.yield (D+1)) #[] #[]] },W1,gf,
  #[.func (.yield (D+1)) #[] #[]]++lb,W1,?_,?_,fun _ _=>trivial,?_,(fun h=>by cases h),?_⟩
 ·rw[<-hW1,AG,<-hD];exact run_enterLoop_outer _ _ _ _ _
 ·simp only[resolve,hg];simp[go_sem]
 ·simp[invoke,go_sem,eg]
 ·have put:∀{Z:Nat->Prop} {A:World} (o:Obj),O7 (fun b=>Z b/\b≠D/\b≠D+1) A (A.putObj (D+1) o):=fun o=>
   ⟨rfl,rfl,rfl,by simp,fun b hb=>World.putObj_heap_other hb.2.2⟩
  refine callsIn_wide.2 (Calls.mono (hit (D+1)
   (fun Z pre A=>(Z D/\Z (D+1))/\I Z pre A/\A.heap[D+1]?=some (.loop (rec .ready none))/\A.heap[D]?=some (.deferred (some [])))
   (fun Z pre A=>(Z D/\Z (D+1))/\∃c,Ix c Z pre A/\A.heap[D+1]?=some (.loop (rec .done (some c)))/\A.heap[D]?=some (.deferred (some [])))
   W1 (fun b=>Z0 b\/b=D\/b=D+1) (fun b hb=>by rw[PI];exact hb.elim (fun h=>by have:=hZ0 b h;omega) fun h=>by omega) (Aux W1 PI (fun b hb=>Hc.same b hb)) ?_ ?_ ?_ ?_) ?_)
  ·rintro Z pre A B ⟨hz,hi,hl,hk⟩ hs
   exact⟨hz,hI Z pre A B hi (hs.sub fun _ h=>h.1),(hs.same _ hz.2).trans hl,(hs.same _ hz.1).trans hk⟩
  ·rintro Z pre A B ⟨hz,c,hi,hl,hk⟩ hs
   exact⟨hz,c,hIx c Z pre A B hi (hs.sub fun _ h=>h.1),(hs.same _ hz.2).trans hl,(hs.same _ hz.1).trans hk⟩
  ·rintro Z pre x args A ⟨hz,hi,hl,hk⟩ hm
   have Cq:D+1<A.heap.size:=(Array.getElem?_eq_some_iff.1 hl).1;have hy:=run_yield (P:=P) (args:=args) hl (by rw[AG];exact PX pre x args Z A hm)
   rw[AG] at hy;refine⟨fn,_,assign,body,hy,roundIn_of_wpIn hfn (JU pre x args Z A _ hm ?_)⟩;refine⟨_,run_beginRound hl (by rw[AG]),?_⟩;obtain⟨A2,hA2⟩:∃A2,A.putObj (D+1) (.loop { rec .ready none with state:=.busy })=A2:=⟨_,rfl⟩
   rw[hA2];have RQ:A2.heap[D+1]?=some (.loop { rec .ready none with state:=.busy }):=by rw[<-hA2];exact World.putObj_heap_same Cq
   have Hl:A2.heap[D]?=some (.deferred (some [])):=by rw[<-hA2];exact (World.putObj_heap_other (by omega)).trans hk
   have hz2:A2.heap.size=A.heap.size:=by rw[<-hA2];simp
   have hi2:I Z pre A2:=by rw[<-hA2];exact hI Z pre A _ hi (put _)
   have hm2:M pre x args Z A2:=by
    rw[<-hA2];exact hM pre x args Z A _ hm (by simp) fun b _ hb=>World.putObj_heap_other fun e=>hb (e ▸ hz.2)
   refine wpIn_mono (Ahq Z pre x args A2 hz.1 hz.2 hi2 hm2) ?_
   have fin:∀(jump:Option Code) (W3:World) (Z':Nat->Prop),Ug Z Z' A2 W3->W3.heap[D]?=A2.heap[D]?->W3.heap[D+1]?=A2.heap[D+1]? ->
     (Instr.endRound (D+1) jump).run P W3=.ok (.bool jump.isNone) (W3.putObj (D+1) (.loop (rec (if jump.isNone then .ready else .done) jump))) /\
     (W3.putObj (D+1) (.loop (rec (if jump.isNone then .ready else .done) jump))).heap[D+1]?=some (.loop (rec (if jump.isNone then .ready else .done) jump)) /\
     (W3.putObj (D+1) (.loop (rec (if jump.isNone then .ready else .done) jump))).heap[D]?=some (.deferred (some [])) /\
     Ug Z Z' A (W3.putObj (D+1) (.loop (rec (if jump.isNone then .ready else .done) jump))):=fun jump W3 Z' ht e1 e2=>by
    have hl3:=e2.trans RQ;have:=run_endRound (P:=P) jump hl3;rw[AG] at this ⊢;refine⟨this,World.putObj_heap_same (Array.getElem?_eq_some_iff.1 hl3).1,(World.putObj_heap_other (by omega)).trans (e1.trans Hl),?_⟩;have hA:A2.os=A.os/\A2.tape=A.tape/\A2.output=A.output:=by rw[<-hA2];exact⟨rfl,rfl,rfl⟩
    refine⟨ht.os.trans hA.1,ht.tape.trans hA.2.1,ht.output.trans hA.2.2,by have:=ht.size;simp;omega,fun b hb hn=>?_,ht.sub,fun b hb=>by have:=ht.new b hb;rw[hz2] at this;exact this,fun b hb=>by simpa using ht.lt b hb,fun b hb=>?_⟩
    ·have Gz:b≠D+1:=fun e=>hn (e ▸ hz.2);rw[World.putObj_heap_other Gz,ht.keep b (by omega) hn,<-hA2,World.putObj_heap_other Gz]
    ·by_cases Gz:b=D+1
     ·subst Gz;unfold bsz;rw[hl];exact Nat.zero_le _
     ·have h5:=ht.bs b (by omega);have h6:bsz A2 b=bsz A b:=by unfold bsz;rw[<-hA2,World.putObj_heap_other Gz]
      have h7:∀o,bsz (W3.putObj (D+1) o) b=bsz W3 b:=fun o=>by unfold bsz;rw[World.putObj_heap_other Gz]
      rw[h7,<-h6];exact h5
   rintro e a3 W3 ⟨Z',ht,e1,e2,hp⟩
   cases e with
   |normal=>
    obtain⟨hr,hl4,Xq,ht4⟩:=fin none W3 Z' ht e1 e2;exact⟨_,_,hr,Z',ht4,.inl ⟨rfl,⟨ht.sub _ hz.1,ht.sub _ hz.2⟩,hI Z' _ _ _ hp (put _),hl4,Xq⟩⟩
   |ret=>
    obtain⟨hr,hl4,Xq,ht4⟩:=fin (some .ret) W3 Z' ht e1 e2;exact⟨_,_,hr,Z',ht4,.inr ⟨rfl,⟨ht.sub _ hz.1,ht.sub _ hz.2⟩,.ret,hIx _ Z' _ _ _ hp (put _),hl4,Xq⟩⟩
   |exit id=>
    obtain⟨hr,hl4,Xq,ht4⟩:=fin (some (.exit id)) W3 Z' ht e1 e2;exact⟨_,_,hr,Z',ht4,.inr ⟨rfl,⟨ht.sub _ hz.1,ht.sub _ hz.2⟩,.exit id,hIx _ Z' _ _ _ hp (put _),hl4,Xq⟩⟩
   |goto t=>
    obtain⟨hr,hl4,Xq,ht4⟩:=fin (some (.goto t)) W3 Z' ht e1 e2;exact⟨_,_,hr,Z',ht4,.inr ⟨rfl,⟨ht.sub _ hz.1,ht.sub _ hz.2⟩,.goto t,hIx _ Z' _ _ _ hp (put _),hl4,Xq⟩⟩
   |panic ch=>exact hp.elim
   |outgrown=>exact hp.elim
  ·exact⟨⟨.inr (.inl rfl),.inr (.inr rfl)⟩,h0 W1 PI Hc,hL1,hK1⟩
  ·rintro e W2 ⟨⟨v,rfl⟩,Z,xs,(⟨hS,hz,hi,hl,hk⟩|⟨hSp,hz,c,hi,hl,hk⟩)⟩
   ·exact⟨none,_,by have:=run_endLoop (P:=P) hl (by rw[AG];simp);rw[AG] at this;exact this,Ae7 Z xs _ hS (hI Z _ _ _ hi (put _)) ((World.putObj_heap_other (by omega)).trans hk)⟩
   ·exact⟨some c,_,by have:=run_endLoop (P:=P) hl (by rw[AG];simp);rw[AG] at this;exact this,Ag0 c Z xs _ hSp (hIx c Z _ _ _ hi (put _)) ((World.putObj_heap_other (by omega)).trans hk)⟩
def Ant(s:St)(β:Bt):Gn:={ X:=GY s.hp β,L:=fun b _=>GY s.hp β b,pn:=fun _=>False,pt:=fun _=>none,p8:=fun _ h=>h.elim }
theorem Cj.rebase{N:Nat}{w0 w w':World}{X0:Gn}{Y Z':Nat->Prop}{β:Bt}{s:St}{a:Act}(h:Cj N w0 X0 Y β s a w)(ht:Ug Y Z' w w')(hns:∀id c,s.hp id≠some (.st c)):Cj N w' (Ant s β) Z' β s a w':=by
 have hW:C6 (D2 s.hp β Y) w w':=⟨ht.size,fun b hb hn=>ht.keep b hb fun y=>hn (.inr y),ht.bs⟩
 have hA:∀b,b<w.heap.size->D2 s.hp β Z' b->D2 s.hp β Y b:=by
  rintro b hb (hx|hz)
  ·exact .inl hx
  ·rcases ht.new b hz with h1|h1
   ·exact .inr h1
   ·omega
 have BK:∀b,b<w.heap.size->¬Y b->w'.heap[b]?=w.heap[b]?:=ht.keep
 refine⟨h.dfr,h.tsz,h.tmo,fun i hi=>(h.tms i hi).step hW hA fun _ _=>rfl,fun id bx Pr=>?_,h.inj,fun id b o h1 h2=>Jm (h.blt id b o h1 h2) ht.size,h.wfT,h.wfB,fun b hb=>.inl hb,
  fun id bx b o h1 h2 h3 _ j _=>⟨id,o,by rw[h1];exact h2,h3⟩,fun i hi=>hi.elim,fun id c b o h1=>absurd h1 (hns id c),fun b hz=>?_,ht.lt,⟨rfl,rfl,rfl,⟨C9 _,fun _ _ _=>rfl,fun _ _=>C9 _⟩,fun _ _ _ _=>⟨rfl,rfl⟩⟩⟩
 ·cases bx with
  |st c=>exact absurd Pr (hns id c)
  |mv=>trivial
  |ar fz cells=>
   rcases h.box id _ Pr with h1|⟨b,o,h1,h2,h3,h4⟩
   ·exact .inl h1
   ·have Cq:b<w.heap.size:=h.blt id b o (by rw[Pr];simp) h1
    have hnY:¬Y b:=by
     cases fz with
     |false=>exact fun y=>h.Yx b y ⟨id,o,by rw[Pr];trivial,h1⟩
     |true=>exact fun y=>h4 rfl (.inr y)
    have hh:=BK b Cq hnY;have J8:bsz w' b=bsz w b:=by unfold bsz;rw[hh]
    refine .inr ⟨b,o,h1,fun j c hj=>?_,fun hf j hj hjb=>?_,fun hf=>fun hA'=>h4 hf (hA b Cq hA')⟩
    ·obtain⟨v,hv,hv1,hv2⟩:=h2 j c hj;exact⟨v,(World.cell?_of_block (a:=(⟨b,o,none⟩:Addr).add j) (by rw[Io];exact hh)).trans hv,hv1,hv2.step hW hA⟩
    ·rw[J8] at hjb;have:=h3 hf j hj hjb;rw[<-this];unfold World.frozen?;simp only[hh]
 ·rintro⟨id,o,h1,h2⟩
  have Cq:b<w.heap.size:=h.blt id b o (D7 h1) h2;rcases ht.new b hz with h3|h3
  ·exact h.Yx b h3 ⟨id,o,h1,h2⟩
  ·omega
theorem Cj.stay{N:Nat}{w0 w:World}{X0:Gn}{Y:Nat->Prop}{β:Bt}{s:St}{a:Act}(h:Cj N w0 X0 Y β s a w)(hd:∀b,Y b->¬X0.X b):O7 Y w0 w:=
 ⟨h.fr.os,h.fr.tape,h.fr.output,h.fr.step.size,fun b hb=>h.fr.step.keep b (h.Ylt b hb) (hd b hb)⟩
end
section
open Go Go.RowKit
abbrev WF(ro:Option Nat):Fence:={ fn:=fun _=>True,depth:=none,alive:=false,round:=ro }
def Aca(o:Oper):Bool:=
 match o.op with
 |.defer _=>false
 |_=>true
def okR:Code->Bool
 |.region _ ops _=>ops.toList.all Aca
 |.seq a b=>okR a&&okR b
 |.cond _ a b=>okR a&&okR b
 |.block _ c=>okR c
 |.loop c=>okR c
 |.skip=>true
 |.exit _=>true
 |.ret=>true
 |_=>false
theorem LW{P:Program}{o:Oper}{a:Act}{w:World}{next:Act->World->Prop}{Q:Exit->Act->World->Prop}{ro:Option Nat}{n:Nat}(hd:Aca o=true)(h:o.wp P a w next Q):o.wpIn (WF ro) n P a w next Q:=by
 refine⟨fun _ _=>trivial,?_⟩;have e:o.semAt (WF ro).round a.eval=execOp a.eval o:=Oper.semAt_eq _ _ _ (by intro c hc;unfold Aca at hd;rw[hc] at hd;cases hd)
 rw[e];unfold Oper.wp at h
 revert h
 generalize (execOp a.eval o).run P w=q;intro h;cases q with
 |halt x w'=>cases x<;>first|exact h|exact h.elim
 |ok v w'=>
  cases v with
  |value v=>exact h
  |skip=>exact h
  |defer d=>exact h
  |enter f args=>exact⟨(fun h=>by cases h),(callsIn_wide.2 h:CallsIn Fence.wide (n-1) P f args w' _)⟩
  |row row args=>exact⟨(fun h=>by cases h),fun c cs _=>let ⟨v,w',r,s⟩:=h c cs;⟨v,w',r,stepsIn_wide.2 s⟩⟩
  |_=>exact h.elim
theorem Acl{P:Program}{ops:Array Oper}{Q:Exit->Act->World->Prop}{K K':Act->World->Prop}{ro:Option Nat}{i n:Nat}{a:Act}{w:World}(HR:¬LetsOut Q)(XJ:ops.toList.all Aca=true)(hK:∀a w,K a w->K' a w)(h:wpOp P ops Q i K a w):wpOpIn (WF ro) n P ops Q i K' a w:=by
 unfold wpOp at h;unfold wpOpIn;cases ho:ops[i]? with
 |none=>rw[ho] at h;exact hK _ _ h
 |some o=>
  rw[ho] at h;simp only at h ⊢;have hn:Aca o=true:=List.all_eq_true.1 XJ o (Array.mem_toList_iff.2 (Array.mem_of_getElem? ho));by_cases hw:Region.wanted o (yielded ops a.tmps)=true
  ·rw[Bq hw] at h ⊢;rcases h with h|h
   ·exact LW hn (Oper.wp_mono hK h)
   ·exact absurd h.2 HR
  ·rw[A5 hw] at h ⊢;exact⟨fun _ _=>trivial,hK _ _ h⟩
theorem Xp{P:Program}{ops:Array Oper}{Q:Exit->Act->World->Prop}{ro:Option Nat}{n:Nat}{md:Region.Mode}(HR:¬LetsOut Q)(XJ:ops.toList.all Aca=true):∀(fuel:Nat)(listed:Array Bool)(a:Act)(w:World),wpAny P md ops Q fuel listed a w->wpAnyIn (WF ro) n P md ops Q fuel listed a w
 |0,_,_,_,h=>h
 |fuel+1,_,_,_,h=>⟨h.1,fun i hi=>Acl HR XJ (fun a w=>Xp HR XJ fuel _ a w) (h.2 i hi)⟩
section
variable {P:Program}{C:Kk}{N:Nat}{call:Bp}{w0:World}{X0:Gn}{Y:Nat->Prop}{R:Type}{r:R}{β:Bt}{s:St}{a:Act}{w:World}{o:Oper}{ops:Array Oper}{K:St->Option R}{ro:Option Nat}{n:Nat}
theorem QR(h:Cj N w0 X0 Y β s a w){G:Zg}(Ks:QL P G w0 X0)(Dl:∀f args res,call f args=some res->Do G P f args res)(XJ:Aca o=true)(hk:Fd C P N call ops o s K=some r):
  ∃s',K s'=some r/\∀(next:Act->World->Prop) (Q:Exit->Act->World->Prop),(∀a' w' β',Cj N w0 X0 Y β' s' a' w'->next a' w') ->
   if Region.wanted o (yielded ops a.tmps) then o.wpIn (WF ro) n P a w next Q else (∀f,o.about P w a.eval=some f->(WF ro).fn f)/\next (a.put o.dst undef) w:=by
 rw[SB] at hk
 have hw:∀b,I6 ops o s.tm=some b->Region.wanted o (yielded ops a.tmps)=b:=by
  intro b hb;unfold I6 at hb;unfold Region.wanted;cases hg:o.guard with
  |none=>rw[hg] at hb;simpa using hb
  |some q=>
   obtain⟨j,want⟩:=q;rw[hg] at hb;simp only at hb ⊢;cases hd:(ops[j]?).bind (·.dst) with
   |none=>rw[hd] at hb;cases hb
   |some d=>
    rw[hd] at hb;simp only at hb;split at hb
    ·rename_i b' ht;rw[AF h hd ht];simp at hb;rw[<-hb];cases b'<;>cases want<;>rfl
    ·rename_i ht;rw[AF h hd ht];simp at hb;rw[hb];rfl
    ·cases hb
 split at hk
 ·cases hk
 ·rename_i hv;obtain⟨s',hs',hn⟩:=TZ h Ks Dl hk;refine⟨s',hs',fun next Q UT=>?_⟩;simp only[hw _ hv,if_true];exact LW XJ (hn next Q UT)
 ·rename_i hv;obtain⟨hd,hk⟩:=Az hk;refine⟨_,hk,fun next Q UT=>?_⟩;simp only[hw _ hv];exact⟨fun _ _=>trivial,UT _ _ β (h.put hd (Bd.sc _) (by simp[Cn,C3,A9]))⟩
theorem GG{G:Zg}(Ks:QL P G w0 X0)(Dl:∀f args res,call f args=some res->Do G P f args res){Q:Exit->Act->World->Prop}(hQ:∀s' a' w' β',K s'=some r->Cj N w0 X0 Y β' s' a' w'->Q .normal a' w'):
  ∀(li:Cc) (os:List Oper),li.length=os.length->(∀(k i:Nat),li[k]?=some i->ops[i]?=os[k]?)->os.all Aca=true->∀{s:St} {a:Act} {w:World} {β:Bt},Cj N w0 X0 Y β s a w->Mw C P N call ops os s K=some r->wpOpsIn (WF ro) n P ops Q li a w
 |[],[],_,_,_,s,a,w,β,h,hk=>by
  show Q .normal a w;exact hQ s a w β hk h
 |[],_::_,hl,_,_,_,_,_,_,_,_=>by cases hl
 |_::_,[],hl,_,_,_,_,_,_,_,_=>by cases hl
 |i::li,o::os,hl,hi,XJ,s,a,w,β,h,hk=>by
  obtain⟨s1,hk,h⟩:=Zv h hk;rw[List.all_cons,G8] at XJ;have hio:ops[i]?=some o:=by simpa using hi 0 i rfl
  obtain⟨s',hs',hn⟩:=QR (ro:=ro) (n:=n) h Ks Dl XJ.1 hk;unfold wpOpsIn;rw[hio];exact hn _ _ fun a' w' β' h'=>GG Ks Dl hQ li os (by simpa using hl) (fun k j hj=>by simpa using hi (k+1) j (by simpa using hj)) XJ.2 h' hs'
theorem QG{c:Code}{Q:Exit->Act->World->Prop}{F:(St->Option R)->St->Option R}{nm:St->(St->Option R)->Option R}(hnm:∀{β s a w} {K:St->Option R},Cj N w0 X0 Y β s a w->nm s K=some r->∃β' s',K s'=some r/\Cj N w0 X0 Y β' s' a w)(hF:∀{β s a w} {K:St->Option R}{Q':Act->World->Prop},Cj N w0 X0 Y β s a w->F K s=some r->(∀s' a' w' β',K s'=some r->Cj N w0 X0 Y β' s' a' w'->Q' a' w')->c.wpIn (WF ro) n P (Exit.then Q' Q) a w):
  ∀(m:Nat) {β s a w},Cj N w0 X0 Y β s a w->YK F nm m s=some r->Code.roundsIn (WF ro) n P c Q m a w
 |0,_,_,_,_,_,hk=>by cases hk
 |m+1,β,s,a,w,h,hk=>by
  rw[roundsIn_succ];refine hF h hk fun s' a' w' β' J6 h'=>?_;obtain⟨β1,s1,E9,h1⟩:=hnm h' J6;exact QG hnm hF m h1 E9
theorem PD{G:Zg}(Ks:QL P G w0 X0)(Dl:∀f args res,call f args=some res->Do G P f args res)(hm:P.follows .mixedOrders=true){fu:Nat}:
  ∀(c:Code),okR c=true->∀{ln:Nat} {lx:Nat->Nat} {lr:Nat} {kn:St->Option R} {kx:Nat->St->Option R} {kr:St->Option R} {β:Bt} {s:St} {a:Act} {w:World} {Q:Exit->Act->World->Prop},(∀a w,¬Q .outgrown a w)->Cj N w0 X0 Y β s a w ->
   Pm C P fu N call c ln lx lr kn kx kr s=some r->(∀s' a' w' β',kn s'=some r->Cj N w0 X0 Y β' s' a' w'->Q .normal a' w') ->
   (∀id s' a' w' β',kx id s'=some r->Cj N w0 X0 Y β' s' a' w'->Q (.exit id) a' w')->(∀s' a' w' β',kr s'=some r->Cj N w0 X0 Y β' s' a' w'->Q .ret a' w')->c.wpIn (WF ro) n P Q a w:=by
 intro c
 induction c with
 |skip=>intro _ ln lx lr kn kx kr β s a w Q HR h hk hn hx hr;exact wpIn_skip (hn s a w β hk h)
 |region id ops draw=>
  intro ho ln lx lr kn kx kr β s a w Q HR h hk hn hx hr;unfold okR at ho;unfold Pm at hk;cases draw
  ·simp only[YD,Zzs,cond_false] at hk;refine wpIn_region (GG Ks Dl hn (List.range ops.size) ops.toList (by simp) (fun k i hi=>?_) ho h hk);rw[List.getElem?_range] at hi
   ·simp at hi;subst hi;simp
   ·rcases Mi k ops.size with h'|h'
    ·exact h'
    ·rw[List.getElem?_eq_none (by simpa using h')] at hi;cases hi
  ·have hLo:¬LetsOut Q:=fun ⟨a,w,q⟩=>HR a w q;simp only[YD,Aq2,Zzm,cond_true] at hk;cases hb:SV C P ops<;>rw[hb] at hk
   ·obtain⟨J8,E9⟩:=Az (show As _ _=some r from hk);exact wpIn_region_any hm (Xp hLo ho _ _ _ _ (BF h Ks Dl hm J8 E9 hn))
   ·exact wpIn_region_any hm (Xp hLo ho _ _ _ _ (X4 h Ks Dl hm hb hk hn))
 |seq c1 c2 ih1 ih2=>
  intro ho ln lx lr kn kx kr β s a w Q HR h hk hn hx hr;unfold okR at ho;rw[G8] at ho;unfold Pm at hk
  refine wpIn_seq (ih1 ho.1 (fun a w=>HR a w) h hk (fun s' a' w' β' J6 h'=>by
    cases hc:Ak7 P c1 c2
    ·rw[hc] at J6;exact ih2 ho.2 HR h' J6 hn hx hr
    ·rw[hc] at J6;cases hq:LZ c1 c2
     ·rw[hq] at J6;obtain⟨β1,s1,E9,h1⟩:=Ck h' (show Ke _ _ _ _=some r from J6);exact ih2 ho.2 HR h1 (EQ E9) hn hx hr
     ·rw[hq] at J6;obtain⟨β1,s1,E9,h1⟩:=QF h' (show Ahd _ _ _ _=some r from J6);exact ih2 ho.2 HR h1 (EQ E9) hn hx hr) (fun id s' a' w' β' J6 h'=>hx id s' a' w' β' J6 h') (fun s' a' w' β' J6 h'=>hr s' a' w' β' J6 h'))
 |cond c c1 c2 ih1 ih2=>
  intro ho ln lx lr kn kx kr β s a w Q HR h hk hn hx hr;unfold okR at ho;rw[G8] at ho;unfold Pm at hk;rcases PN h hk with⟨hc,E9⟩|⟨hc,E9⟩
  ·exact wpIn_cond_true hc (ih1 ho.1 HR h E9 hn hx hr)
  ·exact wpIn_cond_false hc (ih2 ho.2 HR h E9 hn hx hr)
 |block id c ih=>
  intro ho ln lx lr kn kx kr β s a w Q HR h hk hn hx hr;unfold okR at ho;unfold Pm at hk;refine wpIn_block (ih ho (fun a w=>HR a w) h hk (fun s' a' w' β' J6 h'=>hn s' a' w' β' J6 h') (fun j s' a' w' β' J6 h'=>?_) (fun s' a' w' β' J6 h'=>hr s' a' w' β' J6 h'));show (if j=id then _ else _);by_cases e:j=id
  ·subst e;rw[Bq rfl];rw[Pu] at J6;exact hn s' a' w' β' J6 h'
  ·rw[A5 e]
   have:Nat.beq j id=false:=by
    cases hb:Nat.beq j id
    ·rfl
    ·exact absurd (Et hb) e
   rw[this] at J6;exact hx j s' a' w' β' J6 h'
 |loop c ih=>
  intro ho ln lx lr kn kx kr β s a w Q HR h hk hn hx hr;unfold okR at ho;unfold Pm at hk;obtain⟨β1,s1,E9,h1⟩:=Ck h hk;refine wpIn_loop_rounds fu (QG (fun h hk=>Ck h hk) (fun h hk hQ=>?_) fu h1 E9);exact ih ho (fun a w=>HR a w) h hk hQ (fun id s' a' w' β' J6 h'=>hx id s' a' w' β' J6 h') (fun s' a' w' β' J6 h'=>hr s' a' w' β' J6 h')
 |«exit» id=>intro _ ln lx lr kn kx kr β s a w Q HR h hk hn hx hr;exact wpIn_exit (hx id s a w β hk h)
 |ret=>intro _ ln lx lr kn kx kr β s a w Q HR h hk hn hx hr;exact wpIn_ret (hr s a w β hk h)
 |_=>intro ho;cases ho
end
end
section
open Go Go.RowKit
theorem Tf:∀(l:List (Nat × PV)) (i:Nat),lk l i=.top\/∃q∈l,q.1=i/\lk l i=q.2
 |[],_=>.inl rfl
 |(j,p)::l,i=>by
  by_cases e:i=j
  ·subst e;refine .inr ⟨(i,p),by simp,rfl,?_⟩;simp[lk,Pu]
  ·have hb:Nat.beq i j=false:=by
    cases h:Nat.beq i j
    ·rfl
    ·exact absurd (Et h) e
   have J8:Nat.beq j i=false:=by
    cases h:Nat.beq j i
    ·rfl
    ·exact absurd (Et h).symm e
   have h1:lk ((j,p)::l) i=lk l i:=by simp[lk,hb,J8]
   rw[h1];rcases Tf l i with h|⟨q,hq,h2,h3⟩
   ·exact .inl h
   ·exact .inr ⟨q,Sh _ hq,h2,h3⟩
theorem Vf:∀(l:List (Nat × Cb)) (i:Nat),B0 l i=none\/∃q∈l,q.1=i/\B0 l i=some q.2
 |[],_=>.inl rfl
 |(j,p)::l,i=>by
  by_cases e:i=j
  ·subst e;refine .inr ⟨(i,p),by simp,rfl,?_⟩;simp[B0,Pu]
  ·have hb:Nat.beq i j=false:=by
    cases h:Nat.beq i j
    ·rfl
    ·exact absurd (Et h) e
   have J8:Nat.beq j i=false:=by
    cases h:Nat.beq j i
    ·rfl
    ·exact absurd (Et h).symm e
   have h1:B0 ((j,p)::l) i=B0 l i:=by simp[B0,hb,J8]
   rw[h1];rcases Vf l i with h|⟨q,hq,h2,h3⟩
   ·exact .inl h
   ·exact .inr ⟨q,Sh _ hq,h2,h3⟩
theorem Aah{P:Program}{a:Act}{w:World}{o:Oper}{c:Call}{t l:Nat}(ho:o.op=.call c)(hc:c.callee=.value (.tmp t))(ht:a.eval (.tmp t)=.func (.yield l) #[] #[]){r:Result Next}(hy:(Instr.yield l (c.args.map a.eval)).run P w=r):
  (execOp a.eval o).run P w=r:=by
 unfold execOp;rw[ho];simp[resolve,hc,ht,Deferred.ofValue,invoke,hy]
section
variable {P:Program}{C:Kk}{N:Nat}{call:Bp}{w0:World}{X0:Gn}{Y:Nat->Prop}{R:Type}{r:R}{β:Bt}{s:St}{a:Act}{w:World}{o:Oper}{ops:Array Oper}{K:St->Option R}{ro:Option Nat}{n:Nat}
theorem Cj.part(h:Cj N w0 X0 Y β s a w)(tm':Nat->PV)(Di:Nat->Option Cb)(ht:∀i,tm' i=.top\/tm' i=s.tm i)(hh:∀id,Di id=none\/Di id=s.hp id)(hw:∀i,i<N->∀id∈Cn (tm' i),Di id≠none)(hwB:∀id cells,Di id=some (.st cells)->∀c∈cells,∀id'∈A9 c,Di id'≠none)(DX:∀i,X0.pn i->Di (Ec N i)≠none):Cj N w0 X0 Y β ⟨tm',Di⟩ a w:=by
 have hX:∀b,GY Di β b->GY s.hp β b:=by
  rintro b ⟨id,o,h1,h2⟩
  rcases hh id with e|e
  ·rw[e] at h1;exact h1.elim
  ·rw[e] at h1;exact⟨id,o,h1,h2⟩
 have hA:∀b,D2 Di β Y b->D2 s.hp β Y b:=fun b hb=>hb.elim (fun x=>.inl (hX b x)) .inr
 have hs:∀{id bx},Di id=some bx->s.hp id=some bx:=by
  intro id bx e;rcases hh id with e'|e'
  ·rw[e'] at e;cases e
  ·rw[<-e'];exact e
 have hn:∀{id},Di id≠none->s.hp id≠none:=by
  intro id e;rcases hh id with e'|e'
  ·exact absurd e' e
  ·rw[<-e'];exact e
 have hl:∀{id},C8 (Di id)->C8 (s.hp id):=by
  intro id e;rcases hh id with e'|e'
  ·rw[e'] at e;exact e.elim
  ·rw[<-e'];exact e
 have Hc:C6 (D2 s.hp β Y) w w:=⟨C9 _,fun _ _ _=>rfl,fun _ _=>C9 _⟩
 refine⟨h.dfr,h.tsz,fun i hi=>?_,fun i hi=>?_,fun id bx Pr=>?_,fun id id' b o o' h1 h2=>h.inj id id' b o o' (hl h1) (hl h2),fun id b o h1 h2=>h.blt id b o (hn h1) h2,hw,hwB,fun b hb=>h.ownd b (hX b hb),fun id bx b o h1 h2 h3 h4=>h.rngB id bx b o (hs h1) h2 h3 h4,
  fun i hi=>⟨DX i hi,(h.pin i hi).2⟩,fun id c b o h1=>h.stp id c b o (hs h1),fun b hy hx=>h.Yx b hy (hX b hx),h.Ylt,h.fr⟩
 ·rcases ht i with e|e
  ·exact e
  ·exact e.trans (h.tmo i hi)
 ·show Fc w (D2 Di β Y) β (tm' i) _;rcases ht i with e|e
  ·rw[e];exact Bd.top _
  ·rw[e];exact (h.tms i hi).step Hc (fun b _=>hA b) fun _ _=>rfl
 ·have h0:=h.box id bx (hs Pr);exact h0.step' hA
theorem Cj.pick(h:Cj N w0 X0 Y β s a w)(l:List (Nat × PV))(bl:List (Nat × Cb))(hl:∀q∈l,q.2=s.tm q.1)(hb:∀q∈bl,some q.2=s.hp q.1)(hw:∀q∈l,∀id∈Cn q.2,B0 bl id≠none)(hwB:∀q∈bl,∀cells,q.2=.st cells->∀c∈cells,∀id'∈A9 c,B0 bl id'≠none)(DX:∀i,X0.pn i->B0 bl (Ec N i)≠none):Cj N w0 X0 Y β ⟨lk l,B0 bl⟩ a w:=by
 refine h.part (lk l) (B0 bl) (fun i=>?_) (fun id=>?_) (fun i _ id B5=>?_) (fun id cells e=>?_) DX
 ·rcases Tf l i with e|⟨q,hq,h1,h2⟩
  ·exact .inl e
  ·exact .inr (by rw[h2,hl q hq,h1])
 ·rcases Vf bl id with e|⟨q,hq,h1,h2⟩
  ·exact .inl e
  ·exact .inr (by rw[h2,hb q hq,h1])
 ·rcases Tf l i with e|⟨q,hq,h1,h2⟩
  ·rw[e] at B5;simp[Cn,C3,A9] at B5
  ·rw[h2] at B5;exact hw q hq id B5
 ·rcases Vf bl id with e'|⟨q,hq,h1,h2⟩
  ·rw[e'] at e;cases e
  ·rw[h2] at e;exact hwB q hq cells (by injection e)
theorem Hu{G:Zg}(Ks:QL P G w0 X0)(Dl:∀f args res,call f args=some res->Do G P f args res){Q:Exit->Act->World->Prop}{rest:Cc}(hQ:∀s' a' w' β',K s'=some r->Cj N w0 X0 Y β' s' a' w'->wpOpsIn (WF ro) n P ops Q rest a' w'):
  ∀(li:Cc) (os:List Oper),li.length=os.length->(∀(k i:Nat),li[k]?=some i->ops[i]?=os[k]?)->os.all Aca=true->∀{s:St} {a:Act} {w:World} {β:Bt},Cj N w0 X0 Y β s a w->Mw C P N call ops os s K=some r->wpOpsIn (WF ro) n P ops Q (li++rest) a w
 |[],[],_,_,_,s,a,w,β,h,hk=>hQ s a w β hk h
 |[],_::_,hl,_,_,_,_,_,_,_,_=>by cases hl
 |_::_,[],hl,_,_,_,_,_,_,_,_=>by cases hl
 |i::li,o::os,hl,hi,XJ,s,a,w,β,h,hk=>by
  obtain⟨s1,hk,h⟩:=Zv h hk;rw[List.all_cons,G8] at XJ;have hio:ops[i]?=some o:=by simpa using hi 0 i rfl
  obtain⟨s',hs',hn⟩:=QR (ro:=ro) (n:=n) h Ks Dl XJ.1 hk;rw[Zzp];unfold wpOpsIn;rw[hio];exact hn _ _ fun a' w' β' h'=>Hu Ks Dl hQ li os (by simpa using hl) (fun k j hj=>by simpa using hi (k+1) j (by simpa using hj)) XJ.2 h' hs'
end
end
section
open Go Go.RowKit
abbrev V3(ds:List Deferred)(a:Act):Act:={ a with defers:=a.defers++ds }
def TD(ds:List Deferred)(Q:Exit->Act->World->Prop):Exit->Act->World->Prop:=fun e a w=>∃a0:Act,a=V3 ds a0/\Q e a0 w
section
variable {P:Program}{ops:Array Oper}{Q:Exit->Act->World->Prop}{ro:Option Nat}{n:Nat}{ds:List Deferred}
theorem Vd(a:Act)(d:Option Tmp)(v:Value):(V3 ds a).put d v=V3 ds (a.put d v):=by cases d<;>rfl
theorem Ats(h:LetsOut Q):LetsOut (TD ds Q):=let ⟨a,w,q⟩:=h;⟨_,w,a,rfl,q⟩
theorem Anq{o:Oper}{a:Act}{w:World}{K K':Act->World->Prop}(hK:∀a w,K a w->K' (V3 ds a) w)(h:o.wpIn (WF ro) n P a w K Q):o.wpIn (WF ro) n P (V3 ds a) w K' (TD ds Q):=by
 refine⟨fun _ _=>trivial,?_⟩;have h:=h.2;show o.uponIn _ _ _ _ _ _ ((o.semAt (WF ro).round a.eval).run P w);generalize (o.semAt (WF ro).round a.eval).run P w=q at h;cases q with
 |halt x w'=>cases x<;>first|exact⟨a,rfl,h⟩|exact h.elim
 |ok v w'=>
  cases v with
  |value v=>show K' ((V3 ds a).put o.dst v) w';rw[Vd];exact hK _ _ h
  |skip=>show K' ((V3 ds a).put o.dst undef) w';rw[Vd];exact hK _ _ h
  |defer d=>
   show K' (({ (V3 ds a) with defers:=d::(V3 ds a).defers }:Act).put o.dst undef) w';rw[show ({ (V3 ds a) with defers:=d::(V3 ds a).defers }:Act)=V3 ds { a with defers:=d::a.defers } from rfl,Vd];exact hK _ _ h
  |enter f args=>
   refine⟨h.1,h.2.mono ?_⟩;intro e w'' he;cases e with
   |returned v=>show K' ((V3 ds a).put o.dst v) w'';rw[Vd];exact hK _ _ he
   |panicked c=>exact⟨a,rfl,he⟩
   |outgrown=>exact Ats he
  |row row args=>
   refine⟨h.1,h.2.mono ?_⟩;intro v w'' he;show K' ((V3 ds a).put o.dst v) w'';rw[Vd];exact hK _ _ he
  |round l f tmps assign body=>
   refine⟨h.1,h.2.mono ?_⟩;intro e w'' he;cases e with
   |returned v=>show K' ((V3 ds a).put o.dst v) w'';rw[Vd];exact hK _ _ he
   |panicked c=>exact⟨a,rfl,he⟩
   |outgrown=>exact Ats he
  |_=>exact h.elim
theorem Zl:∀(li:Cc){a:Act}{w:World},wpOpsIn (WF ro) n P ops Q li a w->wpOpsIn (WF ro) n P ops (TD ds Q) li (V3 ds a) w
 |[],a,w,h=>⟨a,rfl,h⟩
 |i::li,a,w,h=>by
  rw[wpOpsIn_cons] at h ⊢;unfold wpOpIn at h ⊢;cases ho:ops[i]? with
  |none=>rw[ho] at h;exact Zl li h
  |some o=>
   rw[ho] at h;simp only at h ⊢;by_cases hw:Region.wanted o (yielded ops a.tmps)=true
   ·rw[Bq hw] at h ⊢;exact Anq (fun a w=>Zl li) h
   ·rw[A5 hw] at h ⊢;refine⟨fun _ _=>trivial,?_⟩;rw[Vd];exact Zl li h.2
end
structure Aj0(w w':World):Prop where
 os:w'.os=w.os
 tape:w'.tape=w.tape
 output:w'.output=w.output
 size:w'.heap.size=w.heap.size
 cell:∀a,w'.cell? a=w.cell? a
 frz:∀a,w'.frozen? a=w.frozen? a
 bs:∀b,bsz w' b=bsz w b
theorem Bd.same{w w':World}{A:Nat->Prop}(h:Aj0 w w'){p:PV}{v:Value}(t:Bd w A p v):Bd w' A p v:=by
 induction t with
 |sc v=>exact .sc v
 |top v=>exact .top v
 |ub b=>exact .ub b
 |lnil z es=>exact .lnil z es
 |lemp es a cap=>exact .lemp es a cap
 |lst es n cells a cap f hs hb hA1 hn hc h1 hr ih=>exact .lst es n cells a cap f hs (by rw[h.size];exact hb) hA1 hn (fun j c hj=>by rw[h.cell];exact hc j c hj) h1 (fun j c hj=>ih j c hj)
theorem YO.same{w w':World}{A:Nat->Prop}(h:Aj0 w w'){a:Addr}{c:Ab}(t:YO w A a c):YO w' A a c:=fun j x hj=>by
 obtain⟨v,h1,h2,h3⟩:=t j x hj;exact⟨v,by rw[h.cell];exact h1,h2,h3.same h⟩
theorem Cx.same{w w':World}{A:Nat->Prop}{β:Nat->Option (Nat × Nat)}(h:Aj0 w w'){p:PV}{v:Value}(t:Cx w A β p v):Cx w' A β p v:=by
 cases p with
 |view id es off n=>
  rcases t with t|⟨b,o,x,cap,h1,h2,hx,h3,h4,h5⟩
  ·exact .inl t
  ·exact .inr ⟨b,o,x,cap,h1,h2,hx,h3,by rw[h.bs];exact h4,by rw[h.size];exact h5⟩
 |ptr id off=>exact t
 |iptr c off=>
  obtain⟨a,h1,h2,h3,h4,h5⟩:=t;exact⟨a,h1,h2,by rw[h.size];exact h3,h4,h5.same h⟩
 |_=>exact Bd.same h t
theorem B9.imp'{α β:Type}{R S:α->β->Prop}{zs:List α}{bs:List β}(h:B9 R zs bs)(f:∀a b,R a b->S a b):B9 S zs bs:=h.mono f
theorem Jb.same{w w':World}{A:Nat->Prop}{β:Nat->Option (Nat × Nat)}(h:Aj0 w w'){p:PV}{v:Value}(t:Jb w A β p v):Jb w' A β p v:=by
 cases p with
 |agg cs=>obtain⟨vs,h1,h2⟩:=t;exact⟨vs,h1,h2.imp' fun _ _=>Cx.same h⟩
 |_=>exact (AN (by intro cs e;cases e)).2 (Cx.same h ((AN (by intro cs e;cases e)).1 t))
theorem Fc.same{w w':World}{A:Nat->Prop}{β:Nat->Option (Nat × Nat)}(h:Aj0 w w'){p:PV}{v:Value}(t:Fc w A β p v):Fc w' A β p v:=by
 cases p with
 |tup cs=>obtain⟨vs,h1,h2⟩:=t;exact⟨vs,h1,h2.imp' fun _ _=>Jb.same h⟩
 |_=>exact (Tt (by intro cs e;cases e)).2 (Jb.same h ((Tt (by intro cs e;cases e)).1 t))
theorem Cj.same{N:Nat}{w0 w w':World}{X0:Gn}{Y:Nat->Prop}{β:Bt}{s:St}{a:Act}(h:Cj N w0 X0 Y β s a w)(hs:Aj0 w w')(h0:∀b,b<w0.heap.size->w'.heap[b]?=w.heap[b]?):Cj N w0 X0 Y β s a w':=by
 refine⟨h.dfr,h.tsz,h.tmo,fun i hi=>(h.tms i hi).same hs,fun id bx e=>?_,h.inj,fun id b o h1 h2=>by rw[hs.size];exact h.blt id b o h1 h2,h.wfT,h.wfB,h.ownd,h.rngB,h.pin,h.stp,h.Yx,h.Ylt,
  ⟨hs.os.trans h.fr.os,hs.tape.trans h.fr.tape,hs.output.trans h.fr.output,⟨by rw[hs.size];exact h.fr.step.size,fun b hb hn=>(h0 b hb).trans (h.fr.step.keep b hb hn),fun b hb=>by rw[hs.bs];exact h.fr.step.bs b hb⟩,fun b j hb hn=>by rw[hs.cell,hs.frz];exact h.fr.rng b j hb hn⟩⟩
 have h1:=h.box id bx e;cases bx with
 |st c=>
  obtain⟨b,o,g1,g2,g3⟩:=h1;refine⟨b,o,g1,fun j c hj=>?_,fun j hj=>by rw[hs.frz];exact g3 j hj⟩
  obtain⟨v,k1,k2⟩:=g2 j c hj;exact⟨v,by rw[hs.cell];exact k1,k2.same hs⟩
 |ar fz c=>
  rcases h1 with h1|⟨b,o,g1,g2,g3,g4⟩
  ·exact .inl h1
  ·exact .inr ⟨b,o,g1,g2.same hs,fun hf j hj hjb=>by rw[hs.frz];exact g3 hf j hj (by rw[<-hs.bs];exact hjb),g4⟩
 |mv=>trivial
theorem QJ{w:World}{D:Nat}{x y:Option (List Deferred)}(h:w.heap[D]?=some (.deferred x)):Aj0 w (w.putObj D (.deferred y)):=by
 have hD:D<w.heap.size:=(Array.getElem?_eq_some_iff.1 h).1;have hs:(w.putObj D (.deferred y)).heap[D]?=some (.deferred y):=World.putObj_heap_same hD;refine⟨rfl,rfl,rfl,by simp,fun a=>?_,fun a=>?_,fun b=>?_⟩
 ·by_cases e:a.block=D
  ·unfold World.cell?;rw[e,hs,h]
  ·exact World.cell?_of_block (World.putObj_heap_other e)
 ·by_cases e:a.block=D
  ·unfold World.frozen?;rw[e,hs,h]
  ·unfold World.frozen?;rw[World.putObj_heap_other e]
 ·by_cases e:b=D
  ·subst e;unfold bsz;rw[hs,h]
  ·unfold bsz;rw[World.putObj_heap_other e]
end
section
variable {xs:FuncId->Option (Ab->Option D0)}(fu d:Nat)(call:Bp)
theorem DC(Z:Int):Fn C0 fu d 54 [Z] fun call=>A3 (decide (Z>=0)) (Bv [.sc (.bool (decide (Z<=4)))]) (Bv [.sc (.bool false)]):=by show _=_;kernel_rfl
def Iz(Z:Int)(Y:Nat)(X:Int)(W:Nat)(V U:Int)(T:Ab):Option D0:=Mg fu call 100 Tryz.f100 [Af Z] [.r,.r,.r,.l,.r,.l] Y ⟨lk [(0,Af X),(3,.view 3 1 0 W),(4,V),(5,U)],B0 [(3,.ar false T)]⟩
theorem Ph(U:Int)(T:Nat)(V:Int)(Z:Nat)(Y X:Int)(W:Ab):Iz fu call U (T+1) V Z Y X W=(A3 (decide (X>=0)) (Aa (wrap .i64 (4*X)) fun a=>Aa (wrap .u64 a) fun a=>As (decide (0<=a))<|Aa (F2 .u64 V a) fun a=>Aa (Qg .u64 a 15) fun a=>Aa (wrap .i64 a) fun a=>Og Z 1 8 W [a] fun b c=>Aa (wrap .i64 (15-a)) fun a=>Aa (wrap .i64 (Y+a)) fun a=>Aa (wrap .i64 (X-1)) fun e=>Iz fu call U T V b a e c) (Aa (wrap .i64 (Int.tdiv Y 16)) fun a=>Aa (Int.tmod Y 16) fun b=>As (decide (Z*1<=W.length)&&true&&decide ((Z+2)*8<=1099511627776)&&decide (Z+2<=1099511627776))<|Aa (Z+2) fun c=>Aa (List.take (Z*1) W++[At a,At b]) fun a=>As (decide (c*1<=a.length))<|Bv [.own 1 c (a.take (c*1))])):=by kernel_rfl
theorem FZ(Z:Int):Fn C0 fu d 100 [Af Z] fun call=>Iz fu call Z fu Z 0 0 15 ([]):=by show _=_;kernel_rfl
def J5(Z Y:Int)(X W V:Int)(U:Nat)(T S:Int)(Q P O:Int):Option D0:=Mg fu call 101 Tryz.f101 [Z,Y,X,W,Af V] [.r,.l,.r,.l] U ⟨lk [(0,T),(1,S),(3,Q),(4,Af P),(11,O)],B0 []⟩
theorem R8(U T:Int)(S Q P:Int)(O:Nat)(X W:Int)(Z V Y:Int):J5 fu call U T S Q P (O+1) X W Z V Y=(Aa (if 15<Z then 15 else Z) fun a=>A3 (decide (Y<a)) (Aa (wrap .u64 X) fun a=>Aa (wrap .u64 W) fun b=>Aa (wrap .u64 Y) fun c=>Dm (call 79 [Ap 1 4 [Af a,Af b,Af c,Af V]]) fun a b=>Je 1 a fun a c=>Aq b<|As (decide (0+a*1<=c.length))<|Na .u64 (call 33 [(1:Int),Ap 1 a (List.take (a*1) (c.drop 0))]) fun a=>Aa (wrap .i64 (Y+1)) fun b=>J5 fu call U T S Q P O X W Z a b) (Bv [Af V])):=by kernel_rfl
theorem JR(Y X:Int)(Z W V:Int):Fn C0 fu d 101 [Y,X,Z,W,Af V] fun call=>Aa (if Z<0 then 0 else Z) fun a=>J5 fu call Y X Z W V fu Y X W V a:=by show _=_;kernel_rfl
theorem DF(Z Y X:Int):Fn C0 fu d 102 [Af Z,Y,X] fun call=>Aa (wrap .u64 Y) fun a=>Aa (wrap .u64 X) fun b=>Dm (call 79 [Ap 1 2 [Af a,Af b]]) fun a b=>Je 1 a fun a c=>Aq b<|As (decide (0+a*1<=c.length))<|Na .u64 (call 85 [Af Z,(1:Int),Ap 1 a (List.take (a*1) (c.drop 0))]) fun a=>Bv [Af a]:=by show _=_;kernel_rfl
theorem IR(Z:Int)(Y:Nat)(X:Ab):Fn C0 fu d 116 [Z,Ap 1 Y X] fun call=>Aa (wrap .u64 Z) fun a=>Dm (call 79 [Ap 1 1 [Af a]]) fun a b=>Je 1 a fun a c=>Aq b<|Dm (call 79 [Ap 1 Y X]) fun b e=>Je 1 b fun b f=>Aq e<|As (decide (0+b*1<=f.length))<|As (decide (a*1<=c.length)&&decide (List.length (List.take (b*1) (f.drop 0))=b*1)&&decide ((a+b)*1<=1099511627776)&&decide (a+b<=1099511627776))<|Aa (a+b) fun e=>Aa (List.take (a*1) c++List.take (b*1) (f.drop 0)) fun a=>As (decide (0+e*1<=a.length))<|Na .u64 (call 33 [(2:Int),Ap 1 e (List.take (e*1) (a.drop 0))]) fun a=>Bv [Af a]:=by show _=_;kernel_rfl
def I7(Z Y:Int)(X:Nat)(W V:Int)(U:Nat)(T:Int)(S:Ab):Option D0:=Mg fu call 94 Tryz.f94 [Af Z,Y] [.r,.r,.l,.r,.l] X ⟨lk [(0,Af W),(1,V),(5,.view 5 1 0 U),(6,T)],B0 [(5,.ar false S)]⟩
theorem P6(U T:Int)(S:Nat)(V Z:Int)(Y:Nat)(X:Int)(W:Ab):I7 fu call U T (S+1) V Z Y X W=(A3 (decide (X<18)) (Na .u64 (call 102 [Af V,Z,X]) fun a=>Na .u64 (call 101 [Z,X,(0:Int),(15:Int),Af a]) fun a=>Og Y 1 8 W [Af a] fun a b=>Aa (wrap .i64 (X+1)) fun c=>I7 fu call U T S V Z a c b) (As (decide (0+Y*1<=W.length))<|Na .u64 (call 116 [Z,Ap 1 Y (List.take (Y*1) (W.drop 0))]) fun a=>Bv [Af a])):=by kernel_rfl
theorem HD(Z Y:Int):Fn C0 fu d 94 [Af Z,Y] fun call=>I7 fu call Z Y fu Z Y 0 0 ([]):=by show _=_;kernel_rfl
def G9(Z Y X:Int)(W:Nat)(V U:Int)(T S:Nat)(Q:Int)(P O:Ab):Option D0:=Mg fu call 60 Tryz.f60 [Af Z,Y,Af X] [.r,.r,.r,.l,.r,.l] W ⟨lk [(0,Af V),(1,U),(7,.view 7 1 0 T),(8,.view 8 1 0 S),(9,Q)],B0 [(7,.ar false P),(8,.ar false O)]⟩
theorem Mk(S Q P:Int)(O:Nat)(V X:Int)(U Y:Nat)(Z:Int)(T W:Ab):G9 fu call S Q P (O+1) V X U Y Z T W=(A3 (decide (Z<18)) (As (decide (0<=Z)&&decide (Z<(↑U:Int)))<|Be .i64 (T.getD (0+Z.toNat*1) .top) fun a=>Na .u64 (call 102 [Af V,X,Z]) fun b=>Na .u64 (call 101 [X,Z,(0:Int),a,Af b]) fun a=>Og Y 1 8 W [Af a] fun a b=>Aa (wrap .i64 (Z+1)) fun c=>G9 fu call S Q P O V X U a c T b) (As (decide (Y*1<=W.length))<|Bv [.own 1 Y (W.take (Y*1))])):=by kernel_rfl
theorem Zt(Z Y X:Int):Fn C0 fu d 60 [Af Z,Y,Af X] fun call=>Dm (call 100 [Af X]) fun a b=>Je 1 a fun a c=>Aq b<|G9 fu call Z Y X fu Z Y a 0 0 c ([]):=by show _=_;kernel_rfl
theorem CD(Z Y X:Int):Fn C0 fu d 78 [Z,Af Y,Af X] fun call=>Aa (wrap .u64 Z) fun a=>Dm (call 79 [Ap 1 3 [Af a,Af Y,Af X]]) fun a b=>Je 1 a fun a c=>Aq b<|As (decide (0+a*1<=c.length))<|Na .u64 (call 33 [(3:Int),Ap 1 a (List.take (a*1) (c.drop 0))]) fun a=>Bv [Af a]:=by show _=_;kernel_rfl
theorem U5(Y Z X:Int):Fn C0 fu d 55 [Af Y,Z,X] fun call=>A3 (Z==0) (Na .u64 (call 94 [Af Y,X]) fun a=>Bv [Af a]) (Aa (wrap .i64 (Z-1)) fun a=>Aa (wrap .i64 (2*X)) fun b=>Na .u64 (call 55 [Af Y,a,b]) fun a=>Aa (wrap .i64 (Z-1)) fun b=>Aa (wrap .i64 (2*X)) fun c=>Aa (wrap .i64 (c+1)) fun c=>Na .u64 (call 55 [Af Y,b,c]) fun b=>Na .u64 (call 78 [Z,Af a,Af b]) fun a=>Bv [Af a]):=by show _=_;kernel_rfl
theorem DI(Y Z:Int):Fn C0 fu d 30 [Af Y,Z] fun call=>Dm (call 54 [Z]) fun a b=>Cg a fun a=>Aq b<|A3 (!a) (Bv [.agg [(0:Int),Af 0],(9:Int)]) (Na .u64 (call 55 [Af Y,Z,(0:Int)]) fun a=>Bv [.agg [Z,Af a],(0:Int)]):=by show _=_;kernel_rfl
def I8(Z Y:Int)(X W:Int)(V:Nat)(U T:Int)(S Q P:Int)(O N:Nat)(M L:Ab)(K:Int)(J I:Nat)(H G:Ab):Option D0:=Mg fu call 32 Tryz.f32 [Af Z,Y,X,Af W] [.r,.r,.r,.l,.r,.l] V ⟨lk [(0,Af U),(1,T),(2,S),(8,.ptr 8 0),(10,.ptr 10 0),(11,Q)],B0 [(8,.st [P,.view 112 1 0 O,.view 164 1 0 N]),(112,.ar false M),(164,.ar false L),(10,.st [K,.view 114 1 0 J,.view 166 1 0 I]),(114,.ar false H),(166,.ar false G)]⟩
theorem P3(P O:Int)(N M:Int)(L:Nat)(U T:Int)(S Z K:Int)(J I:Nat)(H G:Ab)(Q:Int)(Y X:Nat)(W V:Ab):I8 fu call P O N M (L+1) U T S Z K J I H G Q Y X W V=(A3 (decide (Z<T)) (Aa (wrap .u64 Z) fun a=>As (decide (0<=a))<|Aa (F2 .i64 S a) fun a=>Aa (Fi .i64 a 1) fun a=>Na .u64 (call 55 [Af U,Z,a]) fun a=>Og X 1 8 V [Af a] fun a b=>Aa (wrap .i64 (Z+1)) fun c=>I8 fu call P O N M L U T S c K J I H G Q Y a W b) (As (decide (Y*1<=W.length))<|As (decide (X*1<=V.length))<|Bv [.agg [Q,.own 1 Y (W.take (Y*1)),.own 1 X (V.take (X*1))],(0:Int)])):=by kernel_rfl
theorem HY(X Y:Int)(Z W:Int):Fn C0 fu d 32 [Af X,Y,Z,Af W] fun call=>Dm (call 54 [Y]) fun a b=>Cg a fun a=>Aq b<|A3 (!a) (Bv [.agg [(0:Int),.own 1 0 [],.own 1 0 []],(9:Int)]) (A3 (decide (Z<0)) (Bv [.agg [(0:Int),.own 1 0 [],.own 1 0 []],(9:Int)]) (Aa (wrap .u64 Y) fun a=>As (decide (0<=a))<|Aa (Hm .i64 1 a) fun a=>A3 (decide (Z>=a)) (Bv [.agg [(0:Int),.own 1 0 [],.own 1 0 []],(9:Int)]) (Dm (call 60 [Af X,Z,Af W]) fun a b=>Je 1 a fun a c=>Aq b<|I8 fu call X Y Z W fu X Y Z 0 0 0 0 ([]) ([]) Z a 0 c ([])))):=by show _=_;kernel_rfl
theorem Zi(Z Y:Int):Fn C0 fu d 96 [.agg [Z,Af Y]] fun call=>Dm (call 54 [Z]) fun a b=>Cg a fun a=>Aq b<|A3 (!a) (Bv [.own 1 0 [],(9:Int)]) (Aa (wrap .u8 Z) fun a=>Dm (call 79 [Ap 1 1 [Af Y]]) fun b c=>Je 1 b fun b e=>Aq c<|As (decide (0+b*1<=e.length))<|As (decide (List.length (List.take (b*1) (e.drop 0))=b*1)&&decide ((1+b)*1<=1099511627776)&&decide (1+b<=1099511627776))<|Aa (1+b) fun c=>Aa ([.sc (.int .u8 a)]++List.take (b*1) (e.drop 0)) fun a=>As (decide (c*1<=a.length))<|Bv [.own 1 c (a.take (c*1)),(0:Int)]):=by show _=_;kernel_rfl
theorem Yj(Z:Nat)(Y:Ab):Fn C0 fu d 119 [Ap 1 Z Y] fun call=>A3 ((↑Z:Int) != 9) (Bv [.agg [(0:Int),Af 0],(2:Int)]) (As (decide (0<(↑Z:Int)))<|Be .u8 (Y.getD 0 .top) fun a=>Aa (wrap .i64 a) fun a=>Dm (call 54 [a]) fun a b=>Cg a fun a=>Aq b<|A3 (!a) (Bv [.agg [(0:Int),Af 0],(2:Int)]) (As (decide (0<(↑Z:Int)))<|Be .u8 (Y.getD 0 .top) fun a=>Aa (wrap .i64 a) fun a=>As (decide (1<=Z)&&decide (Z<=Z))<|Aa (Z-1) fun b=>Aa (List.take (b*1) (Y.drop 1)) fun c=>Na .u64 (call 120 [Ap 1 b c]) fun b=>Bv [.agg [a,Af b],(0:Int)])):=by show _=_;kernel_rfl
theorem Rr(Y:Int)(X:Nat)(W:Ab)(Z:Nat)(V:Ab):Fn C0 fu d 42 [.agg [Y,Ap 1 X W,Ap 1 Z V]] fun call=>A3 (decide ((↑Z:Int)>4)) (Bv [.own 1 0 [],(9:Int)]) (A3 (decide (Y<0)) (Bv [.own 1 0 [],(9:Int)]) (Aa (wrap .u64 (↑Z:Int)) fun a=>As (decide (0<=a))<|Aa (Hm .i64 1 a) fun a=>A3 (decide (Y>=a)) (Bv [.own 1 0 [],(9:Int)]) (A3 ((↑X:Int) != 18) (Bv [.own 1 0 [],(4:Int)]) (Aa (wrap .u8 Y) fun a=>Aa (wrap .u8 (↑Z:Int)) fun b=>Dm (call 79 [Ap 1 X W]) fun c e=>Je 1 c fun c f=>Aq e<|As (decide (0+c*1<=f.length))<|As (decide (List.length (List.take (c*1) (f.drop 0))=c*1)&&decide ((2+c)*1<=1099511627776)&&decide (2+c<=1099511627776))<|Aa (2+c) fun e=>Aa ([.sc (.int .u8 a),.sc (.int .u8 b)]++List.take (c*1) (f.drop 0)) fun a=>Dm (call 79 [Ap 1 Z V]) fun b c=>Je 1 b fun b f=>Aq c<|As (decide (0+b*1<=f.length))<|As (decide (e*1<=a.length)&&decide (List.length (List.take (b*1) (f.drop 0))=b*1)&&decide ((e+b)*1<=1099511627776)&&decide (e+b<=1099511627776))<|Aa (e+b) fun c=>Aa (List.take (e*1) a++List.take (b*1) (f.drop 0)) fun a=>As (decide (c*1<=a.length))<|Bv [.own 1 c (a.take (c*1)),(0:Int)])))):=by show _=_;kernel_rfl
def Ji(Z:Nat)(Y:Ab)(X W:Nat)(V:Ab)(U:Int)(T S:Nat)(Q P:Ab):Option D0:=Mg fu call 84 Tryz.f84 [Ap 1 Z Y] [.r] X ⟨lk [(0,Ap 1 W V),(2,.ptr 2 0)],B0 [(2,.st [U,.view 162 1 0 T,.view 242 1 0 S]),(162,.ar false Q),(242,.ar false P)]⟩
def Dx(Z:Nat)(Y:Ab)(X W:Nat)(V:Ab)(U T:Int)(S Q:Nat)(P O:Ab)(N:Int)(M L:Nat)(K J:Ab):Option D0:=Mg fu call 84 Tryz.f84 [Ap 1 Z Y] [.r,.r,.r,.l,.r,.l] X ⟨lk [(0,Ap 1 W V),(2,.ptr 2 0),(4,.ptr 4 0),(5,U)],B0 [(2,.st [T,.view 162 1 0 S,.view 242 1 0 Q]),(162,.ar false P),(242,.ar false O),(4,.st [N,.view 164 1 0 M,.view 244 1 0 L]),(164,.ar false K),(244,.ar false J)]⟩
theorem Pk(W:Nat)(V:Ab)(Z:Nat)(Mz:0<Z)(Y:Nat)(X:Ab)(U:Int)(T S:Nat)(Q P:Ab):Ji fu call W V Z Y X U T S Q P=(As (decide (0<(↑Y:Int)))<|Be .u8 (X.getD 0 .top) fun a=>Aa (wrap .i64 a) fun a=>Dx fu call W V fu Y X 0 U T S Q P a 0 0 ([]) ([])):=by cases Z with|zero=>exact absurd Mz (Nat.lt_irrefl 0)|succ Z=>kernel_rfl
theorem Pa(Q:Nat)(P:Ab)(O W:Nat)(V:Ab)(Z N:Int)(M L:Nat)(K J:Ab)(S:Int)(Y X:Nat)(U T:Ab):Dx fu call Q P (O+1) W V Z N M L K J S Y X U T=(As (decide (1<(↑W:Int)))<|Be .u8 (V.getD 1 .top) fun a=>Aa (wrap .i64 a) fun a=>Aa (wrap .i64 (18+a)) fun a=>A3 (decide (Z<a)) (Aa (wrap .i64 (8*Z)) fun a=>Aa (wrap .i64 (2+a)) fun a=>Aa (wrap .i64 (8*Z)) fun b=>Aa (wrap .i64 (10+b)) fun b=>As (decide (0<=a))<|As (decide (0<=b))<|As (decide (a.toNat<=b.toNat)&&decide (b.toNat<=W))<|Aa (b.toNat-a.toNat) fun b=>Aa (List.take (b*1) (V.drop (a.toNat*1))) fun a=>Na .u64 (call 120 [Ap 1 b a]) fun a=>A3 (decide (Z<18)) (Og Y 1 8 U [Af a] fun a b=>Aa (wrap .i64 (Z+1)) fun c=>Dx fu call Q P O W V c N M L K J S a X b T) (Og X 1 8 T [Af a] fun a b=>Aa (wrap .i64 (Z+1)) fun c=>Dx fu call Q P O W V c N M L K J S Y a U b)) (As (decide (Y*1<=U.length))<|As (decide (X*1<=T.length))<|Bv [.agg [S,.own 1 Y (U.take (Y*1)),.own 1 X (T.take (X*1))],(0:Int)])):=by kernel_rfl
theorem R5(Z:Nat)(Y:Ab):Fn C0 fu d 84 [Ap 1 Z Y] fun call=>A3 (decide ((↑Z:Int)<2)) (Bv [.agg [(0:Int),.own 1 0 [],.own 1 0 []],(2:Int)]) (As (decide (1<(↑Z:Int)))<|Be .u8 (Y.getD 1 .top) fun a=>Aa (wrap .i64 a) fun a=>A3 (decide (a>4)) (Bv [.agg [(0:Int),.own 1 0 [],.own 1 0 []],(2:Int)]) (As (decide (0<(↑Z:Int)))<|Be .u8 (Y.getD 0 .top) fun a=>Aa (wrap .i64 a) fun a=>As (decide (1<(↑Z:Int)))<|Be .u8 (Y.getD 1 .top) fun b=>Aa (wrap .u64 b) fun b=>As (decide (0<=b))<|Aa (Hm .i64 1 b) fun b=>A3 (decide (a>=b)) (Bv [.agg [(0:Int),.own 1 0 [],.own 1 0 []],(2:Int)]) (As (decide (1<(↑Z:Int)))<|Be .u8 (Y.getD 1 .top) fun a=>Aa (wrap .i64 a) fun a=>Aa (wrap .i64 (18+a)) fun a=>Aa (wrap .i64 (8*a)) fun a=>Aa (wrap .i64 (2+a)) fun a=>A3 ((↑Z:Int) != a) (Bv [.agg [(0:Int),.own 1 0 [],.own 1 0 []],(2:Int)]) (Ji fu call Z Y fu Z Y 0 0 0 ([]) ([]))))):=by show _=_;kernel_rfl
def Ic(Z Y X:Int)(W:Nat)(V U T:Int)(S:Nat)(Q:Int)(P:Ab):Option D0:=Mg fu call 45 Tryz.f45 [Af Z,Af Y,X] [.r,.r,.r,.l,.r,.l] W ⟨lk [(0,Af V),(1,Af U),(2,T),(7,.view 7 1 0 S),(8,Q)],B0 [(7,.ar false P)]⟩
theorem Jp(T S Q:Int)(P:Nat)(W V Y:Int)(Z:Nat)(U:Int)(X:Ab):Ic fu call T S Q (P+1) W V Y Z U X=(A3 (decide ((↑Z:Int)<Y)) (Aa (wrap .u64 U) fun a=>Dm (call 79 [Ap 1 2 [Af V,Af a]]) fun a b=>Je 1 a fun a c=>Aq b<|As (decide (0+a*1<=c.length))<|Na .u64 (call 85 [Af W,(5:Int),Ap 1 a (List.take (a*1) (c.drop 0))]) fun a=>Dm (call 79 [Ap 1 1 [Af a]]) fun a b=>Je 1 a fun a c=>Aq b<|As (decide (0+a*1<=c.length))<|As (decide (Z*1<=X.length)&&decide (List.length (List.take (a*1) (c.drop 0))=a*1)&&decide ((Z+a)*1<=1099511627776)&&decide (Z+a<=1099511627776))<|Aa (Z+a) fun b=>Aa (List.take (Z*1) X++List.take (a*1) (c.drop 0)) fun a=>Aa (wrap .i64 (U+1)) fun c=>Ic fu call T S Q P W V Y b c a) (As (decide (0<=Y))<|As (decide (Y.toNat<=Z))<|Aa (Y.toNat-0) fun a=>As (decide (a*1<=X.length))<|Bv [.own 1 a (X.take (a*1))])):=by kernel_rfl
theorem DJ(Y X Z:Int):Fn C0 fu d 45 [Af Y,Af X,Z] fun call=>Aa (if Z<0 then 0 else Z) fun a=>Aa (if 1024<a then 1024 else a) fun a=>Ic fu call Y X Z fu Y X a 0 0 ([]):=by show _=_;kernel_rfl
def Gt(Z:Nat)(Y:Ab)(X:Nat)(W:Ab)(V U:Nat)(T:Ab)(S:Nat)(Q:Ab)(P:Int):Option D0:=Mg fu call 74 Tryz.f74 [Ap 1 Z Y,Ap 1 X W] [.r,.r,.l,.r,.l] V ⟨lk [(0,Ap 1 U T),(1,Ap 1 S Q),(5,P)],B0 []⟩
theorem Lf(U:Nat)(T:Ab)(S:Nat)(Q:Ab)(P Y:Nat)(X:Ab)(W:Nat)(V:Ab)(Z:Int):Gt fu call U T S Q (P+1) Y X W V Z=(A3 (decide (Z<(↑Y:Int))) (As (decide (0<=Z)&&decide (Z<(↑Y:Int)))<|Be .u64 (X.getD (Z.toNat*1) .top) fun a=>As (decide (0<=Z)&&decide (Z<(↑W:Int)))<|Be .u64 (V.getD (Z.toNat*1) .top) fun b=>A3 (a != b) (Bv [.sc (.bool false)]) (Aa (wrap .i64 (Z+1)) fun a=>Gt fu call U T S Q P Y X W V a)) (Bv [.sc (.bool true)])):=by kernel_rfl
theorem Xv(Z:Nat)(X:Ab)(Y:Nat)(W:Ab):Fn C0 fu d 74 [Ap 1 Z X,Ap 1 Y W] fun call=>A3 ((↑Z:Int) != (↑Y:Int)) (Bv [.sc (.bool false)]) (Gt fu call Z X Y W fu Z X Y W 0):=by show _=_;kernel_rfl
theorem Te(Z:Int)(Y:Nat)(X:Ab)(W:Nat)(V:Ab)(U:Int)(T:Nat)(S:Ab)(Q:Nat)(P:Ab):Fn C0 fu d 39 [.agg [Z,Ap 1 Y X,Ap 1 W V],.agg [U,Ap 1 T S,Ap 1 Q P]] fun call=>A3 (Z==U) (Dm (call 74 [Ap 1 Y X,Ap 1 T S]) fun a b=>Cg a fun a=>Aq b<|A3 a (Dm (call 74 [Ap 1 W V,Ap 1 Q P]) fun a b=>Cg a fun a=>Aq b<|Bv [.sc (.bool a)]) (Bv [.sc (.bool false)])) (Bv [.sc (.bool false)]):=by show _=_;kernel_rfl
end
theorem Qd{α:Type}(f:Nat->α)(i:Nat):(List.range (i+1)).map f=(List.range i).map f++[f i]:=by rw[List.range_succ,List.map_append];rfl
section
variable {fu d:Nat}
theorem Zy(h:Int):Ar C0 prog fu (d+1) 54 [At h]=some ⟨[.sc (.bool (!D1 h))],[]⟩:=by
 rw[DC];unfold D1;by_cases h0:h<0
 ·simp(disch:=omega)only[B4,B3,h0,decide_true,Bool.true_or,Cv]
 ·have e:decide (h<=4) = !decide (h>4):=by
   by_cases c:h<=4
   ·have:¬h>4:=by omega
    simp[c,this]
   ·have:h>4:=by omega
    simp[c,this]
  simp(disch:=omega)only[B4,B3,h0,decide_false,Bool.false_or,e]
theorem Akc{ws:Ca}(hl:ws.length<=100)(Bn:1000<=fu)(dom:Int):Ar C0 prog fu (d+4) 33 [At dom,.lst false 1 (A4 ws).length (Ac .u8 (A4 ws))]=some ⟨[Af (S4 dom (A4 ws))],[]⟩:=
 Ahl (xs:=Mm) (Uk ws) (by rw[Da];omega) (by omega) (by rw[Da];omega) dom
theorem QE{call:Bp}{a0 m:Int}:∀(k nn:Nat)(i:Nat),i+k=16->k<nn ->
  Iz fu call a0 nn m ((List.range i).map (I5 m)).length (Nm m i) (15-(i:Int)) (Ac .i64 ((List.range i).map (I5 m)))=some ⟨[.own 1 18 (Ac .i64 (dgs m))],[]⟩
 |_,0,_,_,h=>by omega
 |0,nn+1,i,hi,hn=>by
  have e:i=16:=by omega
  subst e;have hs:=N8 m 16
  have wq:wrap .i64 (Int.tdiv (Nm m 16) 16)=Nm m 16 / 16:=by
   rw[Int.tdiv_eq_ediv_of_nonneg (by omega),Ag (by omega) (by omega)]
  have wm:Int.tmod (Nm m 16) 16=Nm m 16 % 16:=Int.tmod_eq_emod_of_nonneg (by omega)
  have e2:Ac .i64 ((List.range 16).map (I5 m))++[PV.sc (.int .i64 (Nm m 16 / 16)),PV.sc (.int .i64 (Nm m 16 % 16))]=Ac .i64 (dgs m):=by
   unfold dgs;rw[Ac,Ac,List.flatMap_append];rfl
  have L:(Ac .i64 (dgs m)).length=18:=by rw[Am,Akw]
  have tk:List.take 18 (Ac .i64 (dgs m))=Ac .i64 (dgs m):=Gv (by omega);have l16:((List.range 16).map (I5 m)).length=16:=by simp
  have L16:=Am .i64 ((List.range 16).map (I5 m));have t16:=Mb .i64 ((List.range 16).map (I5 m));rw[l16] at L16 t16 ⊢;rw[Ph,Ef _ _ _ (by omega)];simp(disch:=omega)only[B4,B3,wq,wm,Df,t16,e2,L16,Nat.reduceAdd,L,tk]
 |k+1,nn+1,i,hi,hn=>by
  have ih:=QE (call:=call) (a0:=a0) (m:=m) k nn (i+1) (by omega) (by omega);have hb:=Wq m i;have hs:=N8 m i;have w1:wrap .i64 (4*(15-(i:Int)))=60-4*(i:Int):=by rw[Ag (by omega) (by omega)];omega
  have w2:wrap .u64 (60-4*(i:Int))=60-4*(i:Int):=Cd (by omega) (by omega);have hd:wrap .i64 (Qg .u64 (F2 .u64 m (60-4*(i:Int))) 15)=I5 m i:=rfl;have w15:wrap .i64 (15-I5 m i)=15-I5 m i:=Ag (by omega) (by omega);have ws:wrap .i64 (Nm m i+(15-I5 m i))=Nm m (i+1):=by rw[Ag (by omega) (by omega)];rfl
  have wi:wrap .i64 (15-(i:Int)-1)=15-((i+1:Nat):Int):=by rw[Ag (by omega) (by omega)];omega
  have L:=Am .i64 ((List.range i).map (I5 m));have l16:((List.range i).map (I5 m)).length=i:=by simp
  rw[Qd,Fw,List.length_singleton,<-Hj] at ih;rw[Ph];simp(disch:=omega)only[B4,B3,w1,w2,hd,w15,ws,wi,Df,Mb,L];exact ih
theorem Aoq(Bn:1000<=fu)(m:Int):Ar C0 prog fu (d+1) 100 [Af m]=some ⟨[.own 1 18 (Ac .i64 (dgs m))],[]⟩:=by rw[FZ];exact QE (fu:=fu) (a0:=m) (m:=m) 16 fu 0 (by omega) (by omega)
theorem Abn{leaf chain:Int}{a0 a1 a2 a3 a4:Int}(Bn:1000<=fu){t:Int}(ht:t<=15):∀(k nn:Nat)(p x:Int),(k:Int)=t-p->0<=p->k<nn ->
  J5 fu (Ar C0 prog fu (d+4)) a0 a1 a2 a3 a4 nn leaf chain t x p=some ⟨[Af (Xb leaf chain k p x)],[]⟩
 |_,0,_,_,_,_,h=>by omega
 |0,nn+1,p,x,hk,hp,hn=>by
  rw[R8];simp only[Jc];rw[A5 (by omega),Ef _ _ _ (by omega)];rfl
 |k+1,nn+1,p,x,hk,hp,hn=>by
  have w:wrap .i64 (p+1)=p+1:=Ag (by omega) (by omega);have wd:Ar C0 prog fu (d+4) 79 [.lst false 1 4 [Af (wrap .u64 leaf),Af (wrap .u64 chain),Af (wrap .u64 p),Af x]]=_:=N5 (xs:=Mm) (ws:=[wrap .u64 leaf,wrap .u64 chain,wrap .u64 p,x]) (by simp) (by omega) (by simp;omega)
  have hs:=Akc (fu:=fu) (d:=d) (ws:=[wrap .u64 leaf,wrap .u64 chain,wrap .u64 p,x]) (by simp) Bn 1;have ih:=Abn (leaf:=leaf) (chain:=chain) (a0:=a0) (a1:=a1) (a2:=a2) (a3:=a3) (a4:=a4) Bn ht k nn (p+1) (S4 1 (A4 [wrap .u64 leaf,wrap .u64 chain,wrap .u64 p,x])) (by omega) (by omega) (by omega);have L:=Am .u8 (A4 [wrap .u64 leaf,wrap .u64 chain,wrap .u64 p,x]);have eR:Xb leaf chain (k+1) p x=Xb leaf chain k (p+1) (S4 1 (A4 [wrap .u64 leaf,wrap .u64 chain,wrap .u64 p,x])):=rfl;rw[eR];generalize A4 [wrap .u64 leaf,wrap .u64 chain,wrap .u64 p,x]=W at wd hs ih L ⊢;have e15:(if (15:Int)<t then 15 else t)=t:=A5 (by omega);rw[R8]
  simp(disch:=omega)only[B4,B3,e15,wd,Df,Cm,Es,Mb,L,hs,w];exact ih
theorem Amk{leaf chain:Int}(Bn:1000<=fu)(k:Nat)(f t x:Int)(hk:(k:Int)=t-f)(h0:0<=f)(h1:t<=15):Ar C0 prog fu (d+5) 101 [At leaf,At chain,At f,At t,Af x]=some ⟨[Af (Xb leaf chain k f x)],[]⟩:=by rw[JR];simp only[Jc];rw[A5 (by omega)];exact Abn Bn h1 k fu f x hk h0 (by omega)
theorem VN(Bn:1000<=fu)(seed leaf chain:Int):Ar C0 prog fu (d+5) 102 [Af seed,At leaf,At chain]=some ⟨[Af (OM seed leaf chain)],[]⟩:=by
 have wd:Ar C0 prog fu (d+4) 79 [.lst false 1 2 [Af (wrap .u64 leaf),Af (wrap .u64 chain)]]=_:=N5 (xs:=Mm) (ws:=[wrap .u64 leaf,wrap .u64 chain]) (by simp) (by omega) (by simp;omega)
 have hs:=Am1 (xs:=Mm) (fu:=fu) (d:=d) (Uk [wrap .u64 leaf,wrap .u64 chain]) (by rw[Da];simp) (by omega) (by rw[Da];simp;omega) seed 1
 have L:=Am .u8 (A4 [wrap .u64 leaf,wrap .u64 chain]);rw[DF];unfold OM;generalize A4 [wrap .u64 leaf,wrap .u64 chain]=W at wd hs L ⊢;simp(disch:=omega)only[B4,B3,wd,Df,Cm,Es,Mb,L,hs]
theorem Ayx(Bn:1000<=fu)(w:Int):Ar C0 prog fu (d+1) 79 [.lst false 1 1 [Af w]]=some ⟨[.own 1 8 (Ac .u8 (Ew w))],[]⟩:=by
 have:=N5 (xs:=Mm) (fu:=fu) (d:=d) (ws:=[w]) (by simp) (by omega) (by simp;omega)
 simp only[A4,Jr,List.flatMap_nil,List.append_nil,G7,Vx,Fb] at this;exact this
theorem Ar3(Bn:1000<=fu)(leaf:Int){E:Ca}(hE:E.length<=50):Ar C0 prog fu (d+5) 116 [At leaf,.lst false 1 E.length (Ac .u64 E)]=some ⟨[Af (GC leaf E)],[]⟩:=by
 have w1:=Ayx (fu:=fu) (d:=d+3) Bn (wrap .u64 leaf);have w2:=N5 (xs:=Mm) (fu:=fu) (d:=d+3) (ws:=E) (by omega) (by omega) (by omega);have hs:=Akc (fu:=fu) (d:=d) (ws:=wrap .u64 leaf::E) (by simp;omega) Bn 2
 have eW:A4 (wrap .u64 leaf::E)=Ew (wrap .u64 leaf)++A4 E:=rfl
 have eC:Ac .u8 (Ew (wrap .u64 leaf))++Ac .u8 (A4 E)=Ac .u8 (A4 (wrap .u64 leaf::E)):=by
  rw[eW,Ac,Ac,Ac,List.flatMap_append]
 have l0:(Ew (wrap .u64 leaf)).length=8:=Fb _;have l1:=Da E;have l2:(A4 (wrap .u64 leaf::E)).length=8+(A4 E).length:=by rw[eW,Fw,l0]
 have L0:=Am .u8 (Ew (wrap .u64 leaf));rw[l0] at L0;have L1:=Am .u8 (A4 E);have L2:=Am .u8 (A4 (wrap .u64 leaf::E));have t8:List.take 8 (Ac .u8 (Ew (wrap .u64 leaf)))=Ac .u8 (Ew (wrap .u64 leaf)):=Gv (by omega);have tW:List.take (8+(A4 E).length) (Ac .u8 (A4 (wrap .u64 leaf::E)))=Ac .u8 (A4 (wrap .u64 leaf::E)):=Gv (by omega);rw[l2] at hs;rw[IR];simp(disch:=omega)only[B4,B3,w1,w2,Df,Cm,Es,Mb,t8,L0,L1,eC,L2,tW,hs];rfl
theorem ST{a0 a1 seed leaf:Int}(Bn:1000<=fu):∀(k nn i:Nat),i+k=18->k<nn ->
  I7 fu (Ar C0 prog fu (d+5)) a0 a1 nn seed leaf ((List.range i).map (FE seed leaf)).length i (Ac .u64 ((List.range i).map (FE seed leaf)))=some ⟨[Af (Lm seed leaf)],[]⟩
 |_,0,_,_,h=>by omega
 |0,nn+1,i,hi,hn=>by
  have e:i=18:=by omega
  subst e;have l18:((List.range 18).map (FE seed leaf)).length=18:=by simp
  have en:=Ar3 (fu:=fu) (d:=d) Bn leaf (E:=(List.range 18).map (FE seed leaf)) (by omega);have L:=Am .u64 ((List.range 18).map (FE seed leaf));rw[P6,Ef _ _ _ (by omega)];simp(disch:=omega)only[B4,B3,Df,Cm,Es,Mb,L,en];rfl
 |k+1,nn+1,i,hi,hn=>by
  have ih:=ST (a0:=a0) (a1:=a1) (seed:=seed) (leaf:=leaf) Bn k nn (i+1) (by omega) (by omega);have sc:=VN (fu:=fu) (d:=d) Bn seed leaf i;have rn:=Amk (fu:=fu) (d:=d) (leaf:=leaf) (chain:=i) Bn 15 0 15 (OM seed leaf i) (by omega) (by omega) (by omega);have w:wrap .i64 ((i:Int)+1)=((i+1:Nat):Int):=by rw[Ag (by omega) (by omega)];omega
  have L:=Am .u64 ((List.range i).map (FE seed leaf));have li:((List.range i).map (FE seed leaf)).length=i:=by simp
  rw[Qd,Fw,List.length_singleton,<-Hj] at ih;rw[P6];simp(disch:=omega)only[B4,B3,sc,rn,Df,Mb,L,w];exact ih
theorem Auo(Bn:1000<=fu)(seed leaf:Int):Ar C0 prog fu (d+6) 94 [Af seed,At leaf]=some ⟨[Af (Lm seed leaf)],[]⟩:=by rw[HD];exact ST (fu:=fu) (d:=d) Bn 18 fu 0 (by omega) (by omega)
theorem A64(m:Int){i:Nat}(h:i<18):(dgs m)[i]?=some (dg m i):=by
 unfold dg;rw[List.getD_eq_getElem?_getD,List.getElem?_eq_getElem (by rw[Akw];omega)]
 rfl
theorem DK{a0 a1 a2 seed leaf m:Int}(Bn:1000<=fu):∀(k nn i:Nat),i+k=18->k<nn ->
  G9 fu (Ar C0 prog fu (d+5)) a0 a1 a2 nn seed leaf 18 ((List.range i).map (DT seed leaf m)).length i (Ac .i64 (dgs m)) (Ac .u64 ((List.range i).map (DT seed leaf m)))=some ⟨[.own 1 18 (Ac .u64 (M8 seed leaf m))],[]⟩
 |_,0,_,_,h=>by omega
 |0,nn+1,i,hi,hn=>by
  have e:i=18:=by omega
  subst e;have l18:((List.range 18).map (DT seed leaf m)).length=18:=by simp
  have L:=Am .u64 ((List.range 18).map (DT seed leaf m));rw[Mk,Ef _ _ _ (by omega)];simp(disch:=omega)only[B4,B3,Df,Mb,L];rw[l18];rfl
 |k+1,nn+1,i,hi,hn=>by
  have ih:=DK (a0:=a0) (a1:=a1) (a2:=a2) (seed:=seed) (leaf:=leaf) (m:=m) Bn k nn (i+1) (by omega) (by omega);have hb:=EW m i;have sc:=VN (fu:=fu) (d:=d) Bn seed leaf i;have rn:=Amk (fu:=fu) (d:=d) (leaf:=leaf) (chain:=i) Bn (dg m i).toNat 0 (dg m i) (OM seed leaf i) (by omega) (by omega) (by omega);have w:wrap .i64 ((i:Int)+1)=((i+1:Nat):Int):=by rw[Ag (by omega) (by omega)];omega
  have L:=Am .u64 ((List.range i).map (DT seed leaf m));have li:((List.range i).map (DT seed leaf m)).length=i:=by simp
  rw[Qd,Fw,List.length_singleton,<-Hj] at ih;rw[Mk];simp(disch:=omega)only[B4,B3,H0,Df,Cm,Vg (A64 m (show i<18 by omega)),sc,rn,Mb,L,w];exact ih
theorem Ac4(Bn:1000<=fu)(seed leaf m:Int):Ar C0 prog fu (d+6) 60 [Af seed,At leaf,Af m]=some ⟨[.own 1 18 (Ac .u64 (M8 seed leaf m))],[]⟩:=by rw[Zt];have sp:=Aoq (fu:=fu) (d:=d+4) Bn m;simp only[B4,B3,sp];exact DK (fu:=fu) (d:=d) Bn 18 fu 0 (by omega) (by omega)
theorem Ai4(Bn:1000<=fu)(level a b:Int):Ar C0 prog fu (d+5) 78 [At level,Af a,Af b]=some ⟨[Af (Q4 level a b)],[]⟩:=by
 have wd:Ar C0 prog fu (d+4) 79 [.lst false 1 3 [Af (wrap .u64 level),Af a,Af b]]=_:=N5 (xs:=Mm) (ws:=[wrap .u64 level,a,b]) (by simp) (by omega) (by simp;omega)
 have hs:=Akc (fu:=fu) (d:=d) (ws:=[wrap .u64 level,a,b]) (by simp) Bn 3;have L:=Am .u8 (A4 [wrap .u64 level,a,b]);rw[CD];unfold Q4;generalize A4 [wrap .u64 level,a,b]=W at wd hs L ⊢;simp(disch:=omega)only[B4,B3,wd,Df,Cm,Es,Mb,L,hs]
theorem JT(Bn:1000<=fu)(seed:Int):∀(l:Nat)(i B:Int),0<=i->i<=B->(2 ^ l:Nat)*(B+1)<=1000000000->l<=20->Ar C0 prog fu (d+7+l) 55 [Af seed,At l,At i]=some ⟨[Af (Cs seed l i)],[]⟩
 |0,i,B,h0,h1,h2,hl=>by
  have lf:=Auo (fu:=fu) (d:=d) Bn seed i;refine (U5 fu (d+6) seed 0 i).trans ?_;simp only[B4,B3,Hn,if_true,lf];rfl
 |l+1,i,B,h0,h1,h2,hl=>by
  have hq:(2 ^ (l+1):Nat)=2 ^ l*2:=Nat.pow_succ _ _;have Ayp:0<2 ^ l:=Nat.pow_pos (by omega);rw[hq] at h2;generalize hQ:2 ^ l=q at h2 Ayp
  have hb:((q*2:Nat):Int)*(B+1)=(q:Int)*(2*B+1+1):=by
   rw[Int.natCast_mul,Int.mul_assoc]
   congr 1
   omega
  rw[hb] at h2
  have hBq:2*B+1+1<=(q:Int)*(2*B+1+1):=by
   have:=Int.mul_le_mul_of_nonneg_right (show (1:Int)<=q by omega) (show (0:Int)<=2*B+1+1 by omega);omega
  have n1:=JT Bn seed l (2*i) (2*B+1) (by omega) (by omega) (by rw[hQ];exact h2) (by omega)
  have n2:=JT Bn seed l (2*i+1) (2*B+1) (by omega) (by omega) (by rw[hQ];exact h2) (by omega)
  have pr:=Ai4 (fu:=fu) (d:=d+2+l) Bn ((l+1:Nat):Int) (Cs seed l (2*i)) (Cs seed l (2*i+1));rw[show d+2+l+5=d+7+l by omega] at pr;have w1:wrap .i64 (((l+1:Nat):Int)-1)=(l:Int):=by rw[Ag (by omega) (by omega)];omega
  have w2:wrap .i64 (2*i)=2*i:=Ag (by omega) (by omega);have w3:wrap .i64 (2*i+1)=2*i+1:=Ag (by omega) (by omega);have ne:¬(((l+1:Nat):Int)=0):=by omega
  refine (U5 fu (d+7+l) seed ((l+1:Nat):Int) i).trans ?_;simp only[B4,B3,Hn,ne,if_false,w1,w2,w3,n1,n2,pr];rfl
end
theorem wu{h:Int}(h0:0<=h)(h4:h<=4):wrap .u64 h=h:=Cd (by omega) (by omega)
theorem Aju{leaf h:Int}(h0:0<=h)(h4:h<=4)(ho:Js leaf h=false):0<=leaf/\leaf<2 ^ h.toNat:=by
 unfold Js at ho;simp only[Bool.or_eq_false_iff,SP] at ho;have:h=0\/h=1\/h=2\/h=3\/h=4:=by omega
 rcases this with rfl|rfl|rfl|rfl|rfl
 ·have e:Hm .i64 1 0=1:=by decide
  rw[e] at ho;exact⟨by omega,by show leaf<1;omega⟩
 ·have e:Hm .i64 1 1=2:=by decide
  rw[e] at ho;exact⟨by omega,by show leaf<2;omega⟩
 ·have e:Hm .i64 1 2=4:=by decide
  rw[e] at ho;exact⟨by omega,by show leaf<4;omega⟩
 ·have e:Hm .i64 1 3=8:=by decide
  rw[e] at ho;exact⟨by omega,by show leaf<8;omega⟩
 ·have e:Hm .i64 1 4=16:=by decide
  rw[e] at ho;exact⟨by omega,by show leaf<16;omega⟩
theorem A3d{h:Int}(h0:0<=h)(h4:h<=4):(2:Int) ^ h.toNat<=16:=by
 have:h=0\/h=1\/h=2\/h=3\/h=4:=by omega
 rcases this with rfl|rfl|rfl|rfl|rfl<;>decide
theorem Aip{leaf:Int}(h0:0<=leaf)(h1:leaf<16){k:Nat}(hk:k<4):0<=H3 leaf k/\H3 leaf k<=15:=by
 have H:∀n:Fin 16,∀k:Fin 4,0<=H3 (n.val:Int) k.val/\H3 (n.val:Int) k.val<=15:=by decide
 obtain⟨n,rfl⟩:=Int.eq_ofNat_of_zero_le h0;exact H ⟨n,by omega⟩ ⟨k,hk⟩
section
variable {fu d:Nat}
theorem WX(Bn:1000<=fu)(seed h:Int):Ar C0 prog fu (d+12) 30 [Af seed,At h]=some ⟨[.agg (BP seed h).cells,At (if D1 h=true then 9 else 0)],[]⟩:=by
 refine (DI fu (d+11) seed h).trans ?_;have h1:=Zy (fu:=fu) (d:=d+10) h;unfold BP;cases c1:D1 h
 ·rw[c1] at h1;have hb:=H7 c1
  have nd:=JT (fu:=fu) (d:=d+4-h.toNat) Bn seed h.toNat 0 0 (by omega) (by omega) (by
   have:h=0\/h=1\/h=2\/h=3\/h=4:=by omega
   rcases this with rfl|rfl|rfl|rfl|rfl<;>decide) (by omega)
  rw[show d+4-h.toNat+7+h.toNat=d+11 by omega,show ((h.toNat:Nat):Int)=h by omega] at nd;simp only[B4,B3,h1,nd];rfl
 ·rw[c1] at h1;simp only[B4,B3,h1];rfl
theorem WG{a0 a1 a2 a3:Int}{seed leaf h:Int}(hh:0<=h/\h<=4)(hl:0<=leaf/\leaf<16)(Bn:1000<=fu){y4 y9:Int}{y5 y6:Nat}{y7 y8:Ab}{ch:Ca}:∀(k nn i:Nat),i+k=h.toNat->k<nn ->
  I8 fu (Ar C0 prog fu (d+11)) a0 a1 a2 a3 nn seed h leaf i y4 y5 y6 y7 y8 leaf ch.length ((List.range i).map fun k=>Cs seed k (H3 leaf k)).length (Ac .u64 ch) (Ac .u64 ((List.range i).map fun k=>Cs seed k (H3 leaf k)))=some ⟨[.agg (Sg.mk leaf ch ((List.range h.toNat).map fun k=>Cs seed k (H3 leaf k))).owned,At 0],[]⟩
 |_,0,_,_,h=>by omega
 |0,nn+1,i,hi,hn=>by
  have e:i=h.toNat:=by omega
  subst e;have L1:=Am .u64 ch;have L2:=Am .u64 ((List.range h.toNat).map fun k=>Cs seed k (H3 leaf k));rw[P3,Ef _ _ _ (by omega)];simp(disch:=omega)only[B4,B3,Df,Mb,L1,L2];rfl
 |k+1,nn+1,i,hi,hn=>by
  have ih:=WG (a0:=a0) (a1:=a1) (a2:=a2) (a3:=a3) (seed:=seed) (y4:=y4) (y9:=y9) (y5:=y5) (y6:=y6) (y7:=y7) (y8:=y8) (ch:=ch) hh hl Bn k nn (i+1) (by omega) (by omega);have sb:=Aip hl.1 hl.2 (k:=i) (by omega)
  have nd:=JT (fu:=fu) (d:=d+4-i) Bn seed i (H3 leaf i) 15 sb.1 sb.2 (by
   have:i=0\/i=1\/i=2\/i=3:=by omega
   rcases this with rfl|rfl|rfl|rfl<;>decide) (by omega)
  rw[show d+4-i+7+i=d+11 by omega] at nd;have es:Fi .i64 (F2 .i64 leaf (i:Int)) 1=H3 leaf i:=rfl;have w:wrap .i64 ((i:Int)+1)=((i+1:Nat):Int):=by rw[Ag (by omega) (by omega)];omega
  have wi:wrap .u64 (i:Int)=i:=Cd (by omega) (by omega);have L:=Am .u64 ((List.range i).map fun k=>Cs seed k (H3 leaf k));have li:((List.range i).map fun k=>Cs seed k (H3 leaf k)).length=i:=by simp
  rw[Qd,Fw,List.length_singleton,<-Hj] at ih;rw[P3];simp(disch:=omega)only[B4,B3,wi,es,nd,Df,Mb,L,w];exact ih
theorem Ard(Bn:1000<=fu)(seed h leaf m:Int):Ar C0 prog fu (d+12) 32 [Af seed,At h,At leaf,Af m]=some ⟨Add (LH seed h leaf m),[]⟩:=by
 refine (HY fu (d+11) seed h leaf m).trans ?_;have h1:=Zy (fu:=fu) (d:=d+10) h;unfold LH;cases c1:D1 h
 ·rw[c1] at h1;have hb:=H7 c1;have w:=wu hb.1 hb.2;rw[A5 (by simp)];by_cases hn:leaf<0
  ·have ho:Js leaf h=true:=by unfold Js;simp[hn]
   rw[Bq ho];simp(disch:=omega)only[B4,B3,h1];rfl
  ·by_cases hg:leaf>=Hm .i64 1 h
   ·have ho:Js leaf h=true:=by unfold Js;simp[hg]
    rw[Bq ho];simp (disch:=first|omega|exact hg) only[B4,B3,h1,w];rfl
   ·have ho:Js leaf h=false:=by unfold Js;simp only[Bool.or_eq_false_iff,SP];exact⟨hn,hg⟩
    have Cq:=Aju hb.1 hb.2 ho;have h16:=A3d hb.1 hb.2;rw[A5 (by rw[ho];simp)]
    have sl:=Ac4 (fu:=fu) (d:=d+5) Bn seed leaf m;have lp:=WG (fu:=fu) (d:=d) (a0:=seed) (a1:=h) (a2:=leaf) (a3:=m) (seed:=seed) (leaf:=leaf) (h:=h) hb (by omega) Bn (y4:=0) (y9:=0) (y5:=0) (y6:=0) (y7:=[]) (y8:=[]) (ch:=M8 seed leaf m) h.toNat fu 0 (by omega) (by omega);have l18:(M8 seed leaf m).length=18:=by simp[M8]
    rw[l18] at lp;simp (disch:=first|omega|exact hg) only[B4,B3,h1,w,sl];exact lp
 ·rw[c1] at h1;rw[Bq rfl];simp(disch:=omega)only[B4,B3,h1];rfl
theorem Aie(Bn:1000<=fu)(k:Ky):Ar C0 prog fu (d+2) 96 [.agg k.cells]=some ⟨(if D1 k.h=true then [.own 1 0 [],At 9] else [.own 1 9 (Ac .u8 (Ij k)),At 0]),[]⟩:=by
 refine (Zi fu (d+1) k.h k.root).trans ?_;have h1:=Zy (fu:=fu) (d:=d) k.h;have wd:=Ayx (fu:=fu) (d:=d) Bn k.root;have L:=Am .u8 (Ew k.root);rw[Fb] at L;have t8:List.take 8 (Ac .u8 (Ew k.root))=Ac .u8 (Ew k.root):=Gv (by omega)
 have t9:List.take 9 ([PV.sc (.int .u8 (wrap .u8 k.h))]++Ac .u8 (Ew k.root))=Ac .u8 (Ij k):=by
  rw[Gv (by rw[Fw,L];simp)]
  rfl
 have L9:([PV.sc (.int .u8 (wrap .u8 k.h))]++Ac .u8 (Ew k.root)).length=9:=by rw[Fw,L];rfl
 cases c1:D1 k.h
 ·rw[c1] at h1;rw[A5 (by simp)];simp(disch:=omega)only[B4,B3,h1,wd,Df,Cm,Es,L,t8,Nat.reduceAdd,L9,t9]
 ·rw[c1] at h1;rw[Bq rfl];simp(disch:=omega)only[B4,B3,h1]
theorem TW{call:Bp}{n:Nat}{c:Ab}{l:Ca}(hl:l.length=8):∀(r:Ca)(j nn:Nat)(x:Int),l.drop j=r->r.length<nn->j<=8 ->
  Ja fu call n c nn l.length (Ac .u8 l) x j=some ⟨[Af (r.foldl Gc x)],[]⟩
 |_,_,0,_,_,h,_=>by omega
 |[],j,nn+1,x,h,hn,hj=>by
  have:=drop_nil h;rw[Py,Ef _ _ _ (by omega)];rfl
 |b::r,j,nn+1,x,h,hn,hj=>by
  obtain⟨h1,h2,h3⟩:=Dc h;simp only[G7] at hn;have w:wrap .i64 ((j:Int)+1)=((j+1:Nat):Int):=by rw[Ag (by omega) (by omega)];omega
  have ih:=TW (call:=call) (n:=n) (c:=c) hl r (j+1) nn (Gc x b) h3 (by omega) (by omega);rw[List.foldl_cons,<-ih,Py];simp(disch:=omega)only[B4,B3,H0,Df,Vg h2,w]
theorem Afu(Bn:1000<=fu){l:Ca}(hl:l.length=8):Ar C0 prog fu (d+1) 120 [.lst false 1 8 (Ac .u8 l)]=some ⟨[Af (FO l)],[]⟩:=by rw[HI];have:=TW (fu:=fu) (call:=Ar C0 prog fu d) (n:=8) (c:=Ac .u8 l) hl l 0 fu 0 rfl (by omega) (by omega);rw[hl] at this;exact this
theorem Aj3(Bn:1000<=fu){l:Ca}(hb:Ii l):Ar C0 prog fu (d+2) 119 [.lst false 1 l.length (Ac .u8 l)]=some ⟨OT (IG l),[]⟩:=by
 refine (Yj fu (d+1) l.length (Ac .u8 l)).trans ?_;unfold IG;by_cases h9:l.length=9
 ·obtain⟨x,hx⟩:∃x,l[0]?=some x:=⟨_,List.getElem?_eq_getElem (by omega)⟩
  have hxb:=hb x (List.mem_of_getElem? hx);have wx:wrap .i64 x=x:=Ag (by omega) (by omega);have gx:l.getD 0 0=x:=by rw[List.getD_eq_getElem?_getD,hx];rfl
  have h1:=Zy (fu:=fu) (d:=d) x;rw[gx];cases c1:D1 x
  ·rw[c1] at h1;have hdl:(l.drop 1).length=8:=by rw[List.length_drop];omega
   have dw:=Afu (fu:=fu) (d:=d) Bn hdl
   have ew:FO (l.drop 1)=My (l.drop 1) 0:=by
    unfold My;rw[Nat.mul_zero,Es,Gv (by omega)]
   rw[ew] at dw;have e8:9-1=8:=rfl;have tk:List.take 8 (Ac .u8 (l.drop 1))=Ac .u8 (l.drop 1):=Gv (by rw[Am];omega)
   rw[Bq ⟨h9,rfl⟩,h9];simp(disch:=omega)only[B4,B3,Fj,Vg hx,wx,h1,Df,Ha,e8,tk,dw];rfl
  ·rw[c1] at h1;rw[A5 (by simp),h9];simp(disch:=omega)only[B4,B3,Fj,Vg hx,wx,h1];rfl
 ·rw[A5 (by simp[h9])];simp(disch:=omega)only[Fj];rw[A5 (by omega)];rfl
end
section
variable {fu d:Nat}
theorem Atq(n:Nat):D1 (n:Int)=decide ((n:Int)>4):=by
 unfold D1;have:¬((n:Int)<0):=by omega
 simp[this]
theorem Akf(Bn:1000<=fu)(s:Sg)(hp:s.path.length<=1000000000):Ar C0 prog fu (d+2) 42 [.agg s.cells]=some ⟨(if D1 s.path.length=true then [.own 1 0 [],At 9] else if Js s.leaf s.path.length=true then [.own 1 0 [],At 9] else if s.chains.length≠18 then [.own 1 0 [],At 4] else [.own 1 (Sj s).length (Ac .u8 (Sj s)),At 0]),[]⟩:=by
 refine (Rr fu (d+1) s.leaf s.chains.length (Ac .u64 s.chains) s.path.length (Ac .u64 s.path)).trans ?_;rw[Atq];by_cases c1:(s.path.length:Int)>4
 ·rw[Bq (by simp[c1])];simp(disch:=omega)only[B4,B3]
 ·rw[A5 (by simp[c1])];have w:=wu (h:=s.path.length) (by omega) (by omega);by_cases hn:s.leaf<0
  ·have ho:Js s.leaf s.path.length=true:=by unfold Js;simp[hn]
   rw[Bq ho];simp(disch:=omega)only[B4,B3]
  ·by_cases hg:s.leaf>=Hm .i64 1 s.path.length
   ·have ho:Js s.leaf s.path.length=true:=by unfold Js;simp[hg]
    rw[Bq ho];simp (disch:=first|omega|exact hg) only[B4,B3,w]
   ·have ho:Js s.leaf s.path.length=false:=by unfold Js;simp only[Bool.or_eq_false_iff,SP];exact⟨hn,hg⟩
    rw[A5 (by rw[ho];simp)]
    by_cases c3:s.chains.length=18
    ·have w1:=N5 (xs:=Mm) (fu:=fu) (d:=d) (ws:=s.chains) (by omega) (by omega) (by omega);have w2:=N5 (xs:=Mm) (fu:=fu) (d:=d) (ws:=s.path) (by omega) (by omega) (by omega);have l1:=Da s.chains;have l2:=Da s.path;have L1:=Am .u8 (A4 s.chains);have L2:=Am .u8 (A4 s.path)
     have eB:Ac .u8 (Sj s)=[PV.sc (.int .u8 (wrap .u8 s.leaf)),PV.sc (.int .u8 (wrap .u8 s.path.length))]++Ac .u8 (A4 s.chains)++Ac .u8 (A4 s.path):=by
      unfold Sj;simp
     have eL:(Sj s).length=2+(A4 s.chains).length+(A4 s.path).length:=by
      unfold Sj;simp;omega
     rw[A5 (by omega),eB,eL];have t2:List.take (2+(A4 s.chains).length) ([PV.sc (.int .u8 (wrap .u8 s.leaf)),PV.sc (.int .u8 (wrap .u8 s.path.length))]++Ac .u8 (A4 s.chains))=[PV.sc (.int .u8 (wrap .u8 s.leaf)),PV.sc (.int .u8 (wrap .u8 s.path.length))]++Ac .u8 (A4 s.chains):=Gv (by rw[Fw,L1];simp)
     have t3:List.take (2+(A4 s.chains).length+(A4 s.path).length) ([PV.sc (.int .u8 (wrap .u8 s.leaf)),PV.sc (.int .u8 (wrap .u8 s.path.length))]++Ac .u8 (A4 s.chains)++Ac .u8 (A4 s.path))=[PV.sc (.int .u8 (wrap .u8 s.leaf)),PV.sc (.int .u8 (wrap .u8 s.path.length))]++Ac .u8 (A4 s.chains)++Ac .u8 (A4 s.path):=Gv (by rw[Fw,Fw,L1,L2];simp)
     have k2:([PV.sc (.int .u8 (wrap .u8 s.leaf)),PV.sc (.int .u8 (wrap .u8 s.path.length))]++Ac .u8 (A4 s.chains)).length=2+(A4 s.chains).length:=by rw[Fw,L1];rfl
     have k3:([PV.sc (.int .u8 (wrap .u8 s.leaf)),PV.sc (.int .u8 (wrap .u8 s.path.length))]++Ac .u8 (A4 s.chains)++Ac .u8 (A4 s.path)).length=2+(A4 s.chains).length+(A4 s.path).length:=by rw[Fw,k2,L2]
     simp (disch:=first|omega|exact hg) only[B4,B3,w,Fj,w1,w2,Df,Cm,Es,L1,L2,Mb,t2,t3,k2,k3];rw[Bq (by omega)]
    ·rw[Bq c3];simp (disch:=first|omega|exact hg) only[B4,B3,w,Fj];rw[A5 (by omega)]
def CR(l:Ca)(i:Nat):Int:=FO ((l.drop (2+8*i)).take 8)
theorem Awl{l:Ca}{i:Nat}(hi:i<18):My ((l.drop 2).take 144) i=CR l i:=by unfold My CR;rw[List.drop_take,List.take_take,List.drop_drop,Nat.min_eq_left (by omega)]
theorem Awz{l:Ca}{i:Nat}:My (l.drop 146) i=CR l (18+i):=by unfold My CR;rw[List.drop_drop,show 146+8*i=2+8*(18+i) by omega]
theorem MF{n:Nat}{c:Ab}{l:Ca}(hl:l.length<=1000){y:Int}(hy1:l[1]?=some y)(hy:0<=y/\y<=4)(Hr:(l.length:Int)=2+8*(18+y))(Bn:1000<=fu){y3 y4:Int}{n5 n6 n7:Nat}{c5 c6:Ab}{x:Int}:∀(k nn i:Nat),i+k=18+y.toNat->k<nn ->
  Dx fu (Ar C0 prog fu (d+1)) n c nn l.length (Ac .u8 l) i y3 n5 n6 c5 c6 x ((List.range (min i 18)).map (CR l)).length ((List.range (i-18)).map fun j=>CR l (18+j)).length (Ac .u64 ((List.range (min i 18)).map (CR l))) (Ac .u64 ((List.range (i-18)).map fun j=>CR l (18+j)))=some ⟨[.agg (Sg.mk x ((List.range 18).map (CR l)) ((List.range y.toNat).map fun j=>CR l (18+j))).owned,At 0],[]⟩
 |_,0,_,_,h=>by omega
 |k,nn+1,i,hi,hn=>by
  have wy:wrap .i64 y=y:=Ag (by omega) (by omega);have w18:wrap .i64 (18+y)=18+y:=Ag (by omega) (by omega);have L1:=Am .u64 ((List.range (min i 18)).map (CR l));have L2:=Am .u64 ((List.range (i-18)).map fun j=>CR l (18+j));have m1:((List.range (min i 18)).map (CR l)).length=min i 18:=by simp
  have m2:((List.range (i-18)).map fun j=>CR l (18+j)).length=i-18:=by simp
  rw[Pa];cases k with
  |zero=>
   have e:i=18+y.toNat:=by omega
   have e1:min i 18=18:=by omega
   have e2:i-18=y.toNat:=by omega
   simp(disch:=omega)only[B4,B3,Vg hy1,wy,w18,Df,Mb,L1,L2];rw[e1,e2];rfl
  |succ k=>
   have ih:=MF (n:=n) (c:=c) hl hy1 hy Hr Bn (y3:=y3) (y4:=y4) (n5:=n5) (n6:=n6) (n7:=n7) (c5:=c5) (c6:=c6) (x:=x) k nn (i+1) (by omega) (by omega);have w8:wrap .i64 (8*(i:Int))=((8*i:Nat):Int):=by rw[Ag (by omega) (by omega)];omega
   have w2:wrap .i64 (2+((8*i:Nat):Int))=((2+8*i:Nat):Int):=by rw[Ag (by omega) (by omega)];omega
   have w10:wrap .i64 (10+((8*i:Nat):Int))=((10+8*i:Nat):Int):=by rw[Ag (by omega) (by omega)];omega
   have w:wrap .i64 ((i:Int)+1)=((i+1:Nat):Int):=by rw[Ag (by omega) (by omega)];omega
   have e8:10+8*i-(2+8*i)=8:=by omega
   have hdl:((l.drop (2+8*i)).take 8).length=8:=by rw[List.length_take,List.length_drop];omega
   have wd:=Afu (fu:=fu) (d:=d) Bn hdl;have ew:FO ((l.drop (2+8*i)).take 8)=CR l i:=rfl;rw[ew] at wd;by_cases c18:i<18
   ·have a1:min (i+1) 18=min i 18+1:=by omega
    have a2:min i 18=i:=by omega
    have a3:i+1-18=i-18:=by omega
    rw[a1,a3,Qd,Fw,List.length_singleton,<-Hj,a2] at ih;rw[a2] at L1 m1 ⊢;simp(disch:=omega)only[B4,B3,Vg hy1,wy,w18,w8,w2,w10,H0,Df,e8,Ha,Hx,List.take_length,wd,L1,L2,w];exact ih
   ·have a1:min (i+1) 18=min i 18:=by omega
    have a3:i+1-18=(i-18)+1:=by omega
    rw[a1,a3,Qd,Fw,List.length_singleton,<-Hj,show 18+(i-18)=i by omega] at ih;simp(disch:=omega)only[B4,B3,Vg hy1,wy,w18,w8,w2,w10,H0,Df,e8,Ha,Hx,List.take_length,wd,L1,L2,w];exact ih
theorem UY(Bn:1000<=fu){l:Ca}(hb:Ii l):Ar C0 prog fu (d+2) 84 [.lst false 1 l.length (Ac .u8 l)]=some ⟨CF (sgD l),[]⟩:=by
 refine (R5 fu (d+1) l.length (Ac .u8 l)).trans ?_;unfold sgD;by_cases h2:2<=l.length
 ·obtain⟨x,hx⟩:∃x,l[0]?=some x:=⟨_,List.getElem?_eq_getElem (by omega)⟩
  obtain⟨y,hy⟩:∃y,l[1]?=some y:=⟨_,List.getElem?_eq_getElem (by omega)⟩
  have hxb:=hb x (List.mem_of_getElem? hx);have hyb:=hb y (List.mem_of_getElem? hy);have wx:wrap .i64 x=x:=Ag (by omega) (by omega);have wy:wrap .i64 y=y:=Ag (by omega) (by omega);have wyu:wrap .u64 y=y:=Cd (by omega) (by omega);have gx:l.getD 0 0=x:=by rw[List.getD_eq_getElem?_getD,hx];rfl
  have gy:l.getD 1 0=y:=by rw[List.getD_eq_getElem?_getD,hy];rfl
  have w1:wrap .i64 (18+y)=18+y:=Ag (by omega) (by omega);have w2:wrap .i64 (8*(18+y))=8*(18+y):=Ag (by omega) (by omega);have w3:wrap .i64 (2+8*(18+y))=2+8*(18+y):=Ag (by omega) (by omega);rw[gx,gy]
  have ehi:D1 y=decide (y>4):=by
   unfold D1;have:¬(y<0):=by omega
   simp[this]
  have eou:Js x y=decide (x>=Hm .i64 1 y):=by
   unfold Js;have:¬(x<0):=by omega
   simp[this]
  rw[ehi,eou];by_cases c1:y>4
  ·rw[A5 (by simp[c1])];simp(disch:=omega)only[B4,B3,Vg hx,Vg hy,wx,wy];rfl
  ·by_cases c2:x>=Hm .i64 1 y
   ·rw[A5 (by simp[c2])];simp (disch:=first|omega|exact c2) only[B4,B3,Vg hx,Vg hy,wx,wy,wyu];rfl
   ·by_cases c3:(l.length:Int)=2+8*(18+y)
    ·rw[Bq ⟨h2,by simp[c1],by simp[c2],c3⟩];have lp:=MF (fu:=fu) (d:=d) (n:=l.length) (c:=Ac .u8 l) (l:=l) (by omega) hy (by omega) c3 Bn (y3:=0) (y4:=0) (n5:=0) (n6:=0) (n7:=0) (c5:=[]) (c6:=[]) (x:=x) (18+y.toNat) fu 0 (by omega) (by omega);simp (disch:=first|omega|exact c2) only[B4,B3,Fj,Vg hx,Vg hy,wx,wy,wyu,w1,w2,w3];rw[Bq c3];simp(disch:=omega)only[B4,B3,Pk,Vg hx,wx];refine Eq.trans lp ?_
     have e1:Gk ((l.drop 2).take 144)=(List.range 18).map (CR l):=by
      unfold Gk;rw[show ((l.drop 2).take 144).length / 8=18 by rw[List.length_take,List.length_drop];omega]
      exact List.map_congr_left fun i hi=>Awl (List.mem_range.1 hi)
     have e2:Gk (l.drop 146)=(List.range y.toNat).map fun j=>CR l (18+j):=by
      unfold Gk;rw[show (l.drop 146).length / 8=y.toNat by rw[List.length_drop];omega]
      exact List.map_congr_left fun i hi=>Awz
     rw[e1,e2];rfl
    ·rw[A5 (by simp[c3])];simp (disch:=first|omega|exact c2) only[B4,B3,Fj,Vg hx,Vg hy,wx,wy,wyu,w1,w2,w3];rw[A5 c3];rfl
 ·rw[A5 (by simp[h2])];simp(disch:=omega)only[B4,B3];rfl
end
theorem Arz(seed leaf m:Int):Aou leaf m (M8 seed leaf m)=Lm seed leaf:=by
 unfold Aou Lm VY
 congr 1
 refine List.map_congr_left fun i hi=>?_;have hi:=List.mem_range.1 hi;have hb:=EW m i;unfold Ajs FE
 have e:(M8 seed leaf m).getD i 0=DT seed leaf m i:=by
  unfold M8;rw[List.getD_eq_getElem?_getD,List.getElem?_map,List.getElem?_range hi];rfl
 rw[e];unfold DT;have:=Aet leaf i (dg m i).toNat (15-dg m i).toNat 0 (OM seed leaf i);rw[show (dg m i).toNat+(15-dg m i).toNat=15 by omega,show (0:Int)+((dg m i).toNat:Nat)=dg m i by omega] at this;exact this.symm
theorem Aom:∀n:Fin 16,∀k:Fin 4,
  (Qg .i64 (F2 .i64 (n.val:Int) k.val) 1=0/\F2 .i64 (n.val:Int) k.val=2*F2 .i64 (n.val:Int) ((k.val+1:Nat):Int)/\H3 n.val k.val=2*F2 .i64 (n.val:Int) ((k.val+1:Nat):Int)+1) \/
  (Qg .i64 (F2 .i64 (n.val:Int) k.val) 1≠0/\F2 .i64 (n.val:Int) k.val=2*F2 .i64 (n.val:Int) ((k.val+1:Nat):Int)+1/\H3 n.val k.val=2*F2 .i64 (n.val:Int) ((k.val+1:Nat):Int)):=by decide
theorem UH(seed:Int){leaf:Int}(h0:0<=leaf)(h1:leaf<16):∀(k i:Nat),i+k<=4 ->
  HC leaf i (Cs seed i (F2 .i64 leaf i)) ((List.range' i k).map fun j=>Cs seed j (H3 leaf j))=Cs seed (i+k) (F2 .i64 leaf ((i+k:Nat):Int))
 |0,i,_=>rfl
 |k+1,i,h=>by
  rw[List.range'_succ,Sf,QT];obtain⟨n,rfl⟩:=Int.eq_ofNat_of_zero_le h0;have ih:=UH seed h0 h1 k (i+1) (by omega);rw[show i+(k+1)=i+1+k by omega,<-ih]
  congr 1
  rcases Aom ⟨n,by omega⟩ ⟨i,by omega⟩ with⟨a,b,c⟩|⟨a,b,c⟩
  ·simp only at a b c;rw[Bq a,b,c];rfl
  ·simp only at a b c;rw[A5 a,b,c];rfl
theorem Ara{seed h leaf m:Int}(hh:D1 h=false)(ho:Js leaf h=false):Apa (BP seed h) m ⟨leaf,M8 seed leaf m,(List.range h.toNat).map fun k=>Cs seed k (H3 leaf k)⟩=0:=by
 have hb:=H7 hh;have hl:=Aju hb.1 hb.2 ho;have h16:=A3d hb.1 hb.2
 have eP:BP seed h=⟨h,Cs seed h.toNat 0⟩:=by
  unfold BP;rw[hh];rfl
 rw[eP];unfold Apa;simp only;rw[A5 (show ¬D1 h=true by rw[hh];simp),A5 (show ¬Js leaf h=true by rw[ho];simp),A5 (show ¬(M8 seed leaf m).length≠18 by simp[M8]),A5 (by rw[List.length_map,List.length_range];omega),Arz]
 have c:=UH seed hl.1 (show leaf<16 by omega) h.toNat 0 (by omega)
 have e0:F2 .i64 leaf ((0:Nat):Int)=leaf:=by
  show leaf.fdiv (2 ^ (min ((0:Nat):Int).toNat IntKind.i64.bits))=leaf;have:(2:Int) ^ (min ((0:Nat):Int).toNat IntKind.i64.bits)=1:=by decide
  rw[this,Int.fdiv_one]
 have eh:F2 .i64 leaf ((0+h.toNat:Nat):Int)=0:=by
  have H:∀n:Fin 16,∀k:Fin 5,(n.val:Int)<2 ^ k.val->F2 .i64 (n.val:Int) ((0+k.val:Nat):Int)=0:=by decide
  obtain⟨n,hn⟩:=Int.eq_ofNat_of_zero_le hl.1;have:=H ⟨n,by omega⟩ ⟨h.toNat,by omega⟩ (by simp only;rw[<-hn];exact hl.2)
  rw[hn];exact this
 rw[e0,eh,Cm] at c;have er:List.range' 0 h.toNat=List.range h.toNat:=List.range_eq_range'.symm;rw[er] at c;have el:Cs seed 0 leaf=Lm seed leaf:=rfl;rw[el] at c;rw[c];unfold okE;rw[Bq rfl]
section
variable {xs:FuncId->Option (Ab->Option D0)}(fu d:Nat)(call:Bp)
theorem Afo(Z:ByteArray):Fn C0 fu d 130 [.sc (.string Z)] fun call=>Bv [.own 3 1 [(4:Int),Af 0,.sc (.string Z)]]:=by show _=_;kernel_rfl
theorem Aha(Z:Int):Fn C0 fu d 64 [Af Z] fun call=>Bv [.own 3 1 [(1:Int),Af Z,.sc (.string (ByteArray.mk #[]))]]:=by show _=_;kernel_rfl
theorem Acf(Y:Nat)(Z:Ab):Fn C0 fu d 131 [Ap 1 Y Z] fun call=>As (decide (Z.length=Y))<|F3 (bytesOf Z) fun a=>Bv [.own 3 1 [(3:Int),Af 0,.sc (.string (ByteArray.mk (List.toArray a)))]]:=by show _=_;kernel_rfl
theorem Aco(Z:Int):Fn C0 fu d 141 [Af Z] fun call=>A3 (decide (Z<24)) (Bv [(0:Int)]) (A3 (decide (Z<256)) (Bv [(1:Int)]) (A3 (decide (Z<65536)) (Bv [(2:Int)]) (A3 (decide (Z<4294967296)) (Bv [(4:Int)]) (Bv [(8:Int)])))):=by show _=_;kernel_rfl
theorem YP(Z Y:Int)(X:ByteArray):Fn C0 fu d 146 [.agg [Z,Af Y,.sc (.string X)]] fun call=>A3 (Z==3) (Bv [.sc (.bool (Y==0))]) (A3 (Z==4) (Bv [.sc (.bool (Y==0))]) (A3 (Z==8) (A3 (Y==0) (Bv [.sc (.bool (Array.toList (ByteArray.data X)==Array.toList (ByteArray.data (ByteArray.mk #[]))))]) (Bv [.sc (.bool false)])) (A3 (Z==7) (A3 (decide (Y<=1)) (Bv [.sc (.bool (Array.toList (ByteArray.data X)==Array.toList (ByteArray.data (ByteArray.mk #[]))))]) (Bv [.sc (.bool false)])) (Bv [.sc (.bool (Array.toList (ByteArray.data X)==Array.toList (ByteArray.data (ByteArray.mk #[]))))])))):=by show _=_;kernel_rfl
theorem SZ(Z:Nat)(X:Ab)(Y:Nat)(W:Ab):Fn C0 fu d 143 [Ap 1 Z X,Ap 1 Y W] fun call=>A3 ((↑Z:Int) != (↑Y:Int)) (Bv [.sc (.bool (decide ((↑Z:Int)<(↑Y:Int))))]) (Na .i64 (call 148 [Ap 1 Z X,Ap 1 Y W]) fun a=>Bv [.sc (.bool (decide (a<0)))]):=by show _=_;kernel_rfl
def Fm(Z:Nat)(Y:Ab)(X W:Int)(V U:Nat)(T S:Int)(Q:Ab):Option D0:=Mg fu call 133 Tryz.f133 [.own 1 Z Y,.sc (.int .u8 X),Af W] [.r,.r,.r,.r,.r,.l,.r,.l] V ⟨lk [(0,.view 0 1 0 U),(2,Af T),(9,S)],B0 [(0,.ar false Q)]⟩
theorem Rh(V:Nat)(U:Ab)(T S:Int)(Q Z:Nat)(W Y:Int)(X:Ab):Fm fu call V U T S (Q+1) Z W Y X=(A3 (decide (Y>=0)) (Aa (wrap .i64 (8*Y)) fun a=>As (decide (0<=a))<|Aa (F2 .u64 W a) fun a=>Aa (wrap .u8 a) fun a=>Og Z 1 1 X [.sc (.int .u8 a)] fun a b=>Aa (wrap .i64 (Y-1)) fun c=>Fm fu call V U T S Q a W c b) (As (decide (Z*1<=X.length))<|Bv [.own 1 Z (X.take (Z*1))])):=by kernel_rfl
theorem MM(Y:Nat)(X:Ab)(W Z:Int):Fn C0 fu d 133 [.own 1 Y X,.sc (.int .u8 W),Af Z] fun call=>Aa (Hm .u8 W 5) fun a=>A3 (decide (Z<24)) (Aa (wrap .u8 Z) fun b=>Aa (wrap .u8 (a+b)) fun a=>Og Y 1 1 X [.sc (.int .u8 a)] fun a b=>As (decide (a*1<=b.length))<|Bv [.own 1 a (b.take (a*1))]) (A3 (decide (Z<256)) (Aa (wrap .u8 (a+24)) fun a=>Og Y 1 1 X [.sc (.int .u8 a)] fun a b=>Fm fu call Y X W Z fu a Z 0 b) (A3 (decide (Z<65536)) (Aa (wrap .u8 (a+25)) fun a=>Og Y 1 1 X [.sc (.int .u8 a)] fun a b=>Fm fu call Y X W Z fu a Z 1 b) (A3 (decide (Z<4294967296)) (Aa (wrap .u8 (a+26)) fun a=>Og Y 1 1 X [.sc (.int .u8 a)] fun a b=>Fm fu call Y X W Z fu a Z 3 b) (Aa (wrap .u8 (a+27)) fun a=>Og Y 1 1 X [.sc (.int .u8 a)] fun a b=>Fm fu call Y X W Z fu a Z 7 b)))):=by show _=_;kernel_rfl
theorem KU(Y:Nat)(X:Ab)(W V:Int)(Z:ByteArray):Fn C0 fu d 108 [.own 1 Y X,.agg [W,Af V,.sc (.string Z)]] fun call=>A3 (W==7) (Aa (wrap .u8 V) fun a=>Aa (wrap .u8 (244+a)) fun a=>Og Y 1 1 X [.sc (.int .u8 a)] fun a b=>As (decide (a*1<=b.length))<|Bv [.own 1 a (b.take (a*1))]) (A3 (W==8) (Og Y 1 1 X [.sc (.int .u8 246)] fun a b=>As (decide (a*1<=b.length))<|Bv [.own 1 a (b.take (a*1))]) (A3 (W==3) (Aa (wrap .i64 (W-1)) fun a=>Aa (wrap .u8 a) fun a=>Aa (wrap .u64 (↑(ByteArray.size Z):Int)) fun b=>As (decide (Y*1<=X.length))<|Bk (call 133 [.own 1 Y (X.take (Y*1)),.sc (.int .u8 a),Af b]) fun a b=>Tz 1 a fun a c e=>Aq e<|Aq b<|As (decide (a*1<=c.length)&&decide (List.length (El Z)=ByteArray.size Z*1)&&decide ((a+ByteArray.size Z)*1<=1099511627776)&&decide (a+ByteArray.size Z<=1099511627776))<|Aa (a+ByteArray.size Z) fun b=>Aa (List.take (a*1) c++El Z) fun a=>As (decide (b*1<=a.length))<|Bv [.own 1 b (a.take (b*1))]) (A3 (W==4) (Aa (wrap .i64 (W-1)) fun a=>Aa (wrap .u8 a) fun a=>Aa (wrap .u64 (↑(ByteArray.size Z):Int)) fun b=>As (decide (Y*1<=X.length))<|Bk (call 133 [.own 1 Y (X.take (Y*1)),.sc (.int .u8 a),Af b]) fun a b=>Tz 1 a fun a c e=>Aq e<|Aq b<|As (decide (a*1<=c.length)&&decide (List.length (El Z)=ByteArray.size Z*1)&&decide ((a+ByteArray.size Z)*1<=1099511627776)&&decide (a+ByteArray.size Z<=1099511627776))<|Aa (a+ByteArray.size Z) fun b=>Aa (List.take (a*1) c++El Z) fun a=>As (decide (b*1<=a.length))<|Bv [.own 1 b (a.take (b*1))]) (Aa (wrap .i64 (W-1)) fun a=>Aa (wrap .u8 a) fun a=>As (decide (Y*1<=X.length))<|Bk (call 133 [.own 1 Y (X.take (Y*1)),.sc (.int .u8 a),Af V]) fun a b=>Tz 1 a fun a c e=>Aq e<|Aq b<|As (decide (a*1<=c.length))<|Bv [.own 1 a (c.take (a*1))])))):=by show _=_;kernel_rfl
theorem NX(Z:Nat)(Y:Ab)(X:Int):Fn C0 fu d 87 [.pbox [.own 3 Z Y,X]] fun call=>A3 (decide (X>0)) (As (decide (Z*3<=Y.length))<|some ⟨[.sc (.bool ((↑Z:Int)==0))],[[.own 3 Z (Y.take (Z*3)),X]]⟩) (As (decide (Z*3<=Y.length))<|some ⟨[.sc (.bool false)],[[.own 3 Z (Y.take (Z*3)),X]]⟩):=by show _=_;kernel_rfl
theorem LF(Z:Nat)(Y:Ab)(X:Int):Fn C0 fu d 142 [.pbox [.own 3 Z Y,X]] fun call=>A3 (decide ((↑Z:Int)>0)) (Aa (wrap .i64 ((↑Z:Int)-1)) fun a=>As (decide (0<=a)&&decide (a<(↑Z:Int)))<|Cg (Y.getD (0+a.toNat*3+0) .top) fun a=>A3 a (Aa (wrap .i64 ((↑Z:Int)-1)) fun a=>As (decide (0<=a)&&decide (a<(↑Z:Int)))<|Be .i64 (Y.getD (0+a.toNat*3+1) .top) fun a=>Aa (Int.tmod a 2) fun a=>As (decide (Z*3<=Y.length))<|some ⟨[.sc (.bool (a==0))],[[.own 3 Z (Y.take (Z*3)),X]]⟩) (As (decide (Z*3<=Y.length))<|some ⟨[.sc (.bool false)],[[.own 3 Z (Y.take (Z*3)),X]]⟩)) (As (decide (Z*3<=Y.length))<|some ⟨[.sc (.bool false)],[[.own 3 Z (Y.take (Z*3)),X]]⟩):=by show _=_;kernel_rfl
theorem LL(Z:Nat)(Y:Ab)(X W:Int):Fn C0 fu d 122 [.pbox [.own 3 Z Y,X],W] fun call=>A3 (decide (X>=512)) (As (decide (Z*3<=Y.length))<|some ⟨[(8:Int)],[[.own 3 Z (Y.take (Z*3)),X]]⟩) (A3 (decide (W<1)) (As (decide (Z*3<=Y.length))<|some ⟨[(3:Int)],[[.own 3 Z (Y.take (Z*3)),X]]⟩) (A3 (decide (W>8)) (As (decide (Z*3<=Y.length))<|some ⟨[(3:Int)],[[.own 3 Z (Y.take (Z*3)),X]]⟩) (As (decide (Z*3<=Y.length))<|Bk (call 142 [.pbox [.own 3 Z (Y.take (Z*3)),X]]) fun a b=>V1 a fun a=>Av b fun b c=>Tz 3 b fun b e f=>Dk .i64 f fun f=>Aq c<|A3 a (A3 (W != 1) (A3 (W != 2) (A3 (W != 4) (As (decide (b*3<=e.length))<|some ⟨[(3:Int)],[[.own 3 b (e.take (b*3)),f]]⟩) (A3 (decide ((↑b:Int)>8)) (As (decide (b*3<=e.length))<|some ⟨[(5:Int)],[[.own 3 b (e.take (b*3)),f]]⟩) (As (decide (b*3<=e.length))<|some ⟨[(0:Int)],[[.own 3 b (e.take (b*3)),f]]⟩))) (A3 (decide ((↑b:Int)>8)) (As (decide (b*3<=e.length))<|some ⟨[(5:Int)],[[.own 3 b (e.take (b*3)),f]]⟩) (As (decide (b*3<=e.length))<|some ⟨[(0:Int)],[[.own 3 b (e.take (b*3)),f]]⟩))) (A3 (decide ((↑b:Int)>8)) (As (decide (b*3<=e.length))<|some ⟨[(5:Int)],[[.own 3 b (e.take (b*3)),f]]⟩) (As (decide (b*3<=e.length))<|some ⟨[(0:Int)],[[.own 3 b (e.take (b*3)),f]]⟩))) (A3 (decide ((↑b:Int)>8)) (As (decide (b*3<=e.length))<|some ⟨[(5:Int)],[[.own 3 b (e.take (b*3)),f]]⟩) (As (decide (b*3<=e.length))<|some ⟨[(0:Int)],[[.own 3 b (e.take (b*3)),f]]⟩))))):=by show _=_;kernel_rfl
def Bm(Z:Nat)(Y:Ab)(X W V:Int)(U:ByteArray)(T:Nat)(S:Int)(Q:Nat)(P:Int)(O:Ab):Option D0:=Mg fu call 144 Tryz.f144 [.pbox [.own 3 Z Y,X],.agg [W,Af V,.sc (.string U)]] [.r,.r,.r,.r,.r,.r,.l] T ⟨lk [(0,.ptr 212000 0),(5,S)],B0 [(212000,.st [.view 212106 3 0 Q,P]),(212106,.ar false O)]⟩
theorem S9(V:Nat)(U:Ab)(T S Q:Int)(P:ByteArray)(O:Nat)(X:Int)(Z:Nat)(W:Int)(Y:Ab):Bm fu call V U T S Q P (O+1) X Z W Y=(A3 (decide (X>0)) (Aa (wrap .i64 (X-1)) fun a=>As (decide (0<=a)&&decide (a<(↑Z:Int)))<|Be .i64 (Y.getD (0+a.toNat*3+1) .top) fun a=>A3 (a==0) (Aa (wrap .i64 (X-1)) fun a=>As (decide (0<=a))<|As (decide (a.toNat<=Z))<|Aa (a.toNat-0) fun a=>Aa (wrap .i64 (X-1)) fun b=>Bm fu call V U T S Q P O b a W Y) (As (decide (Z*3<=Y.length))<|some ⟨[],[[.own 3 Z (Y.take (Z*3)),W]]⟩)) (As (decide (Z*3<=Y.length))<|some ⟨[],[[.own 3 Z (Y.take (Z*3)),W]]⟩)):=by kernel_rfl
theorem OD(Z:Nat)(X:Ab)(V W Y:Int)(U:ByteArray):Fn C0 fu d 144 [.pbox [.own 3 Z X,V],.agg [W,Af Y,.sc (.string U)]] fun call=>Aa (wrap .i64 (V+1)) fun a=>A3 (decide ((↑Z:Int)>0)) (Aa (wrap .i64 ((↑Z:Int)-1)) fun b=>As (decide (0<=b)&&decide (b<(↑Z:Int)))<|Be .i64 (X.getD (0+b.toNat*3+1) .top) fun c=>Aa (wrap .i64 (c-1)) fun c=>As (decide (0<=b)&&decide (b<(↑Z:Int)))<|As (decide (0+b.toNat*3+1+1<=X.length))<|Aa (Bx X [c] (0+b.toNat*3+1)) fun b=>A3 (W==5) (A3 (decide (Y>0)) (Aa (wrap .i64 Y) fun c=>Og Z 3 40 b [.sc (.bool false),c,Ap 1 0 []] fun b c=>A3 (W==6) (A3 (decide (Y>0)) (Aa (wrap .i64 Y) fun e=>Aa (wrap .i64 (2*e)) fun e=>Og b 3 40 c [.sc (.bool true),e,Ap 1 0 []] fun b c=>Bm fu call Z X V W Y U fu (↑b:Int) b a c) (Bm fu call Z X V W Y U fu (↑b:Int) b a c)) (Bm fu call Z X V W Y U fu (↑b:Int) b a c)) (A3 (W==6) (A3 (decide (Y>0)) (Aa (wrap .i64 Y) fun c=>Aa (wrap .i64 (2*c)) fun c=>Og Z 3 40 b [.sc (.bool true),c,Ap 1 0 []] fun b c=>Bm fu call Z X V W Y U fu (↑b:Int) b a c) (Bm fu call Z X V W Y U fu (↑Z:Int) Z a b)) (Bm fu call Z X V W Y U fu (↑Z:Int) Z a b))) (A3 (W==6) (A3 (decide (Y>0)) (Aa (wrap .i64 Y) fun c=>Aa (wrap .i64 (2*c)) fun c=>Og Z 3 40 b [.sc (.bool true),c,Ap 1 0 []] fun b c=>Bm fu call Z X V W Y U fu (↑b:Int) b a c) (Bm fu call Z X V W Y U fu (↑Z:Int) Z a b)) (Bm fu call Z X V W Y U fu (↑Z:Int) Z a b))) (A3 (W==5) (A3 (decide (Y>0)) (Aa (wrap .i64 Y) fun b=>Og Z 3 40 X [.sc (.bool false),b,Ap 1 0 []] fun b c=>A3 (W==6) (A3 (decide (Y>0)) (Aa (wrap .i64 Y) fun e=>Aa (wrap .i64 (2*e)) fun e=>Og b 3 40 c [.sc (.bool true),e,Ap 1 0 []] fun b c=>Bm fu call Z X V W Y U fu (↑b:Int) b a c) (Bm fu call Z X V W Y U fu (↑b:Int) b a c)) (Bm fu call Z X V W Y U fu (↑b:Int) b a c)) (A3 (W==6) (A3 (decide (Y>0)) (Aa (wrap .i64 Y) fun b=>Aa (wrap .i64 (2*b)) fun b=>Og Z 3 40 X [.sc (.bool true),b,Ap 1 0 []] fun b c=>Bm fu call Z X V W Y U fu (↑b:Int) b a c) (Bm fu call Z X V W Y U fu (↑Z:Int) Z a X)) (Bm fu call Z X V W Y U fu (↑Z:Int) Z a X))) (A3 (W==6) (A3 (decide (Y>0)) (Aa (wrap .i64 Y) fun b=>Aa (wrap .i64 (2*b)) fun b=>Og Z 3 40 X [.sc (.bool true),b,Ap 1 0 []] fun b c=>Bm fu call Z X V W Y U fu (↑b:Int) b a c) (Bm fu call Z X V W Y U fu (↑Z:Int) Z a X)) (Bm fu call Z X V W Y U fu (↑Z:Int) Z a X))):=by show _=_;kernel_rfl
theorem Nk(W:Nat)(V:Ab)(U Z X:Int)(Y:ByteArray):Fn C0 fu d 123 [.pbox [.own 3 W V,U],.agg [Z,Af X,.sc (.string Y)]] fun call=>A3 (Z==4) (Dm (call 126 [.sc (.string Y)]) fun a b=>Cg a fun a=>Aq b<|A3 (!a) (As (decide (W*3<=V.length))<|some ⟨[(6:Int)],[[.own 3 W (V.take (W*3)),U]]⟩) (As (decide (W*3<=V.length))<|Bk (call 142 [.pbox [.own 3 W (V.take (W*3)),U]]) fun a b=>V1 a fun a=>Av b fun b c=>Tz 3 b fun b e f=>Dk .i64 f fun f=>Aq c<|A3 a (Aa (wrap .i64 ((↑b:Int)-1)) fun a=>As (decide (0<=a)&&decide (a<(↑b:Int)))<|Bk (call 108 [.own 1 0 [],.agg [Z,Af X,.sc (.string Y)]]) fun c g=>Tz 1 c fun c h i=>Aq i<|Aq g<|Pq 1 (e.getD (0+a.toNat*3+0+2) .top) fun g i j=>A3 (decide (0<i)) (Pq 1 (e.getD (0+a.toNat*3+0+2) .top) fun g i j=>As (decide (0+c*1<=h.length))<|Dm (call 143 [Ap 1 i j,Ap 1 c (List.take (c*1) (h.drop 0))]) fun g i=>Cg g fun g=>Aq i<|A3 (!g) (As (decide (b*3<=e.length))<|some ⟨[(7:Int)],[[.own 3 b (e.take (b*3)),f]]⟩) (As (decide (0+a.toNat*3+0+2+1<=e.length))<|As (decide (0+c*1<=h.length))<|Aa (Bx e [Ap 1 c (List.take (c*1) (h.drop 0))] (0+a.toNat*3+0+2)) fun a=>As (decide (b*3<=a.length))<|Bk (call 144 [.pbox [.own 3 b (a.take (b*3)),f],.agg [Z,Af X,.sc (.string Y)]]) fun a b=>Aq a<|Av b fun a b=>Tz 3 a fun a c e=>Dk .i64 e fun e=>Aq b<|As (decide (a*3<=c.length))<|some ⟨[(0:Int)],[[.own 3 a (c.take (a*3)),e]]⟩)) (BC (Pq 1 (e.getD (0+a.toNat*3+0+2) .top) fun g i j=>As (decide (0+c*1<=h.length))<|Dm (call 143 [Ap 1 i j,Ap 1 c (List.take (c*1) (h.drop 0))]) fun g i=>Cg g fun g=>Aq i<|A3 (!g) (As (decide (b*3<=e.length))<|some ⟨[(7:Int)],[[.own 3 b (e.take (b*3)),f]]⟩) (As (decide (0+a.toNat*3+0+2+1<=e.length))<|As (decide (0+c*1<=h.length))<|Aa (Bx e [Ap 1 c (List.take (c*1) (h.drop 0))] (0+a.toNat*3+0+2)) fun a=>As (decide (b*3<=a.length))<|Bk (call 144 [.pbox [.own 3 b (a.take (b*3)),f],.agg [Z,Af X,.sc (.string Y)]]) fun a b=>Aq a<|Av b fun a b=>Tz 3 a fun a c e=>Dk .i64 e fun e=>Aq b<|As (decide (a*3<=c.length))<|some ⟨[(0:Int)],[[.own 3 a (c.take (a*3)),e]]⟩)) (As (decide (0+a.toNat*3+0+2+1<=e.length))<|As (decide (0+c*1<=h.length))<|Aa (Bx e [Ap 1 c (List.take (c*1) (h.drop 0))] (0+a.toNat*3+0+2)) fun a=>As (decide (b*3<=a.length))<|Bk (call 144 [.pbox [.own 3 b (a.take (b*3)),f],.agg [Z,Af X,.sc (.string Y)]]) fun a b=>Aq a<|Av b fun a b=>Tz 3 a fun a c e=>Dk .i64 e fun e=>Aq b<|As (decide (a*3<=c.length))<|some ⟨[(0:Int)],[[.own 3 a (c.take (a*3)),e]]⟩))) (As (decide (b*3<=e.length))<|Bk (call 144 [.pbox [.own 3 b (e.take (b*3)),f],.agg [Z,Af X,.sc (.string Y)]]) fun a b=>Aq a<|Av b fun a b=>Tz 3 a fun a c e=>Dk .i64 e fun e=>Aq b<|As (decide (a*3<=c.length))<|some ⟨[(0:Int)],[[.own 3 a (c.take (a*3)),e]]⟩))) (As (decide (W*3<=V.length))<|Bk (call 142 [.pbox [.own 3 W (V.take (W*3)),U]]) fun a b=>V1 a fun a=>Av b fun b c=>Tz 3 b fun b e f=>Dk .i64 f fun f=>Aq c<|A3 a (Aa (wrap .i64 ((↑b:Int)-1)) fun a=>As (decide (0<=a)&&decide (a<(↑b:Int)))<|Bk (call 108 [.own 1 0 [],.agg [Z,Af X,.sc (.string Y)]]) fun c g=>Tz 1 c fun c h i=>Aq i<|Aq g<|Pq 1 (e.getD (0+a.toNat*3+0+2) .top) fun g i j=>A3 (decide (0<i)) (Pq 1 (e.getD (0+a.toNat*3+0+2) .top) fun g i j=>As (decide (0+c*1<=h.length))<|Dm (call 143 [Ap 1 i j,Ap 1 c (List.take (c*1) (h.drop 0))]) fun g i=>Cg g fun g=>Aq i<|A3 (!g) (As (decide (b*3<=e.length))<|some ⟨[(7:Int)],[[.own 3 b (e.take (b*3)),f]]⟩) (As (decide (0+a.toNat*3+0+2+1<=e.length))<|As (decide (0+c*1<=h.length))<|Aa (Bx e [Ap 1 c (List.take (c*1) (h.drop 0))] (0+a.toNat*3+0+2)) fun a=>As (decide (b*3<=a.length))<|Bk (call 144 [.pbox [.own 3 b (a.take (b*3)),f],.agg [Z,Af X,.sc (.string Y)]]) fun a b=>Aq a<|Av b fun a b=>Tz 3 a fun a c e=>Dk .i64 e fun e=>Aq b<|As (decide (a*3<=c.length))<|some ⟨[(0:Int)],[[.own 3 a (c.take (a*3)),e]]⟩)) (BC (Pq 1 (e.getD (0+a.toNat*3+0+2) .top) fun g i j=>As (decide (0+c*1<=h.length))<|Dm (call 143 [Ap 1 i j,Ap 1 c (List.take (c*1) (h.drop 0))]) fun g i=>Cg g fun g=>Aq i<|A3 (!g) (As (decide (b*3<=e.length))<|some ⟨[(7:Int)],[[.own 3 b (e.take (b*3)),f]]⟩) (As (decide (0+a.toNat*3+0+2+1<=e.length))<|As (decide (0+c*1<=h.length))<|Aa (Bx e [Ap 1 c (List.take (c*1) (h.drop 0))] (0+a.toNat*3+0+2)) fun a=>As (decide (b*3<=a.length))<|Bk (call 144 [.pbox [.own 3 b (a.take (b*3)),f],.agg [Z,Af X,.sc (.string Y)]]) fun a b=>Aq a<|Av b fun a b=>Tz 3 a fun a c e=>Dk .i64 e fun e=>Aq b<|As (decide (a*3<=c.length))<|some ⟨[(0:Int)],[[.own 3 a (c.take (a*3)),e]]⟩)) (As (decide (0+a.toNat*3+0+2+1<=e.length))<|As (decide (0+c*1<=h.length))<|Aa (Bx e [Ap 1 c (List.take (c*1) (h.drop 0))] (0+a.toNat*3+0+2)) fun a=>As (decide (b*3<=a.length))<|Bk (call 144 [.pbox [.own 3 b (a.take (b*3)),f],.agg [Z,Af X,.sc (.string Y)]]) fun a b=>Aq a<|Av b fun a b=>Tz 3 a fun a c e=>Dk .i64 e fun e=>Aq b<|As (decide (a*3<=c.length))<|some ⟨[(0:Int)],[[.own 3 a (c.take (a*3)),e]]⟩))) (As (decide (b*3<=e.length))<|Bk (call 144 [.pbox [.own 3 b (e.take (b*3)),f],.agg [Z,Af X,.sc (.string Y)]]) fun a b=>Aq a<|Av b fun a b=>Tz 3 a fun a c e=>Dk .i64 e fun e=>Aq b<|As (decide (a*3<=c.length))<|some ⟨[(0:Int)],[[.own 3 a (c.take (a*3)),e]]⟩)):=by show _=_;kernel_rfl
theorem FV(W:Nat)(V:Ab)(U Z Y:Int)(X:ByteArray):Fn C0 fu d 132 [.pbox [.own 3 W V,U],.agg [Z,Af Y,.sc (.string X)]] fun call=>As (decide (W*3<=V.length))<|Bk (call 87 [.pbox [.own 3 W (V.take (W*3)),U]]) fun a b=>V1 a fun a=>Av b fun b c=>Tz 3 b fun b e f=>Dk .i64 f fun f=>Aq c<|A3 a (As (decide (b*3<=e.length))<|some ⟨[(2:Int)],[[.own 3 b (e.take (b*3)),f]]⟩) (As (decide (b*3<=e.length))<|Bk (call 122 [.pbox [.own 3 b (e.take (b*3)),f],Z]) fun a b=>Dk .i64 a fun a=>Av b fun b c=>Tz 3 b fun b e f=>Dk .i64 f fun f=>Aq c<|A3 (a != 0) (As (decide (b*3<=e.length))<|some ⟨[a],[[.own 3 b (e.take (b*3)),f]]⟩) (Dm (call 146 [.agg [Z,Af Y,.sc (.string X)]]) fun a c=>Cg a fun a=>Aq c<|A3 (!a) (As (decide (b*3<=e.length))<|some ⟨[(4:Int)],[[.own 3 b (e.take (b*3)),f]]⟩) (A3 (decide ((↑(ByteArray.size X):Int)>1024)) (As (decide (b*3<=e.length))<|some ⟨[(8:Int)],[[.own 3 b (e.take (b*3)),f]]⟩) (A3 (Z==5) (A3 (decide (Y>512)) (As (decide (b*3<=e.length))<|some ⟨[(8:Int)],[[.own 3 b (e.take (b*3)),f]]⟩) (As (decide (b*3<=e.length))<|Bk (call 123 [.pbox [.own 3 b (e.take (b*3)),f],.agg [Z,Af Y,.sc (.string X)]]) fun a b=>Dk .i64 a fun a=>Av b fun b c=>Tz 3 b fun b e f=>Dk .i64 f fun f=>Aq c<|As (decide (b*3<=e.length))<|some ⟨[a],[[.own 3 b (e.take (b*3)),f]]⟩)) (A3 (Z==6) (A3 (decide (Y>512)) (As (decide (b*3<=e.length))<|some ⟨[(8:Int)],[[.own 3 b (e.take (b*3)),f]]⟩) (As (decide (b*3<=e.length))<|Bk (call 123 [.pbox [.own 3 b (e.take (b*3)),f],.agg [Z,Af Y,.sc (.string X)]]) fun a b=>Dk .i64 a fun a=>Av b fun b c=>Tz 3 b fun b e f=>Dk .i64 f fun f=>Aq c<|As (decide (b*3<=e.length))<|some ⟨[a],[[.own 3 b (e.take (b*3)),f]]⟩)) (As (decide (b*3<=e.length))<|Bk (call 123 [.pbox [.own 3 b (e.take (b*3)),f],.agg [Z,Af Y,.sc (.string X)]]) fun a b=>Dk .i64 a fun a=>Av b fun b c=>Tz 3 b fun b e f=>Dk .i64 f fun f=>Aq c<|As (decide (b*3<=e.length))<|some ⟨[a],[[.own 3 b (e.take (b*3)),f]]⟩)))))):=by show _=_;kernel_rfl
def Mj(Z:Nat)(Y:Ab)(X W:Nat)(V:Ab)(U T:Int)(S:Nat)(Q:Int)(P:Ab):Option D0:=Mg fu call 107 Tryz.f107 [Ap 3 Z Y] [.r,.r,.l,.r,.l] X ⟨lk [(3,.ptr 3 0),(7,Ap 3 W V),(8,U),(9,T)],B0 [(3,.st [.view 25 3 0 S,Q]),(25,.ar false P)]⟩
theorem Ur(S:Nat)(Q:Ab)(P V:Nat)(X:Ab)(U Z:Int)(Y:Nat)(T:Int)(W:Ab):Mj fu call S Q (P+1) V X U Z Y T W=(A3 (decide (Z<U)) (As (decide (0<=Z)&&decide (Z<(↑V:Int)))<|Be .i64 (X.getD (Z.toNat*3) .top) fun a=>Be .u64 (X.getD (Z.toNat*3+1) .top) fun b=>D8 (X.getD (Z.toNat*3+1+1) .top) fun c=>As (decide (Y*3<=W.length))<|Bk (call 132 [.pbox [.own 3 Y (W.take (Y*3)),T],.agg [a,Af b,.sc (.string c)]]) fun a b=>Dk .i64 a fun a=>Av b fun b c=>Tz 3 b fun b e f=>Dk .i64 f fun f=>Aq c<|A3 (a != 0) (Bv [a]) (Aa (wrap .i64 (Z+1)) fun a=>Mj fu call S Q P V X U a b f e)) (As (decide (Y*3<=W.length))<|Bk (call 87 [.pbox [.own 3 Y (W.take (Y*3)),T]]) fun a b=>V1 a fun a=>Av b fun b c=>Tz 3 b fun b e f=>Dk .i64 f fun b=>Aq c<|A3 (!a) (Bv [(1:Int)]) (Bv [(0:Int)]))):=by kernel_rfl
theorem RV(Z:Nat)(Y:Ab):Fn C0 fu d 107 [Ap 3 Z Y] fun call=>Mj fu call Z Y fu Z Y (↑Z:Int) 0 0 0 ([]):=by show _=_;kernel_rfl
theorem TK(Z:Nat)(Y:Ab):Fn C0 fu d 106 [.own 3 Z Y] fun call=>As (decide (0+Z*3<=Y.length))<|Na .i64 (call 107 [Ap 3 Z (List.take (Z*3) (Y.drop 0))]) fun a=>A3 (a != 0) (Bv [.own 3 0 [],a]) (As (decide (Z*3<=Y.length))<|Bv [.own 3 Z (Y.take (Z*3)),(0:Int)]):=by show _=_;kernel_rfl
def Po(Z:Nat)(Y:Ab)(X W:Nat)(V:Ab)(U T:Int):Option D0:=Mg fu call 105 Tryz.f105 [Ap 1 Z Y] [.r,.l,.r,.l] X ⟨lk [(6,Ap 1 W V),(7,U),(8,T)],B0 []⟩
theorem Ya(V:Nat)(U:Ab)(T Y:Nat)(X:Ab)(W Z:Int):Po fu call V U (T+1) Y X W Z=(A3 (decide (Z<W)) (As (decide (0<=Z)&&decide (Z<(↑Y:Int)))<|Pq 3 (X.getD (Z.toNat*1) .top) fun a b c=>Na .i64 (call 107 [Ap 3 b c]) fun a=>A3 (a != 0) (Bv [a]) (Aa (wrap .i64 (Z+1)) fun a=>Po fu call V U T Y X W a)) (Bv [(0:Int)])):=by kernel_rfl
theorem YM(Z:Nat)(Y:Ab):Fn C0 fu d 105 [Ap 1 Z Y] fun call=>Po fu call Z Y fu Z Y (↑Z:Int) 0:=by show _=_;kernel_rfl
def Q6(Z:Nat)(Y:Ab)(X W V:Nat)(U:Ab)(T S:Int)(Q:Ab):Option D0:=Mg fu call 63 Tryz.f63 [Ap 1 Z Y] [.r,.r,.r,.l,.r,.l] X ⟨lk [(5,.view 5 3 0 W),(18,Ap 1 V U),(19,T),(20,S)],B0 [(5,.ar false Q)]⟩
theorem BB(T:Nat)(S:Ab)(Q Z W:Nat)(V:Ab)(U X:Int)(Y:Ab):Q6 fu call T S (Q+1) Z W V U X Y=(A3 (decide (X<U)) (As (decide (0<=X)&&decide (X<(↑W:Int)))<|Pq 3 (V.getD (X.toNat*1) .top) fun a b c=>A3 (decide ((↑Z:Int)>512)) (As (decide (Z*3<=Y.length))<|Bk (call 106 [.own 3 Z (Y.take (Z*3))]) fun a b=>Tz 3 a fun a c e=>Dk .i64 e fun e=>Aq b<|As (decide (a*3<=c.length))<|Bv [.own 3 a (c.take (a*3)),e]) (As (decide (Z*3<=Y.length)&&decide (c.length=b*3)&&decide ((Z+b)*32<=1099511627776)&&decide (Z+b<=1099511627776))<|Aa (Z+b) fun a=>Aa (List.take (Z*3) Y++c) fun b=>Aa (wrap .i64 (X+1)) fun c=>Q6 fu call T S Q a W V U c b)) (As (decide (Z*3<=Y.length))<|Bk (call 106 [.own 3 Z (Y.take (Z*3))]) fun a b=>Tz 3 a fun a c e=>Dk .i64 e fun e=>Aq b<|As (decide (a*3<=c.length))<|Bv [.own 3 a (c.take (a*3)),e])):=by kernel_rfl
theorem Aci(Z:Nat)(Y:Ab):Fn C0 fu d 63 [Ap 1 Z Y] fun call=>Na .i64 (call 105 [Ap 1 Z Y]) fun a=>A3 (a != 0) (Bv [.own 3 0 [],a]) (Aa (wrap .u64 (↑Z:Int)) fun a=>Q6 fu call Z Y fu 1 Z Y (↑Z:Int) 0 ([(5:Int),Af a,.sc (.string (ByteArray.mk #[]))])):=by show _=_;kernel_rfl
def Ou(Z:Nat)(Y:Ab)(X W V:Nat)(U:Ab)(T S:Int)(Q:Ab):Option D0:=Mg fu call 65 Tryz.f65 [Ap 3 Z Y] [.r,.r,.r,.l,.r,.l] X ⟨lk [(5,.view 5 1 0 W),(13,Ap 3 V U),(14,T),(15,S)],B0 [(5,.ar false Q)]⟩
theorem Yo(T:Nat)(S:Ab)(Q Y V:Nat)(X:Ab)(U Z:Int)(W:Ab):Ou fu call T S (Q+1) Y V X U Z W=(A3 (decide (Z<U)) (As (decide (0<=Z)&&decide (Z<(↑V:Int)))<|Be .i64 (X.getD (Z.toNat*3) .top) fun a=>Be .u64 (X.getD (Z.toNat*3+1) .top) fun b=>D8 (X.getD (Z.toNat*3+1+1) .top) fun c=>As (decide (Y*1<=W.length))<|Bk (call 108 [.own 1 Y (W.take (Y*1)),.agg [a,Af b,.sc (.string c)]]) fun a b=>Tz 1 a fun a c e=>Aq e<|Aq b<|Aa (wrap .i64 (Z+1)) fun b=>Ou fu call T S Q a V X U b c) (As (decide (Y*1<=W.length))<|Bv [.own 1 Y (W.take (Y*1)),(0:Int)])):=by kernel_rfl
theorem YH(Z:Nat)(Y:Ab):Fn C0 fu d 65 [Ap 3 Z Y] fun call=>Na .i64 (call 107 [Ap 3 Z Y]) fun a=>A3 (a != 0) (Bv [.own 1 0 [],a]) (Ou fu call Z Y fu 0 Z Y (↑Z:Int) 0 ([])):=by show _=_;kernel_rfl
end
section
variable {xs:FuncId->Option (Ab->Option D0)}(fu d:Nat)(call:Bp)
theorem HG(Z Y:ByteArray):Fn C0 fu d 140 [.sc (.string Z),.sc (.string Y)] fun call=>A3 ((↑(ByteArray.size Z):Int) != (↑(ByteArray.size Y):Int)) (Bv [.sc (.bool (decide ((↑(ByteArray.size Z):Int)<(↑(ByteArray.size Y):Int))))]) (Bv [.sc (.bool (Op.bytesLess (Array.toList (ByteArray.data Z)) (Array.toList (ByteArray.data Y))))]):=by show _=_;kernel_rfl
theorem FX(Z:Int):Fn C0 fu d 139 [Z] fun call=>A3 (Z==1) (Bv [.sc (.bool true)]) (A3 (Z==2) (Bv [.sc (.bool true)]) (Bv [.sc (.bool (Z==4))])):=by show _=_;kernel_rfl
def Eo(Z Y:Int)(X:ByteArray)(W:Nat)(V U:Int):Option D0:=Mg fu call 127 Tryz.f127 [.agg [Z,Af Y,.sc (.string X)]] [.r,.r,.r] W ⟨lk [(3,Af V),(4,.sc (.int .u8 U))],B0 []⟩
theorem BQ(W V:Int)(U:ByteArray)(X:Nat)(Mz:0<X)(Z Y:Int):Eo fu call W V U X Z Y=(A3 (decide (Z<24)) (Aa (wrap .u8 Z) fun a=>Aa (wrap .u8 (Y+a)) fun a=>Bv [.own 1 1 [.sc (.int .u8 a)]]) (A3 (decide (Z<256)) (Aa (wrap .u8 (Y+24)) fun a=>Aa (wrap .u8 Z) fun b=>Bv [.own 1 2 [.sc (.int .u8 a),.sc (.int .u8 b)]]) (A3 (decide (Z<65536)) (Aa (wrap .u8 (Y+25)) fun a=>Aa (F2 .u64 Z 8) fun b=>Aa (wrap .u8 b) fun b=>Aa (wrap .u8 Z) fun c=>Bv [.own 1 3 [.sc (.int .u8 a),.sc (.int .u8 b),.sc (.int .u8 c)]]) (A3 (decide (Z<4294967296)) (Aa (wrap .u8 (Y+26)) fun a=>Aa (F2 .u64 Z 24) fun b=>Aa (wrap .u8 b) fun b=>Aa (F2 .u64 Z 16) fun c=>Aa (wrap .u8 c) fun c=>Aa (F2 .u64 Z 8) fun e=>Aa (wrap .u8 e) fun e=>Aa (wrap .u8 Z) fun f=>Bv [.own 1 5 [.sc (.int .u8 a),.sc (.int .u8 b),.sc (.int .u8 c),.sc (.int .u8 e),.sc (.int .u8 f)]]) (Aa (wrap .u8 (Y+27)) fun a=>Dm (call 79 [Ap 1 1 [Af Z]]) fun b c=>Je 1 b fun b e=>Aq c<|As (decide (0+b*1<=e.length))<|As (decide (List.length (List.take (b*1) (e.drop 0))=b*1)&&decide ((1+b)*1<=1099511627776)&&decide (1+b<=1099511627776))<|Aa (1+b) fun c=>Aa ([.sc (.int .u8 a)]++List.take (b*1) (e.drop 0)) fun a=>As (decide (c*1<=a.length))<|Bv [.own 1 c (a.take (c*1))]))))):=by cases X with|zero=>exact absurd Mz (Nat.lt_irrefl 0)|succ X=>kernel_rfl
theorem HV(Z Y:Int)(X:ByteArray):Fn C0 fu d 127 [.agg [Z,Af Y,.sc (.string X)]] fun call=>A3 (Z==7) (Aa (wrap .u8 Y) fun a=>Aa (wrap .u8 (244+a)) fun a=>Bv [.own 1 1 [.sc (.int .u8 a)]]) (A3 (Z==8) (Bv [.own 1 1 [.sc (.int .u8 246)]]) (A3 (Z==2) (Eo fu call Z Y X fu Y 32) (A3 (Z==3) (Aa (wrap .u64 (↑(ByteArray.size X):Int)) fun a=>Eo fu call Z Y X fu a 64) (A3 (Z==4) (Aa (wrap .u64 (↑(ByteArray.size X):Int)) fun a=>Eo fu call Z Y X fu a 96) (A3 (Z==5) (Eo fu call Z Y X fu Y 128) (A3 (Z==6) (Eo fu call Z Y X fu Y 160) (Eo fu call Z Y X fu Y 0))))))):=by show _=_;kernel_rfl
theorem FS(Y X:Int)(Z:ByteArray):Fn C0 fu d 99 [.agg [Y,Af X,.sc (.string Z)]] fun call=>Dm (call 127 [.agg [Y,Af X,.sc (.string Z)]]) fun a b=>Je 1 a fun a c=>Aq b<|As (decide (0+a*1<=c.length))<|As (decide (List.length (List.take (a*1) (c.drop 0))=a))<|F3 (bytesOf (List.take (a*1) (c.drop 0))) fun a=>As (decide (ByteArray.size (ByteArray.mk (List.toArray a))+ByteArray.size Z<=9223372036854775807))<|Aa (ByteArray.mk (List.toArray a)++Z) fun a=>Bv [.sc (.string a)]:=by show _=_;kernel_rfl
def Dt(Z:ByteArray)(Y:Int)(X:Nat)(W:Ab)(V:Nat)(U T:Int)(S Q:Int)(P:ByteArray)(O:Int)(N:Nat)(M:Ab)(L K:Int)(J:ByteArray):Option D0:=Mg fu call 138 Tryz.f138 [.pbox [.sc (.string Z),Y,.own 3 X W]] [.r,.r,.r,.r,.r,.r,.r,.r,.r,.r,.r,.l,.r,.l] V ⟨lk [(0,.ptr 274000 0),(2,.ptr 2 0),(5,U),(7,T),(8,Af S),(9,Q)],B0 [(274000,.st [.sc (.string P),O,.view 274411 3 0 N]),(274411,.ar false M),(2,.st [L,Af K,.sc (.string J)])]⟩
theorem Kd(Q:ByteArray)(P:Int)(O:Nat)(N:Ab)(M:Nat)(W Y:Int)(T S:Int)(V:ByteArray)(U:Int)(Z:Nat)(X:Ab)(L K:Int)(J:ByteArray):Dt fu call Q P O N (M+1) W Y T S V U Z X L K J=(A3 (decide (S<Y)) (Aa (Hm .u64 T 8) fun a=>Aa (wrap .i64 (U+1)) fun b=>Aa (wrap .i64 (b+S)) fun b=>As (decide (0<=b))<|F3 ((Array.toList (ByteArray.data V))[b.toNat]?) fun b=>Aa (wrap .u64 (↑(UInt8.toNat b):Int)) fun b=>Aa (XH .u64 a b) fun a=>Aa (wrap .i64 (S+1)) fun b=>Dt fu call Q P O N M W Y a b V U Z X L K J) (As (decide (0<=Y)&&decide (Y<9))<|Be .u64 (List.getD [Af 0,Af 24,Af 256,Af 0,Af 65536,Af 0,Af 0,Af 0,Af 4294967296] (0+Y.toNat*1) .top) fun a=>A3 (decide (T<a)) (As (decide (Z*3<=X.length))<|some ⟨[.agg [(0:Int),Af 0,.sc (.string (ByteArray.mk #[]))],(2:Int)],[[.sc (.string V),U,.own 3 Z (X.take (Z*3))]]⟩) (Aa (wrap .i64 (1+Y)) fun a=>Aa (wrap .i64 (U+a)) fun a=>As (decide (0<=W)&&decide (W<6))<|Be .i64 (List.getD [(1:Int),(2:Int),(3:Int),(4:Int),(5:Int),(6:Int)] (0+W.toNat*1) .top) fun b=>As (decide (Z*3<=X.length))<|some ⟨[.agg [b,Af T,.sc (.string (ByteArray.mk #[]))],(0:Int)],[[.sc (.string V),a,.own 3 Z (X.take (Z*3))]]⟩))):=by kernel_rfl
theorem Vy(W:ByteArray)(X:Int)(Z:Nat)(Y:Ab):Fn C0 fu d 138 [.pbox [.sc (.string W),X,.own 3 Z Y]] fun call=>A3 (decide (X>=(↑(ByteArray.size W):Int))) (As (decide (Z*3<=Y.length))<|some ⟨[.agg [(0:Int),Af 0,.sc (.string (ByteArray.mk #[]))],(1:Int)],[[.sc (.string W),X,.own 3 Z (Y.take (Z*3))]]⟩) (As (decide (0<=X))<|F3 ((Array.toList (ByteArray.data W))[X.toNat]?) fun a=>A3 ((↑(UInt8.toNat a):Int)==244) (Aa (wrap .i64 (X+1)) fun b=>Aa (wrap .u8 ((↑(UInt8.toNat a):Int)-244)) fun a=>Aa (wrap .u64 a) fun a=>As (decide (Z*3<=Y.length))<|some ⟨[.agg [(7:Int),Af a,.sc (.string (ByteArray.mk #[]))],(0:Int)],[[.sc (.string W),b,.own 3 Z (Y.take (Z*3))]]⟩) (A3 ((↑(UInt8.toNat a):Int)==245) (Aa (wrap .i64 (X+1)) fun b=>Aa (wrap .u8 ((↑(UInt8.toNat a):Int)-244)) fun a=>Aa (wrap .u64 a) fun a=>As (decide (Z*3<=Y.length))<|some ⟨[.agg [(7:Int),Af a,.sc (.string (ByteArray.mk #[]))],(0:Int)],[[.sc (.string W),b,.own 3 Z (Y.take (Z*3))]]⟩) (A3 ((↑(UInt8.toNat a):Int)==246) (Aa (wrap .i64 (X+1)) fun a=>As (decide (Z*3<=Y.length))<|some ⟨[.agg [(8:Int),Af 0,.sc (.string (ByteArray.mk #[]))],(0:Int)],[[.sc (.string W),a,.own 3 Z (Y.take (Z*3))]]⟩) (Aa (F2 .u8 (↑(UInt8.toNat a):Int) 5) fun b=>Aa (wrap .i64 b) fun b=>Aa (Qg .u8 (↑(UInt8.toNat a):Int) 31) fun a=>Aa (wrap .i64 a) fun a=>A3 (decide (b>5)) (As (decide (Z*3<=Y.length))<|some ⟨[.agg [(0:Int),Af 0,.sc (.string (ByteArray.mk #[]))],(2:Int)],[[.sc (.string W),X,.own 3 Z (Y.take (Z*3))]]⟩) (A3 (decide (a>27)) (As (decide (Z*3<=Y.length))<|some ⟨[.agg [(0:Int),Af 0,.sc (.string (ByteArray.mk #[]))],(2:Int)],[[.sc (.string W),X,.own 3 Z (Y.take (Z*3))]]⟩) (A3 (decide (a>=24)) (Aa (wrap .i64 (a-24)) fun c=>Aa (wrap .u64 c) fun c=>As (decide (0<=c))<|Aa (Hm .i64 1 c) fun c=>Aa (wrap .i64 ((↑(ByteArray.size W):Int)-X)) fun e=>Aa (wrap .i64 (e-1)) fun e=>A3 (decide (e<c)) (As (decide (Z*3<=Y.length))<|some ⟨[.agg [(0:Int),Af 0,.sc (.string (ByteArray.mk #[]))],(1:Int)],[[.sc (.string W),X,.own 3 Z (Y.take (Z*3))]]⟩) (Aa (wrap .u64 a) fun a=>A3 (decide (c>0)) (Dt fu call W X Z Y fu b c 0 0 W X Z Y 0 0 (ByteArray.mk #[])) (Dt fu call W X Z Y fu b c a 0 W X Z Y 0 0 (ByteArray.mk #[])))) (Aa (wrap .i64 ((↑(ByteArray.size W):Int)-X)) fun c=>Aa (wrap .i64 (c-1)) fun c=>A3 (decide (c<0)) (As (decide (Z*3<=Y.length))<|some ⟨[.agg [(0:Int),Af 0,.sc (.string (ByteArray.mk #[]))],(1:Int)],[[.sc (.string W),X,.own 3 Z (Y.take (Z*3))]]⟩) (Aa (wrap .u64 a) fun a=>Dt fu call W X Z Y fu b 0 a 0 W X Z Y 0 0 (ByteArray.mk #[]))))))))):=by show _=_;kernel_rfl
def Ak(Z:ByteArray)(Y:Int)(X:Nat)(W:Ab)(V:Int)(U:Bool)(T:ByteArray)(S:Nat)(Q:Int)(P:Bool)(O:ByteArray)(N:Int)(M L:Bool)(K:ByteArray)(J:Int)(I:Nat)(H:Ab)(G E:Int)(D:ByteArray):Option D0:=Mg fu call 117 Tryz.f117 [.pbox [.sc (.string Z),Y,.own 3 X W],V,.sc (.bool U),.sc (.string T)] [.r,.r,.r,.r,.r,.r] S ⟨lk [(0,.ptr 382000 0),(1,Q),(2,.sc (.bool P)),(3,.sc (.string O)),(9,.ptr 9 0),(11,Af N),(12,.sc (.bool M)),(13,.sc (.bool L))],B0 [(382000,.st [.sc (.string K),J,.view 382573 3 0 I]),(382573,.ar false H),(9,.st [G,Af E,.sc (.string D)])]⟩
def Bc(Z:ByteArray)(Y:Int)(X:Nat)(W:Ab)(V:Int)(U:Bool)(T:ByteArray)(S:Nat)(Q P:Int)(O:Bool)(N:ByteArray)(M:Int)(L:ByteArray)(K:Int)(J:Nat)(I:Ab)(H G:Int)(E:ByteArray):Option D0:=Mg fu call 117 Tryz.f117 [.pbox [.sc (.string Z),Y,.own 3 X W],V,.sc (.bool U),.sc (.string T)] [.r,.r,.r,.r,.r,.r,.r,.r,.r,.r,.r,.r,.l,.r,.l] S ⟨lk [(0,.ptr 382000 0),(1,Q),(9,.ptr 9 0),(11,Af P),(13,.sc (.bool O)),(14,.sc (.string N)),(15,Af M)],B0 [(382000,.st [.sc (.string L),K,.view 382573 3 0 J]),(382573,.ar false I),(9,.st [H,Af G,.sc (.string E)])]⟩
theorem J9(Q:ByteArray)(P:Int)(O:Nat)(N:Ab)(M:Int)(L:Bool)(K:ByteArray)(E:Nat)(Mz:0<E)(J:Int)(G:Bool)(H:ByteArray)(U:Int)(D I:Bool)(W:ByteArray)(T:Int)(Z:Nat)(X:Ab)(Y S:Int)(V:ByteArray):Ak fu call Q P O N M L K E J G H U D I W T Z X Y S V=(A3 D (Aa (wrap .i64 U) fun a=>Aa (wrap .i64 (T+a)) fun a=>As (decide (0<=T))<|As (decide (0<=a))<|As (decide (T.toNat<=a.toNat)&&decide (a.toNat<=ByteArray.size W))<|Aa (ByteArray.extract W T.toNat a.toNat) fun a=>Aa (wrap .i64 U) fun b=>Aa (wrap .i64 (T+b)) fun b=>A3 (Y==4) (Dm (call 126 [.sc (.string a)]) fun c e=>Cg c fun c=>Aq e<|A3 (!c) (As (decide (Z*3<=X.length))<|some ⟨[(6:Int)],[[.sc (.string W),b,.own 3 Z (X.take (Z*3))]]⟩) (A3 G (A3 (!Array.toList (ByteArray.data H)==Array.toList (ByteArray.data (ByteArray.mk #[]))) (Dm (call 99 [.agg [Y,Af 0,.sc (.string a)]]) fun c e=>D8 c fun c=>Aq e<|Dm (call 140 [.sc (.string H),.sc (.string c)]) fun c e=>Cg c fun c=>Aq e<|A3 (!c) (As (decide (Z*3<=X.length))<|some ⟨[(7:Int)],[[.sc (.string W),b,.own 3 Z (X.take (Z*3))]]⟩) (Og Z 3 32 X [Y,Af 0,.sc (.string a)] fun c e=>Bc fu call Q P O N M L K fu J U I (ByteArray.mk #[]) 0 W b c e Y 0 a)) (Og Z 3 32 X [Y,Af 0,.sc (.string a)] fun c e=>Bc fu call Q P O N M L K fu J U I (ByteArray.mk #[]) 0 W b c e Y 0 a)) (Og Z 3 32 X [Y,Af 0,.sc (.string a)] fun c e=>Bc fu call Q P O N M L K fu J U I (ByteArray.mk #[]) 0 W b c e Y 0 a))) (A3 G (A3 (!Array.toList (ByteArray.data H)==Array.toList (ByteArray.data (ByteArray.mk #[]))) (Dm (call 99 [.agg [Y,Af 0,.sc (.string a)]]) fun c e=>D8 c fun c=>Aq e<|Dm (call 140 [.sc (.string H),.sc (.string c)]) fun c e=>Cg c fun c=>Aq e<|A3 (!c) (As (decide (Z*3<=X.length))<|some ⟨[(7:Int)],[[.sc (.string W),b,.own 3 Z (X.take (Z*3))]]⟩) (Og Z 3 32 X [Y,Af 0,.sc (.string a)] fun c e=>Bc fu call Q P O N M L K fu J U I (ByteArray.mk #[]) 0 W b c e Y 0 a)) (Og Z 3 32 X [Y,Af 0,.sc (.string a)] fun c e=>Bc fu call Q P O N M L K fu J U I (ByteArray.mk #[]) 0 W b c e Y 0 a)) (Og Z 3 32 X [Y,Af 0,.sc (.string a)] fun c e=>Bc fu call Q P O N M L K fu J U I (ByteArray.mk #[]) 0 W b c e Y 0 a))) (A3 (Y==4) (Dm (call 126 [.sc (.string V)]) fun a b=>Cg a fun a=>Aq b<|A3 (!a) (As (decide (Z*3<=X.length))<|some ⟨[(6:Int)],[[.sc (.string W),T,.own 3 Z (X.take (Z*3))]]⟩) (A3 G (A3 (!Array.toList (ByteArray.data H)==Array.toList (ByteArray.data (ByteArray.mk #[]))) (Dm (call 99 [.agg [Y,Af S,.sc (.string V)]]) fun a b=>D8 a fun a=>Aq b<|Dm (call 140 [.sc (.string H),.sc (.string a)]) fun a b=>Cg a fun a=>Aq b<|A3 (!a) (As (decide (Z*3<=X.length))<|some ⟨[(7:Int)],[[.sc (.string W),T,.own 3 Z (X.take (Z*3))]]⟩) (Og Z 3 32 X [Y,Af S,.sc (.string V)] fun a b=>Bc fu call Q P O N M L K fu J U I (ByteArray.mk #[]) 0 W T a b Y S V)) (Og Z 3 32 X [Y,Af S,.sc (.string V)] fun a b=>Bc fu call Q P O N M L K fu J U I (ByteArray.mk #[]) 0 W T a b Y S V)) (Og Z 3 32 X [Y,Af S,.sc (.string V)] fun a b=>Bc fu call Q P O N M L K fu J U I (ByteArray.mk #[]) 0 W T a b Y S V))) (A3 G (A3 (!Array.toList (ByteArray.data H)==Array.toList (ByteArray.data (ByteArray.mk #[]))) (Dm (call 99 [.agg [Y,Af S,.sc (.string V)]]) fun a b=>D8 a fun a=>Aq b<|Dm (call 140 [.sc (.string H),.sc (.string a)]) fun a b=>Cg a fun a=>Aq b<|A3 (!a) (As (decide (Z*3<=X.length))<|some ⟨[(7:Int)],[[.sc (.string W),T,.own 3 Z (X.take (Z*3))]]⟩) (Og Z 3 32 X [Y,Af S,.sc (.string V)] fun a b=>Bc fu call Q P O N M L K fu J U I (ByteArray.mk #[]) 0 W T a b Y S V)) (Og Z 3 32 X [Y,Af S,.sc (.string V)] fun a b=>Bc fu call Q P O N M L K fu J U I (ByteArray.mk #[]) 0 W T a b Y S V)) (Og Z 3 32 X [Y,Af S,.sc (.string V)] fun a b=>Bc fu call Q P O N M L K fu J U I (ByteArray.mk #[]) 0 W T a b Y S V)))):=by cases E with|zero=>exact absurd Mz (Nat.lt_irrefl 0)|succ E=>kernel_rfl
theorem Fl(P:ByteArray)(O:Int)(N:Nat)(M:Ab)(L:Int)(K:Bool)(J:ByteArray)(I:Nat)(X U:Int)(T:Bool)(H:ByteArray)(S:Int)(W:ByteArray)(V:Int)(Z:Nat)(Y:Ab)(Q G:Int)(E:ByteArray):Bc fu call P O N M L K J (I+1) X U T H S W V Z Y Q G E=(A3 T (A3 (decide (S<U)) (A3 (Q==6) (Aa (wrap .i64 (X+1)) fun a=>As (decide (Z*3<=Y.length))<|Bk (call 117 [.pbox [.sc (.string W),V,.own 3 Z (Y.take (Z*3))],a,.sc (.bool true),.sc (.string H)]) fun a b=>Dk .i64 a fun a=>Av b fun b c=>Av b fun b e=>D8 b fun b=>C2 .i64 e fun e f=>Tz 3 f fun f g h=>Aq h<|Aq c<|A3 (a != 0) (As (decide (f*3<=g.length))<|some ⟨[a],[[.sc (.string b),e,.own 3 f (g.take (f*3))]]⟩) (As (decide ((↑Z:Int)<(↑f:Int)))<|Be .i64 (g.getD (0+Int.toNat (↑Z:Int)*3) .top) fun a=>Be .u64 (g.getD (0+Int.toNat (↑Z:Int)*3+1) .top) fun c=>D8 (g.getD (0+Int.toNat (↑Z:Int)*3+1+1) .top) fun h=>Dm (call 99 [.agg [a,Af c,.sc (.string h)]]) fun a c=>D8 a fun a=>Aq c<|Aa (wrap .i64 (X+1)) fun c=>As (decide (f*3<=g.length))<|Bk (call 117 [.pbox [.sc (.string b),e,.own 3 f (g.take (f*3))],c,.sc (.bool false),.sc (.string (ByteArray.mk #[]))]) fun b c=>Dk .i64 b fun b=>Av c fun c e=>Av c fun c f=>D8 c fun c=>C2 .i64 f fun f g=>Tz 3 g fun g h i=>Aq i<|Aq e<|A3 (b != 0) (As (decide (g*3<=h.length))<|some ⟨[b],[[.sc (.string c),f,.own 3 g (h.take (g*3))]]⟩) (Aa (wrap .u64 (S+1)) fun b=>Bc fu call P O N M L K J I X U T a b c f g h Q G E))) (Aa (wrap .i64 (X+1)) fun a=>As (decide (Z*3<=Y.length))<|Bk (call 117 [.pbox [.sc (.string W),V,.own 3 Z (Y.take (Z*3))],a,.sc (.bool false),.sc (.string (ByteArray.mk #[]))]) fun a b=>Dk .i64 a fun a=>Av b fun b c=>Av b fun b e=>D8 b fun b=>C2 .i64 e fun e f=>Tz 3 f fun f g h=>Aq h<|Aq c<|A3 (a != 0) (As (decide (f*3<=g.length))<|some ⟨[a],[[.sc (.string b),e,.own 3 f (g.take (f*3))]]⟩) (Aa (wrap .u64 (S+1)) fun a=>Bc fu call P O N M L K J I X U T H a b e f g Q G E))) (As (decide (Z*3<=Y.length))<|some ⟨[(0:Int)],[[.sc (.string W),V,.own 3 Z (Y.take (Z*3))]]⟩)) (As (decide (Z*3<=Y.length))<|some ⟨[(0:Int)],[[.sc (.string W),V,.own 3 Z (Y.take (Z*3))]]⟩)):=by kernel_rfl
theorem V2(U:ByteArray)(T:Int)(W:Nat)(V:Ab)(Z:Int)(Y:Bool)(X:ByteArray):Fn C0 fu d 117 [.pbox [.sc (.string U),T,.own 3 W V],Z,.sc (.bool Y),.sc (.string X)] fun call=>As (decide (W*3<=V.length))<|Bk (call 138 [.pbox [.sc (.string U),T,.own 3 W (V.take (W*3))]]) fun a b=>Av a fun a c=>Dr a fun a=>C2 .i64 a fun a e=>C2 .u64 e fun e f=>Av f fun f g=>D8 f fun f=>Aq g<|Dk .i64 c fun c=>Av b fun b g=>Av b fun b h=>D8 b fun b=>C2 .i64 h fun h i=>Tz 3 i fun i j k=>Aq k<|Aq g<|A3 (c != 0) (As (decide (i*3<=j.length))<|some ⟨[c],[[.sc (.string b),h,.own 3 i (j.take (i*3))]]⟩) (A3 (a==3) (A3 (a==5) (A3 (decide ((↑i:Int)>=512)) (As (decide (i*3<=j.length))<|some ⟨[(8:Int)],[[.sc (.string b),h,.own 3 i (j.take (i*3))]]⟩) (A3 Y (Dm (call 139 [a]) fun c g=>Cg c fun c=>Aq g<|A3 (!c) (As (decide (i*3<=j.length))<|some ⟨[(3:Int)],[[.sc (.string b),h,.own 3 i (j.take (i*3))]]⟩) (A3 (decide (Z>8)) (As (decide (i*3<=j.length))<|some ⟨[(5:Int)],[[.sc (.string b),h,.own 3 i (j.take (i*3))]]⟩) (A3 (decide (e>1024)) (As (decide (i*3<=j.length))<|some ⟨[(8:Int)],[[.sc (.string b),h,.own 3 i (j.take (i*3))]]⟩) (A3 (decide (e>512)) (As (decide (i*3<=j.length))<|some ⟨[(8:Int)],[[.sc (.string b),h,.own 3 i (j.take (i*3))]]⟩) (Aa (wrap .i64 ((↑(ByteArray.size b):Int)-h)) fun c=>Aa (wrap .u64 c) fun c=>A3 (decide (c<e)) (As (decide (i*3<=j.length))<|some ⟨[(1:Int)],[[.sc (.string b),h,.own 3 i (j.take (i*3))]]⟩) (Ak fu call U T W V Z Y X fu Z Y X e true true b h i j a e f)))))) (A3 (decide (Z>8)) (As (decide (i*3<=j.length))<|some ⟨[(5:Int)],[[.sc (.string b),h,.own 3 i (j.take (i*3))]]⟩) (A3 (decide (e>1024)) (As (decide (i*3<=j.length))<|some ⟨[(8:Int)],[[.sc (.string b),h,.own 3 i (j.take (i*3))]]⟩) (A3 (decide (e>512)) (As (decide (i*3<=j.length))<|some ⟨[(8:Int)],[[.sc (.string b),h,.own 3 i (j.take (i*3))]]⟩) (Aa (wrap .i64 ((↑(ByteArray.size b):Int)-h)) fun c=>Aa (wrap .u64 c) fun c=>A3 (decide (c<e)) (As (decide (i*3<=j.length))<|some ⟨[(1:Int)],[[.sc (.string b),h,.own 3 i (j.take (i*3))]]⟩) (Ak fu call U T W V Z Y X fu Z Y X e true true b h i j a e f))))))) (A3 (decide ((↑i:Int)>=512)) (As (decide (i*3<=j.length))<|some ⟨[(8:Int)],[[.sc (.string b),h,.own 3 i (j.take (i*3))]]⟩) (A3 Y (Dm (call 139 [a]) fun c g=>Cg c fun c=>Aq g<|A3 (!c) (As (decide (i*3<=j.length))<|some ⟨[(3:Int)],[[.sc (.string b),h,.own 3 i (j.take (i*3))]]⟩) (A3 (decide (Z>8)) (As (decide (i*3<=j.length))<|some ⟨[(5:Int)],[[.sc (.string b),h,.own 3 i (j.take (i*3))]]⟩) (A3 (decide (e>1024)) (As (decide (i*3<=j.length))<|some ⟨[(8:Int)],[[.sc (.string b),h,.own 3 i (j.take (i*3))]]⟩) (A3 (a==6) (A3 (decide (e>512)) (As (decide (i*3<=j.length))<|some ⟨[(8:Int)],[[.sc (.string b),h,.own 3 i (j.take (i*3))]]⟩) (Aa (wrap .i64 ((↑(ByteArray.size b):Int)-h)) fun c=>Aa (wrap .u64 c) fun c=>A3 (decide (c<e)) (As (decide (i*3<=j.length))<|some ⟨[(1:Int)],[[.sc (.string b),h,.own 3 i (j.take (i*3))]]⟩) (Ak fu call U T W V Z Y X fu Z Y X e true (a==6) b h i j a e f))) (Aa (wrap .i64 ((↑(ByteArray.size b):Int)-h)) fun c=>Aa (wrap .u64 c) fun c=>A3 (decide (c<e)) (As (decide (i*3<=j.length))<|some ⟨[(1:Int)],[[.sc (.string b),h,.own 3 i (j.take (i*3))]]⟩) (Ak fu call U T W V Z Y X fu Z Y X e true (a==6) b h i j a e f)))))) (A3 (decide (Z>8)) (As (decide (i*3<=j.length))<|some ⟨[(5:Int)],[[.sc (.string b),h,.own 3 i (j.take (i*3))]]⟩) (A3 (decide (e>1024)) (As (decide (i*3<=j.length))<|some ⟨[(8:Int)],[[.sc (.string b),h,.own 3 i (j.take (i*3))]]⟩) (A3 (a==6) (A3 (decide (e>512)) (As (decide (i*3<=j.length))<|some ⟨[(8:Int)],[[.sc (.string b),h,.own 3 i (j.take (i*3))]]⟩) (Aa (wrap .i64 ((↑(ByteArray.size b):Int)-h)) fun c=>Aa (wrap .u64 c) fun c=>A3 (decide (c<e)) (As (decide (i*3<=j.length))<|some ⟨[(1:Int)],[[.sc (.string b),h,.own 3 i (j.take (i*3))]]⟩) (Ak fu call U T W V Z Y X fu Z Y X e true (a==6) b h i j a e f))) (Aa (wrap .i64 ((↑(ByteArray.size b):Int)-h)) fun c=>Aa (wrap .u64 c) fun c=>A3 (decide (c<e)) (As (decide (i*3<=j.length))<|some ⟨[(1:Int)],[[.sc (.string b),h,.own 3 i (j.take (i*3))]]⟩) (Ak fu call U T W V Z Y X fu Z Y X e true (a==6) b h i j a e f)))))))) (A3 (a==5) (A3 (decide ((↑i:Int)>=512)) (As (decide (i*3<=j.length))<|some ⟨[(8:Int)],[[.sc (.string b),h,.own 3 i (j.take (i*3))]]⟩) (A3 Y (Dm (call 139 [a]) fun c g=>Cg c fun c=>Aq g<|A3 (!c) (As (decide (i*3<=j.length))<|some ⟨[(3:Int)],[[.sc (.string b),h,.own 3 i (j.take (i*3))]]⟩) (A3 (decide (Z>8)) (As (decide (i*3<=j.length))<|some ⟨[(5:Int)],[[.sc (.string b),h,.own 3 i (j.take (i*3))]]⟩) (A3 (a==4) (A3 (decide (e>1024)) (As (decide (i*3<=j.length))<|some ⟨[(8:Int)],[[.sc (.string b),h,.own 3 i (j.take (i*3))]]⟩) (A3 (decide (e>512)) (As (decide (i*3<=j.length))<|some ⟨[(8:Int)],[[.sc (.string b),h,.own 3 i (j.take (i*3))]]⟩) (A3 (a==4) (Aa (wrap .i64 ((↑(ByteArray.size b):Int)-h)) fun c=>Aa (wrap .u64 c) fun c=>A3 (decide (c<e)) (As (decide (i*3<=j.length))<|some ⟨[(1:Int)],[[.sc (.string b),h,.own 3 i (j.take (i*3))]]⟩) (Ak fu call U T W V Z Y X fu Z Y X e (a==4) true b h i j a e f)) (Ak fu call U T W V Z Y X fu Z Y X e (a==4) true b h i j a e f)))) (A3 (decide (e>512)) (As (decide (i*3<=j.length))<|some ⟨[(8:Int)],[[.sc (.string b),h,.own 3 i (j.take (i*3))]]⟩) (A3 (a==4) (Aa (wrap .i64 ((↑(ByteArray.size b):Int)-h)) fun c=>Aa (wrap .u64 c) fun c=>A3 (decide (c<e)) (As (decide (i*3<=j.length))<|some ⟨[(1:Int)],[[.sc (.string b),h,.own 3 i (j.take (i*3))]]⟩) (Ak fu call U T W V Z Y X fu Z Y X e (a==4) true b h i j a e f)) (Ak fu call U T W V Z Y X fu Z Y X e (a==4) true b h i j a e f)))))) (A3 (decide (Z>8)) (As (decide (i*3<=j.length))<|some ⟨[(5:Int)],[[.sc (.string b),h,.own 3 i (j.take (i*3))]]⟩) (A3 (a==4) (A3 (decide (e>1024)) (As (decide (i*3<=j.length))<|some ⟨[(8:Int)],[[.sc (.string b),h,.own 3 i (j.take (i*3))]]⟩) (A3 (decide (e>512)) (As (decide (i*3<=j.length))<|some ⟨[(8:Int)],[[.sc (.string b),h,.own 3 i (j.take (i*3))]]⟩) (A3 (a==4) (Aa (wrap .i64 ((↑(ByteArray.size b):Int)-h)) fun c=>Aa (wrap .u64 c) fun c=>A3 (decide (c<e)) (As (decide (i*3<=j.length))<|some ⟨[(1:Int)],[[.sc (.string b),h,.own 3 i (j.take (i*3))]]⟩) (Ak fu call U T W V Z Y X fu Z Y X e (a==4) true b h i j a e f)) (Ak fu call U T W V Z Y X fu Z Y X e (a==4) true b h i j a e f)))) (A3 (decide (e>512)) (As (decide (i*3<=j.length))<|some ⟨[(8:Int)],[[.sc (.string b),h,.own 3 i (j.take (i*3))]]⟩) (A3 (a==4) (Aa (wrap .i64 ((↑(ByteArray.size b):Int)-h)) fun c=>Aa (wrap .u64 c) fun c=>A3 (decide (c<e)) (As (decide (i*3<=j.length))<|some ⟨[(1:Int)],[[.sc (.string b),h,.own 3 i (j.take (i*3))]]⟩) (Ak fu call U T W V Z Y X fu Z Y X e (a==4) true b h i j a e f)) (Ak fu call U T W V Z Y X fu Z Y X e (a==4) true b h i j a e f))))))) (A3 (decide ((↑i:Int)>=512)) (As (decide (i*3<=j.length))<|some ⟨[(8:Int)],[[.sc (.string b),h,.own 3 i (j.take (i*3))]]⟩) (A3 Y (Dm (call 139 [a]) fun c g=>Cg c fun c=>Aq g<|A3 (!c) (As (decide (i*3<=j.length))<|some ⟨[(3:Int)],[[.sc (.string b),h,.own 3 i (j.take (i*3))]]⟩) (A3 (decide (Z>8)) (As (decide (i*3<=j.length))<|some ⟨[(5:Int)],[[.sc (.string b),h,.own 3 i (j.take (i*3))]]⟩) (A3 (a==4) (A3 (decide (e>1024)) (As (decide (i*3<=j.length))<|some ⟨[(8:Int)],[[.sc (.string b),h,.own 3 i (j.take (i*3))]]⟩) (A3 (a==6) (A3 (decide (e>512)) (As (decide (i*3<=j.length))<|some ⟨[(8:Int)],[[.sc (.string b),h,.own 3 i (j.take (i*3))]]⟩) (A3 (a==4) (Aa (wrap .i64 ((↑(ByteArray.size b):Int)-h)) fun c=>Aa (wrap .u64 c) fun c=>A3 (decide (c<e)) (As (decide (i*3<=j.length))<|some ⟨[(1:Int)],[[.sc (.string b),h,.own 3 i (j.take (i*3))]]⟩) (Ak fu call U T W V Z Y X fu Z Y X e (a==4) (a==6) b h i j a e f)) (Ak fu call U T W V Z Y X fu Z Y X e (a==4) (a==6) b h i j a e f))) (A3 (a==4) (Aa (wrap .i64 ((↑(ByteArray.size b):Int)-h)) fun c=>Aa (wrap .u64 c) fun c=>A3 (decide (c<e)) (As (decide (i*3<=j.length))<|some ⟨[(1:Int)],[[.sc (.string b),h,.own 3 i (j.take (i*3))]]⟩) (Ak fu call U T W V Z Y X fu Z Y X e (a==4) (a==6) b h i j a e f)) (Ak fu call U T W V Z Y X fu Z Y X e (a==4) (a==6) b h i j a e f)))) (A3 (a==6) (A3 (decide (e>512)) (As (decide (i*3<=j.length))<|some ⟨[(8:Int)],[[.sc (.string b),h,.own 3 i (j.take (i*3))]]⟩) (A3 (a==4) (Aa (wrap .i64 ((↑(ByteArray.size b):Int)-h)) fun c=>Aa (wrap .u64 c) fun c=>A3 (decide (c<e)) (As (decide (i*3<=j.length))<|some ⟨[(1:Int)],[[.sc (.string b),h,.own 3 i (j.take (i*3))]]⟩) (Ak fu call U T W V Z Y X fu Z Y X e (a==4) (a==6) b h i j a e f)) (Ak fu call U T W V Z Y X fu Z Y X e (a==4) (a==6) b h i j a e f))) (A3 (a==4) (Aa (wrap .i64 ((↑(ByteArray.size b):Int)-h)) fun c=>Aa (wrap .u64 c) fun c=>A3 (decide (c<e)) (As (decide (i*3<=j.length))<|some ⟨[(1:Int)],[[.sc (.string b),h,.own 3 i (j.take (i*3))]]⟩) (Ak fu call U T W V Z Y X fu Z Y X e (a==4) (a==6) b h i j a e f)) (Ak fu call U T W V Z Y X fu Z Y X e (a==4) (a==6) b h i j a e f)))))) (A3 (decide (Z>8)) (As (decide (i*3<=j.length))<|some ⟨[(5:Int)],[[.sc (.string b),h,.own 3 i (j.take (i*3))]]⟩) (A3 (a==4) (A3 (decide (e>1024)) (As (decide (i*3<=j.length))<|some ⟨[(8:Int)],[[.sc (.string b),h,.own 3 i (j.take (i*3))]]⟩) (A3 (a==6) (A3 (decide (e>512)) (As (decide (i*3<=j.length))<|some ⟨[(8:Int)],[[.sc (.string b),h,.own 3 i (j.take (i*3))]]⟩) (A3 (a==4) (Aa (wrap .i64 ((↑(ByteArray.size b):Int)-h)) fun c=>Aa (wrap .u64 c) fun c=>A3 (decide (c<e)) (As (decide (i*3<=j.length))<|some ⟨[(1:Int)],[[.sc (.string b),h,.own 3 i (j.take (i*3))]]⟩) (Ak fu call U T W V Z Y X fu Z Y X e (a==4) (a==6) b h i j a e f)) (Ak fu call U T W V Z Y X fu Z Y X e (a==4) (a==6) b h i j a e f))) (A3 (a==4) (Aa (wrap .i64 ((↑(ByteArray.size b):Int)-h)) fun c=>Aa (wrap .u64 c) fun c=>A3 (decide (c<e)) (As (decide (i*3<=j.length))<|some ⟨[(1:Int)],[[.sc (.string b),h,.own 3 i (j.take (i*3))]]⟩) (Ak fu call U T W V Z Y X fu Z Y X e (a==4) (a==6) b h i j a e f)) (Ak fu call U T W V Z Y X fu Z Y X e (a==4) (a==6) b h i j a e f)))) (A3 (a==6) (A3 (decide (e>512)) (As (decide (i*3<=j.length))<|some ⟨[(8:Int)],[[.sc (.string b),h,.own 3 i (j.take (i*3))]]⟩) (A3 (a==4) (Aa (wrap .i64 ((↑(ByteArray.size b):Int)-h)) fun c=>Aa (wrap .u64 c) fun c=>A3 (decide (c<e)) (As (decide (i*3<=j.length))<|some ⟨[(1:Int)],[[.sc (.string b),h,.own 3 i (j.take (i*3))]]⟩) (Ak fu call U T W V Z Y X fu Z Y X e (a==4) (a==6) b h i j a e f)) (Ak fu call U T W V Z Y X fu Z Y X e (a==4) (a==6) b h i j a e f))) (A3 (a==4) (Aa (wrap .i64 ((↑(ByteArray.size b):Int)-h)) fun c=>Aa (wrap .u64 c) fun c=>A3 (decide (c<e)) (As (decide (i*3<=j.length))<|some ⟨[(1:Int)],[[.sc (.string b),h,.own 3 i (j.take (i*3))]]⟩) (Ak fu call U T W V Z Y X fu Z Y X e (a==4) (a==6) b h i j a e f)) (Ak fu call U T W V Z Y X fu Z Y X e (a==4) (a==6) b h i j a e f))))))))):=by show _=_;kernel_rfl
theorem DQ(Y:Nat)(Z:Ab):Fn C0 fu d 80 [Ap 1 Y Z] fun call=>As (decide (Z.length=Y))<|F3 (bytesOf Z) fun a=>Bk (call 117 [.pbox [.sc (.string (ByteArray.mk (List.toArray a))),(0:Int),.own 3 0 []],(0:Int),.sc (.bool false),.sc (.string (ByteArray.mk #[]))]) fun a b=>Dk .i64 a fun a=>Av b fun b c=>Av b fun b e=>D8 b fun b=>C2 .i64 e fun b e=>Tz 3 e fun e f g=>Aq g<|Aq c<|A3 (a != 0) (Bv [.own 3 0 [],(0:Int),a]) (As (decide (e*3<=f.length))<|Bv [.own 3 e (f.take (e*3)),b,(0:Int)]):=by show _=_;kernel_rfl
end
def Cy(s:ByteArray):Ca:=s.data.toList.map fun b=>(b.toNat:Int)
def Bj(l:Ca):ByteArray:=⟨(l.map fun n=>n.toNat.toUInt8).toArray⟩
theorem Gi(s:ByteArray):(Cy s).length=s.size:=by unfold Cy;rw[List.length_map];rfl
theorem Zp(s:ByteArray):Ii (Cy s):=by intro x hx;obtain⟨b,_,rfl⟩:=List.mem_map.1 hx;have:=b.toNat_lt;omega
theorem Lu(s:ByteArray):El s=Ac .u8 (Cy s):=by
 unfold El Cy
 induction s.data.toList with
 |nil=>rfl
 |cons b l ih=>rw[Sf,Sf,ih];rfl
theorem Hp(l:Ca):(Bj l).size=l.length:=by show (l.map fun n=>n.toNat.toUInt8).toArray.size=_;simp
theorem Pp{l:Ca}(h:Ii l):Cy (Bj l)=l:=by
 unfold Cy Bj;simp only[List.map_map]
 have:∀l:Ca,Ii l->List.map ((fun b:UInt8=>(b.toNat:Int)) ∘ fun n:Int=>n.toNat.toUInt8) l=l:=by
  intro l
  induction l with
  |nil=>intro _;rfl
  |cons x l ih=>
   intro h;have hx:=h x (by simp);rw[Sf,ih fun y hy=>h y (by simp[hy])]
   congr 1
   show ((x.toNat.toUInt8.toNat:Nat):Int)=x;rw[Nat.toUInt8,UInt8.toNat_ofNat'];omega
 exact this l h
theorem Tn(s:ByteArray):Bj (Cy s)=s:=by
 unfold Bj Cy;simp only[List.map_map]
 have:∀l:List UInt8,List.map ((fun n:Int=>n.toNat.toUInt8) ∘ fun b:UInt8=>(b.toNat:Int)) l=l:=by
  intro l
  induction l with
  |nil=>rfl
  |cons x l ih=>
   rw[Sf,ih]
   congr 1
   show ((x.toNat:Int).toNat).toUInt8=x;rw[H0];simp
 rw[this]
theorem G2:∀l:Ca,bytesOf (Ac .u8 l)=some (l.map fun n=>n.toNat.toUInt8)
 |[]=>rfl
 |x::l=>by
  show (bytesOf (Ac .u8 l)).map (x.toNat.toUInt8 :: ·)=_;rw[G2 l];rfl
theorem Aej(l:Ca)(s:ByteArray):Bj l++s=Bj (l++Cy s):=by
 conv=>lhs;rw[<-Tn s]
 unfold Bj;apply ByteArray.ext;rw[ByteArray.data_append];simp
def tb(n:Int)(k:Nat):Ca:=(List.range' (8-k) k).map (Ep n)
def Ea(mj n:Int):Ca:=
 if n<24 then [32*mj+n] else if n<256 then (32*mj+24)::tb n 1 else if n<65536 then (32*mj+25)::tb n 2 else if n<4294967296 then (32*mj+26)::tb n 4 else (32*mj+27)::tb n 8
structure It where
 k:Int
 n:Int
 s:ByteArray
def It.cells(x:It):Ab:=[At x.k,Af x.n,.sc (.string x.s)]
def B8(x:It):Ca:=
 if x.k=7 then [wrap .u8 (244+wrap .u8 x.n)] else if x.k=8 then [246] else if x.k=3 then Ea 2 x.s.size++Cy x.s else if x.k=4 then Ea 3 x.s.size++Cy x.s else Ea (x.k-1) x.n
theorem GU(n:Int)(k:Nat):(tb n k).length=k:=by simp[tb]
theorem Bbl(n:Int)(k:Nat):Ii (tb n k):=by intro x hx;obtain⟨j,_,rfl⟩:=List.mem_map.1 hx;exact Aes n j
theorem Kf(mj n:Int):1<=(Ea mj n).length/\(Ea mj n).length<=9:=by
 unfold Ea
 repeat' split
 all_goals simp[GU]
theorem Ab8{mj n:Int}(h0:0<=mj)(h1:mj<=6)(hn:0<=n):Ii (Ea mj n):=by
 have hc:∀(a:Int) (l:Ca),0<=a/\a<=255->Ii l->Ii (a::l):=by
  intro a l ha hl x hx;rcases B6.1 hx with rfl|hx
  ·exact ha
  ·exact hl x hx
 unfold Ea
 repeat' split
 ·exact hc _ _ (by omega) (fun _ h=>by simp at h)
 all_goals exact hc _ _ (by omega) (Bbl _ _)
theorem Aln{x:It}(h0:1<=x.k)(h1:x.k<=8)(hn:0<=x.n):Ii (B8 x):=by
 have A8e:∀(a b:Ca),Ii a->Ii b->Ii (a++b):=by
  intro a b ha hb y hy;rcases Bz.1 hy with h|h
  ·exact ha y h
  ·exact hb y h
 unfold B8
 repeat' split
 ·intro y hy;simp at hy;subst hy;simp only[wrap,IntKind.signed,IntKind.bits];simp;omega
 ·intro y hy;simp at hy;omega
 ·exact A8e _ _ (Ab8 (by omega) (by omega) (by omega)) (Zp _)
 ·exact A8e _ _ (Ab8 (by omega) (by omega) (by omega)) (Zp _)
 ·exact Ab8 (by omega) (by omega) hn
theorem Aai(x:It):(B8 x).length<=9+x.s.size:=by
 unfold B8;have h2:=Kf 2 x.s.size;have h3:=Kf 3 x.s.size;have h4:=Kf (x.k-1) x.n;have hs:=Gi x.s
 repeat' split
 all_goals try simp only[Fw,G7,Vx]
 all_goals omega
section
variable {fu d:Nat}
theorem ZZ{call:Bp}{P4:Nat}{a0:Ab}{a1 a2 n:Int}:∀(k nn:Nat)(l:Ca),k<=8->k<nn->l.length+k<=1000000 ->
  Fm fu call P4 a0 a1 a2 nn l.length n ((k:Int)-1) (Ac .u8 l)=some ⟨[.own 1 (l++tb n k).length (Ac .u8 (l++tb n k))],[]⟩
 |_,0,_,_,h,_=>by omega
 |0,nn+1,l,hk,hn,hl=>by
  have L:=Am .u8 l;rw[Rh,Ef _ _ _ (by omega)];simp(disch:=omega)only[B4,B3,Df,Mb,L];simp[tb]
 |k+1,nn+1,l,hk,hn,hl=>by
  have ih:=ZZ (call:=call) (P4:=P4) (a0:=a0) (a1:=a1) (a2:=a2) (n:=n) k nn (l++[Ep n (8-(k+1))]) (by omega) (by omega) (by simp;omega)
  have L:=Am .u8 l;have w8:wrap .i64 (8*(((k+1:Nat):Int)-1))=8*(k:Int):=by rw[Ag (by omega) (by omega)];omega
  have w:wrap .i64 (((k+1:Nat):Int)-1-1)=(k:Int)-1:=by rw[Ag (by omega) (by omega)];omega
  have hb:wrap .u8 (F2 .u64 n (8*(k:Int)))=Ep n (8-(k+1)):=by
   unfold Ep;rw[show 56-8*((8-(k+1):Nat):Int)=8*(k:Int) by omega]
  have et:tb n (k+1)=Ep n (8-(k+1))::tb n k:=by
   unfold tb;rw[List.range'_succ,Sf,show 8-(k+1)+1=8-k by omega]
  have ea:l++tb n (k+1)=l++[Ep n (8-(k+1))]++tb n k:=by rw[et];simp
  rw[ea,<-ih,Rh];simp(disch:=omega)only[B4,B3,w8,hb,w,Df,Mb,L,Hj,Fw,G7,Vx,Cm]
theorem Bcb{mj:Int}(h0:0<=mj)(h1:mj<=7):Hm .u8 mj 5=32*mj:=by
 have:mj=0\/mj=1\/mj=2\/mj=3\/mj=4\/mj=5\/mj=6\/mj=7:=by omega
 rcases this with rfl|rfl|rfl|rfl|rfl|rfl|rfl|rfl<;>decide
theorem Al3(Bn:1000<=fu){l:Ca}(hl:l.length<=900000){mj n:Int}(h0:0<=mj)(h1:mj<=5)(hn:0<=n):Ar C0 prog fu (d+1) 133 [.own 1 l.length (Ac .u8 l),.sc (.int .u8 mj),Af n]=some ⟨[.own 1 (l++Ea mj n).length (Ac .u8 (l++Ea mj n))],[]⟩:=by
 rw[MM];have s5:=Bcb h0 (by omega);have L:=Am .u8 l;have w24:wrap .u8 (32*mj+24)=32*mj+24:=Ia (by omega) (by omega);have w25:wrap .u8 (32*mj+25)=32*mj+25:=Ia (by omega) (by omega);have w26:wrap .u8 (32*mj+26)=32*mj+26:=Ia (by omega) (by omega);have w27:wrap .u8 (32*mj+27)=32*mj+27:=Ia (by omega) (by omega);have lp:=fun (k:Nat) (hk:k<=8) (b:Int)=>ZZ (fu:=fu) (call:=Ar C0 prog fu d) (P4:=l.length) (a0:=Ac .u8 l) (a1:=mj) (a2:=n) (n:=n) k fu (l++[b]) hk (by omega) (by simp;omega)
 have ec:∀(b:Int) (t:Ca),l++b::t=l++[b]++t:=by intro b t;simp
 unfold Ea;by_cases c1:n<24
 ·have wn:wrap .u8 n=n:=Ia (by omega) (by omega);have ws:wrap .u8 (32*mj+n)=32*mj+n:=Ia (by omega) (by omega);have L1:=Am .u8 (l++[32*mj+n]);have t1:=Mb .u8 (l++[32*mj+n]);simp only[Fw,G7,Vx,Cm] at L1 t1;rw[Bq c1];simp(disch:=omega)only[B4,B3,s5,wn,ws,Df,Mb,L,Hj,L1,t1,Fw,G7,Vx,Cm]
 ·by_cases c2:n<256
  ·have l1:=lp 1 (by omega) (32*mj+24);rw[show ((1:Nat):Int)-1=0 by omega] at l1;rw[A5 c1,Bq c2,ec,<-l1];simp(disch:=omega)only[B4,B3,s5,w24,Df,Mb,L,Hj,Fw,G7,Vx,Cm]
  ·by_cases c3:n<65536
   ·have l1:=lp 2 (by omega) (32*mj+25);rw[show ((2:Nat):Int)-1=1 by omega] at l1;rw[A5 c1,A5 c2,Bq c3,ec,<-l1];simp(disch:=omega)only[B4,B3,s5,w25,Df,Mb,L,Hj,Fw,G7,Vx,Cm]
   ·by_cases c4:n<4294967296
    ·have l1:=lp 4 (by omega) (32*mj+26);rw[show ((4:Nat):Int)-1=3 by omega] at l1;rw[A5 c1,A5 c2,A5 c3,Bq c4,ec,<-l1];simp(disch:=omega)only[B4,B3,s5,w26,Df,Mb,L,Hj,Fw,G7,Vx,Cm]
    ·have l1:=lp 8 (by omega) (32*mj+27);rw[show ((8:Nat):Int)-1=7 by omega] at l1;rw[A5 c1,A5 c2,A5 c3,A5 c4,ec,<-l1];simp(disch:=omega)only[B4,B3,s5,w27,Df,Mb,L,Hj,Fw,G7,Vx,Cm]
structure It.ok(x:It):Prop where
 k1:1<=x.k
 k8:x.k<=8
 n0:0<=x.n
 s0:x.s.size<=500000
theorem Aml(Bn:1000<=fu){l:Ca}(hl:l.length<=300000){x:It}(hx:x.ok):Ar C0 prog fu (d+2) 108 [.own 1 l.length (Ac .u8 l),.agg x.cells]=some ⟨[.own 1 (l++B8 x).length (Ac .u8 (l++B8 x))],[]⟩:=by
 obtain⟨k,n,s⟩:=x;obtain⟨k1,k8,n0,s0⟩:=hx;simp only at k1 k8 n0 s0;refine (KU fu (d+1) l.length (Ac .u8 l) k n s).trans ?_;have L:=Am .u8 l;have SD:=Gi s;unfold B8;simp only;by_cases c7:k=7
 ·subst c7;have L1:=Am .u8 (l++[wrap .u8 (244+wrap .u8 n)]);have t1:=Mb .u8 (l++[wrap .u8 (244+wrap .u8 n)]);simp only[Fw,G7,Vx,Cm] at L1 t1;simp(disch:=omega)only[B4,B3,Hn,if_true,Df,Mb,L,Hj,L1,t1,Fw,G7,Vx,Cm]
 ·by_cases c8:k=8
  ·subst c8;have L1:=Am .u8 (l++[246]);have t1:=Mb .u8 (l++[246]);simp only[Fw,G7,Vx,Cm] at L1 t1;rw[A5 c7,Bq rfl];simp(disch:=omega)only[B4,B3,Hn,c7,if_false,if_true,Df,Mb,L,Hj,L1,t1,Fw,G7,Vx,Cm]
  ·have dat:∀mj:Int,0<=mj->mj<=5->(Ar C0 prog fu (d+1) 133 [.own 1 l.length (Ac .u8 l),.sc (.int .u8 mj),Af s.size]=some ⟨[.own 1 (l++Ea mj s.size).length (Ac .u8 (l++Ea mj s.size))],[]⟩)/\(l++Ea mj s.size).length<=300009/\List.take (l++Ea mj s.size).length (Ac .u8 (l++Ea mj s.size))=Ac .u8 (l++Ea mj s.size)/\(Ac .u8 (l++Ea mj s.size)).length=(l++Ea mj s.size).length/\Ac .u8 (l++Ea mj s.size)++El s=Ac .u8 (l++(Ea mj s.size++Cy s))/\(l++(Ea mj s.size++Cy s)).length=(l++Ea mj s.size).length+s.size/\(Ac .u8 (l++(Ea mj s.size++Cy s))).length=(l++Ea mj s.size).length+s.size:=by
    intro mj h0 h1;have hh:=Kf mj s.size;refine⟨Al3 Bn (by omega) h0 h1 (by omega),by rw[Fw];omega,Mb _ _,Am _ _,?_,?_,?_⟩
    ·rw[Lu,<-FC,Ac,Ac,Ac,List.flatMap_append (xs:=l++Ea mj s.size)]
    ·rw[<-FC,Fw,SD]
    ·rw[Am,<-FC,Fw,SD]
   have ss:(El s).length=s.size:=by rw[Lu,Am,SD]
   have wsz:wrap .u64 (s.size:Int)=s.size:=Cd (by omega) (by omega);rw[A5 c7,A5 c8];by_cases c3:k=3
   ·subst c3;obtain⟨p1,p2,p3,p4,p5,p6,p7⟩:=dat 2 (by omega) (by omega);have w1:wrap .i64 ((3:Int)-1)=2:=by decide
    have w2:wrap .u8 (2:Int)=2:=by decide
    have t1:List.take ((l++Ea 2 s.size).length+s.size) (Ac .u8 (l++(Ea 2 s.size++Cy s)))=Ac .u8 (l++(Ea 2 s.size++Cy s)):=Gv (by omega);rw[Bq rfl];simp(disch:=omega)only[B4,B3,Hn,c7,c8,if_false,if_true,w1,w2,wsz,Df,Mb,L,p1];generalize (l++Ea 2 s.size).length=N at *
    simp(disch:=omega)only[B4,B3,Df,p3,p4,p5,p7,t1,ss];rw[p6]
   ·by_cases c4:k=4
    ·subst c4;obtain⟨p1,p2,p3,p4,p5,p6,p7⟩:=dat 3 (by omega) (by omega);have w1:wrap .i64 ((4:Int)-1)=3:=by decide
     have w2:wrap .u8 (3:Int)=3:=by decide
     have t1:List.take ((l++Ea 3 s.size).length+s.size) (Ac .u8 (l++(Ea 3 s.size++Cy s)))=Ac .u8 (l++(Ea 3 s.size++Cy s)):=Gv (by omega);rw[A5 c3,Bq rfl];simp(disch:=omega)only[B4,B3,Hn,c7,c8,c3,if_false,if_true,w1,w2,wsz,Df,Mb,L,p1];generalize (l++Ea 3 s.size).length=N at *
     simp(disch:=omega)only[B4,B3,Df,p3,p4,p5,p7,t1,ss];rw[p6]
    ·have w1:wrap .i64 (k-1)=k-1:=Ag (by omega) (by omega);have w2:wrap .u8 (k-1)=k-1:=Ia (by omega) (by omega);have p1:=Al3 (fu:=fu) (d:=d) Bn (l:=l) (by omega) (mj:=k-1) (n:=n) (by omega) (by omega) n0;have L2:=Am .u8 (l++Ea (k-1) n);have t2:=Mb .u8 (l++Ea (k-1) n);rw[A5 c3,A5 c4];simp(disch:=omega)only[B4,B3,Hn,c7,c8,c3,c4,if_false,w1,w2,Df,Mb,L,p1,L2,t2]
end
section
variable {xs:FuncId->Option (Ab->Option D0)}(fu d:Nat)(call:Bp)
theorem BN(Z Y X:Int):Fn C0 fu d 51 [Z,Y,X] fun call=>A3 (decide (Z>=Y)) (Bv [.sc (.bool (decide (Z<=X)))]) (Bv [.sc (.bool false)]):=by show _=_;kernel_rfl
theorem EA(Z:Int):Fn C0 fu d 56 [Z] fun call=>Aa (wrap .u64 Z) fun a=>Bv [.agg [(5:Int),Af a,.sc (.string (ByteArray.mk #[]))]]:=by show _=_;kernel_rfl
theorem FT(Z:ByteArray):Fn C0 fu d 97 [.sc (.string Z)] fun call=>Bv [.agg [(4:Int),Af 0,.sc (.string Z)]]:=by show _=_;kernel_rfl
theorem BS(Z:Int):Fn C0 fu d 57 [Af Z] fun call=>Bv [.agg [(1:Int),Af Z,.sc (.string (ByteArray.mk #[]))]]:=by show _=_;kernel_rfl
theorem FW(Y:Nat)(Z:Ab):Fn C0 fu d 98 [Ap 1 Y Z] fun call=>As (decide (Z.length=Y))<|F3 (bytesOf Z) fun a=>Bv [.agg [(3:Int),Af 0,.sc (.string (ByteArray.mk (List.toArray a)))]]:=by show _=_;kernel_rfl
def H9(Z:Nat)(Y:Ab)(X W:Nat)(V:Ab)(U:Nat)(T:Int)(S:Ab):Option D0:=Mg fu call 59 Tryz.f59 [Ap 3 Z Y] [.r,.r,.l,.r,.l] X ⟨lk [(0,Ap 3 W V),(3,.view 3 1 0 U),(4,T)],B0 [(3,.ar false S)]⟩
theorem Ny(U:Nat)(T:Ab)(S V:Nat)(X:Ab)(Z:Nat)(Y:Int)(W:Ab):H9 fu call U T (S+1) V X Z Y W=(A3 (decide (Y<(↑V:Int))) (As (decide (0<=Y)&&decide (Y<(↑V:Int)))<|Be .i64 (X.getD (Y.toNat*3) .top) fun a=>Be .u64 (X.getD (Y.toNat*3+1) .top) fun b=>D8 (X.getD (Y.toNat*3+1+1) .top) fun c=>Dm (call 99 [.agg [a,Af b,.sc (.string c)]]) fun a b=>D8 a fun a=>Aq b<|As (decide (Z*1<=W.length)&&decide (List.length (El a)=ByteArray.size a*1)&&decide ((Z+ByteArray.size a)*1<=1099511627776)&&decide (Z+ByteArray.size a<=1099511627776))<|Aa (Z+ByteArray.size a) fun b=>Aa (List.take (Z*1) W++El a) fun a=>Aa (wrap .i64 (Y+1)) fun c=>H9 fu call U T S V X b c a) (As (decide (Z*1<=W.length))<|Bv [.own 1 Z (W.take (Z*1))])):=by kernel_rfl
theorem CJ(Z:Nat)(Y:Ab):Fn C0 fu d 59 [Ap 3 Z Y] fun call=>H9 fu call Z Y fu Z Y 0 0 ([]):=by show _=_;kernel_rfl
end
def Yb(x:It):Ca:=
 if x.k=7 then [wrap .u8 (244+wrap .u8 x.n)] else if x.k=8 then [246] else if x.k=3 then Ea 2 x.s.size else if x.k=4 then Ea 3 x.s.size else Ea (x.k-1) x.n
def It.dat(x:It):Prop:=x.k=3\/x.k=4\/Cy x.s=[]
theorem Ao5{x:It}(h:x.dat):B8 x=Yb x++Cy x.s:=by
 unfold B8 Yb;by_cases c7:x.k=7
 ·rcases h with h|h|h
  ·omega
  ·omega
  ·simp[c7,h]
 ·by_cases c8:x.k=8
  ·rcases h with h|h|h
   ·omega
   ·omega
   ·simp[c8,h]
  ·by_cases c3:x.k=3
   ·simp[c3]
   ·by_cases c4:x.k=4
    ·simp[c4]
    ·rcases h with h|h|h
     ·omega
     ·omega
     ·simp[c7,c8,c3,c4,h]
theorem Aoa(x:It):(Yb x).length<=9:=by
 have h2:=Kf 2 x.s.size;have h3:=Kf 3 x.s.size;have h4:=Kf (x.k-1) x.n;unfold Yb
 repeat' split
 all_goals try simp only[G7,Vx]
 all_goals omega
theorem Aty(v:Int):F2 .u64 v 0=v:=by
 show v.fdiv (2 ^ (min (0:Int).toNat IntKind.u64.bits))=v;have:(2:Int) ^ (min (0:Int).toNat IntKind.u64.bits)=1:=by decide
 rw[this,Int.fdiv_one]
theorem tb1(v:Int):tb v 1=[wrap .u8 v]:=by show [wrap .u8 (F2 .u64 v (56-8*((7:Nat):Int)))]=_;rw[show (56:Int)-8*((7:Nat):Int)=0 by omega,Aty]
theorem tb2(v:Int):tb v 2=[wrap .u8 (F2 .u64 v 8),wrap .u8 v]:=by show [wrap .u8 (F2 .u64 v (56-8*((6:Nat):Int))),wrap .u8 (F2 .u64 v (56-8*((7:Nat):Int)))]=_;rw[show (56:Int)-8*((7:Nat):Int)=0 by omega,show (56:Int)-8*((6:Nat):Int)=8 by omega,Aty]
theorem tb4(v:Int):tb v 4=[wrap .u8 (F2 .u64 v 24),wrap .u8 (F2 .u64 v 16),wrap .u8 (F2 .u64 v 8),wrap .u8 v]:=by show [wrap .u8 (F2 .u64 v (56-8*((4:Nat):Int))),wrap .u8 (F2 .u64 v (56-8*((5:Nat):Int))),wrap .u8 (F2 .u64 v (56-8*((6:Nat):Int))),wrap .u8 (F2 .u64 v (56-8*((7:Nat):Int)))]=_;rw[show (56:Int)-8*((7:Nat):Int)=0 by omega,show (56:Int)-8*((6:Nat):Int)=8 by omega,show (56:Int)-8*((5:Nat):Int)=16 by omega,show (56:Int)-8*((4:Nat):Int)=24 by omega,Aty]
theorem tb8(v:Int):tb v 8=Ew v:=rfl
section
variable {fu d:Nat}
theorem Arc(Bn:1000<=fu){k n:Int}{s:ByteArray}{nn:Nat}(hn:0<nn){mj v:Int}(h0:0<=mj)(h1:mj<=5)(hv:0<=v):
  Eo fu (Ar C0 prog fu (d+1)) k n s nn v (32*mj)=some ⟨[.own 1 (Ea mj v).length (Ac .u8 (Ea mj v))],[]⟩:=by
 rw[BQ (Mz:=hn)];have w24:wrap .u8 (32*mj+24)=32*mj+24:=Ia (by omega) (by omega);have w25:wrap .u8 (32*mj+25)=32*mj+25:=Ia (by omega) (by omega);have w26:wrap .u8 (32*mj+26)=32*mj+26:=Ia (by omega) (by omega);have w27:wrap .u8 (32*mj+27)=32*mj+27:=Ia (by omega) (by omega);unfold Ea;by_cases c1:v<24
 ·have wn:wrap .u8 v=v:=Ia (by omega) (by omega);have ws:wrap .u8 (32*mj+v)=32*mj+v:=Ia (by omega) (by omega);rw[Bq c1];simp(disch:=omega)only[B4,B3,wn,ws];rfl
 ·by_cases c2:v<256
  ·rw[A5 c1,Bq c2,tb1];simp(disch:=omega)only[B4,B3,w24];rfl
  ·by_cases c3:v<65536
   ·rw[A5 c1,A5 c2,Bq c3,tb2];simp(disch:=omega)only[B4,B3,w25];rfl
   ·by_cases c4:v<4294967296
    ·rw[A5 c1,A5 c2,A5 c3,Bq c4,tb4];simp(disch:=omega)only[B4,B3,w26];rfl
    ·have wd:=Ayx (fu:=fu) (d:=d) Bn v;have L:=Am .u8 (Ew v);rw[Fb] at L;have t8:List.take 8 (Ac .u8 (Ew v))=Ac .u8 (Ew v):=Gv (by omega);have eC:[PV.sc (.int .u8 (32*mj+27))]++Ac .u8 (Ew v)=Ac .u8 ((32*mj+27)::Ew v):=rfl;have L9:(Ac .u8 ((32*mj+27)::Ew v)).length=9:=by rw[Am,G7,Fb]
     have t9:List.take 9 (Ac .u8 ((32*mj+27)::Ew v))=Ac .u8 ((32*mj+27)::Ew v):=Gv (by omega);rw[A5 c1,A5 c2,A5 c3,A5 c4,tb8,G7,Fb];simp(disch:=omega)only[B4,B3,w27,wd,Df,Cm,Es,L,t8,eC,Nat.reduceAdd,L9,t9]
theorem Asx(Bn:1000<=fu){x:It}(hx:x.ok):Ar C0 prog fu (d+2) 127 [.agg x.cells]=some ⟨[.own 1 (Yb x).length (Ac .u8 (Yb x))],[]⟩:=by
 obtain⟨k,n,s⟩:=x;obtain⟨k1,k8,n0,s0⟩:=hx;simp only at k1 k8 n0 s0;refine (HV fu (d+1) k n s).trans ?_;have wsz:wrap .u64 (s.size:Int)=s.size:=Cd (by omega) (by omega);have J:=fun (mj v:Int) (h0:0<=mj) (h1:mj<=5) (hv:0<=v)=>Arc (fu:=fu) (d:=d) Bn (k:=k) (n:=n) (s:=s) (nn:=fu) (by omega) h0 h1 hv;have j0:=J 0 n (by omega) (by omega) n0;have j1:=J 1 n (by omega) (by omega) n0;have j2:=J 2 s.size (by omega) (by omega) (by omega);have j3:=J 3 s.size (by omega) (by omega) (by omega);have j4:=J 4 n (by omega) (by omega) n0;have j5:=J 5 n (by omega) (by omega) n0;rw[show (32:Int)*0=0 by omega] at j0;rw[show (32:Int)*1=32 by omega] at j1;rw[show (32:Int)*2=64 by omega] at j2;rw[show (32:Int)*3=96 by omega] at j3;rw[show (32:Int)*4=128 by omega] at j4;rw[show (32:Int)*5=160 by omega] at j5;unfold Yb;simp only
 have:k=1\/k=2\/k=3\/k=4\/k=5\/k=6\/k=7\/k=8:=by omega
 rcases this with rfl|rfl|rfl|rfl|rfl|rfl|rfl|rfl
 ·simp only[B4,B3,Hn,Int.reduceEq,if_true,if_false,Int.reduceSub,j0]
 ·simp only[B4,B3,Hn,Int.reduceEq,if_true,if_false,Int.reduceSub,j1]
 ·simp only[B4,B3,Hn,Int.reduceEq,if_true,if_false,Int.reduceSub,wsz,j2]
 ·simp only[B4,B3,Hn,Int.reduceEq,if_true,if_false,Int.reduceSub,wsz,j3]
 ·simp only[B4,B3,Hn,Int.reduceEq,if_true,if_false,Int.reduceSub,j4]
 ·simp only[B4,B3,Hn,Int.reduceEq,if_true,if_false,Int.reduceSub,j5]
 ·simp only[B4,B3,Hn,Int.reduceEq,if_true,if_false];rfl
 ·simp only[B4,B3,Hn,Int.reduceEq,if_true,if_false];rfl
theorem EL(Bn:1000<=fu){x:It}(hx:x.ok)(hd:x.dat):Ar C0 prog fu (d+3) 99 [.agg x.cells]=some ⟨[.sc (.string (Bj (B8 x)))],[]⟩:=by
 refine (FS fu (d+2) x.k x.n x.s).trans ?_;have hr:=Asx (fu:=fu) (d:=d) Bn hx;have L:=Am .u8 (Yb x);have l9:=Aoa x;have bo:=G2 (Yb x);have eA:ByteArray.mk (List.map (fun n:Int=>n.toNat.toUInt8) (Yb x)).toArray=Bj (Yb x):=rfl;have sz:=Hp (Yb x);have s0:=hx.s0;have ap:Bj (Yb x)++x.s=Bj (B8 x):=by rw[Aej,Ao5 hd]
 simp only[It.cells] at hr;simp(disch:=omega)only[B4,B3,hr,Df,Cm,Es,Mb,L,bo,eA,sz,ap]
def Ay(its:List It):Ab:=its.flatMap It.cells
theorem It.cells_len(x:It):x.cells.length=3:=rfl
def Bi(its:List It):Ca:=its.flatMap B8
theorem OX{P4:Nat}{a0:Ab}{its:List It}(hk:∀x∈its,x.ok/\x.dat)(hl:its.length<=1000)(Bn:1000<=fu):∀(r:List It)(i nn:Nat)(b:Ca),its.drop i=r->r.length<nn->b.length+500010*r.length<=1000000000 ->
  H9 fu (Ar C0 prog fu (d+3)) P4 a0 nn its.length (Ay its) b.length i (Ac .u8 b)=some ⟨[.own 1 (b++Bi r).length (Ac .u8 (b++Bi r))],[]⟩
 |_,_,0,_,_,h,_=>by omega
 |[],i,nn+1,b,h,hn,hb=>by
  have:=drop_nil h;have L:=Am .u8 b;rw[Ny,Ef _ _ _ (by omega)];simp(disch:=omega)only[B4,B3,Df,Mb,L];simp[Bi]
 |x::r,i,nn+1,b,h,hn,hb=>by
  obtain⟨h1,h2,h3⟩:=Dc h;simp only[G7] at hn hb;obtain⟨ok,dt⟩:=hk x (List.mem_of_getElem? h2);have hil:=Aai x;have TU:=ok.s0;have g0:(Ay its).getD (i*3) .top=At x.k:=Hv It.cells_len h2 (j:=0) (by omega);have g1:(Ay its).getD (i*3+1) .top=Af x.n:=Hv It.cells_len h2 (j:=1) (by omega);have g2:(Ay its).getD (i*3+1+1) .top=.sc (.string x.s):=Hv It.cells_len h2 (j:=2) (by omega);have by_:=EL (fu:=fu) (d:=d) Bn ok dt;simp only[It.cells] at by_;have ih:=OX (P4:=P4) (a0:=a0) hk hl Bn r (i+1) nn (b++B8 x) h3 (by omega) (by rw[Fw];omega)
  have w:wrap .i64 ((i:Int)+1)=((i+1:Nat):Int):=by rw[Ag (by omega) (by omega)];omega
  have L:=Am .u8 b;have hB:=Aln ok.k1 ok.k8 ok.n0;have sc:El (Bj (B8 x))=Ac .u8 (B8 x):=by rw[Lu,Pp hB]
  have sz:=Hp (B8 x);have Li:=Am .u8 (B8 x);have ea:Ac .u8 b++Ac .u8 (B8 x)=Ac .u8 (b++B8 x):=by rw[Ac,Ac,Ac,List.flatMap_append]
  have ei:Bi (x::r)=B8 x++Bi r:=rfl;rw[ei,<-FC,<-ih,Ny];simp(disch:=omega)only[B4,B3,H0,g0,g1,g2,by_,sc,sz,Li,Df,Mb,L,ea,w,Fw]
theorem An3{its:List It}(hk:∀x∈its,x.ok/\x.dat)(hl:its.length<=900)(Bn:1000<=fu):Ar C0 prog fu (d+4) 59 [.lst false 3 its.length (Ay its)]=some ⟨[.own 1 (Bi its).length (Ac .u8 (Bi its))],[]⟩:=by rw[CJ];exact OX (fu:=fu) (d:=d) (P4:=its.length) (a0:=Ay its) hk (by omega) Bn its 0 fu [] rfl (by omega) (by simp;omega)
end
structure Ce where
 subj:ByteArray
 iss:ByteArray
 serial:Int
 key:Ky
 fr:Int
 un:Int
 auth:Bool
 path:Int
 model:Int
 sig:Sg
def Ce.cells(c:Ce):Ab:=[.sc (.string c.subj),.sc (.string c.iss),Af c.serial,At c.key.h,Af c.key.root,At c.fr,At c.un,.sc (.bool c.auth),At c.path,Af c.model,At c.sig.leaf,.lst false 1 c.sig.chains.length (Ac .u64 c.sig.chains),.lst false 1 c.sig.path.length (Ac .u64 c.sig.path)]
abbrev okS(s:ByteArray):Bool:=Lib.validD s.data.toList
abbrev Fv:ByteArray:=⟨#[]⟩
structure Ce.wf(c:Ce):Prop where
 ser:0<=c.serial
 mod:0<=c.model
section
variable {fu d:Nat}
theorem Vl(s:ByteArray)(h:s.size<=9223372036854775807):Ar C0 prog fu (d+1) 126 [.sc (.string s)]=some ⟨[.sc (.bool (okS s))],[]⟩:=by show UD [.sc (.string s)]=_;unfold UD;simp[h]
theorem OR(n lo hi:Int):Ar C0 prog fu (d+1) 51 [At n,At lo,At hi]=some ⟨[.sc (.bool (decide (lo<=n)&&decide (n<=hi)))],[]⟩:=by
 rw[BN];by_cases h:lo<=n
 ·simp(disch:=omega)only[B4,B3,h,decide_true,Zzm]
 ·simp(disch:=omega)only[B4,B3,h,decide_false,Zzs]
theorem Qo(n:Int)(h0:0<=n)(h1:n<=1000):Ar C0 prog fu (d+1) 56 [At n]=some ⟨[.agg [At 5,Af n,.sc (.string Fv)]],[]⟩:=by rw[EA];have w:wrap .u64 n=n:=Cd (by omega) (by omega);simp only[B4,B3,w]
theorem Arn(s:ByteArray):Ar C0 prog fu (d+1) 97 [.sc (.string s)]=some ⟨[.agg [At 4,Af 0,.sc (.string s)]],[]⟩:=by rw[FT]
theorem Qf(n:Int):Ar C0 prog fu (d+1) 57 [Af n]=some ⟨[.agg [At 1,Af n,.sc (.string Fv)]],[]⟩:=by rw[BS]
theorem Avc(l:Ca):Ar C0 prog fu (d+1) 98 [.lst false 1 l.length (Ac .u8 l)]=some ⟨[.agg [At 3,Af 0,.sc (.string (Bj l))]],[]⟩:=by rw[FW];have L:=Am .u8 l;have bo:=G2 l;simp(disch:=omega)only[B4,B3,L,bo];rfl
end
def NE(s:Sg):Int:=if D1 s.path.length=true then 9 else if Js s.leaf s.path.length=true then 9 else if s.chains.length≠18 then 4 else 0
theorem Ao6{seed h leaf m:Int}{s:Sg}(e:LH seed h leaf m=some s):s.chains.length=18/\s.path.length<=4:=by
 unfold LH at e;split at e
 ·cases e
 ·rename_i hh;split at e
  ·cases e
  ·cases e;have:=H7 (by simpa using hh);simp[M8];omega
section
variable {fu d:Nat}{c:Ce}
end
structure Il where
 p:Bool
 left:Int
 last:Ca
def Il.cells(f:Il):Ab:=[.sc (.bool f.p),At f.left,.lst false 1 f.last.length (Ac .u8 f.last)]
def G5(l:List Il):Ab:=l.flatMap Il.cells
theorem Il.cells_len(f:Il):f.cells.length=3:=rfl
theorem Ee(l:List Il):(G5 l).length=l.length*3:=Xk Il.cells_len l
theorem Ey(l:List Il):List.take (l.length*3) (G5 l)=G5 l:=Gv (by rw[Ee];omega)
def U6(l:List Il):Bool:=match l.getLast? with|some f=>f.p&&(Int.tmod f.left 2==0)|none=>false
def O8(l:List Il)(cnt k:Int):Int:=
 if cnt>=512 then 8 else if k<1 then 3 else if k>8 then 3 else if U6 l=true/\k≠1/\k≠2/\k≠4 then 3 else if (l.length:Int)>8 then 5 else 0
abbrev Ps(l:List Il)(cnt:Int):Ab:=[.own 3 l.length (G5 l),At cnt]
section
variable {fu d:Nat}
theorem Acj(l:List Il)(cnt:Int):Ar C0 prog fu (d+1) 87 [.pbox (Ps l cnt)]=some ⟨[.sc (.bool (decide (cnt>0)&&((l.length:Int)==0)))],[Ps l cnt]⟩:=by
 rw[NX];have L:=Ee l;have t:=Ey l;by_cases h:cnt>0
 ·simp(disch:=omega)only[B4,B3,h,decide_true,Zzm,L,t]
 ·simp(disch:=omega)only[B4,B3,h,decide_false,Zzs,L,t]
theorem TJ{l:List Il}(hl:l.length<=1000000)(cnt:Int):Ar C0 prog fu (d+1) 142 [.pbox (Ps l cnt)]=some ⟨[.sc (.bool (U6 l))],[Ps l cnt]⟩:=by
 rw[LF];have L:=Ee l;have t:=Ey l;unfold U6;rcases List.eq_nil_or_concat l with rfl|⟨l',f,rfl⟩
 ·have e0:¬(((([]:List Il).length:Nat):Int)>0):=by simp
  simp (disch:=first|assumption|omega) only[B4,B3,L,t]
  first|done|rfl
 ·have hn:(l'.concat f).length=l'.length+1:=by simp
  have hx:(l'.concat f)[l'.length]?=some f:=by simp
  have gl:(l'.concat f).getLast?=some f:=by simp
  have w:wrap .i64 (((l'.concat f).length:Int)-1)=(l'.length:Int):=by rw[Ag (by omega) (by omega)];omega
  have g0:(G5 (l'.concat f)).getD (l'.length*3) .top=.sc (.bool f.p):=Hv Il.cells_len hx (j:=0) (by omega);have g1:(G5 (l'.concat f)).getD (l'.length*3+1) .top=At f.left:=Hv Il.cells_len hx (j:=1) (by omega);rw[gl];cases hp:f.p
  ·rw[hp] at g0;simp(disch:=omega)only[B4,B3,w,H0,Cm,JF,g0,L,t,hp,Zzs]
  ·rw[hp] at g0;simp(disch:=omega)only[B4,B3,w,H0,Cm,JF,g0,g1,L,t,hp,Zzm]
theorem Ahn{l:List Il}(hl:l.length<=1000000)(cnt k:Int):Ar C0 prog fu (d+2) 122 [.pbox (Ps l cnt),At k]=some ⟨[At (O8 l cnt k)],[Ps l cnt]⟩:=by
 refine (LL fu (d+1) l.length (G5 l) cnt k).trans ?_;have L:=Ee l;have t:=Ey l;have ak:=TJ (fu:=fu) (d:=d) hl cnt;unfold Ps at ak;unfold O8;by_cases c1:cnt>=512
 ·rw[Bq c1];simp(disch:=omega)only[B4,B3,L,t]
 rw[A5 c1];by_cases c2:k<1
 ·rw[Bq c2];simp(disch:=omega)only[B4,B3,L,t]
 rw[A5 c2];by_cases c3:k>8
 ·rw[Bq c3];simp(disch:=omega)only[B4,B3,L,t]
 rw[A5 c3];cases ha:U6 l
 ·rw[ha] at ak;rw[A5 (by simp)];by_cases c5:(l.length:Int)>8
  ·rw[Bq c5];simp(disch:=omega)only[B4,B3,L,t,ak]
  ·rw[A5 c5];simp(disch:=omega)only[B4,B3,L,t,ak]
 ·rw[ha] at ak;by_cases c4:k≠1/\k≠2/\k≠4
  ·rw[Bq ⟨rfl,c4⟩];simp(disch:=omega)only[B4,B3,L,t,ak,Fj];rw[A5 c4.1,A5 c4.2.1,A5 c4.2.2]
  ·rw[A5 (fun h=>c4 h.2)];have hk:k=1\/k=2\/k=4:=by omega
   by_cases c5:(l.length:Int)>8
   ·rw[Bq c5];rcases hk with rfl|rfl|rfl<;>simp(disch:=omega)only[B4,B3,L,t,ak,Fj,Int.reduceEq,if_true,if_false]
   ·rw[A5 c5];rcases hk with rfl|rfl|rfl<;>simp(disch:=omega)only[B4,B3,L,t,ak,Fj,Int.reduceEq,if_true,if_false]
end
theorem Lx(l:List Il):l=[]\/∃l' f,l=l'++[f]:=by
 rcases List.eq_nil_or_concat l with h|⟨a,b,h⟩
 ·exact .inl h
 ·exact .inr ⟨a,b,by simpa using h⟩
def LP(l:List Il):List Il:=(l.reverse.dropWhile fun f=>f.left==0).reverse
theorem Aap{l:List Il}{f:Il}(h:f.left=0):LP (l++[f])=LP l:=by unfold LP;rw[List.reverse_append,List.reverse_singleton,List.singleton_append,List.dropWhile_cons_of_pos (by simp[h])]
theorem UG{l:List Il}{f:Il}(h:f.left≠0):LP (l++[f])=l++[f]:=by unfold LP;rw[List.reverse_append,List.reverse_singleton,List.singleton_append,List.dropWhile_cons_of_neg (by simp[h])];simp
def AZ(l:List Il):List Il:=match l.getLast? with|some f=>l.dropLast++[⟨f.p,wrap .i64 (f.left-1),f.last⟩]|none=>[]
def VE(l:List Il)(x:It):List Il:=
 if x.k=5/\x.n>0 then l++[⟨false,wrap .i64 x.n,[]⟩] else if x.k=6/\x.n>0 then l++[⟨true,wrap .i64 (2*wrap .i64 x.n),[]⟩] else l
def H1(l:List Il)(x:It):List Il:=LP (VE (AZ l) x)
theorem Wk(l:List Il)(f:Il):AZ (l++[f])=l++[⟨f.p,wrap .i64 (f.left-1),f.last⟩]:=by unfold AZ;simp
theorem IP(l:List Il):(AZ l).length=l.length:=by
 rcases Lx l with rfl|⟨l',f,rfl⟩
 ·rfl
 ·rw[Wk];simp
theorem Yk(a b:List Il):G5 (a++b)=G5 a++G5 b:=by unfold G5;rw[List.flatMap_append]
theorem Yt(f:Il):G5 [f]=f.cells:=by unfold G5;simp
section
variable {fu d:Nat}
theorem Abi{call:Bp}{Ka:Nat}{C7:Ab}{Ci MD LN:Int}{KD:ByteArray}{c:Int}:∀(n:Nat)(l:List Il)(r:Ab)(nn:Nat),l.length=n->n<nn->n<=1000000 ->
  Bm fu call Ka C7 Ci MD LN KD nn (l.length:Int) l.length c (G5 l++r)=some ⟨[],[Ps (LP l) c]⟩:=by
 intro n
 induction n with
 |zero=>
  intro l r nn hl hn _;obtain rfl:l=[]:=List.eq_nil_of_length_eq_zero hl;obtain⟨m,rfl⟩:∃m,nn=m+1:=⟨nn-1,by omega⟩
  have e0:¬(((([]:List Il).length:Nat):Int)>0):=by simp
  have e1:([]:List Il).length*3<=(G5 []++r).length:=by simp
  rw[S9];simp (disch:=first|assumption|omega) only[B4,B3];rfl
 |succ n ih=>
  intro l r nn hl hn hm;obtain⟨m,rfl⟩:∃m,nn=m+1:=⟨nn-1,by omega⟩
  rcases Lx l with rfl|⟨l',f,rfl⟩
  ·simp at hl
  have hn':(l'++[f]).length=l'.length+1:=by simp
  have hx:(l'++[f])[l'.length]?=some f:=by simp
  have w:wrap .i64 (((l'++[f]).length:Int)-1)=(l'.length:Int):=by rw[Ag (by omega) (by omega)];omega
  have L:=Ee (l'++[f]);have L2:(G5 (l'++[f])++r).length=(l'++[f]).length*3+r.length:=by rw[Fw,L]
  have t:List.take ((l'++[f]).length*3) (G5 (l'++[f])++r)=G5 (l'++[f]):=by rw[<-L,List.take_left'];rfl
  have g1:(G5 (l'++[f])++r).getD (l'.length*3+1) .top=At f.left:=by
   have:=Hv (f:=Il.cells) Il.cells_len hx (j:=1) (by omega);rw[List.getD_eq_getElem?_getD,List.getElem?_append_left (by rw[L];omega),<-List.getD_eq_getElem?_getD]
   exact this
  rw[S9];by_cases hz:f.left=0
  ·have e:G5 (l'++[f])++r=G5 l'++(f.cells++r):=by rw[Yk,Yt,FC]
   have q:=ih l' (f.cells++r) m (by omega) (by omega) (by omega);rw[<-e] at q;rw[Aap hz];have hb:(f.left==(0:Int))=true:=by simp[hz]
   simp(disch:=omega)only[B4,B3,w,H0,Cm,Nat.sub_zero,g1,hb,q]
  ·rw[UG hz];have hb:(f.left==(0:Int))=false:=by simp[hz]
   simp(disch:=omega)only[B4,B3,w,H0,Cm,g1,hb,L2,t]
theorem Ak8{l:List Il}{x:It}{cnt:Int}(hl:l.length<=100000)(hf:l.length+1<fu)(h0:0<=cnt)(h1:cnt<=1000000):
  Ar C0 prog fu (d+1) 144 [.pbox (Ps l cnt),.agg x.cells]=some ⟨[],[Ps (H1 l x) (cnt+1)]⟩:=by
 obtain⟨k,v,s⟩:=x;refine (OD fu d l.length (G5 l) cnt k v s).trans ?_;have w1:wrap .i64 (cnt+1)=cnt+1:=Ag (by omega) (by omega);unfold H1 VE;have DL:=IP l;generalize hD:AZ l=l1 at DL ⊢;have L1:(G5 l1).length=l.length*3:=by rw[Ee,DL]
 have t1:List.take (l.length*3) (G5 l1)=G5 l1:=Gv (by omega)
 have p5:∀b u,G5 l1++[.sc (.bool b),At u,.lst false 1 0 []]=G5 (l1++[⟨b,u,[]⟩]):=by
  intro b u;rw[Yk,Yt];rfl
 have lp0:∀call,Bm fu call l.length (G5 l) cnt k v s fu (l.length:Int) l.length (cnt+1) (G5 l1)=some ⟨[],[Ps (LP l1) (cnt+1)]⟩:=by
  intro call;have:=Abi (fu:=fu) (call:=call) (Ka:=l.length) (C7:=G5 l) (Ci:=cnt) (MD:=k) (LN:=v) (KD:=s) (c:=cnt+1) _ l1 [] fu rfl (by omega) (by omega);rw[List.append_nil,DL] at this;exact this
 have lp1:∀call f,Bm fu call l.length (G5 l) cnt k v s fu ((l.length+1:Nat):Int) (l.length+1) (cnt+1) (G5 (l1++[f]))=some ⟨[],[Ps (LP (l1++[f])) (cnt+1)]⟩:=by
  intro call f;have ll:(l1++[f]).length=l.length+1:=by simp[DL]
  have:=Abi (fu:=fu) (call:=call) (Ka:=l.length) (C7:=G5 l) (Ci:=cnt) (MD:=k) (LN:=v) (KD:=s) (c:=cnt+1) _ (l1++[f]) [] fu rfl (by omega) (by omega);rw[List.append_nil,ll] at this;exact this
 rcases Lx l with rfl|⟨l',f,rfl⟩
 ·have e0:¬(((([]:List Il).length:Nat):Int)>0):=by simp
  obtain rfl:l1=[]:=by rw[<-hD];rfl
  by_cases k5:k=5
  ·subst k5;by_cases hv:v>0
   ·rw[Bq ⟨rfl,hv⟩];simp (disch:=first|assumption|omega) only[B4,B3,w1,L1,t1,p5,lp1,Int.reduceBEq]
   ·rw[A5 (fun h=>hv h.2),A5 (fun h=>hv h.2)];simp (disch:=first|assumption|omega) only[B4,B3,w1,L1,t1,p5,lp0,Int.reduceBEq]
  ·have b5:(k==(5:Int))=false:=by simp[k5]
   rw[A5 (fun h=>k5 h.1)];by_cases k6:k=6
   ·subst k6;by_cases hv:v>0
    ·rw[Bq ⟨rfl,hv⟩];simp (disch:=first|assumption|omega) only[B4,B3,w1,L1,t1,p5,lp1,Int.reduceBEq]
    ·rw[A5 (fun h=>hv h.2)];simp (disch:=first|assumption|omega) only[B4,B3,w1,L1,t1,p5,lp0,Int.reduceBEq]
   ·have b6:(k==(6:Int))=false:=by simp[k6]
    rw[A5 (fun h=>k6 h.1)];simp (disch:=first|assumption|omega) only[B4,B3,w1,L1,t1,p5,lp0,b5,b6]
 ·have hn':(l'++[f]).length=l'.length+1:=by simp
  have hx:(l'++[f])[l'.length]?=some f:=by simp
  have w:wrap .i64 (((l'++[f]).length:Int)-1)=(l'.length:Int):=by rw[Ag (by omega) (by omega)];omega
  have L:=Ee (l'++[f]);have g1:(G5 (l'++[f])).getD (l'.length*3+1) .top=At f.left:=Hv Il.cells_len hx (j:=1) (by omega)
  have sp:Bx (G5 (l'++[f])) [At (wrap .i64 (f.left-1))] (l'.length*3+1)=G5 l1:=by
   rw[Hg (by omega),<-hD,Wk,Yk,Yk,Yt,Yt];have:=Ee l';rw[List.set_append_right _ _ (by omega)];have:l'.length*3+1-(G5 l').length=1:=by omega
   rw[this];rfl
  by_cases k5:k=5
  ·subst k5;by_cases hv:v>0
   ·rw[Bq ⟨rfl,hv⟩];simp (disch:=first|assumption|omega) only[B4,B3,w,w1,H0,Cm,g1,sp,L1,t1,p5,lp1,Int.reduceBEq]
   ·rw[A5 (fun h=>hv h.2),A5 (fun h=>hv h.2)];simp (disch:=first|assumption|omega) only[B4,B3,w,w1,H0,Cm,g1,sp,L1,t1,p5,lp0,Int.reduceBEq]
  ·have b5:(k==(5:Int))=false:=by simp[k5]
   rw[A5 (fun h=>k5 h.1)];by_cases k6:k=6
   ·subst k6;by_cases hv:v>0
    ·rw[Bq ⟨rfl,hv⟩];simp (disch:=first|assumption|omega) only[B4,B3,w,w1,H0,Cm,g1,sp,L1,t1,p5,lp1,Int.reduceBEq]
    ·rw[A5 (fun h=>hv h.2)];simp (disch:=first|assumption|omega) only[B4,B3,w,w1,H0,Cm,g1,sp,L1,t1,p5,lp0,Int.reduceBEq]
   ·have b6:(k==(6:Int))=false:=by simp[k6]
    rw[A5 (fun h=>k6 h.1)];simp (disch:=first|assumption|omega) only[B4,B3,w,w1,H0,Cm,g1,sp,L1,t1,p5,lp0,b5,b6]
end
def MY(s:ByteArray):Bool:=Array.toList (ByteArray.data s)==Array.toList (ByteArray.data (ByteArray.mk #[]))
def K7(x:It):Bool:=
 if x.k=3 then x.n==0 else if x.k=4 then x.n==0 else if x.k=8 then (x.n==0)&&MY x.s else if x.k=7 then decide (x.n<=1)&&MY x.s else MY x.s
section
variable {fu d:Nat}
theorem Ana(x:It):Ar C0 prog fu (d+1) 146 [.agg x.cells]=some ⟨[.sc (.bool (K7 x))],[]⟩:=by
 obtain⟨k,n,s⟩:=x;refine (YP fu d k n s).trans ?_;unfold K7;show _=some (⟨[.sc (.bool (if k=3 then n==0 else if k=4 then n==0 else if k=8 then (n==0)&&MY s else if k=7 then decide (n<=1)&&MY s else MY s))],[]⟩:D0);by_cases h3:k=3
 ·subst h3;simp only[B4,B3,Int.reduceBEq,if_true]
 by_cases h4:k=4
 ·subst h4;simp only[B4,B3,Int.reduceBEq,Int.reduceEq,if_true,if_false]
 have b3:(k==(3:Int))=false:=by simp[h3]
 have b4:(k==(4:Int))=false:=by simp[h4]
 by_cases h8:k=8
 ·subst h8;cases hn:n==0<;>simp only[B4,B3,Int.reduceBEq,Int.reduceEq,if_true,if_false,hn,Zzm,Zzs]<;>rfl
 have b8:(k==(8:Int))=false:=by simp[h8]
 by_cases h7:k=7
 ·subst h7;cases hn:decide (n<=1)<;>simp only[B4,B3,Int.reduceBEq,Int.reduceEq,if_true,if_false,hn,Zzm,Zzs]<;>rfl
 have b7:(k==(7:Int))=false:=by simp[h7]
 simp only[B4,B3,b3,b4,b8,b7,A5 h3,A5 h4,A5 h8,A5 h7];rfl
theorem PO{l:List Il}{x:It}{cnt:Int}(hl:l.length<=1000)(hf:l.length+1<fu)(h0:0<=cnt)(h1:cnt<=1000000)(ha:U6 l=false)(hs:x.s.size<=100000)(hv:x.k=4->Lib.validD x.s.data.toList=true):
  Ar C0 prog fu (d+2) 123 [.pbox (Ps l cnt),.agg x.cells]=some ⟨[At 0],[Ps (H1 l x) (cnt+1)]⟩:=by
 have st:=Ak8 (fu:=fu) (d:=d) (l:=l) (x:=x) (cnt:=cnt) (by omega) hf h0 h1;have ak:=TJ (fu:=fu) (d:=d) (l:=l) (by omega) cnt;have L:=Ee l;have t:=Ey l;have L2:=Ee (H1 l x);have t2:=Ey (H1 l x);rw[ha] at ak;generalize hE:H1 l x=E at *
 obtain⟨k,n,s⟩:=x;have va:=Vl (fu:=fu) (d:=d) s (Nat.le_trans hs (by omega));unfold okS at va;refine (Nk fu (d+1) l.length (G5 l) cnt k n s).trans ?_;unfold Ps It.cells at st;unfold Ps at ak;by_cases k4:k=4
 ·subst k4;rw[hv rfl] at va;simp(disch:=omega)only[B4,B3,Int.reduceBEq,va,Cv,L,t,ak,st,L2,t2]
 ·have b4:(k==(4:Int))=false:=by simp[k4]
  simp(disch:=omega)only[B4,B3,b4,L,t,ak,st,L2,t2]
theorem Arf{l:List Il}{x:It}{cnt:Int}(hl:l.length<=1000)(hf:l.length+1<fu)(h0:0<=cnt)(h1:cnt<=1000000)(ha:U6 l=false)(hs:x.s.size<=1024)(hv:x.k=4->Lib.validD x.s.data.toList=true)(hd:(decide (cnt>0)&&((l.length:Int)==0))=false)(hm:O8 l cnt x.k=0)(hsh:K7 x=true)(hn:x.n<=512\/(x.k≠5/\x.k≠6)):
  Ar C0 prog fu (d+3) 132 [.pbox (Ps l cnt),.agg x.cells]=some ⟨[At 0],[Ps (H1 l x) (cnt+1)]⟩:=by
 have ac:=PO (fu:=fu) (d:=d) (l:=l) (x:=x) (cnt:=cnt) hl hf h0 h1 ha (by omega) hv;have dn:=Acj (fu:=fu) (d:=d+1) l cnt;have ad:=Ahn (fu:=fu) (d:=d) (l:=l) (by omega) cnt x.k;have sh:=Ana (fu:=fu) (d:=d+1) x;rw[hd] at dn;rw[hm] at ad;rw[hsh] at sh;have L:=Ee l;have t:=Ey l;have L2:=Ee (H1 l x);have t2:=Ey (H1 l x);generalize hE:H1 l x=E at *
 obtain⟨k,n,s⟩:=x;have hs':¬((s.size:Int)>1024):=by have:s.size<=1024:=hs;omega
 refine (FV fu (d+2) l.length (G5 l) cnt k n s).trans ?_;unfold Ps It.cells at ac;unfold Ps at dn ad;unfold It.cells at sh;by_cases k5:k=5
 ·subst k5;have hn':¬(n>512):=hn.elim (fun h=>Int.not_lt.2 h) (fun h=>absurd rfl h.1);simp (disch:=first|assumption|omega) only[B4,B3,Int.reduceBEq,dn,ad,sh,ac,Cv,L,t,L2,t2,bne_self_eq_false]
 have b5:(k==(5:Int))=false:=by simp[k5]
 by_cases k6:k=6
 ·subst k6;have hn':¬(n>512):=hn.elim (fun h=>Int.not_lt.2 h) (fun h=>absurd rfl h.2);simp (disch:=first|assumption|omega) only[B4,B3,Int.reduceBEq,dn,ad,sh,ac,Cv,L,t,L2,t2,bne_self_eq_false]
 have b6:(k==(6:Int))=false:=by simp[k6]
 simp (disch:=first|assumption|omega) only[B4,B3,b5,b6,dn,ad,sh,ac,Cv,L,t,L2,t2,bne_self_eq_false]
end
theorem Cw(l:List It):(Ay l).length=l.length*3:=Xk It.cells_len l
structure A05(l:List Il)(cnt:Int)(x:It):Prop where
 hl:l.length<=100
 h0:0<=cnt
 h1:cnt<=1000
 ha:U6 l=false
 hs:x.s.size<=1024
 hv:x.k=4->Lib.validD x.s.data.toList=true
 hd:(decide (cnt>0)&&((l.length:Int)==0))=false
 hm:O8 l cnt x.k=0
 hsh:K7 x=true
 hn:x.n<=512\/(x.k≠5/\x.k≠6)
def S6:List Il->Int->List It->Prop
 |l,cnt,[]=>l=[]/\cnt>0
 |l,cnt,x::r=>A05 l cnt x/\S6 (H1 l x) (cnt+1) r
section
variable {fu d:Nat}
theorem YJ(Bn:200<=fu){l:List It}(hl:l.length<=100000){P4:Nat}{a0:Ab}:∀(r:List It)(i:Nat)(fs:List Il)(cnt:Int)(nn:Nat),l.drop i=r->i+r.length=l.length->r.length<nn->S6 fs cnt r ->
  Mj fu (Ar C0 prog fu (d+3)) P4 a0 nn l.length (Ay l) (l.length:Int) (i:Int) fs.length cnt (G5 fs)=some ⟨[At 0],[]⟩:=by
 intro r
 induction r with
 |nil=>
  intro i fs cnt nn hd hi hn hg;obtain⟨rfl,hc⟩:=hg;obtain⟨m,rfl⟩:∃m,nn=m+1:=⟨nn-1,by omega⟩
  rw[Vx,JF] at hi;rw[Ur];have dn:=Acj (fu:=fu) (d:=d+2) [] cnt;have e:(decide (cnt>0)&&(((([]:List Il).length:Nat):Int)==0))=true:=by simp[hc]
  rw[e] at dn;unfold Ps at dn;have L:=Ee [];have t:=Ey [];have c:¬((i:Int)<(l.length:Int)):=by omega
  simp (disch:=first|assumption|omega) only[B4,B3,L,t,dn,Cv]
 |cons x r ih=>
  intro i fs cnt nn hd hi hn hg;obtain⟨g,hg⟩:=hg;obtain⟨m,rfl⟩:∃m,nn=m+1:=⟨nn-1,by omega⟩
  rw[G7] at hi hn
  have hx:l[i]?=some x:=by
   have:=congrArg (fun q=>q[0]?) hd
   simpa using this
  have hd':l.drop (i+1)=r:=by
   have:=congrArg (List.drop 1) hd;rw[List.drop_drop] at this
   simpa using this
  have q:=ih (i+1) (H1 fs x) (cnt+1) m hd' (by omega) (by omega) hg;have ck:=Arf (fu:=fu) (d:=d) (l:=fs) (x:=x) (cnt:=cnt) (by have:=g.hl;omega) (by have:=g.hl;omega) g.h0 (by have:=g.h1;omega) g.ha g.hs g.hv g.hd g.hm g.hsh g.hn
  generalize H1 fs x=E at *
  have g0:(Ay l).getD (i*3) .top=At x.k:=Hv It.cells_len hx (j:=0) (by omega);have g1:(Ay l).getD (i*3+1) .top=Af x.n:=Hv It.cells_len hx (j:=1) (by omega);have g2:(Ay l).getD (i*3+1+1) .top=.sc (.string x.s):=Hv It.cells_len hx (j:=2) (by omega);have L:=Ee fs;have t:=Ey fs;have w:wrap .i64 ((i:Int)+1)=((i+1:Nat):Int):=by rw[Ag (by omega) (by omega)];omega
  rw[Ur];unfold Ps It.cells at ck;simp (disch:=first|assumption|omega) only[B4,B3,H0,g0,g1,g2,L,t,ck,bne_self_eq_false,w,q]
theorem Xf(Bn:200<=fu){l:List It}(hl:l.length<=100000)(hf:l.length<fu)(hg:S6 [] 0 l):Ar C0 prog fu (d+4) 107 [.lst false 3 l.length (Ay l)]=some ⟨[At 0],[]⟩:=by rw[RV];exact YJ Bn hl l 0 [] 0 fu rfl (by omega) hf hg
end
section
variable {fu d:Nat}
theorem Ahv(Bn:1000<=fu){l:List It}(hl:l.length<=100000){P4:Nat}{a0:Ab}:∀(r:List It)(i:Nat)(o:Ca)(nn:Nat),l.drop i=r->i+r.length=l.length->r.length<nn->(∀x∈r,x.ok)->(o++Bi r).length<=300000 ->
  Ou fu (Ar C0 prog fu (d+2)) P4 a0 nn o.length l.length (Ay l) (l.length:Int) (i:Int) (Ac .u8 o)=some ⟨[.own 1 (o++Bi r).length (Ac .u8 (o++Bi r)),At 0],[]⟩:=by
 intro r
 induction r with
 |nil=>
  intro i o nn hd hi hn hg hb;obtain⟨m,rfl⟩:∃m,nn=m+1:=⟨nn-1,by omega⟩
  rw[Vx,JF] at hi;have e:o++Bi []=o:=by simp[Bi]
  rw[e,Yo];have L:(Ac .u8 o).length=o.length:=Am _ _;have t:List.take o.length (Ac .u8 o)=Ac .u8 o:=Gv (by omega);have c:¬((i:Int)<(l.length:Int)):=by omega
  simp (disch:=first|assumption|omega) only[B4,B3,Df,L,t]
 |cons x r ih=>
  intro i o nn hd hi hn hg hb;obtain⟨m,rfl⟩:∃m,nn=m+1:=⟨nn-1,by omega⟩
  rw[G7] at hi hn
  have hx:l[i]?=some x:=by
   have:=congrArg (fun q=>q[0]?) hd
   simpa using this
  have hd':l.drop (i+1)=r:=by
   have:=congrArg (List.drop 1) hd;rw[List.drop_drop] at this
   simpa using this
  have e:o++Bi (x::r)=(o++B8 x)++Bi r:=by simp[Bi]
  rw[e] at hb ⊢
  have ho:o.length<=300000:=by
   rw[Fw,Fw] at hb;omega
  have q:=ih (i+1) (o++B8 x) m hd' (by omega) (by omega) (fun y hy=>hg y (Sh _ hy)) hb;have it:=Aml (fu:=fu) (d:=d) Bn (l:=o) ho (x:=x) (hg x (by simp));have g0:(Ay l).getD (i*3) .top=At x.k:=Hv It.cells_len hx (j:=0) (by omega);have g1:(Ay l).getD (i*3+1) .top=Af x.n:=Hv It.cells_len hx (j:=1) (by omega);have g2:(Ay l).getD (i*3+1+1) .top=.sc (.string x.s):=Hv It.cells_len hx (j:=2) (by omega);have L:(Ac .u8 o).length=o.length:=Am _ _;have t:List.take o.length (Ac .u8 o)=Ac .u8 o:=Gv (by omega);have w:wrap .i64 ((i:Int)+1)=((i+1:Nat):Int):=by rw[Ag (by omega) (by omega)];omega
  rw[Yo];unfold It.cells at it;simp (disch:=first|assumption|omega) only[B4,B3,H0,Df,g0,g1,g2,L,t,it,w,q]
theorem Afc(Bn:1000<=fu){l:List It}(hl:l.length<=100000)(hf:l.length<fu)(hg:S6 [] 0 l)(hk:∀x∈l,x.ok)(hb:(Bi l).length<=300000):
  Ar C0 prog fu (d+5) 65 [.lst false 3 l.length (Ay l)]=some ⟨[.own 1 (Bi l).length (Ac .u8 (Bi l)),At 0],[]⟩:=by
 rw[YH];have v:=Xf (fu:=fu) (d:=d) (by omega) hl hf hg;have q:=Ahv (fu:=fu) (d:=d+2) Bn hl (P4:=l.length) (a0:=Ay l) l 0 [] fu rfl (by omega) hf hk (by simpa using hb);rw[SR] at q;simp only[B4,B3,v,bne_self_eq_false];exact q
end
section
variable {fu d:Nat}
theorem Ac5(Bn:200<=fu){l:List It}(hl:l.length<=100000)(hf:l.length<fu)(hg:S6 [] 0 l):
  Ar C0 prog fu (d+5) 106 [.own 3 l.length (Ay l)]=some ⟨[.own 3 l.length (Ay l),At 0],[]⟩:=by
 rw[TK];have v:=Xf (fu:=fu) (d:=d) Bn hl hf hg;have L:=Cw l;have t:List.take (l.length*3) (Ay l)=Ay l:=Gv (by omega);simp(disch:=omega)only[B4,B3,L,t,Es,v,bne_self_eq_false]
end
structure MW(x:It):Prop where
 kd:x.k=1\/x.k=2\/x.k=3\/x.k=4\/x.k=7\/x.k=8
 hs:x.s.size<=1024
 hv:x.k=4->Lib.validD x.s.data.toList=true
 hsh:K7 x=true
 n0:0<=x.n
theorem MW.ok{x:It}(h:MW x):x.ok:=by have:=h.kd;have:=h.hs;exact⟨by omega,by omega,h.n0,by omega⟩
theorem MW.push{x:It}(h:MW x)(l:List Il):VE l x=l:=by unfold VE;have:=h.kd;rw[A5 (by omega),A5 (by omega)]
def Az4(v:List It):Ab:=[.lst false 3 v.length (Ay v)]
theorem Aa3(v:List It):(Az4 v).length=1:=rfl
def Gx(l:List (List It)):Ab:=l.flatMap Az4
theorem atv{l:List (List It)}{i:Nat}{v:List It}(h:l[i]?=some v):(Gx l).getD (i*1) .top=.lst false 3 v.length (Ay v):=by exact Hv Aa3 h (j:=0) (by omega)
section
variable {fu d:Nat}
theorem PB(Bn:1000<=fu){P4:Nat}{a0:Ab}{vs:List (List It)}(hl:vs.length<=100000):∀(r:List (List It)) (i nn:Nat),vs.drop i=r->r.length<nn->(∀v∈r,S6 [] 0 v/\v.length<1000)->i<=vs.length ->
  Po fu (Ar C0 prog fu (d+4)) P4 a0 nn vs.length (Gx vs) (vs.length:Int) (i:Int)=some ⟨[At 0],[]⟩
 |_,_,0,_,h,_,_=>by omega
 |[],i,nn+1,h,hn,hg,hi=>by
  have:=drop_nil h;rw[Ya,Ef _ _ _ (by omega)]
 |v::r,i,nn+1,h,hn,hg,hi=>by
  obtain⟨h1,h2,h3⟩:=Dc h;simp only[G7] at hn;have w:wrap .i64 ((i:Int)+1)=((i+1:Nat):Int):=by rw[Ag (by omega) (by omega)];omega
  have ih:=PB Bn (P4:=P4) (a0:=a0) hl r (i+1) nn h3 (by omega) (fun v hv=>hg v (Sh _ hv)) (by omega);obtain⟨g,gl⟩:=hg v (by simp);have vg:=Xf (fu:=fu) (d:=d) (by omega) (by omega) (by omega) g;have g0:=atv h2;rw[Ya];simp(disch:=omega)only[B4,B3,H0,g0,vg,bne_self_eq_false,w,ih]
theorem Ags(Bn:1000<=fu){vs:List (List It)}(hl:vs.length<1000)(hg:∀v∈vs,S6 [] 0 v/\v.length<1000):
  Ar C0 prog fu (d+5) 105 [.lst false 1 vs.length (Gx vs)]=some ⟨[At 0],[]⟩:=by
 rw[YM];exact PB Bn (by omega) vs 0 fu rfl (by omega) hg (by omega)
theorem U8(a b:List It):Ay (a++b)=Ay a++Ay b:=by unfold Ay;rw[List.flatMap_append]
theorem TQ(Bn:1000<=fu){P4:Nat}{a0:Ab}{vs:List (List It)}(hl:vs.length<=100000):∀(r:List (List It)) (i nn:Nat)(o:List It),vs.drop i=r->r.length<nn->S6 [] 0 (o++r.flatten)->(o++r.flatten).length<=500->i<=vs.length ->
  Q6 fu (Ar C0 prog fu (d+5)) P4 a0 nn o.length vs.length (Gx vs) (vs.length:Int) (i:Int) (Ay o)=some ⟨[.own 3 (o++r.flatten).length (Ay (o++r.flatten)),At 0],[]⟩
 |_,_,0,_,_,h,_,_,_=>by omega
 |[],i,nn+1,o,h,hn,hg,hb,hi=>by
  have:=drop_nil h;have e:o++([]:List (List It)).flatten=o:=by simp
  rw[e] at hg hb ⊢;have L:=Cw o;have t:List.take (o.length*3) (Ay o)=Ay o:=Gv (by omega);have ck:=Ac5 (fu:=fu) (d:=d) (by omega) (by omega) (by omega) hg;rw[BB,Ef _ _ _ (by omega)];simp(disch:=omega)only[B4,B3,L,t,ck]
 |v::r,i,nn+1,o,h,hn,hg,hb,hi=>by
  obtain⟨h1,h2,h3⟩:=Dc h;simp only[G7] at hn;have w:wrap .i64 ((i:Int)+1)=((i+1:Nat):Int):=by rw[Ag (by omega) (by omega)];omega
  have e:o++(v::r).flatten=(o++v)++r.flatten:=by simp
  rw[e] at hg hb ⊢
  have J8:o.length+v.length<=500:=by
   rw[Fw,Fw] at hb;omega
  have ih:=TQ Bn (P4:=P4) (a0:=a0) hl r (i+1) nn (o++v) h3 (by omega) hg hb (by omega);have g0:=atv h2;have L:=Cw o;have Lv:=Cw v;have t:List.take (o.length*3) (Ay o)=Ay o:=Gv (by omega);rw[Fw,U8] at ih;rw[BB];simp(disch:=omega)only[B4,B3,H0,g0,L,Lv,t,w,ih]
theorem Air(Bn:1000<=fu){vs:List (List It)}(hg:∀v∈vs,S6 [] 0 v/\v.length<1000)(hl:vs.length<=400)(ha:S6 [] 0 (⟨5,vs.length,⟨#[]⟩⟩::vs.flatten))(hb:vs.flatten.length<=499):
  Ar C0 prog fu (d+6) 63 [.lst false 1 vs.length (Gx vs)]=some ⟨[.own 3 (vs.flatten.length+1) (Ay (⟨5,vs.length,⟨#[]⟩⟩::vs.flatten)),At 0],[]⟩:=by
 rw[Aci];have f:=Ags (fu:=fu) (d:=d) Bn (by omega) hg;have w:wrap .u64 (vs.length:Int)=vs.length:=Cd (by omega) (by omega);have q:=TQ (fu:=fu) (d:=d) Bn (P4:=vs.length) (a0:=Gx vs) (by omega) vs 0 fu [⟨5,vs.length,⟨#[]⟩⟩] rfl (by omega) ha (by rw[Fw,List.length_singleton];omega) (by omega)
 simp only[B4,B3,f,bne_self_eq_false,w];exact q
end
def A67(a b:Ca):Int:=Lib.compareBytes (a.map fun n=>n.toNat.toUInt8) (b.map fun n=>n.toNat.toUInt8)
def Ze(a b:Ca):Bool:=if a.length=b.length then decide (A67 a b<0) else decide (a.length<b.length)
def Nr(l:List Il)(key:Ca):List Il:=match l.getLast? with|some f=>l.dropLast++[⟨f.p,f.left,key⟩]|none=>l
theorem Rg(l:List Il)(f:Il)(key:Ca):Nr (l++[f]) key=l++[⟨f.p,f.left,key⟩]:=by unfold Nr;simp
def SK(l:List Il):Ca:=match l.getLast? with|some f=>f.last|none=>[]
theorem Adm(l:List Il)(f:Il):SK (l++[f])=f.last:=by unfold SK;simp
def Ft(l:List Il)(x:It):Int × List Il:=
 if x.k=4/\okS x.s=false then (6,l)
 else if U6 l=true then (if SK l≠[]/\Ze (SK l) (B8 x)=false then (7,l) else (0,H1 (Nr l (B8 x)) x))
 else (0,H1 l x)
theorem Ao0(x:It):1<=(B8 x).length:=by
 unfold B8;have h2:=Kf 2 x.s.size;have h3:=Kf 3 x.s.size;have h4:=Kf (x.k-1) x.n
 repeat' split
 all_goals try simp only[Fw,G7,Vx]
 all_goals omega
section
variable {fu d:Nat}
theorem Ajc(a b:Ca):Ar C0 prog fu (d+1) 148 [.lst false 1 a.length (Ac .u8 a),.lst false 1 b.length (Ac .u8 b)]=some ⟨[At (A67 a b)],[]⟩:=by
 have h:Ar C0 prog fu (d+1) 148 [.lst false 1 a.length (Ac .u8 a),.lst false 1 b.length (Ac .u8 b)]=DV [.lst false 1 a.length (Ac .u8 a),.lst false 1 b.length (Ac .u8 b)]:=by kernel_rfl
 rw[h];unfold DV;simp only[Am,Pu,Bool.and_self,cond_true,G2];rfl
theorem Ajh(a b:Ca):Ar C0 prog fu (d+2) 143 [.lst false 1 a.length (Ac .u8 a),.lst false 1 b.length (Ac .u8 b)]=some ⟨[.sc (.bool (Ze a b))],[]⟩:=by
 refine (SZ fu (d+1) _ _ _ _).trans ?_;have c:=Ajc (fu:=fu) (d:=d) a b;unfold Ze;by_cases h:a.length=b.length
 ·have b0:((a.length:Int) != (b.length:Int))=false:=by simp[h]
  rw[Bq h];simp only[B4,B3,b0,c]
 ·have b0:((a.length:Int) != (b.length:Int))=true:=by simp;omega
  rw[A5 h];simp only[B4,B3,b0];simp
theorem Aba{l:List Il}{x:It}{cnt:Int}(Bn:1000<=fu)(hl:l.length<=900)(h0:0<=cnt)(h1:cnt<=1000000)(hx:x.ok)(hs:x.s.size<=100000):
  Ar C0 prog fu (d+3) 123 [.pbox (Ps l cnt),.agg x.cells]=some ⟨[At (Ft l x).1],[Ps (Ft l x).2 (if (Ft l x).1=0 then cnt+1 else cnt)]⟩:=by
 cases ha:U6 l with
 |false=>
  cases hv:(x.k==4) && !okS x.s with
  |false=>
   have e:Ft l x=(0,H1 l x):=by
    unfold Ft;rw[A5,A5 (by simp[ha])];intro hh;simp[hh.1,hh.2] at hv
   have:=PO (fu:=fu) (d:=d+1) (l:=l) (x:=x) (cnt:=cnt) (by omega) (by omega) h0 h1 ha hs (by
    intro hk;simp[hk] at hv;exact hv)
   rw[e,this];rfl
  |true=>
   simp at hv
   have e:Ft l x=(6,l):=by
    unfold Ft;rw[Bq hv]
   rw[e];obtain⟨k,n,s⟩:=x;have va:=Vl (fu:=fu) (d:=d+1) s (Nat.le_trans hs (by omega));simp only at hv;obtain⟨rfl,hv⟩:=hv;rw[hv] at va;have L:=Ee l;have t:=Ey l;refine (Nk fu (d+2) l.length (G5 l) cnt 4 n s).trans ?_;simp(disch:=omega)only[B4,B3,Int.reduceBEq,va,L,t];rfl
 |true=>
  rcases Lx l with rfl|⟨l',f,rfl⟩
  ·exact absurd ha (by decide)
  have it:=Aml (fu:=fu) (d:=d) Bn (l:=[]) (by simp) hx;rw[SR] at it;have hp:=Ao0 x;have sm:=Ajh (fu:=fu) (d:=d) f.last (B8 x);have ak:=TJ (fu:=fu) (d:=d+1) (l:=l'++[f]) (by omega) cnt;rw[ha] at ak;have st:=Ak8 (fu:=fu) (d:=d+1) (l:=Nr (l'++[f]) (B8 x)) (x:=x) (cnt:=cnt) (by rw[Rg];simp at hl ⊢;omega) (by rw[Rg];simp at hl ⊢;omega) h0 h1
  have E:Ft (l'++[f]) x=(if x.k=4/\okS x.s=false then (6,l'++[f]) else if f.last≠[]/\Ze f.last (B8 x)=false then (7,l'++[f]) else (0,H1 (Nr (l'++[f]) (B8 x)) x)):=by
   unfold Ft;rw[ha,Adm];simp only[if_true]
  have hn':(l'++[f]).length=l'.length+1:=by simp
  have Zj:(l'++[f])[l'.length]?=some f:=by simp
  have w:wrap .i64 (((l'++[f]).length:Int)-1)=(l'.length:Int):=by rw[Ag (by omega) (by omega)];omega
  have L:=Ee (l'++[f]);have t:=Ey (l'++[f]);have g2:(G5 (l'++[f])).getD (l'.length*3+2) .top=.lst false 1 f.last.length (Ac .u8 f.last):=Hv Il.cells_len Zj (j:=2) (by omega)
  have sp:Bx (G5 (l'++[f])) [.lst false 1 (B8 x).length (Ac .u8 (B8 x))] (l'.length*3+2)=G5 (Nr (l'++[f]) (B8 x)):=by
   rw[Hg (by omega),Rg,Yk,Yk,Yt,Yt];have:=Ee l';rw[List.set_append_right _ _ (by omega)];have:l'.length*3+2-(G5 l').length=2:=by omega
   rw[this];rfl
  have LK:=Ee (Nr (l'++[f]) (B8 x));have tK:=Ey (Nr (l'++[f]) (B8 x));have nK:(Nr (l'++[f]) (B8 x)).length=(l'++[f]).length:=by rw[Rg];simp
  rw[nK] at LK tK;have L2:=Ee (H1 (Nr (l'++[f]) (B8 x)) x);have t2:=Ey (H1 (Nr (l'++[f]) (B8 x)) x);have Lk:=Am .u8 (B8 x);have tk:=Mb .u8 (B8 x);unfold Ps at st ak ⊢;rw[nK] at st;rw[E];generalize H1 (Nr (l'++[f]) (B8 x)) x=S at *
  generalize G5 (Nr (l'++[f]) (B8 x))=K at *
  have hsm:f.last.length=0->Ze f.last (B8 x)=true:=by
   intro hz;unfold Ze;rw[A5 (by omega)];simp;omega
  have RA:f.last≠[]↔0<f.last.length:=by rw[List.length_pos_iff]
  generalize hKe:B8 x=key at *
  obtain⟨k,n,s⟩:=x;have va:=Vl (fu:=fu) (d:=d+1) s (Nat.le_trans hs (by omega));unfold okS at va ⊢;unfold It.cells at st it ⊢;simp only at st it hs ⊢;refine (Nk fu (d+2) (l'++[f]).length (G5 (l'++[f])) cnt k n s).trans ?_;simp only[Vx] at it;have it0:Ac .u8 []=[]:=rfl;rw[it0] at it
  try unfold Aa Og
  repeat' first
   |((with_reducible first|apply Aj|apply Ad|apply Ah|apply Ao|apply Bb|apply Ba|apply Ae);· first|with_reducible rfl|(simp (disch:=first|with_reducible assumption|omega) only[va,L,t,ak,w,H0,Cm,JF,it,g2,Df,Es,Lk,tk,sm,sp,LK,tK,st,L2,t2]<;>with_reducible rfl))
   |((with_reducible first|apply Ai|apply Aje);· first|with_reducible rfl|with_reducible assumption|omega|(simp (disch:=first|with_reducible assumption|omega) only[gT,va,L,t,ak,w,H0,Cm,JF,it,g2,Df,Es,Lk,tk,sm,sp,LK,tK,st,L2,t2]<;>omega))
   |(with_reducible apply Aiq;· first|with_reducible rfl|with_reducible assumption|(simp (disch:=first|with_reducible assumption|omega) only[gF,va,L,t,ak,w,H0,Cm,JF,it,g2,Df,Es,Lk,tk,sm,sp,LK,tK,st,L2,t2]<;>omega))
   |(with_reducible refine Au9 ?_ ?_<;>intro hb<;>try simp only[MR,SP,beq_iff_eq,beq_eq_false_iff_ne,bne_iff_ne,bne_eq_false_iff_eq,ne_eq,Bool.not_eq_true',Bool.not_eq_false',Bool.not_eq_true,Bool.not_eq_false] at hb)
   |(with_reducible refine Ab4 ?_ ?_)
  all_goals try simp (disch:=first|with_reducible assumption|omega) only[va,L,t,ak,w,H0,Cm,JF,it,g2,Df,Es,Lk,tk,sm,sp,LK,tK,st,L2,t2]
  all_goals clear st it ak va sm L t g2 sp LK tK L2 t2 Lk tk it0 E ha hKe
  all_goals repeat' split
  all_goals first
   |rfl
   |(exfalso;simp_all;done)
   |(exfalso;simp_all;omega)
end
end
end Go.Proofs.YtpogefhpiaaliaaGreatDoor.Pv
