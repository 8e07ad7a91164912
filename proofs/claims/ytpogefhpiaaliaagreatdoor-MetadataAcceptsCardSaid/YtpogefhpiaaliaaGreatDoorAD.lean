/-
  The proof of MetadataAccepts, part 4.
-/
import Derived.Test.YtpogefhpiaaliaaGreatDoorAC
import Derived.Test.YtpogefhpiaaliaaGreatDoorRows
import Derived.RangeFuncNested
import Derived.RangeFuncLeaves
import Derived.WalkKit
import Derived.LoopNIn
import Derived.OrdersIn
set_option linter.unusedSimpArgs false
set_option linter.unusedVariables false
namespace Go.Proofs.YtpogefhpiaaliaaGreatDoor.Pv
open Go.IntKind (wrap)
open Go.Proofs.Tryz (prog)
set_option maxRecDepth 1000000
noncomputable section
def Eu(w:Int)(k:Nat):Int:=wrap .u8 (Fp .u64 w (56-8*(k:Int)))
def Fo(w:Int):B8:=(List.range' 0 8).map (Eu w)
def A9(ws:B8):B8:=ws.flatMap Fo
theorem Hn(w:Int):(Fo w).length=8:=rfl
section
variable {fu d:Nat}{xs:FuncId->Option (Ab->Option Dt)}{call:Bq}{n:Nat}{c:Ab}
theorem Afx{ws:B8}{w:Int}{m0 l:Nat}{i k:Int}:∀(r j nn:Nat)(bs:B8),8-j=r->r<nn->j<=8->bs.length+r<=34359738368 ->
  Nl fu call n c m0 nn bs.length w l (Ac .u64 ws) k i j (Ac .u8 bs) =
   Km fu call n c m0 (bs++(List.range' j (8-j)).map (Eu w)).length l (Ac .u64 ws) k (wrap .i64 (i+1)) (Ac .u8 (bs++(List.range' j (8-j)).map (Eu w)))
 |r,j,0,bs,_,h,_,_=>by omega
 |0,j,nn+1,bs,hr,_,hj,_=>by
  have e:j=8:=by omega
  subst e;rw[Wm];simp(disch:=omega)only[Bz,Bx];simp
 |r+1,j,nn+1,bs,hr,hn,hj,hb=>by
  have ih:=Afx (ws:=ws) (w:=w) (m0:=m0) (l:=l) (i:=i) (k:=k) r (j+1) nn (bs++[Eu w j]) (by omega) (by omega) (by omega) (by simp;omega)
  have e8:=Ap .u8 bs;rw[Wm]
  have hx:wrap .u8 (Fp .u64 w (wrap .i64 (56-wrap .i64 (8*(j:Int)))))=Eu w j:=by
   rw[Ag (x:=8*(j:Int)) (by omega) (by omega),Ag (by omega) (by omega)];rfl
  have h0:0<=wrap .i64 (56-wrap .i64 (8*(j:Int))):=by
   rw[Ag (x:=8*(j:Int)) (by omega) (by omega),Ag (by omega) (by omega)];omega
  have Ai7:List.range' j (8-j)=j::List.range' (j+1) (8-(j+1)):=by
   rw[show 8-j=(8-(j+1))+1 by omega];exact List.range'_succ
  simp (disch:=first|omega|exact h0) only[Bz,Bx,De,hx,Mi,G7,Ag (x:=(j:Int)+1)];rw[Ai7];simp only[F9,He,Ud,Ck,FX,Sn,List.singleton_append] at ih ⊢;exact ih
theorem UD{ws:B8}(hl:ws.length<=1073741824)(Bo:100<=fu):∀(r:B8)(i nn:Nat)(bs:B8),ws.drop i=r->r.length<nn->bs.length=8*i ->
  Km fu call n c nn bs.length ws.length (Ac .u64 ws) ws.length i (Ac .u8 bs)=some ⟨[.own 1 (bs++A9 r).length (Ac .u8 (bs++A9 r))],[]⟩
 |r,i,0,_,_,h,_=>by omega
 |[],i,nn+1,bs,h,_,_=>by
  have:=drop_nil h;have e8:=Ap .u8 bs;rw[Xa];simp(disch:=omega)only[Bz,Bx,De,Mi,A9,List.flatMap_nil,List.append_nil]
 |w::r,i,nn+1,bs,h,hn,hb=>by
  obtain⟨h1,h2,h3⟩:=C8 h;simp only[He] at hn;rw[Xa];simp(disch:=omega)only[Bz,Bx,H6,De,Ss h2];rw[show (0:Int)=((0:Nat):Int) from rfl,Afx 8 0 fu bs rfl (by omega) (by omega) (by omega),Ag (by omega) (by omega)];have ih:=UD hl Bo r (i+1) nn (bs++Fo w) h3 (by omega) (by simp[Hn];omega)
  have e:bs++Fo w++A9 r=bs++A9 (w::r):=by simp[A9]
  rw[e] at ih;exact ih
theorem Uq{ws:B8}(hl:ws.length<=1073741824)(Bo:100<=fu)(hf:ws.length<fu):Aq (CX xs) prog fu (d+1) 86 [.lst false 1 ws.length (Ac .u64 ws)]=some ⟨[.own 1 (A9 ws).length (Ac .u8 (A9 ws))],[]⟩:=by rw[UP];simp(disch:=omega)only[Bz,Bx,Ag,Int.mul_one];exact UD hl Bo ws 0 fu [] rfl hf rfl
theorem Aad{ws:B8}{w:Int}{m0 i:Nat}(hw:ws[i]?=some w):∀(r nn:Nat)(j:Int)(bs:B8),j=(r:Int)-1->r<=8->r<nn->bs.length+r<=34359738368 ->
  I8 fu call n c m0 nn ws.length (Ac .u64 ws) bs.length i j (Ac .u8 bs) =
   Ha fu call n c m0 ws.length (Ac .u64 ws) (bs++(List.range' (8-r) r).map (Eu w)).length (wrap .i64 (i+1)) (Ac .u8 (bs++(List.range' (8-r) r).map (Eu w)))
 |r,0,j,bs,_,_,h,_=>by omega
 |0,nn+1,j,bs,hr,_,_,_=>by
  rw[Pc];simp(disch:=omega)only[Bz,Bx];simp
 |r+1,nn+1,j,bs,hr,FC,hn,hb=>by
  have hi:=A4x hw;have ih:=Aad (m0:=m0) hw r nn (j-1) (bs++[Eu w (8-(r+1))]) (by omega) (by omega) (by omega) (by simp;omega)
  have e8:=Ap .u8 bs
  have hx:wrap .u8 (Fp .u64 w (wrap .u64 (wrap .i64 (8*j))))=Eu w (8-(r+1)):=by
   rw[Ag (by omega) (by omega),Cd (by omega) (by omega)];unfold Eu;rw[show 56-8*((8-(r+1):Nat):Int)=8*j by omega]
  have h0:0<=wrap .u64 (wrap .i64 (8*j)):=by
   rw[Ag (by omega) (by omega),Cd (by omega) (by omega)];omega
  have Ai7:List.range' (8-(r+1)) (r+1)=(8-(r+1))::List.range' (8-r) r:=by
   rw[List.range'_succ,show 8-(r+1)+1=8-r by omega]
  rw[Pc];simp (disch:=first|omega|exact h0) only[Bz,Bx,H6,De,Ss hw,hx,Mi,G7,Ag (x:=j-1)];rw[Ai7];simp only[F9,He,Ud,Ck,FX,Sn,List.singleton_append] at ih ⊢;exact ih
theorem RM{ws:B8}(hl:ws.length<=1073741824)(Bo:100<=fu):∀(r:B8)(i nn:Nat)(bs:B8),ws.drop i=r->r.length<nn->bs.length=8*i ->
  Ha fu call n c nn ws.length (Ac .u64 ws) bs.length i (Ac .u8 bs)=some ⟨[.own 1 (bs++A9 r).length (Ac .u8 (bs++A9 r))],[]⟩
 |r,i,0,_,_,h,_=>by omega
 |[],i,nn+1,bs,h,_,_=>by
  have:=drop_nil h;have e8:=Ap .u8 bs;rw[Pg];simp(disch:=omega)only[Bz,Bx,De,Mi,A9,List.flatMap_nil,List.append_nil]
 |w::r,i,nn+1,bs,h,hn,hb=>by
  obtain⟨h1,h2,h3⟩:=C8 h;simp only[He] at hn;rw[Pg];simp(disch:=omega)only[Bz,Bx];rw[Aad h2 8 fu 7 bs rfl (by omega) (by omega) (by omega),Ag (by omega) (by omega)];have ih:=RM hl Bo r (i+1) nn (bs++Fo w) h3 (by omega) (by simp[Hn];omega)
  have e:bs++Fo w++A9 r=bs++A9 (w::r):=by simp[A9]
  rw[e] at ih;exact ih
theorem Ra{ws:B8}(hl:ws.length<=1073741824)(Bo:100<=fu)(hf:ws.length<fu):Aq (CX xs) prog fu (d+1) 79 [.lst false 1 ws.length (Ac .u64 ws)]=some ⟨[.own 1 (A9 ws).length (Ac .u8 (A9 ws))],[]⟩:=by rw[FV];exact RM hl Bo ws 0 fu [] rfl hf rfl
end
abbrev Ge(a b:Int):Int:=YF .u64 (Hq .u64 a 8) (wrap .u64 b)
def GO(bs:B8):Int:=bs.foldl Ge 0
theorem A0e{q:Int}(h0:0<=q)(h1:q<=18446744073709551615):Ge (q / 256) (wrap .u8 q)=q:=by
 have e1:Hq .u64 (q / 256) 8=q / 256*256:=by
  unfold Hq;have:((8:Int).toNat.min IntKind.u64.bits)=8:=by decide
  show wrap .u64 (q / 256*2 ^ (min (8:Int).toNat IntKind.u64.bits))=_;have h2:(2:Int) ^ (min (8:Int).toNat IntKind.u64.bits)=256:=by decide
  rw[h2,Cd (by omega) (by omega)]
 have e2:wrap .u8 q=q % 256:=by
  simp only[wrap,IntKind.signed,IntKind.bits];simp
 have e3:wrap .u64 (q % 256)=q % 256:=Cd (by omega) (by omega);unfold Ge;rw[e1,e2,e3];obtain⟨n,rfl⟩:=Int.eq_ofNat_of_zero_le h0;have hn:n<18446744073709551616:=by omega
 have e4:(BitVec.ofInt 64 ((n:Int) / 256*256)).toNat=n / 256*256:=by
  rw[BitVec.toNat_ofInt];omega
 have e5:(BitVec.ofInt 64 ((n:Int) % 256)).toNat=n % 256:=by
  rw[BitVec.toNat_ofInt];omega
 have e6:n / 256*256 ||| n % 256=n:=by
  have:=Nat.shiftLeft_add_eq_or_of_lt (show n % 256<2 ^ 8 by omega) (n / 256);rw[Nat.shiftLeft_eq] at this;rw[<-this];omega
 unfold YF;show wrap .u64 ((BitVec.ofInt 64 ((n:Int) / 256*256) ||| BitVec.ofInt 64 ((n:Int) % 256)).toNat:Int)=n;rw[BitVec.toNat_or,e4,e5,e6,Cd (by omega) (by omega)]
theorem ZT{w:Int}(k:Nat)(hk:k<8):Eu w k=wrap .u8 (w / 2 ^ (56-8*k)):=by
 unfold Eu Fp;have e:(56-8*(k:Int)).toNat=56-8*k:=by omega
 rw[e,Nat.min_eq_left (by show 56-8*k<=64;omega),Int.fdiv_eq_ediv_of_nonneg _ (Int.le_of_lt (Int.pow_pos (by omega)))]
theorem Abj{w:Int}(h0:0<=w)(h1:w<=18446744073709551615):GO (Fo w)=w:=by
 have st:∀(k:Nat) (D:Int),k<8->(2:Int) ^ (56-8*k)=D->0<D->Ge (w / D / 256) (Eu w k)=w / D:=by
  intro k D hk hD hp;rw[ZT k hk,hD];exact A0e (Int.ediv_nonneg h0 (Int.le_of_lt hp)) (Int.le_trans (Int.ediv_le_self _ h0) h1)
 have s0:=st 0 72057594037927936 (by omega) (by decide) (by omega);have s1:=st 1 281474976710656 (by omega) (by decide) (by omega);have s2:=st 2 1099511627776 (by omega) (by decide) (by omega);have s3:=st 3 4294967296 (by omega) (by decide) (by omega);have s4:=st 4 16777216 (by omega) (by decide) (by omega);have s5:=st 5 65536 (by omega) (by decide) (by omega);have s6:=st 6 256 (by omega) (by decide) (by omega);have s7:=st 7 1 (by omega) (by decide) (by omega);rw[show w / 72057594037927936 / 256=0 by omega] at s0;rw[show w / 281474976710656 / 256=w / 72057594037927936 by omega] at s1;rw[show w / 1099511627776 / 256=w / 281474976710656 by omega] at s2;rw[show w / 4294967296 / 256=w / 1099511627776 by omega] at s3;rw[show w / 16777216 / 256=w / 4294967296 by omega] at s4;rw[show w / 65536 / 256=w / 16777216 by omega] at s5;rw[show w / 256 / 256=w / 65536 by omega] at s6
 rw[show w / 1 / 256=w / 256 by omega,show w / 1=w by omega] at s7;show Ge (Ge (Ge (Ge (Ge (Ge (Ge (Ge 0 (Eu w 0)) (Eu w 1)) (Eu w 2)) (Eu w 3)) (Eu w 4)) (Eu w 5)) (Eu w 6)) (Eu w 7)=w;rw[s0,s1,s2,s3,s4,s5,s6,s7]
section
variable {xs:FuncId->Option (Ab->Option Dt)}(fu d:Nat)(call:Bq)
def I0(Z:Int)(Y:Nat)(X W V:Int)(U T:Ab):Option Dt:=K0 fu call 110 Tryz.f110 [Af Z] [.r,.r,.r,.l,.r,.l] Y ⟨lk [(0,Af X),(2,.ptr 2 0),(3,.ptr 3 0),(4,W),(6,V)],B3 [(2,.ar false U),(3,.ar false T)]⟩
def Ws(Z:Int)(Y:Nat)(X W:Ab):Option Dt:=K0 fu call 110 Tryz.f110 [Af Z] [.r,.r,.r,.r,.r] Y ⟨lk [(2,.ptr 2 0),(3,.ptr 3 0)],B3 [(2,.ar false X),(3,.ar false W)]⟩
def Xc(Z:Int)(Y:Nat)(X:Ab):Option Dt:=K0 fu call 110 Tryz.f110 [Af Z] [.r,.r,.r,.r,.r,.r] Y ⟨lk [(2,.ptr 2 0)],B3 [(2,.ar false X)]⟩
theorem Td(W:Int)(T:Nat)(V X Z:Int)(U Y:Ab):I0 fu call W (T+1) V X Z U Y=(Az (decide (Z<16)) (Aa (wrap .i64 (4*Z)) fun a=>Aa (wrap .i64 (60-a)) fun a=>As (decide (0<=a))<|Aa (Fp .u64 V a) fun a=>Aa (Oy .u64 a 15) fun a=>Aa (wrap .i64 a) fun a=>As (decide (0<=Z)&&decide (Z<18))<|As (decide (0+Z.toNat*1+1<=Y.length))<|Aa (B0 Y [a] (0+Z.toNat*1)) fun a=>As (decide (0<=Z)&&decide (Z<18))<|Be .i64 (a.getD (0+Z.toNat*1) .top) fun b=>Aa (wrap .i64 (15-b)) fun b=>Aa (wrap .i64 (X+b)) fun b=>Aa (wrap .i64 (Z+1)) fun c=>I0 fu call W T V b c U a) (Aa (wrap .i64 (Int.tdiv X 16)) fun a=>As (decide (17<=Y.length))<|Aa (B0 Y [a] 16) fun a=>Aa (Int.tmod X 16) fun b=>As (decide (18<=a.length))<|Aa (B0 a [b] 17) fun a=>Ws fu call W fu U a)):=by kernel_rfl
theorem GI(W:Int)(Y:Nat)(M6:0<Y)(X Z:Ab):Ws fu call W Y X Z=(Be .i64 (Z.getD 0 .top) fun a=>Be .i64 (Z.getD 1 .top) fun b=>Be .i64 (Z.getD 2 .top) fun c=>Be .i64 (Z.getD 3 .top) fun e=>Be .i64 (Z.getD 4 .top) fun f=>Be .i64 (Z.getD 5 .top) fun g=>Be .i64 (Z.getD 6 .top) fun h=>Be .i64 (Z.getD 7 .top) fun i=>Be .i64 (Z.getD 8 .top) fun j=>Be .i64 (Z.getD 9 .top) fun k=>Be .i64 (Z.getD 10 .top) fun m=>Be .i64 (Z.getD 11 .top) fun n=>Be .i64 (Z.getD 12 .top) fun o=>Be .i64 (Z.getD 13 .top) fun p=>Be .i64 (Z.getD 14 .top) fun q=>Be .i64 (Z.getD 15 .top) fun s=>Be .i64 (Z.getD 16 .top) fun t=>Be .i64 (Z.getD 17 .top) fun u=>As (decide (18<=X.length))<|Aa (B0 X [a,b,c,e,f,g,h,i,j,k,m,n,o,p,q,s,t,u] 0) fun a=>Xc fu call W fu a):=by cases Y with|zero=>exact absurd M6 (Nat.lt_irrefl 0)|succ Y=>kernel_rfl
theorem FZ(X:Int)(Y:Nat)(M6:0<Y)(Z:Ab):Xc fu call X Y Z=(Be .i64 (Z.getD 0 .top) fun a=>Be .i64 (Z.getD 1 .top) fun b=>Be .i64 (Z.getD 2 .top) fun c=>Be .i64 (Z.getD 3 .top) fun e=>Be .i64 (Z.getD 4 .top) fun f=>Be .i64 (Z.getD 5 .top) fun g=>Be .i64 (Z.getD 6 .top) fun h=>Be .i64 (Z.getD 7 .top) fun i=>Be .i64 (Z.getD 8 .top) fun j=>Be .i64 (Z.getD 9 .top) fun k=>Be .i64 (Z.getD 10 .top) fun m=>Be .i64 (Z.getD 11 .top) fun n=>Be .i64 (Z.getD 12 .top) fun o=>Be .i64 (Z.getD 13 .top) fun p=>Be .i64 (Z.getD 14 .top) fun q=>Be .i64 (Z.getD 15 .top) fun s=>Be .i64 (Z.getD 16 .top) fun t=>Be .i64 (Z.getD 17 .top) fun u=>Bu [.agg [a,b,c,e,f,g,h,i,j,k,m,n,o,p,q,s,t,u]]):=by cases Y with|zero=>exact absurd M6 (Nat.lt_irrefl 0)|succ Y=>kernel_rfl
theorem OD(Z:Int):Fm (CX xs) fu d 110 [Af Z] fun call=>I0 fu call Z fu Z 0 0 ([(0:Int),(0:Int),(0:Int),(0:Int),(0:Int),(0:Int),(0:Int),(0:Int),(0:Int),(0:Int),(0:Int),(0:Int),(0:Int),(0:Int),(0:Int),(0:Int),(0:Int),(0:Int)]) ([(0:Int),(0:Int),(0:Int),(0:Int),(0:Int),(0:Int),(0:Int),(0:Int),(0:Int),(0:Int),(0:Int),(0:Int),(0:Int),(0:Int),(0:Int),(0:Int),(0:Int),(0:Int)]):=by show _=_;kernel_rfl
def O8(Z Y:Int)(X W V:Int)(U:Nat)(T S:Int)(Q P O:Int):Option Dt:=K0 fu call 111 Tryz.f111 [Z,Y,X,W,Af V] [.r,.r,.l,.r,.l] U ⟨lk [(0,T),(1,S),(4,Af Q),(11,P),(12,O)],B3 []⟩
theorem Zd(U T:Int)(S Q P:Int)(O:Nat)(Y X:Int)(W V Z:Int):O8 fu call U T S Q P (O+1) Y X W V Z=(Az (decide (Z<V)) (Aa (wrap .u64 Y) fun a=>Aa (wrap .u64 X) fun b=>Aa (wrap .u64 Z) fun c=>Dj (call 86 [Am 1 4 [Af a,Af b,Af c,Af W]]) fun a b=>J0 1 a fun a c=>Ar b<|As (decide (0+a*1<=c.length))<|Lj .u64 (call 66 [(1:Int),Am 1 a (List.take (a*1) (c.drop 0))]) fun a=>Aa (wrap .i64 (Z+1)) fun b=>O8 fu call U T S Q P O Y X a V b) (Bu [Af W])):=by kernel_rfl
theorem YJ(X W:Int)(Z Y V:Int):Fm (CX xs) fu d 111 [X,W,Z,Y,Af V] fun call=>Aa (if 15<Y then 15 else Y) fun a=>Aa (if Z<0 then 0 else Z) fun b=>O8 fu call X W Z Y V fu X W V a b:=by show _=_;kernel_rfl
theorem NC(Z Y:Int)(X W:Int)(V U:Int)(T S:Int)(Q P:Int)(O N:Int)(M L:Int)(K J:Int)(I H G:Int):Fm (CX xs) fu d 115 [Z,.agg [Af Y,Af X,Af W,Af V,Af U,Af T,Af S,Af Q,Af P,Af O,Af N,Af M,Af L,Af K,Af J,Af I,Af H,Af G]] fun call=>Aa (wrap .u64 Z) fun a=>Dj (call 86 [Am 1 19 [Af a,Af Y,Af X,Af W,Af V,Af U,Af T,Af S,Af Q,Af P,Af O,Af N,Af M,Af L,Af K,Af J,Af I,Af H,Af G]]) fun a b=>J0 1 a fun a c=>Ar b<|As (decide (0+a*1<=c.length))<|Lj .u64 (call 66 [(2:Int),Am 1 a (List.take (a*1) (c.drop 0))]) fun a=>Bu [Af a]:=by show _=_;kernel_rfl
def Gn(Z Y:Int)(X:Nat)(W:Ab)(V:Nat)(U:Int)(T:Nat)(S:Ab)(Q P:Int)(O N:Int)(M L:Int)(K J:Int)(I H:Int)(G E:Int)(D B:Int)(A z:Int)(w v u:Int)(t:Ab):Option Dt:=K0 fu call 75 Tryz.f75 [Z,Af Y,Am 1 X W] [.r,.r,.r,.l,.r,.l] V ⟨lk [(0,U),(2,Am 1 T S),(8,.ptr 8 0),(15,.agg [Q,P,O,N,M,L,K,J,I,H,G,E,D,B,A,z,w,v]),(16,u)],B3 [(8,.ar false t)]⟩
def Vy(Z Y:Int)(X:Nat)(W:Ab)(V:Nat)(U:Int)(T:Ab):Option Dt:=K0 fu call 75 Tryz.f75 [Z,Af Y,Am 1 X W] [.r,.r,.r] V ⟨lk [(0,U),(8,.ptr 8 0)],B3 [(8,.ar false T)]⟩
def Ur(Z Y:Int)(X:Nat)(W:Ab)(V:Nat)(U T:Int):Option Dt:=K0 fu call 75 Tryz.f75 [Z,Af Y,Am 1 X W] [.r,.r,.r,.r] V ⟨lk [(6,Af U),(7,T)],B3 []⟩
theorem Rp(W V:Int)(U:Nat)(T:Ab)(t:Nat)(Y:Int)(S:Nat)(Q:Ab)(P O:Int)(N M:Int)(L K:Int)(J I:Int)(H G:Int)(E D:Int)(B A:Int)(z w:Int)(v u Z:Int)(X:Ab):Gn fu call W V U T (t+1) Y S Q P O N M L K J I H G E D B A z w v u Z X=(Az (decide (Z<18)) (As (decide (0<=Z)&&decide (Z<18)&&true)<|Be .i64 (List.getD [P,O,N,M,L,K,J,I,H,G,E,D,B,A,z,w,v,u] (Z.toNat*1) .top) fun a=>As (decide (0<=Z)&&decide (Z<(↑S:Int)))<|Be .u64 (Q.getD (Z.toNat*1) .top) fun b=>Lj .u64 (call 111 [Y,Z,a,(15:Int),Af b]) fun a=>As (decide (0<=Z)&&decide (Z<18))<|As (decide (0+Z.toNat*1+1<=X.length))<|Aa (B0 X [Af a] (0+Z.toNat*1)) fun a=>Aa (wrap .i64 (Z+1)) fun b=>Gn fu call W V U T t Y S Q P O N M L K J I H G E D B A z w v u b a) (Vy fu call W V U T fu Y X)):=by kernel_rfl
theorem CP(X W:Int)(V:Nat)(U:Ab)(Y:Nat)(M6:0<Y)(T:Int)(Z:Ab):Vy fu call X W V U Y T Z=(Be .u64 (Z.getD 0 .top) fun a=>Be .u64 (Z.getD 1 .top) fun b=>Be .u64 (Z.getD 2 .top) fun c=>Be .u64 (Z.getD 3 .top) fun e=>Be .u64 (Z.getD 4 .top) fun f=>Be .u64 (Z.getD 5 .top) fun g=>Be .u64 (Z.getD 6 .top) fun h=>Be .u64 (Z.getD 7 .top) fun i=>Be .u64 (Z.getD 8 .top) fun j=>Be .u64 (Z.getD 9 .top) fun k=>Be .u64 (Z.getD 10 .top) fun m=>Be .u64 (Z.getD 11 .top) fun n=>Be .u64 (Z.getD 12 .top) fun o=>Be .u64 (Z.getD 13 .top) fun p=>Be .u64 (Z.getD 14 .top) fun q=>Be .u64 (Z.getD 15 .top) fun s=>Be .u64 (Z.getD 16 .top) fun t=>Be .u64 (Z.getD 17 .top) fun u=>Lj .u64 (call 115 [T,.agg [Af a,Af b,Af c,Af e,Af f,Af g,Af h,Af i,Af j,Af k,Af m,Af n,Af o,Af p,Af q,Af s,Af t,Af u]]) fun a=>Ur fu call X W V U fu a 0):=by cases Y with|zero=>exact absurd M6 (Nat.lt_irrefl 0)|succ Y=>kernel_rfl
theorem DU(W V:Int)(U:Nat)(T:Ab)(Z:Nat)(M6:0<Z)(Y X:Int):Ur fu call W V U T Z Y X=(Bu [Af Y,X]):=by cases Z with|zero=>exact absurd M6 (Nat.lt_irrefl 0)|succ Z=>kernel_rfl
theorem KP(Y X:Int)(Z:Nat)(W:Ab):Fm (CX xs) fu d 75 [Y,Af X,Am 1 Z W] fun call=>Az ((↑Z:Int) != 18) (Bu [Af 0,(4:Int)]) (Dj (call 110 [Af X]) fun a b=>Dl a fun a=>Cu .i64 a fun a c=>Cu .i64 c fun c e=>Cu .i64 e fun e f=>Cu .i64 f fun f g=>Cu .i64 g fun g h=>Cu .i64 h fun h i=>Cu .i64 i fun i j=>Cu .i64 j fun j k=>Cu .i64 k fun k m=>Cu .i64 m fun m n=>Cu .i64 n fun n o=>Cu .i64 o fun o p=>Cu .i64 p fun p q=>Cu .i64 q fun q s=>Cu .i64 s fun s t=>Cu .i64 t fun t u=>Cu .i64 u fun u v=>Dc .i64 v fun v=>Ar b<|Gn fu call Y X Z W fu Y Z W a c e f g h i j k m n o p q s t u v 0 ([Af 0,Af 0,Af 0,Af 0,Af 0,Af 0,Af 0,Af 0,Af 0,Af 0,Af 0,Af 0,Af 0,Af 0,Af 0,Af 0,Af 0,Af 0])):=by show _=_;kernel_rfl
theorem PI(Z Y X:Int):Fm (CX xs) fu d 112 [Af Z,Y,X] fun call=>Aa (wrap .u64 Y) fun a=>Aa (wrap .u64 X) fun b=>Dj (call 86 [Am 1 2 [Af a,Af b]]) fun a b=>J0 1 a fun a c=>Ar b<|As (decide (0+a*1<=c.length))<|Lj .u64 (call 137 [Af Z,(1:Int),Am 1 a (List.take (a*1) (c.drop 0))]) fun a=>Bu [Af a]:=by show _=_;kernel_rfl
def Hl(Z Y:Int)(X:Nat)(W V U:Int)(T:Ab):Option Dt:=K0 fu call 114 Tryz.f114 [Af Z,Y] [.r,.r,.l,.r,.l] X ⟨lk [(0,Af W),(1,V),(5,.ptr 5 0),(7,U)],B3 [(5,.ar false T)]⟩
def W7(Z Y:Int)(X:Nat)(W:Int)(V:Ab):Option Dt:=K0 fu call 114 Tryz.f114 [Af Z,Y] [.r,.r] X ⟨lk [(1,W),(5,.ptr 5 0)],B3 [(5,.ar false V)]⟩
def Xg(Z Y:Int)(X:Nat)(W:Int):Option Dt:=K0 fu call 114 Tryz.f114 [Af Z,Y] [.r,.r,.r] X ⟨lk [(4,Af W)],B3 []⟩
theorem Th(W V:Int)(T:Nat)(U Y Z:Int)(X:Ab):Hl fu call W V (T+1) U Y Z X=(Az (decide (Z<18)) (Lj .u64 (call 112 [Af U,Y,Z]) fun a=>Lj .u64 (call 111 [Y,Z,(0:Int),(15:Int),Af a]) fun a=>As (decide (0<=Z)&&decide (Z<18))<|As (decide (0+Z.toNat*1+1<=X.length))<|Aa (B0 X [Af a] (0+Z.toNat*1)) fun a=>Aa (wrap .i64 (Z+1)) fun b=>Hl fu call W V T U Y b a) (W7 fu call W V fu Y X)):=by kernel_rfl
theorem GL(X W:Int)(Y:Nat)(M6:0<Y)(V:Int)(Z:Ab):W7 fu call X W Y V Z=(Be .u64 (Z.getD 0 .top) fun a=>Be .u64 (Z.getD 1 .top) fun b=>Be .u64 (Z.getD 2 .top) fun c=>Be .u64 (Z.getD 3 .top) fun e=>Be .u64 (Z.getD 4 .top) fun f=>Be .u64 (Z.getD 5 .top) fun g=>Be .u64 (Z.getD 6 .top) fun h=>Be .u64 (Z.getD 7 .top) fun i=>Be .u64 (Z.getD 8 .top) fun j=>Be .u64 (Z.getD 9 .top) fun k=>Be .u64 (Z.getD 10 .top) fun m=>Be .u64 (Z.getD 11 .top) fun n=>Be .u64 (Z.getD 12 .top) fun o=>Be .u64 (Z.getD 13 .top) fun p=>Be .u64 (Z.getD 14 .top) fun q=>Be .u64 (Z.getD 15 .top) fun s=>Be .u64 (Z.getD 16 .top) fun t=>Be .u64 (Z.getD 17 .top) fun u=>Lj .u64 (call 115 [V,.agg [Af a,Af b,Af c,Af e,Af f,Af g,Af h,Af i,Af j,Af k,Af m,Af n,Af o,Af p,Af q,Af s,Af t,Af u]]) fun a=>Xg fu call X W fu a):=by cases Y with|zero=>exact absurd M6 (Nat.lt_irrefl 0)|succ Y=>kernel_rfl
theorem GC(X W:Int)(Z:Nat)(M6:0<Z)(Y:Int):Xg fu call X W Z Y=(Bu [Af Y]):=by cases Z with|zero=>exact absurd M6 (Nat.lt_irrefl 0)|succ Z=>kernel_rfl
theorem NU(Z Y:Int):Fm (CX xs) fu d 114 [Af Z,Y] fun call=>Hl fu call Z Y fu Z Y 0 ([Af 0,Af 0,Af 0,Af 0,Af 0,Af 0,Af 0,Af 0,Af 0,Af 0,Af 0,Af 0,Af 0,Af 0,Af 0,Af 0,Af 0,Af 0]):=by show _=_;kernel_rfl
def Nk(Z Y X:Int)(W:Nat)(V U:Int)(T S:Int)(Q P:Int)(O N:Int)(M L:Int)(K J:Int)(I H:Int)(G E:Int)(D B:Int)(A z w:Int)(v:Ab):Option Dt:=K0 fu call 69 Tryz.f69 [Af Z,Y,Af X] [.r,.r,.l,.r,.l] W ⟨lk [(0,Af V),(1,U),(7,.ptr 7 0),(11,.agg [T,S,Q,P,O,N,M,L,K,J,I,H,G,E,D,B,A,z]),(12,w)],B3 [(7,.ar false v)]⟩
theorem Ww(A z w:Int)(v:Nat)(W X:Int)(V U:Int)(T S:Int)(Q P:Int)(O N:Int)(M L:Int)(K J:Int)(I H:Int)(G E:Int)(D B Z:Int)(Y:Ab):Nk fu call A z w (v+1) W X V U T S Q P O N M L K J I H G E D B Z Y=(Az (decide (Z<18)) (As (decide (0<=Z)&&decide (Z<18)&&true)<|Be .i64 (List.getD [V,U,T,S,Q,P,O,N,M,L,K,J,I,H,G,E,D,B] (Z.toNat*1) .top) fun a=>Lj .u64 (call 112 [Af W,X,Z]) fun b=>Lj .u64 (call 111 [X,Z,(0:Int),a,Af b]) fun a=>As (decide (0<=Z)&&decide (Z<18))<|As (decide (0+Z.toNat*1+1<=Y.length))<|Aa (B0 Y [Af a] (0+Z.toNat*1)) fun a=>Aa (wrap .i64 (Z+1)) fun b=>Nk fu call A z w v W X V U T S Q P O N M L K J I H G E D B b a) (As (decide (18<=Y.length))<|As (decide (18<=Y.length))<|Bu [.own 1 18 (Y.take 18)])):=by kernel_rfl
theorem WA(Z Y X:Int):Fm (CX xs) fu d 69 [Af Z,Y,Af X] fun call=>Dj (call 110 [Af X]) fun a b=>Dl a fun a=>Cu .i64 a fun a c=>Cu .i64 c fun c e=>Cu .i64 e fun e f=>Cu .i64 f fun f g=>Cu .i64 g fun g h=>Cu .i64 h fun h i=>Cu .i64 i fun i j=>Cu .i64 j fun j k=>Cu .i64 k fun k m=>Cu .i64 m fun m n=>Cu .i64 n fun n o=>Cu .i64 o fun o p=>Cu .i64 p fun p q=>Cu .i64 q fun q s=>Cu .i64 s fun s t=>Cu .i64 t fun t u=>Cu .i64 u fun u v=>Dc .i64 v fun v=>Ar b<|Nk fu call Z Y X fu Z Y a c e f g h i j k m n o p q s t u v 0 ([Af 0,Af 0,Af 0,Af 0,Af 0,Af 0,Af 0,Af 0,Af 0,Af 0,Af 0,Af 0,Af 0,Af 0,Af 0,Af 0,Af 0,Af 0]):=by show _=_;kernel_rfl
theorem UH(Z:Int):Fm (CX xs) fu d 67 [Z] fun call=>Az (decide (Z<0)) (Bu [.sc (.bool true)]) (Bu [.sc (.bool (decide (Z>4)))]):=by show _=_;kernel_rfl
theorem KR(Z Y:Int):Fm (CX xs) fu d 68 [Z,Y] fun call=>Az (decide (Z<0)) (Bu [.sc (.bool true)]) (As (decide (0<=Y))<|Aa (Hq .i64 1 Y) fun a=>Bu [.sc (.bool (decide (Z>=a)))]):=by show _=_;kernel_rfl
def Jq(Z:Nat)(Y:Ab)(X W:Nat)(V:Ab)(U:Nat)(T S:Int)(Q:Ab):Option Dt:=K0 fu call 92 Tryz.f92 [Am 1 Z Y] [.r,.r,.l,.r,.l] X ⟨lk [(0,Am 1 W V),(3,.view 3 1 0 U),(12,T),(13,S)],B3 [(3,.ar false Q)]⟩
def Mk(Z:Nat)(Y:Ab)(X W V:Nat)(U:Ab)(T:Nat)(S Q P:Int)(O:Nat)(N:Ab)(M L:Int)(K:Ab):Option Dt:=K0 fu call 92 Tryz.f92 [Am 1 Z Y] [.r,.r,.l,.r,.l,.i X,.r,.r,.l,.l,.r,.r,.l] W ⟨lk [(0,Am 1 V U),(3,.view 3 1 0 T),(4,S),(12,Q),(13,P),(22,Am 1 O N),(23,M),(24,L)],B3 [(3,.ar false K)]⟩
theorem Ut(T:Nat)(S:Ab)(Q W:Nat)(V:Ab)(Y:Nat)(U Z:Int)(X:Ab):Jq fu call T S (Q+1) W V Y U Z X=(Az (decide (Z<U)) (Aa (wrap .i64 (8*Z)) fun a=>Aa (wrap .i64 (8*Z)) fun b=>Aa (wrap .i64 (b+8)) fun b=>As (decide (0<=a))<|As (decide (0<=b))<|As (decide (a.toNat<=b.toNat)&&decide (b.toNat<=W))<|Aa (b.toNat-a.toNat) fun b=>Aa (List.take (b*1) (V.drop (a.toNat*1))) fun a=>Mk fu call T S Q fu W V Y Z U Z b a (↑b:Int) 0 X) (As (decide (Y*1<=X.length))<|Bu [.own 1 Y (X.take (Y*1))])):=by kernel_rfl
theorem Va(V:Nat)(U:Ab)(T K S:Nat)(Q:Ab)(X:Nat)(Z P O:Int)(N:Nat)(M:Ab)(L Y:Int)(W:Ab):Mk fu call V U T (K+1) S Q X Z P O N M L Y W=(Az (decide (Y<L)) (As (decide (0<=Y)&&decide (Y<(↑N:Int)))<|Be .u8 (M.getD (Y.toNat*1) .top) fun a=>As (decide (0<=Z)&&decide (Z<(↑X:Int)))<|Be .u64 (W.getD (0+Z.toNat*1) .top) fun b=>Aa (Hq .u64 b 8) fun b=>Aa (wrap .u64 a) fun a=>Aa (YF .u64 b a) fun a=>As (decide (0<=Z)&&decide (Z<(↑X:Int)))<|As (decide (0+Z.toNat*1+1<=W.length))<|Aa (B0 W [Af a] (0+Z.toNat*1)) fun a=>Aa (wrap .i64 (Y+1)) fun b=>Mk fu call V U T K S Q X Z P O N M L b a) (Aa (wrap .i64 (O+1)) fun a=>Jq fu call V U T S Q X P a W)):=by kernel_rfl
theorem RP(Z:Nat)(Y:Ab):Fm (CX xs) fu d 92 [Am 1 Z Y] fun call=>Aa (wrap .i64 (Int.tdiv (↑Z:Int) 8)) fun a=>As (decide (0<=a)&&decide (a<=a)&&decide (a*8<=1099511627776)&&decide (a<=1099511627776))<|Jq fu call Z Y fu Z Y a.toNat ((↑a.toNat:Int)) 0 (Zi a.toNat [Af 0]):=by show _=_;kernel_rfl
theorem PC(Z Y X:Int):Fm (CX xs) fu d 76 [Z,Af Y,Af X] fun call=>Aa (wrap .u64 Z) fun a=>Dj (call 86 [Am 1 3 [Af a,Af Y,Af X]]) fun a b=>J0 1 a fun a c=>Ar b<|As (decide (0+a*1<=c.length))<|Lj .u64 (call 66 [(3:Int),Am 1 a (List.take (a*1) (c.drop 0))]) fun a=>Bu [Af a]:=by show _=_;kernel_rfl
theorem GF(Z Y:Int):Fm (CX xs) fu d 129 [.agg [Z,Af Y]] fun call=>Dj (call 67 [Z]) fun a b=>Cg a fun a=>Ar b<|Az a (Bu [.own 1 0 [],(9:Int)]) (Aa (wrap .u8 Z) fun a=>Dj (call 86 [Am 1 1 [Af Y]]) fun b c=>J0 1 b fun b e=>Ar c<|As (decide (0+b*1<=e.length))<|As (decide (List.length (List.take (b*1) (e.drop 0))=b*1)&&decide ((1+b)*1<=1099511627776)&&decide (1+b<=1099511627776))<|Aa (1+b) fun c=>Aa ([.sc (.int .u8 a)]++List.take (b*1) (e.drop 0)) fun a=>As (decide (c*1<=a.length))<|Bu [.own 1 c (a.take (c*1)),(0:Int)]):=by show _=_;kernel_rfl
theorem FW(Z:Nat)(Y:Ab):Fm (CX xs) fu d 125 [Am 1 Z Y] fun call=>Az ((↑Z:Int) != 9) (Bu [.agg [(0:Int),Af 0],(2:Int)]) (As (decide (0<(↑Z:Int)))<|Be .u8 (Y.getD 0 .top) fun a=>Aa (wrap .i64 a) fun a=>Dj (call 67 [a]) fun a b=>Cg a fun a=>Ar b<|Az a (Bu [.agg [(0:Int),Af 0],(2:Int)]) (As (decide (0<(↑Z:Int)))<|Be .u8 (Y.getD 0 .top) fun a=>Aa (wrap .i64 a) fun a=>As (decide (1<=Z)&&decide (Z<=Z))<|Aa (Z-1) fun b=>Aa (List.take (b*1) (Y.drop 1)) fun c=>Dj (call 92 [Am 1 b c]) fun b c=>J0 1 b fun b e=>Ar c<|As (decide (0<(↑b:Int)))<|Be .u64 (e.getD 0 .top) fun b=>Bu [.agg [a,Af b],(0:Int)])):=by show _=_;kernel_rfl
theorem V9(Y:Int)(X:Nat)(W:Ab)(Z:Nat)(V:Ab):Fm (CX xs) fu d 46 [.agg [Y,Am 1 X W,Am 1 Z V]] fun call=>Dj (call 67 [(↑Z:Int)]) fun a b=>Cg a fun a=>Ar b<|Az a (Bu [.own 1 0 [],(9:Int)]) (Dj (call 68 [Y,(↑Z:Int)]) fun a b=>Cg a fun a=>Ar b<|Az a (Bu [.own 1 0 [],(9:Int)]) (Az ((↑X:Int) != 18) (Bu [.own 1 0 [],(4:Int)]) (Aa (wrap .u8 Y) fun a=>Aa (wrap .u8 (↑Z:Int)) fun b=>Dj (call 86 [Am 1 X W]) fun c e=>J0 1 c fun c f=>Ar e<|As (decide (0+c*1<=f.length))<|As (decide (List.length (List.take (c*1) (f.drop 0))=c*1)&&decide ((2+c)*1<=1099511627776)&&decide (2+c<=1099511627776))<|Aa (2+c) fun e=>Aa ([.sc (.int .u8 a),.sc (.int .u8 b)]++List.take (c*1) (f.drop 0)) fun a=>Dj (call 86 [Am 1 Z V]) fun b c=>J0 1 b fun b f=>Ar c<|As (decide (0+b*1<=f.length))<|As (decide (e*1<=a.length)&&decide (List.length (List.take (b*1) (f.drop 0))=b*1)&&decide ((e+b)*1<=1099511627776)&&decide (e+b<=1099511627776))<|Aa (e+b) fun c=>Aa (List.take (e*1) a++List.take (b*1) (f.drop 0)) fun a=>As (decide (c*1<=a.length))<|Bu [.own 1 c (a.take (c*1)),(0:Int)]))):=by show _=_;kernel_rfl
theorem Wd(Z:Nat)(Y:Ab):Fm (CX xs) fu d 49 [Am 1 Z Y] fun call=>Az (decide ((↑Z:Int)<2)) (Bu [.agg [(0:Int),.own 1 0 [],.own 1 0 []],(2:Int)]) (As (decide (0<(↑Z:Int)))<|Be .u8 (Y.getD 0 .top) fun a=>Aa (wrap .i64 a) fun a=>As (decide (1<(↑Z:Int)))<|Be .u8 (Y.getD 1 .top) fun b=>Aa (wrap .i64 b) fun b=>Dj (call 67 [b]) fun c e=>Cg c fun c=>Ar e<|Az c (Bu [.agg [(0:Int),.own 1 0 [],.own 1 0 []],(2:Int)]) (Dj (call 68 [a,b]) fun c e=>Cg c fun c=>Ar e<|Az c (Bu [.agg [(0:Int),.own 1 0 [],.own 1 0 []],(2:Int)]) (Aa (wrap .i64 (18+b)) fun b=>Aa (wrap .i64 (8*b)) fun b=>Aa (wrap .i64 (2+b)) fun b=>Az ((↑Z:Int) != b) (Bu [.agg [(0:Int),.own 1 0 [],.own 1 0 []],(2:Int)]) (As (decide (146<=Z))<|Aa (List.take 144 (Y.drop 2)) fun b=>Dj (call 92 [Am 1 144 b]) fun b c=>J0 1 b fun b e=>Ar c<|As (decide (146<=Z)&&decide (Z<=Z))<|Aa (Z-146) fun c=>Aa (List.take (c*1) (Y.drop 146)) fun f=>Dj (call 92 [Am 1 c f]) fun c f=>J0 1 c fun c g=>Ar f<|As (decide (b*1<=e.length))<|As (decide (c*1<=g.length))<|Bu [.agg [a,.own 1 b (e.take (b*1)),.own 1 c (g.take (c*1))],(0:Int)])))):=by show _=_;kernel_rfl
def I6(Z Y:Int)(X W:Int)(V:Nat)(U:Ab)(T:Nat)(S:Ab)(Q:Nat)(P:Int)(O:Nat)(N:Ab)(M L:Int)(K J I:Int)(H:Nat)(G:Ab)(E:Nat)(D:Ab):Option Dt:=K0 fu call 40 Tryz.f40 [.agg [Z,Af Y],Af X,.agg [W,Am 1 V U,Am 1 T S]] [.r,.r,.r,.r,.r,.l,.r,.l] Q ⟨lk [(3,.ptr 3 0),(5,.ptr 5 0),(7,Af P),(46,Am 1 O N),(47,M),(48,L)],B3 [(3,.st [K,Af J]),(5,.st [I,Am 1 H G,Am 1 E D])]⟩
theorem Tc(S Q:Int)(P O:Int)(N:Nat)(M:Ab)(L:Nat)(K:Ab)(J:Nat)(Y:Int)(X:Nat)(W:Ab)(V Z:Int)(I U T:Int)(H:Nat)(G:Ab)(E:Nat)(D:Ab):I6 fu call S Q P O N M L K (J+1) Y X W V Z I U T H G E D=(Az (decide (Z<V)) (As (decide (0<=Z)&&decide (Z<(↑X:Int)))<|Be .u64 (W.getD (Z.toNat*1) .top) fun a=>As (decide (0<=Z))<|Aa (Fp .i64 T Z) fun b=>Aa (Oy .i64 b 1) fun b=>Az (b==0) (Aa (wrap .i64 (Z+1)) fun b=>Lj .u64 (call 76 [b,Af Y,Af a]) fun a=>Aa (wrap .i64 (Z+1)) fun b=>I6 fu call S Q P O N M L K J a X W V b I U T H G E D) (Aa (wrap .i64 (Z+1)) fun b=>Lj .u64 (call 76 [b,Af a,Af Y]) fun a=>Aa (wrap .i64 (Z+1)) fun b=>I6 fu call S Q P O N M L K J a X W V b I U T H G E D)) (Az (Y != U) (Bu [(15:Int)]) (Bu [(0:Int)]))):=by kernel_rfl
theorem OC(Z T:Int)(S X:Int)(W:Nat)(V:Ab)(Y:Nat)(U:Ab):Fm (CX xs) fu d 40 [.agg [Z,Af T],Af S,.agg [X,Am 1 W V,Am 1 Y U]] fun call=>Dj (call 67 [Z]) fun a b=>Cg a fun a=>Ar b<|Az a (Bu [(9:Int)]) (Dj (call 68 [X,Z]) fun a b=>Cg a fun a=>Ar b<|Az a (Bu [(9:Int)]) (Az ((↑W:Int) != 18) (Bu [(4:Int)]) (Az ((↑Y:Int) != Z) (Bu [(4:Int)]) (Dj (call 75 [X,Af S,Am 1 W V]) fun a b=>Be .u64 a fun a=>Dc .i64 b fun b=>Az (b != 0) (Bu [b]) (I6 fu call Z T S X W V Y U fu a Y U (↑Y:Int) 0 Z T X W V Y U))))):=by show _=_;kernel_rfl
end
theorem A4z{a m:Int}(h0:0<=m)(h1:m<=18446744073709551615):0<=Oy .u64 a m/\Oy .u64 a m<=m:=by
 have FC:(BitVec.ofInt 64 a &&& BitVec.ofInt 64 m).toNat<=m.toNat:=by
  rw[BitVec.toNat_and];refine Nat.le_trans Nat.and_le_right ?_;rw[BitVec.toNat_ofInt];omega
 have:Oy .u64 a m=((BitVec.ofInt 64 a &&& BitVec.ofInt 64 m).toNat:Int):=by
  unfold Oy;exact Cd (by omega) (by show ((BitVec.ofInt 64 a &&& BitVec.ofInt 64 m).toNat:Int)<=_;omega)
 rw[this];omega
theorem Oz(k:IntKind)(l:B8)(i:Nat)(x:Int):(Ac k l).set i (.sc (.int k x))=Ac k (l.set i x):=by
 induction l generalizing i with
 |nil=>rfl
 |cons a l ih=>
  cases i with
  |zero=>rfl
  |succ i=>
   show (PV.sc (.int k a)::Ac k l).set (i+1) _=PV.sc (.int k a)::Ac k (l.set i x);rw[List.set_cons_succ,ih]
theorem Ahg(w:Int)(k:Nat):0<=Eu w k/\Eu w k<=255:=by unfold Eu;simp only[wrap,IntKind.signed,IntKind.bits];simp;omega
theorem Amu(w:Int):I7 (Fo w):=by intro x hx;obtain⟨k,_,rfl⟩:=List.mem_map.1 hx;exact Ahg w k
theorem Zr(ws:B8):I7 (A9 ws):=by intro x hx;obtain⟨w,_,hx⟩:=List.mem_flatMap.1 hx;exact Amu w x hx
theorem Do(ws:B8):(A9 ws).length=8*ws.length:=by
 induction ws with
 |nil=>rfl
 |cons w ws ih=>
  show (Fo w++A9 ws).length=_;rw[F9,ih,Hn,He];omega
def Je(m:Int)(k:Nat):Int:=wrap .i64 (Oy .u64 (Fp .u64 m (60-4*(k:Int))) 15)
theorem Xb(m:Int)(k:Nat):0<=Je m k/\Je m k<=15:=by have:=A4z (a:=Fp .u64 m (60-4*(k:Int))) (m:=15) (by omega) (by omega);unfold Je;rw[Ag (by omega) (by omega)];exact this
def Nq(m:Int):Nat->Int
 |0=>0
 |k+1=>Nq m k+(15-Je m k)
theorem Ok(m:Int):∀k,0<=Nq m k/\Nq m k<=15*k
 |0=>by simp[Nq]
 |k+1=>by
  have h1:=Ok m k;have h2:=Xb m k;simp only[Nq];omega
def YK(m:Int):B8:=(List.range 16).map (Je m)++[Nq m 16 / 16,Nq m 16 % 16]
def dg(m:Int)(k:Nat):Int:=(YK m).getD k 0
theorem Al7(m:Int):(YK m).length=18:=rfl
theorem Ay6{m x:Int}(h:x∈YK m):0<=x/\x<=15:=by
 have hs:=Ok m 16;unfold YK at h;rcases B4.1 h with h|h
 ·obtain⟨k,_,rfl⟩:=List.mem_map.1 h;exact Xb m k
 ·simp at h;rcases h with rfl|rfl<;>omega
theorem Yj(m:Int)(k:Nat):0<=dg m k/\dg m k<=15:=by
 unfold dg;rw[List.getD_eq_getElem?_getD];cases h:(YK m)[k]? with
 |none=>simp
 |some x=>exact Ay6 (List.mem_of_getElem? h)
def dl(m:Int)(i:Nat):B8:=(List.range i).map (Je m)++List.replicate (18-i) 0
theorem Aiy(m:Int){i:Nat}(h:i<=18):(dl m i).length=18:=by simp[dl];omega
theorem A7n(m:Int){i:Nat}(h:i<18):(dl m (i+1))[i]?=some (Je m i):=by unfold dl;rw[List.getElem?_append_left (by simp)];simp
theorem A3n(m:Int){i:Nat}(h:i<18):(dl m i).set i (Je m i)=dl m (i+1):=by unfold dl;rw[List.set_append_right _ _ (by simp),List.length_map,List.length_range,Nat.sub_self,show 18-i=(18-(i+1))+1 by omega,List.replicate_succ,List.set_cons_zero,List.range_succ,List.map_append,FX];rfl
def Wj(leaf chain:Int):Nat->Int->Int->Int
 |0,_,x=>x
 |k+1,p,x=>Wj leaf chain k (p+1) (Rj 1 (A9 [wrap .u64 leaf,wrap .u64 chain,wrap .u64 p,x]))
theorem Af5(leaf chain:Int):∀(k j:Nat)(p x:Int),Wj leaf chain (k+j) p x=Wj leaf chain j (p+k) (Wj leaf chain k p x)
 |0,j,p,x=>by simp[Wj]
 |k+1,j,p,x=>by
  rw[show k+1+j=(k+j)+1 by omega];simp only[Wj];rw[Af5 leaf chain k j]
  congr 1
  omega
def HH(leaf:Int)(E:B8):Int:=Rj 2 (A9 (wrap .u64 leaf::E))
def GR(leaf m:Int)(s:B8)(k:Nat):Int:=Wj leaf k (15-dg m k).toNat (dg m k) (s.getD k 0)
def TW(leaf m:Int)(s:B8):B8:=(List.range 18).map (GR leaf m s)
def Acl(leaf m:Int)(s:B8):Int:=HH leaf (TW leaf m s)
def el(leaf m:Int)(s:B8)(i:Nat):B8:=(List.range i).map (GR leaf m s)++List.replicate (18-i) 0
theorem Avj(leaf m:Int)(s:B8){i:Nat}(h:i<=18):(el leaf m s i).length=18:=by simp[el];omega
theorem A12(leaf m:Int)(s:B8){i:Nat}(h:i<18):(el leaf m s i).set i (GR leaf m s i)=el leaf m s (i+1):=by unfold el;rw[List.set_append_right _ _ (by simp),List.length_map,List.length_range,Nat.sub_self,show 18-i=(18-(i+1))+1 by omega,List.replicate_succ,List.set_cons_zero,List.range_succ,List.map_append,FX];rfl
theorem A50(leaf m:Int)(s:B8):el leaf m s 18=TW leaf m s:=by unfold el TW;simp
section
variable {fu d:Nat}{xs:FuncId->Option (Ab->Option Dt)}
theorem Arg{ws:B8}(hl:ws.length<=100)(Bo:1000<=fu)(dom:Int):Aq (CX xs) prog fu (d+5) 66 [Au dom,.lst false 1 (A9 ws).length (Ac .u8 (A9 ws))]=some ⟨[Af (Rj dom (A9 ws))],[]⟩:=
 Amo (Zr ws) (by rw[Do];omega) (by omega) (by rw[Do];omega) dom
theorem Ah8{leaf chain:Int}{a0 a1 a2 a3 a4:Int}(Bo:1000<=fu){t:Int}(ht:t<=15):∀(k nn:Nat)(p x:Int),(k:Int)=t-p->0<=p->k<nn ->
  O8 fu (Aq (CX xs) prog fu (d+5)) a0 a1 a2 a3 a4 nn leaf chain x t p=some ⟨[Af (Wj leaf chain k p x)],[]⟩
 |_,0,_,_,_,_,h=>by omega
 |0,nn+1,p,x,hk,hp,hn=>by
  rw[Zd,D6 _ _ _ (by omega)];rfl
 |k+1,nn+1,p,x,hk,hp,hn=>by
  have w:wrap .i64 (p+1)=p+1:=Ag (by omega) (by omega);have wd:Aq (CX xs) prog fu (d+5) 86 [.lst false 1 4 [Af (wrap .u64 leaf),Af (wrap .u64 chain),Af (wrap .u64 p),Af x]]=_:=Uq (ws:=[wrap .u64 leaf,wrap .u64 chain,wrap .u64 p,x]) (by simp) (by omega) (by simp;omega)
  have hs:=Arg (xs:=xs) (fu:=fu) (d:=d) (ws:=[wrap .u64 leaf,wrap .u64 chain,wrap .u64 p,x]) (by simp) Bo 1;have ih:=Ah8 (leaf:=leaf) (chain:=chain) (a0:=a0) (a1:=a1) (a2:=a2) (a3:=a3) (a4:=a4) Bo ht k nn (p+1) (Rj 1 (A9 [wrap .u64 leaf,wrap .u64 chain,wrap .u64 p,x])) (by omega) (by omega) (by omega);have L:=Ap .u8 (A9 [wrap .u64 leaf,wrap .u64 chain,wrap .u64 p,x]);have eR:Wj leaf chain (k+1) p x=Wj leaf chain k (p+1) (Rj 1 (A9 [wrap .u64 leaf,wrap .u64 chain,wrap .u64 p,x])):=rfl;rw[eR];generalize A9 [wrap .u64 leaf,wrap .u64 chain,wrap .u64 p,x]=W at wd hs ih L ⊢;rw[Zd];simp(disch:=omega)only[Bz,Bx,wd,De,Ck,Er,Mi,L,hs,w];exact ih
theorem Ajh{leaf chain:Int}(Bo:1000<=fu)(k:Nat)(f t x:Int)(hk:(k:Int)=t-f)(h0:0<=f)(h1:t<=15):Aq (CX xs) prog fu (d+6) 111 [Au leaf,Au chain,Au f,Au t,Af x]=some ⟨[Af (Wj leaf chain k f x)],[]⟩:=by rw[YJ];simp only[Ke];rw[A4 (by omega),A4 (by omega)];exact Ah8 Bo h1 k fu f x hk h0 (by omega)
theorem PR{call:Bq}{a0 m:Int}{y3:Ab}:∀(k i nn:Nat),i+k=16->k<nn ->
  I0 fu call a0 nn m (Nq m i) i y3 (Ac .i64 (dl m i))=I0 fu call a0 (nn-k) m (Nq m 16) 16 y3 (Ac .i64 (dl m 16))
 |_,_,0,_,h=>by omega
 |0,i,nn+1,hi,hn=>by
  have e:i=16:=by omega
  subst e;rfl
 |k+1,i,nn+1,hi,hn=>by
  have ih:=PR (call:=call) (a0:=a0) (y3:=y3) (m:=m) k (i+1) nn (by omega) (by omega);have hb:=Xb m i;have hs:=Ok m i;have w:wrap .i64 ((i:Int)+1)=((i+1:Nat):Int):=by rw[Ag (by omega) (by omega)];omega
  have w4:wrap .i64 (4*(i:Int))=4*(i:Int):=Ag (by omega) (by omega);have w60:wrap .i64 (60-4*(i:Int))=60-4*(i:Int):=Ag (by omega) (by omega);have hd:wrap .i64 (Oy .u64 (Fp .u64 m (60-4*(i:Int))) 15)=Je m i:=rfl;have w15:wrap .i64 (15-Je m i)=15-Je m i:=Ag (by omega) (by omega);have ws:wrap .i64 (Nq m i+(15-Je m i))=Nq m (i+1):=by rw[Ag (by omega) (by omega)];rfl
  have L:(Ac .i64 (dl m i)).length=18:=by rw[Ap,Aiy m (by omega)]
  have GB:B0 (Ac .i64 (dl m i)) [Au (Je m i)] i=Ac .i64 (dl m (i+1)):=by
   rw[Hs (by omega),Oz,A3n m (by omega)]
  have ZO:(Ac .i64 (dl m (i+1))).getD i .top=Au (Je m i):=Ss (A7n m (by omega));rw[show nn+1-(k+1)=nn-k by omega,<-ih,Td];simp(disch:=omega)only[Bz,Bx,H6,De,Ck,w,w4,w60,hd,L,GB,ZO,w15,ws]
theorem Ab4(Bo:1000<=fu)(m:Int):Aq (CX xs) prog fu (d+1) 110 [Af m]=some ⟨[.agg (Ac .i64 (YK m))],[]⟩:=by
 rw[OD];have lp:=PR (fu:=fu) (call:=Aq (CX xs) prog fu d) (a0:=m) (m:=m) (y3:=Ac .i64 (List.replicate 18 0)) 16 0 fu (by omega) (by omega);obtain⟨f',hf'⟩:∃f',fu-16=f'+1:=⟨fu-17,by omega⟩
 rw[hf'] at lp;refine Eq.trans lp ?_;have hs:=Ok m 16
 have wq:wrap .i64 (Int.tdiv (Nq m 16) 16)=Nq m 16 / 16:=by
  rw[Int.tdiv_eq_ediv_of_nonneg (by omega),Ag (by omega) (by omega)]
 have wm:Int.tmod (Nq m 16) 16=Nq m 16 % 16:=Int.tmod_eq_emod_of_nonneg (by omega);have L:(Ac .i64 (dl m 16)).length=18:=by rw[Ap,Aiy m (by omega)]
 have h1:B0 (Ac .i64 (dl m 16)) [Au (Nq m 16 / 16)] 16=Ac .i64 ((dl m 16).set 16 (Nq m 16 / 16)):=by
  rw[Hs (by omega),Oz]
 have L2:(Ac .i64 ((dl m 16).set 16 (Nq m 16 / 16))).length=18:=by rw[Ap,List.length_set,Aiy m (by omega)]
 have h2:B0 (Ac .i64 ((dl m 16).set 16 (Nq m 16 / 16))) [Au (Nq m 16 % 16)] 17=Ac .i64 (YK m):=by
  rw[Hs (by omega),Oz];rfl
 rw[Td,D6 _ _ _ (by omega)];simp only[Ke,wq,wm,L,h1,L2,h2];generalize hq:Nq m 16 / 16=q at *
 generalize hr:Nq m 16 % 16=r at *
 have hD:Ac .i64 (YK m)=[Au (Je m 0),Au (Je m 1),Au (Je m 2),Au (Je m 3),Au (Je m 4),Au (Je m 5),Au (Je m 6),Au (Je m 7),Au (Je m 8),Au (Je m 9),Au (Je m 10),Au (Je m 11),Au (Je m 12),Au (Je m 13),Au (Je m 14),Au (Je m 15),Au q,Au r]:=by
  unfold YK;rw[hq,hr];rfl
 rw[hD];have A6s:(Ac .i64 (List.replicate 18 0)).length=18:=rfl
 have hsp:∀c:Ab,c.length=18->B0 (Ac .i64 (List.replicate 18 0)) c 0=c:=by
  intro c hc;unfold B0;rw[hc,List.drop_of_length_le (by rw[A6s];omega)]
  simp
 rw[GI (M6:=by omega)];simp only[Bz,Bx,List.getD_cons_zero,List.getD_cons_succ,A6s];rw[hsp _ rfl];simp(disch:=omega)only[Bz,Bx,FZ,List.getD_cons_zero,List.getD_cons_succ]
theorem XC(Bo:1000<=fu)(leaf:Int){E:B8}(hE:E.length=18):Aq (CX xs) prog fu (d+6) 115 [Au leaf,.agg (Ac .u64 E)]=some ⟨[Af (HH leaf E)],[]⟩:=by
 match E,hE with
 |[e0,e1,e2,e3,e4,e5,e6,e7,e8,e9,e10,e11,e12,e13,e14,e15,e16,e17],_=>
  have wd:Aq (CX xs) prog fu (d+5) 86 [.lst false 1 19 [Af (wrap .u64 leaf),Af e0,Af e1,Af e2,Af e3,Af e4,Af e5,Af e6,Af e7,Af e8,Af e9,Af e10,Af e11,Af e12,Af e13,Af e14,Af e15,Af e16,Af e17]]=_:=Uq (ws:=wrap .u64 leaf::[e0,e1,e2,e3,e4,e5,e6,e7,e8,e9,e10,e11,e12,e13,e14,e15,e16,e17]) (by simp) (by omega) (by simp;omega)
  have hs:=Arg (xs:=xs) (fu:=fu) (d:=d) (ws:=wrap .u64 leaf::[e0,e1,e2,e3,e4,e5,e6,e7,e8,e9,e10,e11,e12,e13,e14,e15,e16,e17]) (by simp) Bo 2;have L:=Ap .u8 (A9 (wrap .u64 leaf::[e0,e1,e2,e3,e4,e5,e6,e7,e8,e9,e10,e11,e12,e13,e14,e15,e16,e17]));have eR:HH leaf [e0,e1,e2,e3,e4,e5,e6,e7,e8,e9,e10,e11,e12,e13,e14,e15,e16,e17]=Rj 2 (A9 (wrap .u64 leaf::[e0,e1,e2,e3,e4,e5,e6,e7,e8,e9,e10,e11,e12,e13,e14,e15,e16,e17])):=rfl;rw[eR];generalize A9 (wrap .u64 leaf::[e0,e1,e2,e3,e4,e5,e6,e7,e8,e9,e10,e11,e12,e13,e14,e15,e16,e17])=W at wd hs L ⊢;refine (NC fu (d+5) leaf e0 e1 e2 e3 e4 e5 e6 e7 e8 e9 e10 e11 e12 e13 e14 e15 e16 e17).trans ?_;simp(disch:=omega)only[Bz,Bx,wd,De,Ck,Er,Mi,L,hs]
theorem A0c(g:Nat->Int){i:Nat}(hi:i<18):List.getD [PV.sc (.int .i64 (g 0)),PV.sc (.int .i64 (g 1)),PV.sc (.int .i64 (g 2)),PV.sc (.int .i64 (g 3)),PV.sc (.int .i64 (g 4)),PV.sc (.int .i64 (g 5)),PV.sc (.int .i64 (g 6)),PV.sc (.int .i64 (g 7)),PV.sc (.int .i64 (g 8)),PV.sc (.int .i64 (g 9)),PV.sc (.int .i64 (g 10)),PV.sc (.int .i64 (g 11)),PV.sc (.int .i64 (g 12)),PV.sc (.int .i64 (g 13)),PV.sc (.int .i64 (g 14)),PV.sc (.int .i64 (g 15)),PV.sc (.int .i64 (g 16)),PV.sc (.int .i64 (g 17))] i PV.top=Au (g i):=by
 have:((List.range 18).map g)[i]?=some (g i):=by simp[hi]
 exact Ss (k:=.i64) this
theorem MR{a0 a1:Int}{PX:Nat}{a2:Ab}{leaf m:Int}{s:B8}(hs:s.length=18)(Bo:1000<=fu)(g:Nat->Int)(hg:∀k,g k=dg m k):∀(k i nn:Nat),i+k=18->k<nn ->
  Gn fu (Aq (CX xs) prog fu (d+6)) a0 a1 PX a2 nn leaf s.length (Ac .u64 s) (g 0) (g 1) (g 2) (g 3) (g 4) (g 5) (g 6) (g 7) (g 8) (g 9) (g 10) (g 11) (g 12) (g 13) (g 14) (g 15) (g 16) (g 17) i (Ac .u64 (el leaf m s i)) =
   Gn fu (Aq (CX xs) prog fu (d+6)) a0 a1 PX a2 (nn-k) leaf s.length (Ac .u64 s) (g 0) (g 1) (g 2) (g 3) (g 4) (g 5) (g 6) (g 7) (g 8) (g 9) (g 10) (g 11) (g 12) (g 13) (g 14) (g 15) (g 16) (g 17) 18 (Ac .u64 (el leaf m s 18))
 |_,_,0,_,h=>by omega
 |0,i,nn+1,hi,hn=>by
  have e:i=18:=by omega
  subst e;rfl
 |k+1,i,nn+1,hi,hn=>by
  have ih:=MR (a0:=a0) (a1:=a1) (PX:=PX) (a2:=a2) (leaf:=leaf) (m:=m) hs Bo g hg k (i+1) nn (by omega) (by omega);obtain⟨x,hx⟩:∃x,s[i]?=some x:=⟨_,List.getElem?_eq_getElem (by omega)⟩
  have hb:=Yj m i;have hgi:=A0c g (i:=i) (by omega);have w:wrap .i64 ((i:Int)+1)=((i+1:Nat):Int):=by rw[Ag (by omega) (by omega)];omega
  have rn:=Ajh (xs:=xs) (fu:=fu) (d:=d) (leaf:=leaf) (chain:=i) Bo (15-dg m i).toNat (g i) 15 x (by rw[hg];omega) (by rw[hg];omega) (by omega)
  have ev:Wj leaf i (15-dg m i).toNat (g i) x=GR leaf m s i:=by
   unfold GR;rw[List.getD_eq_getElem?_getD,hx,hg];rfl
  rw[ev] at rn;have L:(Ac .u64 (el leaf m s i)).length=18:=by rw[Ap,Avj leaf m s (by omega)]
  have GB:B0 (Ac .u64 (el leaf m s i)) [Af (GR leaf m s i)] i=Ac .u64 (el leaf m s (i+1)):=by
   rw[Hs (by omega),Oz,A12 leaf m s (by omega)]
  rw[show nn+1-(k+1)=nn-k by omega,<-ih,Rp];simp(disch:=omega)only[Bz,Bx,H6,De,Ck,hgi,Ss hx,rn,L,GB,w]
theorem Af1(Bo:1000<=fu){a0 a1 leaf:Int}{PX n nn:Nat}{a2 c:Ab}{g:Nat->Int}{E:B8}(hE:E.length=18):
  Gn fu (Aq (CX xs) prog fu (d+6)) a0 a1 PX a2 (nn+1) leaf n c (g 0) (g 1) (g 2) (g 3) (g 4) (g 5) (g 6) (g 7) (g 8) (g 9) (g 10) (g 11) (g 12) (g 13) (g 14) (g 15) (g 16) (g 17) 18 (Ac .u64 E)=some ⟨[Af (HH leaf E),Au 0],[]⟩:=by
 match E,hE with
 |[e0,e1,e2,e3,e4,e5,e6,e7,e8,e9,e10,e11,e12,e13,e14,e15,e16,e17],hE=>
  have cb:=XC (xs:=xs) (fu:=fu) (d:=d) Bo leaf hE;have hc:Ac .u64 [e0,e1,e2,e3,e4,e5,e6,e7,e8,e9,e10,e11,e12,e13,e14,e15,e16,e17]=[Af e0,Af e1,Af e2,Af e3,Af e4,Af e5,Af e6,Af e7,Af e8,Af e9,Af e10,Af e11,Af e12,Af e13,Af e14,Af e15,Af e16,Af e17]:=rfl;rw[hc] at cb ⊢;generalize HH leaf [e0,e1,e2,e3,e4,e5,e6,e7,e8,e9,e10,e11,e12,e13,e14,e15,e16,e17]=R at cb ⊢;rw[Rp,D6 _ _ _ (by omega)];simp(disch:=omega)only[Bz,Bx,CP,DU,List.getD_cons_zero,List.getD_cons_succ,cb]
theorem Akj(Bo:1000<=fu)(leaf m:Int)(s:B8):Aq (CX xs) prog fu (d+7) 75 [Au leaf,Af m,.lst false 1 s.length (Ac .u64 s)]=some ⟨(if s.length=18 then [Af (Acl leaf m s),Au 0] else [Af 0,Au 4]),[]⟩:=by
 rw[KP];by_cases h:s.length=18
 ·have dq:=Ab4 (xs:=xs) (fu:=fu) (d:=d+5) Bo m;have hD:Ac .i64 (YK m)=[Au (dg m 0),Au (dg m 1),Au (dg m 2),Au (dg m 3),Au (dg m 4),Au (dg m 5),Au (dg m 6),Au (dg m 7),Au (dg m 8),Au (dg m 9),Au (dg m 10),Au (dg m 11),Au (dg m 12),Au (dg m 13),Au (dg m 14),Au (dg m 15),Au (dg m 16),Au (dg m 17)]:=rfl;rw[hD] at dq;simp only[Eb];rw[Bn h,Bn (by omega)];simp only[Bz,Bx,dq];have lp:=MR (xs:=xs) (fu:=fu) (d:=d) (a0:=leaf) (a1:=m) (PX:=s.length) (a2:=Ac .u64 s) (leaf:=leaf) (m:=m) h Bo (dg m) (fun _=>rfl) 18 0 fu (by omega) (by omega);obtain⟨f',hf'⟩:∃f',fu-18=f'+1:=⟨fu-19,by omega⟩
  rw[hf'] at lp;refine Eq.trans lp ?_;have eE:el leaf m s 18=TW leaf m s:=A50 leaf m s;have hl:(TW leaf m s).length=18:=by rw[<-eE,Avj leaf m s (by omega)]
  have eR:Acl leaf m s=HH leaf (TW leaf m s):=rfl;rw[eE,eR];exact Af1 Bo hl
 ·simp only[Eb];rw[A4 h,A4 (by omega)]
end
structure Ky where
 h:Int
 root:Int
structure Sg where
 leaf:Int
 chains:B8
 path:B8
def Ky.cells(k:Ky):Ab:=[Au k.h,Af k.root]
def Sg.cells(s:Sg):Ab:=[Au s.leaf,.lst false 1 s.chains.length (Ac .u64 s.chains),.lst false 1 s.path.length (Ac .u64 s.path)]
def Dz(h:Int):Bool:=decide (h<0)||decide (h>4)
def Ip(leaf h:Int):Bool:=decide (leaf<0)||decide (leaf>=Hq .i64 1 h)
def Rf(level a b:Int):Int:=Rj 3 (A9 [wrap .u64 level,a,b])
def ED(leaf:Int):Nat->Int->B8->Int
 |_,x,[]=>x
 |i,x,s::r=>ED leaf (i+1) (if Oy .i64 (Fp .i64 leaf i) 1=0 then Rf ((i+1:Nat):Int) x s else Rf ((i+1:Nat):Int) s x) r
def okE(x root:Int):Int:=if x=root then 0 else 15
theorem WB(leaf:Int)(i:Nat)(x:Int):ED leaf i x []=x:=rfl
theorem DC(leaf:Int)(i:Nat)(x s:Int)(r:B8):ED leaf i x (s::r)=ED leaf (i+1) (if Oy .i64 (Fp .i64 leaf i) 1=0 then Rf ((i+1:Nat):Int) x s else Rf ((i+1:Nat):Int) s x) r:=rfl
def Aez(k:Ky)(m:Int)(s:Sg):Int:=
 if Dz k.h=true then 9 else if Ip s.leaf k.h=true then 9 else if s.chains.length≠18 then 4 else if (s.path.length:Int)≠k.h then 4 else
 okE (ED s.leaf 0 (Acl s.leaf m s.chains) s.path) k.root
theorem H0{h:Int}(hh:Dz h=false):0<=h/\h<=4:=by unfold Dz at hh;simp at hh;omega
section
variable {fu d:Nat}{xs:FuncId->Option (Ab->Option Dt)}
theorem AM(h:Int):Aq (CX xs) prog fu (d+1) 67 [Au h]=some ⟨[.sc (.bool (Dz h))],[]⟩:=by
 rw[UH];unfold Dz;by_cases h0:h<0
 ·simp only[Bz,Bx,NW,h0,decide_true,Bool.true_or,if_true]
 ·simp only[Bz,Bx,NW,h0,decide_false,Bool.false_or,if_false]
theorem Vl(leaf h:Int)(h0:0<=h):Aq (CX xs) prog fu (d+1) 68 [Au leaf,Au h]=some ⟨[.sc (.bool (Ip leaf h))],[]⟩:=by
 rw[KR];unfold Ip;by_cases hl:leaf<0
 ·simp only[Bz,Bx,NW,hl,decide_true,Bool.true_or,if_true]
 ·simp(disch:=omega)only[Bz,Bx,NW,hl,decide_false,Bool.false_or,if_false]
theorem NT(Bo:1000<=fu)(level a b:Int):Aq (CX xs) prog fu (d+6) 76 [Au level,Af a,Af b]=some ⟨[Af (Rf level a b)],[]⟩:=by
 have wd:Aq (CX xs) prog fu (d+5) 86 [.lst false 1 3 [Af (wrap .u64 level),Af a,Af b]]=_:=Uq (ws:=[wrap .u64 level,a,b]) (by simp) (by omega) (by simp;omega)
 have hs:=Arg (xs:=xs) (fu:=fu) (d:=d) (ws:=[wrap .u64 level,a,b]) (by simp) Bo 3;have L:=Ap .u8 (A9 [wrap .u64 level,a,b]);rw[PC];unfold Rf;generalize A9 [wrap .u64 level,a,b]=W at wd hs L ⊢;simp(disch:=omega)only[Bz,Bx,wd,De,Ck,Er,Mi,L,hs]
theorem PN{a0 a1 a2 a3:Int}{n1 n2 n3 n4:Nat}{c1 c2 c3 c4:Ab}{y5 root leaf:Int}{path:B8}(hp:path.length<=100)(Bo:1000<=fu):∀(r:B8)(i nn:Nat)(x:Int),path.drop i=r->r.length<nn->i<=path.length ->
  I6 fu (Aq (CX xs) prog fu (d+6)) a0 a1 a2 a3 n1 c1 n2 c2 nn x path.length (Ac .u64 path) path.length i y5 root leaf n3 c3 n4 c4=some ⟨[Au (okE (ED leaf i x r) root)],[]⟩
 |_,_,0,_,_,h,_=>by omega
 |[],i,nn+1,x,h,hn,hi=>by
  have:=drop_nil h;rw[Tc,D6 _ _ _ (by omega),Eb];rw[WB];unfold okE;by_cases e:x=root
  ·rw[Bn e,Bn e]
  ·rw[A4 e,A4 e]
 |s::r,i,nn+1,x,h,hn,hi=>by
  obtain⟨h1,h2,h3⟩:=C8 h;simp only[He] at hn;have w:wrap .i64 ((i:Int)+1)=((i+1:Nat):Int):=by rw[Ag (by omega) (by omega)];omega
  have ih:=fun x=>PN (a0:=a0) (a1:=a1) (a2:=a2) (a3:=a3) (n1:=n1) (n2:=n2) (n3:=n3) (n4:=n4) (c1:=c1) (c2:=c2) (c3:=c3) (c4:=c4) (y5:=y5) (root:=root) (leaf:=leaf) hp Bo r (i+1) nn x h3 (by omega) (by omega);have p1:=NT (xs:=xs) (fu:=fu) (d:=d) Bo ((i+1:Nat):Int) x s;have p2:=NT (xs:=xs) (fu:=fu) (d:=d) Bo ((i+1:Nat):Int) s x;rw[Tc,DC];by_cases hb:Oy .i64 (Fp .i64 leaf i) 1=0
  ·rw[Bn hb,<-ih];simp(disch:=omega)only[Bz,Bx,H6,De,Ss h2,Gy,hb,w,p1,if_true]
  ·rw[A4 hb,<-ih];simp(disch:=omega)only[Bz,Bx,H6,De,Ss h2,Gy,hb,w,p2,if_false]
theorem Ao9(Bo:1000<=fu)(k:Ky)(m:Int)(s:Sg):Aq (CX xs) prog fu (d+8) 40 [.agg k.cells,Af m,.agg s.cells]=some ⟨[Au (Aez k m s)],[]⟩:=by
 refine (OC fu (d+7) k.h k.root m s.leaf s.chains.length (Ac .u64 s.chains) s.path.length (Ac .u64 s.path)).trans ?_;have h1:=AM (xs:=xs) (fu:=fu) (d:=d+6) k.h;unfold Aez;cases c1:Dz k.h
 ·rw[c1] at h1;have hb:=H0 c1;have h2:=Vl (xs:=xs) (fu:=fu) (d:=d+6) s.leaf k.h hb.1;cases c2:Ip s.leaf k.h
  ·rw[c2] at h2;by_cases c3:s.chains.length=18
   ·by_cases c4:(s.path.length:Int)=k.h
    ·have rc:=Akj (xs:=xs) (fu:=fu) (d:=d) Bo s.leaf m s.chains;rw[Bn c3] at rc;have vl:=PN (xs:=xs) (fu:=fu) (d:=d+1) (a0:=k.h) (a1:=k.root) (a2:=m) (a3:=s.leaf) (n1:=s.chains.length) (n2:=s.path.length) (n3:=s.chains.length) (n4:=s.path.length) (c1:=Ac .u64 s.chains) (c2:=Ac .u64 s.path) (c3:=Ac .u64 s.chains) (c4:=Ac .u64 s.path) (y5:=k.h) (root:=k.root) (leaf:=s.leaf) (path:=s.path) (by omega) Bo s.path 0 fu (Acl s.leaf m s.chains) rfl (by omega) (by omega);rw[A4 (by simp),A4 (by simp),A4 (by omega),A4 (by omega),<-vl];simp(disch:=omega)only[Bz,Bx,h1,h2,Eb,rc,if_true,c4];rw[Bn (by omega)];rfl
    ·rw[A4 (by simp),A4 (by simp),A4 (by omega),Bn c4];simp(disch:=omega)only[Bz,Bx,h1,h2,Eb,c4,if_false];rw[Bn (by omega)]
   ·rw[A4 (by simp),A4 (by simp),Bn c3];simp(disch:=omega)only[Bz,Bx,h1,h2,Eb];rw[A4 (by omega)]
  ·rw[c2] at h2;rw[A4 (by simp),Bn rfl];simp(disch:=omega)only[Bz,Bx,h1,h2]
 ·rw[c1] at h1;rw[Bn rfl];simp(disch:=omega)only[Bz,Bx,h1]
def Ir(k:Ky):B8:=wrap .u8 k.h::Fo k.root
def Sm(s:Sg):B8:=wrap .u8 s.leaf::wrap .u8 s.path.length::(A9 s.chains++A9 s.path)
theorem owd(Bo:1000<=fu)(w:Int):Aq (CX xs) prog fu (d+1) 86 [.lst false 1 1 [Af w]]=some ⟨[.own 1 8 (Ac .u8 (Fo w))],[]⟩:=by
 have:=Uq (xs:=xs) (fu:=fu) (d:=d) (ws:=[w]) (by simp) (by omega) (by simp;omega)
 simp only[A9,J1,List.flatMap_nil,List.append_nil,He,Ud,Hn] at this;exact this
theorem Ans(Bo:1000<=fu)(k:Ky):Aq (CX xs) prog fu (d+2) 129 [.agg k.cells]=some ⟨(if Dz k.h=true then [.own 1 0 [],Au 9] else [.own 1 9 (Ac .u8 (Ir k)),Au 0]),[]⟩:=by
 refine (GF fu (d+1) k.h k.root).trans ?_;have h1:=AM (xs:=xs) (fu:=fu) (d:=d) k.h;have wd:=owd (xs:=xs) (fu:=fu) (d:=d) Bo k.root;have L:=Ap .u8 (Fo k.root);rw[Hn] at L;have t8:List.take 8 (Ac .u8 (Fo k.root))=Ac .u8 (Fo k.root):=Hg (by omega)
 have t9:List.take 9 ([PV.sc (.int .u8 (wrap .u8 k.h))]++Ac .u8 (Fo k.root))=Ac .u8 (Ir k):=by
  rw[Hg (by rw[F9,L];simp)]
  rfl
 have L9:([PV.sc (.int .u8 (wrap .u8 k.h))]++Ac .u8 (Fo k.root)).length=9:=by rw[F9,L];rfl
 cases c1:Dz k.h
 ·rw[c1] at h1;rw[A4 (by simp)];simp(disch:=omega)only[Bz,Bx,h1,wd,De,Ck,Er,L,t8,Nat.reduceAdd,L9,t9]
 ·rw[c1] at h1;rw[Bn rfl];simp(disch:=omega)only[Bz,Bx,h1]
theorem Aob(Bo:1000<=fu)(s:Sg)(hp:s.path.length<=1000000000)(hf:s.path.length<fu):Aq (CX xs) prog fu (d+2) 46 [.agg s.cells]=some ⟨(if Dz s.path.length=true then [.own 1 0 [],Au 9] else if Ip s.leaf s.path.length=true then [.own 1 0 [],Au 9] else if s.chains.length≠18 then [.own 1 0 [],Au 4] else [.own 1 (Sm s).length (Ac .u8 (Sm s)),Au 0]),[]⟩:=by
 refine (V9 fu (d+1) s.leaf s.chains.length (Ac .u64 s.chains) s.path.length (Ac .u64 s.path)).trans ?_;have h1:=AM (xs:=xs) (fu:=fu) (d:=d) s.path.length;cases c1:Dz s.path.length
 ·rw[c1] at h1;have hb:=H0 c1;have h2:=Vl (xs:=xs) (fu:=fu) (d:=d) s.leaf s.path.length hb.1;cases c2:Ip s.leaf s.path.length
  ·rw[c2] at h2;by_cases c3:s.chains.length=18
   ·have w1:=Uq (xs:=xs) (fu:=fu) (d:=d) (ws:=s.chains) (by omega) (by omega) (by omega);have w2:=Uq (xs:=xs) (fu:=fu) (d:=d) (ws:=s.path) (by omega) (by omega) (by omega);have l1:=Do s.chains;have l2:=Do s.path;have L1:=Ap .u8 (A9 s.chains);have L2:=Ap .u8 (A9 s.path)
    have eB:Ac .u8 (Sm s)=[PV.sc (.int .u8 (wrap .u8 s.leaf)),PV.sc (.int .u8 (wrap .u8 s.path.length))]++Ac .u8 (A9 s.chains)++Ac .u8 (A9 s.path):=by
     unfold Sm;simp
    have eL:(Sm s).length=2+(A9 s.chains).length+(A9 s.path).length:=by
     unfold Sm;simp;omega
    rw[A4 (by simp),A4 (by simp),A4 (by omega),eB,eL];have t2:List.take (2+(A9 s.chains).length) ([PV.sc (.int .u8 (wrap .u8 s.leaf)),PV.sc (.int .u8 (wrap .u8 s.path.length))]++Ac .u8 (A9 s.chains))=[PV.sc (.int .u8 (wrap .u8 s.leaf)),PV.sc (.int .u8 (wrap .u8 s.path.length))]++Ac .u8 (A9 s.chains):=Hg (by rw[F9,L1];simp)
    have t3:List.take (2+(A9 s.chains).length+(A9 s.path).length) ([PV.sc (.int .u8 (wrap .u8 s.leaf)),PV.sc (.int .u8 (wrap .u8 s.path.length))]++Ac .u8 (A9 s.chains)++Ac .u8 (A9 s.path))=[PV.sc (.int .u8 (wrap .u8 s.leaf)),PV.sc (.int .u8 (wrap .u8 s.path.length))]++Ac .u8 (A9 s.chains)++Ac .u8 (A9 s.path):=Hg (by rw[F9,F9,L1,L2];simp)
    have k2:([PV.sc (.int .u8 (wrap .u8 s.leaf)),PV.sc (.int .u8 (wrap .u8 s.path.length))]++Ac .u8 (A9 s.chains)).length=2+(A9 s.chains).length:=by rw[F9,L1];rfl
    have k3:([PV.sc (.int .u8 (wrap .u8 s.leaf)),PV.sc (.int .u8 (wrap .u8 s.path.length))]++Ac .u8 (A9 s.chains)++Ac .u8 (A9 s.path)).length=2+(A9 s.chains).length+(A9 s.path).length:=by rw[F9,k2,L2]
    simp(disch:=omega)only[Bz,Bx,h1,h2,Eb,w1,w2,De,Ck,Er,L1,L2,Mi,t2,t3,k2,k3];rw[Bn (by omega)]
   ·rw[A4 (by simp),A4 (by simp),Bn c3];simp(disch:=omega)only[Bz,Bx,h1,h2,Eb];rw[A4 (by omega)]
  ·rw[c2] at h2;rw[A4 (by simp),Bn rfl];simp(disch:=omega)only[Bz,Bx,h1,h2]
 ·rw[c1] at h1;rw[Bn rfl];simp(disch:=omega)only[Bz,Bx,h1]
def My(l:B8)(i:Nat):Int:=GO ((l.drop (8*i)).take 8)
def Gs(l:B8):B8:=(List.range (l.length / 8)).map (My l)
def wl(l:B8)(i:Nat):B8:=(List.range i).map (My l)++List.replicate (l.length / 8-i) 0
theorem Avh(l:B8){i:Nat}(h:i<=l.length / 8):(wl l i).length=l.length / 8:=by simp[wl];omega
theorem A2d(l:B8){i:Nat}(h:i<l.length / 8):(wl l i).set i (My l i)=wl l (i+1):=by unfold wl;rw[List.set_append_right _ _ (by simp),List.length_map,List.length_range,Nat.sub_self,show l.length / 8-i=(l.length / 8-(i+1))+1 by omega,List.replicate_succ,List.set_cons_zero,List.range_succ,List.map_append,FX];rfl
theorem Ayx(l:B8){i:Nat}(h:i<l.length / 8):(wl l i).set i 0=wl l i:=by unfold wl;rw[List.set_append_right _ _ (by simp),List.length_map,List.length_range,Nat.sub_self,show l.length / 8-i=(l.length / 8-(i+1))+1 by omega,List.replicate_succ,List.set_cons_zero]
theorem Ab9{n m0:Nat}{c:Ab}{l:B8}(hl:l.length<=1000000){i:Nat}(hi:i<l.length / 8){q:B8}(hq:q.length<=8):∀(r:B8)(j nn:Nat)(x:Int),q.drop j=r->r.length<nn->j<=q.length ->
  Mk fu (Aq (CX xs) prog fu d) n c m0 nn l.length (Ac .u8 l) (l.length / 8) i ((l.length / 8:Nat):Int) i q.length (Ac .u8 q) q.length j (Ac .u64 ((wl l i).set i x)) =
   Jq fu (Aq (CX xs) prog fu d) n c m0 l.length (Ac .u8 l) (l.length / 8) ((l.length / 8:Nat):Int) ((i+1:Nat):Int) (Ac .u64 ((wl l i).set i (r.foldl Ge x)))
 |_,_,0,_,_,h,_=>by omega
 |[],j,nn+1,x,h,hn,hj=>by
  have:=drop_nil h;have w:wrap .i64 ((i:Int)+1)=((i+1:Nat):Int):=by rw[Ag (by omega) (by omega)];omega
  rw[Va,D6 _ _ _ (by omega)];simp only[Ke,w,List.foldl_nil]
 |b::r,j,nn+1,x,h,hn,hj=>by
  obtain⟨h1,h2,h3⟩:=C8 h;simp only[He] at hn;have w:wrap .i64 ((j:Int)+1)=((j+1:Nat):Int):=by rw[Ag (by omega) (by omega)];omega
  have L:(Ac .u64 ((wl l i).set i x)).length=l.length / 8:=by rw[Ap,List.length_set,Avh l (by omega)]
  have ZO:(Ac .u64 ((wl l i).set i x)).getD i .top=Af x:=Ss (by rw[List.getElem?_set_self (by rw[Avh l (by omega)];omega)])
  have GB:B0 (Ac .u64 ((wl l i).set i x)) [Af (Ge x b)] i=Ac .u64 ((wl l i).set i (Ge x b)):=by
   rw[Hs (by omega),Oz,List.set_set]
  have ih:=Ab9 (n:=n) (m0:=m0) (c:=c) hl hi hq r (j+1) nn (Ge x b) h3 (by omega) (by omega);rw[List.foldl_cons,<-ih,Va];simp(disch:=omega)only[Bz,Bx,H6,De,Ck,Ss h2,ZO,L,w];exact congrArg _ GB
theorem QX{n:Nat}{c:Ab}{l:B8}(hl:l.length<=1000000)(Bo:100<=fu):∀(k i nn:Nat),i+k=l.length / 8->k<nn ->
  Jq fu (Aq (CX xs) prog fu d) n c nn l.length (Ac .u8 l) (l.length / 8) ((l.length / 8:Nat):Int) i (Ac .u64 (wl l i))=some ⟨[.own 1 (l.length / 8) (Ac .u64 (Gs l))],[]⟩
 |_,_,0,_,h=>by omega
 |0,i,nn+1,hi,hn=>by
  have e:i=l.length / 8:=by omega
  subst e;have e2:wl l (l.length / 8)=Gs l:=by unfold wl Gs;simp
  have L:(Ac .u64 (Gs l)).length=l.length / 8:=by rw[Ap];simp[Gs]
  have tk:List.take (l.length / 8) (Ac .u64 (Gs l))=Ac .u64 (Gs l):=Hg (by omega);rw[Ut,D6 _ _ _ (by omega),e2];simp(disch:=omega)only[Bz,Bx,De,L,tk]
 |k+1,i,nn+1,hi,hn=>by
  have ih:=QX (n:=n) (c:=c) hl Bo k (i+1) nn (by omega) (by omega);have w8:wrap .i64 (8*(i:Int))=((8*i:Nat):Int):=by rw[Ag (by omega) (by omega)];omega
  have w88:wrap .i64 (((8*i:Nat):Int)+8)=((8*i+8:Nat):Int):=by rw[Ag (by omega) (by omega)];omega
  have e8:8*i+8-8*i=8:=by omega
  have hdl:((l.drop (8*i)).take 8).length=8:=by rw[List.length_take,List.length_drop];omega
  have st:=Ab9 (xs:=xs) (fu:=fu) (d:=d) (n:=n) (m0:=nn) (c:=c) hl (i:=i) (by omega) (q:=(l.drop (8*i)).take 8) (by omega) ((l.drop (8*i)).take 8) 0 fu 0 rfl (by omega) (by omega);rw[Ayx l (by omega),hdl] at st;have ew:((l.drop (8*i)).take 8).foldl Ge 0=My l i:=rfl;rw[ew,A2d l (by omega),ih] at st;rw[Ut];simp(disch:=omega)only[Bz,Bx,H6,De,w8,w88,e8,Ho,Oe];exact st
theorem VQ(n:Nat):Zi n [Af 0]=Ac .u64 (List.replicate n 0):=by
 induction n with
 |zero=>rfl
 |succ n ih=>
  show ([PV.sc (.int .u64 0)]::List.replicate n [PV.sc (.int .u64 0)]).flatten=_;rw[List.flatten_cons,List.replicate_succ];show _++Zi n [Af 0]=PV.sc (.int .u64 0)::Ac .u64 (List.replicate n 0);rw[ih];rfl
theorem NR{l:B8}(hl:l.length<=1000000)(Bo:100<=fu)(hf:l.length<fu):Aq (CX xs) prog fu (d+1) 92 [.lst false 1 l.length (Ac .u8 l)]=some ⟨[.own 1 (l.length / 8) (Ac .u64 (Gs l))],[]⟩:=by
 rw[RP]
 have w:wrap .i64 (Int.tdiv (l.length:Int) 8)=((l.length / 8:Nat):Int):=by
  rw[Int.tdiv_eq_ediv_of_nonneg (by omega),Ag (by omega) (by omega)];omega
 have lp:=QX (xs:=xs) (fu:=fu) (d:=d) (n:=l.length) (c:=Ac .u8 l) hl Bo (l.length / 8) 0 fu (by omega) (by omega);have e0:wl l 0=List.replicate (l.length / 8) 0:=by unfold wl;simp
 rw[e0] at lp;simp(disch:=omega)only[Bz,Bx,w,H6,VQ,Int.le_refl];exact lp
def IE(l:B8):Option Ky:=if l.length=9/\Dz (l.getD 0 0)=false then some ⟨l.getD 0 0,My (l.drop 1) 0⟩ else none
def NX(o:Option Ky):Ab:=match o with|some k=>[.agg k.cells,Au 0]|none=>[.agg (Ky.mk 0 0).cells,Au 2]
theorem Apq(Bo:1000<=fu){l:B8}(hb:I7 l):Aq (CX xs) prog fu (d+2) 125 [.lst false 1 l.length (Ac .u8 l)]=some ⟨NX (IE l),[]⟩:=by
 refine (FW fu (d+1) l.length (Ac .u8 l)).trans ?_;unfold IE;by_cases h9:l.length=9
 ·obtain⟨x,hx⟩:∃x,l[0]?=some x:=⟨_,List.getElem?_eq_getElem (by omega)⟩
  have hxb:=hb x (List.mem_of_getElem? hx);have wx:wrap .i64 x=x:=Ag (by omega) (by omega);have gx:l.getD 0 0=x:=by rw[List.getD_eq_getElem?_getD,hx];rfl
  have h1:=AM (xs:=xs) (fu:=fu) (d:=d) x;rw[gx];cases c1:Dz x
  ·rw[c1] at h1;have hdl:(l.drop 1).length=8:=by rw[List.length_drop];omega
   have dw:=NR (xs:=xs) (fu:=fu) (d:=d) (l:=l.drop 1) (by omega) (by omega) (by omega);rw[hdl] at dw;have ZO:(Ac .u64 (Gs (l.drop 1))).getD 0 .top=Af (My (l.drop 1) 0):=Ss (by unfold Gs;rw[hdl];rfl)
   have e8:9-1=8:=rfl;have tk:List.take 8 (Ac .u8 (l.drop 1))=Ac .u8 (l.drop 1):=Hg (by rw[Ap];omega)
   rw[Bn ⟨h9,rfl⟩,h9];simp(disch:=omega)only[Bz,Bx,Eb,Ss hx,wx,h1,De,Ho,e8,tk,dw,ZO];rfl
  ·rw[c1] at h1;rw[A4 (by simp),h9];simp(disch:=omega)only[Bz,Bx,Eb,Ss hx,wx,h1];rfl
 ·rw[A4 (by simp[h9])];simp(disch:=omega)only[Eb];rw[A4 (by omega)];rfl
def sgD(l:B8):Option Sg:=
 if 2<=l.length/\Dz (l.getD 1 0)=false/\Ip (l.getD 0 0) (l.getD 1 0)=false/\(l.length:Int)=2+8*(18+l.getD 1 0) then some ⟨l.getD 0 0,Gs ((l.drop 2).take 144),Gs (l.drop 146)⟩ else none
def Sg.owned(s:Sg):Ab:=[Au s.leaf,.own 1 s.chains.length (Ac .u64 s.chains),.own 1 s.path.length (Ac .u64 s.path)]
def ER(o:Option Sg):Ab:=match o with|some s=>[.agg s.owned,Au 0]|none=>[.agg (Sg.mk 0 [] []).owned,Au 2]
theorem V0(l:B8):(Gs l).length=l.length / 8:=by simp[Gs]
theorem Aqn(Bo:1000<=fu){l:B8}(hb:I7 l):Aq (CX xs) prog fu (d+2) 49 [.lst false 1 l.length (Ac .u8 l)]=some ⟨ER (sgD l),[]⟩:=by
 refine (Wd fu (d+1) l.length (Ac .u8 l)).trans ?_;unfold sgD;by_cases h2:2<=l.length
 ·obtain⟨x,hx⟩:∃x,l[0]?=some x:=⟨_,List.getElem?_eq_getElem (by omega)⟩
  obtain⟨y,hy⟩:∃y,l[1]?=some y:=⟨_,List.getElem?_eq_getElem (by omega)⟩
  have hxb:=hb x (List.mem_of_getElem? hx);have hyb:=hb y (List.mem_of_getElem? hy);have wx:wrap .i64 x=x:=Ag (by omega) (by omega);have wy:wrap .i64 y=y:=Ag (by omega) (by omega);have gx:l.getD 0 0=x:=by rw[List.getD_eq_getElem?_getD,hx];rfl
  have gy:l.getD 1 0=y:=by rw[List.getD_eq_getElem?_getD,hy];rfl
  have h1:=AM (xs:=xs) (fu:=fu) (d:=d) y;have ho:=Vl (xs:=xs) (fu:=fu) (d:=d) x y (by omega);have w1:wrap .i64 (18+y)=18+y:=Ag (by omega) (by omega);have w2:wrap .i64 (8*(18+y))=8*(18+y):=Ag (by omega) (by omega);have w3:wrap .i64 (2+8*(18+y))=2+8*(18+y):=Ag (by omega) (by omega);rw[gx,gy];cases c1:Dz y
  ·rw[c1] at h1;cases c2:Ip x y
   ·rw[c2] at ho;by_cases c3:(l.length:Int)=2+8*(18+y)
    ·have hy4:=H0 c1;have d1:=NR (xs:=xs) (fu:=fu) (d:=d) (l:=(l.drop 2).take 144) (by rw[List.length_take,List.length_drop];omega) (by omega) (by rw[List.length_take,List.length_drop];omega)
     have d2:=NR (xs:=xs) (fu:=fu) (d:=d) (l:=l.drop 146) (by rw[List.length_drop];omega) (by omega) (by rw[List.length_drop];omega)
     have l1:((l.drop 2).take 144).length=144:=by rw[List.length_take,List.length_drop];omega
     have l2:(l.drop 146).length=l.length-146:=List.length_drop;rw[l1] at d1;have L1:(Ac .u64 (Gs ((l.drop 2).take 144))).length=18:=by rw[Ap,V0,l1]
     have L2:(Ac .u64 (Gs (l.drop 146))).length=(l.length-146) / 8:=by rw[Ap,V0,l2]
     rw[l2] at d2;have t1:List.take (144 / 8) (Ac .u64 (Gs ((l.drop 2).take 144)))=Ac .u64 (Gs ((l.drop 2).take 144)):=Hg (by omega);have t2:List.take ((l.length-146) / 8) (Ac .u64 (Gs (l.drop 146)))=Ac .u64 (Gs (l.drop 146)):=Hg (by omega);have t3:List.take (l.length-146) (l.drop 146)=l.drop 146:=Hg (by omega);rw[Bn ⟨h2,rfl,rfl,c3⟩];simp(disch:=omega)only[Bz,Bx,Eb,Ss hx,Ss hy,wx,wy,h1,ho,w1,w2,w3,De,Ho,Oe,d1,d2,t3,L1,L2,t1,t2];rw[Bn c3];simp only[ER,Sg.owned,V0,l1,l2]
    ·rw[A4 (by simp[c3])];simp(disch:=omega)only[Bz,Bx,Eb,Ss hx,Ss hy,wx,wy,h1,ho,w1,w2,w3];rw[A4 c3];rfl
   ·rw[c2] at ho;rw[A4 (by simp)];simp(disch:=omega)only[Bz,Bx,Eb,Ss hx,Ss hy,wx,wy,h1,ho];rfl
  ·rw[c1] at h1;rw[A4 (by simp)];simp(disch:=omega)only[Bz,Bx,Eb,Ss hx,Ss hy,wx,wy,h1];rfl
 ·rw[A4 (by simp[h2])];simp(disch:=omega)only[Bz,Bx];rfl
end
def PE(seed leaf chain:Int):Int:=Azl seed 1 (A9 [wrap .u64 leaf,wrap .u64 chain])
def FS(seed leaf:Int)(c:Nat):Int:=Wj leaf c 15 0 (PE seed leaf c)
def Lm(seed leaf:Int):Int:=HH leaf ((List.range 18).map (FS seed leaf))
def DI(seed leaf m:Int)(c:Nat):Int:=Wj leaf c (dg m c).toNat 0 (PE seed leaf c)
def Ng(seed leaf m:Int):B8:=(List.range 18).map (DI seed leaf m)
def Cw(seed:Int):Nat->Int->Int
 |0,i=>Lm seed i
 |l+1,i=>Rf ((l+1:Nat):Int) (Cw seed l (2*i)) (Cw seed l (2*i+1))
def Wg(seed:Int)(h:Int):Ky:=if Dz h=true then ⟨0,0⟩ else ⟨h,Cw seed h.toNat 0⟩
def H7(leaf:Int)(k:Nat):Int:=Fj .i64 (Fp .i64 leaf k) 1
def KG(seed:Int)(h leaf m:Int):Option Sg:=if Dz h=true then none else if Ip leaf h=true then none else some ⟨leaf,Ng seed leaf m,(List.range h.toNat).map fun k=>Cw seed k (H7 leaf k)⟩
def Acd(o:Option Sg):Ab:=match o with|some s=>[.agg s.owned,Au 0]|none=>[.agg (Sg.mk 0 [] []).owned,Au 9]
section
variable {fu d:Nat}{xs:FuncId->Option (Ab->Option Dt)}
theorem A4j{l:B8}(hb:I7 l)(hl:l.length<=1099511627776)(Bo:100<=fu)(hf:l.length<fu)(key dom:Int):Aq (CX xs) prog fu (d+5) 137 [Af key,Au dom,.lst false 1 l.length (Ac .u8 l)]=some ⟨[Af (Azl key dom l)],[]⟩:=by rw[Adm];have s:=Au0 (xs:=xs) (fu:=fu) (d:=d) hb hl Bo hf key (wrap .u64 (1+wrap .u64 dom));simp only[Bz,Bx,s];rfl
theorem Abg(Bo:1000<=fu)(seed leaf chain:Int):Aq (CX xs) prog fu (d+6) 112 [Af seed,Au leaf,Au chain]=some ⟨[Af (PE seed leaf chain)],[]⟩:=by
 have wd:Aq (CX xs) prog fu (d+5) 86 [.lst false 1 2 [Af (wrap .u64 leaf),Af (wrap .u64 chain)]]=_:=Uq (ws:=[wrap .u64 leaf,wrap .u64 chain]) (by simp) (by omega) (by simp;omega)
 have hs:=A4j (xs:=xs) (fu:=fu) (d:=d) (Zr [wrap .u64 leaf,wrap .u64 chain]) (by rw[Do];simp) (by omega) (by rw[Do];simp;omega) seed 1
 have L:=Ap .u8 (A9 [wrap .u64 leaf,wrap .u64 chain]);rw[PI];unfold PE;generalize A9 [wrap .u64 leaf,wrap .u64 chain]=W at wd hs L ⊢;simp(disch:=omega)only[Bz,Bx,wd,De,Ck,Er,Mi,L,hs]
def pl(g:Nat->Int)(i:Nat):B8:=(List.range i).map g++List.replicate (18-i) 0
theorem Ajk(g:Nat->Int){i:Nat}(h:i<=18):(pl g i).length=18:=by simp[pl];omega
theorem Arc(g:Nat->Int){i:Nat}(h:i<18):(pl g i).set i (g i)=pl g (i+1):=by unfold pl;rw[List.set_append_right _ _ (by simp),List.length_map,List.length_range,Nat.sub_self,show 18-i=(18-(i+1))+1 by omega,List.replicate_succ,List.set_cons_zero,List.range_succ,List.map_append,FX];rfl
theorem Azy(g:Nat->Int):pl g 18=(List.range 18).map g:=by simp[pl]
theorem QT{a0 a1 seed leaf:Int}(Bo:1000<=fu):∀(k i nn:Nat),i+k=18->k<nn ->
  Hl fu (Aq (CX xs) prog fu (d+6)) a0 a1 nn seed leaf i (Ac .u64 (pl (FS seed leaf) i))=Hl fu (Aq (CX xs) prog fu (d+6)) a0 a1 (nn-k) seed leaf 18 (Ac .u64 (pl (FS seed leaf) 18))
 |_,_,0,_,h=>by omega
 |0,i,nn+1,hi,hn=>by
  have e:i=18:=by omega
  subst e;rfl
 |k+1,i,nn+1,hi,hn=>by
  have ih:=QT (a0:=a0) (a1:=a1) (seed:=seed) (leaf:=leaf) Bo k (i+1) nn (by omega) (by omega);have w:wrap .i64 ((i:Int)+1)=((i+1:Nat):Int):=by rw[Ag (by omega) (by omega)];omega
  have sc:=Abg (xs:=xs) (fu:=fu) (d:=d) Bo seed leaf i;have rn:=Ajh (xs:=xs) (fu:=fu) (d:=d) (leaf:=leaf) (chain:=i) Bo 15 0 15 (PE seed leaf i) (by omega) (by omega) (by omega);have ev:Wj leaf i 15 0 (PE seed leaf i)=FS seed leaf i:=rfl;rw[ev] at rn;have L:(Ac .u64 (pl (FS seed leaf) i)).length=18:=by rw[Ap,Ajk _ (by omega)]
  have GB:B0 (Ac .u64 (pl (FS seed leaf) i)) [Af (FS seed leaf i)] i=Ac .u64 (pl (FS seed leaf) (i+1)):=by
   rw[Hs (by omega),Oz,Arc _ (by omega)]
  rw[show nn+1-(k+1)=nn-k by omega,<-ih,Th];simp(disch:=omega)only[Bz,Bx,H6,De,Ck,sc,rn,L,GB,w]
theorem Ajw(Bo:1000<=fu){a0 a1 seed leaf:Int}{nn:Nat}{E:B8}(hE:E.length=18):
  Hl fu (Aq (CX xs) prog fu (d+6)) a0 a1 (nn+1) seed leaf 18 (Ac .u64 E)=some ⟨[Af (HH leaf E)],[]⟩:=by
 match E,hE with
 |[e0,e1,e2,e3,e4,e5,e6,e7,e8,e9,e10,e11,e12,e13,e14,e15,e16,e17],hE=>
  have cb:=XC (xs:=xs) (fu:=fu) (d:=d) Bo leaf hE;have hc:Ac .u64 [e0,e1,e2,e3,e4,e5,e6,e7,e8,e9,e10,e11,e12,e13,e14,e15,e16,e17]=[Af e0,Af e1,Af e2,Af e3,Af e4,Af e5,Af e6,Af e7,Af e8,Af e9,Af e10,Af e11,Af e12,Af e13,Af e14,Af e15,Af e16,Af e17]:=rfl;rw[hc] at cb ⊢;generalize HH leaf [e0,e1,e2,e3,e4,e5,e6,e7,e8,e9,e10,e11,e12,e13,e14,e15,e16,e17]=R at cb ⊢;rw[Th,D6 _ _ _ (by omega)];simp(disch:=omega)only[Bz,Bx,GL,GC,List.getD_cons_zero,List.getD_cons_succ,cb]
theorem Ap1(Bo:1000<=fu)(seed leaf:Int):Aq (CX xs) prog fu (d+7) 114 [Af seed,Au leaf]=some ⟨[Af (Lm seed leaf)],[]⟩:=by
 rw[NU];have lp:=QT (xs:=xs) (fu:=fu) (d:=d) (a0:=seed) (a1:=leaf) (seed:=seed) (leaf:=leaf) Bo 18 0 fu (by omega) (by omega);obtain⟨f',hf'⟩:∃f',fu-18=f'+1:=⟨fu-19,by omega⟩
 rw[hf'] at lp;refine Eq.trans lp ?_;rw[Azy];exact Ajw Bo (by simp)
theorem Aa6{a0 a1 a2:Int}{seed leaf m:Int}(Bo:1000<=fu)(g:Nat->Int)(hg:∀k,g k=dg m k):∀(k i nn:Nat),i+k=18->k<nn ->
  Nk fu (Aq (CX xs) prog fu (d+6)) a0 a1 a2 nn seed leaf (g 0) (g 1) (g 2) (g 3) (g 4) (g 5) (g 6) (g 7) (g 8) (g 9) (g 10) (g 11) (g 12) (g 13) (g 14) (g 15) (g 16) (g 17) i (Ac .u64 (pl (DI seed leaf m) i)) =
   some ⟨[.own 1 18 (Ac .u64 (Ng seed leaf m))],[]⟩
 |_,_,0,_,h=>by omega
 |0,i,nn+1,hi,hn=>by
  have e:i=18:=by omega
  subst e;have L:(Ac .u64 (pl (DI seed leaf m) 18)).length=18:=by rw[Ap,Ajk _ (by omega)]
  have T:List.take 18 (Ac .u64 (pl (DI seed leaf m) 18))=Ac .u64 (Ng seed leaf m):=by rw[Hg (by omega),Azy];rfl
  rw[Ww,D6 _ _ _ (by omega)];simp(disch:=omega)only[Bz,Bx,L,T]
 |k+1,i,nn+1,hi,hn=>by
  have ih:=Aa6 (a0:=a0) (a1:=a1) (a2:=a2) (seed:=seed) (leaf:=leaf) (m:=m) Bo g hg k (i+1) nn (by omega) (by omega);have hb:=Yj m i;have hgi:=A0c g (i:=i) (by omega);have w:wrap .i64 ((i:Int)+1)=((i+1:Nat):Int):=by rw[Ag (by omega) (by omega)];omega
  have sc:=Abg (xs:=xs) (fu:=fu) (d:=d) Bo seed leaf i;have rn:=Ajh (xs:=xs) (fu:=fu) (d:=d) (leaf:=leaf) (chain:=i) Bo (dg m i).toNat 0 (g i) (PE seed leaf i) (by rw[hg];omega) (by omega) (by rw[hg];omega)
  have ev:Wj leaf i (dg m i).toNat 0 (PE seed leaf i)=DI seed leaf m i:=rfl;rw[ev] at rn;have L:(Ac .u64 (pl (DI seed leaf m) i)).length=18:=by rw[Ap,Ajk _ (by omega)]
  have GB:B0 (Ac .u64 (pl (DI seed leaf m) i)) [Af (DI seed leaf m i)] i=Ac .u64 (pl (DI seed leaf m) (i+1)):=by
   rw[Hs (by omega),Oz,Arc _ (by omega)]
  rw[Ww];simp(disch:=omega)only[Bz,Bx,H6,De,Ck,hgi,sc,rn,L,GB,w];exact ih
theorem Axv(Bo:1000<=fu)(seed leaf m:Int):Aq (CX xs) prog fu (d+7) 69 [Af seed,Au leaf,Af m]=some ⟨[.own 1 18 (Ac .u64 (Ng seed leaf m))],[]⟩:=by rw[WA];have dq:=Ab4 (xs:=xs) (fu:=fu) (d:=d+5) Bo m;have hD:Ac .i64 (YK m)=[Au (dg m 0),Au (dg m 1),Au (dg m 2),Au (dg m 3),Au (dg m 4),Au (dg m 5),Au (dg m 6),Au (dg m 7),Au (dg m 8),Au (dg m 9),Au (dg m 10),Au (dg m 11),Au (dg m 12),Au (dg m 13),Au (dg m 14),Au (dg m 15),Au (dg m 16),Au (dg m 17)]:=rfl;rw[hD] at dq;simp only[Bz,Bx,dq];exact Aa6 (fu:=fu) (d:=d) (a0:=seed) (a1:=leaf) (a2:=m) Bo (dg m) (fun _=>rfl) 18 0 fu (by omega) (by omega)
end
def WQ(h leaf:Int):Bool:=Dz h||Ip leaf h
def tkL(h leaf:Int):Int:=if WQ h leaf=true then 0 else leaf
def tkC(seed h leaf m:Int):B8:=if WQ h leaf=true then [] else Ng seed leaf m
def tkP(seed h leaf:Int):B8:=if WQ h leaf=true then [] else (List.range h.toNat).map fun k=>Cw seed k (H7 leaf k)
def tkE(h leaf:Int):Int:=if WQ h leaf=true then 9 else 0
def A37(args:Ab):Option Dt:=
 match args with
 |[.sc (.int .u64 seed),.sc (.int .i64 h),.sc (.int .i64 leaf),.sc (.int .u64 m)]=>
  some ⟨[.agg [Au (tkL h leaf),.lst false 1 (tkC seed h leaf m).length (Ac .u64 (tkC seed h leaf m)),.lst false 1 (tkP seed h leaf).length (Ac .u64 (tkP seed h leaf))],Au (tkE h leaf)],[]⟩
 |_=>none
structure En where
 k:Int
 na:Nat
 an:Ab
 ns:Nat
 st:Ab
def BE:Ab->Option (List En)
 |[]=>some []
 |.sc (.int .u64 k) :: .lst false 3 na an :: .lst false 2 ns st::r=>bif Nat.beq an.length (na*3)&&Nat.beq st.length (ns*2)&&Nat.ble na 1000&&Nat.ble ns 1000 then (BE r).map (⟨k,na,an,ns,st⟩ :: ·) else none
 |_=>none
def Tt:Ab->Option (List (Int × Int))
 |[]=>some []
 |.sc (.int .i64 k) :: .sc (.int .i64 t)::r=>(Tt r).map ((k,t) :: ·)
 |_=>none
def Ak6(model:Int)(es:List En):Ab:=match es.find? fun e=>e.k==model with|some e=>e.st|none=>[]
def Iq(now:Int)(l:List (Int × Int)):Int:=match l.reverse.find? fun p=>decide (p.2<=now) with|some p=>p.1|none=>0
def Ami(args:Ab):Option Dt:=
  match args with
  |[.agg [.sc (.int .i64 _),.sc (.int .i64 _),.sc (.int .i64 _),.lst false 3 n c,.sc (.int .i64 _),.lst false 1 _ _,.lst false 1 _ _],.sc (.int .u64 model),.sc (.int .i64 now)]=>
    bif Nat.beq c.length (n*3)&&Nat.ble n 1000 then
      (match BE c with
       |some es=>(match Tt (Ak6 model es) with|some l=>some ⟨[Au (Iq now l)],[]⟩|none=>none)
       |none=>none)
    else none
  |_=>none
def M9(f:FuncId):Option (Ab->Option Dt):=
 bif Nat.beq f 126 then some VT else
 bif Nat.beq f 148 then some EE else
 bif Nat.beq f 36 then some A37 else
 bif Nat.beq f 29 then some Ami else
 bif Nat.beq f 1000000 then some (fun _=>none) else none
abbrev C0:Kr:=CX M9
section
variable {xs:FuncId->Option (Ab->Option Dt)}(fu d:Nat)(call:Bq)
theorem Qb(Z:Nat)(Y:Ab):Fm (CX xs) fu d 71 [Am 3 Z Y] fun call=>Az (decide (0<Z)) (As (decide (Y.length=Z*3)&&decide ((0+Z)*32<=1099511627776)&&decide (0+Z<=1099511627776))<|Aa (0+Z) fun a=>Aa ([]++Y) fun b=>As (decide (0+a*3<=b.length))<|Bu [Am 3 a (List.take (a*3) (b.drop 0))]) (CA (Bu [Am 3 0 []]) (As (decide (Y.length=Z*3)&&decide ((0+Z)*32<=1099511627776)&&decide (0+Z<=1099511627776))<|Aa (0+Z) fun a=>Aa ([]++Y) fun b=>As (decide (0+a*3<=b.length))<|Bu [Am 3 a (List.take (a*3) (b.drop 0))])):=by show _=_;kernel_rfl
theorem Qc(Z:Nat)(Y:Ab):Fm (CX xs) fu d 72 [Am 2 Z Y] fun call=>Az (decide (0<Z)) (As (decide (Y.length=Z*2)&&decide ((0+Z)*16<=1099511627776)&&decide (0+Z<=1099511627776))<|Aa (0+Z) fun a=>Aa ([]++Y) fun b=>As (decide (0+a*2<=b.length))<|Bu [Am 2 a (List.take (a*2) (b.drop 0))]) (CA (Bu [Am 2 0 []]) (As (decide (Y.length=Z*2)&&decide ((0+Z)*16<=1099511627776)&&decide (0+Z<=1099511627776))<|Aa (0+Z) fun a=>Aa ([]++Y) fun b=>As (decide (0+a*2<=b.length))<|Bu [Am 2 a (List.take (a*2) (b.drop 0))])):=by show _=_;kernel_rfl
theorem R3(Z:Int)(Y:Nat)(X:Ab)(W:Nat)(V:Ab):Fm (CX xs) fu d 37 [.agg [Af Z,Am 3 Y X,Am 2 W V]] fun call=>Dj (call 71 [Am 3 Y X]) fun a b=>Ow 3 a fun a c e=>Ar b<|Dj (call 72 [Am 2 W V]) fun a b=>Ow 2 a fun a f g=>Ar b<|Bu [.agg [Af Z,Am 3 c e,Am 2 f g]]:=by show _=_;kernel_rfl
def Kb(Z Y X:Int)(W:Nat)(V:Ab)(U:Int)(T:Nat)(S:Ab)(Q:Nat)(P:Ab)(O:Int)(N:Nat)(M:Int)(L:Nat)(K:Ab)(J I H:Int)(G E:Nat)(D B:Ab):Option Dt:=K0 fu call 52 Tryz.f52 [.agg [Z,Y,X,Am 3 W V,U,Am 1 T S,Am 1 Q P],Af O] [.r,.l,.r,.l] N ⟨lk [(1,Af M),(4,.ptr 4 0),(9,Am 3 L K),(10,J),(11,I)],B3 [(4,.st [Af H,.view 50 3 0 G,.view 73 2 0 E]),(50,.ar false D),(73,.ar false B)]⟩
theorem Rt(U T S:Int)(Q:Nat)(P:Ab)(O:Int)(N:Nat)(M:Ab)(L:Nat)(K:Ab)(J:Int)(I:Nat)(X:Int)(W:Nat)(Y:Ab)(V Z H:Int)(G E:Nat)(D B:Ab):Kb fu call U T S Q P O N M L K J (I+1) X W Y V Z H G E D B=(Az (decide (Z<V)) (As (decide (0<=Z)&&decide (Z<(↑W:Int)))<|Be .u64 (Y.getD (Z.toNat*3) .top) fun a=>Ow 3 (Y.getD (Z.toNat*3+1) .top) fun b c e=>Ow 2 (Y.getD (Z.toNat*3+1+1) .top) fun b f g=>Az (a==X) (Dj (call 37 [.agg [Af a,Am 3 c e,Am 2 f g]]) fun a b=>Dl a fun a=>Cu .u64 a fun a c=>G5 3 c fun c e f=>G5 2 f fun f g h=>Ar h<|Ar b<|Bu [.agg [Af a,Am 3 c e,Am 2 f g],.sc (.bool true)]) (Aa (wrap .i64 (Z+1)) fun a=>Kb fu call U T S Q P O N M L K J I X W Y V a H G E D B)) (Bu [.agg [Af 0,Am 3 0 [],Am 2 0 []],.sc (.bool false)])):=by kernel_rfl
theorem KD(W V U:Int)(Z:Nat)(Y:Ab)(T:Int)(S:Nat)(Q:Ab)(P:Nat)(O:Ab)(X:Int):Fm (CX xs) fu d 52 [.agg [W,V,U,Am 3 Z Y,T,Am 1 S Q,Am 1 P O],Af X] fun call=>Kb fu call W V U Z Y T S Q P O X fu X Z Y (↑Z:Int) 0 0 0 0 ([]) ([]):=by show _=_;kernel_rfl
end
section
open Go Go.RowKit
structure V3(Z Z':Nat->Prop)(w w':World):Prop where
 os:w'.os=w.os
 tape:w'.tape=w.tape
 output:w'.output=w.output
 size:w.heap.size<=w'.heap.size
 keep:∀b,b<w.heap.size->¬Z b->w'.heap[b]?=w.heap[b]?
 sub:∀b,Z b->Z' b
 new:∀b,Z' b->Z b\/w.heap.size<=b
 lt:∀b,Z' b->b<w'.heap.size
 bs:∀b,b<w.heap.size->bsz w b<=bsz w' b
structure Pr(Z:Nat->Prop)(w w':World):Prop where
 os:w'.os=w.os
 tape:w'.tape=w.tape
 output:w'.output=w.output
 size:w.heap.size<=w'.heap.size
 same:∀b,Z b->w'.heap[b]?=w.heap[b]?
theorem Pr.sub{Z Z':Nat->Prop}{w w':World}(h:Pr Z w w')(hs:∀b,Z' b->Z b):Pr Z' w w':=⟨h.os,h.tape,h.output,h.size,fun b hb=>h.same b (hs b hb)⟩
def A0t{α:Type}(P:Program)(gf:Nat)(lb:Array Value)(M:List α->α->Array Value->(Nat->Prop)->World->Prop)(S Sp:List α->Prop)(Pre:(Nat->Prop)->World->Prop):Prop:=
 ∀(l:Nat) (J Jx:(Nat->Prop)->List α->World->Prop) (W:World) (Z0:Nat->Prop),(∀b,Z0 b->b<W.heap.size)->Pre Z0 W ->
  (∀Z pre A B,J Z pre A->Pr Z A B->J Z pre B)->(∀Z pre A B,Jx Z pre A->Pr Z A B->Jx Z pre B) ->
  (∀Z pre x args A,J Z pre A->M pre x args Z A->YieldAt Fence.wide 0 P l args A fun e B=>∃Z',V3 Z Z' A B /\
   ((e=.returned (.bool true)/\J Z' (pre++[x]) B)\/(e=.returned (.bool false)/\Jx Z' (pre++[x]) B))) ->
  J Z0 [] W ->
  Calls P gf (#[.func (.yield l) #[] #[]]++lb) W fun e B=>(∃v,e=.returned v)/\∃Z xs,(S xs/\J Z xs B)\/(Sp xs/\Jx Z xs B)
theorem PO{P:Program}{n m l:Nat}{f:FuncId}{tmps:Array Value}{assign body:Code}{w:World}{R:Ending->World->Prop}(h:RoundIn Fence.wide n P l f tmps assign body w R):RoundIn Fence.wide m P l f tmps assign body w R:=
 ⟨h.1,fun c cs _=>h.2 c cs (room_wide _)⟩
def OL{α:Type}(D:Nat)(I:(Nat->Prop)->List α->World->Prop)(Ix:Code->(Nat->Prop)->List α->World->Prop)(Z:Nat->Prop)(xs:List α)(A:World):Exit->Act->World->Prop:=fun e _ B=>
 ∃Z',V3 Z Z' A B/\B.heap[D]?=A.heap[D]?/\B.heap[D+1]?=A.heap[D+1]? /\
  match e with
  |.normal=>I Z' xs B
  |.ret=>Ix .ret Z' xs B
  |.exit id=>Ix (.exit id) Z' xs B
  |.goto t=>Ix (.goto t) Z' xs B
  |_=>False
theorem Aou{α:Type}{P:Program}{n:Nat}{g:Operand}{ps:Array Tmp}{assign body:Code}{Q:Exit->Act->World->Prop}{a:Act}{w:World}{gf:Nat}{lb:Array Value}(hg:a.eval g=.func (.func gf) #[] lb)(eg:∀args w,(callFunc gf args).run P w=.ok (.enter gf args) w){M:List α->α->Array Value->(Nat->Prop)->World->Prop}{S Sp:List α->Prop}{Pre:(Nat->Prop)->World->Prop}(hit:A0t P gf lb M S Sp Pre){Z0:Nat->Prop}(hZ0:∀b,Z0 b->b<w.heap.size)(Auh:∀W:World,W.heap.size=w.heap.size+2->(∀b,b<w.heap.size->W.heap[b]?=w.heap[b]?)->Pre (fun b=>Z0 b\/b=w.heap.size\/b=w.heap.size+1) W)(hM:∀pre x args Z A B,M pre x args Z A->A.heap.size<=B.heap.size->(∀b,b<A.heap.size->¬Z b->B.heap[b]?=A.heap[b]?)->M pre x args Z B)(QQ:∀pre x args Z A,M pre x args Z A->args.size=ps.size)(I:(Nat->Prop)->List α->World->Prop)(Ix:Code->(Nat->Prop)->List α->World->Prop)(hI:∀Z pre A B,I Z pre A->Pr (fun b=>Z b/\b≠w.heap.size/\b≠w.heap.size+1) A B->I Z pre B)(hIx:∀c Z pre A B,Ix c Z pre A->Pr (fun b=>Z b/\b≠w.heap.size/\b≠w.heap.size+1) A B->Ix c Z pre B)(h0:∀W,W.heap.size=w.heap.size+2->Pr (fun b=>b<w.heap.size) w W->I (fun b=>Z0 b\/b=w.heap.size\/b=w.heap.size+1) [] W)(a₁:Array Value->Act)(NA:∀pre x args Z A (K:Act->World->Prop),M pre x args Z A->K (a₁ args) A->assign.wpIn (Fence.wide.inRound (w.heap.size+1)) 0 P (Exit.then K (fun _ _ _=>False)) { tmps:=(ps.zip args).foldl (fun t (p,v)=>t.setIfInBounds p v) a.tmps,defers:=[] } A)(Aht:∀Z pre x args A,Z w.heap.size->Z (w.heap.size+1)->I Z pre A->M pre x args Z A->body.wpIn (Fence.wide.inRound (w.heap.size+1)) 0 P (OL w.heap.size I Ix Z (pre++[x]) A) (a₁ args) A)(Ag3:∀Z xs B,S xs->I Z xs B->B.heap[w.heap.size]?=some (.deferred (some []))->Q .normal { a with defers:={ target:=.collected w.heap.size,args:= #[] }::a.defers } B)(Agf:∀c Z xs B,Sp xs->Ix c Z xs B->B.heap[w.heap.size]?=some (.deferred (some []))->c.wpIn Fence.wide n P Q { a with defers:={ target:=.collected w.heap.size,args:= #[] }::a.defers } B):
  (Code.rangeFunc g ps assign body).wpIn Fence.wide n P Q a w:=by
 refine wpIn_rangeFunc ?_;intro fn hfn;obtain⟨rec,Z8⟩:∃rec:LoopState->Option Code->Loop,rec=fun st pe=>{ state:=st,pending:=pe,fn,tmps:=a.tmps,params:=ps,assign,body,defers:=w.heap.size }:=⟨_,rfl⟩
 obtain⟨D,hD⟩:∃D,w.heap.size=D:=⟨_,rfl⟩
 rw[hD] at hI hIx h0 NA Aht Ag3 Agf hZ0 Auh;obtain⟨W1,hW1⟩:∃W1,(w.alloc (.deferred (some []))).alloc (.loop (rec .ready none))=W1:=⟨_,rfl⟩
 have RC:W1.heap.size=D+2:=by rw[<-hW1,World.size_alloc,World.size_alloc,hD]
 have hL1:W1.heap[D+1]?=some (.loop (rec .ready none)):=by
  rw[<-hW1,<-hD];have:=World.alloc_heap_new (w.alloc (.deferred (some []))) (.loop (rec .ready none));rwa [World.size_alloc] at this
 have hK1:W1.heap[D]?=some (.deferred (some [])):=by
  rw[<-hW1,<-hD];exact (Below.heap_alloc _ _ _ (by simp)).trans (World.alloc_heap_new w _)
 have Hm:Pr (fun b=>b<D) w W1:=by
  rw[<-hW1,<-hD];exact⟨rfl,rfl,rfl,by simp;omega,fun b hb=>(Below.heap_alloc _ _ _ (by simp;omega)).trans (Below.heap_alloc _ _ _ hb)⟩
 refine⟨D+1,[{ target:=.collected D,args:= #[] }],W1,{ target:=.fn (.func gf) lb,args:= #[.func (.yield (D+1)) #[] #[]] },W1,gf,
  #[.func (.yield (D+1)) #[] #[]]++lb,W1,?_,?_,fun _ _=>trivial,?_,(fun h=>by cases h),?_⟩
 ·rw[<-hW1,Z8,<-hD];exact run_enterLoop_outer _ _ _ _ _
 ·simp only[resolve,hg];simp[go_sem]
 ·simp[invoke,go_sem,eg]
 ·have put:∀{Z:Nat->Prop} {A:World} (o:Obj),Pr (fun b=>Z b/\b≠D/\b≠D+1) A (A.putObj (D+1) o):=fun o=>
   ⟨rfl,rfl,rfl,by simp,fun b hb=>World.putObj_heap_other hb.2.2⟩
  refine callsIn_wide.2 (Calls.mono (hit (D+1)
   (fun Z pre A=>(Z D/\Z (D+1))/\I Z pre A/\A.heap[D+1]?=some (.loop (rec .ready none))/\A.heap[D]?=some (.deferred (some [])))
   (fun Z pre A=>(Z D/\Z (D+1))/\∃c,Ix c Z pre A/\A.heap[D+1]?=some (.loop (rec .done (some c)))/\A.heap[D]?=some (.deferred (some [])))
   W1 (fun b=>Z0 b\/b=D\/b=D+1) (fun b hb=>by rw[RC];exact hb.elim (fun h=>by have:=hZ0 b h;omega) fun h=>by omega) (Auh W1 RC (fun b hb=>Hm.same b hb)) ?_ ?_ ?_ ?_) ?_)
  ·rintro Z pre A B ⟨hz,hi,hl,hk⟩ hs
   exact⟨hz,hI Z pre A B hi (hs.sub fun _ h=>h.1),(hs.same _ hz.2).trans hl,(hs.same _ hz.1).trans hk⟩
  ·rintro Z pre A B ⟨hz,c,hi,hl,hk⟩ hs
   exact⟨hz,c,hIx c Z pre A B hi (hs.sub fun _ h=>h.1),(hs.same _ hz.2).trans hl,(hs.same _ hz.1).trans hk⟩
  ·rintro Z pre x args A ⟨hz,hi,hl,hk⟩ hm
   have Cr:D+1<A.heap.size:=(Array.getElem?_eq_some_iff.1 hl).1;have hy:=run_yield (P:=P) (args:=args) hl (by rw[Z8];exact QQ pre x args Z A hm)
   rw[Z8] at hy;refine⟨fn,_,assign,body,hy,roundIn_of_wpIn hfn (NA pre x args Z A _ hm ?_)⟩;refine⟨_,run_beginRound hl (by rw[Z8]),?_⟩;obtain⟨A2,hA2⟩:∃A2,A.putObj (D+1) (.loop { rec .ready none with state:=.busy })=A2:=⟨_,rfl⟩
   rw[hA2];have SQ:A2.heap[D+1]?=some (.loop { rec .ready none with state:=.busy }):=by rw[<-hA2];exact World.putObj_heap_same Cr
   have Hv:A2.heap[D]?=some (.deferred (some [])):=by rw[<-hA2];exact (World.putObj_heap_other (by omega)).trans hk
   have hz2:A2.heap.size=A.heap.size:=by rw[<-hA2];simp
   have hi2:I Z pre A2:=by rw[<-hA2];exact hI Z pre A _ hi (put _)
   have hm2:M pre x args Z A2:=by
    rw[<-hA2];exact hM pre x args Z A _ hm (by simp) fun b _ hb=>World.putObj_heap_other fun e=>hb (e ▸ hz.2)
   refine wpIn_mono (Aht Z pre x args A2 hz.1 hz.2 hi2 hm2) ?_
   have fin:∀(jump:Option Code) (W3:World) (Z':Nat->Prop),V3 Z Z' A2 W3->W3.heap[D]?=A2.heap[D]?->W3.heap[D+1]?=A2.heap[D+1]? ->
     (Instr.endRound (D+1) jump).run P W3=.ok (.bool jump.isNone) (W3.putObj (D+1) (.loop (rec (if jump.isNone then .ready else .done) jump))) /\
     (W3.putObj (D+1) (.loop (rec (if jump.isNone then .ready else .done) jump))).heap[D+1]?=some (.loop (rec (if jump.isNone then .ready else .done) jump)) /\
     (W3.putObj (D+1) (.loop (rec (if jump.isNone then .ready else .done) jump))).heap[D]?=some (.deferred (some [])) /\
     V3 Z Z' A (W3.putObj (D+1) (.loop (rec (if jump.isNone then .ready else .done) jump))):=fun jump W3 Z' ht e1 e2=>by
    have hl3:=e2.trans SQ;have:=run_endRound (P:=P) jump hl3;rw[Z8] at this ⊢;refine⟨this,World.putObj_heap_same (Array.getElem?_eq_some_iff.1 hl3).1,(World.putObj_heap_other (by omega)).trans (e1.trans Hv),?_⟩;have hA:A2.os=A.os/\A2.tape=A.tape/\A2.output=A.output:=by rw[<-hA2];exact⟨rfl,rfl,rfl⟩
    refine⟨ht.os.trans hA.1,ht.tape.trans hA.2.1,ht.output.trans hA.2.2,by have:=ht.size;simp;omega,fun b hb hn=>?_,ht.sub,fun b hb=>by have:=ht.new b hb;rw[hz2] at this;exact this,fun b hb=>by simpa using ht.lt b hb,fun b hb=>?_⟩
    ·have Gu:b≠D+1:=fun e=>hn (e ▸ hz.2);rw[World.putObj_heap_other Gu,ht.keep b (by omega) hn,<-hA2,World.putObj_heap_other Gu]
    ·by_cases Gu:b=D+1
     ·subst Gu;unfold bsz;rw[hl];exact Nat.zero_le _
     ·have h5:=ht.bs b (by omega);have h6:bsz A2 b=bsz A b:=by unfold bsz;rw[<-hA2,World.putObj_heap_other Gu]
      have h7:∀o,bsz (W3.putObj (D+1) o) b=bsz W3 b:=fun o=>by unfold bsz;rw[World.putObj_heap_other Gu]
      rw[h7,<-h6];exact h5
   rintro e a3 W3 ⟨Z',ht,e1,e2,hp⟩
   cases e with
   |normal=>
    obtain⟨hr,hl4,Xr,ht4⟩:=fin none W3 Z' ht e1 e2;exact⟨_,_,hr,Z',ht4,.inl ⟨rfl,⟨ht.sub _ hz.1,ht.sub _ hz.2⟩,hI Z' _ _ _ hp (put _),hl4,Xr⟩⟩
   |ret=>
    obtain⟨hr,hl4,Xr,ht4⟩:=fin (some .ret) W3 Z' ht e1 e2;exact⟨_,_,hr,Z',ht4,.inr ⟨rfl,⟨ht.sub _ hz.1,ht.sub _ hz.2⟩,.ret,hIx _ Z' _ _ _ hp (put _),hl4,Xr⟩⟩
   |exit id=>
    obtain⟨hr,hl4,Xr,ht4⟩:=fin (some (.exit id)) W3 Z' ht e1 e2;exact⟨_,_,hr,Z',ht4,.inr ⟨rfl,⟨ht.sub _ hz.1,ht.sub _ hz.2⟩,.exit id,hIx _ Z' _ _ _ hp (put _),hl4,Xr⟩⟩
   |goto t=>
    obtain⟨hr,hl4,Xr,ht4⟩:=fin (some (.goto t)) W3 Z' ht e1 e2;exact⟨_,_,hr,Z',ht4,.inr ⟨rfl,⟨ht.sub _ hz.1,ht.sub _ hz.2⟩,.goto t,hIx _ Z' _ _ _ hp (put _),hl4,Xr⟩⟩
   |panic ch=>exact hp.elim
   |outgrown=>exact hp.elim
  ·exact⟨⟨.inr (.inl rfl),.inr (.inr rfl)⟩,h0 W1 RC Hm,hL1,hK1⟩
  ·rintro e W2 ⟨⟨v,rfl⟩,Z,xs,(⟨hS,hz,hi,hl,hk⟩|⟨hSp,hz,c,hi,hl,hk⟩)⟩
   ·exact⟨none,_,by have:=run_endLoop (P:=P) hl (by rw[Z8];simp);rw[Z8] at this;exact this,Ag3 Z xs _ hS (hI Z _ _ _ hi (put _)) ((World.putObj_heap_other (by omega)).trans hk)⟩
   ·exact⟨some c,_,by have:=run_endLoop (P:=P) hl (by rw[Z8];simp);rw[Z8] at this;exact this,Agf c Z xs _ hSp (hIx c Z _ _ _ hi (put _)) ((World.putObj_heap_other (by omega)).trans hk)⟩
def Aqd(s:St)(β:Bt):Gt:={ X:=JO s.hp β,L:=fun b _=>JO s.hp β b,pn:=fun _=>False,pt:=fun _=>none,p8:=fun _ h=>h.elim }
theorem Cj.rebase{N:Nat}{w0 w w':World}{X0:Gt}{Y Z':Nat->Prop}{β:Bt}{s:St}{a:Act}(h:Cj N w0 X0 Y β s a w)(ht:V3 Y Z' w w')(hns:∀id c,s.hp id≠some (.st c)):Cj N w' (Aqd s β) Z' β s a w':=by
 have hW:C6 (D4 s.hp β Y) w w':=⟨ht.size,fun b hb hn=>ht.keep b hb fun y=>hn (.inr y),ht.bs⟩
 have hA:∀b,b<w.heap.size->D4 s.hp β Z' b->D4 s.hp β Y b:=by
  rintro b hb (hx|hz)
  ·exact .inl hx
  ·rcases ht.new b hz with h1|h1
   ·exact .inr h1
   ·omega
 have BX:∀b,b<w.heap.size->¬Y b->w'.heap[b]?=w.heap[b]?:=ht.keep
 refine⟨h.dfr,h.tsz,h.tmo,fun i hi=>(h.tms i hi).step hW hA fun _ _=>rfl,fun id bx P4=>?_,h.inj,fun id b o h1 h2=>Jp (h.blt id b o h1 h2) ht.size,h.wfT,h.wfB,fun b hb=>.inl hb,
  fun id bx b o h1 h2 h3 _ j _=>⟨id,o,by rw[h1];exact h2,h3⟩,fun i hi=>hi.elim,fun id c b o h1=>absurd h1 (hns id c),fun b hz=>?_,ht.lt,⟨rfl,rfl,rfl,⟨Da _,fun _ _ _=>rfl,fun _ _=>Da _⟩,fun _ _ _ _=>⟨rfl,rfl⟩⟩⟩
 ·cases bx with
  |st c=>exact absurd P4 (hns id c)
  |mv=>trivial
  |ar fz cells=>
   rcases h.box id _ P4 with h1|⟨b,o,h1,h2,h3,h4⟩
   ·exact .inl h1
   ·have Cr:b<w.heap.size:=h.blt id b o (by rw[P4];simp) h1
    have hnY:¬Y b:=by
     cases fz with
     |false=>exact fun y=>h.Yx b y ⟨id,o,by rw[P4];trivial,h1⟩
     |true=>exact fun y=>h4 rfl (.inr y)
    have hh:=BX b Cr hnY;have Kh:bsz w' b=bsz w b:=by unfold bsz;rw[hh]
    refine .inr ⟨b,o,h1,fun j c hj=>?_,fun hf j hj hjb=>?_,fun hf=>fun hA'=>h4 hf (hA b Cr hA')⟩
    ·obtain⟨v,hv,hv1,hv2⟩:=h2 j c hj;exact⟨v,(World.cell?_of_block (a:=(⟨b,o,none⟩:Addr).add j) (by rw[Iv];exact hh)).trans hv,hv1,hv2.step hW hA⟩
    ·rw[Kh] at hjb;have:=h3 hf j hj hjb;rw[<-this];unfold World.frozen?;simp only[hh]
 ·rintro⟨id,o,h1,h2⟩
  have Cr:b<w.heap.size:=h.blt id b o (Ed h1) h2;rcases ht.new b hz with h3|h3
  ·exact h.Yx b h3 ⟨id,o,h1,h2⟩
  ·omega
theorem Cj.stay{N:Nat}{w0 w:World}{X0:Gt}{Y:Nat->Prop}{β:Bt}{s:St}{a:Act}(h:Cj N w0 X0 Y β s a w)(hd:∀b,Y b->¬X0.X b):Pr Y w0 w:=
 ⟨h.fr.os,h.fr.tape,h.fr.output,h.fr.step.size,fun b hb=>h.fr.step.keep b (h.Ylt b hb) (hd b hb)⟩
end
section
open Go Go.RowKit
abbrev WF(ro:Option Nat):Fence:={ fn:=fun _=>True,depth:=none,alive:=false,round:=ro }
def Acx(o:Oper):Bool:=
 match o.op with
 |.defer _=>false
 |_=>true
def okR:Code->Bool
 |.region _ ops _=>ops.toList.all Acx
 |.seq a b=>okR a&&okR b
 |.cond _ a b=>okR a&&okR b
 |.block _ c=>okR c
 |.loop c=>okR c
 |.skip=>true
 |.exit _=>true
 |.ret=>true
 |_=>false
theorem MW{P:Program}{o:Oper}{a:Act}{w:World}{next:Act->World->Prop}{Q:Exit->Act->World->Prop}{ro:Option Nat}{n:Nat}(hd:Acx o=true)(h:o.wp P a w next Q):o.wpIn (WF ro) n P a w next Q:=by
 refine⟨fun _ _=>trivial,?_⟩;have e:o.semAt (WF ro).round a.eval=execOp a.eval o:=Oper.semAt_eq _ _ _ (by intro c hc;unfold Acx at hd;rw[hc] at hd;cases hd)
 rw[e];unfold Oper.wp at h
 revert h
 generalize (execOp a.eval o).run P w=q;intro h;cases q with
 |halt x w'=>cases x<;>first|exact h|exact h.elim
 |ok v w'=>
  cases v with
  |value v=>exact h
  |skip=>exact h
  |defer d=>exact h
  |enter f args=>exact⟨(fun h=>by cases h),(callsIn_wide.2 h:CallsIn Fence.wide (n-1) P f args w' _)⟩
  |row row args=>exact⟨(fun h=>by cases h),fun c cs _=>let ⟨v,w',r,s⟩:=h c cs;⟨v,w',r,stepsIn_wide.2 s⟩⟩
  |_=>exact h.elim
theorem Acq{P:Program}{ops:Array Oper}{Q:Exit->Act->World->Prop}{K K':Act->World->Prop}{ro:Option Nat}{i n:Nat}{a:Act}{w:World}(JM:¬LetsOut Q)(YC:ops.toList.all Acx=true)(hK:∀a w,K a w->K' a w)(h:wpOp P ops Q i K a w):wpOpIn (WF ro) n P ops Q i K' a w:=by
 unfold wpOp at h;unfold wpOpIn;cases ho:ops[i]? with
 |none=>rw[ho] at h;exact hK _ _ h
 |some o=>
  rw[ho] at h;simp only at h ⊢;have hn:Acx o=true:=List.all_eq_true.1 YC o (Array.mem_toList_iff.2 (Array.mem_of_getElem? ho));by_cases hw:Region.wanted o (yielded ops a.tmps)=true
  ·rw[Bn hw] at h ⊢;rcases h with h|h
   ·exact MW hn (Oper.wp_mono hK h)
   ·exact absurd h.2 JM
  ·rw[A4 hw] at h ⊢;exact⟨fun _ _=>trivial,hK _ _ h⟩
theorem Xo{P:Program}{ops:Array Oper}{Q:Exit->Act->World->Prop}{ro:Option Nat}{n:Nat}{md:Region.Mode}(JM:¬LetsOut Q)(YC:ops.toList.all Acx=true):∀(fuel:Nat)(listed:Array Bool)(a:Act)(w:World),wpAny P md ops Q fuel listed a w->wpAnyIn (WF ro) n P md ops Q fuel listed a w
 |0,_,_,_,h=>h
 |fuel+1,_,_,_,h=>⟨h.1,fun i hi=>Acq JM YC (fun a w=>Xo JM YC fuel _ a w) (h.2 i hi)⟩
section
variable {P:Program}{C:Kr}{N:Nat}{call:Bq}{w0:World}{X0:Gt}{Y:Nat->Prop}{R:Type}{r:R}{β:Bt}{s:St}{a:Act}{w:World}{o:Oper}{ops:Array Oper}{K:St->Option R}{ro:Option Nat}{n:Nat}
theorem RB(h:Cj N w0 X0 Y β s a w){G:Ze}(Lg:RO P G w0 X0)(Dn:∀f args res,call f args=some res->Dr G P f args res)(YC:Acx o=true)(hk:Fg C P N call ops o s K=some r):
  ∃s',K s'=some r/\∀(next:Act->World->Prop) (Q:Exit->Act->World->Prop),(∀a' w' β',Cj N w0 X0 Y β' s' a' w'->next a' w') ->
   if Region.wanted o (yielded ops a.tmps) then o.wpIn (WF ro) n P a w next Q else (∀f,o.about P w a.eval=some f->(WF ro).fn f)/\next (a.put o.dst undef) w:=by
 rw[TG] at hk
 have hw:∀b,Jf ops o s.tm=some b->Region.wanted o (yielded ops a.tmps)=b:=by
  intro b hb;unfold Jf at hb;unfold Region.wanted;cases hg:o.guard with
  |none=>rw[hg] at hb;simpa using hb
  |some q=>
   obtain⟨j,want⟩:=q;rw[hg] at hb;simp only at hb ⊢;cases hd:(ops[j]?).bind (·.dst) with
   |none=>rw[hd] at hb;cases hb
   |some d=>
    rw[hd] at hb;simp only at hb;split at hb
    ·rename_i b' ht;rw[AP h hd ht];simp at hb;rw[<-hb];cases b'<;>cases want<;>rfl
    ·rename_i ht;rw[AP h hd ht];simp at hb;rw[hb];rfl
    ·cases hb
 split at hk
 ·cases hk
 ·rename_i hv;obtain⟨s',hs',hn⟩:=XH h Lg Dn hk;refine⟨s',hs',fun next Q UB=>?_⟩;simp only[hw _ hv,if_true];exact MW YC (hn next Q UB)
 ·rename_i hv;obtain⟨hd,hk⟩:=A5 hk;refine⟨_,hk,fun next Q UB=>?_⟩;simp only[hw _ hv];exact⟨fun _ _=>trivial,UB _ _ β (h.put hd (Bd.sc _) (by simp[Cn,C2,Ba]))⟩
theorem GY{G:Ze}(Lg:RO P G w0 X0)(Dn:∀f args res,call f args=some res->Dr G P f args res){Q:Exit->Act->World->Prop}(hQ:∀s' a' w' β',K s'=some r->Cj N w0 X0 Y β' s' a' w'->Q .normal a' w'):
  ∀(li:Cc) (os:List Oper),li.length=os.length->(∀(k i:Nat),li[k]?=some i->ops[i]?=os[k]?)->os.all Acx=true->∀{s:St} {a:Act} {w:World} {β:Bt},Cj N w0 X0 Y β s a w->M4 C P N call ops os s K=some r->wpOpsIn (WF ro) n P ops Q li a w
 |[],[],_,_,_,s,a,w,β,h,hk=>by
  show Q .normal a w;exact hQ s a w β hk h
 |[],_::_,hl,_,_,_,_,_,_,_,_=>by cases hl
 |_::_,[],hl,_,_,_,_,_,_,_,_=>by cases hl
 |i::li,o::os,hl,hi,YC,s,a,w,β,h,hk=>by
  obtain⟨s1,hk,h⟩:=AU h hk;rw[List.all_cons,G6] at YC;have hio:ops[i]?=some o:=by simpa using hi 0 i rfl
  obtain⟨s',hs',hn⟩:=RB (ro:=ro) (n:=n) h Lg Dn YC.1 hk;unfold wpOpsIn;rw[hio];exact hn _ _ fun a' w' β' h'=>GY Lg Dn hQ li os (by simpa using hl) (fun k j hj=>by simpa using hi (k+1) j (by simpa using hj)) YC.2 h' hs'
theorem RK{c:Code}{Q:Exit->Act->World->Prop}{F:(St->Option R)->St->Option R}{nm:St->(St->Option R)->Option R}(hnm:∀{β s a w} {K:St->Option R},Cj N w0 X0 Y β s a w->nm s K=some r->∃β' s',K s'=some r/\Cj N w0 X0 Y β' s' a w)(hF:∀{β s a w} {K:St->Option R}{Q':Act->World->Prop},Cj N w0 X0 Y β s a w->F K s=some r->(∀s' a' w' β',K s'=some r->Cj N w0 X0 Y β' s' a' w'->Q' a' w')->c.wpIn (WF ro) n P (Exit.then Q' Q) a w):
  ∀(m:Nat) {β s a w},Cj N w0 X0 Y β s a w->YT F nm m s=some r->Code.roundsIn (WF ro) n P c Q m a w
 |0,_,_,_,_,_,hk=>by cases hk
 |m+1,β,s,a,w,h,hk=>by
  rw[roundsIn_succ];refine hF h hk fun s' a' w' β' Kn h'=>?_;obtain⟨β1,s1,Fc,h1⟩:=hnm h' Kn;exact RK hnm hF m h1 Fc
theorem QO{G:Ze}(Lg:RO P G w0 X0)(Dn:∀f args res,call f args=some res->Dr G P f args res)(hm:P.follows .mixedOrders=true){fu:Nat}:
  ∀(c:Code),okR c=true->∀{ln:Nat} {lx:Nat->Nat} {lr:Nat} {kn:St->Option R} {kx:Nat->St->Option R} {kr:St->Option R} {β:Bt} {s:St} {a:Act} {w:World} {Q:Exit->Act->World->Prop},(∀a w,¬Q .outgrown a w)->Cj N w0 X0 Y β s a w ->
   Ph C P fu N call c ln lx lr kn kx kr s=some r->(∀s' a' w' β',kn s'=some r->Cj N w0 X0 Y β' s' a' w'->Q .normal a' w') ->
   (∀id s' a' w' β',kx id s'=some r->Cj N w0 X0 Y β' s' a' w'->Q (.exit id) a' w')->(∀s' a' w' β',kr s'=some r->Cj N w0 X0 Y β' s' a' w'->Q .ret a' w')->c.wpIn (WF ro) n P Q a w:=by
 intro c
 induction c with
 |skip=>intro _ ln lx lr kn kx kr β s a w Q JM h hk hn hx hr;exact wpIn_skip (hn s a w β hk h)
 |region id ops draw=>
  intro ho ln lx lr kn kx kr β s a w Q JM h hk hn hx hr;unfold okR at ho;unfold Ph at hk;cases draw
  ·simp only[YH,Zzs,cond_false] at hk;refine wpIn_region (GY Lg Dn hn (List.range ops.size) ops.toList (by simp) (fun k i hi=>?_) ho h hk);rw[List.getElem?_range] at hi
   ·simp at hi;subst hi;simp
   ·rcases Mh k ops.size with h'|h'
    ·exact h'
    ·rw[List.getElem?_eq_none (by simpa using h')] at hi;cases hi
  ·have hLo:¬LetsOut Q:=fun ⟨a,w,q⟩=>JM a w q;simp only[YH,Asx,Zzm,cond_true] at hk;cases hb:XG C P ops<;>rw[hb] at hk
   ·obtain⟨Kh,Fc⟩:=A5 (show As _ _=some r from hk);exact wpIn_region_any hm (Xo hLo ho _ _ _ _ (BQ h Lg Dn hm Kh Fc hn))
   ·exact wpIn_region_any hm (Xo hLo ho _ _ _ _ (Yq h Lg Dn hm hb hk hn))
 |seq c1 c2 ih1 ih2=>
  intro ho ln lx lr kn kx kr β s a w Q JM h hk hn hx hr;unfold okR at ho;rw[G6] at ho;unfold Ph at hk
  refine wpIn_seq (ih1 ho.1 (fun a w=>JM a w) h hk (fun s' a' w' β' Kn h'=>by
    cases hc:Ank P c1 c2
    ·rw[hc] at Kn;exact ih2 ho.2 JM h' Kn hn hx hr
    ·rw[hc] at Kn;cases hq:LX c1 c2
     ·rw[hq] at Kn;obtain⟨β1,s1,Fc,h1⟩:=Cm h' (show Kg _ _ _ _=some r from Kn);exact ih2 ho.2 JM h1 (EX Fc) hn hx hr
     ·rw[hq] at Kn;obtain⟨β1,s1,Fc,h1⟩:=QC h' (show Agt _ _ _ _=some r from Kn);exact ih2 ho.2 JM h1 (EX Fc) hn hx hr) (fun id s' a' w' β' Kn h'=>hx id s' a' w' β' Kn h') (fun s' a' w' β' Kn h'=>hr s' a' w' β' Kn h'))
 |cond c c1 c2 ih1 ih2=>
  intro ho ln lx lr kn kx kr β s a w Q JM h hk hn hx hr;unfold okR at ho;rw[G6] at ho;unfold Ph at hk;rcases QN h hk with⟨hc,Fc⟩|⟨hc,Fc⟩
  ·exact wpIn_cond_true hc (ih1 ho.1 JM h Fc hn hx hr)
  ·exact wpIn_cond_false hc (ih2 ho.2 JM h Fc hn hx hr)
 |block id c ih=>
  intro ho ln lx lr kn kx kr β s a w Q JM h hk hn hx hr;unfold okR at ho;unfold Ph at hk;refine wpIn_block (ih ho (fun a w=>JM a w) h hk (fun s' a' w' β' Kn h'=>hn s' a' w' β' Kn h') (fun j s' a' w' β' Kn h'=>?_) (fun s' a' w' β' Kn h'=>hr s' a' w' β' Kn h'));show (if j=id then _ else _);by_cases e:j=id
  ·subst e;rw[Bn rfl];rw[P6] at Kn;exact hn s' a' w' β' Kn h'
  ·rw[A4 e]
   have:Nat.beq j id=false:=by
    cases hb:Nat.beq j id
    ·rfl
    ·exact absurd (Ez hb) e
   rw[this] at Kn;exact hx j s' a' w' β' Kn h'
 |loop c ih=>
  intro ho ln lx lr kn kx kr β s a w Q JM h hk hn hx hr;unfold okR at ho;unfold Ph at hk;obtain⟨β1,s1,Fc,h1⟩:=Cm h hk;refine wpIn_loop_rounds fu (RK (fun h hk=>Cm h hk) (fun h hk hQ=>?_) fu h1 Fc);exact ih ho (fun a w=>JM a w) h hk hQ (fun id s' a' w' β' Kn h'=>hx id s' a' w' β' Kn h') (fun s' a' w' β' Kn h'=>hr s' a' w' β' Kn h')
 |«exit» id=>intro _ ln lx lr kn kx kr β s a w Q JM h hk hn hx hr;exact wpIn_exit (hx id s a w β hk h)
 |ret=>intro _ ln lx lr kn kx kr β s a w Q JM h hk hn hx hr;exact wpIn_ret (hr s a w β hk h)
 |_=>intro ho;cases ho
end
end
section
open Go Go.RowKit
theorem Tp:∀(l:List (Nat × PV)) (i:Nat),lk l i=.top\/∃q∈l,q.1=i/\lk l i=q.2
 |[],_=>.inl rfl
 |(j,p)::l,i=>by
  by_cases e:i=j
  ·subst e;refine .inr ⟨(i,p),by simp,rfl,?_⟩;simp[lk,P6]
  ·have hb:Nat.beq i j=false:=by
    cases h:Nat.beq i j
    ·rfl
    ·exact absurd (Ez h) e
   have Kh:Nat.beq j i=false:=by
    cases h:Nat.beq j i
    ·rfl
    ·exact absurd (Ez h).symm e
   have h1:lk ((j,p)::l) i=lk l i:=by simp[lk,hb,Kh]
   rw[h1];rcases Tp l i with h|⟨q,hq,h2,h3⟩
   ·exact .inl h
   ·exact .inr ⟨q,Sx _ hq,h2,h3⟩
theorem Vr:∀(l:List (Nat × Cb)) (i:Nat),B3 l i=none\/∃q∈l,q.1=i/\B3 l i=some q.2
 |[],_=>.inl rfl
 |(j,p)::l,i=>by
  by_cases e:i=j
  ·subst e;refine .inr ⟨(i,p),by simp,rfl,?_⟩;simp[B3,P6]
  ·have hb:Nat.beq i j=false:=by
    cases h:Nat.beq i j
    ·rfl
    ·exact absurd (Ez h) e
   have Kh:Nat.beq j i=false:=by
    cases h:Nat.beq j i
    ·rfl
    ·exact absurd (Ez h).symm e
   have h1:B3 ((j,p)::l) i=B3 l i:=by simp[B3,hb,Kh]
   rw[h1];rcases Vr l i with h|⟨q,hq,h2,h3⟩
   ·exact .inl h
   ·exact .inr ⟨q,Sx _ hq,h2,h3⟩
theorem Abh{P:Program}{a:Act}{w:World}{o:Oper}{c:Call}{t l:Nat}(ho:o.op=.call c)(hc:c.callee=.value (.tmp t))(ht:a.eval (.tmp t)=.func (.yield l) #[] #[]){r:Result Next}(hy:(Instr.yield l (c.args.map a.eval)).run P w=r):
  (execOp a.eval o).run P w=r:=by
 unfold execOp;rw[ho];simp[resolve,hc,ht,Deferred.ofValue,invoke,hy]
section
variable {P:Program}{C:Kr}{N:Nat}{call:Bq}{w0:World}{X0:Gt}{Y:Nat->Prop}{R:Type}{r:R}{β:Bt}{s:St}{a:Act}{w:World}{o:Oper}{ops:Array Oper}{K:St->Option R}{ro:Option Nat}{n:Nat}
theorem Cj.part(h:Cj N w0 X0 Y β s a w)(tm':Nat->PV)(Dg:Nat->Option Cb)(ht:∀i,tm' i=.top\/tm' i=s.tm i)(hh:∀id,Dg id=none\/Dg id=s.hp id)(hw:∀i,i<N->∀id∈Cn (tm' i),Dg id≠none)(hwB:∀id cells,Dg id=some (.st cells)->∀c∈cells,∀id'∈Ba c,Dg id'≠none)(EC:∀i,X0.pn i->Dg (Ef N i)≠none):Cj N w0 X0 Y β ⟨tm',Dg⟩ a w:=by
 have hX:∀b,JO Dg β b->JO s.hp β b:=by
  rintro b ⟨id,o,h1,h2⟩
  rcases hh id with e|e
  ·rw[e] at h1;exact h1.elim
  ·rw[e] at h1;exact⟨id,o,h1,h2⟩
 have hA:∀b,D4 Dg β Y b->D4 s.hp β Y b:=fun b hb=>hb.elim (fun x=>.inl (hX b x)) .inr
 have hs:∀{id bx},Dg id=some bx->s.hp id=some bx:=by
  intro id bx e;rcases hh id with e'|e'
  ·rw[e'] at e;cases e
  ·rw[<-e'];exact e
 have hn:∀{id},Dg id≠none->s.hp id≠none:=by
  intro id e;rcases hh id with e'|e'
  ·exact absurd e' e
  ·rw[<-e'];exact e
 have hl:∀{id},Db (Dg id)->Db (s.hp id):=by
  intro id e;rcases hh id with e'|e'
  ·rw[e'] at e;exact e.elim
  ·rw[<-e'];exact e
 have Hm:C6 (D4 s.hp β Y) w w:=⟨Da _,fun _ _ _=>rfl,fun _ _=>Da _⟩
 refine⟨h.dfr,h.tsz,fun i hi=>?_,fun i hi=>?_,fun id bx P4=>?_,fun id id' b o o' h1 h2=>h.inj id id' b o o' (hl h1) (hl h2),fun id b o h1 h2=>h.blt id b o (hn h1) h2,hw,hwB,fun b hb=>h.ownd b (hX b hb),fun id bx b o h1 h2 h3 h4=>h.rngB id bx b o (hs h1) h2 h3 h4,
  fun i hi=>⟨EC i hi,(h.pin i hi).2⟩,fun id c b o h1=>h.stp id c b o (hs h1),fun b hy hx=>h.Yx b hy (hX b hx),h.Ylt,h.fr⟩
 ·rcases ht i with e|e
  ·exact e
  ·exact e.trans (h.tmo i hi)
 ·show Fe w (D4 Dg β Y) β (tm' i) _;rcases ht i with e|e
  ·rw[e];exact Bd.top _
  ·rw[e];exact (h.tms i hi).step Hm (fun b _=>hA b) fun _ _=>rfl
 ·have h0:=h.box id bx (hs P4);exact h0.step' hA
theorem Cj.pick(h:Cj N w0 X0 Y β s a w)(l:List (Nat × PV))(bl:List (Nat × Cb))(hl:∀q∈l,q.2=s.tm q.1)(hb:∀q∈bl,some q.2=s.hp q.1)(hw:∀q∈l,∀id∈Cn q.2,B3 bl id≠none)(hwB:∀q∈bl,∀cells,q.2=.st cells->∀c∈cells,∀id'∈Ba c,B3 bl id'≠none)(EC:∀i,X0.pn i->B3 bl (Ef N i)≠none):Cj N w0 X0 Y β ⟨lk l,B3 bl⟩ a w:=by
 refine h.part (lk l) (B3 bl) (fun i=>?_) (fun id=>?_) (fun i _ id B6=>?_) (fun id cells e=>?_) EC
 ·rcases Tp l i with e|⟨q,hq,h1,h2⟩
  ·exact .inl e
  ·exact .inr (by rw[h2,hl q hq,h1])
 ·rcases Vr bl id with e|⟨q,hq,h1,h2⟩
  ·exact .inl e
  ·exact .inr (by rw[h2,hb q hq,h1])
 ·rcases Tp l i with e|⟨q,hq,h1,h2⟩
  ·rw[e] at B6;simp[Cn,C2,Ba] at B6
  ·rw[h2] at B6;exact hw q hq id B6
 ·rcases Vr bl id with e'|⟨q,hq,h1,h2⟩
  ·rw[e'] at e;cases e
  ·rw[h2] at e;exact hwB q hq cells (by injection e)
theorem H3{G:Ze}(Lg:RO P G w0 X0)(Dn:∀f args res,call f args=some res->Dr G P f args res){Q:Exit->Act->World->Prop}{rest:Cc}(hQ:∀s' a' w' β',K s'=some r->Cj N w0 X0 Y β' s' a' w'->wpOpsIn (WF ro) n P ops Q rest a' w'):
  ∀(li:Cc) (os:List Oper),li.length=os.length->(∀(k i:Nat),li[k]?=some i->ops[i]?=os[k]?)->os.all Acx=true->∀{s:St} {a:Act} {w:World} {β:Bt},Cj N w0 X0 Y β s a w->M4 C P N call ops os s K=some r->wpOpsIn (WF ro) n P ops Q (li++rest) a w
 |[],[],_,_,_,s,a,w,β,h,hk=>hQ s a w β hk h
 |[],_::_,hl,_,_,_,_,_,_,_,_=>by cases hl
 |_::_,[],hl,_,_,_,_,_,_,_,_=>by cases hl
 |i::li,o::os,hl,hi,YC,s,a,w,β,h,hk=>by
  obtain⟨s1,hk,h⟩:=AU h hk;rw[List.all_cons,G6] at YC;have hio:ops[i]?=some o:=by simpa using hi 0 i rfl
  obtain⟨s',hs',hn⟩:=RB (ro:=ro) (n:=n) h Lg Dn YC.1 hk;rw[Zzp];unfold wpOpsIn;rw[hio];exact hn _ _ fun a' w' β' h'=>H3 Lg Dn hQ li os (by simpa using hl) (fun k j hj=>by simpa using hi (k+1) j (by simpa using hj)) YC.2 h' hs'
end
end
section
open Go Go.RowKit
abbrev Wc(ds:List Deferred)(a:Act):Act:={ a with defers:=a.defers++ds }
def TD(ds:List Deferred)(Q:Exit->Act->World->Prop):Exit->Act->World->Prop:=fun e a w=>∃a0:Act,a=Wc ds a0/\Q e a0 w
section
variable {P:Program}{ops:Array Oper}{Q:Exit->Act->World->Prop}{ro:Option Nat}{n:Nat}{ds:List Deferred}
theorem Vu(a:Act)(d:Option Tmp)(v:Value):(Wc ds a).put d v=Wc ds (a.put d v):=by cases d<;>rfl
theorem Asw(h:LetsOut Q):LetsOut (TD ds Q):=let ⟨a,w,q⟩:=h;⟨_,w,a,rfl,q⟩
theorem Aqh{o:Oper}{a:Act}{w:World}{K K':Act->World->Prop}(hK:∀a w,K a w->K' (Wc ds a) w)(h:o.wpIn (WF ro) n P a w K Q):o.wpIn (WF ro) n P (Wc ds a) w K' (TD ds Q):=by
 refine⟨fun _ _=>trivial,?_⟩;have h:=h.2;show o.uponIn _ _ _ _ _ _ ((o.semAt (WF ro).round a.eval).run P w);generalize (o.semAt (WF ro).round a.eval).run P w=q at h;cases q with
 |halt x w'=>cases x<;>first|exact⟨a,rfl,h⟩|exact h.elim
 |ok v w'=>
  cases v with
  |value v=>show K' ((Wc ds a).put o.dst v) w';rw[Vu];exact hK _ _ h
  |skip=>show K' ((Wc ds a).put o.dst undef) w';rw[Vu];exact hK _ _ h
  |defer d=>
   show K' (({ (Wc ds a) with defers:=d::(Wc ds a).defers }:Act).put o.dst undef) w';rw[show ({ (Wc ds a) with defers:=d::(Wc ds a).defers }:Act)=Wc ds { a with defers:=d::a.defers } from rfl,Vu];exact hK _ _ h
  |enter f args=>
   refine⟨h.1,h.2.mono ?_⟩;intro e w'' he;cases e with
   |returned v=>show K' ((Wc ds a).put o.dst v) w'';rw[Vu];exact hK _ _ he
   |panicked c=>exact⟨a,rfl,he⟩
   |outgrown=>exact Asw he
  |row row args=>
   refine⟨h.1,h.2.mono ?_⟩;intro v w'' he;show K' ((Wc ds a).put o.dst v) w'';rw[Vu];exact hK _ _ he
  |round l f tmps assign body=>
   refine⟨h.1,h.2.mono ?_⟩;intro e w'' he;cases e with
   |returned v=>show K' ((Wc ds a).put o.dst v) w'';rw[Vu];exact hK _ _ he
   |panicked c=>exact⟨a,rfl,he⟩
   |outgrown=>exact Asw he
  |_=>exact h.elim
theorem BA:∀(li:Cc){a:Act}{w:World},wpOpsIn (WF ro) n P ops Q li a w->wpOpsIn (WF ro) n P ops (TD ds Q) li (Wc ds a) w
 |[],a,w,h=>⟨a,rfl,h⟩
 |i::li,a,w,h=>by
  rw[wpOpsIn_cons] at h ⊢;unfold wpOpIn at h ⊢;cases ho:ops[i]? with
  |none=>rw[ho] at h;exact BA li h
  |some o=>
   rw[ho] at h;simp only at h ⊢;by_cases hw:Region.wanted o (yielded ops a.tmps)=true
   ·rw[Bn hw] at h ⊢;exact Aqh (fun a w=>BA li) h
   ·rw[A4 hw] at h ⊢;refine⟨fun _ _=>trivial,?_⟩;rw[Vu];exact BA li h.2
end
structure Ako(w w':World):Prop where
 os:w'.os=w.os
 tape:w'.tape=w.tape
 output:w'.output=w.output
 size:w'.heap.size=w.heap.size
 cell:∀a,w'.cell? a=w.cell? a
 frz:∀a,w'.frozen? a=w.frozen? a
 bs:∀b,bsz w' b=bsz w b
theorem Bd.same{w w':World}{A:Nat->Prop}(h:Ako w w'){p:PV}{v:Value}(t:Bd w A p v):Bd w' A p v:=by
 induction t with
 |sc v=>exact .sc v
 |top v=>exact .top v
 |ub b=>exact .ub b
 |lnil z es=>exact .lnil z es
 |lemp es a cap=>exact .lemp es a cap
 |lst es n cells a cap f hs hb hA1 hn hc h1 hr ih=>exact .lst es n cells a cap f hs (by rw[h.size];exact hb) hA1 hn (fun j c hj=>by rw[h.cell];exact hc j c hj) h1 (fun j c hj=>ih j c hj)
theorem YL.same{w w':World}{A:Nat->Prop}(h:Ako w w'){a:Addr}{c:Ab}(t:YL w A a c):YL w' A a c:=fun j x hj=>by
 obtain⟨v,h1,h2,h3⟩:=t j x hj;exact⟨v,by rw[h.cell];exact h1,h2,h3.same h⟩
theorem Cz.same{w w':World}{A:Nat->Prop}{β:Nat->Option (Nat × Nat)}(h:Ako w w'){p:PV}{v:Value}(t:Cz w A β p v):Cz w' A β p v:=by
 cases p with
 |view id es off n=>
  rcases t with t|⟨b,o,x,cap,h1,h2,hx,h3,h4,h5⟩
  ·exact .inl t
  ·exact .inr ⟨b,o,x,cap,h1,h2,hx,h3,by rw[h.bs];exact h4,by rw[h.size];exact h5⟩
 |ptr id off=>exact t
 |iptr c off=>
  obtain⟨a,h1,h2,h3,h4,h5⟩:=t;exact⟨a,h1,h2,by rw[h.size];exact h3,h4,h5.same h⟩
 |_=>exact Bd.same h t
theorem Ca.imp'{α β:Type}{R S:α->β->Prop}{zs:List α}{bs:List β}(h:Ca R zs bs)(f:∀a b,R a b->S a b):Ca S zs bs:=h.mono f
theorem Jv.same{w w':World}{A:Nat->Prop}{β:Nat->Option (Nat × Nat)}(h:Ako w w'){p:PV}{v:Value}(t:Jv w A β p v):Jv w' A β p v:=by
 cases p with
 |agg cs=>obtain⟨vs,h1,h2⟩:=t;exact⟨vs,h1,h2.imp' fun _ _=>Cz.same h⟩
 |_=>exact (BI (by intro cs e;cases e)).2 (Cz.same h ((BI (by intro cs e;cases e)).1 t))
theorem Fe.same{w w':World}{A:Nat->Prop}{β:Nat->Option (Nat × Nat)}(h:Ako w w'){p:PV}{v:Value}(t:Fe w A β p v):Fe w' A β p v:=by
 cases p with
 |tup cs=>obtain⟨vs,h1,h2⟩:=t;exact⟨vs,h1,h2.imp' fun _ _=>Jv.same h⟩
 |_=>exact (Tq (by intro cs e;cases e)).2 (Jv.same h ((Tq (by intro cs e;cases e)).1 t))
theorem Cj.same{N:Nat}{w0 w w':World}{X0:Gt}{Y:Nat->Prop}{β:Bt}{s:St}{a:Act}(h:Cj N w0 X0 Y β s a w)(hs:Ako w w')(h0:∀b,b<w0.heap.size->w'.heap[b]?=w.heap[b]?):Cj N w0 X0 Y β s a w':=by
 refine⟨h.dfr,h.tsz,h.tmo,fun i hi=>(h.tms i hi).same hs,fun id bx e=>?_,h.inj,fun id b o h1 h2=>by rw[hs.size];exact h.blt id b o h1 h2,h.wfT,h.wfB,h.ownd,h.rngB,h.pin,h.stp,h.Yx,h.Ylt,
  ⟨hs.os.trans h.fr.os,hs.tape.trans h.fr.tape,hs.output.trans h.fr.output,⟨by rw[hs.size];exact h.fr.step.size,fun b hb hn=>(h0 b hb).trans (h.fr.step.keep b hb hn),fun b hb=>by rw[hs.bs];exact h.fr.step.bs b hb⟩,fun b j hb hn=>by rw[hs.cell,hs.frz];exact h.fr.rng b j hb hn⟩⟩
 have h1:=h.box id bx e;cases bx with
 |st c=>
  obtain⟨b,o,g1,g2,g3⟩:=h1;refine⟨b,o,g1,fun j c hj=>?_,fun j hj=>by rw[hs.frz];exact g3 j hj⟩
  obtain⟨v,k1,k2⟩:=g2 j c hj;exact⟨v,by rw[hs.cell];exact k1,k2.same hs⟩
 |ar fz c=>
  rcases h1 with h1|⟨b,o,g1,g2,g3,g4⟩
  ·exact .inl h1
  ·exact .inr ⟨b,o,g1,g2.same hs,fun hf j hj hjb=>by rw[hs.frz];exact g3 hf j hj (by rw[<-hs.bs];exact hjb),g4⟩
 |mv=>trivial
theorem RN{w:World}{D:Nat}{x y:Option (List Deferred)}(h:w.heap[D]?=some (.deferred x)):Ako w (w.putObj D (.deferred y)):=by
 have hD:D<w.heap.size:=(Array.getElem?_eq_some_iff.1 h).1;have hs:(w.putObj D (.deferred y)).heap[D]?=some (.deferred y):=World.putObj_heap_same hD;refine⟨rfl,rfl,rfl,by simp,fun a=>?_,fun a=>?_,fun b=>?_⟩
 ·by_cases e:a.block=D
  ·unfold World.cell?;rw[e,hs,h]
  ·exact World.cell?_of_block (World.putObj_heap_other e)
 ·by_cases e:a.block=D
  ·unfold World.frozen?;rw[e,hs,h]
  ·unfold World.frozen?;rw[World.putObj_heap_other e]
 ·by_cases e:b=D
  ·subst e;unfold bsz;rw[hs,h]
  ·unfold bsz;rw[World.putObj_heap_other e]
end
section
variable {xs:FuncId->Option (Ab->Option Dt)}(fu d:Nat)(call:Bq)
theorem EP(Z:Int):Fm C0 fu d 54 [Z] fun call=>Az (decide (Z>=0)) (Bu [.sc (.bool (decide (Z<=4)))]) (Bu [.sc (.bool false)]):=by show _=_;kernel_rfl
def I5(Z:Int)(Y:Nat)(X:Int)(W:Nat)(V U:Int)(T:Ab):Option Dt:=K0 fu call 100 Tryz.f100 [Af Z] [.r,.r,.r,.l,.r,.l] Y ⟨lk [(0,Af X),(3,.view 3 1 0 W),(4,V),(5,U)],B3 [(3,.ar false T)]⟩
theorem Pt(U:Int)(T:Nat)(V:Int)(Z:Nat)(Y X:Int)(W:Ab):I5 fu call U (T+1) V Z Y X W=(Az (decide (X>=0)) (Aa (wrap .i64 (4*X)) fun a=>Aa (wrap .u64 a) fun a=>As (decide (0<=a))<|Aa (Fp .u64 V a) fun a=>Aa (Oy .u64 a 15) fun a=>Aa (wrap .i64 a) fun a=>On Z 1 8 W [a] fun b c=>Aa (wrap .i64 (15-a)) fun a=>Aa (wrap .i64 (Y+a)) fun a=>Aa (wrap .i64 (X-1)) fun e=>I5 fu call U T V b a e c) (Aa (wrap .i64 (Int.tdiv Y 16)) fun a=>Aa (Int.tmod Y 16) fun b=>As (decide (Z*1<=W.length)&&true&&decide ((Z+2)*8<=1099511627776)&&decide (Z+2<=1099511627776))<|Aa (Z+2) fun c=>Aa (List.take (Z*1) W++[Au a,Au b]) fun a=>As (decide (c*1<=a.length))<|Bu [.own 1 c (a.take (c*1))])):=by kernel_rfl
theorem GH(Z:Int):Fm C0 fu d 100 [Af Z] fun call=>I5 fu call Z fu Z 0 0 15 ([]):=by show _=_;kernel_rfl
def J7(Z Y:Int)(X W V:Int)(U:Nat)(T S:Int)(Q P O:Int):Option Dt:=K0 fu call 101 Tryz.f101 [Z,Y,X,W,Af V] [.r,.l,.r,.l] U ⟨lk [(0,T),(1,S),(3,Q),(4,Af P),(11,O)],B3 []⟩
theorem Rs(U T:Int)(S Q P:Int)(O:Nat)(X W:Int)(Z V Y:Int):J7 fu call U T S Q P (O+1) X W Z V Y=(Aa (if 15<Z then 15 else Z) fun a=>Az (decide (Y<a)) (Aa (wrap .u64 X) fun a=>Aa (wrap .u64 W) fun b=>Aa (wrap .u64 Y) fun c=>Dj (call 79 [Am 1 4 [Af a,Af b,Af c,Af V]]) fun a b=>J0 1 a fun a c=>Ar b<|As (decide (0+a*1<=c.length))<|Lj .u64 (call 33 [(1:Int),Am 1 a (List.take (a*1) (c.drop 0))]) fun a=>Aa (wrap .i64 (Y+1)) fun b=>J7 fu call U T S Q P O X W Z a b) (Bu [Af V])):=by kernel_rfl
theorem MG(Y X:Int)(Z W V:Int):Fm C0 fu d 101 [Y,X,Z,W,Af V] fun call=>Aa (if Z<0 then 0 else Z) fun a=>J7 fu call Y X Z W V fu Y X W V a:=by show _=_;kernel_rfl
theorem DM(Z Y X:Int):Fm C0 fu d 102 [Af Z,Y,X] fun call=>Aa (wrap .u64 Y) fun a=>Aa (wrap .u64 X) fun b=>Dj (call 79 [Am 1 2 [Af a,Af b]]) fun a b=>J0 1 a fun a c=>Ar b<|As (decide (0+a*1<=c.length))<|Lj .u64 (call 85 [Af Z,(1:Int),Am 1 a (List.take (a*1) (c.drop 0))]) fun a=>Bu [Af a]:=by show _=_;kernel_rfl
theorem JN(Z:Int)(Y:Nat)(X:Ab):Fm C0 fu d 116 [Z,Am 1 Y X] fun call=>Aa (wrap .u64 Z) fun a=>Dj (call 79 [Am 1 1 [Af a]]) fun a b=>J0 1 a fun a c=>Ar b<|Dj (call 79 [Am 1 Y X]) fun b e=>J0 1 b fun b f=>Ar e<|As (decide (0+b*1<=f.length))<|As (decide (a*1<=c.length)&&decide (List.length (List.take (b*1) (f.drop 0))=b*1)&&decide ((a+b)*1<=1099511627776)&&decide (a+b<=1099511627776))<|Aa (a+b) fun e=>Aa (List.take (a*1) c++List.take (b*1) (f.drop 0)) fun a=>As (decide (0+e*1<=a.length))<|Lj .u64 (call 33 [(2:Int),Am 1 e (List.take (e*1) (a.drop 0))]) fun a=>Bu [Af a]:=by show _=_;kernel_rfl
def Jj(Z Y:Int)(X:Nat)(W V:Int)(U:Nat)(T:Int)(S:Ab):Option Dt:=K0 fu call 94 Tryz.f94 [Af Z,Y] [.r,.r,.l,.r,.l] X ⟨lk [(0,Af W),(1,V),(5,.view 5 1 0 U),(6,T)],B3 [(5,.ar false S)]⟩
theorem Qk(U T:Int)(S:Nat)(V Z:Int)(Y:Nat)(X:Int)(W:Ab):Jj fu call U T (S+1) V Z Y X W=(Az (decide (X<18)) (Lj .u64 (call 102 [Af V,Z,X]) fun a=>Lj .u64 (call 101 [Z,X,(0:Int),(15:Int),Af a]) fun a=>On Y 1 8 W [Af a] fun a b=>Aa (wrap .i64 (X+1)) fun c=>Jj fu call U T S V Z a c b) (As (decide (0+Y*1<=W.length))<|Lj .u64 (call 116 [Z,Am 1 Y (List.take (Y*1) (W.drop 0))]) fun a=>Bu [Af a])):=by kernel_rfl
theorem JG(Z Y:Int):Fm C0 fu d 94 [Af Z,Y] fun call=>Jj fu call Z Y fu Z Y 0 0 ([]):=by show _=_;kernel_rfl
def Hj(Z Y X:Int)(W:Nat)(V U:Int)(T S:Nat)(Q:Int)(P O:Ab):Option Dt:=K0 fu call 60 Tryz.f60 [Af Z,Y,Af X] [.r,.r,.r,.l,.r,.l] W ⟨lk [(0,Af V),(1,U),(7,.view 7 1 0 T),(8,.view 8 1 0 S),(9,Q)],B3 [(7,.ar false P),(8,.ar false O)]⟩
theorem Mx(S Q P:Int)(O:Nat)(V X:Int)(U Y:Nat)(Z:Int)(T W:Ab):Hj fu call S Q P (O+1) V X U Y Z T W=(Az (decide (Z<18)) (As (decide (0<=Z)&&decide (Z<(↑U:Int)))<|Be .i64 (T.getD (0+Z.toNat*1) .top) fun a=>Lj .u64 (call 102 [Af V,X,Z]) fun b=>Lj .u64 (call 101 [X,Z,(0:Int),a,Af b]) fun a=>On Y 1 8 W [Af a] fun a b=>Aa (wrap .i64 (Z+1)) fun c=>Hj fu call S Q P O V X U a c T b) (As (decide (Y*1<=W.length))<|Bu [.own 1 Y (W.take (Y*1))])):=by kernel_rfl
theorem Z4(Z Y X:Int):Fm C0 fu d 60 [Af Z,Y,Af X] fun call=>Dj (call 100 [Af X]) fun a b=>J0 1 a fun a c=>Ar b<|Hj fu call Z Y X fu Z Y a 0 0 c ([]):=by show _=_;kernel_rfl
def Hw(Z Y:Int)(X:Nat)(W:Ab)(V:Nat)(U:Int)(T:Nat)(S:Ab)(Q P:Nat)(O:Int)(N M:Ab):Option Dt:=K0 fu call 77 Tryz.f77 [Z,Af Y,Am 1 X W] [.r,.r,.r,.r,.l,.r,.l] V ⟨lk [(0,U),(2,Am 1 T S),(8,.view 8 1 0 Q),(9,.view 9 1 0 P),(10,O)],B3 [(8,.ar false N),(9,.ar false M)]⟩
theorem Nc(Q P:Int)(O:Nat)(N:Ab)(M:Nat)(X:Int)(V:Nat)(U:Ab)(T Y:Nat)(Z:Int)(S W:Ab):Hw fu call Q P O N (M+1) X V U T Y Z S W=(Az (decide (Z<18)) (As (decide (0<=Z)&&decide (Z<(↑T:Int)))<|Be .i64 (S.getD (0+Z.toNat*1) .top) fun a=>As (decide (0<=Z)&&decide (Z<(↑V:Int)))<|Be .u64 (U.getD (Z.toNat*1) .top) fun b=>Lj .u64 (call 101 [X,Z,a,(15:Int),Af b]) fun a=>On Y 1 8 W [Af a] fun a b=>Aa (wrap .i64 (Z+1)) fun c=>Hw fu call Q P O N M X V U T a c S b) (As (decide (0+Y*1<=W.length))<|Lj .u64 (call 116 [X,Am 1 Y (List.take (Y*1) (W.drop 0))]) fun a=>Bu [Af a,(0:Int)])):=by kernel_rfl
theorem CH(Y X:Int)(Z:Nat)(W:Ab):Fm C0 fu d 77 [Y,Af X,Am 1 Z W] fun call=>Az ((↑Z:Int) != 18) (Bu [Af 0,(4:Int)]) (Dj (call 100 [Af X]) fun a b=>J0 1 a fun a c=>Ar b<|Hw fu call Y X Z W fu Y Z W a 0 0 c ([])):=by show _=_;kernel_rfl
theorem EM(Z Y X:Int):Fm C0 fu d 78 [Z,Af Y,Af X] fun call=>Aa (wrap .u64 Z) fun a=>Dj (call 79 [Am 1 3 [Af a,Af Y,Af X]]) fun a b=>J0 1 a fun a c=>Ar b<|As (decide (0+a*1<=c.length))<|Lj .u64 (call 33 [(3:Int),Am 1 a (List.take (a*1) (c.drop 0))]) fun a=>Bu [Af a]:=by show _=_;kernel_rfl
theorem Vf(Y Z X:Int):Fm C0 fu d 55 [Af Y,Z,X] fun call=>Az (Z==0) (Lj .u64 (call 94 [Af Y,X]) fun a=>Bu [Af a]) (Aa (wrap .i64 (Z-1)) fun a=>Aa (wrap .i64 (2*X)) fun b=>Lj .u64 (call 55 [Af Y,a,b]) fun a=>Aa (wrap .i64 (Z-1)) fun b=>Aa (wrap .i64 (2*X)) fun c=>Aa (wrap .i64 (c+1)) fun c=>Lj .u64 (call 55 [Af Y,b,c]) fun b=>Lj .u64 (call 78 [Z,Af a,Af b]) fun a=>Bu [Af a]):=by show _=_;kernel_rfl
theorem DW(Y Z:Int):Fm C0 fu d 30 [Af Y,Z] fun call=>Dj (call 54 [Z]) fun a b=>Cg a fun a=>Ar b<|Az (!a) (Bu [.agg [(0:Int),Af 0],(9:Int)]) (Lj .u64 (call 55 [Af Y,Z,(0:Int)]) fun a=>Bu [.agg [Z,Af a],(0:Int)]):=by show _=_;kernel_rfl
def Ji(Z Y:Int)(X W:Int)(V:Nat)(U T:Int)(S Q P:Int)(O N:Nat)(M L:Ab)(K:Int)(J I:Nat)(H G:Ab):Option Dt:=K0 fu call 32 Tryz.f32 [Af Z,Y,X,Af W] [.r,.r,.r,.l,.r,.l] V ⟨lk [(0,Af U),(1,T),(2,S),(8,.ptr 8 0),(10,.ptr 10 0),(11,Q)],B3 [(8,.st [P,.view 112 1 0 O,.view 164 1 0 N]),(112,.ar false M),(164,.ar false L),(10,.st [K,.view 114 1 0 J,.view 166 1 0 I]),(114,.ar false H),(166,.ar false G)]⟩
theorem Qn(P O:Int)(N M:Int)(L:Nat)(U T:Int)(S Z K:Int)(J I:Nat)(H G:Ab)(Q:Int)(Y X:Nat)(W V:Ab):Ji fu call P O N M (L+1) U T S Z K J I H G Q Y X W V=(Az (decide (Z<T)) (Aa (wrap .u64 Z) fun a=>As (decide (0<=a))<|Aa (Fp .i64 S a) fun a=>Aa (Fj .i64 a 1) fun a=>Lj .u64 (call 55 [Af U,Z,a]) fun a=>On X 1 8 V [Af a] fun a b=>Aa (wrap .i64 (Z+1)) fun c=>Ji fu call P O N M L U T S c K J I H G Q Y a W b) (As (decide (Y*1<=W.length))<|As (decide (X*1<=V.length))<|Bu [.agg [Q,.own 1 Y (W.take (Y*1)),.own 1 X (V.take (X*1))],(0:Int)])):=by kernel_rfl
theorem HQ(X Y:Int)(Z W:Int):Fm C0 fu d 32 [Af X,Y,Z,Af W] fun call=>Dj (call 54 [Y]) fun a b=>Cg a fun a=>Ar b<|Az (!a) (Bu [.agg [(0:Int),.own 1 0 [],.own 1 0 []],(9:Int)]) (Az (decide (Z<0)) (Bu [.agg [(0:Int),.own 1 0 [],.own 1 0 []],(9:Int)]) (Aa (wrap .u64 Y) fun a=>As (decide (0<=a))<|Aa (Hq .i64 1 a) fun a=>Az (decide (Z>=a)) (Bu [.agg [(0:Int),.own 1 0 [],.own 1 0 []],(9:Int)]) (Dj (call 60 [Af X,Z,Af W]) fun a b=>J0 1 a fun a c=>Ar b<|Ji fu call X Y Z W fu X Y Z 0 0 0 0 ([]) ([]) Z a 0 c ([])))):=by show _=_;kernel_rfl
def Gk(Z Y:Int)(X W:Int)(V:Nat)(U:Ab)(T:Nat)(S:Ab)(Q:Nat)(P O:Int)(N M L:Int)(K:Nat)(J:Ab)(I:Nat)(H:Ab):Option Dt:=K0 fu call 41 Tryz.f41 [.agg [Z,Af Y],Af X,.agg [W,Am 1 V U,Am 1 T S]] [.r,.r,.r,.r,.l,.r,.l] Q ⟨lk [(3,.ptr 3 0),(5,.ptr 5 0),(7,Af P),(9,O)],B3 [(3,.st [N,Af M]),(5,.st [L,Am 1 K J,Am 1 I H])]⟩
theorem Ob(S Q:Int)(P O:Int)(N:Nat)(M:Ab)(L:Nat)(K:Ab)(J:Nat)(W Z:Int)(V U T:Int)(I:Nat)(H:Ab)(Y:Nat)(X:Ab):Gk fu call S Q P O N M L K (J+1) W Z V U T I H Y X=(Az (decide (Z<V)) (Aa (wrap .u64 Z) fun a=>As (decide (0<=a))<|Aa (Fp .i64 T a) fun a=>Aa (Oy .i64 a 1) fun a=>Az (a==0) (Aa (wrap .i64 (Z+1)) fun a=>As (decide (0<=Z)&&decide (Z<(↑Y:Int)))<|Be .u64 (X.getD (Z.toNat*1) .top) fun b=>Lj .u64 (call 78 [a,Af W,Af b]) fun a=>Aa (wrap .i64 (Z+1)) fun b=>Gk fu call S Q P O N M L K J a b V U T I H Y X) (Aa (wrap .i64 (Z+1)) fun a=>As (decide (0<=Z)&&decide (Z<(↑Y:Int)))<|Be .u64 (X.getD (Z.toNat*1) .top) fun b=>Lj .u64 (call 78 [a,Af b,Af W]) fun a=>Aa (wrap .i64 (Z+1)) fun b=>Gk fu call S Q P O N M L K J a b V U T I H Y X)) (Az (W != U) (Bu [(15:Int)]) (Bu [(0:Int)]))):=by kernel_rfl
theorem DE(Z U:Int)(T Y:Int)(X:Nat)(W:Ab)(V:Nat)(S:Ab):Fm C0 fu d 41 [.agg [Z,Af U],Af T,.agg [Y,Am 1 X W,Am 1 V S]] fun call=>Dj (call 54 [Z]) fun a b=>Cg a fun a=>Ar b<|Az (!a) (Bu [(9:Int)]) (Az (decide (Y<0)) (Bu [(9:Int)]) (Aa (wrap .u64 Z) fun a=>As (decide (0<=a))<|Aa (Hq .i64 1 a) fun a=>Az (decide (Y>=a)) (Bu [(9:Int)]) (Az ((↑X:Int) != 18) (Bu [(4:Int)]) (Az ((↑V:Int) != Z) (Bu [(4:Int)]) (Dj (call 77 [Y,Af T,Am 1 X W]) fun a b=>Be .u64 a fun a=>Dc .i64 b fun b=>Gk fu call Z U T Y X W V S fu a 0 Z U Y X W V S))))):=by show _=_;kernel_rfl
theorem Yb(Z Y:Int):Fm C0 fu d 96 [.agg [Z,Af Y]] fun call=>Dj (call 54 [Z]) fun a b=>Cg a fun a=>Ar b<|Az (!a) (Bu [.own 1 0 [],(9:Int)]) (Aa (wrap .u8 Z) fun a=>Dj (call 79 [Am 1 1 [Af Y]]) fun b c=>J0 1 b fun b e=>Ar c<|As (decide (0+b*1<=e.length))<|As (decide (List.length (List.take (b*1) (e.drop 0))=b*1)&&decide ((1+b)*1<=1099511627776)&&decide (1+b<=1099511627776))<|Aa (1+b) fun c=>Aa ([.sc (.int .u8 a)]++List.take (b*1) (e.drop 0)) fun a=>As (decide (c*1<=a.length))<|Bu [.own 1 c (a.take (c*1)),(0:Int)]):=by show _=_;kernel_rfl
theorem Yv(Z:Nat)(Y:Ab):Fm C0 fu d 119 [Am 1 Z Y] fun call=>Az ((↑Z:Int) != 9) (Bu [.agg [(0:Int),Af 0],(2:Int)]) (As (decide (0<(↑Z:Int)))<|Be .u8 (Y.getD 0 .top) fun a=>Aa (wrap .i64 a) fun a=>Dj (call 54 [a]) fun a b=>Cg a fun a=>Ar b<|Az (!a) (Bu [.agg [(0:Int),Af 0],(2:Int)]) (As (decide (0<(↑Z:Int)))<|Be .u8 (Y.getD 0 .top) fun a=>Aa (wrap .i64 a) fun a=>As (decide (1<=Z)&&decide (Z<=Z))<|Aa (Z-1) fun b=>Aa (List.take (b*1) (Y.drop 1)) fun c=>Lj .u64 (call 120 [Am 1 b c]) fun b=>Bu [.agg [a,Af b],(0:Int)])):=by show _=_;kernel_rfl
theorem R1(Y:Int)(X:Nat)(W:Ab)(Z:Nat)(V:Ab):Fm C0 fu d 42 [.agg [Y,Am 1 X W,Am 1 Z V]] fun call=>Az (decide ((↑Z:Int)>4)) (Bu [.own 1 0 [],(9:Int)]) (Az (decide (Y<0)) (Bu [.own 1 0 [],(9:Int)]) (Aa (wrap .u64 (↑Z:Int)) fun a=>As (decide (0<=a))<|Aa (Hq .i64 1 a) fun a=>Az (decide (Y>=a)) (Bu [.own 1 0 [],(9:Int)]) (Az ((↑X:Int) != 18) (Bu [.own 1 0 [],(4:Int)]) (Aa (wrap .u8 Y) fun a=>Aa (wrap .u8 (↑Z:Int)) fun b=>Dj (call 79 [Am 1 X W]) fun c e=>J0 1 c fun c f=>Ar e<|As (decide (0+c*1<=f.length))<|As (decide (List.length (List.take (c*1) (f.drop 0))=c*1)&&decide ((2+c)*1<=1099511627776)&&decide (2+c<=1099511627776))<|Aa (2+c) fun e=>Aa ([.sc (.int .u8 a),.sc (.int .u8 b)]++List.take (c*1) (f.drop 0)) fun a=>Dj (call 79 [Am 1 Z V]) fun b c=>J0 1 b fun b f=>Ar c<|As (decide (0+b*1<=f.length))<|As (decide (e*1<=a.length)&&decide (List.length (List.take (b*1) (f.drop 0))=b*1)&&decide ((e+b)*1<=1099511627776)&&decide (e+b<=1099511627776))<|Aa (e+b) fun c=>Aa (List.take (e*1) a++List.take (b*1) (f.drop 0)) fun a=>As (decide (c*1<=a.length))<|Bu [.own 1 c (a.take (c*1)),(0:Int)])))):=by show _=_;kernel_rfl
def Jn(Z:Nat)(Y:Ab)(X W:Nat)(V:Ab)(U:Int)(T S:Nat)(Q P:Ab):Option Dt:=K0 fu call 84 Tryz.f84 [Am 1 Z Y] [.r] X ⟨lk [(0,Am 1 W V),(2,.ptr 2 0)],B3 [(2,.st [U,.view 162 1 0 T,.view 242 1 0 S]),(162,.ar false Q),(242,.ar false P)]⟩
def Dy(Z:Nat)(Y:Ab)(X W:Nat)(V:Ab)(U T:Int)(S Q:Nat)(P O:Ab)(N:Int)(M L:Nat)(K J:Ab):Option Dt:=K0 fu call 84 Tryz.f84 [Am 1 Z Y] [.r,.r,.r,.l,.r,.l] X ⟨lk [(0,Am 1 W V),(2,.ptr 2 0),(4,.ptr 4 0),(5,U)],B3 [(2,.st [T,.view 162 1 0 S,.view 242 1 0 Q]),(162,.ar false P),(242,.ar false O),(4,.st [N,.view 164 1 0 M,.view 244 1 0 L]),(164,.ar false K),(244,.ar false J)]⟩
theorem O7(W:Nat)(V:Ab)(Z:Nat)(M6:0<Z)(Y:Nat)(X:Ab)(U:Int)(T S:Nat)(Q P:Ab):Jn fu call W V Z Y X U T S Q P=(As (decide (0<(↑Y:Int)))<|Be .u8 (X.getD 0 .top) fun a=>Aa (wrap .i64 a) fun a=>Dy fu call W V fu Y X 0 U T S Q P a 0 0 ([]) ([])):=by cases Z with|zero=>exact absurd M6 (Nat.lt_irrefl 0)|succ Z=>kernel_rfl
theorem O2(Q:Nat)(P:Ab)(O W:Nat)(V:Ab)(Z N:Int)(M L:Nat)(K J:Ab)(S:Int)(Y X:Nat)(U T:Ab):Dy fu call Q P (O+1) W V Z N M L K J S Y X U T=(As (decide (1<(↑W:Int)))<|Be .u8 (V.getD 1 .top) fun a=>Aa (wrap .i64 a) fun a=>Aa (wrap .i64 (18+a)) fun a=>Az (decide (Z<a)) (Aa (wrap .i64 (8*Z)) fun a=>Aa (wrap .i64 (2+a)) fun a=>Aa (wrap .i64 (8*Z)) fun b=>Aa (wrap .i64 (10+b)) fun b=>As (decide (0<=a))<|As (decide (0<=b))<|As (decide (a.toNat<=b.toNat)&&decide (b.toNat<=W))<|Aa (b.toNat-a.toNat) fun b=>Aa (List.take (b*1) (V.drop (a.toNat*1))) fun a=>Lj .u64 (call 120 [Am 1 b a]) fun a=>Az (decide (Z<18)) (On Y 1 8 U [Af a] fun a b=>Aa (wrap .i64 (Z+1)) fun c=>Dy fu call Q P O W V c N M L K J S a X b T) (On X 1 8 T [Af a] fun a b=>Aa (wrap .i64 (Z+1)) fun c=>Dy fu call Q P O W V c N M L K J S Y a U b)) (As (decide (Y*1<=U.length))<|As (decide (X*1<=T.length))<|Bu [.agg [S,.own 1 Y (U.take (Y*1)),.own 1 X (T.take (X*1))],(0:Int)])):=by kernel_rfl
theorem Si(Z:Nat)(Y:Ab):Fm C0 fu d 84 [Am 1 Z Y] fun call=>Az (decide ((↑Z:Int)<2)) (Bu [.agg [(0:Int),.own 1 0 [],.own 1 0 []],(2:Int)]) (As (decide (1<(↑Z:Int)))<|Be .u8 (Y.getD 1 .top) fun a=>Aa (wrap .i64 a) fun a=>Az (decide (a>4)) (Bu [.agg [(0:Int),.own 1 0 [],.own 1 0 []],(2:Int)]) (As (decide (0<(↑Z:Int)))<|Be .u8 (Y.getD 0 .top) fun a=>Aa (wrap .i64 a) fun a=>As (decide (1<(↑Z:Int)))<|Be .u8 (Y.getD 1 .top) fun b=>Aa (wrap .u64 b) fun b=>As (decide (0<=b))<|Aa (Hq .i64 1 b) fun b=>Az (decide (a>=b)) (Bu [.agg [(0:Int),.own 1 0 [],.own 1 0 []],(2:Int)]) (As (decide (1<(↑Z:Int)))<|Be .u8 (Y.getD 1 .top) fun a=>Aa (wrap .i64 a) fun a=>Aa (wrap .i64 (18+a)) fun a=>Aa (wrap .i64 (8*a)) fun a=>Aa (wrap .i64 (2+a)) fun a=>Az ((↑Z:Int) != a) (Bu [.agg [(0:Int),.own 1 0 [],.own 1 0 []],(2:Int)]) (Jn fu call Z Y fu Z Y 0 0 0 ([]) ([]))))):=by show _=_;kernel_rfl
def Gz(Z:Nat)(Y:Ab)(X:Nat)(W:Ab)(V U:Nat)(T:Ab)(S:Nat)(Q:Ab)(P:Int):Option Dt:=K0 fu call 74 Tryz.f74 [Am 1 Z Y,Am 1 X W] [.r,.r,.l,.r,.l] V ⟨lk [(0,Am 1 U T),(1,Am 1 S Q),(5,P)],B3 []⟩
theorem L7(U:Nat)(T:Ab)(S:Nat)(Q:Ab)(P Y:Nat)(X:Ab)(W:Nat)(V:Ab)(Z:Int):Gz fu call U T S Q (P+1) Y X W V Z=(Az (decide (Z<(↑Y:Int))) (As (decide (0<=Z)&&decide (Z<(↑Y:Int)))<|Be .u64 (X.getD (Z.toNat*1) .top) fun a=>As (decide (0<=Z)&&decide (Z<(↑W:Int)))<|Be .u64 (V.getD (Z.toNat*1) .top) fun b=>Az (a != b) (Bu [.sc (.bool false)]) (Aa (wrap .i64 (Z+1)) fun a=>Gz fu call U T S Q P Y X W V a)) (Bu [.sc (.bool true)])):=by kernel_rfl
theorem Ym(Z:Nat)(X:Ab)(Y:Nat)(W:Ab):Fm C0 fu d 74 [Am 1 Z X,Am 1 Y W] fun call=>Az ((↑Z:Int) != (↑Y:Int)) (Bu [.sc (.bool false)]) (Gz fu call Z X Y W fu Z X Y W 0):=by show _=_;kernel_rfl
theorem T7(Z:Int)(Y:Nat)(X:Ab)(W:Nat)(V:Ab)(U:Int)(T:Nat)(S:Ab)(Q:Nat)(P:Ab):Fm C0 fu d 39 [.agg [Z,Am 1 Y X,Am 1 W V],.agg [U,Am 1 T S,Am 1 Q P]] fun call=>Az (Z==U) (Dj (call 74 [Am 1 Y X,Am 1 T S]) fun a b=>Cg a fun a=>Ar b<|Az a (Dj (call 74 [Am 1 W V,Am 1 Q P]) fun a b=>Cg a fun a=>Ar b<|Bu [.sc (.bool a)]) (Bu [.sc (.bool false)])) (Bu [.sc (.bool false)]):=by show _=_;kernel_rfl
end
theorem Np{α:Type}(f:Nat->α)(i:Nat):(List.range (i+1)).map f=(List.range i).map f++[f i]:=by rw[List.range_succ,List.map_append];rfl
section
variable {fu d:Nat}
theorem Uu(h:Int):Aq C0 prog fu (d+1) 54 [Au h]=some ⟨[.sc (.bool (!Dz h))],[]⟩:=by
 rw[EP];unfold Dz;by_cases h0:h<0
 ·simp(disch:=omega)only[Bz,Bx,h0,decide_true,Bool.true_or,Cp]
 ·have e:decide (h<=4) = !decide (h>4):=by
   by_cases c:h<=4
   ·have:¬h>4:=by omega
    simp[c,this]
   ·have:h>4:=by omega
    simp[c,this]
  simp(disch:=omega)only[Bz,Bx,h0,decide_false,Bool.false_or,e]
theorem Akb{ws:B8}(hl:ws.length<=100)(Bo:1000<=fu)(dom:Int):Aq C0 prog fu (d+4) 33 [Au dom,.lst false 1 (A9 ws).length (Ac .u8 (A9 ws))]=some ⟨[Af (Rj dom (A9 ws))],[]⟩:=
 WS (xs:=M9) (Zr ws) (by rw[Do];omega) (by omega) (by rw[Do];omega) dom
theorem QZ{call:Bq}{a0 m:Int}:∀(k nn:Nat)(i:Nat),i+k=16->k<nn ->
  I5 fu call a0 nn m ((List.range i).map (Je m)).length (Nq m i) (15-(i:Int)) (Ac .i64 ((List.range i).map (Je m)))=some ⟨[.own 1 18 (Ac .i64 (YK m))],[]⟩
 |_,0,_,_,h=>by omega
 |0,nn+1,i,hi,hn=>by
  have e:i=16:=by omega
  subst e;have hs:=Ok m 16
  have wq:wrap .i64 (Int.tdiv (Nq m 16) 16)=Nq m 16 / 16:=by
   rw[Int.tdiv_eq_ediv_of_nonneg (by omega),Ag (by omega) (by omega)]
  have wm:Int.tmod (Nq m 16) 16=Nq m 16 % 16:=Int.tmod_eq_emod_of_nonneg (by omega)
  have e2:Ac .i64 ((List.range 16).map (Je m))++[PV.sc (.int .i64 (Nq m 16 / 16)),PV.sc (.int .i64 (Nq m 16 % 16))]=Ac .i64 (YK m):=by
   unfold YK;rw[Ac,Ac,List.flatMap_append];rfl
  have L:(Ac .i64 (YK m)).length=18:=by rw[Ap,Al7]
  have tk:List.take 18 (Ac .i64 (YK m))=Ac .i64 (YK m):=Hg (by omega);have l16:((List.range 16).map (Je m)).length=16:=by simp
  have L16:=Ap .i64 ((List.range 16).map (Je m));have t16:=Mi .i64 ((List.range 16).map (Je m));rw[l16] at L16 t16 ⊢;rw[Pt,D6 _ _ _ (by omega)];simp(disch:=omega)only[Bz,Bx,wq,wm,De,t16,e2,L16,Nat.reduceAdd,L,tk]
 |k+1,nn+1,i,hi,hn=>by
  have ih:=QZ (call:=call) (a0:=a0) (m:=m) k nn (i+1) (by omega) (by omega);have hb:=Xb m i;have hs:=Ok m i;have w1:wrap .i64 (4*(15-(i:Int)))=60-4*(i:Int):=by rw[Ag (by omega) (by omega)];omega
  have w2:wrap .u64 (60-4*(i:Int))=60-4*(i:Int):=Cd (by omega) (by omega);have hd:wrap .i64 (Oy .u64 (Fp .u64 m (60-4*(i:Int))) 15)=Je m i:=rfl;have w15:wrap .i64 (15-Je m i)=15-Je m i:=Ag (by omega) (by omega);have ws:wrap .i64 (Nq m i+(15-Je m i))=Nq m (i+1):=by rw[Ag (by omega) (by omega)];rfl
  have wi:wrap .i64 (15-(i:Int)-1)=15-((i+1:Nat):Int):=by rw[Ag (by omega) (by omega)];omega
  have L:=Ap .i64 ((List.range i).map (Je m));have l16:((List.range i).map (Je m)).length=i:=by simp
  rw[Np,F9,List.length_singleton,<-G7] at ih;rw[Pt];simp(disch:=omega)only[Bz,Bx,w1,w2,hd,w15,ws,wi,De,Mi,L];exact ih
theorem Abb(Bo:1000<=fu)(m:Int):Aq C0 prog fu (d+1) 100 [Af m]=some ⟨[.own 1 18 (Ac .i64 (YK m))],[]⟩:=by rw[GH];exact QZ (fu:=fu) (a0:=m) (m:=m) 16 fu 0 (by omega) (by omega)
theorem Aa8{leaf chain:Int}{a0 a1 a2 a3 a4:Int}(Bo:1000<=fu){t:Int}(ht:t<=15):∀(k nn:Nat)(p x:Int),(k:Int)=t-p->0<=p->k<nn ->
  J7 fu (Aq C0 prog fu (d+4)) a0 a1 a2 a3 a4 nn leaf chain t x p=some ⟨[Af (Wj leaf chain k p x)],[]⟩
 |_,0,_,_,_,_,h=>by omega
 |0,nn+1,p,x,hk,hp,hn=>by
  rw[Rs];simp only[Ke];rw[A4 (by omega),D6 _ _ _ (by omega)];rfl
 |k+1,nn+1,p,x,hk,hp,hn=>by
  have w:wrap .i64 (p+1)=p+1:=Ag (by omega) (by omega);have wd:Aq C0 prog fu (d+4) 79 [.lst false 1 4 [Af (wrap .u64 leaf),Af (wrap .u64 chain),Af (wrap .u64 p),Af x]]=_:=Ra (xs:=M9) (ws:=[wrap .u64 leaf,wrap .u64 chain,wrap .u64 p,x]) (by simp) (by omega) (by simp;omega)
  have hs:=Akb (fu:=fu) (d:=d) (ws:=[wrap .u64 leaf,wrap .u64 chain,wrap .u64 p,x]) (by simp) Bo 1;have ih:=Aa8 (leaf:=leaf) (chain:=chain) (a0:=a0) (a1:=a1) (a2:=a2) (a3:=a3) (a4:=a4) Bo ht k nn (p+1) (Rj 1 (A9 [wrap .u64 leaf,wrap .u64 chain,wrap .u64 p,x])) (by omega) (by omega) (by omega);have L:=Ap .u8 (A9 [wrap .u64 leaf,wrap .u64 chain,wrap .u64 p,x]);have eR:Wj leaf chain (k+1) p x=Wj leaf chain k (p+1) (Rj 1 (A9 [wrap .u64 leaf,wrap .u64 chain,wrap .u64 p,x])):=rfl;rw[eR];generalize A9 [wrap .u64 leaf,wrap .u64 chain,wrap .u64 p,x]=W at wd hs ih L ⊢;have e15:(if (15:Int)<t then 15 else t)=t:=A4 (by omega);rw[Rs]
  simp(disch:=omega)only[Bz,Bx,e15,wd,De,Ck,Er,Mi,L,hs,w];exact ih
theorem Aen{leaf chain:Int}(Bo:1000<=fu)(k:Nat)(f t x:Int)(hk:(k:Int)=t-f)(h0:0<=f)(h1:t<=15):Aq C0 prog fu (d+5) 101 [Au leaf,Au chain,Au f,Au t,Af x]=some ⟨[Af (Wj leaf chain k f x)],[]⟩:=by rw[MG];simp only[Ke];rw[A4 (by omega)];exact Aa8 Bo h1 k fu f x hk h0 (by omega)
theorem VB(Bo:1000<=fu)(seed leaf chain:Int):Aq C0 prog fu (d+5) 102 [Af seed,Au leaf,Au chain]=some ⟨[Af (PE seed leaf chain)],[]⟩:=by
 have wd:Aq C0 prog fu (d+4) 79 [.lst false 1 2 [Af (wrap .u64 leaf),Af (wrap .u64 chain)]]=_:=Ra (xs:=M9) (ws:=[wrap .u64 leaf,wrap .u64 chain]) (by simp) (by omega) (by simp;omega)
 have hs:=Azk (xs:=M9) (fu:=fu) (d:=d) (Zr [wrap .u64 leaf,wrap .u64 chain]) (by rw[Do];simp) (by omega) (by rw[Do];simp;omega) seed 1
 have L:=Ap .u8 (A9 [wrap .u64 leaf,wrap .u64 chain]);rw[DM];unfold PE;generalize A9 [wrap .u64 leaf,wrap .u64 chain]=W at wd hs L ⊢;simp(disch:=omega)only[Bz,Bx,wd,De,Ck,Er,Mi,L,hs]
theorem A4w(Bo:1000<=fu)(w:Int):Aq C0 prog fu (d+1) 79 [.lst false 1 1 [Af w]]=some ⟨[.own 1 8 (Ac .u8 (Fo w))],[]⟩:=by
 have:=Ra (xs:=M9) (fu:=fu) (d:=d) (ws:=[w]) (by simp) (by omega) (by simp;omega)
 simp only[A9,J1,List.flatMap_nil,List.append_nil,He,Ud,Hn] at this;exact this
theorem Ahz(Bo:1000<=fu)(leaf:Int){E:B8}(hE:E.length<=50):Aq C0 prog fu (d+5) 116 [Au leaf,.lst false 1 E.length (Ac .u64 E)]=some ⟨[Af (HH leaf E)],[]⟩:=by
 have w1:=A4w (fu:=fu) (d:=d+3) Bo (wrap .u64 leaf);have w2:=Ra (xs:=M9) (fu:=fu) (d:=d+3) (ws:=E) (by omega) (by omega) (by omega);have hs:=Akb (fu:=fu) (d:=d) (ws:=wrap .u64 leaf::E) (by simp;omega) Bo 2
 have eW:A9 (wrap .u64 leaf::E)=Fo (wrap .u64 leaf)++A9 E:=rfl
 have eC:Ac .u8 (Fo (wrap .u64 leaf))++Ac .u8 (A9 E)=Ac .u8 (A9 (wrap .u64 leaf::E)):=by
  rw[eW,Ac,Ac,Ac,List.flatMap_append]
 have l0:(Fo (wrap .u64 leaf)).length=8:=Hn _;have l1:=Do E;have l2:(A9 (wrap .u64 leaf::E)).length=8+(A9 E).length:=by rw[eW,F9,l0]
 have L0:=Ap .u8 (Fo (wrap .u64 leaf));rw[l0] at L0;have L1:=Ap .u8 (A9 E);have L2:=Ap .u8 (A9 (wrap .u64 leaf::E));have t8:List.take 8 (Ac .u8 (Fo (wrap .u64 leaf)))=Ac .u8 (Fo (wrap .u64 leaf)):=Hg (by omega);have tW:List.take (8+(A9 E).length) (Ac .u8 (A9 (wrap .u64 leaf::E)))=Ac .u8 (A9 (wrap .u64 leaf::E)):=Hg (by omega);rw[l2] at hs;rw[JN];simp(disch:=omega)only[Bz,Bx,w1,w2,De,Ck,Er,Mi,t8,L0,L1,eC,L2,tW,hs];rfl
theorem TZ{a0 a1 seed leaf:Int}(Bo:1000<=fu):∀(k nn i:Nat),i+k=18->k<nn ->
  Jj fu (Aq C0 prog fu (d+5)) a0 a1 nn seed leaf ((List.range i).map (FS seed leaf)).length i (Ac .u64 ((List.range i).map (FS seed leaf)))=some ⟨[Af (Lm seed leaf)],[]⟩
 |_,0,_,_,h=>by omega
 |0,nn+1,i,hi,hn=>by
  have e:i=18:=by omega
  subst e;have l18:((List.range 18).map (FS seed leaf)).length=18:=by simp
  have en:=Ahz (fu:=fu) (d:=d) Bo leaf (E:=(List.range 18).map (FS seed leaf)) (by omega);have L:=Ap .u64 ((List.range 18).map (FS seed leaf));rw[Qk,D6 _ _ _ (by omega)];simp(disch:=omega)only[Bz,Bx,De,Ck,Er,Mi,L,en];rfl
 |k+1,nn+1,i,hi,hn=>by
  have ih:=TZ (a0:=a0) (a1:=a1) (seed:=seed) (leaf:=leaf) Bo k nn (i+1) (by omega) (by omega);have sc:=VB (fu:=fu) (d:=d) Bo seed leaf i;have rn:=Aen (fu:=fu) (d:=d) (leaf:=leaf) (chain:=i) Bo 15 0 15 (PE seed leaf i) (by omega) (by omega) (by omega);have w:wrap .i64 ((i:Int)+1)=((i+1:Nat):Int):=by rw[Ag (by omega) (by omega)];omega
  have L:=Ap .u64 ((List.range i).map (FS seed leaf));have li:((List.range i).map (FS seed leaf)).length=i:=by simp
  rw[Np,F9,List.length_singleton,<-G7] at ih;rw[Qk];simp(disch:=omega)only[Bz,Bx,sc,rn,De,Mi,L,w];exact ih
theorem As0(Bo:1000<=fu)(seed leaf:Int):Aq C0 prog fu (d+6) 94 [Af seed,Au leaf]=some ⟨[Af (Lm seed leaf)],[]⟩:=by rw[JG];exact TZ (fu:=fu) (d:=d) Bo 18 fu 0 (by omega) (by omega)
theorem A01(m:Int){i:Nat}(h:i<18):(YK m)[i]?=some (dg m i):=by
 unfold dg;rw[List.getD_eq_getElem?_getD,List.getElem?_eq_getElem (by rw[Al7];omega)]
 rfl
theorem DX{a0 a1 a2 seed leaf m:Int}(Bo:1000<=fu):∀(k nn i:Nat),i+k=18->k<nn ->
  Hj fu (Aq C0 prog fu (d+5)) a0 a1 a2 nn seed leaf 18 ((List.range i).map (DI seed leaf m)).length i (Ac .i64 (YK m)) (Ac .u64 ((List.range i).map (DI seed leaf m)))=some ⟨[.own 1 18 (Ac .u64 (Ng seed leaf m))],[]⟩
 |_,0,_,_,h=>by omega
 |0,nn+1,i,hi,hn=>by
  have e:i=18:=by omega
  subst e;have l18:((List.range 18).map (DI seed leaf m)).length=18:=by simp
  have L:=Ap .u64 ((List.range 18).map (DI seed leaf m));rw[Mx,D6 _ _ _ (by omega)];simp(disch:=omega)only[Bz,Bx,De,Mi,L];rw[l18];rfl
 |k+1,nn+1,i,hi,hn=>by
  have ih:=DX (a0:=a0) (a1:=a1) (a2:=a2) (seed:=seed) (leaf:=leaf) (m:=m) Bo k nn (i+1) (by omega) (by omega);have hb:=Yj m i;have sc:=VB (fu:=fu) (d:=d) Bo seed leaf i;have rn:=Aen (fu:=fu) (d:=d) (leaf:=leaf) (chain:=i) Bo (dg m i).toNat 0 (dg m i) (PE seed leaf i) (by omega) (by omega) (by omega);have w:wrap .i64 ((i:Int)+1)=((i+1:Nat):Int):=by rw[Ag (by omega) (by omega)];omega
  have L:=Ap .u64 ((List.range i).map (DI seed leaf m));have li:((List.range i).map (DI seed leaf m)).length=i:=by simp
  rw[Np,F9,List.length_singleton,<-G7] at ih;rw[Mx];simp(disch:=omega)only[Bz,Bx,H6,De,Ck,Ss (A01 m (show i<18 by omega)),sc,rn,Mi,L,w];exact ih
theorem Adh(Bo:1000<=fu)(seed leaf m:Int):Aq C0 prog fu (d+6) 60 [Af seed,Au leaf,Af m]=some ⟨[.own 1 18 (Ac .u64 (Ng seed leaf m))],[]⟩:=by rw[Z4];have sp:=Abb (fu:=fu) (d:=d+4) Bo m;simp only[Bz,Bx,sp];exact DX (fu:=fu) (d:=d) Bo 18 fu 0 (by omega) (by omega)
theorem HM{a0 a1:Int}{n:Nat}{c:Ab}{leaf m:Int}{s:B8}(hs:s.length=18)(Bo:1000<=fu):∀(k nn i:Nat),i+k=18->k<nn ->
  Hw fu (Aq C0 prog fu (d+5)) a0 a1 n c nn leaf s.length (Ac .u64 s) 18 ((List.range i).map (GR leaf m s)).length i (Ac .i64 (YK m)) (Ac .u64 ((List.range i).map (GR leaf m s)))=some ⟨[Af (Acl leaf m s),Au 0],[]⟩
 |_,0,_,_,h=>by omega
 |0,nn+1,i,hi,hn=>by
  have e:i=18:=by omega
  subst e;have l18:((List.range 18).map (GR leaf m s)).length=18:=by simp
  have en:=Ahz (fu:=fu) (d:=d) Bo leaf (E:=(List.range 18).map (GR leaf m s)) (by omega);have L:=Ap .u64 ((List.range 18).map (GR leaf m s));rw[Nc,D6 _ _ _ (by omega)];simp(disch:=omega)only[Bz,Bx,De,Ck,Er,Mi,L,en];rfl
 |k+1,nn+1,i,hi,hn=>by
  have ih:=HM (a0:=a0) (a1:=a1) (n:=n) (c:=c) (leaf:=leaf) (m:=m) hs Bo k nn (i+1) (by omega) (by omega);obtain⟨x,hx⟩:∃x,s[i]?=some x:=⟨_,List.getElem?_eq_getElem (by omega)⟩
  have hb:=Yj m i;have rn:=Aen (fu:=fu) (d:=d) (leaf:=leaf) (chain:=i) Bo (15-dg m i).toNat (dg m i) 15 x (by omega) (by omega) (by omega)
  have ev:Wj leaf i (15-dg m i).toNat (dg m i) x=GR leaf m s i:=by
   unfold GR;rw[List.getD_eq_getElem?_getD,hx];rfl
  rw[ev] at rn;have w:wrap .i64 ((i:Int)+1)=((i+1:Nat):Int):=by rw[Ag (by omega) (by omega)];omega
  have L:=Ap .u64 ((List.range i).map (GR leaf m s));have li:((List.range i).map (GR leaf m s)).length=i:=by simp
  rw[Np,F9,List.length_singleton,<-G7] at ih;rw[Nc];simp(disch:=omega)only[Bz,Bx,H6,De,Ck,Ss (A01 m (show i<18 by omega)),Ss hx,rn,Mi,L,w];exact ih
theorem Ag2(Bo:1000<=fu)(leaf m:Int)(s:B8):Aq C0 prog fu (d+6) 77 [Au leaf,Af m,.lst false 1 s.length (Ac .u64 s)]=some ⟨(if s.length=18 then [Af (Acl leaf m s),Au 0] else [Af 0,Au 4]),[]⟩:=by
 refine (CH fu (d+5) leaf m s.length (Ac .u64 s)).trans ?_;by_cases h:s.length=18
 ·have sp:=Abb (fu:=fu) (d:=d+4) Bo m;have lp:=HM (fu:=fu) (d:=d) (a0:=leaf) (a1:=m) (n:=s.length) (c:=Ac .u64 s) (leaf:=leaf) (m:=m) h Bo 18 fu 0 (by omega) (by omega);simp only[Eb];rw[Bn h,Bn (by omega)];simp only[Bz,Bx,sp];exact lp
 ·simp only[Eb];rw[A4 h,A4 (by omega)]
theorem JF(Bo:1000<=fu)(level a b:Int):Aq C0 prog fu (d+5) 78 [Au level,Af a,Af b]=some ⟨[Af (Rf level a b)],[]⟩:=by
 have wd:Aq C0 prog fu (d+4) 79 [.lst false 1 3 [Af (wrap .u64 level),Af a,Af b]]=_:=Ra (xs:=M9) (ws:=[wrap .u64 level,a,b]) (by simp) (by omega) (by simp;omega)
 have hs:=Akb (fu:=fu) (d:=d) (ws:=[wrap .u64 level,a,b]) (by simp) Bo 3;have L:=Ap .u8 (A9 [wrap .u64 level,a,b]);rw[EM];unfold Rf;generalize A9 [wrap .u64 level,a,b]=W at wd hs L ⊢;simp(disch:=omega)only[Bz,Bx,wd,De,Ck,Er,Mi,L,hs]
theorem LJ(Bo:1000<=fu)(seed:Int):∀(l:Nat)(i B:Int),0<=i->i<=B->(2 ^ l:Nat)*(B+1)<=1000000000->l<=20->Aq C0 prog fu (d+7+l) 55 [Af seed,Au l,Au i]=some ⟨[Af (Cw seed l i)],[]⟩
 |0,i,B,h0,h1,h2,hl=>by
  have lf:=As0 (fu:=fu) (d:=d) Bo seed i;refine (Vf fu (d+6) seed 0 i).trans ?_;simp only[Bz,Bx,Gy,if_true,lf];rfl
 |l+1,i,B,h0,h1,h2,hl=>by
  have hq:(2 ^ (l+1):Nat)=2 ^ l*2:=Nat.pow_succ _ _;have Aza:0<2 ^ l:=Nat.pow_pos (by omega);rw[hq] at h2;generalize hQ:2 ^ l=q at h2 Aza
  have hb:((q*2:Nat):Int)*(B+1)=(q:Int)*(2*B+1+1):=by
   rw[Int.natCast_mul,Int.mul_assoc]
   congr 1
   omega
  rw[hb] at h2
  have hBq:2*B+1+1<=(q:Int)*(2*B+1+1):=by
   have:=Int.mul_le_mul_of_nonneg_right (show (1:Int)<=q by omega) (show (0:Int)<=2*B+1+1 by omega);omega
  have n1:=LJ Bo seed l (2*i) (2*B+1) (by omega) (by omega) (by rw[hQ];exact h2) (by omega)
  have n2:=LJ Bo seed l (2*i+1) (2*B+1) (by omega) (by omega) (by rw[hQ];exact h2) (by omega)
  have pr:=JF (fu:=fu) (d:=d+2+l) Bo ((l+1:Nat):Int) (Cw seed l (2*i)) (Cw seed l (2*i+1));rw[show d+2+l+5=d+7+l by omega] at pr;have w1:wrap .i64 (((l+1:Nat):Int)-1)=(l:Int):=by rw[Ag (by omega) (by omega)];omega
  have w2:wrap .i64 (2*i)=2*i:=Ag (by omega) (by omega);have w3:wrap .i64 (2*i+1)=2*i+1:=Ag (by omega) (by omega);have ne:¬(((l+1:Nat):Int)=0):=by omega
  refine (Vf fu (d+7+l) seed ((l+1:Nat):Int) i).trans ?_;simp only[Bz,Bx,Gy,ne,if_false,w1,w2,w3,n1,n2,pr];rfl
end
theorem wu{h:Int}(h0:0<=h)(h4:h<=4):wrap .u64 h=h:=Cd (by omega) (by omega)
theorem Aku{leaf h:Int}(h0:0<=h)(h4:h<=4)(ho:Ip leaf h=false):0<=leaf/\leaf<2 ^ h.toNat:=by
 unfold Ip at ho;simp only[Bool.or_eq_false_iff,GK] at ho;have:h=0\/h=1\/h=2\/h=3\/h=4:=by omega
 rcases this with rfl|rfl|rfl|rfl|rfl
 ·have e:Hq .i64 1 0=1:=by decide
  rw[e] at ho;exact⟨by omega,by show leaf<1;omega⟩
 ·have e:Hq .i64 1 1=2:=by decide
  rw[e] at ho;exact⟨by omega,by show leaf<2;omega⟩
 ·have e:Hq .i64 1 2=4:=by decide
  rw[e] at ho;exact⟨by omega,by show leaf<4;omega⟩
 ·have e:Hq .i64 1 3=8:=by decide
  rw[e] at ho;exact⟨by omega,by show leaf<8;omega⟩
 ·have e:Hq .i64 1 4=16:=by decide
  rw[e] at ho;exact⟨by omega,by show leaf<16;omega⟩
theorem A2a{h:Int}(h0:0<=h)(h4:h<=4):(2:Int) ^ h.toNat<=16:=by
 have:h=0\/h=1\/h=2\/h=3\/h=4:=by omega
 rcases this with rfl|rfl|rfl|rfl|rfl<;>decide
theorem Aj7{leaf:Int}(h0:0<=leaf)(h1:leaf<16){k:Nat}(hk:k<4):0<=H7 leaf k/\H7 leaf k<=15:=by
 have H:∀n:Fin 16,∀k:Fin 4,0<=H7 (n.val:Int) k.val/\H7 (n.val:Int) k.val<=15:=by decide
 obtain⟨n,rfl⟩:=Int.eq_ofNat_of_zero_le h0;exact H ⟨n,by omega⟩ ⟨k,hk⟩
section
variable {fu d:Nat}
theorem WV(Bo:1000<=fu)(seed h:Int):Aq C0 prog fu (d+12) 30 [Af seed,Au h]=some ⟨[.agg (Wg seed h).cells,Au (if Dz h=true then 9 else 0)],[]⟩:=by
 refine (DW fu (d+11) seed h).trans ?_;have h1:=Uu (fu:=fu) (d:=d+10) h;unfold Wg;cases c1:Dz h
 ·rw[c1] at h1;have hb:=H0 c1
  have nd:=LJ (fu:=fu) (d:=d+4-h.toNat) Bo seed h.toNat 0 0 (by omega) (by omega) (by
   have:h=0\/h=1\/h=2\/h=3\/h=4:=by omega
   rcases this with rfl|rfl|rfl|rfl|rfl<;>decide) (by omega)
  rw[show d+4-h.toNat+7+h.toNat=d+11 by omega,show ((h.toNat:Nat):Int)=h by omega] at nd;simp only[Bz,Bx,h1,nd];rfl
 ·rw[c1] at h1;simp only[Bz,Bx,h1];rfl
theorem UV{a0 a1 a2 a3:Int}{seed leaf h:Int}(hh:0<=h/\h<=4)(hl:0<=leaf/\leaf<16)(Bo:1000<=fu){y4 y9:Int}{y5 y6:Nat}{y7 y8:Ab}{ch:B8}:∀(k nn i:Nat),i+k=h.toNat->k<nn ->
  Ji fu (Aq C0 prog fu (d+11)) a0 a1 a2 a3 nn seed h leaf i y4 y5 y6 y7 y8 leaf ch.length ((List.range i).map fun k=>Cw seed k (H7 leaf k)).length (Ac .u64 ch) (Ac .u64 ((List.range i).map fun k=>Cw seed k (H7 leaf k)))=some ⟨[.agg (Sg.mk leaf ch ((List.range h.toNat).map fun k=>Cw seed k (H7 leaf k))).owned,Au 0],[]⟩
 |_,0,_,_,h=>by omega
 |0,nn+1,i,hi,hn=>by
  have e:i=h.toNat:=by omega
  subst e;have L1:=Ap .u64 ch;have L2:=Ap .u64 ((List.range h.toNat).map fun k=>Cw seed k (H7 leaf k));rw[Qn,D6 _ _ _ (by omega)];simp(disch:=omega)only[Bz,Bx,De,Mi,L1,L2];rfl
 |k+1,nn+1,i,hi,hn=>by
  have ih:=UV (a0:=a0) (a1:=a1) (a2:=a2) (a3:=a3) (seed:=seed) (y4:=y4) (y9:=y9) (y5:=y5) (y6:=y6) (y7:=y7) (y8:=y8) (ch:=ch) hh hl Bo k nn (i+1) (by omega) (by omega);have sb:=Aj7 hl.1 hl.2 (k:=i) (by omega)
  have nd:=LJ (fu:=fu) (d:=d+4-i) Bo seed i (H7 leaf i) 15 sb.1 sb.2 (by
   have:i=0\/i=1\/i=2\/i=3:=by omega
   rcases this with rfl|rfl|rfl|rfl<;>decide) (by omega)
  rw[show d+4-i+7+i=d+11 by omega] at nd;have es:Fj .i64 (Fp .i64 leaf (i:Int)) 1=H7 leaf i:=rfl;have w:wrap .i64 ((i:Int)+1)=((i+1:Nat):Int):=by rw[Ag (by omega) (by omega)];omega
  have wi:wrap .u64 (i:Int)=i:=Cd (by omega) (by omega);have L:=Ap .u64 ((List.range i).map fun k=>Cw seed k (H7 leaf k));have li:((List.range i).map fun k=>Cw seed k (H7 leaf k)).length=i:=by simp
  rw[Np,F9,List.length_singleton,<-G7] at ih;rw[Qn];simp(disch:=omega)only[Bz,Bx,wi,es,nd,De,Mi,L,w];exact ih
theorem Av3(Bo:1000<=fu)(seed h leaf m:Int):Aq C0 prog fu (d+12) 32 [Af seed,Au h,Au leaf,Af m]=some ⟨Acd (KG seed h leaf m),[]⟩:=by
 refine (HQ fu (d+11) seed h leaf m).trans ?_;have h1:=Uu (fu:=fu) (d:=d+10) h;unfold KG;cases c1:Dz h
 ·rw[c1] at h1;have hb:=H0 c1;have w:=wu hb.1 hb.2;rw[A4 (by simp)];by_cases hn:leaf<0
  ·have ho:Ip leaf h=true:=by unfold Ip;simp[hn]
   rw[Bn ho];simp(disch:=omega)only[Bz,Bx,h1];rfl
  ·by_cases hg:leaf>=Hq .i64 1 h
   ·have ho:Ip leaf h=true:=by unfold Ip;simp[hg]
    rw[Bn ho];simp (disch:=first|omega|exact hg) only[Bz,Bx,h1,w];rfl
   ·have ho:Ip leaf h=false:=by unfold Ip;simp only[Bool.or_eq_false_iff,GK];exact⟨hn,hg⟩
    have Cr:=Aku hb.1 hb.2 ho;have h16:=A2a hb.1 hb.2;rw[A4 (by rw[ho];simp)]
    have sl:=Adh (fu:=fu) (d:=d+5) Bo seed leaf m;have lp:=UV (fu:=fu) (d:=d) (a0:=seed) (a1:=h) (a2:=leaf) (a3:=m) (seed:=seed) (leaf:=leaf) (h:=h) hb (by omega) Bo (y4:=0) (y9:=0) (y5:=0) (y6:=0) (y7:=[]) (y8:=[]) (ch:=Ng seed leaf m) h.toNat fu 0 (by omega) (by omega);have l18:(Ng seed leaf m).length=18:=by simp[Ng]
    rw[l18] at lp;simp (disch:=first|omega|exact hg) only[Bz,Bx,h1,w,sl];exact lp
 ·rw[c1] at h1;rw[Bn rfl];simp(disch:=omega)only[Bz,Bx,h1];rfl
theorem KX{a0 a1 a2 a3:Int}{n1 n2 n3:Nat}{c1 c2 c3:Ab}{root leaf:Int}{path:B8}(hp:path.length<=100)(Bo:1000<=fu):∀(r:B8)(i nn:Nat)(x:Int),path.drop i=r->r.length<nn->i<=path.length ->
  Gk fu (Aq C0 prog fu (d+5)) a0 a1 a2 a3 n1 c1 n2 c2 nn x i path.length root leaf n3 c3 path.length (Ac .u64 path)=some ⟨[Au (okE (ED leaf i x r) root)],[]⟩
 |_,_,0,_,_,h,_=>by omega
 |[],i,nn+1,x,h,hn,hi=>by
  have:=drop_nil h;rw[Ob,D6 _ _ _ (by omega),Eb];rw[WB];unfold okE;by_cases e:x=root
  ·rw[Bn e,Bn e]
  ·rw[A4 e,A4 e]
 |s::r,i,nn+1,x,h,hn,hi=>by
  obtain⟨h1,h2,h3⟩:=C8 h;simp only[He] at hn;have w:wrap .i64 ((i:Int)+1)=((i+1:Nat):Int):=by rw[Ag (by omega) (by omega)];omega
  have wi:wrap .u64 (i:Int)=i:=Cd (by omega) (by omega);have ih:=fun x=>KX (a0:=a0) (a1:=a1) (a2:=a2) (a3:=a3) (n1:=n1) (n2:=n2) (n3:=n3) (c1:=c1) (c2:=c2) (c3:=c3) (root:=root) (leaf:=leaf) hp Bo r (i+1) nn x h3 (by omega) (by omega);have p1:=JF (fu:=fu) (d:=d) Bo ((i+1:Nat):Int) x s;have p2:=JF (fu:=fu) (d:=d) Bo ((i+1:Nat):Int) s x;rw[Ob,DC];by_cases hb:Oy .i64 (Fp .i64 leaf i) 1=0
  ·rw[Bn hb,<-ih];simp(disch:=omega)only[Bz,Bx,H6,De,Ss h2,Gy,wi,hb,w,p1,if_true]
  ·rw[A4 hb,<-ih];simp(disch:=omega)only[Bz,Bx,H6,De,Ss h2,Gy,wi,hb,w,p2,if_false]
theorem Ajm(Bo:1000<=fu)(k:Ky)(m:Int)(s:Sg):Aq C0 prog fu (d+7) 41 [.agg k.cells,Af m,.agg s.cells]=some ⟨[Au (Aez k m s)],[]⟩:=by
 refine (DE fu (d+6) k.h k.root m s.leaf s.chains.length (Ac .u64 s.chains) s.path.length (Ac .u64 s.path)).trans ?_;have h1:=Uu (fu:=fu) (d:=d+5) k.h;unfold Aez;cases c1:Dz k.h
 ·rw[c1] at h1;have hb:=H0 c1;have w:=wu hb.1 hb.2;rw[A4 (by simp)];by_cases hn:s.leaf<0
  ·have ho:Ip s.leaf k.h=true:=by unfold Ip;simp[hn]
   rw[Bn ho];simp(disch:=omega)only[Bz,Bx,h1]
  ·by_cases hg:s.leaf>=Hq .i64 1 k.h
   ·have ho:Ip s.leaf k.h=true:=by unfold Ip;simp[hg]
    rw[Bn ho];simp (disch:=first|omega|exact hg) only[Bz,Bx,h1,w]
   ·have ho:Ip s.leaf k.h=false:=by unfold Ip;simp only[Bool.or_eq_false_iff,GK];exact⟨hn,hg⟩
    rw[A4 (by rw[ho];simp)]
    by_cases c3:s.chains.length=18
    ·by_cases c4:(s.path.length:Int)=k.h
     ·have rc:=Ag2 (fu:=fu) (d:=d) Bo s.leaf m s.chains;rw[Bn c3] at rc;have vl:=KX (fu:=fu) (d:=d+1) (a0:=k.h) (a1:=k.root) (a2:=m) (a3:=s.leaf) (n1:=s.chains.length) (n2:=s.path.length) (n3:=s.chains.length) (c1:=Ac .u64 s.chains) (c2:=Ac .u64 s.path) (c3:=Ac .u64 s.chains) (root:=k.root) (leaf:=s.leaf) (path:=s.path) (by omega) Bo s.path 0 fu (Acl s.leaf m s.chains) rfl (by omega) (by omega);rw[A4 (by omega),A4 (by omega),<-vl];simp (disch:=first|omega|exact hg) only[Bz,Bx,h1,w,Eb,rc,c4,if_true];rw[Bn (by omega)];rfl
     ·rw[A4 (by omega),Bn c4];simp (disch:=first|omega|exact hg) only[Bz,Bx,h1,w,Eb,c4,if_false];rw[Bn (by omega)]
    ·rw[Bn c3];simp (disch:=first|omega|exact hg) only[Bz,Bx,h1,w,Eb];rw[A4 (by omega)]
 ·rw[c1] at h1;rw[Bn rfl];simp(disch:=omega)only[Bz,Bx,h1]
theorem Ajx(Bo:1000<=fu)(k:Ky):Aq C0 prog fu (d+2) 96 [.agg k.cells]=some ⟨(if Dz k.h=true then [.own 1 0 [],Au 9] else [.own 1 9 (Ac .u8 (Ir k)),Au 0]),[]⟩:=by
 refine (Yb fu (d+1) k.h k.root).trans ?_;have h1:=Uu (fu:=fu) (d:=d) k.h;have wd:=A4w (fu:=fu) (d:=d) Bo k.root;have L:=Ap .u8 (Fo k.root);rw[Hn] at L;have t8:List.take 8 (Ac .u8 (Fo k.root))=Ac .u8 (Fo k.root):=Hg (by omega)
 have t9:List.take 9 ([PV.sc (.int .u8 (wrap .u8 k.h))]++Ac .u8 (Fo k.root))=Ac .u8 (Ir k):=by
  rw[Hg (by rw[F9,L];simp)]
  rfl
 have L9:([PV.sc (.int .u8 (wrap .u8 k.h))]++Ac .u8 (Fo k.root)).length=9:=by rw[F9,L];rfl
 cases c1:Dz k.h
 ·rw[c1] at h1;rw[A4 (by simp)];simp(disch:=omega)only[Bz,Bx,h1,wd,De,Ck,Er,L,t8,Nat.reduceAdd,L9,t9]
 ·rw[c1] at h1;rw[Bn rfl];simp(disch:=omega)only[Bz,Bx,h1]
theorem VI{call:Bq}{n:Nat}{c:Ab}{l:B8}(hl:l.length=8):∀(r:B8)(j nn:Nat)(x:Int),l.drop j=r->r.length<nn->j<=8 ->
  Jk fu call n c nn l.length (Ac .u8 l) x j=some ⟨[Af (r.foldl Ge x)],[]⟩
 |_,_,0,_,_,h,_=>by omega
 |[],j,nn+1,x,h,hn,hj=>by
  have:=drop_nil h;rw[Qd,D6 _ _ _ (by omega)];rfl
 |b::r,j,nn+1,x,h,hn,hj=>by
  obtain⟨h1,h2,h3⟩:=C8 h;simp only[He] at hn;have w:wrap .i64 ((j:Int)+1)=((j+1:Nat):Int):=by rw[Ag (by omega) (by omega)];omega
  have ih:=VI (call:=call) (n:=n) (c:=c) hl r (j+1) nn (Ge x b) h3 (by omega) (by omega);rw[List.foldl_cons,<-ih,Qd];simp(disch:=omega)only[Bz,Bx,H6,De,Ss h2,w]
theorem Ah4(Bo:1000<=fu){l:B8}(hl:l.length=8):Aq C0 prog fu (d+1) 120 [.lst false 1 8 (Ac .u8 l)]=some ⟨[Af (GO l)],[]⟩:=by rw[HZ];have:=VI (fu:=fu) (call:=Aq C0 prog fu d) (n:=8) (c:=Ac .u8 l) hl l 0 fu 0 rfl (by omega) (by omega);rw[hl] at this;exact this
theorem Alf(Bo:1000<=fu){l:B8}(hb:I7 l):Aq C0 prog fu (d+2) 119 [.lst false 1 l.length (Ac .u8 l)]=some ⟨NX (IE l),[]⟩:=by
 refine (Yv fu (d+1) l.length (Ac .u8 l)).trans ?_;unfold IE;by_cases h9:l.length=9
 ·obtain⟨x,hx⟩:∃x,l[0]?=some x:=⟨_,List.getElem?_eq_getElem (by omega)⟩
  have hxb:=hb x (List.mem_of_getElem? hx);have wx:wrap .i64 x=x:=Ag (by omega) (by omega);have gx:l.getD 0 0=x:=by rw[List.getD_eq_getElem?_getD,hx];rfl
  have h1:=Uu (fu:=fu) (d:=d) x;rw[gx];cases c1:Dz x
  ·rw[c1] at h1;have hdl:(l.drop 1).length=8:=by rw[List.length_drop];omega
   have dw:=Ah4 (fu:=fu) (d:=d) Bo hdl
   have ew:GO (l.drop 1)=My (l.drop 1) 0:=by
    unfold My;rw[Nat.mul_zero,Er,Hg (by omega)]
   rw[ew] at dw;have e8:9-1=8:=rfl;have tk:List.take 8 (Ac .u8 (l.drop 1))=Ac .u8 (l.drop 1):=Hg (by rw[Ap];omega)
   rw[Bn ⟨h9,rfl⟩,h9];simp(disch:=omega)only[Bz,Bx,Eb,Ss hx,wx,h1,De,Ho,e8,tk,dw];rfl
  ·rw[c1] at h1;rw[A4 (by simp),h9];simp(disch:=omega)only[Bz,Bx,Eb,Ss hx,wx,h1];rfl
 ·rw[A4 (by simp[h9])];simp(disch:=omega)only[Eb];rw[A4 (by omega)];rfl
end
section
variable {fu d:Nat}
theorem Arn(n:Nat):Dz (n:Int)=decide ((n:Int)>4):=by
 unfold Dz;have:¬((n:Int)<0):=by omega
 simp[this]
theorem Akc(Bo:1000<=fu)(s:Sg)(hp:s.path.length<=1000000000):Aq C0 prog fu (d+2) 42 [.agg s.cells]=some ⟨(if Dz s.path.length=true then [.own 1 0 [],Au 9] else if Ip s.leaf s.path.length=true then [.own 1 0 [],Au 9] else if s.chains.length≠18 then [.own 1 0 [],Au 4] else [.own 1 (Sm s).length (Ac .u8 (Sm s)),Au 0]),[]⟩:=by
 refine (R1 fu (d+1) s.leaf s.chains.length (Ac .u64 s.chains) s.path.length (Ac .u64 s.path)).trans ?_;rw[Arn];by_cases c1:(s.path.length:Int)>4
 ·rw[Bn (by simp[c1])];simp(disch:=omega)only[Bz,Bx]
 ·rw[A4 (by simp[c1])];have w:=wu (h:=s.path.length) (by omega) (by omega);by_cases hn:s.leaf<0
  ·have ho:Ip s.leaf s.path.length=true:=by unfold Ip;simp[hn]
   rw[Bn ho];simp(disch:=omega)only[Bz,Bx]
  ·by_cases hg:s.leaf>=Hq .i64 1 s.path.length
   ·have ho:Ip s.leaf s.path.length=true:=by unfold Ip;simp[hg]
    rw[Bn ho];simp (disch:=first|omega|exact hg) only[Bz,Bx,w]
   ·have ho:Ip s.leaf s.path.length=false:=by unfold Ip;simp only[Bool.or_eq_false_iff,GK];exact⟨hn,hg⟩
    rw[A4 (by rw[ho];simp)]
    by_cases c3:s.chains.length=18
    ·have w1:=Ra (xs:=M9) (fu:=fu) (d:=d) (ws:=s.chains) (by omega) (by omega) (by omega);have w2:=Ra (xs:=M9) (fu:=fu) (d:=d) (ws:=s.path) (by omega) (by omega) (by omega);have l1:=Do s.chains;have l2:=Do s.path;have L1:=Ap .u8 (A9 s.chains);have L2:=Ap .u8 (A9 s.path)
     have eB:Ac .u8 (Sm s)=[PV.sc (.int .u8 (wrap .u8 s.leaf)),PV.sc (.int .u8 (wrap .u8 s.path.length))]++Ac .u8 (A9 s.chains)++Ac .u8 (A9 s.path):=by
      unfold Sm;simp
     have eL:(Sm s).length=2+(A9 s.chains).length+(A9 s.path).length:=by
      unfold Sm;simp;omega
     rw[A4 (by omega),eB,eL];have t2:List.take (2+(A9 s.chains).length) ([PV.sc (.int .u8 (wrap .u8 s.leaf)),PV.sc (.int .u8 (wrap .u8 s.path.length))]++Ac .u8 (A9 s.chains))=[PV.sc (.int .u8 (wrap .u8 s.leaf)),PV.sc (.int .u8 (wrap .u8 s.path.length))]++Ac .u8 (A9 s.chains):=Hg (by rw[F9,L1];simp)
     have t3:List.take (2+(A9 s.chains).length+(A9 s.path).length) ([PV.sc (.int .u8 (wrap .u8 s.leaf)),PV.sc (.int .u8 (wrap .u8 s.path.length))]++Ac .u8 (A9 s.chains)++Ac .u8 (A9 s.path))=[PV.sc (.int .u8 (wrap .u8 s.leaf)),PV.sc (.int .u8 (wrap .u8 s.path.length))]++Ac .u8 (A9 s.chains)++Ac .u8 (A9 s.path):=Hg (by rw[F9,F9,L1,L2];simp)
     have k2:([PV.sc (.int .u8 (wrap .u8 s.leaf)),PV.sc (.int .u8 (wrap .u8 s.path.length))]++Ac .u8 (A9 s.chains)).length=2+(A9 s.chains).length:=by rw[F9,L1];rfl
     have k3:([PV.sc (.int .u8 (wrap .u8 s.leaf)),PV.sc (.int .u8 (wrap .u8 s.path.length))]++Ac .u8 (A9 s.chains)++Ac .u8 (A9 s.path)).length=2+(A9 s.chains).length+(A9 s.path).length:=by rw[F9,k2,L2]
     simp (disch:=first|omega|exact hg) only[Bz,Bx,w,Eb,w1,w2,De,Ck,Er,L1,L2,Mi,t2,t3,k2,k3];rw[Bn (by omega)]
    ·rw[Bn c3];simp (disch:=first|omega|exact hg) only[Bz,Bx,w,Eb];rw[A4 (by omega)]
def DV(l:B8)(i:Nat):Int:=GO ((l.drop (2+8*i)).take 8)
theorem Ayh{l:B8}{i:Nat}(hi:i<18):My ((l.drop 2).take 144) i=DV l i:=by unfold My DV;rw[List.drop_take,List.take_take,List.drop_drop,Nat.min_eq_left (by omega)]
theorem Awt{l:B8}{i:Nat}:My (l.drop 146) i=DV l (18+i):=by unfold My DV;rw[List.drop_drop,show 146+8*i=2+8*(18+i) by omega]
theorem ME{n:Nat}{c:Ab}{l:B8}(hl:l.length<=1000){y:Int}(hy1:l[1]?=some y)(hy:0<=y/\y<=4)(H2:(l.length:Int)=2+8*(18+y))(Bo:1000<=fu){y3 y4:Int}{n5 n6 n7:Nat}{c5 c6:Ab}{x:Int}:∀(k nn i:Nat),i+k=18+y.toNat->k<nn ->
  Dy fu (Aq C0 prog fu (d+1)) n c nn l.length (Ac .u8 l) i y3 n5 n6 c5 c6 x ((List.range (min i 18)).map (DV l)).length ((List.range (i-18)).map fun j=>DV l (18+j)).length (Ac .u64 ((List.range (min i 18)).map (DV l))) (Ac .u64 ((List.range (i-18)).map fun j=>DV l (18+j)))=some ⟨[.agg (Sg.mk x ((List.range 18).map (DV l)) ((List.range y.toNat).map fun j=>DV l (18+j))).owned,Au 0],[]⟩
 |_,0,_,_,h=>by omega
 |k,nn+1,i,hi,hn=>by
  have wy:wrap .i64 y=y:=Ag (by omega) (by omega);have w18:wrap .i64 (18+y)=18+y:=Ag (by omega) (by omega);have L1:=Ap .u64 ((List.range (min i 18)).map (DV l));have L2:=Ap .u64 ((List.range (i-18)).map fun j=>DV l (18+j));have m1:((List.range (min i 18)).map (DV l)).length=min i 18:=by simp
  have m2:((List.range (i-18)).map fun j=>DV l (18+j)).length=i-18:=by simp
  rw[O2];cases k with
  |zero=>
   have e:i=18+y.toNat:=by omega
   have e1:min i 18=18:=by omega
   have e2:i-18=y.toNat:=by omega
   simp(disch:=omega)only[Bz,Bx,Ss hy1,wy,w18,De,Mi,L1,L2];rw[e1,e2];rfl
  |succ k=>
   have ih:=ME (n:=n) (c:=c) hl hy1 hy H2 Bo (y3:=y3) (y4:=y4) (n5:=n5) (n6:=n6) (n7:=n7) (c5:=c5) (c6:=c6) (x:=x) k nn (i+1) (by omega) (by omega);have w8:wrap .i64 (8*(i:Int))=((8*i:Nat):Int):=by rw[Ag (by omega) (by omega)];omega
   have w2:wrap .i64 (2+((8*i:Nat):Int))=((2+8*i:Nat):Int):=by rw[Ag (by omega) (by omega)];omega
   have w10:wrap .i64 (10+((8*i:Nat):Int))=((10+8*i:Nat):Int):=by rw[Ag (by omega) (by omega)];omega
   have w:wrap .i64 ((i:Int)+1)=((i+1:Nat):Int):=by rw[Ag (by omega) (by omega)];omega
   have e8:10+8*i-(2+8*i)=8:=by omega
   have hdl:((l.drop (2+8*i)).take 8).length=8:=by rw[List.length_take,List.length_drop];omega
   have wd:=Ah4 (fu:=fu) (d:=d) Bo hdl;have ew:GO ((l.drop (2+8*i)).take 8)=DV l i:=rfl;rw[ew] at wd;by_cases c18:i<18
   ·have a1:min (i+1) 18=min i 18+1:=by omega
    have a2:min i 18=i:=by omega
    have a3:i+1-18=i-18:=by omega
    rw[a1,a3,Np,F9,List.length_singleton,<-G7,a2] at ih;rw[a2] at L1 m1 ⊢;simp(disch:=omega)only[Bz,Bx,Ss hy1,wy,w18,w8,w2,w10,H6,De,e8,Ho,Oe,List.take_length,wd,L1,L2,w];exact ih
   ·have a1:min (i+1) 18=min i 18:=by omega
    have a3:i+1-18=(i-18)+1:=by omega
    rw[a1,a3,Np,F9,List.length_singleton,<-G7,show 18+(i-18)=i by omega] at ih;simp(disch:=omega)only[Bz,Bx,Ss hy1,wy,w18,w8,w2,w10,H6,De,e8,Ho,Oe,List.take_length,wd,L1,L2,w];exact ih
theorem TX(Bo:1000<=fu){l:B8}(hb:I7 l):Aq C0 prog fu (d+2) 84 [.lst false 1 l.length (Ac .u8 l)]=some ⟨ER (sgD l),[]⟩:=by
 refine (Si fu (d+1) l.length (Ac .u8 l)).trans ?_;unfold sgD;by_cases h2:2<=l.length
 ·obtain⟨x,hx⟩:∃x,l[0]?=some x:=⟨_,List.getElem?_eq_getElem (by omega)⟩
  obtain⟨y,hy⟩:∃y,l[1]?=some y:=⟨_,List.getElem?_eq_getElem (by omega)⟩
  have hxb:=hb x (List.mem_of_getElem? hx);have hyb:=hb y (List.mem_of_getElem? hy);have wx:wrap .i64 x=x:=Ag (by omega) (by omega);have wy:wrap .i64 y=y:=Ag (by omega) (by omega);have wyu:wrap .u64 y=y:=Cd (by omega) (by omega);have gx:l.getD 0 0=x:=by rw[List.getD_eq_getElem?_getD,hx];rfl
  have gy:l.getD 1 0=y:=by rw[List.getD_eq_getElem?_getD,hy];rfl
  have w1:wrap .i64 (18+y)=18+y:=Ag (by omega) (by omega);have w2:wrap .i64 (8*(18+y))=8*(18+y):=Ag (by omega) (by omega);have w3:wrap .i64 (2+8*(18+y))=2+8*(18+y):=Ag (by omega) (by omega);rw[gx,gy]
  have ehi:Dz y=decide (y>4):=by
   unfold Dz;have:¬(y<0):=by omega
   simp[this]
  have eou:Ip x y=decide (x>=Hq .i64 1 y):=by
   unfold Ip;have:¬(x<0):=by omega
   simp[this]
  rw[ehi,eou];by_cases c1:y>4
  ·rw[A4 (by simp[c1])];simp(disch:=omega)only[Bz,Bx,Ss hx,Ss hy,wx,wy];rfl
  ·by_cases c2:x>=Hq .i64 1 y
   ·rw[A4 (by simp[c2])];simp (disch:=first|omega|exact c2) only[Bz,Bx,Ss hx,Ss hy,wx,wy,wyu];rfl
   ·by_cases c3:(l.length:Int)=2+8*(18+y)
    ·rw[Bn ⟨h2,by simp[c1],by simp[c2],c3⟩];have lp:=ME (fu:=fu) (d:=d) (n:=l.length) (c:=Ac .u8 l) (l:=l) (by omega) hy (by omega) c3 Bo (y3:=0) (y4:=0) (n5:=0) (n6:=0) (n7:=0) (c5:=[]) (c6:=[]) (x:=x) (18+y.toNat) fu 0 (by omega) (by omega);simp (disch:=first|omega|exact c2) only[Bz,Bx,Eb,Ss hx,Ss hy,wx,wy,wyu,w1,w2,w3];rw[Bn c3];simp(disch:=omega)only[Bz,Bx,O7,Ss hx,wx];refine Eq.trans lp ?_
     have e1:Gs ((l.drop 2).take 144)=(List.range 18).map (DV l):=by
      unfold Gs;rw[show ((l.drop 2).take 144).length / 8=18 by rw[List.length_take,List.length_drop];omega]
      exact List.map_congr_left fun i hi=>Ayh (List.mem_range.1 hi)
     have e2:Gs (l.drop 146)=(List.range y.toNat).map fun j=>DV l (18+j):=by
      unfold Gs;rw[show (l.drop 146).length / 8=y.toNat by rw[List.length_drop];omega]
      exact List.map_congr_left fun i hi=>Awt
     rw[e1,e2];rfl
    ·rw[A4 (by simp[c3])];simp (disch:=first|omega|exact c2) only[Bz,Bx,Eb,Ss hx,Ss hy,wx,wy,wyu,w1,w2,w3];rw[A4 c3];rfl
 ·rw[A4 (by simp[h2])];simp(disch:=omega)only[Bz,Bx];rfl
end
theorem At8(seed leaf m:Int):Acl leaf m (Ng seed leaf m)=Lm seed leaf:=by
 unfold Acl Lm TW
 congr 1
 refine List.map_congr_left fun i hi=>?_;have hi:=List.mem_range.1 hi;have hb:=Yj m i;unfold GR FS
 have e:(Ng seed leaf m).getD i 0=DI seed leaf m i:=by
  unfold Ng;rw[List.getD_eq_getElem?_getD,List.getElem?_map,List.getElem?_range hi];rfl
 rw[e];unfold DI;have:=Af5 leaf i (dg m i).toNat (15-dg m i).toNat 0 (PE seed leaf i);rw[show (dg m i).toNat+(15-dg m i).toNat=15 by omega,show (0:Int)+((dg m i).toNat:Nat)=dg m i by omega] at this;exact this.symm
theorem Aqf:∀n:Fin 16,∀k:Fin 4,
  (Oy .i64 (Fp .i64 (n.val:Int) k.val) 1=0/\Fp .i64 (n.val:Int) k.val=2*Fp .i64 (n.val:Int) ((k.val+1:Nat):Int)/\H7 n.val k.val=2*Fp .i64 (n.val:Int) ((k.val+1:Nat):Int)+1) \/
  (Oy .i64 (Fp .i64 (n.val:Int) k.val) 1≠0/\Fp .i64 (n.val:Int) k.val=2*Fp .i64 (n.val:Int) ((k.val+1:Nat):Int)+1/\H7 n.val k.val=2*Fp .i64 (n.val:Int) ((k.val+1:Nat):Int)):=by decide
theorem XV(seed:Int){leaf:Int}(h0:0<=leaf)(h1:leaf<16):∀(k i:Nat),i+k<=4 ->
  ED leaf i (Cw seed i (Fp .i64 leaf i)) ((List.range' i k).map fun j=>Cw seed j (H7 leaf j))=Cw seed (i+k) (Fp .i64 leaf ((i+k:Nat):Int))
 |0,i,_=>rfl
 |k+1,i,h=>by
  rw[List.range'_succ,Sn,DC];obtain⟨n,rfl⟩:=Int.eq_ofNat_of_zero_le h0;have ih:=XV seed h0 h1 k (i+1) (by omega);rw[show i+(k+1)=i+1+k by omega,<-ih]
  congr 1
  rcases Aqf ⟨n,by omega⟩ ⟨i,by omega⟩ with⟨a,b,c⟩|⟨a,b,c⟩
  ·simp only at a b c;rw[Bn a,b,c];rfl
  ·simp only at a b c;rw[A4 a,b,c];rfl
theorem Atd{seed h leaf m:Int}(hh:Dz h=false)(ho:Ip leaf h=false):Aez (Wg seed h) m ⟨leaf,Ng seed leaf m,(List.range h.toNat).map fun k=>Cw seed k (H7 leaf k)⟩=0:=by
 have hb:=H0 hh;have hl:=Aku hb.1 hb.2 ho;have h16:=A2a hb.1 hb.2
 have eP:Wg seed h=⟨h,Cw seed h.toNat 0⟩:=by
  unfold Wg;rw[hh];rfl
 rw[eP];unfold Aez;simp only;rw[A4 (show ¬Dz h=true by rw[hh];simp),A4 (show ¬Ip leaf h=true by rw[ho];simp),A4 (show ¬(Ng seed leaf m).length≠18 by simp[Ng]),A4 (by rw[List.length_map,List.length_range];omega),At8]
 have c:=XV seed hl.1 (show leaf<16 by omega) h.toNat 0 (by omega)
 have e0:Fp .i64 leaf ((0:Nat):Int)=leaf:=by
  show leaf.fdiv (2 ^ (min ((0:Nat):Int).toNat IntKind.i64.bits))=leaf;have:(2:Int) ^ (min ((0:Nat):Int).toNat IntKind.i64.bits)=1:=by decide
  rw[this,Int.fdiv_one]
 have eh:Fp .i64 leaf ((0+h.toNat:Nat):Int)=0:=by
  have H:∀n:Fin 16,∀k:Fin 5,(n.val:Int)<2 ^ k.val->Fp .i64 (n.val:Int) ((0+k.val:Nat):Int)=0:=by decide
  obtain⟨n,hn⟩:=Int.eq_ofNat_of_zero_le hl.1;have:=H ⟨n,by omega⟩ ⟨h.toNat,by omega⟩ (by simp only;rw[<-hn];exact hl.2)
  rw[hn];exact this
 rw[e0,eh,Ck] at c;have er:List.range' 0 h.toNat=List.range h.toNat:=List.range_eq_range'.symm;rw[er] at c;have el:Cw seed 0 leaf=Lm seed leaf:=rfl;rw[el] at c;rw[c];unfold okE;rw[Bn rfl]
section
variable {xs:FuncId->Option (Ab->Option Dt)}(fu d:Nat)(call:Bq)
theorem Ae8(Z:ByteArray):Fm C0 fu d 130 [.sc (.string Z)] fun call=>Bu [.own 3 1 [(4:Int),Af 0,.sc (.string Z)]]:=by show _=_;kernel_rfl
theorem Aio(Z:Int):Fm C0 fu d 64 [Af Z] fun call=>Bu [.own 3 1 [(1:Int),Af Z,.sc (.string (ByteArray.mk #[]))]]:=by show _=_;kernel_rfl
theorem Ack(Y:Nat)(Z:Ab):Fm C0 fu d 131 [Am 1 Y Z] fun call=>As (decide (Z.length=Y))<|F3 (bytesOf Z) fun a=>Bu [.own 3 1 [(3:Int),Af 0,.sc (.string (ByteArray.mk (List.toArray a)))]]:=by show _=_;kernel_rfl
theorem Acs(Z:Int):Fm C0 fu d 141 [Af Z] fun call=>Az (decide (Z<24)) (Bu [(0:Int)]) (Az (decide (Z<256)) (Bu [(1:Int)]) (Az (decide (Z<65536)) (Bu [(2:Int)]) (Az (decide (Z<4294967296)) (Bu [(4:Int)]) (Bu [(8:Int)])))):=by show _=_;kernel_rfl
theorem ZF(Z Y:Int)(X:ByteArray):Fm C0 fu d 146 [.agg [Z,Af Y,.sc (.string X)]] fun call=>Az (Z==3) (Bu [.sc (.bool (Y==0))]) (Az (Z==4) (Bu [.sc (.bool (Y==0))]) (Az (Z==8) (Az (Y==0) (Bu [.sc (.bool (Array.toList (ByteArray.data X)==Array.toList (ByteArray.data (ByteArray.mk #[]))))]) (Bu [.sc (.bool false)])) (Az (Z==7) (Az (decide (Y<=1)) (Bu [.sc (.bool (Array.toList (ByteArray.data X)==Array.toList (ByteArray.data (ByteArray.mk #[]))))]) (Bu [.sc (.bool false)])) (Bu [.sc (.bool (Array.toList (ByteArray.data X)==Array.toList (ByteArray.data (ByteArray.mk #[]))))])))):=by show _=_;kernel_rfl
theorem WI(Z:Nat)(X:Ab)(Y:Nat)(W:Ab):Fm C0 fu d 143 [Am 1 Z X,Am 1 Y W] fun call=>Az ((↑Z:Int) != (↑Y:Int)) (Bu [.sc (.bool (decide ((↑Z:Int)<(↑Y:Int))))]) (Lj .i64 (call 148 [Am 1 Z X,Am 1 Y W]) fun a=>Bu [.sc (.bool (decide (a<0)))]):=by show _=_;kernel_rfl
def Fn(Z:Nat)(Y:Ab)(X W:Int)(V U:Nat)(T S:Int)(Q:Ab):Option Dt:=K0 fu call 133 Tryz.f133 [.own 1 Z Y,.sc (.int .u8 X),Af W] [.r,.r,.r,.r,.r,.l,.r,.l] V ⟨lk [(0,.view 0 1 0 U),(2,Af T),(9,S)],B3 [(0,.ar false Q)]⟩
theorem Ry(V:Nat)(U:Ab)(T S:Int)(Q Z:Nat)(W Y:Int)(X:Ab):Fn fu call V U T S (Q+1) Z W Y X=(Az (decide (Y>=0)) (Aa (wrap .i64 (8*Y)) fun a=>As (decide (0<=a))<|Aa (Fp .u64 W a) fun a=>Aa (wrap .u8 a) fun a=>On Z 1 1 X [.sc (.int .u8 a)] fun a b=>Aa (wrap .i64 (Y-1)) fun c=>Fn fu call V U T S Q a W c b) (As (decide (Z*1<=X.length))<|Bu [.own 1 Z (X.take (Z*1))])):=by kernel_rfl
theorem KC(Y:Nat)(X:Ab)(W Z:Int):Fm C0 fu d 133 [.own 1 Y X,.sc (.int .u8 W),Af Z] fun call=>Aa (Hq .u8 W 5) fun a=>Az (decide (Z<24)) (Aa (wrap .u8 Z) fun b=>Aa (wrap .u8 (a+b)) fun a=>On Y 1 1 X [.sc (.int .u8 a)] fun a b=>As (decide (a*1<=b.length))<|Bu [.own 1 a (b.take (a*1))]) (Az (decide (Z<256)) (Aa (wrap .u8 (a+24)) fun a=>On Y 1 1 X [.sc (.int .u8 a)] fun a b=>Fn fu call Y X W Z fu a Z 0 b) (Az (decide (Z<65536)) (Aa (wrap .u8 (a+25)) fun a=>On Y 1 1 X [.sc (.int .u8 a)] fun a b=>Fn fu call Y X W Z fu a Z 1 b) (Az (decide (Z<4294967296)) (Aa (wrap .u8 (a+26)) fun a=>On Y 1 1 X [.sc (.int .u8 a)] fun a b=>Fn fu call Y X W Z fu a Z 3 b) (Aa (wrap .u8 (a+27)) fun a=>On Y 1 1 X [.sc (.int .u8 a)] fun a b=>Fn fu call Y X W Z fu a Z 7 b)))):=by show _=_;kernel_rfl
theorem MS(Y:Nat)(X:Ab)(W V:Int)(Z:ByteArray):Fm C0 fu d 108 [.own 1 Y X,.agg [W,Af V,.sc (.string Z)]] fun call=>Az (W==7) (Aa (wrap .u8 V) fun a=>Aa (wrap .u8 (244+a)) fun a=>On Y 1 1 X [.sc (.int .u8 a)] fun a b=>As (decide (a*1<=b.length))<|Bu [.own 1 a (b.take (a*1))]) (Az (W==8) (On Y 1 1 X [.sc (.int .u8 246)] fun a b=>As (decide (a*1<=b.length))<|Bu [.own 1 a (b.take (a*1))]) (Az (W==3) (Aa (wrap .i64 (W-1)) fun a=>Aa (wrap .u8 a) fun a=>Aa (wrap .u64 (↑(ByteArray.size Z):Int)) fun b=>As (decide (Y*1<=X.length))<|Bj (call 133 [.own 1 Y (X.take (Y*1)),.sc (.int .u8 a),Af b]) fun a b=>Ue 1 a fun a c e=>Ar e<|Ar b<|As (decide (a*1<=c.length)&&decide (List.length (Ej Z)=ByteArray.size Z*1)&&decide ((a+ByteArray.size Z)*1<=1099511627776)&&decide (a+ByteArray.size Z<=1099511627776))<|Aa (a+ByteArray.size Z) fun b=>Aa (List.take (a*1) c++Ej Z) fun a=>As (decide (b*1<=a.length))<|Bu [.own 1 b (a.take (b*1))]) (Az (W==4) (Aa (wrap .i64 (W-1)) fun a=>Aa (wrap .u8 a) fun a=>Aa (wrap .u64 (↑(ByteArray.size Z):Int)) fun b=>As (decide (Y*1<=X.length))<|Bj (call 133 [.own 1 Y (X.take (Y*1)),.sc (.int .u8 a),Af b]) fun a b=>Ue 1 a fun a c e=>Ar e<|Ar b<|As (decide (a*1<=c.length)&&decide (List.length (Ej Z)=ByteArray.size Z*1)&&decide ((a+ByteArray.size Z)*1<=1099511627776)&&decide (a+ByteArray.size Z<=1099511627776))<|Aa (a+ByteArray.size Z) fun b=>Aa (List.take (a*1) c++Ej Z) fun a=>As (decide (b*1<=a.length))<|Bu [.own 1 b (a.take (b*1))]) (Aa (wrap .i64 (W-1)) fun a=>Aa (wrap .u8 a) fun a=>As (decide (Y*1<=X.length))<|Bj (call 133 [.own 1 Y (X.take (Y*1)),.sc (.int .u8 a),Af V]) fun a b=>Ue 1 a fun a c e=>Ar e<|Ar b<|As (decide (a*1<=c.length))<|Bu [.own 1 a (c.take (a*1))])))):=by show _=_;kernel_rfl
theorem OY(Z:Nat)(Y:Ab)(X:Int):Fm C0 fu d 87 [.pbox [.own 3 Z Y,X]] fun call=>Az (decide (X>0)) (As (decide (Z*3<=Y.length))<|some ⟨[.sc (.bool ((↑Z:Int)==0))],[[.own 3 Z (Y.take (Z*3)),X]]⟩) (As (decide (Z*3<=Y.length))<|some ⟨[.sc (.bool false)],[[.own 3 Z (Y.take (Z*3)),X]]⟩):=by show _=_;kernel_rfl
theorem MY(Z:Nat)(Y:Ab)(X:Int):Fm C0 fu d 142 [.pbox [.own 3 Z Y,X]] fun call=>Az (decide ((↑Z:Int)>0)) (Aa (wrap .i64 ((↑Z:Int)-1)) fun a=>As (decide (0<=a)&&decide (a<(↑Z:Int)))<|Cg (Y.getD (0+a.toNat*3+0) .top) fun a=>Az a (Aa (wrap .i64 ((↑Z:Int)-1)) fun a=>As (decide (0<=a)&&decide (a<(↑Z:Int)))<|Be .i64 (Y.getD (0+a.toNat*3+1) .top) fun a=>Aa (Int.tmod a 2) fun a=>As (decide (Z*3<=Y.length))<|some ⟨[.sc (.bool (a==0))],[[.own 3 Z (Y.take (Z*3)),X]]⟩) (As (decide (Z*3<=Y.length))<|some ⟨[.sc (.bool false)],[[.own 3 Z (Y.take (Z*3)),X]]⟩)) (As (decide (Z*3<=Y.length))<|some ⟨[.sc (.bool false)],[[.own 3 Z (Y.take (Z*3)),X]]⟩):=by show _=_;kernel_rfl
theorem MO(Z:Nat)(Y:Ab)(X W:Int):Fm C0 fu d 122 [.pbox [.own 3 Z Y,X],W] fun call=>Az (decide (X>=512)) (As (decide (Z*3<=Y.length))<|some ⟨[(8:Int)],[[.own 3 Z (Y.take (Z*3)),X]]⟩) (Az (decide (W<1)) (As (decide (Z*3<=Y.length))<|some ⟨[(3:Int)],[[.own 3 Z (Y.take (Z*3)),X]]⟩) (Az (decide (W>8)) (As (decide (Z*3<=Y.length))<|some ⟨[(3:Int)],[[.own 3 Z (Y.take (Z*3)),X]]⟩) (As (decide (Z*3<=Y.length))<|Bj (call 142 [.pbox [.own 3 Z (Y.take (Z*3)),X]]) fun a b=>Wb a fun a=>Av b fun b c=>Ue 3 b fun b e f=>Dc .i64 f fun f=>Ar c<|Az a (Az (W != 1) (Az (W != 2) (Az (W != 4) (As (decide (b*3<=e.length))<|some ⟨[(3:Int)],[[.own 3 b (e.take (b*3)),f]]⟩) (Az (decide ((↑b:Int)>8)) (As (decide (b*3<=e.length))<|some ⟨[(5:Int)],[[.own 3 b (e.take (b*3)),f]]⟩) (As (decide (b*3<=e.length))<|some ⟨[(0:Int)],[[.own 3 b (e.take (b*3)),f]]⟩))) (Az (decide ((↑b:Int)>8)) (As (decide (b*3<=e.length))<|some ⟨[(5:Int)],[[.own 3 b (e.take (b*3)),f]]⟩) (As (decide (b*3<=e.length))<|some ⟨[(0:Int)],[[.own 3 b (e.take (b*3)),f]]⟩))) (Az (decide ((↑b:Int)>8)) (As (decide (b*3<=e.length))<|some ⟨[(5:Int)],[[.own 3 b (e.take (b*3)),f]]⟩) (As (decide (b*3<=e.length))<|some ⟨[(0:Int)],[[.own 3 b (e.take (b*3)),f]]⟩))) (Az (decide ((↑b:Int)>8)) (As (decide (b*3<=e.length))<|some ⟨[(5:Int)],[[.own 3 b (e.take (b*3)),f]]⟩) (As (decide (b*3<=e.length))<|some ⟨[(0:Int)],[[.own 3 b (e.take (b*3)),f]]⟩))))):=by show _=_;kernel_rfl
def Bm(Z:Nat)(Y:Ab)(X W V:Int)(U:ByteArray)(T:Nat)(S:Int)(Q:Nat)(P:Int)(O:Ab):Option Dt:=K0 fu call 144 Tryz.f144 [.pbox [.own 3 Z Y,X],.agg [W,Af V,.sc (.string U)]] [.r,.r,.r,.r,.r,.r,.l] T ⟨lk [(0,.ptr 212000 0),(5,S)],B3 [(212000,.st [.view 212106 3 0 Q,P]),(212106,.ar false O)]⟩
theorem S5(V:Nat)(U:Ab)(T S Q:Int)(P:ByteArray)(O:Nat)(X:Int)(Z:Nat)(W:Int)(Y:Ab):Bm fu call V U T S Q P (O+1) X Z W Y=(Az (decide (X>0)) (Aa (wrap .i64 (X-1)) fun a=>As (decide (0<=a)&&decide (a<(↑Z:Int)))<|Be .i64 (Y.getD (0+a.toNat*3+1) .top) fun a=>Az (a==0) (Aa (wrap .i64 (X-1)) fun a=>As (decide (0<=a))<|As (decide (a.toNat<=Z))<|Aa (a.toNat-0) fun a=>Aa (wrap .i64 (X-1)) fun b=>Bm fu call V U T S Q P O b a W Y) (As (decide (Z*3<=Y.length))<|some ⟨[],[[.own 3 Z (Y.take (Z*3)),W]]⟩)) (As (decide (Z*3<=Y.length))<|some ⟨[],[[.own 3 Z (Y.take (Z*3)),W]]⟩)):=by kernel_rfl
theorem OH(Z:Nat)(X:Ab)(V W Y:Int)(U:ByteArray):Fm C0 fu d 144 [.pbox [.own 3 Z X,V],.agg [W,Af Y,.sc (.string U)]] fun call=>Aa (wrap .i64 (V+1)) fun a=>Az (decide ((↑Z:Int)>0)) (Aa (wrap .i64 ((↑Z:Int)-1)) fun b=>As (decide (0<=b)&&decide (b<(↑Z:Int)))<|Be .i64 (X.getD (0+b.toNat*3+1) .top) fun c=>Aa (wrap .i64 (c-1)) fun c=>As (decide (0<=b)&&decide (b<(↑Z:Int)))<|As (decide (0+b.toNat*3+1+1<=X.length))<|Aa (B0 X [c] (0+b.toNat*3+1)) fun b=>Az (W==5) (Az (decide (Y>0)) (Aa (wrap .i64 Y) fun c=>On Z 3 40 b [.sc (.bool false),c,Am 1 0 []] fun b c=>Az (W==6) (Az (decide (Y>0)) (Aa (wrap .i64 Y) fun e=>Aa (wrap .i64 (2*e)) fun e=>On b 3 40 c [.sc (.bool true),e,Am 1 0 []] fun b c=>Bm fu call Z X V W Y U fu (↑b:Int) b a c) (Bm fu call Z X V W Y U fu (↑b:Int) b a c)) (Bm fu call Z X V W Y U fu (↑b:Int) b a c)) (Az (W==6) (Az (decide (Y>0)) (Aa (wrap .i64 Y) fun c=>Aa (wrap .i64 (2*c)) fun c=>On Z 3 40 b [.sc (.bool true),c,Am 1 0 []] fun b c=>Bm fu call Z X V W Y U fu (↑b:Int) b a c) (Bm fu call Z X V W Y U fu (↑Z:Int) Z a b)) (Bm fu call Z X V W Y U fu (↑Z:Int) Z a b))) (Az (W==6) (Az (decide (Y>0)) (Aa (wrap .i64 Y) fun c=>Aa (wrap .i64 (2*c)) fun c=>On Z 3 40 b [.sc (.bool true),c,Am 1 0 []] fun b c=>Bm fu call Z X V W Y U fu (↑b:Int) b a c) (Bm fu call Z X V W Y U fu (↑Z:Int) Z a b)) (Bm fu call Z X V W Y U fu (↑Z:Int) Z a b))) (Az (W==5) (Az (decide (Y>0)) (Aa (wrap .i64 Y) fun b=>On Z 3 40 X [.sc (.bool false),b,Am 1 0 []] fun b c=>Az (W==6) (Az (decide (Y>0)) (Aa (wrap .i64 Y) fun e=>Aa (wrap .i64 (2*e)) fun e=>On b 3 40 c [.sc (.bool true),e,Am 1 0 []] fun b c=>Bm fu call Z X V W Y U fu (↑b:Int) b a c) (Bm fu call Z X V W Y U fu (↑b:Int) b a c)) (Bm fu call Z X V W Y U fu (↑b:Int) b a c)) (Az (W==6) (Az (decide (Y>0)) (Aa (wrap .i64 Y) fun b=>Aa (wrap .i64 (2*b)) fun b=>On Z 3 40 X [.sc (.bool true),b,Am 1 0 []] fun b c=>Bm fu call Z X V W Y U fu (↑b:Int) b a c) (Bm fu call Z X V W Y U fu (↑Z:Int) Z a X)) (Bm fu call Z X V W Y U fu (↑Z:Int) Z a X))) (Az (W==6) (Az (decide (Y>0)) (Aa (wrap .i64 Y) fun b=>Aa (wrap .i64 (2*b)) fun b=>On Z 3 40 X [.sc (.bool true),b,Am 1 0 []] fun b c=>Bm fu call Z X V W Y U fu (↑b:Int) b a c) (Bm fu call Z X V W Y U fu (↑Z:Int) Z a X)) (Bm fu call Z X V W Y U fu (↑Z:Int) Z a X))):=by show _=_;kernel_rfl
theorem Nu(W:Nat)(V:Ab)(U Z X:Int)(Y:ByteArray):Fm C0 fu d 123 [.pbox [.own 3 W V,U],.agg [Z,Af X,.sc (.string Y)]] fun call=>Az (Z==4) (Dj (call 126 [.sc (.string Y)]) fun a b=>Cg a fun a=>Ar b<|Az (!a) (As (decide (W*3<=V.length))<|some ⟨[(6:Int)],[[.own 3 W (V.take (W*3)),U]]⟩) (As (decide (W*3<=V.length))<|Bj (call 142 [.pbox [.own 3 W (V.take (W*3)),U]]) fun a b=>Wb a fun a=>Av b fun b c=>Ue 3 b fun b e f=>Dc .i64 f fun f=>Ar c<|Az a (Aa (wrap .i64 ((↑b:Int)-1)) fun a=>As (decide (0<=a)&&decide (a<(↑b:Int)))<|Bj (call 108 [.own 1 0 [],.agg [Z,Af X,.sc (.string Y)]]) fun c g=>Ue 1 c fun c h i=>Ar i<|Ar g<|Ow 1 (e.getD (0+a.toNat*3+0+2) .top) fun g i j=>Az (decide (0<i)) (Ow 1 (e.getD (0+a.toNat*3+0+2) .top) fun g i j=>As (decide (0+c*1<=h.length))<|Dj (call 143 [Am 1 i j,Am 1 c (List.take (c*1) (h.drop 0))]) fun g i=>Cg g fun g=>Ar i<|Az (!g) (As (decide (b*3<=e.length))<|some ⟨[(7:Int)],[[.own 3 b (e.take (b*3)),f]]⟩) (As (decide (0+a.toNat*3+0+2+1<=e.length))<|As (decide (0+c*1<=h.length))<|Aa (B0 e [Am 1 c (List.take (c*1) (h.drop 0))] (0+a.toNat*3+0+2)) fun a=>As (decide (b*3<=a.length))<|Bj (call 144 [.pbox [.own 3 b (a.take (b*3)),f],.agg [Z,Af X,.sc (.string Y)]]) fun a b=>Ar a<|Av b fun a b=>Ue 3 a fun a c e=>Dc .i64 e fun e=>Ar b<|As (decide (a*3<=c.length))<|some ⟨[(0:Int)],[[.own 3 a (c.take (a*3)),e]]⟩)) (CA (Ow 1 (e.getD (0+a.toNat*3+0+2) .top) fun g i j=>As (decide (0+c*1<=h.length))<|Dj (call 143 [Am 1 i j,Am 1 c (List.take (c*1) (h.drop 0))]) fun g i=>Cg g fun g=>Ar i<|Az (!g) (As (decide (b*3<=e.length))<|some ⟨[(7:Int)],[[.own 3 b (e.take (b*3)),f]]⟩) (As (decide (0+a.toNat*3+0+2+1<=e.length))<|As (decide (0+c*1<=h.length))<|Aa (B0 e [Am 1 c (List.take (c*1) (h.drop 0))] (0+a.toNat*3+0+2)) fun a=>As (decide (b*3<=a.length))<|Bj (call 144 [.pbox [.own 3 b (a.take (b*3)),f],.agg [Z,Af X,.sc (.string Y)]]) fun a b=>Ar a<|Av b fun a b=>Ue 3 a fun a c e=>Dc .i64 e fun e=>Ar b<|As (decide (a*3<=c.length))<|some ⟨[(0:Int)],[[.own 3 a (c.take (a*3)),e]]⟩)) (As (decide (0+a.toNat*3+0+2+1<=e.length))<|As (decide (0+c*1<=h.length))<|Aa (B0 e [Am 1 c (List.take (c*1) (h.drop 0))] (0+a.toNat*3+0+2)) fun a=>As (decide (b*3<=a.length))<|Bj (call 144 [.pbox [.own 3 b (a.take (b*3)),f],.agg [Z,Af X,.sc (.string Y)]]) fun a b=>Ar a<|Av b fun a b=>Ue 3 a fun a c e=>Dc .i64 e fun e=>Ar b<|As (decide (a*3<=c.length))<|some ⟨[(0:Int)],[[.own 3 a (c.take (a*3)),e]]⟩))) (As (decide (b*3<=e.length))<|Bj (call 144 [.pbox [.own 3 b (e.take (b*3)),f],.agg [Z,Af X,.sc (.string Y)]]) fun a b=>Ar a<|Av b fun a b=>Ue 3 a fun a c e=>Dc .i64 e fun e=>Ar b<|As (decide (a*3<=c.length))<|some ⟨[(0:Int)],[[.own 3 a (c.take (a*3)),e]]⟩))) (As (decide (W*3<=V.length))<|Bj (call 142 [.pbox [.own 3 W (V.take (W*3)),U]]) fun a b=>Wb a fun a=>Av b fun b c=>Ue 3 b fun b e f=>Dc .i64 f fun f=>Ar c<|Az a (Aa (wrap .i64 ((↑b:Int)-1)) fun a=>As (decide (0<=a)&&decide (a<(↑b:Int)))<|Bj (call 108 [.own 1 0 [],.agg [Z,Af X,.sc (.string Y)]]) fun c g=>Ue 1 c fun c h i=>Ar i<|Ar g<|Ow 1 (e.getD (0+a.toNat*3+0+2) .top) fun g i j=>Az (decide (0<i)) (Ow 1 (e.getD (0+a.toNat*3+0+2) .top) fun g i j=>As (decide (0+c*1<=h.length))<|Dj (call 143 [Am 1 i j,Am 1 c (List.take (c*1) (h.drop 0))]) fun g i=>Cg g fun g=>Ar i<|Az (!g) (As (decide (b*3<=e.length))<|some ⟨[(7:Int)],[[.own 3 b (e.take (b*3)),f]]⟩) (As (decide (0+a.toNat*3+0+2+1<=e.length))<|As (decide (0+c*1<=h.length))<|Aa (B0 e [Am 1 c (List.take (c*1) (h.drop 0))] (0+a.toNat*3+0+2)) fun a=>As (decide (b*3<=a.length))<|Bj (call 144 [.pbox [.own 3 b (a.take (b*3)),f],.agg [Z,Af X,.sc (.string Y)]]) fun a b=>Ar a<|Av b fun a b=>Ue 3 a fun a c e=>Dc .i64 e fun e=>Ar b<|As (decide (a*3<=c.length))<|some ⟨[(0:Int)],[[.own 3 a (c.take (a*3)),e]]⟩)) (CA (Ow 1 (e.getD (0+a.toNat*3+0+2) .top) fun g i j=>As (decide (0+c*1<=h.length))<|Dj (call 143 [Am 1 i j,Am 1 c (List.take (c*1) (h.drop 0))]) fun g i=>Cg g fun g=>Ar i<|Az (!g) (As (decide (b*3<=e.length))<|some ⟨[(7:Int)],[[.own 3 b (e.take (b*3)),f]]⟩) (As (decide (0+a.toNat*3+0+2+1<=e.length))<|As (decide (0+c*1<=h.length))<|Aa (B0 e [Am 1 c (List.take (c*1) (h.drop 0))] (0+a.toNat*3+0+2)) fun a=>As (decide (b*3<=a.length))<|Bj (call 144 [.pbox [.own 3 b (a.take (b*3)),f],.agg [Z,Af X,.sc (.string Y)]]) fun a b=>Ar a<|Av b fun a b=>Ue 3 a fun a c e=>Dc .i64 e fun e=>Ar b<|As (decide (a*3<=c.length))<|some ⟨[(0:Int)],[[.own 3 a (c.take (a*3)),e]]⟩)) (As (decide (0+a.toNat*3+0+2+1<=e.length))<|As (decide (0+c*1<=h.length))<|Aa (B0 e [Am 1 c (List.take (c*1) (h.drop 0))] (0+a.toNat*3+0+2)) fun a=>As (decide (b*3<=a.length))<|Bj (call 144 [.pbox [.own 3 b (a.take (b*3)),f],.agg [Z,Af X,.sc (.string Y)]]) fun a b=>Ar a<|Av b fun a b=>Ue 3 a fun a c e=>Dc .i64 e fun e=>Ar b<|As (decide (a*3<=c.length))<|some ⟨[(0:Int)],[[.own 3 a (c.take (a*3)),e]]⟩))) (As (decide (b*3<=e.length))<|Bj (call 144 [.pbox [.own 3 b (e.take (b*3)),f],.agg [Z,Af X,.sc (.string Y)]]) fun a b=>Ar a<|Av b fun a b=>Ue 3 a fun a c e=>Dc .i64 e fun e=>Ar b<|As (decide (a*3<=c.length))<|some ⟨[(0:Int)],[[.own 3 a (c.take (a*3)),e]]⟩)):=by show _=_;kernel_rfl
theorem GA(W:Nat)(V:Ab)(U Z Y:Int)(X:ByteArray):Fm C0 fu d 132 [.pbox [.own 3 W V,U],.agg [Z,Af Y,.sc (.string X)]] fun call=>As (decide (W*3<=V.length))<|Bj (call 87 [.pbox [.own 3 W (V.take (W*3)),U]]) fun a b=>Wb a fun a=>Av b fun b c=>Ue 3 b fun b e f=>Dc .i64 f fun f=>Ar c<|Az a (As (decide (b*3<=e.length))<|some ⟨[(2:Int)],[[.own 3 b (e.take (b*3)),f]]⟩) (As (decide (b*3<=e.length))<|Bj (call 122 [.pbox [.own 3 b (e.take (b*3)),f],Z]) fun a b=>Dc .i64 a fun a=>Av b fun b c=>Ue 3 b fun b e f=>Dc .i64 f fun f=>Ar c<|Az (a != 0) (As (decide (b*3<=e.length))<|some ⟨[a],[[.own 3 b (e.take (b*3)),f]]⟩) (Dj (call 146 [.agg [Z,Af Y,.sc (.string X)]]) fun a c=>Cg a fun a=>Ar c<|Az (!a) (As (decide (b*3<=e.length))<|some ⟨[(4:Int)],[[.own 3 b (e.take (b*3)),f]]⟩) (Az (decide ((↑(ByteArray.size X):Int)>1024)) (As (decide (b*3<=e.length))<|some ⟨[(8:Int)],[[.own 3 b (e.take (b*3)),f]]⟩) (Az (Z==5) (Az (decide (Y>512)) (As (decide (b*3<=e.length))<|some ⟨[(8:Int)],[[.own 3 b (e.take (b*3)),f]]⟩) (As (decide (b*3<=e.length))<|Bj (call 123 [.pbox [.own 3 b (e.take (b*3)),f],.agg [Z,Af Y,.sc (.string X)]]) fun a b=>Dc .i64 a fun a=>Av b fun b c=>Ue 3 b fun b e f=>Dc .i64 f fun f=>Ar c<|As (decide (b*3<=e.length))<|some ⟨[a],[[.own 3 b (e.take (b*3)),f]]⟩)) (Az (Z==6) (Az (decide (Y>512)) (As (decide (b*3<=e.length))<|some ⟨[(8:Int)],[[.own 3 b (e.take (b*3)),f]]⟩) (As (decide (b*3<=e.length))<|Bj (call 123 [.pbox [.own 3 b (e.take (b*3)),f],.agg [Z,Af Y,.sc (.string X)]]) fun a b=>Dc .i64 a fun a=>Av b fun b c=>Ue 3 b fun b e f=>Dc .i64 f fun f=>Ar c<|As (decide (b*3<=e.length))<|some ⟨[a],[[.own 3 b (e.take (b*3)),f]]⟩)) (As (decide (b*3<=e.length))<|Bj (call 123 [.pbox [.own 3 b (e.take (b*3)),f],.agg [Z,Af Y,.sc (.string X)]]) fun a b=>Dc .i64 a fun a=>Av b fun b c=>Ue 3 b fun b e f=>Dc .i64 f fun f=>Ar c<|As (decide (b*3<=e.length))<|some ⟨[a],[[.own 3 b (e.take (b*3)),f]]⟩)))))):=by show _=_;kernel_rfl
def Mn(Z:Nat)(Y:Ab)(X W:Nat)(V:Ab)(U T:Int)(S:Nat)(Q:Int)(P:Ab):Option Dt:=K0 fu call 107 Tryz.f107 [Am 3 Z Y] [.r,.r,.l,.r,.l] X ⟨lk [(3,.ptr 3 0),(7,Am 3 W V),(8,U),(9,T)],B3 [(3,.st [.view 25 3 0 S,Q]),(25,.ar false P)]⟩
theorem Ui(S:Nat)(Q:Ab)(P V:Nat)(X:Ab)(U Z:Int)(Y:Nat)(T:Int)(W:Ab):Mn fu call S Q (P+1) V X U Z Y T W=(Az (decide (Z<U)) (As (decide (0<=Z)&&decide (Z<(↑V:Int)))<|Be .i64 (X.getD (Z.toNat*3) .top) fun a=>Be .u64 (X.getD (Z.toNat*3+1) .top) fun b=>Ec (X.getD (Z.toNat*3+1+1) .top) fun c=>As (decide (Y*3<=W.length))<|Bj (call 132 [.pbox [.own 3 Y (W.take (Y*3)),T],.agg [a,Af b,.sc (.string c)]]) fun a b=>Dc .i64 a fun a=>Av b fun b c=>Ue 3 b fun b e f=>Dc .i64 f fun f=>Ar c<|Az (a != 0) (Bu [a]) (Aa (wrap .i64 (Z+1)) fun a=>Mn fu call S Q P V X U a b f e)) (As (decide (Y*3<=W.length))<|Bj (call 87 [.pbox [.own 3 Y (W.take (Y*3)),T]]) fun a b=>Wb a fun a=>Av b fun b c=>Ue 3 b fun b e f=>Dc .i64 f fun b=>Ar c<|Az (!a) (Bu [(1:Int)]) (Bu [(0:Int)]))):=by kernel_rfl
theorem SR(Z:Nat)(Y:Ab):Fm C0 fu d 107 [Am 3 Z Y] fun call=>Mn fu call Z Y fu Z Y (↑Z:Int) 0 0 0 ([]):=by show _=_;kernel_rfl
theorem WK(Z:Nat)(Y:Ab):Fm C0 fu d 106 [.own 3 Z Y] fun call=>As (decide (0+Z*3<=Y.length))<|Lj .i64 (call 107 [Am 3 Z (List.take (Z*3) (Y.drop 0))]) fun a=>Az (a != 0) (Bu [.own 3 0 [],a]) (As (decide (Z*3<=Y.length))<|Bu [.own 3 Z (Y.take (Z*3)),(0:Int)]):=by show _=_;kernel_rfl
def Pw(Z:Nat)(Y:Ab)(X W:Nat)(V:Ab)(U T:Int):Option Dt:=K0 fu call 105 Tryz.f105 [Am 1 Z Y] [.r,.l,.r,.l] X ⟨lk [(6,Am 1 W V),(7,U),(8,T)],B3 []⟩
theorem X6(V:Nat)(U:Ab)(T Y:Nat)(X:Ab)(W Z:Int):Pw fu call V U (T+1) Y X W Z=(Az (decide (Z<W)) (As (decide (0<=Z)&&decide (Z<(↑Y:Int)))<|Ow 3 (X.getD (Z.toNat*1) .top) fun a b c=>Lj .i64 (call 107 [Am 3 b c]) fun a=>Az (a != 0) (Bu [a]) (Aa (wrap .i64 (Z+1)) fun a=>Pw fu call V U T Y X W a)) (Bu [(0:Int)])):=by kernel_rfl
theorem ZH(Z:Nat)(Y:Ab):Fm C0 fu d 105 [Am 1 Z Y] fun call=>Pw fu call Z Y fu Z Y (↑Z:Int) 0:=by show _=_;kernel_rfl
def Rg(Z:Nat)(Y:Ab)(X W V:Nat)(U:Ab)(T S:Int)(Q:Ab):Option Dt:=K0 fu call 63 Tryz.f63 [Am 1 Z Y] [.r,.r,.r,.l,.r,.l] X ⟨lk [(5,.view 5 3 0 W),(18,Am 1 V U),(19,T),(20,S)],B3 [(5,.ar false Q)]⟩
theorem BN(T:Nat)(S:Ab)(Q Z W:Nat)(V:Ab)(U X:Int)(Y:Ab):Rg fu call T S (Q+1) Z W V U X Y=(Az (decide (X<U)) (As (decide (0<=X)&&decide (X<(↑W:Int)))<|Ow 3 (V.getD (X.toNat*1) .top) fun a b c=>Az (decide ((↑Z:Int)>512)) (As (decide (Z*3<=Y.length))<|Bj (call 106 [.own 3 Z (Y.take (Z*3))]) fun a b=>Ue 3 a fun a c e=>Dc .i64 e fun e=>Ar b<|As (decide (a*3<=c.length))<|Bu [.own 3 a (c.take (a*3)),e]) (As (decide (Z*3<=Y.length)&&decide (c.length=b*3)&&decide ((Z+b)*32<=1099511627776)&&decide (Z+b<=1099511627776))<|Aa (Z+b) fun a=>Aa (List.take (Z*3) Y++c) fun b=>Aa (wrap .i64 (X+1)) fun c=>Rg fu call T S Q a W V U c b)) (As (decide (Z*3<=Y.length))<|Bj (call 106 [.own 3 Z (Y.take (Z*3))]) fun a b=>Ue 3 a fun a c e=>Dc .i64 e fun e=>Ar b<|As (decide (a*3<=c.length))<|Bu [.own 3 a (c.take (a*3)),e])):=by kernel_rfl
theorem Adx(Z:Nat)(Y:Ab):Fm C0 fu d 63 [Am 1 Z Y] fun call=>Lj .i64 (call 105 [Am 1 Z Y]) fun a=>Az (a != 0) (Bu [.own 3 0 [],a]) (Aa (wrap .u64 (↑Z:Int)) fun a=>Rg fu call Z Y fu 1 Z Y (↑Z:Int) 0 ([(5:Int),Af a,.sc (.string (ByteArray.mk #[]))])):=by show _=_;kernel_rfl
def Pk(Z:Nat)(Y:Ab)(X W V:Nat)(U:Ab)(T S:Int)(Q:Ab):Option Dt:=K0 fu call 65 Tryz.f65 [Am 3 Z Y] [.r,.r,.r,.l,.r,.l] X ⟨lk [(5,.view 5 1 0 W),(13,Am 3 V U),(14,T),(15,S)],B3 [(5,.ar false Q)]⟩
theorem Y7(T:Nat)(S:Ab)(Q Y V:Nat)(X:Ab)(U Z:Int)(W:Ab):Pk fu call T S (Q+1) Y V X U Z W=(Az (decide (Z<U)) (As (decide (0<=Z)&&decide (Z<(↑V:Int)))<|Be .i64 (X.getD (Z.toNat*3) .top) fun a=>Be .u64 (X.getD (Z.toNat*3+1) .top) fun b=>Ec (X.getD (Z.toNat*3+1+1) .top) fun c=>As (decide (Y*1<=W.length))<|Bj (call 108 [.own 1 Y (W.take (Y*1)),.agg [a,Af b,.sc (.string c)]]) fun a b=>Ue 1 a fun a c e=>Ar e<|Ar b<|Aa (wrap .i64 (Z+1)) fun b=>Pk fu call T S Q a V X U b c) (As (decide (Y*1<=W.length))<|Bu [.own 1 Y (W.take (Y*1)),(0:Int)])):=by kernel_rfl
theorem YS(Z:Nat)(Y:Ab):Fm C0 fu d 65 [Am 3 Z Y] fun call=>Lj .i64 (call 107 [Am 3 Z Y]) fun a=>Az (a != 0) (Bu [.own 1 0 [],a]) (Pk fu call Z Y fu 0 Z Y (↑Z:Int) 0 ([])):=by show _=_;kernel_rfl
end
section
variable {xs:FuncId->Option (Ab->Option Dt)}(fu d:Nat)(call:Bq)
theorem HT(Z Y:ByteArray):Fm C0 fu d 140 [.sc (.string Z),.sc (.string Y)] fun call=>Az ((↑(ByteArray.size Z):Int) != (↑(ByteArray.size Y):Int)) (Bu [.sc (.bool (decide ((↑(ByteArray.size Z):Int)<(↑(ByteArray.size Y):Int))))]) (Bu [.sc (.bool (Op.bytesLess (Array.toList (ByteArray.data Z)) (Array.toList (ByteArray.data Y))))]):=by show _=_;kernel_rfl
theorem FT(Z:Int):Fm C0 fu d 139 [Z] fun call=>Az (Z==1) (Bu [.sc (.bool true)]) (Az (Z==2) (Bu [.sc (.bool true)]) (Bu [.sc (.bool (Z==4))])):=by show _=_;kernel_rfl
def Et(Z Y:Int)(X:ByteArray)(W:Nat)(V U:Int):Option Dt:=K0 fu call 127 Tryz.f127 [.agg [Z,Af Y,.sc (.string X)]] [.r,.r,.r] W ⟨lk [(3,Af V),(4,.sc (.int .u8 U))],B3 []⟩
theorem CD(W V:Int)(U:ByteArray)(X:Nat)(M6:0<X)(Z Y:Int):Et fu call W V U X Z Y=(Az (decide (Z<24)) (Aa (wrap .u8 Z) fun a=>Aa (wrap .u8 (Y+a)) fun a=>Bu [.own 1 1 [.sc (.int .u8 a)]]) (Az (decide (Z<256)) (Aa (wrap .u8 (Y+24)) fun a=>Aa (wrap .u8 Z) fun b=>Bu [.own 1 2 [.sc (.int .u8 a),.sc (.int .u8 b)]]) (Az (decide (Z<65536)) (Aa (wrap .u8 (Y+25)) fun a=>Aa (Fp .u64 Z 8) fun b=>Aa (wrap .u8 b) fun b=>Aa (wrap .u8 Z) fun c=>Bu [.own 1 3 [.sc (.int .u8 a),.sc (.int .u8 b),.sc (.int .u8 c)]]) (Az (decide (Z<4294967296)) (Aa (wrap .u8 (Y+26)) fun a=>Aa (Fp .u64 Z 24) fun b=>Aa (wrap .u8 b) fun b=>Aa (Fp .u64 Z 16) fun c=>Aa (wrap .u8 c) fun c=>Aa (Fp .u64 Z 8) fun e=>Aa (wrap .u8 e) fun e=>Aa (wrap .u8 Z) fun f=>Bu [.own 1 5 [.sc (.int .u8 a),.sc (.int .u8 b),.sc (.int .u8 c),.sc (.int .u8 e),.sc (.int .u8 f)]]) (Aa (wrap .u8 (Y+27)) fun a=>Dj (call 79 [Am 1 1 [Af Z]]) fun b c=>J0 1 b fun b e=>Ar c<|As (decide (0+b*1<=e.length))<|As (decide (List.length (List.take (b*1) (e.drop 0))=b*1)&&decide ((1+b)*1<=1099511627776)&&decide (1+b<=1099511627776))<|Aa (1+b) fun c=>Aa ([.sc (.int .u8 a)]++List.take (b*1) (e.drop 0)) fun a=>As (decide (c*1<=a.length))<|Bu [.own 1 c (a.take (c*1))]))))):=by cases X with|zero=>exact absurd M6 (Nat.lt_irrefl 0)|succ X=>kernel_rfl
theorem IZ(Z Y:Int)(X:ByteArray):Fm C0 fu d 127 [.agg [Z,Af Y,.sc (.string X)]] fun call=>Az (Z==7) (Aa (wrap .u8 Y) fun a=>Aa (wrap .u8 (244+a)) fun a=>Bu [.own 1 1 [.sc (.int .u8 a)]]) (Az (Z==8) (Bu [.own 1 1 [.sc (.int .u8 246)]]) (Az (Z==2) (Et fu call Z Y X fu Y 32) (Az (Z==3) (Aa (wrap .u64 (↑(ByteArray.size X):Int)) fun a=>Et fu call Z Y X fu a 64) (Az (Z==4) (Aa (wrap .u64 (↑(ByteArray.size X):Int)) fun a=>Et fu call Z Y X fu a 96) (Az (Z==5) (Et fu call Z Y X fu Y 128) (Az (Z==6) (Et fu call Z Y X fu Y 160) (Et fu call Z Y X fu Y 0))))))):=by show _=_;kernel_rfl
theorem GD(Y X:Int)(Z:ByteArray):Fm C0 fu d 99 [.agg [Y,Af X,.sc (.string Z)]] fun call=>Dj (call 127 [.agg [Y,Af X,.sc (.string Z)]]) fun a b=>J0 1 a fun a c=>Ar b<|As (decide (0+a*1<=c.length))<|As (decide (List.length (List.take (a*1) (c.drop 0))=a))<|F3 (bytesOf (List.take (a*1) (c.drop 0))) fun a=>As (decide (ByteArray.size (ByteArray.mk (List.toArray a))+ByteArray.size Z<=9223372036854775807))<|Aa (ByteArray.mk (List.toArray a)++Z) fun a=>Bu [.sc (.string a)]:=by show _=_;kernel_rfl
def Dx(Z:ByteArray)(Y:Int)(X:Nat)(W:Ab)(V:Nat)(U T:Int)(S Q:Int)(P:ByteArray)(O:Int)(N:Nat)(M:Ab)(L K:Int)(J:ByteArray):Option Dt:=K0 fu call 138 Tryz.f138 [.pbox [.sc (.string Z),Y,.own 3 X W]] [.r,.r,.r,.r,.r,.r,.r,.r,.r,.r,.r,.l,.r,.l] V ⟨lk [(0,.ptr 274000 0),(2,.ptr 2 0),(5,U),(7,T),(8,Af S),(9,Q)],B3 [(274000,.st [.sc (.string P),O,.view 274411 3 0 N]),(274411,.ar false M),(2,.st [L,Af K,.sc (.string J)])]⟩
theorem Kd(Q:ByteArray)(P:Int)(O:Nat)(N:Ab)(M:Nat)(W Y:Int)(T S:Int)(V:ByteArray)(U:Int)(Z:Nat)(X:Ab)(L K:Int)(J:ByteArray):Dx fu call Q P O N (M+1) W Y T S V U Z X L K J=(Az (decide (S<Y)) (Aa (Hq .u64 T 8) fun a=>Aa (wrap .i64 (U+1)) fun b=>Aa (wrap .i64 (b+S)) fun b=>As (decide (0<=b))<|F3 ((Array.toList (ByteArray.data V))[b.toNat]?) fun b=>Aa (wrap .u64 (↑(UInt8.toNat b):Int)) fun b=>Aa (YF .u64 a b) fun a=>Aa (wrap .i64 (S+1)) fun b=>Dx fu call Q P O N M W Y a b V U Z X L K J) (As (decide (0<=Y)&&decide (Y<9))<|Be .u64 (List.getD [Af 0,Af 24,Af 256,Af 0,Af 65536,Af 0,Af 0,Af 0,Af 4294967296] (0+Y.toNat*1) .top) fun a=>Az (decide (T<a)) (As (decide (Z*3<=X.length))<|some ⟨[.agg [(0:Int),Af 0,.sc (.string (ByteArray.mk #[]))],(2:Int)],[[.sc (.string V),U,.own 3 Z (X.take (Z*3))]]⟩) (Aa (wrap .i64 (1+Y)) fun a=>Aa (wrap .i64 (U+a)) fun a=>As (decide (0<=W)&&decide (W<6))<|Be .i64 (List.getD [(1:Int),(2:Int),(3:Int),(4:Int),(5:Int),(6:Int)] (0+W.toNat*1) .top) fun b=>As (decide (Z*3<=X.length))<|some ⟨[.agg [b,Af T,.sc (.string (ByteArray.mk #[]))],(0:Int)],[[.sc (.string V),a,.own 3 Z (X.take (Z*3))]]⟩))):=by kernel_rfl
theorem V6(W:ByteArray)(X:Int)(Z:Nat)(Y:Ab):Fm C0 fu d 138 [.pbox [.sc (.string W),X,.own 3 Z Y]] fun call=>Az (decide (X>=(↑(ByteArray.size W):Int))) (As (decide (Z*3<=Y.length))<|some ⟨[.agg [(0:Int),Af 0,.sc (.string (ByteArray.mk #[]))],(1:Int)],[[.sc (.string W),X,.own 3 Z (Y.take (Z*3))]]⟩) (As (decide (0<=X))<|F3 ((Array.toList (ByteArray.data W))[X.toNat]?) fun a=>Az ((↑(UInt8.toNat a):Int)==244) (Aa (wrap .i64 (X+1)) fun b=>Aa (wrap .u8 ((↑(UInt8.toNat a):Int)-244)) fun a=>Aa (wrap .u64 a) fun a=>As (decide (Z*3<=Y.length))<|some ⟨[.agg [(7:Int),Af a,.sc (.string (ByteArray.mk #[]))],(0:Int)],[[.sc (.string W),b,.own 3 Z (Y.take (Z*3))]]⟩) (Az ((↑(UInt8.toNat a):Int)==245) (Aa (wrap .i64 (X+1)) fun b=>Aa (wrap .u8 ((↑(UInt8.toNat a):Int)-244)) fun a=>Aa (wrap .u64 a) fun a=>As (decide (Z*3<=Y.length))<|some ⟨[.agg [(7:Int),Af a,.sc (.string (ByteArray.mk #[]))],(0:Int)],[[.sc (.string W),b,.own 3 Z (Y.take (Z*3))]]⟩) (Az ((↑(UInt8.toNat a):Int)==246) (Aa (wrap .i64 (X+1)) fun a=>As (decide (Z*3<=Y.length))<|some ⟨[.agg [(8:Int),Af 0,.sc (.string (ByteArray.mk #[]))],(0:Int)],[[.sc (.string W),a,.own 3 Z (Y.take (Z*3))]]⟩) (Aa (Fp .u8 (↑(UInt8.toNat a):Int) 5) fun b=>Aa (wrap .i64 b) fun b=>Aa (Oy .u8 (↑(UInt8.toNat a):Int) 31) fun a=>Aa (wrap .i64 a) fun a=>Az (decide (b>5)) (As (decide (Z*3<=Y.length))<|some ⟨[.agg [(0:Int),Af 0,.sc (.string (ByteArray.mk #[]))],(2:Int)],[[.sc (.string W),X,.own 3 Z (Y.take (Z*3))]]⟩) (Az (decide (a>27)) (As (decide (Z*3<=Y.length))<|some ⟨[.agg [(0:Int),Af 0,.sc (.string (ByteArray.mk #[]))],(2:Int)],[[.sc (.string W),X,.own 3 Z (Y.take (Z*3))]]⟩) (Az (decide (a>=24)) (Aa (wrap .i64 (a-24)) fun c=>Aa (wrap .u64 c) fun c=>As (decide (0<=c))<|Aa (Hq .i64 1 c) fun c=>Aa (wrap .i64 ((↑(ByteArray.size W):Int)-X)) fun e=>Aa (wrap .i64 (e-1)) fun e=>Az (decide (e<c)) (As (decide (Z*3<=Y.length))<|some ⟨[.agg [(0:Int),Af 0,.sc (.string (ByteArray.mk #[]))],(1:Int)],[[.sc (.string W),X,.own 3 Z (Y.take (Z*3))]]⟩) (Aa (wrap .u64 a) fun a=>Az (decide (c>0)) (Dx fu call W X Z Y fu b c 0 0 W X Z Y 0 0 (ByteArray.mk #[])) (Dx fu call W X Z Y fu b c a 0 W X Z Y 0 0 (ByteArray.mk #[])))) (Aa (wrap .i64 ((↑(ByteArray.size W):Int)-X)) fun c=>Aa (wrap .i64 (c-1)) fun c=>Az (decide (c<0)) (As (decide (Z*3<=Y.length))<|some ⟨[.agg [(0:Int),Af 0,.sc (.string (ByteArray.mk #[]))],(1:Int)],[[.sc (.string W),X,.own 3 Z (Y.take (Z*3))]]⟩) (Aa (wrap .u64 a) fun a=>Dx fu call W X Z Y fu b 0 a 0 W X Z Y 0 0 (ByteArray.mk #[]))))))))):=by show _=_;kernel_rfl
def Ak(Z:ByteArray)(Y:Int)(X:Nat)(W:Ab)(V:Int)(U:Bool)(T:ByteArray)(S:Nat)(Q:Int)(P:Bool)(O:ByteArray)(N:Int)(M L:Bool)(K:ByteArray)(J:Int)(I:Nat)(H:Ab)(G E:Int)(D:ByteArray):Option Dt:=K0 fu call 117 Tryz.f117 [.pbox [.sc (.string Z),Y,.own 3 X W],V,.sc (.bool U),.sc (.string T)] [.r,.r,.r,.r,.r,.r] S ⟨lk [(0,.ptr 382000 0),(1,Q),(2,.sc (.bool P)),(3,.sc (.string O)),(9,.ptr 9 0),(11,Af N),(12,.sc (.bool M)),(13,.sc (.bool L))],B3 [(382000,.st [.sc (.string K),J,.view 382573 3 0 I]),(382573,.ar false H),(9,.st [G,Af E,.sc (.string D)])]⟩
def Bc(Z:ByteArray)(Y:Int)(X:Nat)(W:Ab)(V:Int)(U:Bool)(T:ByteArray)(S:Nat)(Q P:Int)(O:Bool)(N:ByteArray)(M:Int)(L:ByteArray)(K:Int)(J:Nat)(I:Ab)(H G:Int)(E:ByteArray):Option Dt:=K0 fu call 117 Tryz.f117 [.pbox [.sc (.string Z),Y,.own 3 X W],V,.sc (.bool U),.sc (.string T)] [.r,.r,.r,.r,.r,.r,.r,.r,.r,.r,.r,.r,.l,.r,.l] S ⟨lk [(0,.ptr 382000 0),(1,Q),(9,.ptr 9 0),(11,Af P),(13,.sc (.bool O)),(14,.sc (.string N)),(15,Af M)],B3 [(382000,.st [.sc (.string L),K,.view 382573 3 0 J]),(382573,.ar false I),(9,.st [H,Af G,.sc (.string E)])]⟩
theorem Kf(Q:ByteArray)(P:Int)(O:Nat)(N:Ab)(M:Int)(L:Bool)(K:ByteArray)(E:Nat)(M6:0<E)(J:Int)(G:Bool)(H:ByteArray)(U:Int)(D I:Bool)(W:ByteArray)(T:Int)(Z:Nat)(X:Ab)(Y S:Int)(V:ByteArray):Ak fu call Q P O N M L K E J G H U D I W T Z X Y S V=(Az D (Aa (wrap .i64 U) fun a=>Aa (wrap .i64 (T+a)) fun a=>As (decide (0<=T))<|As (decide (0<=a))<|As (decide (T.toNat<=a.toNat)&&decide (a.toNat<=ByteArray.size W))<|Aa (ByteArray.extract W T.toNat a.toNat) fun a=>Aa (wrap .i64 U) fun b=>Aa (wrap .i64 (T+b)) fun b=>Az (Y==4) (Dj (call 126 [.sc (.string a)]) fun c e=>Cg c fun c=>Ar e<|Az (!c) (As (decide (Z*3<=X.length))<|some ⟨[(6:Int)],[[.sc (.string W),b,.own 3 Z (X.take (Z*3))]]⟩) (Az G (Az (!Array.toList (ByteArray.data H)==Array.toList (ByteArray.data (ByteArray.mk #[]))) (Dj (call 99 [.agg [Y,Af 0,.sc (.string a)]]) fun c e=>Ec c fun c=>Ar e<|Dj (call 140 [.sc (.string H),.sc (.string c)]) fun c e=>Cg c fun c=>Ar e<|Az (!c) (As (decide (Z*3<=X.length))<|some ⟨[(7:Int)],[[.sc (.string W),b,.own 3 Z (X.take (Z*3))]]⟩) (On Z 3 32 X [Y,Af 0,.sc (.string a)] fun c e=>Bc fu call Q P O N M L K fu J U I (ByteArray.mk #[]) 0 W b c e Y 0 a)) (On Z 3 32 X [Y,Af 0,.sc (.string a)] fun c e=>Bc fu call Q P O N M L K fu J U I (ByteArray.mk #[]) 0 W b c e Y 0 a)) (On Z 3 32 X [Y,Af 0,.sc (.string a)] fun c e=>Bc fu call Q P O N M L K fu J U I (ByteArray.mk #[]) 0 W b c e Y 0 a))) (Az G (Az (!Array.toList (ByteArray.data H)==Array.toList (ByteArray.data (ByteArray.mk #[]))) (Dj (call 99 [.agg [Y,Af 0,.sc (.string a)]]) fun c e=>Ec c fun c=>Ar e<|Dj (call 140 [.sc (.string H),.sc (.string c)]) fun c e=>Cg c fun c=>Ar e<|Az (!c) (As (decide (Z*3<=X.length))<|some ⟨[(7:Int)],[[.sc (.string W),b,.own 3 Z (X.take (Z*3))]]⟩) (On Z 3 32 X [Y,Af 0,.sc (.string a)] fun c e=>Bc fu call Q P O N M L K fu J U I (ByteArray.mk #[]) 0 W b c e Y 0 a)) (On Z 3 32 X [Y,Af 0,.sc (.string a)] fun c e=>Bc fu call Q P O N M L K fu J U I (ByteArray.mk #[]) 0 W b c e Y 0 a)) (On Z 3 32 X [Y,Af 0,.sc (.string a)] fun c e=>Bc fu call Q P O N M L K fu J U I (ByteArray.mk #[]) 0 W b c e Y 0 a))) (Az (Y==4) (Dj (call 126 [.sc (.string V)]) fun a b=>Cg a fun a=>Ar b<|Az (!a) (As (decide (Z*3<=X.length))<|some ⟨[(6:Int)],[[.sc (.string W),T,.own 3 Z (X.take (Z*3))]]⟩) (Az G (Az (!Array.toList (ByteArray.data H)==Array.toList (ByteArray.data (ByteArray.mk #[]))) (Dj (call 99 [.agg [Y,Af S,.sc (.string V)]]) fun a b=>Ec a fun a=>Ar b<|Dj (call 140 [.sc (.string H),.sc (.string a)]) fun a b=>Cg a fun a=>Ar b<|Az (!a) (As (decide (Z*3<=X.length))<|some ⟨[(7:Int)],[[.sc (.string W),T,.own 3 Z (X.take (Z*3))]]⟩) (On Z 3 32 X [Y,Af S,.sc (.string V)] fun a b=>Bc fu call Q P O N M L K fu J U I (ByteArray.mk #[]) 0 W T a b Y S V)) (On Z 3 32 X [Y,Af S,.sc (.string V)] fun a b=>Bc fu call Q P O N M L K fu J U I (ByteArray.mk #[]) 0 W T a b Y S V)) (On Z 3 32 X [Y,Af S,.sc (.string V)] fun a b=>Bc fu call Q P O N M L K fu J U I (ByteArray.mk #[]) 0 W T a b Y S V))) (Az G (Az (!Array.toList (ByteArray.data H)==Array.toList (ByteArray.data (ByteArray.mk #[]))) (Dj (call 99 [.agg [Y,Af S,.sc (.string V)]]) fun a b=>Ec a fun a=>Ar b<|Dj (call 140 [.sc (.string H),.sc (.string a)]) fun a b=>Cg a fun a=>Ar b<|Az (!a) (As (decide (Z*3<=X.length))<|some ⟨[(7:Int)],[[.sc (.string W),T,.own 3 Z (X.take (Z*3))]]⟩) (On Z 3 32 X [Y,Af S,.sc (.string V)] fun a b=>Bc fu call Q P O N M L K fu J U I (ByteArray.mk #[]) 0 W T a b Y S V)) (On Z 3 32 X [Y,Af S,.sc (.string V)] fun a b=>Bc fu call Q P O N M L K fu J U I (ByteArray.mk #[]) 0 W T a b Y S V)) (On Z 3 32 X [Y,Af S,.sc (.string V)] fun a b=>Bc fu call Q P O N M L K fu J U I (ByteArray.mk #[]) 0 W T a b Y S V)))):=by cases E with|zero=>exact absurd M6 (Nat.lt_irrefl 0)|succ E=>kernel_rfl
theorem Fl(P:ByteArray)(O:Int)(N:Nat)(M:Ab)(L:Int)(K:Bool)(J:ByteArray)(I:Nat)(X U:Int)(T:Bool)(H:ByteArray)(S:Int)(W:ByteArray)(V:Int)(Z:Nat)(Y:Ab)(Q G:Int)(E:ByteArray):Bc fu call P O N M L K J (I+1) X U T H S W V Z Y Q G E=(Az T (Az (decide (S<U)) (Az (Q==6) (Aa (wrap .i64 (X+1)) fun a=>As (decide (Z*3<=Y.length))<|Bj (call 117 [.pbox [.sc (.string W),V,.own 3 Z (Y.take (Z*3))],a,.sc (.bool true),.sc (.string H)]) fun a b=>Dc .i64 a fun a=>Av b fun b c=>Av b fun b e=>Ec b fun b=>Cu .i64 e fun e f=>Ue 3 f fun f g h=>Ar h<|Ar c<|Az (a != 0) (As (decide (f*3<=g.length))<|some ⟨[a],[[.sc (.string b),e,.own 3 f (g.take (f*3))]]⟩) (As (decide ((↑Z:Int)<(↑f:Int)))<|Be .i64 (g.getD (0+Int.toNat (↑Z:Int)*3) .top) fun a=>Be .u64 (g.getD (0+Int.toNat (↑Z:Int)*3+1) .top) fun c=>Ec (g.getD (0+Int.toNat (↑Z:Int)*3+1+1) .top) fun h=>Dj (call 99 [.agg [a,Af c,.sc (.string h)]]) fun a c=>Ec a fun a=>Ar c<|Aa (wrap .i64 (X+1)) fun c=>As (decide (f*3<=g.length))<|Bj (call 117 [.pbox [.sc (.string b),e,.own 3 f (g.take (f*3))],c,.sc (.bool false),.sc (.string (ByteArray.mk #[]))]) fun b c=>Dc .i64 b fun b=>Av c fun c e=>Av c fun c f=>Ec c fun c=>Cu .i64 f fun f g=>Ue 3 g fun g h i=>Ar i<|Ar e<|Az (b != 0) (As (decide (g*3<=h.length))<|some ⟨[b],[[.sc (.string c),f,.own 3 g (h.take (g*3))]]⟩) (Aa (wrap .u64 (S+1)) fun b=>Bc fu call P O N M L K J I X U T a b c f g h Q G E))) (Aa (wrap .i64 (X+1)) fun a=>As (decide (Z*3<=Y.length))<|Bj (call 117 [.pbox [.sc (.string W),V,.own 3 Z (Y.take (Z*3))],a,.sc (.bool false),.sc (.string (ByteArray.mk #[]))]) fun a b=>Dc .i64 a fun a=>Av b fun b c=>Av b fun b e=>Ec b fun b=>Cu .i64 e fun e f=>Ue 3 f fun f g h=>Ar h<|Ar c<|Az (a != 0) (As (decide (f*3<=g.length))<|some ⟨[a],[[.sc (.string b),e,.own 3 f (g.take (f*3))]]⟩) (Aa (wrap .u64 (S+1)) fun a=>Bc fu call P O N M L K J I X U T H a b e f g Q G E))) (As (decide (Z*3<=Y.length))<|some ⟨[(0:Int)],[[.sc (.string W),V,.own 3 Z (Y.take (Z*3))]]⟩)) (As (decide (Z*3<=Y.length))<|some ⟨[(0:Int)],[[.sc (.string W),V,.own 3 Z (Y.take (Z*3))]]⟩)):=by kernel_rfl
theorem Wf(U:ByteArray)(T:Int)(W:Nat)(V:Ab)(Z:Int)(Y:Bool)(X:ByteArray):Fm C0 fu d 117 [.pbox [.sc (.string U),T,.own 3 W V],Z,.sc (.bool Y),.sc (.string X)] fun call=>As (decide (W*3<=V.length))<|Bj (call 138 [.pbox [.sc (.string U),T,.own 3 W (V.take (W*3))]]) fun a b=>Av a fun a c=>Dl a fun a=>Cu .i64 a fun a e=>Cu .u64 e fun e f=>Av f fun f g=>Ec f fun f=>Ar g<|Dc .i64 c fun c=>Av b fun b g=>Av b fun b h=>Ec b fun b=>Cu .i64 h fun h i=>Ue 3 i fun i j k=>Ar k<|Ar g<|Az (c != 0) (As (decide (i*3<=j.length))<|some ⟨[c],[[.sc (.string b),h,.own 3 i (j.take (i*3))]]⟩) (Az (a==3) (Az (a==5) (Az (decide ((↑i:Int)>=512)) (As (decide (i*3<=j.length))<|some ⟨[(8:Int)],[[.sc (.string b),h,.own 3 i (j.take (i*3))]]⟩) (Az Y (Dj (call 139 [a]) fun c g=>Cg c fun c=>Ar g<|Az (!c) (As (decide (i*3<=j.length))<|some ⟨[(3:Int)],[[.sc (.string b),h,.own 3 i (j.take (i*3))]]⟩) (Az (decide (Z>8)) (As (decide (i*3<=j.length))<|some ⟨[(5:Int)],[[.sc (.string b),h,.own 3 i (j.take (i*3))]]⟩) (Az (decide (e>1024)) (As (decide (i*3<=j.length))<|some ⟨[(8:Int)],[[.sc (.string b),h,.own 3 i (j.take (i*3))]]⟩) (Az (decide (e>512)) (As (decide (i*3<=j.length))<|some ⟨[(8:Int)],[[.sc (.string b),h,.own 3 i (j.take (i*3))]]⟩) (Aa (wrap .i64 ((↑(ByteArray.size b):Int)-h)) fun c=>Aa (wrap .u64 c) fun c=>Az (decide (c<e)) (As (decide (i*3<=j.length))<|some ⟨[(1:Int)],[[.sc (.string b),h,.own 3 i (j.take (i*3))]]⟩) (Ak fu call U T W V Z Y X fu Z Y X e true true b h i j a e f)))))) (Az (decide (Z>8)) (As (decide (i*3<=j.length))<|some ⟨[(5:Int)],[[.sc (.string b),h,.own 3 i (j.take (i*3))]]⟩) (Az (decide (e>1024)) (As (decide (i*3<=j.length))<|some ⟨[(8:Int)],[[.sc (.string b),h,.own 3 i (j.take (i*3))]]⟩) (Az (decide (e>512)) (As (decide (i*3<=j.length))<|some ⟨[(8:Int)],[[.sc (.string b),h,.own 3 i (j.take (i*3))]]⟩) (Aa (wrap .i64 ((↑(ByteArray.size b):Int)-h)) fun c=>Aa (wrap .u64 c) fun c=>Az (decide (c<e)) (As (decide (i*3<=j.length))<|some ⟨[(1:Int)],[[.sc (.string b),h,.own 3 i (j.take (i*3))]]⟩) (Ak fu call U T W V Z Y X fu Z Y X e true true b h i j a e f))))))) (Az (decide ((↑i:Int)>=512)) (As (decide (i*3<=j.length))<|some ⟨[(8:Int)],[[.sc (.string b),h,.own 3 i (j.take (i*3))]]⟩) (Az Y (Dj (call 139 [a]) fun c g=>Cg c fun c=>Ar g<|Az (!c) (As (decide (i*3<=j.length))<|some ⟨[(3:Int)],[[.sc (.string b),h,.own 3 i (j.take (i*3))]]⟩) (Az (decide (Z>8)) (As (decide (i*3<=j.length))<|some ⟨[(5:Int)],[[.sc (.string b),h,.own 3 i (j.take (i*3))]]⟩) (Az (decide (e>1024)) (As (decide (i*3<=j.length))<|some ⟨[(8:Int)],[[.sc (.string b),h,.own 3 i (j.take (i*3))]]⟩) (Az (a==6) (Az (decide (e>512)) (As (decide (i*3<=j.length))<|some ⟨[(8:Int)],[[.sc (.string b),h,.own 3 i (j.take (i*3))]]⟩) (Aa (wrap .i64 ((↑(ByteArray.size b):Int)-h)) fun c=>Aa (wrap .u64 c) fun c=>Az (decide (c<e)) (As (decide (i*3<=j.length))<|some ⟨[(1:Int)],[[.sc (.string b),h,.own 3 i (j.take (i*3))]]⟩) (Ak fu call U T W V Z Y X fu Z Y X e true (a==6) b h i j a e f))) (Aa (wrap .i64 ((↑(ByteArray.size b):Int)-h)) fun c=>Aa (wrap .u64 c) fun c=>Az (decide (c<e)) (As (decide (i*3<=j.length))<|some ⟨[(1:Int)],[[.sc (.string b),h,.own 3 i (j.take (i*3))]]⟩) (Ak fu call U T W V Z Y X fu Z Y X e true (a==6) b h i j a e f)))))) (Az (decide (Z>8)) (As (decide (i*3<=j.length))<|some ⟨[(5:Int)],[[.sc (.string b),h,.own 3 i (j.take (i*3))]]⟩) (Az (decide (e>1024)) (As (decide (i*3<=j.length))<|some ⟨[(8:Int)],[[.sc (.string b),h,.own 3 i (j.take (i*3))]]⟩) (Az (a==6) (Az (decide (e>512)) (As (decide (i*3<=j.length))<|some ⟨[(8:Int)],[[.sc (.string b),h,.own 3 i (j.take (i*3))]]⟩) (Aa (wrap .i64 ((↑(ByteArray.size b):Int)-h)) fun c=>Aa (wrap .u64 c) fun c=>Az (decide (c<e)) (As (decide (i*3<=j.length))<|some ⟨[(1:Int)],[[.sc (.string b),h,.own 3 i (j.take (i*3))]]⟩) (Ak fu call U T W V Z Y X fu Z Y X e true (a==6) b h i j a e f))) (Aa (wrap .i64 ((↑(ByteArray.size b):Int)-h)) fun c=>Aa (wrap .u64 c) fun c=>Az (decide (c<e)) (As (decide (i*3<=j.length))<|some ⟨[(1:Int)],[[.sc (.string b),h,.own 3 i (j.take (i*3))]]⟩) (Ak fu call U T W V Z Y X fu Z Y X e true (a==6) b h i j a e f)))))))) (Az (a==5) (Az (decide ((↑i:Int)>=512)) (As (decide (i*3<=j.length))<|some ⟨[(8:Int)],[[.sc (.string b),h,.own 3 i (j.take (i*3))]]⟩) (Az Y (Dj (call 139 [a]) fun c g=>Cg c fun c=>Ar g<|Az (!c) (As (decide (i*3<=j.length))<|some ⟨[(3:Int)],[[.sc (.string b),h,.own 3 i (j.take (i*3))]]⟩) (Az (decide (Z>8)) (As (decide (i*3<=j.length))<|some ⟨[(5:Int)],[[.sc (.string b),h,.own 3 i (j.take (i*3))]]⟩) (Az (a==4) (Az (decide (e>1024)) (As (decide (i*3<=j.length))<|some ⟨[(8:Int)],[[.sc (.string b),h,.own 3 i (j.take (i*3))]]⟩) (Az (decide (e>512)) (As (decide (i*3<=j.length))<|some ⟨[(8:Int)],[[.sc (.string b),h,.own 3 i (j.take (i*3))]]⟩) (Az (a==4) (Aa (wrap .i64 ((↑(ByteArray.size b):Int)-h)) fun c=>Aa (wrap .u64 c) fun c=>Az (decide (c<e)) (As (decide (i*3<=j.length))<|some ⟨[(1:Int)],[[.sc (.string b),h,.own 3 i (j.take (i*3))]]⟩) (Ak fu call U T W V Z Y X fu Z Y X e (a==4) true b h i j a e f)) (Ak fu call U T W V Z Y X fu Z Y X e (a==4) true b h i j a e f)))) (Az (decide (e>512)) (As (decide (i*3<=j.length))<|some ⟨[(8:Int)],[[.sc (.string b),h,.own 3 i (j.take (i*3))]]⟩) (Az (a==4) (Aa (wrap .i64 ((↑(ByteArray.size b):Int)-h)) fun c=>Aa (wrap .u64 c) fun c=>Az (decide (c<e)) (As (decide (i*3<=j.length))<|some ⟨[(1:Int)],[[.sc (.string b),h,.own 3 i (j.take (i*3))]]⟩) (Ak fu call U T W V Z Y X fu Z Y X e (a==4) true b h i j a e f)) (Ak fu call U T W V Z Y X fu Z Y X e (a==4) true b h i j a e f)))))) (Az (decide (Z>8)) (As (decide (i*3<=j.length))<|some ⟨[(5:Int)],[[.sc (.string b),h,.own 3 i (j.take (i*3))]]⟩) (Az (a==4) (Az (decide (e>1024)) (As (decide (i*3<=j.length))<|some ⟨[(8:Int)],[[.sc (.string b),h,.own 3 i (j.take (i*3))]]⟩) (Az (decide (e>512)) (As (decide (i*3<=j.length))<|some ⟨[(8:Int)],[[.sc (.string b),h,.own 3 i (j.take (i*3))]]⟩) (Az (a==4) (Aa (wrap .i64 ((↑(ByteArray.size b):Int)-h)) fun c=>Aa (wrap .u64 c) fun c=>Az (decide (c<e)) (As (decide (i*3<=j.length))<|some ⟨[(1:Int)],[[.sc (.string b),h,.own 3 i (j.take (i*3))]]⟩) (Ak fu call U T W V Z Y X fu Z Y X e (a==4) true b h i j a e f)) (Ak fu call U T W V Z Y X fu Z Y X e (a==4) true b h i j a e f)))) (Az (decide (e>512)) (As (decide (i*3<=j.length))<|some ⟨[(8:Int)],[[.sc (.string b),h,.own 3 i (j.take (i*3))]]⟩) (Az (a==4) (Aa (wrap .i64 ((↑(ByteArray.size b):Int)-h)) fun c=>Aa (wrap .u64 c) fun c=>Az (decide (c<e)) (As (decide (i*3<=j.length))<|some ⟨[(1:Int)],[[.sc (.string b),h,.own 3 i (j.take (i*3))]]⟩) (Ak fu call U T W V Z Y X fu Z Y X e (a==4) true b h i j a e f)) (Ak fu call U T W V Z Y X fu Z Y X e (a==4) true b h i j a e f))))))) (Az (decide ((↑i:Int)>=512)) (As (decide (i*3<=j.length))<|some ⟨[(8:Int)],[[.sc (.string b),h,.own 3 i (j.take (i*3))]]⟩) (Az Y (Dj (call 139 [a]) fun c g=>Cg c fun c=>Ar g<|Az (!c) (As (decide (i*3<=j.length))<|some ⟨[(3:Int)],[[.sc (.string b),h,.own 3 i (j.take (i*3))]]⟩) (Az (decide (Z>8)) (As (decide (i*3<=j.length))<|some ⟨[(5:Int)],[[.sc (.string b),h,.own 3 i (j.take (i*3))]]⟩) (Az (a==4) (Az (decide (e>1024)) (As (decide (i*3<=j.length))<|some ⟨[(8:Int)],[[.sc (.string b),h,.own 3 i (j.take (i*3))]]⟩) (Az (a==6) (Az (decide (e>512)) (As (decide (i*3<=j.length))<|some ⟨[(8:Int)],[[.sc (.string b),h,.own 3 i (j.take (i*3))]]⟩) (Az (a==4) (Aa (wrap .i64 ((↑(ByteArray.size b):Int)-h)) fun c=>Aa (wrap .u64 c) fun c=>Az (decide (c<e)) (As (decide (i*3<=j.length))<|some ⟨[(1:Int)],[[.sc (.string b),h,.own 3 i (j.take (i*3))]]⟩) (Ak fu call U T W V Z Y X fu Z Y X e (a==4) (a==6) b h i j a e f)) (Ak fu call U T W V Z Y X fu Z Y X e (a==4) (a==6) b h i j a e f))) (Az (a==4) (Aa (wrap .i64 ((↑(ByteArray.size b):Int)-h)) fun c=>Aa (wrap .u64 c) fun c=>Az (decide (c<e)) (As (decide (i*3<=j.length))<|some ⟨[(1:Int)],[[.sc (.string b),h,.own 3 i (j.take (i*3))]]⟩) (Ak fu call U T W V Z Y X fu Z Y X e (a==4) (a==6) b h i j a e f)) (Ak fu call U T W V Z Y X fu Z Y X e (a==4) (a==6) b h i j a e f)))) (Az (a==6) (Az (decide (e>512)) (As (decide (i*3<=j.length))<|some ⟨[(8:Int)],[[.sc (.string b),h,.own 3 i (j.take (i*3))]]⟩) (Az (a==4) (Aa (wrap .i64 ((↑(ByteArray.size b):Int)-h)) fun c=>Aa (wrap .u64 c) fun c=>Az (decide (c<e)) (As (decide (i*3<=j.length))<|some ⟨[(1:Int)],[[.sc (.string b),h,.own 3 i (j.take (i*3))]]⟩) (Ak fu call U T W V Z Y X fu Z Y X e (a==4) (a==6) b h i j a e f)) (Ak fu call U T W V Z Y X fu Z Y X e (a==4) (a==6) b h i j a e f))) (Az (a==4) (Aa (wrap .i64 ((↑(ByteArray.size b):Int)-h)) fun c=>Aa (wrap .u64 c) fun c=>Az (decide (c<e)) (As (decide (i*3<=j.length))<|some ⟨[(1:Int)],[[.sc (.string b),h,.own 3 i (j.take (i*3))]]⟩) (Ak fu call U T W V Z Y X fu Z Y X e (a==4) (a==6) b h i j a e f)) (Ak fu call U T W V Z Y X fu Z Y X e (a==4) (a==6) b h i j a e f)))))) (Az (decide (Z>8)) (As (decide (i*3<=j.length))<|some ⟨[(5:Int)],[[.sc (.string b),h,.own 3 i (j.take (i*3))]]⟩) (Az (a==4) (Az (decide (e>1024)) (As (decide (i*3<=j.length))<|some ⟨[(8:Int)],[[.sc (.string b),h,.own 3 i (j.take (i*3))]]⟩) (Az (a==6) (Az (decide (e>512)) (As (decide (i*3<=j.length))<|some ⟨[(8:Int)],[[.sc (.string b),h,.own 3 i (j.take (i*3))]]⟩) (Az (a==4) (Aa (wrap .i64 ((↑(ByteArray.size b):Int)-h)) fun c=>Aa (wrap .u64 c) fun c=>Az (decide (c<e)) (As (decide (i*3<=j.length))<|some ⟨[(1:Int)],[[.sc (.string b),h,.own 3 i (j.take (i*3))]]⟩) (Ak fu call U T W V Z Y X fu Z Y X e (a==4) (a==6) b h i j a e f)) (Ak fu call U T W V Z Y X fu Z Y X e (a==4) (a==6) b h i j a e f))) (Az (a==4) (Aa (wrap .i64 ((↑(ByteArray.size b):Int)-h)) fun c=>Aa (wrap .u64 c) fun c=>Az (decide (c<e)) (As (decide (i*3<=j.length))<|some ⟨[(1:Int)],[[.sc (.string b),h,.own 3 i (j.take (i*3))]]⟩) (Ak fu call U T W V Z Y X fu Z Y X e (a==4) (a==6) b h i j a e f)) (Ak fu call U T W V Z Y X fu Z Y X e (a==4) (a==6) b h i j a e f)))) (Az (a==6) (Az (decide (e>512)) (As (decide (i*3<=j.length))<|some ⟨[(8:Int)],[[.sc (.string b),h,.own 3 i (j.take (i*3))]]⟩) (Az (a==4) (Aa (wrap .i64 ((↑(ByteArray.size b):Int)-h)) fun c=>Aa (wrap .u64 c) fun c=>Az (decide (c<e)) (As (decide (i*3<=j.length))<|some ⟨[(1:Int)],[[.sc (.string b),h,.own 3 i (j.take (i*3))]]⟩) (Ak fu call U T W V Z Y X fu Z Y X e (a==4) (a==6) b h i j a e f)) (Ak fu call U T W V Z Y X fu Z Y X e (a==4) (a==6) b h i j a e f))) (Az (a==4) (Aa (wrap .i64 ((↑(ByteArray.size b):Int)-h)) fun c=>Aa (wrap .u64 c) fun c=>Az (decide (c<e)) (As (decide (i*3<=j.length))<|some ⟨[(1:Int)],[[.sc (.string b),h,.own 3 i (j.take (i*3))]]⟩) (Ak fu call U T W V Z Y X fu Z Y X e (a==4) (a==6) b h i j a e f)) (Ak fu call U T W V Z Y X fu Z Y X e (a==4) (a==6) b h i j a e f))))))))):=by show _=_;kernel_rfl
theorem ES(Y:Nat)(Z:Ab):Fm C0 fu d 80 [Am 1 Y Z] fun call=>As (decide (Z.length=Y))<|F3 (bytesOf Z) fun a=>Bj (call 117 [.pbox [.sc (.string (ByteArray.mk (List.toArray a))),(0:Int),.own 3 0 []],(0:Int),.sc (.bool false),.sc (.string (ByteArray.mk #[]))]) fun a b=>Dc .i64 a fun a=>Av b fun b c=>Av b fun b e=>Ec b fun b=>Cu .i64 e fun b e=>Ue 3 e fun e f g=>Ar g<|Ar c<|Az (a != 0) (Bu [.own 3 0 [],(0:Int),a]) (As (decide (e*3<=f.length))<|Bu [.own 3 e (f.take (e*3)),b,(0:Int)]):=by show _=_;kernel_rfl
end
def Cy(s:ByteArray):B8:=s.data.toList.map fun b=>(b.toNat:Int)
def Bk(l:B8):ByteArray:=⟨(l.map fun n=>n.toNat.toUInt8).toArray⟩
theorem Gl(s:ByteArray):(Cy s).length=s.size:=by unfold Cy;rw[List.length_map];rfl
theorem BK(s:ByteArray):I7 (Cy s):=by intro x hx;obtain⟨b,_,rfl⟩:=List.mem_map.1 hx;have:=b.toNat_lt;omega
theorem Lu(s:ByteArray):Ej s=Ac .u8 (Cy s):=by
 unfold Ej Cy
 induction s.data.toList with
 |nil=>rfl
 |cons b l ih=>rw[Sn,Sn,ih];rfl
theorem H1(l:B8):(Bk l).size=l.length:=by show (l.map fun n=>n.toNat.toUInt8).toArray.size=_;simp
theorem O9{l:B8}(h:I7 l):Cy (Bk l)=l:=by
 unfold Cy Bk;simp only[List.map_map]
 have:∀l:B8,I7 l->List.map ((fun b:UInt8=>(b.toNat:Int)) ∘ fun n:Int=>n.toNat.toUInt8) l=l:=by
  intro l
  induction l with
  |nil=>intro _;rfl
  |cons x l ih=>
   intro h;have hx:=h x (by simp);rw[Sn,ih fun y hy=>h y (by simp[hy])]
   congr 1
   show ((x.toNat.toUInt8.toNat:Nat):Int)=x;rw[Nat.toUInt8,UInt8.toNat_ofNat'];omega
 exact this l h
theorem Tu(s:ByteArray):Bk (Cy s)=s:=by
 unfold Bk Cy;simp only[List.map_map]
 have:∀l:List UInt8,List.map ((fun n:Int=>n.toNat.toUInt8) ∘ fun b:UInt8=>(b.toNat:Int)) l=l:=by
  intro l
  induction l with
  |nil=>rfl
  |cons x l ih=>
   rw[Sn,ih]
   congr 1
   show ((x.toNat:Int).toNat).toUInt8=x;rw[H6];simp
 rw[this]
theorem Hc:∀l:B8,bytesOf (Ac .u8 l)=some (l.map fun n=>n.toNat.toUInt8)
 |[]=>rfl
 |x::l=>by
  show (bytesOf (Ac .u8 l)).map (x.toNat.toUInt8 :: ·)=_;rw[Hc l];rfl
theorem Aha(l:B8)(s:ByteArray):Bk l++s=Bk (l++Cy s):=by
 conv=>lhs;rw[<-Tu s]
 unfold Bk;apply ByteArray.ext;rw[ByteArray.data_append];simp
def tb(n:Int)(k:Nat):B8:=(List.range' (8-k) k).map (Eu n)
def Ee(mj n:Int):B8:=
 if n<24 then [32*mj+n] else if n<256 then (32*mj+24)::tb n 1 else if n<65536 then (32*mj+25)::tb n 2 else if n<4294967296 then (32*mj+26)::tb n 4 else (32*mj+27)::tb n 8
structure It where
 k:Int
 n:Int
 s:ByteArray
def It.cells(x:It):Ab:=[Au x.k,Af x.n,.sc (.string x.s)]
def B9(x:It):B8:=
 if x.k=7 then [wrap .u8 (244+wrap .u8 x.n)] else if x.k=8 then [246] else if x.k=3 then Ee 2 x.s.size++Cy x.s else if x.k=4 then Ee 3 x.s.size++Cy x.s else Ee (x.k-1) x.n
theorem HV(n:Int)(k:Nat):(tb n k).length=k:=by simp[tb]
theorem Bbz(n:Int)(k:Nat):I7 (tb n k):=by intro x hx;obtain⟨j,_,rfl⟩:=List.mem_map.1 hx;exact Ahg n j
theorem Ko(mj n:Int):1<=(Ee mj n).length/\(Ee mj n).length<=9:=by
 unfold Ee
 repeat' split
 all_goals simp[HV]
theorem Adp{mj n:Int}(h0:0<=mj)(h1:mj<=6)(hn:0<=n):I7 (Ee mj n):=by
 have hc:∀(a:Int) (l:B8),0<=a/\a<=255->I7 l->I7 (a::l):=by
  intro a l ha hl x hx;rcases B7.1 hx with rfl|hx
  ·exact ha
  ·exact hl x hx
 unfold Ee
 repeat' split
 ·exact hc _ _ (by omega) (fun _ h=>by simp at h)
 all_goals exact hc _ _ (by omega) (Bbz _ _)
theorem Alw{x:It}(h0:1<=x.k)(h1:x.k<=8)(hn:0<=x.n):I7 (B9 x):=by
 have A51:∀(a b:B8),I7 a->I7 b->I7 (a++b):=by
  intro a b ha hb y hy;rcases B4.1 hy with h|h
  ·exact ha y h
  ·exact hb y h
 unfold B9
 repeat' split
 ·intro y hy;simp at hy;subst hy;simp only[wrap,IntKind.signed,IntKind.bits];simp;omega
 ·intro y hy;simp at hy;omega
 ·exact A51 _ _ (Adp (by omega) (by omega) (by omega)) (BK _)
 ·exact A51 _ _ (Adp (by omega) (by omega) (by omega)) (BK _)
 ·exact Adp (by omega) (by omega) hn
theorem Abr(x:It):(B9 x).length<=9+x.s.size:=by
 unfold B9;have h2:=Ko 2 x.s.size;have h3:=Ko 3 x.s.size;have h4:=Ko (x.k-1) x.n;have hs:=Gl x.s
 repeat' split
 all_goals try simp only[F9,He,Ud]
 all_goals omega
section
variable {fu d:Nat}
theorem ZP{call:Bq}{Mf:Nat}{a0:Ab}{a1 a2 n:Int}:∀(k nn:Nat)(l:B8),k<=8->k<nn->l.length+k<=1000000 ->
  Fn fu call Mf a0 a1 a2 nn l.length n ((k:Int)-1) (Ac .u8 l)=some ⟨[.own 1 (l++tb n k).length (Ac .u8 (l++tb n k))],[]⟩
 |_,0,_,_,h,_=>by omega
 |0,nn+1,l,hk,hn,hl=>by
  have L:=Ap .u8 l;rw[Ry,D6 _ _ _ (by omega)];simp(disch:=omega)only[Bz,Bx,De,Mi,L];simp[tb]
 |k+1,nn+1,l,hk,hn,hl=>by
  have ih:=ZP (call:=call) (Mf:=Mf) (a0:=a0) (a1:=a1) (a2:=a2) (n:=n) k nn (l++[Eu n (8-(k+1))]) (by omega) (by omega) (by simp;omega)
  have L:=Ap .u8 l;have w8:wrap .i64 (8*(((k+1:Nat):Int)-1))=8*(k:Int):=by rw[Ag (by omega) (by omega)];omega
  have w:wrap .i64 (((k+1:Nat):Int)-1-1)=(k:Int)-1:=by rw[Ag (by omega) (by omega)];omega
  have hb:wrap .u8 (Fp .u64 n (8*(k:Int)))=Eu n (8-(k+1)):=by
   unfold Eu;rw[show 56-8*((8-(k+1):Nat):Int)=8*(k:Int) by omega]
  have et:tb n (k+1)=Eu n (8-(k+1))::tb n k:=by
   unfold tb;rw[List.range'_succ,Sn,show 8-(k+1)+1=8-k by omega]
  have ea:l++tb n (k+1)=l++[Eu n (8-(k+1))]++tb n k:=by rw[et];simp
  rw[ea,<-ih,Ry];simp(disch:=omega)only[Bz,Bx,w8,hb,w,De,Mi,L,G7,F9,He,Ud,Ck]
theorem Bap{mj:Int}(h0:0<=mj)(h1:mj<=7):Hq .u8 mj 5=32*mj:=by
 have:mj=0\/mj=1\/mj=2\/mj=3\/mj=4\/mj=5\/mj=6\/mj=7:=by omega
 rcases this with rfl|rfl|rfl|rfl|rfl|rfl|rfl|rfl<;>decide
theorem And(Bo:1000<=fu){l:B8}(hl:l.length<=900000){mj n:Int}(h0:0<=mj)(h1:mj<=5)(hn:0<=n):Aq C0 prog fu (d+1) 133 [.own 1 l.length (Ac .u8 l),.sc (.int .u8 mj),Af n]=some ⟨[.own 1 (l++Ee mj n).length (Ac .u8 (l++Ee mj n))],[]⟩:=by
 rw[KC];have s5:=Bap h0 (by omega);have L:=Ap .u8 l;have w24:wrap .u8 (32*mj+24)=32*mj+24:=Il (by omega) (by omega);have w25:wrap .u8 (32*mj+25)=32*mj+25:=Il (by omega) (by omega);have w26:wrap .u8 (32*mj+26)=32*mj+26:=Il (by omega) (by omega);have w27:wrap .u8 (32*mj+27)=32*mj+27:=Il (by omega) (by omega);have lp:=fun (k:Nat) (hk:k<=8) (b:Int)=>ZP (fu:=fu) (call:=Aq C0 prog fu d) (Mf:=l.length) (a0:=Ac .u8 l) (a1:=mj) (a2:=n) (n:=n) k fu (l++[b]) hk (by omega) (by simp;omega)
 have ec:∀(b:Int) (t:B8),l++b::t=l++[b]++t:=by intro b t;simp
 unfold Ee;by_cases c1:n<24
 ·have wn:wrap .u8 n=n:=Il (by omega) (by omega);have ws:wrap .u8 (32*mj+n)=32*mj+n:=Il (by omega) (by omega);have L1:=Ap .u8 (l++[32*mj+n]);have t1:=Mi .u8 (l++[32*mj+n]);simp only[F9,He,Ud,Ck] at L1 t1;rw[Bn c1];simp(disch:=omega)only[Bz,Bx,s5,wn,ws,De,Mi,L,G7,L1,t1,F9,He,Ud,Ck]
 ·by_cases c2:n<256
  ·have l1:=lp 1 (by omega) (32*mj+24);rw[show ((1:Nat):Int)-1=0 by omega] at l1;rw[A4 c1,Bn c2,ec,<-l1];simp(disch:=omega)only[Bz,Bx,s5,w24,De,Mi,L,G7,F9,He,Ud,Ck]
  ·by_cases c3:n<65536
   ·have l1:=lp 2 (by omega) (32*mj+25);rw[show ((2:Nat):Int)-1=1 by omega] at l1;rw[A4 c1,A4 c2,Bn c3,ec,<-l1];simp(disch:=omega)only[Bz,Bx,s5,w25,De,Mi,L,G7,F9,He,Ud,Ck]
   ·by_cases c4:n<4294967296
    ·have l1:=lp 4 (by omega) (32*mj+26);rw[show ((4:Nat):Int)-1=3 by omega] at l1;rw[A4 c1,A4 c2,A4 c3,Bn c4,ec,<-l1];simp(disch:=omega)only[Bz,Bx,s5,w26,De,Mi,L,G7,F9,He,Ud,Ck]
    ·have l1:=lp 8 (by omega) (32*mj+27);rw[show ((8:Nat):Int)-1=7 by omega] at l1;rw[A4 c1,A4 c2,A4 c3,A4 c4,ec,<-l1];simp(disch:=omega)only[Bz,Bx,s5,w27,De,Mi,L,G7,F9,He,Ud,Ck]
structure It.ok(x:It):Prop where
 k1:1<=x.k
 k8:x.k<=8
 n0:0<=x.n
 s0:x.s.size<=500000
theorem Aly(Bo:1000<=fu){l:B8}(hl:l.length<=300000){x:It}(hx:x.ok):Aq C0 prog fu (d+2) 108 [.own 1 l.length (Ac .u8 l),.agg x.cells]=some ⟨[.own 1 (l++B9 x).length (Ac .u8 (l++B9 x))],[]⟩:=by
 obtain⟨k,n,s⟩:=x;obtain⟨k1,k8,n0,s0⟩:=hx;simp only at k1 k8 n0 s0;refine (MS fu (d+1) l.length (Ac .u8 l) k n s).trans ?_;have L:=Ap .u8 l;have TB:=Gl s;unfold B9;simp only;by_cases c7:k=7
 ·subst c7;have L1:=Ap .u8 (l++[wrap .u8 (244+wrap .u8 n)]);have t1:=Mi .u8 (l++[wrap .u8 (244+wrap .u8 n)]);simp only[F9,He,Ud,Ck] at L1 t1;simp(disch:=omega)only[Bz,Bx,Gy,if_true,De,Mi,L,G7,L1,t1,F9,He,Ud,Ck]
 ·by_cases c8:k=8
  ·subst c8;have L1:=Ap .u8 (l++[246]);have t1:=Mi .u8 (l++[246]);simp only[F9,He,Ud,Ck] at L1 t1;rw[A4 c7,Bn rfl];simp(disch:=omega)only[Bz,Bx,Gy,c7,if_false,if_true,De,Mi,L,G7,L1,t1,F9,He,Ud,Ck]
  ·have dat:∀mj:Int,0<=mj->mj<=5->(Aq C0 prog fu (d+1) 133 [.own 1 l.length (Ac .u8 l),.sc (.int .u8 mj),Af s.size]=some ⟨[.own 1 (l++Ee mj s.size).length (Ac .u8 (l++Ee mj s.size))],[]⟩)/\(l++Ee mj s.size).length<=300009/\List.take (l++Ee mj s.size).length (Ac .u8 (l++Ee mj s.size))=Ac .u8 (l++Ee mj s.size)/\(Ac .u8 (l++Ee mj s.size)).length=(l++Ee mj s.size).length/\Ac .u8 (l++Ee mj s.size)++Ej s=Ac .u8 (l++(Ee mj s.size++Cy s))/\(l++(Ee mj s.size++Cy s)).length=(l++Ee mj s.size).length+s.size/\(Ac .u8 (l++(Ee mj s.size++Cy s))).length=(l++Ee mj s.size).length+s.size:=by
    intro mj h0 h1;have hh:=Ko mj s.size;refine⟨And Bo (by omega) h0 h1 (by omega),by rw[F9];omega,Mi _ _,Ap _ _,?_,?_,?_⟩
    ·rw[Lu,<-FX,Ac,Ac,Ac,List.flatMap_append (xs:=l++Ee mj s.size)]
    ·rw[<-FX,F9,TB]
    ·rw[Ap,<-FX,F9,TB]
   have ss:(Ej s).length=s.size:=by rw[Lu,Ap,TB]
   have wsz:wrap .u64 (s.size:Int)=s.size:=Cd (by omega) (by omega);rw[A4 c7,A4 c8];by_cases c3:k=3
   ·subst c3;obtain⟨p1,p2,p3,p4,p5,p6,p7⟩:=dat 2 (by omega) (by omega);have w1:wrap .i64 ((3:Int)-1)=2:=by decide
    have w2:wrap .u8 (2:Int)=2:=by decide
    have t1:List.take ((l++Ee 2 s.size).length+s.size) (Ac .u8 (l++(Ee 2 s.size++Cy s)))=Ac .u8 (l++(Ee 2 s.size++Cy s)):=Hg (by omega);rw[Bn rfl];simp(disch:=omega)only[Bz,Bx,Gy,c7,c8,if_false,if_true,w1,w2,wsz,De,Mi,L,p1];generalize (l++Ee 2 s.size).length=N at *
    simp(disch:=omega)only[Bz,Bx,De,p3,p4,p5,p7,t1,ss];rw[p6]
   ·by_cases c4:k=4
    ·subst c4;obtain⟨p1,p2,p3,p4,p5,p6,p7⟩:=dat 3 (by omega) (by omega);have w1:wrap .i64 ((4:Int)-1)=3:=by decide
     have w2:wrap .u8 (3:Int)=3:=by decide
     have t1:List.take ((l++Ee 3 s.size).length+s.size) (Ac .u8 (l++(Ee 3 s.size++Cy s)))=Ac .u8 (l++(Ee 3 s.size++Cy s)):=Hg (by omega);rw[A4 c3,Bn rfl];simp(disch:=omega)only[Bz,Bx,Gy,c7,c8,c3,if_false,if_true,w1,w2,wsz,De,Mi,L,p1];generalize (l++Ee 3 s.size).length=N at *
     simp(disch:=omega)only[Bz,Bx,De,p3,p4,p5,p7,t1,ss];rw[p6]
    ·have w1:wrap .i64 (k-1)=k-1:=Ag (by omega) (by omega);have w2:wrap .u8 (k-1)=k-1:=Il (by omega) (by omega);have p1:=And (fu:=fu) (d:=d) Bo (l:=l) (by omega) (mj:=k-1) (n:=n) (by omega) (by omega) n0;have L2:=Ap .u8 (l++Ee (k-1) n);have t2:=Mi .u8 (l++Ee (k-1) n);rw[A4 c3,A4 c4];simp(disch:=omega)only[Bz,Bx,Gy,c7,c8,c3,c4,if_false,w1,w2,De,Mi,L,p1,L2,t2]
end
section
variable {xs:FuncId->Option (Ab->Option Dt)}(fu d:Nat)(call:Bq)
theorem CE(Z Y X:Int):Fm C0 fu d 51 [Z,Y,X] fun call=>Az (decide (Z>=Y)) (Bu [.sc (.bool (decide (Z<=X)))]) (Bu [.sc (.bool false)]):=by show _=_;kernel_rfl
theorem DQ(Z:Int):Fm C0 fu d 56 [Z] fun call=>Aa (wrap .u64 Z) fun a=>Bu [.agg [(5:Int),Af a,.sc (.string (ByteArray.mk #[]))]]:=by show _=_;kernel_rfl
theorem FU(Z:ByteArray):Fm C0 fu d 97 [.sc (.string Z)] fun call=>Bu [.agg [(4:Int),Af 0,.sc (.string Z)]]:=by show _=_;kernel_rfl
theorem CC(Z:Int):Fm C0 fu d 57 [Af Z] fun call=>Bu [.agg [(1:Int),Af Z,.sc (.string (ByteArray.mk #[]))]]:=by show _=_;kernel_rfl
theorem GS(Y:Nat)(Z:Ab):Fm C0 fu d 98 [Am 1 Y Z] fun call=>As (decide (Z.length=Y))<|F3 (bytesOf Z) fun a=>Bu [.agg [(3:Int),Af 0,.sc (.string (ByteArray.mk (List.toArray a)))]]:=by show _=_;kernel_rfl
def Ik(Z:Nat)(Y:Ab)(X W:Nat)(V:Ab)(U:Nat)(T:Int)(S:Ab):Option Dt:=K0 fu call 59 Tryz.f59 [Am 3 Z Y] [.r,.r,.l,.r,.l] X ⟨lk [(0,Am 3 W V),(3,.view 3 1 0 U),(4,T)],B3 [(3,.ar false S)]⟩
theorem Od(U:Nat)(T:Ab)(S V:Nat)(X:Ab)(Z:Nat)(Y:Int)(W:Ab):Ik fu call U T (S+1) V X Z Y W=(Az (decide (Y<(↑V:Int))) (As (decide (0<=Y)&&decide (Y<(↑V:Int)))<|Be .i64 (X.getD (Y.toNat*3) .top) fun a=>Be .u64 (X.getD (Y.toNat*3+1) .top) fun b=>Ec (X.getD (Y.toNat*3+1+1) .top) fun c=>Dj (call 99 [.agg [a,Af b,.sc (.string c)]]) fun a b=>Ec a fun a=>Ar b<|As (decide (Z*1<=W.length)&&decide (List.length (Ej a)=ByteArray.size a*1)&&decide ((Z+ByteArray.size a)*1<=1099511627776)&&decide (Z+ByteArray.size a<=1099511627776))<|Aa (Z+ByteArray.size a) fun b=>Aa (List.take (Z*1) W++Ej a) fun a=>Aa (wrap .i64 (Y+1)) fun c=>Ik fu call U T S V X b c a) (As (decide (Z*1<=W.length))<|Bu [.own 1 Z (W.take (Z*1))])):=by kernel_rfl
theorem EF(Z:Nat)(Y:Ab):Fm C0 fu d 59 [Am 3 Z Y] fun call=>Ik fu call Z Y fu Z Y 0 0 ([]):=by show _=_;kernel_rfl
end
def Yy(x:It):B8:=
 if x.k=7 then [wrap .u8 (244+wrap .u8 x.n)] else if x.k=8 then [246] else if x.k=3 then Ee 2 x.s.size else if x.k=4 then Ee 3 x.s.size else Ee (x.k-1) x.n
def It.dat(x:It):Prop:=x.k=3\/x.k=4\/Cy x.s=[]
theorem Aoo{x:It}(h:x.dat):B9 x=Yy x++Cy x.s:=by
 unfold B9 Yy;by_cases c7:x.k=7
 ·rcases h with h|h|h
  ·omega
  ·omega
  ·simp[c7,h]
 ·by_cases c8:x.k=8
  ·rcases h with h|h|h
   ·omega
   ·omega
   ·simp[c8,h]
  ·by_cases c3:x.k=3
   ·simp[c3]
   ·by_cases c4:x.k=4
    ·simp[c4]
    ·rcases h with h|h|h
     ·omega
     ·omega
     ·simp[c7,c8,c3,c4,h]
theorem Aqm(x:It):(Yy x).length<=9:=by
 have h2:=Ko 2 x.s.size;have h3:=Ko 3 x.s.size;have h4:=Ko (x.k-1) x.n;unfold Yy
 repeat' split
 all_goals try simp only[He,Ud]
 all_goals omega
theorem Ara(v:Int):Fp .u64 v 0=v:=by
 show v.fdiv (2 ^ (min (0:Int).toNat IntKind.u64.bits))=v;have:(2:Int) ^ (min (0:Int).toNat IntKind.u64.bits)=1:=by decide
 rw[this,Int.fdiv_one]
theorem tb1(v:Int):tb v 1=[wrap .u8 v]:=by show [wrap .u8 (Fp .u64 v (56-8*((7:Nat):Int)))]=_;rw[show (56:Int)-8*((7:Nat):Int)=0 by omega,Ara]
theorem tb2(v:Int):tb v 2=[wrap .u8 (Fp .u64 v 8),wrap .u8 v]:=by show [wrap .u8 (Fp .u64 v (56-8*((6:Nat):Int))),wrap .u8 (Fp .u64 v (56-8*((7:Nat):Int)))]=_;rw[show (56:Int)-8*((7:Nat):Int)=0 by omega,show (56:Int)-8*((6:Nat):Int)=8 by omega,Ara]
theorem tb4(v:Int):tb v 4=[wrap .u8 (Fp .u64 v 24),wrap .u8 (Fp .u64 v 16),wrap .u8 (Fp .u64 v 8),wrap .u8 v]:=by show [wrap .u8 (Fp .u64 v (56-8*((4:Nat):Int))),wrap .u8 (Fp .u64 v (56-8*((5:Nat):Int))),wrap .u8 (Fp .u64 v (56-8*((6:Nat):Int))),wrap .u8 (Fp .u64 v (56-8*((7:Nat):Int)))]=_;rw[show (56:Int)-8*((7:Nat):Int)=0 by omega,show (56:Int)-8*((6:Nat):Int)=8 by omega,show (56:Int)-8*((5:Nat):Int)=16 by omega,show (56:Int)-8*((4:Nat):Int)=24 by omega,Ara]
theorem tb8(v:Int):tb v 8=Fo v:=rfl
section
variable {fu d:Nat}
theorem Ar4(Bo:1000<=fu){k n:Int}{s:ByteArray}{nn:Nat}(hn:0<nn){mj v:Int}(h0:0<=mj)(h1:mj<=5)(hv:0<=v):
  Et fu (Aq C0 prog fu (d+1)) k n s nn v (32*mj)=some ⟨[.own 1 (Ee mj v).length (Ac .u8 (Ee mj v))],[]⟩:=by
 rw[CD (M6:=hn)];have w24:wrap .u8 (32*mj+24)=32*mj+24:=Il (by omega) (by omega);have w25:wrap .u8 (32*mj+25)=32*mj+25:=Il (by omega) (by omega);have w26:wrap .u8 (32*mj+26)=32*mj+26:=Il (by omega) (by omega);have w27:wrap .u8 (32*mj+27)=32*mj+27:=Il (by omega) (by omega);unfold Ee;by_cases c1:v<24
 ·have wn:wrap .u8 v=v:=Il (by omega) (by omega);have ws:wrap .u8 (32*mj+v)=32*mj+v:=Il (by omega) (by omega);rw[Bn c1];simp(disch:=omega)only[Bz,Bx,wn,ws];rfl
 ·by_cases c2:v<256
  ·rw[A4 c1,Bn c2,tb1];simp(disch:=omega)only[Bz,Bx,w24];rfl
  ·by_cases c3:v<65536
   ·rw[A4 c1,A4 c2,Bn c3,tb2];simp(disch:=omega)only[Bz,Bx,w25];rfl
   ·by_cases c4:v<4294967296
    ·rw[A4 c1,A4 c2,A4 c3,Bn c4,tb4];simp(disch:=omega)only[Bz,Bx,w26];rfl
    ·have wd:=A4w (fu:=fu) (d:=d) Bo v;have L:=Ap .u8 (Fo v);rw[Hn] at L;have t8:List.take 8 (Ac .u8 (Fo v))=Ac .u8 (Fo v):=Hg (by omega);have eC:[PV.sc (.int .u8 (32*mj+27))]++Ac .u8 (Fo v)=Ac .u8 ((32*mj+27)::Fo v):=rfl;have L9:(Ac .u8 ((32*mj+27)::Fo v)).length=9:=by rw[Ap,He,Hn]
     have t9:List.take 9 (Ac .u8 ((32*mj+27)::Fo v))=Ac .u8 ((32*mj+27)::Fo v):=Hg (by omega);rw[A4 c1,A4 c2,A4 c3,A4 c4,tb8,He,Hn];simp(disch:=omega)only[Bz,Bx,w27,wd,De,Ck,Er,L,t8,eC,Nat.reduceAdd,L9,t9]
theorem Ate(Bo:1000<=fu){x:It}(hx:x.ok):Aq C0 prog fu (d+2) 127 [.agg x.cells]=some ⟨[.own 1 (Yy x).length (Ac .u8 (Yy x))],[]⟩:=by
 obtain⟨k,n,s⟩:=x;obtain⟨k1,k8,n0,s0⟩:=hx;simp only at k1 k8 n0 s0;refine (IZ fu (d+1) k n s).trans ?_;have wsz:wrap .u64 (s.size:Int)=s.size:=Cd (by omega) (by omega);have J:=fun (mj v:Int) (h0:0<=mj) (h1:mj<=5) (hv:0<=v)=>Ar4 (fu:=fu) (d:=d) Bo (k:=k) (n:=n) (s:=s) (nn:=fu) (by omega) h0 h1 hv;have j0:=J 0 n (by omega) (by omega) n0;have j1:=J 1 n (by omega) (by omega) n0;have j2:=J 2 s.size (by omega) (by omega) (by omega);have j3:=J 3 s.size (by omega) (by omega) (by omega);have j4:=J 4 n (by omega) (by omega) n0;have j5:=J 5 n (by omega) (by omega) n0;rw[show (32:Int)*0=0 by omega] at j0;rw[show (32:Int)*1=32 by omega] at j1;rw[show (32:Int)*2=64 by omega] at j2;rw[show (32:Int)*3=96 by omega] at j3;rw[show (32:Int)*4=128 by omega] at j4;rw[show (32:Int)*5=160 by omega] at j5;unfold Yy;simp only
 have:k=1\/k=2\/k=3\/k=4\/k=5\/k=6\/k=7\/k=8:=by omega
 rcases this with rfl|rfl|rfl|rfl|rfl|rfl|rfl|rfl
 ·simp only[Bz,Bx,Gy,Int.reduceEq,if_true,if_false,Int.reduceSub,j0]
 ·simp only[Bz,Bx,Gy,Int.reduceEq,if_true,if_false,Int.reduceSub,j1]
 ·simp only[Bz,Bx,Gy,Int.reduceEq,if_true,if_false,Int.reduceSub,wsz,j2]
 ·simp only[Bz,Bx,Gy,Int.reduceEq,if_true,if_false,Int.reduceSub,wsz,j3]
 ·simp only[Bz,Bx,Gy,Int.reduceEq,if_true,if_false,Int.reduceSub,j4]
 ·simp only[Bz,Bx,Gy,Int.reduceEq,if_true,if_false,Int.reduceSub,j5]
 ·simp only[Bz,Bx,Gy,Int.reduceEq,if_true,if_false];rfl
 ·simp only[Bz,Bx,Gy,Int.reduceEq,if_true,if_false];rfl
theorem FD(Bo:1000<=fu){x:It}(hx:x.ok)(hd:x.dat):Aq C0 prog fu (d+3) 99 [.agg x.cells]=some ⟨[.sc (.string (Bk (B9 x)))],[]⟩:=by
 refine (GD fu (d+2) x.k x.n x.s).trans ?_;have hr:=Ate (fu:=fu) (d:=d) Bo hx;have L:=Ap .u8 (Yy x);have l9:=Aqm x;have bo:=Hc (Yy x);have eA:ByteArray.mk (List.map (fun n:Int=>n.toNat.toUInt8) (Yy x)).toArray=Bk (Yy x):=rfl;have sz:=H1 (Yy x);have s0:=hx.s0;have ap:Bk (Yy x)++x.s=Bk (B9 x):=by rw[Aha,Aoo hd]
 simp only[It.cells] at hr;simp(disch:=omega)only[Bz,Bx,hr,De,Ck,Er,Mi,L,bo,eA,sz,ap]
def Ay(its:List It):Ab:=its.flatMap It.cells
theorem It.cells_len(x:It):x.cells.length=3:=rfl
def Bg(its:List It):B8:=its.flatMap B9
theorem PY{Mf:Nat}{a0:Ab}{its:List It}(hk:∀x∈its,x.ok/\x.dat)(hl:its.length<=1000)(Bo:1000<=fu):∀(r:List It)(i nn:Nat)(b:B8),its.drop i=r->r.length<nn->b.length+500010*r.length<=1000000000 ->
  Ik fu (Aq C0 prog fu (d+3)) Mf a0 nn its.length (Ay its) b.length i (Ac .u8 b)=some ⟨[.own 1 (b++Bg r).length (Ac .u8 (b++Bg r))],[]⟩
 |_,_,0,_,_,h,_=>by omega
 |[],i,nn+1,b,h,hn,hb=>by
  have:=drop_nil h;have L:=Ap .u8 b;rw[Od,D6 _ _ _ (by omega)];simp(disch:=omega)only[Bz,Bx,De,Mi,L];simp[Bg]
 |x::r,i,nn+1,b,h,hn,hb=>by
  obtain⟨h1,h2,h3⟩:=C8 h;simp only[He] at hn hb;obtain⟨ok,dt⟩:=hk x (List.mem_of_getElem? h2);have hil:=Abr x;have UW:=ok.s0;have g0:(Ay its).getD (i*3) .top=Au x.k:=H4 It.cells_len h2 (j:=0) (by omega);have g1:(Ay its).getD (i*3+1) .top=Af x.n:=H4 It.cells_len h2 (j:=1) (by omega);have g2:(Ay its).getD (i*3+1+1) .top=.sc (.string x.s):=H4 It.cells_len h2 (j:=2) (by omega);have by_:=FD (fu:=fu) (d:=d) Bo ok dt;simp only[It.cells] at by_;have ih:=PY (Mf:=Mf) (a0:=a0) hk hl Bo r (i+1) nn (b++B9 x) h3 (by omega) (by rw[F9];omega)
  have w:wrap .i64 ((i:Int)+1)=((i+1:Nat):Int):=by rw[Ag (by omega) (by omega)];omega
  have L:=Ap .u8 b;have hB:=Alw ok.k1 ok.k8 ok.n0;have sc:Ej (Bk (B9 x))=Ac .u8 (B9 x):=by rw[Lu,O9 hB]
  have sz:=H1 (B9 x);have Li:=Ap .u8 (B9 x);have ea:Ac .u8 b++Ac .u8 (B9 x)=Ac .u8 (b++B9 x):=by rw[Ac,Ac,Ac,List.flatMap_append]
  have ei:Bg (x::r)=B9 x++Bg r:=rfl;rw[ei,<-FX,<-ih,Od];simp(disch:=omega)only[Bz,Bx,H6,g0,g1,g2,by_,sc,sz,Li,De,Mi,L,ea,w,F9]
theorem Apg{its:List It}(hk:∀x∈its,x.ok/\x.dat)(hl:its.length<=900)(Bo:1000<=fu):Aq C0 prog fu (d+4) 59 [.lst false 3 its.length (Ay its)]=some ⟨[.own 1 (Bg its).length (Ac .u8 (Bg its))],[]⟩:=by rw[EF];exact PY (fu:=fu) (d:=d) (Mf:=its.length) (a0:=Ay its) hk (by omega) Bo its 0 fu [] rfl (by omega) (by simp;omega)
end
structure Ce where
 subj:ByteArray
 iss:ByteArray
 serial:Int
 key:Ky
 fr:Int
 un:Int
 auth:Bool
 path:Int
 model:Int
 sig:Sg
def Ce.cells(c:Ce):Ab:=[.sc (.string c.subj),.sc (.string c.iss),Af c.serial,Au c.key.h,Af c.key.root,Au c.fr,Au c.un,.sc (.bool c.auth),Au c.path,Af c.model,Au c.sig.leaf,.lst false 1 c.sig.chains.length (Ac .u64 c.sig.chains),.lst false 1 c.sig.path.length (Ac .u64 c.sig.path)]
abbrev okS(s:ByteArray):Bool:=Lib.validD s.data.toList
abbrev Fw:ByteArray:=⟨#[]⟩
structure Ce.wf(c:Ce):Prop where
 ser:0<=c.serial
 mod:0<=c.model
section
variable {fu d:Nat}
theorem Vg(s:ByteArray)(h:s.size<=9223372036854775807):Aq C0 prog fu (d+1) 126 [.sc (.string s)]=some ⟨[.sc (.bool (okS s))],[]⟩:=by show VT [.sc (.string s)]=_;unfold VT;simp[h]
theorem Zq(n lo hi:Int):Aq C0 prog fu (d+1) 51 [Au n,Au lo,Au hi]=some ⟨[.sc (.bool (decide (lo<=n)&&decide (n<=hi)))],[]⟩:=by
 rw[CE];by_cases h:lo<=n
 ·simp(disch:=omega)only[Bz,Bx,h,decide_true,Zzm]
 ·simp(disch:=omega)only[Bz,Bx,h,decide_false,Zzs]
theorem Qv(n:Int)(h0:0<=n)(h1:n<=1000):Aq C0 prog fu (d+1) 56 [Au n]=some ⟨[.agg [Au 5,Af n,.sc (.string Fw)]],[]⟩:=by rw[DQ];have w:wrap .u64 n=n:=Cd (by omega) (by omega);simp only[Bz,Bx,w]
theorem Arq(s:ByteArray):Aq C0 prog fu (d+1) 97 [.sc (.string s)]=some ⟨[.agg [Au 4,Af 0,.sc (.string s)]],[]⟩:=by rw[FU]
theorem Q5(n:Int):Aq C0 prog fu (d+1) 57 [Af n]=some ⟨[.agg [Au 1,Af n,.sc (.string Fw)]],[]⟩:=by rw[CC]
theorem Avv(l:B8):Aq C0 prog fu (d+1) 98 [.lst false 1 l.length (Ac .u8 l)]=some ⟨[.agg [Au 3,Af 0,.sc (.string (Bk l))]],[]⟩:=by rw[GS];have L:=Ap .u8 l;have bo:=Hc l;simp(disch:=omega)only[Bz,Bx,L,bo];rfl
end
def OG(s:Sg):Int:=if Dz s.path.length=true then 9 else if Ip s.leaf s.path.length=true then 9 else if s.chains.length≠18 then 4 else 0
theorem Apr{seed h leaf m:Int}{s:Sg}(e:KG seed h leaf m=some s):s.chains.length=18/\s.path.length<=4:=by
 unfold KG at e;split at e
 ·cases e
 ·rename_i hh;split at e
  ·cases e
  ·cases e;have:=H0 (by simpa using hh);simp[Ng];omega
section
variable {fu d:Nat}{c:Ce}
end
structure Iy where
 p:Bool
 left:Int
 last:B8
def Iy.cells(f:Iy):Ab:=[.sc (.bool f.p),Au f.left,.lst false 1 f.last.length (Ac .u8 f.last)]
def Hf(l:List Iy):Ab:=l.flatMap Iy.cells
theorem Iy.cells_len(f:Iy):f.cells.length=3:=rfl
theorem Ei(l:List Iy):(Hf l).length=l.length*3:=Xw Iy.cells_len l
theorem E6(l:List Iy):List.take (l.length*3) (Hf l)=Hf l:=Hg (by rw[Ei];omega)
def V2(l:List Iy):Bool:=match l.getLast? with|some f=>f.p&&(Int.tmod f.left 2==0)|none=>false
def P2(l:List Iy)(cnt k:Int):Int:=
 if cnt>=512 then 8 else if k<1 then 3 else if k>8 then 3 else if V2 l=true/\k≠1/\k≠2/\k≠4 then 3 else if (l.length:Int)>8 then 5 else 0
abbrev P8(l:List Iy)(cnt:Int):Ab:=[.own 3 l.length (Hf l),Au cnt]
section
variable {fu d:Nat}
theorem Ade(l:List Iy)(cnt:Int):Aq C0 prog fu (d+1) 87 [.pbox (P8 l cnt)]=some ⟨[.sc (.bool (decide (cnt>0)&&((l.length:Int)==0)))],[P8 l cnt]⟩:=by
 rw[OY];have L:=Ei l;have t:=E6 l;by_cases h:cnt>0
 ·simp(disch:=omega)only[Bz,Bx,h,decide_true,Zzm,L,t]
 ·simp(disch:=omega)only[Bz,Bx,h,decide_false,Zzs,L,t]
theorem WG{l:List Iy}(hl:l.length<=1000000)(cnt:Int):Aq C0 prog fu (d+1) 142 [.pbox (P8 l cnt)]=some ⟨[.sc (.bool (V2 l))],[P8 l cnt]⟩:=by
 rw[MY];have L:=Ei l;have t:=E6 l;unfold V2;rcases List.eq_nil_or_concat l with rfl|⟨l',f,rfl⟩
 ·have e0:¬(((([]:List Iy).length:Nat):Int)>0):=by simp
  simp (disch:=first|assumption|omega) only[Bz,Bx,L,t]
  first|done|rfl
 ·have hn:(l'.concat f).length=l'.length+1:=by simp
  have hx:(l'.concat f)[l'.length]?=some f:=by simp
  have gl:(l'.concat f).getLast?=some f:=by simp
  have w:wrap .i64 (((l'.concat f).length:Int)-1)=(l'.length:Int):=by rw[Ag (by omega) (by omega)];omega
  have g0:(Hf (l'.concat f)).getD (l'.length*3) .top=.sc (.bool f.p):=H4 Iy.cells_len hx (j:=0) (by omega);have g1:(Hf (l'.concat f)).getD (l'.length*3+1) .top=Au f.left:=H4 Iy.cells_len hx (j:=1) (by omega);rw[gl];cases hp:f.p
  ·rw[hp] at g0;simp(disch:=omega)only[Bz,Bx,w,H6,Ck,JY,g0,L,t,hp,Zzs]
  ·rw[hp] at g0;simp(disch:=omega)only[Bz,Bx,w,H6,Ck,JY,g0,g1,L,t,hp,Zzm]
theorem Aga{l:List Iy}(hl:l.length<=1000000)(cnt k:Int):Aq C0 prog fu (d+2) 122 [.pbox (P8 l cnt),Au k]=some ⟨[Au (P2 l cnt k)],[P8 l cnt]⟩:=by
 refine (MO fu (d+1) l.length (Hf l) cnt k).trans ?_;have L:=Ei l;have t:=E6 l;have ak:=WG (fu:=fu) (d:=d) hl cnt;unfold P8 at ak;unfold P2;by_cases c1:cnt>=512
 ·rw[Bn c1];simp(disch:=omega)only[Bz,Bx,L,t]
 rw[A4 c1];by_cases c2:k<1
 ·rw[Bn c2];simp(disch:=omega)only[Bz,Bx,L,t]
 rw[A4 c2];by_cases c3:k>8
 ·rw[Bn c3];simp(disch:=omega)only[Bz,Bx,L,t]
 rw[A4 c3];cases ha:V2 l
 ·rw[ha] at ak;rw[A4 (by simp)];by_cases c5:(l.length:Int)>8
  ·rw[Bn c5];simp(disch:=omega)only[Bz,Bx,L,t,ak]
  ·rw[A4 c5];simp(disch:=omega)only[Bz,Bx,L,t,ak]
 ·rw[ha] at ak;by_cases c4:k≠1/\k≠2/\k≠4
  ·rw[Bn ⟨rfl,c4⟩];simp(disch:=omega)only[Bz,Bx,L,t,ak,Eb];rw[A4 c4.1,A4 c4.2.1,A4 c4.2.2]
  ·rw[A4 (fun h=>c4 h.2)];have hk:k=1\/k=2\/k=4:=by omega
   by_cases c5:(l.length:Int)>8
   ·rw[Bn c5];rcases hk with rfl|rfl|rfl<;>simp(disch:=omega)only[Bz,Bx,L,t,ak,Eb,Int.reduceEq,if_true,if_false]
   ·rw[A4 c5];rcases hk with rfl|rfl|rfl<;>simp(disch:=omega)only[Bz,Bx,L,t,ak,Eb,Int.reduceEq,if_true,if_false]
end
theorem L6(l:List Iy):l=[]\/∃l' f,l=l'++[f]:=by
 rcases List.eq_nil_or_concat l with h|⟨a,b,h⟩
 ·exact .inl h
 ·exact .inr ⟨a,b,by simpa using h⟩
def NE(l:List Iy):List Iy:=(l.reverse.dropWhile fun f=>f.left==0).reverse
theorem Aaj{l:List Iy}{f:Iy}(h:f.left=0):NE (l++[f])=NE l:=by unfold NE;rw[List.reverse_append,List.reverse_singleton,List.singleton_append,List.dropWhile_cons_of_pos (by simp[h])]
theorem WE{l:List Iy}{f:Iy}(h:f.left≠0):NE (l++[f])=l++[f]:=by unfold NE;rw[List.reverse_append,List.reverse_singleton,List.singleton_append,List.dropWhile_cons_of_neg (by simp[h])];simp
def AQ(l:List Iy):List Iy:=match l.getLast? with|some f=>l.dropLast++[⟨f.p,wrap .i64 (f.left-1),f.last⟩]|none=>[]
def VF(l:List Iy)(x:It):List Iy:=
 if x.k=5/\x.n>0 then l++[⟨false,wrap .i64 x.n,[]⟩] else if x.k=6/\x.n>0 then l++[⟨true,wrap .i64 (2*wrap .i64 x.n),[]⟩] else l
def Ie(l:List Iy)(x:It):List Iy:=NE (VF (AQ l) x)
theorem Wx(l:List Iy)(f:Iy):AQ (l++[f])=l++[⟨f.p,wrap .i64 (f.left-1),f.last⟩]:=by unfold AQ;simp
theorem IG(l:List Iy):(AQ l).length=l.length:=by
 rcases L6 l with rfl|⟨l',f,rfl⟩
 ·rfl
 ·rw[Wx];simp
theorem Yt(a b:List Iy):Hf (a++b)=Hf a++Hf b:=by unfold Hf;rw[List.flatMap_append]
theorem Yh(f:Iy):Hf [f]=f.cells:=by unfold Hf;simp
section
variable {fu d:Nat}
theorem Aae{call:Bq}{Kl:Nat}{C7:Ab}{Ch LP KU:Int}{MD:ByteArray}{c:Int}:∀(n:Nat)(l:List Iy)(r:Ab)(nn:Nat),l.length=n->n<nn->n<=1000000 ->
  Bm fu call Kl C7 Ch LP KU MD nn (l.length:Int) l.length c (Hf l++r)=some ⟨[],[P8 (NE l) c]⟩:=by
 intro n
 induction n with
 |zero=>
  intro l r nn hl hn _;obtain rfl:l=[]:=List.eq_nil_of_length_eq_zero hl;obtain⟨m,rfl⟩:∃m,nn=m+1:=⟨nn-1,by omega⟩
  have e0:¬(((([]:List Iy).length:Nat):Int)>0):=by simp
  have e1:([]:List Iy).length*3<=(Hf []++r).length:=by simp
  rw[S5];simp (disch:=first|assumption|omega) only[Bz,Bx];rfl
 |succ n ih=>
  intro l r nn hl hn hm;obtain⟨m,rfl⟩:∃m,nn=m+1:=⟨nn-1,by omega⟩
  rcases L6 l with rfl|⟨l',f,rfl⟩
  ·simp at hl
  have hn':(l'++[f]).length=l'.length+1:=by simp
  have hx:(l'++[f])[l'.length]?=some f:=by simp
  have w:wrap .i64 (((l'++[f]).length:Int)-1)=(l'.length:Int):=by rw[Ag (by omega) (by omega)];omega
  have L:=Ei (l'++[f]);have L2:(Hf (l'++[f])++r).length=(l'++[f]).length*3+r.length:=by rw[F9,L]
  have t:List.take ((l'++[f]).length*3) (Hf (l'++[f])++r)=Hf (l'++[f]):=by rw[<-L,List.take_left'];rfl
  have g1:(Hf (l'++[f])++r).getD (l'.length*3+1) .top=Au f.left:=by
   have:=H4 (f:=Iy.cells) Iy.cells_len hx (j:=1) (by omega);rw[List.getD_eq_getElem?_getD,List.getElem?_append_left (by rw[L];omega),<-List.getD_eq_getElem?_getD]
   exact this
  rw[S5];by_cases hz:f.left=0
  ·have e:Hf (l'++[f])++r=Hf l'++(f.cells++r):=by rw[Yt,Yh,FX]
   have q:=ih l' (f.cells++r) m (by omega) (by omega) (by omega);rw[<-e] at q;rw[Aaj hz];have hb:(f.left==(0:Int))=true:=by simp[hz]
   simp(disch:=omega)only[Bz,Bx,w,H6,Ck,Nat.sub_zero,g1,hb,q]
  ·rw[WE hz];have hb:(f.left==(0:Int))=false:=by simp[hz]
   simp(disch:=omega)only[Bz,Bx,w,H6,Ck,g1,hb,L2,t]
theorem Amr{l:List Iy}{x:It}{cnt:Int}(hl:l.length<=100000)(hf:l.length+1<fu)(h0:0<=cnt)(h1:cnt<=1000000):
  Aq C0 prog fu (d+1) 144 [.pbox (P8 l cnt),.agg x.cells]=some ⟨[],[P8 (Ie l x) (cnt+1)]⟩:=by
 obtain⟨k,v,s⟩:=x;refine (OH fu d l.length (Hf l) cnt k v s).trans ?_;have w1:wrap .i64 (cnt+1)=cnt+1:=Ag (by omega) (by omega);unfold Ie VF;have DL:=IG l;generalize hD:AQ l=l1 at DL ⊢;have L1:(Hf l1).length=l.length*3:=by rw[Ei,DL]
 have t1:List.take (l.length*3) (Hf l1)=Hf l1:=Hg (by omega)
 have p5:∀b u,Hf l1++[.sc (.bool b),Au u,.lst false 1 0 []]=Hf (l1++[⟨b,u,[]⟩]):=by
  intro b u;rw[Yt,Yh];rfl
 have lp0:∀call,Bm fu call l.length (Hf l) cnt k v s fu (l.length:Int) l.length (cnt+1) (Hf l1)=some ⟨[],[P8 (NE l1) (cnt+1)]⟩:=by
  intro call;have:=Aae (fu:=fu) (call:=call) (Kl:=l.length) (C7:=Hf l) (Ch:=cnt) (LP:=k) (KU:=v) (MD:=s) (c:=cnt+1) _ l1 [] fu rfl (by omega) (by omega);rw[List.append_nil,DL] at this;exact this
 have lp1:∀call f,Bm fu call l.length (Hf l) cnt k v s fu ((l.length+1:Nat):Int) (l.length+1) (cnt+1) (Hf (l1++[f]))=some ⟨[],[P8 (NE (l1++[f])) (cnt+1)]⟩:=by
  intro call f;have ll:(l1++[f]).length=l.length+1:=by simp[DL]
  have:=Aae (fu:=fu) (call:=call) (Kl:=l.length) (C7:=Hf l) (Ch:=cnt) (LP:=k) (KU:=v) (MD:=s) (c:=cnt+1) _ (l1++[f]) [] fu rfl (by omega) (by omega);rw[List.append_nil,ll] at this;exact this
 rcases L6 l with rfl|⟨l',f,rfl⟩
 ·have e0:¬(((([]:List Iy).length:Nat):Int)>0):=by simp
  obtain rfl:l1=[]:=by rw[<-hD];rfl
  by_cases k5:k=5
  ·subst k5;by_cases hv:v>0
   ·rw[Bn ⟨rfl,hv⟩];simp (disch:=first|assumption|omega) only[Bz,Bx,w1,L1,t1,p5,lp1,Int.reduceBEq]
   ·rw[A4 (fun h=>hv h.2),A4 (fun h=>hv h.2)];simp (disch:=first|assumption|omega) only[Bz,Bx,w1,L1,t1,p5,lp0,Int.reduceBEq]
  ·have b5:(k==(5:Int))=false:=by simp[k5]
   rw[A4 (fun h=>k5 h.1)];by_cases k6:k=6
   ·subst k6;by_cases hv:v>0
    ·rw[Bn ⟨rfl,hv⟩];simp (disch:=first|assumption|omega) only[Bz,Bx,w1,L1,t1,p5,lp1,Int.reduceBEq]
    ·rw[A4 (fun h=>hv h.2)];simp (disch:=first|assumption|omega) only[Bz,Bx,w1,L1,t1,p5,lp0,Int.reduceBEq]
   ·have b6:(k==(6:Int))=false:=by simp[k6]
    rw[A4 (fun h=>k6 h.1)];simp (disch:=first|assumption|omega) only[Bz,Bx,w1,L1,t1,p5,lp0,b5,b6]
 ·have hn':(l'++[f]).length=l'.length+1:=by simp
  have hx:(l'++[f])[l'.length]?=some f:=by simp
  have w:wrap .i64 (((l'++[f]).length:Int)-1)=(l'.length:Int):=by rw[Ag (by omega) (by omega)];omega
  have L:=Ei (l'++[f]);have g1:(Hf (l'++[f])).getD (l'.length*3+1) .top=Au f.left:=H4 Iy.cells_len hx (j:=1) (by omega)
  have sp:B0 (Hf (l'++[f])) [Au (wrap .i64 (f.left-1))] (l'.length*3+1)=Hf l1:=by
   rw[Hs (by omega),<-hD,Wx,Yt,Yt,Yh,Yh];have:=Ei l';rw[List.set_append_right _ _ (by omega)];have:l'.length*3+1-(Hf l').length=1:=by omega
   rw[this];rfl
  by_cases k5:k=5
  ·subst k5;by_cases hv:v>0
   ·rw[Bn ⟨rfl,hv⟩];simp (disch:=first|assumption|omega) only[Bz,Bx,w,w1,H6,Ck,g1,sp,L1,t1,p5,lp1,Int.reduceBEq]
   ·rw[A4 (fun h=>hv h.2),A4 (fun h=>hv h.2)];simp (disch:=first|assumption|omega) only[Bz,Bx,w,w1,H6,Ck,g1,sp,L1,t1,p5,lp0,Int.reduceBEq]
  ·have b5:(k==(5:Int))=false:=by simp[k5]
   rw[A4 (fun h=>k5 h.1)];by_cases k6:k=6
   ·subst k6;by_cases hv:v>0
    ·rw[Bn ⟨rfl,hv⟩];simp (disch:=first|assumption|omega) only[Bz,Bx,w,w1,H6,Ck,g1,sp,L1,t1,p5,lp1,Int.reduceBEq]
    ·rw[A4 (fun h=>hv h.2)];simp (disch:=first|assumption|omega) only[Bz,Bx,w,w1,H6,Ck,g1,sp,L1,t1,p5,lp0,Int.reduceBEq]
   ·have b6:(k==(6:Int))=false:=by simp[k6]
    rw[A4 (fun h=>k6 h.1)];simp (disch:=first|assumption|omega) only[Bz,Bx,w,w1,H6,Ck,g1,sp,L1,t1,p5,lp0,b5,b6]
end
def OV(s:ByteArray):Bool:=Array.toList (ByteArray.data s)==Array.toList (ByteArray.data (ByteArray.mk #[]))
def K7(x:It):Bool:=
 if x.k=3 then x.n==0 else if x.k=4 then x.n==0 else if x.k=8 then (x.n==0)&&OV x.s else if x.k=7 then decide (x.n<=1)&&OV x.s else OV x.s
section
variable {fu d:Nat}
theorem Apk(x:It):Aq C0 prog fu (d+1) 146 [.agg x.cells]=some ⟨[.sc (.bool (K7 x))],[]⟩:=by
 obtain⟨k,n,s⟩:=x;refine (ZF fu d k n s).trans ?_;unfold K7;show _=some (⟨[.sc (.bool (if k=3 then n==0 else if k=4 then n==0 else if k=8 then (n==0)&&OV s else if k=7 then decide (n<=1)&&OV s else OV s))],[]⟩:Dt);by_cases h3:k=3
 ·subst h3;simp only[Bz,Bx,Int.reduceBEq,if_true]
 by_cases h4:k=4
 ·subst h4;simp only[Bz,Bx,Int.reduceBEq,Int.reduceEq,if_true,if_false]
 have b3:(k==(3:Int))=false:=by simp[h3]
 have b4:(k==(4:Int))=false:=by simp[h4]
 by_cases h8:k=8
 ·subst h8;cases hn:n==0<;>simp only[Bz,Bx,Int.reduceBEq,Int.reduceEq,if_true,if_false,hn,Zzm,Zzs]<;>rfl
 have b8:(k==(8:Int))=false:=by simp[h8]
 by_cases h7:k=7
 ·subst h7;cases hn:decide (n<=1)<;>simp only[Bz,Bx,Int.reduceBEq,Int.reduceEq,if_true,if_false,hn,Zzm,Zzs]<;>rfl
 have b7:(k==(7:Int))=false:=by simp[h7]
 simp only[Bz,Bx,b3,b4,b8,b7,A4 h3,A4 h4,A4 h8,A4 h7];rfl
theorem QW{l:List Iy}{x:It}{cnt:Int}(hl:l.length<=1000)(hf:l.length+1<fu)(h0:0<=cnt)(h1:cnt<=1000000)(ha:V2 l=false)(hs:x.s.size<=100000)(hv:x.k=4->Lib.validD x.s.data.toList=true):
  Aq C0 prog fu (d+2) 123 [.pbox (P8 l cnt),.agg x.cells]=some ⟨[Au 0],[P8 (Ie l x) (cnt+1)]⟩:=by
 have st:=Amr (fu:=fu) (d:=d) (l:=l) (x:=x) (cnt:=cnt) (by omega) hf h0 h1;have ak:=WG (fu:=fu) (d:=d) (l:=l) (by omega) cnt;have L:=Ei l;have t:=E6 l;have L2:=Ei (Ie l x);have t2:=E6 (Ie l x);rw[ha] at ak;generalize hE:Ie l x=E at *
 obtain⟨k,n,s⟩:=x;have va:=Vg (fu:=fu) (d:=d) s (Nat.le_trans hs (by omega));unfold okS at va;refine (Nu fu (d+1) l.length (Hf l) cnt k n s).trans ?_;unfold P8 It.cells at st;unfold P8 at ak;by_cases k4:k=4
 ·subst k4;rw[hv rfl] at va;simp(disch:=omega)only[Bz,Bx,Int.reduceBEq,va,Cp,L,t,ak,st,L2,t2]
 ·have b4:(k==(4:Int))=false:=by simp[k4]
  simp(disch:=omega)only[Bz,Bx,b4,L,t,ak,st,L2,t2]
theorem As9{l:List Iy}{x:It}{cnt:Int}(hl:l.length<=1000)(hf:l.length+1<fu)(h0:0<=cnt)(h1:cnt<=1000000)(ha:V2 l=false)(hs:x.s.size<=1024)(hv:x.k=4->Lib.validD x.s.data.toList=true)(hd:(decide (cnt>0)&&((l.length:Int)==0))=false)(hm:P2 l cnt x.k=0)(hsh:K7 x=true)(hn:x.n<=512\/(x.k≠5/\x.k≠6)):
  Aq C0 prog fu (d+3) 132 [.pbox (P8 l cnt),.agg x.cells]=some ⟨[Au 0],[P8 (Ie l x) (cnt+1)]⟩:=by
 have ac:=QW (fu:=fu) (d:=d) (l:=l) (x:=x) (cnt:=cnt) hl hf h0 h1 ha (by omega) hv;have dn:=Ade (fu:=fu) (d:=d+1) l cnt;have ad:=Aga (fu:=fu) (d:=d) (l:=l) (by omega) cnt x.k;have sh:=Apk (fu:=fu) (d:=d+1) x;rw[hd] at dn;rw[hm] at ad;rw[hsh] at sh;have L:=Ei l;have t:=E6 l;have L2:=Ei (Ie l x);have t2:=E6 (Ie l x);generalize hE:Ie l x=E at *
 obtain⟨k,n,s⟩:=x;have hs':¬((s.size:Int)>1024):=by have:s.size<=1024:=hs;omega
 refine (GA fu (d+2) l.length (Hf l) cnt k n s).trans ?_;unfold P8 It.cells at ac;unfold P8 at dn ad;unfold It.cells at sh;by_cases k5:k=5
 ·subst k5;have hn':¬(n>512):=hn.elim (fun h=>Int.not_lt.2 h) (fun h=>absurd rfl h.1);simp (disch:=first|assumption|omega) only[Bz,Bx,Int.reduceBEq,dn,ad,sh,ac,Cp,L,t,L2,t2,bne_self_eq_false]
 have b5:(k==(5:Int))=false:=by simp[k5]
 by_cases k6:k=6
 ·subst k6;have hn':¬(n>512):=hn.elim (fun h=>Int.not_lt.2 h) (fun h=>absurd rfl h.2);simp (disch:=first|assumption|omega) only[Bz,Bx,Int.reduceBEq,dn,ad,sh,ac,Cp,L,t,L2,t2,bne_self_eq_false]
 have b6:(k==(6:Int))=false:=by simp[k6]
 simp (disch:=first|assumption|omega) only[Bz,Bx,b5,b6,dn,ad,sh,ac,Cp,L,t,L2,t2,bne_self_eq_false]
end
theorem Cx(l:List It):(Ay l).length=l.length*3:=Xw It.cells_len l
structure A0i(l:List Iy)(cnt:Int)(x:It):Prop where
 hl:l.length<=100
 h0:0<=cnt
 h1:cnt<=1000
 ha:V2 l=false
 hs:x.s.size<=1024
 hv:x.k=4->Lib.validD x.s.data.toList=true
 hd:(decide (cnt>0)&&((l.length:Int)==0))=false
 hm:P2 l cnt x.k=0
 hsh:K7 x=true
 hn:x.n<=512\/(x.k≠5/\x.k≠6)
def Tm:List Iy->Int->List It->Prop
 |l,cnt,[]=>l=[]/\cnt>0
 |l,cnt,x::r=>A0i l cnt x/\Tm (Ie l x) (cnt+1) r
section
variable {fu d:Nat}
theorem YO(Bo:200<=fu){l:List It}(hl:l.length<=100000){Mf:Nat}{a0:Ab}:∀(r:List It)(i:Nat)(fs:List Iy)(cnt:Int)(nn:Nat),l.drop i=r->i+r.length=l.length->r.length<nn->Tm fs cnt r ->
  Mn fu (Aq C0 prog fu (d+3)) Mf a0 nn l.length (Ay l) (l.length:Int) (i:Int) fs.length cnt (Hf fs)=some ⟨[Au 0],[]⟩:=by
 intro r
 induction r with
 |nil=>
  intro i fs cnt nn hd hi hn hg;obtain⟨rfl,hc⟩:=hg;obtain⟨m,rfl⟩:∃m,nn=m+1:=⟨nn-1,by omega⟩
  rw[Ud,JY] at hi;rw[Ui];have dn:=Ade (fu:=fu) (d:=d+2) [] cnt;have e:(decide (cnt>0)&&(((([]:List Iy).length:Nat):Int)==0))=true:=by simp[hc]
  rw[e] at dn;unfold P8 at dn;have L:=Ei [];have t:=E6 [];have c:¬((i:Int)<(l.length:Int)):=by omega
  simp (disch:=first|assumption|omega) only[Bz,Bx,L,t,dn,Cp]
 |cons x r ih=>
  intro i fs cnt nn hd hi hn hg;obtain⟨g,hg⟩:=hg;obtain⟨m,rfl⟩:∃m,nn=m+1:=⟨nn-1,by omega⟩
  rw[He] at hi hn
  have hx:l[i]?=some x:=by
   have:=congrArg (fun q=>q[0]?) hd
   simpa using this
  have hd':l.drop (i+1)=r:=by
   have:=congrArg (List.drop 1) hd;rw[List.drop_drop] at this
   simpa using this
  have q:=ih (i+1) (Ie fs x) (cnt+1) m hd' (by omega) (by omega) hg;have ck:=As9 (fu:=fu) (d:=d) (l:=fs) (x:=x) (cnt:=cnt) (by have:=g.hl;omega) (by have:=g.hl;omega) g.h0 (by have:=g.h1;omega) g.ha g.hs g.hv g.hd g.hm g.hsh g.hn
  generalize Ie fs x=E at *
  have g0:(Ay l).getD (i*3) .top=Au x.k:=H4 It.cells_len hx (j:=0) (by omega);have g1:(Ay l).getD (i*3+1) .top=Af x.n:=H4 It.cells_len hx (j:=1) (by omega);have g2:(Ay l).getD (i*3+1+1) .top=.sc (.string x.s):=H4 It.cells_len hx (j:=2) (by omega);have L:=Ei fs;have t:=E6 fs;have w:wrap .i64 ((i:Int)+1)=((i+1:Nat):Int):=by rw[Ag (by omega) (by omega)];omega
  rw[Ui];unfold P8 It.cells at ck;simp (disch:=first|assumption|omega) only[Bz,Bx,H6,g0,g1,g2,L,t,ck,bne_self_eq_false,w,q]
theorem Xx(Bo:200<=fu){l:List It}(hl:l.length<=100000)(hf:l.length<fu)(hg:Tm [] 0 l):Aq C0 prog fu (d+4) 107 [.lst false 3 l.length (Ay l)]=some ⟨[Au 0],[]⟩:=by rw[SR];exact YO Bo hl l 0 [] 0 fu rfl (by omega) hf hg
end
section
variable {fu d:Nat}
theorem Ain(Bo:1000<=fu){l:List It}(hl:l.length<=100000){Mf:Nat}{a0:Ab}:∀(r:List It)(i:Nat)(o:B8)(nn:Nat),l.drop i=r->i+r.length=l.length->r.length<nn->(∀x∈r,x.ok)->(o++Bg r).length<=300000 ->
  Pk fu (Aq C0 prog fu (d+2)) Mf a0 nn o.length l.length (Ay l) (l.length:Int) (i:Int) (Ac .u8 o)=some ⟨[.own 1 (o++Bg r).length (Ac .u8 (o++Bg r)),Au 0],[]⟩:=by
 intro r
 induction r with
 |nil=>
  intro i o nn hd hi hn hg hb;obtain⟨m,rfl⟩:∃m,nn=m+1:=⟨nn-1,by omega⟩
  rw[Ud,JY] at hi;have e:o++Bg []=o:=by simp[Bg]
  rw[e,Y7];have L:(Ac .u8 o).length=o.length:=Ap _ _;have t:List.take o.length (Ac .u8 o)=Ac .u8 o:=Hg (by omega);have c:¬((i:Int)<(l.length:Int)):=by omega
  simp (disch:=first|assumption|omega) only[Bz,Bx,De,L,t]
 |cons x r ih=>
  intro i o nn hd hi hn hg hb;obtain⟨m,rfl⟩:∃m,nn=m+1:=⟨nn-1,by omega⟩
  rw[He] at hi hn
  have hx:l[i]?=some x:=by
   have:=congrArg (fun q=>q[0]?) hd
   simpa using this
  have hd':l.drop (i+1)=r:=by
   have:=congrArg (List.drop 1) hd;rw[List.drop_drop] at this
   simpa using this
  have e:o++Bg (x::r)=(o++B9 x)++Bg r:=by simp[Bg]
  rw[e] at hb ⊢
  have ho:o.length<=300000:=by
   rw[F9,F9] at hb;omega
  have q:=ih (i+1) (o++B9 x) m hd' (by omega) (by omega) (fun y hy=>hg y (Sx _ hy)) hb;have it:=Aly (fu:=fu) (d:=d) Bo (l:=o) ho (x:=x) (hg x (by simp));have g0:(Ay l).getD (i*3) .top=Au x.k:=H4 It.cells_len hx (j:=0) (by omega);have g1:(Ay l).getD (i*3+1) .top=Af x.n:=H4 It.cells_len hx (j:=1) (by omega);have g2:(Ay l).getD (i*3+1+1) .top=.sc (.string x.s):=H4 It.cells_len hx (j:=2) (by omega);have L:(Ac .u8 o).length=o.length:=Ap _ _;have t:List.take o.length (Ac .u8 o)=Ac .u8 o:=Hg (by omega);have w:wrap .i64 ((i:Int)+1)=((i+1:Nat):Int):=by rw[Ag (by omega) (by omega)];omega
  rw[Y7];unfold It.cells at it;simp (disch:=first|assumption|omega) only[Bz,Bx,H6,De,g0,g1,g2,L,t,it,w,q]
theorem Afy(Bo:1000<=fu){l:List It}(hl:l.length<=100000)(hf:l.length<fu)(hg:Tm [] 0 l)(hk:∀x∈l,x.ok)(hb:(Bg l).length<=300000):
  Aq C0 prog fu (d+5) 65 [.lst false 3 l.length (Ay l)]=some ⟨[.own 1 (Bg l).length (Ac .u8 (Bg l)),Au 0],[]⟩:=by
 rw[YS];have v:=Xx (fu:=fu) (d:=d) (by omega) hl hf hg;have q:=Ain (fu:=fu) (d:=d+2) Bo hl (Mf:=l.length) (a0:=Ay l) l 0 [] fu rfl (by omega) hf hk (by simpa using hb);rw[UG] at q;simp only[Bz,Bx,v,bne_self_eq_false];exact q
end
section
variable {fu d:Nat}
theorem Ac3(Bo:200<=fu){l:List It}(hl:l.length<=100000)(hf:l.length<fu)(hg:Tm [] 0 l):
  Aq C0 prog fu (d+5) 106 [.own 3 l.length (Ay l)]=some ⟨[.own 3 l.length (Ay l),Au 0],[]⟩:=by
 rw[WK];have v:=Xx (fu:=fu) (d:=d) Bo hl hf hg;have L:=Cx l;have t:List.take (l.length*3) (Ay l)=Ay l:=Hg (by omega);simp(disch:=omega)only[Bz,Bx,L,t,Er,v,bne_self_eq_false]
end
structure OQ(x:It):Prop where
 kd:x.k=1\/x.k=2\/x.k=3\/x.k=4\/x.k=7\/x.k=8
 hs:x.s.size<=1024
 hv:x.k=4->Lib.validD x.s.data.toList=true
 hsh:K7 x=true
 n0:0<=x.n
theorem OQ.ok{x:It}(h:OQ x):x.ok:=by have:=h.kd;have:=h.hs;exact⟨by omega,by omega,h.n0,by omega⟩
theorem OQ.push{x:It}(h:OQ x)(l:List Iy):VF l x=l:=by unfold VF;have:=h.kd;rw[A4 (by omega),A4 (by omega)]
def A1l(v:List It):Ab:=[.lst false 3 v.length (Ay v)]
theorem Aal(v:List It):(A1l v).length=1:=rfl
def G2(l:List (List It)):Ab:=l.flatMap A1l
theorem atv{l:List (List It)}{i:Nat}{v:List It}(h:l[i]?=some v):(G2 l).getD (i*1) .top=.lst false 3 v.length (Ay v):=by exact H4 Aal h (j:=0) (by omega)
section
variable {fu d:Nat}
theorem QF(Bo:1000<=fu){Mf:Nat}{a0:Ab}{vs:List (List It)}(hl:vs.length<=100000):∀(r:List (List It)) (i nn:Nat),vs.drop i=r->r.length<nn->(∀v∈r,Tm [] 0 v/\v.length<1000)->i<=vs.length ->
  Pw fu (Aq C0 prog fu (d+4)) Mf a0 nn vs.length (G2 vs) (vs.length:Int) (i:Int)=some ⟨[Au 0],[]⟩
 |_,_,0,_,h,_,_=>by omega
 |[],i,nn+1,h,hn,hg,hi=>by
  have:=drop_nil h;rw[X6,D6 _ _ _ (by omega)]
 |v::r,i,nn+1,h,hn,hg,hi=>by
  obtain⟨h1,h2,h3⟩:=C8 h;simp only[He] at hn;have w:wrap .i64 ((i:Int)+1)=((i+1:Nat):Int):=by rw[Ag (by omega) (by omega)];omega
  have ih:=QF Bo (Mf:=Mf) (a0:=a0) hl r (i+1) nn h3 (by omega) (fun v hv=>hg v (Sx _ hv)) (by omega);obtain⟨g,gl⟩:=hg v (by simp);have vg:=Xx (fu:=fu) (d:=d) (by omega) (by omega) (by omega) g;have g0:=atv h2;rw[X6];simp(disch:=omega)only[Bz,Bx,H6,g0,vg,bne_self_eq_false,w,ih]
theorem Af8(Bo:1000<=fu){vs:List (List It)}(hl:vs.length<1000)(hg:∀v∈vs,Tm [] 0 v/\v.length<1000):
  Aq C0 prog fu (d+5) 105 [.lst false 1 vs.length (G2 vs)]=some ⟨[Au 0],[]⟩:=by
 rw[ZH];exact QF Bo (by omega) vs 0 fu rfl (by omega) hg (by omega)
theorem U5(a b:List It):Ay (a++b)=Ay a++Ay b:=by unfold Ay;rw[List.flatMap_append]
theorem UM(Bo:1000<=fu){Mf:Nat}{a0:Ab}{vs:List (List It)}(hl:vs.length<=100000):∀(r:List (List It)) (i nn:Nat)(o:List It),vs.drop i=r->r.length<nn->Tm [] 0 (o++r.flatten)->(o++r.flatten).length<=500->i<=vs.length ->
  Rg fu (Aq C0 prog fu (d+5)) Mf a0 nn o.length vs.length (G2 vs) (vs.length:Int) (i:Int) (Ay o)=some ⟨[.own 3 (o++r.flatten).length (Ay (o++r.flatten)),Au 0],[]⟩
 |_,_,0,_,_,h,_,_,_=>by omega
 |[],i,nn+1,o,h,hn,hg,hb,hi=>by
  have:=drop_nil h;have e:o++([]:List (List It)).flatten=o:=by simp
  rw[e] at hg hb ⊢;have L:=Cx o;have t:List.take (o.length*3) (Ay o)=Ay o:=Hg (by omega);have ck:=Ac3 (fu:=fu) (d:=d) (by omega) (by omega) (by omega) hg;rw[BN,D6 _ _ _ (by omega)];simp(disch:=omega)only[Bz,Bx,L,t,ck]
 |v::r,i,nn+1,o,h,hn,hg,hb,hi=>by
  obtain⟨h1,h2,h3⟩:=C8 h;simp only[He] at hn;have w:wrap .i64 ((i:Int)+1)=((i+1:Nat):Int):=by rw[Ag (by omega) (by omega)];omega
  have e:o++(v::r).flatten=(o++v)++r.flatten:=by simp
  rw[e] at hg hb ⊢
  have Kh:o.length+v.length<=500:=by
   rw[F9,F9] at hb;omega
  have ih:=UM Bo (Mf:=Mf) (a0:=a0) hl r (i+1) nn (o++v) h3 (by omega) hg hb (by omega);have g0:=atv h2;have L:=Cx o;have Lv:=Cx v;have t:List.take (o.length*3) (Ay o)=Ay o:=Hg (by omega);rw[F9,U5] at ih;rw[BN];simp(disch:=omega)only[Bz,Bx,H6,g0,L,Lv,t,w,ih]
theorem Akn(Bo:1000<=fu){vs:List (List It)}(hg:∀v∈vs,Tm [] 0 v/\v.length<1000)(hl:vs.length<=400)(ha:Tm [] 0 (⟨5,vs.length,⟨#[]⟩⟩::vs.flatten))(hb:vs.flatten.length<=499):
  Aq C0 prog fu (d+6) 63 [.lst false 1 vs.length (G2 vs)]=some ⟨[.own 3 (vs.flatten.length+1) (Ay (⟨5,vs.length,⟨#[]⟩⟩::vs.flatten)),Au 0],[]⟩:=by
 rw[Adx];have f:=Af8 (fu:=fu) (d:=d) Bo (by omega) hg;have w:wrap .u64 (vs.length:Int)=vs.length:=Cd (by omega) (by omega);have q:=UM (fu:=fu) (d:=d) Bo (Mf:=vs.length) (a0:=G2 vs) (by omega) vs 0 fu [⟨5,vs.length,⟨#[]⟩⟩] rfl (by omega) ha (by rw[F9,List.length_singleton];omega) (by omega)
 simp only[Bz,Bx,f,bne_self_eq_false,w];exact q
end
end
end Go.Proofs.YtpogefhpiaaliaaGreatDoor.Pv
