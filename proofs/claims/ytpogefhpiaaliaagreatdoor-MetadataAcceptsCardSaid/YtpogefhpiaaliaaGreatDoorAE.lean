/-
  The proof of MetadataAccepts, part 5.
-/
import Derived.Test.YtpogefhpiaaliaaGreatDoorAD
import Derived.Test.YtpogefhpiaaliaaGreatDoorRows
set_option linter.unusedSimpArgs false
set_option linter.unusedVariables false
namespace Go.Proofs.YtpogefhpiaaliaaGreatDoor.Pv
open Go.IntKind (wrap)
open Go.Proofs.Tryz (prog)
set_option maxRecDepth 1000000
noncomputable section
def A6g(a b:B8):Int:=Lib.compareBytes (a.map fun n=>n.toNat.toUInt8) (b.map fun n=>n.toNat.toUInt8)
def Y3(a b:B8):Bool:=if a.length=b.length then decide (A6g a b<0) else decide (a.length<b.length)
def Nm(l:List Iy)(key:B8):List Iy:=match l.getLast? with|some f=>l.dropLast++[⟨f.p,f.left,key⟩]|none=>l
theorem Sb(l:List Iy)(f:Iy)(key:B8):Nm (l++[f]) key=l++[⟨f.p,f.left,key⟩]:=by unfold Nm;simp
def TJ(l:List Iy):B8:=match l.getLast? with|some f=>f.last|none=>[]
theorem Ad5(l:List Iy)(f:Iy):TJ (l++[f])=f.last:=by unfold TJ;simp
def Fx(l:List Iy)(x:It):Int × List Iy:=
 if x.k=4/\okS x.s=false then (6,l)
 else if V2 l=true then (if TJ l≠[]/\Y3 (TJ l) (B9 x)=false then (7,l) else (0,Ie (Nm l (B9 x)) x))
 else (0,Ie l x)
theorem Anv(x:It):1<=(B9 x).length:=by
 unfold B9;have h2:=Ko 2 x.s.size;have h3:=Ko 3 x.s.size;have h4:=Ko (x.k-1) x.n
 repeat' split
 all_goals try simp only[F9,He,Ud]
 all_goals omega
section
variable {fu d:Nat}
theorem Ai5(a b:B8):Aq C0 prog fu (d+1) 148 [.lst false 1 a.length (Ac .u8 a),.lst false 1 b.length (Ac .u8 b)]=some ⟨[Au (A6g a b)],[]⟩:=by
 have h:Aq C0 prog fu (d+1) 148 [.lst false 1 a.length (Ac .u8 a),.lst false 1 b.length (Ac .u8 b)]=EE [.lst false 1 a.length (Ac .u8 a),.lst false 1 b.length (Ac .u8 b)]:=by kernel_rfl
 rw[h];unfold EE;simp only[Ap,P6,Bool.and_self,cond_true,Hc];rfl
theorem Aj6(a b:B8):Aq C0 prog fu (d+2) 143 [.lst false 1 a.length (Ac .u8 a),.lst false 1 b.length (Ac .u8 b)]=some ⟨[.sc (.bool (Y3 a b))],[]⟩:=by
 refine (WI fu (d+1) _ _ _ _).trans ?_;have c:=Ai5 (fu:=fu) (d:=d) a b;unfold Y3;by_cases h:a.length=b.length
 ·have b0:((a.length:Int) != (b.length:Int))=false:=by simp[h]
  rw[Bn h];simp only[Bz,Bx,b0,c]
 ·have b0:((a.length:Int) != (b.length:Int))=true:=by simp;omega
  rw[A4 h];simp only[Bz,Bx,b0];simp
theorem ZN{l:List Iy}{x:It}{cnt:Int}(Bo:1000<=fu)(hl:l.length<=900)(h0:0<=cnt)(h1:cnt<=1000000)(hx:x.ok)(hs:x.s.size<=100000):
  Aq C0 prog fu (d+3) 123 [.pbox (P8 l cnt),.agg x.cells]=some ⟨[Au (Fx l x).1],[P8 (Fx l x).2 (if (Fx l x).1=0 then cnt+1 else cnt)]⟩:=by
 cases ha:V2 l with
 |false=>
  cases hv:(x.k==4) && !okS x.s with
  |false=>
   have e:Fx l x=(0,Ie l x):=by
    unfold Fx;rw[A4,A4 (by simp[ha])];intro hh;simp[hh.1,hh.2] at hv
   have:=QW (fu:=fu) (d:=d+1) (l:=l) (x:=x) (cnt:=cnt) (by omega) (by omega) h0 h1 ha hs (by
    intro hk;simp[hk] at hv;exact hv)
   rw[e,this];rfl
  |true=>
   simp at hv
   have e:Fx l x=(6,l):=by
    unfold Fx;rw[Bn hv]
   rw[e];obtain⟨k,n,s⟩:=x;have va:=Vg (fu:=fu) (d:=d+1) s (Nat.le_trans hs (by omega));simp only at hv;obtain⟨rfl,hv⟩:=hv;rw[hv] at va;have L:=Ei l;have t:=E6 l;refine (Nu fu (d+2) l.length (Hf l) cnt 4 n s).trans ?_;simp(disch:=omega)only[Bz,Bx,Int.reduceBEq,va,L,t];rfl
 |true=>
  rcases L6 l with rfl|⟨l',f,rfl⟩
  ·exact absurd ha (by decide)
  have it:=Aly (fu:=fu) (d:=d) Bo (l:=[]) (by simp) hx;rw[UG] at it;have hp:=Anv x;have sm:=Aj6 (fu:=fu) (d:=d) f.last (B9 x);have ak:=WG (fu:=fu) (d:=d+1) (l:=l'++[f]) (by omega) cnt;rw[ha] at ak;have st:=Amr (fu:=fu) (d:=d+1) (l:=Nm (l'++[f]) (B9 x)) (x:=x) (cnt:=cnt) (by rw[Sb];simp at hl ⊢;omega) (by rw[Sb];simp at hl ⊢;omega) h0 h1
  have E:Fx (l'++[f]) x=(if x.k=4/\okS x.s=false then (6,l'++[f]) else if f.last≠[]/\Y3 f.last (B9 x)=false then (7,l'++[f]) else (0,Ie (Nm (l'++[f]) (B9 x)) x)):=by
   unfold Fx;rw[ha,Ad5];simp only[if_true]
  have hn':(l'++[f]).length=l'.length+1:=by simp
  have Zy:(l'++[f])[l'.length]?=some f:=by simp
  have w:wrap .i64 (((l'++[f]).length:Int)-1)=(l'.length:Int):=by rw[Ag (by omega) (by omega)];omega
  have L:=Ei (l'++[f]);have t:=E6 (l'++[f]);have g2:(Hf (l'++[f])).getD (l'.length*3+2) .top=.lst false 1 f.last.length (Ac .u8 f.last):=H4 Iy.cells_len Zy (j:=2) (by omega)
  have sp:B0 (Hf (l'++[f])) [.lst false 1 (B9 x).length (Ac .u8 (B9 x))] (l'.length*3+2)=Hf (Nm (l'++[f]) (B9 x)):=by
   rw[Hs (by omega),Sb,Yt,Yt,Yh,Yh];have:=Ei l';rw[List.set_append_right _ _ (by omega)];have:l'.length*3+2-(Hf l').length=2:=by omega
   rw[this];rfl
  have LK:=Ei (Nm (l'++[f]) (B9 x));have tK:=E6 (Nm (l'++[f]) (B9 x));have nK:(Nm (l'++[f]) (B9 x)).length=(l'++[f]).length:=by rw[Sb];simp
  rw[nK] at LK tK;have L2:=Ei (Ie (Nm (l'++[f]) (B9 x)) x);have t2:=E6 (Ie (Nm (l'++[f]) (B9 x)) x);have Lk:=Ap .u8 (B9 x);have tk:=Mi .u8 (B9 x);unfold P8 at st ak ⊢;rw[nK] at st;rw[E];generalize Ie (Nm (l'++[f]) (B9 x)) x=S at *
  generalize Hf (Nm (l'++[f]) (B9 x))=K at *
  have hsm:f.last.length=0->Y3 f.last (B9 x)=true:=by
   intro hz;unfold Y3;rw[A4 (by omega)];simp;omega
  have RQ:f.last≠[]↔0<f.last.length:=by rw[List.length_pos_iff]
  generalize hKe:B9 x=key at *
  obtain⟨k,n,s⟩:=x;have va:=Vg (fu:=fu) (d:=d+1) s (Nat.le_trans hs (by omega));unfold okS at va ⊢;unfold It.cells at st it ⊢;simp only at st it hs ⊢;refine (Nu fu (d+2) (l'++[f]).length (Hf (l'++[f])) cnt k n s).trans ?_;simp only[Ud] at it;have it0:Ac .u8 []=[]:=rfl;rw[it0] at it
  try unfold Aa On
  repeat' first
   |((with_reducible first|apply Ai|apply Ae|apply Aj|apply Ao|apply Bb|apply A6|apply Ad);· first|with_reducible rfl|(simp (disch:=first|with_reducible assumption|omega) only[va,L,t,ak,w,H6,Ck,JY,it,g2,De,Er,Lk,tk,sm,sp,LK,tK,st,L2,t2]<;>with_reducible rfl))
   |((with_reducible first|apply Ah|apply Akf);· first|with_reducible rfl|with_reducible assumption|omega|(simp (disch:=first|with_reducible assumption|omega) only[gT,va,L,t,ak,w,H6,Ck,JY,it,g2,De,Er,Lk,tk,sm,sp,LK,tK,st,L2,t2]<;>omega))
   |(with_reducible apply Ajn;· first|with_reducible rfl|with_reducible assumption|(simp (disch:=first|with_reducible assumption|omega) only[gF,va,L,t,ak,w,H6,Ck,JY,it,g2,De,Er,Lk,tk,sm,sp,LK,tK,st,L2,t2]<;>omega))
   |(with_reducible refine As7 ?_ ?_<;>intro hb<;>try simp only[GU,GK,beq_iff_eq,beq_eq_false_iff_ne,bne_iff_ne,bne_eq_false_iff_eq,ne_eq,Bool.not_eq_true',Bool.not_eq_false',Bool.not_eq_true,Bool.not_eq_false] at hb)
   |(with_reducible refine Adz ?_ ?_)
  all_goals try simp (disch:=first|with_reducible assumption|omega) only[va,L,t,ak,w,H6,Ck,JY,it,g2,De,Er,Lk,tk,sm,sp,LK,tK,st,L2,t2]
  all_goals clear st it ak va sm L t g2 sp LK tK L2 t2 Lk tk it0 E ha hKe
  all_goals repeat' split
  all_goals first
   |rfl
   |(exfalso;simp_all;done)
   |(exfalso;simp_all;omega)
end
section
variable {xs:FuncId->Option (Ab->Option Dt)}(fu d:Nat)(call:Bq)
def Jg(Z:Nat)(Y:Ab)(X:Int)(W:Nat)(V:Ab)(U:Int)(T:Nat)(S Q P:Int)(O:Nat)(N:Ab)(M L:Int)(K:Nat)(J:Int)(I:Nat)(H:Ab)(G:Int)(E:Ab):Option Dt:=K0 fu call 121 Tryz.f121 [.pbox [.own 3 Z Y,X,Am 1 W V,U]] [.r,.r,.r,.r,.r,.r,.r,.r,.r,.r,.r,.l,.r,.l] T ⟨lk [(0,.ptr 240000 0),(2,S),(3,Af Q),(8,P),(94,Am 1 O N),(95,M),(96,L)],B3 [(240000,.st [.view 240120 3 0 K,J,Am 1 I H,G]),(240120,.ar false E)]⟩
theorem Qj(L:Nat)(K:Ab)(J:Int)(I:Nat)(H:Ab)(G:Int)(E:Nat)(Q W V:Int)(P:Nat)(O:Ab)(N Y:Int)(Z:Nat)(U:Int)(T:Nat)(S:Ab)(M:Int)(X:Ab):Jg fu call L K J I H G (E+1) Q W V P O N Y Z U T S M X=(Az (decide (Y<N)) (As (decide (0<=Y)&&decide (Y<(↑P:Int)))<|Be .u8 (O.getD (Y.toNat*1) .top) fun a=>Aa (Hq .u64 W 8) fun b=>Aa (wrap .u64 a) fun a=>Aa (YF .u64 b a) fun a=>Aa (wrap .i64 (Y+1)) fun b=>Jg fu call L K J I H G E Q a V P O N b Z U T S M X) (Aa (wrap .i64 (M+V)) fun a=>Lj .i64 (call 141 [Af W]) fun b=>Az (decide (b<V)) (As (decide (Z*3<=X.length))<|some ⟨[(0:Int),Af 0,(2:Int)],[[.own 3 Z (X.take (Z*3)),U,Am 1 T S,a]]⟩) (As (decide (Z*3<=X.length))<|some ⟨[Q,Af W,(0:Int)],[[.own 3 Z (X.take (Z*3)),U,Am 1 T S,a]]⟩))):=by kernel_rfl
theorem HY(Z:Nat)(Y:Ab)(V:Int)(X:Nat)(W:Ab)(U:Int):Fm C0 fu d 121 [.pbox [.own 3 Z Y,V,Am 1 X W,U]] fun call=>Az (decide (U>=(↑X:Int))) (As (decide (Z*3<=Y.length))<|some ⟨[(0:Int),Af 0,(1:Int)],[[.own 3 Z (Y.take (Z*3)),V,Am 1 X W,U]]⟩) (As (decide (0<=U)&&decide (U<(↑X:Int)))<|Be .u8 (W.getD (U.toNat*1) .top) fun a=>Aa (wrap .i64 (U+1)) fun b=>Az (a==244) (Aa (wrap .u8 (a-244)) fun a=>Aa (wrap .u64 a) fun a=>As (decide (Z*3<=Y.length))<|some ⟨[(7:Int),Af a,(0:Int)],[[.own 3 Z (Y.take (Z*3)),V,Am 1 X W,b]]⟩) (Az (a==245) (Aa (wrap .u8 (a-244)) fun a=>Aa (wrap .u64 a) fun a=>As (decide (Z*3<=Y.length))<|some ⟨[(7:Int),Af a,(0:Int)],[[.own 3 Z (Y.take (Z*3)),V,Am 1 X W,b]]⟩) (Az (a==246) (As (decide (Z*3<=Y.length))<|some ⟨[(8:Int),Af 0,(0:Int)],[[.own 3 Z (Y.take (Z*3)),V,Am 1 X W,b]]⟩) (Aa (Fp .u8 a 5) fun c=>Aa (Oy .u8 a 31) fun a=>Az (decide (c>5)) (As (decide (Z*3<=Y.length))<|some ⟨[(0:Int),Af 0,(2:Int)],[[.own 3 Z (Y.take (Z*3)),V,Am 1 X W,b]]⟩) (Az (decide (a>27)) (As (decide (Z*3<=Y.length))<|some ⟨[(0:Int),Af 0,(2:Int)],[[.own 3 Z (Y.take (Z*3)),V,Am 1 X W,b]]⟩) (Aa (wrap .i64 c) fun c=>Aa (wrap .i64 (1+c)) fun c=>Az (decide (a<24)) (Aa (wrap .u64 a) fun a=>As (decide (Z*3<=Y.length))<|some ⟨[c,Af a,(0:Int)],[[.own 3 Z (Y.take (Z*3)),V,Am 1 X W,b]]⟩) (Aa (wrap .u8 (a-24)) fun a=>As (decide (0<=a))<|Aa (Hq .i64 1 a) fun a=>Aa (wrap .i64 ((↑X:Int)-b)) fun e=>Az (decide (e<a)) (As (decide (Z*3<=Y.length))<|some ⟨[(0:Int),Af 0,(1:Int)],[[.own 3 Z (Y.take (Z*3)),V,Am 1 X W,b]]⟩) (Aa (wrap .i64 (b+a)) fun e=>As (decide (0<=b))<|As (decide (0<=e))<|As (decide (b.toNat<=e.toNat)&&decide (e.toNat<=X))<|Aa (e.toNat-b.toNat) fun e=>Aa (List.take (e*1) (W.drop (b.toNat*1))) fun f=>Jg fu call Z Y V X W U fu c 0 a e f (↑e:Int) 0 Z V X W b Y)))))))):=by show _=_;kernel_rfl
theorem HR(Z:Nat)(Y:Ab)(X:Int)(W:Nat)(V:Ab)(U:Int):Fm C0 fu d 88 [.pbox [.own 3 Z Y,X,Am 1 W V,U]] fun call=>As (decide (Z*3<=Y.length))<|Bj (call 121 [.pbox [.own 3 Z (Y.take (Z*3)),X,Am 1 W V,U]]) fun a b=>Cu .i64 a fun a c=>Cu .u64 c fun c e=>Dc .i64 e fun e=>Av b fun b f=>Ue 3 b fun b g h=>Cu .i64 h fun h i=>G5 1 i fun i j k=>Dc .i64 k fun k=>Ar f<|Az (e != 0) (As (decide (b*3<=g.length))<|some ⟨[.agg [(0:Int),Af 0,.sc (.string (ByteArray.mk #[]))],e],[[.own 3 b (g.take (b*3)),h,Am 1 i j,k]]⟩) (As (decide (b*3<=g.length))<|Bj (call 122 [.pbox [.own 3 b (g.take (b*3)),h],a]) fun b e=>Dc .i64 b fun b=>Av e fun e f=>Ue 3 e fun e g h=>Dc .i64 h fun h=>Ar f<|Az (b != 0) (As (decide (e*3<=g.length))<|some ⟨[.agg [(0:Int),Af 0,.sc (.string (ByteArray.mk #[]))],b],[[.own 3 e (g.take (e*3)),h,Am 1 i j,k]]⟩) (Az (a==5) (Az (decide (c>512)) (As (decide (e*3<=g.length))<|some ⟨[.agg [(0:Int),Af 0,.sc (.string (ByteArray.mk #[]))],(8:Int)],[[.own 3 e (g.take (e*3)),h,Am 1 i j,k]]⟩) (As (decide (e*3<=g.length))<|Bj (call 123 [.pbox [.own 3 e (g.take (e*3)),h],.agg [a,Af c,.sc (.string (ByteArray.mk #[]))]]) fun b e=>Dc .i64 b fun b=>Av e fun e f=>Ue 3 e fun e g h=>Dc .i64 h fun h=>Ar f<|Az (b != 0) (As (decide (e*3<=g.length))<|some ⟨[.agg [(0:Int),Af 0,.sc (.string (ByteArray.mk #[]))],b],[[.own 3 e (g.take (e*3)),h,Am 1 i j,k]]⟩) (As (decide (e*3<=g.length))<|some ⟨[.agg [a,Af c,.sc (.string (ByteArray.mk #[]))],(0:Int)],[[.own 3 e (g.take (e*3)),h,Am 1 i j,k]]⟩))) (Az (a==6) (Az (decide (c>512)) (As (decide (e*3<=g.length))<|some ⟨[.agg [(0:Int),Af 0,.sc (.string (ByteArray.mk #[]))],(8:Int)],[[.own 3 e (g.take (e*3)),h,Am 1 i j,k]]⟩) (As (decide (e*3<=g.length))<|Bj (call 123 [.pbox [.own 3 e (g.take (e*3)),h],.agg [a,Af c,.sc (.string (ByteArray.mk #[]))]]) fun b e=>Dc .i64 b fun b=>Av e fun e f=>Ue 3 e fun e g h=>Dc .i64 h fun h=>Ar f<|Az (b != 0) (As (decide (e*3<=g.length))<|some ⟨[.agg [(0:Int),Af 0,.sc (.string (ByteArray.mk #[]))],b],[[.own 3 e (g.take (e*3)),h,Am 1 i j,k]]⟩) (As (decide (e*3<=g.length))<|some ⟨[.agg [a,Af c,.sc (.string (ByteArray.mk #[]))],(0:Int)],[[.own 3 e (g.take (e*3)),h,Am 1 i j,k]]⟩))) (Az (a==3) (Az (decide (c>1024)) (As (decide (e*3<=g.length))<|some ⟨[.agg [(0:Int),Af 0,.sc (.string (ByteArray.mk #[]))],(8:Int)],[[.own 3 e (g.take (e*3)),h,Am 1 i j,k]]⟩) (Aa (wrap .i64 ((↑i:Int)-k)) fun b=>Aa (wrap .i64 c) fun f=>Az (decide (b<f)) (As (decide (e*3<=g.length))<|some ⟨[.agg [(0:Int),Af 0,.sc (.string (ByteArray.mk #[]))],(1:Int)],[[.own 3 e (g.take (e*3)),h,Am 1 i j,k]]⟩) (Aa (wrap .i64 c) fun b=>Aa (wrap .i64 (k+b)) fun b=>As (decide (0<=k))<|As (decide (0<=b))<|As (decide (k.toNat<=b.toNat)&&decide (b.toNat<=i))<|Aa (b.toNat-k.toNat) fun b=>Aa (List.take (b*1) (j.drop (k.toNat*1))) fun f=>As (decide (f.length=b))<|F3 (bytesOf f) fun b=>Aa (wrap .i64 c) fun c=>Aa (wrap .i64 (k+c)) fun c=>As (decide (e*3<=g.length))<|Bj (call 123 [.pbox [.own 3 e (g.take (e*3)),h],.agg [a,Af 0,.sc (.string (ByteArray.mk (List.toArray b)))]]) fun e f=>Dc .i64 e fun e=>Av f fun f g=>Ue 3 f fun f h k=>Dc .i64 k fun k=>Ar g<|Az (e != 0) (As (decide (f*3<=h.length))<|some ⟨[.agg [(0:Int),Af 0,.sc (.string (ByteArray.mk #[]))],e],[[.own 3 f (h.take (f*3)),k,Am 1 i j,c]]⟩) (As (decide (f*3<=h.length))<|some ⟨[.agg [a,Af 0,.sc (.string (ByteArray.mk (List.toArray b)))],(0:Int)],[[.own 3 f (h.take (f*3)),k,Am 1 i j,c]]⟩)))) (Az (a==4) (Az (decide (c>1024)) (As (decide (e*3<=g.length))<|some ⟨[.agg [(0:Int),Af 0,.sc (.string (ByteArray.mk #[]))],(8:Int)],[[.own 3 e (g.take (e*3)),h,Am 1 i j,k]]⟩) (Aa (wrap .i64 ((↑i:Int)-k)) fun b=>Aa (wrap .i64 c) fun f=>Az (decide (b<f)) (As (decide (e*3<=g.length))<|some ⟨[.agg [(0:Int),Af 0,.sc (.string (ByteArray.mk #[]))],(1:Int)],[[.own 3 e (g.take (e*3)),h,Am 1 i j,k]]⟩) (Aa (wrap .i64 c) fun b=>Aa (wrap .i64 (k+b)) fun b=>As (decide (0<=k))<|As (decide (0<=b))<|As (decide (k.toNat<=b.toNat)&&decide (b.toNat<=i))<|Aa (b.toNat-k.toNat) fun b=>Aa (List.take (b*1) (j.drop (k.toNat*1))) fun f=>As (decide (f.length=b))<|F3 (bytesOf f) fun b=>Aa (wrap .i64 c) fun c=>Aa (wrap .i64 (k+c)) fun c=>As (decide (e*3<=g.length))<|Bj (call 123 [.pbox [.own 3 e (g.take (e*3)),h],.agg [a,Af 0,.sc (.string (ByteArray.mk (List.toArray b)))]]) fun e f=>Dc .i64 e fun e=>Av f fun f g=>Ue 3 f fun f h k=>Dc .i64 k fun k=>Ar g<|Az (e != 0) (As (decide (f*3<=h.length))<|some ⟨[.agg [(0:Int),Af 0,.sc (.string (ByteArray.mk #[]))],e],[[.own 3 f (h.take (f*3)),k,Am 1 i j,c]]⟩) (As (decide (f*3<=h.length))<|some ⟨[.agg [a,Af 0,.sc (.string (ByteArray.mk (List.toArray b)))],(0:Int)],[[.own 3 f (h.take (f*3)),k,Am 1 i j,c]]⟩)))) (As (decide (e*3<=g.length))<|Bj (call 123 [.pbox [.own 3 e (g.take (e*3)),h],.agg [a,Af c,.sc (.string (ByteArray.mk #[]))]]) fun b e=>Dc .i64 b fun b=>Av e fun e f=>Ue 3 e fun e g h=>Dc .i64 h fun h=>Ar f<|Az (b != 0) (As (decide (e*3<=g.length))<|some ⟨[.agg [(0:Int),Af 0,.sc (.string (ByteArray.mk #[]))],b],[[.own 3 e (g.take (e*3)),h,Am 1 i j,k]]⟩) (As (decide (e*3<=g.length))<|some ⟨[.agg [a,Af c,.sc (.string (ByteArray.mk #[]))],(0:Int)],[[.own 3 e (g.take (e*3)),h,Am 1 i j,k]]⟩))))))):=by show _=_;kernel_rfl
def O6(Z:Nat)(Y:Ab)(X W:Nat)(V:Ab)(U:Nat)(T:Int)(S:Nat)(Q:Ab)(P:Int)(O:Ab):Option Dt:=K0 fu call 47 Tryz.f47 [Am 1 Z Y] [.r,.r,.l,.l] X ⟨lk [(2,.view 2 3 0 W),(5,.ptr 5 0)],B3 [(2,.ar false V),(5,.st [.view 32 3 0 U,T,Am 1 S Q,P]),(32,.ar false O)]⟩
theorem NV(U:Nat)(T:Ab)(S Z:Nat)(Y:Ab)(X:Nat)(Q:Int)(P:Nat)(O:Ab)(W:Int)(V:Ab):O6 fu call U T (S+1) Z Y X Q P O W V=(As (decide (X*3<=V.length))<|Bj (call 87 [.pbox [.own 3 X (V.take (X*3)),Q]]) fun a b=>Wb a fun a=>Av b fun b c=>Ue 3 b fun b e f=>Dc .i64 f fun f=>Ar c<|Az (!a) (As (decide (b*3<=e.length))<|Bj (call 88 [.pbox [.own 3 b (e.take (b*3)),f,Am 1 P O,W]]) fun a b=>Av a fun a c=>Dl a fun a=>Cu .i64 a fun a e=>Cu .u64 e fun e f=>Av f fun f g=>Ec f fun f=>Ar g<|Dc .i64 c fun c=>Av b fun b g=>Ue 3 b fun b h i=>Cu .i64 i fun i j=>G5 1 j fun j k m=>Dc .i64 m fun m=>Ar g<|Az (c != 0) (Bu [.own 3 0 [],(0:Int),c]) (On Z 3 32 Y [a,Af e,.sc (.string f)] fun a c=>O6 fu call U T S a c b i j k m h)) (As (decide (Z*3<=Y.length))<|Bu [.own 3 Z (Y.take (Z*3)),W,(0:Int)])):=by kernel_rfl
theorem YN(Z:Nat)(Y:Ab):Fm C0 fu d 47 [Am 1 Z Y] fun call=>O6 fu call Z Y fu 0 ([]) 0 0 Z Y 0 ([]):=by show _=_;kernel_rfl
end
structure Hd where
 k:Int
 n:Int
 e:Int
 at_:Nat
def P0(n:Int):Int:=if n<24 then 0 else if n<256 then 1 else if n<65536 then 2 else if n<4294967296 then 4 else 8
def szE(low:Int):Nat:=if low=24 then 1 else if low=25 then 2 else if low=26 then 4 else 8
def Zj(b:B8)(at_:Nat)(x:Int):Hd:=
 if x=244 then ⟨7,0,0,at_+1⟩ else if x=245 then ⟨7,1,0,at_+1⟩ else if x=246 then ⟨8,0,0,at_+1⟩
 else if x / 32>5 then ⟨0,0,2,at_+1⟩ else if x % 32>27 then ⟨0,0,2,at_+1⟩
 else if x % 32<24 then ⟨1+x / 32,x % 32,0,at_+1⟩
 else if b.length-(at_+1)<szE (x % 32) then ⟨0,0,1,at_+1⟩
 else if P0 (GO ((b.drop (at_+1)).take (szE (x % 32))))<szE (x % 32) then ⟨0,0,2,at_+1+szE (x % 32)⟩
 else ⟨1+x / 32,GO ((b.drop (at_+1)).take (szE (x % 32))),0,at_+1+szE (x % 32)⟩
def Bi(b:B8)(at_:Nat):Hd:=match b[at_]? with|none=>⟨0,0,1,at_⟩|some x=>Zj b at_ x
theorem A8n{x:Int}(h:0<=x):Fp .u8 x 5=x / 32:=by
 unfold Fp;show x.fdiv (2 ^ (min (5:Int).toNat IntKind.u8.bits))=_;have h2:(2:Int) ^ (min (5:Int).toNat IntKind.u8.bits)=32:=by decide
 rw[h2,Int.fdiv_eq_ediv_of_nonneg _ (by omega)]
theorem A0n{x:Int}(h0:0<=x)(h1:x<=255):Oy .u8 x 31=x % 32:=by
 obtain⟨n,rfl⟩:=Int.eq_ofNat_of_zero_le h0;have hn:n<256:=by omega
 have e1:(BitVec.ofInt 8 (n:Int)).toNat=n:=by
  rw[BitVec.toNat_ofInt];omega
 have e2:(BitVec.ofInt 8 (31:Int)).toNat=2 ^ 5-1:=by decide
 unfold Oy;show wrap .u8 ((BitVec.ofInt 8 (n:Int) &&& BitVec.ofInt 8 (31:Int)).toNat:Int)=_;rw[BitVec.toNat_and,e1,e2,Nat.and_two_pow_sub_one_eq_mod,Il (by omega) (by omega)];omega
abbrev Ao6(l:List Iy)(cnt:Int)(b:B8)(at_:Nat):Ab:=[.own 3 l.length (Hf l),Au cnt,.lst false 1 b.length (Ac .u8 b),Au at_]
section
variable {fu d:Nat}
theorem Avb(n:Int):Aq C0 prog fu (d+1) 141 [Af n]=some ⟨[Au (P0 n)],[]⟩:=by
 rw[Acs];unfold P0
 try unfold Aa On
 repeat' first
  |((with_reducible first|apply Ai|apply Ae|apply Aj|apply Ad);· first|with_reducible rfl|(simp (disch:=first|with_reducible assumption|omega) only[Bn,A4]<;>with_reducible rfl))
  |((with_reducible first|apply Ah|apply Akf);· first|with_reducible rfl|with_reducible assumption|omega|(simp (disch:=first|with_reducible assumption|omega) only[gT,Bn,A4]<;>omega))
  |(with_reducible apply Ajn;· first|with_reducible rfl|with_reducible assumption|(simp (disch:=first|with_reducible assumption|omega) only[gF,Bn,A4]<;>omega))
  |(with_reducible refine As7 ?_ ?_<;>intro hb<;>try simp only[GU,GK,beq_iff_eq,beq_eq_false_iff_ne,bne_iff_ne,bne_eq_false_iff_eq,ne_eq,Bool.not_eq_true',Bool.not_eq_false',Bool.not_eq_true,Bool.not_eq_false] at hb)
  |(with_reducible refine Adz ?_ ?_)
 all_goals try simp (disch:=first|with_reducible assumption|omega) only[Bn,A4]
theorem TN{Mf PX:Nat}{a0 a2:Ab}{a1 a3 k cnt:Int}{l:List Iy}{b:B8}{off sz:Nat}{q:B8}(hq:q.length=sz)(hb:b.length<=1000000)(ho:off+sz<=b.length):∀(r:B8)(i nn:Nat)(v:Int),q.drop i=r->r.length<nn->i<=sz ->
    Jg fu (Aq C0 prog fu (d+1)) Mf a0 a1 PX a2 a3 nn k v (sz:Int) sz (Ac .u8 q) (sz:Int) (i:Int) l.length cnt b.length (Ac .u8 b) (off:Int) (Hf l) =
      (if P0 (r.foldl Ge v)<sz then some ⟨[Au 0,Af 0,Au 2],[Ao6 l cnt b (off+sz)]⟩
       else some ⟨[Au k,Af (r.foldl Ge v),Au 0],[Ao6 l cnt b (off+sz)]⟩)
  |_,_,0,_,_,h,_=>by omega
  |[],i,nn+1,v,hd,hn,hi=>by
    have:=drop_nil hd
    have sh:=Avb (fu:=fu) (d:=d) v
    have L:=Ei l
    have t:=E6 l
    have w:wrap .i64 ((off:Int)+(sz:Int))=((off+sz:Nat):Int):=by rw[Ag (by omega) (by omega)];omega
    rw[Qj,D6 _ _ _ (by omega),List.foldl_nil]
    by_cases hs:P0 v<sz
    · rw[Bn hs]
      simp(disch:=omega)only[Bz,Bx,w,sh,L,t,De]
    · rw[A4 hs]
      simp(disch:=omega)only[Bz,Bx,w,sh,L,t,De]
  |x::r,i,nn+1,v,hd,hn,hi=>by
    obtain⟨h1,h2,h3⟩:=C8 hd
    simp only[He] at hn
    have g0:=Ss (k:=.u8) h2
    have w:wrap .i64 ((i:Int)+1)=((i+1:Nat):Int):=by rw[Ag (by omega) (by omega)];omega
    have ih:=TN (Mf:=Mf) (PX:=PX) (a0:=a0) (a2:=a2) (a1:=a1) (a3:=a3) (k:=k) (cnt:=cnt) (l:=l) hq hb ho r (i+1) nn (Ge v x) h3 (by omega) (by omega)
    rw[List.foldl_cons,<-ih,Qj]
    simp(disch:=omega)only[Bz,Bx,H6,De,g0,w]
theorem Au2{l:List Iy}{cnt:Int}{b:B8}{at_:Nat}(Bo:1000<=fu)(hb:I7 b)(hl:b.length<=1000000):
  Aq C0 prog fu (d+2) 121 [.pbox (Ao6 l cnt b at_)]=some ⟨[Au (Bi b at_).k,Af (Bi b at_).n,Au (Bi b at_).e],[Ao6 l cnt b (Bi b at_).at_]⟩:=by
 refine (HY fu (d+1) l.length (Hf l) cnt b.length (Ac .u8 b) (at_:Int)).trans ?_;have L:=Ei l;have t:=E6 l;have Lb:=Ap .u8 b;have tb:=Mi .u8 b;unfold Bi;by_cases Cr:at_<b.length
 rotate_left
 ·have hg:b[at_]?=none:=List.getElem?_eq_none (by omega);rw[hg];simp(disch:=omega)only[Bz,Bx,L,t,Lb,tb,De]
 have hg:b[at_]?=some b[at_]:=List.getElem?_eq_getElem Cr;have hB:=hb _ (List.getElem_mem Cr);rw[hg];generalize b[at_]=x at hg hB;have g0:=Ss (k:=.u8) hg;have w1:wrap .i64 ((at_:Int)+1)=((at_+1:Nat):Int):=by rw[Ag (by omega) (by omega)];omega
 have s5:=A8n hB.1;have a31:=A0n hB.1 hB.2;unfold Zj;simp only;by_cases c1:x=244
 ·subst c1;have q:wrap .u64 (wrap .u8 ((244:Int)-244))=0:=by decide
  simp(disch:=omega)only[Bz,Bx,H6,Ck,De,g0,Int.reduceBEq,w1,L,t,Lb,tb,q]
 rw[A4 c1];have b1:(x==(244:Int))=false:=by simp[c1]
 by_cases c2:x=245
 ·subst c2;have q:wrap .u64 (wrap .u8 ((245:Int)-244))=1:=by decide
  simp(disch:=omega)only[Bz,Bx,H6,Ck,De,g0,Int.reduceBEq,w1,L,t,Lb,tb,q,if_true]
 rw[A4 c2];have b2:(x==(245:Int))=false:=by simp[c2]
 by_cases c3:x=246
 ·subst c3;simp(disch:=omega)only[Bz,Bx,H6,Ck,De,g0,Int.reduceBEq,w1,L,t,Lb,tb,if_true]
 rw[A4 c3];have b3:(x==(246:Int))=false:=by simp[c3]
 by_cases c4:x / 32>5
 ·rw[Bn c4];simp(disch:=omega)only[Bz,Bx,H6,Ck,De,g0,b1,b2,b3,s5,a31,w1,L,t,Lb,tb]
 rw[A4 c4];by_cases c5:x % 32>27
 ·rw[Bn c5];simp(disch:=omega)only[Bz,Bx,H6,Ck,De,g0,b1,b2,b3,s5,a31,w1,L,t,Lb,tb]
 rw[A4 c5];have wk1:wrap .i64 (x / 32)=x / 32:=Ag (by omega) (by omega);have wk2:wrap .i64 (1+x / 32)=1+x / 32:=Ag (by omega) (by omega);by_cases c6:x % 32<24
 ·have wn:wrap .u64 (x % 32)=x % 32:=Cd (by omega) (by omega);rw[Bn c6];simp(disch:=omega)only[Bz,Bx,H6,Ck,De,g0,b1,b2,b3,s5,a31,w1,wk1,wk2,wn,L,t,Lb,tb]
 rw[A4 c6];have q1:wrap .u8 (x % 32-24)=x % 32-24:=Il (by omega) (by omega)
 have q2:Hq .i64 1 (x % 32-24)=(szE (x % 32):Int):=by
  have:x % 32=24\/x % 32=25\/x % 32=26\/x % 32=27:=by omega
  rcases this with h|h|h|h<;>rw[h]<;>decide
 have q3:szE (x % 32)<=8:=by
  unfold szE
  repeat' split
  all_goals omega
 generalize szE (x % 32)=sz at q2 q3 ⊢;have q4:wrap .i64 ((b.length:Int)-((at_+1:Nat):Int))=((b.length-(at_+1):Nat):Int):=by rw[Ag (by omega) (by omega)];omega
 by_cases c7:b.length-(at_+1)<sz
 ·rw[Bn c7];simp(disch:=omega)only[Bz,Bx,H6,Ck,De,g0,b1,b2,b3,s5,a31,w1,wk1,wk2,q1,q2,q4,L,t,Lb,tb]
 rw[A4 c7];have q5:wrap .i64 (((at_+1:Nat):Int)+(sz:Int))=((at_+1+sz:Nat):Int):=by rw[Ag (by omega) (by omega)];omega
 have q6:at_+1+sz-(at_+1)=sz:=by omega
 have lp:=TN (fu:=fu) (d:=d) (Mf:=l.length) (PX:=b.length) (a0:=Hf l) (a2:=Ac .u8 b) (a1:=cnt) (a3:=(at_:Int)) (k:=1+x / 32) (cnt:=cnt) (l:=l) (b:=b) (off:=at_+1) (sz:=sz) (q:=(b.drop (at_+1)).take sz) (by rw[List.length_take,List.length_drop];omega) hl (by omega) _ 0 fu 0 rfl (by rw[Er,List.length_take];omega) (by omega)
 rw[Er] at lp;have lp':=lp;unfold GO;by_cases c8:P0 (((b.drop (at_+1)).take sz).foldl Ge 0)<sz
 ·rw[Bn c8] at lp' ⊢;simp(disch:=omega)only[Bz,Bx,H6,Ck,De,g0,b1,b2,b3,s5,a31,w1,wk1,wk2,q1,q2,q4,q5,q6,Ho,Oe,L,t,Lb,tb];exact lp'
 ·rw[A4 c8] at lp' ⊢;simp(disch:=omega)only[Bz,Bx,H6,Ck,De,g0,b1,b2,b3,s5,a31,w1,wk1,wk2,q1,q2,q4,q5,q6,Ho,Oe,L,t,Lb,tb];exact lp'
end
structure Rd where
 x:It
 e:Int
 l:List Iy
 cnt:Int
 at_:Nat
def it0:It:=⟨0,0,⟨#[]⟩⟩
def BZ(l:List Iy)(cnt:Int)(x:It)(at_:Nat):Rd:=if (Fx l x).1=0 then ⟨x,0,(Fx l x).2,cnt+1,at_⟩ else ⟨it0,(Fx l x).1,(Fx l x).2,cnt,at_⟩
def Aep(l:List Iy)(cnt:Int)(b:B8)(h:Hd):Rd:=
 if h.e≠0 then ⟨it0,h.e,l,cnt,h.at_⟩
 else if P2 l cnt h.k≠0 then ⟨it0,P2 l cnt h.k,l,cnt,h.at_⟩
 else if h.k=5\/h.k=6 then (if h.n>512 then ⟨it0,8,l,cnt,h.at_⟩ else BZ l cnt ⟨h.k,h.n,⟨#[]⟩⟩ h.at_)
 else if h.k=3\/h.k=4 then (if h.n>1024 then ⟨it0,8,l,cnt,h.at_⟩ else if b.length-h.at_<h.n.toNat then ⟨it0,1,l,cnt,h.at_⟩
  else BZ l cnt ⟨h.k,0,Bk ((b.drop h.at_).take h.n.toNat)⟩ (h.at_+h.n.toNat))
 else BZ l cnt ⟨h.k,h.n,⟨#[]⟩⟩ h.at_
def Hx(l:List Iy)(cnt:Int)(b:B8)(at_:Nat):Rd:=Aep l cnt b (Bi b at_)
theorem QI(a b:Int):0<=Ge a b/\Ge a b<=18446744073709551615:=Ls _
theorem CO:∀(l:B8)(v:Int),0<=v->v<=18446744073709551615->0<=l.foldl Ge v/\l.foldl Ge v<=18446744073709551615
 |[],v,h0,h1=>⟨h0,h1⟩
 |x::l,v,h0,h1=>CO l _ (QI v x).1 (QI v x).2
theorem Uc{b:B8}{at_:Nat}(hb:I7 b)(ha:at_<=b.length):(Bi b at_).at_<=b.length/\((Bi b at_).e=0->1<=(Bi b at_).k/\(Bi b at_).k<=8/\0<=(Bi b at_).n/\(Bi b at_).n<=18446744073709551615/\at_<(Bi b at_).at_):=by
 unfold Bi;by_cases Cr:at_<b.length
 rotate_left
 ·have hg:b[at_]?=none:=List.getElem?_eq_none (by omega);rw[hg];exact⟨ha,fun h=>by simp at h⟩
 have hg:b[at_]?=some b[at_]:=List.getElem?_eq_getElem Cr;have hB:=hb _ (List.getElem_mem Cr);rw[hg];generalize b[at_]=x at hB;have hd:=CO ((b.drop (at_+1)).take (szE (x % 32))) 0 (by omega) (by omega);show (Zj b at_ x).at_<=b.length/\_;simp only[Zj];unfold GO
 repeat' split
 all_goals refine⟨by simp only;omega,fun h=>?_⟩
 all_goals first
  |(simp at h;done)
  |(simp only;omega)
section
variable {fu d:Nat}
theorem Aq5{l:List Iy}{cnt:Int}{b:B8}{at_:Nat}(Bo:1000<=fu)(hb:I7 b)(hl:b.length<=1000000)(ha:at_<=b.length)(hf:l.length<=900)(h0:0<=cnt)(h1:cnt<=1000000):
  Aq C0 prog fu (d+4) 88 [.pbox (Ao6 l cnt b at_)]=some ⟨[.agg (Hx l cnt b at_).x.cells,Au (Hx l cnt b at_).e],[Ao6 (Hx l cnt b at_).l (Hx l cnt b at_).cnt b (Hx l cnt b at_).at_]⟩:=by
 refine (HR fu (d+3) l.length (Hf l) cnt b.length (Ac .u8 b) (at_:Int)).trans ?_;have hd:=Au2 (fu:=fu) (d:=d+1) (l:=l) (cnt:=cnt) (at_:=at_) Bo hb hl;have hk:=Uc hb ha;unfold Hx;generalize Bi b at_=h at hd hk ⊢;obtain⟨k,n,e,a⟩:=h;obtain⟨ka,hk⟩:=hk;simp only at hd ka hk;have L:=Ei l;have t:=E6 l;have ad:=Aga (fu:=fu) (d:=d+1) (l:=l) (by omega) cnt k;unfold P8 at ad;unfold Aep;by_cases he:e=0
 rotate_left
 ·simp only[ne_eq,he,Ag0,if_true];have Yz:(e != 0)=true:=by simp[he]
  repeat(with_reducible(first|apply Ai|apply Ae|apply Aj|apply Bb|apply A6|apply Gp|apply Ad|apply Ah|apply Cs);· first|constructor|(simp(disch:=omega)only[Ct,hd,Yz,L,t]<;>first|constructor|omega)|omega)
  try simp(disch:=omega)only[Aa,hd,Yz,L,t]
  all_goals rfl
 subst he;obtain⟨k1,k8,n0,n1,_⟩:=hk rfl;obtain⟨m,rfl⟩:=Int.eq_ofNat_of_zero_le n0;have e00:((0:Int) != 0)=false:=rfl;simp only[ne_eq,not_true_eq_false,if_false];by_cases hm:P2 l cnt k=0
 rotate_left
 ·simp only[hm,Ag0,if_true];have Yz:(P2 l cnt k != 0)=true:=by simp[hm]
  repeat(with_reducible(first|apply Ai|apply Ae|apply Aj|apply Bb|apply A6|apply Gp|apply Ad|apply Ah|apply Cs);· first|constructor|(simp(disch:=omega)only[Ct,hd,e00,ad,Yz,L,t]<;>first|constructor|omega)|omega)
  try simp(disch:=omega)only[Aa,hd,e00,ad,Yz,L,t]
  all_goals rfl
 rw[hm] at ad ⊢;simp only[not_true_eq_false,if_false,H6];have ac1:=ZN (fu:=fu) (d:=d) (l:=l) (x:=⟨k,m,⟨#[]⟩⟩) (cnt:=cnt) Bo (by omega) h0 h1 ⟨k1,k8,n0,Nat.zero_le _⟩ (Nat.zero_le _);have LA:=Ei (Fx l ⟨k,m,⟨#[]⟩⟩).2;have tA:=E6 (Fx l ⟨k,m,⟨#[]⟩⟩).2;have B:=fun (hn:m<=1024)=>ZN (fu:=fu) (d:=d) (l:=l) (x:=⟨k,0,Bk ((b.drop a).take m)⟩) (cnt:=cnt) Bo (by omega) h0 h1 ⟨k1,k8,by simp,by rw[H1,List.length_take];omega⟩ (by rw[H1,List.length_take];omega)
 have LB:=Ei (Fx l ⟨k,0,Bk ((b.drop a).take m)⟩).2;have tB:=E6 (Fx l ⟨k,0,Bk ((b.drop a).take m)⟩).2;unfold BZ;generalize Fx l ⟨k,m,⟨#[]⟩⟩=A at *
 obtain⟨A1,A2⟩:=A;have eB:ByteArray.mk (List.toArray (((b.drop a).take m).map fun n=>n.toNat.toUInt8))=Bk ((b.drop a).take m):=rfl;have bo:=Hc ((b.drop a).take m);have tk:List.take m (List.drop a (Ac .u8 b))=Ac .u8 ((b.drop a).take m):=by rw[Ho,Oe]
 have lq:(Ac .u8 ((b.drop a).take m)).length=min m (b.length-a):=by rw[Ap,List.length_take,List.length_drop]
 have Lb:=Ap .u8 b;generalize Bk ((b.drop a).take m)=S at *
 generalize Fx l ⟨k,0,S⟩=B' at *
 obtain⟨B1,B2⟩:=B';generalize (b.drop a).take m=q at *
 unfold P8 It.cells at ac1 B;simp only at ac1 B LA tA LB tB;have w1:wrap .i64 ((b.length:Int)-(a:Int))=((b.length-a:Nat):Int):=by rw[Ag (by omega) (by omega)];omega
 have w2:m<=1024->wrap .i64 (m:Int)=m:=fun h=>Ag (by omega) (by omega);have w3:m<=1024->wrap .i64 ((a:Int)+(m:Int))=((a+m:Nat):Int):=fun h=>by rw[Ag (by omega) (by omega)];omega
 have w4:a+m-a=m:=by omega
 try unfold Aa On
 repeat' first
  |((with_reducible first|apply Ai|apply Ae|apply Aj|apply Bb|apply A6|apply Gp|apply Ad);· first|with_reducible rfl|(simp (disch:=first|with_reducible assumption|omega) only[hd,e00,ad,L,t,ac1,LA,tA,B,LB,tB,w1,w2,w3,w4,tk,bo,lq,eB,H6,De,Ck]<;>with_reducible rfl))
  |((with_reducible first|apply Ah|apply Akf);· first|with_reducible rfl|with_reducible assumption|omega|(simp (disch:=first|with_reducible assumption|omega) only[gT,hd,e00,ad,L,t,ac1,LA,tA,B,LB,tB,w1,w2,w3,w4,tk,bo,lq,eB,H6,De,Ck]<;>omega))
  |(with_reducible apply Ajn;· first|with_reducible rfl|with_reducible assumption|(simp (disch:=first|with_reducible assumption|omega) only[gF,hd,e00,ad,L,t,ac1,LA,tA,B,LB,tB,w1,w2,w3,w4,tk,bo,lq,eB,H6,De,Ck]<;>omega))
  |(with_reducible refine As7 ?_ ?_<;>intro hb<;>try simp only[GU,GK,beq_iff_eq,beq_eq_false_iff_ne,bne_iff_ne,bne_eq_false_iff_eq,ne_eq,Bool.not_eq_true',Bool.not_eq_false',Bool.not_eq_true,Bool.not_eq_false] at hb)
  |(with_reducible refine Adz ?_ ?_)
 all_goals try simp (disch:=first|with_reducible assumption|omega) only[hd,e00,ad,L,t,ac1,LA,tA,B,LB,tB,w1,w2,w3,w4,tk,bo,lq,eB,H6,De,Ck,Bn,A4]
 all_goals rfl
end
def VS(l:List Iy)(cnt:Int):Bool:=decide (cnt>0)&&((l.length:Int)==0)
def Ld:Nat->List Iy->Int->B8->Nat->List It->List It × Nat × Int
 |0,_,_,_,_,_=>([],0,2)
 |m+1,l,cnt,b,at_,its=>if VS l cnt=true then (its,at_,0) else
  if (Hx l cnt b at_).e≠0 then ([],0,(Hx l cnt b at_).e) else Ld m (Hx l cnt b at_).l (Hx l cnt b at_).cnt b (Hx l cnt b at_).at_ (its++[(Hx l cnt b at_).x])
def HO(r:List It × Nat × Int):Ab:=[.own 3 r.1.length (Ay r.1),Au r.2.1,Au r.2.2]
theorem Auc(l:List Iy):(NE l).length<=l.length:=by unfold NE;rw[List.length_reverse];have:=(List.dropWhile_sublist (l:=l.reverse) fun f=>f.left==0).length_le;rw[List.length_reverse] at this;exact this
theorem Abe(l:List Iy)(x:It):(Ie l x).length<=l.length+1:=by
 unfold Ie;refine Nat.le_trans (Auc _) ?_;have:=IG l;unfold VF
 repeat' split
 all_goals simp
 all_goals omega
theorem Ajp(l:List Iy)(k:B8):(Nm l k).length=l.length:=by
 rcases L6 l with rfl|⟨l',f,rfl⟩
 ·rfl
 ·rw[Sb];simp
theorem Afe(l:List Iy)(x:It):(Fx l x).2.length<=l.length+1:=by
 unfold Fx;have h1:=Abe l x;have h2:=Abe (Nm l (B9 x)) x;rw[Ajp] at h2
 repeat' split
 all_goals simp only
 all_goals omega
structure OkX(x:It):Prop where
 k1:1<=x.k
 k8:x.k<=8
 n0:0<=x.n
 n1:x.n<=18446744073709551615
 s1:x.s.size<=1024
theorem Ark{l:List Iy}{cnt k:Int}(h:P2 l cnt k=0):cnt<512/\l.length<=8:=by
 unfold P2 at h
 repeat' split at h
 all_goals first
  |(cases h;done)
  |omega
theorem XP{l:List Iy}{cnt:Int}{x:It}{at_:Nat}(hx:OkX x)(h:(BZ l cnt x at_).e=0):(BZ l cnt x at_).cnt=cnt+1/\(BZ l cnt x at_).l.length<=l.length+1/\(BZ l cnt x at_).at_=at_/\OkX (BZ l cnt x at_).x:=by
 have:=Afe l x;unfold BZ at h ⊢;by_cases hz:(Fx l x).1=0
 ·rw[Bn hz];exact⟨rfl,this,rfl,hx⟩
 ·rw[A4 hz] at h;exact absurd h hz
theorem OO{l:List Iy}{cnt:Int}{b:B8}{at_:Nat}(hb:I7 b)(ha:at_<=b.length)(h:(Hx l cnt b at_).e=0):
  cnt<512/\(Hx l cnt b at_).cnt=cnt+1/\(Hx l cnt b at_).l.length<=9/\at_<(Hx l cnt b at_).at_/\(Hx l cnt b at_).at_<=b.length/\OkX (Hx l cnt b at_).x:=by
 have hk:=Uc hb ha;unfold Hx at h ⊢;generalize Bi b at_=q at h hk ⊢;obtain⟨k,n,e,a⟩:=q;obtain⟨ka,hk⟩:=hk;unfold Aep at h ⊢;simp only at h hk ka ⊢;by_cases he:e=0
 rotate_left
 ·rw[Bn he] at h;exact absurd h he
 subst he;obtain⟨k1,k8,n0,n1,Cr⟩:=hk rfl;rw[A4 (by simp)] at h ⊢;by_cases hm:P2 l cnt k=0
 rotate_left
 ·rw[Bn hm] at h;exact absurd h hm
 obtain⟨c1,c2⟩:=Ark hm;rw[A4 (by simp[hm])] at h ⊢;have z:(ByteArray.mk #[]).size<=1024:=Nat.zero_le _;by_cases h56:k=5\/k=6
 ·rw[Bn h56] at h ⊢;by_cases hn:n>512
  ·rw[Bn hn] at h;exact absurd h (by simp)
  ·rw[A4 hn] at h ⊢;obtain⟨p1,p2,p3,p4⟩:=XP ⟨k1,k8,n0,n1,z⟩ h;exact⟨c1,p1,by omega,by omega,by omega,p4⟩
 ·rw[A4 h56] at h ⊢;by_cases h34:k=3\/k=4
  ·rw[Bn h34] at h ⊢;by_cases hn:n>1024
   ·rw[Bn hn] at h;exact absurd h (by simp)
   ·rw[A4 hn] at h ⊢;by_cases hr:b.length-a<n.toNat
    ·rw[Bn hr] at h;exact absurd h (by simp)
    ·rw[A4 hr] at h ⊢;obtain⟨p1,p2,p3,p4⟩:=XP ⟨k1,k8,by simp,by simp,by rw[H1,List.length_take];omega⟩ h
     exact⟨c1,p1,by omega,by omega,by omega,p4⟩
  ·rw[A4 h34] at h ⊢;obtain⟨p1,p2,p3,p4⟩:=XP ⟨k1,k8,n0,n1,z⟩ h;exact⟨c1,p1,by omega,by omega,by omega,p4⟩
theorem Ahf{b:B8}(hb:I7 b):∀(m:Nat)(l:List Iy)(cnt:Int)(at_:Nat)(its:List It),at_<=b.length->(∀x∈its,OkX x)->(Ld m l cnt b at_ its).2.1<=b.length/\∀x∈(Ld m l cnt b at_ its).1,OkX x
 |0,l,cnt,at_,its,h,hi=>⟨by simp[Ld],by intro x hx;simp[Ld] at hx⟩
 |m+1,l,cnt,at_,its,h,hi=>by
  unfold Ld;by_cases hd:VS l cnt=true
  ·rw[Bn hd];exact⟨h,hi⟩
  ·rw[A4 hd];by_cases he:(Hx l cnt b at_).e=0
   ·rw[A4 (by simp[he])];obtain⟨_,_,_,_,p,q⟩:=OO hb h he;refine Ahf hb m _ _ _ _ p ?_;intro x hx;rcases B4.1 hx with hx|hx
    ·exact hi x hx
    ·simp at hx;subst hx;exact q
   ·rw[Bn he];exact⟨by simp,by intro x hx;simp at hx⟩
section
variable {fu d:Nat}
theorem Ae0(Bo:1000<=fu){Mf:Nat}{a0:Ab}{b:B8}(hb:I7 b)(hl:b.length<=1000000):∀(nn:Nat)(l:List Iy)(cnt:Int)(at_:Nat)(its:List It),0<=cnt->cnt<=512->512-cnt<nn->l.length<=9->at_<=b.length->its.length=cnt.toNat ->
  O6 fu (Aq C0 prog fu (d+4)) Mf a0 nn its.length (Ay its) l.length cnt b.length (Ac .u8 b) (at_:Int) (Hf l)=some ⟨HO (Ld nn l cnt b at_ its),[]⟩
 |0,_,_,_,_,_,_,h,_,_,_=>by omega
 |nn+1,l,cnt,at_,its,h0,h1,hn,hf,ha,hi=>by
  have dn:=Ade (fu:=fu) (d:=d+3) l cnt;have ri:=Aq5 (fu:=fu) (d:=d) (l:=l) (cnt:=cnt) (b:=b) (at_:=at_) Bo hb hl ha (by omega) h0 (by omega);have ok:=OO (l:=l) (cnt:=cnt) hb ha;have L:=Ei l;have t:=E6 l;have LT:=Cx its;have tT:List.take (its.length*3) (Ay its)=Ay its:=Hg (by omega);have ih:=Ae0 Bo (Mf:=Mf) (a0:=a0) hb hl nn;rw[NV];unfold Ld;unfold P8 at dn;change _=some (Dt.mk [.sc (.bool (VS l cnt))] _) at dn;generalize Hx l cnt b at_=r at ri ok ⊢;obtain⟨x,e,l2,cnt2,at2⟩:=r;simp only at ri ok ⊢;cases hd:VS l cnt
  ·rw[hd] at dn;rw[A4 (by simp)];by_cases he:e=0
   ·subst he;obtain⟨p1,rfl,p3,p4,p5,p6⟩:=ok rfl;have q:=ih l2 (cnt+1) at2 (its++[x]) (by omega) (by omega) (by omega) p3 p5 (by simp;omega)
    rw[A4 (by simp),<-q,U5,F9];have e1:Ay [x]=x.cells:=by simp[Ay]
    rw[e1];obtain⟨xk,xn,xs⟩:=x;unfold It.cells at ri ⊢;have e00:((0:Int) != 0)=false:=rfl
    repeat(with_reducible(first|apply Ai|apply Ae|apply Aj|apply Ao|apply Aw|apply Bb|apply A6|apply At|apply Ad|apply Ah|apply Cs);· first|constructor|(simp(disch:=omega)only[Ct,dn,ri,e00,L,t,LT,tT]<;>first|constructor|omega)|omega)
    try simp(disch:=omega)only[Aa,dn,ri,e00,L,t,LT,tT]
    all_goals rfl
   ·have Yz:(e != 0)=true:=by simp[he]
    rw[Bn he];obtain⟨xk,xn,xs⟩:=x;unfold It.cells at ri
    repeat(with_reducible(first|apply Ai|apply Ae|apply Aj|apply Ao|apply Aw|apply Bb|apply A6|apply At|apply Ad|apply Ah|apply Cs);· first|constructor|(simp(disch:=omega)only[Ct,dn,ri,Yz,L,t,LT,tT]<;>first|constructor|omega)|omega)
    try simp(disch:=omega)only[Aa,dn,ri,Yz,L,t,LT,tT]
    all_goals rfl
  ·rw[hd] at dn;rw[Bn rfl]
   repeat(with_reducible(first|apply Ai|apply Ae|apply Aj|apply Ao|apply Aw|apply Bb|apply A6|apply At|apply Ad|apply Ah|apply Cs);· first|constructor|(simp(disch:=omega)only[Ct,dn,L,t,LT,tT]<;>first|constructor|omega)|omega)
   try simp(disch:=omega)only[Aa,dn,L,t,LT,tT]
   all_goals rfl
theorem Apj(Bo:1000<=fu){b:B8}(hb:I7 b)(hl:b.length<=1000000):
  Aq C0 prog fu (d+5) 47 [.lst false 1 b.length (Ac .u8 b)]=some ⟨HO (Ld fu [] 0 b 0 []),[]⟩:=by
 rw[YN];exact Ae0 Bo hb hl fu [] 0 0 [] (by omega) (by omega) (by omega) (by simp) (by omega) (by simp)
end
theorem Axw{n:Int}(h0:0<=n):(n<256->GO (tb n 1)=n)/\(n<65536->GO (tb n 2)=n)/\(n<4294967296->GO (tb n 4)=n)/\(n<=18446744073709551615->GO (tb n 8)=n):=by
 have st:∀(k:Nat) (D:Int),n<=18446744073709551615->k<8->(2:Int) ^ (56-8*k)=D->0<D->Ge (n / D / 256) (Eu n k)=n / D:=by
  intro k D h1 hk hD hp;rw[ZT k hk,hD];exact A0e (Int.ediv_nonneg h0 (Int.le_of_lt hp)) (Int.le_trans (Int.ediv_le_self _ h0) h1)
 refine⟨fun h=>?_,fun h=>?_,fun h=>?_,fun h=>Abj h0 h⟩
 ·have s7:=st 7 1 (by omega) (by omega) (by decide) (by omega);rw[show n / 1 / 256=0 by omega,show n / 1=n by omega] at s7;exact s7
 ·have s6:=st 6 256 (by omega) (by omega) (by decide) (by omega);have s7:=st 7 1 (by omega) (by omega) (by decide) (by omega);rw[show n / 256 / 256=0 by omega] at s6;rw[show n / 1 / 256=n / 256 by omega,show n / 1=n by omega] at s7;show Ge (Ge 0 (Eu n 6)) (Eu n 7)=n;rw[s6,s7]
 ·have s4:=st 4 16777216 (by omega) (by omega) (by decide) (by omega);have s5:=st 5 65536 (by omega) (by omega) (by decide) (by omega);have s6:=st 6 256 (by omega) (by omega) (by decide) (by omega);have s7:=st 7 1 (by omega) (by omega) (by decide) (by omega);rw[show n / 16777216 / 256=0 by omega] at s4;rw[show n / 65536 / 256=n / 16777216 by omega] at s5;rw[show n / 256 / 256=n / 65536 by omega] at s6;rw[show n / 1 / 256=n / 256 by omega,show n / 1=n by omega] at s7;show Ge (Ge (Ge (Ge 0 (Eu n 4)) (Eu n 5)) (Eu n 6)) (Eu n 7)=n;rw[s4,s5,s6,s7]
theorem FE{b:B8}{at_:Nat}{mj n low:Int}{k:Nat}{rest:B8}(m0:0<=mj)(m5:mj<=5)(l0:24<=low)(l1:low<=27)(hk:szE low=k)(h:b.drop (at_+1)=tb n k++rest)(hd:GO (tb n k)=n)(hs:¬(P0 n<(k:Int))):
  Zj b at_ (32*mj+low)=⟨1+mj,n,0,at_+1+k⟩:=by
 have e1:(32*mj+low) / 32=mj:=by omega
 have e2:(32*mj+low) % 32=low:=by omega
 have e3:(b.drop (at_+1)).take k=tb n k:=by rw[h,List.take_left' (HV n k)]
 have e4:k<=b.length-(at_+1):=by
  have:=congrArg List.length h;rw[List.length_drop,F9,HV] at this;omega
 unfold Zj;rw[e1,e2,hk,e3,hd,A4 (by omega),A4 (by omega),A4 (by omega),A4 (by omega),A4 (by omega),A4 (by omega),A4 (by omega),A4 hs]
theorem IL{b:B8}{at_:Nat}{mj n:Int}{rest:B8}(h:b.drop at_=Ee mj n++rest)(m0:0<=mj)(m5:mj<=5)(n0:0<=n)(n1:n<=18446744073709551615):
  Bi b at_=⟨1+mj,n,0,at_+(Ee mj n).length⟩:=by
 obtain⟨d1,d2,d4,d8⟩:=Axw n0;unfold Bi;unfold Ee at h ⊢;by_cases c1:n<24
 ·rw[Bn c1] at h ⊢;obtain⟨_,g,_⟩:=C8 h;rw[g];show Zj b at_ (32*mj+n)=_;unfold Zj;have e1:(32*mj+n) / 32=mj:=by omega
  have e2:(32*mj+n) % 32=n:=by omega
  rw[e1,e2,A4 (by omega),A4 (by omega),A4 (by omega),A4 (by omega),A4 (by omega),Bn c1];rfl
 rw[A4 c1] at h ⊢;by_cases c2:n<256
 ·rw[Bn c2] at h ⊢;obtain⟨_,g,g2⟩:=C8 h;rw[g];have:=FE (at_:=at_) m0 m5 (low:=24) (by omega) (by omega) (k:=1) (by decide) g2 (d1 c2) (by unfold P0;rw[A4 c1,Bn c2];omega)
  show Zj b at_ (32*mj+24)=_;rw[this,He,HV]
 rw[A4 c2] at h ⊢;by_cases c3:n<65536
 ·rw[Bn c3] at h ⊢;obtain⟨_,g,g2⟩:=C8 h;rw[g];have:=FE (at_:=at_) m0 m5 (low:=25) (by omega) (by omega) (k:=2) (by decide) g2 (d2 c3) (by unfold P0;rw[A4 c1,A4 c2,Bn c3];omega)
  show Zj b at_ (32*mj+25)=_;rw[this,He,HV]
 rw[A4 c3] at h ⊢;by_cases c4:n<4294967296
 ·rw[Bn c4] at h ⊢;obtain⟨_,g,g2⟩:=C8 h;rw[g];have:=FE (at_:=at_) m0 m5 (low:=26) (by omega) (by omega) (k:=4) (by decide) g2 (d4 c4) (by unfold P0;rw[A4 c1,A4 c2,A4 c3,Bn c4];omega)
  show Zj b at_ (32*mj+26)=_;rw[this,He,HV]
 ·rw[A4 c4] at h ⊢;obtain⟨_,g,g2⟩:=C8 h;rw[g];have:=FE (at_:=at_) m0 m5 (low:=27) (by omega) (by omega) (k:=8) (by decide) g2 (d8 n1) (by unfold P0;rw[A4 c1,A4 c2,A4 c3,A4 c4];omega)
  show Zj b at_ (32*mj+27)=_;rw[this,He,HV]
theorem Adi{s:ByteArray}(h:OV s=true):s=⟨#[]⟩:=by unfold OV at h;have:=eq_of_beq h;apply ByteArray.ext;exact Array.toList_inj.1 this
def nOf(x:It):Int:=if x.k=3\/x.k=4 then (x.s.size:Int) else x.n
theorem IR{x:It}{b:B8}{at_:Nat}{rest:B8}(hsh:K7 x=true)(k1:1<=x.k)(k8:x.k<=8)(n0:0<=x.n)(n1:x.n<=18446744073709551615)(hs:x.s.size<=1024)(h:b.drop at_=B9 x++rest):
  Bi b at_=⟨x.k,nOf x,0,at_+((B9 x).length-x.s.size)⟩/\(x.k=3\/x.k=4->x.n=0/\b.drop (at_+((B9 x).length-x.s.size))=Cy x.s++rest)/\(¬(x.k=3\/x.k=4)->x.s=⟨#[]⟩)/\x.s.size<=(B9 x).length:=by
 obtain⟨k,n,s⟩:=x;have z:(ByteArray.mk #[]).size=0:=rfl;simp only at k1 k8 n0 n1 hs ⊢;unfold K7 at hsh;simp only at hsh;have L:=Gl s;have E7:k=7->B9 ⟨k,n,s⟩=[wrap .u8 (244+wrap .u8 n)]:=fun e=>by unfold B9;rw[Bn e]
 have E8:k=8->B9 ⟨k,n,s⟩=[246]:=fun e=>by subst e;rfl
 have E3:k=3->B9 ⟨k,n,s⟩=Ee 2 s.size++Cy s:=fun e=>by subst e;rfl
 have E4:k=4->B9 ⟨k,n,s⟩=Ee 3 s.size++Cy s:=fun e=>by subst e;rfl
 have E0:k≠7->k≠8->k≠3->k≠4->B9 ⟨k,n,s⟩=Ee (k-1) n:=fun a b c d=>by unfold B9;rw[A4 a,A4 b,A4 c,A4 d]
 have N34:k=3\/k=4->nOf ⟨k,n,s⟩=s.size:=fun e=>by unfold nOf;rw[Bn e]
 have N0:¬(k=3\/k=4)->nOf ⟨k,n,s⟩=n:=fun e=>by unfold nOf;rw[A4 e]
 by_cases c7:k=7
 ·subst c7;simp at hsh;obtain⟨hn,hs⟩:=hsh;obtain rfl:=Adi hs;rw[E7 rfl] at h ⊢;rw[N0 (by omega)];obtain⟨_,g,_⟩:=C8 h;refine⟨?_,fun h=>by omega,fun _=>rfl,Nat.zero_le _⟩;have:n=0\/n=1:=by omega
  unfold Bi;rw[g];rcases this with rfl|rfl
  ·rfl
  ·rfl
 by_cases c8:k=8
 ·subst c8;simp at hsh;obtain⟨rfl,hs⟩:=hsh;obtain rfl:=Adi hs;rw[E8 rfl] at h ⊢;rw[N0 (by omega)];obtain⟨_,g,_⟩:=C8 h;refine⟨?_,fun h=>by omega,fun _=>rfl,Nat.zero_le _⟩;unfold Bi;rw[g];rfl
 by_cases c3:k=3
 ·subst c3;simp at hsh;subst hsh;rw[E3 rfl] at h ⊢;rw[N34 (by omega)];rw[FX] at h;have q:=IL h (by omega) (by omega) (by omega) (by omega);have e:(Ee 2 (s.size:Int)++Cy s).length-s.size=(Ee 2 (s.size:Int)).length:=by rw[F9,L];omega
  rw[e];refine⟨q,fun _=>⟨rfl,?_⟩,fun h=>by omega,by rw[F9,L];omega⟩
  rw[<-List.drop_drop,h,List.drop_left' rfl]
 by_cases c4:k=4
 ·subst c4;simp at hsh;subst hsh;rw[E4 rfl] at h ⊢;rw[N34 (by omega)];rw[FX] at h;have q:=IL h (by omega) (by omega) (by omega) (by omega);have e:(Ee 3 (s.size:Int)++Cy s).length-s.size=(Ee 3 (s.size:Int)).length:=by rw[F9,L];omega
  rw[e];refine⟨q,fun _=>⟨rfl,?_⟩,fun h=>by omega,by rw[F9,L];omega⟩
  rw[<-List.drop_drop,h,List.drop_left' rfl]
 rw[A4 c3,A4 c4,A4 c8,A4 c7] at hsh;obtain rfl:=Adi hsh;rw[E0 c7 c8 c3 c4] at h ⊢;rw[N0 (by omega)];have q:=IL h (by omega) (by omega) n0 n1;refine⟨?_,fun h=>by omega,fun _=>rfl,by rw[z];omega⟩
 rw[q,z,Nat.sub_zero]
 congr 1
 omega
theorem Aj8{l:List Iy}{cnt:Int}{x:It}{b:B8}{at_:Nat}{rest:B8}(g:A0i l cnt x)(n0:0<=x.n)(n1:x.n<=18446744073709551615)(h:b.drop at_=B9 x++rest):
  Hx l cnt b at_=⟨x,0,Ie l x,cnt+1,at_+(B9 x).length⟩:=by
 have k18:1<=x.k/\x.k<=8:=by
  have hm:=g.hm;unfold P2 at hm
  repeat' split at hm
  all_goals first
   |(cases hm;done)
   |omega
 obtain⟨q1,q2,q3,q4⟩:=IR g.hsh k18.1 k18.2 n0 n1 g.hs h
 have ac:∀a:Nat,BZ l cnt x a=⟨x,0,Ie l x,cnt+1,a⟩:=by
  intro a
  have:Fx l x=(0,Ie l x):=by
   unfold Fx;rw[A4,A4 (by simp[g.ha])];intro hh;have:=g.hv hh.1;exact absurd hh.2 (by simp[okS,this])
  unfold BZ;rw[this];rfl
 have ln:b.length-(at_+((B9 x).length-x.s.size))>=x.s.size:=by
  have:=congrArg List.length h;rw[List.length_drop,F9] at this;omega
 unfold Hx;rw[q1];unfold Aep;simp only;rw[A4 (by simp),g.hm,A4 (by simp)];have hs:=g.hs;have hn:=g.hn;obtain⟨k,n,s⟩:=x;simp only at *
 by_cases c34:k=3\/k=4
 ·obtain⟨rfl,q2⟩:=q2 c34;have N:nOf ⟨k,0,s⟩=s.size:=by unfold nOf;rw[Bn c34]
  rw[N,A4 (by omega),Bn c34,A4 (by omega),H6,A4 (by omega),q2,List.take_left' (Gl s),Tu,ac]
  congr 1
  omega
 ·obtain rfl:=q3 c34;have z:(ByteArray.mk #[]).size=0:=rfl;have N:nOf ⟨k,n,⟨#[]⟩⟩=n:=by unfold nOf;rw[A4 c34]
  rw[N,A4 c34,z,Nat.sub_zero];by_cases c56:k=5\/k=6
  ·rw[Bn c56,A4 (by omega),ac]
  ·rw[A4 c56,ac]
theorem Aaq{b:B8}{rest:B8}:∀(its:List It)(l:List Iy)(cnt:Int)(at_ m:Nat)(acc:List It),Tm l cnt its->(∀x∈its,0<=x.n/\x.n<=18446744073709551615)->b.drop at_=Bg its++rest->its.length<m ->
  Ld m l cnt b at_ acc=(acc++its,at_+(Bg its).length,0)
 |[],l,cnt,at_,m,acc,hg,hn,h,hm=>by
  obtain⟨rfl,hc⟩:=hg;obtain⟨m,rfl⟩:∃k,m=k+1:=⟨m-1,by omega⟩
  unfold Ld;rw[Bn (by simp[VS,hc])];simp[Bg]
 |x::its,l,cnt,at_,m,acc,hg,hn,h,hm=>by
  obtain⟨g,hg⟩:=hg;obtain⟨m,rfl⟩:∃k,m=k+1:=⟨m-1,by simp at hm;omega⟩
  have e:Bg (x::its)=B9 x++Bg its:=by simp[Bg]
  rw[e,FX] at h;have r:=Aj8 g (hn x (by simp)).1 (hn x (by simp)).2 h;have h':b.drop (at_+(B9 x).length)=Bg its++rest:=by rw[<-List.drop_drop,h,List.drop_left' rfl]
  have ih:=Aaq its (Ie l x) (cnt+1) (at_+(B9 x).length) m (acc++[x]) hg (fun y hy=>hn y (Sx _ hy)) h' (by simp at hm;omega)
  unfold Ld;have hd:VS l cnt=false:=g.hd;rw[A4 (by simp[hd]),r];simp only;rw[A4 (by simp),ih,e];simp;omega
abbrev Uf(x:Int):Prop:=0<=x/\x<=18446744073709551615
abbrev isW(l:B8):Prop:=∀x∈l,Uf x
theorem Aid(l:B8)(i:Nat):Uf (My l i):=CO _ 0 (by omega) (by omega)
theorem Agh(l:B8):isW (Gs l):=by intro x hx;obtain⟨k,_,rfl⟩:=List.mem_map.1 hx;exact Aid l k
theorem AF:∀{ws:B8}{i:Nat}{w:Int},isW ws->ws[i]?=some w->My (A9 ws) i=w
 |[],i,w,_,h=>by simp at h
 |a::ws,0,w,hw,h=>by
  simp at h;subst h;have e:A9 (a::ws)=Fo a++A9 ws:=rfl;unfold My;rw[Nat.mul_zero,Er,e,List.take_left' (Hn a)];have:=hw a (by simp);exact Abj this.1 this.2
 |a::ws,i+1,w,hw,h=>by
  simp at h;have ih:=AF (ws:=ws) (fun x hx=>hw x (Sx _ hx)) h;have e:A9 (a::ws)=Fo a++A9 ws:=rfl;unfold My at ih ⊢;rw[show 8*(i+1)=(Fo a).length+8*i by rw[Hn];omega,e,<-List.drop_drop,List.drop_left' rfl]
  exact ih
theorem NB{ws:B8}(hw:isW ws):Gs (A9 ws)=ws:=by
 have hl:(A9 ws).length / 8=ws.length:=by rw[Do];omega
 apply List.ext_getElem?;intro i;unfold Gs;rw[hl];by_cases h:i<ws.length
 ·rw[List.getElem?_map,List.getElem?_range h,List.getElem?_eq_getElem h];simp only[Option.map_some];rw[AF hw (List.getElem?_eq_getElem h)]
 ·rw[List.getElem?_eq_none (by simp;omega),List.getElem?_eq_none (by omega)]
theorem Aol{k:Ky}(hh:Dz k.h=false)(hr:Uf k.root):IE (Ir k)=some k:=by
 obtain⟨h,r⟩:=k;have hb:=H0 hh;simp only at hb hr hh;have w:wrap .u8 h=h:=Il (by omega) (by omega);have w1:A9 [r]=Fo r:=by simp[A9]
 have:=AF (ws:=[r]) (i:=0) (w:=r) (by intro x hx;simp at hx;subst hx;exact hr) rfl
 rw[w1] at this;unfold IE Ir;simp only[w,List.getD_cons_zero,List.drop_succ_cons,Er,this,He,Hn,hh,and_self,if_true]
theorem A3a{k:Ky}:I7 (Ir k):=by
 intro x hx;rcases B7.1 hx with rfl|hx
 ·have:∀v:Int,0<=wrap .u8 v/\wrap .u8 v<=255:=by
   intro v;simp only[wrap,IntKind.signed,IntKind.bits];simp;omega
  exact this _
 ·exact Amu _ x hx
theorem Awr{l:B8}{k:Ky}(h:IE l=some k):Dz k.h=false/\Uf k.root:=by
 unfold IE at h;split at h
 ·rename_i hh;cases h;exact⟨hh.2,Aid _ _⟩
 ·cases h
structure Sg.ok(s:Sg):Prop where
 ch:isW s.chains
 pa:isW s.path
theorem Asg(s:Sg):I7 (Sm s):=by
 have w8:∀v:Int,0<=wrap .u8 v/\wrap .u8 v<=255:=by
  intro v;simp only[wrap,IntKind.signed,IntKind.bits];simp;omega
 intro x hx;unfold Sm at hx;rcases B7.1 hx with rfl|hx
 ·exact w8 _
 rcases B7.1 hx with rfl|hx
 ·exact w8 _
 rcases B4.1 hx with hx|hx
 ·exact Zr _ x hx
 ·exact Zr _ x hx
theorem Ayp{s:Sg}(hs:s.ok)(h1:Dz s.path.length=false)(h2:Ip s.leaf s.path.length=false)(h3:s.chains.length=18):sgD (Sm s)=some s:=by
 obtain⟨leaf,ch,pa⟩:=s;obtain⟨hc,hp⟩:=hs;simp only at h1 h2 h3 hc hp;have hb:=H0 h1;have ho:=Aku hb.1 hb.2 h2;have h16:=A2a hb.1 hb.2;have w1:wrap .u8 leaf=leaf:=Il (by omega) (by omega);have w2:wrap .u8 (pa.length:Int)=pa.length:=Il (by omega) (by omega);have lc:(A9 ch).length=144:=by rw[Do];omega
 have lp:(A9 pa).length=8*pa.length:=Do pa
 have len:(Sm ⟨leaf,ch,pa⟩).length=2+144+8*pa.length:=by
  unfold Sm;simp only[He,F9,lc,lp];omega
 have g0:(Sm ⟨leaf,ch,pa⟩).getD 0 0=leaf:=w1;have g1:(Sm ⟨leaf,ch,pa⟩).getD 1 0=pa.length:=w2;have d2:(Sm ⟨leaf,ch,pa⟩).drop 2=A9 ch++A9 pa:=rfl
 have d146:(Sm ⟨leaf,ch,pa⟩).drop 146=A9 pa:=by
  rw[show 146=2+144 from rfl,<-List.drop_drop,d2,List.drop_left' lc]
 unfold sgD;rw[Bn ⟨by omega,by rw[g1];exact h1,by rw[g0,g1];exact h2,by rw[g1,len];omega⟩,g0,d2,d146,List.take_left' lc,NB hc,NB hp]
theorem Ajr{l:B8}{s:Sg}(h:sgD l=some s):s.ok/\s.path.length<=4/\s.chains.length=18:=by
 unfold sgD at h;split at h
 ·rename_i hh;cases h;have hb:=H0 hh.2.1;refine⟨⟨Agh _,Agh _⟩,?_,?_⟩
  ·simp only[V0,List.length_drop];omega
  ·simp only[V0,List.length_take,List.length_drop];omega
 ·cases h
section
variable {xs:FuncId->Option (Ab->Option Dt)}(fu d:Nat)(call:Bq)
theorem ZI(X:Nat)(Z:Ab)(W:Nat)(Y:Ab):Fm C0 fu d 50 [Am 1 X Z,Am 1 W Y] fun call=>As (decide (Z.length=X))<|F3 (bytesOf Z) fun a=>As (decide (Y.length=W))<|F3 (bytesOf Y) fun b=>Bu [.sc (.bool (Array.toList (ByteArray.data (ByteArray.mk (List.toArray a)))==Array.toList (ByteArray.data (ByteArray.mk (List.toArray b)))))]:=by show _=_;kernel_rfl
end
section
variable {fu d:Nat}
theorem Aq6(s:ByteArray):Aq C0 prog fu (d+1) 130 [.sc (.string s)]=some ⟨[.own 3 1 (Ay [⟨4,0,s⟩])],[]⟩:=by rw[Ae8];rfl
theorem Y6(n:Int):Aq C0 prog fu (d+1) 64 [Af n]=some ⟨[.own 3 1 (Ay [⟨1,n,Fw⟩])],[]⟩:=by rw[Aio];rfl
theorem Ao4(l:B8):Aq C0 prog fu (d+1) 131 [.lst false 1 l.length (Ac .u8 l)]=some ⟨[.own 3 1 (Ay [⟨3,0,Bk l⟩])],[]⟩:=by rw[Ack];have L:=Ap .u8 l;have bo:=Hc l;simp(disch:=omega)only[Bz,Bx,L,bo];rfl
end
theorem aci{its:List It}{i:Nat}{x:It}(h:its[i]?=some x):(Ay its).getD (i*3) .top=Au x.k/\(Ay its).getD (i*3+1) .top=Af x.n/\(Ay its).getD (i*3+2) .top=.sc (.string x.s):=
 ⟨H4 It.cells_len h (j:=0) (by omega),H4 It.cells_len h (j:=1) (by omega),H4 It.cells_len h (j:=2) (by omega)⟩
section
variable {fu d:Nat}
theorem Ai4{a b:B8}(ha:I7 a)(hb:I7 b)(h:(a.map fun n=>n.toNat.toUInt8)=(b.map fun n=>n.toNat.toUInt8)):a=b:=by
 have e:Bk a=Bk b:=by unfold Bk;rw[h]
 rw[<-O9 ha,<-O9 hb,e]
theorem A79{a b:B8}(ha:I7 a)(hb:I7 b):(Array.toList (ByteArray.data (ByteArray.mk (List.toArray (a.map fun n=>n.toNat.toUInt8))))==Array.toList (ByteArray.data (ByteArray.mk (List.toArray (b.map fun n=>n.toNat.toUInt8)))))=decide (a=b):=by
 by_cases h:a=b
 ·subst h;simp
 ·have:(List.map (fun n=>n.toNat.toUInt8) a)≠(List.map (fun n=>n.toNat.toUInt8) b):=fun e=>h (Ai4 ha hb e);simp only[h,decide_false]
  simpa using this
theorem YZ{a b:B8}(ha:I7 a)(hb:I7 b):Aq C0 prog fu (d+1) 50 [.lst false 1 a.length (Ac .u8 a),.lst false 1 b.length (Ac .u8 b)]=some ⟨[.sc (.bool (decide (a=b)))],[]⟩:=by rw[ZI];have La:=Ap .u8 a;have Lb:=Ap .u8 b;have ba:=Hc a;have bb:=Hc b;have q:=A79 ha hb;simp(disch:=omega)only[Bz,Bx,La,Lb,ba,bb,q]
end
structure Ce.ok(c:Ce):Prop where
 ser:Uf c.serial
 mod:Uf c.model
 root:Uf c.key.root
 sg:c.sig.ok
theorem Ce.ok.wf{c:Ce}(h:c.ok):c.wf:=⟨h.ser.1,h.mod.1⟩
abbrev Y8(s:ByteArray)(at_:Nat)(o:List It):Ab:=[.sc (.string s),Au at_,.own 3 o.length (Ay o)]
theorem Ae5{s:ByteArray}{i:Nat}{x:Int}(h:(Cy s)[i]?=some x):∃u:UInt8,s.data.toList[i]?=some u/\x=(u.toNat:Int):=by
 unfold Cy at h;rw[List.getElem?_map] at h;cases hu:s.data.toList[i]? with
 |none=>rw[hu] at h;cases h
 |some u=>rw[hu] at h;injection h with h;exact⟨u,rfl,h.symm⟩
theorem strB_getElem?{s:ByteArray}{i:Nat}(h:i<(Cy s).length):∃x,(Cy s)[i]?=some x:=⟨_,List.getElem?_eq_getElem h⟩
def AB(b:B8)(at_:Nat):Nat:=if (Bi b at_).e=0 then (Bi b at_).at_ else at_
def A76:Ab:=[PV.sc (Value.int IntKind.u64 (0:Int)),PV.sc (Value.int IntKind.u64 (24:Int)),PV.sc (Value.int IntKind.u64 (256:Int)),PV.sc (Value.int IntKind.u64 (0:Int)),PV.sc (Value.int IntKind.u64 (65536:Int)),PV.sc (Value.int IntKind.u64 (0:Int)),PV.sc (Value.int IntKind.u64 (0:Int)),PV.sc (Value.int IntKind.u64 (0:Int)),PV.sc (Value.int IntKind.u64 (4294967296:Int))]
def Aje(sz:Nat):Int:=if sz=0 then 0 else if sz=1 then 24 else if sz=2 then 256 else if sz=4 then 65536 else 4294967296
theorem Ab6{sz:Nat}(h:sz=1\/sz=2\/sz=4\/sz=8)(n:Int):(n<Aje sz)↔P0 n<(sz:Int):=by
 unfold Aje P0;rcases h with rfl|rfl|rfl|rfl
 all_goals simp
 all_goals repeat' split
 all_goals omega
section
variable {fu d:Nat}
theorem JP{call:Bq}{C7:ByteArray}{Ch:Int}{Eg:Nat}{D0:Ab}{s:ByteArray}{at_:Nat}{o:List It}{k y8 y9:Int}{y10:ByteArray}{sz:Nat}(K9:sz=0\/sz=1\/sz=2\/sz=4\/sz=8)(hk:0<=k/\k<=5)(hl:s.size<=1000000)(ha:at_+1+sz<=s.size)(ho:o.length<=1000000):
    ∀(r:B8) (i nn:Nat) (v:Int),(((Cy s).drop (at_+1)).take sz).drop i=r->r.length<nn->i<=sz ->
    Dx fu call C7 Ch Eg D0 nn k (sz:Int) v (i:Int) s (at_:Int) o.length (Ay o) y8 y9 y10 =
      (if r.foldl Ge v<Aje sz then some ⟨[.agg [Au 0,Af 0,.sc (.string Fw)],Au 2],[Y8 s at_ o]⟩
       else some ⟨[.agg [Au (1+k),Af (r.foldl Ge v),.sc (.string Fw)],Au 0],[Y8 s (at_+1+sz) o]⟩)
  |_,_,0,_,_,h,_=>by omega
  |[],i,nn+1,v,hd,hn,hi=>by
    have:=drop_nil hd
    have hs:=Gl s
    rw[List.length_take,List.length_drop] at this
    have L:=Cx o
    have t:List.take (o.length*3) (Ay o)=Ay o:=Hg (by omega)
    have w1:wrap .i64 ((1:Int)+(sz:Int))=1+sz:=Ag (by omega) (by omega)
    have w2:wrap .i64 ((at_:Int)+(1+sz))=((at_+1+sz:Nat):Int):=by rw[Ag (by omega) (by omega)];omega
    have g:∀q:Ab,q=A76->q.getD (0+Int.toNat (sz:Int)*1) .top=Af (Aje sz):=by
      intro q hq
      subst hq
      rcases K9 with rfl|rfl|rfl|rfl|rfl<;>rfl
    have gl:=g _ rfl
    have gk:∀q:Ab,q=[PV.sc (Value.int IntKind.i64 (1:Int)),PV.sc (Value.int IntKind.i64 (2:Int)),PV.sc (Value.int IntKind.i64 (3:Int)),PV.sc (Value.int IntKind.i64 (4:Int)),PV.sc (Value.int IntKind.i64 (5:Int)),PV.sc (Value.int IntKind.i64 (6:Int))]->q.getD (0+Int.toNat k*1) .top=Au (1+k):=by
      intro q hq
      subst hq
      have:k=0\/k=1\/k=2\/k=3\/k=4\/k=5:=by omega
      rcases this with rfl|rfl|rfl|rfl|rfl|rfl<;>rfl
    have gk':=gk _ rfl
    unfold A76 at gl
    rw[Kd,D6 _ _ _ (by omega),List.foldl_nil]
    by_cases hs:v<Aje sz
    · rw[Bn hs]
      repeat(with_reducible(first|apply Ai|apply Ae|apply Aj|apply Gp|apply Ad|apply Ah|apply Cs);· first|constructor|(simp(disch:=omega)only[Ct,L,t,w1,w2,gl,gk']<;>first|constructor|omega)|omega)
      try simp(disch:=omega)only[Aa,L,t,w1,w2,gl,gk']
      all_goals rfl
    · rw[A4 hs]
      repeat(with_reducible(first|apply Ai|apply Ae|apply Aj|apply Gp|apply Ad|apply Ah|apply Cs);· first|constructor|(simp(disch:=omega)only[Ct,L,t,w1,w2,gl,gk']<;>first|constructor|omega)|omega)
      try simp(disch:=omega)only[Aa,L,t,w1,w2,gl,gk']
      all_goals rfl
  |x::r,i,nn+1,v,hd,hn,hi=>by
    obtain⟨h1,h2,h3⟩:=C8 hd
    simp only[He] at hn
    rw[List.length_take,List.length_drop] at h1
    have h2':(Cy s)[at_+1+i]?=some x:=by
      rw[List.getElem?_take_of_lt (by omega),List.getElem?_drop] at h2
      exact h2
    obtain⟨u,hu,rfl⟩:=Ae5 h2'
    have w1:wrap .i64 ((at_:Int)+1)=((at_+1:Nat):Int):=by rw[Ag (by omega) (by omega)];omega
    have w2:wrap .i64 (((at_+1:Nat):Int)+(i:Int))=((at_+1+i:Nat):Int):=by rw[Ag (by omega) (by omega)];omega
    have w3:wrap .i64 ((i:Int)+1)=((i+1:Nat):Int):=by rw[Ag (by omega) (by omega)];omega
    have ih:=JP (call:=call) (C7:=C7) (Ch:=Ch) (Eg:=Eg) (D0:=D0) (s:=s) (at_:=at_) (o:=o) (k:=k) (y8:=y8) (y9:=y9) (y10:=y10) K9 hk hl ha ho r (i+1) nn (Ge v u.toNat) h3 (by omega) (by omega)
    have nt:Int.toNat ((at_+1+i:Nat):Int)=at_+1+i:=H6 _
    rw[List.foldl_cons,<-ih,Kd]
    repeat(with_reducible(first|apply Ai|apply Ae|apply Aj|apply Gp|apply Ad|apply Ah|apply Cs);· first|constructor|(simp(disch:=omega)only[Ct,w1,w2,w3,nt,hu]<;>first|constructor|omega)|omega)
    try simp(disch:=omega)only[Aa,w1,w2,w3,nt,hu]
    all_goals rfl
theorem An1(Bo:1000<=fu){s:ByteArray}{at_:Nat}{o:List It}(hl:s.size<=1000000)(ho:o.length<=1000000):
  Aq C0 prog fu (d+1) 138 [.pbox (Y8 s at_ o)]=some ⟨[.agg [Au (Bi (Cy s) at_).k,Af (Bi (Cy s) at_).n,.sc (.string Fw)],Au (Bi (Cy s) at_).e],[Y8 s (AB (Cy s) at_) o]⟩:=by
 refine (V6 fu d s (at_:Int) o.length (Ay o)).trans ?_;have hs:=Gl s;have L:=Cx o;have t:List.take (o.length*3) (Ay o)=Ay o:=Hg (by omega);unfold AB Bi;by_cases Cr:at_<(Cy s).length
 rotate_left
 ·have hg:(Cy s)[at_]?=none:=List.getElem?_eq_none (by omega);rw[hg]
  repeat(with_reducible(first|apply Ai|apply Ae|apply Aj|apply Gp|apply Ad|apply Ah|apply Cs);· first|constructor|(simp(disch:=omega)only[Ct,L,t]<;>first|constructor|omega)|omega)
  try simp(disch:=omega)only[Aa,L,t]
  all_goals rfl
 obtain⟨x,hg⟩:=strB_getElem? Cr;have hB:=BK s _ (List.mem_of_getElem? hg);obtain⟨u,hu,hxu⟩:=Ae5 hg;rw[hg];have nt:Int.toNat (at_:Int)=at_:=H6 _;have w1:wrap .i64 ((at_:Int)+1)=((at_+1:Nat):Int):=by rw[Ag (by omega) (by omega)];omega
 have s5:=A8n hB.1;have a31:=A0n hB.1 hB.2;rw[hxu] at s5 a31 hB ⊢;show Az _ _ _=_;rw[D6 _ _ _ (by omega),ET _ _ (by omega),nt,hu,Ajo];clear hxu hu hg;generalize ((u.toNat:Nat):Int)=y at s5 a31 hB ⊢;unfold Zj;simp only;have e20:((2:Int)=0)=False:=by simp
 have e10:((1:Int)=0)=False:=by simp
 by_cases c1:y=244
 ·subst c1;have q:wrap .u64 (wrap .u8 ((244:Int)-244))=0:=by decide
  simp(disch:=omega)only[Bz,Bx,Int.reduceBEq,w1,L,t,q]
 rw[A4 c1];have b1:(y==(244:Int))=false:=by simp[c1]
 by_cases c2:y=245
 ·subst c2;have q:wrap .u64 (wrap .u8 ((245:Int)-244))=1:=by decide
  simp(disch:=omega)only[Bz,Bx,Int.reduceBEq,w1,L,t,q,if_true]
 rw[A4 c2];have b2:(y==(245:Int))=false:=by simp[c2]
 by_cases c3:y=246
 ·subst c3;simp(disch:=omega)only[Bz,Bx,Int.reduceBEq,w1,L,t,if_true]
 rw[A4 c3];have b3:(y==(246:Int))=false:=by simp[c3]
 have wk1:wrap .i64 (y / 32)=y / 32:=Ag (by omega) (by omega);have wk2:wrap .i64 (y % 32)=y % 32:=Ag (by omega) (by omega);by_cases c4:y / 32>5
 ·rw[Bn c4];simp(disch:=omega)only[Bz,Bx,b1,b2,b3,s5,a31,wk1,wk2,L,t,e20]
 rw[A4 c4];by_cases c5:y % 32>27
 ·rw[Bn c5];simp(disch:=omega)only[Bz,Bx,b1,b2,b3,s5,a31,wk1,wk2,L,t,e20]
 rw[A4 c5];have w6:wrap .i64 ((s.size:Int)-(at_:Int))=((s.size-at_:Nat):Int):=by rw[Ag (by omega) (by omega)];omega
 have w7:wrap .i64 (((s.size-at_:Nat):Int)-1)=((s.size-(at_+1):Nat):Int):=by rw[Ag (by omega) (by omega)];omega
 have wu:wrap .u64 (y % 32)=y % 32:=Cd (by omega) (by omega);by_cases c6:y % 32<24
 ·have lp:=JP (fu:=fu) (call:=Aq C0 prog fu d) (C7:=s) (Ch:=(at_:Int)) (Eg:=o.length) (D0:=Ay o) (s:=s) (at_:=at_) (o:=o) (k:=y / 32) (y8:=0) (y9:=0) (y10:=Fw) (sz:=0) (.inl rfl) (by omega) hl (by omega) ho [] 0 fu (y % 32) rfl (by simp;omega) (by omega)
  have e0:¬(y % 32<Aje 0):=by unfold Aje;simp;omega
  rw[List.foldl_nil,A4 e0] at lp;rw[Bn c6];simp(disch:=omega)only[Bz,Bx,b1,b2,b3,s5,a31,wk1,wk2,w6,w7,wu];exact lp
 rw[A4 c6];have q1:wrap .i64 (y % 32-24)=y % 32-24:=Ag (by omega) (by omega);have q1':wrap .u64 (y % 32-24)=y % 32-24:=Cd (by omega) (by omega)
 have q2:Hq .i64 1 (y % 32-24)=(szE (y % 32):Int):=by
  have:y % 32=24\/y % 32=25\/y % 32=26\/y % 32=27:=by omega
  rcases this with h|h|h|h<;>rw[h]<;>decide
 have q3:szE (y % 32)=1\/szE (y % 32)=2\/szE (y % 32)=4\/szE (y % 32)=8:=by
  unfold szE
  repeat' split
  all_goals omega
 generalize szE (y % 32)=sz at q2 q3 ⊢;rw[hs];by_cases c7:s.size-(at_+1)<sz
 ·rw[Bn c7];simp(disch:=omega)only[Bz,Bx,b1,b2,b3,s5,a31,wk1,wk2,w6,w7,wu,q1,q1',q2,L,t,e10]
 rw[A4 c7];have lp:=JP (fu:=fu) (call:=Aq C0 prog fu d) (C7:=s) (Ch:=(at_:Int)) (Eg:=o.length) (D0:=Ay o) (s:=s) (at_:=at_) (o:=o) (k:=y / 32) (y8:=0) (y9:=0) (y10:=Fw) (sz:=sz) (by omega) (by omega) hl (by omega) ho _ 0 fu 0 rfl (by rw[Er,List.length_take];omega) (by omega)
 rw[Er] at lp;unfold GO;by_cases c8:P0 ((((Cy s).drop (at_+1)).take sz).foldl Ge 0)<sz
 ·rw[Bn ((Ab6 q3 _).2 c8)] at lp;rw[Bn c8];simp(disch:=omega)only[Bz,Bx,b1,b2,b3,s5,a31,wk1,wk2,w6,w7,wu,q1,q1',q2,e20];exact lp
 ·rw[A4 (fun h=>c8 ((Ab6 q3 _).1 h))] at lp;rw[A4 c8];simp(disch:=omega)only[Bz,Bx,b1,b2,b3,s5,a31,wk1,wk2,w6,w7,wu,q1,q1',q2];exact lp
end
def Ahk(a c:ByteArray):Bool:=if a.size=c.size then Op.bytesLess a.data.toList c.data.toList else decide (a.size<c.size)
def OR(k:Int):Bool:=if k=1 then true else if k=2 then true else k==4
def O4(k:Int):Bool:=k==3||k==4
def Sz(k:Int):Bool:=k==5||k==6
def Mz(k n depth:Int)(key:Bool)(olen rest:Nat):Int:=
 if 512<=olen then 8 else if key=true/\OR k=false then 3 else if depth>8 then 5 else if O4 k=true/\n>1024 then 8 else if Sz k=true/\n>512 then 8 else if O4 k=true/\(rest:Int)<n then 1 else 0
def Kc(key:Bool)(before:ByteArray)(x:It):Int:=
 if x.k=4/\okS x.s=false then 6 else if key=true/\OV before=false/\Ahk before (Bk (B9 x))=false then 7 else 0
theorem Ado{s:ByteArray}{a n:Nat}:s.extract a (a+n)=Bk (((Cy s).drop a).take n):=by
 rw[<-Tu (s.extract a (a+n))]
 congr 1
 unfold Cy;rw[ByteArray.data_extract,Array.toList_extract,List.extract_eq_take_drop,Nat.add_sub_cancel_left,List.map_take,List.map_drop]
section
variable {fu d:Nat}
theorem Am7(a c:ByteArray):Aq C0 prog fu (d+1) 140 [.sc (.string a),.sc (.string c)]=some ⟨[.sc (.bool (Ahk a c))],[]⟩:=by
 rw[HT];unfold Ahk;by_cases h:a.size=c.size
 ·have:((a.size:Int) != (c.size:Int))=false:=by simp[h]
  rw[Bn h];simp only[Bz,Bx,this]
 ·have e:((a.size:Int) != (c.size:Int))=true:=by simp;omega
  rw[A4 h];simp only[Bz,Bx,e,Int.ofNat_lt]
theorem Ars(k:Int):Aq C0 prog fu (d+1) 139 [Au k]=some ⟨[.sc (.bool (OR k))],[]⟩:=by
 rw[FT];unfold OR;by_cases h1:k=1
 ·subst h1;rfl
 ·by_cases h2:k=2
  ·subst h2;rfl
  ·have b1:(k==(1:Int))=false:=by simp[h1]
   have b2:(k==(2:Int))=false:=by simp[h2]
   rw[A4 h1,A4 h2];simp only[Bz,Bx,b1,b2]
theorem Ai8{C7:ByteArray}{Ch:Int}{Eg:Nat}{D0:Ab}{a1:Int}{a2:Bool}{a3:ByteArray}(Bo:1000<=fu){depth n k nn':Int}{key nest:Bool}{before s t:ByteArray}{at_:Nat}{o:List It}{nn:Nat}(M6:0<nn)(ho:o.length<=1000)(hk:1<=k/\k<=8)(hn:0<=nn')(ht:t.size<=500000)(hd:It.dat ⟨k,nn',t⟩):
    Ak fu (Aq C0 prog fu (d+3)) C7 Ch Eg D0 a1 a2 a3 nn depth key before n false nest s (at_:Int) o.length (Ay o) k nn' t =
      (if Kc key before ⟨k,nn',t⟩=0 then Bc fu (Aq C0 prog fu (d+3)) C7 Ch Eg D0 a1 a2 a3 fu depth n nest Fw 0 s (at_:Int) (o++[It.mk k nn' t]).length (Ay (o++[It.mk k nn' t])) k nn' t
       else some ⟨[Au (Kc key before ⟨k,nn',t⟩)],[Y8 s at_ o]⟩):=by
  have L:=Cx o
  have tt:List.take (o.length*3) (Ay o)=Ay o:=Hg (by omega)
  have va:=Vg (fu:=fu) (d:=d+2) t (by omega)
  have by_:=FD (fu:=fu) (d:=d) (x:=⟨k,nn',t⟩) Bo ⟨hk.1,hk.2,hn,ht⟩ hd
  have ls:=Am7 (fu:=fu) (d:=d+2) before (Bk (B9 ⟨k,nn',t⟩))
  have e:Ay (o++[It.mk k nn' t])=Ay o++[PV.sc (Value.int IntKind.i64 k),PV.sc (Value.int IntKind.u64 nn'),PV.sc (Value.string t)]:=U5 o [It.mk k nn' t]
  have en:(o++[It.mk k nn' t]).length=o.length+1:=by simp
  have em:(Array.toList (ByteArray.data before)==Array.toList (ByteArray.data (ByteArray.mk #[])))=OV before:=rfl
  rw[e,en,Kf (M6:=M6)]
  unfold Kc
  simp only at ls by_ ⊢
  unfold It.cells at by_
  have kk:((k=4)=True/\(k==(4:Int))=true)\/((k=4)=False/\(k==(4:Int))=false):=by
    by_cases h:k=4
    · exact .inl ⟨eq_true h,by simp[h]⟩
    · exact .inr ⟨eq_false h,by simp[h]⟩
  generalize Ahk before (Bk (B9 ⟨k,nn',t⟩))=l at ls ⊢
  generalize OV before=bb at em ⊢
  generalize okS t=v at va ⊢
  generalize Bk (B9 ⟨k,nn',t⟩)=B at by_ ls
  rcases kk with⟨k4',k4⟩|⟨k4',k4⟩
  · cases v
    · simp(disch:=omega)only[Bz,Bx,Int.reduceBEq,k4,va,em,by_,ls,L,tt,Cp,Ev,and_self,true_and,and_true,and_false,false_and,if_true,if_false,Int.reduceEq,Bool.true_eq_false,Bool.false_eq_true,reduceCtorEq,k4']
    · cases key
      · simp(disch:=omega)only[Bz,Bx,Int.reduceBEq,k4,va,em,by_,ls,L,tt,Cp,Ev,and_self,true_and,and_true,and_false,false_and,if_true,if_false,Int.reduceEq,Bool.true_eq_false,Bool.false_eq_true,reduceCtorEq,k4']
      · cases bb
        · cases l
          · simp(disch:=omega)only[Bz,Bx,Int.reduceBEq,k4,va,em,by_,ls,L,tt,Cp,Ev,and_self,true_and,and_true,and_false,false_and,if_true,if_false,Int.reduceEq,Bool.true_eq_false,Bool.false_eq_true,reduceCtorEq,k4']
          · simp(disch:=omega)only[Bz,Bx,Int.reduceBEq,k4,va,em,by_,ls,L,tt,Cp,Ev,and_self,true_and,and_true,and_false,false_and,if_true,if_false,Int.reduceEq,Bool.true_eq_false,Bool.false_eq_true,reduceCtorEq,k4']
        · simp(disch:=omega)only[Bz,Bx,Int.reduceBEq,k4,va,em,by_,ls,L,tt,Cp,Ev,and_self,true_and,and_true,and_false,false_and,if_true,if_false,Int.reduceEq,Bool.true_eq_false,Bool.false_eq_true,reduceCtorEq,k4']
  · cases key
    · simp(disch:=omega)only[Bz,Bx,Int.reduceBEq,k4,va,em,by_,ls,L,tt,Cp,Ev,and_self,true_and,and_true,and_false,false_and,if_true,if_false,Int.reduceEq,Bool.true_eq_false,Bool.false_eq_true,reduceCtorEq,k4']
    · cases bb
      · cases l
        · simp(disch:=omega)only[Bz,Bx,Int.reduceBEq,k4,va,em,by_,ls,L,tt,Cp,Ev,and_self,true_and,and_true,and_false,false_and,if_true,if_false,Int.reduceEq,Bool.true_eq_false,Bool.false_eq_true,reduceCtorEq,k4']
        · simp(disch:=omega)only[Bz,Bx,Int.reduceBEq,k4,va,em,by_,ls,L,tt,Cp,Ev,and_self,true_and,and_true,and_false,false_and,if_true,if_false,Int.reduceEq,Bool.true_eq_false,Bool.false_eq_true,reduceCtorEq,k4']
      · simp(disch:=omega)only[Bz,Bx,Int.reduceBEq,k4,va,em,by_,ls,L,tt,Cp,Ev,and_self,true_and,and_true,and_false,false_and,if_true,if_false,Int.reduceEq,Bool.true_eq_false,Bool.false_eq_true,reduceCtorEq,k4']
theorem Ao8{C7:ByteArray}{Ch:Int}{Eg:Nat}{D0:Ab}{a1:Int}{a2:Bool}{a3:ByteArray}(Bo:1000<=fu){depth k:Int}{n nn':Nat}{key nest:Bool}{before s t0:ByteArray}{at_:Nat}{o:List It}{nn:Nat}(M6:0<nn)(ho:o.length<=1000)(hk:k=3\/k=4)(hn:n<=1024)(ha:at_+n<=s.size)(hs:s.size<=1000000){t:ByteArray}(ht:t=Bk (((Cy s).drop at_).take n)):
    Ak fu (Aq C0 prog fu (d+3)) C7 Ch Eg D0 a1 a2 a3 nn depth key before (n:Int) true nest s (at_:Int) o.length (Ay o) k (nn':Int) t0 =
      (if Kc key before ⟨k,0,t⟩=0 then Bc fu (Aq C0 prog fu (d+3)) C7 Ch Eg D0 a1 a2 a3 fu depth (n:Int) nest Fw 0 s ((at_+n:Nat):Int) (o++[It.mk k 0 t]).length (Ay (o++[It.mk k 0 t])) k 0 t
       else some ⟨[Au (Kc key before ⟨k,0,t⟩)],[Y8 s (at_+n) o]⟩):=by
  have hts:t.size<=1024:=by
    rw[ht,H1,List.length_take]
    omega
  have L:=Cx o
  have tt:List.take (o.length*3) (Ay o)=Ay o:=Hg (by omega)
  have va:=Vg (fu:=fu) (d:=d+2) t (by omega)
  have by_:=FD (fu:=fu) (d:=d) (x:=⟨k,0,t⟩) Bo ⟨by simp only;omega,by simp only;omega,by simp,by simp only;omega⟩ (hk.elim (fun h=>.inl h) (fun h=>.inr (.inl h)))
  have ls:=Am7 (fu:=fu) (d:=d+2) before (Bk (B9 ⟨k,0,t⟩))
  have e:Ay (o++[It.mk k 0 t])=Ay o++[PV.sc (Value.int IntKind.i64 k),PV.sc (Value.int IntKind.u64 0),PV.sc (Value.string t)]:=U5 o [It.mk k 0 t]
  have en:(o++[It.mk k 0 t]).length=o.length+1:=by simp
  have em:(Array.toList (ByteArray.data before)==Array.toList (ByteArray.data (ByteArray.mk #[])))=OV before:=rfl
  have w1:wrap .i64 (n:Int)=n:=Ag (by omega) (by omega)
  have w2:wrap .i64 ((at_:Int)+(n:Int))=((at_+n:Nat):Int):=by rw[Ag (by omega) (by omega)];omega
  have n1:Int.toNat (at_:Int)=at_:=H6 _
  have n2:Int.toNat ((at_+n:Nat):Int)=at_+n:=H6 _
  have ex:s.extract at_ (at_+n)=t:=by rw[ht];exact Ado
  rw[e,en,Kf (M6:=M6)]
  unfold Kc
  simp only at ls by_ ⊢
  unfold It.cells at by_
  clear ht
  have kk:((k=4)=True/\(k==(4:Int))=true)\/((k=4)=False/\(k==(4:Int))=false):=by
    by_cases h:k=4
    · exact .inl ⟨eq_true h,by simp[h]⟩
    · exact .inr ⟨eq_false h,by simp[h]⟩
  generalize Ahk before (Bk (B9 ⟨k,0,t⟩))=l at ls ⊢
  generalize OV before=bb at em ⊢
  generalize okS t=v at va ⊢
  generalize Bk (B9 ⟨k,0,t⟩)=B at by_ ls
  rcases kk with⟨k4',k4⟩|⟨k4',k4⟩
  · cases v
    · simp(disch:=omega)only[Bz,Bx,w1,w2,n1,n2,ex,Int.reduceBEq,k4,va,em,by_,ls,L,tt,Cp,Ev,and_self,true_and,and_true,and_false,false_and,if_true,if_false,Int.reduceEq,Bool.true_eq_false,Bool.false_eq_true,reduceCtorEq,k4']
    · cases key
      · simp(disch:=omega)only[Bz,Bx,w1,w2,n1,n2,ex,Int.reduceBEq,k4,va,em,by_,ls,L,tt,Cp,Ev,and_self,true_and,and_true,and_false,false_and,if_true,if_false,Int.reduceEq,Bool.true_eq_false,Bool.false_eq_true,reduceCtorEq,k4']
      · cases bb
        · cases l
          · simp(disch:=omega)only[Bz,Bx,w1,w2,n1,n2,ex,Int.reduceBEq,k4,va,em,by_,ls,L,tt,Cp,Ev,and_self,true_and,and_true,and_false,false_and,if_true,if_false,Int.reduceEq,Bool.true_eq_false,Bool.false_eq_true,reduceCtorEq,k4']
          · simp(disch:=omega)only[Bz,Bx,w1,w2,n1,n2,ex,Int.reduceBEq,k4,va,em,by_,ls,L,tt,Cp,Ev,and_self,true_and,and_true,and_false,false_and,if_true,if_false,Int.reduceEq,Bool.true_eq_false,Bool.false_eq_true,reduceCtorEq,k4']
        · simp(disch:=omega)only[Bz,Bx,w1,w2,n1,n2,ex,Int.reduceBEq,k4,va,em,by_,ls,L,tt,Cp,Ev,and_self,true_and,and_true,and_false,false_and,if_true,if_false,Int.reduceEq,Bool.true_eq_false,Bool.false_eq_true,reduceCtorEq,k4']
  · cases key
    · simp(disch:=omega)only[Bz,Bx,w1,w2,n1,n2,ex,Int.reduceBEq,k4,va,em,by_,ls,L,tt,Cp,Ev,and_self,true_and,and_true,and_false,false_and,if_true,if_false,Int.reduceEq,Bool.true_eq_false,Bool.false_eq_true,reduceCtorEq,k4']
    · cases bb
      · cases l
        · simp(disch:=omega)only[Bz,Bx,w1,w2,n1,n2,ex,Int.reduceBEq,k4,va,em,by_,ls,L,tt,Cp,Ev,and_self,true_and,and_true,and_false,false_and,if_true,if_false,Int.reduceEq,Bool.true_eq_false,Bool.false_eq_true,reduceCtorEq,k4']
        · simp(disch:=omega)only[Bz,Bx,w1,w2,n1,n2,ex,Int.reduceBEq,k4,va,em,by_,ls,L,tt,Cp,Ev,and_self,true_and,and_true,and_false,false_and,if_true,if_false,Int.reduceEq,Bool.true_eq_false,Bool.false_eq_true,reduceCtorEq,k4']
      · simp(disch:=omega)only[Bz,Bx,w1,w2,n1,n2,ex,Int.reduceBEq,k4,va,em,by_,ls,L,tt,Cp,Ev,and_self,true_and,and_true,and_false,false_and,if_true,if_false,Int.reduceEq,Bool.true_eq_false,Bool.false_eq_true,reduceCtorEq,k4']
end
section
variable {fu d:Nat}
set_option maxHeartbeats 4000000 in
theorem Ar3(Bo:1000<=fu){depth:Int}{key:Bool}{before s:ByteArray}{at_:Nat}{o:List It}(hs:s.size<=1000000)(ha:at_<=s.size)(ho:o.length<=1000):
    Aq C0 prog fu (d+4) 117 [.pbox (Y8 s at_ o),Au depth,.sc (.bool key),.sc (.string before)] =
      (if (Bi (Cy s) at_).e≠0 then some ⟨[Au (Bi (Cy s) at_).e],[Y8 s (AB (Cy s) at_) o]⟩
       else if Mz (Bi (Cy s) at_).k (Bi (Cy s) at_).n depth key o.length (s.size-(Bi (Cy s) at_).at_)≠0 then
         some ⟨[Au (Mz (Bi (Cy s) at_).k (Bi (Cy s) at_).n depth key o.length (s.size-(Bi (Cy s) at_).at_))],[Y8 s (AB (Cy s) at_) o]⟩
       else Ak fu (Aq C0 prog fu (d+3)) s (at_:Int) o.length (Ay o) depth key before fu depth key before (Bi (Cy s) at_).n (O4 (Bi (Cy s) at_).k) (Sz (Bi (Cy s) at_).k) s ((Bi (Cy s) at_).at_:Int) o.length (Ay o) (Bi (Cy s) at_).k (Bi (Cy s) at_).n Fw):=by
  refine (Wf fu (d+3) s (at_:Int) o.length (Ay o) depth key before).trans ?_
  have hd:=An1 (fu:=fu) (d:=d+2) (s:=s) (at_:=at_) (o:=o) Bo hs (by omega)
  have ok:=Uc (b:=Cy s) (at_:=at_) (BK s) (by rw[Gl];exact ha)
  have L:=Cx o
  have t:List.take (o.length*3) (Ay o)=Ay o:=Hg (by omega)
  rw[Gl] at ok
  have eA:(Bi (Cy s) at_).e=0->AB (Cy s) at_=(Bi (Cy s) at_).at_:=by
    intro h
    unfold AB
    rw[Bn h]
  generalize AB (Cy s) at_=A at hd eA ⊢
  generalize Bi (Cy s) at_=h at hd ok eA ⊢
  obtain⟨k,n,e,a⟩:=h
  simp only at hd ok eA ⊢
  by_cases he:e=0
  rotate_left
  · have Yz:(e != 0)=true:=by simp[he]
    rw[Bn he]
    repeat(with_reducible(first|apply Ai|apply Ae|apply Aj|apply Ao|apply Aw|apply Bb|apply At|apply Ad|apply Ah|apply Cs);· first|constructor|(simp(disch:=omega)only[Ct,hd,Yz,L,t]<;>first|constructor|omega)|omega)
    try simp(disch:=omega)only[Aa,hd,Yz,L,t]
    all_goals rfl
  subst he
  obtain rfl:=eA rfl
  obtain⟨ha',hk⟩:=ok
  obtain⟨k1,k8,n0,n1,_⟩:=hk rfl
  have e00:((0:Int) != 0)=false:=rfl
  have ik:=Ars (fu:=fu) (d:=d+2) k
  rw[A4 (by simp)]
  have w1:wrap .i64 ((s.size:Int)-(A:Int))=((s.size-A:Nat):Int):=by rw[Ag (by omega) (by omega)];omega
  have w2:wrap .u64 ((s.size-A:Nat):Int)=((s.size-A:Nat):Int):=Cd (by omega) (by omega)
  generalize s.size-A=rest at w1 w2 ⊢
  unfold Mz
  by_cases c1:512<=o.length
  · simp only[c1,if_true,ne_eq,Int.reduceEq,Ag0]
    have:k=1\/k=2\/k=3\/k=4\/k=5\/k=6\/k=7\/k=8:=by omega
    rcases this with rfl|rfl|rfl|rfl|rfl|rfl|rfl|rfl
    all_goals
      repeat(with_reducible(first|apply Ai|apply Ae|apply Aj|apply Ao|apply Aw|apply Bb|apply At|apply Ad|apply Ah|apply Cs);· first|constructor|(simp(disch:=omega)only[Ct,hd,e00,L,t,Int.reduceBEq]<;>first|constructor|omega)|omega)
      try simp(disch:=omega)only[Aa,hd,e00,L,t,Int.reduceBEq]
    all_goals rfl
  rw[A4 c1]
  by_cases c2:key=true/\OR k=false
  · obtain⟨rfl,c2⟩:=c2
    rw[c2] at ik
    simp only[c2,and_self,if_true,ne_eq,Int.reduceEq,Ag0]
    have:k=1\/k=2\/k=3\/k=4\/k=5\/k=6\/k=7\/k=8:=by omega
    rcases this with rfl|rfl|rfl|rfl|rfl|rfl|rfl|rfl
    all_goals
      repeat(with_reducible(first|apply Ai|apply Ae|apply Aj|apply Ao|apply Aw|apply Bb|apply At|apply Ad|apply Ah|apply Cs);· first|constructor|(simp(disch:=omega)only[Ct,hd,e00,L,t,Int.reduceBEq,ik,Cp,Ev]<;>first|constructor|omega)|omega)
      try simp(disch:=omega)only[Aa,hd,e00,L,t,Int.reduceBEq,ik,Cp,Ev]
    all_goals rfl
  rw[A4 c2]
  have key2:key=false\/key=true/\OR k=true:=by
    cases key
    · exact .inl rfl
    · exact .inr ⟨rfl,by simpa using c2⟩
  clear c2
  have fin:∀(p q:Option Dt),p=q->p=q:=fun _ _ h=>h
  by_cases c3:depth>8
  · simp only[c3,if_true,ne_eq,Int.reduceEq,Ag0]
    have:k=1\/k=2\/k=3\/k=4\/k=5\/k=6\/k=7\/k=8:=by omega
    rcases key2 with rfl|⟨rfl,k2⟩
    · rcases this with rfl|rfl|rfl|rfl|rfl|rfl|rfl|rfl
      all_goals
        repeat(with_reducible(first|apply Ai|apply Ae|apply Aj|apply Ao|apply Aw|apply Bb|apply At|apply Ad|apply Ah|apply Cs);· first|constructor|(simp(disch:=omega)only[Ct,hd,e00,L,t,Int.reduceBEq,Cp,Ev]<;>first|constructor|omega)|omega)
        try simp(disch:=omega)only[Aa,hd,e00,L,t,Int.reduceBEq,Cp,Ev]
      all_goals rfl
    · rw[k2] at ik
      rcases this with rfl|rfl|rfl|rfl|rfl|rfl|rfl|rfl
      all_goals
        repeat(with_reducible(first|apply Ai|apply Ae|apply Aj|apply Ao|apply Aw|apply Bb|apply At|apply Ad|apply Ah|apply Cs);· first|constructor|(simp(disch:=omega)only[Ct,hd,e00,L,t,Int.reduceBEq,ik,Cp,Ev]<;>first|constructor|omega)|omega)
        try simp(disch:=omega)only[Aa,hd,e00,L,t,Int.reduceBEq,ik,Cp,Ev]
      all_goals rfl
  rw[A4 c3]
  have kk:(O4 k=true/\Sz k=false/\(k=3\/k=4))\/(O4 k=false/\Sz k=true/\(k=5\/k=6))\/(O4 k=false/\Sz k=false/\(k=1\/k=2\/k=7\/k=8)):=by
    have:k=1\/k=2\/k=3\/k=4\/k=5\/k=6\/k=7\/k=8:=by omega
    rcases this with rfl|rfl|rfl|rfl|rfl|rfl|rfl|rfl<;>simp[O4,Sz]
  rcases kk with⟨q1,q2,kk⟩|⟨q1,q2,kk⟩|⟨q1,q2,kk⟩
  · rw[q1,q2]
    simp only[true_and,Bool.false_eq_true,false_and,if_false]
    by_cases c4:n>1024
    · simp only[c4,if_true,ne_eq,Int.reduceEq,Ag0]
      rcases key2 with rfl|⟨rfl,k2⟩
      · rcases kk with rfl|rfl
        all_goals
          repeat(with_reducible(first|apply Ai|apply Ae|apply Aj|apply Ao|apply Aw|apply Bb|apply At|apply Ad|apply Ah|apply Cs);· first|constructor|(simp(disch:=omega)only[Ct,hd,e00,L,t,Int.reduceBEq,Cp,Ev]<;>first|constructor|omega)|omega)
          try simp(disch:=omega)only[Aa,hd,e00,L,t,Int.reduceBEq,Cp,Ev]
        all_goals rfl
      · rw[k2] at ik
        rcases kk with rfl|rfl
        all_goals
          repeat(with_reducible(first|apply Ai|apply Ae|apply Aj|apply Ao|apply Aw|apply Bb|apply At|apply Ad|apply Ah|apply Cs);· first|constructor|(simp(disch:=omega)only[Ct,hd,e00,L,t,Int.reduceBEq,ik,Cp,Ev]<;>first|constructor|omega)|omega)
          try simp(disch:=omega)only[Aa,hd,e00,L,t,Int.reduceBEq,ik,Cp,Ev]
        all_goals rfl
    rw[A4 c4]
    by_cases c5:(rest:Int)<n
    · simp only[c5,if_true,ne_eq,Int.reduceEq,Ag0]
      rcases key2 with rfl|⟨rfl,k2⟩
      · rcases kk with rfl|rfl
        all_goals
          repeat(with_reducible(first|apply Ai|apply Ae|apply Aj|apply Ao|apply Aw|apply Bb|apply At|apply Ad|apply Ah|apply Cs);· first|constructor|(simp(disch:=omega)only[Ct,hd,e00,L,t,Int.reduceBEq,w1,w2,Cp,Ev]<;>first|constructor|omega)|omega)
          try simp(disch:=omega)only[Aa,hd,e00,L,t,Int.reduceBEq,w1,w2,Cp,Ev]
        all_goals rfl
      · rw[k2] at ik
        rcases kk with rfl|rfl
        all_goals
          repeat(with_reducible(first|apply Ai|apply Ae|apply Aj|apply Ao|apply Aw|apply Bb|apply At|apply Ad|apply Ah|apply Cs);· first|constructor|(simp(disch:=omega)only[Ct,hd,e00,L,t,Int.reduceBEq,w1,w2,ik,Cp,Ev]<;>first|constructor|omega)|omega)
          try simp(disch:=omega)only[Aa,hd,e00,L,t,Int.reduceBEq,w1,w2,ik,Cp,Ev]
        all_goals rfl
    rw[A4 c5,A4 (by simp)]
    rcases key2 with rfl|⟨rfl,k2⟩
    · rcases kk with rfl|rfl
      all_goals
        repeat(with_reducible(first|apply Ai|apply Ae|apply Aj|apply Ao|apply Aw|apply Bb|apply At|apply Ad|apply Ah|apply Cs);· first|constructor|(simp(disch:=omega)only[Ct,hd,e00,L,t,Int.reduceBEq,w1,w2,Cp,Ev]<;>first|constructor|omega)|omega)
        try simp(disch:=omega)only[Aa,hd,e00,L,t,Int.reduceBEq,w1,w2,Cp,Ev]
      all_goals rfl
    · rw[k2] at ik
      rcases kk with rfl|rfl
      all_goals
        repeat(with_reducible(first|apply Ai|apply Ae|apply Aj|apply Ao|apply Aw|apply Bb|apply At|apply Ad|apply Ah|apply Cs);· first|constructor|(simp(disch:=omega)only[Ct,hd,e00,L,t,Int.reduceBEq,w1,w2,ik,Cp,Ev]<;>first|constructor|omega)|omega)
        try simp(disch:=omega)only[Aa,hd,e00,L,t,Int.reduceBEq,w1,w2,ik,Cp,Ev]
      all_goals rfl
  · rw[q1,q2]
    simp only[true_and,Bool.false_eq_true,false_and,if_false]
    by_cases c4:n>512
    · simp only[c4,if_true,ne_eq,Int.reduceEq,Ag0]
      rcases key2 with rfl|⟨rfl,k2⟩
      · rcases kk with rfl|rfl
        all_goals
          repeat(with_reducible(first|apply Ai|apply Ae|apply Aj|apply Ao|apply Aw|apply Bb|apply At|apply Ad|apply Ah|apply Cs);· first|constructor|(simp(disch:=omega)only[Ct,hd,e00,L,t,Int.reduceBEq,Cp,Ev]<;>first|constructor|omega)|omega)
          try simp(disch:=omega)only[Aa,hd,e00,L,t,Int.reduceBEq,Cp,Ev]
        all_goals rfl
      · rw[k2] at ik
        rcases kk with rfl|rfl
        all_goals
          repeat(with_reducible(first|apply Ai|apply Ae|apply Aj|apply Ao|apply Aw|apply Bb|apply At|apply Ad|apply Ah|apply Cs);· first|constructor|(simp(disch:=omega)only[Ct,hd,e00,L,t,Int.reduceBEq,ik,Cp,Ev]<;>first|constructor|omega)|omega)
          try simp(disch:=omega)only[Aa,hd,e00,L,t,Int.reduceBEq,ik,Cp,Ev]
        all_goals rfl
    rw[A4 c4,A4 (by simp)]
    rcases key2 with rfl|⟨rfl,k2⟩
    · rcases kk with rfl|rfl
      all_goals
        repeat(with_reducible(first|apply Ai|apply Ae|apply Aj|apply Ao|apply Aw|apply Bb|apply At|apply Ad|apply Ah|apply Cs);· first|constructor|(simp(disch:=omega)only[Ct,hd,e00,L,t,Int.reduceBEq,w1,w2,Cp,Ev]<;>first|constructor|omega)|omega)
        try simp(disch:=omega)only[Aa,hd,e00,L,t,Int.reduceBEq,w1,w2,Cp,Ev]
      all_goals rfl
    · rw[k2] at ik
      rcases kk with rfl|rfl
      all_goals
        repeat(with_reducible(first|apply Ai|apply Ae|apply Aj|apply Ao|apply Aw|apply Bb|apply At|apply Ad|apply Ah|apply Cs);· first|constructor|(simp(disch:=omega)only[Ct,hd,e00,L,t,Int.reduceBEq,w1,w2,ik,Cp,Ev]<;>first|constructor|omega)|omega)
        try simp(disch:=omega)only[Aa,hd,e00,L,t,Int.reduceBEq,w1,w2,ik,Cp,Ev]
      all_goals rfl
  · rw[q1,q2]
    simp only[true_and,Bool.false_eq_true,false_and,if_false,ne_eq,not_true_eq_false]
    rcases key2 with rfl|⟨rfl,k2⟩
    · rcases kk with rfl|rfl|rfl|rfl
      all_goals
        repeat(with_reducible(first|apply Ai|apply Ae|apply Aj|apply Ao|apply Aw|apply Bb|apply At|apply Ad|apply Ah|apply Cs);· first|constructor|(simp(disch:=omega)only[Ct,hd,e00,L,t,Int.reduceBEq,w1,w2,Cp,Ev]<;>first|constructor|omega)|omega)
        try simp(disch:=omega)only[Aa,hd,e00,L,t,Int.reduceBEq,w1,w2,Cp,Ev]
      all_goals rfl
    · rw[k2] at ik
      rcases kk with rfl|rfl|rfl|rfl
      all_goals
        repeat(with_reducible(first|apply Ai|apply Ae|apply Aj|apply Ao|apply Aw|apply Bb|apply At|apply Ad|apply Ah|apply Cs);· first|constructor|(simp(disch:=omega)only[Ct,hd,e00,L,t,Int.reduceBEq,w1,w2,ik,Cp,Ev]<;>first|constructor|omega)|omega)
        try simp(disch:=omega)only[Aa,hd,e00,L,t,Int.reduceBEq,w1,w2,ik,Cp,Ev]
      all_goals rfl
end
def Wr(f:Bool->ByteArray->Nat->List It->Int × Nat × List It)(mp:Bool):Nat->ByteArray->Nat->List It->Int × Nat × List It
 |0,_,at_,o=>(0,at_,o)
 |c+1,last,at_,o=>
  if mp=true then
   if (f true last at_ o).1≠0 then f true last at_ o
   else if (f false Fw (f true last at_ o).2.1 (f true last at_ o).2.2).1≠0 then f false Fw (f true last at_ o).2.1 (f true last at_ o).2.2
   else Wr f mp c (Bk (B9 ((f true last at_ o).2.2.getD o.length it0))) (f false Fw (f true last at_ o).2.1 (f true last at_ o).2.2).2.1 (f false Fw (f true last at_ o).2.1 (f true last at_ o).2.2).2.2
  else if (f false Fw at_ o).1≠0 then f false Fw at_ o
  else Wr f mp c last (f false Fw at_ o).2.1 (f false Fw at_ o).2.2
def PP(b:B8)(h:Hd):It × Nat:=if O4 h.k=true then (⟨h.k,0,Bk ((b.drop h.at_).take h.n.toNat)⟩,h.at_+h.n.toNat) else (⟨h.k,h.n,Fw⟩,h.at_)
def Rv(b:B8):Nat->Int->Bool->ByteArray->Nat->List It->Int × Nat × List It
 |0,_,_,_,at_,o=>(2,at_,o)
 |m+1,depth,key,before,at_,o=>
  if (Bi b at_).e≠0 then ((Bi b at_).e,at_,o)
  else if Mz (Bi b at_).k (Bi b at_).n depth key o.length (b.length-(Bi b at_).at_)≠0 then (Mz (Bi b at_).k (Bi b at_).n depth key o.length (b.length-(Bi b at_).at_),(Bi b at_).at_,o)
  else if Kc key before (PP b (Bi b at_)).1≠0 then (Kc key before (PP b (Bi b at_)).1,(PP b (Bi b at_)).2,o)
  else if Sz (Bi b at_).k=true then Wr (Rv b m (depth+1)) ((Bi b at_).k==6) (Bi b at_).n.toNat Fw (PP b (Bi b at_)).2 (o++[(PP b (Bi b at_)).1])
  else (0,(PP b (Bi b at_)).2,o++[(PP b (Bi b at_)).1])
def OkR(x:It):Prop:=OkX x/\x.dat
structure Ba8(b:B8)(o:List It)(r:Int × Nat × List It):Prop where
 at_:r.2.1<=b.length
 all:∀x∈r.2.2,OkR x
 len:o.length<=r.2.2.length
 top:r.2.2.length<=512
 grow:r.1=0->o.length<r.2.2.length
def Au7(b:B8)(f:Bool->ByteArray->Nat->List It->Int × Nat × List It):Prop:=∀key before at_ o,at_<=b.length->(∀x∈o,OkR x)->o.length<=512->Ba8 b o (f key before at_ o)
theorem JQ{b:B8}{f:Bool->ByteArray->Nat->List It->Int × Nat × List It}(hf:Au7 b f){mp:Bool}:∀(c:Nat)(last:ByteArray)(at_:Nat)(o:List It),at_<=b.length->(∀x∈o,OkR x)->o.length<=512 ->
  (Wr f mp c last at_ o).2.1<=b.length/\(∀x∈(Wr f mp c last at_ o).2.2,OkR x)/\o.length<=(Wr f mp c last at_ o).2.2.length/\(Wr f mp c last at_ o).2.2.length<=512
 |0,_,at_,o,h1,h2,h3=>⟨h1,h2,Da _,h3⟩
 |c+1,last,at_,o,h1,h2,h3=>by
  unfold Wr;by_cases hm:mp=true
  ·rw[Bn hm];have q:=hf true last at_ o h1 h2 h3;generalize f true last at_ o=r at q ⊢;by_cases hr:r.1=0
   ·have p:=hf false Fw r.2.1 r.2.2 q.at_ q.all q.top;rw[A4 (by simp[hr])];have:=q.len;generalize f false Fw r.2.1 r.2.2=r2 at p ⊢;by_cases hr2:r2.1=0
    ·rw[A4 (by simp[hr2])];obtain⟨i1,i2,i3,i4⟩:=JQ hf (mp:=mp) c (Bk (B9 (r.2.2.getD o.length it0))) r2.2.1 r2.2.2 p.at_ p.all p.top;have:=p.len;exact⟨i1,i2,by omega,i4⟩
    ·rw[Bn (by simp[hr2])];have:=p.len;exact⟨p.at_,p.all,by omega,p.top⟩
   ·rw[Bn (by simp[hr])];exact⟨q.at_,q.all,q.len,q.top⟩
  ·rw[A4 hm];have q:=hf false Fw at_ o h1 h2 h3;generalize f false Fw at_ o=r at q ⊢;by_cases hr:r.1=0
   ·rw[A4 (by simp[hr])];obtain⟨i1,i2,i3,i4⟩:=JQ hf (mp:=mp) c last r.2.1 r.2.2 q.at_ q.all q.top;have:=q.len;exact⟨i1,i2,by omega,i4⟩
   ·rw[Bn (by simp[hr])];exact⟨q.at_,q.all,q.len,q.top⟩
theorem KH{k n depth:Int}{key:Bool}{ol rest:Nat}(h:Mz k n depth key ol rest=0):ol<512/\depth<=8/\(O4 k=true->n<=1024/\n<=rest)/\(Sz k=true->n<=512):=by
 unfold Mz at h;by_cases c1:512<=ol
 ·rw[Bn c1] at h;cases h
 rw[A4 c1] at h;by_cases c2:key=true/\OR k=false
 ·rw[Bn c2] at h;cases h
 rw[A4 c2] at h;by_cases c3:depth>8
 ·rw[Bn c3] at h;cases h
 rw[A4 c3] at h;by_cases c4:O4 k=true/\n>1024
 ·rw[Bn c4] at h;cases h
 rw[A4 c4] at h;by_cases c5:Sz k=true/\n>512
 ·rw[Bn c5] at h;cases h
 rw[A4 c5] at h;by_cases c6:O4 k=true/\(rest:Int)<n
 ·rw[Bn c6] at h;cases h
 refine⟨by omega,by omega,fun hd=>⟨?_,?_⟩,fun hn=>?_⟩
 ·exact Int.not_lt.1 fun hh=>c4 ⟨hd,hh⟩
 ·exact Int.not_lt.1 fun hh=>c6 ⟨hd,hh⟩
 ·exact Int.not_lt.1 fun hh=>c5 ⟨hn,hh⟩
theorem Ua(k:Int):O4 k=true↔k=3\/k=4:=by unfold O4;simp
theorem PH(k:Int):Sz k=true↔k=5\/k=6:=by unfold Sz;simp
theorem Ata{b:B8}(hb:I7 b){at_:Nat}(ha:at_<=b.length)(he:(Bi b at_).e=0){depth:Int}{key:Bool}{ol:Nat}(hp:Mz (Bi b at_).k (Bi b at_).n depth key ol (b.length-(Bi b at_).at_)=0):OkR (PP b (Bi b at_)).1/\(PP b (Bi b at_)).2<=b.length/\at_<(PP b (Bi b at_)).2:=by
 obtain⟨h1,h2⟩:=Uc hb ha;obtain⟨k1,k8,n0,n1,hl⟩:=h2 he;obtain⟨_,_,p3,_⟩:=KH hp;unfold PP;by_cases hd:O4 (Bi b at_).k=true
 ·obtain⟨q1,q2⟩:=p3 hd;rw[Bn hd];refine⟨⟨⟨k1,k8,by simp,by simp,?_⟩,?_⟩,?_,?_⟩
  ·simp only;rw[H1,List.length_take];omega
  ·rcases (Ua _).1 hd with h|h
   ·exact .inl h
   ·exact .inr (.inl h)
  ·simp only;omega
  ·simp only;omega
 ·rw[A4 hd];exact⟨⟨⟨k1,k8,n0,n1,Nat.zero_le _⟩,.inr (.inr rfl)⟩,h1,hl⟩
theorem BL{b:B8}(hb:I7 b):∀(m:Nat)(depth:Int),Au7 b (Rv b m depth)
 |0,depth=>fun key before at_ o h1 h2 h3=>⟨h1,h2,Da _,h3,fun h=>by simp[Rv] at h⟩
 |m+1,depth=>fun key before at_ o h1 h2 h3=>by
  have hk:=(Uc hb h1).1;unfold Rv;by_cases he:(Bi b at_).e=0
  rotate_left
  ·rw[Bn he];exact⟨h1,h2,Da _,h3,fun h=>absurd h he⟩
  rw[A4 (by simp[he])];by_cases hp:Mz (Bi b at_).k (Bi b at_).n depth key o.length (b.length-(Bi b at_).at_)=0
  rotate_left
  ·rw[Bn hp];exact⟨hk,h2,Da _,h3,fun h=>absurd h hp⟩
  obtain⟨x1,x2,x3⟩:=Ata hb h1 he hp;obtain⟨p1,p2,p3,p4⟩:=KH hp;rw[A4 (by simp[hp])];by_cases hq:Kc key before (PP b (Bi b at_)).1=0
  rotate_left
  ·rw[Bn hq];exact⟨x2,h2,Da _,h3,fun h=>absurd h hq⟩
  rw[A4 (by simp[hq])]
  have a2:∀x∈o++[(PP b (Bi b at_)).1],OkR x:=by
   intro x hx;rcases B4.1 hx with hx|hx
   ·exact h2 x hx
   ·simp at hx;subst hx;exact x1
  have a3:(o++[(PP b (Bi b at_)).1]).length=o.length+1:=by simp
  by_cases hn:Sz (Bi b at_).k=true
  ·rw[Bn hn];obtain⟨i1,i2,i3,i4⟩:=JQ (BL hb m (depth+1)) (mp:=(Bi b at_).k==6) (Bi b at_).n.toNat Fw (PP b (Bi b at_)).2 (o++[(PP b (Bi b at_)).1]) x2 a2 (by omega);exact⟨i1,i2,by omega,i4,fun _=>by omega⟩
  ·rw[A4 hn];exact⟨x2,a2,by simp only;omega,by simp only;omega,fun _=>by simp only;omega⟩
def ZK(s:ByteArray)(r:Int × Nat × List It):Dt:=⟨[Au r.1],[Y8 s r.2.1 r.2.2]⟩
section
variable {fu d:Nat}
theorem WO(Bo:1000<=fu){C7:ByteArray}{Ch:Int}{Eg:Nat}{D0:Ab}{a1:Int}{a2:Bool}{a3:ByteArray}{s:ByteArray}{depth k kn:Int}{kt:ByteArray}(hd0:0<=depth)(hd8:depth<=8){f:Bool->ByteArray->Nat->List It->Int × Nat × List It}(hff:Au7 (Cy s) f)(hf:∀key before at_ o,at_<=s.size->o.length<=512->(∀x∈o,OkR x)->Aq C0 prog fu (d+3) 117 [.pbox (Y8 s at_ o),Au (depth+1),.sc (.bool key),.sc (.string before)]=some (ZK s (f key before at_ o))){n:Nat}(hn:n<=512):
  ∀(c i nn:Nat) (last:ByteArray) (at_:Nat) (o:List It),i+c=n->c<nn->at_<=s.size->o.length<=512->(∀x∈o,OkR x) ->
  Bc fu (Aq C0 prog fu (d+3)) C7 Ch Eg D0 a1 a2 a3 nn depth (n:Int) true last (i:Int) s (at_:Int) o.length (Ay o) k kn kt=some (ZK s (Wr f (k==6) c last at_ o))
 |_,_,0,_,_,_,_,h,_,_,_=>by omega
 |0,i,nn+1,last,at_,o,hi,hc,ha,ho,hx=>by
  have L:=Cx o;have t:List.take (o.length*3) (Ay o)=Ay o:=Hg (by omega);rw[Fl]
  repeat(with_reducible(first|apply Ai|apply Ae|apply Aj|apply Aw|apply Bb|apply Gp|apply Ad|apply Ah|apply Cs);· first|constructor|(simp(disch:=omega)only[Ct,L,t]<;>first|constructor|omega)|omega)
  try simp(disch:=omega)only[Aa,L,t]
  all_goals rfl
 |c+1,i,nn+1,last,at_,o,hi,hc,ha,ho,hx=>by
  have L:=Cx o;have t:List.take (o.length*3) (Ay o)=Ay o:=Hg (by omega);have w1:wrap .i64 (depth+1)=depth+1:=Ag (by omega) (by omega);have w2:wrap .u64 ((i:Int)+1)=((i+1:Nat):Int):=by rw[Cd (by omega) (by omega)];omega
  have K9:=Gl s;rw[Fl];unfold Wr;by_cases hm:k=6
  rotate_left
  ·have Nh:(k==(6:Int))=false:=by simp[hm]
   rw[Nh,A4 (by simp)];have q:=hf false Fw at_ o ha ho hx;have fq:=hff false Fw at_ o (by omega) hx ho;generalize f false Fw at_ o=r at q fq ⊢;obtain⟨e,a,o'⟩:=r;have f1:=fq.at_;have f2:=fq.all;have f4:=fq.top;simp only[ZK] at q f1 f2 f4 ⊢;have L':=Cx o';have t':List.take (o'.length*3) (Ay o')=Ay o':=Hg (by omega);by_cases he:e=0
   ·subst he;have ih:=WO Bo (C7:=C7) (Ch:=Ch) (Eg:=Eg) (D0:=D0) (a1:=a1) (a2:=a2) (a3:=a3) (k:=k) (kn:=kn) (kt:=kt) hd0 hd8 hff hf hn c (i+1) nn last a o' (by omega) (by omega) (by omega) f4 f2;rw[Nh] at ih;have e00:((0:Int) != 0)=false:=rfl;rw[A4 (by simp)];simp only[ZK] at ih;rw[<-ih]
    repeat(with_reducible(first|apply Ai|apply Ae|apply Aj|apply Aw|apply Bb|apply Gp|apply Ad|apply Ah|apply Cs);· first|constructor|(simp(disch:=omega)only[Ct,L,t,w1,w2,Nh,q,e00]<;>first|constructor|omega)|omega)
    try simp(disch:=omega)only[Aa,L,t,w1,w2,Nh,q,e00]
    all_goals rfl
   ·have Yz:(e != 0)=true:=by simp[he]
    rw[Bn he]
    repeat(with_reducible(first|apply Ai|apply Ae|apply Aj|apply Aw|apply Bb|apply Gp|apply Ad|apply Ah|apply Cs);· first|constructor|(simp(disch:=omega)only[Ct,L,t,w1,w2,Nh,q,Yz,L',t']<;>first|constructor|omega)|omega)
    try simp(disch:=omega)only[Aa,L,t,w1,w2,Nh,q,Yz,L',t']
    all_goals rfl
  ·subst hm;have Nh:((6:Int)==(6:Int))=true:=rfl;rw[Nh,Bn rfl];have q:=hf true last at_ o ha ho hx;have fq:=hff true last at_ o (by omega) hx ho;generalize f true last at_ o=r at q fq ⊢;obtain⟨e,a,o'⟩:=r;have f1:=fq.at_;have f2:=fq.all;have f4:=fq.top;have f5:=fq.grow;simp only[ZK] at q f1 f2 f4 f5 ⊢;have L':=Cx o';have t':List.take (o'.length*3) (Ay o')=Ay o':=Hg (by omega);by_cases he:e=0
   rotate_left
   ·have Yz:(e != 0)=true:=by simp[he]
    rw[Bn he]
    repeat(with_reducible(first|apply Ai|apply Ae|apply Aj|apply Aw|apply Bb|apply Gp|apply Ad|apply Ah|apply Cs);· first|constructor|(simp(disch:=omega)only[Ct,L,t,w1,w2,Nh,q,Yz,L',t']<;>first|constructor|omega)|omega)
    try simp(disch:=omega)only[Aa,L,t,w1,w2,Nh,q,Yz,L',t']
    all_goals rfl
   subst he;have f5:=f5 rfl;have e00:((0:Int) != 0)=false:=rfl;rw[A4 (by simp)];obtain⟨x,hxg⟩:∃x,o'[o.length]?=some x:=⟨_,List.getElem?_eq_getElem f5⟩
   have hxo:=f2 x (List.mem_of_getElem? hxg);have gx:o'.getD o.length it0=x:=by rw[List.getD_eq_getElem?_getD,hxg];rfl
   rw[gx];obtain⟨c0,c1,c2⟩:=aci hxg;have by_:=FD (fu:=fu) (d:=d) (x:=x) Bo ⟨hxo.1.k1,hxo.1.k8,hxo.1.n0,Nat.le_trans hxo.1.s1 (by omega)⟩ hxo.2;obtain⟨xk,xn,xs⟩:=x;unfold It.cells at by_;simp only at c0 c1 c2 by_;have nt:Int.toNat (o.length:Int)=o.length:=H6 _;have q2:=hf false Fw a o' (by omega) f4 f2;have fq2:=hff false Fw a o' f1 f2 f4;generalize Bk (B9 ⟨xk,xn,xs⟩)=last' at by_ ⊢;generalize f false Fw a o'=r2 at q2 fq2 ⊢;obtain⟨e2,a2',o2⟩:=r2;have g1:=fq2.at_;have g2:=fq2.all;have g4:=fq2.top;simp only[ZK] at q2 g1 g2 g4 ⊢;have L2:=Cx o2;have t2:List.take (o2.length*3) (Ay o2)=Ay o2:=Hg (by omega);by_cases he2:e2=0
   ·subst he2;have ih:=WO Bo (C7:=C7) (Ch:=Ch) (Eg:=Eg) (D0:=D0) (a1:=a1) (a2:=a2) (a3:=a3) (k:=6) (kn:=kn) (kt:=kt) hd0 hd8 hff hf hn c (i+1) nn last' a2' o2 (by omega) (by omega) (by omega) g4 g2;rw[Nh] at ih;rw[A4 (by simp)];simp only[ZK] at ih;rw[<-ih]
    repeat(with_reducible(first|apply Ai|apply Ae|apply Aj|apply Aw|apply Bb|apply Gp|apply Ad|apply Ah|apply Cs);· first|constructor|(simp(disch:=omega)only[Ct,L,t,w1,w2,Nh,q,e00,L',t',Ck,nt,c0,c1,c2,by_,q2]<;>first|constructor|omega)|omega)
    try simp(disch:=omega)only[Aa,L,t,w1,w2,Nh,q,e00,L',t',Ck,nt,c0,c1,c2,by_,q2]
    all_goals rfl
   ·have Yz:(e2 != 0)=true:=by simp[he2]
    rw[Bn he2]
    repeat(with_reducible(first|apply Ai|apply Ae|apply Aj|apply Aw|apply Bb|apply Gp|apply Ad|apply Ah|apply Cs);· first|constructor|(simp(disch:=omega)only[Ct,L,t,w1,w2,Nh,q,e00,L',t',Ck,nt,c0,c1,c2,by_,q2,Yz,L2,t2]<;>first|constructor|omega)|omega)
    try simp(disch:=omega)only[Aa,L,t,w1,w2,Nh,q,e00,L',t',Ck,nt,c0,c1,c2,by_,q2,Yz,L2,t2]
    all_goals rfl
theorem Ar2(Bo:1000<=fu){s:ByteArray}(hs:s.size<=1000000):∀(m:Nat)(depth:Int)(key:Bool)(before:ByteArray)(at_:Nat)(o:List It),0<=depth->9<=depth+m->depth<=9->at_<=s.size->o.length<=512->(∀x∈o,OkR x) ->
  Aq C0 prog fu (d+4+m) 117 [.pbox (Y8 s at_ o),Au depth,.sc (.bool key),.sc (.string before)]=some (ZK s (Rv (Cy s) (m+1) depth key before at_ o)):=by
 intro m
 induction m with
 |zero=>
  intro depth key before at_ o d0 dm d9 ha ho hx;have pr:=Ar3 (fu:=fu) (d:=d) Bo (depth:=depth) (key:=key) (before:=before) hs ha (o:=o) (by omega);have K9:=Gl s;rw[JY,pr];unfold Rv AB;rw[K9];by_cases he:(Bi (Cy s) at_).e=0
  rotate_left
  ·rw[Bn he,Bn he,A4 he];rfl
  have Yz:¬((Bi (Cy s) at_).e≠0):=by simp[he]
  rw[A4 Yz,A4 Yz];by_cases hp:Mz (Bi (Cy s) at_).k (Bi (Cy s) at_).n depth key o.length (s.size-(Bi (Cy s) at_).at_)=0
  ·obtain⟨_,p2,_⟩:=KH hp;omega
  ·rw[Bn hp,Bn hp,Bn he];rfl
 |succ m ih=>
  intro depth key before at_ o d0 dm d9 ha ho hx;have pr:=Ar3 (fu:=fu) (d:=d+1+m) Bo (depth:=depth) (key:=key) (before:=before) hs ha (o:=o) (by omega);have K9:=Gl s;have ed:d+1+m+4=d+4+(m+1):=by omega
  have ed':d+4+m=d+1+m+3:=by omega
  rw[ed'] at ih;rw[ed] at pr;rw[pr];have A08:=BL (BK s) (m+1) (depth+1);generalize hR:Rv (Cy s) (m+1) (depth+1)=R at A08;unfold Rv AB;rw[K9,hR];by_cases he:(Bi (Cy s) at_).e=0
  rotate_left
  ·rw[Bn he,Bn he,A4 he];rfl
  have Yz:¬((Bi (Cy s) at_).e≠0):=by simp[he]
  rw[A4 Yz,A4 Yz];by_cases hp:Mz (Bi (Cy s) at_).k (Bi (Cy s) at_).n depth key o.length (s.size-(Bi (Cy s) at_).at_)=0
  rotate_left
  ·rw[Bn hp,Bn hp,Bn he];rfl
  have Dg:¬(Mz (Bi (Cy s) at_).k (Bi (Cy s) at_).n depth key o.length (s.size-(Bi (Cy s) at_).at_)≠0):=by simp[hp]
  rw[A4 Dg,A4 Dg];clear Yz Dg;obtain⟨x1,x2,x3⟩:=Ata (BK s) (by omega) he (by rw[K9];exact hp)
  obtain⟨p1,p2,p3,p4⟩:=KH hp;obtain⟨y1,y2⟩:=Uc (b:=Cy s) (at_:=at_) (BK s) (by omega);obtain⟨k1,k8,n0,n1,_⟩:=y2 he
  have a2:∀x∈o++[(PP (Cy s) (Bi (Cy s) at_)).1],OkR x:=by
   intro x Zy;rcases B4.1 Zy with Zy|Zy
   ·exact hx x Zy
   ·simp at Zy;subst Zy;exact x1
  have a3:(o++[(PP (Cy s) (Bi (Cy s) at_)).1]).length=o.length+1:=by simp
  generalize Bi (Cy s) at_=h at *
  obtain⟨k,n,e,a⟩:=h;simp only at *
  obtain⟨n,rfl⟩:=Int.eq_ofNat_of_zero_le n0
  have hff:∀kk bb aa oo,aa<=s.size->oo.length<=512->(∀x∈oo,OkR x)->Aq C0 prog fu (d+1+m+3) 117 [.pbox (Y8 s aa oo),Au (depth+1),.sc (.bool kk),.sc (.string bb)]=some (ZK s (R kk bb aa oo)):=by
   intro kk bb aa oo h1 h2 h3;rw[ih (depth+1) kk bb aa oo (by omega) (by omega) (by omega) h1 h2 h3,hR]
  by_cases hdt:O4 k=true
  ·obtain⟨q1,q2⟩:=p3 hdt;have A60:=(Ua k).1 hdt;have Arz:Sz k=false:=by rcases A60 with rfl|rfl<;>rfl
   have eX:PP (Cy s) ⟨k,(n:Int),e,a⟩=(⟨k,0,Bk (((Cy s).drop a).take n)⟩,a+n):=by
    unfold PP;rw[Bn hdt];simp
   rw[hdt,Arz,eX];have po:=Ao8 (fu:=fu) (d:=d+1+m) (C7:=s) (Ch:=(at_:Int)) (Eg:=o.length) (D0:=Ay o) (a1:=depth) (a2:=key) (a3:=before) Bo (depth:=depth) (k:=k) (n:=n) (nn':=n) (key:=key) (nest:=false) (before:=before) (s:=s) (t0:=Fw) (at_:=a) (o:=o) (nn:=fu) (by omega) (by omega) A60 (by omega) (by omega) hs rfl;rw[po];simp only;by_cases hq:Kc key before ⟨k,0,Bk (((Cy s).drop a).take n)⟩=0
   ·rw[Bn hq,A4 (by simp[hq]),A4 (by simp)];obtain⟨nn,rfl⟩:∃nn,fu=nn+1:=⟨fu-1,by omega⟩
    rw[Fl,Ad8];have L:=Cx (o++[It.mk k 0 (Bk (((Cy s).drop a).take n))]);have t:List.take ((o++[It.mk k 0 (Bk (((Cy s).drop a).take n))]).length*3) (Ay (o++[It.mk k 0 (Bk (((Cy s).drop a).take n))]))=Ay (o++[It.mk k 0 (Bk (((Cy s).drop a).take n))]):=Hg (by omega);rw[ET _ _ (by omega),t];rfl
   ·rw[A4 hq,Bn hq];rfl
  ·have Bc3:O4 k=false:=by simpa using hdt
   have eX:PP (Cy s) ⟨k,(n:Int),e,a⟩=(⟨k,(n:Int),Fw⟩,a):=by
    unfold PP;rw[A4 hdt]
   rw[Bc3,eX];rw[eX] at a2 a3 x2;have po:=Ai8 (fu:=fu) (d:=d+1+m) (C7:=s) (Ch:=(at_:Int)) (Eg:=o.length) (D0:=Ay o) (a1:=depth) (a2:=key) (a3:=before) Bo (depth:=depth) (n:=(n:Int)) (k:=k) (nn':=(n:Int)) (key:=key) (nest:=Sz k) (before:=before) (s:=s) (t:=Fw) (at_:=a) (o:=o) (nn:=fu) (by omega) (by omega) ⟨k1,k8⟩ (by omega) (Nat.zero_le _) (.inr (.inr rfl));rw[po];simp only at a2 a3 x2 ⊢;by_cases hq:Kc key before ⟨k,(n:Int),Fw⟩=0
   rotate_left
   ·rw[A4 hq,Bn hq];rfl
   rw[Bn hq,A4 (by simp[hq])];cases Arz:Sz k
   ·rw[A4 (by simp)];obtain⟨nn,rfl⟩:∃nn,fu=nn+1:=⟨fu-1,by omega⟩
    rw[Fl,Ad8];have L:=Cx (o++[It.mk k (n:Int) Fw]);have t:List.take ((o++[It.mk k (n:Int) Fw]).length*3) (Ay (o++[It.mk k (n:Int) Fw]))=Ay (o++[It.mk k (n:Int) Fw]):=Hg (by omega);rw[ET _ _ (by omega),t];rfl
   ·rw[Bn rfl];have:=p4 Arz;rw[H6];exact WO Bo d0 p2 A08 hff (by omega) n 0 fu Fw a _ (by omega) (by omega) (by omega) (by omega) a2
def OS(b:B8):List It × Nat × Int:=if (Rv b 10 0 false Fw 0 []).1≠0 then ([],0,(Rv b 10 0 false Fw 0 []).1) else ((Rv b 10 0 false Fw 0 []).2.2,(Rv b 10 0 false Fw 0 []).2.1,0)
theorem Ajc(Bo:1000<=fu){b:B8}(hb:I7 b)(hl:b.length<=1000000):
  Aq C0 prog fu (d+14) 80 [.lst false 1 b.length (Ac .u8 b)]=some ⟨HO (OS b),[]⟩:=by
 rw[ES];have L:=Ap .u8 b;have bo:=Hc b;have K9:(Bk b).size=b.length:=H1 b;have it:=Ar2 (fu:=fu) (d:=d) Bo (s:=Bk b) (by omega) 9 0 false Fw 0 [] (by omega) (by omega) (by omega) (by omega) (by simp) (by simp);have fi:=BL hb 10 0 false Fw 0 [] (by omega) (by simp) (by simp);rw[O9 hb] at it;have eB:ByteArray.mk (List.toArray (b.map fun n=>n.toNat.toUInt8))=Bk b:=rfl;unfold OS;generalize Rv b 10 0 false Fw 0 []=r at it fi ⊢;obtain⟨e,a,o⟩:=r;have f4:=fi.top;simp only[ZK] at it f4 ⊢;have LT:=Cx o;have tT:List.take (o.length*3) (Ay o)=Ay o:=Hg (by omega)
 have it':Aq C0 prog fu (d+13) 117 [.pbox [.sc (.string (Bk b)),Au 0,.own 3 0 []],Au 0,.sc (.bool false),.sc (.string Fw)]=some ⟨[Au e],[[.sc (.string (Bk b)),Au a,.own 3 o.length (Ay o)]]⟩:=it;clear it;by_cases he:e=0
 ·subst he;have e00:((0:Int) != 0)=false:=rfl;rw[A4 (by simp)];unfold HO
  repeat(with_reducible(first|apply Ai|apply Ae|apply Aj|apply Aw|apply Bb|apply Gp|apply Ad|apply Ah|apply Cs);· first|constructor|(simp(disch:=omega)only[Ct,L,bo,eB,it',e00,LT,tT]<;>first|constructor|omega)|omega)
  try simp(disch:=omega)only[Aa,L,bo,eB,it',e00,LT,tT]
  all_goals rfl
 ·have Yz:(e != 0)=true:=by simp[he]
  rw[Bn he];unfold HO
  repeat(with_reducible(first|apply Ai|apply Ae|apply Aj|apply Aw|apply Bb|apply Gp|apply Ad|apply Ah|apply Cs);· first|constructor|(simp(disch:=omega)only[Ct,L,bo,eB,it',Yz,LT,tT]<;>first|constructor|omega)|omega)
  try simp(disch:=omega)only[Aa,L,bo,eB,it',Yz,LT,tT]
  all_goals rfl
end
def YW(depth:Int)(its:List It):Prop:=
 ∀(b:B8) (at_:Nat) (rest:B8) (m:Nat) (o:List It),b.drop at_=Bg its++rest->9<=depth+m->o.length+its.length<=512->Rv b (m+1) depth false Fw at_ o=(0,at_+(Bg its).length,o++its)
theorem OA{x:It}(hx:OQ x)(hn:x.n<=18446744073709551615){depth:Int}(hd:depth<=8):YW depth [x]:=by
 intro b at_ rest m o h hm ho;have kd:=hx.kd;have hs:=hx.hs;have e1:Bg [x]=B9 x:=by simp[Bg]
 rw[e1] at h ⊢;obtain⟨q1,q2,q3,q4⟩:=IR (x:=x) hx.hsh (by omega) (by omega) hx.n0 hn hx.hs h
 have ln:x.s.size<=b.length-(at_+((B9 x).length-x.s.size)):=by
  have:=congrArg List.length h;rw[List.length_drop,F9] at this;omega
 have pe:Mz x.k (nOf x) depth false o.length (b.length-(at_+((B9 x).length-x.s.size)))=0:=by
  unfold Mz;simp only[List.length_singleton] at ho;rw[A4 (by omega),A4 (by simp),A4 (by omega)];by_cases c34:x.k=3\/x.k=4
  ·have e:nOf x=x.s.size:=by unfold nOf;rw[Bn c34]
   rw[e,A4 (by omega),A4 (by rw[PH];omega),A4 (by omega)]
  ·rw[A4 (by rw[Ua];omega),A4 (by rw[PH];omega),A4 (by rw[Ua];omega)]
 have rx:PP b ⟨x.k,nOf x,0,at_+((B9 x).length-x.s.size)⟩=(x,at_+(B9 x).length):=by
  unfold PP;simp only;by_cases c34:x.k=3\/x.k=4
  ·obtain⟨z,q2⟩:=q2 c34;have e:nOf x=x.s.size:=by unfold nOf;rw[Bn c34]
   rw[Bn ((Ua _).2 c34),e,H6,q2,List.take_left' (Gl x.s),Tu];obtain⟨k,n,s⟩:=x;simp only at z q4 ⊢;subst z
   congr 1
   omega
  ·have q3:=q3 c34;have e:nOf x=x.n:=by unfold nOf;rw[A4 c34]
   rw[A4 (fun hh=>c34 ((Ua _).1 hh)),e];obtain⟨k,n,s⟩:=x;simp only at q3 ⊢;subst q3;have:(ByteArray.mk #[]).size=0:=rfl;rw[this,Nat.sub_zero]
 unfold Rv;rw[q1];simp only;rw[A4 (by simp),pe,A4 (by simp),rx]
 have po:Kc false Fw x=0:=by
  unfold Kc;rw[A4 (fun hh=>by have:=hx.hv hh.1;have h2:=hh.2;unfold okS at h2;rw[this] at h2;cases h2),A4 (by simp)]
 rw[po,A4 (by simp),A4 (by rw[PH];omega)]
theorem Aap{b:B8}{depth:Int}{rest:B8}{m:Nat}(hm:9<=depth+1+m):∀(vs:List (List It)) (at_:Nat)(o:List It)(last:ByteArray),(∀v∈vs,YW (depth+1) v)->b.drop at_=Bg vs.flatten++rest->o.length+vs.flatten.length<=512 ->
  Wr (Rv b (m+1) (depth+1)) false vs.length last at_ o=(0,at_+(Bg vs.flatten).length,o++vs.flatten)
 |[],at_,o,last,hv,h,ho=>by simp[Wr,Bg]
 |v::vs,at_,o,last,hv,h,ho=>by
  have e:Bg (v::vs).flatten=Bg v++Bg vs.flatten:=by simp[Bg]
  rw[e,FX] at h;simp only[List.flatten_cons,F9] at ho;have r:=hv v (by simp) b at_ (Bg vs.flatten++rest) m o h hm (by omega);have h':b.drop (at_+(Bg v).length)=Bg vs.flatten++rest:=by rw[<-List.drop_drop,h,List.drop_left' rfl]
  have ih:=Aap hm vs (at_+(Bg v).length) (o++v) last (fun w hw=>hv w (Sx _ hw)) h' (by rw[F9];omega)
  rw[He];unfold Wr;rw[A4 (by simp),r];simp only;rw[A4 (by simp),ih,e];simp;omega
theorem Uj{vs:List (List It)}{depth:Int}(hv:∀v∈vs,YW (depth+1) v)(hd:depth<=8)(hl:vs.length<=400):YW depth (⟨5,vs.length,Fw⟩::vs.flatten):=by
 intro b at_ rest m o h hm ho;have e1:Bg (⟨5,vs.length,Fw⟩::vs.flatten)=B9 ⟨5,vs.length,Fw⟩++Bg vs.flatten:=by simp[Bg]
 rw[e1,FX] at h;have z:Fw.size=0:=rfl;obtain⟨q1,q2,q3,q4⟩:=IR (x:=⟨5,vs.length,Fw⟩) (b:=b) (at_:=at_) rfl (by simp) (by simp) (by simp) (by simp only;omega) (by rw[z];omega) h
 have e2:nOf ⟨5,vs.length,Fw⟩=vs.length:=rfl;simp only[z,Nat.sub_zero] at q1;rw[e2] at q1;simp only[He] at ho
 have pe:Mz 5 (vs.length:Int) depth false o.length (b.length-(at_+(B9 ⟨5,vs.length,Fw⟩).length))=0:=by
  unfold Mz;rw[A4 (by omega),A4 (by simp),A4 (by omega),A4 (by simp[O4]),A4 (by omega),A4 (by simp[O4])]
 have rx:PP b ⟨5,(vs.length:Int),0,at_+(B9 ⟨5,vs.length,Fw⟩).length⟩=(⟨5,vs.length,Fw⟩,at_+(B9 ⟨5,vs.length,Fw⟩).length):=by
  unfold PP;rw[A4 (by simp[O4])]
 have po:Kc false Fw ⟨5,vs.length,Fw⟩=0:=by
  unfold Kc;rw[A4 (fun hh=>by simp at hh),A4 (by simp)]
 have h':b.drop (at_+(B9 ⟨5,vs.length,Fw⟩).length)=Bg vs.flatten++rest:=by rw[<-List.drop_drop,h,List.drop_left' rfl]
 unfold Rv;rw[q1];simp only;rw[A4 (by simp),pe,A4 (by simp),rx];simp only;rw[po,A4 (by simp),Bn (show Sz 5=true from rfl),H6];cases vs with
 |nil=>simp[Wr,Bg]
 |cons v vs=>
  obtain⟨m,rfl⟩:∃k,m=k+1:=⟨m-1,by omega⟩
  have:=Aap (b:=b) (rest:=rest) (m:=m) (depth:=depth) (by omega) (v::vs) (at_+(B9 ⟨5,(v::vs).length,Fw⟩).length) (o++[⟨5,(v::vs).length,Fw⟩]) Fw hv h' (by simp only[F9,List.length_singleton];omega)
  have e6:((5:Int)==6)=false:=rfl;rw[e6,this,e1];simp;omega
theorem Avk{its:List It}(h:YW 0 its)(hl:its.length<=512)(rest:B8):OS (Bg its++rest)=(its,(Bg its).length,0):=by
 have:=h (Bg its++rest) 0 rest 9 [] (by rw[Er]) (by omega) (by simp;omega)
 unfold OS;rw[this];simp
section
variable {xs:FuncId->Option (Ab->Option Dt)}(fu d:Nat)(call:Bq)
theorem LN(Z:Nat)(Y:Ab):Fm C0 fu d 10 [Am 1 Z Y] fun call=>Bu [.pbox [Am 1 Z Y,(0:Int)]]:=by show _=_;kernel_rfl
theorem MP(Z Y:Int):Fm C0 fu d 14 [Z,Y] fun call=>Aa (wrap .u64 Z) fun a=>Aa (wrap .u64 Y) fun b=>As (decide (b≠0))<|Aa (Int.tmod a b) fun a=>Aa (wrap .i64 a) fun a=>Bu [a]:=by show _=_;kernel_rfl
theorem Oc(Z:Nat)(Y:Ab)(X W:Int):Fm C0 fu d 15 [.pbox [Am 1 Z Y,X],W] fun call=>Az (decide (X>=(↑Z:Int))) (some ⟨[(0:Int)],[[Am 1 Z Y,X]]⟩) (Aa (wrap .i64 (X+1)) fun a=>Aa (wrap .i64 (a-1)) fun b=>As (decide (0<=b)&&decide (b<(↑Z:Int)))<|Be .i64 (Y.getD (b.toNat*1) .top) fun b=>Lj .i64 (call 14 [b,W]) fun b=>some ⟨[b],[[Am 1 Z Y,a]]⟩):=by show _=_;kernel_rfl
end
abbrev dkc(l:B8)(a:Nat):Ab:=[.lst false 1 l.length (Ac .i64 l),Au (a:Int)]
theorem A1w{fu d:Nat}{l:B8}:Aq C0 prog fu (d+1) 10 [.lst false 1 l.length (Ac .i64 l)]=some ⟨[.pbox (dkc l 0)],[]⟩:=by rw[LN];rfl
theorem Alg(v n:Int)(hn:0<n)(hm:n<=9223372036854775807):∃r,0<=r/\r<n/\∀{fu d:Nat},Aq C0 prog fu (d+1) 14 [Au v,Au n]=some ⟨[Au r],[]⟩:=by have h1:=Ls v;have h2:wrap .u64 n=n:=Cd (by omega) (by omega);have h3:0<=Int.tmod (wrap .u64 v) n:=Int.tmod_nonneg _ h1.1;have h4:Int.tmod (wrap .u64 v) n<n:=Int.tmod_lt_of_pos _ hn;refine⟨_,h3,h4,fun {fu d}=>?_⟩;rw[MP];simp only[Ke,h2];rw[ET _ _ (by omega),Ag (by omega) (by omega)]
theorem Hi{l:B8}(hl:l.length<=maxLen)(a:Nat)(n:Int)(hn:0<n)(hm:n<=9223372036854775807):∃(v:Int)(a':Nat),0<=v/\v<n /\
  ∀{fu d:Nat},Aq C0 prog fu (d+2) 15 [.pbox (dkc l a),Au n]=some ⟨[Au v],[dkc l a']⟩:=by
 simp only[maxLen] at hl;by_cases h:a<l.length
 ·obtain⟨r,h1,h2,h3⟩:=Alg l[a] n hn hm;refine⟨r,a+1,h1,h2,fun {fu d}=>?_⟩;rw[Oc]
  have hg:(Ac .i64 l).getD (Int.toNat ((a:Int)+1-1)*1) .top=Au l[a]:=by
   have:=Ss (k:=.i64) (List.getElem?_eq_getElem h);rw[show Int.toNat ((a:Int)+1-1)*1=a by omega];exact this
  simp(disch:=omega)only[Bz,Bx,Ag,hg,h3];rfl
 ·refine⟨0,a,by omega,hn,fun {fu d}=>?_⟩;rw[Oc];simp(disch:=omega)only[Bz,Bx]
section
variable {xs:FuncId->Option (Ab->Option Dt)}(fu d:Nat)(call:Bq)
theorem LZ(Z Y:Int):Fm C0 fu d 17 [Af Z,Y] fun call=>Dj (call 30 [Af Z,Y]) fun a b=>Dl a fun a=>Cu .i64 a fun a c=>Dc .u64 c fun c=>Dc .i64 b fun b=>Bu [.agg [a,Af c]]:=by show _=_;kernel_rfl
theorem Vq(Z:Nat)(Y:Ab)(X:Int):Fm C0 fu d 44 [Am 1 Z Y,X] fun call=>Az ((↑Z:Int)==0) (Aa (wrap .u8 X) fun a=>Bu [.own 1 1 [.sc (.int .u8 a)]]) (As (decide (Y.length=Z*1)&&decide (Z*1<=1099511627776)&&decide (Z<=1099511627776))<|As (decide ((↑Z:Int)≠0))<|Aa (Int.tmod X (↑Z:Int)) fun a=>As (decide (0<=a)&&decide (a<(↑Z:Int)))<|Be .u8 (Y.getD (0+a.toNat*1) .top) fun b=>Aa (Oy .i64 X 7) fun c=>Aa (wrap .u64 c) fun c=>As (decide (0<=c))<|Aa (Hq .u8 1 c) fun c=>Aa (Fj .u8 b c) fun b=>As (decide (0<=a)&&decide (a<(↑Z:Int)))<|As (decide (0+a.toNat*1+1<=Y.length))<|Aa (B0 Y [.sc (.int .u8 b)] (0+a.toNat*1)) fun a=>As (decide (Z*1<=a.length))<|Bu [.own 1 Z (a.take (Z*1))]):=by show _=_;kernel_rfl
end
structure An where
 name:ByteArray
 key:Ky
def An.cells(a:An):Ab:=[.sc (.string a.name),Au a.key.h,Af a.key.root]
def C1(l:List An):Ab:=l.flatMap An.cells
theorem An.cells_len(a:An):a.cells.length=3:=rfl
theorem ana{l:List An}{i:Nat}{a:An}(h:l[i]?=some a):(C1 l).getD (i*3) .top=.sc (.string a.name)/\(C1 l).getD (i*3+1) .top=Au a.key.h/\(C1 l).getD (i*3+2) .top=Af a.key.root:=
 ⟨H4 An.cells_len h (j:=0) (by omega),H4 An.cells_len h (j:=1) (by omega),H4 An.cells_len h (j:=2) (by omega)⟩
def Agk(l:List Iy):Prop:=∀f∈l,f.p=false
theorem Agk.key{l:List Iy}(h:Agk l):V2 l=false:=by
 rcases L6 l with rfl|⟨l',f,rfl⟩
 ·rfl
 ·unfold V2;simp[h f (by simp)]
theorem Agk.dec{l:List Iy}(h:Agk l):Agk (AQ l):=by
 rcases L6 l with rfl|⟨l',f,rfl⟩
 ·exact h
 ·rw[Wx];intro g hg;rcases B4.1 hg with hg|hg
  ·exact h g (by simp[hg])
  ·rw[M0.1 hg];exact h f (by simp)
def Val(k:Nat)(v:List It):Prop:=∀(l:List Iy)(cnt:Int)(rest:List It),l.length+k<=6->0<=cnt->cnt+v.length<=505->(cnt=0\/l≠[])->Agk l ->
 Tm (NE (AQ l)) (cnt+v.length) rest->Tm l cnt (v++rest)
theorem XJ{l:List Iy}{cnt k:Int}(ha:Agk l)(hl:l.length<=6)(hc:cnt<=505)(k1:1<=k)(k8:k<=8):P2 l cnt k=0:=by unfold P2;rw[A4 (by omega),A4 (by omega),A4 (by omega),A4 (by intro q;rw[ha.key] at q;exact absurd q.1 (by simp)),A4 (by omega)]
theorem Hu{x:It}(h:OQ x)(k:Nat):Val k [x]:=by
 intro l cnt rest hl h0 h1 hd ha hg;simp only[List.length_singleton] at h1 hg;have hk:=h.kd;refine⟨⟨by omega,h0,by omega,ha.key,h.hs,h.hv,?_,XJ ha (by omega) (by omega) (by omega) (by omega),h.hsh,.inr (by omega)⟩,?_⟩
 ·rcases hd with rfl|hd
  ·rfl
  ·have:l.length≠0:=fun e=>hd (List.eq_nil_of_length_eq_zero e);have h2:((l.length:Int)==0)=false:=by simp;exact hd
   rw[h2,Bool.and_false]
 ·unfold Ie;rw[h.push];exact hg
theorem Agw{k:Nat}{l:List Iy}(hl:l.length+1+k<=6)(ha:Agk l){rest:List It}:∀(vs:List (List It)) (cnt:Int),vs≠[]->vs.length<=100000->(∀v∈vs,Val k v)->0<=cnt->cnt+vs.flatten.length<=505->Tm (NE l) (cnt+vs.flatten.length) rest ->
  Tm (l++[⟨false,vs.length,[]⟩]) cnt (vs.flatten++rest)
 |[],_,h,_,_,_,_,_=>absurd rfl h
 |v::vs,cnt,_,hn,hv,h0,h1,hg=>by
  rw[List.flatten_cons,F9] at h1 hg;rw[List.flatten_cons,FX];simp only[He] at hn;refine hv v (by simp) _ cnt _ (by rw[F9,List.length_singleton];omega) h0 (by omega) (.inr (by simp)) ?_ ?_
  ·intro g hg';rcases B4.1 hg' with hg'|hg'
   ·exact ha g hg'
   ·rw[M0.1 hg']
  rw[Wx]
  have w:wrap .i64 (((v::vs).length:Int)-1)=(vs.length:Int):=by
   rw[Ag (by simp only[He];omega) (by simp only[He];omega)]
   simp only[He];omega
  simp only[w];by_cases Xt:vs=[]
  ·subst Xt;rw[Aaj rfl]
   simpa using hg
  ·rw[WE (by simp only;have:=List.length_pos_iff.2 Xt;omega)]
   exact Agw hl ha vs (cnt+v.length) Xt (by omega) (fun x hx=>hv x (by simp[hx])) (by omega) (by omega) (by rw[Int.add_assoc,<-Int.natCast_add];exact hg)
theorem Xf{k:Nat}{vs:List (List It)}(hv:∀v∈vs,Val k v)(hn:vs.length<=500):Val (k+1) (⟨5,vs.length,⟨#[]⟩⟩::vs.flatten):=by
 intro l cnt rest hl h0 h1 hd ha hg;simp only[He] at h1 hg;refine⟨⟨by omega,h0,by omega,ha.key,Nat.zero_le _,(by intro h;cases h),?_,XJ ha (by omega) (by omega) (by simp) (by simp),(by rfl),.inl (by simp only;omega)⟩,?_⟩
 ·rcases hd with rfl|hd
  ·rfl
  ·have h2:((l.length:Int)==0)=false:=by simp;exact hd
   rw[h2,Bool.and_false]
 ·by_cases Xt:vs=[]
  ·subst Xt
   have e:Ie l ⟨5,(([]:List (List It)).length:Nat),⟨#[]⟩⟩=NE (AQ l):=by
    unfold Ie VF;rw[A4 (by simp),A4 (by simp)]
   rw[e]
   simpa using hg
  ·have hp:=List.length_pos_iff.2 Xt;have w:wrap .i64 (vs.length:Int)=(vs.length:Int):=Ag (by omega) (by omega)
   have e:Ie l ⟨5,(vs.length:Nat),⟨#[]⟩⟩=AQ l++[⟨false,(vs.length:Nat),[]⟩]:=by
    unfold Ie VF;rw[Bn ⟨rfl,by simp only;omega⟩]
    simp only[w];exact WE (by simp only;omega)
   rw[e]
   exact Agw (by rw[IG];omega) ha.dec vs (cnt+1) Xt (by omega) hv (by omega) (by omega) (by
    have e1:cnt+1+(vs.flatten.length:Int)=cnt+((vs.flatten.length+1:Nat):Int):=by omega
    rw[e1];exact hg)
theorem Val.goods{k:Nat}(hk:k<=6){v:List It}(h:Val k v)(hn:v≠[])(hl:v.length<=505):Tm [] 0 v:=by
 have:=h [] 0 [] (by simp;exact hk) (by omega) (by omega) (.inl rfl) (by intro f hf;cases hf) ⟨rfl,by have:=List.length_pos_iff.2 hn;omega⟩
 rw[List.append_nil] at this;exact this
structure Sa where
 kd:Int
 at_:Int
structure Me where
 model:Int
 ans:List An
 sts:List Sa
structure Md where
 ver:Int
 iss:Int
 nxt:Int
 ents:List Me
 sig:Sg
def Sa.cells(s:Sa):Ab:=[Au s.kd,Au s.at_]
def Dq(l:List Sa):Ab:=l.flatMap Sa.cells
theorem Sa.cells_len(s:Sa):s.cells.length=2:=rfl
def Me.cells(x:Me):Ab:=[Af x.model,.lst false 3 x.ans.length (C1 x.ans),.lst false 2 x.sts.length (Dq x.sts)]
def B5(l:List Me):Ab:=l.flatMap Me.cells
theorem Me.cells_len(x:Me):x.cells.length=3:=rfl
def Md.cells(m:Md):Ab:=[Au m.ver,Au m.iss,Au m.nxt,.lst false 3 m.ents.length (B5 m.ents),Au m.sig.leaf,.lst false 1 m.sig.chains.length (Ac .u64 m.sig.chains),.lst false 1 m.sig.path.length (Ac .u64 m.sig.path)]
theorem N5(l:List An):(C1 l).length=l.length*3:=Xw An.cells_len l
theorem Zh(l:List Sa):(Dq l).length=l.length*2:=Xw Sa.cells_len l
theorem Mo(l:List Me):(B5 l).length=l.length*3:=Xw Me.cells_len l
theorem saa{l:List Sa}{i:Nat}{s:Sa}(h:l[i]?=some s):(Dq l).getD (i*2) .top=Au s.kd/\(Dq l).getD (i*2+1) .top=Au s.at_:=
 ⟨H4 Sa.cells_len h (j:=0) (by omega),H4 Sa.cells_len h (j:=1) (by omega)⟩
theorem mea{l:List Me}{i:Nat}{x:Me}(h:l[i]?=some x):(B5 l).getD (i*3) .top=Af x.model/\(B5 l).getD (i*3+1) .top=.lst false 3 x.ans.length (C1 x.ans)/\(B5 l).getD (i*3+2) .top=.lst false 2 x.sts.length (Dq x.sts):=
 ⟨H4 Me.cells_len h (j:=0) (by omega),H4 Me.cells_len h (j:=1) (by omega),H4 Me.cells_len h (j:=2) (by omega)⟩
def F0(a:An):Int:=if a.name.size<1\/32<a.name.size then 9 else if okS a.name=false then 6 else if Dz a.key.h=true then 9 else 0
def Ds:List An->Int
 |[]=>0
 |a::r=>if F0 a≠0 then F0 a else Ds r
def Hk(p:Option Int)(s:Sa):Int:=if s.kd<1\/4<s.kd\/s.at_<0\/1099511627776<s.at_ then 9 else match p with|some q=>if s.at_<=q then 7 else 0|none=>0
def Ey:Option Int->List Sa->Int
 |_,[]=>0
 |p,s::r=>if Hk p s≠0 then Hk p s else Ey (some s.at_) r
def C4(x:Me):Int:=if 4<x.ans.length\/4<x.sts.length then 8 else if Ds x.ans≠0 then Ds x.ans else Ey none x.sts
def J8(p:Option Int)(x:Me):Int:=match p with|some q=>if x.model<=q then 7 else 0|none=>0
def Dk:Option Int->List Me->Int
 |_,[]=>0
 |p,x::r=>if J8 p x≠0 then J8 p x else if C4 x≠0 then C4 x else Dk (some x.model) r
def Br(m:Md):Int:=if m.ver<1\/16<m.ver then 9 else if m.iss<0\/m.nxt<m.iss\/1099511627776<m.nxt then 9 else if 16<m.ents.length then 8 else Dk none m.ents
def Ea(n:Int):It:=⟨5,n,Fw⟩
def D3(n:Int):It:=⟨1,n,Fw⟩
def SA(a:An):List (List It):=[[⟨4,0,a.name⟩],[⟨3,0,Bk (Ir a.key)⟩]]
def Cv(a:An):List It:=Ea 2::(SA a).flatten
def UN(s:Sa):List (List It):=[[D3 s.kd],[D3 s.at_]]
def Cq(s:Sa):List It:=Ea 2::(UN s).flatten
def Du(vs:List (List It)):List It:=Ea vs.length::vs.flatten
def U7(x:Me):List (List It):=[[D3 x.model],Du (x.ans.map Cv),Du (x.sts.map Cq)]
def A7(x:Me):List It:=Ea 3::(U7 x).flatten
def Nw(m:Md):List (List It):=[[D3 m.ver],[D3 m.iss],[D3 m.nxt],Du (m.ents.map A7)]
def A3(m:Md):List It:=Ea 4::(Nw m).flatten
theorem Adb(k:Ky):(Bk (Ir k)).size=9:=by rw[H1];rfl
theorem DJ:Fw.size=0:=rfl
def F2(l:List It):Prop:=∀x∈l,x.ok/\x.dat/\x.s.size<=32
theorem F2.app{a b:List It}(ha:F2 a)(hb:F2 b):F2 (a++b):=fun x hx=>(B4.1 hx).elim (ha x) (hb x)
theorem F2.cons{x:It}{l:List It}(h:x.ok/\x.dat/\x.s.size<=32)(hl:F2 l):F2 (x::l):=fun y hy=>by
 rcases B7.1 hy with rfl|hy
 ·exact h
 ·exact hl y hy
theorem F2.flat{α:Type}{f:α->List It}{l:List α}(h:∀x∈l,F2 (f x)):F2 (l.map f).flatten:=fun y hy=>by
 obtain⟨v,hv,hy⟩:=List.mem_flatten.1 hy;obtain⟨x,hx,rfl⟩:=List.mem_map.1 hv;exact h x hx y hy
theorem Zt{n:Int}(h:0<=n):(D3 n).ok/\(D3 n).dat/\(D3 n).s.size<=32:=⟨⟨by show (1:Int)<=1;omega,by show (1:Int)<=8;omega,h,by show Fw.size<=_;rw[DJ];omega⟩,.inr (.inr rfl),by show Fw.size<=32;rw[DJ];omega⟩
theorem Vh{n:Int}(h:0<=n):(Ea n).ok/\(Ea n).dat/\(Ea n).s.size<=32:=⟨⟨by show (1:Int)<=5;omega,by show (5:Int)<=8;omega,h,by show Fw.size<=_;rw[DJ];omega⟩,.inr (.inr rfl),by show Fw.size<=32;rw[DJ];omega⟩
theorem Jw{n:Int}(h:0<=n):OQ (D3 n):=⟨.inl rfl,by show Fw.size<=_;rw[DJ];omega,(fun e=>by cases e),(by unfold K7 D3;rfl),h⟩
theorem Adl{a:An}(h:F0 a=0):1<=a.name.size/\a.name.size<=32/\okS a.name=true/\Dz a.key.h=false:=by
 unfold F0 at h;split at h
 ·cases h
 ·split at h
  ·cases h
  ·split at h
   ·cases h
   ·rename_i h1 h2 h3;exact⟨by omega,by omega,by simpa using h2,by simpa using h3⟩
theorem Ake{a:An}(h:F0 a=0):Val 1 (Cv a)/\F2 (Cv a):=by
 obtain⟨h1,h2,h3,_⟩:=Adl h;have f1:OQ ⟨4,0,a.name⟩:=⟨.inr (.inr (.inr (.inl rfl))),by simp only;omega,fun _=>h3,by unfold K7;rfl,by simp⟩
 have f2:OQ ⟨3,0,Bk (Ir a.key)⟩:=⟨.inr (.inr (.inl rfl)),by simp only[Adb];omega,(fun e=>by cases e),by unfold K7;rfl,by simp⟩
 refine⟨Xf (k:=0) (vs:=SA a) (fun v hv=>?_) (by simp[SA]),fun x hx=>?_⟩
 ·simp only[SA,B7,Im,or_false] at hv;rcases hv with rfl|rfl
  ·exact Hu f1 0
  ·exact Hu f2 0
 ·simp only[Cv,SA,List.flatten_cons,List.flatten_nil,List.append_nil,B7,List.singleton_append,Im,or_false] at hx;rcases hx with rfl|rfl|rfl
  ·exact Vh (by omega)
  ·exact⟨f1.ok,.inr (.inl rfl),h2⟩
  ·exact⟨f2.ok,.inl rfl,by simp only[Adb];omega⟩
theorem Un:∀{l:List An},Ds l=0->∀a∈l,F0 a=0
 |[],_,a,ha=>by cases ha
 |b::r,h,a,ha=>by
  unfold Ds at h;by_cases h0:F0 b=0
  ·rw[A4 (by simp[h0])] at h;rcases B7.1 ha with rfl|ha
   ·exact h0
   ·exact Un h a ha
  ·rw[Bn h0] at h;exact absurd h h0
theorem Azd{p:Option Int}{s:Sa}(h:Hk p s=0):1<=s.kd/\s.kd<=4/\0<=s.at_/\s.at_<=1099511627776:=by
 unfold Hk at h;split at h
 ·cases h
 ·omega
theorem Zl:∀{p:Option Int}{l:List Sa},Ey p l=0->∀s∈l,1<=s.kd/\s.kd<=4/\0<=s.at_/\s.at_<=1099511627776
 |_,[],_,a,ha=>by cases ha
 |p,b::r,h,a,ha=>by
  unfold Ey at h;by_cases h0:Hk p b=0
  ·rw[A4 (by simp[h0])] at h;rcases B7.1 ha with rfl|ha
   ·exact Azd h0
   ·exact Zl h a ha
  ·rw[Bn h0] at h;exact absurd h h0
theorem Ak0{s:Sa}(h0:0<=s.kd)(h1:0<=s.at_):Val 1 (Cq s)/\F2 (Cq s):=by
 refine⟨Xf (k:=0) (vs:=UN s) (fun v hv=>?_) (by simp[UN]),?_⟩
 ·simp only[UN,B7,Im,or_false] at hv;rcases hv with rfl|rfl
  ·exact Hu (Jw h0) 0
  ·exact Hu (Jw h1) 0
 ·exact F2.cons (Vh (by omega)) (F2.cons (Zt h0) (F2.cons (Zt h1) (fun x hx=>by cases hx)))
theorem Q4(a:An):(Cv a).length=3:=rfl
theorem Yd(s:Sa):(Cq s).length=3:=rfl
theorem I2{α:Type}{f:α->List It}{k:Nat}(hf:∀x,(f x).length=k):∀l:List α,(l.map f).flatten.length=l.length*k
 |[]=>by simp
 |x::l=>by rw[Sn,List.flatten_cons,F9,hf x,I2 hf l,He,Nat.succ_mul];omega
theorem Ox{x:Me}(h:C4 x=0):x.ans.length<=4/\x.sts.length<=4/\Ds x.ans=0/\Ey none x.sts=0:=by
 unfold C4 at h;by_cases h0:4<x.ans.length\/4<x.sts.length
 ·rw[Bn h0] at h;cases h
 rw[A4 h0] at h;by_cases h1:Ds x.ans=0
 ·rw[A4 (by simp[h1])] at h;exact⟨by omega,by omega,h1,h⟩
 ·rw[Bn h1] at h;exact absurd h h1
theorem Add{l:List An}(hl:l.length<=4)(h:∀a∈l,F0 a=0):Val 2 (Du (l.map Cv))/\F2 (Du (l.map Cv)):=by
 refine⟨Xf (k:=1) (fun v hv=>?_) (by rw[List.length_map];omega),F2.cons (Vh (by omega)) (F2.flat fun a ha=>(Ake (h a ha)).2)⟩
 obtain⟨a,ha,rfl⟩:=List.mem_map.1 hv;exact (Ake (h a ha)).1
theorem Al6{l:List Sa}(hl:l.length<=4)(h:∀s∈l,0<=s.kd/\0<=s.at_):Val 2 (Du (l.map Cq))/\F2 (Du (l.map Cq)):=by
 refine⟨Xf (k:=1) (fun v hv=>?_) (by rw[List.length_map];omega),F2.cons (Vh (by omega)) (F2.flat fun s hs=>(Ak0 (h s hs).1 (h s hs).2).2)⟩
 obtain⟨s,hs,rfl⟩:=List.mem_map.1 hv;exact (Ak0 (h s hs).1 (h s hs).2).1
theorem W5{x:Me}(hm:0<=x.model)(h:C4 x=0):Val 3 (A7 x)/\F2 (A7 x)/\(A7 x).length<=28:=by
 obtain⟨h1,h2,h3,h4⟩:=Ox h;have va:=Add h1 (Un h3);have vs:=Al6 h2 (fun s hs=>by have:=Zl h4 s hs;exact⟨by omega,by omega⟩)
 refine⟨Xf (k:=2) (vs:=U7 x) (fun v hv=>?_) (by simp[U7]),?_,?_⟩
 ·simp only[U7,B7,Im,or_false] at hv;rcases hv with rfl|rfl|rfl
  ·exact Hu (Jw hm) 2
  ·exact va.1
  ·exact vs.1
 ·refine F2.cons (Vh (by omega)) ?_;simp only[U7,List.flatten_cons,List.flatten_nil,List.append_nil];exact F2.app (F2.cons (Zt hm) (fun x hx=>by cases hx)) (F2.app va.2 vs.2)
 ·simp only[A7,U7,Du,List.flatten_cons,List.flatten_nil,List.append_nil,He,F9,List.length_singleton,Ud,I2 Q4,I2 Yd];omega
theorem Mp:∀{p:Option Int}{l:List Me},Dk p l=0->∀x∈l,C4 x=0
 |_,[],_,a,ha=>by cases ha
 |p,b::r,h,a,ha=>by
  unfold Dk at h;by_cases h0:J8 p b=0
  rotate_left
  ·rw[Bn h0] at h;exact absurd h h0
  rw[A4 (by simp[h0])] at h;by_cases h1:C4 b=0
  ·rw[A4 (by simp[h1])] at h;rcases B7.1 ha with rfl|ha
   ·exact h1
   ·exact Mp h a ha
  ·rw[Bn h1] at h;exact absurd h h1
theorem Jm{m:Md}(h:Br m=0):1<=m.ver/\m.ver<=16/\0<=m.iss/\m.iss<=m.nxt/\m.nxt<=1099511627776/\m.ents.length<=16/\Dk none m.ents=0:=by
 unfold Br at h;split at h
 ·cases h
 ·split at h
  ·cases h
  ·split at h
   ·cases h
   ·exact⟨by omega,by omega,by omega,by omega,by omega,by omega,h⟩
theorem JB{α:Type}{f:α->List It}{k:Nat}:∀{l:List α},(∀x∈l,(f x).length<=k)->(l.map f).flatten.length<=l.length*k
 |[],_=>by simp
 |x::l,h=>by
  have h1:=h x (by simp);have h2:=JB (l:=l) (fun y hy=>h y (by simp[hy]));rw[Sn,List.flatten_cons,F9,He,Nat.succ_mul];omega
theorem Agi{l:List Me}(hl:l.length<=16)(h:∀x∈l,0<=x.model/\C4 x=0):Val 4 (Du (l.map A7))/\F2 (Du (l.map A7))/\(Du (l.map A7)).length<=449:=by
 refine⟨Xf (k:=3) (fun v hv=>?_) (by rw[List.length_map];omega),F2.cons (Vh (by omega)) (F2.flat fun x hx=>(W5 (h x hx).1 (h x hx).2).2.1),?_⟩
 ·obtain⟨x,hx,rfl⟩:=List.mem_map.1 hv;exact (W5 (h x hx).1 (h x hx).2).1
 ·have:=JB (f:=A7) (k:=28) (l:=l) (fun x hx=>(W5 (h x hx).1 (h x hx).2).2.2);unfold Du;rw[He];omega
structure Md.wf(m:Md):Prop where
 mod:∀x∈m.ents,0<=x.model
theorem Uz{m:Md}(hw:m.wf)(h:Br m=0):Val 5 (A3 m)/\F2 (A3 m)/\(A3 m).length<=453:=by
 obtain⟨h1,h2,h3,h4,h5,h6,h7⟩:=Jm h;obtain⟨v1,v2,v3⟩:=Agi h6 (fun x hx=>⟨hw.mod x hx,Mp h7 x hx⟩);refine⟨Xf (k:=4) (vs:=Nw m) (fun v hv=>?_) (by simp[Nw]),?_,?_⟩
 ·simp only[Nw,B7,Im,or_false] at hv;rcases hv with rfl|rfl|rfl|rfl
  ·exact Hu (Jw (by omega)) 4
  ·exact Hu (Jw (by omega)) 4
  ·exact Hu (Jw (by omega)) 4
  ·exact v1
 ·refine F2.cons (Vh (by omega)) ?_;simp only[Nw,List.flatten_cons,List.flatten_nil,List.append_nil];exact F2.app (F2.cons (Zt (by omega)) (fun x hx=>by cases hx)) (F2.app (F2.cons (Zt (by omega)) (fun x hx=>by cases hx)) (F2.app (F2.cons (Zt (by omega)) (fun x hx=>by cases hx)) v2))
 ·simp only[A3,Nw,List.flatten_cons,List.flatten_nil,List.append_nil,He,F9,List.length_singleton,Ud];omega
abbrev RS:=List It × Bool
def Bp(k:Int)(s:RS):It × RS:=if s.2=true then (it0,(s.1,true)) else match s.1 with|[]=>(it0,([],true))|x::r=>if x.k=k then (x,(r,false)) else (it0,(x::r,true))
def Fa(k:Int)(s:RS):It × RS:=match s.1 with|[]=>(it0,([],true))|x::r=>if x.k=k then (x,(r,s.2)) else (it0,(x::r,true))
def Afr(l:B8):Ky:=(IE l).getD ⟨0,0⟩
def SX(s:RS):An × RS:=
 (⟨(Bp 4 (Bp 5 s).2).1.s,Afr (Cy (Bp 3 (Bp 4 (Bp 5 s).2).2).1.s)⟩,((Bp 3 (Bp 4 (Bp 5 s).2).2).2.1,(Bp 3 (Bp 4 (Bp 5 s).2).2).2.2||(IE (Cy (Bp 3 (Bp 4 (Bp 5 s).2).2).1.s)).isNone))
def Ov:Nat->Int->RS->List An × RS
 |0,_,s=>([],s)
 |f+1,n,s=>if n>0/\s.2=false then ((SX s).1::(Ov f (n-1) (SX s).2).1,(Ov f (n-1) (SX s).2).2) else ([],s)
def XX(s:RS):Sa × RS:=(⟨wrap .i64 (Bp 1 (Bp 5 s).2).1.n,wrap .i64 (Bp 1 (Bp 1 (Bp 5 s).2).2).1.n⟩,(Bp 1 (Bp 1 (Bp 5 s).2).2).2)
def Sf:Nat->Int->RS->List Sa × RS
 |0,_,s=>([],s)
 |f+1,n,s=>if n>0/\s.2=false then ((XX s).1::(Sf f (n-1) (XX s).2).1,(Sf f (n-1) (XX s).2).2) else ([],s)
def JE(s:RS):It × RS:=Bp 5 (Bp 1 (Bp 5 s).2).2
def FY(s:RS):List An × RS:=Ov (s.1.length+2) (JE s).1.n (JE s).2
def GE(s:RS):It × RS:=Bp 5 (FY s).2
def Aia(s:RS):List Sa × RS:=Sf (s.1.length+2) (GE s).1.n (GE s).2
def Pq(s:RS):Me × RS:=(⟨(Bp 1 (Bp 5 s).2).1.n,(FY s).1,(Aia s).1⟩,(Aia s).2)
def Jd:Nat->Int->RS->List Me × RS
 |0,_,s=>([],s)
 |f+1,n,s=>if n>0/\s.2=false then ((Pq s).1::(Jd f (n-1) (Pq s).2).1,(Jd f (n-1) (Pq s).2).2) else ([],s)
def ID(l:List It):It × RS:=Bp 1 (Bp 5 (l,false)).2
def JK(l:List It):It × RS:=Bp 1 (ID l).2
def IW(l:List It):It × RS:=Bp 1 (JK l).2
def CI(l:List It):It × RS:=Bp 5 (IW l).2
def Ak8(l:List It):List Me × RS:=Jd (l.length+2) (CI l).1.n (CI l).2
def GG:Sg:=⟨0,[],[]⟩
def NH(l:List It):Md × Bool:=(⟨wrap .i64 (ID l).1.n,wrap .i64 (JK l).1.n,wrap .i64 (IW l).1.n,(Ak8 l).1,GG⟩,!(Ak8 l).2.2&&(((Ak8 l).2.1.length:Int)==0))
def Pb(lim:Int)(s:RS):Int × RS:=if (Fa 1 s).1.n>lim then (0,((Fa 1 s).2.1,true)) else (wrap .i64 (Fa 1 s).1.n,(Fa 1 s).2)
def D7(lim:Int)(s:RS):Int × RS:=if (Fa 5 s).1.n>lim then (0,((Fa 5 s).2.1,true)) else (wrap .i64 (Fa 5 s).1.n,(Fa 5 s).2)
def XZ(s:RS):An × RS:=
 (⟨(Fa 4 (D7 2 s).2).1.s,Afr (Cy (Fa 3 (Fa 4 (D7 2 s).2).2).1.s)⟩,((Fa 3 (Fa 4 (D7 2 s).2).2).2.1,(Fa 3 (Fa 4 (D7 2 s).2).2).2.2||(IE (Cy (Fa 3 (Fa 4 (D7 2 s).2).2).1.s)).isNone))
def M2:Nat->RS->List An × RS
 |0,s=>([],s)
 |n+1,s=>if s.2=false then ((XZ s).1::(M2 n (XZ s).2).1,(M2 n (XZ s).2).2) else ([],s)
def ZZ(s:RS):Sa × RS:=(⟨(Pb 4 (D7 2 s).2).1,(Pb 1099511627776 (Pb 4 (D7 2 s).2).2).1⟩,(Pb 1099511627776 (Pb 4 (D7 2 s).2).2).2)
def Ot:Nat->RS->List Sa × RS
 |0,s=>([],s)
 |n+1,s=>if s.2=false then ((ZZ s).1::(Ot n (ZZ s).2).1,(Ot n (ZZ s).2).2) else ([],s)
def Qh(s:RS):Int × RS:=D7 4 (Fa 1 (D7 3 s).2).2
def X7(s:RS):List An × RS:=M2 (Qh s).1.toNat (Qh s).2
def P3(s:RS):Int × RS:=D7 4 (X7 s).2
def Abo(s:RS):List Sa × RS:=Ot (P3 s).1.toNat (P3 s).2
def Sw(s:RS):Me × RS:=(⟨(Fa 1 (D7 3 s).2).1.n,(X7 s).1,(Abo s).1⟩,(Abo s).2)
def Jr:Nat->RS->List Me × RS
 |0,s=>([],s)
 |n+1,s=>if s.2=false then ((Sw s).1::(Jr n (Sw s).2).1,(Jr n (Sw s).2).2) else ([],s)
def Yn(l:List It):Int × RS:=Pb 16 (D7 4 (l,false)).2
def Y0(l:List It):Int × RS:=Pb 1099511627776 (Yn l).2
def Yr(l:List It):Int × RS:=Pb 1099511627776 (Y0 l).2
def Mq(l:List It):Int × RS:=D7 16 (Yr l).2
def Aay(l:List It):List Me × RS:=Jr (Mq l).1.toNat (Mq l).2
def Aek(l:List It):Md × Bool:=(⟨(Yn l).1,(Y0 l).1,(Yr l).1,(Aay l).1,GG⟩,!(Aay l).2.2)
theorem Gr{k:Int}{x:It}{r:List It}(h:x.k=k):Bp k (x::r,false)=(x,(r,false)):=by unfold Bp;rw[A4 (by simp)];simp only[h,if_true]
theorem Zf{k:Int}{x:It}{r:List It}(h:x.k=k):Fa k (x::r,false)=(x,(r,false)):=by unfold Fa;simp only[h,if_true]
theorem Rb{lim n:Int}{r:List It}(h0:0<=n)(h:n<=lim)(h1:lim<=1000):D7 lim (Ea n::r,false)=(n,(r,false)):=by have e:=Zf (k:=5) (x:=Ea n) (r:=r) rfl;unfold D7;rw[e];have e2:(Ea n).n=n:=rfl;simp only[e2];rw[A4 (by omega),Ag (by omega) (by omega)]
theorem DH{lim n:Int}{r:List It}(h0:0<=n)(h:n<=lim)(h1:lim<=1099511627776):Pb lim (D3 n::r,false)=(n,(r,false)):=by have e:=Zf (k:=1) (x:=D3 n) (r:=r) rfl;unfold Pb;rw[e];have e2:(D3 n).n=n:=rfl;simp only[e2];rw[A4 (by omega),Ag (by omega) (by omega)]
theorem Anm{a:An}(h:F0 a=0)(hr:Uf a.key.root):IE (Cy (Bk (Ir a.key)))=some a.key:=by rw[O9 A3a];exact Aol (Adl h).2.2.2 hr
theorem Azg{a:An}{r:List It}(h:F0 a=0)(hr:Uf a.key.root):SX (Cv a++r,false)=(a,(r,false)):=by have e1:Bp 5 (Cv a++r,false)=(Ea 2,((⟨4,0,a.name⟩:It)::⟨3,0,Bk (Ir a.key)⟩::r,false)):=Gr rfl;have e2:Bp 4 ((⟨4,0,a.name⟩:It)::⟨3,0,Bk (Ir a.key)⟩::r,false)=(⟨4,0,a.name⟩,(⟨3,0,Bk (Ir a.key)⟩::r,false)):=Gr rfl;have e3:Bp 3 ((⟨3,0,Bk (Ir a.key)⟩:It)::r,false)=(⟨3,0,Bk (Ir a.key)⟩,(r,false)):=Gr rfl;unfold SX Afr;rw[e1];simp only[e2,e3,Anm h hr];rfl
theorem Ay5{a:An}{r:List It}(h:F0 a=0)(hr:Uf a.key.root):XZ (Cv a++r,false)=(a,(r,false)):=by have e1:D7 2 (Cv a++r,false)=(2,((⟨4,0,a.name⟩:It)::⟨3,0,Bk (Ir a.key)⟩::r,false)):=Rb (by omega) (by omega) (by omega);have e2:Fa 4 ((⟨4,0,a.name⟩:It)::⟨3,0,Bk (Ir a.key)⟩::r,false)=(⟨4,0,a.name⟩,(⟨3,0,Bk (Ir a.key)⟩::r,false)):=Zf rfl;have e3:Fa 3 ((⟨3,0,Bk (Ir a.key)⟩:It)::r,false)=(⟨3,0,Bk (Ir a.key)⟩,(r,false)):=Zf rfl;unfold XZ Afr;rw[e1];simp only[e2,e3,Anm h hr];rfl
theorem Ag9{rest:List It}:∀(l:List An)(f:Nat),l.length<f->(∀a∈l,F0 a=0/\Uf a.key.root)->Ov f l.length ((l.map Cv).flatten++rest,false)=(l,(rest,false))
 |_,0,h,_=>by omega
 |[],f+1,_,_=>by
  unfold Ov;rw[A4 (by simp)];rfl
 |a::l,f+1,h,hk=>by
  simp only[He] at h;have ih:=Ag9 (rest:=rest) l f (by omega) (fun x hx=>hk x (by simp[hx]));have e:=Azg (a:=a) (r:=(l.map Cv).flatten++rest) (hk a (by simp)).1 (hk a (by simp)).2;rw[Sn,List.flatten_cons,FX];unfold Ov;rw[Bn ⟨by simp only[He];omega,rfl⟩,e]
  have el:(((a::l).length:Nat):Int)-1=(l.length:Int):=by simp only[He];omega
  rw[el];simp only[ih]
theorem Af9{rest:List It}:∀(l:List An),(∀a∈l,F0 a=0/\Uf a.key.root)->M2 l.length ((l.map Cv).flatten++rest,false)=(l,(rest,false))
 |[],_=>rfl
 |a::l,hk=>by
  have ih:=Af9 (rest:=rest) l (fun x hx=>hk x (by simp[hx]));have e:=Ay5 (a:=a) (r:=(l.map Cv).flatten++rest) (hk a (by simp)).1 (hk a (by simp)).2;rw[Sn,List.flatten_cons,FX];rw[show (a::l).length=l.length+1 from rfl,M2,Bn rfl,e];simp only[ih]
theorem Axz{s:Sa}{r:List It}(h:1<=s.kd/\s.kd<=4/\0<=s.at_/\s.at_<=1099511627776):XX (Cq s++r,false)=(s,(r,false)):=by have e1:Bp 5 (Cq s++r,false)=(Ea 2,(D3 s.kd::D3 s.at_::r,false)):=Gr rfl;have e2:Bp 1 (D3 s.kd::D3 s.at_::r,false)=(D3 s.kd,(D3 s.at_::r,false)):=Gr rfl;have e3:Bp 1 (D3 s.at_::r,false)=(D3 s.at_,(r,false)):=Gr rfl;have n1:(D3 s.kd).n=s.kd:=rfl;have n2:(D3 s.at_).n=s.at_:=rfl;unfold XX;rw[e1];simp only[e2,e3,n1,n2];rw[Ag (by omega) (by omega),Ag (by omega) (by omega)]
theorem Aw4{s:Sa}{r:List It}(h:1<=s.kd/\s.kd<=4/\0<=s.at_/\s.at_<=1099511627776):ZZ (Cq s++r,false)=(s,(r,false)):=by have e1:D7 2 (Cq s++r,false)=(2,(D3 s.kd::D3 s.at_::r,false)):=Rb (by omega) (by omega) (by omega);have e2:Pb 4 (D3 s.kd::D3 s.at_::r,false)=(s.kd,(D3 s.at_::r,false)):=DH (by omega) (by omega) (by omega);have e3:Pb 1099511627776 (D3 s.at_::r,false)=(s.at_,(r,false)):=DH (by omega) (by omega) (by omega);unfold ZZ;rw[e1];simp only[e2,e3]
theorem Aft{rest:List It}:∀(l:List Sa)(f:Nat),l.length<f->(∀s∈l,1<=s.kd/\s.kd<=4/\0<=s.at_/\s.at_<=1099511627776)->Sf f l.length ((l.map Cq).flatten++rest,false)=(l,(rest,false))
 |_,0,h,_=>by omega
 |[],f+1,_,_=>by
  unfold Sf;rw[A4 (by simp)];rfl
 |a::l,f+1,h,hk=>by
  simp only[He] at h;have ih:=Aft (rest:=rest) l f (by omega) (fun x hx=>hk x (by simp[hx]));have e:=Axz (s:=a) (r:=(l.map Cq).flatten++rest) (hk a (by simp));rw[Sn,List.flatten_cons,FX];unfold Sf;rw[Bn ⟨by simp only[He];omega,rfl⟩,e]
  have el:(((a::l).length:Nat):Int)-1=(l.length:Int):=by simp only[He];omega
  rw[el];simp only[ih]
theorem Afg{rest:List It}:∀(l:List Sa),(∀s∈l,1<=s.kd/\s.kd<=4/\0<=s.at_/\s.at_<=1099511627776)->Ot l.length ((l.map Cq).flatten++rest,false)=(l,(rest,false))
 |[],_=>rfl
 |a::l,hk=>by
  have ih:=Afg (rest:=rest) l (fun x hx=>hk x (by simp[hx]));have e:=Aw4 (s:=a) (r:=(l.map Cq).flatten++rest) (hk a (by simp));rw[Sn,List.flatten_cons,FX];rw[show (a::l).length=l.length+1 from rfl,Ot,Bn rfl,e];simp only[ih]
def Me.rts(x:Me):Prop:=∀a∈x.ans,Uf a.key.root
theorem FF(x:Me)(r:List It):A7 x++r=Ea 3::D3 x.model::Ea x.ans.length::((x.ans.map Cv).flatten++(Ea x.sts.length::((x.sts.map Cq).flatten++r))):=by unfold A7 U7 Du;simp only[List.flatten_cons,List.flatten_nil,List.append_nil,Zzp,UG,FX,List.length_map]
theorem As1{x:Me}{r:List It}(h:C4 x=0)(hr:x.rts):Pq (A7 x++r,false)=(x,(r,false)):=by
 obtain⟨h1,h2,h3,h4⟩:=Ox h;have e1:Bp 5 (A7 x++r,false)=(Ea 3,(D3 x.model::Ea x.ans.length::((x.ans.map Cv).flatten++(Ea x.sts.length::((x.sts.map Cq).flatten++r))),false)):=by rw[FF];exact Gr rfl
 have e2:Bp 1 (D3 x.model::Ea x.ans.length::((x.ans.map Cv).flatten++(Ea x.sts.length::((x.sts.map Cq).flatten++r))),false)=(D3 x.model,(Ea x.ans.length::((x.ans.map Cv).flatten++(Ea x.sts.length::((x.sts.map Cq).flatten++r))),false)):=Gr rfl
 have eA:JE (A7 x++r,false)=(Ea x.ans.length,((x.ans.map Cv).flatten++(Ea x.sts.length::((x.sts.map Cq).flatten++r)),false)):=by
  unfold JE;rw[e1];simp only[e2];exact Gr rfl
 have len:x.ans.length<(A7 x++r).length+2/\x.sts.length<(A7 x++r).length+2:=by
  rw[FF];simp only[He,F9,I2 Q4,I2 Yd];omega
 have eB:FY (A7 x++r,false)=(x.ans,(Ea x.sts.length::((x.sts.map Cq).flatten++r),false)):=by
  unfold FY;rw[eA];exact Ag9 x.ans _ len.1 (fun a ha=>⟨Un h3 a ha,hr a ha⟩)
 have eC:GE (A7 x++r,false)=(Ea x.sts.length,((x.sts.map Cq).flatten++r,false)):=by
  unfold GE;rw[eB];exact Gr rfl
 have eD:Aia (A7 x++r,false)=(x.sts,(r,false)):=by
  unfold Aia;rw[eC];exact Aft x.sts _ len.2 (Zl h4)
 unfold Pq;rw[eB,eD,e1];simp only[e2];rfl
theorem Avt{x:Me}{r:List It}(h:C4 x=0)(hr:x.rts):Sw (A7 x++r,false)=(x,(r,false)):=by
 obtain⟨h1,h2,h3,h4⟩:=Ox h;have e1:D7 3 (A7 x++r,false)=(3,(D3 x.model::Ea x.ans.length::((x.ans.map Cv).flatten++(Ea x.sts.length::((x.sts.map Cq).flatten++r))),false)):=by rw[FF];exact Rb (by omega) (by omega) (by omega)
 have e2:Fa 1 (D3 x.model::Ea x.ans.length::((x.ans.map Cv).flatten++(Ea x.sts.length::((x.sts.map Cq).flatten++r))),false)=(D3 x.model,(Ea x.ans.length::((x.ans.map Cv).flatten++(Ea x.sts.length::((x.sts.map Cq).flatten++r))),false)):=Zf rfl
 have eA:Qh (A7 x++r,false)=((x.ans.length:Int),((x.ans.map Cv).flatten++(Ea x.sts.length::((x.sts.map Cq).flatten++r)),false)):=by
  unfold Qh;rw[e1];simp only[e2];exact Rb (by omega) (by omega) (by omega)
 have eB:X7 (A7 x++r,false)=(x.ans,(Ea x.sts.length::((x.sts.map Cq).flatten++r),false)):=by
  unfold X7;rw[eA];simp only[H6];exact Af9 x.ans (fun a ha=>⟨Un h3 a ha,hr a ha⟩)
 have eC:P3 (A7 x++r,false)=((x.sts.length:Int),((x.sts.map Cq).flatten++r,false)):=by
  unfold P3;rw[eB];exact Rb (by omega) (by omega) (by omega)
 have eD:Abo (A7 x++r,false)=(x.sts,(r,false)):=by
  unfold Abo;rw[eC];simp only[H6];exact Afg x.sts (Zl h4)
 unfold Sw;rw[eB,eD,e1];simp only[e2];rfl
theorem Abw{rest:List It}:∀(l:List Me)(f:Nat),l.length<f->(∀x∈l,C4 x=0/\x.rts)->Jd f l.length ((l.map A7).flatten++rest,false)=(l,(rest,false))
 |_,0,h,_=>by omega
 |[],f+1,_,_=>by
  unfold Jd;rw[A4 (by simp)];rfl
 |a::l,f+1,h,hk=>by
  simp only[He] at h;have ih:=Abw (rest:=rest) l f (by omega) (fun x hx=>hk x (by simp[hx]));have e:=As1 (x:=a) (r:=(l.map A7).flatten++rest) (hk a (by simp)).1 (hk a (by simp)).2;rw[Sn,List.flatten_cons,FX];unfold Jd;rw[Bn ⟨by simp only[He];omega,rfl⟩,e]
  have el:(((a::l).length:Nat):Int)-1=(l.length:Int):=by simp only[He];omega
  rw[el];simp only[ih]
theorem Aac{rest:List It}:∀(l:List Me),(∀x∈l,C4 x=0/\x.rts)->Jr l.length ((l.map A7).flatten++rest,false)=(l,(rest,false))
 |[],_=>rfl
 |a::l,hk=>by
  have ih:=Aac (rest:=rest) l (fun x hx=>hk x (by simp[hx]));have e:=Avt (x:=a) (r:=(l.map A7).flatten++rest) (hk a (by simp)).1 (hk a (by simp)).2;rw[Sn,List.flatten_cons,FX];rw[show (a::l).length=l.length+1 from rfl,Jr,Bn rfl,e];simp only[ih]
theorem AD(m:Md):A3 m=Ea 4::D3 m.ver::D3 m.iss::D3 m.nxt::Ea m.ents.length::(m.ents.map A7).flatten:=by unfold A3 Nw Du;simp only[List.flatten_cons,List.flatten_nil,List.append_nil,Zzp,UG,List.length_map]
theorem Avx{l:List Me}:l.length<=(l.map A7).flatten.length:=by
 induction l with
 |nil=>simp
 |cons x l ih=>
  rw[Sn,List.flatten_cons,F9,He];have:1<=(A7 x).length:=by unfold A7;simp
  omega
theorem Avr{m:Md}(h:Br m=0)(hr:∀x∈m.ents,x.rts):NH (A3 m)=({ m with sig:=GG },true):=by
 obtain⟨h1,h2,h3,h4,h5,h6,h7⟩:=Jm h;have e1:Bp 5 (A3 m,false)=(Ea 4,(D3 m.ver::D3 m.iss::D3 m.nxt::Ea m.ents.length::(m.ents.map A7).flatten,false)):=by rw[AD];exact Gr rfl
 have eA:ID (A3 m)=(D3 m.ver,(D3 m.iss::D3 m.nxt::Ea m.ents.length::(m.ents.map A7).flatten,false)):=by unfold ID;rw[e1];exact Gr rfl
 have eB:JK (A3 m)=(D3 m.iss,(D3 m.nxt::Ea m.ents.length::(m.ents.map A7).flatten,false)):=by unfold JK;rw[eA];exact Gr rfl
 have eC:IW (A3 m)=(D3 m.nxt,(Ea m.ents.length::(m.ents.map A7).flatten,false)):=by unfold IW;rw[eB];exact Gr rfl
 have eD:CI (A3 m)=(Ea m.ents.length,((m.ents.map A7).flatten,false)):=by unfold CI;rw[eC];exact Gr rfl
 have eE:Ak8 (A3 m)=(m.ents,([],false)):=by
  unfold Ak8;rw[eD];have:=Abw (rest:=[]) m.ents ((A3 m).length+2) (by rw[AD];simp only[He];have:=Avx (l:=m.ents);omega) (fun x hx=>⟨Mp h7 x hx,hr x hx⟩)
  rw[List.append_nil] at this;exact this
 have n1:(D3 m.ver).n=m.ver:=rfl;have n2:(D3 m.iss).n=m.iss:=rfl;have n3:(D3 m.nxt).n=m.nxt:=rfl;unfold NH;rw[eA,eB,eC,eE];simp only[n1,n2,n3];rw[Ag (by omega) (by omega),Ag (by omega) (by omega),Ag (by omega) (by omega)];rfl
theorem Ash{m:Md}(h:Br m=0)(hr:∀x∈m.ents,x.rts):Aek (A3 m)=({ m with sig:=GG },true):=by
 obtain⟨h1,h2,h3,h4,h5,h6,h7⟩:=Jm h;have e1:D7 4 (A3 m,false)=(4,(D3 m.ver::D3 m.iss::D3 m.nxt::Ea m.ents.length::(m.ents.map A7).flatten,false)):=by rw[AD];exact Rb (by omega) (by omega) (by omega)
 have eA:Yn (A3 m)=(m.ver,(D3 m.iss::D3 m.nxt::Ea m.ents.length::(m.ents.map A7).flatten,false)):=by unfold Yn;rw[e1];exact DH (by omega) (by omega) (by omega)
 have eB:Y0 (A3 m)=(m.iss,(D3 m.nxt::Ea m.ents.length::(m.ents.map A7).flatten,false)):=by unfold Y0;rw[eA];exact DH (by omega) (by omega) (by omega)
 have eC:Yr (A3 m)=(m.nxt,(Ea m.ents.length::(m.ents.map A7).flatten,false)):=by unfold Yr;rw[eB];exact DH (by omega) (by omega) (by omega)
 have eD:Mq (A3 m)=((m.ents.length:Int),((m.ents.map A7).flatten,false)):=by unfold Mq;rw[eC];exact Rb (by omega) (by omega) (by omega)
 have eE:Aay (A3 m)=(m.ents,([],false)):=by
  unfold Aay;rw[eD];simp only[H6];have:=Aac (rest:=[]) m.ents (fun x hx=>⟨Mp h7 x hx,hr x hx⟩);rw[List.append_nil] at this;exact this
 unfold Aek;rw[eA,eB,eC,eE];rfl
def okA(a:An):Prop:=Uf a.key.root/\a.name.size<=1024
def okM(x:Me):Prop:=Uf x.model/\(∀a∈x.ans,okA a)/\x.ans.length<=1010/\x.sts.length<=1010
def Sc(l:List It):Prop:=∀x∈l,OkX x
theorem Agd:Uf it0.n:=⟨by decide,by decide⟩
theorem Agl:it0.s.size<=1024:=by decide
theorem D1{k:Int}{s:RS}(h:Sc s.1):Uf (Bp k s).1.n/\(Bp k s).1.s.size<=1024/\Sc (Bp k s).2.1/\(Bp k s).2.1.length<=s.1.length/\((Bp k s).2.2=false->s.2=false/\(Bp k s).2.1.length<s.1.length):=by
 obtain⟨l,b⟩:=s;unfold Bp;cases b
 ·rw[A4 (by simp)];cases l with
  |nil=>exact⟨Agd,Agl,h,Da _,fun e=>(by cases e)⟩
  |cons x r=>
   simp only;by_cases hk:x.k=k
   ·simp only[hk,if_true];have hx:=h x (by simp);exact⟨⟨hx.n0,hx.n1⟩,hx.s1,fun y hy=>h y (by simp[hy]),by simp,fun _=>⟨by trivial,by simp⟩⟩
   ·simp only[hk,if_false];exact⟨Agd,Agl,h,Da _,fun e=>(by cases e)⟩
 ·rw[Bn rfl];exact⟨Agd,Agl,h,Da _,fun e=>(by cases e)⟩
theorem R2{k:Int}{s:RS}(h:Sc s.1):Uf (Fa k s).1.n/\(Fa k s).1.s.size<=1024/\Sc (Fa k s).2.1/\(Fa k s).2.1.length<=s.1.length:=by
 obtain⟨l,b⟩:=s;unfold Fa;cases l with
 |nil=>exact⟨Agd,Agl,h,Da _⟩
 |cons x r=>
  simp only;by_cases hk:x.k=k
  ·simp only[hk,if_true];have hx:=h x (by simp);exact⟨⟨hx.n0,hx.n1⟩,hx.s1,fun y hy=>h y (by simp[hy]),by simp⟩
  ·simp only[hk,if_false];exact⟨Agd,Agl,h,Da _⟩
theorem Am4(l:B8):Uf (Afr l).root:=by
 unfold Afr;cases h:IE l with
 |none=>exact⟨by simp,by simp⟩
 |some k=>exact (Awr h).2
theorem Atj{s:RS}(h:Sc s.1):okA (SX s).1/\Sc (SX s).2.1/\(SX s).2.1.length<=s.1.length/\((SX s).2.2=false->(SX s).2.1.length<s.1.length):=by
 obtain⟨_,_,a3,a4,a5⟩:=D1 (k:=5) h;obtain⟨_,b2,b3,b4,b5⟩:=D1 (k:=4) a3;obtain⟨_,_,c3,c4,c5⟩:=D1 (k:=3) b3;unfold SX;refine⟨⟨Am4 _,b2⟩,c3,by simp only;omega,fun e=>?_⟩
 simp only[Bool.or_eq_false_iff] at e;have:=c5 e.1;simp only;omega
theorem Acg:∀{f:Nat}{n:Int}{s:RS},Sc s.1->(∀a∈(Ov f n s).1,okA a)/\(Ov f n s).1.length<=f/\Sc (Ov f n s).2.1/\(Ov f n s).2.1.length<=s.1.length
 |0,n,s,h=>⟨fun a ha=>(by cases ha),Da _,h,Da _⟩
 |f+1,n,s,h=>by
  obtain⟨a1,a2,a3,_⟩:=Atj h;obtain⟨b1,b2,b3,b4⟩:=Acg (f:=f) (n:=n-1) a2;unfold Ov;split
  ·refine⟨fun a ha=>?_,by simp only[He];omega,b3,by simp only;omega⟩
   rcases B7.1 ha with rfl|ha
   ·exact a1
   ·exact b1 a ha
  ·exact⟨fun a ha=>(by cases ha),Nat.zero_le _,h,Da _⟩
theorem Avi{s:RS}(h:Sc s.1):Sc (XX s).2.1/\(XX s).2.1.length<=s.1.length/\((XX s).2.2=false->(XX s).2.1.length<s.1.length):=by
 obtain⟨_,_,a3,a4,a5⟩:=D1 (k:=5) h;obtain⟨_,_,b3,b4,b5⟩:=D1 (k:=1) a3;obtain⟨_,_,c3,c4,c5⟩:=D1 (k:=1) b3;unfold XX;refine⟨c3,by simp only;omega,fun e=>?_⟩
 have:=c5 e;simp only;omega
theorem Ama:∀{f:Nat}{n:Int}{s:RS},Sc s.1->(Sf f n s).1.length<=f/\Sc (Sf f n s).2.1/\(Sf f n s).2.1.length<=s.1.length
 |0,n,s,h=>⟨Da _,h,Da _⟩
 |f+1,n,s,h=>by
  obtain⟨a2,a3,_⟩:=Avi h;obtain⟨b2,b3,b4⟩:=Ama (f:=f) (n:=n-1) a2;unfold Sf;split
  ·exact⟨by simp only[He];omega,b3,by simp only;omega⟩
  ·exact⟨Nat.zero_le _,h,Da _⟩
theorem Ada{s:RS}(h:Sc s.1)(hl:s.1.length<=1000):okM (Pq s).1/\Sc (Pq s).2.1/\(Pq s).2.1.length<=s.1.length/\((Bp 5 s).2.2=false->(Pq s).2.1.length<s.1.length):=by
 obtain⟨_,_,a3,a4,a5⟩:=D1 (k:=5) h;obtain⟨b1,_,b3,b4,b5⟩:=D1 (k:=1) a3;have hA:=D1 (k:=5) b3;have hB:=Acg (f:=s.1.length+2) (n:=(JE s).1.n) (s:=(JE s).2) hA.2.2.1;have hC:=D1 (k:=5) (s:=(FY s).2) hB.2.2.1;have hD:=Ama (f:=s.1.length+2) (n:=(GE s).1.n) (s:=(GE s).2) hC.2.2.1;have l1:(JE s).2.1.length<=(Bp 5 s).2.1.length:=Nat.le_trans hA.2.2.2.1 b4;have l2:(FY s).2.1.length<=(JE s).2.1.length:=hB.2.2.2;have l3:(GE s).2.1.length<=(FY s).2.1.length:=hC.2.2.2.1;have l4:(Aia s).2.1.length<=(GE s).2.1.length:=hD.2.2;have m1:(FY s).1.length<=s.1.length+2:=hB.2.1;have m2:(Aia s).1.length<=s.1.length+2:=hD.1;unfold Pq;refine⟨⟨b1,hB.1,by simp only;omega,by simp only;omega⟩,hD.2.1,by simp only;omega,fun e=>?_⟩
 have:=(a5 e).2;simp only;omega
theorem Att{s:RS}(h:Sc s.1)(hl:s.1.length<=1000):(Pq s).2.2=false->(Pq s).2.1.length<s.1.length:=by
 intro e;by_cases hf:(Bp 5 s).2.2=false
 ·exact (Ada h hl).2.2.2 hf
 ·exfalso;have hf:(Bp 5 s).2.2=true:=by simpa using hf
  have st:∀{k:Int} {q:RS},q.2=true->(Bp k q).2.2=true:=fun {k q} hq=>by unfold Bp;rw[Bn hq]
  have h1:(JE s).2.2=true:=st (st hf)
  have h2:(FY s).2.2=true:=by
   unfold FY Ov;rw[A4 (by simp[h1])];exact h1
  have h3:(GE s).2.2=true:=st h2
  have h4:(Aia s).2.2=true:=by
   unfold Aia Sf;rw[A4 (by simp[h3])];exact h3
  have:(Pq s).2.2=true:=h4;rw[this] at e;cases e
theorem Af4:∀{f:Nat}{n:Int}{s:RS},Sc s.1->s.1.length<=1000->(∀x∈(Jd f n s).1,okM x)/\(Jd f n s).1.length<=f/\Sc (Jd f n s).2.1/\(Jd f n s).2.1.length<=s.1.length
 |0,n,s,h,_=>⟨fun a ha=>(by cases ha),Da _,h,Da _⟩
 |f+1,n,s,h,hl=>by
  obtain⟨a1,a2,a3,_⟩:=Ada h hl;obtain⟨b1,b2,b3,b4⟩:=Af4 (f:=f) (n:=n-1) a2 (by omega);unfold Jd;split
  ·refine⟨fun a ha=>?_,by simp only[He];omega,b3,by simp only;omega⟩
   rcases B7.1 ha with rfl|ha
   ·exact a1
   ·exact b1 a ha
  ·exact⟨fun a ha=>(by cases ha),Nat.zero_le _,h,Da _⟩
theorem Ac1{l:List It}(h:Sc l)(hl:l.length<=1000):(∀x∈(NH l).1.ents,okM x)/\(NH l).1.ents.length<=1010/\Sc (ID l).2.1/\(ID l).2.1.length<=1000/\Sc (JK l).2.1/\(JK l).2.1.length<=1000/\Sc (IW l).2.1/\(IW l).2.1.length<=1000/\Sc (CI l).2.1/\(CI l).2.1.length<=l.length:=by have h0:=D1 (k:=5) (s:=(l,false)) h;have hA:=D1 (k:=1) h0.2.2.1;have hB:=D1 (k:=1) (s:=(ID l).2) hA.2.2.1;have hC:=D1 (k:=1) (s:=(JK l).2) hB.2.2.1;have hD:=D1 (k:=5) (s:=(IW l).2) hC.2.2.1;have l0:(Bp 5 ((l,false):RS)).2.1.length<=l.length:=h0.2.2.2.1;have l1:(ID l).2.1.length<=(Bp 5 ((l,false):RS)).2.1.length:=hA.2.2.2.1;have l2:(JK l).2.1.length<=(ID l).2.1.length:=hB.2.2.2.1;have l3:(IW l).2.1.length<=(JK l).2.1.length:=hC.2.2.2.1;have l4:(CI l).2.1.length<=(IW l).2.1.length:=hD.2.2.2.1;have hE:=Af4 (f:=l.length+2) (n:=(CI l).1.n) (s:=(CI l).2) hD.2.2.1 (by omega);exact⟨hE.1,by have:(Ak8 l).1.length<=l.length+2:=hE.2.1;show (Ak8 l).1.length<=_;omega,hA.2.2.1,by omega,hB.2.2.1,by omega,hC.2.2.1,by omega,hD.2.2.1,by omega⟩
theorem KJ{lim:Int}{s:RS}(h:Sc s.1)(h0:0<=lim)(h1:lim<=1099511627776):0<=(Pb lim s).1/\(Pb lim s).1<=lim/\Sc (Pb lim s).2.1/\(Pb lim s).2.1.length<=s.1.length:=by
 obtain⟨a1,_,a3,a4⟩:=R2 (k:=1) h;unfold Pb;split
 ·exact⟨Int.le_refl _,h0,a3,a4⟩
 ·have:=a1.1;simp only;rw[Ag (by omega) (by omega)];exact⟨a1.1,by omega,a3,a4⟩
theorem Mb{lim:Int}{s:RS}(h:Sc s.1)(h0:0<=lim)(h1:lim<=1000):0<=(D7 lim s).1/\(D7 lim s).1<=lim/\Sc (D7 lim s).2.1/\(D7 lim s).2.1.length<=s.1.length:=by
 obtain⟨a1,_,a3,a4⟩:=R2 (k:=5) h;unfold D7;split
 ·exact⟨Int.le_refl _,h0,a3,a4⟩
 ·have:=a1.1;simp only;rw[Ag (by omega) (by omega)];exact⟨a1.1,by omega,a3,a4⟩
theorem Au8{s:RS}(h:Sc s.1):okA (XZ s).1/\Sc (XZ s).2.1/\(XZ s).2.1.length<=s.1.length:=by obtain⟨_,_,a3,a4⟩:=Mb (lim:=2) h (by omega) (by omega);obtain⟨_,b2,b3,b4⟩:=R2 (k:=4) a3;obtain⟨_,_,c3,c4⟩:=R2 (k:=3) b3;unfold XZ;exact⟨⟨Am4 _,b2⟩,c3,by simp only;omega⟩
theorem Adt:∀{n:Nat}{s:RS},Sc s.1->(∀a∈(M2 n s).1,okA a)/\(M2 n s).1.length<=n/\Sc (M2 n s).2.1/\(M2 n s).2.1.length<=s.1.length
 |0,s,h=>⟨fun a ha=>(by cases ha),Da _,h,Da _⟩
 |n+1,s,h=>by
  obtain⟨a1,a2,a3⟩:=Au8 h;obtain⟨b1,b2,b3,b4⟩:=Adt (n:=n) a2;unfold M2;split
  ·refine⟨fun a ha=>?_,by simp only[He];omega,b3,by simp only;omega⟩
   rcases B7.1 ha with rfl|ha
   ·exact a1
   ·exact b1 a ha
  ·exact⟨fun a ha=>(by cases ha),Nat.zero_le _,h,Da _⟩
theorem A1r{s:RS}(h:Sc s.1):Sc (ZZ s).2.1/\(ZZ s).2.1.length<=s.1.length:=by obtain⟨_,_,a3,a4⟩:=Mb (lim:=2) h (by omega) (by omega);obtain⟨_,_,b3,b4⟩:=KJ (lim:=4) a3 (by omega) (by omega);obtain⟨_,_,c3,c4⟩:=KJ (lim:=1099511627776) b3 (by omega) (by omega);unfold ZZ;exact⟨c3,by simp only;omega⟩
theorem Amd:∀{n:Nat}{s:RS},Sc s.1->(Ot n s).1.length<=n/\Sc (Ot n s).2.1/\(Ot n s).2.1.length<=s.1.length
 |0,s,h=>⟨Da _,h,Da _⟩
 |n+1,s,h=>by
  obtain⟨a2,a3⟩:=A1r h;obtain⟨b2,b3,b4⟩:=Amd (n:=n) a2;unfold Ot;split
  ·exact⟨by simp only[He];omega,b3,by simp only;omega⟩
  ·exact⟨Nat.zero_le _,h,Da _⟩
theorem Amt{s:RS}(h:Sc s.1):okM (Sw s).1/\Sc (Sw s).2.1/\(Sw s).2.1.length<=s.1.length:=by obtain⟨_,_,a3,a4⟩:=Mb (lim:=3) h (by omega) (by omega);obtain⟨b1,_,b3,b4⟩:=R2 (k:=1) a3;have hA:=Mb (lim:=4) b3 (by omega) (by omega);have hB:=Adt (n:=(Qh s).1.toNat) (s:=(Qh s).2) hA.2.2.1;have hC:=Mb (lim:=4) (s:=(X7 s).2) hB.2.2.1 (by omega) (by omega);have hD:=Amd (n:=(P3 s).1.toNat) (s:=(P3 s).2) hC.2.2.1;have l1:(Qh s).2.1.length<=(Fa 1 (D7 3 s).2).2.1.length:=hA.2.2.2;have l2:(X7 s).2.1.length<=(Qh s).2.1.length:=hB.2.2.2;have l3:(P3 s).2.1.length<=(X7 s).2.1.length:=hC.2.2.2;have l4:(Abo s).2.1.length<=(P3 s).2.1.length:=hD.2.2;have m1:(X7 s).1.length<=(Qh s).1.toNat:=hB.2.1;have m2:(Abo s).1.length<=(P3 s).1.toNat:=hD.1;have n1:(Qh s).1<=4:=hA.2.1;have n2:(P3 s).1<=4:=hC.2.1;unfold Sw;exact⟨⟨b1,hB.1,by simp only;omega,by simp only;omega⟩,hD.2.1,by simp only;omega⟩
theorem Ae3:∀{n:Nat}{s:RS},Sc s.1->(∀x∈(Jr n s).1,okM x)/\(Jr n s).1.length<=n/\Sc (Jr n s).2.1/\(Jr n s).2.1.length<=s.1.length
 |0,s,h=>⟨fun a ha=>(by cases ha),Da _,h,Da _⟩
 |n+1,s,h=>by
  obtain⟨a1,a2,a3⟩:=Amt h;obtain⟨b1,b2,b3,b4⟩:=Ae3 (n:=n) a2;unfold Jr;split
  ·refine⟨fun a ha=>?_,by simp only[He];omega,b3,by simp only;omega⟩
   rcases B7.1 ha with rfl|ha
   ·exact a1
   ·exact b1 a ha
  ·exact⟨fun a ha=>(by cases ha),Nat.zero_le _,h,Da _⟩
theorem Al1{l:List It}(h:Sc l):(∀x∈(Aek l).1.ents,okM x)/\(Aek l).1.ents.length<=16/\Sc (Mq l).2.1/\(Mq l).2.1.length<=l.length/\0<=(Mq l).1/\(Mq l).1<=16:=by
 have h0:=Mb (lim:=4) (s:=(l,false)) h (by omega) (by omega);have hA:=KJ (lim:=16) h0.2.2.1 (by omega) (by omega);have hB:=KJ (lim:=1099511627776) (s:=(Yn l).2) hA.2.2.1 (by omega) (by omega);have hC:=KJ (lim:=1099511627776) (s:=(Y0 l).2) hB.2.2.1 (by omega) (by omega);have hD:=Mb (lim:=16) (s:=(Yr l).2) hC.2.2.1 (by omega) (by omega);have l0:(D7 4 ((l,false):RS)).2.1.length<=l.length:=h0.2.2.2;have l1:(Yn l).2.1.length<=(D7 4 ((l,false):RS)).2.1.length:=hA.2.2.2;have l2:(Y0 l).2.1.length<=(Yn l).2.1.length:=hB.2.2.2;have l3:(Yr l).2.1.length<=(Y0 l).2.1.length:=hC.2.2.2;have l4:(Mq l).2.1.length<=(Yr l).2.1.length:=hD.2.2.2;have hE:=Ae3 (n:=(Mq l).1.toNat) (s:=(Mq l).2) hD.2.2.1;have n1:(Mq l).1<=16:=hD.2.1
 exact⟨hE.1,by have:(Aay l).1.length<=(Mq l).1.toNat:=hE.2.1;show (Aay l).1.length<=_;omega,hD.2.2.1,by omega,hD.1,n1⟩
section
variable {xs:FuncId->Option (Ab->Option Dt)}(fu d:Nat)(call:Bq)
theorem AR(Z:ByteArray)(Y X:Int):Fm C0 fu d 104 [.agg [.sc (.string Z),Y,Af X]] fun call=>Az (decide ((↑(ByteArray.size Z):Int)<1)) (Bu [.own 3 0 [],(9:Int)]) (Az (decide ((↑(ByteArray.size Z):Int)>32)) (Bu [.own 3 0 [],(9:Int)]) (Dj (call 126 [.sc (.string Z)]) fun a b=>Cg a fun a=>Ar b<|Az (!a) (Bu [.own 3 0 [],(6:Int)]) (Dj (call 129 [.agg [Y,Af X]]) fun a b=>J0 1 a fun a c=>Dc .i64 b fun b=>Az (b != 0) (Bu [.own 3 0 [],b]) (Dj (call 130 [.sc (.string Z)]) fun b e=>J0 3 b fun b f=>Ar e<|As (decide (0+a*1<=c.length))<|Dj (call 131 [Am 1 a (List.take (a*1) (c.drop 0))]) fun a c=>J0 3 a fun a e=>Ar c<|As (decide (0+b*3<=f.length))<|As (decide (0+a*3<=e.length))<|Dj (call 63 [Am 1 2 [Am 3 b (List.take (b*3) (f.drop 0)),Am 3 a (List.take (a*3) (e.drop 0))]]) fun a b=>J0 3 a fun a c=>Dc .i64 b fun b=>As (decide (a*3<=c.length))<|Bu [.own 3 a (c.take (a*3)),b])))):=by show _=_;kernel_rfl
def Hy(Z:Int)(Y:Nat)(X:Ab)(W:Nat)(V:Ab)(U T S:Nat)(Q:Ab)(P O N:Int)(M:Nat)(L:Ab)(K:Nat)(J I:Ab):Option Dt:=K0 fu call 62 Tryz.f62 [.agg [Af Z,Am 3 Y X,Am 2 W V]] [.r,.r,.r,.l,.r,.l] U ⟨lk [(1,.ptr 1 0),(4,.view 4 1 0 T),(27,Am 3 S Q),(28,P),(29,O)],B3 [(1,.st [Af N,Am 3 M L,Am 2 K J]),(4,.ar false I)]⟩
def F5(Z:Int)(Y:Nat)(X:Ab)(W:Nat)(V:Ab)(U T:Nat)(S Q:Nat)(P:Ab)(O N M:Int)(L:Nat)(K:Ab)(J:Nat)(I H G:Ab):Option Dt:=K0 fu call 62 Tryz.f62 [.agg [Af Z,Am 3 Y X,Am 2 W V]] [.r,.r,.r,.r,.r,.r,.r,.l,.r,.l] U ⟨lk [(1,.ptr 1 0),(4,.view 4 1 0 T),(9,.view 9 3 0 S),(55,Am 2 Q P),(56,O),(57,N)],B3 [(1,.st [Af M,Am 3 L K,Am 2 J I]),(4,.ar false H),(9,.ar false G)]⟩
def Pe(Z:Int)(Y:Nat)(X:Ab)(W:Nat)(V:Ab)(U T:Nat)(S Q:Nat)(P:Int)(O:Nat)(N:Ab)(M L K:Int)(J:Nat)(I:Ab)(H:Nat)(G E D:Ab)(B A:Int):Option Dt:=K0 fu call 62 Tryz.f62 [.agg [Af Z,Am 3 Y X,Am 2 W V]] [.r,.r,.r,.r,.r,.r,.r,.l,.r,.l,.i U,.r,.r,.l,.l,.r] T ⟨lk [(1,.ptr 1 0),(4,.view 4 1 0 S),(9,.view 9 3 0 Q),(11,P),(12,.ptr 12 0),(55,Am 2 O N),(56,M),(57,L)],B3 [(1,.st [Af K,Am 3 J I,Am 2 H G]),(4,.ar false E),(9,.ar false D),(12,.st [B,A])]⟩
theorem Ja(T:Int)(S:Nat)(Q:Ab)(P:Nat)(O:Ab)(I Y N:Nat)(X:Ab)(M Z L:Int)(K:Nat)(J:Ab)(W:Nat)(V U:Ab):Hy fu call T S Q P O (I+1) Y N X M Z L K J W V U=(Az (decide (Z<M)) (As (decide (0<=Z)&&decide (Z<(↑N:Int)))<|Ec (X.getD (Z.toNat*3) .top) fun a=>Be .i64 (X.getD (Z.toNat*3+1) .top) fun b=>Be .u64 (X.getD (Z.toNat*3+1+1) .top) fun c=>Dj (call 104 [.agg [.sc (.string a),b,Af c]]) fun a b=>J0 3 a fun a c=>Dc .i64 b fun b=>Az (b != 0) (Bu [.own 3 0 [],b]) (As (decide (0+a*3<=c.length))<|On Y 1 24 U [Am 3 a (List.take (a*3) (c.drop 0))] fun a b=>Aa (wrap .i64 (Z+1)) fun c=>Hy fu call T S Q P O I a N X M c L K J W V b)) (As (decide (0+Y*1<=U.length))<|Dj (call 63 [Am 1 Y (List.take (Y*1) (U.drop 0))]) fun a b=>J0 3 a fun a c=>Dc .i64 b fun b=>Az (b != 0) (Bu [.own 3 0 [],b]) (F5 fu call T S Q P O fu 0 a W V (↑W:Int) 0 L K J W V ([]) c))):=by kernel_rfl
theorem Es(P:Int)(O:Nat)(N:Ab)(M:Nat)(L:Ab)(K Y:Nat)(X T:Nat)(W:Ab)(S Z Q:Int)(J:Nat)(I:Ab)(H:Nat)(G V U:Ab):F5 fu call P O N M L (K+1) Y X T W S Z Q J I H G V U=(Az (decide (Z<S)) (As (decide (0<=Z)&&decide (Z<(↑T:Int)))<|Be .i64 (W.getD (Z.toNat*2) .top) fun a=>Be .i64 (W.getD (Z.toNat*2+1) .top) fun b=>Az (decide (a<1)) (Bu [.own 3 0 [],(9:Int)]) (Az (decide (a>4)) (Bu [.own 3 0 [],(9:Int)]) (Az (decide (b<0)) (Bu [.own 3 0 [],(9:Int)]) (Az (decide (b>1099511627776)) (Bu [.own 3 0 [],(9:Int)]) (Pe fu call P O N M L K fu Y X Z T W S Z Q J I H G V U a b))))) (As (decide (0+Y*1<=V.length))<|Dj (call 63 [Am 1 Y (List.take (Y*1) (V.drop 0))]) fun a b=>J0 3 a fun a c=>Dc .i64 b fun b=>Az (b != 0) (Bu [.own 3 0 [],b]) (Dj (call 64 [Af Q]) fun b e=>J0 3 b fun b f=>Ar e<|As (decide (0+b*3<=f.length))<|As (decide (0+X*3<=U.length))<|As (decide (0+a*3<=c.length))<|Dj (call 63 [Am 1 3 [Am 3 b (List.take (b*3) (f.drop 0)),Am 3 X (List.take (X*3) (U.drop 0)),Am 3 a (List.take (a*3) (c.drop 0))]]) fun a b=>J0 3 a fun a c=>Dc .i64 b fun b=>As (decide (a*3<=c.length))<|Bu [.own 3 a (c.take (a*3)),b]))):=by kernel_rfl
theorem I9(V:Int)(U:Nat)(T:Ab)(S:Nat)(Q:Ab)(P Z:Nat)(M6:0<Z)(O N:Nat)(M:Int)(L:Nat)(K:Ab)(J I H:Int)(G:Nat)(E:Ab)(Y:Nat)(X D B:Ab)(A W:Int):Pe fu call V U T S Q P Z O N M L K J I H G E Y X D B A W=(Az (decide (M>0)) (Aa (wrap .i64 (M-1)) fun a=>As (decide (0<=a)&&decide (a<(↑Y:Int)))<|Be .i64 (X.getD (a.toNat*2+1) .top) fun a=>Az (decide (W<=a)) (Bu [.own 3 0 [],(7:Int)]) (Aa (wrap .u64 A) fun a=>Dj (call 64 [Af a]) fun a b=>J0 3 a fun a c=>Ar b<|Aa (wrap .u64 W) fun b=>Dj (call 64 [Af b]) fun b e=>J0 3 b fun b f=>Ar e<|As (decide (0+a*3<=c.length))<|As (decide (0+b*3<=f.length))<|Dj (call 63 [Am 1 2 [Am 3 a (List.take (a*3) (c.drop 0)),Am 3 b (List.take (b*3) (f.drop 0))]]) fun a b=>J0 3 a fun a c=>Dc .i64 b fun b=>Az (b != 0) (Bu [.own 3 0 [],b]) (As (decide (0+a*3<=c.length))<|On O 1 24 D [Am 3 a (List.take (a*3) (c.drop 0))] fun a b=>Aa (wrap .i64 (I+1)) fun c=>F5 fu call V U T S Q P a N L K J c H G E Y X b B))) (Aa (wrap .u64 A) fun a=>Dj (call 64 [Af a]) fun a b=>J0 3 a fun a c=>Ar b<|Aa (wrap .u64 W) fun b=>Dj (call 64 [Af b]) fun b e=>J0 3 b fun b f=>Ar e<|As (decide (0+a*3<=c.length))<|As (decide (0+b*3<=f.length))<|Dj (call 63 [Am 1 2 [Am 3 a (List.take (a*3) (c.drop 0)),Am 3 b (List.take (b*3) (f.drop 0))]]) fun a b=>J0 3 a fun a c=>Dc .i64 b fun b=>Az (b != 0) (Bu [.own 3 0 [],b]) (As (decide (0+a*3<=c.length))<|On O 1 24 D [Am 3 a (List.take (a*3) (c.drop 0))] fun a b=>Aa (wrap .i64 (I+1)) fun c=>F5 fu call V U T S Q P a N L K J c H G E Y X b B))):=by cases Z with|zero=>exact absurd M6 (Nat.lt_irrefl 0)|succ Z=>kernel_rfl
theorem CJ(W:Int)(Z:Nat)(Y:Ab)(X:Nat)(V:Ab):Fm C0 fu d 62 [.agg [Af W,Am 3 Z Y,Am 2 X V]] fun call=>Az (decide ((↑Z:Int)>4)) (Bu [.own 3 0 [],(8:Int)]) (Az (decide ((↑X:Int)>4)) (Bu [.own 3 0 [],(8:Int)]) (Hy fu call W Z Y X V fu 0 Z Y (↑Z:Int) 0 W Z Y X V ([]))):=by show _=_;kernel_rfl
def Jl(Z Y X:Int)(W:Nat)(V:Ab)(U:Int)(T:Nat)(S:Ab)(Q:Nat)(P:Ab)(O N M:Nat)(L:Ab)(K J:Int)(I H G:Int)(E:Nat)(D:Ab)(B:Int)(A:Nat)(z:Ab)(w:Nat)(v u:Ab):Option Dt:=K0 fu call 34 Tryz.f34 [.agg [Z,Y,X,Am 3 W V,U,Am 1 T S,Am 1 Q P]] [.r,.r,.r,.r,.r,.l,.r,.l] O ⟨lk [(1,.ptr 1 0),(4,.view 4 1 0 N),(40,Am 3 M L),(41,K),(42,J)],B3 [(1,.st [I,H,G,Am 3 E D,B,Am 1 A z,Am 1 w v]),(4,.ar false u)]⟩
theorem V1(N M L:Int)(K:Nat)(J:Ab)(I:Int)(H:Nat)(G:Ab)(E:Nat)(D:Ab)(B Y V:Nat)(X:Ab)(U Z:Int)(T S Q:Int)(P:Nat)(O:Ab)(A:Int)(z:Nat)(w:Ab)(v:Nat)(u W:Ab):Jl fu call N M L K J I H G E D (B+1) Y V X U Z T S Q P O A z w v u W=(Az (decide (Z<U)) (As (decide (0<=Z)&&decide (Z<(↑V:Int)))<|Be .u64 (X.getD (Z.toNat*3) .top) fun a=>Ow 3 (X.getD (Z.toNat*3+1) .top) fun b c e=>Ow 2 (X.getD (Z.toNat*3+1+1) .top) fun b f g=>Az (decide (Z>0)) (Aa (wrap .i64 (Z-1)) fun b=>As (decide (0<=b)&&decide (b<(↑P:Int)))<|Be .u64 (O.getD (b.toNat*3+0) .top) fun b=>Az (decide (a<=b)) (Bu [.own 1 0 [],(7:Int)]) (Dj (call 62 [.agg [Af a,Am 3 c e,Am 2 f g]]) fun a b=>J0 3 a fun a c=>Dc .i64 b fun b=>Az (b != 0) (Bu [.own 1 0 [],b]) (As (decide (0+a*3<=c.length))<|On Y 1 24 W [Am 3 a (List.take (a*3) (c.drop 0))] fun a b=>Aa (wrap .i64 (Z+1)) fun c=>Jl fu call N M L K J I H G E D B a V X U c T S Q P O A z w v u b))) (Dj (call 62 [.agg [Af a,Am 3 c e,Am 2 f g]]) fun a b=>J0 3 a fun a c=>Dc .i64 b fun b=>Az (b != 0) (Bu [.own 1 0 [],b]) (As (decide (0+a*3<=c.length))<|On Y 1 24 W [Am 3 a (List.take (a*3) (c.drop 0))] fun a b=>Aa (wrap .i64 (Z+1)) fun c=>Jl fu call N M L K J I H G E D B a V X U c T S Q P O A z w v u b))) (As (decide (0+Y*1<=W.length))<|Dj (call 63 [Am 1 Y (List.take (Y*1) (W.drop 0))]) fun a b=>J0 3 a fun a c=>Dc .i64 b fun b=>Az (b != 0) (Bu [.own 1 0 [],b]) (Aa (wrap .u64 T) fun b=>Dj (call 64 [Af b]) fun b e=>J0 3 b fun b f=>Ar e<|Aa (wrap .u64 S) fun e=>Dj (call 64 [Af e]) fun e g=>J0 3 e fun e h=>Ar g<|Aa (wrap .u64 Q) fun g=>Dj (call 64 [Af g]) fun g i=>J0 3 g fun g j=>Ar i<|As (decide (0+b*3<=f.length))<|As (decide (0+e*3<=h.length))<|As (decide (0+g*3<=j.length))<|As (decide (0+a*3<=c.length))<|Dj (call 63 [Am 1 4 [Am 3 b (List.take (b*3) (f.drop 0)),Am 3 e (List.take (e*3) (h.drop 0)),Am 3 g (List.take (g*3) (j.drop 0)),Am 3 a (List.take (a*3) (c.drop 0))]]) fun a b=>J0 3 a fun a c=>Dc .i64 b fun b=>Az (b != 0) (Bu [.own 1 0 [],b]) (As (decide (0+a*3<=c.length))<|Dj (call 65 [Am 3 a (List.take (a*3) (c.drop 0))]) fun a b=>J0 1 a fun a c=>Dc .i64 b fun b=>As (decide (a*1<=c.length))<|Bu [.own 1 a (c.take (a*1)),b])))):=by kernel_rfl
theorem RY(Y X W:Int)(Z:Nat)(V:Ab)(U:Int)(T:Nat)(S:Ab)(Q:Nat)(P:Ab):Fm C0 fu d 34 [.agg [Y,X,W,Am 3 Z V,U,Am 1 T S,Am 1 Q P]] fun call=>Az (decide (Y<1)) (Bu [.own 1 0 [],(9:Int)]) (Az (decide (Y>16)) (Bu [.own 1 0 [],(9:Int)]) (Az (decide (X<0)) (Bu [.own 1 0 [],(9:Int)]) (Az (decide (X>W)) (Bu [.own 1 0 [],(9:Int)]) (Az (decide (W>1099511627776)) (Bu [.own 1 0 [],(9:Int)]) (Az (decide ((↑Z:Int)>16)) (Bu [.own 1 0 [],(8:Int)]) (Jl fu call Y X W Z V U T S Q P fu 0 Z V (↑Z:Int) 0 Y X W Z V U T S Q P ([]))))))):=by show _=_;kernel_rfl
theorem RZ(Z Y X:Int)(W:Nat)(V:Ab)(U:Int)(T:Nat)(S:Ab)(Q:Nat)(P:Ab):Fm C0 fu d 35 [.agg [Z,Y,X,Am 3 W V,U,Am 1 T S,Am 1 Q P]] fun call=>Dj (call 34 [.agg [Z,Y,X,Am 3 W V,U,Am 1 T S,Am 1 Q P]]) fun a b=>J0 1 a fun a c=>Dc .i64 b fun b=>Az (b != 0) (Bu [Af 0,b]) (As (decide (0+a*1<=c.length))<|Lj .u64 (call 66 [(15:Int),Am 1 a (List.take (a*1) (c.drop 0))]) fun a=>Bu [Af a,(0:Int)]):=by show _=_;kernel_rfl
theorem LY(Y T S:Int)(Q:Nat)(P:Ab)(Z:Int)(X:Nat)(W:Ab)(V:Nat)(U:Ab)(O N:Int):Fm C0 fu d 19 [.agg [Y,T,S,Am 3 Q P,Z,Am 1 X W,Am 1 V U],.agg [O,Af N]] fun call=>Dj (call 35 [.agg [Y,T,S,Am 3 Q P,Z,Am 1 X W,Am 1 V U]]) fun a b=>Be .u64 a fun a=>Dc .i64 b fun b=>Az (b != 0) (Bu [b]) (Aa (wrap .i64 (Y-1)) fun b=>Az (Z != b) (Bu [(33:Int)]) (Lj .i64 (call 40 [.agg [O,Af N],Af a,.agg [Z,Am 1 X W,Am 1 V U]]) fun a=>Bu [a])):=by show _=_;kernel_rfl
theorem KW(U T S:Int)(Q:Nat)(P:Ab)(Z:Int)(Y:Nat)(X:Ab)(W:Nat)(V:Ab):Fm C0 fu d 25 [.agg [U,T,S,Am 3 Q P,Z,Am 1 Y X,Am 1 W V]] fun call=>Dj (call 34 [.agg [U,T,S,Am 3 Q P,Z,Am 1 Y X,Am 1 W V]]) fun a b=>J0 1 a fun a c=>Dc .i64 b fun b=>Az (b != 0) (Bu [.own 1 0 [],b]) (Dj (call 46 [.agg [Z,Am 1 Y X,Am 1 W V]]) fun b e=>J0 1 b fun b f=>Dc .i64 e fun e=>Az (e != 0) (Bu [.own 1 0 [],e]) (As (decide (0+b*1<=f.length))<|As (decide (a*1<=c.length)&&decide (List.length (List.take (b*1) (f.drop 0))=b*1)&&decide ((a+b)*1<=1099511627776)&&decide (a+b<=1099511627776))<|Aa (a+b) fun e=>Aa (List.take (a*1) c++List.take (b*1) (f.drop 0)) fun a=>As (decide (e*1<=a.length))<|Bu [.own 1 e (a.take (e*1)),(0:Int)])):=by show _=_;kernel_rfl
def Mm(Z Y X:Int)(W:Nat)(V:Ab)(U:Int)(T:Nat)(S:Ab)(Q:Nat)(P:Ab)(O N:Int)(M L K:Nat)(J:Ab)(I H:Int)(G E D:Int)(B:Nat)(A:Ab)(z:Int)(w:Nat)(v:Ab)(u:Nat)(t:Ab)(y15 y16 y17:Int)(y18:Nat)(y19:Int)(y20 y21:Nat)(y22 y23 y24:Ab)(y25:Int)(y26:Nat)(y27:Ab)(y28:Nat)(y29 y30:Ab):Option Dt:=K0 fu call 16 Tryz.f16 [.agg [Z,Y,X,Am 3 W V,U,Am 1 T S,Am 1 Q P],Af O,N] [.r,.r,.r,.r,.r,.r,.l,.r,.l] M ⟨lk [(3,.ptr 3 0),(6,.ptr 6 0),(10,.ptr 10 0),(11,.view 11 3 0 L),(42,Am 3 K J),(43,I),(44,H)],B3 [(3,.st [G,E,D,Am 3 B A,z,Am 1 w v,Am 1 u t]),(6,.st [y15,y16,y17,.view 242 3 0 y18,y19,.view 360 1 0 y20,.view 419 1 0 y21]),(242,.ar false y22),(360,.ar false y23),(419,.ar false y24),(10,.st [y25,Am 1 y26 y27,Am 1 y28 y29]),(11,.ar false y30)]⟩
theorem Vj(K J I:Int)(H:Nat)(G:Ab)(E:Int)(D:Nat)(B:Ab)(A:Nat)(z:Ab)(w v:Int)(u Y V:Nat)(X:Ab)(U Z:Int)(T S Q:Int)(t:Nat)(y9:Ab)(y10:Int)(y11:Nat)(y12:Ab)(y13:Nat)(y14:Ab)(y15 y16 y17:Int)(y18:Nat)(y19:Int)(y20 y21:Nat)(y22 y23 y24:Ab)(P:Int)(O:Nat)(N:Ab)(M:Nat)(L W:Ab):Mm fu call K J I H G E D B A z w v (u+1) Y V X U Z T S Q t y9 y10 y11 y12 y13 y14 y15 y16 y17 y18 y19 y20 y21 y22 y23 y24 P O N M L W=(Az (decide (Z<U)) (As (decide (0<=Z)&&decide (Z<(↑V:Int)))<|Be .u64 (X.getD (Z.toNat*3) .top) fun a=>Ow 3 (X.getD (Z.toNat*3+1) .top) fun b c e=>Ow 2 (X.getD (Z.toNat*3+1+1) .top) fun b f g=>Dj (call 37 [.agg [Af a,Am 3 c e,Am 2 f g]]) fun a b=>Dl a fun a=>Cu .u64 a fun a c=>G5 3 c fun c e f=>G5 2 f fun f g h=>Ar h<|Ar b<|On Y 3 56 W [Af a,Am 3 c e,Am 2 f g] fun a b=>Aa (wrap .i64 (Z+1)) fun c=>Mm fu call K J I H G E D B A z w v u a V X U c T S Q t y9 y10 y11 y12 y13 y14 y15 y16 y17 y18 y19 y20 y21 y22 y23 y24 P O N M L b) (As (decide (0+Y*3<=W.length))<|Bu [.agg [T,S,Q,Am 3 Y (List.take (Y*3) (W.drop 0)),P,Am 1 O N,Am 1 M L],(0:Int)])):=by kernel_rfl
theorem RW(Y W V:Int)(Z:Nat)(X:Ab)(U:Int)(T:Nat)(S:Ab)(Q:Nat)(P:Ab)(O N:Int):Fm C0 fu d 16 [.agg [Y,W,V,Am 3 Z X,U,Am 1 T S,Am 1 Q P],Af O,N] fun call=>Dj (call 35 [.agg [Y,W,V,Am 3 Z X,U,Am 1 T S,Am 1 Q P]]) fun a b=>Be .u64 a fun a=>Dc .i64 b fun b=>Az (b != 0) (Bu [.agg [(0:Int),(0:Int),(0:Int),Am 3 0 [],(0:Int),Am 1 0 [],Am 1 0 []],b]) (Aa (wrap .i64 (Y-1)) fun b=>Dj (call 36 [Af O,N,b,Af a]) fun a b=>Dl a fun a=>Cu .i64 a fun a c=>G5 1 c fun c e f=>G5 1 f fun f g h=>Ar h<|Dc .i64 b fun b=>Az (b != 0) (Bu [.agg [(0:Int),(0:Int),(0:Int),Am 3 0 [],(0:Int),Am 1 0 [],Am 1 0 []],b]) (As (decide ((↑Z:Int)*56<=1099511627776)&&decide ((↑Z:Int)<=1099511627776))<|Mm fu call Y W V Z X U T S Q P O N fu 0 Z X (↑Z:Int) 0 Y W V Z X U T S Q P 0 0 0 0 0 0 0 ([]) ([]) ([]) a c e f g ([]))):=by show _=_;kernel_rfl
theorem AJ(Z:Nat)(Y:Ab)(X:Bool)(W:Int):Fm C0 fu d 124 [.pbox [Am 3 Z Y,.sc (.bool X)],W] fun call=>Az X (some ⟨[.agg [(0:Int),Af 0,.sc (.string (ByteArray.mk #[]))]],[[Am 3 Z Y,.sc (.bool true)]]⟩) (Az ((↑Z:Int)==0) (some ⟨[.agg [(0:Int),Af 0,.sc (.string (ByteArray.mk #[]))]],[[Am 3 Z Y,.sc (.bool true)]]⟩) (As (decide (0<(↑Z:Int)))<|Be .i64 (Y.getD 0 .top) fun a=>Az (a != W) (some ⟨[.agg [(0:Int),Af 0,.sc (.string (ByteArray.mk #[]))]],[[Am 3 Z Y,.sc (.bool true)]]⟩) (As (decide (0<(↑Z:Int)))<|Be .i64 (Y.getD 0 .top) fun a=>Be .u64 (Y.getD 1 .top) fun b=>Ec (Y.getD 2 .top) fun c=>As (decide (1<=Z)&&decide (Z<=Z))<|Aa (Z-1) fun e=>Aa (List.take (e*3) (Y.drop 3)) fun f=>some ⟨[.agg [a,Af b,.sc (.string c)]],[[Am 3 e f,.sc (.bool X)]]⟩))):=by show _=_;kernel_rfl
theorem Xs(Z:Nat)(Y:Ab)(X:Bool):Fm C0 fu d 90 [.pbox [Am 3 Z Y,.sc (.bool X)]] fun call=>Bj (call 124 [.pbox [Am 3 Z Y,.sc (.bool X)],(1:Int)]) fun a b=>Av a fun a c=>Dl a fun a=>Cu .i64 a fun a e=>Cu .u64 e fun a e=>Av e fun e f=>Ec e fun e=>Ar f<|Ar c<|Av b fun b c=>G5 3 b fun b e f=>Wb f fun f=>Ar c<|some ⟨[Af a],[[Am 3 b e,.sc (.bool f)]]⟩:=by show _=_;kernel_rfl
theorem Z6(Z:Nat)(Y:Ab)(X:Bool):Fm C0 fu d 89 [.pbox [Am 3 Z Y,.sc (.bool X)]] fun call=>Bj (call 124 [.pbox [Am 3 Z Y,.sc (.bool X)],(5:Int)]) fun a b=>Av a fun a c=>Dl a fun a=>Cu .i64 a fun a e=>Cu .u64 e fun a e=>Av e fun e f=>Ec e fun e=>Ar f<|Ar c<|Av b fun b c=>G5 3 b fun b e f=>Wb f fun f=>Ar c<|some ⟨[Af a],[[Am 3 b e,.sc (.bool f)]]⟩:=by show _=_;kernel_rfl
def Ek(Z:Nat)(Y:Ab)(X:Bool)(W:Nat)(V:Int)(U:Nat)(T:Ab)(S:Bool)(Q:Int)(P O:Nat)(N M:Ab)(L:Int)(K J:Nat)(I H:Ab):Option Dt:=K0 fu call 91 Tryz.f91 [.pbox [Am 3 Z Y,.sc (.bool X)]] [.r,.r,.r,.l,.r,.l] W ⟨lk [(0,.ptr 162000 0),(2,.ptr 2 0),(3,.ptr 3 0),(4,Af V)],B3 [(162000,.st [Am 3 U T,.sc (.bool S)]),(2,.st [Af Q,.view 164 3 0 P,.view 245 2 0 O]),(164,.ar false N),(245,.ar false M),(3,.st [Af L,.view 165 3 0 K,.view 246 2 0 J]),(165,.ar false I),(246,.ar false H)]⟩
def Dh(Z:Nat)(Y:Ab)(X:Bool)(W:Nat)(V:Int)(U:Nat)(T:Ab)(S:Bool)(Q:Int)(P O:Nat)(N M:Ab)(L:Int)(K J:Nat)(I H:Ab):Option Dt:=K0 fu call 91 Tryz.f91 [.pbox [Am 3 Z Y,.sc (.bool X)]] [.r,.r,.r,.r,.l,.r,.l] W ⟨lk [(0,.ptr 162000 0),(2,.ptr 2 0),(3,.ptr 3 0),(8,Af V)],B3 [(162000,.st [Am 3 U T,.sc (.bool S)]),(2,.st [Af Q,.view 164 3 0 P,.view 245 2 0 O]),(164,.ar false N),(245,.ar false M),(3,.st [Af L,.view 165 3 0 K,.view 246 2 0 J]),(165,.ar false I),(246,.ar false H)]⟩
theorem Re(Z:Nat)(Y:Ab)(X:Bool)(H:Nat)(K:Int)(J:Nat)(I:Ab)(W:Bool)(V:Int)(U T:Nat)(S Q:Ab)(P:Int)(O N:Nat)(M L:Ab):Ek fu call Z Y X (H+1) K J I W V U T S Q P O N M L=(Az (decide (K>0)) (Az (!W) (Bj (call 89 [.pbox [Am 3 J I,.sc (.bool W)]]) fun a b=>Dc .u64 a fun a=>Av b fun a b=>G5 3 a fun a c e=>Wb e fun e=>Ar b<|Bj (call 124 [.pbox [Am 3 a c,.sc (.bool e)],(4:Int)]) fun a b=>Av a fun a c=>Dl a fun a=>Cu .i64 a fun a e=>Cu .u64 e fun a e=>Av e fun a e=>Ec a fun a=>Ar e<|Ar c<|Av b fun b c=>G5 3 b fun b e f=>Wb f fun f=>Ar c<|Bj (call 124 [.pbox [Am 3 b e,.sc (.bool f)],(3:Int)]) fun b c=>Av b fun b e=>Dl b fun b=>Cu .i64 b fun b f=>Cu .u64 f fun b f=>Av f fun b f=>Ec b fun b=>Ar f<|Ar e<|Av c fun c e=>G5 3 c fun c f g=>Wb g fun g=>Ar e<|As (decide (ByteArray.size b<=1099511627776))<|As (decide (0+ByteArray.size b*1<=List.length (Ej b)))<|Dj (call 125 [Am 1 (ByteArray.size b) (List.take (ByteArray.size b*1) (List.drop 0 (Ej b)))]) fun b e=>Dl b fun b=>Cu .i64 b fun b h=>Dc .u64 h fun h=>Dc .i64 e fun e=>Az (e != 0) (On O 3 32 M [.sc (.string a),b,Af h] fun a b=>Aa (wrap .u64 (K-1)) fun e=>Ek fu call Z Y X H e c f true V U T S Q P a N b L) (On O 3 32 M [.sc (.string a),b,Af h] fun a b=>Aa (wrap .u64 (K-1)) fun e=>Ek fu call Z Y X H e c f g V U T S Q P a N b L)) (Bj (call 89 [.pbox [Am 3 J I,.sc (.bool W)]]) fun a b=>Dc .u64 a fun a=>Av b fun b c=>G5 3 b fun b e f=>Wb f fun f=>Ar c<|Dh fu call Z Y X fu a b e f V U T S Q P O N M L)) (Bj (call 89 [.pbox [Am 3 J I,.sc (.bool W)]]) fun a b=>Dc .u64 a fun a=>Av b fun b c=>G5 3 b fun b e f=>Wb f fun f=>Ar c<|Dh fu call Z Y X fu a b e f V U T S Q P O N M L)):=by kernel_rfl
theorem Qp(P:Nat)(O:Ab)(N:Bool)(M:Nat)(Q:Int)(U:Nat)(T:Ab)(V:Bool)(L:Int)(K J:Nat)(I H:Ab)(S:Int)(Z Y:Nat)(X W:Ab):Dh fu call P O N (M+1) Q U T V L K J I H S Z Y X W=(Az (decide (Q>0)) (Az (!V) (Bj (call 89 [.pbox [Am 3 U T,.sc (.bool V)]]) fun a b=>Dc .u64 a fun a=>Av b fun a b=>G5 3 a fun a c e=>Wb e fun e=>Ar b<|Bj (call 90 [.pbox [Am 3 a c,.sc (.bool e)]]) fun a b=>Dc .u64 a fun a=>Av b fun b c=>G5 3 b fun b e f=>Wb f fun f=>Ar c<|Aa (wrap .i64 a) fun a=>Bj (call 90 [.pbox [Am 3 b e,.sc (.bool f)]]) fun b c=>Dc .u64 b fun b=>Av c fun c e=>G5 3 c fun c f g=>Wb g fun g=>Ar e<|Aa (wrap .i64 b) fun b=>On Y 2 16 W [a,b] fun a b=>Aa (wrap .u64 (Q-1)) fun e=>Dh fu call P O N M e c f g L K J I H S Z a X b) (As (decide (0+Z*3<=X.length))<|As (decide (0+Y*2<=W.length))<|some ⟨[.agg [Af S,Am 3 Z (List.take (Z*3) (X.drop 0)),Am 2 Y (List.take (Y*2) (W.drop 0))]],[[Am 3 U T,.sc (.bool V)]]⟩)) (As (decide (0+Z*3<=X.length))<|As (decide (0+Y*2<=W.length))<|some ⟨[.agg [Af S,Am 3 Z (List.take (Z*3) (X.drop 0)),Am 2 Y (List.take (Y*2) (W.drop 0))]],[[Am 3 U T,.sc (.bool V)]]⟩)):=by kernel_rfl
theorem T0(Z:Nat)(Y:Ab)(X:Bool):Fm C0 fu d 91 [.pbox [Am 3 Z Y,.sc (.bool X)]] fun call=>Bj (call 89 [.pbox [Am 3 Z Y,.sc (.bool X)]]) fun a b=>Dc .u64 a fun a=>Av b fun a b=>G5 3 a fun a c e=>Wb e fun e=>Ar b<|Bj (call 90 [.pbox [Am 3 a c,.sc (.bool e)]]) fun a b=>Dc .u64 a fun a=>Av b fun b c=>G5 3 b fun b e f=>Wb f fun f=>Ar c<|Bj (call 89 [.pbox [Am 3 b e,.sc (.bool f)]]) fun b c=>Dc .u64 b fun b=>Av c fun c e=>G5 3 c fun c f g=>Wb g fun g=>Ar e<|Ek fu call Z Y X fu b c f g 0 0 0 ([]) ([]) a 0 0 ([]) ([]):=by show _=_;kernel_rfl
def Iz(Z:Nat)(Y:Ab)(X:Nat)(W V:Int)(U T:Int)(S:Nat)(Q:Int)(P O:Nat)(N M L:Ab)(K:Nat)(J:Ab)(I:Bool)(H G E:Int)(D:Nat)(B:Int)(A z:Nat)(w v u:Ab):Option Dt:=K0 fu call 48 Tryz.f48 [Am 3 Z Y] [.r,.r,.r,.r,.l,.r,.l] X ⟨lk [(2,.ptr 2 0),(4,.ptr 4 0),(5,.ptr 5 0),(6,Af W)],B3 [(2,.st [V,U,T,.view 226 3 0 S,Q,.view 338 1 0 P,.view 394 1 0 O]),(226,.ar false N),(338,.ar false M),(394,.ar false L),(4,.st [Am 3 K J,.sc (.bool I)]),(5,.st [H,G,E,.view 229 3 0 D,B,.view 341 1 0 A,.view 397 1 0 z]),(229,.ar false w),(341,.ar false v),(397,.ar false u)]⟩
theorem BM(L:Nat)(K:Ab)(J:Nat)(M I:Int)(H G:Int)(E:Nat)(D:Int)(B A:Nat)(z w v:Ab)(N:Nat)(u:Ab)(O:Bool)(T S Q:Int)(Z:Nat)(P:Int)(Y X:Nat)(W V U:Ab):Iz fu call L K (J+1) M I H G E D B A z w v N u O T S Q Z P Y X W V U=(Az (decide (M>0)) (Az (!O) (Bj (call 91 [.pbox [Am 3 N u,.sc (.bool O)]]) fun a b=>Av a fun a c=>Dl a fun a=>Cu .u64 a fun a e=>G5 3 e fun e f g=>G5 2 g fun g h i=>Ar i<|Ar c<|Av b fun b c=>G5 3 b fun b i j=>Wb j fun j=>Ar c<|On Z 3 56 W [Af a,Am 3 e f,Am 2 g h] fun a c=>Aa (wrap .u64 (M-1)) fun e=>Iz fu call L K J e I H G E D B A z w v b i j T S Q a P Y X c V U) (Az (!O) (As (decide (0+Z*3<=W.length))<|As (decide (0+Y*1<=V.length))<|As (decide (0+X*1<=U.length))<|Bu [.agg [T,S,Q,Am 3 Z (List.take (Z*3) (W.drop 0)),P,Am 1 Y (List.take (Y*1) (V.drop 0)),Am 1 X (List.take (X*1) (U.drop 0))],.sc (.bool ((↑N:Int)==0))]) (As (decide (0+Z*3<=W.length))<|As (decide (0+Y*1<=V.length))<|As (decide (0+X*1<=U.length))<|Bu [.agg [T,S,Q,Am 3 Z (List.take (Z*3) (W.drop 0)),P,Am 1 Y (List.take (Y*1) (V.drop 0)),Am 1 X (List.take (X*1) (U.drop 0))],.sc (.bool false)]))) (Az (!O) (As (decide (0+Z*3<=W.length))<|As (decide (0+Y*1<=V.length))<|As (decide (0+X*1<=U.length))<|Bu [.agg [T,S,Q,Am 3 Z (List.take (Z*3) (W.drop 0)),P,Am 1 Y (List.take (Y*1) (V.drop 0)),Am 1 X (List.take (X*1) (U.drop 0))],.sc (.bool ((↑N:Int)==0))]) (As (decide (0+Z*3<=W.length))<|As (decide (0+Y*1<=V.length))<|As (decide (0+X*1<=U.length))<|Bu [.agg [T,S,Q,Am 3 Z (List.take (Z*3) (W.drop 0)),P,Am 1 Y (List.take (Y*1) (V.drop 0)),Am 1 X (List.take (X*1) (U.drop 0))],.sc (.bool false)]))):=by kernel_rfl
theorem FR(Z:Nat)(Y:Ab):Fm C0 fu d 48 [Am 3 Z Y] fun call=>Bj (call 89 [.pbox [Am 3 Z Y,.sc (.bool false)]]) fun a b=>Dc .u64 a fun a=>Av b fun a b=>G5 3 a fun a c e=>Wb e fun e=>Ar b<|Bj (call 90 [.pbox [Am 3 a c,.sc (.bool e)]]) fun a b=>Dc .u64 a fun a=>Av b fun b c=>G5 3 b fun b e f=>Wb f fun f=>Ar c<|Aa (wrap .i64 a) fun a=>Bj (call 90 [.pbox [Am 3 b e,.sc (.bool f)]]) fun b c=>Dc .u64 b fun b=>Av c fun c e=>G5 3 c fun c f g=>Wb g fun g=>Ar e<|Aa (wrap .i64 b) fun b=>Bj (call 90 [.pbox [Am 3 c f,.sc (.bool g)]]) fun c e=>Dc .u64 c fun c=>Av e fun e f=>G5 3 e fun e g h=>Wb h fun h=>Ar f<|Aa (wrap .i64 c) fun c=>Bj (call 89 [.pbox [Am 3 e g,.sc (.bool h)]]) fun e f=>Dc .u64 e fun e=>Av f fun f g=>G5 3 f fun f h i=>Wb i fun i=>Ar g<|Iz fu call Z Y fu e 0 0 0 0 0 0 0 ([]) ([]) ([]) f h i a b c 0 0 0 0 ([]) ([]) ([]):=by show _=_;kernel_rfl
theorem MV(Z:Nat)(Y:Ab):Fm C0 fu d 26 [Am 1 Z Y] fun call=>Az (decide ((↑Z:Int)>4096)) (Bu [.agg [(0:Int),(0:Int),(0:Int),Am 3 0 [],(0:Int),Am 1 0 [],Am 1 0 []],(8:Int)]) (Dj (call 47 [Am 1 Z Y]) fun a b=>J0 3 a fun a c=>Cu .i64 b fun b e=>Dc .i64 e fun e=>Az (e != 0) (Bu [.agg [(0:Int),(0:Int),(0:Int),Am 3 0 [],(0:Int),Am 1 0 [],Am 1 0 []],(2:Int)]) (As (decide (0+a*3<=c.length))<|Dj (call 48 [Am 3 a (List.take (a*3) (c.drop 0))]) fun a c=>Dl a fun a=>Cu .i64 a fun a e=>Cu .i64 e fun e f=>Cu .i64 f fun f g=>G5 3 g fun g h i=>Cu .i64 i fun i j=>G5 1 j fun i j k=>G5 1 k fun i j k=>Ar k<|Wb c fun c=>Az (!c) (Bu [.agg [(0:Int),(0:Int),(0:Int),Am 3 0 [],(0:Int),Am 1 0 [],Am 1 0 []],(2:Int)]) (As (decide (0<=b))<|As (decide (b.toNat<=Z)&&decide (Z<=Z))<|Aa (Z-b.toNat) fun c=>Aa (List.take (c*1) (Y.drop (b.toNat*1))) fun b=>Dj (call 49 [Am 1 c b]) fun b c=>Dl b fun b=>Cu .i64 b fun b i=>Ue 1 i fun i j k=>Ue 1 k fun k m n=>Ar n<|Dc .i64 c fun c=>Az (c != 0) (Bu [.agg [(0:Int),(0:Int),(0:Int),Am 3 0 [],(0:Int),Am 1 0 [],Am 1 0 []],(2:Int)]) (As (decide (0+i*1<=j.length))<|As (decide (0+k*1<=m.length))<|Dj (call 25 [.agg [a,e,f,Am 3 g h,b,Am 1 i (List.take (i*1) (j.drop 0)),Am 1 k (List.take (k*1) (m.drop 0))]]) fun c n=>J0 1 c fun c o=>Dc .i64 n fun n=>Az (n != 0) (Bu [.agg [(0:Int),(0:Int),(0:Int),Am 3 0 [],(0:Int),Am 1 0 [],Am 1 0 []],(2:Int)]) (As (decide (0+c*1<=o.length))<|Dj (call 50 [Am 1 c (List.take (c*1) (o.drop 0)),Am 1 Z Y]) fun c n=>Cg c fun c=>Ar n<|Az (!c) (Bu [.agg [(0:Int),(0:Int),(0:Int),Am 3 0 [],(0:Int),Am 1 0 [],Am 1 0 []],(2:Int)]) (As (decide (0+i*1<=j.length))<|As (decide (0+k*1<=m.length))<|Bu [.agg [a,e,f,Am 3 g h,b,Am 1 i (List.take (i*1) (j.drop 0)),Am 1 k (List.take (k*1) (m.drop 0))],(0:Int)])))))):=by show _=_;kernel_rfl
theorem KA(Y T S:Int)(Q:Nat)(P:Ab)(O:Int)(N:Nat)(M:Ab)(L:Nat)(K:Ab)(X:Nat)(W:Ab)(V U Z:Int):Fm C0 fu d 27 [.agg [Y,T,S,Am 3 Q P,O,Am 1 N M,Am 1 L K],Am 1 X W,.agg [V,Af U],Z] fun call=>Az (decide (Z<0)) (Bu [.agg [(0:Int),(0:Int),(0:Int),Am 3 0 [],(0:Int),Am 1 0 [],Am 1 0 []],(9:Int)]) (Az (decide (Z>1099511627776)) (Bu [.agg [(0:Int),(0:Int),(0:Int),Am 3 0 [],(0:Int),Am 1 0 [],Am 1 0 []],(9:Int)]) (Dj (call 26 [Am 1 X W]) fun a b=>Dl a fun a=>Cu .i64 a fun a c=>Cu .i64 c fun c e=>Cu .i64 e fun e f=>G5 3 f fun f g h=>Cu .i64 h fun h i=>G5 1 i fun i j k=>G5 1 k fun k m n=>Ar n<|Dc .i64 b fun b=>Az (b != 0) (Bu [.agg [(0:Int),(0:Int),(0:Int),Am 3 0 [],(0:Int),Am 1 0 [],Am 1 0 []],b]) (Az (decide (a<=Y)) (Bu [.agg [(0:Int),(0:Int),(0:Int),Am 3 0 [],(0:Int),Am 1 0 [],Am 1 0 []],(7:Int)]) (Lj .i64 (call 19 [.agg [a,c,e,Am 3 f g,h,Am 1 i j,Am 1 k m],.agg [V,Af U]]) fun b=>Az (b != 0) (Bu [.agg [(0:Int),(0:Int),(0:Int),Am 3 0 [],(0:Int),Am 1 0 [],Am 1 0 []],b]) (Az (decide (Z<c)) (Bu [.agg [(0:Int),(0:Int),(0:Int),Am 3 0 [],(0:Int),Am 1 0 [],Am 1 0 []],(19:Int)]) (Az (decide (Z>e)) (Bu [.agg [(0:Int),(0:Int),(0:Int),Am 3 0 [],(0:Int),Am 1 0 [],Am 1 0 []],(19:Int)]) (Bu [.agg [a,c,e,Am 3 f g,h,Am 1 i j,Am 1 k m],(0:Int)]))))))):=by show _=_;kernel_rfl
end
section
variable {fu d:Nat}
theorem JS(Bo:1000<=fu){k:Nat}(hk:k<=5){vs:List (List It)}(hv:∀v∈vs,Val k v/\v≠[]/\v.length<=499)(hn:vs.length<=400)(hb:vs.flatten.length<=499):
  Aq C0 prog fu (d+6) 63 [.lst false 1 vs.length (G2 vs)]=some ⟨[.own 3 (Du vs).length (Ay (Du vs)),Au 0],[]⟩:=
 Akn Bo (fun v h=>⟨(hv v h).1.goods (by omega) (hv v h).2.1 (by have:=(hv v h).2.2;omega),by have:=(hv v h).2.2;omega⟩) hn ((Xf (fun v h=>(hv v h).1) (by omega)).goods (by omega) (by simp) (by simp only[He];omega)) hb
def Aby(a:An):Ab:=if F0 a=0 then [.own 3 (Cv a).length (Ay (Cv a)),Au 0] else [.own 3 0 [],Au (F0 a)]
theorem Auw(Bo:1000<=fu)(a:An):Aq C0 prog fu (d+7) 104 [.agg a.cells]=some ⟨Aby a,[]⟩:=by
 refine (AR fu (d+6) a.name a.key.h a.key.root).trans ?_;have bad:∀{e:Int},F0 a=e->e≠0->some (Dt.mk [.own 3 0 [],Au e] [])=some (Dt.mk (Aby a) []):=fun h he=>by unfold Aby;rw[h,A4 he]
 by_cases e1:a.name.size<1
 ·have hb:F0 a=9:=by unfold F0;rw[Bn (.inl e1)]
  rw[<-bad hb (by omega)]
  repeat(with_reducible(first|apply Ai|apply Ae|apply Aj|apply Ao|apply Aw|apply Bb|apply Ad|apply Ah|apply Cs);· first|constructor|(simp(disch:=omega)only[Ct,Cp]<;>first|constructor|omega)|omega)
  try simp(disch:=omega)only[Aa,Cp]
 by_cases e2:32<a.name.size
 ·have hb:F0 a=9:=by unfold F0;rw[Bn (.inr e2)]
  rw[<-bad hb (by omega)]
  repeat(with_reducible(first|apply Ai|apply Ae|apply Aj|apply Ao|apply Aw|apply Bb|apply Ad|apply Ah|apply Cs);· first|constructor|(simp(disch:=omega)only[Ct,Cp]<;>first|constructor|omega)|omega)
  try simp(disch:=omega)only[Aa,Cp]
 have v1:=Vg (fu:=fu) (d:=d+5) a.name (by omega);have e12:¬(a.name.size<1\/32<a.name.size):=by omega
 cases e3:okS a.name
 ·have hb:F0 a=6:=by unfold F0;rw[A4 e12,Bn e3]
  rw[e3] at v1;rw[<-bad hb (by omega)]
  repeat(with_reducible(first|apply Ai|apply Ae|apply Aj|apply Ao|apply Aw|apply Bb|apply Ad|apply Ah|apply Cs);· first|constructor|(simp(disch:=omega)only[Ct,v1,Cp,Ev]<;>first|constructor|omega)|omega)
  try simp(disch:=omega)only[Aa,v1,Cp,Ev]
 rw[e3] at v1;have ek:=Ans (xs:=M9) (fu:=fu) (d:=d+4) Bo a.key;simp only[Ky.cells] at ek;have e90:((9:Int) != 0)=true:=rfl;have e00:((0:Int) != 0)=false:=rfl;cases e5:Dz a.key.h
 rotate_left
 ·have hb:F0 a=9:=by unfold F0;rw[A4 e12,A4 (by simp[e3]),Bn e5]
  rw[e5,Bn rfl] at ek;rw[<-bad hb (by omega)]
  repeat(with_reducible(first|apply Ai|apply Ae|apply Aj|apply Ao|apply Aw|apply Bb|apply Ad|apply Ah|apply Cs);· first|constructor|(simp(disch:=omega)only[Ct,v1,ek,e90,Cp,Ev]<;>first|constructor|omega)|omega)
  try simp(disch:=omega)only[Aa,v1,ek,e90,Cp,Ev]
 rw[e5,A4 (by simp)] at ek;have hz:F0 a=0:=by unfold F0;rw[A4 e12,A4 (by simp[e3]),A4 (by simp[e5])]
 have f1:OQ ⟨4,0,a.name⟩:=⟨.inr (.inr (.inr (.inl rfl))),by simp only;omega,fun _=>e3,by unfold K7;rfl,by simp⟩
 have f2:OQ ⟨3,0,Bk (Ir a.key)⟩:=⟨.inr (.inr (.inl rfl)),by simp only[Adb];omega,(fun e=>by cases e),by unfold K7;rfl,by simp⟩
 have ar:Aq C0 prog fu (d+6) 63 [.lst false 1 2 [.lst false 3 1 (Ay [⟨4,0,a.name⟩]),.lst false 3 1 (Ay [⟨3,0,Bk (Ir a.key)⟩])]]=some ⟨[.own 3 3 (Ay (Cv a)),Au 0],[]⟩:=JS (fu:=fu) (d:=d) Bo (k:=0) (by omega) (vs:=SA a) (fun v hv=>by
  simp only[SA,B7,Im,or_false] at hv;rcases hv with rfl|rfl
  ·exact⟨Hu f1 0,by simp,by simp⟩
  ·exact⟨Hu f2 0,by simp,by simp⟩) (by simp[SA]) (by simp[SA])
 have t1:=Aq6 (fu:=fu) (d:=d+5) a.name;have by_:=Ao4 (fu:=fu) (d:=d+5) (Ir a.key);have k9:(Ir a.key).length=9:=rfl;rw[k9] at by_;have L9:=Ap .u8 (Ir a.key);rw[k9] at L9;have tk9:List.take 9 (Ac .u8 (Ir a.key))=Ac .u8 (Ir a.key):=Hg (by omega);have R:Aby a=[.own 3 3 (Ay (Cv a)),Au 0]:=by unfold Aby;rw[Bn hz,Q4]
 rw[R];have LI:(Ay (Cv a)).length=9:=rfl;have tI:List.take 9 (Ay (Cv a))=Ay (Cv a):=rfl;generalize Ay (Cv a)=I at ar LI tI ⊢;have K1:List.take 3 (Ay [⟨4,0,a.name⟩])=Ay [⟨4,0,a.name⟩]:=rfl;have K2:List.take 3 (Ay [⟨3,0,Bk (Ir a.key)⟩])=Ay [⟨3,0,Bk (Ir a.key)⟩]:=rfl;have N1:(Ay [⟨4,0,a.name⟩]).length=3:=rfl;have N2:(Ay [⟨3,0,Bk (Ir a.key)⟩]).length=3:=rfl;generalize Ay [⟨4,0,a.name⟩]=T1 at *
 generalize Ay [⟨3,0,Bk (Ir a.key)⟩]=T2 at *
 generalize Ac .u8 (Ir a.key)=KB at *
 repeat(with_reducible(first|apply Ai|apply Ae|apply Aj|apply Ao|apply Aw|apply Bb|apply Ad|apply Ah|apply Cs);· first|constructor|(simp(disch:=omega)only[Ct,v1,ek,e00,t1,by_,L9,tk9,K1,K2,N1,N2,Ck,Nat.one_mul,De,Nat.reduceMul,Er,ar,LI,tI,Cp,Ev]<;>first|constructor|omega)|omega)
 try simp(disch:=omega)only[Aa,v1,ek,e00,t1,by_,L9,tk9,K1,K2,N1,N2,Ck,Nat.one_mul,De,Nat.reduceMul,Er,ar,LI,tI,Cp,Ev]
def Asi(x:Me):Ab:=if C4 x=0 then [.own 3 (A7 x).length (Ay (A7 x)),Au 0] else [.own 3 0 [],Au (C4 x)]
theorem VJ(a:List (List It))(v:List It):G2 a++[.lst false 3 v.length (Ay v)]=G2 (a++[v]):=by unfold G2;rw[List.flatMap_append,J1,List.flatMap_nil,List.append_nil];rfl
theorem X9(a:List (List It)):(G2 a).length=a.length:=by unfold G2;rw[Xw Aal];omega
theorem A1f(Bo:1000<=fu){C7:Int}{H5 Eg:Nat}{Ch D0:Ab}{x:Me}(hm:0<=x.model)(h1:x.ans.length<=4)(h2:x.sts.length<=4)(h3:Ds x.ans=0):∀(r:List Sa)(i nn:Nat)(p:Option Int),x.sts.drop i=r->r.length<nn->i<=x.sts.length ->
  ((i=0/\p=none)\/∃s',0<i/\x.sts[i-1]?=some s'/\p=some s'.at_)->(∀s∈x.sts.take i,1<=s.kd/\s.kd<=4/\0<=s.at_/\s.at_<=1099511627776) ->
  F5 fu (Aq C0 prog fu (d+7)) C7 H5 Ch Eg D0 nn i (Du (x.ans.map Cv)).length x.sts.length (Dq x.sts) (x.sts.length:Int) (i:Int) x.model x.ans.length (C1 x.ans) x.sts.length (Dq x.sts) (G2 ((x.sts.take i).map Cq)) (Ay (Du (x.ans.map Cv))) =
   some ⟨(if Ey p r=0 then [.own 3 (A7 x).length (Ay (A7 x)),Au 0] else [.own 3 0 [],Au (Ey p r)]),[]⟩
 |_,_,0,_,_,h,_,_,_=>by omega
 |[],i,nn+1,p,hd,hn,hi,hp,hk=>by
  have hl:=drop_nil hd;have ei:i=x.sts.length:=by omega
  have eall:x.sts.take i=x.sts:=Hg (by omega);rw[eall] at hk ⊢;have vs:=Al6 h2 (fun s hs=>by have:=hk s hs;exact⟨by omega,by omega⟩)
  have va:=Add h1 (Un h3);have Hm:Ey p []=0:=by unfold Ey;rfl
  rw[Bn Hm]
  have ar:=JS (fu:=fu) (d:=d+1) Bo (k:=1) (by omega) (vs:=x.sts.map Cq) (fun v hv=>by
   obtain⟨s,hs,rfl⟩:=List.mem_map.1 hv;have:=hk s hs;exact⟨(Ak0 (by omega) (by omega)).1,by simp[Cq],by rw[Yd];omega⟩) (by rw[List.length_map];omega) (by rw[I2 Yd];omega)
  rw[List.length_map] at ar;have u:=Y6 (fu:=fu) (d:=d+6) x.model;have la:(Du (x.ans.map Cv)).length<=20:=by unfold Du;rw[He,I2 Q4];omega
  have ls:(Du (x.sts.map Cq)).length<=20:=by unfold Du;rw[He,I2 Yd];omega
  have ar3:Aq C0 prog fu (d+7) 63 [.lst false 1 3 [.lst false 3 1 (Ay [⟨1,x.model,Fw⟩]),.lst false 3 (Du (x.ans.map Cv)).length (Ay (Du (x.ans.map Cv))),.lst false 3 (Du (x.sts.map Cq)).length (Ay (Du (x.sts.map Cq)))]]=some ⟨[.own 3 (A7 x).length (Ay (A7 x)),Au 0],[]⟩:=JS (fu:=fu) (d:=d+1) Bo (k:=2) (by omega) (vs:=U7 x) (fun v hv=>by
   simp only[U7,B7,Im,or_false] at hv;rcases hv with rfl|rfl|rfl
   ·exact⟨Hu (Jw hm) 2,by simp,by simp⟩
   ·exact⟨va.1,by simp[Du],by omega⟩
   ·exact⟨vs.1,by simp[Du],by omega⟩) (by simp[U7]) (by simp only[U7,List.flatten_cons,List.flatten_nil,List.append_nil,F9,List.length_singleton];omega)
  have e00:((0:Int) != 0)=false:=rfl;have LV:(G2 (x.sts.map Cq)).length=x.sts.length:=by rw[X9,List.length_map]
  have tV:List.take x.sts.length (G2 (x.sts.map Cq))=G2 (x.sts.map Cq):=Hg (by omega);have LA:=Cx (Du (x.ans.map Cv));have LS:=Cx (Du (x.sts.map Cq));have LE:=Cx (A7 x);have tA:List.take ((Du (x.ans.map Cv)).length*3) (Ay (Du (x.ans.map Cv)))=Ay (Du (x.ans.map Cv)):=Hg (by omega);have tS:List.take ((Du (x.sts.map Cq)).length*3) (Ay (Du (x.sts.map Cq)))=Ay (Du (x.sts.map Cq)):=Hg (by omega);have tE:List.take ((A7 x).length*3) (Ay (A7 x))=Ay (A7 x):=Hg (by omega);have K1:List.take 3 (Ay [⟨1,x.model,Fw⟩])=Ay [⟨1,x.model,Fw⟩]:=rfl;have N1:(Ay [⟨1,x.model,Fw⟩]).length=3:=rfl;subst ei;rw[Es];generalize Ay [⟨1,x.model,Fw⟩]=T1 at *
  generalize Ay (A7 x)=TE at *
  generalize (A7 x).length=nE at *
  generalize Ay (Du (x.sts.map Cq))=TS at *
  generalize Ay (Du (x.ans.map Cv))=TA at *
  generalize (Du (x.sts.map Cq)).length=nS at *
  generalize (Du (x.ans.map Cv)).length=nA at *
  generalize G2 (x.sts.map Cq)=TV at *
  repeat(with_reducible(first|apply Ai|apply Ae|apply Aj|apply Ao|apply Aw|apply Bb|apply Ad|apply Ah|apply Cs);· first|constructor|(simp(disch:=omega)only[Ct,LV,tV,ar,e00,u,K1,N1,LA,LS,tA,tS,ar3,LE,tE,Ck,Nat.one_mul,De,Er,Cp,Ev]<;>first|constructor|omega)|omega)
  try simp(disch:=omega)only[Aa,LV,tV,ar,e00,u,K1,N1,LA,LS,tA,tS,ar3,LE,tE,Ck,Nat.one_mul,De,Er,Cp,Ev]
  all_goals rfl
 |s::rs,i,nn+1,p,hd,hn,hi,hp,hk=>by
  obtain⟨q1,q2,q3⟩:=C8 hd;simp only[He] at hn;obtain⟨c0,c1⟩:=saa q2;have nt:Int.toNat (i:Int)=i:=H6 _
  have bad:∀{e:Int},Hk p s=e->e≠0->some (Dt.mk [.own 3 0 [],Au e] [])=some (Dt.mk (if Ey p (s::rs)=0 then [.own 3 (A7 x).length (Ay (A7 x)),Au 0] else [.own 3 0 [],Au (Ey p (s::rs))]) []):=fun {e} h he=>by
   have:Ey p (s::rs)=e:=by rw[Ey,Bn (by rw[h];exact he),h]
   rw[this,A4 he]
  by_cases g1:s.kd<1
  ·have hb:Hk p s=9:=by unfold Hk;rw[Bn (.inl g1)]
   rw[<-bad hb (by omega),Es]
   repeat(with_reducible(first|apply Ai|apply Ae|apply Aj|apply Ao|apply Aw|apply Bb|apply Ad|apply Ah|apply Cs);· first|constructor|(simp(disch:=omega)only[Ct,nt,c0,c1]<;>first|constructor|omega)|omega)
   try simp(disch:=omega)only[Aa,nt,c0,c1]
   all_goals rfl
  by_cases g2:4<s.kd
  ·have hb:Hk p s=9:=by unfold Hk;rw[Bn (.inr (.inl g2))]
   rw[<-bad hb (by omega),Es]
   repeat(with_reducible(first|apply Ai|apply Ae|apply Aj|apply Ao|apply Aw|apply Bb|apply Ad|apply Ah|apply Cs);· first|constructor|(simp(disch:=omega)only[Ct,nt,c0,c1]<;>first|constructor|omega)|omega)
   try simp(disch:=omega)only[Aa,nt,c0,c1]
   all_goals rfl
  by_cases g3:s.at_<0
  ·have hb:Hk p s=9:=by unfold Hk;rw[Bn (.inr (.inr (.inl g3)))]
   rw[<-bad hb (by omega),Es]
   repeat(with_reducible(first|apply Ai|apply Ae|apply Aj|apply Ao|apply Aw|apply Bb|apply Ad|apply Ah|apply Cs);· first|constructor|(simp(disch:=omega)only[Ct,nt,c0,c1]<;>first|constructor|omega)|omega)
   try simp(disch:=omega)only[Aa,nt,c0,c1]
   all_goals rfl
  by_cases g4:1099511627776<s.at_
  ·have hb:Hk p s=9:=by unfold Hk;rw[Bn (.inr (.inr (.inr g4)))]
   rw[<-bad hb (by omega),Es]
   repeat(with_reducible(first|apply Ai|apply Ae|apply Aj|apply Ao|apply Aw|apply Bb|apply Ad|apply Ah|apply Cs);· first|constructor|(simp(disch:=omega)only[Ct,nt,c0,c1]<;>first|constructor|omega)|omega)
   try simp(disch:=omega)only[Aa,nt,c0,c1]
   all_goals rfl
  have S1:Hk none s=0:=by unfold Hk;rw[A4 (by omega)]
  have S0:∀q:Int,Hk (some q) s=if s.at_<=q then 7 else 0:=fun q=>by unfold Hk;rw[A4 (by omega)]
  have wk:wrap .u64 s.kd=s.kd:=Cd (by omega) (by omega);have wa:wrap .u64 s.at_=s.at_:=Cd (by omega) (by omega);have u1:=Y6 (fu:=fu) (d:=d+6) s.kd;have u2:=Y6 (fu:=fu) (d:=d+6) s.at_
  have ar:Aq C0 prog fu (d+7) 63 [.lst false 1 2 [.lst false 3 1 (Ay [⟨1,s.kd,Fw⟩]),.lst false 3 1 (Ay [⟨1,s.at_,Fw⟩])]]=some ⟨[.own 3 3 (Ay (Cq s)),Au 0],[]⟩:=JS (fu:=fu) (d:=d+1) Bo (k:=0) (by omega) (vs:=UN s) (fun v hv=>by
   simp only[UN,B7,Im,or_false] at hv;rcases hv with rfl|rfl
   ·exact⟨Hu (Jw (by omega)) 0,by simp,by simp⟩
   ·exact⟨Hu (Jw (by omega)) 0,by simp,by simp⟩) (by simp[UN]) (by simp[UN])
  have e00:((0:Int) != 0)=false:=rfl;have LI:(Ay (Cq s)).length=9:=rfl;have tI:List.take 9 (Ay (Cq s))=Ay (Cq s):=rfl;have K1:List.take 3 (Ay [⟨1,s.kd,Fw⟩])=Ay [⟨1,s.kd,Fw⟩]:=rfl;have K2:List.take 3 (Ay [⟨1,s.at_,Fw⟩])=Ay [⟨1,s.at_,Fw⟩]:=rfl;have N1:(Ay [⟨1,s.kd,Fw⟩]).length=3:=rfl;have N2:(Ay [⟨1,s.at_,Fw⟩]).length=3:=rfl;have LV:(G2 ((x.sts.take i).map Cq)).length=i:=by rw[X9,List.length_map,List.length_take];omega
  have tV:List.take i (G2 ((x.sts.take i).map Cq))=G2 ((x.sts.take i).map Cq):=Hg (by omega);have w:wrap .i64 ((i:Int)+1)=((i+1:Nat):Int):=by rw[Ag (by omega) (by omega)];omega
  have et:x.sts.take (i+1)=x.sts.take i++[s]:=by rw[List.take_add_one,q2];rfl
  have ea:G2 ((x.sts.take i).map Cq)++[.lst false 3 3 (Ay (Cq s))]=G2 ((x.sts.take (i+1)).map Cq):=by
   rw[et,List.map_append,List.map_singleton];exact VJ _ (Cq s)
  have hz:∀{v:Int},Hk p s=0->Ey p (s::rs)=Ey (some s.at_) rs:=fun {v} h=>by rw[Ey,A4 (by simp[h])]
  have ih:=A1f Bo (C7:=C7) (H5:=H5) (Eg:=Eg) (Ch:=Ch) (D0:=D0) hm h1 h2 h3 rs (i+1) nn (some s.at_) q3 (by omega) (by omega) (.inr ⟨s,by omega,by rw[Nat.add_sub_cancel];exact q2,rfl⟩) (fun y hy=>by
   rw[et] at hy;rcases B4.1 hy with hy|hy
   ·exact hk y hy
   ·rw[M0.1 hy];omega)
  rw[Es];rcases hp with⟨rfl,rfl⟩|⟨s',h0,h5,rfl⟩
  ·have hs:Hk none s=0:=S1;rw[hz (v:=0) hs,<-ih];generalize Ay (Cq s)=TI at *
   generalize Ay [⟨1,s.kd,Fw⟩]=T1 at *
   generalize Ay [⟨1,s.at_,Fw⟩]=T2 at *
   generalize G2 ((x.sts.take 0).map Cq)=TV at *
   generalize G2 ((x.sts.take (0+1)).map Cq)=TV' at *
   repeat(with_reducible(first|apply Ai|apply Ae|apply Aj|apply Ao|apply Aw|apply Bb|apply Ad|apply Ah|apply Cs);· first|constructor|(simp(disch:=omega)only[Ct,nt,c0,c1]<;>first|constructor|omega)|omega)
   try simp(disch:=omega)only[Aa,nt,c0,c1]
   rw[I9 (M6:=by omega)]
   repeat(with_reducible(first|apply Ai|apply Ae|apply Aj|apply Ao|apply Aw|apply Bb|apply Ad|apply Ah|apply Cs);· first|constructor|(simp(disch:=omega)only[Ct,wk,wa,u1,u2,K1,K2,N1,N2,ar,e00,LI,tI,LV,tV,ea,w,Ck,Nat.one_mul,De,Nat.reduceMul,Er,Cp]<;>first|constructor|omega)|omega)
   try simp(disch:=omega)only[Aa,wk,wa,u1,u2,K1,K2,N1,N2,ar,e00,LI,tI,LV,tV,ea,w,Ck,Nat.one_mul,De,Nat.reduceMul,Er,Cp]
   all_goals rfl
  ·obtain⟨b0,b1⟩:=saa h5;have wi:wrap .i64 ((i:Int)-1)=((i-1:Nat):Int):=by rw[Ag (by omega) (by omega)];omega
   have nt1:Int.toNat ((i-1:Nat):Int)=i-1:=H6 _;by_cases g5:s.at_<=s'.at_
   ·have hb:Hk (some s'.at_) s=7:=by rw[S0,Bn g5]
    rw[<-bad hb (by omega)]
    repeat(with_reducible(first|apply Ai|apply Ae|apply Aj|apply Ao|apply Aw|apply Bb|apply Ad|apply Ah|apply Cs);· first|constructor|(simp(disch:=omega)only[Ct,nt,c0,c1]<;>first|constructor|omega)|omega)
    try simp(disch:=omega)only[Aa,nt,c0,c1]
    rw[I9 (M6:=by omega)]
    repeat(with_reducible(first|apply Ai|apply Ae|apply Aj|apply Ao|apply Aw|apply Bb|apply Ad|apply Ah|apply Cs);· first|constructor|(simp(disch:=omega)only[Ct,wi,nt1,b1]<;>first|constructor|omega)|omega)
    try simp(disch:=omega)only[Aa,wi,nt1,b1]
    all_goals rfl
   ·have hs:Hk (some s'.at_) s=0:=by rw[S0,A4 g5]
    rw[hz (v:=0) hs,<-ih];generalize Ay (Cq s)=TI at *
    generalize Ay [⟨1,s.kd,Fw⟩]=T1 at *
    generalize Ay [⟨1,s.at_,Fw⟩]=T2 at *
    generalize G2 ((x.sts.take i).map Cq)=TV at *
    generalize G2 ((x.sts.take (i+1)).map Cq)=TV' at *
    repeat(with_reducible(first|apply Ai|apply Ae|apply Aj|apply Ao|apply Aw|apply Bb|apply Ad|apply Ah|apply Cs);· first|constructor|(simp(disch:=omega)only[Ct,nt,c0,c1]<;>first|constructor|omega)|omega)
    try simp(disch:=omega)only[Aa,nt,c0,c1]
    rw[I9 (M6:=by omega)]
    repeat(with_reducible(first|apply Ai|apply Ae|apply Aj|apply Ao|apply Aw|apply Bb|apply Ad|apply Ah|apply Cs);· first|constructor|(simp(disch:=omega)only[Ct,wi,nt1,b1,wk,wa,u1,u2,K1,K2,N1,N2,ar,e00,LI,tI,LV,tV,ea,w,Ck,Nat.one_mul,De,Nat.reduceMul,Er,Cp]<;>first|constructor|omega)|omega)
    try simp(disch:=omega)only[Aa,wi,nt1,b1,wk,wa,u1,u2,K1,K2,N1,N2,ar,e00,LI,tI,LV,tV,ea,w,Ck,Nat.one_mul,De,Nat.reduceMul,Er,Cp]
    all_goals rfl
theorem A0r(Bo:1000<=fu){C7:Int}{H5 Eg:Nat}{Ch D0:Ab}{x:Me}(hm:0<=x.model)(h1:x.ans.length<=4)(h2:x.sts.length<=4):∀(r:List An)(i nn:Nat),x.ans.drop i=r->r.length<nn->i<=x.ans.length->(Ds r=0->Ds x.ans=0)->(∀a∈x.ans.take i,F0 a=0) ->
  Hy fu (Aq C0 prog fu (d+7)) C7 H5 Ch Eg D0 nn i x.ans.length (C1 x.ans) (x.ans.length:Int) (i:Int) x.model x.ans.length (C1 x.ans) x.sts.length (Dq x.sts) (G2 ((x.ans.take i).map Cv)) =
   some ⟨(if Ds r=0 then (if Ey none x.sts=0 then [.own 3 (A7 x).length (Ay (A7 x)),Au 0] else [.own 3 0 [],Au (Ey none x.sts)]) else [.own 3 0 [],Au (Ds r)]),[]⟩
 |_,_,0,_,h,_,_,_=>by omega
 |[],i,nn+1,hd,hn,hi,hz,hk=>by
  have hl:=drop_nil hd;have ei:i=x.ans.length:=by omega
  have eall:x.ans.take i=x.ans:=Hg (by omega);rw[eall] at hk ⊢;have h3:=hz rfl;have va:=Add h1 (Un h3);have Hm:Ds []=0:=by unfold Ds;rfl
  rw[Bn Hm]
  have ar:=JS (fu:=fu) (d:=d+1) Bo (k:=1) (by omega) (vs:=x.ans.map Cv) (fun v hv=>by
   obtain⟨a,ha,rfl⟩:=List.mem_map.1 hv;exact⟨(Ake (hk a ha)).1,by simp[Cv],by rw[Q4];omega⟩) (by rw[List.length_map];omega) (by rw[I2 Q4];omega)
  rw[List.length_map] at ar;have e00:((0:Int) != 0)=false:=rfl;have LV:(G2 (x.ans.map Cv)).length=x.ans.length:=by rw[X9,List.length_map]
  have tV:List.take x.ans.length (G2 (x.ans.map Cv))=G2 (x.ans.map Cv):=Hg (by omega);have l1:=A1f (fu:=fu) (d:=d) Bo (C7:=C7) (H5:=H5) (Eg:=Eg) (Ch:=Ch) (D0:=D0) hm h1 h2 h3 x.sts 0 fu none rfl (by omega) (by omega) (.inl ⟨rfl,rfl⟩) (fun s hs=>by cases hs);have ev:G2 ((x.sts.take 0).map Cq)=[]:=rfl;have z0:((0:Nat):Int)=0:=rfl;rw[ev,z0] at l1;subst ei;rw[Ja,<-l1]
  repeat(with_reducible(first|apply Ai|apply Ae|apply Aj|apply Ao|apply Aw|apply Bb|apply Ad|apply Ah|apply Cs);· first|constructor|(simp(disch:=omega)only[Ct,LV,tV,ar,e00,Ck,Nat.one_mul,De,Er,Cp,Ev]<;>first|constructor|omega)|omega)
  try simp(disch:=omega)only[Aa,LV,tV,ar,e00,Ck,Nat.one_mul,De,Er,Cp,Ev]
  all_goals rfl
 |a::rs,i,nn+1,hd,hn,hi,hz,hk=>by
  obtain⟨q1,q2,q3⟩:=C8 hd;simp only[He] at hn;obtain⟨c0,c1,c2⟩:=ana q2;have c2':(C1 x.ans).getD (i*3+1+1) .top=Af a.key.root:=c2;have nt:Int.toNat (i:Int)=i:=H6 _;have an:=Auw (fu:=fu) (d:=d) Bo a;unfold Aby at an;simp only[An.cells] at an;by_cases h0:F0 a=0
  ·rw[Bn h0,Q4] at an;have e00:((0:Int) != 0)=false:=rfl;have LI:(Ay (Cv a)).length=9:=rfl;have tI:List.take 9 (Ay (Cv a))=Ay (Cv a):=rfl;have LV:(G2 ((x.ans.take i).map Cv)).length=i:=by rw[X9,List.length_map,List.length_take];omega
   have tV:List.take i (G2 ((x.ans.take i).map Cv))=G2 ((x.ans.take i).map Cv):=Hg (by omega);have w:wrap .i64 ((i:Int)+1)=((i+1:Nat):Int):=by rw[Ag (by omega) (by omega)];omega
   have et:x.ans.take (i+1)=x.ans.take i++[a]:=by rw[List.take_add_one,q2];rfl
   have ea:G2 ((x.ans.take i).map Cv)++[.lst false 3 3 (Ay (Cv a))]=G2 ((x.ans.take (i+1)).map Cv):=by
    rw[et,List.map_append,List.map_singleton];exact VJ _ (Cv a)
   have he:Ds (a::rs)=Ds rs:=by rw[Ds,A4 (by simp[h0])]
   have ih:=A0r Bo (C7:=C7) (H5:=H5) (Eg:=Eg) (Ch:=Ch) (D0:=D0) hm h1 h2 rs (i+1) nn q3 (by omega) (by omega) (fun h=>hz (by rw[he];exact h)) (fun y hy=>by
    rw[et] at hy;rcases B4.1 hy with hy|hy
    ·exact hk y hy
    ·rw[M0.1 hy];exact h0)
   rw[he,<-ih,Ja];generalize Ay (Cv a)=TI at *
   generalize G2 ((x.ans.take i).map Cv)=TV at *
   generalize G2 ((x.ans.take (i+1)).map Cv)=TV' at *
   repeat(with_reducible(first|apply Ai|apply Ae|apply Aj|apply Ao|apply Aw|apply Bb|apply Ad|apply Ah|apply Cs);· first|constructor|(simp(disch:=omega)only[Ct,nt,c0,c1,c2',an,e00,LI,tI,LV,tV,ea,w,Ck,Nat.one_mul,De,Nat.reduceMul,Er,Cp]<;>first|constructor|omega)|omega)
   try simp(disch:=omega)only[Aa,nt,c0,c1,c2',an,e00,LI,tI,LV,tV,ea,w,Ck,Nat.one_mul,De,Nat.reduceMul,Er,Cp]
   all_goals rfl
  ·rw[A4 h0] at an;have he:Ds (a::rs)=F0 a:=by rw[Ds,Bn h0]
   have Gu:(F0 a != 0)=true:=by simp[h0]
   rw[he,A4 h0,Ja]
   repeat(with_reducible(first|apply Ai|apply Ae|apply Aj|apply Ao|apply Aw|apply Bb|apply Ad|apply Ah|apply Cs);· first|constructor|(simp(disch:=omega)only[Ct,nt,c0,c1,c2',an,Gu]<;>first|constructor|omega)|omega)
   try simp(disch:=omega)only[Aa,nt,c0,c1,c2',an,Gu]
   all_goals rfl
theorem Ati(Bo:1000<=fu){x:Me}(hm:0<=x.model):Aq C0 prog fu (d+8) 62 [.agg x.cells]=some ⟨Asi x,[]⟩:=by
 refine (CJ fu (d+7) x.model x.ans.length (C1 x.ans) x.sts.length (Dq x.sts)).trans ?_;unfold Asi;by_cases e1:4<x.ans.length
 ·have hb:C4 x=8:=by unfold C4;rw[Bn (.inl e1)]
  rw[hb,A4 (by omega)]
  repeat(with_reducible(first|apply Ai|apply Ae|apply Aj|apply Ao|apply Aw|apply Bb|apply Ad|apply Ah|apply Cs);· first|constructor|(simp(disch:=omega)only[Ct,Cp]<;>first|constructor|omega)|omega)
  try simp(disch:=omega)only[Aa,Cp]
  all_goals rfl
 by_cases e2:4<x.sts.length
 ·have hb:C4 x=8:=by unfold C4;rw[Bn (.inr e2)]
  rw[hb,A4 (by omega)]
  repeat(with_reducible(first|apply Ai|apply Ae|apply Aj|apply Ao|apply Aw|apply Bb|apply Ad|apply Ah|apply Cs);· first|constructor|(simp(disch:=omega)only[Ct,Cp]<;>first|constructor|omega)|omega)
  try simp(disch:=omega)only[Aa,Cp]
  all_goals rfl
 have l0:=A0r (fu:=fu) (d:=d) Bo (C7:=x.model) (H5:=x.ans.length) (Ch:=C1 x.ans) (Eg:=x.sts.length) (D0:=Dq x.sts) hm (by omega) (by omega) x.ans 0 fu rfl (by omega) (by omega) (fun h=>h) (fun a ha=>by cases ha);have ev:G2 ((x.ans.take 0).map Cv)=[]:=rfl;have z0:((0:Nat):Int)=0:=rfl;have hb:C4 x=if Ds x.ans≠0 then Ds x.ans else Ey none x.sts:=by unfold C4;rw[A4 (by omega)]
 have R:(if C4 x=0 then [PV.own 3 (A7 x).length (Ay (A7 x)),Au 0] else [.own 3 0 [],Au (C4 x)])=(if Ds x.ans=0 then (if Ey none x.sts=0 then [PV.own 3 (A7 x).length (Ay (A7 x)),Au 0] else [.own 3 0 [],Au (Ey none x.sts)]) else [.own 3 0 [],Au (Ds x.ans)]):=by
  rw[hb];by_cases h:Ds x.ans=0
  ·have e:(if Ds x.ans≠0 then Ds x.ans else Ey none x.sts)=Ey none x.sts:=A4 (by simp[h]);rw[e,Bn h]
  ·have e:(if Ds x.ans≠0 then Ds x.ans else Ey none x.sts)=Ds x.ans:=Bn h;rw[e,A4 h,A4 h]
 rw[R,<-l0,ev,z0]
 repeat(with_reducible(first|apply Ai|apply Ae|apply Aj|apply Ao|apply Aw|apply Bb|apply Ad|apply Ah|apply Cs);· first|constructor|(simp(disch:=omega)only[Ct,Cp]<;>first|constructor|omega)|omega)
 try simp(disch:=omega)only[Aa,Cp]
 all_goals rfl
end
theorem F2.len:∀{l:List It},F2 l->(Bg l).length<=41*l.length
 |[],_=>by simp[Bg]
 |x::l,h=>by
  have h1:=Abr x;have h2:=(h x (by simp)).2.2;have ih:=F2.len (l:=l) (fun y hy=>h y (by simp[hy]));have e:Bg (x::l)=B9 x++Bg l:=rfl;rw[e,F9,He];omega
def Jh(m:Md):Ab:=if Br m=0 then [.own 1 (Bg (A3 m)).length (Ac .u8 (Bg (A3 m))),Au 0] else [.own 1 0 [],Au (Br m)]
section
variable {fu d:Nat}
theorem A0o(Bo:1000<=fu){C7 Ch D0 AZ:Int}{Po Pp Px:Nat}{BD BJ AK:Ab}{m:Md}(hw:m.wf)(h1:¬(m.ver<1\/16<m.ver))(h2:¬(m.iss<0\/m.nxt<m.iss\/1099511627776<m.nxt))(h3:m.ents.length<=16):∀(r:List Me)(i nn:Nat)(p:Option Int),m.ents.drop i=r->r.length<nn->i<=m.ents.length ->
  ((i=0/\p=none)\/∃x',0<i/\m.ents[i-1]?=some x'/\p=some x'.model)->(Dk p r=0->Dk none m.ents=0)->(∀x∈m.ents.take i,C4 x=0) ->
  Jl fu (Aq C0 prog fu (d+8)) C7 Ch D0 Po BD AZ Pp BJ Px AK nn i m.ents.length (B5 m.ents) (m.ents.length:Int) (i:Int) m.ver m.iss m.nxt m.ents.length (B5 m.ents) m.sig.leaf m.sig.chains.length (Ac .u64 m.sig.chains) m.sig.path.length (Ac .u64 m.sig.path) (G2 ((m.ents.take i).map A7)) =
   some ⟨(if Dk p r=0 then [.own 1 (Bg (A3 m)).length (Ac .u8 (Bg (A3 m))),Au 0] else [.own 1 0 [],Au (Dk p r)]),[]⟩
 |_,_,0,_,_,h,_,_,_,_=>by omega
 |[],i,nn+1,p,hd,hn,hi,hp,hz,hk=>by
  have hl:=drop_nil hd;have ei:i=m.ents.length:=by omega
  have eall:m.ents.take i=m.ents:=Hg (by omega);rw[eall] at hk ⊢;have Hm:Dk p []=0:=by unfold Dk;rfl
  have h0:=hz Hm;have hm0:Br m=0:=by unfold Br;rw[A4 h1,A4 h2,A4 (by omega),h0]
  rw[Bn Hm];obtain⟨ve,fe,le⟩:=Agi h3 (fun x hx=>⟨hw.mod x hx,hk x hx⟩);obtain⟨vm,fm,lm⟩:=Uz hw hm0;have fl:=JB (f:=A7) (k:=28) (l:=m.ents) (fun x hx=>(W5 (hw.mod x hx) (hk x hx)).2.2)
  have ar:=JS (fu:=fu) (d:=d+2) Bo (k:=3) (by omega) (vs:=m.ents.map A7) (fun v hv=>by
   obtain⟨x,hx,rfl⟩:=List.mem_map.1 hv;have:=W5 (hw.mod x hx) (hk x hx);exact⟨this.1,by simp[A7],by have:=this.2.2;omega⟩) (by rw[List.length_map];omega) (by omega)
  rw[List.length_map] at ar
  have ar4:Aq C0 prog fu (d+8) 63 [.lst false 1 4 [.lst false 3 1 (Ay [⟨1,m.ver,Fw⟩]),.lst false 3 1 (Ay [⟨1,m.iss,Fw⟩]),.lst false 3 1 (Ay [⟨1,m.nxt,Fw⟩]),.lst false 3 (Du (m.ents.map A7)).length (Ay (Du (m.ents.map A7)))]]=some ⟨[.own 3 (A3 m).length (Ay (A3 m)),Au 0],[]⟩:=JS (fu:=fu) (d:=d+2) Bo (k:=4) (by omega) (vs:=Nw m) (fun v hv=>by
   simp only[Nw,B7,Im,or_false] at hv;rcases hv with rfl|rfl|rfl|rfl
   ·exact⟨Hu (Jw (by omega)) 4,by simp,by simp⟩
   ·exact⟨Hu (Jw (by omega)) 4,by simp,by simp⟩
   ·exact⟨Hu (Jw (by omega)) 4,by simp,by simp⟩
   ·exact⟨ve,by simp[Du],by omega⟩) (by simp[Nw]) (by simp only[Nw,List.flatten_cons,List.flatten_nil,List.append_nil,F9,List.length_singleton];omega)
  have en:=Afy (fu:=fu) (d:=d+3) Bo (l:=A3 m) (by omega) (by omega) (vm.goods (by omega) (by simp[A3]) (by omega)) (fun x hx=>(fm x hx).1) (by have:=fm.len;omega)
  have u1:=Y6 (fu:=fu) (d:=d+7) m.ver;have u2:=Y6 (fu:=fu) (d:=d+7) m.iss;have u3:=Y6 (fu:=fu) (d:=d+7) m.nxt;have w1:wrap .u64 m.ver=m.ver:=Cd (by omega) (by omega);have w2:wrap .u64 m.iss=m.iss:=Cd (by omega) (by omega);have w3:wrap .u64 m.nxt=m.nxt:=Cd (by omega) (by omega);have e00:((0:Int) != 0)=false:=rfl;have LV:(G2 (m.ents.map A7)).length=m.ents.length:=by rw[X9,List.length_map]
  have tV:List.take m.ents.length (G2 (m.ents.map A7))=G2 (m.ents.map A7):=Hg (by omega);have LA:=Cx (Du (m.ents.map A7));have LM:=Cx (A3 m);have tA:List.take ((Du (m.ents.map A7)).length*3) (Ay (Du (m.ents.map A7)))=Ay (Du (m.ents.map A7)):=Hg (by omega);have tM:List.take ((A3 m).length*3) (Ay (A3 m))=Ay (A3 m):=Hg (by omega);have LB:=Ap .u8 (Bg (A3 m));have tB:=Mi .u8 (Bg (A3 m));have K1:List.take 3 (Ay [⟨1,m.ver,Fw⟩])=Ay [⟨1,m.ver,Fw⟩]:=rfl;have K2:List.take 3 (Ay [⟨1,m.iss,Fw⟩])=Ay [⟨1,m.iss,Fw⟩]:=rfl;have K3:List.take 3 (Ay [⟨1,m.nxt,Fw⟩])=Ay [⟨1,m.nxt,Fw⟩]:=rfl;have N1:(Ay [⟨1,m.ver,Fw⟩]).length=3:=rfl;have N2:(Ay [⟨1,m.iss,Fw⟩]).length=3:=rfl;have N3:(Ay [⟨1,m.nxt,Fw⟩]).length=3:=rfl;subst ei
  rw[V1];generalize Ay [⟨1,m.ver,Fw⟩]=T1 at *
  generalize Ay [⟨1,m.iss,Fw⟩]=T2 at *
  generalize Ay [⟨1,m.nxt,Fw⟩]=T3 at *
  generalize Bg (A3 m)=B at *
  generalize Ay (A3 m)=TM at *
  generalize (A3 m).length=nM at *
  generalize Ay (Du (m.ents.map A7))=TA at *
  generalize (Du (m.ents.map A7)).length=nA at *
  generalize G2 (m.ents.map A7)=TV at *
  repeat(with_reducible(first|apply Ai|apply Ae|apply Aj|apply Bb|apply A6|apply Ad|apply Ah|apply Cs);· first|constructor|(simp(disch:=omega)only[Ct,LV,tV,ar,e00,u1,u2,u3,w1,w2,w3,K1,K2,K3,N1,N2,N3,LA,tA,ar4,LM,tM,en,LB,tB,Ck,Nat.one_mul,De,Er,Cp,Ev]<;>first|constructor|omega)|omega)
  try simp(disch:=omega)only[Aa,LV,tV,ar,e00,u1,u2,u3,w1,w2,w3,K1,K2,K3,N1,N2,N3,LA,tA,ar4,LM,tM,en,LB,tB,Ck,Nat.one_mul,De,Er,Cp,Ev]
  all_goals rfl
 |x::rs,i,nn+1,p,hd,hn,hi,hp,hz,hk=>by
  obtain⟨q1,q2,q3⟩:=C8 hd;simp only[He] at hn;obtain⟨c0,c1,c2⟩:=mea q2;have c2':(B5 m.ents).getD (i*3+1+1) .top=.lst false 2 x.sts.length (Dq x.sts):=c2;have nt:Int.toNat (i:Int)=i:=H6 _;have hxm:=hw.mod x (List.mem_of_getElem? q2);have en:=Ati (fu:=fu) (d:=d) Bo hxm;unfold Asi at en;simp only[Me.cells] at en;have w:wrap .i64 ((i:Int)+1)=((i+1:Nat):Int):=by rw[Ag (by omega) (by omega)];omega
  have et:m.ents.take (i+1)=m.ents.take i++[x]:=by rw[List.take_add_one,q2];rfl
  have O1:J8 none x=0:=rfl;have O0:∀q:Int,J8 (some q) x=if x.model<=q then 7 else 0:=fun q=>rfl
  have LV:(G2 ((m.ents.take i).map A7)).length=i:=by rw[X9,List.length_map,List.length_take];omega
  have tV:List.take i (G2 ((m.ents.take i).map A7))=G2 ((m.ents.take i).map A7):=Hg (by omega)
  have ea:G2 ((m.ents.take i).map A7)++[.lst false 3 (A7 x).length (Ay (A7 x))]=G2 ((m.ents.take (i+1)).map A7):=by
   rw[et,List.map_append,List.map_singleton];exact VJ _ (A7 x)
  have LE:=Cx (A7 x);have tE:List.take ((A7 x).length*3) (Ay (A7 x))=Ay (A7 x):=Hg (by omega);have e00:((0:Int) != 0)=false:=rfl;have hgo:J8 p x=0->C4 x=0->Dk p (x::rs)=Dk (some x.model) rs:=fun h h'=>by rw[Dk,A4 (by simp[h]),A4 (by simp[h'])]
  have Agc:J8 p x=0->C4 x≠0->Dk p (x::rs)=C4 x:=fun h h'=>by rw[Dk,A4 (by simp[h]),Bn h']
  have A3l:J8 p x=7->Dk p (x::rs)=7:=fun h=>by rw[Dk,Bn (by rw[h];omega),h]
  have ih:=fun (h:J8 p x=0) (h':C4 x=0)=>A0o Bo (C7:=C7) (Ch:=Ch) (D0:=D0) (AZ:=AZ) (Po:=Po) (Pp:=Pp) (Px:=Px) (BD:=BD) (BJ:=BJ) (AK:=AK) hw h1 h2 h3 rs (i+1) nn (some x.model) q3 (by omega) (by omega) (.inr ⟨x,by omega,by rw[Nat.add_sub_cancel];exact q2,rfl⟩) (fun e=>hz (by rw[hgo h h'];exact e)) (fun y hy=>by
   rw[et] at hy;rcases B4.1 hy with hy|hy
   ·exact hk y hy
   ·rw[M0.1 hy];exact h')
  rw[V1];rcases hp with⟨rfl,rfl⟩|⟨x',h0,h5,rfl⟩
  ·by_cases he:C4 x=0
   ·rw[Bn he] at en;have ih:=ih O1 he;rw[hgo O1 he,<-ih];generalize Ay (A7 x)=TE at *
    generalize (A7 x).length=nE at *
    generalize G2 ((m.ents.take 0).map A7)=TV at *
    generalize G2 ((m.ents.take (0+1)).map A7)=TV' at *
    repeat(with_reducible(first|apply Ai|apply Ae|apply Aj|apply Bb|apply A6|apply Ad|apply Ah|apply Cs);· first|constructor|(simp(disch:=omega)only[Ct,nt,c0,c1,c2',en,e00,LE,tE,LV,tV,ea,w,Ck,De,Er]<;>first|constructor|omega)|omega)
    try simp(disch:=omega)only[Aa,nt,c0,c1,c2',en,e00,LE,tE,LV,tV,ea,w,Ck,De,Er]
    all_goals rfl
   ·rw[A4 he] at en;have Gu:(C4 x != 0)=true:=by simp[he]
    rw[Agc O1 he,A4 he]
    repeat(with_reducible(first|apply Ai|apply Ae|apply Aj|apply Bb|apply A6|apply Ad|apply Ah|apply Cs);· first|constructor|(simp(disch:=omega)only[Ct,nt,c0,c1,c2',en,Gu]<;>first|constructor|omega)|omega)
    try simp(disch:=omega)only[Aa,nt,c0,c1,c2',en,Gu]
    all_goals rfl
  ·obtain⟨b0,b1,b2⟩:=mea h5;have b0':(B5 m.ents).getD ((i-1)*3+0) .top=Af x'.model:=b0;have wi:wrap .i64 ((i:Int)-1)=((i-1:Nat):Int):=by rw[Ag (by omega) (by omega)];omega
   have nt1:Int.toNat ((i-1:Nat):Int)=i-1:=H6 _;by_cases ho:x.model<=x'.model
   ·have h7:J8 (some x'.model) x=7:=by rw[O0,Bn ho]
    rw[A3l h7,A4 (by omega)]
    repeat(with_reducible(first|apply Ai|apply Ae|apply Aj|apply Bb|apply A6|apply Ad|apply Ah|apply Cs);· first|constructor|(simp(disch:=omega)only[Ct,nt,c0,c1,c2',wi,nt1,b0']<;>first|constructor|omega)|omega)
    try simp(disch:=omega)only[Aa,nt,c0,c1,c2',wi,nt1,b0']
    all_goals rfl
   ·have h7:J8 (some x'.model) x=0:=by rw[O0,A4 ho]
    by_cases he:C4 x=0
    ·rw[Bn he] at en;have ih:=ih h7 he;rw[hgo h7 he,<-ih];generalize Ay (A7 x)=TE at *
     generalize (A7 x).length=nE at *
     generalize G2 ((m.ents.take i).map A7)=TV at *
     generalize G2 ((m.ents.take (i+1)).map A7)=TV' at *
     repeat(with_reducible(first|apply Ai|apply Ae|apply Aj|apply Bb|apply A6|apply Ad|apply Ah|apply Cs);· first|constructor|(simp(disch:=omega)only[Ct,nt,c0,c1,c2',wi,nt1,b0',en,e00,LE,tE,LV,tV,ea,w,Ck,De,Er]<;>first|constructor|omega)|omega)
     try simp(disch:=omega)only[Aa,nt,c0,c1,c2',wi,nt1,b0',en,e00,LE,tE,LV,tV,ea,w,Ck,De,Er]
     all_goals rfl
    ·rw[A4 he] at en;have Gu:(C4 x != 0)=true:=by simp[he]
     rw[Agc h7 he,A4 he]
     repeat(with_reducible(first|apply Ai|apply Ae|apply Aj|apply Bb|apply A6|apply Ad|apply Ah|apply Cs);· first|constructor|(simp(disch:=omega)only[Ct,nt,c0,c1,c2',wi,nt1,b0',en,Gu]<;>first|constructor|omega)|omega)
     try simp(disch:=omega)only[Aa,nt,c0,c1,c2',wi,nt1,b0',en,Gu]
     all_goals rfl
theorem Afc(Bo:1000<=fu){m:Md}(hw:m.wf):Aq C0 prog fu (d+9) 34 [.agg m.cells]=some ⟨Jh m,[]⟩:=by
 refine (RY fu (d+8) m.ver m.iss m.nxt m.ents.length (B5 m.ents) m.sig.leaf m.sig.chains.length (Ac .u64 m.sig.chains) m.sig.path.length (Ac .u64 m.sig.path)).trans ?_;have bad:∀{e:Int},Br m=e->e≠0->some (Dt.mk [.own 1 0 [],Au e] [])=some (Dt.mk (Jh m) []):=fun {e} h he=>by unfold Jh;rw[h,A4 he]
 by_cases h1:m.ver<1\/16<m.ver
 ·have hb:Br m=9:=by unfold Br;rw[Bn h1]
  rw[<-bad hb (by omega)];by_cases h1':m.ver<1
  ·skip
   repeat(with_reducible(first|apply Ai|apply Ae|apply Aj|apply Bb|apply A6|apply Ad|apply Ah|apply Cs);· first|constructor|(simp(disch:=omega)only[Ct,Cp]<;>first|constructor|omega)|omega)
   try simp(disch:=omega)only[Aa,Cp]
   all_goals rfl
  ·skip
   repeat(with_reducible(first|apply Ai|apply Ae|apply Aj|apply Bb|apply A6|apply Ad|apply Ah|apply Cs);· first|constructor|(simp(disch:=omega)only[Ct,Cp]<;>first|constructor|omega)|omega)
   try simp(disch:=omega)only[Aa,Cp]
   all_goals rfl
 by_cases h2:m.iss<0\/m.nxt<m.iss\/1099511627776<m.nxt
 ·have hb:Br m=9:=by unfold Br;rw[A4 h1,Bn h2]
  rw[<-bad hb (by omega)];by_cases h2':m.iss<0
  ·skip
   repeat(with_reducible(first|apply Ai|apply Ae|apply Aj|apply Bb|apply A6|apply Ad|apply Ah|apply Cs);· first|constructor|(simp(disch:=omega)only[Ct,Cp]<;>first|constructor|omega)|omega)
   try simp(disch:=omega)only[Aa,Cp]
   all_goals rfl
  by_cases Ba6:m.nxt<m.iss
  ·skip
   repeat(with_reducible(first|apply Ai|apply Ae|apply Aj|apply Bb|apply A6|apply Ad|apply Ah|apply Cs);· first|constructor|(simp(disch:=omega)only[Ct,Cp]<;>first|constructor|omega)|omega)
   try simp(disch:=omega)only[Aa,Cp]
   all_goals rfl
  ·skip
   repeat(with_reducible(first|apply Ai|apply Ae|apply Aj|apply Bb|apply A6|apply Ad|apply Ah|apply Cs);· first|constructor|(simp(disch:=omega)only[Ct,Cp]<;>first|constructor|omega)|omega)
   try simp(disch:=omega)only[Aa,Cp]
   all_goals rfl
 by_cases h3:16<m.ents.length
 ·have hb:Br m=8:=by unfold Br;rw[A4 h1,A4 h2,Bn h3]
  rw[<-bad hb (by omega)]
  repeat(with_reducible(first|apply Ai|apply Ae|apply Aj|apply Bb|apply A6|apply Ad|apply Ah|apply Cs);· first|constructor|(simp(disch:=omega)only[Ct,Cp]<;>first|constructor|omega)|omega)
  try simp(disch:=omega)only[Aa,Cp]
  all_goals rfl
 have hb:Br m=Dk none m.ents:=by unfold Br;rw[A4 h1,A4 h2,A4 h3]
 have l0:=A0o (fu:=fu) (d:=d) Bo (C7:=m.ver) (Ch:=m.iss) (D0:=m.nxt) (Po:=m.ents.length) (BD:=B5 m.ents) (AZ:=m.sig.leaf) (Pp:=m.sig.chains.length) (BJ:=Ac .u64 m.sig.chains) (Px:=m.sig.path.length) (AK:=Ac .u64 m.sig.path) hw h1 h2 (by omega) m.ents 0 fu none rfl (by omega) (by omega) (.inl ⟨rfl,rfl⟩) (fun h=>h) (fun x hx=>by cases hx);have ev:G2 ((m.ents.take 0).map A7)=[]:=rfl;have z0:((0:Nat):Int)=0:=rfl;rw[ev,z0] at l0;unfold Jh;rw[hb,<-l0]
 repeat(with_reducible(first|apply Ai|apply Ae|apply Aj|apply Bb|apply A6|apply Ad|apply Ah|apply Cs);· first|constructor|(simp(disch:=omega)only[Ct,Cp]<;>first|constructor|omega)|omega)
 try simp(disch:=omega)only[Aa,Cp]
 all_goals rfl
end
def Sh(m:Md):Int:=Rj 15 (Bg (A3 m))
def RV(m:Md)(k:Ky):Int:=if Br m=0 then (if m.sig.leaf≠m.ver-1 then 33 else Aez k (Sh m) m.sig) else Br m
def Dv(m:Md):Int:=if Br m=0 then OG m.sig else Br m
def Fz(m:Md):B8:=Bg (A3 m)++Sm m.sig
def T8(m:Md):Ab:=if Dv m=0 then [.own 1 (Fz m).length (Ac .u8 (Fz m)),Au 0] else [.own 1 0 [],Au (Dv m)]
def MF(m:Md):Ab:=if Br m=0 then [Af (Sh m),Au 0] else [Af 0,Au (Br m)]
def FM:Md:=⟨0,0,0,[],⟨0,[],[]⟩⟩
def R6(m:Md)(seed h:Int):Md × Int:=
 if Br m=0 then (match KG seed h (m.ver-1) (Sh m) with|some s=>({ m with sig:=s },0)|none=>(FM,9)) else (FM,Br m)
theorem N7{m:Md}(hw:m.wf)(h:Br m=0):(Bg (A3 m)).length<=18573:=by obtain⟨_,f,l⟩:=Uz hw h;have:=f.len;omega
theorem FQ{m:Md}(hw:m.wf)(h:Br m=0):I7 (Bg (A3 m)):=by obtain⟨_,f,_⟩:=Uz hw h;intro y hy;obtain⟨x,hx,hy⟩:=List.mem_flatMap.1 hy;have:=(f x hx).1;exact Alw this.k1 this.k8 this.n0 y hy
section
variable {fu d:Nat}{m:Md}
theorem Af3(Bo:20000<=fu)(hw:m.wf):Aq C0 prog fu (d+10) 35 [.agg m.cells]=some ⟨MF m,[]⟩:=by
 refine (RZ fu (d+9) m.ver m.iss m.nxt m.ents.length (B5 m.ents) m.sig.leaf m.sig.chains.length (Ac .u64 m.sig.chains) m.sig.path.length (Ac .u64 m.sig.path)).trans ?_;have bq:=Afc (fu:=fu) (d:=d) (by omega) hw;simp only[Md.cells] at bq;unfold Jh at bq;unfold MF;by_cases h0:Br m=0
 ·have lb:=N7 hw h0;rw[Bn h0] at bq;rw[Bn h0];have e00:((0:Int) != 0)=false:=rfl;have hh:=Amo (xs:=M9) (fu:=fu) (d:=d+4) (FQ hw h0) (by omega) (by omega) (by omega) 15;have eW:Rj 15 (Bg (A3 m))=Sh m:=rfl;rw[eW] at hh;have L1:=Ap .u8 (Bg (A3 m));have t1:=Mi .u8 (Bg (A3 m));generalize (Bg (A3 m)).length=n1 at *
  generalize Ac .u8 (Bg (A3 m))=c1 at *
  repeat(with_reducible(first|apply Ai|apply Ae|apply Aj|apply Bb|apply A6|apply At|apply Ad|apply Ah|apply Cs);· first|constructor|(simp(disch:=omega)only[Ct,bq,e00,De,Ck,Er,L1,t1,hh]<;>first|constructor|omega)|omega)
  try simp(disch:=omega)only[Aa,bq,e00,De,Ck,Er,L1,t1,hh]
  all_goals rfl
 ·have Gu:(Br m != 0)=true:=by simp[h0]
  rw[A4 h0] at bq;rw[A4 h0]
  repeat(with_reducible(first|apply Ai|apply Ae|apply Aj|apply Bb|apply A6|apply At|apply Ad|apply Ah|apply Cs);· first|constructor|(simp(disch:=omega)only[Ct,bq,Gu]<;>first|constructor|omega)|omega)
  try simp(disch:=omega)only[Aa,bq,Gu]
  all_goals rfl
theorem Ayc(Bo:20000<=fu)(hw:m.wf)(k:Ky):Aq C0 prog fu (d+11) 19 [.agg m.cells,.agg k.cells]=some ⟨[Au (RV m k)],[]⟩:=by
 refine (LY fu (d+10) m.ver m.iss m.nxt m.ents.length (B5 m.ents) m.sig.leaf m.sig.chains.length (Ac .u64 m.sig.chains) m.sig.path.length (Ac .u64 m.sig.path) k.h k.root).trans ?_;have bq:=Af3 (fu:=fu) (d:=d) Bo hw;simp only[Md.cells] at bq;unfold MF at bq;unfold RV;by_cases h0:Br m=0
 ·rw[Bn h0] at bq;rw[Bn h0];have hv:=Jm h0;have e00:((0:Int) != 0)=false:=rfl;have w:wrap .i64 (m.ver-1)=m.ver-1:=Ag (by omega) (by omega);by_cases h1:m.sig.leaf≠m.ver-1
  ·have hn:(m.sig.leaf != m.ver-1)=true:=by simp[h1]
   rw[Bn h1]
   repeat(with_reducible(first|apply Ai|apply Ae|apply Aj|apply Bb|apply A6|apply At|apply Ad|apply Ah|apply Cs);· first|constructor|(simp(disch:=omega)only[Ct,bq,e00,w,hn]<;>first|constructor|omega)|omega)
   try simp(disch:=omega)only[Aa,bq,e00,w,hn]
   all_goals rfl
  ·have hn:(m.sig.leaf != m.ver-1)=false:=by simp only[ne_eq,Decidable.not_not] at h1;simp[h1]
   rw[A4 h1];have vr:=Ao9 (xs:=M9) (fu:=fu) (d:=d+2) (by omega) k (Sh m) m.sig;simp only[Ky.cells,Sg.cells] at vr
   repeat(with_reducible(first|apply Ai|apply Ae|apply Aj|apply Bb|apply A6|apply At|apply Ad|apply Ah|apply Cs);· first|constructor|(simp(disch:=omega)only[Ct,bq,e00,w,hn,vr]<;>first|constructor|omega)|omega)
   try simp(disch:=omega)only[Aa,bq,e00,w,hn,vr]
   all_goals rfl
 ·have Gu:(Br m != 0)=true:=by simp[h0]
  rw[A4 h0] at bq;rw[A4 h0]
  repeat(with_reducible(first|apply Ai|apply Ae|apply Aj|apply Bb|apply A6|apply At|apply Ad|apply Ah|apply Cs);· first|constructor|(simp(disch:=omega)only[Ct,bq,Gu]<;>first|constructor|omega)|omega)
  try simp(disch:=omega)only[Aa,bq,Gu]
  all_goals rfl
theorem Amv(Bo:20000<=fu)(hw:m.wf)(hp:m.sig.path.length<=1000000000)(hf:m.sig.path.length<fu):Aq C0 prog fu (d+10) 25 [.agg m.cells]=some ⟨T8 m,[]⟩:=by
 refine (KW fu (d+9) m.ver m.iss m.nxt m.ents.length (B5 m.ents) m.sig.leaf m.sig.chains.length (Ac .u64 m.sig.chains) m.sig.path.length (Ac .u64 m.sig.path)).trans ?_;have bq:=Afc (fu:=fu) (d:=d) (by omega) hw;simp only[Md.cells] at bq;have es:=Aob (xs:=M9) (fu:=fu) (d:=d+7) (by omega) m.sig hp hf;simp only[Sg.cells] at es;unfold Jh at bq;unfold T8 Dv;by_cases h0:Br m=0
 ·have lb:=N7 hw h0;rw[Bn h0] at bq;rw[Bn h0];have L1:=Ap .u8 (Bg (A3 m));have t1:=Mi .u8 (Bg (A3 m));have e00:((0:Int) != 0)=false:=rfl;have e90:((9:Int) != 0)=true:=rfl;have e40:((4:Int) != 0)=true:=rfl;unfold OG;by_cases g1:Dz m.sig.path.length=true
  ·rw[Bn g1] at es;rw[Bn g1,A4 (by omega)]
   repeat(with_reducible(first|apply Ai|apply Ae|apply Aj|apply Bb|apply A6|apply At|apply Ad|apply Ah|apply Cs);· first|constructor|(simp(disch:=omega)only[Ct,bq,es,e00,e90]<;>first|constructor|omega)|omega)
   try simp(disch:=omega)only[Aa,bq,es,e00,e90]
   all_goals rfl
  rw[A4 g1] at es;rw[A4 g1];by_cases g2:Ip m.sig.leaf m.sig.path.length=true
  ·rw[Bn g2] at es;rw[Bn g2,A4 (by omega)]
   repeat(with_reducible(first|apply Ai|apply Ae|apply Aj|apply Bb|apply A6|apply At|apply Ad|apply Ah|apply Cs);· first|constructor|(simp(disch:=omega)only[Ct,bq,es,e00,e90]<;>first|constructor|omega)|omega)
   try simp(disch:=omega)only[Aa,bq,es,e00,e90]
   all_goals rfl
  rw[A4 g2] at es;rw[A4 g2];by_cases g3:m.sig.chains.length≠18
  ·rw[Bn g3] at es;rw[Bn g3,A4 (by omega)]
   repeat(with_reducible(first|apply Ai|apply Ae|apply Aj|apply Bb|apply A6|apply At|apply Ad|apply Ah|apply Cs);· first|constructor|(simp(disch:=omega)only[Ct,bq,es,e00,e40]<;>first|constructor|omega)|omega)
   try simp(disch:=omega)only[Aa,bq,es,e00,e40]
   all_goals rfl
  rw[A4 g3] at es;rw[A4 g3,Bn rfl];have hb4:=H0 (h:=m.sig.path.length) (by simpa using g1)
  have ls:(Sm m.sig).length=2+8*m.sig.chains.length+8*m.sig.path.length:=by
   unfold Sm;simp only[He,F9,Do];omega
  have L2:=Ap .u8 (Sm m.sig);have t2:=Mi .u8 (Sm m.sig)
  have ea:Ac .u8 (Bg (A3 m))++Ac .u8 (Sm m.sig)=Ac .u8 (Fz m):=by
   unfold Fz;rw[Ac,Ac,Ac,List.flatMap_append]
  have le:(Fz m).length=(Bg (A3 m)).length+(Sm m.sig).length:=by unfold Fz;rw[F9]
  have L3:=Ap .u8 (Fz m);have t3:List.take ((Bg (A3 m)).length+(Sm m.sig).length) (Ac .u8 (Fz m))=Ac .u8 (Fz m):=Hg (by omega);rw[le] at L3 ⊢;generalize (Bg (A3 m)).length=n1 at *
  generalize (Sm m.sig).length=n2 at *
  generalize Ac .u8 (Bg (A3 m))=c1 at *
  generalize Ac .u8 (Sm m.sig)=c2 at *
  repeat(with_reducible(first|apply Ai|apply Ae|apply Aj|apply Bb|apply A6|apply At|apply Ad|apply Ah|apply Cs);· first|constructor|(simp(disch:=omega)only[Ct,bq,es,e00,De,Ck,Er,L1,t1,L2,t2,ea,L3,t3]<;>first|constructor|omega)|omega)
  try simp(disch:=omega)only[Aa,bq,es,e00,De,Ck,Er,L1,t1,L2,t2,ea,L3,t3]
  all_goals rfl
 ·have Gu:(Br m != 0)=true:=by simp[h0]
  rw[A4 h0] at bq;rw[A4 h0,A4 h0]
  repeat(with_reducible(first|apply Ai|apply Ae|apply Aj|apply Bb|apply A6|apply At|apply Ad|apply Ah|apply Cs);· first|constructor|(simp(disch:=omega)only[Ct,bq,Gu]<;>first|constructor|omega)|omega)
  try simp(disch:=omega)only[Aa,bq,Gu]
  all_goals rfl
theorem Ant{l:List An}(hl:l.length<=1000000):Aq C0 prog fu (d+1) 71 [.lst false 3 l.length (C1 l)]=some ⟨[.lst false 3 l.length (C1 l)],[]⟩:=by
 refine (Qb fu d l.length (C1 l)).trans ?_;have L:=N5 l;have t:List.take (l.length*3) (C1 l)=C1 l:=Hg (by omega);by_cases h:0<l.length
 ·skip
  repeat(with_reducible(first|apply Ai|apply Ae|apply Aj|apply Bb|apply A6|apply At|apply Ad|apply Ah|apply Cs);· first|constructor|(simp(disch:=omega)only[Ct,L,t,UG,Ck,Er]<;>first|constructor|omega)|omega)
  try simp(disch:=omega)only[Aa,L,t,UG,Ck,Er]
  all_goals rfl
 ·have h0:l=[]:=List.eq_nil_of_length_eq_zero (by omega);subst h0;rw[D6 _ _ _ (by simp)];exact SW _
theorem Apw{l:List Sa}(hl:l.length<=1000000):Aq C0 prog fu (d+1) 72 [.lst false 2 l.length (Dq l)]=some ⟨[.lst false 2 l.length (Dq l)],[]⟩:=by
 refine (Qc fu d l.length (Dq l)).trans ?_;have L:=Zh l;have t:List.take (l.length*2) (Dq l)=Dq l:=Hg (by omega);by_cases h:0<l.length
 ·skip
  repeat(with_reducible(first|apply Ai|apply Ae|apply Aj|apply Bb|apply A6|apply At|apply Ad|apply Ah|apply Cs);· first|constructor|(simp(disch:=omega)only[Ct,L,t,UG,Ck,Er]<;>first|constructor|omega)|omega)
  try simp(disch:=omega)only[Aa,L,t,UG,Ck,Er]
  all_goals rfl
 ·have h0:l=[]:=List.eq_nil_of_length_eq_zero (by omega);subst h0;rw[D6 _ _ _ (by simp)];exact SW _
theorem Atf{x:Me}(h1:x.ans.length<=1000000)(h2:x.sts.length<=1000000):Aq C0 prog fu (d+2) 37 [.agg x.cells]=some ⟨[.agg x.cells],[]⟩:=by
 refine (R3 fu (d+1) x.model x.ans.length (C1 x.ans) x.sts.length (Dq x.sts)).trans ?_;have c1:=Ant (fu:=fu) (d:=d) h1;have c2:=Apw (fu:=fu) (d:=d) h2
 repeat(with_reducible(first|apply Ai|apply Ae|apply Aj|apply Bb|apply A6|apply At|apply Ad|apply Ah|apply Cs);· first|constructor|(simp(disch:=omega)only[Ct,c1,c2]<;>first|constructor|omega)|omega)
 try simp(disch:=omega)only[Aa,c1,c2]
 all_goals rfl
theorem Zk(a:List Me)(x:Me):B5 a++[Af x.model,.lst false 3 x.ans.length (C1 x.ans),.lst false 2 x.sts.length (Dq x.sts)]=B5 (a++[x]):=by unfold B5;rw[List.flatMap_append,J1,List.flatMap_nil,List.append_nil];rfl
theorem Aml{C7 Ch D0 AZ a1 a2:Int}{Po Pp Px:Nat}{BD BJ AK:Ab}{s:Sg}(h3:m.ents.length<=16)(h4:∀x∈m.ents,x.ans.length<=4/\x.sts.length<=4):∀(r:List Me)(i nn:Nat),m.ents.drop i=r->r.length<nn->i<=m.ents.length ->
  Mm fu (Aq C0 prog fu (d+2)) C7 Ch D0 Po BD AZ Pp BJ Px AK a1 a2 nn i m.ents.length (B5 m.ents) (m.ents.length:Int) (i:Int) m.ver m.iss m.nxt m.ents.length (B5 m.ents) m.sig.leaf m.sig.chains.length (Ac .u64 m.sig.chains) m.sig.path.length (Ac .u64 m.sig.path) 0 0 0 0 0 0 0 [] [] [] s.leaf s.chains.length (Ac .u64 s.chains) s.path.length (Ac .u64 s.path) (B5 (m.ents.take i)) =
   some ⟨[.agg ({ m with sig:=s }:Md).cells,Au 0],[]⟩
 |_,_,0,_,h,_=>by omega
 |[],i,nn+1,hd,hn,hi=>by
  have hl:=drop_nil hd;have ei:i=m.ents.length:=by omega
  have eall:m.ents.take i=m.ents:=Hg (by omega);rw[eall];subst ei;have L:=Mo m.ents;have t:List.take (m.ents.length*3) (B5 m.ents)=B5 m.ents:=Hg (by omega);rw[Vj]
  repeat(with_reducible(first|apply Ai|apply Ae|apply Aj|apply Bb|apply A6|apply At|apply Ad|apply Ah|apply Cs);· first|constructor|(simp(disch:=omega)only[Ct,L,t,Ck,Er]<;>first|constructor|omega)|omega)
  try simp(disch:=omega)only[Aa,L,t,Ck,Er]
  all_goals rfl
 |x::rs,i,nn+1,hd,hn,hi=>by
  obtain⟨q1,q2,q3⟩:=C8 hd;simp only[He] at hn;obtain⟨c0,c1,c2⟩:=mea q2;have c2':(B5 m.ents).getD (i*3+1+1) .top=.lst false 2 x.sts.length (Dq x.sts):=c2;have hx:=h4 x (List.mem_of_getElem? q2);have nt:Int.toNat (i:Int)=i:=H6 _;have w:wrap .i64 ((i:Int)+1)=((i+1:Nat):Int):=by rw[Ag (by omega) (by omega)];omega
  have et:m.ents.take (i+1)=m.ents.take i++[x]:=by rw[List.take_add_one,q2];rfl
  have cp:=Atf (fu:=fu) (d:=d) (x:=x) (by omega) (by omega);simp only[Me.cells] at cp;have lt:(m.ents.take i).length=i:=by rw[List.length_take];omega
  have L:(B5 (m.ents.take i)).length=i*3:=by rw[Mo,lt]
  have t:List.take (i*3) (B5 (m.ents.take i))=B5 (m.ents.take i):=Hg (by omega);have ea:=Zk (m.ents.take i) x;rw[<-et] at ea;have ih:=Aml (C7:=C7) (Ch:=Ch) (D0:=D0) (AZ:=AZ) (a1:=a1) (a2:=a2) (Po:=Po) (Pp:=Pp) (Px:=Px) (BD:=BD) (BJ:=BJ) (AK:=AK) (s:=s) h3 h4 rs (i+1) nn q3 (by omega) (by omega);rw[<-ih,Vj];generalize B5 (m.ents.take i)=E1 at *
  generalize B5 (m.ents.take (i+1))=E2 at *
  repeat(with_reducible(first|apply Ai|apply Ae|apply Aj|apply Bb|apply A6|apply At|apply Ad|apply Ah|apply Cs);· first|constructor|(simp(disch:=omega)only[Ct,nt,c0,c1,c2',cp,L,t,ea,w]<;>first|constructor|omega)|omega)
  try simp(disch:=omega)only[Aa,nt,c0,c1,c2',cp,L,t,ea,w]
  all_goals rfl
theorem Aw7(seed h leaf w:Int):Aq C0 prog fu (d+1) 36 [Af seed,Au h,Au leaf,Af w] =
  some ⟨[.agg [Au (tkL h leaf),.lst false 1 (tkC seed h leaf w).length (Ac .u64 (tkC seed h leaf w)),.lst false 1 (tkP seed h leaf).length (Ac .u64 (tkP seed h leaf))],Au (tkE h leaf)],[]⟩:=by kernel_rfl
theorem Azv(seed h leaf w:Int):(KG seed h leaf w=none/\tkE h leaf=9)\/(KG seed h leaf w=some ⟨tkL h leaf,tkC seed h leaf w,tkP seed h leaf⟩/\tkE h leaf=0):=by
 unfold KG tkE tkL tkC tkP WQ;cases Dz h
 ·cases Ip leaf h
  ·exact .inr ⟨rfl,rfl⟩
  ·exact .inl ⟨rfl,rfl⟩
 ·exact .inl ⟨rfl,rfl⟩
theorem Aii{p:Option Int}:∀{l:List Me},(∀x∈l,C4 x=0)->∀x∈l,x.ans.length<=4/\x.sts.length<=4:=fun h x hx=>⟨(Ox (h x hx)).1,(Ox (h x hx)).2.1⟩
theorem Asj(Bo:20000<=fu)(hw:m.wf)(seed h:Int):Aq C0 prog fu (d+11) 16 [.agg m.cells,Af seed,Au h]=some ⟨[.agg (R6 m seed h).1.cells,Au (R6 m seed h).2],[]⟩:=by
 refine (RW fu (d+10) m.ver m.iss m.nxt m.ents.length (B5 m.ents) m.sig.leaf m.sig.chains.length (Ac .u64 m.sig.chains) m.sig.path.length (Ac .u64 m.sig.path) seed h).trans ?_;have bq:=Af3 (fu:=fu) (d:=d) Bo hw;simp only[Md.cells] at bq;unfold MF at bq;unfold R6;by_cases h0:Br m=0
 ·rw[Bn h0] at bq;rw[Bn h0];have hv:=Jm h0;have e00:((0:Int) != 0)=false:=rfl;have e90:((9:Int) != 0)=true:=rfl;have w:wrap .i64 (m.ver-1)=m.ver-1:=Ag (by omega) (by omega);have tk:=Aw7 (fu:=fu) (d:=d+9) seed h (m.ver-1) (Sh m);have La:=Ap .u64 (tkC seed h (m.ver-1) (Sh m));have Lb:=Ap .u64 (tkP seed h (m.ver-1));rcases Azv seed h (m.ver-1) (Sh m) with⟨hs,he⟩|⟨hs,he⟩
  ·rw[hs];rw[he] at tk
   repeat(with_reducible(first|apply Ai|apply Ae|apply Aj|apply Bb|apply A6|apply At|apply Ad|apply Ah|apply Cs);· first|constructor|(simp(disch:=omega)only[Ct,bq,e00,e90,w,tk]<;>first|constructor|omega)|omega)
   try simp(disch:=omega)only[Aa,bq,e00,e90,w,tk]
   all_goals rfl
  ·rw[hs];rw[he] at tk;have sl:=Aml (fu:=fu) (d:=d+8) (m:=m) (C7:=m.ver) (Ch:=m.iss) (D0:=m.nxt) (AZ:=m.sig.leaf) (a1:=seed) (a2:=h) (Po:=m.ents.length) (Pp:=m.sig.chains.length) (Px:=m.sig.path.length) (BD:=B5 m.ents) (BJ:=Ac .u64 m.sig.chains) (AK:=Ac .u64 m.sig.path) (s:=⟨tkL h (m.ver-1),tkC seed h (m.ver-1) (Sh m),tkP seed h (m.ver-1)⟩) (by omega) (Aii (p:=none) (Mp hv.2.2.2.2.2.2)) m.ents 0 fu rfl (by omega) (by omega);have ev:B5 (m.ents.take 0)=[]:=rfl;have z0:((0:Nat):Int)=0:=rfl;rw[ev,z0] at sl;simp only;rw[<-sl]
   repeat(with_reducible(first|apply Ai|apply Ae|apply Aj|apply Bb|apply A6|apply At|apply Ad|apply Ah|apply Cs);· first|constructor|(simp(disch:=omega)only[Ct,bq,e00,e90,w,tk]<;>first|constructor|omega)|omega)
   try simp(disch:=omega)only[Aa,bq,e00,e90,w,tk]
   all_goals rfl
 ·have Gu:(Br m != 0)=true:=by simp[h0]
  rw[A4 h0] at bq;rw[A4 h0]
  repeat(with_reducible(first|apply Ai|apply Ae|apply Aj|apply Bb|apply A6|apply At|apply Ad|apply Ah|apply Cs);· first|constructor|(simp(disch:=omega)only[Ct,bq,Gu]<;>first|constructor|omega)|omega)
  try simp(disch:=omega)only[Aa,bq,Gu]
  all_goals rfl
end
section
variable {xs:FuncId->Option (Ab->Option Dt)}(fu d:Nat)(call:Bq)
theorem DO(Z:ByteArray):Fm C0 fu d 95 [.sc (.string Z)] fun call=>Az (decide ((↑(ByteArray.size Z):Int)<1)) (Bu [(9:Int)]) (Az (decide ((↑(ByteArray.size Z):Int)>32)) (Bu [(9:Int)]) (Dj (call 126 [.sc (.string Z)]) fun a b=>Cg a fun a=>Ar b<|Az (!a) (Bu [(6:Int)]) (Bu [(0:Int)]))):=by show _=_;kernel_rfl
def Ii(Z:Int)(Y:Nat)(X:Ab)(W:Nat)(V:Ab)(U T:Nat)(S Q:Int)(P:Nat)(O:Ab)(N:Nat)(M L:Ab):Option Dt:=K0 fu call 58 Tryz.f58 [.agg [Af Z,Am 3 Y X,Am 2 W V]] [.r,.r,.r,.l,.r,.l] U ⟨lk [(1,.ptr 1 0),(4,.view 4 3 0 T),(5,S)],B3 [(1,.st [Af Q,Am 3 P O,Am 2 N M]),(4,.ar false L)]⟩
def Gm(Z:Int)(Y:Nat)(X:Ab)(W:Nat)(V:Ab)(U T:Nat)(S Q:Int)(P:Nat)(O:Ab)(N:Nat)(M L:Ab):Option Dt:=K0 fu call 58 Tryz.f58 [.agg [Af Z,Am 3 Y X,Am 2 W V]] [.r,.r,.r,.r,.r,.l,.r,.l] U ⟨lk [(1,.ptr 1 0),(4,.view 4 3 0 T),(9,S)],B3 [(1,.st [Af Q,Am 3 P O,Am 2 N M]),(4,.ar false L)]⟩
theorem Fs(T:Int)(S:Nat)(Q:Ab)(P:Nat)(O:Ab)(L Y:Nat)(Z N:Int)(X:Nat)(W:Ab)(V:Nat)(M U:Ab):Ii fu call T S Q P O (L+1) Y Z N X W V M U=(Az (decide (Z<(↑X:Int))) (As (decide (0<=Z)&&decide (Z<(↑X:Int)))<|Ec (W.getD (Z.toNat*3+0) .top) fun a=>Lj .i64 (call 95 [.sc (.string a)]) fun a=>Az (a != 0) (Bu [.own 3 0 [],a]) (As (decide (0<=Z)&&decide (Z<(↑X:Int)))<|Be .i64 (W.getD (Z.toNat*3+1) .top) fun a=>Be .u64 (W.getD (Z.toNat*3+1+1) .top) fun b=>Dj (call 96 [.agg [a,Af b]]) fun a b=>J0 1 a fun a c=>Dc .i64 b fun b=>Az (b != 0) (Bu [.own 3 0 [],b]) (Dj (call 56 [(2:Int)]) fun b e=>Dl b fun b=>Cu .i64 b fun b f=>Cu .u64 f fun f g=>Av g fun g h=>Ec g fun g=>Ar h<|Ar e<|As (decide (0<=Z)&&decide (Z<(↑X:Int)))<|Ec (W.getD (Z.toNat*3+0) .top) fun e=>Dj (call 97 [.sc (.string e)]) fun e h=>Dl e fun e=>Cu .i64 e fun e i=>Cu .u64 i fun i j=>Av j fun j k=>Ec j fun j=>Ar k<|Ar h<|As (decide (0+a*1<=c.length))<|Dj (call 98 [Am 1 a (List.take (a*1) (c.drop 0))]) fun a c=>Dl a fun a=>Cu .i64 a fun a h=>Cu .u64 h fun h k=>Av k fun k m=>Ec k fun k=>Ar m<|Ar c<|As (decide (Y*3<=U.length)&&true&&decide ((Y+3)*32<=1099511627776)&&decide (Y+3<=1099511627776))<|Aa (Y+3) fun c=>Aa (List.take (Y*3) U++[Au b,Af f,.sc (.string g),Au e,Af i,.sc (.string j),Au a,Af h,.sc (.string k)]) fun a=>Aa (wrap .i64 (Z+1)) fun b=>Ii fu call T S Q P O L c b N X W V M a))) (Dj (call 56 [(↑V:Int)]) fun a b=>Dl a fun a=>Cu .i64 a fun a c=>Cu .u64 c fun c e=>Av e fun e f=>Ec e fun e=>Ar f<|Ar b<|On Y 3 32 U [a,Af c,.sc (.string e)] fun a b=>Gm fu call T S Q P O fu a 0 N X W V M b)):=by kernel_rfl
theorem Hh(U:Int)(T:Nat)(S:Ab)(Q:Nat)(P:Ab)(O Z:Nat)(Y N:Int)(M:Nat)(L:Ab)(W:Nat)(V X:Ab):Gm fu call U T S Q P (O+1) Z Y N M L W V X=(Az (decide (Y<(↑W:Int))) (As (decide (0<=Y)&&decide (Y<(↑W:Int)))<|Be .i64 (V.getD (Y.toNat*2) .top) fun a=>Be .i64 (V.getD (Y.toNat*2+1) .top) fun b=>Dj (call 51 [a,(1:Int),(4:Int)]) fun c e=>Cg c fun c=>Ar e<|Az (!c) (Bu [.own 3 0 [],(9:Int)]) (Dj (call 51 [b,(0:Int),(1099511627776:Int)]) fun c e=>Cg c fun c=>Ar e<|Az (!c) (Bu [.own 3 0 [],(9:Int)]) (Az (decide (Y>0)) (Aa (wrap .i64 (Y-1)) fun c=>As (decide (0<=c)&&decide (c<(↑W:Int)))<|Be .i64 (V.getD (c.toNat*2+1) .top) fun c=>Az (decide (b<=c)) (Bu [.own 3 0 [],(7:Int)]) (Dj (call 56 [(2:Int)]) fun c e=>Dl c fun c=>Cu .i64 c fun c f=>Cu .u64 f fun f g=>Av g fun g h=>Ec g fun g=>Ar h<|Ar e<|Aa (wrap .u64 a) fun a=>Dj (call 57 [Af a]) fun a e=>Dl a fun a=>Cu .i64 a fun a h=>Cu .u64 h fun h i=>Av i fun i j=>Ec i fun i=>Ar j<|Ar e<|Aa (wrap .u64 b) fun b=>Dj (call 57 [Af b]) fun b e=>Dl b fun b=>Cu .i64 b fun b j=>Cu .u64 j fun j k=>Av k fun k m=>Ec k fun k=>Ar m<|Ar e<|As (decide (Z*3<=X.length)&&true&&decide ((Z+3)*32<=1099511627776)&&decide (Z+3<=1099511627776))<|Aa (Z+3) fun e=>Aa (List.take (Z*3) X++[Au c,Af f,.sc (.string g),Au a,Af h,.sc (.string i),Au b,Af j,.sc (.string k)]) fun a=>Aa (wrap .i64 (Y+1)) fun b=>Gm fu call U T S Q P O e b N M L W V a)) (Dj (call 56 [(2:Int)]) fun c e=>Dl c fun c=>Cu .i64 c fun c f=>Cu .u64 f fun f g=>Av g fun g h=>Ec g fun g=>Ar h<|Ar e<|Aa (wrap .u64 a) fun a=>Dj (call 57 [Af a]) fun a e=>Dl a fun a=>Cu .i64 a fun a h=>Cu .u64 h fun h i=>Av i fun i j=>Ec i fun i=>Ar j<|Ar e<|Aa (wrap .u64 b) fun b=>Dj (call 57 [Af b]) fun b e=>Dl b fun b=>Cu .i64 b fun b j=>Cu .u64 j fun j k=>Av k fun k m=>Ec k fun k=>Ar m<|Ar e<|As (decide (Z*3<=X.length)&&true&&decide ((Z+3)*32<=1099511627776)&&decide (Z+3<=1099511627776))<|Aa (Z+3) fun e=>Aa (List.take (Z*3) X++[Au c,Af f,.sc (.string g),Au a,Af h,.sc (.string i),Au b,Af j,.sc (.string k)]) fun a=>Aa (wrap .i64 (Y+1)) fun b=>Gm fu call U T S Q P O e b N M L W V a)))) (As (decide (Z*3<=X.length))<|Bu [.own 3 Z (X.take (Z*3)),(0:Int)])):=by kernel_rfl
theorem EQ(Y:Int)(Z:Nat)(W:Ab)(X:Nat)(V:Ab):Fm C0 fu d 58 [.agg [Af Y,Am 3 Z W,Am 2 X V]] fun call=>Az (decide ((↑Z:Int)>4)) (Bu [.own 3 0 [],(8:Int)]) (Az (decide ((↑X:Int)>4)) (Bu [.own 3 0 [],(8:Int)]) (Dj (call 56 [(3:Int)]) fun a b=>Dl a fun a=>Cu .i64 a fun a c=>Cu .u64 c fun c e=>Av e fun e f=>Ec e fun e=>Ar f<|Ar b<|Dj (call 57 [Af Y]) fun b f=>Dl b fun b=>Cu .i64 b fun b g=>Cu .u64 g fun g h=>Av h fun h i=>Ec h fun h=>Ar i<|Ar f<|Dj (call 56 [(↑Z:Int)]) fun f i=>Dl f fun f=>Cu .i64 f fun f j=>Cu .u64 j fun j k=>Av k fun k m=>Ec k fun k=>Ar m<|Ar i<|Ii fu call Y Z W X V fu 3 0 Y Z W X V ([a,Af c,.sc (.string e),b,Af g,.sc (.string h),f,Af j,.sc (.string k)]))):=by show _=_;kernel_rfl
def Ff(Z Y X:Int)(W:Nat)(V:Ab)(U:Int)(T:Nat)(S:Ab)(Q:Nat)(P:Ab)(O N:Nat)(M L:Int)(K J:Int)(I:Nat)(H:Ab)(G:Int)(E:Nat)(D:Ab)(B:Nat)(A z:Ab):Option Dt:=K0 fu call 31 Tryz.f31 [.agg [Z,Y,X,Am 3 W V,U,Am 1 T S,Am 1 Q P]] [.r,.r,.r,.l,.r,.l] O ⟨lk [(1,.ptr 1 0),(4,.view 4 3 0 N),(5,M)],B3 [(1,.st [L,K,J,Am 3 I H,G,Am 1 E D,Am 1 B A]),(4,.ar false z)]⟩
theorem Ly(U T S:Int)(Q:Nat)(P:Ab)(O:Int)(N:Nat)(M:Ab)(L:Nat)(K:Ab)(J Y:Nat)(Z I:Int)(H G:Int)(W:Nat)(X:Ab)(E:Int)(D:Nat)(B:Ab)(A:Nat)(z V:Ab):Ff fu call U T S Q P O N M L K (J+1) Y Z I H G W X E D B A z V=(Az (decide (Z<(↑W:Int))) (Az (decide (Z>0)) (As (decide (0<=Z)&&decide (Z<(↑W:Int)))<|Be .u64 (X.getD (Z.toNat*3+0) .top) fun a=>Aa (wrap .i64 (Z-1)) fun b=>As (decide (0<=b)&&decide (b<(↑W:Int)))<|Be .u64 (X.getD (b.toNat*3+0) .top) fun b=>Az (decide (a<=b)) (Bu [.own 1 0 [],(7:Int)]) (As (decide (0<=Z)&&decide (Z<(↑W:Int)))<|Be .u64 (X.getD (Z.toNat*3) .top) fun a=>Ow 3 (X.getD (Z.toNat*3+1) .top) fun b c e=>Ow 2 (X.getD (Z.toNat*3+1+1) .top) fun b f g=>Dj (call 58 [.agg [Af a,Am 3 c e,Am 2 f g]]) fun a b=>J0 3 a fun a c=>Dc .i64 b fun b=>Az (b != 0) (Bu [.own 1 0 [],b]) (As (decide (0+a*3<=c.length))<|As (decide (Y*3<=V.length)&&decide (List.length (List.take (a*3) (c.drop 0))=a*3)&&decide ((Y+a)*32<=1099511627776)&&decide (Y+a<=1099511627776))<|Aa (Y+a) fun b=>Aa (List.take (Y*3) V++List.take (a*3) (c.drop 0)) fun a=>Aa (wrap .i64 (Z+1)) fun c=>Ff fu call U T S Q P O N M L K J b c I H G W X E D B A z a))) (As (decide (0<=Z)&&decide (Z<(↑W:Int)))<|Be .u64 (X.getD (Z.toNat*3) .top) fun a=>Ow 3 (X.getD (Z.toNat*3+1) .top) fun b c e=>Ow 2 (X.getD (Z.toNat*3+1+1) .top) fun b f g=>Dj (call 58 [.agg [Af a,Am 3 c e,Am 2 f g]]) fun a b=>J0 3 a fun a c=>Dc .i64 b fun b=>Az (b != 0) (Bu [.own 1 0 [],b]) (As (decide (0+a*3<=c.length))<|As (decide (Y*3<=V.length)&&decide (List.length (List.take (a*3) (c.drop 0))=a*3)&&decide ((Y+a)*32<=1099511627776)&&decide (Y+a<=1099511627776))<|Aa (Y+a) fun b=>Aa (List.take (Y*3) V++List.take (a*3) (c.drop 0)) fun a=>Aa (wrap .i64 (Z+1)) fun c=>Ff fu call U T S Q P O N M L K J b c I H G W X E D B A z a))) (As (decide (0+Y*3<=V.length))<|Dj (call 59 [Am 3 Y (List.take (Y*3) (V.drop 0))]) fun a b=>J0 1 a fun a c=>Ar b<|As (decide (a*1<=c.length))<|Bu [.own 1 a (c.take (a*1)),(0:Int)])):=by kernel_rfl
theorem Y1(X Z Y:Int)(W:Nat)(V:Ab)(U:Int)(T:Nat)(S:Ab)(Q:Nat)(P:Ab):Fm C0 fu d 31 [.agg [X,Z,Y,Am 3 W V,U,Am 1 T S,Am 1 Q P]] fun call=>Dj (call 51 [X,(1:Int),(16:Int)]) fun a b=>Cg a fun a=>Ar b<|Az (!a) (Bu [.own 1 0 [],(9:Int)]) (Az (decide (Z<0)) (Bu [.own 1 0 [],(9:Int)]) (Az (decide (Y<Z)) (Bu [.own 1 0 [],(9:Int)]) (Az (decide (Y>1099511627776)) (Bu [.own 1 0 [],(9:Int)]) (Az (decide ((↑W:Int)>16)) (Bu [.own 1 0 [],(8:Int)]) (Dj (call 56 [(4:Int)]) fun a b=>Dl a fun a=>Cu .i64 a fun a c=>Cu .u64 c fun c e=>Av e fun e f=>Ec e fun e=>Ar f<|Ar b<|Aa (wrap .u64 X) fun b=>Dj (call 57 [Af b]) fun b f=>Dl b fun b=>Cu .i64 b fun b g=>Cu .u64 g fun g h=>Av h fun h i=>Ec h fun h=>Ar i<|Ar f<|Aa (wrap .u64 Z) fun f=>Dj (call 57 [Af f]) fun f i=>Dl f fun f=>Cu .i64 f fun f j=>Cu .u64 j fun j k=>Av k fun k m=>Ec k fun k=>Ar m<|Ar i<|Aa (wrap .u64 Y) fun i=>Dj (call 57 [Af i]) fun i m=>Dl i fun i=>Cu .i64 i fun i n=>Cu .u64 n fun n o=>Av o fun o p=>Ec o fun o=>Ar p<|Ar m<|Dj (call 56 [(↑W:Int)]) fun m p=>Dl m fun m=>Cu .i64 m fun m q=>Cu .u64 q fun q s=>Av s fun s t=>Ec s fun s=>Ar t<|Ar p<|Ff fu call X Z Y W V U T S Q P fu 5 0 X Z Y W V U T S Q P ([a,Af c,.sc (.string e),b,Af g,.sc (.string h),f,Af j,.sc (.string k),i,Af n,.sc (.string o),m,Af q,.sc (.string s)])))))):=by show _=_;kernel_rfl
theorem Yg(Z Y X:Int)(W:Nat)(V:Ab)(U:Int)(T:Nat)(S:Ab)(Q:Nat)(P:Ab)(O N:Int):Fm C0 fu d 12 [.agg [Z,Y,X,Am 3 W V,U,Am 1 T S,Am 1 Q P],Af O,N] fun call=>Dj (call 31 [.agg [Z,Y,X,Am 3 W V,U,Am 1 T S,Am 1 Q P]]) fun a b=>J0 1 a fun a c=>Dc .i64 b fun b=>Az (b != 0) (Bu [.agg [(0:Int),(0:Int),(0:Int),Am 3 0 [],(0:Int),Am 1 0 [],Am 1 0 []],b]) (Aa (wrap .i64 (Z-1)) fun b=>As (decide (0+a*1<=c.length))<|Lj .u64 (call 33 [(15:Int),Am 1 a (List.take (a*1) (c.drop 0))]) fun a=>Dj (call 32 [Af O,N,b,Af a]) fun a b=>Dl a fun a=>Cu .i64 a fun a c=>Ue 1 c fun c e f=>Ue 1 f fun f g h=>Ar h<|Dc .i64 b fun b=>Az (b != 0) (Bu [.agg [(0:Int),(0:Int),(0:Int),Am 3 0 [],(0:Int),Am 1 0 [],Am 1 0 []],b]) (As (decide (0+c*1<=e.length))<|As (decide (0+f*1<=g.length))<|Bu [.agg [Z,Y,X,Am 3 W V,a,Am 1 c (List.take (c*1) (e.drop 0)),Am 1 f (List.take (f*1) (g.drop 0))],(0:Int)])):=by show _=_;kernel_rfl
theorem V7(Y T S:Int)(Q:Nat)(P:Ab)(Z:Int)(X:Nat)(W:Ab)(V:Nat)(U:Ab)(O N:Int):Fm C0 fu d 20 [.agg [Y,T,S,Am 3 Q P,Z,Am 1 X W,Am 1 V U],.agg [O,Af N]] fun call=>Dj (call 31 [.agg [Y,T,S,Am 3 Q P,Z,Am 1 X W,Am 1 V U]]) fun a b=>J0 1 a fun a c=>Dc .i64 b fun b=>Az (b != 0) (Bu [b]) (Aa (wrap .i64 (Y-1)) fun b=>Az (Z != b) (Bu [(33:Int)]) (As (decide (0+a*1<=c.length))<|Lj .u64 (call 33 [(15:Int),Am 1 a (List.take (a*1) (c.drop 0))]) fun a=>Lj .i64 (call 41 [.agg [O,Af N],Af a,.agg [Z,Am 1 X W,Am 1 V U]]) fun a=>Bu [a])):=by show _=_;kernel_rfl
theorem We(U T S:Int)(Q:Nat)(P:Ab)(Z:Int)(Y:Nat)(X:Ab)(W:Nat)(V:Ab):Fm C0 fu d 21 [.agg [U,T,S,Am 3 Q P,Z,Am 1 Y X,Am 1 W V]] fun call=>Dj (call 31 [.agg [U,T,S,Am 3 Q P,Z,Am 1 Y X,Am 1 W V]]) fun a b=>J0 1 a fun a c=>Dc .i64 b fun b=>Az (b != 0) (Bu [.own 1 0 [],b]) (Dj (call 42 [.agg [Z,Am 1 Y X,Am 1 W V]]) fun b e=>J0 1 b fun b f=>Dc .i64 e fun e=>Az (e != 0) (Bu [.own 1 0 [],e]) (As (decide (0+b*1<=f.length))<|As (decide (a*1<=c.length)&&decide (List.length (List.take (b*1) (f.drop 0))=b*1)&&decide ((a+b)*1<=1099511627776)&&decide (a+b<=1099511627776))<|Aa (a+b) fun e=>Aa (List.take (a*1) c++List.take (b*1) (f.drop 0)) fun a=>As (decide (e*1<=a.length))<|Bu [.own 1 e (a.take (e*1)),(0:Int)])):=by show _=_;kernel_rfl
theorem Ul(X:Nat)(Z:Ab)(Y:Int)(W:Bool)(V:Int):Fm C0 fu d 118 [.pbox [Am 3 X Z,Y,.sc (.bool W)],V] fun call=>Az (decide (Y>=(↑X:Int))) (some ⟨[.agg [(0:Int),Af 0,.sc (.string (ByteArray.mk #[]))]],[[Am 3 X Z,Y,.sc (.bool true)]]⟩) (As (decide (0<=Y)&&decide (Y<(↑X:Int)))<|Be .i64 (Z.getD (Y.toNat*3+0) .top) fun a=>Az (a != V) (some ⟨[.agg [(0:Int),Af 0,.sc (.string (ByteArray.mk #[]))]],[[Am 3 X Z,Y,.sc (.bool true)]]⟩) (Aa (wrap .i64 (Y+1)) fun a=>Aa (wrap .i64 (a-1)) fun b=>As (decide (0<=b)&&decide (b<(↑X:Int)))<|Be .i64 (Z.getD (b.toNat*3) .top) fun c=>Be .u64 (Z.getD (b.toNat*3+1) .top) fun e=>Ec (Z.getD (b.toNat*3+1+1) .top) fun b=>some ⟨[.agg [c,Af e,.sc (.string b)]],[[Am 3 X Z,a,.sc (.bool W)]]⟩)):=by show _=_;kernel_rfl
theorem Wi(Z:Nat)(Y:Ab)(X:Int)(W:Bool)(V:Int):Fm C0 fu d 82 [.pbox [Am 3 Z Y,X,.sc (.bool W)],Af V] fun call=>Bj (call 118 [.pbox [Am 3 Z Y,X,.sc (.bool W)],(1:Int)]) fun a b=>Av a fun a c=>Dl a fun a=>Cu .i64 a fun a e=>Cu .u64 e fun a e=>Av e fun e f=>Ec e fun e=>Ar f<|Ar c<|Av b fun b c=>G5 3 b fun b e f=>Cu .i64 f fun f g=>Wb g fun g=>Ar c<|Az (decide (a>V)) (some ⟨[(0:Int)],[[Am 3 b e,f,.sc (.bool true)]]⟩) (Aa (wrap .i64 a) fun a=>some ⟨[a],[[Am 3 b e,f,.sc (.bool g)]]⟩):=by show _=_;kernel_rfl
theorem Up(Z:Nat)(Y:Ab)(X:Int)(W:Bool)(V:Int):Fm C0 fu d 81 [.pbox [Am 3 Z Y,X,.sc (.bool W)],V] fun call=>Bj (call 118 [.pbox [Am 3 Z Y,X,.sc (.bool W)],(5:Int)]) fun a b=>Av a fun a c=>Dl a fun a=>Cu .i64 a fun a e=>Cu .u64 e fun a e=>Av e fun e f=>Ec e fun e=>Ar f<|Ar c<|Av b fun b c=>G5 3 b fun b e f=>Cu .i64 f fun f g=>Wb g fun g=>Ar c<|Aa (wrap .u64 V) fun c=>Az (decide (a>c)) (some ⟨[(0:Int)],[[Am 3 b e,f,.sc (.bool true)]]⟩) (Aa (wrap .i64 a) fun a=>some ⟨[a],[[Am 3 b e,f,.sc (.bool g)]]⟩):=by show _=_;kernel_rfl
def Ep(Z:Nat)(Y:Ab)(X:Int)(W:Bool)(V:Nat)(U:Int)(T:Nat)(S:Ab)(Q:Int)(P:Bool)(O:Int)(N M:Nat)(L K:Ab)(J:Int)(I H:Nat)(G E:Ab):Option Dt:=K0 fu call 83 Tryz.f83 [.pbox [Am 3 Z Y,X,.sc (.bool W)]] [.r,.r,.r,.l,.r,.l] V ⟨lk [(0,.ptr 180000 0),(2,.ptr 2 0),(3,.ptr 3 0),(4,U)],B3 [(180000,.st [Am 3 T S,Q,.sc (.bool P)]),(2,.st [Af O,.view 182 3 0 N,.view 272 2 0 M]),(182,.ar false L),(272,.ar false K),(3,.st [Af J,.view 183 3 0 I,.view 273 2 0 H]),(183,.ar false G),(273,.ar false E)]⟩
def Di(Z:Nat)(Y:Ab)(X:Int)(W:Bool)(V:Nat)(U:Int)(T:Nat)(S:Ab)(Q:Int)(P:Bool)(O:Int)(N M:Nat)(L K:Ab)(J:Int)(I H:Nat)(G E:Ab):Option Dt:=K0 fu call 83 Tryz.f83 [.pbox [Am 3 Z Y,X,.sc (.bool W)]] [.r,.r,.r,.r,.l,.r,.l] V ⟨lk [(0,.ptr 180000 0),(2,.ptr 2 0),(3,.ptr 3 0),(8,U)],B3 [(180000,.st [Am 3 T S,Q,.sc (.bool P)]),(2,.st [Af O,.view 182 3 0 N,.view 272 2 0 M]),(182,.ar false L),(272,.ar false K),(3,.st [Af J,.view 183 3 0 I,.view 273 2 0 H]),(183,.ar false G),(273,.ar false E)]⟩
theorem Qs(Z:Nat)(Y:Ab)(X:Int)(W:Bool)(E:Nat)(J:Int)(I:Nat)(H:Ab)(G:Int)(V:Bool)(U:Int)(T S:Nat)(Q P:Ab)(O:Int)(N M:Nat)(L K:Ab):Ep fu call Z Y X W (E+1) J I H G V U T S Q P O N M L K=(Az (decide (J>0)) (Az (!V) (Bj (call 81 [.pbox [Am 3 I H,G,.sc (.bool V)],(2:Int)]) fun a b=>Dc .i64 a fun a=>Av b fun a b=>G5 3 a fun a c e=>Cu .i64 e fun e f=>Wb f fun f=>Ar b<|Bj (call 118 [.pbox [Am 3 a c,e,.sc (.bool f)],(4:Int)]) fun a b=>Av a fun a c=>Dl a fun a=>Cu .i64 a fun a e=>Cu .u64 e fun a e=>Av e fun a e=>Ec a fun a=>Ar e<|Ar c<|Av b fun b c=>G5 3 b fun b e f=>Cu .i64 f fun f g=>Wb g fun g=>Ar c<|Bj (call 118 [.pbox [Am 3 b e,f,.sc (.bool g)],(3:Int)]) fun b c=>Av b fun b e=>Dl b fun b=>Cu .i64 b fun b f=>Cu .u64 f fun b f=>Av f fun b f=>Ec b fun b=>Ar f<|Ar e<|Av c fun c e=>G5 3 c fun c f g=>Cu .i64 g fun g h=>Wb h fun h=>Ar e<|As (decide (ByteArray.size b<=1099511627776))<|As (decide (0+ByteArray.size b*1<=List.length (Ej b)))<|Dj (call 119 [Am 1 (ByteArray.size b) (List.take (ByteArray.size b*1) (List.drop 0 (Ej b)))]) fun b e=>Dl b fun b=>Cu .i64 b fun b i=>Dc .u64 i fun i=>Dc .i64 e fun e=>Az h (On N 3 32 L [.sc (.string a),b,Af i] fun a b=>Aa (wrap .i64 (J-1)) fun e=>Ep fu call Z Y X W E e c f g true U T S Q P O a M b K) (On N 3 32 L [.sc (.string a),b,Af i] fun a b=>Aa (wrap .i64 (J-1)) fun h=>Ep fu call Z Y X W E h c f g (e != 0) U T S Q P O a M b K)) (Bj (call 81 [.pbox [Am 3 I H,G,.sc (.bool V)],(4:Int)]) fun a b=>Dc .i64 a fun a=>Av b fun b c=>G5 3 b fun b e f=>Cu .i64 f fun f g=>Wb g fun g=>Ar c<|Di fu call Z Y X W fu a b e f g U T S Q P O N M L K)) (Bj (call 81 [.pbox [Am 3 I H,G,.sc (.bool V)],(4:Int)]) fun a b=>Dc .i64 a fun a=>Av b fun b c=>G5 3 b fun b e f=>Cu .i64 f fun f g=>Wb g fun g=>Ar c<|Di fu call Z Y X W fu a b e f g U T S Q P O N M L K)):=by kernel_rfl
theorem Q9(O:Nat)(N:Ab)(M:Int)(L:Bool)(K:Nat)(P:Int)(U:Nat)(T:Ab)(S:Int)(V:Bool)(J:Int)(I H:Nat)(G E:Ab)(Q:Int)(Z Y:Nat)(X W:Ab):Di fu call O N M L (K+1) P U T S V J I H G E Q Z Y X W=(Az (decide (P>0)) (Az (!V) (Bj (call 81 [.pbox [Am 3 U T,S,.sc (.bool V)],(2:Int)]) fun a b=>Dc .i64 a fun a=>Av b fun a b=>G5 3 a fun a c e=>Cu .i64 e fun e f=>Wb f fun f=>Ar b<|Bj (call 82 [.pbox [Am 3 a c,e,.sc (.bool f)],Af 4]) fun a b=>Dc .i64 a fun a=>Av b fun b c=>G5 3 b fun b e f=>Cu .i64 f fun f g=>Wb g fun g=>Ar c<|Bj (call 82 [.pbox [Am 3 b e,f,.sc (.bool g)],Af 1099511627776]) fun b c=>Dc .i64 b fun b=>Av c fun c e=>G5 3 c fun c f g=>Cu .i64 g fun g h=>Wb h fun h=>Ar e<|On Y 2 16 W [a,b] fun a b=>Aa (wrap .i64 (P-1)) fun e=>Di fu call O N M L K e c f g h J I H G E Q Z a X b) (As (decide (0+Z*3<=X.length))<|As (decide (0+Y*2<=W.length))<|some ⟨[.agg [Af Q,Am 3 Z (List.take (Z*3) (X.drop 0)),Am 2 Y (List.take (Y*2) (W.drop 0))]],[[Am 3 U T,S,.sc (.bool V)]]⟩)) (As (decide (0+Z*3<=X.length))<|As (decide (0+Y*2<=W.length))<|some ⟨[.agg [Af Q,Am 3 Z (List.take (Z*3) (X.drop 0)),Am 2 Y (List.take (Y*2) (W.drop 0))]],[[Am 3 U T,S,.sc (.bool V)]]⟩)):=by kernel_rfl
theorem Tx(Z:Nat)(Y:Ab)(X:Int)(W:Bool):Fm C0 fu d 83 [.pbox [Am 3 Z Y,X,.sc (.bool W)]] fun call=>Bj (call 81 [.pbox [Am 3 Z Y,X,.sc (.bool W)],(3:Int)]) fun a b=>Dc .i64 a fun a=>Av b fun a b=>G5 3 a fun a c e=>Cu .i64 e fun e f=>Wb f fun f=>Ar b<|Bj (call 118 [.pbox [Am 3 a c,e,.sc (.bool f)],(1:Int)]) fun a b=>Av a fun a c=>Dl a fun a=>Cu .i64 a fun a e=>Cu .u64 e fun a e=>Av e fun e f=>Ec e fun e=>Ar f<|Ar c<|Av b fun b c=>G5 3 b fun b e f=>Cu .i64 f fun f g=>Wb g fun g=>Ar c<|Bj (call 81 [.pbox [Am 3 b e,f,.sc (.bool g)],(4:Int)]) fun b c=>Dc .i64 b fun b=>Av c fun c e=>G5 3 c fun c f g=>Cu .i64 g fun g h=>Wb h fun h=>Ar e<|Ep fu call Z Y X W fu b c f g h 0 0 0 ([]) ([]) a 0 0 ([]) ([]):=by show _=_;kernel_rfl
def Dw(Z:Nat)(Y:Ab)(X W:Nat)(V:Ab)(U T:Int)(S Q P:Int)(O:Nat)(N:Int)(M L:Nat)(K J I:Ab)(H:Nat)(G:Ab)(E:Int)(D:Bool)(B A z:Int)(w:Nat)(v:Int)(u t:Nat)(y25 y26 y27:Ab):Option Dt:=K0 fu call 43 Tryz.f43 [Am 1 Z Y] [.r,.r,.r,.r,.r,.r,.r,.r,.r,.r,.l,.r,.l] X ⟨lk [(0,Am 1 W V),(2,.ptr 2 0),(5,U),(7,.ptr 7 0),(8,.ptr 8 0),(9,T)],B3 [(2,.st [S,Q,P,.view 374 3 0 O,N,.view 560 1 0 M,.view 653 1 0 L]),(374,.ar false K),(560,.ar false J),(653,.ar false I),(7,.st [Am 3 H G,E,.sc (.bool D)]),(8,.st [B,A,z,.view 380 3 0 w,v,.view 566 1 0 u,.view 659 1 0 t]),(380,.ar false y25),(566,.ar false y26),(659,.ar false y27)]⟩
theorem Hr(O:Nat)(N:Ab)(M Y:Nat)(V:Ab)(X P:Int)(L K J:Int)(I:Nat)(H:Int)(G E:Nat)(D B A:Ab)(z:Nat)(w:Ab)(v:Int)(Q:Bool)(U T S:Int)(Z:Nat)(u:Int)(t y24:Nat)(W y26 y27:Ab):Dw fu call O N (M+1) Y V X P L K J I H G E D B A z w v Q U T S Z u t y24 W y26 y27=(Az (decide (P>0)) (Az (!Q) (Bj (call 83 [.pbox [Am 3 z w,v,.sc (.bool Q)]]) fun a b=>Av a fun a c=>Dl a fun a=>Cu .u64 a fun a e=>G5 3 e fun e f g=>G5 2 g fun g h i=>Ar i<|Ar c<|Av b fun b c=>G5 3 b fun b i j=>Cu .i64 j fun j k=>Wb k fun k=>Ar c<|On Z 3 56 W [Af a,Am 3 e f,Am 2 g h] fun a c=>Aa (wrap .i64 (P-1)) fun e=>Dw fu call O N M Y V X e L K J I H G E D B A b i j k U T S a u t y24 c y26 y27) (As (decide (0<=X))<|As (decide (X.toNat<=Y)&&decide (Y<=Y))<|Aa (Y-X.toNat) fun a=>Aa (List.take (a*1) (V.drop (X.toNat*1))) fun b=>Dj (call 84 [Am 1 a b]) fun a b=>Dl a fun a=>Cu .i64 a fun a c=>Ue 1 c fun c e f=>Ue 1 f fun f g h=>Ar h<|Dc .i64 b fun b=>Az Q (Bu [.agg [(0:Int),(0:Int),(0:Int),Am 3 0 [],(0:Int),Am 1 0 [],Am 1 0 []],(2:Int)]) (Az (b != 0) (Bu [.agg [(0:Int),(0:Int),(0:Int),Am 3 0 [],(0:Int),Am 1 0 [],Am 1 0 []],(2:Int)]) (As (decide (0+Z*3<=W.length))<|As (decide (0+c*1<=e.length))<|As (decide (0+f*1<=g.length))<|Dj (call 21 [.agg [U,T,S,Am 3 Z (List.take (Z*3) (W.drop 0)),a,Am 1 c (List.take (c*1) (e.drop 0)),Am 1 f (List.take (f*1) (g.drop 0))]]) fun b h=>J0 1 b fun b i=>Dc .i64 h fun h=>Az (h != 0) (Bu [.agg [(0:Int),(0:Int),(0:Int),Am 3 0 [],(0:Int),Am 1 0 [],Am 1 0 []],(2:Int)]) (As (decide (0+b*1<=i.length))<|As (decide (List.length (List.take (b*1) (i.drop 0))=b))<|F3 (bytesOf (List.take (b*1) (i.drop 0))) fun b=>As (decide (V.length=Y))<|F3 (bytesOf V) fun h=>Az (!Array.toList (ByteArray.data (ByteArray.mk (List.toArray b)))==Array.toList (ByteArray.data (ByteArray.mk (List.toArray h)))) (Bu [.agg [(0:Int),(0:Int),(0:Int),Am 3 0 [],(0:Int),Am 1 0 [],Am 1 0 []],(2:Int)]) (As (decide (0+Z*3<=W.length))<|As (decide (0+c*1<=e.length))<|As (decide (0+f*1<=g.length))<|Bu [.agg [U,T,S,Am 3 Z (List.take (Z*3) (W.drop 0)),a,Am 1 c (List.take (c*1) (e.drop 0)),Am 1 f (List.take (f*1) (g.drop 0))],(0:Int)])))))) (As (decide (0<=X))<|As (decide (X.toNat<=Y)&&decide (Y<=Y))<|Aa (Y-X.toNat) fun a=>Aa (List.take (a*1) (V.drop (X.toNat*1))) fun b=>Dj (call 84 [Am 1 a b]) fun a b=>Dl a fun a=>Cu .i64 a fun a c=>Ue 1 c fun c e f=>Ue 1 f fun f g h=>Ar h<|Dc .i64 b fun b=>Az Q (Bu [.agg [(0:Int),(0:Int),(0:Int),Am 3 0 [],(0:Int),Am 1 0 [],Am 1 0 []],(2:Int)]) (Az (b != 0) (Bu [.agg [(0:Int),(0:Int),(0:Int),Am 3 0 [],(0:Int),Am 1 0 [],Am 1 0 []],(2:Int)]) (As (decide (0+Z*3<=W.length))<|As (decide (0+c*1<=e.length))<|As (decide (0+f*1<=g.length))<|Dj (call 21 [.agg [U,T,S,Am 3 Z (List.take (Z*3) (W.drop 0)),a,Am 1 c (List.take (c*1) (e.drop 0)),Am 1 f (List.take (f*1) (g.drop 0))]]) fun b h=>J0 1 b fun b i=>Dc .i64 h fun h=>Az (h != 0) (Bu [.agg [(0:Int),(0:Int),(0:Int),Am 3 0 [],(0:Int),Am 1 0 [],Am 1 0 []],(2:Int)]) (As (decide (0+b*1<=i.length))<|As (decide (List.length (List.take (b*1) (i.drop 0))=b))<|F3 (bytesOf (List.take (b*1) (i.drop 0))) fun b=>As (decide (V.length=Y))<|F3 (bytesOf V) fun h=>Az (!Array.toList (ByteArray.data (ByteArray.mk (List.toArray b)))==Array.toList (ByteArray.data (ByteArray.mk (List.toArray h)))) (Bu [.agg [(0:Int),(0:Int),(0:Int),Am 3 0 [],(0:Int),Am 1 0 [],Am 1 0 []],(2:Int)]) (As (decide (0+Z*3<=W.length))<|As (decide (0+c*1<=e.length))<|As (decide (0+f*1<=g.length))<|Bu [.agg [U,T,S,Am 3 Z (List.take (Z*3) (W.drop 0)),a,Am 1 c (List.take (c*1) (e.drop 0)),Am 1 f (List.take (f*1) (g.drop 0))],(0:Int)])))))):=by kernel_rfl
theorem Wh(Z:Nat)(Y:Ab):Fm C0 fu d 43 [Am 1 Z Y] fun call=>Az (decide ((↑Z:Int)>4096)) (Bu [.agg [(0:Int),(0:Int),(0:Int),Am 3 0 [],(0:Int),Am 1 0 [],Am 1 0 []],(8:Int)]) (Dj (call 80 [Am 1 Z Y]) fun a b=>J0 3 a fun a c=>Cu .i64 b fun b e=>Dc .i64 e fun e=>Az (e != 0) (Bu [.agg [(0:Int),(0:Int),(0:Int),Am 3 0 [],(0:Int),Am 1 0 [],Am 1 0 []],(2:Int)]) (As (decide (0+a*3<=c.length))<|Bj (call 81 [.pbox [Am 3 a (List.take (a*3) (c.drop 0)),(0:Int),.sc (.bool false)],(4:Int)]) fun a c=>Dc .i64 a fun a=>Av c fun a c=>G5 3 a fun a e f=>Cu .i64 f fun f g=>Wb g fun g=>Ar c<|Bj (call 82 [.pbox [Am 3 a e,f,.sc (.bool g)],Af 16]) fun a c=>Dc .i64 a fun a=>Av c fun c e=>G5 3 c fun c f g=>Cu .i64 g fun g h=>Wb h fun h=>Ar e<|Bj (call 82 [.pbox [Am 3 c f,g,.sc (.bool h)],Af 1099511627776]) fun c e=>Dc .i64 c fun c=>Av e fun e f=>G5 3 e fun e g h=>Cu .i64 h fun h i=>Wb i fun i=>Ar f<|Bj (call 82 [.pbox [Am 3 e g,h,.sc (.bool i)],Af 1099511627776]) fun e f=>Dc .i64 e fun e=>Av f fun f g=>G5 3 f fun f h i=>Cu .i64 i fun i j=>Wb j fun j=>Ar g<|Bj (call 81 [.pbox [Am 3 f h,i,.sc (.bool j)],(16:Int)]) fun f g=>Dc .i64 f fun f=>Av g fun g h=>G5 3 g fun g i j=>Cu .i64 j fun j k=>Wb k fun k=>Ar h<|Dw fu call Z Y fu Z Y b f 0 0 0 0 0 0 0 ([]) ([]) ([]) g i j k a c e 0 0 0 0 ([]) ([]) ([]))):=by show _=_;kernel_rfl
theorem CK(Y T S:Int)(Q:Nat)(P:Ab)(O:Int)(N:Nat)(M:Ab)(L:Nat)(K:Ab)(X:Nat)(W:Ab)(V U Z:Int):Fm C0 fu d 28 [.agg [Y,T,S,Am 3 Q P,O,Am 1 N M,Am 1 L K],Am 1 X W,.agg [V,Af U],Z] fun call=>Dj (call 51 [Z,(0:Int),(1099511627776:Int)]) fun a b=>Cg a fun a=>Ar b<|Az (!a) (Bu [.agg [(0:Int),(0:Int),(0:Int),Am 3 0 [],(0:Int),Am 1 0 [],Am 1 0 []],(9:Int)]) (Dj (call 43 [Am 1 X W]) fun a b=>Dl a fun a=>Cu .i64 a fun a c=>Cu .i64 c fun c e=>Cu .i64 e fun e f=>G5 3 f fun f g h=>Cu .i64 h fun h i=>G5 1 i fun i j k=>G5 1 k fun k m n=>Ar n<|Dc .i64 b fun b=>Az (b != 0) (Bu [.agg [(0:Int),(0:Int),(0:Int),Am 3 0 [],(0:Int),Am 1 0 [],Am 1 0 []],b]) (Az (decide (a<=Y)) (Bu [.agg [(0:Int),(0:Int),(0:Int),Am 3 0 [],(0:Int),Am 1 0 [],Am 1 0 []],(7:Int)]) (Lj .i64 (call 20 [.agg [a,c,e,Am 3 f g,h,Am 1 i j,Am 1 k m],.agg [V,Af U]]) fun b=>Az (b != 0) (Bu [.agg [(0:Int),(0:Int),(0:Int),Am 3 0 [],(0:Int),Am 1 0 [],Am 1 0 []],b]) (Dj (call 51 [Z,c,e]) fun b n=>Cg b fun b=>Ar n<|Az (!b) (Bu [.agg [(0:Int),(0:Int),(0:Int),Am 3 0 [],(0:Int),Am 1 0 [],Am 1 0 []],(19:Int)]) (Bu [.agg [a,c,e,Am 3 f g,h,Am 1 i j,Am 1 k m],(0:Int)]))))):=by show _=_;kernel_rfl
def Gi(Z:Int)(Y:Nat)(X:Ab)(W:Nat)(V:Ab)(U:Int)(T:Nat)(S:Ab)(Q:Nat)(P:Ab)(O:Nat)(N M:Int)(L:Nat)(K:Ab)(J:Nat)(I:Ab)(H:Int)(G:Nat)(E:Ab)(D:Nat)(B:Ab):Option Dt:=K0 fu call 73 Tryz.f73 [.agg [Af Z,Am 3 Y X,Am 2 W V],.agg [Af U,Am 3 T S,Am 2 Q P]] [.r,.r,.l,.r,.l] O ⟨lk [(2,.ptr 2 0),(3,.ptr 3 0),(5,N)],B3 [(2,.st [Af M,Am 3 L K,Am 2 J I]),(3,.st [Af H,Am 3 G E,Am 2 D B])]⟩
def Gj(Z:Int)(Y:Nat)(X:Ab)(W:Nat)(V:Ab)(U:Int)(T:Nat)(S:Ab)(Q:Nat)(P:Ab)(O:Nat)(N M:Int)(L:Nat)(K:Ab)(J:Nat)(I:Ab)(H:Int)(G:Nat)(E:Ab)(D:Nat)(B:Ab):Option Dt:=K0 fu call 73 Tryz.f73 [.agg [Af Z,Am 3 Y X,Am 2 W V],.agg [Af U,Am 3 T S,Am 2 Q P]] [.r,.r,.r,.l,.r,.l] O ⟨lk [(2,.ptr 2 0),(3,.ptr 3 0),(6,N)],B3 [(2,.st [Af M,Am 3 L K,Am 2 J I]),(3,.st [Af H,Am 3 G E,Am 2 D B])]⟩
theorem K5(U:Int)(T:Nat)(S:Ab)(Q:Nat)(P:Ab)(O:Int)(N:Nat)(M:Ab)(L:Nat)(K:Ab)(B:Nat)(Z J:Int)(W:Nat)(Y:Ab)(I:Nat)(H:Ab)(G:Int)(V:Nat)(X:Ab)(E:Nat)(D:Ab):Gi fu call U T S Q P O N M L K (B+1) Z J W Y I H G V X E D=(Az (decide (Z<(↑W:Int))) (As (decide (0<=Z)&&decide (Z<(↑W:Int)))<|Ec (Y.getD (Z.toNat*3) .top) fun a=>Be .i64 (Y.getD (Z.toNat*3+1) .top) fun b=>Be .u64 (Y.getD (Z.toNat*3+1+1) .top) fun c=>As (decide (0<=Z)&&decide (Z<(↑V:Int)))<|Ec (X.getD (Z.toNat*3) .top) fun e=>Be .i64 (X.getD (Z.toNat*3+1) .top) fun f=>Be .u64 (X.getD (Z.toNat*3+1+1) .top) fun g=>Az (!(a==e&&(b==f&&(c==g&&true)))) (Bu [.sc (.bool false)]) (Aa (wrap .i64 (Z+1)) fun a=>Gi fu call U T S Q P O N M L K B a J W Y I H G V X E D)) (Gj fu call U T S Q P O N M L K fu 0 J W Y I H G V X E D)):=by kernel_rfl
theorem K6(U:Int)(T:Nat)(S:Ab)(Q:Nat)(P:Ab)(O:Int)(N:Nat)(M:Ab)(L:Nat)(K:Ab)(J:Nat)(Z I:Int)(H:Nat)(G:Ab)(Y:Nat)(X:Ab)(E:Int)(D:Nat)(B:Ab)(V:Nat)(W:Ab):Gj fu call U T S Q P O N M L K (J+1) Z I H G Y X E D B V W=(Az (decide (Z<(↑Y:Int))) (As (decide (0<=Z)&&decide (Z<(↑Y:Int)))<|Be .i64 (X.getD (Z.toNat*2) .top) fun a=>Be .i64 (X.getD (Z.toNat*2+1) .top) fun b=>As (decide (0<=Z)&&decide (Z<(↑V:Int)))<|Be .i64 (W.getD (Z.toNat*2) .top) fun c=>Be .i64 (W.getD (Z.toNat*2+1) .top) fun e=>Az (!(a==c&&(b==e&&true))) (Bu [.sc (.bool false)]) (Aa (wrap .i64 (Z+1)) fun a=>Gj fu call U T S Q P O N M L K J a I H G Y X E D B V W)) (Bu [.sc (.bool true)])):=by kernel_rfl
theorem Xu(Z:Int)(Y:Nat)(T:Ab)(X:Nat)(S:Ab)(W:Int)(V:Nat)(Q:Ab)(U:Nat)(P:Ab):Fm C0 fu d 73 [.agg [Af Z,Am 3 Y T,Am 2 X S],.agg [Af W,Am 3 V Q,Am 2 U P]] fun call=>Az (Z != W) (Bu [.sc (.bool false)]) (Az ((↑Y:Int) != (↑V:Int)) (Bu [.sc (.bool false)]) (Az ((↑X:Int) != (↑U:Int)) (Bu [.sc (.bool false)]) (Gi fu call Z Y T X S W V Q U P fu 0 Z Y T X S W V Q U P))):=by show _=_;kernel_rfl
def Fv(Z:Nat)(Y:Ab)(X:Nat)(W:Ab)(V U:Nat)(T:Ab)(S:Nat)(Q:Ab)(P:Int):Option Dt:=K0 fu call 38 Tryz.f38 [Am 3 Z Y,Am 3 X W] [.r,.r,.l,.r,.l] V ⟨lk [(0,Am 3 U T),(1,Am 3 S Q),(5,P)],B3 []⟩
theorem J4(U:Nat)(T:Ab)(S:Nat)(Q:Ab)(P W:Nat)(Y:Ab)(V:Nat)(X:Ab)(Z:Int):Fv fu call U T S Q (P+1) W Y V X Z=(Az (decide (Z<(↑W:Int))) (As (decide (0<=Z)&&decide (Z<(↑W:Int)))<|Be .u64 (Y.getD (Z.toNat*3) .top) fun a=>Ow 3 (Y.getD (Z.toNat*3+1) .top) fun b c e=>Ow 2 (Y.getD (Z.toNat*3+1+1) .top) fun b f g=>As (decide (0<=Z)&&decide (Z<(↑V:Int)))<|Be .u64 (X.getD (Z.toNat*3) .top) fun b=>Ow 3 (X.getD (Z.toNat*3+1) .top) fun h i j=>Ow 2 (X.getD (Z.toNat*3+1+1) .top) fun h k m=>Dj (call 73 [.agg [Af a,Am 3 c e,Am 2 f g],.agg [Af b,Am 3 i j,Am 2 k m]]) fun a b=>Cg a fun a=>Ar b<|Az (!a) (Bu [.sc (.bool false)]) (Aa (wrap .i64 (Z+1)) fun a=>Fv fu call U T S Q P W Y V X a)) (Bu [.sc (.bool true)])):=by kernel_rfl
theorem Vx(Z:Nat)(X:Ab)(Y:Nat)(W:Ab):Fm C0 fu d 38 [Am 3 Z X,Am 3 Y W] fun call=>Az ((↑Z:Int) != (↑Y:Int)) (Bu [.sc (.bool false)]) (Fv fu call Z X Y W fu Z X Y W 0):=by show _=_;kernel_rfl
theorem Y5(Z Y X:Int)(W:Nat)(V:Ab)(U:Int)(T:Nat)(S:Ab)(Q:Nat)(P:Ab)(O N M:Int)(L:Nat)(K:Ab)(J:Int)(I:Nat)(H:Ab)(G:Nat)(E:Ab):Fm C0 fu d 18 [.agg [Z,Y,X,Am 3 W V,U,Am 1 T S,Am 1 Q P],.agg [O,N,M,Am 3 L K,J,Am 1 I H,Am 1 G E]] fun call=>Az (Z==O) (Az (Y==N) (Az (X==M) (Dj (call 38 [Am 3 W V,Am 3 L K]) fun a b=>Cg a fun a=>Ar b<|Az a (Dj (call 39 [.agg [U,Am 1 T S,Am 1 Q P],.agg [J,Am 1 I H,Am 1 G E]]) fun a b=>Cg a fun a=>Ar b<|Bu [.sc (.bool a)]) (Bu [.sc (.bool false)])) (Bu [.sc (.bool false)])) (Bu [.sc (.bool false)])) (Bu [.sc (.bool false)]):=by show _=_;kernel_rfl
end
end
end Go.Proofs.YtpogefhpiaaliaaGreatDoor.Pv
