/-
  The proof of MetadataAccepts, part 6.
-/
import Derived.Test.YtpogefhpiaaliaaGreatDoorAE
import Derived.Test.YtpogefhpiaaliaaGreatDoorRows
import Derived.Shelf.Abstract
import Derived.WalkKit
import Derived.OwnWalkIn
import Derived.TacticsInMore
set_option linter.unusedSimpArgs false
set_option linter.unusedVariables false
namespace Go.Proofs.YtpogefhpiaaliaaGreatDoor.Pv
open Go.IntKind (wrap)
open Go.Proofs.Tryz (prog)
set_option maxRecDepth 1000000
noncomputable section
def YD(s:RS):Ab:=[.lst false 3 s.1.length (Ay s.1),.sc (.bool s.2)]
theorem Ap2(x:It)(r:List It):Ay (x::r)=Au x.k :: Af x.n :: .sc (.string x.s)::Ay r:=rfl
section
variable {fu d:Nat}
theorem KY(k:Int)(s:RS):Aq C0 prog fu (d+1) 124 [.pbox (YD s),Au k]=some ⟨[.agg (Bp k s).1.cells],[YD (Bp k s).2]⟩:=by
 refine (AJ fu d s.1.length (Ay s.1) s.2 k).trans ?_;obtain⟨l,b⟩:=s;cases b
 ·cases l with
  |nil=>rfl
  |cons x r=>
   unfold Bp;rw[A4 (by simp)];simp only[Ap2,He];have g0:List.getD (PV.sc (.int .i64 x.k) :: Af x.n :: .sc (.string x.s)::Ay r) 0 .top=Au x.k:=rfl;have g1:List.getD (PV.sc (.int .i64 x.k) :: Af x.n :: .sc (.string x.s)::Ay r) 1 .top=Af x.n:=rfl;have g2:List.getD (PV.sc (.int .i64 x.k) :: Af x.n :: .sc (.string x.s)::Ay r) 2 .top=.sc (.string x.s):=rfl;have g3:List.drop 3 (PV.sc (.int .i64 x.k) :: Af x.n :: .sc (.string x.s)::Ay r)=Ay r:=rfl;have L:=Cx r;have t:List.take (r.length*3) (Ay r)=Ay r:=Hg (by omega);have z:(((r.length+1:Nat):Int)==0)=false:=by simp;omega
   have e1:r.length+1-1=r.length:=rfl;by_cases hk:x.k=k
   ·have hn:(x.k != k)=false:=by simp[hk]
    rw[Bn hk]
    repeat(with_reducible(first|apply Ai|apply Ae|apply Aj|apply Ao|apply Aw|apply A6|apply At|apply Ad|apply Ah|apply Cs);· first|constructor|(simp(disch:=omega)only[Ct,z,g0,g1,g2,g3,hn,e1,t]<;>first|constructor|omega)|omega)
    try simp(disch:=omega)only[Aa,z,g0,g1,g2,g3,hn,e1,t]
    all_goals rfl
   ·have hn:(x.k != k)=true:=by simp[hk]
    rw[A4 hk]
    repeat(with_reducible(first|apply Ai|apply Ae|apply Aj|apply Ao|apply Aw|apply A6|apply At|apply Ad|apply Ah|apply Cs);· first|constructor|(simp(disch:=omega)only[Ct,z,g0,g1,g2,g3,hn]<;>first|constructor|omega)|omega)
    try simp(disch:=omega)only[Aa,z,g0,g1,g2,g3,hn]
    all_goals rfl
 ·rfl
theorem FJ(s:RS):Aq C0 prog fu (d+2) 90 [.pbox (YD s)]=some ⟨[Af (Bp 1 s).1.n],[YD (Bp 1 s).2]⟩:=by
 refine (Xs fu (d+1) s.1.length (Ay s.1) s.2).trans ?_;have t:=KY (fu:=fu) (d:=d) 1 s;simp only[YD,It.cells] at t ⊢
 repeat(with_reducible(first|apply Ai|apply Ae|apply Aj|apply Ao|apply Aw|apply A6|apply At|apply Ad|apply Ah|apply Cs);· first|constructor|(simp(disch:=omega)only[Ct,t]<;>first|constructor|omega)|omega)
 try simp(disch:=omega)only[Aa,t]
theorem Rr(s:RS):Aq C0 prog fu (d+2) 89 [.pbox (YD s)]=some ⟨[Af (Bp 5 s).1.n],[YD (Bp 5 s).2]⟩:=by
 refine (Z6 fu (d+1) s.1.length (Ay s.1) s.2).trans ?_;have t:=KY (fu:=fu) (d:=d) 5 s;simp only[YD,It.cells] at t ⊢
 repeat(with_reducible(first|apply Ai|apply Ae|apply Aj|apply Ao|apply Aw|apply A6|apply At|apply Ad|apply Ah|apply Cs);· first|constructor|(simp(disch:=omega)only[Ct,t]<;>first|constructor|omega)|omega)
 try simp(disch:=omega)only[Aa,t]
def SL(f:Nat)(s:RS):Prop:=s.1.length+2<=f\/(s.2=true/\1<=f)
theorem UX{n:Int}(h:Uf n)(h1:n>0):wrap .u64 (n-1)=n-1/\Uf (n-1):=by
 unfold Uf at *
 exact⟨Cd (by omega) (by omega),by omega⟩
theorem Ab3(a:List An)(x:An):C1 a++[.sc (.string x.name),Au x.key.h,Af x.key.root]=C1 (a++[x]):=by unfold C1;rw[List.flatMap_append,J1,List.flatMap_nil,List.append_nil];rfl
theorem Ab2(a:List Sa)(x:Sa):Dq a++[Au x.kd,Au x.at_]=Dq (a++[x]):=by unfold Dq;rw[List.flatMap_append,J1,List.flatMap_nil,List.append_nil];rfl
theorem Az3{Kl:Nat}{C7:Ab}{Ch:Bool}{mo:Int}{A:List An}(hA:A.length<=3000):∀(f nn:Nat)(n:Int)(s:RS)(B:List Sa),SL f s->f<nn->Uf n->Sc s.1->B.length+f<=3000 ->
  Dh fu (Aq C0 prog fu (d+2)) Kl C7 Ch nn n s.1.length (Ay s.1) s.2 0 0 0 [] [] mo A.length B.length (C1 A) (Dq B) =
   some ⟨[.agg (Me.mk mo A (B++(Sf f n s).1)).cells],[YD (Sf f n s).2]⟩
 |0,_,n,s,_,h,_,_,_,_=>by unfold SL at h;omega
 |f+1,0,_,_,_,_,h,_,_,_=>by omega
 |f+1,nn+1,n,s,B,hr,hn,hu,ho,hB=>by
  have LA:=N5 A;have LB:=Zh B;have tA:List.take (A.length*3) (C1 A)=C1 A:=Hg (by omega);have tB:List.take (B.length*2) (Dq B)=Dq B:=Hg (by omega)
  have ex:¬(n>0/\s.2=false)->(Me.mk mo A (B++(Sf (f+1) n s).1))=Me.mk mo A B/\(Sf (f+1) n s).2=s:=fun h=>by
   unfold Sf;rw[A4 h];exact⟨by simp,rfl⟩
  obtain⟨l,b⟩:=s;rw[Qp];by_cases h0:n>0
  rotate_left
  ·obtain⟨e1,e2⟩:=ex (fun h=>h0 h.1);rw[e1,e2];simp only[YD,Me.cells]
   repeat(with_reducible(first|apply Ai|apply Ae|apply Aj|apply Ao|apply Aw|apply A6|apply At|apply Ad|apply Ah|apply Cs);· first|constructor|(simp(disch:=omega)only[Ct,LA,LB,tA,tB,Ck,Er]<;>first|constructor|omega)|omega)
   try simp(disch:=omega)only[Aa,LA,LB,tA,tB,Ck,Er]
   all_goals rfl
  cases b
  rotate_left
  ·obtain⟨e1,e2⟩:=ex (fun h=>by cases h.2);rw[e1,e2];simp only[YD,Me.cells]
   repeat(with_reducible(first|apply Ai|apply Ae|apply Aj|apply Ao|apply Aw|apply A6|apply At|apply Ad|apply Ah|apply Cs);· first|constructor|(simp(disch:=omega)only[Ct,LA,LB,tA,tB,Ck,Er,Cp,Ev]<;>first|constructor|omega)|omega)
   try simp(disch:=omega)only[Aa,LA,LB,tA,tB,Ck,Er,Cp,Ev]
   all_goals rfl
  clear ex;obtain⟨wd,ud⟩:=UX hu h0;obtain⟨k2,k3,k4⟩:=Avi (s:=(l,false)) ho
  have ih:=Az3 (Kl:=Kl) (C7:=C7) (Ch:=Ch) (mo:=mo) hA f nn (n-1) (XX (l,false)).2 (B++[(XX (l,false)).1]) (by
   unfold SL at hr ⊢;simp only at hr k4;cases q:(XX (l,false)).2.2
   ·have:=k4 q;simp at hr;omega
   ·simp at hr;right;exact⟨rfl,by omega⟩) (by omega) ud k2 (by rw[F9,List.length_singleton];omega)
  have es:Sf (f+1) n (l,false)=((XX (l,false)).1::(Sf f (n-1) (XX (l,false)).2).1,(Sf f (n-1) (XX (l,false)).2).2):=by
   rw[Sf,Bn ⟨h0,rfl⟩]
  have eB:B++(Sf (f+1) n (l,false)).1=(B++[(XX (l,false)).1])++(Sf f (n-1) (XX (l,false)).2).1:=by rw[es];simp
  have e2:(Sf (f+1) n (l,false)).2=(Sf f (n-1) (XX (l,false)).2).2:=by rw[es]
  have lB:(B++[(XX (l,false)).1]).length=B.length+1:=by rw[F9];rfl
  rw[eB,e2];rw[lB] at ih;rw[<-ih];clear ih es eB e2;have o1:=Rr (fu:=fu) (d:=d) (l,false);have o2:=FJ (fu:=fu) (d:=d) (Bp 5 (l,false)).2;have o3:=FJ (fu:=fu) (d:=d) (Bp 1 (Bp 5 (l,false)).2).2;have ea:=Ab2 B (XX (l,false)).1;simp only[XX] at ea ⊢;simp only[YD] at o1 o2 o3;generalize Dq (B++[_])=B' at *
  generalize Bp 1 (Bp 1 (Bp 5 (l,false)).2).2=u3 at *
  generalize Bp 1 (Bp 5 (l,false)).2=u2 at *
  generalize Bp 5 (l,false)=u1 at *
  repeat(with_reducible(first|apply Ai|apply Ae|apply Aj|apply Ao|apply Aw|apply A6|apply At|apply Ad|apply Ah|apply Cs);· first|constructor|(simp(disch:=omega)only[Ct,o1,o2,o3,wd,LB,tB,ea,Cp,Ev]<;>first|constructor|omega)|omega)
  try simp(disch:=omega)only[Aa,o1,o2,o3,wd,LB,tB,ea,Cp,Ev]
  all_goals rfl
theorem A0w(Bo:2000<=fu){Kl:Nat}{C7:Ab}{Ch:Bool}{mo:Int}:∀(f nn:Nat)(n:Int)(s:RS)(A:List An),SL f s->f<nn->Uf n->Sc s.1->A.length+f<=3000 ->
  Ek fu (Aq C0 prog fu (d+2)) Kl C7 Ch nn n s.1.length (Ay s.1) s.2 0 0 0 [] [] mo A.length 0 (C1 A) [] =
   Dh fu (Aq C0 prog fu (d+2)) Kl C7 Ch fu (Bp 5 (Ov f n s).2).1.n (Bp 5 (Ov f n s).2).2.1.length (Ay (Bp 5 (Ov f n s).2).2.1) (Bp 5 (Ov f n s).2).2.2 0 0 0 [] [] mo (A++(Ov f n s).1).length 0 (C1 (A++(Ov f n s).1)) []
 |0,_,n,s,_,h,_,_,_,_=>by unfold SL at h;omega
 |f+1,0,_,_,_,_,h,_,_,_=>by omega
 |f+1,nn+1,n,s,A,hr,hn,hu,ho,hB=>by
  have LA:=N5 A;have tA:List.take (A.length*3) (C1 A)=C1 A:=Hg (by omega)
  have ex:¬(n>0/\s.2=false)->A++(Ov (f+1) n s).1=A/\(Ov (f+1) n s).2=s:=fun h=>by
   unfold Ov;rw[A4 h];exact⟨by simp,rfl⟩
  obtain⟨l,b⟩:=s;rw[Re];by_cases h0:n>0
  rotate_left
  ·obtain⟨e1,e2⟩:=ex (fun h=>h0 h.1);rw[e1,e2];have o1:=Rr (fu:=fu) (d:=d) (l,b);simp only[YD] at o1
   repeat(with_reducible(first|apply Ai|apply Ae|apply Aj|apply Ao|apply Aw|apply A6|apply At|apply Ad|apply Ah|apply Cs);· first|constructor|(simp(disch:=omega)only[Ct,o1]<;>first|constructor|omega)|omega)
   try simp(disch:=omega)only[Aa,o1]
   all_goals rfl
  cases b
  rotate_left
  ·obtain⟨e1,e2⟩:=ex (fun h=>by cases h.2);rw[e1,e2];have o1:=Rr (fu:=fu) (d:=d) (l,true);simp only[YD] at o1
   repeat(with_reducible(first|apply Ai|apply Ae|apply Aj|apply Ao|apply Aw|apply A6|apply At|apply Ad|apply Ah|apply Cs);· first|constructor|(simp(disch:=omega)only[Ct,o1,Cp,Ev]<;>first|constructor|omega)|omega)
   try simp(disch:=omega)only[Aa,o1,Cp,Ev]
   all_goals rfl
  clear ex;obtain⟨wd,ud⟩:=UX hu h0;obtain⟨k1,k2,k3,k4⟩:=Atj (s:=(l,false)) ho
  have ih:=A0w Bo (Kl:=Kl) (C7:=C7) (Ch:=Ch) (mo:=mo) f nn (n-1) (SX (l,false)).2 (A++[(SX (l,false)).1]) (by
   unfold SL at hr ⊢;simp only at hr k4;cases q:(SX (l,false)).2.2
   ·have:=k4 q;simp at hr;omega
   ·simp at hr;right;exact⟨rfl,by omega⟩) (by omega) ud k2 (by rw[F9,List.length_singleton];omega)
  have es:Ov (f+1) n (l,false)=((SX (l,false)).1::(Ov f (n-1) (SX (l,false)).2).1,(Ov f (n-1) (SX (l,false)).2).2):=by
   rw[Ov,Bn ⟨h0,rfl⟩]
  have eA:A++(Ov (f+1) n (l,false)).1=(A++[(SX (l,false)).1])++(Ov f (n-1) (SX (l,false)).2).1:=by rw[es];simp
  have e2:(Ov (f+1) n (l,false)).2=(Ov f (n-1) (SX (l,false)).2).2:=by rw[es]
  have lA:(A++[(SX (l,false)).1]).length=A.length+1:=by rw[F9];rfl
  rw[eA,e2];generalize Ov f (n-1) (SX (l,false)).2=qq at *
  rw[<-ih,lA];clear ih es eA e2;obtain⟨_,_,a3,a4,a5⟩:=D1 (k:=5) (s:=(l,false)) ho;obtain⟨_,b2,b3,b4,b5⟩:=D1 (k:=4) a3;obtain⟨_,hs4,c3,c4,c5⟩:=D1 (k:=3) b3;have o1:=Rr (fu:=fu) (d:=d) (l,false);have o2:=KY (fu:=fu) (d:=d+1) 4 (Bp 5 (l,false)).2;have o3:=KY (fu:=fu) (d:=d+1) 3 (Bp 4 (Bp 5 (l,false)).2).2;have ea:=Ab3 A (SX (l,false)).1;simp only[SX] at ea ⊢;simp only[YD,It.cells] at o1 o2 o3;generalize Bp 3 (Bp 4 (Bp 5 (l,false)).2).2=u3 at *
  generalize Bp 4 (Bp 5 (l,false)).2=u2 at *
  generalize Bp 5 (l,false)=u1 at *
  have L4:(Ej u3.1.s).length=u3.1.s.size:=by rw[Lu,Ap,Gl]
  have t4:List.take u3.1.s.size (Ej u3.1.s)=Ac .u8 (Cy u3.1.s):=by rw[Lu,Hg (by rw[Ap,Gl];omega)]
  have dk:=Apq (xs:=M9) (fu:=fu) (d:=d) (by omega) (BK u3.1.s);rw[Gl] at dk;have e00:((0:Int) != 0)=false:=rfl;have e20:((2:Int) != 0)=true:=rfl;unfold Afr at ea ⊢;cases hk:IE (Cy u3.1.s) with
  |none=>
   rw[hk] at dk;simp only[NX,Ky.cells] at dk;simp only[hk,Option.getD_none,Option.isNone_none,Bool.or_true] at ea ⊢;generalize C1 (A++[_])=A' at *
   repeat(with_reducible(first|apply Ai|apply Ae|apply Aj|apply Ao|apply Aw|apply A6|apply At|apply Ad|apply Ah|apply Cs);· first|constructor|(simp(disch:=omega)only[Ct,o1,o2,o3,L4,t4,dk,e20,wd,LA,tA,ea,De,Ck,Er,Cp,Ev]<;>first|constructor|omega)|omega)
   try simp(disch:=omega)only[Aa,o1,o2,o3,L4,t4,dk,e20,wd,LA,tA,ea,De,Ck,Er,Cp,Ev]
   all_goals rfl
  |some k=>
   rw[hk] at dk;simp only[NX,Ky.cells] at dk;simp only[hk,Option.getD_some,Option.isNone_some,Bool.or_false] at ea ⊢;generalize C1 (A++[_])=A' at *
   repeat(with_reducible(first|apply Ai|apply Ae|apply Aj|apply Ao|apply Aw|apply A6|apply At|apply Ad|apply Ah|apply Cs);· first|constructor|(simp(disch:=omega)only[Ct,o1,o2,o3,L4,t4,dk,e00,wd,LA,tA,ea,De,Ck,Er,Cp,Ev]<;>first|constructor|omega)|omega)
   try simp(disch:=omega)only[Aa,o1,o2,o3,L4,t4,dk,e00,wd,LA,tA,ea,De,Ck,Er,Cp,Ev]
   all_goals rfl
theorem Axl(Bo:2000<=fu){s:RS}(ho:Sc s.1)(hl:s.1.length<=1000):Aq C0 prog fu (d+3) 91 [.pbox (YD s)]=some ⟨[.agg (Pq s).1.cells],[YD (Pq s).2]⟩:=by
 refine (T0 fu (d+2) s.1.length (Ay s.1) s.2).trans ?_;obtain⟨_,_,a3,a4,a5⟩:=D1 (k:=5) ho;obtain⟨_,_,b3,b4,b5⟩:=D1 (k:=1) a3;have hA:=D1 (k:=5) b3;have hB:=Acg (f:=s.1.length+2) (n:=(JE s).1.n) (s:=(JE s).2) hA.2.2.1;have hC:=D1 (k:=5) (s:=(FY s).2) hB.2.2.1;have l1:(JE s).2.1.length<=(Bp 5 s).2.1.length:=Nat.le_trans hA.2.2.2.1 b4;have l2:(FY s).2.1.length<=(JE s).2.1.length:=hB.2.2.2;have l3:(GE s).2.1.length<=(FY s).2.1.length:=hC.2.2.2.1;have m1:(FY s).1.length<=s.1.length+2:=hB.2.1;have r0:=A0w (fu:=fu) (d:=d) Bo (Kl:=s.1.length) (C7:=Ay s.1) (Ch:=s.2) (mo:=(Bp 1 (Bp 5 s).2).1.n) (s.1.length+2) fu (JE s).1.n (JE s).2 [] (by unfold SL;left;omega) (by omega) hA.1 hA.2.2.1 (by simp only[Ud];omega)
 have r1:=Az3 (fu:=fu) (d:=d) (Kl:=s.1.length) (C7:=Ay s.1) (Ch:=s.2) (mo:=(Bp 1 (Bp 5 s).2).1.n) (A:=(FY s).1) (by omega) (s.1.length+2) fu (GE s).1.n (GE s).2 [] (by unfold SL;left;omega) (by omega) hC.1 hC.2.2.1 (by simp only[Ud];omega)
 have r2:=r0.trans r1;have o1:=Rr (fu:=fu) (d:=d) s;have o2:=FJ (fu:=fu) (d:=d) (Bp 5 s).2;have o3:=Rr (fu:=fu) (d:=d) (Bp 1 (Bp 5 s).2).2;simp only[YD] at o1 o2 o3;have eR:(some ⟨[.agg (Pq s).1.cells],[YD (Pq s).2]⟩:Option Dt)=some ⟨[.agg (Me.mk (Bp 1 (Bp 5 s).2).1.n (FY s).1 ([]++(Sf (s.1.length+2) (GE s).1.n (GE s).2).1)).cells],[YD (Sf (s.1.length+2) (GE s).1.n (GE s).2).2]⟩:=rfl;rw[eR,<-r2];clear r0 r1 r2 eR
 repeat(with_reducible(first|apply Ai|apply Ae|apply Aj|apply Ao|apply Aw|apply A6|apply At|apply Ad|apply Ah|apply Cs);· first|constructor|(simp(disch:=omega)only[Ct,o1,o2,o3]<;>first|constructor|omega)|omega)
 try simp(disch:=omega)only[Aa,o1,o2,o3]
 all_goals rfl
theorem A03(Bo:2000<=fu){Mf:Nat}{a0:Ab}{v i x:Int}:∀(f nn:Nat)(n:Int)(s:RS)(A:List Me),SL f s->f<nn->Uf n->Sc s.1->s.1.length<=1000->A.length+f<=3000 ->
  Iz fu (Aq C0 prog fu (d+3)) Mf a0 nn n 0 0 0 0 0 0 0 [] [] [] s.1.length (Ay s.1) s.2 v i x A.length 0 0 0 (B5 A) [] [] =
   some ⟨[.agg (Md.mk v i x (A++(Jd f n s).1) GG).cells,.sc (.bool (!(Jd f n s).2.2&&(((Jd f n s).2.1.length:Int)==0)))],[]⟩
 |0,_,n,s,_,h,_,_,_,_,_=>by unfold SL at h;omega
 |f+1,0,_,_,_,_,h,_,_,_,_=>by omega
 |f+1,nn+1,n,s,A,hr,hn,hu,ho,hl,hB=>by
  have LA:=Mo A;have tA:List.take (A.length*3) (B5 A)=B5 A:=Hg (by omega)
  have ex:¬(n>0/\s.2=false)->A++(Jd (f+1) n s).1=A/\(Jd (f+1) n s).2=s:=fun h=>by
   unfold Jd;rw[A4 h];exact⟨by simp,rfl⟩
  obtain⟨l,b⟩:=s;rw[BM];by_cases h0:n>0
  rotate_left
  ·obtain⟨e1,e2⟩:=ex (fun h=>h0 h.1);rw[e1,e2];simp only[Md.cells];cases b
   ·skip
    repeat(with_reducible(first|apply Ai|apply Ae|apply Aj|apply Ao|apply Aw|apply A6|apply At|apply Ad|apply Ah|apply Cs);· first|constructor|(simp(disch:=omega)only[Ct,LA,tA,Ck,Er,Cp,Ev]<;>first|constructor|omega)|omega)
    try simp(disch:=omega)only[Aa,LA,tA,Ck,Er,Cp,Ev]
    all_goals rfl
   ·skip
    repeat(with_reducible(first|apply Ai|apply Ae|apply Aj|apply Ao|apply Aw|apply A6|apply At|apply Ad|apply Ah|apply Cs);· first|constructor|(simp(disch:=omega)only[Ct,LA,tA,Ck,Er,Cp,Ev]<;>first|constructor|omega)|omega)
    try simp(disch:=omega)only[Aa,LA,tA,Ck,Er,Cp,Ev]
    all_goals rfl
  cases b
  rotate_left
  ·obtain⟨e1,e2⟩:=ex (fun h=>by cases h.2);rw[e1,e2];simp only[Md.cells]
   repeat(with_reducible(first|apply Ai|apply Ae|apply Aj|apply Ao|apply Aw|apply A6|apply At|apply Ad|apply Ah|apply Cs);· first|constructor|(simp(disch:=omega)only[Ct,LA,tA,Ck,Er,Cp,Ev]<;>first|constructor|omega)|omega)
   try simp(disch:=omega)only[Aa,LA,tA,Ck,Er,Cp,Ev]
   all_goals rfl
  clear ex;obtain⟨wd,ud⟩:=UX hu h0;obtain⟨k1,k2,k3,_⟩:=Ada (s:=(l,false)) ho hl;have k4:=Att (s:=(l,false)) ho hl
  have ih:=A03 Bo (Mf:=Mf) (a0:=a0) (v:=v) (i:=i) (x:=x) f nn (n-1) (Pq (l,false)).2 (A++[(Pq (l,false)).1]) (by
   unfold SL at hr ⊢;simp only at hr k4;cases q:(Pq (l,false)).2.2
   ·have:=k4 q;simp at hr;omega
   ·simp at hr;right;exact⟨rfl,by omega⟩) (by omega) ud k2 (by simp only at k3 hl;omega) (by rw[F9,List.length_singleton];omega)
  have es:Jd (f+1) n (l,false)=((Pq (l,false)).1::(Jd f (n-1) (Pq (l,false)).2).1,(Jd f (n-1) (Pq (l,false)).2).2):=by
   rw[Jd,Bn ⟨h0,rfl⟩]
  have eA:A++(Jd (f+1) n (l,false)).1=(A++[(Pq (l,false)).1])++(Jd f (n-1) (Pq (l,false)).2).1:=by rw[es];simp
  have e2:(Jd (f+1) n (l,false)).2=(Jd f (n-1) (Pq (l,false)).2).2:=by rw[es]
  have lA:(A++[(Pq (l,false)).1]).length=A.length+1:=by rw[F9];rfl
  rw[eA,e2];rw[<-ih,lA];clear ih es eA e2;have o1:=Axl (fu:=fu) (d:=d) Bo (s:=(l,false)) ho hl;have ea:=Zk A (Pq (l,false)).1;simp only[YD,Me.cells] at o1;generalize Pq (l,false)=u at *
  generalize B5 (A++[_])=A' at *
  repeat(with_reducible(first|apply Ai|apply Ae|apply Aj|apply Ao|apply Aw|apply A6|apply At|apply Ad|apply Ah|apply Cs);· first|constructor|(simp(disch:=omega)only[Ct,o1,wd,LA,tA,ea,Cp,Ev]<;>first|constructor|omega)|omega)
  try simp(disch:=omega)only[Aa,o1,wd,LA,tA,ea,Cp,Ev]
  all_goals rfl
theorem Axx(Bo:2000<=fu){l:List It}(ho:Sc l)(hl:l.length<=1000):Aq C0 prog fu (d+4) 48 [.lst false 3 l.length (Ay l)]=some ⟨[.agg (NH l).1.cells,.sc (.bool (NH l).2)],[]⟩:=by
 refine (FR fu (d+3) l.length (Ay l)).trans ?_;obtain⟨_,_,_,_,_,_,_,_,q1,q2⟩:=Ac1 ho hl;have h0:=D1 (k:=5) (s:=(l,false)) ho;have hA:=D1 (k:=1) h0.2.2.1;have hB:=D1 (k:=1) (s:=(ID l).2) hA.2.2.1;have hC:=D1 (k:=1) (s:=(JK l).2) hB.2.2.1;have hD:=D1 (k:=5) (s:=(IW l).2) hC.2.2.1;have r0:=A03 (fu:=fu) (d:=d) Bo (Mf:=l.length) (a0:=Ay l) (v:=wrap .i64 (ID l).1.n) (i:=wrap .i64 (JK l).1.n) (x:=wrap .i64 (IW l).1.n) (l.length+2) fu (CI l).1.n (CI l).2 [] (by unfold SL;left;omega) (by omega) hD.1 q1 (by omega) (by simp only[Ud];omega)
 have o1:=Rr (fu:=fu) (d:=d+1) (l,false);have o2:=FJ (fu:=fu) (d:=d+1) (Bp 5 (l,false)).2;have o3:=FJ (fu:=fu) (d:=d+1) (ID l).2;have o4:=FJ (fu:=fu) (d:=d+1) (JK l).2;have o5:=Rr (fu:=fu) (d:=d+1) (IW l).2;have eA:Bp 1 (Bp 5 (l,false)).2=ID l:=rfl;have eB:Bp 1 (ID l).2=JK l:=rfl;have eC:Bp 1 (JK l).2=IW l:=rfl;have eD:Bp 5 (IW l).2=CI l:=rfl;rw[eA] at o2;rw[eB] at o3;rw[eC] at o4;rw[eD] at o5;simp only[YD] at o1 o2 o3 o4 o5;have eR:(some ⟨[.agg (NH l).1.cells,.sc (.bool (NH l).2)],[]⟩:Option Dt)=some ⟨[.agg (Md.mk (wrap .i64 (ID l).1.n) (wrap .i64 (JK l).1.n) (wrap .i64 (IW l).1.n) ([]++(Jd (l.length+2) (CI l).1.n (CI l).2).1) GG).cells,.sc (.bool (!(Jd (l.length+2) (CI l).1.n (CI l).2).2.2&&(((Jd (l.length+2) (CI l).1.n (CI l).2).2.1.length:Int)==0)))],[]⟩:=rfl
 rw[eR,<-r0];clear r0 eR
 repeat(with_reducible(first|apply Ai|apply Ae|apply Aj|apply Ao|apply Aw|apply A6|apply At|apply Ad|apply Ah|apply Cs);· first|constructor|(simp(disch:=omega)only[Ct,o1,o2,o3,o4,o5]<;>first|constructor|omega)|omega)
 try simp(disch:=omega)only[Aa,o1,o2,o3,o4,o5]
 all_goals rfl
end
structure Md.ok(m:Md):Prop where
 ent:∀x∈m.ents,Uf x.model/\x.rts
 sg:m.sig.ok
theorem Md.ok.wf{m:Md}(h:m.ok):m.wf:=⟨fun x hx=>(h.ent x hx).1.1⟩
def VU(b:B8)(used:Nat)(r:Md × Bool):Md × Int:=if r.2=false then (FM,2) else match sgD (b.drop used) with
 |none=>(FM,2)
 |some s=>if Dv { r.1 with sig:=s }=0/\Fz { r.1 with sig:=s }=b then ({ r.1 with sig:=s },0) else (FM,2)
def M1(P:List It->Md × Bool)(b:B8)(r:List It × Nat × Int):Md × Int:=if b.length>4096 then (FM,8) else if r.2.2≠0 then (FM,2) else VU b r.2.1 (P r.1)
def M8(b:B8):Md × Int:=M1 NH b (Ld 1000 [] 0 b 0 [])
def Ka(l:List It):Prop:=∀x∈l,Uf x.n
theorem Ka.app{a b:List It}(ha:Ka a)(hb:Ka b):Ka (a++b):=fun x hx=>(B4.1 hx).elim (ha x) (hb x)
theorem Ka.cons{x:It}{l:List It}(h:Uf x.n)(hl:Ka l):Ka (x::l):=fun y hy=>by
 rcases B7.1 hy with rfl|hy
 ·exact h
 ·exact hl y hy
theorem Ka.nil:Ka []:=fun x hx=>by cases hx
theorem Ka.flat{α:Type}{f:α->List It}{l:List α}(h:∀x∈l,Ka (f x)):Ka (l.map f).flatten:=fun y hy=>by
 obtain⟨v,hv,hy⟩:=List.mem_flatten.1 hy;obtain⟨x,hx,rfl⟩:=List.mem_map.1 hv;exact h x hx y hy
theorem Ace{n:Nat}(h:n<=1000):Uf (n:Int):=⟨by omega,by omega⟩
theorem Vw{n:Int}(h:0<=n)(h1:n<=1099511627776):Uf n:=⟨h,by omega⟩
theorem Axn(a:An):Ka (Cv a):=by refine Ka.cons (Vw (by show (0:Int)<=2;omega) (by show (2:Int)<=_;omega)) (Ka.cons (Vw (by show (0:Int)<=0;omega) (by show (0:Int)<=_;omega)) (Ka.cons (Vw (by show (0:Int)<=0;omega) (by show (0:Int)<=_;omega)) Ka.nil))
theorem Ayb{s:Sa}(h:1<=s.kd/\s.kd<=4/\0<=s.at_/\s.at_<=1099511627776):Ka (Cq s):=by refine Ka.cons (Vw (by show (0:Int)<=2;omega) (by show (2:Int)<=_;omega)) (Ka.cons (Vw (by show (0:Int)<=s.kd;omega) (by show s.kd<=_;omega)) (Ka.cons (Vw (by show (0:Int)<=s.at_;omega) (by show s.at_<=_;omega)) Ka.nil))
theorem Aui{x:Me}(hm:Uf x.model)(h:C4 x=0):Ka (A7 x):=by obtain⟨h1,h2,h3,h4⟩:=Ox h;have e:=FF x [];rw[List.append_nil] at e;rw[e];refine Ka.cons (Vw (by show (0:Int)<=3;omega) (by show (3:Int)<=_;omega)) (Ka.cons hm (Ka.cons (Ace (by omega)) (Ka.app (Ka.flat fun a ha=>Axn a) (Ka.cons (Ace (by omega)) (Ka.app (Ka.flat fun s hs=>Ayb (Zl h4 s hs)) Ka.nil)))))
theorem Apl{m:Md}(hm:∀x∈m.ents,Uf x.model)(h:Br m=0):Ka (A3 m):=by obtain⟨h1,h2,h3,h4,h5,h6,h7⟩:=Jm h;rw[AD];exact Ka.cons (Vw (by show (0:Int)<=4;omega) (by show (4:Int)<=_;omega)) (Ka.cons (Vw (by show (0:Int)<=m.ver;omega) (by show m.ver<=_;omega)) (Ka.cons (Vw (by show (0:Int)<=m.iss;omega) (by show m.iss<=_;omega)) (Ka.cons (Vw (by show (0:Int)<=m.nxt;omega) (by show m.nxt<=_;omega)) (Ka.cons (Ace (by omega)) (Ka.flat fun x hx=>Aui (hm x hx) (Mp h7 x hx))))))
theorem NQ{n:Int}(h:Uf n){dp:Int}(hd:dp<=8):YW dp [D3 n]:=OA (Jw h.1) h.2 hd
theorem A6e{a:An}(h:F0 a=0){dp:Int}(hd:dp<=7):YW dp (Cv a):=by
 obtain⟨h1,h2,h3,_⟩:=Adl h;have f1:OQ ⟨4,0,a.name⟩:=⟨.inr (.inr (.inr (.inl rfl))),by simp only;omega,fun _=>h3,by unfold K7;rfl,by simp⟩
 have f2:OQ ⟨3,0,Bk (Ir a.key)⟩:=⟨.inr (.inr (.inl rfl)),by simp only[Adb];omega,(fun e=>by cases e),by unfold K7;rfl,by simp⟩
 refine Uj (vs:=SA a) (fun v hv=>?_) (by omega) (by simp[SA]);simp only[SA,B7,Im,or_false] at hv;rcases hv with rfl|rfl
 ·exact OA f1 (by simp) (by omega)
 ·exact OA f2 (by simp) (by omega)
theorem A8j{s:Sa}(h:1<=s.kd/\s.kd<=4/\0<=s.at_/\s.at_<=1099511627776){dp:Int}(hd:dp<=7):YW dp (Cq s):=by
 refine Uj (vs:=UN s) (fun v hv=>?_) (by omega) (by simp[UN]);simp only[UN,B7,Im,or_false] at hv;rcases hv with rfl|rfl
 ·exact NQ ⟨by omega,by omega⟩ (by omega)
 ·exact NQ ⟨by omega,by omega⟩ (by omega)
theorem A3j{x:Me}(hm:Uf x.model)(h:C4 x=0){dp:Int}(hd:dp<=4):YW dp (A7 x):=by
 obtain⟨h1,h2,h3,h4⟩:=Ox h;refine Uj (vs:=U7 x) (fun v hv=>?_) (by omega) (by simp[U7]);simp only[U7,B7,Im,or_false] at hv;rcases hv with rfl|rfl|rfl
 ·exact NQ hm (by omega)
 ·refine Uj (fun v hv=>?_) (by omega) (by rw[List.length_map];omega)
  obtain⟨a,ha,rfl⟩:=List.mem_map.1 hv;exact A6e (Un h3 a ha) (by omega)
 ·refine Uj (fun v hv=>?_) (by omega) (by rw[List.length_map];omega)
  obtain⟨s,hs,rfl⟩:=List.mem_map.1 hv;exact A8j (Zl h4 s hs) (by omega)
theorem Ays{m:Md}(hm:∀x∈m.ents,Uf x.model)(h:Br m=0):YW 0 (A3 m):=by
 obtain⟨h1,h2,h3,h4,h5,h6,h7⟩:=Jm h;refine Uj (vs:=Nw m) (fun v hv=>?_) (by omega) (by simp[Nw]);simp only[Nw,B7,Im,or_false] at hv;rcases hv with rfl|rfl|rfl|rfl
 ·exact NQ ⟨by omega,by omega⟩ (by omega)
 ·exact NQ ⟨by omega,by omega⟩ (by omega)
 ·exact NQ ⟨by omega,by omega⟩ (by omega)
 ·refine Uj (fun v hv=>?_) (by omega) (by rw[List.length_map];omega)
  obtain⟨x,hx,rfl⟩:=List.mem_map.1 hv;exact A3j (hm x hx) (Mp h7 x hx) (by omega)
theorem Gw{m:Md}(h:Dv m=0):Br m=0/\Dz m.sig.path.length=false/\Ip m.sig.leaf m.sig.path.length=false/\m.sig.chains.length=18:=by
 unfold Dv at h;by_cases h0:Br m=0
 ·rw[Bn h0] at h;unfold OG at h;split at h
  ·cases h
  ·split at h
   ·cases h
   ·split at h
    ·cases h
    ·exact⟨h0,by simp_all,by simp_all,by simp_all⟩
 ·rw[A4 h0] at h;exact absurd h h0
theorem Agz{m:Md}(hc:m.ok)(h:Dv m=0){k:Nat}(hk:500<k):Ld k [] 0 (Fz m) 0 []=(A3 m,(Bg (A3 m)).length,0):=by
 have h0:=(Gw h).1;obtain⟨vm,fm,lm⟩:=Uz hc.wf h0;have r:=Aaq (b:=Fz m) (rest:=Sm m.sig) (A3 m) [] 0 0 k [] (vm.goods (by omega) (by simp[A3]) (by omega)) (fun x hx=>Apl (fun x hx=>(hc.ent x hx).1) h0 x hx) rfl (by omega)
 simpa using r
theorem Aos{m:Md}(hc:m.ok)(h:Dv m=0):OS (Fz m)=(A3 m,(Bg (A3 m)).length,0):=by have h0:=(Gw h).1;obtain⟨vm,fm,lm⟩:=Uz hc.wf h0;exact Avk (Ays (fun x hx=>(hc.ent x hx).1) h0) (by omega) (Sm m.sig)
theorem Ats{m:Md}(hc:m.ok)(h:Dv m=0):VU (Fz m) (Bg (A3 m)).length ({ m with sig:=GG },true)=(m,0):=by
 obtain⟨h0,h1,h2,h3⟩:=Gw h;have e:(Fz m).drop (Bg (A3 m)).length=Sm m.sig:=by unfold Fz;rw[List.drop_left]
 unfold VU;rw[A4 (by simp),e,Ayp hc.sg h1 h2 h3];simp only;rw[Bn ⟨h,by trivial⟩]
theorem Anw{b:B8}{used:Nat}{r:Md × Bool}(hr:∀x∈r.1.ents,Uf x.model/\x.rts)(hn:∀m:Md,m.ok->Dv m=0->Fz m≠b):VU b used r=(FM,2):=by
 unfold VU;split
 ·rfl
 ·split
  ·rfl
  ·rename_i s hs;rw[A4];intro ⟨h1,h2⟩;exact hn { r.1 with sig:=s } ⟨hr,(Ajr hs).1⟩ h1 h2
theorem Acj{x:Me}(h:okM x):Uf x.model/\x.rts:=⟨h.1,fun a ha=>(h.2.1 a ha).1⟩
theorem Aa5{b:B8}(hb:I7 b):∀(k:Nat)(l:List Iy)(cnt:Int)(at_:Nat)(its:List It),at_<=b.length->(its.length:Int)=cnt->its.length<=512->(Ld k l cnt b at_ its).1.length<=512
 |0,l,cnt,at_,its,h,hi,h5=>by simp[Ld]
 |k+1,l,cnt,at_,its,h,hi,h5=>by
  unfold Ld;by_cases hd:VS l cnt=true
  ·rw[Bn hd];exact h5
  ·rw[A4 hd];by_cases he:(Hx l cnt b at_).e=0
   ·rw[A4 (by simp[he])];obtain⟨c1,c2,_,_,p,q⟩:=OO hb h he;exact Aa5 hb k _ _ _ _ p (by rw[c2,F9,List.length_singleton];omega) (by rw[F9,List.length_singleton];omega)
   ·rw[Bn he];simp
structure Rdr(P:List It->Md × Bool):Prop where
 ok:∀l,Sc l->l.length<=1000->∀x∈(P l).1.ents,Uf x.model/\x.rts
 hit:∀m:Md,m.ok->Br m=0->P (A3 m)=({ m with sig:=GG },true)
theorem Asa:Rdr NH:=⟨fun l h hl x hx=>Acj ((Ac1 h hl).1 x hx),fun m hm h=>Avr h (fun x hx=>(hm.ent x hx).2)⟩
theorem A6x:Rdr Aek:=⟨fun l h hl x hx=>Acj ((Al1 h).1 x hx),fun m hm h=>Ash h (fun x hx=>(hm.ent x hx).2)⟩
theorem VK{P:List It->Md × Bool}(hP:Rdr P){m:Md}(hc:m.ok)(h:Dv m=0)(hl:(Fz m).length<=4096):M1 P (Fz m) (A3 m,(Bg (A3 m)).length,0)=(m,0):=by unfold M1;rw[A4 (by omega),A4 (by simp)];simp only;rw[hP.hit m hc (Gw h).1];exact Ats hc h
theorem QG{P:List It->Md × Bool}(hP:Rdr P){b:B8}(hl:b.length<=4096){r:List It × Nat × Int}(hx:Sc r.1)(h5:r.1.length<=1000)(hn:∀m:Md,m.ok->Dv m=0->Fz m≠b):M1 P b r=(FM,2):=by
 unfold M1;rw[A4 (by omega)];split
 ·rfl
 ·exact Anw (hP.ok _ hx h5) hn
theorem EN{b:B8}(hb:I7 b)(k:Nat):Sc (Ld k [] 0 b 0 []).1/\(Ld k [] 0 b 0 []).1.length<=1000/\(Ld k [] 0 b 0 []).2.1<=b.length:=by have h:=Ahf hb k [] 0 0 [] (by omega) (by simp);exact⟨h.2,Nat.le_trans (Aa5 hb k [] 0 0 [] (by omega) rfl (by simp)) (by omega),h.1⟩
theorem Aej{b:B8}(hb:I7 b):Sc (OS b).1/\(OS b).1.length<=1000/\(OS b).2.1<=b.length:=by
 have fi:=BL hb 10 0 false Fw 0 [] (by omega) (by simp) (by simp);unfold OS;split
 ·exact⟨fun x hx=>by simp at hx,by simp,by simp⟩
 ·exact⟨fun x hx=>(fi.all x hx).1,Nat.le_trans fi.top (by omega),fi.at_⟩
theorem VY{m:Md}(hc:m.ok)(h:Dv m=0)(hl:(Fz m).length<=4096):M8 (Fz m)=(m,0):=by unfold M8;rw[Agz hc h (by omega)];exact VK Asa hc h hl
theorem Aai{b:B8}(hb:I7 b)(hl:b.length<=4096)(hn:∀m:Md,m.ok->Dv m=0->Fz m≠b):M8 b=(FM,2):=QG Asa hl (EN hb 1000).1 (EN hb 1000).2.1 hn
theorem Acc{b:B8}(hl:b.length>4096):M8 b=(FM,8):=by unfold M8 M1;rw[Bn hl]
theorem Aax{P:List It->Md × Bool}(hP:Rdr P){b:B8}(hb:I7 b){r:List It × Nat × Int}(hx:Sc r.1)(h5:r.1.length<=1000)(hc:∀m:Md,m.ok->Dv m=0->Fz m=b->r=(A3 m,(Bg (A3 m)).length,0)):M1 P b r=M8 b:=by
 by_cases hl:b.length>4096
 ·rw[Acc hl];unfold M1;rw[Bn hl]
 by_cases hex:∃m:Md,m.ok/\Dv m=0/\Fz m=b
 ·obtain⟨m,m1,m2,m3⟩:=hex;have e:=hc m m1 m2 m3;subst m3;rw[VY m1 m2 (by omega),e];exact VK hP m1 m2 (by omega)
 ·have hn:∀m:Md,m.ok->Dv m=0->Fz m≠b:=fun m h1 h2 h3=>hex ⟨m,h1,h2,h3⟩;rw[Aai hb (by omega) hn];exact QG hP (by omega) hx h5 hn
theorem Au1{b:B8}(hb:I7 b){k:Nat}(hk:500<k):M1 NH b (Ld k [] 0 b 0 [])=M8 b:=
 Aax Asa hb (EN hb k).1 (EN hb k).2.1 (fun m m1 m2 m3=>by subst m3;exact Agz m1 m2 hk)
theorem Av2{b:B8}(hb:I7 b):M1 Aek b (OS b)=M8 b:=
 Aax A6x hb (Aej hb).1 (Aej hb).2.1 (fun m m1 m2 m3=>by subst m3;exact Aos m1 m2)
theorem Ael{b:B8}(hb:I7 b):((M8 b).2=0/\(M8 b).1.ok/\Dv (M8 b).1=0/\Fz (M8 b).1=b/\b.length<=4096)\/(M8 b=(FM,8))\/(M8 b=(FM,2)):=by
 by_cases hl:b.length>4096
 ·exact .inr (.inl (Acc hl))
 by_cases hex:∃m:Md,m.ok/\Dv m=0/\Fz m=b
 ·obtain⟨m,m1,m2,m3⟩:=hex;subst m3;rw[VY m1 m2 (by omega)];exact .inl ⟨rfl,m1,m2,rfl,by omega⟩
 ·exact .inr (.inr (Aai hb (by omega) fun m h1 h2 h3=>hex ⟨m,h1,h2,h3⟩))
theorem A4i:FM.ok:=⟨fun x hx=>(by cases hx),⟨fun x hx=>(by cases hx),fun x hx=>(by cases hx)⟩⟩
section
variable {fu d:Nat}
theorem Aj1(Bo:20000<=fu){b:B8}(hb:I7 b)(hl:b.length<=1000000):
  Aq C0 prog fu (d+11) 26 [.lst false 1 b.length (Ac .u8 b)]=some ⟨[.agg (M1 NH b (Ld fu [] 0 b 0 [])).1.cells,Au (M1 NH b (Ld fu [] 0 b 0 [])).2],[]⟩:=by
 refine (MV fu (d+10) b.length (Ac .u8 b)).trans ?_;have dec:=Apj (fu:=fu) (d:=d+5) (by omega) hb hl;obtain⟨hox,hln,ZO⟩:=EN hb fu;generalize Ld fu [] 0 b 0 []=r at dec ZO hox hln ⊢;obtain⟨its,used,e⟩:=r;simp only at ZO hox hln;unfold HO at dec;simp only at dec;unfold M1;simp only;by_cases h5:b.length>4096
 ·rw[Bn h5]
  repeat(with_reducible(first|apply Ai|apply Ae|apply Aj|apply Ao|apply Bb|apply A6|apply At|apply Ad|apply Ah|apply Cs);· first|constructor|(simp(disch:=omega)only[Ct,De]<;>first|constructor|omega)|omega)
  try simp(disch:=omega)only[Aa,De]
  all_goals rfl
 rw[A4 h5];by_cases he:e=0
 rotate_left
 ·rw[Bn he];have Yz:(e != 0)=true:=by simp[he]
  repeat(with_reducible(first|apply Ai|apply Ae|apply Aj|apply Ao|apply Bb|apply A6|apply At|apply Ad|apply Ah|apply Cs);· first|constructor|(simp(disch:=omega)only[Ct,dec,Yz]<;>first|constructor|omega)|omega)
  try simp(disch:=omega)only[Aa,dec,Yz]
  all_goals rfl
 rw[A4 (by simp[he])];subst he;have e00:((0:Int) != 0)=false:=rfl;have e20:((2:Int) != 0)=true:=rfl;have LT:=Cx its;have tT:List.take (its.length*3) (Ay its)=Ay its:=Hg (by omega);have bo:=Axx (fu:=fu) (d:=d+6) (by omega) (l:=its) hox hln;have bk:=(Ac1 hox hln).1;generalize NH its=p at bo bk ⊢;obtain⟨m,q⟩:=p;simp only at bo bk;simp only[Md.cells] at bo;unfold VU;simp only;generalize Ay its=T at *
 generalize its.length=nT at *
 cases q
 ·rw[Bn rfl]
  repeat(with_reducible(first|apply Ai|apply Ae|apply Aj|apply Ao|apply Bb|apply A6|apply At|apply Ad|apply Ah|apply Cs);· first|constructor|(simp(disch:=omega)only[Ct,dec,e00,Er,Ck,LT,tT,bo,Cp,Ev]<;>first|constructor|omega)|omega)
  try simp(disch:=omega)only[Aa,dec,e00,Er,Ck,LT,tT,bo,Cp,Ev]
  all_goals rfl
 rw[A4 (by simp)];have ds:=Aqn (xs:=M9) (fu:=fu) (d:=d+8) (by omega) (l:=b.drop used) (fun x hx=>hb x (List.mem_of_mem_drop hx));rw[List.length_drop] at ds;have tb:List.take (b.length-used) (List.drop used (Ac .u8 b))=Ac .u8 (b.drop used):=by rw[Ho,Hg (by rw[Ap,List.length_drop];omega)]
 have nu:Int.toNat (used:Int)=used:=H6 used;cases hs:sgD (b.drop used) with
 |none=>
  rw[hs] at ds;simp only[ER,Sg.owned] at ds
  repeat(with_reducible(first|apply Ai|apply Ae|apply Aj|apply Ao|apply Bb|apply A6|apply At|apply Ad|apply Ah|apply Cs);· first|constructor|(simp(disch:=omega)only[Ct,dec,e00,e20,Er,Ck,De,LT,tT,bo,nu,tb,ds,Cp,Ev]<;>first|constructor|omega)|omega)
  try simp(disch:=omega)only[Aa,dec,e00,e20,Er,Ck,De,LT,tT,bo,nu,tb,ds,Cp,Ev]
  all_goals rfl
 |some s=>
  rw[hs] at ds;simp only[ER,Sg.owned] at ds;obtain⟨s1,s2,s3⟩:=Ajr hs;simp only;have cok:({ m with sig:=s }:Md).ok:=⟨fun x hx=>Acj (bk x hx),s1⟩
  have en:=Amv (fu:=fu) (d:=d) (m:={ m with sig:=s }) Bo cok.wf (Nat.le_trans s2 (by omega)) (Nat.lt_of_le_of_lt s2 (by omega));have ec:({ m with sig:=s }:Md).cells=[Au m.ver,Au m.iss,Au m.nxt,.lst false 3 m.ents.length (B5 m.ents),Au s.leaf,.lst false 1 s.chains.length (Ac .u64 s.chains),.lst false 1 s.path.length (Ac .u64 s.path)]:=rfl;have eB:∀h:Dv { m with sig:=s }=0,I7 (Fz { m with sig:=s }):=fun h y hy=>(B4.1 hy).elim (FQ cok.wf (Gw h).1 y) (Asg s y)
  have eL:∀h:Dv { m with sig:=s }=0,(Fz { m with sig:=s }).length<=100000:=fun h=>by
   have h1:=N7 cok.wf (Gw h).1;have h2:=H0 (h:=s.path.length) (by simpa using (Gw h).2.1)
   have ls:(Sm s).length=2+8*s.chains.length+8*s.path.length:=by
    unfold Sm;simp only[He,F9,Do];omega
   show (Bg (A3 { m with sig:=s })++Sm s).length<=_;rw[F9];omega
  have Lc:=Ap .u64 s.chains;have Lp:=Ap .u64 s.path;have tc:=Mi .u64 s.chains;have tp:=Mi .u64 s.path;generalize ({ m with sig:=s }:Md)=c at *
  rw[ec] at en;unfold T8 at en;by_cases hz:Dv c=0
  rotate_left
  ·have hz':(Dv c != 0)=true:=by simp[hz]
   rw[A4 hz] at en;rw[A4 (fun h=>hz h.1)]
   repeat(with_reducible(first|apply Ai|apply Ae|apply Aj|apply Ao|apply Bb|apply A6|apply At|apply Ad|apply Ah|apply Cs);· first|constructor|(simp(disch:=omega)only[Ct,dec,e00,e20,Er,Ck,De,LT,tT,bo,nu,tb,ds,Lc,Lp,tc,tp,en,hz',Cp,Ev]<;>first|constructor|omega)|omega)
   try simp(disch:=omega)only[Aa,dec,e00,e20,Er,Ck,De,LT,tT,bo,nu,tb,ds,Lc,Lp,tc,tp,en,hz',Cp,Ev]
   all_goals rfl
  rw[Bn hz] at en;have eL:=eL hz;have be:=YZ (fu:=fu) (d:=d+9) (eB hz) hb;have LE:=Ap .u8 (Fz c);have tE:=Mi .u8 (Fz c);by_cases hq:Fz c=b
  ·rw[Bn ⟨hz,hq⟩];simp only[hq,decide_true] at be en LE tE;simp only[ec]
   repeat(with_reducible(first|apply Ai|apply Ae|apply Aj|apply Ao|apply Bb|apply A6|apply At|apply Ad|apply Ah|apply Cs);· first|constructor|(simp(disch:=omega)only[Ct,dec,e00,e20,Er,Ck,De,LT,tT,bo,nu,tb,ds,Lc,Lp,tc,tp,en,LE,tE,be,Cp,Ev]<;>first|constructor|omega)|omega)
   try simp(disch:=omega)only[Aa,dec,e00,e20,Er,Ck,De,LT,tT,bo,nu,tb,ds,Lc,Lp,tc,tp,en,LE,tE,be,Cp,Ev]
   all_goals rfl
  ·rw[A4 (fun h=>hq h.2)];simp only[hq,decide_false] at be
   repeat(with_reducible(first|apply Ai|apply Ae|apply Aj|apply Ao|apply Bb|apply A6|apply At|apply Ad|apply Ah|apply Cs);· first|constructor|(simp(disch:=omega)only[Ct,dec,e00,e20,Er,Ck,De,LT,tT,bo,nu,tb,ds,Lc,Lp,tc,tp,en,LE,tE,be,Cp,Ev]<;>first|constructor|omega)|omega)
   try simp(disch:=omega)only[Aa,dec,e00,e20,Er,Ck,De,LT,tT,bo,nu,tb,ds,Lc,Lp,tc,tp,en,LE,tE,be,Cp,Ev]
   all_goals rfl
theorem Arm(Bo:20000<=fu){b:B8}(hb:I7 b)(hl:b.length<=1000000):
  Aq C0 prog fu (d+11) 26 [.lst false 1 b.length (Ac .u8 b)]=some ⟨[.agg (M8 b).1.cells,Au (M8 b).2],[]⟩:=by
 rw[<-Au1 hb (k:=fu) (by omega)];exact Aj1 Bo hb hl
def Yk(cur:Md)(b:B8)(k:Ky)(now:Int):Md × Int:=
 if now<0\/1099511627776<now then (FM,9) else if (M8 b).2≠0 then (FM,(M8 b).2) else if (M8 b).1.ver<=cur.ver then (FM,7) else if RV (M8 b).1 k≠0 then (FM,RV (M8 b).1 k) else if now<(M8 b).1.iss\/(M8 b).1.nxt<now then (FM,19) else ((M8 b).1,0)
theorem ND(Bo:20000<=fu){b:B8}(hb:I7 b)(hl:b.length<=1000000)(cur:Md)(k:Ky)(now:Int):
  Aq C0 prog fu (d+12) 27 [.agg cur.cells,.lst false 1 b.length (Ac .u8 b),.agg k.cells,Au now]=some ⟨[.agg (Yk cur b k now).1.cells,Au (Yk cur b k now).2],[]⟩:=by
 refine (KA fu (d+11) cur.ver cur.iss cur.nxt cur.ents.length (B5 cur.ents) cur.sig.leaf cur.sig.chains.length (Ac .u64 cur.sig.chains) cur.sig.path.length (Ac .u64 cur.sig.path) b.length (Ac .u8 b) k.h k.root now).trans ?_;unfold Yk;by_cases h1:now<0
 ·rw[Bn (.inl h1)]
  repeat(with_reducible(first|apply Ai|apply Ae|apply Aj|apply Ao|apply Bb|apply A6|apply At|apply Ad|apply Ah|apply Cs);· first|constructor|(simp(disch:=omega)only[Ct,Cp]<;>first|constructor|omega)|omega)
  try simp(disch:=omega)only[Aa,Cp]
  all_goals rfl
 by_cases h2:1099511627776<now
 ·rw[Bn (.inr h2)]
  repeat(with_reducible(first|apply Ai|apply Ae|apply Aj|apply Ao|apply Bb|apply A6|apply At|apply Ad|apply Ah|apply Cs);· first|constructor|(simp(disch:=omega)only[Ct,Cp]<;>first|constructor|omega)|omega)
  try simp(disch:=omega)only[Aa,Cp]
  all_goals rfl
 rw[A4 (by omega)];have dec:=Arm (fu:=fu) (d:=d) Bo hb hl;have dok:=Ael hb;generalize M8 b=r at dec dok ⊢;obtain⟨m,e⟩:=r;simp only at dec dok ⊢;simp only[Md.cells] at dec;by_cases h3:e=0
 rotate_left
 ·have h3':(e != 0)=true:=by simp[h3]
  rw[Bn h3]
  repeat(with_reducible(first|apply Ai|apply Ae|apply Aj|apply Ao|apply Bb|apply A6|apply At|apply Ad|apply Ah|apply Cs);· first|constructor|(simp(disch:=omega)only[Ct,dec,h3']<;>first|constructor|omega)|omega)
  try simp(disch:=omega)only[Aa,dec,h3']
  all_goals rfl
 subst h3;have e00:((0:Int) != 0)=false:=rfl
 have mk:m.ok:=by
  rcases dok with h|h|h
  ·exact h.2.1
  ·have:=congrArg Prod.snd h;simp at this
  ·have:=congrArg Prod.snd h;simp at this
 rw[A4 (by simp)];by_cases h4:m.ver<=cur.ver
 ·rw[Bn h4]
  repeat(with_reducible(first|apply Ai|apply Ae|apply Aj|apply Ao|apply Bb|apply A6|apply At|apply Ad|apply Ah|apply Cs);· first|constructor|(simp(disch:=omega)only[Ct,dec,e00]<;>first|constructor|omega)|omega)
  try simp(disch:=omega)only[Aa,dec,e00]
  all_goals rfl
 rw[A4 h4];have vr:=Ayc (fu:=fu) (d:=d) (m:=m) Bo mk.wf k;simp only[Md.cells,Ky.cells] at vr;by_cases h5:RV m k=0
 rotate_left
 ·have h5':(RV m k != 0)=true:=by simp[h5]
  rw[Bn h5]
  repeat(with_reducible(first|apply Ai|apply Ae|apply Aj|apply Ao|apply Bb|apply A6|apply At|apply Ad|apply Ah|apply Cs);· first|constructor|(simp(disch:=omega)only[Ct,dec,e00,vr,h5']<;>first|constructor|omega)|omega)
  try simp(disch:=omega)only[Aa,dec,e00,vr,h5']
  all_goals rfl
 rw[A4 (by simp[h5])];rw[h5] at vr;by_cases h6:now<m.iss
 ·rw[Bn (.inl h6)]
  repeat(with_reducible(first|apply Ai|apply Ae|apply Aj|apply Ao|apply Bb|apply A6|apply At|apply Ad|apply Ah|apply Cs);· first|constructor|(simp(disch:=omega)only[Ct,dec,e00,vr]<;>first|constructor|omega)|omega)
  try simp(disch:=omega)only[Aa,dec,e00,vr]
  all_goals rfl
 by_cases h7:m.nxt<now
 ·rw[Bn (.inr h7)]
  repeat(with_reducible(first|apply Ai|apply Ae|apply Aj|apply Ao|apply Bb|apply A6|apply At|apply Ad|apply Ah|apply Cs);· first|constructor|(simp(disch:=omega)only[Ct,dec,e00,vr]<;>first|constructor|omega)|omega)
  try simp(disch:=omega)only[Aa,dec,e00,vr]
  all_goals rfl
 rw[A4 (by omega)];simp only[Md.cells]
 repeat(with_reducible(first|apply Ai|apply Ae|apply Aj|apply Ao|apply Bb|apply A6|apply At|apply Ad|apply Ah|apply Cs);· first|constructor|(simp(disch:=omega)only[Ct,dec,e00,vr]<;>first|constructor|omega)|omega)
 try simp(disch:=omega)only[Aa,dec,e00,vr]
 all_goals rfl
end
section
variable {fu d:Nat}
theorem Aqe(s:ByteArray):Aq C0 prog fu (d+2) 95 [.sc (.string s)]=some ⟨[Au (if s.size<1\/32<s.size then 9 else if okS s=false then 6 else 0)],[]⟩:=by
 refine (DO fu (d+1) s).trans ?_;by_cases e1:s.size<1
 ·rw[Bn (.inl e1)]
  repeat(with_reducible(first|apply Ai|apply Ae|apply Aj|apply Ao|apply Aw|apply Bb|apply A6|apply At|apply Ad|apply Ah|apply Cs);· first|constructor|(simp(disch:=omega)only[Ct,Cp]<;>first|constructor|omega)|omega)
  try simp(disch:=omega)only[Aa,Cp]
 by_cases e2:32<s.size
 ·rw[Bn (.inr e2)]
  repeat(with_reducible(first|apply Ai|apply Ae|apply Aj|apply Ao|apply Aw|apply Bb|apply A6|apply At|apply Ad|apply Ah|apply Cs);· first|constructor|(simp(disch:=omega)only[Ct,Cp]<;>first|constructor|omega)|omega)
  try simp(disch:=omega)only[Aa,Cp]
 rw[A4 (by omega)];have v1:=Vg (fu:=fu) (d:=d) s (by omega);cases e3:okS s
 ·rw[e3] at v1;rw[Bn rfl]
  repeat(with_reducible(first|apply Ai|apply Ae|apply Aj|apply Ao|apply Aw|apply Bb|apply A6|apply At|apply Ad|apply Ah|apply Cs);· first|constructor|(simp(disch:=omega)only[Ct,v1,Cp,Ev]<;>first|constructor|omega)|omega)
  try simp(disch:=omega)only[Aa,v1,Cp,Ev]
 ·rw[e3] at v1;rw[A4 (by simp)]
  repeat(with_reducible(first|apply Ai|apply Ae|apply Aj|apply Ao|apply Aw|apply Bb|apply A6|apply At|apply Ad|apply Ah|apply Cs);· first|constructor|(simp(disch:=omega)only[Ct,v1,Cp,Ev]<;>first|constructor|omega)|omega)
  try simp(disch:=omega)only[Aa,v1,Cp,Ev]
def Xn(e:Int)(l:List It):Ab:=if e=0 then [.own 3 l.length (Ay l),Au 0] else [.own 3 0 [],Au e]
theorem Rc{e:Int}{l:List It}(h:e≠0):Xn e l=[.own 3 0 [],Au e]:=by unfold Xn;rw[A4 h]
theorem A6f(A:List It)(a b c:It):Ay A++[Au a.k,Af a.n,.sc (.string a.s),Au b.k,Af b.n,.sc (.string b.s),Au c.k,Af c.n,.sc (.string c.s)]=Ay (A++[a,b,c]):=by rw[U5];rfl
theorem Bcs(A:List It)(a:It):Ay A++[Au a.k,Af a.n,.sc (.string a.s)]=Ay (A++[a]):=by rw[U5];rfl
theorem A0f{C7:Int}{H5 Eg:Nat}{Ch D0:Ab}{x:Me}(h2:x.sts.length<=4):∀(r:List Sa)(i nn:Nat)(p:Option Int)(A:List It),x.sts.drop i=r->r.length<nn->i<=x.sts.length ->
  ((i=0/\p=none)\/∃s',0<i/\x.sts[i-1]?=some s'/\p=some s'.at_)->A.length+3*r.length<=1000 ->
  Gm fu (Aq C0 prog fu (d+3)) C7 H5 Ch Eg D0 nn A.length (i:Int) x.model x.ans.length (C1 x.ans) x.sts.length (Dq x.sts) (Ay A) =
   some ⟨Xn (Ey p r) (A++(r.map Cq).flatten),[]⟩
 |_,_,0,_,_,_,h,_,_,_=>by omega
 |[],i,nn+1,p,A,hd,hn,hi,hp,hA=>by
  have hl:=drop_nil hd;have ei:i=x.sts.length:=by omega
  have Hm:Ey p []=0:=by unfold Ey;rfl
  have L:=Cx A;have t:List.take (A.length*3) (Ay A)=Ay A:=Hg (by omega);have e:A++(([]:List Sa).map Cq).flatten=A:=by simp
  rw[e,Hm];unfold Xn;rw[Bn rfl];subst ei;rw[Hh];generalize Ay A=C at *
  generalize A.length=n at *
  repeat(with_reducible(first|apply Ai|apply Ae|apply Aj|apply Ao|apply Aw|apply Bb|apply A6|apply At|apply Ad|apply Ah|apply Cs);· first|constructor|(simp(disch:=omega)only[Ct,L,t]<;>first|constructor|omega)|omega)
  try simp(disch:=omega)only[Aa,L,t]
  all_goals rfl
 |s::rs,i,nn+1,p,A,hd,hn,hi,hp,hA=>by
  obtain⟨q1,q2,q3⟩:=C8 hd;simp only[He] at hn hA;obtain⟨c0,c1⟩:=saa q2;have nt:Int.toNat (i:Int)=i:=H6 _;have w1:=Zq (fu:=fu) (d:=d+2) s.kd 1 4;have w2:=Zq (fu:=fu) (d:=d+2) s.at_ 0 1099511627776
  have bad:∀{e:Int},Hk p s=e->e≠0->some (Dt.mk [.own 3 0 [],Au e] [])=some (Dt.mk (Xn (Ey p (s::rs)) (A++((s::rs).map Cq).flatten)) []):=fun {e} h he=>by
   have:Ey p (s::rs)=e:=by rw[Ey,Bn (by rw[h];exact he),h]
   rw[this,Rc he]
  by_cases g1:s.kd<1\/4<s.kd
  ·have hb:Hk p s=9:=by unfold Hk;rw[Bn (by omega)]
   have:(decide ((1:Int)<=s.kd)&&decide (s.kd<=4))=false:=by simp;omega
   rw[this] at w1;rw[<-bad hb (by omega),Hh]
   repeat(with_reducible(first|apply Ai|apply Ae|apply Aj|apply Ao|apply Aw|apply Bb|apply A6|apply At|apply Ad|apply Ah|apply Cs);· first|constructor|(simp(disch:=omega)only[Ct,nt,c0,c1,w1,Cp,Ev]<;>first|constructor|omega)|omega)
   try simp(disch:=omega)only[Aa,nt,c0,c1,w1,Cp,Ev]
   all_goals rfl
  have z1:(decide ((1:Int)<=s.kd)&&decide (s.kd<=4))=true:=by simp;omega
  rw[z1] at w1;by_cases g3:s.at_<0\/1099511627776<s.at_
  ·have hb:Hk p s=9:=by unfold Hk;rw[Bn (by omega)]
   have:(decide ((0:Int)<=s.at_)&&decide (s.at_<=1099511627776))=false:=by simp;omega
   rw[this] at w2;rw[<-bad hb (by omega),Hh]
   repeat(with_reducible(first|apply Ai|apply Ae|apply Aj|apply Ao|apply Aw|apply Bb|apply A6|apply At|apply Ad|apply Ah|apply Cs);· first|constructor|(simp(disch:=omega)only[Ct,nt,c0,c1,w1,w2,Cp,Ev]<;>first|constructor|omega)|omega)
   try simp(disch:=omega)only[Aa,nt,c0,c1,w1,w2,Cp,Ev]
   all_goals rfl
  have z2:(decide ((0:Int)<=s.at_)&&decide (s.at_<=1099511627776))=true:=by simp;omega
  rw[z2] at w2;have S1:Hk none s=0:=by unfold Hk;rw[A4 (by omega)]
  have S0:∀q:Int,Hk (some q) s=if s.at_<=q then 7 else 0:=fun q=>by unfold Hk;rw[A4 (by omega)]
  have wk:wrap .u64 s.kd=s.kd:=Cd (by omega) (by omega);have wa:wrap .u64 s.at_=s.at_:=Cd (by omega) (by omega);have a2:=Qv (fu:=fu) (d:=d+2) 2 (by omega) (by omega);have u1:=Q5 (fu:=fu) (d:=d+2) s.kd;have u2:=Q5 (fu:=fu) (d:=d+2) s.at_;have w:wrap .i64 ((i:Int)+1)=((i+1:Nat):Int):=by rw[Ag (by omega) (by omega)];omega
  have L:=Cx A;have t:List.take (A.length*3) (Ay A)=Ay A:=Hg (by omega);have ea:=A6f A (Ea 2) (D3 s.kd) (D3 s.at_);simp only[Ea,D3] at ea
  have eS:A++((s::rs).map Cq).flatten=(A++[Ea 2,D3 s.kd,D3 s.at_])++(rs.map Cq).flatten:=by
   rw[Sn,List.flatten_cons,<-FX];rfl
  have hz:Hk p s=0->Ey p (s::rs)=Ey (some s.at_) rs:=fun h=>by rw[Ey,A4 (by simp[h])]
  have ih:=A0f (C7:=C7) (H5:=H5) (Eg:=Eg) (Ch:=Ch) (D0:=D0) h2 rs (i+1) nn (some s.at_) (A++[Ea 2,D3 s.kd,D3 s.at_]) q3 (by omega) (by omega) (.inr ⟨s,by omega,by rw[Nat.add_sub_cancel];exact q2,rfl⟩) (by rw[F9];simp only[He,Ud];omega)
  have lA:(A++[Ea 2,D3 s.kd,D3 s.at_]).length=A.length+3:=by rw[F9];rfl
  rw[lA] at ih;simp only[Ea,D3] at ih eS;rw[Hh];rcases hp with⟨rfl,rfl⟩|⟨s',h0,h5,rfl⟩
  ·rw[eS,hz S1,<-ih];generalize Ay (A++[⟨5,2,Fw⟩,⟨1,s.kd,Fw⟩,⟨1,s.at_,Fw⟩])=C' at *
   generalize Ay A=C at *
   generalize A.length=n at *
   repeat(with_reducible(first|apply Ai|apply Ae|apply Aj|apply Ao|apply Aw|apply Bb|apply A6|apply At|apply Ad|apply Ah|apply Cs);· first|constructor|(simp(disch:=omega)only[Ct,nt,c0,c1,w1,w2,wk,wa,a2,u1,u2,L,t,ea,w,Cp,Ev]<;>first|constructor|omega)|omega)
   try simp(disch:=omega)only[Aa,nt,c0,c1,w1,w2,wk,wa,a2,u1,u2,L,t,ea,w,Cp,Ev]
   all_goals rfl
  ·obtain⟨b0,b1⟩:=saa h5;have wi:wrap .i64 ((i:Int)-1)=((i-1:Nat):Int):=by rw[Ag (by omega) (by omega)];omega
   have nt1:Int.toNat ((i-1:Nat):Int)=i-1:=H6 _;by_cases ho:s.at_<=s'.at_
   ·have hb:Hk (some s'.at_) s=7:=by rw[S0,Bn ho]
    rw[<-bad hb (by omega)]
    repeat(with_reducible(first|apply Ai|apply Ae|apply Aj|apply Ao|apply Aw|apply Bb|apply A6|apply At|apply Ad|apply Ah|apply Cs);· first|constructor|(simp(disch:=omega)only[Ct,nt,c0,c1,w1,w2,wi,nt1,b0,b1,Cp,Ev]<;>first|constructor|omega)|omega)
    try simp(disch:=omega)only[Aa,nt,c0,c1,w1,w2,wi,nt1,b0,b1,Cp,Ev]
    all_goals rfl
   ·have hb:Hk (some s'.at_) s=0:=by rw[S0,A4 ho]
    rw[eS,hz hb,<-ih];generalize Ay (A++[⟨5,2,Fw⟩,⟨1,s.kd,Fw⟩,⟨1,s.at_,Fw⟩])=C' at *
    generalize Ay A=C at *
    generalize A.length=n at *
    repeat(with_reducible(first|apply Ai|apply Ae|apply Aj|apply Ao|apply Aw|apply Bb|apply A6|apply At|apply Ad|apply Ah|apply Cs);· first|constructor|(simp(disch:=omega)only[Ct,nt,c0,c1,w1,w2,wi,nt1,b0,b1,wk,wa,a2,u1,u2,L,t,ea,w,Cp,Ev]<;>first|constructor|omega)|omega)
    try simp(disch:=omega)only[Aa,nt,c0,c1,w1,w2,wi,nt1,b0,b1,wk,wa,a2,u1,u2,L,t,ea,w,Cp,Ev]
    all_goals rfl
theorem Az4(Bo:1000<=fu){C7:Int}{H5 Eg:Nat}{Ch D0:Ab}{x:Me}(h1:x.ans.length<=4)(h2:x.sts.length<=4):∀(r:List An)(i nn:Nat)(A:List It),x.ans.drop i=r->r.length<nn->i<=x.ans.length->A.length+3*r.length<=500 ->
  Ii fu (Aq C0 prog fu (d+3)) C7 H5 Ch Eg D0 nn A.length (i:Int) x.model x.ans.length (C1 x.ans) x.sts.length (Dq x.sts) (Ay A) =
   some ⟨Xn (if Ds r≠0 then Ds r else Ey none x.sts) (A++(r.map Cv).flatten++Du (x.sts.map Cq)),[]⟩
 |_,_,0,_,_,h,_,_=>by omega
 |[],i,nn+1,A,hd,hn,hi,hA=>by
  have hl:=drop_nil hd;have ei:i=x.ans.length:=by omega
  have Hm:Ds []=0:=by unfold Ds;rfl
  have L:=Cx A;have t:List.take (A.length*3) (Ay A)=Ay A:=Hg (by omega);have a1:=Qv (fu:=fu) (d:=d+2) x.sts.length (by omega) (by omega);have ea:=Bcs A (Ea x.sts.length);simp only[Ea] at ea
  have e:A++(([]:List An).map Cv).flatten++Du (x.sts.map Cq)=(A++[Ea x.sts.length])++(x.sts.map Cq).flatten:=by
   unfold Du;rw[List.map_nil,List.flatten_nil,List.append_nil,FX,List.length_map];rfl
  simp only[Ud] at hA;have l1:=A0f (fu:=fu) (d:=d) (C7:=C7) (H5:=H5) (Eg:=Eg) (Ch:=Ch) (D0:=D0) h2 x.sts 0 fu none (A++[Ea x.sts.length]) rfl (by omega) (by omega) (.inl ⟨rfl,rfl⟩) (by rw[F9,List.length_singleton];omega)
  have lA:(A++[Ea x.sts.length]).length=A.length+1:=by rw[F9];rfl
  have z0:((0:Nat):Int)=0:=rfl;rw[lA,z0] at l1;rw[e,Hm,A4 (by simp),<-l1];simp only[Ea];subst ei;rw[Fs];generalize Ay (A++[⟨5,x.sts.length,Fw⟩])=C' at *
  generalize Ay A=C at *
  generalize A.length=n at *
  repeat(with_reducible(first|apply Ai|apply Ae|apply Aj|apply Ao|apply Aw|apply Bb|apply A6|apply At|apply Ad|apply Ah|apply Cs);· first|constructor|(simp(disch:=omega)only[Ct,L,t,a1,ea]<;>first|constructor|omega)|omega)
  try simp(disch:=omega)only[Aa,L,t,a1,ea]
  all_goals rfl
 |a::rs,i,nn+1,A,hd,hn,hi,hA=>by
  obtain⟨q1,q2,q3⟩:=C8 hd;simp only[He] at hn hA;obtain⟨c0,c1,c2⟩:=ana q2;have c0':(C1 x.ans).getD (i*3+0) .top=.sc (.string a.name):=c0;have c2':(C1 x.ans).getD (i*3+1+1) .top=Af a.key.root:=c2;have nt:Int.toNat (i:Int)=i:=H6 _;have nm:=Aqe (fu:=fu) (d:=d+1) a.name;have ek:=Ajx (fu:=fu) (d:=d+1) Bo a.key;simp only[Ky.cells] at ek;have e00:((0:Int) != 0)=false:=rfl;have e90:((9:Int) != 0)=true:=rfl;have e60:((6:Int) != 0)=true:=rfl
  have bad:∀{e:Int},F0 a=e->e≠0->some (Dt.mk [.own 3 0 [],Au e] [])=some (Dt.mk (Xn (if Ds (a::rs)≠0 then Ds (a::rs) else Ey none x.sts) (A++((a::rs).map Cv).flatten++Du (x.sts.map Cq))) []):=fun {e} h he=>by
   have:Ds (a::rs)=e:=by rw[Ds,Bn (by rw[h];exact he),h]
   rw[this,Bn he,Rc he]
  by_cases e1:a.name.size<1\/32<a.name.size
  ·have hb:F0 a=9:=by unfold F0;rw[Bn e1]
   rw[Bn e1] at nm;rw[<-bad hb (by omega),Fs]
   repeat(with_reducible(first|apply Ai|apply Ae|apply Aj|apply Ao|apply Aw|apply Bb|apply A6|apply At|apply Ad|apply Ah|apply Cs);· first|constructor|(simp(disch:=omega)only[Ct,nt,c0',nm,e90,Cp,Ev]<;>first|constructor|omega)|omega)
   try simp(disch:=omega)only[Aa,nt,c0',nm,e90,Cp,Ev]
   all_goals rfl
  rw[A4 e1] at nm;cases e3:okS a.name
  ·have hb:F0 a=6:=by unfold F0;rw[A4 e1,Bn e3]
   rw[e3,Bn rfl] at nm;rw[<-bad hb (by omega),Fs]
   repeat(with_reducible(first|apply Ai|apply Ae|apply Aj|apply Ao|apply Aw|apply Bb|apply A6|apply At|apply Ad|apply Ah|apply Cs);· first|constructor|(simp(disch:=omega)only[Ct,nt,c0',nm,e60,Cp,Ev]<;>first|constructor|omega)|omega)
   try simp(disch:=omega)only[Aa,nt,c0',nm,e60,Cp,Ev]
   all_goals rfl
  rw[e3,A4 (by simp)] at nm;cases e5:Dz a.key.h
  rotate_left
  ·have hb:F0 a=9:=by unfold F0;rw[A4 e1,A4 (by simp[e3]),Bn e5]
   rw[e5,Bn rfl] at ek;rw[<-bad hb (by omega),Fs]
   repeat(with_reducible(first|apply Ai|apply Ae|apply Aj|apply Ao|apply Aw|apply Bb|apply A6|apply At|apply Ad|apply Ah|apply Cs);· first|constructor|(simp(disch:=omega)only[Ct,nt,c0',c1,c2',nm,ek,e00,e90,Cp,Ev]<;>first|constructor|omega)|omega)
   try simp(disch:=omega)only[Aa,nt,c0',c1,c2',nm,ek,e00,e90,Cp,Ev]
   all_goals rfl
  rw[e5,A4 (by simp)] at ek;have hz:F0 a=0:=by unfold F0;rw[A4 e1,A4 (by simp[e3]),A4 (by simp[e5])]
  have a2:=Qv (fu:=fu) (d:=d+2) 2 (by omega) (by omega);have u1:=Arq (fu:=fu) (d:=d+2) a.name;have u2:=Avv (fu:=fu) (d:=d+2) (Ir a.key);have k9:(Ir a.key).length=9:=rfl;rw[k9] at u2;have L9:=Ap .u8 (Ir a.key);rw[k9] at L9;have tk9:List.take 9 (Ac .u8 (Ir a.key))=Ac .u8 (Ir a.key):=Hg (by omega);have w:wrap .i64 ((i:Int)+1)=((i+1:Nat):Int):=by rw[Ag (by omega) (by omega)];omega
  have L:=Cx A;have t:List.take (A.length*3) (Ay A)=Ay A:=Hg (by omega);have ea:=A6f A (Ea 2) ⟨4,0,a.name⟩ ⟨3,0,Bk (Ir a.key)⟩;simp only[Ea] at ea
  have eS:A++((a::rs).map Cv).flatten=(A++[Ea 2,⟨4,0,a.name⟩,⟨3,0,Bk (Ir a.key)⟩])++(rs.map Cv).flatten:=by
   rw[Sn,List.flatten_cons,<-FX];rfl
  have hgo:Ds (a::rs)=Ds rs:=by rw[Ds,A4 (by simp[hz])]
  have ih:=Az4 Bo (C7:=C7) (H5:=H5) (Eg:=Eg) (Ch:=Ch) (D0:=D0) h1 h2 rs (i+1) nn (A++[Ea 2,⟨4,0,a.name⟩,⟨3,0,Bk (Ir a.key)⟩]) q3 (by omega) (by omega) (by rw[F9];simp only[He,Ud];omega)
  have lA:(A++[Ea 2,⟨4,0,a.name⟩,⟨3,0,Bk (Ir a.key)⟩]).length=A.length+3:=by rw[F9];rfl
  rw[lA] at ih;rw[Fs,eS,hgo,<-ih];simp only[Ea];generalize Ay (A++[⟨5,2,Fw⟩,⟨4,0,a.name⟩,⟨3,0,Bk (Ir a.key)⟩])=C' at *
  generalize Ay A=C at *
  generalize A.length=n at *
  generalize Ac .u8 (Ir a.key)=KB at *
  repeat(with_reducible(first|apply Ai|apply Ae|apply Aj|apply Ao|apply Aw|apply Bb|apply A6|apply At|apply Ad|apply Ah|apply Cs);· first|constructor|(simp(disch:=omega)only[Ct,nt,c0',c1,c2',nm,ek,e00,a2,u1,u2,L9,tk9,L,t,ea,w,Ck,De,Er,Cp,Ev]<;>first|constructor|omega)|omega)
  try simp(disch:=omega)only[Aa,nt,c0',c1,c2',nm,ek,e00,a2,u1,u2,L9,tk9,L,t,ea,w,Ck,De,Er,Cp,Ev]
  all_goals rfl
theorem A4n(Bo:1000<=fu)(x:Me):Aq C0 prog fu (d+4) 58 [.agg x.cells]=some ⟨Xn (C4 x) (A7 x),[]⟩:=by
 refine (EQ fu (d+3) x.model x.ans.length (C1 x.ans) x.sts.length (Dq x.sts)).trans ?_;by_cases h1:4<x.ans.length
 ·have hb:C4 x=8:=by unfold C4;rw[Bn (.inl h1)]
  rw[hb,Rc (by omega)]
  repeat(with_reducible(first|apply Ai|apply Ae|apply Aj|apply Ao|apply Aw|apply Bb|apply A6|apply At|apply Ad|apply Ah|apply Cs);· first|constructor|(simp(disch:=omega)only[Ct,Cp]<;>first|constructor|omega)|omega)
  try simp(disch:=omega)only[Aa,Cp]
  all_goals rfl
 by_cases h2:4<x.sts.length
 ·have hb:C4 x=8:=by unfold C4;rw[Bn (.inr h2)]
  rw[hb,Rc (by omega)]
  repeat(with_reducible(first|apply Ai|apply Ae|apply Aj|apply Ao|apply Aw|apply Bb|apply A6|apply At|apply Ad|apply Ah|apply Cs);· first|constructor|(simp(disch:=omega)only[Ct,Cp]<;>first|constructor|omega)|omega)
  try simp(disch:=omega)only[Aa,Cp]
  all_goals rfl
 have hb:C4 x=if Ds x.ans≠0 then Ds x.ans else Ey none x.sts:=by unfold C4;rw[A4 (by omega)]
 have a3:=Qv (fu:=fu) (d:=d+2) 3 (by omega) (by omega);have a4:=Qv (fu:=fu) (d:=d+2) x.ans.length (by omega) (by omega);have u:=Q5 (fu:=fu) (d:=d+2) x.model;have l0:=Az4 (fu:=fu) (d:=d) Bo (C7:=x.model) (H5:=x.ans.length) (Eg:=x.sts.length) (Ch:=C1 x.ans) (D0:=Dq x.sts) (x:=x) (by omega) (by omega) x.ans 0 fu [Ea 3,D3 x.model,Ea x.ans.length] rfl (by omega) (by omega) (by simp only[He,Ud];omega)
 have z0:((0:Nat):Int)=0:=rfl
 have e:A7 x=[Ea 3,D3 x.model,Ea x.ans.length]++(x.ans.map Cv).flatten++Du (x.sts.map Cq):=by
  simp only[A7,U7,List.flatten_cons,List.flatten_nil,List.append_nil,Zzp,UG,FX];unfold Du;rw[List.length_map,List.length_map];rfl
 have eT:Ay [Ea 3,D3 x.model,Ea x.ans.length]=[Au 5,Af 3,.sc (.string Fw),Au 1,Af x.model,.sc (.string Fw),Au 5,Af x.ans.length,.sc (.string Fw)]:=rfl;have eL:[Ea 3,D3 x.model,Ea x.ans.length].length=3:=rfl;rw[z0,eT,eL] at l0;rw[hb,e,<-l0]
 repeat(with_reducible(first|apply Ai|apply Ae|apply Aj|apply Ao|apply Aw|apply Bb|apply A6|apply At|apply Ad|apply Ah|apply Cs);· first|constructor|(simp(disch:=omega)only[Ct,a3,a4,u]<;>first|constructor|omega)|omega)
 try simp(disch:=omega)only[Aa,a3,a4,u]
 all_goals rfl
theorem A07(Bo:1000<=fu){C7 Ch D0 AZ:Int}{Po Pp Px:Nat}{BD BJ AK:Ab}{m:Md}(hw:m.wf)(h3:m.ents.length<=16)(h0:Br m=Dk none m.ents):∀(r:List Me)(i nn:Nat)(p:Option Int)(A:List It),m.ents.drop i=r->r.length<nn->i<=m.ents.length ->
  ((i=0/\p=none)\/∃x',0<i/\m.ents[i-1]?=some x'/\p=some x'.model)->A++(r.map A7).flatten=A3 m->(Dk p r=0->Dk none m.ents=0)->Dk none m.ents=Dk p r->A.length+28*r.length<=500 ->
  Ff fu (Aq C0 prog fu (d+4)) C7 Ch D0 Po BD AZ Pp BJ Px AK nn A.length (i:Int) m.ver m.iss m.nxt m.ents.length (B5 m.ents) m.sig.leaf m.sig.chains.length (Ac .u64 m.sig.chains) m.sig.path.length (Ac .u64 m.sig.path) (Ay A)=some ⟨Jh m,[]⟩
 |_,_,0,_,_,_,h,_,_,_,_,_,_=>by omega
 |[],i,nn+1,p,A,hd,hn,hi,hp,hM,hz,hE,hA=>by
  have hl:=drop_nil hd;have ei:i=m.ents.length:=by omega
  have Hm:Dk p []=0:=by unfold Dk;rfl
  have hm0:Br m=0:=by rw[h0,hz Hm]
  rw[List.map_nil,List.flatten_nil,List.append_nil] at hM;subst hM;obtain⟨vm,fm,lm⟩:=Uz hw hm0;have bi:=Apg (fu:=fu) (d:=d) (its:=A3 m) (fun x hx=>⟨(fm x hx).1,(fm x hx).2.1⟩) (by omega) Bo;unfold Jh;rw[Bn hm0];have L:=Cx (A3 m);have t:List.take ((A3 m).length*3) (Ay (A3 m))=Ay (A3 m):=Hg (by omega);have LB:=Ap .u8 (Bg (A3 m));have tB:=Mi .u8 (Bg (A3 m));subst ei;rw[Ly];generalize Bg (A3 m)=B at *
  generalize Ay (A3 m)=C at *
  generalize (A3 m).length=n at *
  repeat(with_reducible(first|apply Ai|apply Ae|apply Aj|apply Ao|apply Aw|apply Bb|apply A6|apply At|apply Ad|apply Ah|apply Cs);· first|constructor|(simp(disch:=omega)only[Ct,L,t,bi,LB,tB,Ck,De,Er]<;>first|constructor|omega)|omega)
  try simp(disch:=omega)only[Aa,L,t,bi,LB,tB,Ck,De,Er]
  all_goals rfl
 |x::rs,i,nn+1,p,A,hd,hn,hi,hp,hM,hz,hE,hA=>by
  obtain⟨q1,q2,q3⟩:=C8 hd;simp only[He] at hn hA;obtain⟨c0,c1,c2⟩:=mea q2;have c0':(B5 m.ents).getD (i*3+0) .top=Af x.model:=c0;have c2':(B5 m.ents).getD (i*3+1+1) .top=.lst false 2 x.sts.length (Dq x.sts):=c2;have nt:Int.toNat (i:Int)=i:=H6 _;have hxm:=hw.mod x (List.mem_of_getElem? q2);have en:=A4n (fu:=fu) (d:=d) Bo x;simp only[Me.cells] at en;have w:wrap .i64 ((i:Int)+1)=((i+1:Nat):Int):=by rw[Ag (by omega) (by omega)];omega
  have O1:J8 none x=0:=rfl;have O0:∀q:Int,J8 (some q) x=if x.model<=q then 7 else 0:=fun q=>rfl
  have LA:=Cx A;have tA:List.take (A.length*3) (Ay A)=Ay A:=Hg (by omega);have ea:=(U5 A (A7 x)).symm;have LE:=Cx (A7 x);have tE:List.take ((A7 x).length*3) (Ay (A7 x))=Ay (A7 x):=Hg (by omega);have e00:((0:Int) != 0)=false:=rfl;have hgo:J8 p x=0->C4 x=0->Dk p (x::rs)=Dk (some x.model) rs:=fun h h'=>by rw[Dk,A4 (by simp[h]),A4 (by simp[h'])]
  have Agc:J8 p x=0->C4 x≠0->Dk p (x::rs)=C4 x:=fun h h'=>by rw[Dk,A4 (by simp[h]),Bn h']
  have A3l:J8 p x=7->Dk p (x::rs)=7:=fun h=>by rw[Dk,Bn (by rw[h];omega),h]
  have bad:∀{e:Int},Dk p (x::rs)=e->e≠0->some (Dt.mk [.own 1 0 [],Au e] [])=some (Dt.mk (Jh m) []):=fun {e} h he=>by unfold Jh;rw[h0,hE,h,A4 he]
  have lA:(A++A7 x).length=A.length+(A7 x).length:=F9;have ih:=fun (h:J8 p x=0) (h':C4 x=0)=>A07 Bo (C7:=C7) (Ch:=Ch) (D0:=D0) (AZ:=AZ) (Po:=Po) (Pp:=Pp) (Px:=Px) (BD:=BD) (BJ:=BJ) (AK:=AK) hw h3 h0 rs (i+1) nn (some x.model) (A++A7 x) q3 (by omega) (by omega) (.inr ⟨x,by omega,by rw[Nat.add_sub_cancel];exact q2,rfl⟩) (by rw[<-hM,Sn,List.flatten_cons,FX]) (fun e=>hz (by rw[hgo h h'];exact e)) (by rw[hE,hgo h h']) (by have:=(W5 hxm h').2.2;omega)
  rw[Ly];rcases hp with⟨rfl,rfl⟩|⟨x',h9,h5,rfl⟩
  ·by_cases he:C4 x=0
   ·have le:=(W5 hxm he).2.2;have ih:=ih O1 he;unfold Xn at en;rw[Bn he] at en;rw[lA] at ih;rw[<-ih];generalize Ay (A++A7 x)=C' at *
    generalize Ay A=C at *
    generalize A.length=n at *
    generalize Ay (A7 x)=TE at *
    generalize (A7 x).length=nE at *
    repeat(with_reducible(first|apply Ai|apply Ae|apply Aj|apply Ao|apply Aw|apply Bb|apply A6|apply At|apply Ad|apply Ah|apply Cs);· first|constructor|(simp(disch:=omega)only[Ct,nt,c0,c1,c2',en,e00,LE,tE,LA,tA,ea,w,Ck,De,Er]<;>first|constructor|omega)|omega)
    try simp(disch:=omega)only[Aa,nt,c0,c1,c2',en,e00,LE,tE,LA,tA,ea,w,Ck,De,Er]
    all_goals rfl
   ·rw[Rc he] at en;have Gu:(C4 x != 0)=true:=by simp[he]
    rw[<-bad (Agc O1 he) he]
    repeat(with_reducible(first|apply Ai|apply Ae|apply Aj|apply Ao|apply Aw|apply Bb|apply A6|apply At|apply Ad|apply Ah|apply Cs);· first|constructor|(simp(disch:=omega)only[Ct,nt,c0,c1,c2',en,Gu]<;>first|constructor|omega)|omega)
    try simp(disch:=omega)only[Aa,nt,c0,c1,c2',en,Gu]
    all_goals rfl
  ·obtain⟨b0,b1,b2⟩:=mea h5;have b0':(B5 m.ents).getD ((i-1)*3+0) .top=Af x'.model:=b0;have wi:wrap .i64 ((i:Int)-1)=((i-1:Nat):Int):=by rw[Ag (by omega) (by omega)];omega
   have nt1:Int.toNat ((i-1:Nat):Int)=i-1:=H6 _;by_cases ho:x.model<=x'.model
   ·have h7:J8 (some x'.model) x=7:=by rw[O0,Bn ho]
    rw[<-bad (A3l h7) (by omega)]
    repeat(with_reducible(first|apply Ai|apply Ae|apply Aj|apply Ao|apply Aw|apply Bb|apply A6|apply At|apply Ad|apply Ah|apply Cs);· first|constructor|(simp(disch:=omega)only[Ct,nt,c0',c0,c1,c2',wi,nt1,b0']<;>first|constructor|omega)|omega)
    try simp(disch:=omega)only[Aa,nt,c0',c0,c1,c2',wi,nt1,b0']
    all_goals rfl
   ·have h7:J8 (some x'.model) x=0:=by rw[O0,A4 ho]
    by_cases he:C4 x=0
    ·have le:=(W5 hxm he).2.2;have ih:=ih h7 he;unfold Xn at en;rw[Bn he] at en;rw[lA] at ih;rw[<-ih];generalize Ay (A++A7 x)=C' at *
     generalize Ay A=C at *
     generalize A.length=n at *
     generalize Ay (A7 x)=TE at *
     generalize (A7 x).length=nE at *
     repeat(with_reducible(first|apply Ai|apply Ae|apply Aj|apply Ao|apply Aw|apply Bb|apply A6|apply At|apply Ad|apply Ah|apply Cs);· first|constructor|(simp(disch:=omega)only[Ct,nt,c0',c0,c1,c2',wi,nt1,b0',en,e00,LE,tE,LA,tA,ea,w,Ck,De,Er]<;>first|constructor|omega)|omega)
     try simp(disch:=omega)only[Aa,nt,c0',c0,c1,c2',wi,nt1,b0',en,e00,LE,tE,LA,tA,ea,w,Ck,De,Er]
     all_goals rfl
    ·rw[Rc he] at en;have Gu:(C4 x != 0)=true:=by simp[he]
     rw[<-bad (Agc h7 he) he]
     repeat(with_reducible(first|apply Ai|apply Ae|apply Aj|apply Ao|apply Aw|apply Bb|apply A6|apply At|apply Ad|apply Ah|apply Cs);· first|constructor|(simp(disch:=omega)only[Ct,nt,c0',c0,c1,c2',wi,nt1,b0',en,Gu]<;>first|constructor|omega)|omega)
     try simp(disch:=omega)only[Aa,nt,c0',c0,c1,c2',wi,nt1,b0',en,Gu]
     all_goals rfl
theorem OW(Bo:1000<=fu){m:Md}(hw:m.wf):Aq C0 prog fu (d+5) 31 [.agg m.cells]=some ⟨Jh m,[]⟩:=by
 refine (Y1 fu (d+4) m.ver m.iss m.nxt m.ents.length (B5 m.ents) m.sig.leaf m.sig.chains.length (Ac .u64 m.sig.chains) m.sig.path.length (Ac .u64 m.sig.path)).trans ?_;have bad:∀{e:Int},Br m=e->e≠0->some (Dt.mk [.own 1 0 [],Au e] [])=some (Dt.mk (Jh m) []):=fun {e} h he=>by unfold Jh;rw[h,A4 he]
 have w1:=Zq (fu:=fu) (d:=d+3) m.ver 1 16;by_cases h1:m.ver<1\/16<m.ver
 ·have hb:Br m=9:=by unfold Br;rw[Bn h1]
  have:(decide ((1:Int)<=m.ver)&&decide (m.ver<=16))=false:=by simp;omega
  rw[this] at w1;rw[<-bad hb (by omega)]
  repeat(with_reducible(first|apply Ai|apply Ae|apply Aj|apply Ao|apply Aw|apply Bb|apply A6|apply At|apply Ad|apply Ah|apply Cs);· first|constructor|(simp(disch:=omega)only[Ct,w1,Cp,Ev]<;>first|constructor|omega)|omega)
  try simp(disch:=omega)only[Aa,w1,Cp,Ev]
  all_goals rfl
 have z1:(decide ((1:Int)<=m.ver)&&decide (m.ver<=16))=true:=by simp;omega
 rw[z1] at w1;by_cases h2:m.iss<0\/m.nxt<m.iss\/1099511627776<m.nxt
 ·have hb:Br m=9:=by unfold Br;rw[A4 h1,Bn h2]
  rw[<-bad hb (by omega)];by_cases h2':m.iss<0
  ·skip
   repeat(with_reducible(first|apply Ai|apply Ae|apply Aj|apply Ao|apply Aw|apply Bb|apply A6|apply At|apply Ad|apply Ah|apply Cs);· first|constructor|(simp(disch:=omega)only[Ct,w1,Cp]<;>first|constructor|omega)|omega)
   try simp(disch:=omega)only[Aa,w1,Cp]
   all_goals rfl
  by_cases Ba6:m.nxt<m.iss
  ·skip
   repeat(with_reducible(first|apply Ai|apply Ae|apply Aj|apply Ao|apply Aw|apply Bb|apply A6|apply At|apply Ad|apply Ah|apply Cs);· first|constructor|(simp(disch:=omega)only[Ct,w1,Cp]<;>first|constructor|omega)|omega)
   try simp(disch:=omega)only[Aa,w1,Cp]
   all_goals rfl
  ·skip
   repeat(with_reducible(first|apply Ai|apply Ae|apply Aj|apply Ao|apply Aw|apply Bb|apply A6|apply At|apply Ad|apply Ah|apply Cs);· first|constructor|(simp(disch:=omega)only[Ct,w1,Cp]<;>first|constructor|omega)|omega)
   try simp(disch:=omega)only[Aa,w1,Cp]
   all_goals rfl
 by_cases h3:16<m.ents.length
 ·have hb:Br m=8:=by unfold Br;rw[A4 h1,A4 h2,Bn h3]
  rw[<-bad hb (by omega)]
  repeat(with_reducible(first|apply Ai|apply Ae|apply Aj|apply Ao|apply Aw|apply Bb|apply A6|apply At|apply Ad|apply Ah|apply Cs);· first|constructor|(simp(disch:=omega)only[Ct,w1,Cp]<;>first|constructor|omega)|omega)
  try simp(disch:=omega)only[Aa,w1,Cp]
  all_goals rfl
 have hb:Br m=Dk none m.ents:=by unfold Br;rw[A4 h1,A4 h2,A4 h3]
 have a4:=Qv (fu:=fu) (d:=d+3) 4 (by omega) (by omega);have aE:=Qv (fu:=fu) (d:=d+3) m.ents.length (by omega) (by omega);have u1:=Q5 (fu:=fu) (d:=d+3) m.ver;have u2:=Q5 (fu:=fu) (d:=d+3) m.iss;have u3:=Q5 (fu:=fu) (d:=d+3) m.nxt;have x1:wrap .u64 m.ver=m.ver:=Cd (by omega) (by omega);have x2:wrap .u64 m.iss=m.iss:=Cd (by omega) (by omega);have x3:wrap .u64 m.nxt=m.nxt:=Cd (by omega) (by omega);have eT:Ay [Ea 4,D3 m.ver,D3 m.iss,D3 m.nxt,Ea m.ents.length]=[Au 5,Af 4,.sc (.string Fw),Au 1,Af m.ver,.sc (.string Fw),Au 1,Af m.iss,.sc (.string Fw),Au 1,Af m.nxt,.sc (.string Fw),Au 5,Af m.ents.length,.sc (.string Fw)]:=rfl
 have eL:[Ea 4,D3 m.ver,D3 m.iss,D3 m.nxt,Ea m.ents.length].length=5:=rfl
 have l0:=A07 (fu:=fu) (d:=d) Bo (C7:=m.ver) (Ch:=m.iss) (D0:=m.nxt) (Po:=m.ents.length) (BD:=B5 m.ents) (AZ:=m.sig.leaf) (Pp:=m.sig.chains.length) (BJ:=Ac .u64 m.sig.chains) (Px:=m.sig.path.length) (AK:=Ac .u64 m.sig.path) hw (by omega) hb m.ents 0 fu none [Ea 4,D3 m.ver,D3 m.iss,D3 m.nxt,Ea m.ents.length] rfl (by omega) (by omega) (.inl ⟨rfl,rfl⟩) (by
  simp only[A3,Nw,List.flatten_cons,List.flatten_nil,List.append_nil,Zzp,UG];unfold Du;rw[List.length_map]) (fun h=>h) rfl (by simp only[He,Ud];omega)
 have z0:((0:Nat):Int)=0:=rfl;rw[z0,eT,eL] at l0;rw[<-l0]
 repeat(with_reducible(first|apply Ai|apply Ae|apply Aj|apply Ao|apply Aw|apply Bb|apply A6|apply At|apply Ad|apply Ah|apply Cs);· first|constructor|(simp(disch:=omega)only[Ct,w1,a4,aE,u1,u2,u3,x1,x2,x3,Cp]<;>first|constructor|omega)|omega)
 try simp(disch:=omega)only[Aa,w1,a4,aE,u1,u2,u3,x1,x2,x3,Cp]
 all_goals rfl
end
section
variable {fu d:Nat}{m:Md}
theorem Af0(Bo:20000<=fu)(hw:m.wf)(hp:m.sig.path.length<=1000000000):Aq C0 prog fu (d+6) 21 [.agg m.cells]=some ⟨T8 m,[]⟩:=by
 refine (We fu (d+5) m.ver m.iss m.nxt m.ents.length (B5 m.ents) m.sig.leaf m.sig.chains.length (Ac .u64 m.sig.chains) m.sig.path.length (Ac .u64 m.sig.path)).trans ?_;have bq:=OW (fu:=fu) (d:=d) (by omega) hw;simp only[Md.cells] at bq;have es:=Akc (fu:=fu) (d:=d+3) (by omega) m.sig hp;simp only[Sg.cells] at es;unfold Jh at bq;unfold T8 Dv;by_cases h0:Br m=0
 ·have lb:=N7 hw h0;rw[Bn h0] at bq;rw[Bn h0];have L1:=Ap .u8 (Bg (A3 m));have t1:=Mi .u8 (Bg (A3 m));have e00:((0:Int) != 0)=false:=rfl;have e90:((9:Int) != 0)=true:=rfl;have e40:((4:Int) != 0)=true:=rfl;unfold OG;by_cases g1:Dz m.sig.path.length=true
  ·rw[Bn g1] at es;rw[Bn g1,A4 (by omega)]
   repeat(with_reducible(first|apply Ai|apply Ae|apply Aj|apply Ao|apply Aw|apply Bb|apply A6|apply At|apply Ad|apply Ah|apply Cs);· first|constructor|(simp(disch:=omega)only[Ct,bq,es,e00,e90]<;>first|constructor|omega)|omega)
   try simp(disch:=omega)only[Aa,bq,es,e00,e90]
   all_goals rfl
  rw[A4 g1] at es;rw[A4 g1];by_cases g2:Ip m.sig.leaf m.sig.path.length=true
  ·rw[Bn g2] at es;rw[Bn g2,A4 (by omega)]
   repeat(with_reducible(first|apply Ai|apply Ae|apply Aj|apply Ao|apply Aw|apply Bb|apply A6|apply At|apply Ad|apply Ah|apply Cs);· first|constructor|(simp(disch:=omega)only[Ct,bq,es,e00,e90]<;>first|constructor|omega)|omega)
   try simp(disch:=omega)only[Aa,bq,es,e00,e90]
   all_goals rfl
  rw[A4 g2] at es;rw[A4 g2];by_cases g3:m.sig.chains.length≠18
  ·rw[Bn g3] at es;rw[Bn g3,A4 (by omega)]
   repeat(with_reducible(first|apply Ai|apply Ae|apply Aj|apply Ao|apply Aw|apply Bb|apply A6|apply At|apply Ad|apply Ah|apply Cs);· first|constructor|(simp(disch:=omega)only[Ct,bq,es,e00,e40]<;>first|constructor|omega)|omega)
   try simp(disch:=omega)only[Aa,bq,es,e00,e40]
   all_goals rfl
  rw[A4 g3] at es;rw[A4 g3,Bn rfl];have hb4:=H0 (h:=m.sig.path.length) (by simpa using g1)
  have ls:(Sm m.sig).length=2+8*m.sig.chains.length+8*m.sig.path.length:=by
   unfold Sm;simp only[He,F9,Do];omega
  have L2:=Ap .u8 (Sm m.sig);have t2:=Mi .u8 (Sm m.sig)
  have ea:Ac .u8 (Bg (A3 m))++Ac .u8 (Sm m.sig)=Ac .u8 (Fz m):=by
   unfold Fz;rw[Ac,Ac,Ac,List.flatMap_append]
  have le:(Fz m).length=(Bg (A3 m)).length+(Sm m.sig).length:=by unfold Fz;rw[F9]
  have L3:=Ap .u8 (Fz m);have t3:List.take ((Bg (A3 m)).length+(Sm m.sig).length) (Ac .u8 (Fz m))=Ac .u8 (Fz m):=Hg (by omega);rw[le] at L3 ⊢;generalize (Bg (A3 m)).length=n1 at *
  generalize (Sm m.sig).length=n2 at *
  generalize Ac .u8 (Bg (A3 m))=c1 at *
  generalize Ac .u8 (Sm m.sig)=c2 at *
  repeat(with_reducible(first|apply Ai|apply Ae|apply Aj|apply Ao|apply Aw|apply Bb|apply A6|apply At|apply Ad|apply Ah|apply Cs);· first|constructor|(simp(disch:=omega)only[Ct,bq,es,e00,De,Ck,Er,L1,t1,L2,t2,ea,L3,t3]<;>first|constructor|omega)|omega)
  try simp(disch:=omega)only[Aa,bq,es,e00,De,Ck,Er,L1,t1,L2,t2,ea,L3,t3]
  all_goals rfl
 ·have Gu:(Br m != 0)=true:=by simp[h0]
  rw[A4 h0] at bq;rw[A4 h0,A4 h0]
  repeat(with_reducible(first|apply Ai|apply Ae|apply Aj|apply Ao|apply Aw|apply Bb|apply A6|apply At|apply Ad|apply Ah|apply Cs);· first|constructor|(simp(disch:=omega)only[Ct,bq,Gu]<;>first|constructor|omega)|omega)
  try simp(disch:=omega)only[Aa,bq,Gu]
  all_goals rfl
theorem Arl(Bo:20000<=fu)(hw:m.wf)(k:Ky):Aq C0 prog fu (d+8) 20 [.agg m.cells,.agg k.cells]=some ⟨[Au (RV m k)],[]⟩:=by
 refine (V7 fu (d+7) m.ver m.iss m.nxt m.ents.length (B5 m.ents) m.sig.leaf m.sig.chains.length (Ac .u64 m.sig.chains) m.sig.path.length (Ac .u64 m.sig.path) k.h k.root).trans ?_;have bq:=OW (fu:=fu) (d:=d+2) (by omega) hw;simp only[Md.cells] at bq;unfold Jh at bq;unfold RV;by_cases h0:Br m=0
 ·have lb:=N7 hw h0;rw[Bn h0] at bq;rw[Bn h0];have hv:=Jm h0;have e00:((0:Int) != 0)=false:=rfl;have w:wrap .i64 (m.ver-1)=m.ver-1:=Ag (by omega) (by omega);by_cases h1:m.sig.leaf≠m.ver-1
  ·have hn:(m.sig.leaf != m.ver-1)=true:=by simp[h1]
   rw[Bn h1]
   repeat(with_reducible(first|apply Ai|apply Ae|apply Aj|apply Ao|apply Aw|apply Bb|apply A6|apply At|apply Ad|apply Ah|apply Cs);· first|constructor|(simp(disch:=omega)only[Ct,bq,e00,w,hn]<;>first|constructor|omega)|omega)
   try simp(disch:=omega)only[Aa,bq,e00,w,hn]
   all_goals rfl
  ·have hn:(m.sig.leaf != m.ver-1)=false:=by simp only[ne_eq,Decidable.not_not] at h1;simp[h1]
   rw[A4 h1];have hh:=WS (xs:=M9) (fu:=fu) (d:=d+3) (FQ hw h0) (by omega) (by omega) (by omega) 15;have vr:=Ajm (fu:=fu) (d:=d) (by omega) k (Sh m) m.sig;simp only[Ky.cells,Sg.cells] at vr;have eW:Rj 15 (Bg (A3 m))=Sh m:=rfl;rw[eW] at hh;have L1:=Ap .u8 (Bg (A3 m));have t1:=Mi .u8 (Bg (A3 m));generalize (Bg (A3 m)).length=n1 at *
   generalize Ac .u8 (Bg (A3 m))=c1 at *
   repeat(with_reducible(first|apply Ai|apply Ae|apply Aj|apply Ao|apply Aw|apply Bb|apply A6|apply At|apply Ad|apply Ah|apply Cs);· first|constructor|(simp(disch:=omega)only[Ct,bq,e00,w,hn,De,Ck,Er,L1,t1,hh,vr]<;>first|constructor|omega)|omega)
   try simp(disch:=omega)only[Aa,bq,e00,w,hn,De,Ck,Er,L1,t1,hh,vr]
   all_goals rfl
 ·have Gu:(Br m != 0)=true:=by simp[h0]
  rw[A4 h0] at bq;rw[A4 h0]
  repeat(with_reducible(first|apply Ai|apply Ae|apply Aj|apply Ao|apply Aw|apply Bb|apply A6|apply At|apply Ad|apply Ah|apply Cs);· first|constructor|(simp(disch:=omega)only[Ct,bq,Gu]<;>first|constructor|omega)|omega)
  try simp(disch:=omega)only[Aa,bq,Gu]
  all_goals rfl
theorem Aor(Bo:20000<=fu)(hw:m.wf)(seed h:Int):Aq C0 prog fu (d+13) 12 [.agg m.cells,Af seed,Au h]=some ⟨[.agg (R6 m seed h).1.cells,Au (R6 m seed h).2],[]⟩:=by
 refine (Yg fu (d+12) m.ver m.iss m.nxt m.ents.length (B5 m.ents) m.sig.leaf m.sig.chains.length (Ac .u64 m.sig.chains) m.sig.path.length (Ac .u64 m.sig.path) seed h).trans ?_;have bq:=OW (fu:=fu) (d:=d+7) (by omega) hw;simp only[Md.cells] at bq;unfold Jh at bq;unfold R6;by_cases h0:Br m=0
 ·have lb:=N7 hw h0;rw[Bn h0] at bq;rw[Bn h0];have hv:=Jm h0;have e00:((0:Int) != 0)=false:=rfl;have e90:((9:Int) != 0)=true:=rfl;have w:wrap .i64 (m.ver-1)=m.ver-1:=Ag (by omega) (by omega);have hh:=WS (xs:=M9) (fu:=fu) (d:=d+8) (FQ hw h0) (by omega) (by omega) (by omega) 15;have sg:=Av3 (fu:=fu) (d:=d) (by omega) seed h (m.ver-1) (Sh m);have eW:Rj 15 (Bg (A3 m))=Sh m:=rfl;rw[eW] at hh;have L1:=Ap .u8 (Bg (A3 m));have t1:=Mi .u8 (Bg (A3 m));generalize (Bg (A3 m)).length=n1 at *
  generalize Ac .u8 (Bg (A3 m))=c1 at *
  cases hs:KG seed h (m.ver-1) (Sh m) with
  |none=>
   rw[hs] at sg;simp only[Acd,Sg.owned,Ud] at sg
   repeat(with_reducible(first|apply Ai|apply Ae|apply Aj|apply Ao|apply Aw|apply Bb|apply A6|apply At|apply Ad|apply Ah|apply Cs);· first|constructor|(simp(disch:=omega)only[Ct,bq,e00,e90,w,De,Ck,Er,L1,t1,hh,sg]<;>first|constructor|omega)|omega)
   try simp(disch:=omega)only[Aa,bq,e00,e90,w,De,Ck,Er,L1,t1,hh,sg]
   all_goals rfl
  |some s=>
   rw[hs] at sg;simp only[Acd,Sg.owned] at sg;have hl:=Apr hs;have La:=Ap .u64 s.chains;have Lb:=Ap .u64 s.path;have ta:=Mi .u64 s.chains;have tb:=Mi .u64 s.path
   repeat(with_reducible(first|apply Ai|apply Ae|apply Aj|apply Ao|apply Aw|apply Bb|apply A6|apply At|apply Ad|apply Ah|apply Cs);· first|constructor|(simp(disch:=omega)only[Ct,bq,e00,w,De,Ck,Er,L1,t1,hh,sg,La,Lb,ta,tb]<;>first|constructor|omega)|omega)
   try simp(disch:=omega)only[Aa,bq,e00,w,De,Ck,Er,L1,t1,hh,sg,La,Lb,ta,tb]
   all_goals rfl
 ·have Gu:(Br m != 0)=true:=by simp[h0]
  rw[A4 h0] at bq;rw[A4 h0]
  repeat(with_reducible(first|apply Ai|apply Ae|apply Aj|apply Ao|apply Aw|apply Bb|apply A6|apply At|apply Ad|apply Ah|apply Cs);· first|constructor|(simp(disch:=omega)only[Ct,bq,Gu]<;>first|constructor|omega)|omega)
  try simp(disch:=omega)only[Aa,bq,Gu]
  all_goals rfl
end
def Tr(L:List It)(s:RS):Ab:=[.lst false 3 L.length (Ay L),Au ((L.length-s.1.length:Nat):Int),.sc (.bool s.2)]
theorem Kp{k:Int}{s:RS}{L:List It}(h:s.1 <:+ L):(Fa k s).2.1 <:+ L:=by
 obtain⟨l,b⟩:=s;unfold Fa;cases l with
 |nil=>exact h
 |cons x r=>
  simp only;by_cases hk:x.k=k
  ·rw[Bn hk];exact (List.suffix_cons x r).trans h
  ·rw[A4 hk];exact h
theorem Gb{lim:Int}{s:RS}{L:List It}(h:s.1 <:+ L):(D7 lim s).2.1 <:+ L:=by
 unfold D7;split
 ·exact Kp h
 ·exact Kp h
theorem Yo{lim:Int}{s:RS}{L:List It}(h:s.1 <:+ L):(Pb lim s).2.1 <:+ L:=by
 unfold Pb;split
 ·exact Kp h
 ·exact Kp h
theorem Anp{s:RS}{L:List It}(h:s.1 <:+ L):(XZ s).2.1 <:+ L:=Kp (Kp (Gb h))
theorem Am1{s:RS}{L:List It}(h:s.1 <:+ L):(ZZ s).2.1 <:+ L:=Yo (Yo (Gb h))
theorem TT:∀{n:Nat}{s:RS}{L:List It},s.1 <:+ L->(M2 n s).2.1 <:+ L
 |0,s,L,h=>h
 |n+1,s,L,h=>by
  unfold M2;split
  ·exact TT (Anp h)
  ·exact h
theorem Agq:∀{n:Nat}{s:RS}{L:List It},s.1 <:+ L->(Ot n s).2.1 <:+ L
 |0,s,L,h=>h
 |n+1,s,L,h=>by
  unfold Ot;split
  ·exact Agq (Am1 h)
  ·exact h
theorem Asu{s:RS}{L:List It}(h:s.1 <:+ L):(Sw s).2.1 <:+ L:=Agq (Gb (TT (Gb (Kp (Gb h)))))
section
variable {fu d:Nat}{L:List It}
theorem DZ(hL:L.length<=1000)(k:Int){s:RS}(hs:s.1 <:+ L):Aq C0 prog fu (d+1) 118 [.pbox (Tr L s),Au k]=some ⟨[.agg (Fa k s).1.cells],[Tr L (Fa k s).2]⟩:=by
 refine (Ul fu d L.length (Ay L) ((L.length-s.1.length:Nat):Int) s.2 k).trans ?_;obtain⟨l,b⟩:=s;obtain⟨pre,hp⟩:=hs;simp only at hp;have hl:L.length=pre.length+l.length:=by rw[<-hp,F9]
 cases l with
 |nil=>
  have ea:L.length-([]:List It).length=pre.length:=by omega
  simp only[Ud,JY] at hl;unfold Fa Tr;simp only;rw[ea]
  repeat(with_reducible(first|apply Ai|apply Ae|apply Aj|apply Ao|apply Aw|apply A6|apply At|apply Ad|apply Ah|apply Cs);· first|constructor|(simp(disch:=omega)only[Ct,Cp]<;>first|constructor|omega)|omega)
  try simp(disch:=omega)only[Aa,Cp]
  all_goals rfl
 |cons x r=>
  simp only[He] at hl;have ea:L.length-(x::r).length=pre.length:=by simp only[He];omega
  have eb:L.length-r.length=pre.length+1:=by omega
  have q:L[pre.length]?=some x:=by rw[<-hp,List.getElem?_append_right (Da _),Nat.sub_self];rfl
  obtain⟨c0,c1,c2⟩:=aci q;have c0':(Ay L).getD (pre.length*3+0) .top=Au x.k:=c0;have c2':(Ay L).getD (pre.length*3+1+1) .top=.sc (.string x.s):=c2;have nt:Int.toNat (pre.length:Int)=pre.length:=H6 _;have w1:wrap .i64 ((pre.length:Int)+1)=((pre.length+1:Nat):Int):=by rw[Ag (by omega) (by omega)];omega
  have w2:wrap .i64 (((pre.length+1:Nat):Int)-1)=(pre.length:Int):=by rw[Ag (by omega) (by omega)];omega
  unfold Fa Tr;simp only;clear hp q c2;generalize Ay L=T at *
  by_cases hk:x.k=k
  ·have hn:(x.k != k)=false:=by simp[hk]
   simp only[Bn hk];rw[ea,eb]
   repeat(with_reducible(first|apply Ai|apply Ae|apply Aj|apply Ao|apply Aw|apply A6|apply At|apply Ad|apply Ah|apply Cs);· first|constructor|(simp(disch:=omega)only[Ct,nt,c0',c0,c1,c2',hn,w1,w2]<;>first|constructor|omega)|omega)
   try simp(disch:=omega)only[Aa,nt,c0',c0,c1,c2',hn,w1,w2]
   all_goals rfl
  ·have hn:(x.k != k)=true:=by simp[hk]
   simp only[A4 hk];rw[ea]
   repeat(with_reducible(first|apply Ai|apply Ae|apply Aj|apply Ao|apply Aw|apply A6|apply At|apply Ad|apply Ah|apply Cs);· first|constructor|(simp(disch:=omega)only[Ct,nt,c0',hn]<;>first|constructor|omega)|omega)
   try simp(disch:=omega)only[Aa,nt,c0',hn]
   all_goals rfl
theorem MB(hL:L.length<=1000)(lim:Int){s:RS}(hs:s.1 <:+ L):Aq C0 prog fu (d+2) 82 [.pbox (Tr L s),Af lim]=some ⟨[Au (Pb lim s).1],[Tr L (Pb lim s).2]⟩:=by
 refine (Wi fu (d+1) L.length (Ay L) ((L.length-s.1.length:Nat):Int) s.2 lim).trans ?_;have t:=DZ (fu:=fu) (d:=d) hL 1 hs;unfold Pb;simp only[Tr,It.cells] at t ⊢;by_cases h:(Fa 1 s).1.n>lim
 ·simp only[Bn h]
  repeat(with_reducible(first|apply Ai|apply Ae|apply Aj|apply Ao|apply Aw|apply A6|apply At|apply Ad|apply Ah|apply Cs);· first|constructor|(simp(disch:=omega)only[Ct,t]<;>first|constructor|omega)|omega)
  try simp(disch:=omega)only[Aa,t]
 ·simp only[A4 h]
  repeat(with_reducible(first|apply Ai|apply Ae|apply Aj|apply Ao|apply Aw|apply A6|apply At|apply Ad|apply Ah|apply Cs);· first|constructor|(simp(disch:=omega)only[Ct,t]<;>first|constructor|omega)|omega)
  try simp(disch:=omega)only[Aa,t]
theorem Rk(hL:L.length<=1000){lim:Int}(h0:0<=lim)(h1:lim<=1000){s:RS}(hs:s.1 <:+ L):Aq C0 prog fu (d+2) 81 [.pbox (Tr L s),Au lim]=some ⟨[Au (D7 lim s).1],[Tr L (D7 lim s).2]⟩:=by
 refine (Up fu (d+1) L.length (Ay L) ((L.length-s.1.length:Nat):Int) s.2 lim).trans ?_;have t:=DZ (fu:=fu) (d:=d) hL 5 hs;have w:wrap .u64 lim=lim:=Cd (by omega) (by omega);unfold D7;simp only[Tr,It.cells] at t ⊢;by_cases h:(Fa 5 s).1.n>lim
 ·simp only[Bn h]
  repeat(with_reducible(first|apply Ai|apply Ae|apply Aj|apply Ao|apply Aw|apply A6|apply At|apply Ad|apply Ah|apply Cs);· first|constructor|(simp(disch:=omega)only[Ct,t,w]<;>first|constructor|omega)|omega)
  try simp(disch:=omega)only[Aa,t,w]
 ·simp only[A4 h]
  repeat(with_reducible(first|apply Ai|apply Ae|apply Aj|apply Ao|apply Aw|apply A6|apply At|apply Ad|apply Ah|apply Cs);· first|constructor|(simp(disch:=omega)only[Ct,t,w]<;>first|constructor|omega)|omega)
  try simp(disch:=omega)only[Aa,t,w]
theorem A1i(hL:L.length<=1000){Kl:Nat}{C7:Ab}{Ch:Int}{D0:Bool}{mo:Int}{A:List An}(hA:A.length<=3000):∀(n nn:Nat)(s:RS)(B:List Sa),s.1 <:+ L->n<nn->n<=1000->B.length+n<=3000 ->
  Di fu (Aq C0 prog fu (d+2)) Kl C7 Ch D0 nn (n:Int) L.length (Ay L) ((L.length-s.1.length:Nat):Int) s.2 0 0 0 [] [] mo A.length B.length (C1 A) (Dq B) =
   some ⟨[.agg (Me.mk mo A (B++(Ot n s).1)).cells],[Tr L (Ot n s).2]⟩
 |n,0,_,_,_,h,_,_=>by omega
 |n,nn+1,s,B,hs,hn,hk,hB=>by
  have LA:=N5 A;have LB:=Zh B;have tA:List.take (A.length*3) (C1 A)=C1 A:=Hg (by omega);have tB:List.take (B.length*2) (Dq B)=Dq B:=Hg (by omega);rw[Q9];cases n with
  |zero=>
   have e1:B++(Ot 0 s).1=B:=by simp[Ot]
   have e2:(Ot 0 s).2=s:=rfl;rw[e1,e2];simp only[Tr,Me.cells]
   repeat(with_reducible(first|apply Ai|apply Ae|apply Aj|apply Ao|apply Aw|apply A6|apply At|apply Ad|apply Ah|apply Cs);· first|constructor|(simp(disch:=omega)only[Ct,LA,LB,tA,tB,Ck,Er]<;>first|constructor|omega)|omega)
   try simp(disch:=omega)only[Aa,LA,LB,tA,tB,Ck,Er]
   all_goals rfl
  |succ n=>
   obtain⟨l,b⟩:=s;cases b
   rotate_left
   ·have e1:B++(Ot (n+1) (l,true)).1=B:=by simp[Ot]
    have e2:(Ot (n+1) (l,true)).2=(l,true):=by simp[Ot]
    rw[e1,e2];simp only[Tr,Me.cells]
    repeat(with_reducible(first|apply Ai|apply Ae|apply Aj|apply Ao|apply Aw|apply A6|apply At|apply Ad|apply Ah|apply Cs);· first|constructor|(simp(disch:=omega)only[Ct,LA,LB,tA,tB,Ck,Er,Cp,Ev]<;>first|constructor|omega)|omega)
    try simp(disch:=omega)only[Aa,LA,LB,tA,tB,Ck,Er,Cp,Ev]
    all_goals rfl
   have wd:wrap .i64 (((n+1:Nat):Int)-1)=(n:Int):=by rw[Ag (by omega) (by omega)];omega
   have ih:=A1i hL (Kl:=Kl) (C7:=C7) (Ch:=Ch) (D0:=D0) (mo:=mo) hA n nn (ZZ (l,false)).2 (B++[(ZZ (l,false)).1]) (Am1 hs) (by omega) (by omega) (by rw[F9,List.length_singleton];omega)
   have es:Ot (n+1) (l,false)=((ZZ (l,false)).1::(Ot n (ZZ (l,false)).2).1,(Ot n (ZZ (l,false)).2).2):=by
    rw[Ot,Bn rfl]
   have eB:B++(Ot (n+1) (l,false)).1=(B++[(ZZ (l,false)).1])++(Ot n (ZZ (l,false)).2).1:=by rw[es];simp
   have e2:(Ot (n+1) (l,false)).2=(Ot n (ZZ (l,false)).2).2:=by rw[es]
   have lB:(B++[(ZZ (l,false)).1]).length=B.length+1:=by rw[F9];rfl
   rw[eB,e2,<-ih,lB];clear ih es eB e2;have o1:=Rk (fu:=fu) (d:=d) hL (lim:=2) (by omega) (by omega) (s:=(l,false)) hs;have o2:=MB (fu:=fu) (d:=d) hL 4 (s:=(D7 2 (l,false)).2) (Gb hs);have o3:=MB (fu:=fu) (d:=d) hL 1099511627776 (s:=(Pb 4 (D7 2 (l,false)).2).2) (Yo (Gb hs));have ea:=Ab2 B (ZZ (l,false)).1;simp only[ZZ] at ea ⊢;simp only[Tr] at o1 o2 o3;clear lB;generalize Dq (B++[_])=B' at *
   generalize Pb 1099511627776 (Pb 4 (D7 2 (l,false)).2).2=u3 at *
   generalize Pb 4 (D7 2 (l,false)).2=u2 at *
   generalize D7 2 (l,false)=u1 at *
   generalize Ay L=T at *
   repeat(with_reducible(first|apply Ai|apply Ae|apply Aj|apply Ao|apply Aw|apply A6|apply At|apply Ad|apply Ah|apply Cs);· first|constructor|(simp(disch:=omega)only[Ct,o1,o2,o3,wd,LB,tB,ea,Cp,Ev]<;>first|constructor|omega)|omega)
   try simp(disch:=omega)only[Aa,o1,o2,o3,wd,LB,tB,ea,Cp,Ev]
   all_goals rfl
theorem A1k(Bo:2000<=fu)(hL:L.length<=1000){Kl:Nat}{C7:Ab}{Ch:Int}{D0:Bool}{mo:Int}:∀(n nn:Nat)(s:RS)(A:List An),s.1 <:+ L->Sc s.1->n<nn->n<=1000->A.length+n<=3000 ->
  Ep fu (Aq C0 prog fu (d+2)) Kl C7 Ch D0 nn (n:Int) L.length (Ay L) ((L.length-s.1.length:Nat):Int) s.2 0 0 0 [] [] mo A.length 0 (C1 A) [] =
   Di fu (Aq C0 prog fu (d+2)) Kl C7 Ch D0 fu (D7 4 (M2 n s).2).1 L.length (Ay L) ((L.length-(D7 4 (M2 n s).2).2.1.length:Nat):Int) (D7 4 (M2 n s).2).2.2 0 0 0 [] [] mo (A++(M2 n s).1).length 0 (C1 (A++(M2 n s).1)) []
 |n,0,_,_,_,_,h,_,_=>by omega
 |n,nn+1,s,A,hs,ho,hn,hk,hB=>by
  have LA:=N5 A;have tA:List.take (A.length*3) (C1 A)=C1 A:=Hg (by omega);rw[Qs];cases n with
  |zero=>
   have e1:A++(M2 0 s).1=A:=by simp[M2]
   have e2:(M2 0 s).2=s:=rfl;rw[e1,e2];have o1:=Rk (fu:=fu) (d:=d) hL (lim:=4) (by omega) (by omega) hs;simp only[Tr] at o1
   repeat(with_reducible(first|apply Ai|apply Ae|apply Aj|apply Ao|apply Aw|apply A6|apply At|apply Ad|apply Ah|apply Cs);· first|constructor|(simp(disch:=omega)only[Ct,o1]<;>first|constructor|omega)|omega)
   try simp(disch:=omega)only[Aa,o1]
   all_goals rfl
  |succ n=>
   obtain⟨l,b⟩:=s;cases b
   rotate_left
   ·have e1:A++(M2 (n+1) (l,true)).1=A:=by simp[M2]
    have e2:(M2 (n+1) (l,true)).2=(l,true):=by simp[M2]
    rw[e1,e2];have o1:=Rk (fu:=fu) (d:=d) hL (lim:=4) (by omega) (by omega) hs;simp only[Tr] at o1
    repeat(with_reducible(first|apply Ai|apply Ae|apply Aj|apply Ao|apply Aw|apply A6|apply At|apply Ad|apply Ah|apply Cs);· first|constructor|(simp(disch:=omega)only[Ct,o1,Cp,Ev]<;>first|constructor|omega)|omega)
    try simp(disch:=omega)only[Aa,o1,Cp,Ev]
    all_goals rfl
   have wd:wrap .i64 (((n+1:Nat):Int)-1)=(n:Int):=by rw[Ag (by omega) (by omega)];omega
   have ih:=A1k Bo hL (Kl:=Kl) (C7:=C7) (Ch:=Ch) (D0:=D0) (mo:=mo) n nn (XZ (l,false)).2 (A++[(XZ (l,false)).1]) (Anp hs) (Au8 (s:=(l,false)) ho).2.1 (by omega) (by omega) (by rw[F9,List.length_singleton];omega)
   have es:M2 (n+1) (l,false)=((XZ (l,false)).1::(M2 n (XZ (l,false)).2).1,(M2 n (XZ (l,false)).2).2):=by
    rw[M2,Bn rfl]
   have eA:A++(M2 (n+1) (l,false)).1=(A++[(XZ (l,false)).1])++(M2 n (XZ (l,false)).2).1:=by rw[es];simp
   have e2:(M2 (n+1) (l,false)).2=(M2 n (XZ (l,false)).2).2:=by rw[es]
   have lA:(A++[(XZ (l,false)).1]).length=A.length+1:=by rw[F9];rfl
   rw[eA,e2];generalize M2 n (XZ (l,false)).2=qq at *
   rw[<-ih,lA];clear ih es eA e2 lA;obtain⟨_,_,a3,a4⟩:=Mb (lim:=2) (s:=(l,false)) ho (by omega) (by omega);obtain⟨_,b2,b3,b4⟩:=R2 (k:=4) a3;obtain⟨_,hs4,c3,c4⟩:=R2 (k:=3) b3;have o1:=Rk (fu:=fu) (d:=d) hL (lim:=2) (by omega) (by omega) (s:=(l,false)) hs;have o2:=DZ (fu:=fu) (d:=d+1) hL 4 (s:=(D7 2 (l,false)).2) (Gb hs);have o3:=DZ (fu:=fu) (d:=d+1) hL 3 (s:=(Fa 4 (D7 2 (l,false)).2).2) (Kp (Gb hs));have ea:=Ab3 A (XZ (l,false)).1;simp only[XZ] at ea ⊢;simp only[Tr,It.cells] at o1 o2 o3;generalize Fa 3 (Fa 4 (D7 2 (l,false)).2).2=u3 at *
   generalize Fa 4 (D7 2 (l,false)).2=u2 at *
   generalize D7 2 (l,false)=u1 at *
   have L4:(Ej u3.1.s).length=u3.1.s.size:=by rw[Lu,Ap,Gl]
   have t4:List.take u3.1.s.size (Ej u3.1.s)=Ac .u8 (Cy u3.1.s):=by rw[Lu,Hg (by rw[Ap,Gl];omega)]
   have dk:=Alf (fu:=fu) (d:=d) (by omega) (BK u3.1.s);rw[Gl] at dk;have e00:((0:Int) != 0)=false:=rfl;have e20:((2:Int) != 0)=true:=rfl;generalize Ay L=T at *
   unfold Afr at ea ⊢;cases hk:IE (Cy u3.1.s) with
   |none=>
    rw[hk] at dk;simp only[NX,Ky.cells] at dk;simp only[hk,Option.getD_none,Option.isNone_none,Bool.or_true] at ea ⊢;generalize C1 (A++[_])=A' at *
    cases hb:u3.2.2
    ·skip
     repeat(with_reducible(first|apply Ai|apply Ae|apply Aj|apply Ao|apply Aw|apply A6|apply At|apply Ad|apply Ah|apply Cs);· first|constructor|(simp(disch:=omega)only[Ct,o1,o2,o3,L4,t4,dk,e20,wd,LA,tA,ea,hb,De,Ck,Er,Cp,Ev,Bool.or_true,Bool.true_or]<;>first|constructor|omega)|omega)
     try simp(disch:=omega)only[Aa,o1,o2,o3,L4,t4,dk,e20,wd,LA,tA,ea,hb,De,Ck,Er,Cp,Ev,Bool.or_true,Bool.true_or]
     all_goals rfl
    ·skip
     repeat(with_reducible(first|apply Ai|apply Ae|apply Aj|apply Ao|apply Aw|apply A6|apply At|apply Ad|apply Ah|apply Cs);· first|constructor|(simp(disch:=omega)only[Ct,o1,o2,o3,L4,t4,dk,e20,wd,LA,tA,ea,hb,De,Ck,Er,Cp,Ev,Bool.or_true,Bool.true_or]<;>first|constructor|omega)|omega)
     try simp(disch:=omega)only[Aa,o1,o2,o3,L4,t4,dk,e20,wd,LA,tA,ea,hb,De,Ck,Er,Cp,Ev,Bool.or_true,Bool.true_or]
     all_goals rfl
   |some k=>
    rw[hk] at dk;simp only[NX,Ky.cells] at dk;simp only[hk,Option.getD_some,Option.isNone_some,Bool.or_false] at ea ⊢;generalize C1 (A++[_])=A' at *
    cases hb:u3.2.2
    ·skip
     repeat(with_reducible(first|apply Ai|apply Ae|apply Aj|apply Ao|apply Aw|apply A6|apply At|apply Ad|apply Ah|apply Cs);· first|constructor|(simp(disch:=omega)only[Ct,o1,o2,o3,L4,t4,dk,e00,wd,LA,tA,ea,hb,De,Ck,Er,Cp,Ev,Bool.or_false]<;>first|constructor|omega)|omega)
     try simp(disch:=omega)only[Aa,o1,o2,o3,L4,t4,dk,e00,wd,LA,tA,ea,hb,De,Ck,Er,Cp,Ev,Bool.or_false]
     all_goals rfl
    ·skip
     repeat(with_reducible(first|apply Ai|apply Ae|apply Aj|apply Ao|apply Aw|apply A6|apply At|apply Ad|apply Ah|apply Cs);· first|constructor|(simp(disch:=omega)only[Ct,o1,o2,o3,L4,t4,dk,e00,wd,LA,tA,ea,hb,De,Ck,Er,Cp,Ev,Bool.or_false]<;>first|constructor|omega)|omega)
     try simp(disch:=omega)only[Aa,o1,o2,o3,L4,t4,dk,e00,wd,LA,tA,ea,hb,De,Ck,Er,Cp,Ev,Bool.or_false]
     all_goals rfl
theorem Axj(Bo:2000<=fu)(hL:L.length<=1000){s:RS}(hs:s.1 <:+ L)(ho:Sc s.1):Aq C0 prog fu (d+3) 83 [.pbox (Tr L s)]=some ⟨[.agg (Sw s).1.cells],[Tr L (Sw s).2]⟩:=by
 refine (Tx fu (d+2) L.length (Ay L) ((L.length-s.1.length:Nat):Int) s.2).trans ?_;obtain⟨_,_,a3,a4⟩:=Mb (lim:=3) ho (by omega) (by omega);obtain⟨b1,_,b3,b4⟩:=R2 (k:=1) a3;have hA:=Mb (lim:=4) b3 (by omega) (by omega);have hB:=Adt (n:=(Qh s).1.toNat) (s:=(Qh s).2) hA.2.2.1;have hC:=Mb (lim:=4) (s:=(X7 s).2) hB.2.2.1 (by omega) (by omega);have m1:(X7 s).1.length<=(Qh s).1.toNat:=hB.2.1;have n1:(Qh s).1<=4:=hA.2.1;have n2:(P3 s).1<=4:=hC.2.1;have p1:0<=(Qh s).1:=hA.1;have p2:0<=(P3 s).1:=hC.1;have sA:(Qh s).2.1 <:+ L:=Gb (Kp (Gb hs));have sB:(X7 s).2.1 <:+ L:=TT sA;have sC:(P3 s).2.1 <:+ L:=Gb sB
 have r0:=A1k (fu:=fu) (d:=d) Bo hL (Kl:=L.length) (C7:=Ay L) (Ch:=((L.length-s.1.length:Nat):Int)) (D0:=s.2) (mo:=(Fa 1 (D7 3 s).2).1.n) (Qh s).1.toNat fu (Qh s).2 [] sA hA.2.2.1 (by omega) (by omega) (by simp only[Ud];omega)
 have r1:=A1i (fu:=fu) (d:=d) hL (Kl:=L.length) (C7:=Ay L) (Ch:=((L.length-s.1.length:Nat):Int)) (D0:=s.2) (mo:=(Fa 1 (D7 3 s).2).1.n) (A:=(X7 s).1) (by omega) (P3 s).1.toNat fu (P3 s).2 [] sC (by omega) (by omega) (by simp only[Ud];omega)
 rw[Int.toNat_of_nonneg p1] at r0;rw[Int.toNat_of_nonneg p2] at r1;have r2:=r0.trans r1;have o1:=Rk (fu:=fu) (d:=d) hL (lim:=3) (by omega) (by omega) hs;have o2:=DZ (fu:=fu) (d:=d+1) hL 1 (Gb (lim:=3) hs);have o3:=Rk (fu:=fu) (d:=d) hL (lim:=4) (by omega) (by omega) (Kp (k:=1) (Gb (lim:=3) hs));simp only[Tr,It.cells] at o1 o2 o3;have eR:(some ⟨[.agg (Sw s).1.cells],[Tr L (Sw s).2]⟩:Option Dt)=some ⟨[.agg (Me.mk (Fa 1 (D7 3 s).2).1.n (X7 s).1 ([]++(Ot (P3 s).1.toNat (P3 s).2).1)).cells],[Tr L (Ot (P3 s).1.toNat (P3 s).2).2]⟩:=rfl;rw[eR,<-r2];clear r0 r1 r2 eR
 repeat(with_reducible(first|apply Ai|apply Ae|apply Aj|apply Ao|apply Aw|apply A6|apply At|apply Ad|apply Ah|apply Cs);· first|constructor|(simp(disch:=omega)only[Ct,o1,o2,o3]<;>first|constructor|omega)|omega)
 try simp(disch:=omega)only[Aa,o1,o2,o3]
 all_goals rfl
end
section
variable {fu d:Nat}{L:List It}
theorem A2z(Bo:20000<=fu){Mf:Nat}{a0:Ab}{b:B8}(hb:I7 b){used:Nat}(ZO:used<=b.length)(hl:b.length<=1000000){at_ v i x:Int}{nn n:Nat}{A:List Me}:
  Dw fu (Aq C0 prog fu (d+14)) Mf a0 (nn+1) b.length (Ac .u8 b) (used:Int) (n:Int) 0 0 0 0 0 0 0 [] [] [] L.length (Ay L) at_ true v i x A.length 0 0 0 (B5 A) [] [] =
   some ⟨[.agg FM.cells,Au 2],[]⟩:=by
 rw[Hr];have ds:=TX (fu:=fu) (d:=d+12) (by omega) (l:=b.drop used) (fun x hx=>hb x (List.mem_of_mem_drop hx));rw[List.length_drop] at ds;have tb:List.take (b.length-used) (List.drop used (Ac .u8 b))=Ac .u8 (b.drop used):=by rw[Ho,Hg (by rw[Ap,List.length_drop];omega)]
 have nu:Int.toNat (used:Int)=used:=H6 used;generalize Ay L=T at *
 generalize B5 A=TA at *
 by_cases h0:n=0
 ·subst h0;cases hs:sgD (b.drop used) with
  |none=>
   rw[hs] at ds;simp only[ER,Sg.owned] at ds
   repeat(with_reducible(first|apply Ai|apply Ae|apply Aj|apply Ao|apply Bb|apply A6|apply At|apply Gp|apply Ad|apply Ah|apply Cs);· first|constructor|(simp(disch:=omega)only[Ct,Ck,De,nu,tb,ds,Cp,Ev]<;>first|constructor|omega)|omega)
   try simp(disch:=omega)only[Aa,Ck,De,nu,tb,ds,Cp,Ev]
   all_goals rfl
  |some s=>
   rw[hs] at ds;simp only[ER,Sg.owned] at ds
   repeat(with_reducible(first|apply Ai|apply Ae|apply Aj|apply Ao|apply Bb|apply A6|apply At|apply Gp|apply Ad|apply Ah|apply Cs);· first|constructor|(simp(disch:=omega)only[Ct,Ck,De,nu,tb,ds,Cp,Ev]<;>first|constructor|omega)|omega)
   try simp(disch:=omega)only[Aa,Ck,De,nu,tb,ds,Cp,Ev]
   all_goals rfl
 ·cases hs:sgD (b.drop used) with
  |none=>
   rw[hs] at ds;simp only[ER,Sg.owned] at ds
   repeat(with_reducible(first|apply Ai|apply Ae|apply Aj|apply Ao|apply Bb|apply A6|apply At|apply Gp|apply Ad|apply Ah|apply Cs);· first|constructor|(simp(disch:=omega)only[Ct,Ck,De,nu,tb,ds,Cp,Ev]<;>first|constructor|omega)|omega)
   try simp(disch:=omega)only[Aa,Ck,De,nu,tb,ds,Cp,Ev]
   all_goals rfl
  |some s=>
   rw[hs] at ds;simp only[ER,Sg.owned] at ds
   repeat(with_reducible(first|apply Ai|apply Ae|apply Aj|apply Ao|apply Bb|apply A6|apply At|apply Gp|apply Ad|apply Ah|apply Cs);· first|constructor|(simp(disch:=omega)only[Ct,Ck,De,nu,tb,ds,Cp,Ev]<;>first|constructor|omega)|omega)
   try simp(disch:=omega)only[Aa,Ck,De,nu,tb,ds,Cp,Ev]
   all_goals rfl
theorem A2h(Bo:20000<=fu){Mf:Nat}{a0:Ab}{b:B8}(hb:I7 b){used:Nat}(ZO:used<=b.length)(hl:b.length<=1000000){at_ v i x:Int}{nn:Nat}{A:List Me}(hA:A.length<=3000)(hk:∀y∈A,okM y):
  Dw fu (Aq C0 prog fu (d+14)) Mf a0 (nn+1) b.length (Ac .u8 b) (used:Int) ((0:Nat):Int) 0 0 0 0 0 0 0 [] [] [] L.length (Ay L) at_ false v i x A.length 0 0 0 (B5 A) [] [] =
   some ⟨[.agg (VU b used (Md.mk v i x A GG,true)).1.cells,Au (VU b used (Md.mk v i x A GG,true)).2],[]⟩:=by
 rw[Hr];have ds:=TX (fu:=fu) (d:=d+12) (by omega) (l:=b.drop used) (fun x hx=>hb x (List.mem_of_mem_drop hx));rw[List.length_drop] at ds;have tb:List.take (b.length-used) (List.drop used (Ac .u8 b))=Ac .u8 (b.drop used):=by rw[Ho,Hg (by rw[Ap,List.length_drop];omega)]
 have nu:Int.toNat (used:Int)=used:=H6 used;have LA:=Mo A;have tA:List.take (A.length*3) (B5 A)=B5 A:=Hg (by omega);have e00:((0:Int) != 0)=false:=rfl;have e20:((2:Int) != 0)=true:=rfl;unfold VU;rw[A4 (by simp)];generalize Ay L=T at *
 cases hs:sgD (b.drop used) with
 |none=>
  rw[hs] at ds;simp only[ER,Sg.owned] at ds
  repeat(with_reducible(first|apply Ai|apply Ae|apply Aj|apply Ao|apply Bb|apply A6|apply At|apply Gp|apply Ad|apply Ah|apply Cs);· first|constructor|(simp(disch:=omega)only[Ct,Ck,De,nu,tb,ds,e20,Cp,Ev]<;>first|constructor|omega)|omega)
  try simp(disch:=omega)only[Aa,Ck,De,nu,tb,ds,e20,Cp,Ev]
  all_goals rfl
 |some s=>
  rw[hs] at ds;simp only[ER,Sg.owned] at ds;obtain⟨s1,s2,s3⟩:=Ajr hs;simp only;have cok:(Md.mk v i x A s).ok:=⟨fun y hy=>Acj (hk y hy),s1⟩
  have en:=Af0 (fu:=fu) (d:=d+8) (m:=Md.mk v i x A s) Bo cok.wf (Nat.le_trans s2 (by omega));have ec:(Md.mk v i x A s).cells=[Au v,Au i,Au x,.lst false 3 A.length (B5 A),Au s.leaf,.lst false 1 s.chains.length (Ac .u64 s.chains),.lst false 1 s.path.length (Ac .u64 s.path)]:=rfl;have eB:∀h:Dv (Md.mk v i x A s)=0,I7 (Fz (Md.mk v i x A s)):=fun h y hy=>(B4.1 hy).elim (FQ cok.wf (Gw h).1 y) (Asg s y)
  have eL:∀h:Dv (Md.mk v i x A s)=0,(Fz (Md.mk v i x A s)).length<=100000:=fun h=>by
   have h1:=N7 cok.wf (Gw h).1;have h2:=H0 (h:=s.path.length) (by simpa using (Gw h).2.1)
   have ls:(Sm s).length=2+8*s.chains.length+8*s.path.length:=by
    unfold Sm;simp only[He,F9,Do];omega
   show (Bg (A3 (Md.mk v i x A s))++Sm s).length<=_;rw[F9];omega
  have Lc:=Ap .u64 s.chains;have Lp:=Ap .u64 s.path;have tc:=Mi .u64 s.chains;have tp:=Mi .u64 s.path;generalize (Md.mk v i x A s)=c at *
  rw[ec] at en;unfold T8 at en;by_cases hz:Dv c=0
  rotate_left
  ·have hz':(Dv c != 0)=true:=by simp[hz]
   rw[A4 hz] at en;rw[A4 (fun h=>hz h.1)];generalize B5 A=TA at *
   repeat(with_reducible(first|apply Ai|apply Ae|apply Aj|apply Ao|apply Bb|apply A6|apply At|apply Gp|apply Ad|apply Ah|apply Cs);· first|constructor|(simp(disch:=omega)only[Ct,Ck,De,Er,nu,tb,ds,e00,LA,tA,Lc,Lp,tc,tp,en,hz',Cp,Ev]<;>first|constructor|omega)|omega)
   try simp(disch:=omega)only[Aa,Ck,De,Er,nu,tb,ds,e00,LA,tA,Lc,Lp,tc,tp,en,hz',Cp,Ev]
   all_goals rfl
  rw[Bn hz] at en;have eL:=eL hz;have be:=A79 (eB hz) hb;have LE:=Ap .u8 (Fz c);have tE:=Mi .u8 (Fz c);have oE:=Hc (Fz c);have LB:=Ap .u8 b;have oB:=Hc b;by_cases hq:Fz c=b
  ·rw[Bn ⟨hz,hq⟩];simp only[hq,decide_true] at be en LE tE oE;simp only[ec];generalize B5 A=TA at *
   repeat(with_reducible(first|apply Ai|apply Ae|apply Aj|apply Ao|apply Bb|apply A6|apply At|apply Gp|apply Ad|apply Ah|apply Cs);· first|constructor|(simp(disch:=omega)only[Ct,Ck,De,Er,nu,tb,ds,e00,LA,tA,Lc,Lp,tc,tp,en,LE,tE,oE,LB,oB,be,Cp,Ev]<;>first|constructor|omega)|omega)
   try simp(disch:=omega)only[Aa,Ck,De,Er,nu,tb,ds,e00,LA,tA,Lc,Lp,tc,tp,en,LE,tE,oE,LB,oB,be,Cp,Ev]
   all_goals rfl
  ·rw[A4 (fun h=>hq h.2)];simp only[hq,decide_false] at be;generalize B5 A=TA at *
   repeat(with_reducible(first|apply Ai|apply Ae|apply Aj|apply Ao|apply Bb|apply A6|apply At|apply Gp|apply Ad|apply Ah|apply Cs);· first|constructor|(simp(disch:=omega)only[Ct,Ck,De,Er,nu,tb,ds,e00,LA,tA,Lc,Lp,tc,tp,en,LE,tE,oE,LB,oB,be,Cp,Ev]<;>first|constructor|omega)|omega)
   try simp(disch:=omega)only[Aa,Ck,De,Er,nu,tb,ds,e00,LA,tA,Lc,Lp,tc,tp,en,LE,tE,oE,LB,oB,be,Cp,Ev]
   all_goals rfl
theorem A0b(Bo:20000<=fu)(hL:L.length<=1000){Mf:Nat}{a0:Ab}{b:B8}(hb:I7 b){used:Nat}(ZO:used<=b.length)(hl:b.length<=1000000){v i x:Int}:∀(n nn:Nat)(s:RS)(A:List Me),s.1 <:+ L->Sc s.1->n<nn->n<=1000->A.length+n<=3000->(∀y∈A,okM y) ->
  Dw fu (Aq C0 prog fu (d+14)) Mf a0 nn b.length (Ac .u8 b) (used:Int) (n:Int) 0 0 0 0 0 0 0 [] [] [] L.length (Ay L) ((L.length-s.1.length:Nat):Int) s.2 v i x A.length 0 0 0 (B5 A) [] [] =
   some ⟨[.agg (VU b used (Md.mk v i x (A++(Jr n s).1) GG,!(Jr n s).2.2)).1.cells,Au (VU b used (Md.mk v i x (A++(Jr n s).1) GG,!(Jr n s).2.2)).2],[]⟩
 |n,0,_,_,_,_,h,_,_,_=>by omega
 |n,nn+1,(l,true),A,hs,ho,hn,hk,hB,hA=>by
  have e1:Jr n (l,true)=([],(l,true)):=by cases n<;>simp[Jr]
  rw[A2z Bo hb ZO hl,e1];rfl
 |0,nn+1,(l,false),A,hs,ho,hn,hk,hB,hA=>by
  rw[A2h Bo hb ZO hl (by omega) hA];simp[Jr]
 |n+1,nn+1,(l,false),A,hs,ho,hn,hk,hB,hA=>by
  obtain⟨k1,k2,k3⟩:=Amt (s:=(l,false)) ho;have wd:wrap .i64 (((n+1:Nat):Int)-1)=(n:Int):=by rw[Ag (by omega) (by omega)];omega
  have ih:=A0b Bo hL (Mf:=Mf) (a0:=a0) hb ZO hl (v:=v) (i:=i) (x:=x) n nn (Sw (l,false)).2 (A++[(Sw (l,false)).1]) (Asu hs) k2 (by omega) (by omega) (by rw[F9,List.length_singleton];omega) (fun y hy=>(B4.1 hy).elim (hA y) (fun h=>by rw[M0.1 h];exact k1))
  have es:Jr (n+1) (l,false)=((Sw (l,false)).1::(Jr n (Sw (l,false)).2).1,(Jr n (Sw (l,false)).2).2):=by
   rw[Jr,Bn rfl]
  have eA:A++(Jr (n+1) (l,false)).1=(A++[(Sw (l,false)).1])++(Jr n (Sw (l,false)).2).1:=by rw[es];simp
  have e2:(Jr (n+1) (l,false)).2=(Jr n (Sw (l,false)).2).2:=by rw[es]
  have lA:(A++[(Sw (l,false)).1]).length=A.length+1:=by rw[F9];rfl
  have LA:=Mo A;have tA:List.take (A.length*3) (B5 A)=B5 A:=Hg (by omega);rw[eA,e2,<-ih,lA];clear ih es eA e2 lA;have o1:=Axj (fu:=fu) (d:=d+11) (by omega) hL (s:=(l,false)) hs ho;have ea:=Zk A (Sw (l,false)).1;simp only[Tr,Me.cells] at o1;rw[Hr];generalize Sw (l,false)=u at *
  generalize B5 (A++[_])=A' at *
  generalize Ay L=T at *
  repeat(with_reducible(first|apply Ai|apply Ae|apply Aj|apply Ao|apply Bb|apply A6|apply At|apply Gp|apply Ad|apply Ah|apply Cs);· first|constructor|(simp(disch:=omega)only[Ct,o1,wd,LA,tA,ea,Cp,Ev]<;>first|constructor|omega)|omega)
  try simp(disch:=omega)only[Aa,o1,wd,LA,tA,ea,Cp,Ev]
  all_goals rfl
theorem Ai3(Bo:20000<=fu){b:B8}(hb:I7 b)(hl:b.length<=1000000):
  Aq C0 prog fu (d+15) 43 [.lst false 1 b.length (Ac .u8 b)]=some ⟨[.agg (M1 Aek b (OS b)).1.cells,Au (M1 Aek b (OS b)).2],[]⟩:=by
 refine (Wh fu (d+14) b.length (Ac .u8 b)).trans ?_;have dec:=Ajc (fu:=fu) (d:=d) (by omega) hb hl;obtain⟨hox,hln,ZO⟩:=Aej hb;generalize OS b=r at dec ZO hox hln ⊢;obtain⟨its,used,e⟩:=r;simp only at ZO hox hln;unfold HO at dec;simp only at dec;unfold M1;simp only;by_cases h5:b.length>4096
 ·rw[Bn h5]
  repeat(with_reducible(first|apply Ai|apply Ae|apply Aj|apply Ao|apply Bb|apply A6|apply At|apply Gp|apply Ad|apply Ah|apply Cs);· first|constructor|(simp(disch:=omega)only[Ct,De]<;>first|constructor|omega)|omega)
  try simp(disch:=omega)only[Aa,De]
  all_goals rfl
 rw[A4 h5];by_cases he:e=0
 rotate_left
 ·rw[Bn he];have Yz:(e != 0)=true:=by simp[he]
  repeat(with_reducible(first|apply Ai|apply Ae|apply Aj|apply Ao|apply Bb|apply A6|apply At|apply Gp|apply Ad|apply Ah|apply Cs);· first|constructor|(simp(disch:=omega)only[Ct,dec,Yz]<;>first|constructor|omega)|omega)
  try simp(disch:=omega)only[Aa,dec,Yz]
  all_goals rfl
 rw[A4 (by simp[he])];subst he;have e00:((0:Int) != 0)=false:=rfl;have LT:=Cx its;have tT:List.take (its.length*3) (Ay its)=Ay its:=Hg (by omega);obtain⟨_,_,q1,q2,q3,q4⟩:=Al1 hox;have s0:((its,false):RS).1 <:+ its:=List.suffix_refl its;have s1:(D7 4 (its,false)).2.1 <:+ its:=Gb s0;have sA:(Yn its).2.1 <:+ its:=Yo s1;have sB:(Y0 its).2.1 <:+ its:=Yo sA;have sC:(Yr its).2.1 <:+ its:=Yo sB;have sD:(Mq its).2.1 <:+ its:=Gb sC;have o1:=Rk (fu:=fu) (d:=d+12) hln (lim:=4) (by omega) (by omega) s0;have o2:=MB (fu:=fu) (d:=d+12) hln 16 s1;have o3:=MB (fu:=fu) (d:=d+12) hln 1099511627776 sA;have o4:=MB (fu:=fu) (d:=d+12) hln 1099511627776 sB;have o5:=Rk (fu:=fu) (d:=d+12) hln (lim:=16) (by omega) (by omega) sC;have eA:Pb 16 (D7 4 (its,false)).2=Yn its:=rfl
 have eB:Pb 1099511627776 (Yn its).2=Y0 its:=rfl;have eC:Pb 1099511627776 (Y0 its).2=Yr its:=rfl;have eD:D7 16 (Yr its).2=Mq its:=rfl;rw[eA] at o2;rw[eB] at o3;rw[eC] at o4;rw[eD] at o5;have r0:=A0b (fu:=fu) (d:=d) Bo hln (Mf:=b.length) (a0:=Ac .u8 b) hb ZO hl (v:=(Yn its).1) (i:=(Y0 its).1) (x:=(Yr its).1) (Mq its).1.toNat fu (Mq its).2 [] sD q1 (by omega) (by omega) (by simp only[Ud];omega) (fun y hy=>(by cases hy))
 rw[Int.toNat_of_nonneg q3] at r0;simp only[Tr,Nat.sub_self] at o1 o2 o3 o4 o5;have eR:Aek its=(Md.mk (Yn its).1 (Y0 its).1 (Yr its).1 ([]++(Jr (Mq its).1.toNat (Mq its).2).1) GG,!(Jr (Mq its).1.toNat (Mq its).2).2.2):=rfl;rw[eR,<-r0];clear r0 eR eA eB eC eD s0 s1 sA sB sC sD hox;have z0:((0:Nat):Int)=0:=rfl;rw[z0] at o1;generalize Mq its=uD at *
 generalize Yr its=uC at *
 generalize Y0 its=uB at *
 generalize Yn its=uA at *
 generalize D7 4 (its,false)=u0 at *
 generalize Ay its=T at *
 repeat(with_reducible(first|apply Ai|apply Ae|apply Aj|apply Ao|apply Bb|apply A6|apply At|apply Gp|apply Ad|apply Ah|apply Cs);· first|constructor|(simp(disch:=omega)only[Ct,dec,e00,Er,Ck,LT,tT,o1,o2,o3,o4,o5]<;>first|constructor|omega)|omega)
 try simp(disch:=omega)only[Aa,dec,e00,Er,Ck,LT,tT,o1,o2,o3,o4,o5]
 all_goals rfl
theorem Auf(Bo:20000<=fu){b:B8}(hb:I7 b)(hl:b.length<=1000000):
  Aq C0 prog fu (d+15) 43 [.lst false 1 b.length (Ac .u8 b)]=some ⟨[.agg (M8 b).1.cells,Au (M8 b).2],[]⟩:=by
 rw[<-Av2 hb];exact Ai3 Bo hb hl
end
section
variable {fu d:Nat}
theorem Ayr{b:B8}(hb:I7 b)(hl:b.length<=100000){n:Int}(h0:0<=n)(h1:n<=1000000):∃r,I7 r/\r.length=(if b.length=0 then 1 else b.length)/\Aq C0 prog fu (d+1) 44 [.lst false 1 b.length (Ac .u8 b),Au n]=some ⟨[.own 1 r.length (Ac .u8 r)],[]⟩:=by
 have w8:∀v:Int,0<=wrap .u8 v/\wrap .u8 v<=255:=by
  intro v;simp only[wrap,IntKind.signed,IntKind.bits];simp;omega
 by_cases hz:b.length=0
 ·refine⟨[wrap .u8 n],?_,?_,?_⟩
  ·intro x hx;simp at hx;subst hx;exact w8 n
  ·rw[Bn hz];rfl
  ·rw[Vq];have b0:((b.length:Int)==0)=true:=by rw[hz];rfl
   simp(disch:=omega)only[Bz,Bx,b0];rfl
 have m0:0<=Int.tmod n b.length:=Int.tmod_nonneg _ h0;have m1:Int.tmod n b.length<b.length:=Int.tmod_lt_of_pos _ (by omega);have m2:(Int.tmod n b.length).toNat<b.length:=by generalize Int.tmod n b.length=im at *;omega
 obtain⟨x,hx⟩:∃x,b[(Int.tmod n b.length).toNat]?=some x:=⟨_,List.getElem?_eq_getElem m2⟩
 have hg:=Ss (k:=.u8) hx;have ib:=Aie (a:=n) (m:=7) (by omega) (by omega);obtain⟨a7,h7⟩:∃a7,Oy .i64 n 7=a7:=⟨_,rfl⟩
 rw[h7] at ib;have w4:wrap .u64 a7=a7:=Cd (by omega) (by omega);have L:=Ap .u8 b;obtain⟨v,hv⟩:∃v,Fj .u8 x (Hq .u8 1 a7)=v:=⟨_,rfl⟩
 have hvb:0<=v/\v<=255:=by rw[<-hv];exact w8 _
 have es:B0 (Ac .u8 b) [.sc (.int .u8 v)] (Int.tmod n b.length).toNat=Ac .u8 (b.set (Int.tmod n b.length).toNat v):=by
  rw[Hs (by rw[L];exact m2)]
  have:=Arx (f:=Ayy .u8) (CQ .u8) (p:=.sc (.int .u8 v)) (j:=0) (by omega) hx (y:=v) rfl;rw[De,JY] at this;exact this
 have t2:=Mi .u8 (b.set (Int.tmod n b.length).toNat v);have l2:(b.set (Int.tmod n b.length).toNat v).length=b.length:=List.length_set;have L2:=Ap .u8 (b.set (Int.tmod n b.length).toNat v);rw[l2] at t2;refine⟨b.set (Int.tmod n b.length).toNat v,?_,?_,?_⟩
 ·intro y hy;rcases List.mem_or_eq_of_mem_set hy with hy|hy
  ·exact hb y hy
  ·subst hy;exact hvb
 ·rw[A4 hz,l2]
 rw[Vq];have b0:((b.length:Int)==0)=false:=beq_eq_false_iff_ne.2 (by omega);rw[l2];generalize Int.tmod n b.length=im at *
 repeat(with_reducible(first|apply Ai|apply Ae|apply Aj|apply At|apply Ad|apply Ah|apply Cs);· first|constructor|(simp(disch:=omega)only[Ct,b0,Ck,De,L,hg,h7,w4,hv,es,L2,t2]<;>first|constructor|omega)|omega)
 try simp(disch:=omega)only[Aa,b0,Ck,De,L,hg,h7,w4,hv,es,L2,t2]
 all_goals rfl
theorem Akl(Bo:1000<=fu)(seed h:Int):Aq C0 prog fu (d+13) 17 [Af seed,Au h]=some ⟨[.agg (Wg seed h).cells],[]⟩:=by rw[LZ];have p:=WV (fu:=fu) (d:=d) Bo seed h;simp only[Ky.cells] at p ⊢;simp only[Bz,Bx,p]
end
theorem Adn(dom:Int)(l:B8):Uf (Rj dom l):=Ls _
theorem A23(key dom:Int)(l:B8):Uf (Azl key dom l):=Ls _
theorem Aua(leaf chain:Int):∀(k:Nat)(p:Int){x:Int},Uf x->Uf (Wj leaf chain k p x)
 |0,_,_,h=>h
 |k+1,p,x,h=>Aua leaf chain k (p+1) (Adn _ _)
theorem A2y(seed leaf m:Int):isW (Ng seed leaf m):=by intro x hx;obtain⟨k,_,rfl⟩:=List.mem_map.1 hx;exact Aua _ _ _ _ (A23 _ _ _)
theorem Anh(seed:Int):∀(l:Nat)(i:Int),Uf (Cw seed l i)
 |0,i=>Adn _ _
 |l+1,i=>Adn _ _
theorem An7(seed h:Int):Uf (Wg seed h).root:=by
 unfold Wg;split
 ·exact⟨by simp,by simp⟩
 ·exact Anh _ _ _
theorem Am2{seed h leaf m:Int}(hh:Dz h=false)(ho:Ip leaf h=false):∃s,KG seed h leaf m=some s/\s.ok/\s.leaf=leaf/\s.chains.length=18/\(s.path.length:Int)=h/\Aez (Wg seed h) m s=0:=by
 have hb:=H0 hh;refine⟨⟨leaf,Ng seed leaf m,(List.range h.toNat).map fun k=>Cw seed k (H7 leaf k)⟩,?_,⟨A2y _ _ _,?_⟩,rfl,by simp[Ng],?_,Atd hh ho⟩
 ·unfold KG;rw[A4 (by simp[hh]),A4 (by simp[ho])]
 ·intro x hx;obtain⟨k,_,rfl⟩:=List.mem_map.1 hx;exact Anh _ _ _
 ·simp only[List.length_map,List.length_range];omega
theorem Alj{s:Sg}:(Sm s).length=2+8*s.chains.length+8*s.path.length:=by unfold Sm;simp only[He,F9,Do];omega
section
variable {xs:FuncId->Option (Ab->Option Dt)}(fu d:Nat)(call:Bq)
def G4(Z:Nat)(Y:Ab)(X:Int)(W:Nat)(V:Int)(U:Nat)(T:Ab)(S Q:Int)(P O:Int)(N:Nat)(M:Int)(L K:Nat)(J I H:Ab)(G E D:Int)(B:Nat)(A:Int)(z w:Nat)(v u t:Ab):Option Dt:=K0 fu call 11 Tryz.f11 [.pbox [Am 1 Z Y,X]] [.r,.r,.l,.r,.l] W ⟨lk [(0,.ptr 238000 0),(2,.ptr 2 0),(3,.ptr 3 0),(4,V)],B3 [(238000,.st [Am 1 U T,S]),(2,.st [Q,P,O,.view 478 3 0 N,M,.view 716 1 0 L,.view 835 1 0 K]),(478,.ar false J),(716,.ar false I),(835,.ar false H),(3,.st [G,E,D,.view 479 3 0 B,A,.view 717 1 0 z,.view 836 1 0 w]),(479,.ar false v),(717,.ar false u),(836,.ar false t)]⟩
def Gx(Z:Nat)(Y:Ab)(X:Int)(W V:Nat)(U T:Int)(S:Nat)(Q:Ab)(P O:Int)(N M:Int)(L:Nat)(K:Int)(J I:Nat)(H G E:Ab)(D B A:Int)(z:Nat)(w:Int)(v u:Nat)(t y23 y24:Ab)(y25:Int)(y26 y27:Nat)(y28 y29:Ab):Option Dt:=K0 fu call 11 Tryz.f11 [.pbox [Am 1 Z Y,X]] [.r,.r,.l,.r,.l,.i W,.r,.l,.l,.r,.l,.r,.l] V ⟨lk [(0,.ptr 238000 0),(2,.ptr 2 0),(3,.ptr 3 0),(4,U),(5,.ptr 5 0),(6,T)],B3 [(238000,.st [Am 1 S Q,P]),(2,.st [O,N,M,.view 478 3 0 L,K,.view 716 1 0 J,.view 835 1 0 I]),(478,.ar false H),(716,.ar false G),(835,.ar false E),(3,.st [D,B,A,.view 479 3 0 z,w,.view 717 1 0 v,.view 836 1 0 u]),(479,.ar false t),(717,.ar false y23),(836,.ar false y24),(5,.st [Af y25,.view 243 3 0 y26,.view 362 2 0 y27]),(243,.ar false y28),(362,.ar false y29)]⟩
def Nb(Z:Nat)(Y:Ab)(X:Int)(W V:Nat)(U:Ab)(T S:Int)(Q P:Int)(O:Nat)(N:Int)(M L:Nat)(K J I:Ab)(H G E:Int)(D:Nat)(B:Int)(A z:Nat)(w v u:Ab):Option Dt:=K0 fu call 11 Tryz.f11 [.pbox [Am 1 Z Y,X]] [.r,.r] W ⟨lk [(0,.ptr 238000 0),(2,.ptr 2 0),(3,.ptr 3 0)],B3 [(238000,.st [Am 1 V U,T]),(2,.st [S,Q,P,.view 478 3 0 O,N,.view 716 1 0 M,.view 835 1 0 L]),(478,.ar false K),(716,.ar false J),(835,.ar false I),(3,.st [H,G,E,.view 479 3 0 D,B,.view 717 1 0 A,.view 836 1 0 z]),(479,.ar false w),(717,.ar false v),(836,.ar false u)]⟩
def G0(Z:Nat)(Y:Ab)(X:Int)(W V:Nat)(U T:Int)(S:Nat)(Q:Ab)(P O:Int)(N M:Int)(L:Nat)(K:Int)(J I:Nat)(H G E:Ab)(D B A:Int)(z:Nat)(w:Int)(v u:Nat)(t y23 y24:Ab)(y25:Int)(y26 y27:Nat)(y28 y29:Ab):Option Dt:=K0 fu call 11 Tryz.f11 [.pbox [Am 1 Z Y,X]] [.r,.r,.l,.r,.l,.i W,.r,.l,.l,.r,.r,.l,.r,.l] V ⟨lk [(0,.ptr 238000 0),(2,.ptr 2 0),(3,.ptr 3 0),(4,U),(5,.ptr 5 0),(9,T)],B3 [(238000,.st [Am 1 S Q,P]),(2,.st [O,N,M,.view 478 3 0 L,K,.view 716 1 0 J,.view 835 1 0 I]),(478,.ar false H),(716,.ar false G),(835,.ar false E),(3,.st [D,B,A,.view 479 3 0 z,w,.view 717 1 0 v,.view 836 1 0 u]),(479,.ar false t),(717,.ar false y23),(836,.ar false y24),(5,.st [Af y25,.view 243 3 0 y26,.view 362 2 0 y27]),(243,.ar false y28),(362,.ar false y29)]⟩
def Fi(Z:Nat)(Y:Ab)(X:Int)(W V:Nat)(U:Ab)(T S:Int)(Q P:Int)(O:Nat)(N:Int)(M L:Nat)(K J I:Ab)(H G E:Int)(D:Nat)(B:Int)(A z:Nat)(w v u:Ab):Option Dt:=K0 fu call 11 Tryz.f11 [.pbox [Am 1 Z Y,X]] [.r,.r,.r] W ⟨lk [(0,.ptr 238000 0),(2,.ptr 2 0),(3,.ptr 3 0)],B3 [(238000,.st [Am 1 V U,T]),(2,.st [S,Q,P,.view 478 3 0 O,N,.view 716 1 0 M,.view 835 1 0 L]),(478,.ar false K),(716,.ar false J),(835,.ar false I),(3,.st [H,G,E,.view 479 3 0 D,B,.view 717 1 0 A,.view 836 1 0 z]),(479,.ar false w),(717,.ar false v),(836,.ar false u)]⟩
theorem E5(Y:Nat)(X:Ab)(W:Int)(t:Nat)(V:Int)(U:Nat)(T:Ab)(S Q:Int)(P O:Int)(N:Nat)(M:Int)(L K:Nat)(J I H:Ab)(G E D:Int)(Z:Nat)(B:Int)(A z:Nat)(w v u:Ab):G4 fu call Y X W (t+1) V U T S Q P O N M L K J I H G E D Z B A z w v u=(Az (decide (V>0)) (Aa (wrap .i64 ((↑Z:Int)+1)) fun a=>Bj (call 15 [.pbox [Am 1 U T,S],(2:Int)]) fun b c=>Dc .i64 b fun b=>Av c fun c e=>G5 1 c fun c f g=>Dc .i64 g fun g=>Ar e<|Aa (wrap .i64 (a+b)) fun a=>Aa (wrap .u64 a) fun a=>Bj (call 15 [.pbox [Am 1 c f,g],(3:Int)]) fun b c=>Dc .i64 b fun b=>Av c fun c e=>G5 1 c fun c f g=>Dc .i64 g fun g=>Ar e<|Gx fu call Y X W t fu V b c f g Q P O N M L K J I H G E D Z B A z w v u a 0 0 ([]) ([])) (Nb fu call Y X W fu U T S Q P O N M L K J I H G E D Z B A z w v u)):=by kernel_rfl
theorem Lz(Z:Nat)(Y:Ab)(X:Int)(W nn:Nat)(V U:Int)(T:Nat)(S:Ab)(Q P:Int)(O N:Int)(M:Nat)(L:Int)(K J:Nat)(I H G:Ab)(E D B:Int)(A:Nat)(z:Int)(w v:Nat)(u t y24:Ab)(y25:Int)(y26 y27:Nat)(y28 y29:Ab):Gx fu call Z Y X W (nn+1) V U T S Q P O N M L K J I H G E D B A z w v u t y24 y25 y26 y27 y28 y29=(Az (decide (U>0)) (Bj (call 15 [.pbox [Am 1 T S,Q],(4:Int)]) fun a b=>Dc .i64 a fun a=>Av b fun b c=>G5 1 b fun b e f=>Dc .i64 f fun f=>Ar c<|Aa (wrap .u64 a) fun a=>Dj (call 30 [Af a,(1:Int)]) fun a c=>Dl a fun a=>Cu .i64 a fun a g=>Dc .u64 g fun g=>Dc .i64 c fun c=>Bj (call 15 [.pbox [Am 1 b e,f],(2:Int)]) fun b c=>Dc .i64 b fun b=>Av c fun c e=>G5 1 c fun c f h=>Dc .i64 h fun h=>Ar e<|As (decide (0<=b)&&decide (b<2))<|Ec (List.getD [.sc (.string (ByteArray.mk #[114,111,111,116])),.sc (.string (ByteArray.mk #[111,116,104,101,114]))] (0+b.toNat*1) .top) fun b=>On y26 3 32 y28 [.sc (.string b),a,Af g] fun a b=>Aa (wrap .i64 (U-1)) fun e=>Gx fu call Z Y X W nn V e c f h P O N M L K J I H G E D B A z w v u t y24 y25 a y27 b y29) (Bj (call 15 [.pbox [Am 1 T S,Q],(4:Int)]) fun a b=>Dc .i64 a fun a=>Av b fun b c=>G5 1 b fun b e f=>Dc .i64 f fun f=>Ar c<|G0 fu call Z Y X W fu V a b e f P O N M L K J I H G E D B A z w v u t y24 y25 y26 y27 y28 y29)):=by kernel_rfl
theorem F4(Y:Nat)(X:Ab)(W:Int)(B:Nat)(M6:0<B)(w:Nat)(v:Ab)(u V:Int)(U T:Int)(S:Nat)(Q:Int)(P O:Nat)(N M L:Ab)(A Z z:Int)(K:Nat)(J:Int)(I H:Nat)(G E D:Ab):Nb fu call Y X W B w v u V U T S Q P O N M L A Z z K J I H G E D=(Bj (call 15 [.pbox [Am 1 w v,u],(12:Int)]) fun a b=>Dc .i64 a fun a=>Av b fun b c=>G5 1 b fun b e f=>Dc .i64 f fun f=>Ar c<|Az (a==11) (Bj (call 15 [.pbox [Am 1 b e,f],(3:Int)]) fun a b=>Dc .i64 a fun a=>Av b fun b c=>G5 1 b fun b e f=>Dc .i64 f fun f=>Ar c<|As (decide (0<=a)&&decide (a<3))<|Be .i64 (List.getD [(0:Int),(17:Int),(-1:Int)] (0+a.toNat*1) .top) fun a=>Fi fu call Y X W fu b e f V U T S Q P O N M L a Z z K J I H G E D) (Az (a==10) (Aa (wrap .i64 (Z-1)) fun a=>Fi fu call Y X W fu b e f V U T S Q P O N M L A Z a K J I H G E D) (Az (a==9) (Bj (call 15 [.pbox [Am 1 b e,f],(6:Int)]) fun a b=>Dc .i64 a fun a=>Av b fun b c=>G5 1 b fun b e f=>Dc .i64 f fun f=>Ar c<|Bj (call 15 [.pbox [Am 1 b e,f],(2:Int)]) fun b c=>Dc .i64 b fun b=>Av c fun c e=>G5 1 c fun c f g=>Dc .i64 g fun g=>Ar e<|Aa (wrap .i64 (0-b)) fun b=>On K 3 56 G [Af 1,Am 3 0 [],Am 2 1 [a,b]] fun a b=>Fi fu call Y X W fu c f g V U T S Q P O N M L A Z z a J I H b E D) (Fi fu call Y X W fu b e f V U T S Q P O N M L A Z z K J I H G E D)))):=by cases B with|zero=>exact absurd M6 (Nat.lt_irrefl 0)|succ B=>kernel_rfl
theorem Lq(V:Nat)(U:Ab)(T:Int)(S nn:Nat)(Q P:Int)(O:Nat)(N:Ab)(M L:Int)(K J:Int)(I:Nat)(H:Int)(G E:Nat)(D B A:Ab)(z w v:Int)(u:Nat)(t:Int)(y20 y21:Nat)(y22 y23 y24:Ab)(y25:Int)(Y Z:Nat)(X W:Ab):G0 fu call V U T S (nn+1) Q P O N M L K J I H G E D B A z w v u t y20 y21 y22 y23 y24 y25 Y Z X W=(Az (decide (P>0)) (Bj (call 15 [.pbox [Am 1 O N,M],(4:Int)]) fun a b=>Dc .i64 a fun a=>Av b fun b c=>G5 1 b fun b e f=>Dc .i64 f fun f=>Ar c<|Aa (wrap .i64 (1+a)) fun a=>Aa (wrap .i64 (10*(↑Z:Int))) fun c=>Bj (call 15 [.pbox [Am 1 b e,f],(12:Int)]) fun b e=>Dc .i64 b fun b=>Av e fun e f=>G5 1 e fun e g h=>Dc .i64 h fun h=>Ar f<|Aa (wrap .i64 (c+b)) fun b=>On Z 2 16 W [a,b] fun a b=>Aa (wrap .i64 (P-1)) fun c=>G0 fu call V U T S nn Q c e g h L K J I H G E D B A z w v u t y20 y21 y22 y23 y24 y25 Y a X b) (As (decide (0+Y*3<=X.length))<|As (decide (0+Z*2<=W.length))<|On u 3 56 y22 [Af y25,Am 3 Y (List.take (Y*3) (X.drop 0)),Am 2 Z (List.take (Z*2) (W.drop 0))] fun a b=>Aa (wrap .i64 (Q-1)) fun c=>G4 fu call V U T S c O N M L K J I H G E D B A z w v a t y20 y21 b y23 y24)):=by kernel_rfl
theorem F8(K:Nat)(J:Ab)(I:Int)(Z:Nat)(M6:0<Z)(S:Nat)(Q:Ab)(P H:Int)(G E:Int)(D:Nat)(B:Int)(A z:Nat)(w v u:Ab)(O N M:Int)(Y:Nat)(L:Int)(X W:Nat)(V U T:Ab):Fi fu call K J I Z S Q P H G E D B A z w v u O N M Y L X W V U T=(As (decide (0+Y*3<=V.length))<|As (decide (0+X*1<=U.length))<|As (decide (0+W*1<=T.length))<|some ⟨[.agg [O,N,M,Am 3 Y (List.take (Y*3) (V.drop 0)),L,Am 1 X (List.take (X*1) (U.drop 0)),Am 1 W (List.take (W*1) (T.drop 0))]],[[Am 1 S Q,P]]⟩):=by cases Z with|zero=>exact absurd M6 (Nat.lt_irrefl 0)|succ Z=>kernel_rfl
theorem Zu(Z:Nat)(Y:Ab)(X:Int):Fm C0 fu d 11 [.pbox [Am 1 Z Y,X]] fun call=>Bj (call 15 [.pbox [Am 1 Z Y,X],(16:Int)]) fun a b=>Dc .i64 a fun a=>Av b fun b c=>G5 1 b fun b e f=>Dc .i64 f fun f=>Ar c<|Aa (wrap .i64 (1+a)) fun a=>Bj (call 15 [.pbox [Am 1 b e,f],(20:Int)]) fun b c=>Dc .i64 b fun b=>Av c fun c e=>G5 1 c fun c f g=>Dc .i64 g fun g=>Ar e<|Bj (call 15 [.pbox [Am 1 c f,g],(100:Int)]) fun c e=>Dc .i64 c fun c=>Av e fun e f=>G5 1 e fun e g h=>Dc .i64 h fun h=>Ar f<|Aa (wrap .i64 (20+c)) fun c=>Bj (call 15 [.pbox [Am 1 e g,h],(4:Int)]) fun e f=>Dc .i64 e fun e=>Av f fun f g=>G5 1 f fun f h i=>Dc .i64 i fun i=>Ar g<|G4 fu call Z Y X fu e f h i 0 0 0 0 0 0 0 ([]) ([]) ([]) a b c 0 0 0 0 ([]) ([]) ([]):=by show _=_;kernel_rfl
theorem JV(Z:Nat)(Y:Ab)(X:Int):Fm C0 fu d 23 [Am 1 Z Y,X] fun call=>Lj .i64 (call 14 [X,(4096:Int)]) fun a=>Dj (call 44 [Am 1 Z Y,a]) fun a b=>J0 1 a fun a c=>Ar b<|As (decide (a*1<=c.length))<|Bu [.own 1 a (c.take (a*1))]:=by show _=_;kernel_rfl
theorem EB :Fm C0 fu d 9 [] fun call=>Dj (call 16 [.agg [(2:Int),(1:Int),(9:Int),Am 3 1 [Af 4,Am 3 0 [],Am 2 2 [(1:Int),(0:Int),(4:Int),(50:Int)]],(0:Int),Am 1 0 [],Am 1 0 []],Af 7,(2:Int)]) fun a b=>Dl a fun a=>Cu .i64 a fun a c=>Cu .i64 c fun c e=>Cu .i64 e fun e f=>G5 3 f fun f g h=>Cu .i64 h fun h i=>G5 1 i fun i j k=>G5 1 k fun k m n=>Ar n<|Dc .i64 b fun b=>Dj (call 25 [.agg [a,c,e,Am 3 f g,h,Am 1 i j,Am 1 k m]]) fun n o=>J0 1 n fun n p=>Dc .i64 o fun o=>Dj (call 17 [Af 7,(2:Int)]) fun q s=>Dl q fun q=>Cu .i64 q fun q t=>Dc .u64 t fun t=>Ar s<|As (decide (0+n*1<=p.length))<|Dj (call 27 [.agg [(1:Int),(0:Int),(0:Int),Am 3 0 [],(0:Int),Am 1 0 [],Am 1 0 []],Am 1 n (List.take (n*1) (p.drop 0)),.agg [q,Af t],(5:Int)]) fun q s=>Dl q fun q=>Cu .i64 q fun q t=>Cu .i64 t fun t u=>Cu .i64 u fun u v=>G5 3 v fun v w z=>Cu .i64 z fun z A=>G5 1 A fun A B D=>G5 1 D fun D E G=>Ar G<|Dc .i64 s fun s=>Dj (call 17 [Af 7,(2:Int)]) fun G H=>Dl G fun G=>Cu .i64 G fun G I=>Dc .u64 I fun I=>Ar H<|As (decide (0+n*1<=p.length))<|Dj (call 27 [.agg [a,c,e,Am 3 f g,h,Am 1 i j,Am 1 k m],Am 1 n (List.take (n*1) (p.drop 0)),.agg [G,Af I],(5:Int)]) fun n p=>Dl n fun n=>Cu .i64 n fun n G=>Cu .i64 G fun n G=>Cu .i64 G fun n G=>G5 3 G fun n G H=>Cu .i64 H fun n G=>G5 1 G fun n G H=>G5 1 H fun n G H=>Ar H<|Dc .i64 p fun n=>Az (b==0) (Az (o==0) (Az (s==0) (Az (n==7) (Az (h==1) (Dj (call 18 [.agg [a,c,e,Am 3 f g,h,Am 1 i j,Am 1 k m],.agg [q,t,u,Am 3 v w,z,Am 1 A B,Am 1 D E]]) fun a b=>Cg a fun a=>Ar b<|Az a (Lj .i64 (call 29 [.agg [q,t,u,Am 3 v w,z,Am 1 A B,Am 1 D E],Af 4,(49:Int)]) fun a=>Az (a==1) (Lj .i64 (call 29 [.agg [q,t,u,Am 3 v w,z,Am 1 A B,Am 1 D E],Af 4,(50:Int)]) fun a=>Bu [.sc (.bool (a==4))]) (Bu [.sc (.bool false)])) (Bu [.sc (.bool false)])) (Bu [.sc (.bool false)])) (Bu [.sc (.bool false)])) (Bu [.sc (.bool false)])) (Bu [.sc (.bool false)])) (Bu [.sc (.bool false)]):=by show _=_;kernel_rfl
end
structure Me.few(x:Me):Prop where
 model:Uf x.model
 rts:x.rts
 ans:x.ans.length<=2
 sts:x.sts.length<=3
 nam:∀a∈x.ans,a.name.size<=60
structure Md.plain(m:Md):Prop where
 ent:∀x∈m.ents,x.few
 len:m.ents.length<=4
 sg:m.sig=GG
abbrev rtN:ByteArray:=⟨#[(114:UInt8),(111:UInt8),(111:UInt8),(116:UInt8)]⟩
abbrev otN:ByteArray:=⟨#[(111:UInt8),(116:UInt8),(104:UInt8),(101:UInt8),(114:UInt8)]⟩
theorem Ave{v:Int}(h0:0<=v)(h1:v<2):∃s:ByteArray,s.size<=60/\List.getD [PV.sc (Value.string rtN),PV.sc (Value.string otN)] (0+Int.toNat v*1) PV.top=.sc (.string s):=by
 have:v=0\/v=1:=by omega
 rcases this with rfl|rfl
 ·exact⟨rtN,by decide,rfl⟩
 ·exact⟨otN,by decide,rfl⟩
section
variable {fu d:Nat}{l:B8}
theorem Asp(a:List An)(x:An):C1 a++[.sc (.string x.name),Au x.key.h,Af x.key.root]=C1 (a++[x]):=by unfold C1;rw[List.flatMap_append,J1,List.flatMap_nil,List.append_nil];rfl
theorem Avl(a:List Sa)(x:Sa):Dq a++[Au x.kd,Au x.at_]=Dq (a++[x]):=by unfold Dq;rw[List.flatMap_append,J1,List.flatMap_nil,List.append_nil];rfl
abbrev OX(fu d:Nat)(l:B8)(Ch:Int)(nn:Nat)(v:Int)(i:Nat)(ver iss nxt:Int)(n:Nat)(c:Ab):Option Dt:=
 G4 fu (Aq C0 prog fu (d+13)) l.length (Ac .i64 l) Ch nn v l.length (Ac .i64 l) (i:Int) 0 0 0 0 0 0 0 [] [] [] ver iss nxt n 0 0 0 c [] []
theorem A1g(hl:l.length<=maxLen){Ch:Int}{m0:Nat}{v0 ver iss nxt mo:Int}{en:Nat}{E:List Me}(hE:E.length<=100){A:List An}(hA:A.length<=100):∀(k nn:Nat)(v:Int)(i:Nat)(S:List Sa),v<=k->k<nn->S.length+k<=100 ->
  ∃(S':List Sa) (i':Nat),S'.length<=S.length+k /\
  G0 fu (Aq C0 prog fu (d+13)) l.length (Ac .i64 l) Ch m0 nn v0 v l.length (Ac .i64 l) (i:Int) 0 0 0 0 0 0 0 [] [] [] ver iss nxt E.length 0 0 0 (B5 E) [] [] mo A.length S.length (C1 A) (Dq S) =
   OX fu d l Ch m0 (wrap .i64 (v0-1)) i' ver iss nxt (E++[Me.mk mo A S']).length (B5 (E++[Me.mk mo A S']))
 |_,0,_,_,_,_,h,_=>by omega
 |k,nn+1,v,i,S,hv,hn,hS=>by
  have LA:=N5 A;have LS:=Zh S;have LE:=Mo E;have tA:List.take (A.length*3) (C1 A)=C1 A:=Hg (by omega);have tS:List.take (S.length*2) (Dq S)=Dq S:=Hg (by omega);have tE:List.take (E.length*3) (B5 E)=B5 E:=Hg (by omega);by_cases h0:v>0
  rotate_left
  ·refine⟨S,i,by omega,?_⟩;rw[Lq];have ea:=Zk E (Me.mk mo A S);simp only at ea;have el:(E++[Me.mk mo A S]).length=E.length+1:=by rw[F9];rfl
   rw[el];generalize B5 (E++[_])=E' at *
   repeat(with_reducible(first|apply Ai|apply Ae|apply Aj|apply Aw|apply A6|apply At|apply Ad|apply Ah|apply Cs);· first|constructor|(simp(disch:=omega)only[Ct,LA,LS,LE,tA,tS,tE,ea,Ck,Er]<;>first|constructor|omega)|omega)
   try simp(disch:=omega)only[Aa,LA,LS,LE,tA,tS,tE,ea,Ck,Er]
   all_goals rfl
  ·obtain⟨k',rfl⟩:∃k',k=k'+1:=⟨k-1,by omega⟩
   obtain⟨u0,j0,u00,u01,n0⟩:=Hi hl i 4 (by omega) (by omega);obtain⟨u1,j1,u10,u11,n1⟩:=Hi hl j0 12 (by omega) (by omega);have n0:=n0 (fu:=fu) (d:=d+11);have n1:=n1 (fu:=fu) (d:=d+11);simp only[dkc] at n0 n1;have wd:wrap .i64 (v-1)=v-1:=Ag (by omega) (by omega);obtain⟨S',i',h1,h2⟩:=A1g hl (Ch:=Ch) (m0:=m0) (v0:=v0) (ver:=ver) (iss:=iss) (nxt:=nxt) (mo:=mo) (en:=en) hE hA k' nn (v-1) j1 (S++[⟨wrap .i64 (1+u0),wrap .i64 (wrap .i64 (10*(S.length:Int))+u1)⟩]) (by omega) (by omega) (by rw[F9,List.length_singleton];omega)
   refine⟨S',i',by rw[F9,List.length_singleton] at h1;omega,?_⟩
   rw[<-h2,Lq];have ea:=Avl S ⟨wrap .i64 (1+u0),wrap .i64 (wrap .i64 (10*(S.length:Int))+u1)⟩;simp only at ea;have el:(S++[Sa.mk (wrap .i64 (1+u0)) (wrap .i64 (wrap .i64 (10*(S.length:Int))+u1))]).length=S.length+1:=by rw[F9];rfl
   rw[el];clear h2;generalize Dq (S++[_])=S2 at *
   repeat(with_reducible(first|apply Ai|apply Ae|apply Aj|apply Aw|apply A6|apply At|apply Ad|apply Ah|apply Cs);· first|constructor|(simp(disch:=omega)only[Ct,n0,n1,LS,tS,ea,wd]<;>first|constructor|omega)|omega)
   try simp(disch:=omega)only[Aa,n0,n1,LS,tS,ea,wd]
   all_goals rfl
theorem A0x(Bo:2000<=fu)(hl:l.length<=maxLen){Ch:Int}{m0:Nat}{v0 ver iss nxt mo:Int}(hmo:Uf mo){E:List Me}(hE:E.length<=100):∀(k nn:Nat)(v:Int)(i:Nat)(A:List An),v<=k->k<nn->A.length+k<=2->(∀a∈A,Uf a.key.root/\a.name.size<=60) ->
  ∃(x:Me) (i':Nat),x.few /\
  Gx fu (Aq C0 prog fu (d+13)) l.length (Ac .i64 l) Ch m0 nn v0 v l.length (Ac .i64 l) (i:Int) 0 0 0 0 0 0 0 [] [] [] ver iss nxt E.length 0 0 0 (B5 E) [] [] mo A.length 0 (C1 A) [] =
   OX fu d l Ch m0 (wrap .i64 (v0-1)) i' ver iss nxt (E++[x]).length (B5 (E++[x]))
 |_,0,_,_,_,_,h,_,_=>by omega
 |k,nn+1,v,i,A,hv,hn,hA,hk=>by
  have LA:=N5 A;have tA:List.take (A.length*3) (C1 A)=C1 A:=Hg (by omega);by_cases h0:v>0
  rotate_left
  ·obtain⟨u0,j0,u00,u01,n0⟩:=Hi hl i 4 (by omega) (by omega);have n0:=n0 (fu:=fu) (d:=d+11);simp only[dkc] at n0;obtain⟨S',i',h1,h2⟩:=A1g (fu:=fu) (d:=d) hl (Ch:=Ch) (m0:=m0) (v0:=v0) (ver:=ver) (iss:=iss) (nxt:=nxt) (mo:=mo) (en:=0) hE (A:=A) (by omega) 3 fu u0 j0 [] (by omega) (by omega) (by simp);refine⟨⟨mo,A,S'⟩,i',⟨hmo,fun a ha=>(hk a ha).1,by simp only;omega,by simp only[Ud] at h1 ⊢;omega,fun a ha=>(hk a ha).2⟩,?_⟩
   rw[<-h2,Lz];clear h2
   repeat(with_reducible(first|apply Ai|apply Ae|apply Aj|apply Aw|apply A6|apply At|apply Ad|apply Ah|apply Cs);· first|constructor|(simp(disch:=omega)only[Ct,n0]<;>first|constructor|omega)|omega)
   try simp(disch:=omega)only[Aa,n0]
   all_goals rfl
  ·obtain⟨k',rfl⟩:∃k',k=k'+1:=⟨k-1,by omega⟩
   obtain⟨u0,j0,u00,u01,n0⟩:=Hi hl i 4 (by omega) (by omega);obtain⟨u1,j1,u10,u11,n1⟩:=Hi hl j0 2 (by omega) (by omega);have n0:=n0 (fu:=fu) (d:=d+11);have n1:=n1 (fu:=fu) (d:=d+11);simp only[dkc] at n0 n1;have pk:=WV (fu:=fu) (d:=d+1) (by omega) (wrap .u64 u0) 1;have kr:=An7 (wrap .u64 u0) 1;obtain⟨s1,z1,g1⟩:=Ave u10 u11;have c1:(decide ((0:Int)<=u1)&&decide (u1<2))=true:=by simp;omega
   simp only[Ky.cells] at pk;generalize Wg (wrap .u64 u0) 1=K at *
   generalize (if Dz 1=true then (9:Int) else 0)=er at *
   have wd:wrap .i64 (v-1)=v-1:=Ag (by omega) (by omega);obtain⟨x,i',h1,h2⟩:=A0x Bo hl (Ch:=Ch) (m0:=m0) (v0:=v0) (ver:=ver) (iss:=iss) (nxt:=nxt) hmo hE k' nn (v-1) j1 (A++[⟨s1,K⟩]) (by omega) (by omega) (by rw[F9,List.length_singleton];omega) (fun a ha=>(B4.1 ha).elim (hk a) fun h=>by rw[M0.1 h];exact⟨kr,z1⟩)
   refine⟨x,i',h1,?_⟩;rw[<-h2,Lz];have ea:=Asp A ⟨s1,K⟩;simp only at ea;have el:(A++[An.mk s1 K]).length=A.length+1:=by rw[F9];rfl
   rw[el];clear h2;generalize C1 (A++[_])=A2 at *
   repeat(with_reducible(first|apply Ai|apply Ae|apply Aj|apply Aw|apply A6|apply At|apply Ad|apply Ah|apply Cs);· first|constructor|(simp(disch:=omega)only[Ct,n0,n1,pk,g1,c1,LA,tA,ea,wd]<;>first|constructor|omega)|omega)
   try simp(disch:=omega)only[Aa,n0,n1,pk,g1,c1,LA,tA,ea,wd]
   all_goals rfl
theorem Aky(s:Sa)(E:List Me):B5 E++[Af 1,.lst false 3 0 [],.lst false 2 1 [Au s.kd,Au s.at_]]=B5 (E++[Me.mk 1 [] [s]]):=Zk E (Me.mk 1 [] [s])
theorem Az7(Bo:2000<=fu)(hl:l.length<=maxLen){Ch:Int}{ver iss nxt:Int}:∀(k nn:Nat)(v:Int)(i:Nat)(E:List Me),v<=k->k<nn->E.length+k<=3->(∀x∈E,x.few) ->
  ∃(m:Md) (j:Nat),m.plain/\OX fu d l Ch nn v i ver iss nxt E.length (B5 E)=some ⟨[.agg m.cells],[dkc l j]⟩
 |_,0,_,_,_,_,h,_,_=>by omega
 |k,nn+1,v,i,E,hv,hn,hE,hk=>by
  have LE:=Mo E;have tE:List.take (E.length*3) (B5 E)=B5 E:=Hg (by omega);by_cases h0:v>0
  ·obtain⟨k',rfl⟩:∃k',k=k'+1:=⟨k-1,by omega⟩
   obtain⟨u0,j0,u00,u01,n0⟩:=Hi hl i 2 (by omega) (by omega);obtain⟨u1,j1,u10,u11,n1⟩:=Hi hl j0 3 (by omega) (by omega);have n0:=n0 (fu:=fu) (d:=d+11);have n1:=n1 (fu:=fu) (d:=d+11);simp only[dkc] at n0 n1;have wd:wrap .i64 (v-1)=v-1:=Ag (by omega) (by omega);obtain⟨x,i',h1,h2⟩:=A0x (fu:=fu) (d:=d) Bo hl (Ch:=Ch) (m0:=nn) (v0:=v) (ver:=ver) (iss:=iss) (nxt:=nxt) (mo:=wrap .u64 (wrap .i64 (wrap .i64 ((E.length:Int)+1)+u0))) (Ls _) (E:=E) (by omega) 2 fu u1 j1 [] (by omega) (by omega) (by simp) (fun a ha=>by cases ha);obtain⟨m,j,m1,m2⟩:=Az7 Bo hl (Ch:=Ch) (ver:=ver) (iss:=iss) (nxt:=nxt) k' nn (v-1) i' (E++[x]) (by omega) (by omega) (by rw[F9,List.length_singleton];omega) (fun y hy=>(B4.1 hy).elim (hk y) fun h=>by rw[M0.1 h];exact h1)
   refine⟨m,j,m1,?_⟩;rw[<-m2];rw[wd] at h2;rw[<-h2];unfold OX;rw[E5];clear h2 m2
   repeat(with_reducible(first|apply Ai|apply Ae|apply Aj|apply Aw|apply A6|apply At|apply Ad|apply Ah|apply Cs);· first|constructor|(simp(disch:=omega)only[Ct,n0,n1]<;>first|constructor|omega)|omega)
   try simp(disch:=omega)only[Aa,n0,n1]
   all_goals rfl
  ·obtain⟨vs,j0,vs0,vs1,n0⟩:=Hi hl i 12 (by omega) (by omega);have n0:=n0 (fu:=fu) (d:=d+11);have h4:vs=11\/vs=10\/vs=9\/(vs≠11/\vs≠10/\vs≠9):=by omega
   unfold OX;rcases h4 with rfl|rfl|rfl|⟨m1,m2,m3⟩
   ·obtain⟨u1,j1,u10,u11,n1⟩:=Hi hl j0 3 (by omega) (by omega);have n1:=n1 (fu:=fu) (d:=d+11);simp only[dkc] at n0 n1;have c1:(decide ((0:Int)<=u1)&&decide (u1<3))=true:=by simp;omega
    obtain⟨w,g1⟩:∃w:Int,List.getD [PV.sc (Value.int IntKind.i64 (0:Int)),PV.sc (Value.int IntKind.i64 (17:Int)),PV.sc (Value.int IntKind.i64 (-1:Int))] ((0:Nat)+Int.toNat u1*(1:Nat)) PV.top=Au w:=by
     have:u1=0\/u1=1\/u1=2:=by omega
     rcases this with rfl|rfl|rfl
     ·exact⟨_,rfl⟩
     ·exact⟨_,rfl⟩
     ·exact⟨_,rfl⟩
    rw[Ck] at g1;refine⟨⟨w,iss,nxt,E,GG⟩,j1,⟨hk,by simp only;omega,rfl⟩,?_⟩
    rw[E5,D6 _ _ _ h0,F4 (M6:=by omega)]
    repeat(with_reducible(first|apply Ai|apply Ae|apply Aj|apply Aw|apply A6|apply At|apply Ad|apply Ah|apply Cs);· first|constructor|(simp(disch:=omega)only[Ct,n0,n1,c1,g1,LE,tE,Ck,Er,Int.reduceBEq]<;>first|constructor|omega)|omega)
    try simp(disch:=omega)only[Aa,n0,n1,c1,g1,LE,tE,Ck,Er,Int.reduceBEq]
    rw[F8 (M6:=by omega)]
    repeat(with_reducible(first|apply Ai|apply Ae|apply Aj|apply Aw|apply A6|apply At|apply Ad|apply Ah|apply Cs);· first|constructor|(simp(disch:=omega)only[Ct,n0,n1,c1,g1,LE,tE,Ck,Er,Int.reduceBEq]<;>first|constructor|omega)|omega)
    try simp(disch:=omega)only[Aa,n0,n1,c1,g1,LE,tE,Ck,Er,Int.reduceBEq]
    all_goals rfl
   ·simp only[dkc] at n0;refine⟨⟨ver,iss,wrap .i64 (iss-1),E,GG⟩,j0,⟨hk,by simp only;omega,rfl⟩,?_⟩
    rw[E5,D6 _ _ _ h0,F4 (M6:=by omega)]
    repeat(with_reducible(first|apply Ai|apply Ae|apply Aj|apply Aw|apply A6|apply At|apply Ad|apply Ah|apply Cs);· first|constructor|(simp(disch:=omega)only[Ct,n0,LE,tE,Ck,Er,Int.reduceBEq]<;>first|constructor|omega)|omega)
    try simp(disch:=omega)only[Aa,n0,LE,tE,Ck,Er,Int.reduceBEq]
    rw[F8 (M6:=by omega)]
    repeat(with_reducible(first|apply Ai|apply Ae|apply Aj|apply Aw|apply A6|apply At|apply Ad|apply Ah|apply Cs);· first|constructor|(simp(disch:=omega)only[Ct,n0,LE,tE,Ck,Er,Int.reduceBEq]<;>first|constructor|omega)|omega)
    try simp(disch:=omega)only[Aa,n0,LE,tE,Ck,Er,Int.reduceBEq]
    all_goals rfl
   ·obtain⟨u1,j1,u10,u11,n1⟩:=Hi hl j0 6 (by omega) (by omega);obtain⟨u2,j2,u20,u21,n2⟩:=Hi hl j1 2 (by omega) (by omega);have n1:=n1 (fu:=fu) (d:=d+11);have n2:=n2 (fu:=fu) (d:=d+11);simp only[dkc] at n0 n1 n2;refine⟨⟨ver,iss,nxt,E++[⟨1,[],[⟨u1,wrap .i64 (0-u2)⟩]⟩],GG⟩,j2,⟨fun y hy=>(B4.1 hy).elim (hk y) fun h=>by rw[M0.1 h];exact⟨(show Uf 1 from ⟨by decide,by decide⟩),fun a ha=>(by cases ha),Nat.zero_le _,(show (1:Nat)<=3 by omega),fun a ha=>(by cases ha)⟩,by simp only[F9,List.length_singleton];omega,rfl⟩,?_⟩
    rw[E5,D6 _ _ _ h0,F4 (M6:=by omega)];have ea:=Aky ⟨u1,wrap .i64 (0-u2)⟩ E;have LE2:=Mo (E++[⟨1,[],[⟨u1,wrap .i64 (0-u2)⟩]⟩]);have el:(E++[Me.mk 1 [] [⟨u1,wrap .i64 (0-u2)⟩]]).length=E.length+1:=by rw[F9];rfl
    simp only[Md.cells];rw[el] at LE2 ⊢;have tE2:List.take ((E.length+1)*3) (B5 (E++[⟨1,[],[⟨u1,wrap .i64 (0-u2)⟩]⟩]))=B5 (E++[⟨1,[],[⟨u1,wrap .i64 (0-u2)⟩]⟩]):=Hg (by omega);simp only at ea;generalize B5 (E++[_])=E' at *
    repeat(with_reducible(first|apply Ai|apply Ae|apply Aj|apply Aw|apply A6|apply At|apply Ad|apply Ah|apply Cs);· first|constructor|(simp(disch:=omega)only[Ct,n0,n1,n2,LE,tE,ea,LE2,tE2,Ck,Er,Int.reduceBEq]<;>first|constructor|omega)|omega)
    try simp(disch:=omega)only[Aa,n0,n1,n2,LE,tE,ea,LE2,tE2,Ck,Er,Int.reduceBEq]
    rw[F8 (M6:=by omega)]
    repeat(with_reducible(first|apply Ai|apply Ae|apply Aj|apply Aw|apply A6|apply At|apply Ad|apply Ah|apply Cs);· first|constructor|(simp(disch:=omega)only[Ct,n0,n1,n2,LE,tE,ea,LE2,tE2,Ck,Er,Int.reduceBEq]<;>first|constructor|omega)|omega)
    try simp(disch:=omega)only[Aa,n0,n1,n2,LE,tE,ea,LE2,tE2,Ck,Er,Int.reduceBEq]
    all_goals rfl
   ·have f1:(vs==11)=false:=by rw[beq_eq_false_iff_ne];exact m1
    have f2:(vs==10)=false:=by rw[beq_eq_false_iff_ne];exact m2
    have f3:(vs==9)=false:=by rw[beq_eq_false_iff_ne];exact m3
    simp only[dkc] at n0;refine⟨⟨ver,iss,nxt,E,GG⟩,j0,⟨hk,by simp only;omega,rfl⟩,?_⟩
    rw[E5,D6 _ _ _ h0,F4 (M6:=by omega)]
    repeat(with_reducible(first|apply Ai|apply Ae|apply Aj|apply Aw|apply A6|apply At|apply Ad|apply Ah|apply Cs);· first|constructor|(simp(disch:=omega)only[Ct,n0,LE,tE,f1,f2,f3,Ck,Er]<;>first|constructor|omega)|omega)
    try simp(disch:=omega)only[Aa,n0,LE,tE,f1,f2,f3,Ck,Er]
    rw[F8 (M6:=by omega)]
    repeat(with_reducible(first|apply Ai|apply Ae|apply Aj|apply Aw|apply A6|apply At|apply Ad|apply Ah|apply Cs);· first|constructor|(simp(disch:=omega)only[Ct,n0,LE,tE,f1,f2,f3,Ck,Er]<;>first|constructor|omega)|omega)
    try simp(disch:=omega)only[Aa,n0,LE,tE,f1,f2,f3,Ck,Er]
    all_goals rfl
theorem Auj(Bo:2000<=fu)(hl:l.length<=maxLen)(i:Nat):∃(m:Md)(j:Nat),m.plain /\
  Aq C0 prog fu (d+14) 11 [.pbox (dkc l i)]=some ⟨[.agg m.cells],[dkc l j]⟩:=by
 obtain⟨v0,j0,v00,v01,n0⟩:=Hi hl i 16 (by omega) (by omega);obtain⟨v1,j1,v10,v11,n1⟩:=Hi hl j0 20 (by omega) (by omega);obtain⟨v2,j2,v20,v21,n2⟩:=Hi hl j1 100 (by omega) (by omega);obtain⟨v3,j3,v30,v31,n3⟩:=Hi hl j2 4 (by omega) (by omega);have n0:=n0 (fu:=fu) (d:=d+11);have n1:=n1 (fu:=fu) (d:=d+11);have n2:=n2 (fu:=fu) (d:=d+11);have n3:=n3 (fu:=fu) (d:=d+11);simp only[dkc] at n0 n1 n2 n3;obtain⟨m,j,m1,m2⟩:=Az7 (fu:=fu) (d:=d) Bo hl (Ch:=(i:Int)) (ver:=wrap .i64 (1+v0)) (iss:=v1) (nxt:=wrap .i64 (20+v2)) 3 fu v3 j3 [] (by omega) (by omega) (by simp) (fun y hy=>by cases hy);refine⟨m,j,m1,(Zu fu (d+13) l.length (Ac .i64 l) i).trans ?_⟩;rw[<-m2];unfold OX;clear m2
 repeat(with_reducible(first|apply Ai|apply Ae|apply Aj|apply Aw|apply A6|apply At|apply Ad|apply Ah|apply Cs);· first|constructor|(simp(disch:=omega)only[Ct,n0,n1,n2,n3]<;>first|constructor|omega)|omega)
 try simp(disch:=omega)only[Aa,n0,n1,n2,n3]
 all_goals rfl
end
section
variable {fu d:Nat}
theorem Ags{call:Bq}{Mf a1n:Nat}{a0 a1:Ab}{l:B8}(hl:l.length<=1000):∀(k i nn:Nat),i+k=l.length->k<nn ->
  Gz fu call Mf a0 a1n a1 nn l.length (Ac .u64 l) l.length (Ac .u64 l) i=some ⟨[.sc (.bool true)],[]⟩
 |_,_,0,_,h=>by omega
 |0,i,nn+1,hi,hn=>by
  have e:i=l.length:=by omega
  subst e;rw[L7];simp(disch:=omega)only[Bz,Bx]
 |k+1,i,nn+1,hi,hn=>by
  have ih:=Ags (call:=call) (Mf:=Mf) (a1n:=a1n) (a0:=a0) (a1:=a1) hl k (i+1) nn (by omega) (by omega);obtain⟨x,hx⟩:∃x,l[i]?=some x:=⟨_,List.getElem?_eq_getElem (by omega)⟩
  have w:wrap .i64 ((i:Int)+1)=((i+1:Nat):Int):=by rw[Ag (by omega) (by omega)];omega
  have q:(x != x)=false:=bne_self_eq_false x;rw[L7];simp(disch:=omega)only[Bz,Bx,H6,De,Ck,Ss hx,q,w];exact ih
theorem Ass(Bo:2000<=fu){l:B8}(hl:l.length<=1000):Aq C0 prog fu (d+1) 74 [.lst false 1 l.length (Ac .u64 l),.lst false 1 l.length (Ac .u64 l)]=some ⟨[.sc (.bool true)],[]⟩:=by refine (Ym fu d l.length (Ac .u64 l) l.length (Ac .u64 l)).trans ?_;have q:=Ags (fu:=fu) (call:=Aq C0 prog fu d) (Mf:=l.length) (a1n:=l.length) (a0:=Ac .u64 l) (a1:=Ac .u64 l) hl l.length 0 fu (by omega) (by omega);have b:((l.length:Int) != (l.length:Int))=false:=bne_self_eq_false _;simp only[Bz,Bx,b];exact q
theorem A11(Bo:2000<=fu){s:Sg}(h1:s.chains.length<=1000)(h2:s.path.length<=1000):Aq C0 prog fu (d+2) 39 [.agg s.cells,.agg s.cells]=some ⟨[.sc (.bool true)],[]⟩:=by
 refine (T7 fu (d+1) s.leaf s.chains.length (Ac .u64 s.chains) s.path.length (Ac .u64 s.path) s.leaf s.chains.length (Ac .u64 s.chains) s.path.length (Ac .u64 s.path)).trans ?_;have w1:=Ass (fu:=fu) (d:=d) Bo h1;have w2:=Ass (fu:=fu) (d:=d) Bo h2;have q1:(s.leaf==s.leaf)=true:=beq_self_eq_true _
 repeat(with_reducible(first|apply Ai|apply Ae|apply Aj|apply Ao|apply Aw|apply A6|apply At|apply Ad|apply Ah|apply Cs);· first|constructor|(simp(disch:=omega)only[Ct,q1,w1,w2]<;>first|constructor|omega)|omega)
 try simp(disch:=omega)only[Aa,q1,w1,w2]
 all_goals rfl
theorem Aru{call:Bq}{C7 LP:Int}{H5 Eg HG HL:Nat}{Ch D0 KU MD:Ab}{x:Me}(hl:x.sts.length<=1000):∀(k i nn:Nat),i+k=x.sts.length->k<nn ->
  Gj fu call C7 H5 Ch Eg D0 LP HG KU HL MD nn (i:Int) x.model x.ans.length (C1 x.ans) x.sts.length (Dq x.sts) x.model x.ans.length (C1 x.ans) x.sts.length (Dq x.sts)=some ⟨[.sc (.bool true)],[]⟩
 |_,_,0,_,h=>by omega
 |0,i,nn+1,hi,hn=>by
  have e:i=x.sts.length:=by omega
  subst e;rw[K6];simp(disch:=omega)only[Bz,Bx]
 |k+1,i,nn+1,hi,hn=>by
  have ih:=Aru (call:=call) (C7:=C7) (LP:=LP) (H5:=H5) (Eg:=Eg) (HG:=HG) (HL:=HL) (Ch:=Ch) (D0:=D0) (KU:=KU) (MD:=MD) hl k (i+1) nn (by omega) (by omega);obtain⟨s,hx⟩:∃s,x.sts[i]?=some s:=⟨_,List.getElem?_eq_getElem (by omega)⟩
  obtain⟨g0,g1⟩:=saa hx;have w:wrap .i64 ((i:Int)+1)=((i+1:Nat):Int):=by rw[Ag (by omega) (by omega)];omega
  have q:∀x:Int,(x==x)=true:=fun x=>beq_self_eq_true x;rw[K6,<-ih];simp(disch:=omega)only[Bz,Bx,H6,g0,g1,q,w,Bool.and_true,Cp]
theorem Avu{call:Bq}{C7 LP:Int}{H5 Eg HG HL:Nat}{Ch D0 KU MD:Ab}{x:Me}(Bo:2000<=fu)(hl:x.sts.length<=1000)(SQ:x.ans.length<=1000):∀(k i nn:Nat),i+k=x.ans.length->k<nn ->
  Gi fu call C7 H5 Ch Eg D0 LP HG KU HL MD nn (i:Int) x.model x.ans.length (C1 x.ans) x.sts.length (Dq x.sts) x.model x.ans.length (C1 x.ans) x.sts.length (Dq x.sts)=some ⟨[.sc (.bool true)],[]⟩
 |_,_,0,_,h=>by omega
 |0,i,nn+1,hi,hn=>by
  have e:i=x.ans.length:=by omega
  subst e;have l1:=Aru (fu:=fu) (call:=call) (C7:=C7) (LP:=LP) (H5:=H5) (Eg:=Eg) (HG:=HG) (HL:=HL) (Ch:=Ch) (D0:=D0) (KU:=KU) (MD:=MD) hl x.sts.length 0 fu (by omega) (by omega);rw[K5,<-l1];simp(disch:=omega)only[Bz,Bx];rfl
 |k+1,i,nn+1,hi,hn=>by
  have ih:=Avu (call:=call) (C7:=C7) (LP:=LP) (H5:=H5) (Eg:=Eg) (HG:=HG) (HL:=HL) (Ch:=Ch) (D0:=D0) (KU:=KU) (MD:=MD) Bo hl SQ k (i+1) nn (by omega) (by omega);obtain⟨s,hx⟩:∃s,x.ans[i]?=some s:=⟨_,List.getElem?_eq_getElem (by omega)⟩
  obtain⟨g0,g1,g2⟩:=ana hx;have g2':(C1 x.ans).getD (i*3+1+1) .top=Af s.key.root:=g2;have w:wrap .i64 ((i:Int)+1)=((i+1:Nat):Int):=by rw[Ag (by omega) (by omega)];omega
  have q:∀x:Int,(x==x)=true:=fun x=>beq_self_eq_true x
  have qs:∀x:ByteArray,(x==x)=true:=fun x=>by
   rcases x with⟨x⟩;show (x==x)=true;exact beq_self_eq_true x
  rw[K5,<-ih];simp(disch:=omega)only[Bz,Bx,H6,g0,g1,g2',q,qs,w,Bool.and_true,Cp]
theorem A32(Bo:2000<=fu){x:Me}(hl:x.sts.length<=1000)(SQ:x.ans.length<=1000):Aq C0 prog fu (d+1) 73 [.agg x.cells,.agg x.cells]=some ⟨[.sc (.bool true)],[]⟩:=by refine (Xu fu d x.model x.ans.length (C1 x.ans) x.sts.length (Dq x.sts) x.model x.ans.length (C1 x.ans) x.sts.length (Dq x.sts)).trans ?_;have l0:=Avu (fu:=fu) (call:=Aq C0 prog fu d) (C7:=x.model) (LP:=x.model) (H5:=x.ans.length) (Eg:=x.sts.length) (HG:=x.ans.length) (HL:=x.sts.length) (Ch:=C1 x.ans) (D0:=Dq x.sts) (KU:=C1 x.ans) (MD:=Dq x.sts) Bo hl SQ x.ans.length 0 fu (by omega) (by omega);have b:∀x:Int,(x != x)=false:=fun x=>bne_self_eq_false _;simp only[Bz,Bx,b];exact l0
def Md.shrt(m:Md):Prop:=m.ents.length<=1000/\∀x∈m.ents,x.sts.length<=1000/\x.ans.length<=1000
theorem Av0{Mf a1n:Nat}{a0 a1:Ab}{l:List Me}(Bo:2000<=fu)(hl:l.length<=1000)(hx:∀x∈l,x.sts.length<=1000/\x.ans.length<=1000):∀(k i nn:Nat),i+k=l.length->k<nn ->
  Fv fu (Aq C0 prog fu (d+1)) Mf a0 a1n a1 nn l.length (B5 l) l.length (B5 l) (i:Int)=some ⟨[.sc (.bool true)],[]⟩
 |_,_,0,_,h=>by omega
 |0,i,nn+1,hi,hn=>by
  have e:i=l.length:=by omega
  subst e;rw[J4];simp(disch:=omega)only[Bz,Bx]
 |k+1,i,nn+1,hi,hn=>by
  have ih:=Av0 (Mf:=Mf) (a1n:=a1n) (a0:=a0) (a1:=a1) Bo hl hx k (i+1) nn (by omega) (by omega);have hil:i<l.length:=by omega
  have hs:=List.getElem?_eq_getElem hil;have hm:=hx _ (List.getElem_mem hil);generalize l[i]=s at hs hm;obtain⟨g0,g1,g2⟩:=mea hs;have g2':(B5 l).getD (i*3+1+1) .top=.lst false 2 s.sts.length (Dq s.sts):=g2;have w:wrap .i64 ((i:Int)+1)=((i+1:Nat):Int):=by rw[Ag (by omega) (by omega)];omega
  have se:=A32 (fu:=fu) (d:=d) Bo hm.1 hm.2;simp only[Me.cells] at se;rw[J4,<-ih];simp(disch:=omega)only[Bz,Bx,H6,g0,g1,g2',se,w,Bool.and_true,Cp]
theorem UJ(Bo:2000<=fu){m:Md}(hm:m.shrt)(h1:m.sig.chains.length<=1000)(h2:m.sig.path.length<=1000):Aq C0 prog fu (d+3) 18 [.agg m.cells,.agg m.cells]=some ⟨[.sc (.bool true)],[]⟩:=by
 refine (Y5 fu (d+2) m.ver m.iss m.nxt m.ents.length (B5 m.ents) m.sig.leaf m.sig.chains.length (Ac .u64 m.sig.chains) m.sig.path.length (Ac .u64 m.sig.path) m.ver m.iss m.nxt m.ents.length (B5 m.ents) m.sig.leaf m.sig.chains.length (Ac .u64 m.sig.chains) m.sig.path.length (Ac .u64 m.sig.path)).trans ?_
 have sl:Aq C0 prog fu (d+2) 38 [.lst false 3 m.ents.length (B5 m.ents),.lst false 3 m.ents.length (B5 m.ents)]=some ⟨[.sc (.bool true)],[]⟩:=by
  refine (Vx fu (d+1) m.ents.length (B5 m.ents) m.ents.length (B5 m.ents)).trans ?_;have l0:=Av0 (fu:=fu) (d:=d) (Mf:=m.ents.length) (a1n:=m.ents.length) (a0:=B5 m.ents) (a1:=B5 m.ents) Bo hm.1 hm.2 m.ents.length 0 fu (by omega) (by have:=hm.1;omega)
  have b:∀x:Int,(x != x)=false:=fun x=>bne_self_eq_false _;simp only[Bz,Bx,b];exact l0
 have sg:=A11 (fu:=fu) (d:=d) Bo h1 h2;simp only[Sg.cells] at sg;have q:∀x:Int,(x==x)=true:=fun x=>beq_self_eq_true x
 repeat(with_reducible(first|apply Ai|apply Ae|apply Aj|apply Ao|apply Aw|apply A6|apply At|apply Ad|apply Ah|apply Cs);· first|constructor|(simp(disch:=omega)only[Ct,q,sl,sg]<;>first|constructor|omega)|omega)
 try simp(disch:=omega)only[Aa,q,sl,sg]
 all_goals rfl
theorem Afl(Bo:20000<=fu){b:B8}(hb:I7 b)(hl:b.length<=1000000)(cur:Md)(k:Ky)(now:Int):
  Aq C0 prog fu (d+16) 28 [.agg cur.cells,.lst false 1 b.length (Ac .u8 b),.agg k.cells,Au now]=some ⟨[.agg (Yk cur b k now).1.cells,Au (Yk cur b k now).2],[]⟩:=by
 refine (CK fu (d+15) cur.ver cur.iss cur.nxt cur.ents.length (B5 cur.ents) cur.sig.leaf cur.sig.chains.length (Ac .u64 cur.sig.chains) cur.sig.path.length (Ac .u64 cur.sig.path) b.length (Ac .u8 b) k.h k.root now).trans ?_;unfold Yk;have w1:=Zq (fu:=fu) (d:=d+14) now 0 1099511627776;by_cases h1:now<0\/1099511627776<now
 ·rw[Bn h1]
  have z:(decide (0<=now)&&decide (now<=1099511627776))=false:=by
   rw[Bool.and_eq_false_iff,GK,GK];omega
  rw[z] at w1
  repeat(with_reducible(first|apply Ai|apply Ae|apply Aj|apply Ao|apply Aw|apply A6|apply At|apply Ad|apply Ah|apply Cs);· first|constructor|(simp(disch:=omega)only[Ct,w1,Ev]<;>first|constructor|omega)|omega)
  try simp(disch:=omega)only[Aa,w1,Ev]
  all_goals rfl
 have z:(decide (0<=now)&&decide (now<=1099511627776))=true:=by
  rw[G6,GU,GU];omega
 rw[z] at w1;rw[A4 h1];have dec:=Auf (fu:=fu) (d:=d) Bo hb hl;have dok:=Ael hb;generalize M8 b=r at dec dok ⊢;obtain⟨m,e⟩:=r;simp only at dec dok ⊢;simp only[Md.cells] at dec;by_cases h3:e=0
 rotate_left
 ·have h3':(e != 0)=true:=by simp[h3]
  rw[Bn h3]
  repeat(with_reducible(first|apply Ai|apply Ae|apply Aj|apply Ao|apply Aw|apply A6|apply At|apply Ad|apply Ah|apply Cs);· first|constructor|(simp(disch:=omega)only[Ct,w1,Cp,dec,h3']<;>first|constructor|omega)|omega)
  try simp(disch:=omega)only[Aa,w1,Cp,dec,h3']
  all_goals rfl
 subst h3;have e00:((0:Int) != 0)=false:=rfl
 have mk:m.ok:=by
  rcases dok with h|h|h
  ·exact h.2.1
  ·have:=congrArg Prod.snd h;simp at this
  ·have:=congrArg Prod.snd h;simp at this
 rw[A4 (by simp)];by_cases h4:m.ver<=cur.ver
 ·rw[Bn h4]
  repeat(with_reducible(first|apply Ai|apply Ae|apply Aj|apply Ao|apply Aw|apply A6|apply At|apply Ad|apply Ah|apply Cs);· first|constructor|(simp(disch:=omega)only[Ct,w1,Cp,dec,e00]<;>first|constructor|omega)|omega)
  try simp(disch:=omega)only[Aa,w1,Cp,dec,e00]
  all_goals rfl
 rw[A4 h4];have vr:=Arl (fu:=fu) (d:=d+7) (m:=m) Bo mk.wf k;simp only[Md.cells,Ky.cells] at vr;by_cases h5:RV m k=0
 rotate_left
 ·have h5':(RV m k != 0)=true:=by simp[h5]
  rw[Bn h5]
  repeat(with_reducible(first|apply Ai|apply Ae|apply Aj|apply Ao|apply Aw|apply A6|apply At|apply Ad|apply Ah|apply Cs);· first|constructor|(simp(disch:=omega)only[Ct,w1,Cp,dec,e00,vr,h5']<;>first|constructor|omega)|omega)
  try simp(disch:=omega)only[Aa,w1,Cp,dec,e00,vr,h5']
  all_goals rfl
 rw[A4 (by simp[h5])];rw[h5] at vr;have w2:=Zq (fu:=fu) (d:=d+14) now m.iss m.nxt;by_cases h6:now<m.iss\/m.nxt<now
 ·rw[Bn h6]
  have z2:(decide (m.iss<=now)&&decide (now<=m.nxt))=false:=by
   rw[Bool.and_eq_false_iff,GK,GK];omega
  rw[z2] at w2
  repeat(with_reducible(first|apply Ai|apply Ae|apply Aj|apply Ao|apply Aw|apply A6|apply At|apply Ad|apply Ah|apply Cs);· first|constructor|(simp(disch:=omega)only[Ct,w1,w2,Cp,Ev,dec,e00,vr]<;>first|constructor|omega)|omega)
  try simp(disch:=omega)only[Aa,w1,w2,Cp,Ev,dec,e00,vr]
  all_goals rfl
 have z2:(decide (m.iss<=now)&&decide (now<=m.nxt))=true:=by
  rw[G6,GU,GU];omega
 rw[z2] at w2;rw[A4 h6];simp only[Md.cells]
 repeat(with_reducible(first|apply Ai|apply Ae|apply Aj|apply Ao|apply Aw|apply A6|apply At|apply Ad|apply Ah|apply Cs);· first|constructor|(simp(disch:=omega)only[Ct,w1,w2,Cp,dec,e00,vr]<;>first|constructor|omega)|omega)
 try simp(disch:=omega)only[Aa,w1,w2,Cp,dec,e00,vr]
 all_goals rfl
theorem Aqc{b:B8}(hb:I7 b):(M8 b).1.shrt/\(M8 b).1.sig.chains.length<=1000/\(M8 b).1.sig.path.length<=1000:=by
 have z:FM.shrt/\FM.sig.chains.length<=1000/\FM.sig.path.length<=1000:=⟨⟨by decide,fun x hx=>by cases hx⟩,by decide,by decide⟩
 rcases Ael hb with⟨h1,h2,h3,h4,h5⟩|h|h
 ·obtain⟨e0,e1,e2,e3⟩:=Gw h3;obtain⟨_,_,_,_,_,m6,m7⟩:=Jm e0;have hp:=H0 (h:=(M8 b).1.sig.path.length) (by simpa using e1);exact⟨⟨by omega,fun x hx=>by have:=Ox (Mp m7 x hx);omega⟩,by omega,by omega⟩
 ·rw[h];exact z
 ·rw[h];exact z
end
def Aat(m:Md)(model now:Int):Int:=Iq now (match m.ents.find? fun x=>x.model==model with|some x=>x.sts.map fun s=>(s.kd,s.at_)|none=>[])
def Aw5(x:Me):En:=⟨x.model,x.ans.length,C1 x.ans,x.sts.length,Dq x.sts⟩
theorem WC:∀{l:List Me},(∀x∈l,x.sts.length<=1000/\x.ans.length<=1000)->BE (B5 l)=some (l.map Aw5)
 |[],_=>rfl
 |x::l,h=>by
  have h0:=h x (by simp);have ih:=WC (l:=l) fun y hy=>h y (by simp[hy])
  have b:(Nat.beq (C1 x.ans).length (x.ans.length*3)&&Nat.beq (Dq x.sts).length (x.sts.length*2)&&Nat.ble x.ans.length 1000&&Nat.ble x.sts.length 1000)=true:=by
   rw[N5,Zh];simp only[P6,Zzm,G6];exact⟨Nat.ble_eq_true_of_le h0.2,Nat.ble_eq_true_of_le h0.1⟩
  show BE (Af x.model :: .lst false 3 x.ans.length (C1 x.ans) :: .lst false 2 x.sts.length (Dq x.sts)::B5 l)=_;rw[BE,b,cond_true,ih];rfl
theorem RD:∀(l:List Sa),Tt (Dq l)=some (l.map fun s=>(s.kd,s.at_))
 |[]=>rfl
 |s::l=>by
  show Tt (Au s.kd :: Au s.at_::Dq l)=_;rw[Tt,RD l];rfl
theorem Aij(model:Int):∀(l:List Me),Ak6 model (l.map Aw5)=match l.find? fun x=>x.model==model with|some x=>Dq x.sts|none=>[]
 |[]=>rfl
 |x::l=>by
  have ih:=Aij model l;unfold Ak6 at ih ⊢;by_cases h:x.model=model
  ·rw[Sn,List.find?_cons_of_pos (by simpa [Aw5] using h),List.find?_cons_of_pos (by simpa using h)];rfl
  ·rw[Sn,List.find?_cons_of_neg (by simpa [Aw5] using h),List.find?_cons_of_neg (by simpa using h)];exact ih
theorem Apt(fu d:Nat)(args:Ab):Aq C0 prog fu (d+1) 29 args=Ami args:=by kernel_rfl
section
variable {fu d:Nat}
theorem Ahn{m:Md}(hm:m.shrt)(model now:Int):Aq C0 prog fu (d+1) 29 [.agg m.cells,Af model,Au now]=some ⟨[Au (Aat m model now)],[]⟩:=by
 rw[Apt]
 have b:(Nat.beq (B5 m.ents).length (m.ents.length*3)&&Nat.ble m.ents.length 1000)=true:=by
  rw[Mo];simp only[P6,Zzm];exact Nat.ble_eq_true_of_le hm.1
 show (bif (Nat.beq (B5 m.ents).length (m.ents.length*3)&&Nat.ble m.ents.length 1000) then _ else none)=_;rw[b,cond_true,WC hm.2];simp only;rw[Aij];unfold Aat;cases m.ents.find? fun x=>x.model==model with
 |none=>rfl
 |some x=>
  simp only;rw[RD]
end
structure OK(m:Md)(seed h:Int):Prop where
 ok:m.ok
 err:Dv m=0
 ver:RV m (Wg seed h)=0
 path:(m.sig.path.length:Int)=h
 leaf:m.sig.leaf=m.ver-1
theorem Axu{h:Int}(hh:Dz h=false):0<=h/\h<=4:=by unfold Dz at hh;rw[Bool.or_eq_false_iff,GK,GK] at hh;omega
theorem Aps{m:Md}(hm:m.ok){seed h:Int}(he:Br m=0)(hh:Dz h=false)(ho:Ip (m.ver-1) h=false):∃s,R6 m seed h=({ m with sig:=s },0)/\OK { m with sig:=s } seed h:=by
 obtain⟨s,e,k1,k2,k3,k4,k5⟩:=Am2 (seed:=seed) (m:=Sh m) hh ho;refine⟨s,?_,?_⟩
 ·unfold R6;rw[Bn he,e]
 ·have Yz:Br { m with sig:=s }=0:=he;refine⟨⟨hm.ent,k1⟩,?_,?_,k4,k2⟩
  ·unfold Dv;rw[Yz,Bn rfl];show OG s=0;unfold OG;rw[k4,k2,hh,ho,k3];rfl
  ·unfold RV;rw[Yz,Bn rfl,A4 (by simp only[ne_eq,Decidable.not_not];exact k2)]
   exact k5
theorem Asn{m:Md}(hm:m.ok)(seed h:Int):(R6 m seed h).1.ok/\(R6 m seed h).1.sig.path.length<=4/\(R6 m seed h).1.sig.chains.length<=18/\((R6 m seed h).1=FM\/∃s,(R6 m seed h).1={ m with sig:=s }):=by
 have z:FM.ok/\FM.sig.path.length<=4/\FM.sig.chains.length<=18/\(FM=FM\/∃s,FM={ m with sig:=s }):=⟨A4i,by decide,by decide,.inl rfl⟩
 unfold R6;split
 ·cases hs:KG seed h (m.ver-1) (Sh m) with
  |none=>exact z
  |some s=>
   by_cases hh:Dz h=false
   ·by_cases ho:Ip (m.ver-1) h=false
    ·obtain⟨s',e,k1,k2,k3,k4,_⟩:=Am2 (seed:=seed) (m:=Sh m) hh ho;rw[hs] at e;cases e;have:=Axu hh;exact⟨⟨hm.ent,k1⟩,by show s.path.length<=4;omega,by show s.chains.length<=18;omega,.inr ⟨s,rfl⟩⟩
    ·exfalso;unfold KG at hs;simp only[Bool.not_eq_false] at ho;rw[ho] at hs;simp at hs
   ·exfalso;unfold KG at hs;simp only[Bool.not_eq_false] at hh;rw[hh] at hs;simp at hs
 ·exact z
theorem OK.wf{m:Md}{seed h:Int}(hs:OK m seed h):m.wf:=hs.ok.wf
theorem OK.sizes{m:Md}{seed h:Int}(hs:OK m seed h)(h4:h<=4):m.shrt/\m.sig.chains.length<=1000/\m.sig.path.length<=1000:=by obtain⟨e0,e1,e2,e3⟩:=Gw hs.err;obtain⟨_,_,_,_,_,m6,m7⟩:=Jm e0;have:=hs.path;exact⟨⟨by omega,fun x hx=>by have:=Ox (Mp m7 x hx);omega⟩,by omega,by omega⟩
theorem At9{m:Md}(hw:m.wf)(h:Dv m=0)(hf:(A3 m).length<=90):(Fz m).length<=4096:=by obtain⟨h0,h1,h2,h3⟩:=Gw h;obtain⟨_,f,_⟩:=Uz hw h0;have:=f.len;have hp:=H0 (h:=m.sig.path.length) (by simpa using h1);unfold Fz;rw[F9,Alj];omega
theorem Aq2{m:Md}(hw:m.wf)(h:Dv m=0):I7 (Fz m):=fun y hy=>(B4.1 hy).elim (FQ hw (Gw h).1 y) (Asg m.sig y)
theorem Ard{m:Md}(hw:m.wf)(h:Dv m=0):(Fz m).length<=100000:=by obtain⟨h0,h1,h2,h3⟩:=Gw h;have:=N7 hw h0;have hp:=H0 (h:=m.sig.path.length) (by simpa using h1);unfold Fz;rw[F9,Alj];omega
def mA0:Md:=⟨2,1,9,[⟨4,[],[⟨1,0⟩,⟨4,50⟩]⟩],GG⟩
theorem Aq0:mA0.ok:=⟨fun x hx=>by
 rw[M0.1 hx];exact⟨⟨by decide,by decide⟩,fun a ha=>by cases ha⟩,⟨fun x hx=>(by cases hx),fun x hx=>(by cases hx)⟩⟩
theorem Ax2:Br mA0=0:=by decide
section
variable {fu d:Nat}
abbrev mC(v i x:Int)(n:Nat)(c:Ab):Ab:=[Au v,Au i,Au x,.lst false 3 n c,Au 0,.lst false 1 0 [],.lst false 1 0 []]
theorem Ab7(Bo:20000<=fu):Aq C0 prog fu (d+14) 9 []=some ⟨[.sc (.bool true)],[]⟩:=by
 rw[EB]
 have hM:∃M,R6 mA0 7 2=(M,0)/\OK M 7 2/\M.ver=2/\M.iss=1/\M.nxt=9/\M.ents=[⟨4,[],[⟨1,0⟩,⟨4,50⟩]⟩]/\(A3 M).length<=90/\M.sig.leaf=1:=by
  obtain⟨s,hs,hg⟩:=Aps Aq0 (seed:=7) (h:=2) Ax2 (by decide) (by decide);exact⟨_,hs,hg,rfl,rfl,rfl,rfl,(show (15:Nat)<=90 by omega),hg.leaf⟩
 obtain⟨M,hs,hg,m1,m2,m3,m4,m5,lf⟩:=hM;have k7:=Akl (fu:=fu) (d:=d) (by omega) 7 2
 have sg:Aq C0 prog fu (d+13) 16 [.agg (mC 2 1 9 1 [Af 4,.lst false 3 0 [],.lst false 2 2 [Au 1,Au 0,Au 4,Au 50]]),Af 7,Au 2]=some ⟨[.agg M.cells,Au 0],[]⟩:=by
  have:=Asj (fu:=fu) (d:=d+2) (m:=mA0) Bo Aq0.wf 7 2;rw[hs] at this;exact this
 obtain⟨z1,z2,z3⟩:=hg.sizes (by omega);have en:=Amv (fu:=fu) (d:=d+3) (m:=M) Bo hg.wf (by omega) (by omega);unfold T8 at en;rw[hg.err,Bn rfl] at en;have le:(Fz M).length<=4096:=At9 hg.wf hg.err m5;have hb:=Aq2 hg.wf hg.err;have dh:=VY hg.ok hg.err le
 have a1:Aq C0 prog fu (d+13) 27 [.agg (mC 1 0 0 0 []),.lst false 1 (Fz M).length (Ac .u8 (Fz M)),.agg (Wg 7 2).cells,Au 5]=some ⟨[.agg M.cells,Au 0],[]⟩:=by
  have:=ND (fu:=fu) (d:=d+1) Bo hb (by omega) ⟨1,0,0,[],GG⟩ (Wg 7 2) 5
  have e1:Yk ⟨1,0,0,[],GG⟩ (Fz M) (Wg 7 2) 5=(M,0):=by
   unfold Yk;rw[A4 (by omega),dh,A4 (by simp),A4 (by rw[m1];show ¬(2:Int)<=1;omega),A4 (by rw[hg.ver];simp),A4 (by rw[m2,m3];omega)]
  rw[e1] at this;exact this
 have a2:Aq C0 prog fu (d+13) 27 [.agg M.cells,.lst false 1 (Fz M).length (Ac .u8 (Fz M)),.agg (Wg 7 2).cells,Au 5]=some ⟨[.agg (mC 0 0 0 0 []),Au 7],[]⟩:=by
  have:=ND (fu:=fu) (d:=d+1) Bo hb (by omega) M (Wg 7 2) 5
  have e2:Yk M (Fz M) (Wg 7 2) 5=(FM,7):=by
   unfold Yk;rw[A4 (by omega),dh,A4 (by simp),Bn (Int.le_refl _)]
  rw[e2] at this;exact this
 have sm:=UJ (fu:=fu) (d:=d+10) (m:=M) (by omega) z1 z2 z3;have s1:=Ahn (fu:=fu) (d:=d+12) (m:=M) z1 4 49;have s2:=Ahn (fu:=fu) (d:=d+12) (m:=M) z1 4 50;have v1:Aat M 4 49=1:=by unfold Aat;rw[m4];rfl
 have v2:Aat M 4 50=4:=by unfold Aat;rw[m4];rfl
 rw[v1] at s1;rw[v2] at s2;have L:=Ap .u8 (Fz M);have t:=Mi .u8 (Fz M);generalize Fz M=E at *
 generalize Wg 7 2=K at *
 simp only[Md.cells,Ky.cells,lf] at k7 sg en a1 a2 sm s1 s2;clear hs hg dh v1 v2
 repeat(with_reducible(first|apply Ai|apply Ae|apply Aj|apply Ao|apply Bb|apply A6|apply At|apply Ad|apply Ah|apply Cs);· first|constructor|(simp(disch:=omega)only[Ct,k7,sg,en,De,Ck,Er,L,t,a1,a2,sm,s1,s2,Int.reduceBEq]<;>first|constructor|omega)|omega)
 try simp(disch:=omega)only[Aa,k7,sg,en,De,Ck,Er,L,t,a1,a2,sm,s1,s2,Int.reduceBEq]
 all_goals rfl
end
section
variable {xs:FuncId->Option (Ab->Option Dt)}(fu d:Nat)(call:Bq)
def Dp(Z:Nat)(Y:Ab)(X:Int)(W:Nat)(V:Ab)(U:Nat)(T:Int)(S:Nat)(Q P:Int)(O N M:Int)(L:Nat)(K:Int)(J I:Nat)(H G E:Ab)(D B:Int)(A:Ab):Option Dt:=K0 fu call 7 Tryz.f7 [Am 1 Z Y,X,Am 1 W V] [.r,.r,.r,.r,.r,.r,.r,.r,.l,.r,.l] U ⟨lk [(1,T),(8,.ptr 8 0),(13,.ptr 13 0),(57,.view 57 1 0 S),(58,Q),(59,P)],B3 [(8,.st [O,N,M,.view 408 3 0 L,K,.view 608 1 0 J,.view 708 1 0 I]),(408,.ar false H),(608,.ar false G),(708,.ar false E),(13,.st [D,Af B]),(57,.ar false A)]⟩
def Gh(Z:Nat)(Y:Ab)(X:Int)(W:Nat)(V:Ab)(U T:Nat)(S:Int)(Q:Nat)(P:Ab)(O:Nat)(N M:Int)(L:Nat)(K J:Int)(I H G:Int)(E:Nat)(D:Int)(B A:Nat)(z w v:Ab)(u t:Int)(y21 y22:Ab):Option Dt:=K0 fu call 7 Tryz.f7 [Am 1 Z Y,X,Am 1 W V] [.r,.r,.r,.r,.r,.r,.r,.r,.l,.r,.l,.i U,.r,.r,.l,.l,.r,.r,.l] T ⟨lk [(1,S),(8,.ptr 8 0),(13,.ptr 13 0),(15,Am 1 Q P),(57,.view 57 1 0 O),(58,N),(59,M),(66,.view 66 1 0 L),(67,K),(68,J)],B3 [(8,.st [I,H,G,.view 408 3 0 E,D,.view 608 1 0 B,.view 708 1 0 A]),(408,.ar false z),(608,.ar false w),(708,.ar false v),(13,.st [u,Af t]),(57,.ar false y21),(66,.ar false y22)]⟩
def Dm(Z:Nat)(Y:Ab)(X:Int)(W:Nat)(V:Ab)(U T:Nat)(S:Int)(Q:Nat)(P:Ab)(O:Nat)(N M:Int)(L:Nat)(K J:Int)(I H G:Int)(E:Nat)(D:Int)(B A:Nat)(z w v:Ab)(u t:Int)(y21 y22:Ab):Option Dt:=K0 fu call 7 Tryz.f7 [Am 1 Z Y,X,Am 1 W V] [.r,.r,.r,.r,.r,.r,.r,.r,.l,.r,.l,.i U,.r,.r,.l,.l,.r,.r,.l] T ⟨lk [(1,S),(8,.ptr 8 0),(13,.ptr 13 0),(15,Am 1 Q P),(57,.view 57 1 0 O),(58,N),(59,M),(66,.view 66 1 0 L),(67,K),(68,J)],B3 [(8,.st [I,H,G,.view 408 3 0 E,D,.view 608 1 0 B,.view 708 1 0 A]),(408,.ar true z),(608,.ar true w),(708,.ar true v),(13,.st [u,Af t]),(57,.ar false y21),(66,.ar false y22)]⟩
def Ex(Z:Nat)(Y:Ab)(X:Int)(W:Nat)(V:Ab)(U:Nat)(T:Int)(S:Nat)(Q P:Int)(O N M:Int)(L:Nat)(K:Int)(J I:Nat)(H G E:Ab)(D B:Int)(A:Ab):Option Dt:=K0 fu call 7 Tryz.f7 [Am 1 Z Y,X,Am 1 W V] [.r,.r,.r,.r,.r,.r,.r,.r,.l,.r,.l] U ⟨lk [(1,T),(8,.ptr 8 0),(13,.ptr 13 0),(57,.view 57 1 0 S),(58,Q),(59,P)],B3 [(8,.st [O,N,M,.view 408 3 0 L,K,.view 608 1 0 J,.view 708 1 0 I]),(408,.ar true H),(608,.ar true G),(708,.ar true E),(13,.st [D,Af B]),(57,.ar false A)]⟩
theorem Ou(U:Nat)(T:Ab)(S:Int)(Q:Nat)(P:Ab)(O:Nat)(Y:Int)(X:Nat)(W Z:Int)(N M L:Int)(K:Nat)(J:Int)(I H:Nat)(G E D:Ab)(B A:Int)(V:Ab):Dp fu call U T S Q P (O+1) Y X W Z N M L K J I H G E D B A V=(Az (decide (Z<W)) (As (decide (0<=Z)&&decide (Z<(↑X:Int)))<|Ow 1 (V.getD (0+Z.toNat*1) .top) fun a b c=>Lj .i64 (call 14 [Y,(130:Int)]) fun a=>Gh fu call U T S Q P O fu Y b c X W Z 2 2 0 N M L K J I H G E D B A V ([Y,a])) (Dj (call 9 []) fun a b=>Cg a fun a=>Ar b<|Bu [.sc (.bool a)])):=by kernel_rfl
theorem Oq(J:Nat)(I:Ab)(H:Int)(G:Nat)(E:Ab)(D nn:Nat)(B:Int)(L:Nat)(K:Ab)(A:Nat)(z w:Int)(v:Nat)(u T:Int)(S Q P:Int)(Z:Nat)(O:Int)(Y X:Nat)(W V U:Ab)(N M:Int)(t y22:Ab):Gh fu call J I H G E D (nn+1) B L K A z w v u T S Q P Z O Y X W V U N M t y22=(Az (decide (T<u)) (As (decide (0<=T)&&decide (T<(↑v:Int)))<|Be .i64 (y22.getD (0+T.toNat*1) .top) fun a=>As (decide (0+Z*3<=W.length))<|As (decide (0+Y*1<=V.length))<|As (decide (0+X*1<=U.length))<|Dj (call 27 [.agg [S,Q,P,Am 3 Z (List.take (Z*3) (W.drop 0)),O,Am 1 Y (List.take (Y*1) (V.drop 0)),Am 1 X (List.take (X*1) (U.drop 0))],Am 1 L K,.agg [N,Af M],a]) fun b c=>Dl b fun b=>Cu .i64 b fun b e=>Cu .i64 e fun e f=>Cu .i64 f fun f g=>G5 3 g fun g h i=>Cu .i64 i fun i j=>G5 1 j fun j k m=>G5 1 m fun m n o=>Ar o<|Dc .i64 c fun c=>As (decide (0+Z*3<=W.length))<|As (decide (0+Y*1<=V.length))<|As (decide (0+X*1<=U.length))<|Dj (call 28 [.agg [S,Q,P,Am 3 Z (List.take (Z*3) (W.drop 0)),O,Am 1 Y (List.take (Y*1) (V.drop 0)),Am 1 X (List.take (X*1) (U.drop 0))],Am 1 L K,.agg [N,Af M],a]) fun a o=>Dl a fun a=>Cu .i64 a fun a p=>Cu .i64 p fun p q=>Cu .i64 q fun q s=>G5 3 s fun s Bb3 Bdc=>Cu .i64 Bdc fun Bcg Bcd=>G5 1 Bcd fun A99 Bcv Bc6=>G5 1 Bc6 fun A93 A90 Bbu=>Ar Bbu<|Dc .i64 o fun o=>Dj (call 18 [.agg [b,e,f,Am 3 g h,i,Am 1 j k,Am 1 m n],.agg [a,p,q,Am 3 s Bb3,Bcg,Am 1 A99 Bcv,Am 1 A93 A90]]) fun a b=>Cg a fun a=>Ar b<|Az (!a) (Bu [.sc (.bool false)]) (Az (c != o) (Bu [.sc (.bool false)]) (Aa (wrap .i64 (T+1)) fun a=>Dm fu call J I H G E D nn B L K A z w v u a S Q P Z O Y X W V U N M t y22))) (Aa (wrap .i64 (w+1)) fun a=>Dp fu call J I H G E D B A z a S Q P Z O Y X W V U N M t)):=by kernel_rfl
theorem Ia(J:Nat)(I:Ab)(H:Int)(G:Nat)(E:Ab)(D nn:Nat)(B:Int)(L:Nat)(K:Ab)(A:Nat)(z w:Int)(v:Nat)(u T:Int)(S Q P:Int)(Z:Nat)(O:Int)(Y X:Nat)(W V U:Ab)(N M:Int)(t y22:Ab):Dm fu call J I H G E D (nn+1) B L K A z w v u T S Q P Z O Y X W V U N M t y22=(Az (decide (T<u)) (As (decide (0<=T)&&decide (T<(↑v:Int)))<|Be .i64 (y22.getD (0+T.toNat*1) .top) fun a=>As (decide (0+Z*3<=W.length))<|As (decide (0+Y*1<=V.length))<|As (decide (0+X*1<=U.length))<|Dj (call 27 [.agg [S,Q,P,Am 3 Z (List.take (Z*3) (W.drop 0)),O,Am 1 Y (List.take (Y*1) (V.drop 0)),Am 1 X (List.take (X*1) (U.drop 0))],Am 1 L K,.agg [N,Af M],a]) fun b c=>Dl b fun b=>Cu .i64 b fun b e=>Cu .i64 e fun e f=>Cu .i64 f fun f g=>G5 3 g fun g h i=>Cu .i64 i fun i j=>G5 1 j fun j k m=>G5 1 m fun m n o=>Ar o<|Dc .i64 c fun c=>As (decide (0+Z*3<=W.length))<|As (decide (0+Y*1<=V.length))<|As (decide (0+X*1<=U.length))<|Dj (call 28 [.agg [S,Q,P,Am 3 Z (List.take (Z*3) (W.drop 0)),O,Am 1 Y (List.take (Y*1) (V.drop 0)),Am 1 X (List.take (X*1) (U.drop 0))],Am 1 L K,.agg [N,Af M],a]) fun a o=>Dl a fun a=>Cu .i64 a fun a p=>Cu .i64 p fun p q=>Cu .i64 q fun q s=>G5 3 s fun s Bbl A9w=>Cu .i64 A9w fun Bb2 Bbg=>G5 1 Bbg fun Bcf Bab Bcz=>G5 1 Bcz fun Bal A9y A9s=>Ar A9s<|Dc .i64 o fun o=>Dj (call 18 [.agg [b,e,f,Am 3 g h,i,Am 1 j k,Am 1 m n],.agg [a,p,q,Am 3 s Bbl,Bb2,Am 1 Bcf Bab,Am 1 Bal A9y]]) fun a b=>Cg a fun a=>Ar b<|Az (!a) (Bu [.sc (.bool false)]) (Az (c != o) (Bu [.sc (.bool false)]) (Aa (wrap .i64 (T+1)) fun a=>Dm fu call J I H G E D nn B L K A z w v u a S Q P Z O Y X W V U N M t y22))) (Aa (wrap .i64 (w+1)) fun a=>Ex fu call J I H G E D B A z a S Q P Z O Y X W V U N M t)):=by kernel_rfl
theorem Ic(U:Nat)(T:Ab)(S:Int)(Q:Nat)(P:Ab)(O:Nat)(Y:Int)(X:Nat)(W Z:Int)(N M L:Int)(K:Nat)(J:Int)(I H:Nat)(G E D:Ab)(B A:Int)(V:Ab):Ex fu call U T S Q P (O+1) Y X W Z N M L K J I H G E D B A V=(Az (decide (Z<W)) (As (decide (0<=Z)&&decide (Z<(↑X:Int)))<|Ow 1 (V.getD (0+Z.toNat*1) .top) fun a b c=>Lj .i64 (call 14 [Y,(130:Int)]) fun a=>Dm fu call U T S Q P O fu Y b c X W Z 2 2 0 N M L K J I H G E D B A V ([Y,a])) (Dj (call 9 []) fun a b=>Cg a fun a=>Ar b<|Bu [.sc (.bool a)])):=by kernel_rfl
theorem Q1(W:Nat)(V:Ab)(Y:Int)(Z:Nat)(X:Ab):Fm C0 fu d 7 [Am 1 W V,Y,Am 1 Z X] fun call=>Az (decide ((↑Z:Int)>3000)) (Dj (call 9 []) fun a b=>Cg a fun a=>Ar b<|Bu [.sc (.bool a)]) (Dj (call 10 [Am 1 W V]) fun a b=>HB a fun a=>G5 1 a fun a c e=>Dc .i64 e fun e=>Ar b<|Bj (call 15 [.pbox [Am 1 a c,e],(18:Int)]) fun a b=>Dc .i64 a fun a=>Av b fun b c=>G5 1 b fun b e f=>Dc .i64 f fun f=>Ar c<|Bj (call 11 [.pbox [Am 1 b e,f]]) fun b c=>Av b fun b e=>Dl b fun b=>Cu .i64 b fun b f=>Cu .i64 f fun f g=>Cu .i64 g fun g h=>G5 3 h fun h i j=>Cu .i64 j fun j k=>G5 1 k fun k m n=>G5 1 n fun n o p=>Ar p<|Ar e<|Av c fun c e=>G5 1 c fun c p q=>Dc .i64 q fun q=>Ar e<|Dj (call 12 [.agg [b,f,g,Am 3 h i,j,Am 1 k m,Am 1 n o],Af 5,(4:Int)]) fun b e=>Dl b fun b=>Cu .i64 b fun b f=>Cu .i64 f fun f g=>Cu .i64 g fun g h=>G5 3 h fun h i j=>Cu .i64 j fun j k=>G5 1 k fun k m n=>G5 1 n fun n o s=>Ar s<|Dc .i64 e fun e=>Dj (call 21 [.agg [b,f,g,Am 3 h i,j,Am 1 k m,Am 1 n o]]) fun b e=>J0 1 b fun b f=>Dc .i64 e fun e=>Bj (call 15 [.pbox [Am 1 c p,q],(4:Int)]) fun c e=>Dc .i64 c fun c=>Av e fun e g=>G5 1 e fun e h i=>Dc .i64 i fun i=>Ar g<|Az (c==3) (Bj (call 15 [.pbox [Am 1 e h,i],(4096:Int)]) fun c e=>Dc .i64 c fun c=>Av e fun e g=>G5 1 e fun e h i=>Dc .i64 i fun i=>Ar g<|As (decide (0+b*1<=f.length))<|Dj (call 23 [Am 1 b (List.take (b*1) (f.drop 0)),c]) fun b c=>J0 1 b fun b f=>Ar c<|Bj (call 15 [.pbox [Am 1 e h,i],(8:Int)]) fun c e=>Dc .i64 c fun c=>Av e fun e g=>G5 1 e fun e h i=>Dc .i64 i fun e=>Ar g<|Aa (wrap .i64 (Int.tdiv c 7)) fun c=>Aa (wrap .i64 (5+c)) fun c=>Aa (wrap .u64 c) fun c=>Dj (call 17 [Af c,(4:Int)]) fun c e=>Dl c fun c=>Cu .i64 c fun c g=>Dc .u64 g fun g=>Ar e<|As (decide (0+b*1<=f.length))<|Dp fu call W V Y Z X fu Y 2 2 0 a 0 0 0 0 0 0 ([]) ([]) ([]) c g ([Am 1 b (List.take (b*1) (f.drop 0)),Am 1 Z X])) (Bj (call 15 [.pbox [Am 1 e h,i],(8:Int)]) fun c e=>Dc .i64 c fun c=>Av e fun e g=>G5 1 e fun e h i=>Dc .i64 i fun e=>Ar g<|Aa (wrap .i64 (Int.tdiv c 7)) fun c=>Aa (wrap .i64 (5+c)) fun c=>Aa (wrap .u64 c) fun c=>Dj (call 17 [Af c,(4:Int)]) fun c e=>Dl c fun c=>Cu .i64 c fun c g=>Dc .u64 g fun g=>Ar e<|As (decide (0+b*1<=f.length))<|Dp fu call W V Y Z X fu Y 2 2 0 a 0 0 0 0 0 0 ([]) ([]) ([]) c g ([Am 1 b (List.take (b*1) (f.drop 0)),Am 1 Z X]))):=by show _=_;kernel_rfl
end
theorem Md.plain.ok{m:Md}(h:m.plain):m.ok:=⟨fun x hx=>⟨(h.ent x hx).model,(h.ent x hx).rts⟩,by rw[h.sg];exact⟨fun x hx=>(by cases hx),fun x hx=>(by cases hx)⟩⟩
theorem Md.plain.shrt{m:Md}(h:m.plain):m.shrt:=⟨by have:=h.len;omega,fun x hx=>by have:=h.ent x hx;have:=this.ans;have:=(h.ent x hx).sts;omega⟩
theorem Avs{fu d:Nat}(Bo:2000<=fu){b:B8}(hb:I7 b)(hl:b.length<=100000)(n:Int):∃r,I7 r/\r.length<=100000/\Aq C0 prog fu (d+3) 23 [.lst false 1 b.length (Ac .u8 b),Au n]=some ⟨[.own 1 r.length (Ac .u8 r)],[]⟩:=by
 obtain⟨m,m0,m1,mo⟩:=Alg n 4096 (by omega) (by omega);obtain⟨r,r1,r2,r3⟩:=Ayr (fu:=fu) (d:=d+1) hb hl (n:=m) m0 (by omega);refine⟨r,r1,by rw[r2];split<;>omega,?_⟩
 refine (JV fu (d+2) b.length (Ac .u8 b) n).trans ?_;have L:=Ap .u8 r;have t:=Mi .u8 r
 repeat(with_reducible(first|apply Ai|apply Ae|apply Aj|apply Bb|apply Ad|apply Ah|apply Cs);· first|constructor|(simp(disch:=omega)only[Ct,mo,r3,De,L,t]<;>first|constructor|omega)|omega)
 try simp(disch:=omega)only[Aa,mo,r3,De,L,t]
 all_goals rfl
theorem Azw{m:Md}(hw:m.wf):∃(w:B8)(f:Int),T8 m=[.own 1 w.length (Ac .u8 w),Au f]/\I7 w/\w.length<=100000:=by
 unfold T8;split
 ·rename_i h0;exact⟨_,_,rfl,Aq2 hw h0,Ard hw h0⟩
 ·exact⟨[],_,rfl,(fun x hx=>by cases hx),by simp⟩
theorem Abi{b:B8}(hb:I7 b)(cur:Md)(k:Ky)(now:Int):(Yk cur b k now).1.shrt/\(Yk cur b k now).1.sig.chains.length<=1000/\(Yk cur b k now).1.sig.path.length<=1000:=by
 have z:FM.shrt/\FM.sig.chains.length<=1000/\FM.sig.path.length<=1000:=⟨⟨by decide,fun x hx=>by cases hx⟩,by decide,by decide⟩
 unfold Yk;split
 ·exact z
 ·split
  ·exact z
  ·split
   ·exact z
   ·split
    ·exact z
    ·split
     ·exact z
     ·exact Aqc hb
section
variable {Mf PX:Nat}{a0 a2:Ab}{a1:Int}
theorem A3v(a b:PV){k:Nat}(hk:k<2):List.getD [a,b] (0+k*1) PV.top=if k=0 then a else b:=by
 have:k=0\/k=1:=by omega
 rcases this with rfl|rfl<;>rfl
theorem Akt{b:B8}(hb:I7 b)(hl:b.length<=1000000){K:Ky}{now r:Int}{i:Nat}(hi:i<2){ver:Int}{m0:Nat}{c:Ab}:∀(k j nn:Nat),j+k=2->k<nn ->
  Dm 20000 (Aq C0 prog 20000 19) Mf a0 a1 PX a2 m0 nn now b.length (Ac .u8 b) 2 2 (i:Int) 2 2 (j:Int) ver 0 0 0 0 0 0 [] [] [] K.h K.root c [Au now,Au r] =
   Ex 20000 (Aq C0 prog 20000 19) Mf a0 a1 PX a2 m0 now 2 2 ((i+1:Nat):Int) ver 0 0 0 0 0 0 [] [] [] K.h K.root c
 |_,_,0,_,h=>by omega
 |0,j,nn+1,hj,hn=>by
  have wi:wrap .i64 ((i:Int)+1)=((i+1:Nat):Int):=by rw[Ag (by omega) (by omega)];omega
  rw[Ia];simp(disch:=omega)only[Bz,Bx,wi]
 |k+1,j,nn+1,hj,hn=>by
  have wj:wrap .i64 ((j:Int)+1)=((j+1:Nat):Int):=by rw[Ag (by omega) (by omega)];omega
  have ih:=Akt hb hl (K:=K) (now:=now) (r:=r) (i:=i) hi (ver:=ver) (m0:=m0) (c:=c) k (j+1) nn (by omega) (by omega)
  obtain⟨t,ht⟩:∃t:Int,List.getD [PV.sc (.int .i64 now),PV.sc (.int .i64 r)] (0+j*1) PV.top=Au t:=by
   rw[A3v _ _ (by omega)];split
   ·exact⟨_,rfl⟩
   ·exact⟨_,rfl⟩
  have p1:=ND (fu:=20000) (d:=7) (by omega) hb hl ⟨ver,0,0,[],GG⟩ K t;have p2:=Afl (fu:=20000) (d:=3) (by omega) hb hl ⟨ver,0,0,[],GG⟩ K t;obtain⟨s1,s2,s3⟩:=Abi hb ⟨ver,0,0,[],GG⟩ K t;have sm:=UJ (fu:=20000) (d:=16) (m:=(Yk ⟨ver,0,0,[],GG⟩ b K t).1) (by omega) s1 s2 s3;have p1:Aq C0 prog 20000 19 27 [.agg (mC ver 0 0 0 []),.lst false 1 b.length (Ac .u8 b),.agg K.cells,Au t]=_:=p1;have p2:Aq C0 prog 20000 19 28 [.agg (mC ver 0 0 0 []),.lst false 1 b.length (Ac .u8 b),.agg K.cells,Au t]=_:=p2;generalize (Yk ⟨ver,0,0,[],GG⟩ b K t).1=y at *
  generalize (Yk ⟨ver,0,0,[],GG⟩ b K t).2=e at *
  simp only[Md.cells,Ky.cells] at p1 p2 sm;have q:∀x:Int,(x != x)=false:=fun x=>bne_self_eq_false _;rw[<-ih,Ia];clear ih;simp(disch:=omega)only[Bz,Bx,H6,ht,Ud,Nat.zero_mul,Er,List.take_nil,p1,p2,sm,q,wj,Cp]
theorem A5v{b:B8}(hb:I7 b)(hl:b.length<=1000000){K:Ky}{now r:Int}{i:Nat}(hi:i<2){ver:Int}{m0:Nat}{c:Ab}(nn:Nat)(hn:2<nn):
  Gh 20000 (Aq C0 prog 20000 19) Mf a0 a1 PX a2 m0 nn now b.length (Ac .u8 b) 2 2 (i:Int) 2 2 0 ver 0 0 0 0 0 0 [] [] [] K.h K.root c [Au now,Au r] =
   Ex 20000 (Aq C0 prog 20000 19) Mf a0 a1 PX a2 m0 now 2 2 ((i+1:Nat):Int) ver 0 0 0 0 0 0 [] [] [] K.h K.root c:=by
 obtain⟨nn,rfl⟩:∃k,nn=k+1:=⟨nn-1,by omega⟩
 have ih:=Akt (Mf:=Mf) (PX:=PX) (a0:=a0) (a2:=a2) (a1:=a1) hb hl (K:=K) (now:=now) (r:=r) (i:=i) hi (ver:=ver) (m0:=m0) (c:=c) 1 1 nn (by omega) (by omega);have w1:wrap .i64 ((0:Int)+1)=((1:Nat):Int):=by decide
 have p1:=ND (fu:=20000) (d:=7) (by omega) hb hl ⟨ver,0,0,[],GG⟩ K now;have p2:=Afl (fu:=20000) (d:=3) (by omega) hb hl ⟨ver,0,0,[],GG⟩ K now;obtain⟨s1,s2,s3⟩:=Abi hb ⟨ver,0,0,[],GG⟩ K now;have sm:=UJ (fu:=20000) (d:=16) (m:=(Yk ⟨ver,0,0,[],GG⟩ b K now).1) (by omega) s1 s2 s3;have p1:Aq C0 prog 20000 19 27 [.agg (mC ver 0 0 0 []),.lst false 1 b.length (Ac .u8 b),.agg K.cells,Au now]=_:=p1;have p2:Aq C0 prog 20000 19 28 [.agg (mC ver 0 0 0 []),.lst false 1 b.length (Ac .u8 b),.agg K.cells,Au now]=_:=p2;generalize (Yk ⟨ver,0,0,[],GG⟩ b K now).1=y at *
 generalize (Yk ⟨ver,0,0,[],GG⟩ b K now).2=e at *
 simp only[Md.cells,Ky.cells] at p1 p2 sm;have q:∀x:Int,(x != x)=false:=fun x=>bne_self_eq_false _;have t0:List.getD [PV.sc (.int .i64 now),PV.sc (.int .i64 r)] (0+Int.toNat 0*1) PV.top=Au now:=rfl;rw[<-ih,Oq];clear ih;simp(disch:=omega)only[Bz,Bx,t0,Ud,Nat.zero_mul,Er,List.take_nil,p1,p2,sm,q,w1,Cp]
theorem A0d{x b:B8}(hx:I7 x)(hxl:x.length<=1000000)(hb:I7 b)(GQ:b.length<=1000000){K:Ky}{now ver:Int}:
  Dp 20000 (Aq C0 prog 20000 19) Mf a0 a1 PX a2 20000 now 2 2 0 ver 0 0 0 0 0 0 [] [] [] K.h K.root [.lst false 1 x.length (Ac .u8 x),.lst false 1 b.length (Ac .u8 b)]=some ⟨[.sc (.bool true)],[]⟩:=by
 have aw:=Ab7 (fu:=20000) (d:=5) (by omega);obtain⟨r,r0,r1,md⟩:=Alg now 130 (by omega) (by omega);have md:=md (fu:=20000) (d:=18);have g0:List.getD [PV.lst false 1 x.length (Ac .u8 x),PV.lst false 1 b.length (Ac .u8 b)] (0+Int.toNat 0*1) PV.top=.lst false 1 x.length (Ac .u8 x):=rfl;have g1:List.getD [PV.lst false 1 x.length (Ac .u8 x),PV.lst false 1 b.length (Ac .u8 b)] (0+Int.toNat ((1:Nat):Int)*1) PV.top=.lst false 1 b.length (Ac .u8 b):=rfl;rw[Ou 20000 _ _ _ _ _ _ 19999];simp(disch:=omega)only[Bz,Bx,g0,md];have e1:=A5v (Mf:=Mf) (PX:=PX) (a0:=a0) (a2:=a2) (a1:=a1) hx hxl (K:=K) (now:=now) (r:=r) (i:=0) (by omega) (ver:=ver) (m0:=19999) (c:=[.lst false 1 x.length (Ac .u8 x),.lst false 1 b.length (Ac .u8 b)]) 20000 (by omega);have z0:((0:Nat):Int)=0:=rfl;rw[z0] at e1;rw[e1];have n1:((0+1:Nat):Int)=((1:Nat):Int):=rfl
 rw[n1,Ic 20000 _ _ _ _ _ _ 19998];simp(disch:=omega)only[Bz,Bx,g1,md];have e2:=Akt (Mf:=Mf) (PX:=PX) (a0:=a0) (a2:=a2) (a1:=a1) hb GQ (K:=K) (now:=now) (r:=r) (i:=1) (by omega) (ver:=ver) (m0:=19998) (c:=[.lst false 1 x.length (Ac .u8 x),.lst false 1 b.length (Ac .u8 b)]) 2 0 20000 (by omega) (by omega);rw[z0] at e2;rw[e2,Ic 20000 _ _ _ _ _ _ 19997];simp(disch:=omega)only[Bz,Bx,aw]
end
set_option maxHeartbeats 4000000 in
theorem metadataAccepts_plain(qs:Ab)(h:Ca (WTv prog) [28,3,47] qs):∃fu d,Aq C0 prog fu d 7 qs=some ⟨[.sc (.bool true)],[]⟩:=by
 obtain⟨q0,_,rfl,h0,g⟩:=h.cons_inv;obtain⟨q1,_,rfl,h1,g⟩:=g.cons_inv;obtain⟨q2,_,rfl,h2,g⟩:=g.cons_inv;obtain rfl:=g.nil_inv;clear h g;obtain⟨l,rfl,hl,_⟩:=Ahb (k:=.i64) (e:=3) (by kernel_rfl) (by kernel_rfl) (by kernel_rfl) (by kernel_rfl) h0;obtain⟨now,rfl,_⟩:=Ax8 (k:=.i64) (by kernel_rfl) (by kernel_rfl) h1;obtain⟨b,rfl,GQ,hbw⟩:=Ahb (k:=.u8) (e:=5) (by kernel_rfl) (by kernel_rfl) (by kernel_rfl) (by kernel_rfl) h2;have hb:I7 b:=fun x hx=>A73 (hbw x hx);clear h0 h1 h2;refine⟨20000,20,?_⟩;refine (Q1 20000 19 l.length (Ac .i64 l) now b.length (Ac .u8 b)).trans ?_;have aw:=Ab7 (fu:=20000) (d:=5) (by omega);by_cases h6:(b.length:Int)>3000
 ·have hd:decide ((b.length:Int)>3000)=true:=by simp[h6]
  repeat(with_reducible(first|apply Ai|apply Ae|apply Aj|apply Ao|apply Bb|apply A6|apply At|apply Adr|apply Ad|apply Ah|apply Cs);· first|constructor|(simp(disch:=omega)only[Ct,hd,aw]<;>first|constructor|omega)|omega)
  try simp(disch:=omega)only[Aa,hd,aw]
  all_goals rfl
 have hd:decide ((b.length:Int)>3000)=false:=by simp[h6]
 have nq:=A1w (fu:=20000) (d:=18) (l:=l);obtain⟨vv,jj,vv0,vv1,nv⟩:=Hi hl 0 18 (by omega) (by omega);obtain⟨x,j,hx,xe⟩:=Auj (fu:=20000) (d:=5) (by omega) hl jj;obtain⟨v0,j0,v00,v01,n0⟩:=Hi hl j 4 (by omega) (by omega);have sg:=Aor (fu:=20000) (d:=6) (m:=x) (by omega) hx.ok.wf 5 4;obtain⟨s1,s2,s3,_⟩:=Asn hx.ok 5 4;generalize (R6 x 5 4).2=er at *
 generalize (R6 x 5 4).1=y at *
 have en:=Af0 (fu:=20000) (d:=13) (m:=y) (by omega) s1.wf (by omega);obtain⟨w,f,hw,hwB,hwl⟩:=Azw s1.wf;rw[hw] at en;have nv:=nv (fu:=20000) (d:=17);have n0:=n0 (fu:=20000) (d:=17);have Lw:=Ap .u8 w;have tw:=Mi .u8 w;have z0:((0:Nat):Int)=0:=rfl;have q1:∀l:Int,(l==l)=true:=fun l=>beq_self_eq_true l;by_cases h3:v0=3
 ·subst h3;obtain⟨v1,j1,v10,v11,n1⟩:=Hi hl j0 4096 (by omega) (by omega);obtain⟨v2,j2,v20,v21,n2⟩:=Hi hl j1 8 (by omega) (by omega);obtain⟨r,rB,rl,fl⟩:=Avs (fu:=20000) (d:=16) (by omega) hwB hwl v1;have n1:=n1 (fu:=20000) (d:=17);have n2:=n2 (fu:=20000) (d:=17);have Lr:=Ap .u8 r;have tr:=Mi .u8 r;have ky:=Akl (fu:=20000) (d:=6) (by omega) (wrap .u64 (wrap .i64 (5+wrap .i64 (Int.tdiv v2 7)))) 4;have fin:=A0d (Mf:=l.length) (PX:=b.length) (a0:=Ac .i64 l) (a2:=Ac .u8 b) (a1:=now) rB (by omega) hb (by omega) (K:=Wg (wrap .u64 (wrap .i64 (5+wrap .i64 (Int.tdiv v2 7)))) 4) (now:=now) (ver:=vv);generalize Wg (wrap .u64 (wrap .i64 (5+wrap .i64 (Int.tdiv v2 7)))) 4=K at *
  simp only[Md.cells,Ky.cells,dkc] at nq nv xe n0 n1 n2 sg en ky;rw[z0] at nq nv;rw[<-fin];clear fin
  repeat(with_reducible(first|apply Ai|apply Ae|apply Aj|apply Ao|apply Bb|apply A6|apply At|apply Adr|apply Ad|apply Ah|apply Cs);· first|constructor|(simp(disch:=omega)only[Ct,hd,nq,nv,xe,n0,n1,n2,sg,en,fl,ky,Lw,tw,Lr,tr,q1,Er,Ck,De]<;>first|constructor|omega)|omega)
  try simp(disch:=omega)only[Aa,hd,nq,nv,xe,n0,n1,n2,sg,en,fl,ky,Lw,tw,Lr,tr,q1,Er,Ck,De]
  all_goals rfl
 ·have h3':(v0==3)=false:=by simp[h3]
  obtain⟨v2,j2,v20,v21,n2⟩:=Hi hl j0 8 (by omega) (by omega);have n2:=n2 (fu:=20000) (d:=17);have ky:=Akl (fu:=20000) (d:=6) (by omega) (wrap .u64 (wrap .i64 (5+wrap .i64 (Int.tdiv v2 7)))) 4;have fin:=A0d (Mf:=l.length) (PX:=b.length) (a0:=Ac .i64 l) (a2:=Ac .u8 b) (a1:=now) hwB (by omega) hb (by omega) (K:=Wg (wrap .u64 (wrap .i64 (5+wrap .i64 (Int.tdiv v2 7)))) 4) (now:=now) (ver:=vv);generalize Wg (wrap .u64 (wrap .i64 (5+wrap .i64 (Int.tdiv v2 7)))) 4=K at *
  simp only[Md.cells,Ky.cells,dkc] at nq nv xe n0 n2 sg en ky;rw[z0] at nq nv;rw[<-fin];clear fin
  repeat(with_reducible(first|apply Ai|apply Ae|apply Aj|apply Ao|apply Bb|apply A6|apply At|apply Adr|apply Ad|apply Ah|apply Cs);· first|constructor|(simp(disch:=omega)only[Ct,hd,nq,nv,xe,n0,n2,sg,en,ky,Lw,tw,h3',Er,Ck,De]<;>first|constructor|omega)|omega)
  try simp(disch:=omega)only[Aa,hd,nq,nv,xe,n0,n2,sg,en,ky,Lw,tw,h3',Er,Ck,De]
  all_goals rfl
section
open Go Go.RowKit
def sL:Code->Code
 |.seq a _=>a
 |c=>c
def sR:Code->Code
 |.seq _ b=>b
 |c=>c
def sB:Code->Code
 |.block _ c=>c
 |.loop c=>c
 |c=>c
def sF:Code->Code
 |.rangeFunc _ _ _ b=>b
 |c=>c
def sA:Code->Code
 |.rangeFunc _ _ a _=>a
 |c=>c
def Id:Code->Array Oper
 |.region _ ops _=>ops
 |_=> #[]
abbrev JW:Code:=VR Tryz.f113
abbrev WL:Code:=VR Tryz.f36
def CS:Kr:={ CB with shr:=fun _=>true }
abbrev RF(N:Nat)(call:Bq)(c:Code)(L:Nat)(s:St):Option (Nat × St):=
 Ph CB prog 2000 N call c L (fun _=>L) 0 (fun s=>Kg N L s fun s'=>some (0,s')) (fun id s=>Kg N L s fun s'=>some (id+1,s')) (fun _=>none) s
section
variable {N:Nat}{w0:World}{X0:Gt}{Y:Nat->Prop}{β:Bt}{s s1:St}{a:Act}{w:World}
theorem D8{G:Ze}(Lg:RO prog G w0 X0)(hm:prog.follows .mixedOrders=true){call:Bq}(Dn:∀f args res,call f args=some res->Dr G prog f args res){c:Code}{L t:Nat}{Q:Exit->Act->World->Prop}(h:Cj N w0 X0 Y β s a w)(hk:RF N call c L s=some (t,s1))(hQ:∀a' w' β',Cj N w0 X0 Y β' s1 a' w'->match t with|0=>Q .normal a' w'|id+1=>Q (.exit id) a' w'):c.wp prog Q a w:=by
 refine JR Lg Dn hm c h hk (fun s' a' w' β' h1 h2=>?_) (fun id s' a' w' β' h1 h2=>?_) (fun s' a' w' β' h1 h2=>by cases h1)
 ·obtain⟨β1,s2,h3,h4⟩:=Cm h2 h1;cases h3;exact hQ _ _ _ h4
 ·obtain⟨β1,s2,h3,h4⟩:=Cm h2 h1;cases h3;exact hQ _ _ _ h4
theorem IX{G:Ze}(Lg:RO prog G w0 X0)(hm:prog.follows .mixedOrders=true){call:Bq}(Dn:∀f args res,call f args=some res->Dr G prog f args res){ro:Option Nat}{n:Nat}{c:Code}(ho:okR c=true){L t:Nat}{Q:Exit->Act->World->Prop}(JM:∀a w,¬Q .outgrown a w)(h:Cj N w0 X0 Y β s a w)(hk:RF N call c L s=some (t,s1))(hQ:∀a' w' β',Cj N w0 X0 Y β' s1 a' w'->match t with|0=>Q .normal a' w'|id+1=>Q (.exit id) a' w'):c.wpIn (WF ro) n prog Q a w:=by
 refine QO Lg Dn hm c ho JM h hk (fun s' a' w' β' h1 h2=>?_) (fun id s' a' w' β' h1 h2=>?_) (fun s' a' w' β' h1 h2=>by cases h1)
 ·obtain⟨β1,s2,h3,h4⟩:=Cm h2 h1;cases h3;exact hQ _ _ _ h4
 ·obtain⟨β1,s2,h3,h4⟩:=Cm h2 h1;cases h3;exact hQ _ _ _ h4
end
end
theorem A3s(call:Bq)(yv:Value)(h seed:Int):RF 63 call (sL JW) 23 ⟨lk [(0,.sc yv),(1,.iptr [Au h] 0),(2,.iptr [Af seed] 0)],B3 []⟩=(
 As (decide ((0:Int)<=h)) <|
 Aa (Hq IntKind.i64 (1:Int) h) fun x1=>
 As (decide ((0:Int)<=x1)&&decide (x1<=x1)&&decide (x1*(8:Int)<=(1099511627776:Int))&&decide (x1<=(1099511627776:Int))) <|
 some (0,⟨lk [(0,(.sc (yv))),(1,(.iptr ([PV.sc (Value.int IntKind.i64 h)]) ((0:Nat)))),(2,(.iptr ([PV.sc (Value.int IntKind.u64 seed)]) ((0:Nat)))),(4,(.view 4 1 0 (Int.toNat x1)))],B3 [(4,(.ar false (Zi (Int.toNat x1) [PV.sc (Value.int IntKind.u64 (0:Int))])))]⟩)):=by kernel_rfl
theorem A2j(call:Bq)(yv:Value)(h seed:Int)(n:Nat)(c:Ab):RF 63 call (sL (sL (sR JW))) 24599 ⟨lk [(0,.sc yv),(1,.iptr [Au h] 0),(2,.iptr [Af seed] 0),(4,.view 4 1 0 n)],B3 [(4,.ar false c)]⟩=(
 some (0,⟨lk [(0,(.sc (yv))),(1,(.iptr ([PV.sc (Value.int IntKind.i64 h)]) ((0:Nat)))),(2,(.iptr ([PV.sc (Value.int IntKind.u64 seed)]) ((0:Nat)))),(4,(.view 4 1 0 (n))),(13,(Au ((↑n:Int)))),(14,(Au ((0:Int))))],B3 [(4,(.ar false (c)))]⟩)):=by kernel_rfl
theorem Aue(call:Bq)(yv:Value)(h seed m i:Int)(n:Nat)(c:Ab):RF 63 call (sB (sB (sR (sL (sR JW))))) 24599 ⟨lk [(0,.sc yv),(1,.iptr [Au h] 0),(2,.iptr [Af seed] 0),(4,.view 4 1 0 n),(13,Au m),(14,Au i)],B3 [(4,.ar false c)]⟩=(
  Az (decide (i<m))
   (
   Bj (call (114:Nat) [PV.sc (Value.int IntKind.u64 seed),PV.sc (Value.int IntKind.i64 i)]) fun x1 x2=>
   Ar (x2) <|
   Av (x1) fun x3 x4=>
   Be (IntKind.u64) (x3) fun x5=>
   Ar (x4) <|
   As (decide ((0:Int)<=i)&&decide (i<(↑n:Int))) <|
   As (decide ((0:Nat)+Int.toNat i*(1:Nat)+(1:Nat)<=List.length c)) <|
   Aa (B0 c [PV.sc (Value.int IntKind.u64 x5)] ((0:Nat)+Int.toNat i*(1:Nat))) fun x6=>
   Aa (wrap IntKind.i64 (i+(1:Int))) fun x7=>
   some (0,⟨lk [(0,(.sc (yv))),(1,(.iptr ([PV.sc (Value.int IntKind.i64 h)]) ((0:Nat)))),(2,(.iptr ([PV.sc (Value.int IntKind.u64 seed)]) ((0:Nat)))),(4,(.view 4 1 0 (n))),(13,(Au (m))),(14,(Au (x7)))],B3 [(4,(.ar false (x6)))]⟩))
   (
   some (1,⟨lk [(0,(.sc (yv))),(1,(.iptr ([PV.sc (Value.int IntKind.i64 h)]) ((0:Nat)))),(2,(.iptr ([PV.sc (Value.int IntKind.u64 seed)]) ((0:Nat)))),(4,(.view 4 1 0 (n))),(13,(Au (m))),(14,(Au (i)))],B3 [(4,(.ar false (c)))]⟩))):=by kernel_rfl
theorem A3d(call:Bq)(yv:Value)(h seed m i:Int)(n:Nat)(c:Ab):RF 63 call (sL (sR (sR JW))) 87 ⟨lk [(0,.sc yv),(1,.iptr [Au h] 0),(2,.iptr [Af seed] 0),(4,.view 4 1 0 n),(13,Au m),(14,Au i)],B3 [(4,.ar false c)]⟩=(
 some (0,⟨lk [(0,(.sc (yv))),(1,(.iptr ([PV.sc (Value.int IntKind.i64 h)]) ((0:Nat)))),(2,(.iptr ([PV.sc (Value.int IntKind.u64 seed)]) ((0:Nat)))),(4,(.view 4 1 0 (n))),(6,(Au ((0:Int))))],B3 [(4,(.ar false (c)))]⟩)):=by kernel_rfl
theorem A4e(call:Bq)(yv:Value)(h seed k:Int)(n:Nat)(c:Ab):RF 63 call (sL (sB (sL (sR (sB (sB (sR (sR (sR JW))))))))) 215 ⟨lk [(0,.sc yv),(1,.iptr [Au h] 0),(2,.iptr [Af seed] 0),(4,.view 4 1 0 n),(6,Au k)],B3 [(4,.ar false c)]⟩=(
 Aa (wrap IntKind.i64 (Int.tdiv (↑n:Int) (2:Int))) fun x1=>
 As (decide ((0:Int)<=x1)&&decide (x1<=x1)&&decide (x1*(8:Int)<=(1099511627776:Int))&&decide (x1<=(1099511627776:Int))) <|
 some (0,⟨lk [(0,(.sc (yv))),(1,(.iptr ([PV.sc (Value.int IntKind.i64 h)]) ((0:Nat)))),(2,(.iptr ([PV.sc (Value.int IntKind.u64 seed)]) ((0:Nat)))),(4,(.view 4 1 0 (n))),(6,(Au (k))),(7,(.view 7 1 0 (Int.toNat x1)))],B3 [(4,(.ar false (c))),(7,(.ar false (Zi (Int.toNat x1) [PV.sc (Value.int IntKind.u64 (0:Int))])))]⟩)):=by kernel_rfl
theorem A3q(call:Bq)(yv:Value)(h seed k:Int)(n m:Nat)(c e:Ab):RF 63 call (sL (sL (sR (sB (sL (sR (sB (sB (sR (sR (sR JW))))))))))) 3298534883543 ⟨lk [(0,.sc yv),(1,.iptr [Au h] 0),(2,.iptr [Af seed] 0),(4,.view 4 1 0 n),(6,Au k),(7,.view 7 1 0 m)],B3 [(4,.ar false c),(7,.ar false e)]⟩=(
 some (0,⟨lk [(0,(.sc (yv))),(1,(.iptr ([PV.sc (Value.int IntKind.i64 h)]) ((0:Nat)))),(2,(.iptr ([PV.sc (Value.int IntKind.u64 seed)]) ((0:Nat)))),(4,(.view 4 1 0 (n))),(6,(Au (k))),(7,(.view 7 1 0 (m))),(40,(Au ((↑m:Int)))),(41,(Au ((0:Int))))],B3 [(4,(.ar false (c))),(7,(.ar false (e)))]⟩)):=by kernel_rfl
theorem Auk(call:Bq)(yv:Value)(h seed k p i:Int)(n m:Nat)(c e:Ab):RF 63 call (sB (sB (sR (sL (sR (sB (sL (sR (sB (sB (sR (sR (sR JW))))))))))))) 3298534883543 ⟨lk [(0,.sc yv),(1,.iptr [Au h] 0),(2,.iptr [Af seed] 0),(4,.view 4 1 0 n),(6,Au k),(7,.view 7 1 0 m),(40,Au p),(41,Au i)],B3 [(4,.ar false c),(7,.ar false e)]⟩=(
  Az (decide (i<p))
   (
   Aa (wrap IntKind.i64 (k+(1:Int))) fun x1=>
   Aa (wrap IntKind.i64 ((2:Int)*i)) fun x2=>
   As (decide ((0:Int)<=x2)&&decide (x2<(↑n:Int))) <|
   Be (IntKind.u64) (List.getD c ((0:Nat)+Int.toNat x2*(1:Nat)) PV.top) fun x3=>
   Aa (wrap IntKind.i64 ((2:Int)*i)) fun x4=>
   Aa (wrap IntKind.i64 (x4+(1:Int))) fun x5=>
   As (decide ((0:Int)<=x5)&&decide (x5<(↑n:Int))) <|
   Be (IntKind.u64) (List.getD c ((0:Nat)+Int.toNat x5*(1:Nat)) PV.top) fun x6=>
   Bj (call (76:Nat) [PV.sc (Value.int IntKind.i64 x1),PV.sc (Value.int IntKind.u64 x3),PV.sc (Value.int IntKind.u64 x6)]) fun x7 x8=>
   Ar (x8) <|
   Av (x7) fun x9 x10=>
   Be (IntKind.u64) (x9) fun x11=>
   Ar (x10) <|
   As (decide ((0:Int)<=i)&&decide (i<(↑m:Int))) <|
   As (decide ((0:Nat)+Int.toNat i*(1:Nat)+(1:Nat)<=List.length e)) <|
   Aa (B0 e [PV.sc (Value.int IntKind.u64 x11)] ((0:Nat)+Int.toNat i*(1:Nat))) fun x12=>
   Aa (wrap IntKind.i64 (i+(1:Int))) fun x13=>
   some (0,⟨lk [(0,(.sc (yv))),(1,(.iptr ([PV.sc (Value.int IntKind.i64 h)]) ((0:Nat)))),(2,(.iptr ([PV.sc (Value.int IntKind.u64 seed)]) ((0:Nat)))),(4,(.view 4 1 0 (n))),(6,(Au (k))),(7,(.view 7 1 0 (m))),(40,(Au (p))),(41,(Au (x13)))],B3 [(4,(.ar false (c))),(7,(.ar false (x12)))]⟩))
   (
   some (5,⟨lk [(0,(.sc (yv))),(1,(.iptr ([PV.sc (Value.int IntKind.i64 h)]) ((0:Nat)))),(2,(.iptr ([PV.sc (Value.int IntKind.u64 seed)]) ((0:Nat)))),(4,(.view 4 1 0 (n))),(6,(Au (k))),(7,(.view 7 1 0 (m))),(40,(Au (p))),(41,(Au (i)))],B3 [(4,(.ar false (c))),(7,(.ar false (e)))]⟩))):=by kernel_rfl
theorem A2u(call:Bq)(yv:Value)(h seed k p i:Int)(n m:Nat)(c e:Ab):RF 63 call (sR (sR (sB (sL (sR (sB (sB (sR (sR (sR JW)))))))))) 87 ⟨lk [(0,.sc yv),(1,.iptr [Au h] 0),(2,.iptr [Af seed] 0),(4,.view 4 1 0 n),(6,Au k),(7,.view 7 1 0 m),(40,Au p),(41,Au i)],B3 [(4,.ar false c),(7,.ar false e)]⟩=(
 some (0,⟨lk [(0,(.sc (yv))),(1,(.iptr ([PV.sc (Value.int IntKind.i64 h)]) ((0:Nat)))),(2,(.iptr ([PV.sc (Value.int IntKind.u64 seed)]) ((0:Nat)))),(4,(.view 4 1 0 (m))),(6,(Au (k)))],B3 [(4,(.ar false (e)))]⟩)):=by kernel_rfl
theorem A33(call:Bq)(yv:Value)(h seed k:Int)(n:Nat)(c:Ab):RF 63 call (sR (sR (sB (sB (sR (sR (sR JW))))))) 87 ⟨lk [(0,.sc yv),(1,.iptr [Au h] 0),(2,.iptr [Af seed] 0),(4,.view 4 1 0 n),(6,Au k)],B3 [(4,.ar false c)]⟩=(
 Aa (wrap IntKind.i64 (k+(1:Int))) fun x1=>
 some (0,⟨lk [(0,(.sc (yv))),(1,(.iptr ([PV.sc (Value.int IntKind.i64 h)]) ((0:Nat)))),(2,(.iptr ([PV.sc (Value.int IntKind.u64 seed)]) ((0:Nat)))),(4,(.view 4 1 0 (n))),(6,(Au (x1)))],B3 [(4,(.ar false (c)))]⟩)):=by kernel_rfl
theorem A2c(call:Bq)(yv:Value)(h seed k:Int)(n:Nat)(c:Ab):M4 CB prog 63 call (Id (sL (sL (sB (sB (sR (sR (sR JW)))))))) (List.take 3 (Id (sL (sL (sB (sB (sR (sR (sR JW)))))))).toList) ⟨lk [(0,.sc yv),(1,.iptr [Au h] 0),(2,.iptr [Af seed] 0),(4,.view 4 1 0 n),(6,Au k)],B3 [(4,.ar false c)]⟩ (fun s=>Kg 63 117440599 s fun s'=>some (0,s'))=(
 some (0,⟨lk [(0,(.sc (yv))),(1,(.iptr ([PV.sc (Value.int IntKind.i64 h)]) ((0:Nat)))),(2,(.iptr ([PV.sc (Value.int IntKind.u64 seed)]) ((0:Nat)))),(4,(.view 4 1 0 (n))),(6,(Au (k))),(24,(.sc (yv))),(25,(Au (k))),(26,(.view 4 1 0 (n)))],B3 [(4,(.ar false (c)))]⟩)):=by kernel_rfl
theorem Azs(call:Bq)(yv:Value)(h seed k:Int)(n:Nat)(c:Ab):M4 CB prog 63 call (Id (sL (sL (sB (sB (sR (sR (sR JW)))))))) (List.drop 4 (Id (sL (sL (sB (sB (sR (sR (sR JW)))))))).toList) ⟨lk [(0,.sc yv),(1,.iptr [Au h] 0),(2,.iptr [Af seed] 0),(4,.view 4 1 0 n),(6,Au k),(27,.sc (.bool true))],B3 [(4,.ar false c)]⟩ (fun s=>Kg 63 4294967383 s fun s'=>some (0,s'))=(
 some (0,⟨lk [(0,(.sc (yv))),(1,(.iptr ([PV.sc (Value.int IntKind.i64 h)]) ((0:Nat)))),(2,(.iptr ([PV.sc (Value.int IntKind.u64 seed)]) ((0:Nat)))),(4,(.view 4 1 0 (n))),(6,(Au (k))),(32,(.sc (.bool (decide (k<h)))))],B3 [(4,(.ar false (c)))]⟩)):=by kernel_rfl
theorem Axm(call:Bq)(yv:Value)(h seed k:Int)(n:Nat)(c:Ab):M4 CB prog 63 call (Id (sL (sL (sB (sB (sR (sR (sR JW)))))))) (List.drop 4 (Id (sL (sL (sB (sB (sR (sR (sR JW)))))))).toList) ⟨lk [(0,.sc yv),(1,.iptr [Au h] 0),(2,.iptr [Af seed] 0),(4,.view 4 1 0 n),(6,Au k),(27,.sc (.bool false))],B3 [(4,.ar false c)]⟩ (fun s=>Kg 63 4294967383 s fun s'=>some (0,s'))=(
 some (0,⟨lk [(0,(.sc (yv))),(1,(.iptr ([PV.sc (Value.int IntKind.i64 h)]) ((0:Nat)))),(2,(.iptr ([PV.sc (Value.int IntKind.u64 seed)]) ((0:Nat)))),(4,(.view 4 1 0 (n))),(6,(Au (k))),(32,(.sc (.bool (false))))],B3 [(4,(.ar false (c)))]⟩)):=by kernel_rfl
theorem Atm(call:Bq)(yv:Value)(h seed k:Int)(n:Nat)(c:Ab)(q:Bool):RF 63 call (sR (sL (sB (sB (sR (sR (sR JW))))))) 87 ⟨lk [(0,.sc yv),(1,.iptr [Au h] 0),(2,.iptr [Af seed] 0),(4,.view 4 1 0 n),(6,Au k),(32,.sc (.bool q))],B3 [(4,.ar false c)]⟩=(
  Az (q)
   (
   some (0,⟨lk [(0,(.sc (yv))),(1,(.iptr ([PV.sc (Value.int IntKind.i64 h)]) ((0:Nat)))),(2,(.iptr ([PV.sc (Value.int IntKind.u64 seed)]) ((0:Nat)))),(4,(.view 4 1 0 (n))),(6,(Au (k)))],B3 [(4,(.ar false (c)))]⟩))
   (
   some (3,⟨lk [(0,(.sc (yv))),(1,(.iptr ([PV.sc (Value.int IntKind.i64 h)]) ((0:Nat)))),(2,(.iptr ([PV.sc (Value.int IntKind.u64 seed)]) ((0:Nat)))),(4,(.view 4 1 0 (n))),(6,(Au (k)))],B3 [(4,(.ar false (c)))]⟩))):=by kernel_rfl
theorem A4q(call:Bq)(seed h leaf m:Int):RF 48 call (sL WL) 873 ⟨lk [(0,Af seed),(1,Au h),(2,Au leaf),(3,Af m)],B3 []⟩=(
 some (0,⟨lk [(0,(Af (seed))),(3,(Af (m))),(5,(.ptr 5 0)),(6,(.ptr 6 0)),(8,(.ptr 8 0)),(9,(Au ((0:Int))))],B3 [(5,(.st [(Au (h))])),(6,(.st [(Au (leaf))])),(8,(.st [(Au ((0:Int))),(.view 104 1 0 ((0:Nat))),(.view 152 1 0 ((0:Nat)))])),(104,(.ar false ([]))),(152,(.ar false ([])))]⟩)):=by kernel_rfl
theorem A19(call:Bq)(seed h leaf m:Int):RF 48 call (sL (sR WL)) 873 ⟨lk [(0,Af seed),(3,Af m),(5,.ptr 5 0),(6,.ptr 6 0),(8,.ptr 8 0),(9,Au 0)],B3 [(5,.st [Au h]),(6,.st [Au leaf]),(8,.st [Au 0,.view 104 1 0 0,.view 152 1 0 0]),(104,.ar false []),(152,.ar false [])]⟩=(
  Bj (call (67:Nat) [PV.sc (Value.int IntKind.i64 h)]) fun x1 x2=>
  Ar (x2) <|
  Av (x1) fun x3 x4=>
  Cg (x3) fun x5=>
  Ar (x4) <|
  Az (x5)
   (
   none)
   (
   Bj (call (68:Nat) [PV.sc (Value.int IntKind.i64 leaf),PV.sc (Value.int IntKind.i64 h)]) fun x6 x7=>
   Ar (x7) <|
   Av (x6) fun x8 x9=>
   Cg (x8) fun x10=>
   Ar (x9) <|
   Az (x10)
    (
    none)
    (
    some (0,⟨lk [(0,(Af (seed))),(3,(Af (m))),(5,(.ptr 5 0)),(6,(.ptr 6 0)),(8,(.ptr 8 0)),(9,(Au ((0:Int))))],B3 [(5,(.st [(Au (h))])),(6,(.st [(Au (leaf))])),(8,(.st [(Au ((0:Int))),(.view 104 1 0 ((0:Nat))),(.view 152 1 0 ((0:Nat)))])),(104,(.ar false ([]))),(152,(.ar false ([])))]⟩)))):=by kernel_rfl
theorem A2o(call:Bq)(seed h leaf m:Int):RF 48 call (sL (sR (sR WL))) 1897 ⟨lk [(0,Af seed),(3,Af m),(5,.ptr 5 0),(6,.ptr 6 0),(8,.ptr 8 0),(9,Au 0)],B3 [(5,.st [Au h]),(6,.st [Au leaf]),(8,.st [Au 0,.view 104 1 0 0,.view 152 1 0 0]),(104,.ar false []),(152,.ar false [])]⟩=(
 Bj (call (69:Nat) [PV.sc (Value.int IntKind.u64 seed),PV.sc (Value.int IntKind.i64 leaf),PV.sc (Value.int IntKind.u64 m)]) fun x1 x2=>
 Ar (x2) <|
 Av (x1) fun x3 x4=>
 J0 ((1:Nat)) (x3) fun x5 x6=>
 Ar (x4) <|
 some (0,⟨lk [(0,(Af (seed))),(3,(Af (m))),(5,(.ptr 5 0)),(6,(.ptr 6 0)),(8,(.ptr 8 0)),(9,(Au ((0:Int)))),(10,(.ptr 10 0))],B3 [(5,(.st [(Au (h))])),(6,(.st [(Au (leaf))])),(8,(.st [(Au ((0:Int))),(.view 104 1 0 ((0:Nat))),(.view 152 1 0 ((0:Nat)))])),(104,(.ar false ([]))),(152,(.ar false ([]))),(10,(.st [(Au (leaf)),(.view 106 1 0 (x5)),(.view 154 1 0 ((0:Nat)))])),(106,(.ar false (x6))),(154,(.ar false ([])))]⟩)):=by kernel_rfl
theorem Aun(call:Bq)(h leaf k:Int)(ch:Value)(n m:Nat)(c d:Ab):RF 48 call (sF (sB (sR (sL (sR (sR (sR WL))))))) 1024 ⟨lk [(5,.iptr [Au h] 0),(6,.iptr [Au leaf] 0),(10,.ptr 96000 0),(11,Au k),(12,.lst false 1 n c)],B3 [(96000,.st [Au leaf,.sc ch,.view 20 1 0 m]),(20,.ar false d)]⟩=(
  Az (k==h)
   (
   some (1,⟨lk [(10,(.ptr 96000 0))],B3 [(96000,(.st [(Au (leaf)),(.sc (ch)),(.view 96144 1 0 (m))])),(96144,(.ar false (d)))]⟩))
   (
   As (decide ((0:Int)<=k)) <|
   Aa (Fp IntKind.i64 leaf k) fun x1=>
   Aa (Fj IntKind.i64 x1 (1:Int)) fun x2=>
   As (decide ((0:Int)<=x2)&&decide (x2<(↑n:Int))) <|
   Be (IntKind.u64) (List.getD c (Int.toNat x2*(1:Nat)) PV.top) fun x3=>
   As (decide (m*(1:Nat)<=List.length d)&&true&&decide ((m+(1:Nat))*(8:Nat)<=(1099511627776:Nat))&&decide (m+(1:Nat)<=(1099511627776:Nat))) <|
   Aa (m+(1:Nat)) fun x4=>
   Aa (List.take (m*(1:Nat)) d++[PV.sc (Value.int IntKind.u64 x3)]) fun x5=>
   some (0,⟨lk [(10,(.ptr 96000 0))],B3 [(96000,(.st [(Au (leaf)),(.sc (ch)),(.view 96144 1 0 (x4))])),(96144,(.ar false (x5)))]⟩))):=by kernel_rfl
theorem A14(call:Bq)(seed h leaf m:Int)(n:Nat)(c:Ab):M4 CB prog 48 call (Id (sL (sL (sR (sR (sR WL)))))) (List.take 2 (Id (sL (sL (sR (sR (sR WL)))))).toList) ⟨lk [(0,Af seed),(3,Af m),(5,.ptr 5 0),(6,.ptr 6 0),(8,.ptr 8 0),(9,Au 0),(10,.ptr 10 0)],B3 [(5,.st [Au h]),(6,.st [Au leaf]),(8,.st [Au 0,.view 104 1 0 0,.view 152 1 0 0]),(104,.ar false []),(152,.ar false []),(10,.st [Au leaf,.view 106 1 0 n,.view 154 1 0 0]),(106,.ar false c),(154,.ar false [])]⟩ (fun s=>Kg 48 402655081 s fun s'=>some (0,s'))=(
 some (0,⟨lk [(0,(Af (seed))),(3,(Af (m))),(5,(.ptr 5 0)),(6,(.ptr 6 0)),(8,(.ptr 8 0)),(9,(Au ((0:Int)))),(10,(.ptr 10 0)),(27,(Af (seed))),(28,(Au (h)))],B3 [(5,(.st [(Au (h))])),(6,(.st [(Au (leaf))])),(8,(.st [(Au ((0:Int))),(.view 104 1 0 ((0:Nat))),(.view 152 1 0 ((0:Nat)))])),(104,(.ar false ([]))),(152,(.ar false ([]))),(10,(.st [(Au (leaf)),(.view 106 1 0 (n)),(.view 154 1 0 ((0:Nat)))])),(106,(.ar false (c))),(154,(.ar false ([])))]⟩)):=by kernel_rfl
theorem A36(call:Bq)(leaf:Int)(n1 n2:Nat)(c1 c2:Ab):M4 CB prog 48 call (Id (sL (sR (sR (sR (sR WL)))))) (Id (sL (sR (sR (sR (sR WL)))))).toList ⟨lk [(8,.ptr 96000 0),(9,Au 0),(10,.iptr [Au leaf,.lst false 1 n1 c1,.lst false 1 n2 c2] 0)],B3 [(96000,.st [.top,.top,.top])]⟩ (fun s=>Kg 48 768 s fun s'=>some (0,s'))=(
 some (0,⟨lk [(8,(.ptr 96000 0)),(9,(Au ((0:Int))))],B3 [(96000,(.st [(Au (leaf)),(.lst false 1 (n1) (c1)),(.lst false 1 (n2) (c2))]))]⟩)):=by kernel_rfl
theorem A1x(a0 a1 a2 a3 leaf:Int)(n1 n2:Nat)(c1 c2:Ab):Ahi CS prog 36 Tryz.f36 [Af a0,Au a1,Au a2,Af a3] ⟨lk [(8,.ptr 96000 0),(9,Au 0)],B3 [(96000,.st [Au leaf,.lst false 1 n1 c1,.lst false 1 n2 c2])]⟩=(
 some (Dt.mk [PV.agg [PV.sc (Value.int IntKind.i64 leaf),PV.lst false (1:Nat) n1 c1,PV.lst false (1:Nat) n2 c2],PV.sc (Value.int IntKind.i64 (0:Int))] [])):=by kernel_rfl
theorem A2s(call:Bq)(seed h leaf m:Int):Axb CS prog 2000 call 36 Tryz.f36 WL [Af seed,Au h,Au leaf,Af m]=(
  Bj (call (67:Nat) [PV.sc (Value.int IntKind.i64 h)]) fun x1 x2=>
  Ar (x2) <|
  Av (x1) fun x3 x4=>
  Cg (x3) fun x5=>
  Ar (x4) <|
  Az (x5)
   (
   some (Dt.mk [PV.agg [PV.sc (Value.int IntKind.i64 (0:Int)),PV.lst false (1:Nat) (0:Nat) [],PV.lst false (1:Nat) (0:Nat) []],PV.sc (Value.int IntKind.i64 (9:Int))] []))
   (
   Bj (call (68:Nat) [PV.sc (Value.int IntKind.i64 leaf),PV.sc (Value.int IntKind.i64 h)]) fun x6 x7=>
   Ar (x7) <|
   Av (x6) fun x8 x9=>
   Cg (x8) fun x10=>
   Ar (x9) <|
   Az (x10)
    (
    some (Dt.mk [PV.agg [PV.sc (Value.int IntKind.i64 (0:Int)),PV.lst false (1:Nat) (0:Nat) [],PV.lst false (1:Nat) (0:Nat) []],PV.sc (Value.int IntKind.i64 (9:Int))] []))
    (
    Bj (call (69:Nat) [PV.sc (Value.int IntKind.u64 seed),PV.sc (Value.int IntKind.i64 leaf),PV.sc (Value.int IntKind.u64 m)]) fun x11 x12=>
    Ar (x12) <|
    Av (x11) fun x13 x14=>
    Ow ((1:Nat)) (x13) fun x15 x16 x17=>
    Ar (x14) <|
    Bj (call (70:Nat) [PV.sc (Value.int IntKind.u64 seed),PV.sc (Value.int IntKind.i64 h)]) fun x18 x19=>
    Ar (x19) <|
    Av (x18) fun x20 x21=>
    fnK (x20) fun x22=>
    Ar (x21) <|
    none))):=by kernel_rfl
section
open Go Go.RowKit
def G1:Ze:=⟨fun _=>False,fun _=>True,fun _ _ _ _=>trivial⟩
def noX:FuncId->Option (Ab->Option Dt):=fun _=>none
theorem A3u:Am8 G1 prog (CX noX):=by intro f g args res h _;have h':(bif MH.any (Nat.beq f) then none else (none:Option (Ab->Option Dt)))=some g:=h;cases hb:MH.any (Nat.beq f)<;>rw[hb] at h'<;>cases h'
abbrev cl:Bq:=Aq (CX noX) prog 2000 8
theorem ngT:NoNG prog:=by
 have h:(prog.funcs.toList.all fun fn=> !(fn.name == "runtime.NumGoroutine"))=true:=by kernel_rfl
 intro f fn hf;have:=List.all_eq_true.1 h fn (Array.mem_toList_iff.2 (Array.mem_of_getElem? hf))
 simpa using this
theorem IF:prog.follows .mixedOrders=true:=by kernel_rfl
theorem Ci:∀f args res,cl f args=some res->Dr G1 prog f args res:=fun f args res h=>EI ngT IF A3u 8 f args res h
theorem Kk(w0:World)(X0:Gt):RO prog G1 w0 X0:=⟨ngT,fun _ _=>trivial,fun _ h=>h.elim⟩
def gl(f:Nat->Int)(n i:Nat):B8:=(List.range i).map f++List.replicate (n-i) 0
theorem Avw(f:Nat->Int){n i:Nat}(h:i<=n):(gl f n i).length=n:=by simp[gl];omega
theorem Asb(f:Nat->Int){n i:Nat}(h:i<n):(gl f n i).set i (f i)=gl f n (i+1):=by unfold gl;rw[List.set_append_right _ _ (by simp),List.length_map,List.length_range,Nat.sub_self,show n-i=(n-(i+1))+1 by omega,List.replicate_succ,List.set_cons_zero,List.range_succ,List.map_append,FX];rfl
theorem Alt(f:Nat->Int)(n:Nat):gl f n n=(List.range n).map f:=by simp[gl]
theorem Alq(f:Nat->Int)(n:Nat):gl f n 0=List.replicate n 0:=by simp[gl]
abbrev Apu(yv:Value)(h seed:Int)(n:Nat)(m i:Int)(c:Ab):St:=
 ⟨lk [(0,.sc yv),(1,.iptr [Au h] 0),(2,.iptr [Af seed] 0),(4,.view 4 1 0 n),(13,Au m),(14,Au i)],B3 [(4,.ar false c)]⟩
abbrev Aqi(yv:Value)(h seed k:Int)(n m:Nat)(p i:Int)(c e:Ab):St:=
 ⟨lk [(0,.sc yv),(1,.iptr [Au h] 0),(2,.iptr [Af seed] 0),(4,.view 4 1 0 n),(6,Au k),(7,.view 7 1 0 m),(40,Au p),(41,Au i)],B3 [(4,.ar false c),(7,.ar false e)]⟩
theorem A8r(yv:Value)(h seed:Int){n i:Nat}(hn:n<=1000)(hi:i<n):
  RF 63 cl (sB (sB (sR (sL (sR JW))))) 24599 (Apu yv h seed n n i (Ac .u64 (gl (fun (j:Nat)=>Lm seed (j:Int)) n i)))=some (0,Apu yv h seed n n ((i+1:Nat):Int) (Ac .u64 (gl (fun (j:Nat)=>Lm seed (j:Int)) n (i+1)))):=by
 have pb:cl 114 [Af seed,Au i]=_:=Ap1 (xs:=noX) (fu:=2000) (d:=1) (by omega) seed i;have w:wrap .i64 ((i:Int)+1)=((i+1:Nat):Int):=by rw[Ag (by omega) (by omega)];omega
 have L:(Ac .u64 (gl (fun (j:Nat)=>Lm seed (j:Int)) n i)).length=n:=by rw[Ap,Avw _ (by omega)]
 have GB:B0 (Ac .u64 (gl (fun (j:Nat)=>Lm seed (j:Int)) n i)) [Af (Lm seed i)] i=Ac .u64 (gl (fun (j:Nat)=>Lm seed (j:Int)) n (i+1)):=by
  rw[Hs (by omega),Oz];exact congrArg _ (Asb (fun (j:Nat)=>Lm seed (j:Int)) hi)
 refine (Aue cl yv h seed n i n (Ac .u64 (gl (fun (j:Nat)=>Lm seed (j:Int)) n i))).trans ?_;simp(disch:=omega)only[Bz,Bx,H6,De,Ck,pb,L,GB,w]
theorem A7k(yv:Value)(h seed:Int)(n:Nat)(c:Ab):
  RF 63 cl (sB (sB (sR (sL (sR JW))))) 24599 (Apu yv h seed n n n c)=some (1,Apu yv h seed n n n c):=
 (Aue cl yv h seed n n n c).trans (D6 _ _ _ (by omega))
theorem Ah2{yv:Value}{h seed:Int}{n:Nat}(hn:n<=1000):∀(r i nn:Nat),i+r=n->r<nn->∀{w0:World}{X0:Gt}{Y:Nat->Prop}{β:Bt}{a:Act}{w:World}{Q:Exit->Act->World->Prop},
  Cj 63 w0 X0 Y β (Apu yv h seed n n i (Ac .u64 (gl (fun (j:Nat)=>Lm seed (j:Int)) n i))) a w ->
  (∀a' w' β',Cj 63 w0 X0 Y β' (Apu yv h seed n n n (Ac .u64 (gl (fun (j:Nat)=>Lm seed (j:Int)) n n))) a' w'->Q (.exit 0) a' w')->Code.rounds prog (sB (sB (sR (sL (sR JW))))) Q nn a w
 |_,_,0,_,h=>by omega
 |0,i,nn+1,hi,_=>by
  intro hs hQ;obtain rfl:i=n:=by omega
  rw[rounds_succ];exact D8 (Kk _ _) IF Ci hs (A7k yv h seed i _) fun a' w' β' h'=>hQ a' w' β' h'
 |r+1,i,nn+1,hi,hr=>by
  intro hs hQ;rw[rounds_succ];exact D8 (Kk _ _) IF Ci hs (A8r yv h seed hn (by omega)) fun a' w' β' h'=>Ah2 hn r (i+1) nn (by omega) (by omega) h' hQ
def Gq(seed:Int)(n k:Nat):B8:=(List.range n).map fun (j:Nat)=>Cw seed k (j:Int)
theorem XO(seed:Int)(n k:Nat):(Gq seed n k).length=n:=by simp[Gq]
theorem Zs(seed:Int){n k j:Nat}(h:j<n):(Gq seed n k)[j]?=some (Cw seed k j):=by simp[Gq,h]
theorem A61(yv:Value)(h seed:Int){k m i:Nat}(hm:m<=1000)(hk:k<=1000)(hi:i<m):
  RF 63 cl (sB (sB (sR (sL (sR (sB (sL (sR (sB (sB (sR (sR (sR JW))))))))))))) 3298534883543 (Aqi yv h seed k (2*m) m m i (Ac .u64 (Gq seed (2*m) k)) (Ac .u64 (gl (fun (j:Nat)=>Cw seed (k+1) (j:Int)) m i))) =
   some (0,Aqi yv h seed k (2*m) m m ((i+1:Nat):Int) (Ac .u64 (Gq seed (2*m) k)) (Ac .u64 (gl (fun (j:Nat)=>Cw seed (k+1) (j:Int)) m (i+1)))):=by
 have e1:wrap .i64 ((2:Int)*i)=((2*i:Nat):Int):=by rw[Ag (by omega) (by omega)];omega
 have e2:wrap .i64 (((2*i:Nat):Int)+1)=((2*i+1:Nat):Int):=by rw[Ag (by omega) (by omega)];omega
 have e3:wrap .i64 ((k:Int)+1)=((k+1:Nat):Int):=by rw[Ag (by omega) (by omega)];omega
 have w:wrap .i64 ((i:Int)+1)=((i+1:Nat):Int):=by rw[Ag (by omega) (by omega)];omega
 have a1:(Ac .u64 (Gq seed (2*m) k)).getD (2*i) .top=Af (Cw seed k ((2*i:Nat):Int)):=Ss (Zs seed (by omega));have a2:(Ac .u64 (Gq seed (2*m) k)).getD (2*i+1) .top=Af (Cw seed k ((2*i+1:Nat):Int)):=Ss (Zs seed (by omega))
 have pn:cl 76 [Au ((k+1:Nat):Int),Af (Cw seed k ((2*i:Nat):Int)),Af (Cw seed k ((2*i+1:Nat):Int))]=some ⟨[Af (Cw seed (k+1) (i:Int))],[]⟩:=by
  have:=NT (xs:=noX) (fu:=2000) (d:=2) (by omega) ((k+1:Nat):Int) (Cw seed k ((2*i:Nat):Int)) (Cw seed k ((2*i+1:Nat):Int))
  rw[show Cw seed (k+1) (i:Int)=Rf ((k+1:Nat):Int) (Cw seed k ((2*i:Nat):Int)) (Cw seed k ((2*i+1:Nat):Int)) by
   rw[Cw];congr 2<;>omega]
  exact this
 have L:(Ac .u64 (gl (fun (j:Nat)=>Cw seed (k+1) (j:Int)) m i)).length=m:=by rw[Ap,Avw _ (by omega)]
 have GB:B0 (Ac .u64 (gl (fun (j:Nat)=>Cw seed (k+1) (j:Int)) m i)) [Af (Cw seed (k+1) (i:Int))] i=Ac .u64 (gl (fun (j:Nat)=>Cw seed (k+1) (j:Int)) m (i+1)):=by
  rw[Hs (by omega),Oz];exact congrArg _ (Asb (fun (j:Nat)=>Cw seed (k+1) (j:Int)) hi)
 refine (Auk cl yv h seed k m i (2*m) m _ _).trans ?_;simp(disch:=omega)only[Bz,Bx,H6,De,Ck,e1,e2,e3,a1,a2,pn,L,GB,w]
theorem A8p(yv:Value)(h seed k:Int)(n m:Nat)(c e:Ab):
  RF 63 cl (sB (sB (sR (sL (sR (sB (sL (sR (sB (sB (sR (sR (sR JW))))))))))))) 3298534883543 (Aqi yv h seed k n m m m c e)=some (5,Aqi yv h seed k n m m m c e):=
 (Auk cl yv h seed k m m n m c e).trans (D6 _ _ _ (by omega))
theorem Ah6{yv:Value}{h seed:Int}{k m:Nat}(hm:m<=1000)(hk:k<=1000):∀(r i nn:Nat),i+r=m->r<nn->∀{w0:World}{X0:Gt}{Y:Nat->Prop}{β:Bt}{a:Act}{w:World}{Q:Exit->Act->World->Prop},
  Cj 63 w0 X0 Y β (Aqi yv h seed k (2*m) m m i (Ac .u64 (Gq seed (2*m) k)) (Ac .u64 (gl (fun (j:Nat)=>Cw seed (k+1) (j:Int)) m i))) a w ->
  (∀a' w' β',Cj 63 w0 X0 Y β' (Aqi yv h seed k (2*m) m m m (Ac .u64 (Gq seed (2*m) k)) (Ac .u64 (gl (fun (j:Nat)=>Cw seed (k+1) (j:Int)) m m))) a' w'->Q (.exit 4) a' w') ->
  Code.rounds prog (sB (sB (sR (sL (sR (sB (sL (sR (sB (sB (sR (sR (sR JW))))))))))))) Q nn a w
 |_,_,0,_,h=>by omega
 |0,i,nn+1,hi,_=>by
  intro hs hQ;obtain rfl:i=m:=by omega
  rw[rounds_succ];exact D8 (Kk _ _) IF Ci hs (A8p yv h seed k (2*i) i _ _) fun a' w' β' h'=>hQ a' w' β' h'
 |r+1,i,nn+1,hi,hr=>by
  intro hs hQ;rw[rounds_succ];exact D8 (Kk _ _) IF Ci hs (A61 yv h seed hm hk (by omega)) fun a' w' β' h'=>Ah6 hm hk r (i+1) nn (by omega) (by omega) h' hQ
end
section
open Go Go.RowKit
abbrev YI:Code:=sB (sB (sR (sR (sR JW))))
abbrev lvX:Code:=sB (sL (sR YI))
theorem A17:YI=.seq (.seq (.region 7 (Id (sL (sL YI))) false) (sR (sL YI))) (.seq (.block 3 lvX) (sR (sR YI))):=by kernel_rfl
theorem A4u:lvX=.seq (sL lvX) (.seq (.seq (sL (sL (sR lvX))) (.block 4 (.loop (sB (sB (sR (sL (sR lvX)))))))) (sR (sR lvX))):=by kernel_rfl
theorem A2l:JW=.seq (sL JW) (.seq (.seq (sL (sL (sR JW))) (.block 0 (.loop (sB (sB (sR (sL (sR JW)))))))) (.seq (sL (sR (sR JW))) (.block 2 (.loop YI)))):=by kernel_rfl
theorem Rh{F:Fence}{n:Nat}{P:Program}{c c':Code}{Q:Exit->Act->World->Prop}{a:Act}{w:World}(e:c=c')(h:c'.wpIn F n P Q a w):c.wpIn F n P Q a w:=e ▸ h
abbrev lvS(yv:Value)(h seed:Int)(n:Nat)(k:Int)(c:Ab):St:=
 ⟨lk [(0,.sc yv),(1,.iptr [Au h] 0),(2,.iptr [Af seed] 0),(4,.view 4 1 0 n),(6,Au k)],B3 [(4,.ar false c)]⟩
abbrev Ad1(yv:Value)(h seed:Int)(n:Nat)(k:Int)(c:Ab):St:=
 ⟨lk [(0,.sc yv),(1,.iptr [Au h] 0),(2,.iptr [Af seed] 0),(4,.view 4 1 0 n),(6,Au k),(24,.sc yv),(25,Au k),(26,.view 4 1 0 n)],B3 [(4,.ar false c)]⟩
abbrev A6z(yv:Value)(h seed:Int)(n:Nat)(k:Int)(c:Ab)(b:Bool):St:=
 ⟨lk [(0,.sc yv),(1,.iptr [Au h] 0),(2,.iptr [Af seed] 0),(4,.view 4 1 0 n),(6,Au k),(27,.sc (.bool b))],B3 [(4,.ar false c)]⟩
def lvM(seed:Int)(h:Nat)(pre:Cc)(k:Nat)(args:Array Value)(Z:Nat->Prop)(A:World):Prop:=
 k<=h/\pre=List.range k/\∃b o cap,args = #[.int .i64 k,.slice (some ⟨b,o,none⟩) (2 ^ (h-k):Nat) cap]/\2 ^ (h-k)<=cap/\b<A.heap.size/\¬Z b/\∀j,j<2 ^ (h-k)->A.cell? ⟨b,o+j,none⟩=some (.int .u64 (Cw seed k j))
theorem Arf{seed:Int}{h:Nat}{pre:Cc}{k:Nat}{args:Array Value}{Z:Nat->Prop}{A B:World}(hm:lvM seed h pre k args Z A)(hs:A.heap.size<=B.heap.size)(hk:∀b,b<A.heap.size->¬Z b->B.heap[b]?=A.heap[b]?):lvM seed h pre k args Z B:=by obtain⟨h0,hpr,b,o,cap,h1,h2,h3,h4,h5⟩:=hm;exact⟨h0,hpr,b,o,cap,h1,h2,by omega,h4,fun j hj=>(World.cell?_of_block (a:=⟨b,o+j,none⟩) (hk b h3 h4)).trans (h5 j hj)⟩
theorem Aub{seed:Int}{h:Nat}{pre:Cc}{k:Nat}{args:Array Value}{Z:Nat->Prop}{A:World}(hm:lvM seed h pre k args Z A):args.size=2:=by obtain⟨h0,_,b,o,cap,h1,_⟩:=hm;rw[h1];rfl
theorem A6u:∃ty pos aft x,(Id (sL (sL YI)))[3]?=some { dst:=some 27,op:=.call { callee:=.value (.tmp 24),args:= #[.tmp 25,.tmp 26],argTypes:=x },type:=ty,pos:=pos,after:=aft,guard:=none }:=
 ⟨_,_,_,_,rfl⟩
theorem Qo{k:IntKind}{l:B8}{i:Nat}{n:Int}(h:l[i]?=some n):(Ac k l)[i]?=some (.sc (.int k n)):=by
 have h1:=Ss (k:=k) h;have Cr:i<(Ac k l).length:=by rw[Ap];exact (List.getElem?_eq_some_iff.1 h).1
 rw[List.getD_eq_getElem?_getD,List.getElem?_eq_getElem Cr] at h1;rw[List.getElem?_eq_getElem Cr];exact congrArg some h1
section
variable {seed:Int}{h l:Nat}{w0:World}{X0:Gt}{Z:Nat->Prop}{β:Bt}{a:Act}{w:World}
theorem Awq{yv:Value}{k n:Nat}{c:Ab}{hi:Int}(hs:Cj 63 w0 X0 Z β (Ad1 yv hi seed n k c) a w)(hn:0<n):
  a.tmps.getD 24 undef=yv/\a.tmps.getD 25 undef=.int .i64 k/\∃b o cap,β 4=some (b,o)/\a.tmps.getD 26 undef=.slice (some ⟨b,o,none⟩) n cap/\n<=cap/\b<w.heap.size/\YL w (D4 (B3 [(4,.ar false c)]) β Z) ⟨b,o,none⟩ c:=by
 have h24:=hs.tms 24 (by decide);have h25:=hs.tms 25 (by decide);have h26:=hs.tms 26 (by decide);have hb:=hs.box 4 _ (rfl:_=some (Cb.ar false c));refine⟨(Ny h24),(Ny h25),?_⟩;rcases (show Cz w (D4 (B3 [(4,.ar false c)]) β Z) β (.view 4 1 0 n) (a.tmps.getD 26 undef) from h26) with⟨_,_,h3,_⟩|⟨b,o,x,cap,h1,h2,h3,h4,h5,h6⟩
 ·omega
 ·rcases hb with⟨h7,_⟩|⟨b',o',h7,h8,_⟩
  ·rw[h1] at h7;cases h7
  ·rw[h1] at h7;cases h7;have hx:x=o:=by omega
   subst hx;exact⟨b,x,cap,h1,h2,h4,h6,h8⟩
abbrev A7d(yv:Value)(h seed:Int)(n:Nat)(k:Int)(c:Ab)(q:Bool):St:=
 ⟨lk [(0,.sc yv),(1,.iptr [Au h] 0),(2,.iptr [Af seed] 0),(4,.view 4 1 0 n),(6,Au k),(32,.sc (.bool q))],B3 [(4,.ar false c)]⟩
theorem Al4{yv:Value}{hi seed:Int}{n:Nat}{k:Int}{c:Ab}:∀id cc,(Ad1 yv hi seed n k c).hp id≠some (.st cc):=by
 intro id cc e;rcases Vr [(4,Cb.ar false c)] id with h1|⟨q,hq,h1,h2⟩
 ·rw[show (Ad1 yv hi seed n k c).hp id=B3 [(4,Cb.ar false c)] id from rfl,h1] at e;cases e
 ·simp at hq;subst hq;rw[show (Ad1 yv hi seed n k c).hp id=B3 [(4,Cb.ar false c)] id from rfl,h2] at e;cases e
theorem Awy{hi:Int}{yv:Value}{n:Nat}{k:Int}{c:Ab}{Z':Nat->Prop}{B:World}(b:Bool)(hs:Cj 63 w0 X0 Z β (Ad1 yv hi seed n k c) a w)(ht:V3 Z Z' w B):
  Cj 63 B (Aqd (Ad1 yv hi seed n k c) β) Z' β (A6z yv hi seed n k c b) (a.put (some 27) (.bool b)) B:=by
 have h1:=(hs.rebase ht Al4).put (d:=some 27) (v:=.sc (.bool b)) (val:=.bool b) rfl (Bd.sc _) (by simp[Cn,C2,Ba]);refine h1.pick _ _ ?_ ?_ ?_ ?_ (fun _ h=>h.elim)
 ·intro q hq;simp only[B7,Im,or_false] at hq;rcases hq with rfl|rfl|rfl|rfl|rfl|rfl<;>rfl
 ·intro q hq;simp only[B7,Im,or_false] at hq;rcases hq with rfl<;>rfl
 ·intro q hq id B6;simp only[B7,Im,or_false] at hq;rcases hq with rfl|rfl|rfl|rfl|rfl|rfl<;>simp[Cn,C2,Ba] at B6
  subst B6;simp[B3]
 ·intro q hq cells e;simp only[B7,Im,or_false] at hq;rcases hq with rfl;cases e
theorem Ay8(hh:h<=4){J Jx:(Nat->Prop)->Cc->World->Prop}(hJ:∀Z pre A B,J Z pre A->Pr Z A B->J Z pre B)(hJx:∀Z pre A B,Jx Z pre A->Pr Z A B->Jx Z pre B)(hY:∀Z pre x args A,J Z pre A->lvM seed h pre x args Z A->YieldAt Fence.wide 0 prog l args A fun e B=>∃Z',V3 Z Z' A B/\((e=.returned (.bool true)/\J Z' (pre++[x]) B)\/(e=.returned (.bool false)/\Jx Z' (pre++[x]) B))){k r:Nat}(hk:k+r=h)(hs:Cj 63 w0 X0 Z β (lvS (.func (.yield l) #[] #[]) h seed (2 ^ r) k (Ac .u64 (Gq seed (2 ^ r) k))) a w)(hd:∀b,Z b->¬X0.X b)(hj:J Z (List.range k) w0){Q:Exit->Act->World->Prop}(hgo:k<h->∀w2 X2 Z' β' a' w',Cj 63 w2 X2 Z' β' (lvS (.func (.yield l) #[] #[]) h seed (2 ^ r) k (Ac .u64 (Gq seed (2 ^ r) k))) a' w'->(∀b,Z' b->¬X2.X b)->J Z' (List.range (k+1)) w2->Q .normal a' w')(Ac2:∀a' w',a'.defers=[]->(∃Z xs,(xs=List.range (h+1)/\J Z xs w')\/((∃k,xs=List.range (k+1))/\Jx Z xs w'))->Q (.exit 2) a' w'):
  (Code.seq (.region 7 (Id (sL (sL YI))) false) (sR (sL YI))).wpIn Fence.wide 0 prog Q a w:=by
 have hp:0<2 ^ r:=Nat.pos_of_ne_zero (by simp);refine wpIn_seq (wpIn_region ?_);have hl:List.range (Id (sL (sL YI))).size=[0,1,2]++[3,4,5,6,7,8]:=by kernel_rfl
 rw[hl];refine H3 (ro:=none) (C:=CB) (call:=cl) (r:=((0:Nat),Ad1 (.func (.yield l) #[] #[]) h seed (2 ^ r) k (Ac .u64 (Gq seed (2 ^ r) k)))) (Kk _ _) Ci ?_ [0,1,2] (List.take 3 (Id (sL (sL YI))).toList) (by kernel_rfl) ?_ (by kernel_rfl) hs (A2c cl _ h seed k (2 ^ r) _)
 rotate_left
 ·intro j i hj
  match j,hj with
  |0,hj=>cases hj;rfl
  |1,hj=>cases hj;rfl
  |2,hj=>cases hj;rfl
 intro s' a1 w1 β1 Fc RC;obtain⟨β2,s2,Hv,XT⟩:=Cm RC Fc;cases Hv;obtain⟨v24,v25,b,o,cap,hb,v26,SK,GQ,hrd⟩:=Awq XT hp;have hjw:J Z (List.range k) w1:=hJ Z _ _ _ hj (XT.stay hd);have hkr:h-k=r:=by omega
 have hm:lvM seed h (List.range k) k #[.int .i64 k,.slice (some ⟨b,o,none⟩) (2 ^ r:Nat) cap] Z w1:=by
  refine⟨by omega,rfl,b,o,cap,by rw[hkr],by rw[hkr];exact SK,GQ,fun hz=>XT.Yx b hz ⟨4,o,by trivial,hb⟩,fun j hj=>?_⟩
  rw[hkr] at hj;obtain⟨v,hv,_,hv2⟩:=hrd j (Af (Cw seed k j)) (Qo (Zs seed hj));rw[Fy] at hv;rw[hv,Bd.val hv2]
 obtain⟨fn,tmps,assign,body,hy,hR⟩:=hY Z _ k _ w1 hjw hm;obtain⟨ty,pos,aft,x,ho⟩:=A6u;rw[wpOpsIn_cons];unfold wpOpIn;rw[ho];simp only[Region.wanted,if_true]
 have run:(execOp a1.eval { dst:=some 27,op:=.call { callee:=.value (.tmp 24),args:= #[.tmp 25,.tmp 26],argTypes:=x },type:=ty,pos:=pos,after:=aft,guard:=none }).run prog w1=.ok (.round l fn tmps assign body) w1:=by
  have e24:a1.eval (.tmp 24)=.func (.yield l) #[] #[]:=v24;have e25:a1.eval (.tmp 25)=.int .i64 k:=v25;have e26:a1.eval (.tmp 26)=.slice (some ⟨b,o,none⟩) (2 ^ r:Nat) cap:=v26;refine Abh rfl rfl e24 ?_;rw[<-hy];simp only[List.map_toArray,Sn,List.map_nil,e25,e26]
 refine⟨fun _ _=>trivial,?_⟩;rw[show Oper.semAt (WF none).round a1.eval { dst:=some 27,op:=.call { callee:=.value (.tmp 24),args:= #[.tmp 25,.tmp 26],argTypes:=x },type:=ty,pos:=pos,after:=aft,guard:=none }=execOp a1.eval { dst:=some 27,op:=.call { callee:=.value (.tmp 24),args:= #[.tmp 25,.tmp 26],argTypes:=x },type:=ty,pos:=pos,after:=aft,guard:=none } from rfl,run];refine⟨(fun h=>by cases h),(PO hR).mono ?_⟩
 have rest:∀(e:Bool) (B:World) (Z':Nat->Prop) (q:Bool),V3 Z Z' w1 B->(M4 CB prog 63 cl (Id (sL (sL YI))) (List.drop 4 (Id (sL (sL YI))).toList) (A6z (.func (.yield l) #[] #[]) h seed (2 ^ r) k (Ac .u64 (Gq seed (2 ^ r) k)) e) (fun s=>Kg 63 4294967383 s fun s'=>some (0,s'))=some ((0:Nat),A7d (.func (.yield l) #[] #[]) h seed (2 ^ r) k (Ac .u64 (Gq seed (2 ^ r) k)) q)) ->
   (∀a' w' β',Cj 63 B (Aqd (Ad1 (.func (.yield l) #[] #[]) h seed (2 ^ r) k (Ac .u64 (Gq seed (2 ^ r) k))) β2) Z' β' (lvS (.func (.yield l) #[] #[]) h seed (2 ^ r) k (Ac .u64 (Gq seed (2 ^ r) k))) a' w'->if q=true then Q .normal a' w' else Q (.exit 2) a' w') ->
   wpOpsIn (WF none) 0 prog (Id (sL (sL YI))) (Exit.then ((sR (sL YI)).wpIn Fence.wide 0 prog Q) Q) [4,5,6,7,8] (a1.put (some 27) (.bool e)) B:=by
  intro e B Z' q ht heq hq;have h4:=Awy e XT ht;show wpOpsIn _ _ _ _ _ ([4,5,6,7,8]++[]) _ _;refine H3 (ro:=none) (C:=CB) (call:=cl) (Kk _ _) Ci ?_ [4,5,6,7,8] (List.drop 4 (Id (sL (sL YI))).toList) (by kernel_rfl) ?_ (by kernel_rfl) h4 heq
  rotate_left
  ·intro j i hj
   match j,hj with
   |0,hj=>cases hj;rfl
   |1,hj=>cases hj;rfl
   |2,hj=>cases hj;rfl
   |3,hj=>cases hj;rfl
   |4,hj=>cases hj;rfl
  intro s' a5 w5 β5 hk5 BF;obtain⟨β6,s6,hk6,hs6⟩:=Cm BF hk5;cases hk6;show (sR (sL YI)).wpIn Fence.wide 0 prog Q a5 w5;cases q
  ·exact wpIn_wide.2 (D8 (Kk _ _) IF Ci hs6 ((Atm cl _ h seed k (2 ^ r) _ false).trans rfl) fun a' w' β' h'=>hq a' w' β' h')
  ·exact wpIn_wide.2 (D8 (Kk _ _) IF Ci hs6 ((Atm cl _ h seed k (2 ^ r) _ true).trans rfl) fun a' w' β' h'=>hq a' w' β' h')
 have H9:∀{B:World} {Z':Nat->Prop} {β':Bt} {s':St} {a':Act} {w':World},V3 Z Z' w1 B->∀b,Z' b->¬(Aqd (Ad1 (.func (.yield l) #[] #[]) h seed (2 ^ r) k (Ac .u64 (Gq seed (2 ^ r) k))) β2).X b:=by
  intro B Z' _ _ _ _ ht b hz;exact (XT.rebase ht Al4).Yx b hz
 have er:List.range k++[k]=List.range (k+1):=(List.range_succ).symm
 rintro e B ⟨Z',ht,(⟨rfl,hj2⟩|⟨rfl,hj2⟩)⟩
 ·rw[er] at hj2;refine rest true B Z' (decide ((k:Int)<(h:Int))) ht (Azs cl _ h seed k (2 ^ r) _) fun a' w' β' h'=>?_;have hdd:=H9 (β':=β) (s':=s') (a':=a) (w':=w) ht;by_cases Cr:k<h
  ·rw[Bn (by simp;omega)]
   exact hgo Cr B _ Z' β' a' w' h' hdd hj2
  ·rw[A4 (by simp;omega)]
   exact Ac2 a' w' h'.dfr ⟨Z',List.range (k+1),.inl ⟨by rw[show k=h by omega],hJ Z' _ _ _ hj2 (h'.stay hdd)⟩⟩
 ·refine rest false B Z' false ht (Axm cl _ h seed k (2 ^ r) _) fun a' w' β' h'=>?_;have hdd:=H9 (β':=β) (s':=s') (a':=a) (w':=w) ht;rw[A4 (by simp)];exact Ac2 a' w' h'.dfr ⟨Z',_,.inr ⟨⟨k,er⟩,hJx Z' _ _ _ hj2 (h'.stay hdd)⟩⟩
theorem ZU(hh:h<=4){J Jx:(Nat->Prop)->Cc->World->Prop}(hJ:∀Z pre A B,J Z pre A->Pr Z A B->J Z pre B)(hJx:∀Z pre A B,Jx Z pre A->Pr Z A B->Jx Z pre B)(hY:∀Z pre x args A,J Z pre A->lvM seed h pre x args Z A->YieldAt Fence.wide 0 prog l args A fun e B=>∃Z',V3 Z Z' A B/\((e=.returned (.bool true)/\J Z' (pre++[x]) B)\/(e=.returned (.bool false)/\Jx Z' (pre++[x]) B))){Q:Exit->Act->World->Prop}(Ac2:∀a' w',a'.defers=[]->(∃Z xs,(xs=List.range (h+1)/\J Z xs w')\/((∃k,xs=List.range (k+1))/\Jx Z xs w'))->Q (.exit 2) a' w'):
  ∀(r k nn:Nat),k+r=h->r<nn->∀{w0:World} {X0:Gt} {Z:Nat->Prop} {β:Bt} {a:Act} {w:World},
   Cj 63 w0 X0 Z β (lvS (.func (.yield l) #[] #[]) h seed (2 ^ r:Nat) k (Ac .u64 (Gq seed (2 ^ r) k))) a w->(∀b,Z b->¬X0.X b)->J Z (List.range k) w0->Code.roundsIn Fence.wide 0 prog YI Q nn a w
 |_,_,0,_,h=>by omega
 |r,k,nn+1,hk,hr=>by
  intro hs hd hj;rw[roundsIn_succ];refine Rh A17 (wpIn_seq (Ay8 hh hJ hJx hY hk hs hd hj ?_ fun a' w' h1 h2=>Ac2 a' w' h1 h2));intro Cr w2 X2 Z' β' a' w' XT hd2 hj2
  match r,hk,hr,XT with
  |0,hk,hr,XT=>omega
  |r+1,hk,hr,XT=>
   have hp:2 ^ (r+1)=2*2 ^ r:=by rw[Nat.pow_succ];omega
   have FC:2 ^ r<=8:=by
    have:2 ^ r<=2 ^ 3:=Nat.pow_le_pow_right (by omega) (by omega);omega
   rw[hp] at XT;show (Code.seq (.block 3 lvX) (sR (sR YI))).wpIn Fence.wide 0 prog _ a' w';refine wpIn_seq (wpIn_block (Rh A4u (wpIn_seq (wpIn_wide.2 (D8 (Kk _ _) IF Ci XT (L:=215) (t:=0) (s1:=⟨lk [(0,.sc (.func (.yield l) #[] #[])),(1,.iptr [Au h] 0),(2,.iptr [Af seed] 0),(4,.view 4 1 0 (2*2 ^ r)),(6,Au k),(7,.view 7 1 0 (2 ^ r))],B3 [(4,.ar false (Ac .u64 (Gq seed (2*2 ^ r) k))),(7,.ar false (Ac .u64 (List.replicate (2 ^ r) 0)))]⟩) ?_ ?_)))))
   ·have w2:wrap .i64 (Int.tdiv ((2*2 ^ r:Nat):Int) 2)=((2 ^ r:Nat):Int):=by
     rw[Int.tdiv_eq_ediv_of_nonneg (by omega),Ag (by omega) (by omega)];omega
    refine (A4e cl _ h seed k (2*2 ^ r) _).trans ?_;simp(disch:=omega)only[Bz,Bx,H6,w2,VQ]
   intro a3 w3 β3 hs3;refine wpIn_seq (wpIn_seq (wpIn_wide.2 (D8 (Kk _ _) IF Ci hs3 (A3q cl _ h seed k _ _ _ _) ?_)));intro a4 w4 β4 hs4;refine wpIn_block (wpIn_wide.2 (wp_loop_rounds 1000 (Ah6 (k:=k) (m:=2 ^ r) (by omega) (by omega) (2 ^ r) 0 1000 (by omega) (by omega) (by rw[Alq];exact hs4) ?_)))
   intro a5 w5 β5 BF;show (sR (sR lvX)).wpIn Fence.wide 0 prog _ a5 w5;refine wpIn_wide.2 (D8 (Kk _ _) IF Ci BF (A2u cl _ h seed k _ _ _ _ _ _) ?_);intro a6 w6 β6 hs6;show (sR (sR YI)).wpIn Fence.wide 0 prog _ a6 w6;refine wpIn_wide.2 (D8 (Kk _ _) IF Ci hs6 (L:=87) (t:=0) (s1:=lvS (.func (.yield l) #[] #[]) h seed (2 ^ r:Nat) ((k+1:Nat):Int) (Ac .u64 (Gq seed (2 ^ r) (k+1)))) ?_ ?_)
   ·have w1:wrap .i64 ((k:Int)+1)=((k+1:Nat):Int):=by rw[Ag (by omega) (by omega)];omega
    refine (A33 cl _ h seed k _ _).trans ?_;simp only[Bz,Bx,w1];rw[Alt];rfl
   intro a7 w7 β7 hs7;exact ZU hh hJ hJx hY Ac2 r (k+1) nn (by omega) (by omega) hs7 hd2 hj2
end
end
section
open Go Go.RowKit
def noL:Gt:={ X:=fun _=>False,L:=fun _ _=>False,pn:=fun _=>False,pt:=fun _=>none,p8:=fun _ h=>h.elim }
theorem Cj.init{N:Nat}{W:World}{Z0:Nat->Prop}(l:List (Nat × PV))(a:Act)(hd:a.defers=[])(K9:a.tmps.size=N)(Cr:∀q∈l,q.1<N)(hv:∀q∈l,Fe W Z0 (fun _=>none) q.2 (a.tmps.getD q.1 undef))(hr:∀q∈l,Cn q.2=[])(hZ:∀b,Z0 b->b<W.heap.size):
  Cj N W noL Z0 (fun _=>none) ⟨lk l,B3 []⟩ a W:=by
 have hA:∀b,b<W.heap.size->D4 (B3 []) (fun _=>none) Z0 b->Z0 b:=fun b _ hb=>hb.elim (fun ⟨_,_,h,_⟩=>(h:Db none).elim) id;have Hm:C6 Z0 W W:=⟨Da _,fun _ _ _=>rfl,fun _ _=>Da _⟩
 refine⟨hd,K9,fun i hi=>?_,fun i hi=>?_,fun id bx e=>(by cases e),fun id id' b o o' h=>(h:Db none).elim,fun id b o h=>(h rfl).elim,fun i hi id B6=>?_,fun id c e=>(by cases e),fun b ⟨_,_,h,_⟩=>(h:Db none).elim,fun id bx b o e=>(by cases e),
  fun i hi=>hi.elim,fun id c b o e=>(by cases e),fun b hz ⟨_,_,h,_⟩=>(h:Db none).elim,hZ,⟨rfl,rfl,rfl,⟨Da _,fun _ _ _=>rfl,fun _ _=>Da _⟩,fun _ _ _ _=>⟨rfl,rfl⟩⟩⟩
 ·rcases Tp l i with e|⟨q,hq,h1,h2⟩
  ·exact e
  ·have:=Cr q hq;omega
 ·show Fe W (D4 (B3 []) (fun _=>none) Z0) (fun _=>none) (lk l i) _;rcases Tp l i with e|⟨q,hq,h1,h2⟩
  ·rw[e];exact Bd.top _
  ·rw[h2,<-h1];exact (hv q hq).step Hm hA fun _ _=>rfl
 ·rcases Tp l i with e|⟨q,hq,h1,h2⟩
  ·rw[show (St.mk (lk l) (B3 [])).tm i=lk l i from rfl,e] at B6;simp[Cn,C2,Ba] at B6
  ·rw[show (St.mk (lk l) (B3 [])).tm i=lk l i from rfl,h2,hr q hq] at B6;cases B6
def A1o(seed:Int)(h Bh Bs:Nat)(Z0:Nat->Prop)(W:World):Prop:=
 W.cell? ⟨Bh,0,none⟩=some (.int .i64 h)/\W.cell? ⟨Bs,0,none⟩=some (.int .u64 seed)/\Bh<W.heap.size/\Bs<W.heap.size/\¬Z0 Bh/\¬Z0 Bs
theorem A0z{h:Nat}(hh:h<=4):Hq .i64 1 (h:Int)=((2 ^ h:Nat):Int):=by
 have:h=0\/h=1\/h=2\/h=3\/h=4:=by omega
 rcases this with rfl|rfl|rfl|rfl|rfl<;>decide
theorem Axq{seed:Int}{h Bh Bs:Nat}{Z0:Nat->Prop}{W:World}{yv:Value}(hP:A1o seed h Bh Bs Z0 W)(hZ:∀b,Z0 b->b<W.heap.size):
  Cj 63 W noL Z0 (fun _=>none) ⟨lk [(0,.sc yv),(1,.iptr [Au h] 0),(2,.iptr [Af seed] 0)],B3 []⟩ { tmps:=(yv::Value.pointer (some ⟨Bh,0,none⟩)::Value.pointer (some ⟨Bs,0,none⟩)::List.replicate 60 undef).toArray,defers:=[] } W:=by
 obtain⟨p1,p2,p3,p4,p5,p6⟩:=hP;refine Cj.init _ _ rfl (by simp) ?_ ?_ ?_ hZ
 ·intro q hq;simp only[B7,Im,or_false] at hq;rcases hq with rfl|rfl|rfl<;>simp
 ·intro q hq;simp only[B7,Im,or_false] at hq;rcases hq with rfl|rfl|rfl
  ·exact Bd.sc _
  ·refine⟨⟨Bh,0,none⟩,rfl,rfl,p3,p5,fun j c hj=>?_⟩
   match j,hj with
   |0,hj=>cases hj;exact⟨_,p1,rfl,Bd.sc _⟩
  ·refine⟨⟨Bs,0,none⟩,rfl,rfl,p4,p6,fun j c hj=>?_⟩
   match j,hj with
   |0,hj=>cases hj;exact⟨_,p2,rfl,Bd.sc _⟩
 ·intro q hq;simp only[B7,Im,or_false] at hq;rcases hq with rfl|rfl|rfl<;>rfl
theorem Azr{seed:Int}{h Bh Bs:Nat}(hh:h<=4):A0t prog 113 #[.pointer (some ⟨Bh,0,none⟩),.pointer (some ⟨Bs,0,none⟩)] (lvM seed h) (fun xs=>xs=List.range (h+1)) (fun xs=>∃k,xs=List.range (k+1)) (A1o seed h Bh Bs):=by
 intro l J Jx W Z0 hZ hP hJ hJx hY h0;obtain⟨p1,p2,p3,p4,p5,p6⟩:=hP;refine callsIn_wide.1 (callsIn_of_wp (F:=Fence.wide) (n:=0) Tryz.func113 rfl trivial ?_ rfl);show JW.wpIn _ _ _ _ _ _;have t1:(({ tmps:=(#[Value.func (.yield l) #[] #[]] ++ #[Value.pointer (some ⟨Bh,0,none⟩),Value.pointer (some ⟨Bs,0,none⟩)])++Array.replicate (Tryz.f113.ntmps-(#[Value.func (.yield l) #[] #[]] ++ #[Value.pointer (some ⟨Bh,0,none⟩),Value.pointer (some ⟨Bs,0,none⟩)]).size) undef,defers:=[] }:Act))={ tmps:=(Value.func (.yield l) #[] #[]::Value.pointer (some ⟨Bh,0,none⟩)::Value.pointer (some ⟨Bs,0,none⟩)::List.replicate 60 undef).toArray,defers:=[] }:=by kernel_rfl
 rw[t1];have i0:=Axq (seed:=seed) (h:=h) (Z0:=Z0) (yv:=.func (.yield l) #[] #[]) ⟨p1,p2,p3,p4,p5,p6⟩ hZ;generalize ({ tmps:=(Value.func (.yield l) #[] #[]::Value.pointer (some ⟨Bh,0,none⟩)::Value.pointer (some ⟨Bs,0,none⟩)::List.replicate 60 undef).toArray,defers:=[] }:Act)=a0 at i0 ⊢
 have FC:2 ^ h<=16:=by
  have:2 ^ h<=2 ^ 4:=Nat.pow_le_pow_right (by omega) hh;omega
 refine Rh A2l (wpIn_seq (wpIn_wide.2 (D8 (Kk _ _) IF Ci i0 (L:=23) (t:=0)
  (s1:=⟨lk [(0,.sc (.func (.yield l) #[] #[])),(1,.iptr [Au h] 0),(2,.iptr [Af seed] 0),(4,.view 4 1 0 (2 ^ h))],B3 [(4,.ar false (Ac .u64 (List.replicate (2 ^ h) 0)))]⟩) ?_ ?_)))
 ·refine (A3s cl _ h seed).trans ?_;have e1:=A0z hh;have e2:(0:Int)<=h:=by omega
  generalize 2 ^ h=n at FC e1 ⊢;simp(disch:=omega)only[Bz,Bx,e1,H6,VQ]
 intro a1 w1 β1 h1;refine wpIn_seq (wpIn_seq (wpIn_wide.2 (D8 (Kk _ _) IF Ci h1 (A2j cl _ h seed _ _) ?_)));intro a2 w2 β2 h2;refine wpIn_block (wpIn_wide.2 (wp_loop_rounds 1000 (Ah2 (n:=2 ^ h) (by omega) (2 ^ h) 0 1000 (by omega) (by omega) (by rw[Alq];exact h2) ?_)))
 intro a3 w3 β3 h3;show (Code.seq (sL (sR (sR JW))) (.block 2 (.loop YI))).wpIn Fence.wide 0 prog _ a3 w3;refine wpIn_seq (wpIn_wide.2 (D8 (Kk _ _) IF Ci h3 (L:=87) (t:=0) (s1:=lvS (.func (.yield l) #[] #[]) h seed (2 ^ h:Nat) ((0:Nat):Int) (Ac .u64 (Gq seed (2 ^ h) 0))) ?_ ?_))
 ·refine (A3d cl _ h seed _ _ _ _).trans ?_;rw[Alt];rfl
 intro a4 w4 β4 h4;refine wpIn_block (wpIn_loop_rounds 1000 (ZU hh hJ hJx hY ?_ h 0 1000 (by omega) (by omega) h4 (fun b _ hb=>hb) h0));intro a5 w5 h5 h6;exact⟨h5,_,results_none rfl _ _ _,⟨_,rfl⟩,h6⟩
end
section
open Go Go.RowKit
theorem Cj.make{N:Nat}{W:World}{Y:Nat->Prop}{β:Bt}(l:List (Nat × PV))(bl:List (Nat × Cb))(a:Act)(pn:Nat->Prop)(p8:∀i,pn i->i<8)(hd:a.defers=[])(K9:a.tmps.size=N)(Cr:∀q∈l,q.1<N)(hv:∀q∈l,Fe W (D4 (B3 bl) β Y) β q.2 (a.tmps.getD q.1 undef))(hb:∀id bx,B3 bl id=some bx->Ys W (D4 (B3 bl) β Y) β id bx)(inj:∀id id' b o o',Db (B3 bl id)->Db (B3 bl id')->β id=some (b,o)->β id'=some (b,o')->id=id')(blt:∀id b o,B3 bl id≠none->β id=some (b,o)->b<W.heap.size)(wfT:∀q∈l,∀id∈Cn q.2,B3 bl id≠none)(wfB:∀id cells,B3 bl id=some (.st cells)->∀c∈cells,∀i∈Ba c,B3 bl i≠none)(EC:∀i,pn i->B3 bl (Ef N i)≠none)(stp:∀id c,B3 bl id=some (.st c)->∃i,id=Ef N i/\pn i)(Yx:∀b,Y b->¬JO (B3 bl) β b)(Ylt:∀b,Y b->b<W.heap.size):
  Cj N W { X:=JO (B3 bl) β,L:=fun b _=>JO (B3 bl) β b,pn:=pn,pt:=fun i=>β (Ef N i),p8:=p8 } Y β ⟨lk l,B3 bl⟩ a W:=by
 refine⟨hd,K9,fun i hi=>?_,fun i hi=>?_,hb,inj,blt,fun i hi id B6=>?_,wfB,fun b hb=>.inl hb,fun id bx b o h1 h2 h3 _ j _=>⟨id,o,by rw[show B3 bl id=some bx from h1];exact h2,h3⟩,fun i hi=>⟨EC i hi,rfl⟩,
  fun id c b o h1 _ _=>stp id c h1,Yx,Ylt,⟨rfl,rfl,rfl,⟨Da _,fun _ _ _=>rfl,fun _ _=>Da _⟩,fun _ _ _ _=>⟨rfl,rfl⟩⟩⟩
 ·rcases Tp l i with e|⟨q,hq,h1,h2⟩
  ·exact e
  ·have:=Cr q hq;omega
 ·show Fe W _ β (lk l i) _;rcases Tp l i with e|⟨q,hq,h1,h2⟩
  ·rw[e];exact Bd.top _
  ·rw[h2,<-h1];exact hv q hq
 ·rcases Tp l i with e|⟨q,hq,h1,h2⟩
  ·rw[show (St.mk (lk l) (B3 bl)).tm i=lk l i from rfl,e] at B6;simp[Cn,C2,Ba] at B6
  ·rw[show (St.mk (lk l) (B3 bl)).tm i=lk l i from rfl,h2] at B6;exact wfT q hq id B6
def A6b(lo e0:Nat)(A:World)(pv:Value)(l:B8):Prop:=
 (l=[]/\∃ad,pv=.slice ad 0 0)\/∃pb po cap,0<cap/\pv=.slice (some ⟨pb,po,none⟩) l.length cap/\l.length<=cap/\po+cap<=bsz A pb/\pb<A.heap.size/\(lo<=pb\/pb=e0)/\(∀(j:Nat) x,l[j]?=some x->A.cell? ⟨pb,po+j,none⟩=some (.int .u64 x))/\∀j,po<=j->j<bsz A pb->A.frozen? ⟨pb,j,none⟩=false
theorem frozen?_of_block{A B:World}{b j:Nat}(h:B.heap[b]?=A.heap[b]?):B.frozen? ⟨b,j,none⟩=A.frozen? ⟨b,j,none⟩:=by unfold World.frozen?;simp only[h]
structure OU(wS:World)(D:Nat)(seed leaf:Int)(h b10 o10 e0:Nat)(chv:Value)(Z:Nat->Prop)(pre:Cc)(A:World):Prop where
 os:A.os=wS.os
 tape:A.tape=wS.tape
 output:A.output=wS.output
 size:D+2<=A.heap.size
 zlo:∀b,b<wS.heap.size->Z b
 zlt:∀b,Z b->b<A.heap.size
 keep:∀b,b<wS.heap.size->b≠b10->b≠e0->A.heap[b]?=wS.heap[b]?
 bs:bsz wS b10<=bsz A b10
 c0:A.cell? ⟨b10,o10,none⟩=some (.int .i64 leaf)
 c1:A.cell? ⟨b10,o10+1,none⟩=some chv
 fz:∀k,k<3->A.frozen? ⟨b10,o10+k,none⟩=false
 lt:∀x∈pre,x<h
 path:∃pv,A.cell? ⟨b10,o10+2,none⟩=some pv/\A6b (D+2) e0 A pv (pre.map fun k=>Cw seed k (H7 leaf k))/\∀pb po n cap,0<cap->pv=.slice (some ⟨pb,po,none⟩) n cap->Z pb
abbrev Akq:Code:=sF (sB (sR (sL (sR (sR (sR WL))))))
abbrev A7o(h leaf:Int)(x:Nat)(n:Nat)(c:Ab):List (Nat × PV):=[(5,.iptr [Au h] 0),(6,.iptr [Au leaf] 0),(10,.ptr 96000 0),(11,Au x),(12,.lst false 1 n c)]
abbrev YR(leaf:Int)(ch:Value)(m:Nat)(d:Ab):List (Nat × Cb):=[(96000,.st [Au leaf,.sc ch,.view 20 1 0 m]),(20,.ar false d)]
structure A5y(wS:World)(b5 o5 b6 o6 b10 o10:Nat)(args:Array Value)(a:Act):Prop where
 dfr:a.defers=[]
 size:a.tmps.size=48
 t5:a.tmps.getD 5 undef=.pointer (some ⟨b5,o5,none⟩)
 t6:a.tmps.getD 6 undef=.pointer (some ⟨b6,o6,none⟩)
 t10:a.tmps.getD 10 undef=.pointer (some ⟨b10,o10,none⟩)
 t11:a.tmps.getD 11 undef=args.getD 0 undef
 t12:a.tmps.getD 12 undef=args.getD 1 undef
theorem Aug{wS:World}{D:Nat}{seed leaf:Int}{h b5 o5 b6 o6 b10 o10 e0:Nat}{chv:Value}{Z:Nat->Prop}{pre:Cc}{A:World}(hI:OU wS D seed leaf h b10 o10 e0 chv Z pre A){x:Nat}{args:Array Value}(hM:lvM seed h pre x args Z A){a:Act}(ha:A5y wS b5 o5 b6 o6 b10 o10 args a)(h5:wS.cell? ⟨b5,o5,none⟩=some (.int .i64 h))(h6:wS.cell? ⟨b6,o6,none⟩=some (.int .i64 leaf))(l5:b5<wS.heap.size)(l6:b6<wS.heap.size)(l10:b10<wS.heap.size)(n5:b5≠b10)(n6:b6≠b10)(m5:b5≠e0)(m6:b6≠e0)(m10:b10≠e0)(hD:wS.heap.size<=D):
  ∃β X0,X0.pt 0=some (b10,o10)/\X0.pn 0/\(∀b,X0.X b->Z b/\(b=b10\/D+2<=b\/b=e0)) /\
   Cj 48 A X0 (fun _=>False) β ⟨lk (A7o h leaf x (2 ^ (h-x)) (Ac .u64 (Gq seed (2 ^ (h-x)) x))),B3 (YR leaf chv pre.length (Ac .u64 (pre.map fun k=>Cw seed k (H7 leaf k))))⟩ a A:=by
 obtain⟨hx,_,b,o,cap,F1,SK,GQ,hbz,hcell⟩:=hM;obtain⟨pv,II,H9,hpz⟩:=hI.path
 obtain⟨q,hq⟩:∃q:Option (Nat × Nat),(q=none/\pre=[]/\∃ad,pv=.slice ad 0 0)\/∃pb po cap,q=some (pb,po)/\pv=.slice (some ⟨pb,po,none⟩) pre.length cap/\pre.length<=cap/\po+cap<=bsz A pb/\pb<A.heap.size/\(D+2<=pb\/pb=e0)/\Z pb/\(∀(j:Nat) y,(pre.map fun k=>Cw seed k (H7 leaf k))[j]?=some y->A.cell? ⟨pb,po+j,none⟩=some (.int .u64 y))/\∀j,po<=j->j<bsz A pb->A.frozen? ⟨pb,j,none⟩=false:=by
  rcases H9 with⟨h1,h2⟩|⟨pb,po,cap,h0,h1,h2,h3,h4,h5,h6,h7⟩
  ·exact⟨none,.inl ⟨rfl,by simpa using h1,h2⟩⟩
  ·rw[List.length_map] at h1 h2;exact⟨some (pb,po),.inr ⟨pb,po,cap,rfl,h1,h2,h3,h4,h5,hpz _ _ _ _ h0 h1,h6,h7⟩⟩
 obtain⟨β,hβ⟩:∃β:Bt,β=fun id=>if id=96000 then some (b10,o10) else if id=20 then q else none:=⟨_,rfl⟩
 have e1:β 96000=some (b10,o10):=by rw[hβ];rfl
 have e2:β 20=q:=by rw[hβ];rfl
 obtain⟨d,hd⟩:∃d,Ac .u64 (pre.map fun k=>Cw seed k (H7 leaf k))=d:=⟨_,rfl⟩
 have hdl:d.length=pre.length:=by rw[<-hd,Ap,List.length_map]
 rw[hd]
 have Zx:∀id bx,B3 (YR leaf chv pre.length d) id=some bx->(id=96000/\bx=.st [Au leaf,.sc chv,.view 20 1 0 pre.length])\/(id=20/\bx=.ar false d):=by
  intro id bx e;rcases Vr (YR leaf chv pre.length d) id with h1|⟨p,hp,h1,h2⟩
  ·rw[h1] at e;cases e
  ·rw[h2] at e;cases e;simp only[B7,Im,or_false] at hp;rcases hp with rfl|rfl
   ·exact .inl ⟨h1.symm,rfl⟩
   ·exact .inr ⟨h1.symm,rfl⟩
 have hX:∀b,JO (B3 (YR leaf chv pre.length d)) β b->b=b10\/∃po,q=some (b,po):=by
  rintro b' ⟨id,o',hl,hb⟩
  cases hh:B3 (YR leaf chv pre.length d) id with
  |none=>rw[hh] at hl;exact hl.elim
  |some bx=>
   rcases Zx id bx hh with⟨rfl,_⟩|⟨rfl,_⟩
   ·rw[e1] at hb;cases hb;exact .inl rfl
   ·rw[e2] at hb;exact .inr ⟨o',hb⟩
 have hqz:∀b' po,q=some (b',po)->Z b'/\(D+2<=b'\/b'=e0)/\b'<A.heap.size:=by
  intro b' po e;rcases hq with⟨h1,_⟩|⟨pb,po',cap',h1,h2,h3,h4,h5,h6,h7,h8,h9⟩
  ·rw[h1] at e;cases e
  ·rw[h1] at e;cases e;exact⟨h7,h6,h5⟩
 have A74:∀b',b'<wS.heap.size->b'≠b10->b'≠e0->¬D4 (B3 (YR leaf chv pre.length d)) β (fun _=>False) b':=by
  rintro b' hb Gu Baj (hx|hf)
  ·rcases hX b' hx with h1|⟨po,h1⟩
   ·exact Gu h1
   ·rcases (hqz _ _ h1).2.1 with h2|h2
    ·omega
    ·exact Baj h2
  ·exact hf
 have K9:wS.heap.size<A.heap.size:=by have:=hI.size;omega
 refine⟨β,_,e1,rfl,?_,Cj.make (A7o h leaf x (2 ^ (h-x)) (Ac .u64 (Gq seed (2 ^ (h-x)) x))) (YR leaf chv pre.length d) a (fun i=>i=0) (fun i hi=>by omega) ha.dfr ha.size ?_ ?_ ?_ ?_ ?_ ?_ ?_ ?_ ?_ (fun _ h=>h.elim) (fun _ h=>h.elim)⟩
 ·intro b' hb;rcases hX b' hb with rfl|⟨po,h1⟩
  ·exact⟨hI.zlo _ l10,.inl rfl⟩
  ·exact⟨(hqz _ _ h1).1,.inr (hqz _ _ h1).2.1⟩
 ·intro p hp;simp only[B7,Im,or_false] at hp;rcases hp with rfl|rfl|rfl|rfl|rfl<;>simp
 ·intro p hp;simp only[B7,Im,or_false] at hp;rcases hp with rfl|rfl|rfl|rfl|rfl
  ·refine⟨⟨b5,o5,none⟩,ha.t5,rfl,by show b5<_;omega,A74 b5 l5 n5 m5,fun j c hj=>?_⟩
   match j,hj with
   |0,hj=>cases hj;exact⟨_,(World.cell?_of_block (a:=⟨b5,o5,none⟩) (hI.keep b5 l5 n5 m5)).trans h5,rfl,Bd.sc _⟩
  ·refine⟨⟨b6,o6,none⟩,ha.t6,rfl,by show b6<_;omega,A74 b6 l6 n6 m6,fun j c hj=>?_⟩
   match j,hj with
   |0,hj=>cases hj;exact⟨_,(World.cell?_of_block (a:=⟨b6,o6,none⟩) (hI.keep b6 l6 n6 m6)).trans h6,rfl,Bd.sc _⟩
  ·exact⟨b10,o10,e1,ha.t10⟩
  ·show Fe _ _ _ (Au x) (a.tmps.getD 11 undef);rw[ha.t11,F1];exact Bd.sc _
  ·show Fe _ _ _ (.lst false 1 _ _) (a.tmps.getD 12 undef);rw[ha.t12,F1];refine Bd.lst 1 _ _ ⟨b,o,none⟩ cap (fun j=>.int .u64 (Cw seed x j)) rfl GQ ?_ SK ?_ (fun _ _ _=>rfl) ?_
   ·rintro (Zy|hf)
    ·rcases hX b Zy with h1|⟨po,h1⟩
     ·exact hbz (h1 ▸ hI.zlo _ l10)
     ·exact hbz (hqz _ _ h1).1
    ·exact hf
   ·intro j c hj;rw[Fy];have Cr:j<(Ac .u64 (Gq seed (2 ^ (h-x)) x)).length:=(List.getElem?_eq_some_iff.1 hj).1;rw[Ap,XO] at Cr;exact hcell j Cr
   ·intro j c hj;have Cr:j<(Ac .u64 (Gq seed (2 ^ (h-x)) x)).length:=(List.getElem?_eq_some_iff.1 hj).1;rw[Ap,XO] at Cr;rw[Qo (Zs seed Cr)] at hj;cases hj;exact Bd.sc _
 ·intro id bx e;rcases Zx id bx e with⟨rfl,rfl⟩|⟨rfl,rfl⟩
  ·refine⟨b10,o10,e1,fun j c hj=>?_,fun j hj=>hI.fz j hj⟩
   match j,hj with
   |0,hj=>cases hj;exact⟨_,hI.c0,Bd.sc _⟩
   |1,hj=>cases hj;exact⟨_,hI.c1,Bd.sc _⟩
   |2,hj=>
    cases hj;refine⟨_,II,?_⟩;rcases hq with⟨h1,h2,h3⟩|⟨pb,po,cap',h1,h2,h3,h4,h5,h6,h7,h8,h9⟩
    ·exact .inl ⟨e2.trans h1,rfl,by rw[h2];rfl,h3⟩
    ·exact .inr ⟨pb,po,po,cap',e2.trans h1,h2,.inl rfl,h3,by omega,h5⟩
  ·rcases hq with⟨h1,h2,h3⟩|⟨pb,po,cap',h1,h2,h3,h4,h5,h6,h7,h8,h9⟩
   ·exact .inl ⟨e2.trans h1,by rw[<-hd,h2];rfl⟩
   ·refine .inr ⟨pb,po,e2.trans h1,fun j c hj=>?_,fun _=>h9,fun h=>by cases h⟩;have Cr:j<d.length:=(List.getElem?_eq_some_iff.1 hj).1;have Afn:j<(pre.map fun k=>Cw seed k (H7 leaf k)).length:=by rw[List.length_map];omega
    rw[<-hd,Qo (List.getElem?_eq_getElem Afn)] at hj;cases hj;rw[Fy];exact⟨_,h8 j _ (List.getElem?_eq_getElem Afn),rfl,Bd.sc _⟩
 ·intro id id' b1 o1 o2 g1 g2 g3 g4
  have B6:∀i,Db (B3 (YR leaf chv pre.length d) i)->i=96000\/i=20:=by
   intro i hi;cases hh:B3 (YR leaf chv pre.length d) i with
   |none=>rw[hh] at hi;exact hi.elim
   |some bx=>exact (Zx i bx hh).imp (·.1) (·.1)
  have Gu:∀po po',β 96000=some (b1,po)->β 20=some (b1,po')->False:=by
   intro po po' f1 f2;rw[e1] at f1;rw[e2] at f2;cases f1;rcases (hqz _ _ f2).2.1 with h2|h2
   ·omega
   ·exact m10 h2
  rcases B6 id g1 with rfl|rfl<;>rcases B6 id' g2 with rfl|rfl
  ·rfl
  ·exact (Gu _ _ g3 g4).elim
  ·exact (Gu _ _ g4 g3).elim
  ·rfl
 ·intro id b1 o1 g1 g2;cases hh:B3 (YR leaf chv pre.length d) id with
  |none=>exact absurd hh g1
  |some bx=>
   rcases Zx id bx hh with⟨rfl,_⟩|⟨rfl,_⟩
   ·rw[e1] at g2;cases g2;omega
   ·rw[e2] at g2;exact (hqz _ _ g2).2.2
 ·intro p hp id B6;simp only[B7,Im,or_false] at hp;rcases hp with rfl|rfl|rfl|rfl|rfl<;>simp[Cn,C2,Ba] at B6
  subst B6;simp[B3]
 ·intro id cells e c hc i hi;rcases Zx id _ e with⟨rfl,e'⟩|⟨rfl,e'⟩
  ·cases e';simp only[B7,Im,or_false] at hc;rcases hc with rfl|rfl|rfl<;>simp[Ba] at hi
   subst hi;exact fun h0:some (Cb.ar false d)=none=>by cases h0
  ·cases e'
 ·intro i hi;subst hi;simp[B3,Ef]
 ·intro id c e;rcases Zx id _ e with⟨rfl,e'⟩|⟨rfl,e'⟩
  ·exact⟨0,rfl,rfl⟩
  ·cases e'
end
section
open Go Go.RowKit
theorem Ap3:∀h:Nat,h<5->∀k:Nat,k<h->∀n:Nat,n<16->n<2 ^ h->0<=H7 (n:Int) k/\H7 (n:Int) k<((2 ^ (h-k):Nat):Int):=by decide +kernel
theorem Amj{wS:World}{D:Nat}{seed leaf:Int}{h b10 o10 e0:Nat}{chv:Value}{Z:Nat->Prop}{pre pre':Cc}{A w':World}(hI:OU wS D seed leaf h b10 o10 e0 chv Z pre A){β':Bt}{X0:Gt}{a':Act}{m:Nat}{d:Ab}(hx1:X0.pt 0=some (b10,o10))(hx2:X0.pn 0)(hX:∀b,X0.X b->Z b/\(b=b10\/D+2<=b\/b=e0))(nD:D≠e0)(nD1:D+1≠e0)(l10:b10<wS.heap.size)(hD:wS.heap.size<=D)(hs:Cj 48 A X0 (fun _=>False) β' ⟨lk [(10,.ptr 96000 0)],B3 [(96000,.st [Au leaf,.sc chv,.view 96144 1 0 m]),(96144,.ar false d)]⟩ a' w')(hm:m=pre'.length)(hd:d=Ac .u64 (pre'.map fun k=>Cw seed k (H7 leaf k)))(Cr:∀x∈pre',x<h)(hZD:Z D)(Ayk:Z (D+1)):
  V3 Z (fun b=>Z b\/(A.heap.size<=b/\b<w'.heap.size)) A w'/\w'.heap[D]?=A.heap[D]?/\w'.heap[D+1]?=A.heap[D+1]?/\OU wS D seed leaf h b10 o10 e0 chv (fun b=>Z b\/(A.heap.size<=b/\b<w'.heap.size)) pre' w':=by
 have K9:=hI.size;have Hm:=hs.fr.step
 have same:∀b,b<A.heap.size->b≠b10->b≠e0->b<D+2->w'.heap[b]?=A.heap[b]?:=fun b hb hn ST hl=>Hm.keep b hb fun hx=>by
  rcases (hX b hx).2 with h1|h1|h1
  ·exact hn h1
  ·omega
  ·exact ST h1
 have hp:β' 96000=some (b10,o10):=(hs.pin 0 hx2).2.trans hx1;obtain⟨b,o,g1,g2,g3⟩:=(show ∃b o,β' 96000=some (b,o)/\_/\_ from hs.box 96000 _ (rfl:_=some (Cb.st [Au leaf,.sc chv,.view 96144 1 0 m])))
 rw[hp] at g1;cases g1;obtain⟨v0,q0,r0⟩:=g2 0 _ rfl;obtain⟨v1,q1,r1⟩:=g2 1 _ rfl;obtain⟨v2,q2,r2⟩:=g2 2 _ rfl;have r0:=Bd.val r0;have r1:=Bd.val r1;subst r0 r1;have Q6:=hs.box 96144 _ (rfl:_=some (Cb.ar false d))
 have Gu:∀pb po,β' 96144=some (pb,po)->pb≠b10/\(Z pb\/(A.heap.size<=pb/\pb<w'.heap.size))/\(D+2<=pb\/pb=e0)/\pb<w'.heap.size:=by
  intro pb po e;have Cr:pb<w'.heap.size:=hs.blt 96144 pb po (fun h0:some (Cb.ar false d)=none=>by cases h0) e
  have hn:pb≠b10:=by
   intro e';subst e';have:=hs.inj 96000 96144 pb o10 po trivial trivial hp e;cases this
  rcases hs.ownd pb ⟨96144,po,trivial,e⟩ with h1|h1
  ·have h2:=hX pb h1;rcases h2.2 with h3|h3
   ·exact absurd h3 hn
   ·exact⟨hn,.inl h2.1,h3,Cr⟩
  ·exact⟨hn,.inr ⟨h1,Cr⟩,.inl (by omega),Cr⟩
 refine⟨⟨hs.fr.os,hs.fr.tape,hs.fr.output,Hm.size,fun b hb hn=>Hm.keep b hb fun hx=>hn (hX b hx).1,fun b hb=>.inl hb,fun b hb=>hb.imp (fun x=>x) (·.1),fun b hb=>hb.elim (fun h1=>Jp (hI.zlt b h1) Hm.size) (·.2),Hm.bs⟩,
  same D (hI.zlt D hZD) (by omega) nD (by omega),same (D+1) (hI.zlt _ Ayk) (by omega) nD1 (by omega),?_⟩
 refine⟨hs.fr.os.trans hI.os,hs.fr.tape.trans hI.tape,hs.fr.output.trans hI.output,by have:=Hm.size;omega,fun b hb=>.inl (hI.zlo b hb),fun b hb=>hb.elim (fun h1=>Jp (hI.zlt b h1) Hm.size) (·.2),fun b hb hn ST=>(same b (by omega) hn ST (by omega)).trans (hI.keep b hb hn ST),Nat.le_trans hI.bs (Hm.bs b10 (by omega)),q0,q1,fun k hk=>g3 k hk,Cr,v2,q2,?_,?_⟩
 ·rcases r2 with⟨f1,_,f3,f4⟩|⟨pb,po,xx,cap,f1,f2,f3,f4,f5,f6⟩
  ·have:pre'=[]:=List.length_eq_zero_iff.1 (by omega);exact .inl ⟨by rw[this];rfl,f4⟩
  ·rcases Q6 with⟨e1,_⟩|⟨pb',po',e1,e2,e3,_⟩
   ·rw[f1] at e1;cases e1
   ·rw[f1] at e1;cases e1;have hxx:xx=po:=by omega
    subst hxx;rcases Nat.eq_zero_or_pos cap with q0|q0
    ·subst q0;have:pre'=[]:=List.length_eq_zero_iff.1 (by omega);have h0:m=0:=by omega
     exact .inl ⟨by rw[this];rfl,_,by rw[f2,h0]⟩
    refine .inr ⟨pb,xx,cap,q0,by rw[f2,List.length_map,hm],by rw[List.length_map];omega,by omega,f6,(Gu pb xx f1).2.2.1,fun j y hj=>?_,fun j hj hjb=>e3 rfl j hj hjb⟩
    obtain⟨v,h1,_,h3⟩:=e2 j (Af y) (by rw[hd];exact Qo hj)
    rw[Fy] at h1;rw[h1,Bd.val h3]
 ·intro pb po n cap hc0 e;rcases r2 with⟨f1,_,f3,ad,f4⟩|⟨pb',po',xx,cap',f1,f2,f3,f4,f5,f6⟩
  ·rw[f4] at e;cases e;omega
  ·rw[f2] at e;cases e;exact (Gu pb po' f1).2.1
def A2v(wS:World)(D:Nat)(seed leaf:Int)(h b10 o10 e0:Nat)(chv:Value)(c:Code)(Z:Nat->Prop)(xs:Cc)(B:World):Prop:=c=.exit 0/\∃pre,xs=pre++[h]/\OU wS D seed leaf h b10 o10 e0 chv Z pre B
theorem Are{wS:World}{D:Nat}{seed leaf:Int}{h b5 o5 b6 o6 b10 o10 e0:Nat}{chv:Value}{Z:Nat->Prop}{pre:Cc}{A:World}(hh:h<=4)(Zx:0<=leaf)(NK:leaf<((2 ^ h:Nat):Int))(hI:OU wS D seed leaf h b10 o10 e0 chv Z pre A){x:Nat}{args:Array Value}(hM:lvM seed h pre x args Z A){a:Act}(ha:A5y wS b5 o5 b6 o6 b10 o10 args a)(h5:wS.cell? ⟨b5,o5,none⟩=some (.int .i64 h))(h6:wS.cell? ⟨b6,o6,none⟩=some (.int .i64 leaf))(l5:b5<wS.heap.size)(l6:b6<wS.heap.size)(l10:b10<wS.heap.size)(n5:b5≠b10)(n6:b6≠b10)(m5:b5≠e0)(m6:b6≠e0)(m10:b10≠e0)(nD:D≠e0)(nD1:D+1≠e0)(hD:wS.heap.size<=D)(hZD:Z D)(Ayk:Z (D+1)):
  Akq.wpIn (WF (some (D+1))) 0 prog (OL D (OU wS D seed leaf h b10 o10 e0 chv) (A2v wS D seed leaf h b10 o10 e0 chv) Z (pre++[x]) A) a A:=by
 obtain⟨β,X0,hx1,hx2,hX,hs⟩:=Aug hI hM ha h5 h6 l5 l6 l10 n5 n6 m5 m6 m10 hD;have hx:=hM.1;have SO:pre.length<=1000:=by rw[hM.2.1,List.length_range];omega
 have JM:∀a w,¬OL D (OU wS D seed leaf h b10 o10 e0 chv) (A2v wS D seed leaf h b10 o10 e0 chv) Z (pre++[x]) A .outgrown a w:=fun a w ⟨_,_,_,_,hf⟩=>hf;by_cases hxh:x=h
 ·subst hxh;refine IX (Kk _ _) IF Ci (by kernel_rfl) JM hs (t:=1) (L:=1024) (s1:=⟨lk [(10,.ptr 96000 0)],B3 [(96000,.st [Au leaf,.sc chv,.view 96144 1 0 pre.length]),(96144,.ar false (Ac .u64 (pre.map fun k=>Cw seed k (H7 leaf k))))]⟩) ?_ ?_
  ·refine (Aun cl x leaf x chv _ _ _ _).trans ?_;rw[show ((x:Int)==(x:Int))=true from beq_self_eq_true _];rfl
  ·intro a' w' β' hs';obtain⟨k1,k2,k3,k4⟩:=Amj hI hx1 hx2 hX nD nD1 l10 hD hs' rfl rfl hI.lt hZD Ayk;exact⟨_,k1,k2,k3,rfl,pre,rfl,k4⟩
 ·have Cr:x<h:=by omega
  obtain⟨n,rfl⟩:∃n:Nat,leaf=n:=⟨leaf.toNat,by omega⟩
  have h16:2 ^ h<=16:=by
   have:2 ^ h<=2 ^ 4:=Nat.pow_le_pow_right (by omega) hh;omega
  have sb:=Ap3 h (by omega) x Cr n (by omega) (by omega);have es:Fj .i64 (Fp .i64 (n:Int) (x:Int)) 1=H7 n x:=rfl;obtain⟨y,hy⟩:∃y:Nat,H7 n x=y:=⟨(H7 n x).toNat,by omega⟩
  have at1:(Ac .u64 (Gq seed (2 ^ (h-x)) x)).getD y .top=Af (Cw seed x (H7 n x)):=by
   rw[hy] at sb ⊢;exact Ss (Zs seed (by omega))
  have L:(Ac .u64 (pre.map fun k=>Cw seed k (H7 n k))).length=pre.length:=by rw[Ap,List.length_map]
  have T:List.take pre.length (Ac .u64 (pre.map fun k=>Cw seed k (H7 n k)))=Ac .u64 (pre.map fun k=>Cw seed k (H7 n k)):=Hg (by omega)
  have bq:((x:Int)==(h:Int))=false:=by
   rw[beq_eq_false_iff_ne];omega
  refine IX (Kk _ _) IF Ci (by kernel_rfl) JM hs (t:=0) (L:=1024) (s1:=⟨lk [(10,.ptr 96000 0)],B3 [(96000,.st [Au n,.sc chv,.view 96144 1 0 (pre.length+1)]),(96144,.ar false (Ac .u64 (pre.map fun k=>Cw seed k (H7 n k))++[Af (Cw seed x (H7 n x))]))]⟩) ?_ ?_
  ·refine (Aun cl h n x chv _ _ _ _).trans ?_;rw[bq];have t0:(0:Int)<=x:=by omega
   have t1:(0:Int)<=y:=by omega
   have t2:(y:Int)<((2 ^ (h-x):Nat):Int):=by omega
   have ST:((pre.length+1)*8<=1099511627776):=by omega
   generalize 2 ^ (h-x)=nn at *
   simp(disch:=omega)only[Bz,Bx,es,hy,at1,L,T,H6,De]
  ·intro a' w' β' hs'
   obtain⟨k1,k2,k3,k4⟩:=Amj (pre':=pre++[x]) hI hx1 hx2 hX nD nD1 l10 hD hs' (by simp) (by simp) (by
    intro z hz;rcases B4.1 hz with h1|h1
    ·exact hI.lt z h1
    ·rw[M0.1 h1];exact Cr) hZD Ayk
   exact⟨_,k1,k2,k3,k4⟩
end
section
open Go Go.RowKit Go.Shelf
set_option maxHeartbeats 2000000 in
theorem Aye(seed h:Int)(n:Nat)(w:World):CallsIn Fence.wide n prog 70 #[.int .u64 seed,.int .i64 h] w fun e w'=>
  e=.returned (.func (.func 113) #[] #[.pointer (some ⟨w.heap.size+1,0,none⟩),.pointer (some ⟨w.heap.size,0,none⟩)])/\w'=(w.alloc (.cells #[.int .u64 seed] 37)).alloc (.cells #[.int .i64 h] 3):=by
 refine callsIn_of_wp Tryz.func70 rfl trivial ?_ rfl;simp only[Tryz.ntmps70,List.size_toArray,He,Ud,Nat.reduceAdd,Nat.reduceSub,Array.replicate_succ,Array.replicate_zero,List.push_toArray,List.append_toArray,UG,Zzp]
 gi_wp2
 go_ret
 exact⟨rfl,rfl⟩
end
section
open Go Go.RowKit
theorem A29{G:Ze}{P:Program}{f:FuncId}{v0 v1 v2 v3:Value}{vals:Ab}(hf:∃fn,P.funcs[f]?=some fn/\fn.body.isSome=true)(h:∀(w:World)(Y:Nat->Prop),(∀b,Y b->b<w.heap.size)->Calls P f #[v0,v1,v2,v3] w fun e w'=>∃vs own,e=.returned (Nv vs)/\Out w w' Y EO [.sc v0,.sc v1,.sc v2,.sc v3] own ⟨vals,[]⟩ vs):Dr G P f [.sc v0,.sc v1,.sc v2,.sc v3] ⟨vals,[]⟩:=by
 refine⟨hf,fun w Y bt us FN _ _=>?_⟩
 have hus:us=[v0,v1,v2,v3]:=by
  have ha:=FN.args
  match us,ha with
  |[u0,u1,u2,u3],⟨h0,h1,h2,h3,_⟩=>
   rw[Bd.val h0.2,Bd.val h1.2,Bd.val h2.2,Bd.val h3.2]
 subst hus
 have hl:∀i q,bt i 0≠some q:=by
  intro i q e;obtain⟨p,h1,h2⟩:=FN.l0 i q e
  match i,h1 with
  |0,h1=>cases h1;cases h2
  |1,h1=>cases h1;cases h2
  |2,h1=>cases h1;cases h2
  |3,h1=>cases h1;cases h2
 refine (h w Y FN.Ylt).mono ?_
 rintro e w' ⟨vs,own,rfl,ho⟩
 have hA:TK bt own Y=TK EO own Y:=by
  funext b
  apply propext;constructor
  ·rintro (h1|⟨i,o,h1⟩|h1)
   ·exact .inl h1
   ·exact absurd h1 (hl i _)
   ·exact .inr (.inr h1)
  ·rintro (h1|⟨i,o,h1⟩|h1)
   ·exact .inl h1
   ·cases h1
   ·exact .inr (.inr h1)
 refine⟨vs,own,rfl,ho.os,ho.tape,ho.output,ho.ext.weaken (fun b _ hb=>absurd hb (Ti b)),fun b j hb _=>ho.rng b j hb ?_,by rw[hA];exact ho.vals,rfl,fun j b o hj=>⟨(ho.fresh j b o hj).1,fun Cr=>?_⟩,ho.inj⟩
 ·rintro⟨i,p,_,⟨k,o,h1,_⟩|⟨o,ps,h1,_⟩⟩
  ·cases h1
  ·cases h1
 ·obtain⟨⟨i,k,o',h1⟩,_⟩:=(ho.fresh j b o hj).2 Cr;cases h1
theorem Cj.unbase{N:Nat}{we B w':World}{X XB:Gt}{Y YB:Nat->Prop}{β:Bt}{s:St}{a:Act}(h:Cj N B XB YB β s a w')(hY:∀b,Y b->YB b)(A13:∀b,Y b->b<we.heap.size)(H9:∀b,XB.X b->we.heap.size<=b)(hpn:∀i,¬X.pn i)(hos:B.os=we.os)(ht:B.tape=we.tape)(hou:B.output=we.output)(K9:we.heap.size<=B.heap.size)(hk:∀b,b<we.heap.size->B.heap[b]?=we.heap[b]?):Cj N we X Y β s a w':=by
 have hX:∀b,JO s.hp β b->we.heap.size<=b:=fun b hb=>(h.ownd b hb).elim (H9 b) (fun h1=>Nat.le_trans K9 h1);have hA:∀b,D4 s.hp β Y b->D4 s.hp β YB b:=fun b hb=>hb.imp (fun x=>x) (hY b);have Hm:C6 (D4 s.hp β YB) w' w':=⟨Da _,fun _ _ _=>rfl,fun _ _=>Da _⟩
 have hkw:∀b,b<we.heap.size->w'.heap[b]?=we.heap[b]?:=fun b hb=>(h.fr.step.keep b (by omega) fun hx=>by have:=H9 b hx;omega).trans (hk b hb)
 refine⟨h.dfr,h.tsz,h.tmo,fun i hi=>(h.tms i hi).step Hm (fun b _=>hA b) fun _ _=>rfl,fun id bx e=>(h.box id bx e).step' hA,h.inj,h.blt,h.wfT,h.wfB,fun b hb=>.inr (hX b hb),fun id bx b o h1 h2 h3 h4=>?_,fun i hi=>absurd hi (hpn i),fun id c b o h1 h2 h3=>?_,fun b hy=>h.Yx b (hY b hy),A13,
  ⟨h.fr.os.trans hos,h.fr.tape.trans ht,h.fr.output.trans hou,⟨Nat.le_trans K9 h.fr.step.size,fun b hb _=>hkw b hb,fun b hb=>by unfold bsz;rw[hkw b hb];exact Da _⟩,fun b j hb _=>⟨World.cell?_of_block (hkw b hb),frozen?_of_block (hkw b hb)⟩⟩⟩
 ·have:=hX b ⟨id,o,by rw[h1];exact h2,h3⟩
  omega
 ·have:=hX b ⟨id,o,by rw[h1];trivial,h2⟩
  omega
theorem OU.stay{wS:World}{D:Nat}{seed leaf:Int}{h b10 o10 e0:Nat}{chv:Value}{Z:Nat->Prop}{pre:Cc}{A B:World}(hI:OU wS D seed leaf h b10 o10 e0 chv Z pre A)(l10:b10<wS.heap.size)(nD:D≠e0)(nD1:D+1≠e0)(hD:wS.heap.size<=D)(hs:Pr (fun b=>Z b/\b≠D/\b≠D+1) A B):OU wS D seed leaf h b10 o10 e0 chv Z pre B:=by
 have e:∀b,b<wS.heap.size->B.heap[b]?=A.heap[b]?:=fun b hb=>hs.same b ⟨hI.zlo b hb,by omega,by omega⟩;have hb:bsz B b10=bsz A b10:=by unfold bsz;rw[e b10 l10]
 have hc:∀j,B.cell? ⟨b10,j,none⟩=A.cell? ⟨b10,j,none⟩:=fun j=>World.cell?_of_block (e b10 l10);obtain⟨pv,p1,p2,p3⟩:=hI.path;refine⟨hs.os.trans hI.os,hs.tape.trans hI.tape,hs.output.trans hI.output,Nat.le_trans hI.size hs.size,hI.zlo,fun b hz=>Jp (hI.zlt b hz) hs.size,fun b hb hn ST=>(e b hb).trans (hI.keep b hb hn ST),by rw[hb];exact hI.bs,(hc _).trans hI.c0,(hc _).trans hI.c1,fun k hk=>by rw[frozen?_of_block (e b10 l10)];exact hI.fz k hk,hI.lt,pv,(hc _).trans p1,?_,p3⟩
 rcases p2 with p2|⟨pb,po,cap,h0,h1,h2,h3,h4,h5,h6,h7⟩
 ·exact .inl p2
 ·have hh:B.heap[pb]?=A.heap[pb]?:=hs.same pb ⟨p3 _ _ _ _ h0 h1,by omega,by omega⟩;have hbb:bsz B pb=bsz A pb:=by unfold bsz;rw[hh]
  exact .inr ⟨pb,po,cap,h0,h1,h2,by rw[hbb];exact h3,Jp h4 hs.size,h5,fun j x hj=>(World.cell?_of_block (a:=⟨pb,po+j,none⟩) hh).trans (h6 j x hj),fun j hj hjb=>by rw[frozen?_of_block hh];exact h7 j hj (by rw[<-hbb];exact hjb)⟩
end
section
open Go Go.RowKit
abbrev sgE(leaf:Int)(n1 n2:Nat)(c1 c2:Ab):List (Nat × PV):=[(8,.ptr 96000 0),(9,Au 0),(10,.iptr [Au leaf,.lst false 1 n1 c1,.lst false 1 n2 c2] 0)]
theorem A1v{wS:World}{D:Nat}{seed leaf:Int}{h b8 o8 b10 o10 e0:Nat}{chv:Value}{Z:Nat->Prop}{pre:Cc}{B:World}{Y:Nat->Prop}{a:Act}{n1:Nat}{c1:Ab}(hB:OU wS D seed leaf h b10 o10 e0 chv Z pre B)(hd:a.defers=[])(K9:a.tmps.size=48)(t8:a.tmps.getD 8 undef=.pointer (some ⟨b8,o8,none⟩))(t9:a.tmps.getD 9 undef=.int .i64 0)(t10:a.tmps.getD 10 undef=.pointer (some ⟨b10,o10,none⟩))(c8:∀j,j<3->∃v,B.cell? ⟨b8,o8+j,none⟩=some v)(f8:∀j,j<3->B.frozen? ⟨b8,o8+j,none⟩=false)(l8:b8<B.heap.size)(l10:b10<B.heap.size)(n8:b8≠b10)(y8:¬Y b8)(y10:¬Y b10)(hch:Bd B (fun b=>b=b8\/Y b) (.lst false 1 n1 c1) chv)(Bbh:chv.oneCell'=true)(hp:∀pb,(D+2<=pb\/pb=e0)->pb≠b8/\¬Y pb)(hY:∀b,Y b->b<B.heap.size):
  ∃X0 β,(∀b,X0.X b->b=b8)/\Cj 48 B X0 Y β ⟨lk (sgE leaf n1 pre.length c1 (Ac .u64 (pre.map fun k=>Cw seed k (H7 leaf k)))),B3 [(96000,.st [.top,.top,.top])]⟩ a B:=by
 obtain⟨pv,II,H9,hpz⟩:=hB.path;obtain⟨β,hβ⟩:∃β:Bt,β=fun id=>if id=96000 then some (b8,o8) else none:=⟨_,rfl⟩
 have e1:β 96000=some (b8,o8):=by rw[hβ];rfl
 have Zx:∀id bx,B3 [(96000,Cb.st [.top,.top,.top])] id=some bx->id=96000/\bx=.st [.top,.top,.top]:=by
  intro id bx e;rcases Vr [(96000,Cb.st [.top,.top,.top])] id with h1|⟨p,hp,h1,h2⟩
  ·rw[h1] at e;cases e
  ·rw[h2] at e;cases e;simp only[B7,Im,or_false] at hp;subst hp;exact⟨h1.symm,rfl⟩
 have hX:∀b,JO (B3 [(96000,Cb.st [.top,.top,.top])]) β b->b=b8:=by
  rintro b' ⟨id,o',hl,hb⟩
  cases hh:B3 [(96000,Cb.st [.top,.top,.top])] id with
  |none=>rw[hh] at hl;exact hl.elim
  |some bx=>
   obtain⟨rfl,_⟩:=Zx id bx hh;rw[e1] at hb;cases hb;rfl
 have hA:∀b,D4 (B3 [(96000,Cb.st [.top,.top,.top])]) β Y b->b=b8\/Y b:=fun b hb=>hb.imp (hX b) (fun x=>x);have Hm:C6 (fun b=>b=b8\/Y b) B B:=⟨Da _,fun _ _ _=>rfl,fun _ _=>Da _⟩
 have one:pv.oneCell'=true:=by
  rcases H9 with⟨_,ad,h2⟩|⟨pb,po,cap,_,h1,_⟩
  ·rw[h2];rfl
  ·rw[h1];rfl
 refine⟨_,β,?_,Cj.make (sgE leaf n1 pre.length c1 (Ac .u64 (pre.map fun k=>Cw seed k (H7 leaf k)))) [(96000,.st [.top,.top,.top])] a (fun i=>i=0) (fun i hi=>by omega) hd K9 ?_ ?_ ?_ ?_ ?_ ?_ ?_ ?_ ?_ ?_ hY⟩
 ·exact hX
 ·intro p Dg;simp only[B7,Im,or_false] at Dg;rcases Dg with rfl|rfl|rfl<;>simp
 ·intro p Dg;simp only[B7,Im,or_false] at Dg;rcases Dg with rfl|rfl|rfl
  ·exact⟨b8,o8,e1,t8⟩
  ·show Fe _ _ _ (Au 0) (a.tmps.getD 9 undef);rw[t9];exact Bd.sc _
  ·refine⟨⟨b10,o10,none⟩,t10,rfl,l10,fun hb=>?_,fun j c hj=>?_⟩
   ·rcases hA _ hb with h1|h1
    ·exact n8 h1.symm
    ·exact y10 h1
   ·match j,hj with
    |0,hj=>cases hj;exact⟨_,hB.c0,rfl,Bd.sc _⟩
    |1,hj=>cases hj;exact⟨_,hB.c1,Bbh,hch.step Hm fun b _=>hA b⟩
    |2,hj=>
     cases hj;refine⟨_,II,one,?_⟩;rcases H9 with⟨h1,ad,h2⟩|⟨pb,po,cap,_,h1,h2,h3,h4,h5,h6,h7⟩
     ·rw[h2];have:pre=[]:=by simpa using h1
      subst this;cases ad with
      |none=>exact Bd.lnil _ _
      |some p=>exact Bd.lemp _ p 0
     ·rw[h1,List.length_map];rw[List.length_map] at h2;refine Bd.lst 1 _ _ ⟨pb,po,none⟩ cap (fun j=>.int .u64 ((pre.map fun k=>Cw seed k (H7 leaf k)).getD j 0)) rfl h4 (fun hb=>?_) h2 ?_ (fun _ _ _=>rfl) ?_
      ·have hh:=hp pb h5;rcases hA _ hb with h8|h8
       ·exact hh.1 h8
       ·exact hh.2 h8
      ·intro j c hj;have Cr:j<(Ac .u64 (pre.map fun k=>Cw seed k (H7 leaf k))).length:=(List.getElem?_eq_some_iff.1 hj).1;rw[Ap] at Cr;rw[Fy,h6 j _ (List.getElem?_eq_getElem Cr),List.getD_eq_getElem?_getD,List.getElem?_eq_getElem Cr];rfl
      ·intro j c hj;have Cr:j<(Ac .u64 (pre.map fun k=>Cw seed k (H7 leaf k))).length:=(List.getElem?_eq_some_iff.1 hj).1;rw[Ap] at Cr;rw[Qo (List.getElem?_eq_getElem Cr)] at hj;cases hj;rw[List.getD_eq_getElem?_getD,List.getElem?_eq_getElem Cr];exact Bd.sc _
 ·intro id bx e;obtain⟨rfl,rfl⟩:=Zx id bx e;refine⟨b8,o8,e1,fun j c hj=>?_,fun j hj=>f8 j hj⟩;have Cr:j<3:=(List.getElem?_eq_some_iff.1 hj).1;obtain⟨v,hv⟩:=c8 j Cr
  match j,hj with
  |0,hj=>cases hj;exact⟨v,hv,Bd.top _⟩
  |1,hj=>cases hj;exact⟨v,hv,Bd.top _⟩
  |2,hj=>cases hj;exact⟨v,hv,Bd.top _⟩
 ·intro id id' b1 o1 o2 g1 g2 g3 g4
  have B6:∀i,Db (B3 [(96000,Cb.st [.top,.top,.top])] i)->i=96000:=by
   intro i hi;cases hh:B3 [(96000,Cb.st [.top,.top,.top])] i with
   |none=>rw[hh] at hi;exact hi.elim
   |some bx=>exact (Zx i bx hh).1
  rw[B6 id g1,B6 id' g2]
 ·intro id b1 o1 g1 g2;cases hh:B3 [(96000,Cb.st [.top,.top,.top])] id with
  |none=>exact absurd hh g1
  |some bx=>
   obtain⟨rfl,_⟩:=Zx id bx hh;rw[e1] at g2;cases g2;exact l8
 ·intro p Dg id B6;simp only[B7,Im,or_false] at Dg;rcases Dg with rfl|rfl|rfl<;>simp[Cn,C2,Ba] at B6
  subst B6;simp[B3]
 ·intro id cells e c hc i hi;obtain⟨rfl,e'⟩:=Zx id _ e;cases e';simp only[B7,Im,or_false] at hc;rcases hc with rfl|rfl|rfl<;>simp[Ba] at hi
 ·intro i hi;subst hi;simp[B3,Ef]
 ·intro id c e;obtain⟨rfl,_⟩:=Zx id _ e;exact⟨0,rfl,rfl⟩
 ·intro b hy hx;rw[hX b hx] at hy;exact y8 hy
end
section
open Go Go.RowKit
abbrev An2(seed h leaf m:Int)(n:Nat)(c:Ab):St:=
  ⟨lk [(0,Af seed),(3,Af m),(5,.ptr 5 0),(6,.ptr 6 0),(8,.ptr 8 0),(9,Au 0),(10,.ptr 10 0),(27,Af seed),(28,Au h)],
   B3 [(5,.st [Au h]),(6,.st [Au leaf]),(8,.st [Au 0,.view 104 1 0 0,.view 152 1 0 0]),(104,.ar false []),(152,.ar false []),(10,.st [Au leaf,.view 106 1 0 n,.view 154 1 0 0]),(106,.ar false c),(154,.ar false [])]⟩
theorem Cj.var{N:Nat}{w0:World}{X0:Gt}{Y:Nat->Prop}{β:Bt}{s:St}{a:Act}{w:World}(h:Cj N w0 X0 Y β s a w){i id:Nat}{cells:Ab}(hi:i<N)(ht:s.tm i=.ptr id 0)(hb:s.hp id=some (.st cells)):
  ∃b o,β id=some (b,o)/\a.tmps.getD i undef=.pointer (some ⟨b,o,none⟩)/\b<w.heap.size/\(∀j c,cells[j]?=some c->∃v,w.cell? ⟨b,o+j,none⟩=some v/\Cz w (D4 s.hp β Y) β c v)/\∀j,j<cells.length->w.frozen? ⟨b,o+j,none⟩=false:=by
 have h1:=h.tms i hi;rw[ht] at h1;obtain⟨b,o,e1,e2⟩:=(show ∃b o,β id=some (b,o)/\a.tmps.getD i undef=.pointer (some ⟨b,o+0,none⟩) from h1)
 obtain⟨b',o',e3,e4,e5⟩:=(show ∃b o,β id=some (b,o)/\_/\_ from h.box id _ hb)
 rw[e1] at e3;cases e3;exact⟨b,o,e1,e2,h.blt id b o (by rw[hb];simp) e1,e4,e5⟩
structure A71(w w4:World)(Y:Nat->Prop)(seed h leaf:Int)(c:Ab)(n:Nat)(a4:Act)(b5 o5 b6 o6 b8 o8 b10 o10 e0:Nat)(chv:Value):Prop where
 t5:a4.tmps.getD 5 undef=.pointer (some ⟨b5,o5,none⟩)
 t6:a4.tmps.getD 6 undef=.pointer (some ⟨b6,o6,none⟩)
 t8:a4.tmps.getD 8 undef=.pointer (some ⟨b8,o8,none⟩)
 t9:a4.tmps.getD 9 undef=.int .i64 0
 t10:a4.tmps.getD 10 undef=.pointer (some ⟨b10,o10,none⟩)
 t27:a4.tmps.getD 27 undef=.int .u64 seed
 t28:a4.tmps.getD 28 undef=.int .i64 h
 c5:w4.cell? ⟨b5,o5,none⟩=some (.int .i64 h)
 c6:w4.cell? ⟨b6,o6,none⟩=some (.int .i64 leaf)
 c8:∀j,j<3->∃v,w4.cell? ⟨b8,o8+j,none⟩=some v
 f8:∀j,j<3->w4.frozen? ⟨b8,o8+j,none⟩=false
 c10:w4.cell? ⟨b10,o10,none⟩=some (.int .i64 leaf)
 c11:w4.cell? ⟨b10,o10+1,none⟩=some chv
 f10:∀j,j<3->w4.frozen? ⟨b10,o10+j,none⟩=false
 l5:b5<w4.heap.size
 l6:b6<w4.heap.size
 l8:b8<w4.heap.size
 l10:b10<w4.heap.size
 le:e0<=w4.heap.size
 n5:b5≠b10
 n6:b6≠b10
 m5:b5≠e0
 m6:b6≠e0
 m10:b10≠e0
 n8:b8≠b10
 m8:b8≠e0
 y8:¬Y b8
 y10:¬Y b10
 ye:¬Y e0
 g10:w.heap.size<=b10
 ge:w.heap.size<=e0
 g8:w.heap.size<=b8
 one:chv.oneCell'=true
 ch:∀B:World,w4.heap.size<=B.heap.size->(∀b,b<w4.heap.size->b≠b10->b≠e0->B.heap[b]?=w4.heap[b]?)->Bd B (fun b=>b=b8\/Y b) (.lst false 1 n c) chv
 p0:∃v2,w4.cell? ⟨b10,o10+2,none⟩=some v2/\((∃ad,v2=.slice ad 0 0)\/∃x cap,v2=.slice (some ⟨e0,x,none⟩) 0 cap/\x+cap<=bsz w4 e0/\e0<w4.heap.size/\∀j,x<=j->j<bsz w4 e0->w4.frozen? ⟨e0,j,none⟩=false)
theorem Asy{w w4:World}{Y:Nat->Prop}{seed h leaf m:Int}{l:B8}{n:Nat}{a4:Act}{X0:Gt}{β4:Bt}(hn:0<n)(hl:l.length=n)(hX:∀b,¬X0.X b)(hs:Cj 48 w X0 Y β4 (An2 seed h leaf m n (Ac .u64 l)) a4 w4):
  ∃b5 o5 b6 o6 b8 o8 b10 o10 e0 chv,A71 w w4 Y seed h leaf (Ac .u64 l) n a4 b5 o5 b6 o6 b8 o8 b10 o10 e0 chv:=by
 obtain⟨b5,o5,e5,t5,l5,k5,f5⟩:=hs.var (i:=5) (id:=5) (by decide) rfl rfl;obtain⟨b6,o6,e6,t6,l6,k6,f6⟩:=hs.var (i:=6) (id:=6) (by decide) rfl rfl;obtain⟨b8,o8,e8,t8,l8,k8,f8⟩:=hs.var (i:=8) (id:=8) (by decide) rfl rfl;obtain⟨b10,o10,e10,t10,l10,k10,f10⟩:=hs.var (i:=10) (id:=10) (by decide) rfl rfl;obtain⟨v5,q5,r5⟩:=k5 0 _ rfl;obtain⟨v6,q6,r6⟩:=k6 0 _ rfl;obtain⟨v80,q80,_⟩:=k8 0 _ rfl;obtain⟨v81,q81,_⟩:=k8 1 _ rfl;obtain⟨v82,q82,_⟩:=k8 2 _ rfl;obtain⟨v0,q0,r0⟩:=k10 0 _ rfl;obtain⟨v1,q1,r1⟩:=k10 1 _ rfl;obtain⟨v2,q2,r2⟩:=k10 2 _ rfl;have r5:=Bd.val r5;have r6:=Bd.val r6;have r0:=Bd.val r0;subst r5 r6 r0;have Jt:=hs.box 106 _ (rfl:_=some (Cb.ar false (Ac .u64 l)));have Q6:=hs.box 154 _ (rfl:_=some (Cb.ar false []))
 have own:∀id b o,Db ((An2 seed h leaf m n (Ac .u64 l)).hp id)->β4 id=some (b,o)->w.heap.size<=b/\¬Y b:=fun id b o h1 h2=>⟨(hs.ownd b ⟨id,o,h1,h2⟩).elim (fun x=>absurd x (hX b)) (fun x=>x),fun hy=>hs.Yx b hy ⟨id,o,h1,h2⟩⟩
 have dif:∀id id' b b' o o',id≠id'->Db ((An2 seed h leaf m n (Ac .u64 l)).hp id)->Db ((An2 seed h leaf m n (Ac .u64 l)).hp id')->β4 id=some (b,o)->β4 id'=some (b',o')->b≠b':=fun id id' b b' o o' Gu h1 h2 h3 h4 e=>by
  subst e;exact Gu (hs.inj id id' b o o' h1 h2 h3 h4)
 obtain⟨e0,he1,he2⟩:∃e0,(∀b o,β4 154=some (b,o)->e0=b)/\((∃o,β4 154=some (e0,o))\/e0=w4.heap.size):=by
  cases hq:β4 154 with
  |none=>exact⟨w4.heap.size,fun b o h=>by (cases h),.inr rfl⟩
  |some q=>exact⟨q.1,fun b o h=>by (cases h;rfl),.inl ⟨q.2,rfl⟩⟩
 have Bgt:w.heap.size<=w4.heap.size:=hs.fr.step.size
 have de:∀id b o,id≠154->Db ((An2 seed h leaf m n (Ac .u64 l)).hp id)->β4 id=some (b,o)->b<w4.heap.size->b≠e0:=fun id b o Gu h1 h2 Cr e=>by
  rcases he2 with⟨o',h3⟩|h3
  ·exact dif id 154 b e0 o o' Gu h1 trivial h2 h3 e
  ·omega
 have ge:w.heap.size<=e0/\¬Y e0/\e0<=w4.heap.size:=by
  rcases he2 with⟨o',h3⟩|h3
  ·have:=own 154 e0 o' trivial h3;exact⟨this.1,this.2,Nat.le_of_lt (hs.blt 154 e0 o' (fun h0:some (Cb.ar false [])=none=>by cases h0) h3)⟩
  ·exact⟨by omega,fun hy=>by have:=hs.Ylt e0 hy;omega,by omega⟩
 rcases r1 with⟨_,_,h3,_⟩|⟨cb,co,x,cap,g1,g2,g3,g4,g5,g6⟩
 ·omega
 rcases Jt with⟨h7,_⟩|⟨cb',co',h7,h8,h9,_⟩
 ·rw[g1] at h7;cases h7
 rw[g1] at h7;cases h7;have hx:x=co:=by omega
 subst hx
 refine⟨b5,o5,b6,o6,b8,o8,b10,o10,e0,v1,⟨t5,t6,t8,Ny (hs.tms 9 (by decide)),t10,Ny (hs.tms 27 (by decide)),Ny (hs.tms 28 (by decide)),q5,q6,fun j hj=>?_,fun j hj=>f8 j hj,q0,q1,fun j hj=>f10 j hj,l5,l6,l8,l10,ge.2.2,
  dif 5 10 _ _ _ _ (by decide) trivial trivial e5 e10,dif 6 10 _ _ _ _ (by decide) trivial trivial e6 e10,de 5 _ _ (by decide) trivial e5 l5,de 6 _ _ (by decide) trivial e6 l6,de 10 _ _ (by decide) trivial e10 l10,dif 8 10 _ _ _ _ (by decide) trivial trivial e8 e10,de 8 _ _ (by decide) trivial e8 l8,
  (own 8 _ _ trivial e8).2,(own 10 _ _ trivial e10).2,ge.2.1,(own 10 _ _ trivial e10).1,ge.1,(own 8 _ _ trivial e8).1,by rw[g2];rfl,fun B hB hk=>?_,v2,q2,?_⟩⟩
 ·match j,hj with
  |0,_=>exact⟨v80,q80⟩
  |1,_=>exact⟨v81,q81⟩
  |2,_=>exact⟨v82,q82⟩
 ·have BX:=hk cb g6 (dif 106 10 _ _ _ _ (by decide) trivial trivial g1 e10) (de 106 _ _ (by decide) trivial g1 g6);rw[g2];refine Bd.lst 1 _ _ ⟨cb,x,none⟩ cap (fun j=>.int .u64 (l.getD j 0)) rfl (by show cb<_;omega) (fun hb=>?_) g4 (fun j c hj=>?_) (fun _ _ _=>rfl) (fun j c hj=>?_)
  ·rcases hb with hb|hb
   ·exact dif 106 8 _ _ _ _ (by decide) trivial trivial g1 e8 hb
   ·exact (own 106 _ _ trivial g1).2 hb
  ·have Cr:j<(Ac .u64 l).length:=(List.getElem?_eq_some_iff.1 hj).1;rw[Ap] at Cr;obtain⟨v,k1,_,k3⟩:=h8 j _ (Qo (List.getElem?_eq_getElem Cr));rw[Fy] at k1 ⊢;rw[World.cell?_of_block (a:=⟨cb,x+j,none⟩) BX,k1,Bd.val k3,List.getD_eq_getElem?_getD,List.getElem?_eq_getElem Cr];rfl
  ·have Cr:j<(Ac .u64 l).length:=(List.getElem?_eq_some_iff.1 hj).1;rw[Ap] at Cr;rw[Qo (List.getElem?_eq_getElem Cr)] at hj;cases hj;rw[List.getD_eq_getElem?_getD,List.getElem?_eq_getElem Cr];exact Bd.sc _
 ·rcases r2 with⟨_,_,_,h4⟩|⟨pb,po,x',cap',k1,k2,k3,k4,k5',k6'⟩
  ·exact .inl h4
  ·have he:=he1 pb po k1;subst he;rcases Q6 with⟨h7,_⟩|⟨pb',po',h7,_,h9',_⟩
   ·rw[k1] at h7;cases h7
   ·rw[k1] at h7;cases h7;have hxx:x'=po:=by omega
    subst hxx;exact .inr ⟨x',cap',k2,by omega,k6',fun j hj hjb=>h9' rfl j hj hjb⟩
end
end
end Go.Proofs.YtpogefhpiaaliaaGreatDoor.Pv
