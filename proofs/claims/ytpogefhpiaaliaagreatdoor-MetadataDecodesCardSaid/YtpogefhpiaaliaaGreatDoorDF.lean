/-
  The proof of MetadataDecodes, part 6.
-/
import Derived.Test.YtpogefhpiaaliaaGreatDoorDE
import Derived.Test.YtpogefhpiaaliaaGreatDoorRows
import Derived.Shelf.Abstract
import Derived.WalkKit
import Derived.OwnWalkIn
import Derived.TacticsInMore
set_option linter.unusedSimpArgs false
set_option linter.unusedVariables false
namespace Go.Proofs.YtpogefhpiaaliaaGreatDoor.Pv
open Go.IntKind (wrap)
open Go.Proofs.Tryz (prog)
set_option maxRecDepth 1000000
noncomputable section
def XG(s:RS):Ab:=[.lst false 3 s.1.length (Ay s.1),.sc (.bool s.2)]
theorem Aod(x:It)(r:List It):Ay (x::r)=At x.k :: Af x.n :: .sc (.string x.s)::Ay r:=rfl
section
variable {fu d:Nat}
theorem JP(k:Int)(s:RS):Ar C0 prog fu (d+1) 124 [.pbox (XG s),At k]=some ⟨[.agg (Bo k s).1.cells],[XG (Bo k s).2]⟩:=by
 refine (Zq fu d s.1.length (Ay s.1) s.2 k).trans ?_;obtain⟨l,b⟩:=s;cases b
 ·cases l with
  |nil=>rfl
  |cons x r=>
   unfold Bo;rw[A5 (by simp)];simp only[Aod,G7];have g0:List.getD (PV.sc (.int .i64 x.k) :: Af x.n :: .sc (.string x.s)::Ay r) 0 .top=At x.k:=rfl;have g1:List.getD (PV.sc (.int .i64 x.k) :: Af x.n :: .sc (.string x.s)::Ay r) 1 .top=Af x.n:=rfl;have g2:List.getD (PV.sc (.int .i64 x.k) :: Af x.n :: .sc (.string x.s)::Ay r) 2 .top=.sc (.string x.s):=rfl;have g3:List.drop 3 (PV.sc (.int .i64 x.k) :: Af x.n :: .sc (.string x.s)::Ay r)=Ay r:=rfl;have L:=Cw r;have t:List.take (r.length*3) (Ay r)=Ay r:=Gv (by omega);have z:(((r.length+1:Nat):Int)==0)=false:=by simp;omega
   have e1:r.length+1-1=r.length:=rfl;by_cases hk:x.k=k
   ·have hn:(x.k != k)=false:=by simp[hk]
    rw[Bq hk]
    repeat(with_reducible(first|apply Aj|apply Ad|apply Ah|apply Ao|apply Ax|apply Ba|apply Au|apply Ae|apply Ai|apply Ct);· first|constructor|(simp(disch:=omega)only[Cu,z,g0,g1,g2,g3,hn,e1,t]<;>first|constructor|omega)|omega)
    try simp(disch:=omega)only[Aa,z,g0,g1,g2,g3,hn,e1,t]
    all_goals rfl
   ·have hn:(x.k != k)=true:=by simp[hk]
    rw[A5 hk]
    repeat(with_reducible(first|apply Aj|apply Ad|apply Ah|apply Ao|apply Ax|apply Ba|apply Au|apply Ae|apply Ai|apply Ct);· first|constructor|(simp(disch:=omega)only[Cu,z,g0,g1,g2,g3,hn]<;>first|constructor|omega)|omega)
    try simp(disch:=omega)only[Aa,z,g0,g1,g2,g3,hn]
    all_goals rfl
 ·rfl
theorem EI(s:RS):Ar C0 prog fu (d+2) 90 [.pbox (XG s)]=some ⟨[Af (Bo 1 s).1.n],[XG (Bo 1 s).2]⟩:=by
 refine (Xg fu (d+1) s.1.length (Ay s.1) s.2).trans ?_;have t:=JP (fu:=fu) (d:=d) 1 s;simp only[XG,It.cells] at t ⊢
 repeat(with_reducible(first|apply Aj|apply Ad|apply Ah|apply Ao|apply Ax|apply Ba|apply Au|apply Ae|apply Ai|apply Ct);· first|constructor|(simp(disch:=omega)only[Cu,t]<;>first|constructor|omega)|omega)
 try simp(disch:=omega)only[Aa,t]
theorem Rn(s:RS):Ar C0 prog fu (d+2) 89 [.pbox (XG s)]=some ⟨[Af (Bo 5 s).1.n],[XG (Bo 5 s).2]⟩:=by
 refine (Z7 fu (d+1) s.1.length (Ay s.1) s.2).trans ?_;have t:=JP (fu:=fu) (d:=d) 5 s;simp only[XG,It.cells] at t ⊢
 repeat(with_reducible(first|apply Aj|apply Ad|apply Ah|apply Ao|apply Ax|apply Ba|apply Au|apply Ae|apply Ai|apply Ct);· first|constructor|(simp(disch:=omega)only[Cu,t]<;>first|constructor|omega)|omega)
 try simp(disch:=omega)only[Aa,t]
def QY(f:Nat)(s:RS):Prop:=s.1.length+2<=f\/(s.2=true/\1<=f)
theorem VT{n:Int}(h:Ty n)(h1:n>0):wrap .u64 (n-1)=n-1/\Ty (n-1):=by
 unfold Ty at *
 exact⟨Cd (by omega) (by omega),by omega⟩
theorem Aae(a:List An)(x:An):Cz a++[.sc (.string x.name),At x.key.h,Af x.key.root]=Cz (a++[x]):=by unfold Cz;rw[List.flatMap_append,Jr,List.flatMap_nil,List.append_nil];rfl
theorem Abd(a:List Sa)(x:Sa):Dn a++[At x.kd,At x.at_]=Dn (a++[x]):=by unfold Dn;rw[List.flatMap_append,Jr,List.flatMap_nil,List.append_nil];rfl
theorem Azt{Ka:Nat}{C7:Ab}{Ci:Bool}{mo:Int}{A:List An}(hA:A.length<=3000):∀(f nn:Nat)(n:Int)(s:RS)(B:List Sa),QY f s->f<nn->Ty n->R0 s.1->B.length+f<=3000 ->
  Dh fu (Ar C0 prog fu (d+2)) Ka C7 Ci nn n s.1.length (Ay s.1) s.2 0 0 0 [] [] mo A.length B.length (Cz A) (Dn B) =
   some ⟨[.agg (Me.mk mo A (B++(Ro f n s).1)).cells],[XG (Ro f n s).2]⟩
 |0,_,n,s,_,h,_,_,_,_=>by unfold QY at h;omega
 |f+1,0,_,_,_,_,h,_,_,_=>by omega
 |f+1,nn+1,n,s,B,hr,hn,hu,ho,hB=>by
  have LA:=Nt A;have LB:=Yy B;have tA:List.take (A.length*3) (Cz A)=Cz A:=Gv (by omega);have tB:List.take (B.length*2) (Dn B)=Dn B:=Gv (by omega)
  have ex:¬(n>0/\s.2=false)->(Me.mk mo A (B++(Ro (f+1) n s).1))=Me.mk mo A B/\(Ro (f+1) n s).2=s:=fun h=>by
   unfold Ro;rw[A5 h];exact⟨by simp,rfl⟩
  obtain⟨l,b⟩:=s;rw[Qc];by_cases h0:n>0
  rotate_left
  ·obtain⟨e1,e2⟩:=ex (fun h=>h0 h.1);rw[e1,e2];simp only[XG,Me.cells]
   repeat(with_reducible(first|apply Aj|apply Ad|apply Ah|apply Ao|apply Ax|apply Ba|apply Au|apply Ae|apply Ai|apply Ct);· first|constructor|(simp(disch:=omega)only[Cu,LA,LB,tA,tB,Cm,Es]<;>first|constructor|omega)|omega)
   try simp(disch:=omega)only[Aa,LA,LB,tA,tB,Cm,Es]
   all_goals rfl
  cases b
  rotate_left
  ·obtain⟨e1,e2⟩:=ex (fun h=>by cases h.2);rw[e1,e2];simp only[XG,Me.cells]
   repeat(with_reducible(first|apply Aj|apply Ad|apply Ah|apply Ao|apply Ax|apply Ba|apply Au|apply Ae|apply Ai|apply Ct);· first|constructor|(simp(disch:=omega)only[Cu,LA,LB,tA,tB,Cm,Es,Cv,Ev]<;>first|constructor|omega)|omega)
   try simp(disch:=omega)only[Aa,LA,LB,tA,tB,Cm,Es,Cv,Ev]
   all_goals rfl
  clear ex;obtain⟨wd,ud⟩:=VT hu h0;obtain⟨k2,k3,k4⟩:=Aqk (s:=(l,false)) ho
  have ih:=Azt (Ka:=Ka) (C7:=C7) (Ci:=Ci) (mo:=mo) hA f nn (n-1) (WZ (l,false)).2 (B++[(WZ (l,false)).1]) (by
   unfold QY at hr ⊢;simp only at hr k4;cases q:(WZ (l,false)).2.2
   ·have:=k4 q;simp at hr;omega
   ·simp at hr;right;exact⟨rfl,by omega⟩) (by omega) ud k2 (by rw[Fw,List.length_singleton];omega)
  have es:Ro (f+1) n (l,false)=((WZ (l,false)).1::(Ro f (n-1) (WZ (l,false)).2).1,(Ro f (n-1) (WZ (l,false)).2).2):=by
   rw[Ro,Bq ⟨h0,rfl⟩]
  have eB:B++(Ro (f+1) n (l,false)).1=(B++[(WZ (l,false)).1])++(Ro f (n-1) (WZ (l,false)).2).1:=by rw[es];simp
  have e2:(Ro (f+1) n (l,false)).2=(Ro f (n-1) (WZ (l,false)).2).2:=by rw[es]
  have lB:(B++[(WZ (l,false)).1]).length=B.length+1:=by rw[Fw];rfl
  rw[eB,e2];rw[lB] at ih;rw[<-ih];clear ih es eB e2;have o1:=Rn (fu:=fu) (d:=d) (l,false);have o2:=EI (fu:=fu) (d:=d) (Bo 5 (l,false)).2;have o3:=EI (fu:=fu) (d:=d) (Bo 1 (Bo 5 (l,false)).2).2;have ea:=Abd B (WZ (l,false)).1;simp only[WZ] at ea ⊢;simp only[XG] at o1 o2 o3;generalize Dn (B++[_])=B' at *
  generalize Bo 1 (Bo 1 (Bo 5 (l,false)).2).2=u3 at *
  generalize Bo 1 (Bo 5 (l,false)).2=u2 at *
  generalize Bo 5 (l,false)=u1 at *
  repeat(with_reducible(first|apply Aj|apply Ad|apply Ah|apply Ao|apply Ax|apply Ba|apply Au|apply Ae|apply Ai|apply Ct);· first|constructor|(simp(disch:=omega)only[Cu,o1,o2,o3,wd,LB,tB,ea,Cv,Ev]<;>first|constructor|omega)|omega)
  try simp(disch:=omega)only[Aa,o1,o2,o3,wd,LB,tB,ea,Cv,Ev]
  all_goals rfl
theorem Azo(Bn:2000<=fu){Ka:Nat}{C7:Ab}{Ci:Bool}{mo:Int}:∀(f nn:Nat)(n:Int)(s:RS)(A:List An),QY f s->f<nn->Ty n->R0 s.1->A.length+f<=3000 ->
  Ej fu (Ar C0 prog fu (d+2)) Ka C7 Ci nn n s.1.length (Ay s.1) s.2 0 0 0 [] [] mo A.length 0 (Cz A) [] =
   Dh fu (Ar C0 prog fu (d+2)) Ka C7 Ci fu (Bo 5 (Of f n s).2).1.n (Bo 5 (Of f n s).2).2.1.length (Ay (Bo 5 (Of f n s).2).2.1) (Bo 5 (Of f n s).2).2.2 0 0 0 [] [] mo (A++(Of f n s).1).length 0 (Cz (A++(Of f n s).1)) []
 |0,_,n,s,_,h,_,_,_,_=>by unfold QY at h;omega
 |f+1,0,_,_,_,_,h,_,_,_=>by omega
 |f+1,nn+1,n,s,A,hr,hn,hu,ho,hB=>by
  have LA:=Nt A;have tA:List.take (A.length*3) (Cz A)=Cz A:=Gv (by omega)
  have ex:¬(n>0/\s.2=false)->A++(Of (f+1) n s).1=A/\(Of (f+1) n s).2=s:=fun h=>by
   unfold Of;rw[A5 h];exact⟨by simp,rfl⟩
  obtain⟨l,b⟩:=s;rw[Q0];by_cases h0:n>0
  rotate_left
  ·obtain⟨e1,e2⟩:=ex (fun h=>h0 h.1);rw[e1,e2];have o1:=Rn (fu:=fu) (d:=d) (l,b);simp only[XG] at o1
   repeat(with_reducible(first|apply Aj|apply Ad|apply Ah|apply Ao|apply Ax|apply Ba|apply Au|apply Ae|apply Ai|apply Ct);· first|constructor|(simp(disch:=omega)only[Cu,o1]<;>first|constructor|omega)|omega)
   try simp(disch:=omega)only[Aa,o1]
   all_goals rfl
  cases b
  rotate_left
  ·obtain⟨e1,e2⟩:=ex (fun h=>by cases h.2);rw[e1,e2];have o1:=Rn (fu:=fu) (d:=d) (l,true);simp only[XG] at o1
   repeat(with_reducible(first|apply Aj|apply Ad|apply Ah|apply Ao|apply Ax|apply Ba|apply Au|apply Ae|apply Ai|apply Ct);· first|constructor|(simp(disch:=omega)only[Cu,o1,Cv,Ev]<;>first|constructor|omega)|omega)
   try simp(disch:=omega)only[Aa,o1,Cv,Ev]
   all_goals rfl
  clear ex;obtain⟨wd,ud⟩:=VT hu h0;obtain⟨k1,k2,k3,k4⟩:=At1 (s:=(l,false)) ho
  have ih:=Azo Bn (Ka:=Ka) (C7:=C7) (Ci:=Ci) (mo:=mo) f nn (n-1) (SJ (l,false)).2 (A++[(SJ (l,false)).1]) (by
   unfold QY at hr ⊢;simp only at hr k4;cases q:(SJ (l,false)).2.2
   ·have:=k4 q;simp at hr;omega
   ·simp at hr;right;exact⟨rfl,by omega⟩) (by omega) ud k2 (by rw[Fw,List.length_singleton];omega)
  have es:Of (f+1) n (l,false)=((SJ (l,false)).1::(Of f (n-1) (SJ (l,false)).2).1,(Of f (n-1) (SJ (l,false)).2).2):=by
   rw[Of,Bq ⟨h0,rfl⟩]
  have eA:A++(Of (f+1) n (l,false)).1=(A++[(SJ (l,false)).1])++(Of f (n-1) (SJ (l,false)).2).1:=by rw[es];simp
  have e2:(Of (f+1) n (l,false)).2=(Of f (n-1) (SJ (l,false)).2).2:=by rw[es]
  have lA:(A++[(SJ (l,false)).1]).length=A.length+1:=by rw[Fw];rfl
  rw[eA,e2];generalize Of f (n-1) (SJ (l,false)).2=qq at *
  rw[<-ih,lA];clear ih es eA e2;obtain⟨_,_,a3,a4,a5⟩:=Du (k:=5) (s:=(l,false)) ho;obtain⟨_,b2,b3,b4,b5⟩:=Du (k:=4) a3;obtain⟨_,hs4,c3,c4,c5⟩:=Du (k:=3) b3;have o1:=Rn (fu:=fu) (d:=d) (l,false);have o2:=JP (fu:=fu) (d:=d+1) 4 (Bo 5 (l,false)).2;have o3:=JP (fu:=fu) (d:=d+1) 3 (Bo 4 (Bo 5 (l,false)).2).2;have ea:=Aae A (SJ (l,false)).1;simp only[SJ] at ea ⊢;simp only[XG,It.cells] at o1 o2 o3;generalize Bo 3 (Bo 4 (Bo 5 (l,false)).2).2=u3 at *
  generalize Bo 4 (Bo 5 (l,false)).2=u2 at *
  generalize Bo 5 (l,false)=u1 at *
  have L4:(El u3.1.s).length=u3.1.s.size:=by rw[Lu,Am,Gi]
  have t4:List.take u3.1.s.size (El u3.1.s)=Ac .u8 (Cy u3.1.s):=by rw[Lu,Gv (by rw[Am,Gi];omega)]
  have dk:=Aor (xs:=Mm) (fu:=fu) (d:=d) (by omega) (Zp u3.1.s);rw[Gi] at dk;have e00:((0:Int) != 0)=false:=rfl;have e20:((2:Int) != 0)=true:=rfl;unfold Agp at ea ⊢;cases hk:IG (Cy u3.1.s) with
  |none=>
   rw[hk] at dk;simp only[OT,Ky.cells] at dk;simp only[hk,Option.getD_none,Option.isNone_none,Bool.or_true] at ea ⊢;generalize Cz (A++[_])=A' at *
   repeat(with_reducible(first|apply Aj|apply Ad|apply Ah|apply Ao|apply Ax|apply Ba|apply Au|apply Ae|apply Ai|apply Ct);· first|constructor|(simp(disch:=omega)only[Cu,o1,o2,o3,L4,t4,dk,e20,wd,LA,tA,ea,Df,Cm,Es,Cv,Ev]<;>first|constructor|omega)|omega)
   try simp(disch:=omega)only[Aa,o1,o2,o3,L4,t4,dk,e20,wd,LA,tA,ea,Df,Cm,Es,Cv,Ev]
   all_goals rfl
  |some k=>
   rw[hk] at dk;simp only[OT,Ky.cells] at dk;simp only[hk,Option.getD_some,Option.isNone_some,Bool.or_false] at ea ⊢;generalize Cz (A++[_])=A' at *
   repeat(with_reducible(first|apply Aj|apply Ad|apply Ah|apply Ao|apply Ax|apply Ba|apply Au|apply Ae|apply Ai|apply Ct);· first|constructor|(simp(disch:=omega)only[Cu,o1,o2,o3,L4,t4,dk,e00,wd,LA,tA,ea,Df,Cm,Es,Cv,Ev]<;>first|constructor|omega)|omega)
   try simp(disch:=omega)only[Aa,o1,o2,o3,L4,t4,dk,e00,wd,LA,tA,ea,Df,Cm,Es,Cv,Ev]
   all_goals rfl
theorem Ay7(Bn:2000<=fu){s:RS}(ho:R0 s.1)(hl:s.1.length<=1000):Ar C0 prog fu (d+3) 91 [.pbox (XG s)]=some ⟨[.agg (Oj s).1.cells],[XG (Oj s).2]⟩:=by
 refine (Tr fu (d+2) s.1.length (Ay s.1) s.2).trans ?_;obtain⟨_,_,a3,a4,a5⟩:=Du (k:=5) ho;obtain⟨_,_,b3,b4,b5⟩:=Du (k:=1) a3;have hA:=Du (k:=5) b3;have hB:=Acw (f:=s.1.length+2) (n:=(HW s).1.n) (s:=(HW s).2) hA.2.2.1;have hC:=Du (k:=5) (s:=(FB s).2) hB.2.2.1;have l1:(HW s).2.1.length<=(Bo 5 s).2.1.length:=Nat.le_trans hA.2.2.2.1 b4;have l2:(FB s).2.1.length<=(HW s).2.1.length:=hB.2.2.2;have l3:(FM s).2.1.length<=(FB s).2.1.length:=hC.2.2.2.1;have m1:(FB s).1.length<=s.1.length+2:=hB.2.1;have r0:=Azo (fu:=fu) (d:=d) Bn (Ka:=s.1.length) (C7:=Ay s.1) (Ci:=s.2) (mo:=(Bo 1 (Bo 5 s).2).1.n) (s.1.length+2) fu (HW s).1.n (HW s).2 [] (by unfold QY;left;omega) (by omega) hA.1 hA.2.2.1 (by simp only[Vx];omega)
 have r1:=Azt (fu:=fu) (d:=d) (Ka:=s.1.length) (C7:=Ay s.1) (Ci:=s.2) (mo:=(Bo 1 (Bo 5 s).2).1.n) (A:=(FB s).1) (by omega) (s.1.length+2) fu (FM s).1.n (FM s).2 [] (by unfold QY;left;omega) (by omega) hC.1 hC.2.2.1 (by simp only[Vx];omega)
 have r2:=r0.trans r1;have o1:=Rn (fu:=fu) (d:=d) s;have o2:=EI (fu:=fu) (d:=d) (Bo 5 s).2;have o3:=Rn (fu:=fu) (d:=d) (Bo 1 (Bo 5 s).2).2;simp only[XG] at o1 o2 o3;have eR:(some ⟨[.agg (Oj s).1.cells],[XG (Oj s).2]⟩:Option D0)=some ⟨[.agg (Me.mk (Bo 1 (Bo 5 s).2).1.n (FB s).1 ([]++(Ro (s.1.length+2) (FM s).1.n (FM s).2).1)).cells],[XG (Ro (s.1.length+2) (FM s).1.n (FM s).2).2]⟩:=rfl;rw[eR,<-r2];clear r0 r1 r2 eR
 repeat(with_reducible(first|apply Aj|apply Ad|apply Ah|apply Ao|apply Ax|apply Ba|apply Au|apply Ae|apply Ai|apply Ct);· first|constructor|(simp(disch:=omega)only[Cu,o1,o2,o3]<;>first|constructor|omega)|omega)
 try simp(disch:=omega)only[Aa,o1,o2,o3]
 all_goals rfl
theorem A0x(Bn:2000<=fu){P4:Nat}{a0:Ab}{v i x:Int}:∀(f nn:Nat)(n:Int)(s:RS)(A:List Me),QY f s->f<nn->Ty n->R0 s.1->s.1.length<=1000->A.length+f<=3000 ->
  Ir fu (Ar C0 prog fu (d+3)) P4 a0 nn n 0 0 0 0 0 0 0 [] [] [] s.1.length (Ay s.1) s.2 v i x A.length 0 0 0 (B7 A) [] [] =
   some ⟨[.agg (Md.mk v i x (A++(I3 f n s).1) YI).cells,.sc (.bool (!(I3 f n s).2.2&&(((I3 f n s).2.1.length:Int)==0)))],[]⟩
 |0,_,n,s,_,h,_,_,_,_,_=>by unfold QY at h;omega
 |f+1,0,_,_,_,_,h,_,_,_,_=>by omega
 |f+1,nn+1,n,s,A,hr,hn,hu,ho,hl,hB=>by
  have LA:=Mf A;have tA:List.take (A.length*3) (B7 A)=B7 A:=Gv (by omega)
  have ex:¬(n>0/\s.2=false)->A++(I3 (f+1) n s).1=A/\(I3 (f+1) n s).2=s:=fun h=>by
   unfold I3;rw[A5 h];exact⟨by simp,rfl⟩
  obtain⟨l,b⟩:=s;rw[AP];by_cases h0:n>0
  rotate_left
  ·obtain⟨e1,e2⟩:=ex (fun h=>h0 h.1);rw[e1,e2];simp only[Md.cells];cases b
   ·skip
    repeat(with_reducible(first|apply Aj|apply Ad|apply Ah|apply Ao|apply Ax|apply Ba|apply Au|apply Ae|apply Ai|apply Ct);· first|constructor|(simp(disch:=omega)only[Cu,LA,tA,Cm,Es,Cv,Ev]<;>first|constructor|omega)|omega)
    try simp(disch:=omega)only[Aa,LA,tA,Cm,Es,Cv,Ev]
    all_goals rfl
   ·skip
    repeat(with_reducible(first|apply Aj|apply Ad|apply Ah|apply Ao|apply Ax|apply Ba|apply Au|apply Ae|apply Ai|apply Ct);· first|constructor|(simp(disch:=omega)only[Cu,LA,tA,Cm,Es,Cv,Ev]<;>first|constructor|omega)|omega)
    try simp(disch:=omega)only[Aa,LA,tA,Cm,Es,Cv,Ev]
    all_goals rfl
  cases b
  rotate_left
  ·obtain⟨e1,e2⟩:=ex (fun h=>by cases h.2);rw[e1,e2];simp only[Md.cells]
   repeat(with_reducible(first|apply Aj|apply Ad|apply Ah|apply Ao|apply Ax|apply Ba|apply Au|apply Ae|apply Ai|apply Ct);· first|constructor|(simp(disch:=omega)only[Cu,LA,tA,Cm,Es,Cv,Ev]<;>first|constructor|omega)|omega)
   try simp(disch:=omega)only[Aa,LA,tA,Cm,Es,Cv,Ev]
   all_goals rfl
  clear ex;obtain⟨wd,ud⟩:=VT hu h0;obtain⟨k1,k2,k3,_⟩:=Ady (s:=(l,false)) ho hl;have k4:=Asw (s:=(l,false)) ho hl
  have ih:=A0x Bn (P4:=P4) (a0:=a0) (v:=v) (i:=i) (x:=x) f nn (n-1) (Oj (l,false)).2 (A++[(Oj (l,false)).1]) (by
   unfold QY at hr ⊢;simp only at hr k4;cases q:(Oj (l,false)).2.2
   ·have:=k4 q;simp at hr;omega
   ·simp at hr;right;exact⟨rfl,by omega⟩) (by omega) ud k2 (by simp only at k3 hl;omega) (by rw[Fw,List.length_singleton];omega)
  have es:I3 (f+1) n (l,false)=((Oj (l,false)).1::(I3 f (n-1) (Oj (l,false)).2).1,(I3 f (n-1) (Oj (l,false)).2).2):=by
   rw[I3,Bq ⟨h0,rfl⟩]
  have eA:A++(I3 (f+1) n (l,false)).1=(A++[(Oj (l,false)).1])++(I3 f (n-1) (Oj (l,false)).2).1:=by rw[es];simp
  have e2:(I3 (f+1) n (l,false)).2=(I3 f (n-1) (Oj (l,false)).2).2:=by rw[es]
  have lA:(A++[(Oj (l,false)).1]).length=A.length+1:=by rw[Fw];rfl
  rw[eA,e2];rw[<-ih,lA];clear ih es eA e2;have o1:=Ay7 (fu:=fu) (d:=d) Bn (s:=(l,false)) ho hl;have ea:=Yq A (Oj (l,false)).1;simp only[XG,Me.cells] at o1;generalize Oj (l,false)=u at *
  generalize B7 (A++[_])=A' at *
  repeat(with_reducible(first|apply Aj|apply Ad|apply Ah|apply Ao|apply Ax|apply Ba|apply Au|apply Ae|apply Ai|apply Ct);· first|constructor|(simp(disch:=omega)only[Cu,o1,wd,LA,tA,ea,Cv,Ev]<;>first|constructor|omega)|omega)
  try simp(disch:=omega)only[Aa,o1,wd,LA,tA,ea,Cv,Ev]
  all_goals rfl
theorem Aws(Bn:2000<=fu){l:List It}(ho:R0 l)(hl:l.length<=1000):Ar C0 prog fu (d+4) 48 [.lst false 3 l.length (Ay l)]=some ⟨[.agg (KI l).1.cells,.sc (.bool (KI l).2)],[]⟩:=by
 refine (FK fu (d+3) l.length (Ay l)).trans ?_;obtain⟨_,_,_,_,_,_,_,_,q1,q2⟩:=Abr ho hl;have h0:=Du (k:=5) (s:=(l,false)) ho;have hA:=Du (k:=1) h0.2.2.1;have hB:=Du (k:=1) (s:=(JA l).2) hA.2.2.1;have hC:=Du (k:=1) (s:=(HH l).2) hB.2.2.1;have hD:=Du (k:=5) (s:=(HT l).2) hC.2.2.1;have r0:=A0x (fu:=fu) (d:=d) Bn (P4:=l.length) (a0:=Ay l) (v:=wrap .i64 (JA l).1.n) (i:=wrap .i64 (HH l).1.n) (x:=wrap .i64 (HT l).1.n) (l.length+2) fu (BV l).1.n (BV l).2 [] (by unfold QY;left;omega) (by omega) hD.1 q1 (by omega) (by simp only[Vx];omega)
 have o1:=Rn (fu:=fu) (d:=d+1) (l,false);have o2:=EI (fu:=fu) (d:=d+1) (Bo 5 (l,false)).2;have o3:=EI (fu:=fu) (d:=d+1) (JA l).2;have o4:=EI (fu:=fu) (d:=d+1) (HH l).2;have o5:=Rn (fu:=fu) (d:=d+1) (HT l).2;have eA:Bo 1 (Bo 5 (l,false)).2=JA l:=rfl;have eB:Bo 1 (JA l).2=HH l:=rfl;have eC:Bo 1 (HH l).2=HT l:=rfl;have eD:Bo 5 (HT l).2=BV l:=rfl;rw[eA] at o2;rw[eB] at o3;rw[eC] at o4;rw[eD] at o5;simp only[XG] at o1 o2 o3 o4 o5;have eR:(some ⟨[.agg (KI l).1.cells,.sc (.bool (KI l).2)],[]⟩:Option D0)=some ⟨[.agg (Md.mk (wrap .i64 (JA l).1.n) (wrap .i64 (HH l).1.n) (wrap .i64 (HT l).1.n) ([]++(I3 (l.length+2) (BV l).1.n (BV l).2).1) YI).cells,.sc (.bool (!(I3 (l.length+2) (BV l).1.n (BV l).2).2.2&&(((I3 (l.length+2) (BV l).1.n (BV l).2).2.1.length:Int)==0)))],[]⟩:=rfl
 rw[eR,<-r0];clear r0 eR
 repeat(with_reducible(first|apply Aj|apply Ad|apply Ah|apply Ao|apply Ax|apply Ba|apply Au|apply Ae|apply Ai|apply Ct);· first|constructor|(simp(disch:=omega)only[Cu,o1,o2,o3,o4,o5]<;>first|constructor|omega)|omega)
 try simp(disch:=omega)only[Aa,o1,o2,o3,o4,o5]
 all_goals rfl
end
structure Md.ok(m:Md):Prop where
 ent:∀x∈m.ents,Ty x.model/\x.rts
 sg:m.sig.ok
theorem Md.ok.wf{m:Md}(h:m.ok):m.wf:=⟨fun x hx=>(h.ent x hx).1.1⟩
def UA(b:Ca)(used:Nat)(r:Md × Bool):Md × Int:=if r.2=false then (HE,2) else match sgD (b.drop used) with
 |none=>(HE,2)
 |some s=>if Ds { r.1 with sig:=s }=0/\Fx { r.1 with sig:=s }=b then ({ r.1 with sig:=s },0) else (HE,2)
def Ms(P:List It->Md × Bool)(b:Ca)(r:List It × Nat × Int):Md × Int:=if b.length>4096 then (HE,8) else if r.2.2≠0 then (HE,2) else UA b r.2.1 (P r.1)
def M7(b:Ca):Md × Int:=Ms KI b (K0 1000 [] 0 b 0 [])
def J2(l:List It):Prop:=∀x∈l,Ty x.n
theorem J2.app{a b:List It}(ha:J2 a)(hb:J2 b):J2 (a++b):=fun x hx=>(Bz.1 hx).elim (ha x) (hb x)
theorem J2.cons{x:It}{l:List It}(h:Ty x.n)(hl:J2 l):J2 (x::l):=fun y hy=>by
 rcases B6.1 hy with rfl|hy
 ·exact h
 ·exact hl y hy
theorem J2.nil:J2 []:=fun x hx=>by cases hx
theorem J2.flat{α:Type}{f:α->List It}{l:List α}(h:∀x∈l,J2 (f x)):J2 (l.map f).flatten:=fun y hy=>by
 obtain⟨v,hv,hy⟩:=List.mem_flatten.1 hy;obtain⟨x,hx,rfl⟩:=List.mem_map.1 hv;exact h x hx y hy
theorem Adx{n:Nat}(h:n<=1000):Ty (n:Int):=⟨by omega,by omega⟩
theorem T8{n:Int}(h:0<=n)(h1:n<=1099511627776):Ty n:=⟨h,by omega⟩
theorem Axe(a:An):J2 (Cr a):=by refine J2.cons (T8 (by show (0:Int)<=2;omega) (by show (2:Int)<=_;omega)) (J2.cons (T8 (by show (0:Int)<=0;omega) (by show (0:Int)<=_;omega)) (J2.cons (T8 (by show (0:Int)<=0;omega) (by show (0:Int)<=_;omega)) J2.nil))
theorem Ays{s:Sa}(h:1<=s.kd/\s.kd<=4/\0<=s.at_/\s.at_<=1099511627776):J2 (Cp s):=by refine J2.cons (T8 (by show (0:Int)<=2;omega) (by show (2:Int)<=_;omega)) (J2.cons (T8 (by show (0:Int)<=s.kd;omega) (by show s.kd<=_;omega)) (J2.cons (T8 (by show (0:Int)<=s.at_;omega) (by show s.at_<=_;omega)) J2.nil))
theorem Aso{x:Me}(hm:Ty x.model)(h:C4 x=0):J2 (A7 x):=by obtain⟨h1,h2,h3,h4⟩:=Pg h;have e:=EU x [];rw[List.append_nil] at e;rw[e];refine J2.cons (T8 (by show (0:Int)<=3;omega) (by show (3:Int)<=_;omega)) (J2.cons hm (J2.cons (Adx (by omega)) (J2.app (J2.flat fun a ha=>Axe a) (J2.cons (Adx (by omega)) (J2.app (J2.flat fun s hs=>Ays (Xt h4 s hs)) J2.nil)))))
theorem Ao9{m:Md}(hm:∀x∈m.ents,Ty x.model)(h:Bu m=0):J2 (A6 m):=by obtain⟨h1,h2,h3,h4,h5,h6,h7⟩:=Kl h;rw[AO];exact J2.cons (T8 (by show (0:Int)<=4;omega) (by show (4:Int)<=_;omega)) (J2.cons (T8 (by show (0:Int)<=m.ver;omega) (by show m.ver<=_;omega)) (J2.cons (T8 (by show (0:Int)<=m.iss;omega) (by show m.iss<=_;omega)) (J2.cons (T8 (by show (0:Int)<=m.nxt;omega) (by show m.nxt<=_;omega)) (J2.cons (Adx (by omega)) (J2.flat fun x hx=>Aso (hm x hx) (Mh h7 x hx))))))
theorem NC{n:Int}(h:Ty n){dp:Int}(hd:dp<=8):XN dp [Dy n]:=NW (Jj h.1) h.2 hd
theorem A6m{a:An}(h:F1 a=0){dp:Int}(hd:dp<=7):XN dp (Cr a):=by
 obtain⟨h1,h2,h3,_⟩:=Abq h;have f1:MW ⟨4,0,a.name⟩:=⟨.inr (.inr (.inr (.inl rfl))),by simp only;omega,fun _=>h3,by unfold K7;rfl,by simp⟩
 have f2:MW ⟨3,0,Bj (Ij a.key)⟩:=⟨.inr (.inr (.inl rfl)),by simp only[Acu];omega,(fun e=>by cases e),by unfold K7;rfl,by simp⟩
 refine Ud (vs:=RR a) (fun v hv=>?_) (by omega) (by simp[RR]);simp only[RR,B6,Ie,or_false] at hv;rcases hv with rfl|rfl
 ·exact NW f1 (by simp) (by omega)
 ·exact NW f2 (by simp) (by omega)
theorem A7y{s:Sa}(h:1<=s.kd/\s.kd<=4/\0<=s.at_/\s.at_<=1099511627776){dp:Int}(hd:dp<=7):XN dp (Cp s):=by
 refine Ud (vs:=SQ s) (fun v hv=>?_) (by omega) (by simp[SQ]);simp only[SQ,B6,Ie,or_false] at hv;rcases hv with rfl|rfl
 ·exact NC ⟨by omega,by omega⟩ (by omega)
 ·exact NC ⟨by omega,by omega⟩ (by omega)
theorem A20{x:Me}(hm:Ty x.model)(h:C4 x=0){dp:Int}(hd:dp<=4):XN dp (A7 x):=by
 obtain⟨h1,h2,h3,h4⟩:=Pg h;refine Ud (vs:=Vs x) (fun v hv=>?_) (by omega) (by simp[Vs]);simp only[Vs,B6,Ie,or_false] at hv;rcases hv with rfl|rfl|rfl
 ·exact NC hm (by omega)
 ·refine Ud (fun v hv=>?_) (by omega) (by rw[List.length_map];omega)
  obtain⟨a,ha,rfl⟩:=List.mem_map.1 hv;exact A6m (Vm h3 a ha) (by omega)
 ·refine Ud (fun v hv=>?_) (by omega) (by rw[List.length_map];omega)
  obtain⟨s,hs,rfl⟩:=List.mem_map.1 hv;exact A7y (Xt h4 s hs) (by omega)
theorem Awd{m:Md}(hm:∀x∈m.ents,Ty x.model)(h:Bu m=0):XN 0 (A6 m):=by
 obtain⟨h1,h2,h3,h4,h5,h6,h7⟩:=Kl h;refine Ud (vs:=Np m) (fun v hv=>?_) (by omega) (by simp[Np]);simp only[Np,B6,Ie,or_false] at hv;rcases hv with rfl|rfl|rfl|rfl
 ·exact NC ⟨by omega,by omega⟩ (by omega)
 ·exact NC ⟨by omega,by omega⟩ (by omega)
 ·exact NC ⟨by omega,by omega⟩ (by omega)
 ·refine Ud (fun v hv=>?_) (by omega) (by rw[List.length_map];omega)
  obtain⟨x,hx,rfl⟩:=List.mem_map.1 hv;exact A20 (hm x hx) (Mh h7 x hx) (by omega)
theorem Gr{m:Md}(h:Ds m=0):Bu m=0/\D1 m.sig.path.length=false/\Js m.sig.leaf m.sig.path.length=false/\m.sig.chains.length=18:=by
 unfold Ds at h;by_cases h0:Bu m=0
 ·rw[Bq h0] at h;unfold NE at h;split at h
  ·cases h
  ·split at h
   ·cases h
   ·split at h
    ·cases h
    ·exact⟨h0,by simp_all,by simp_all,by simp_all⟩
 ·rw[A5 h0] at h;exact absurd h h0
theorem Afq{m:Md}(hc:m.ok)(h:Ds m=0){k:Nat}(hk:500<k):K0 k [] 0 (Fx m) 0 []=(A6 m,(Bi (A6 m)).length,0):=by
 have h0:=(Gr h).1;obtain⟨vm,fm,lm⟩:=Uh hc.wf h0;have r:=ZI (b:=Fx m) (rest:=Sj m.sig) (A6 m) [] 0 0 k [] (vm.goods (by omega) (by simp[A6]) (by omega)) (fun x hx=>Ao9 (fun x hx=>(hc.ent x hx).1) h0 x hx) rfl (by omega)
 simpa using r
theorem Apz{m:Md}(hc:m.ok)(h:Ds m=0):NQ (Fx m)=(A6 m,(Bi (A6 m)).length,0):=by have h0:=(Gr h).1;obtain⟨vm,fm,lm⟩:=Uh hc.wf h0;exact Ave (Awd (fun x hx=>(hc.ent x hx).1) h0) (by omega) (Sj m.sig)
theorem Aq5{m:Md}(hc:m.ok)(h:Ds m=0):UA (Fx m) (Bi (A6 m)).length ({ m with sig:=YI },true)=(m,0):=by
 obtain⟨h0,h1,h2,h3⟩:=Gr h;have e:(Fx m).drop (Bi (A6 m)).length=Sj m.sig:=by unfold Fx;rw[List.drop_left]
 unfold UA;rw[A5 (by simp),e,Ay2 hc.sg h1 h2 h3];simp only;rw[Bq ⟨h,by trivial⟩]
theorem Apk{b:Ca}{used:Nat}{r:Md × Bool}(hr:∀x∈r.1.ents,Ty x.model/\x.rts)(hn:∀m:Md,m.ok->Ds m=0->Fx m≠b):UA b used r=(HE,2):=by
 unfold UA;split
 ·rfl
 ·split
  ·rfl
  ·rename_i s hs;rw[A5];intro ⟨h1,h2⟩;exact hn { r.1 with sig:=s } ⟨hr,(Ai7 hs).1⟩ h1 h2
theorem Ace{x:Me}(h:okM x):Ty x.model/\x.rts:=⟨h.1,fun a ha=>(h.2.1 a ha).1⟩
theorem Aao{b:Ca}(hb:Ii b):∀(k:Nat)(l:List Il)(cnt:Int)(at_:Nat)(its:List It),at_<=b.length->(its.length:Int)=cnt->its.length<=512->(K0 k l cnt b at_ its).1.length<=512
 |0,l,cnt,at_,its,h,hi,h5=>by simp[K0]
 |k+1,l,cnt,at_,its,h,hi,h5=>by
  unfold K0;by_cases hd:TF l cnt=true
  ·rw[Bq hd];exact h5
  ·rw[A5 hd];by_cases he:(Hs l cnt b at_).e=0
   ·rw[A5 (by simp[he])];obtain⟨c1,c2,_,_,p,q⟩:=ND hb h he;exact Aao hb k _ _ _ _ p (by rw[c2,Fw,List.length_singleton];omega) (by rw[Fw,List.length_singleton];omega)
   ·rw[Bq he];simp
structure Rdr(P:List It->Md × Bool):Prop where
 ok:∀l,R0 l->l.length<=1000->∀x∈(P l).1.ents,Ty x.model/\x.rts
 hit:∀m:Md,m.ok->Bu m=0->P (A6 m)=({ m with sig:=YI },true)
theorem Atd:Rdr KI:=⟨fun l h hl x hx=>Ace ((Abr h hl).1 x hx),fun m hm h=>Avi h (fun x hx=>(hm.ent x hx).2)⟩
theorem A70:Rdr Ade:=⟨fun l h hl x hx=>Ace ((Am0 h).1 x hx),fun m hm h=>At5 h (fun x hx=>(hm.ent x hx).2)⟩
theorem VX{P:List It->Md × Bool}(hP:Rdr P){m:Md}(hc:m.ok)(h:Ds m=0)(hl:(Fx m).length<=4096):Ms P (Fx m) (A6 m,(Bi (A6 m)).length,0)=(m,0):=by unfold Ms;rw[A5 (by omega),A5 (by simp)];simp only;rw[hP.hit m hc (Gr h).1];exact Aq5 hc h
theorem QK{P:List It->Md × Bool}(hP:Rdr P){b:Ca}(hl:b.length<=4096){r:List It × Nat × Int}(hx:R0 r.1)(h5:r.1.length<=1000)(hn:∀m:Md,m.ok->Ds m=0->Fx m≠b):Ms P b r=(HE,2):=by
 unfold Ms;rw[A5 (by omega)];split
 ·rfl
 ·exact Apk (hP.ok _ hx h5) hn
theorem DM{b:Ca}(hb:Ii b)(k:Nat):R0 (K0 k [] 0 b 0 []).1/\(K0 k [] 0 b 0 []).1.length<=1000/\(K0 k [] 0 b 0 []).2.1<=b.length:=by have h:=Ae6 hb k [] 0 0 [] (by omega) (by simp);exact⟨h.2,Nat.le_trans (Aao hb k [] 0 0 [] (by omega) rfl (by simp)) (by omega),h.1⟩
theorem Adg{b:Ca}(hb:Ii b):R0 (NQ b).1/\(NQ b).1.length<=1000/\(NQ b).2.1<=b.length:=by
 have fi:=Z3 hb 10 0 false Fv 0 [] (by omega) (by simp) (by simp);unfold NQ;split
 ·exact⟨fun x hx=>by simp at hx,by simp,by simp⟩
 ·exact⟨fun x hx=>(fi.all x hx).1,Nat.le_trans fi.top (by omega),fi.at_⟩
theorem UK{m:Md}(hc:m.ok)(h:Ds m=0)(hl:(Fx m).length<=4096):M7 (Fx m)=(m,0):=by unfold M7;rw[Afq hc h (by omega)];exact VX Atd hc h hl
theorem Aad{b:Ca}(hb:Ii b)(hl:b.length<=4096)(hn:∀m:Md,m.ok->Ds m=0->Fx m≠b):M7 b=(HE,2):=QK Atd hl (DM hb 1000).1 (DM hb 1000).2.1 hn
theorem Abm{b:Ca}(hl:b.length>4096):M7 b=(HE,8):=by unfold M7 Ms;rw[Bq hl]
theorem Aas{P:List It->Md × Bool}(hP:Rdr P){b:Ca}(hb:Ii b){r:List It × Nat × Int}(hx:R0 r.1)(h5:r.1.length<=1000)(hc:∀m:Md,m.ok->Ds m=0->Fx m=b->r=(A6 m,(Bi (A6 m)).length,0)):Ms P b r=M7 b:=by
 by_cases hl:b.length>4096
 ·rw[Abm hl];unfold Ms;rw[Bq hl]
 by_cases hex:∃m:Md,m.ok/\Ds m=0/\Fx m=b
 ·obtain⟨m,m1,m2,m3⟩:=hex;have e:=hc m m1 m2 m3;subst m3;rw[UK m1 m2 (by omega),e];exact VX hP m1 m2 (by omega)
 ·have hn:∀m:Md,m.ok->Ds m=0->Fx m≠b:=fun m h1 h2 h3=>hex ⟨m,h1,h2,h3⟩;rw[Aad hb (by omega) hn];exact QK hP (by omega) hx h5 hn
theorem Ari{b:Ca}(hb:Ii b){k:Nat}(hk:500<k):Ms KI b (K0 k [] 0 b 0 [])=M7 b:=
 Aas Atd hb (DM hb k).1 (DM hb k).2.1 (fun m m1 m2 m3=>by subst m3;exact Afq m1 m2 hk)
theorem Are{b:Ca}(hb:Ii b):Ms Ade b (NQ b)=M7 b:=
 Aas A70 hb (Adg hb).1 (Adg hb).2.1 (fun m m1 m2 m3=>by subst m3;exact Apz m1 m2)
theorem Akx{b:Ca}(hb:Ii b):((M7 b).2=0/\(M7 b).1.ok/\Ds (M7 b).1=0/\Fx (M7 b).1=b/\b.length<=4096)\/(M7 b=(HE,8))\/(M7 b=(HE,2)):=by
 by_cases hl:b.length>4096
 ·exact .inr (.inl (Abm hl))
 by_cases hex:∃m:Md,m.ok/\Ds m=0/\Fx m=b
 ·obtain⟨m,m1,m2,m3⟩:=hex;subst m3;rw[UK m1 m2 (by omega)];exact .inl ⟨rfl,m1,m2,rfl,by omega⟩
 ·exact .inr (.inr (Aad hb (by omega) fun m h1 h2 h3=>hex ⟨m,h1,h2,h3⟩))
theorem A27:HE.ok:=⟨fun x hx=>(by cases hx),⟨fun x hx=>(by cases hx),fun x hx=>(by cases hx)⟩⟩
section
variable {fu d:Nat}
theorem Aib(Bn:20000<=fu){b:Ca}(hb:Ii b)(hl:b.length<=1000000):
  Ar C0 prog fu (d+11) 26 [.lst false 1 b.length (Ac .u8 b)]=some ⟨[.agg (Ms KI b (K0 fu [] 0 b 0 [])).1.cells,At (Ms KI b (K0 fu [] 0 b 0 [])).2],[]⟩:=by
 refine (MA fu (d+10) b.length (Ac .u8 b)).trans ?_;have dec:=Ane (fu:=fu) (d:=d+5) (by omega) hb hl;obtain⟨hox,hln,hat⟩:=DM hb fu;generalize K0 fu [] 0 b 0 []=r at dec hat hox hln ⊢;obtain⟨its,used,e⟩:=r;simp only at hat hox hln;unfold HZ at dec;simp only at dec;unfold Ms;simp only;by_cases h5:b.length>4096
 ·rw[Bq h5]
  repeat(with_reducible(first|apply Aj|apply Ad|apply Ah|apply Ao|apply Bb|apply Ba|apply Au|apply Ae|apply Ai|apply Ct);· first|constructor|(simp(disch:=omega)only[Cu,Df]<;>first|constructor|omega)|omega)
  try simp(disch:=omega)only[Aa,Df]
  all_goals rfl
 rw[A5 h5];by_cases he:e=0
 rotate_left
 ·rw[Bq he];have Y6:(e != 0)=true:=by simp[he]
  repeat(with_reducible(first|apply Aj|apply Ad|apply Ah|apply Ao|apply Bb|apply Ba|apply Au|apply Ae|apply Ai|apply Ct);· first|constructor|(simp(disch:=omega)only[Cu,dec,Y6]<;>first|constructor|omega)|omega)
  try simp(disch:=omega)only[Aa,dec,Y6]
  all_goals rfl
 rw[A5 (by simp[he])];subst he;have e00:((0:Int) != 0)=false:=rfl;have e20:((2:Int) != 0)=true:=rfl;have LT:=Cw its;have tT:List.take (its.length*3) (Ay its)=Ay its:=Gv (by omega);have bo:=Aws (fu:=fu) (d:=d+6) (by omega) (l:=its) hox hln;have bk:=(Abr hox hln).1;generalize KI its=p at bo bk ⊢;obtain⟨m,q⟩:=p;simp only at bo bk;simp only[Md.cells] at bo;unfold UA;simp only;generalize Ay its=T at *
 generalize its.length=nT at *
 cases q
 ·rw[Bq rfl]
  repeat(with_reducible(first|apply Aj|apply Ad|apply Ah|apply Ao|apply Bb|apply Ba|apply Au|apply Ae|apply Ai|apply Ct);· first|constructor|(simp(disch:=omega)only[Cu,dec,e00,Es,Cm,LT,tT,bo,Cv,Ev]<;>first|constructor|omega)|omega)
  try simp(disch:=omega)only[Aa,dec,e00,Es,Cm,LT,tT,bo,Cv,Ev]
  all_goals rfl
 rw[A5 (by simp)];have ds:=Ano (xs:=Mm) (fu:=fu) (d:=d+8) (by omega) (l:=b.drop used) (fun x hx=>hb x (List.mem_of_mem_drop hx));rw[List.length_drop] at ds;have tb:List.take (b.length-used) (List.drop used (Ac .u8 b))=Ac .u8 (b.drop used):=by rw[Ha,Gv (by rw[Am,List.length_drop];omega)]
 have nu:Int.toNat (used:Int)=used:=H0 used;cases hs:sgD (b.drop used) with
 |none=>
  rw[hs] at ds;simp only[CF,Sg.owned] at ds
  repeat(with_reducible(first|apply Aj|apply Ad|apply Ah|apply Ao|apply Bb|apply Ba|apply Au|apply Ae|apply Ai|apply Ct);· first|constructor|(simp(disch:=omega)only[Cu,dec,e00,e20,Es,Cm,Df,LT,tT,bo,nu,tb,ds,Cv,Ev]<;>first|constructor|omega)|omega)
  try simp(disch:=omega)only[Aa,dec,e00,e20,Es,Cm,Df,LT,tT,bo,nu,tb,ds,Cv,Ev]
  all_goals rfl
 |some s=>
  rw[hs] at ds;simp only[CF,Sg.owned] at ds;obtain⟨s1,s2,s3⟩:=Ai7 hs;simp only;have cok:({ m with sig:=s }:Md).ok:=⟨fun x hx=>Ace (bk x hx),s1⟩
  have en:=Alo (fu:=fu) (d:=d) (m:={ m with sig:=s }) Bn cok.wf (Nat.le_trans s2 (by omega)) (Nat.lt_of_le_of_lt s2 (by omega));have ec:({ m with sig:=s }:Md).cells=[At m.ver,At m.iss,At m.nxt,.lst false 3 m.ents.length (B7 m.ents),At s.leaf,.lst false 1 s.chains.length (Ac .u64 s.chains),.lst false 1 s.path.length (Ac .u64 s.path)]:=rfl;have eB:∀h:Ds { m with sig:=s }=0,Ii (Fx { m with sig:=s }):=fun h y hy=>(Bz.1 hy).elim (KS cok.wf (Gr h).1 y) (Au1 s y)
  have eL:∀h:Ds { m with sig:=s }=0,(Fx { m with sig:=s }).length<=100000:=fun h=>by
   have h1:=Qv cok.wf (Gr h).1;have h2:=H7 (h:=s.path.length) (by simpa using (Gr h).2.1)
   have ls:(Sj s).length=2+8*s.chains.length+8*s.path.length:=by
    unfold Sj;simp only[G7,Fw,Da];omega
   show (Bi (A6 { m with sig:=s })++Sj s).length<=_;rw[Fw];omega
  have Lc:=Am .u64 s.chains;have Lp:=Am .u64 s.path;have tc:=Mb .u64 s.chains;have tp:=Mb .u64 s.path;generalize ({ m with sig:=s }:Md)=c at *
  rw[ec] at en;unfold Tm at en;by_cases hz:Ds c=0
  rotate_left
  ·have hz':(Ds c != 0)=true:=by simp[hz]
   rw[A5 hz] at en;rw[A5 (fun h=>hz h.1)]
   repeat(with_reducible(first|apply Aj|apply Ad|apply Ah|apply Ao|apply Bb|apply Ba|apply Au|apply Ae|apply Ai|apply Ct);· first|constructor|(simp(disch:=omega)only[Cu,dec,e00,e20,Es,Cm,Df,LT,tT,bo,nu,tb,ds,Lc,Lp,tc,tp,en,hz',Cv,Ev]<;>first|constructor|omega)|omega)
   try simp(disch:=omega)only[Aa,dec,e00,e20,Es,Cm,Df,LT,tT,bo,nu,tb,ds,Lc,Lp,tc,tp,en,hz',Cv,Ev]
   all_goals rfl
  rw[Bq hz] at en;have eL:=eL hz;have be:=XM (fu:=fu) (d:=d+9) (eB hz) hb;have LE:=Am .u8 (Fx c);have tE:=Mb .u8 (Fx c);by_cases hq:Fx c=b
  ·rw[Bq ⟨hz,hq⟩];simp only[hq,decide_true] at be en LE tE;simp only[ec]
   repeat(with_reducible(first|apply Aj|apply Ad|apply Ah|apply Ao|apply Bb|apply Ba|apply Au|apply Ae|apply Ai|apply Ct);· first|constructor|(simp(disch:=omega)only[Cu,dec,e00,e20,Es,Cm,Df,LT,tT,bo,nu,tb,ds,Lc,Lp,tc,tp,en,LE,tE,be,Cv,Ev]<;>first|constructor|omega)|omega)
   try simp(disch:=omega)only[Aa,dec,e00,e20,Es,Cm,Df,LT,tT,bo,nu,tb,ds,Lc,Lp,tc,tp,en,LE,tE,be,Cv,Ev]
   all_goals rfl
  ·rw[A5 (fun h=>hq h.2)];simp only[hq,decide_false] at be
   repeat(with_reducible(first|apply Aj|apply Ad|apply Ah|apply Ao|apply Bb|apply Ba|apply Au|apply Ae|apply Ai|apply Ct);· first|constructor|(simp(disch:=omega)only[Cu,dec,e00,e20,Es,Cm,Df,LT,tT,bo,nu,tb,ds,Lc,Lp,tc,tp,en,LE,tE,be,Cv,Ev]<;>first|constructor|omega)|omega)
   try simp(disch:=omega)only[Aa,dec,e00,e20,Es,Cm,Df,LT,tT,bo,nu,tb,ds,Lc,Lp,tc,tp,en,LE,tE,be,Cv,Ev]
   all_goals rfl
theorem Aew(Bn:20000<=fu){b:Ca}(hb:Ii b)(hl:b.length<=1000000):
  Ar C0 prog fu (d+11) 26 [.lst false 1 b.length (Ac .u8 b)]=some ⟨[.agg (M7 b).1.cells,At (M7 b).2],[]⟩:=by
 rw[<-Ari hb (k:=fu) (by omega)];exact Aib Bn hb hl
def Aiu(cur:Md)(b:Ca)(k:Ky)(now:Int):Md × Int:=
 if now<0\/1099511627776<now then (HE,9) else if (M7 b).2≠0 then (HE,(M7 b).2) else if (M7 b).1.ver<=cur.ver then (HE,7) else if Ahp (M7 b).1 k≠0 then (HE,Ahp (M7 b).1 k) else if now<(M7 b).1.iss\/(M7 b).1.nxt<now then (HE,19) else ((M7 b).1,0)
theorem Ahf(Bn:20000<=fu){b:Ca}(hb:Ii b)(hl:b.length<=1000000)(cur:Md)(k:Ky)(now:Int):
  Ar C0 prog fu (d+12) 27 [.agg cur.cells,.lst false 1 b.length (Ac .u8 b),.agg k.cells,At now]=some ⟨[.agg (Aiu cur b k now).1.cells,At (Aiu cur b k now).2],[]⟩:=by
 refine (KQ fu (d+11) cur.ver cur.iss cur.nxt cur.ents.length (B7 cur.ents) cur.sig.leaf cur.sig.chains.length (Ac .u64 cur.sig.chains) cur.sig.path.length (Ac .u64 cur.sig.path) b.length (Ac .u8 b) k.h k.root now).trans ?_;unfold Aiu;by_cases h1:now<0
 ·rw[Bq (.inl h1)]
  repeat(with_reducible(first|apply Aj|apply Ad|apply Ah|apply Ao|apply Bb|apply Ba|apply Au|apply Ae|apply Ai|apply Ct);· first|constructor|(simp(disch:=omega)only[Cu,Cv]<;>first|constructor|omega)|omega)
  try simp(disch:=omega)only[Aa,Cv]
  all_goals rfl
 by_cases h2:1099511627776<now
 ·rw[Bq (.inr h2)]
  repeat(with_reducible(first|apply Aj|apply Ad|apply Ah|apply Ao|apply Bb|apply Ba|apply Au|apply Ae|apply Ai|apply Ct);· first|constructor|(simp(disch:=omega)only[Cu,Cv]<;>first|constructor|omega)|omega)
  try simp(disch:=omega)only[Aa,Cv]
  all_goals rfl
 rw[A5 (by omega)];have dec:=Aew (fu:=fu) (d:=d) Bn hb hl;have dok:=Akx hb;generalize M7 b=r at dec dok ⊢;obtain⟨m,e⟩:=r;simp only at dec dok ⊢;simp only[Md.cells] at dec;by_cases h3:e=0
 rotate_left
 ·have h3':(e != 0)=true:=by simp[h3]
  rw[Bq h3]
  repeat(with_reducible(first|apply Aj|apply Ad|apply Ah|apply Ao|apply Bb|apply Ba|apply Au|apply Ae|apply Ai|apply Ct);· first|constructor|(simp(disch:=omega)only[Cu,dec,h3']<;>first|constructor|omega)|omega)
  try simp(disch:=omega)only[Aa,dec,h3']
  all_goals rfl
 subst h3;have e00:((0:Int) != 0)=false:=rfl
 have mk:m.ok:=by
  rcases dok with h|h|h
  ·exact h.2.1
  ·have:=congrArg Prod.snd h;simp at this
  ·have:=congrArg Prod.snd h;simp at this
 rw[A5 (by simp)];by_cases h4:m.ver<=cur.ver
 ·rw[Bq h4]
  repeat(with_reducible(first|apply Aj|apply Ad|apply Ah|apply Ao|apply Bb|apply Ba|apply Au|apply Ae|apply Ai|apply Ct);· first|constructor|(simp(disch:=omega)only[Cu,dec,e00]<;>first|constructor|omega)|omega)
  try simp(disch:=omega)only[Aa,dec,e00]
  all_goals rfl
 rw[A5 h4];have vr:=Ay4 (fu:=fu) (d:=d) (m:=m) Bn mk.wf k;simp only[Md.cells,Ky.cells] at vr;by_cases h5:Ahp m k=0
 rotate_left
 ·have h5':(Ahp m k != 0)=true:=by simp[h5]
  rw[Bq h5]
  repeat(with_reducible(first|apply Aj|apply Ad|apply Ah|apply Ao|apply Bb|apply Ba|apply Au|apply Ae|apply Ai|apply Ct);· first|constructor|(simp(disch:=omega)only[Cu,dec,e00,vr,h5']<;>first|constructor|omega)|omega)
  try simp(disch:=omega)only[Aa,dec,e00,vr,h5']
  all_goals rfl
 rw[A5 (by simp[h5])];rw[h5] at vr;by_cases h6:now<m.iss
 ·rw[Bq (.inl h6)]
  repeat(with_reducible(first|apply Aj|apply Ad|apply Ah|apply Ao|apply Bb|apply Ba|apply Au|apply Ae|apply Ai|apply Ct);· first|constructor|(simp(disch:=omega)only[Cu,dec,e00,vr]<;>first|constructor|omega)|omega)
  try simp(disch:=omega)only[Aa,dec,e00,vr]
  all_goals rfl
 by_cases h7:m.nxt<now
 ·rw[Bq (.inr h7)]
  repeat(with_reducible(first|apply Aj|apply Ad|apply Ah|apply Ao|apply Bb|apply Ba|apply Au|apply Ae|apply Ai|apply Ct);· first|constructor|(simp(disch:=omega)only[Cu,dec,e00,vr]<;>first|constructor|omega)|omega)
  try simp(disch:=omega)only[Aa,dec,e00,vr]
  all_goals rfl
 rw[A5 (by omega)];simp only[Md.cells]
 repeat(with_reducible(first|apply Aj|apply Ad|apply Ah|apply Ao|apply Bb|apply Ba|apply Au|apply Ae|apply Ai|apply Ct);· first|constructor|(simp(disch:=omega)only[Cu,dec,e00,vr]<;>first|constructor|omega)|omega)
 try simp(disch:=omega)only[Aa,dec,e00,vr]
 all_goals rfl
end
section
variable {fu d:Nat}
theorem Aog(s:ByteArray):Ar C0 prog fu (d+2) 95 [.sc (.string s)]=some ⟨[At (if s.size<1\/32<s.size then 9 else if okS s=false then 6 else 0)],[]⟩:=by
 refine (DG fu (d+1) s).trans ?_;by_cases e1:s.size<1
 ·rw[Bq (.inl e1)]
  repeat(with_reducible(first|apply Aj|apply Ad|apply Ah|apply Ao|apply Ax|apply Bb|apply Ba|apply Au|apply Ae|apply Ai|apply Ct);· first|constructor|(simp(disch:=omega)only[Cu,Cv]<;>first|constructor|omega)|omega)
  try simp(disch:=omega)only[Aa,Cv]
 by_cases e2:32<s.size
 ·rw[Bq (.inr e2)]
  repeat(with_reducible(first|apply Aj|apply Ad|apply Ah|apply Ao|apply Ax|apply Bb|apply Ba|apply Au|apply Ae|apply Ai|apply Ct);· first|constructor|(simp(disch:=omega)only[Cu,Cv]<;>first|constructor|omega)|omega)
  try simp(disch:=omega)only[Aa,Cv]
 rw[A5 (by omega)];have v1:=Vl (fu:=fu) (d:=d) s (by omega);cases e3:okS s
 ·rw[e3] at v1;rw[Bq rfl]
  repeat(with_reducible(first|apply Aj|apply Ad|apply Ah|apply Ao|apply Ax|apply Bb|apply Ba|apply Au|apply Ae|apply Ai|apply Ct);· first|constructor|(simp(disch:=omega)only[Cu,v1,Cv,Ev]<;>first|constructor|omega)|omega)
  try simp(disch:=omega)only[Aa,v1,Cv,Ev]
 ·rw[e3] at v1;rw[A5 (by simp)]
  repeat(with_reducible(first|apply Aj|apply Ad|apply Ah|apply Ao|apply Ax|apply Bb|apply Ba|apply Au|apply Ae|apply Ai|apply Ct);· first|constructor|(simp(disch:=omega)only[Cu,v1,Cv,Ev]<;>first|constructor|omega)|omega)
  try simp(disch:=omega)only[Aa,v1,Cv,Ev]
def Xc(e:Int)(l:List It):Ab:=if e=0 then [.own 3 l.length (Ay l),At 0] else [.own 3 0 [],At e]
theorem Qk{e:Int}{l:List It}(h:e≠0):Xc e l=[.own 3 0 [],At e]:=by unfold Xc;rw[A5 h]
theorem A5k(A:List It)(a b c:It):Ay A++[At a.k,Af a.n,.sc (.string a.s),At b.k,Af b.n,.sc (.string b.s),At c.k,Af c.n,.sc (.string c.s)]=Ay (A++[a,b,c]):=by rw[U8];rfl
theorem Bbo(A:List It)(a:It):Ay A++[At a.k,Af a.n,.sc (.string a.s)]=Ay (A++[a]):=by rw[U8];rfl
theorem A0g{C7:Int}{Ht Eb:Nat}{Ci Dw:Ab}{x:Me}(h2:x.sts.length<=4):∀(r:List Sa)(i nn:Nat)(p:Option Int)(A:List It),x.sts.drop i=r->r.length<nn->i<=x.sts.length ->
  ((i=0/\p=none)\/∃s',0<i/\x.sts[i-1]?=some s'/\p=some s'.at_)->A.length+3*r.length<=1000 ->
  Gh fu (Ar C0 prog fu (d+3)) C7 Ht Ci Eb Dw nn A.length (i:Int) x.model x.ans.length (Cz x.ans) x.sts.length (Dn x.sts) (Ay A) =
   some ⟨Xc (Eu p r) (A++(r.map Cp).flatten),[]⟩
 |_,_,0,_,_,_,h,_,_,_=>by omega
 |[],i,nn+1,p,A,hd,hn,hi,hp,hA=>by
  have hl:=drop_nil hd;have ei:i=x.sts.length:=by omega
  have Hc:Eu p []=0:=by unfold Eu;rfl
  have L:=Cw A;have t:List.take (A.length*3) (Ay A)=Ay A:=Gv (by omega);have e:A++(([]:List Sa).map Cp).flatten=A:=by simp
  rw[e,Hc];unfold Xc;rw[Bq rfl];subst ei;rw[He];generalize Ay A=C at *
  generalize A.length=n at *
  repeat(with_reducible(first|apply Aj|apply Ad|apply Ah|apply Ao|apply Ax|apply Bb|apply Ba|apply Au|apply Ae|apply Ai|apply Ct);· first|constructor|(simp(disch:=omega)only[Cu,L,t]<;>first|constructor|omega)|omega)
  try simp(disch:=omega)only[Aa,L,t]
  all_goals rfl
 |s::rs,i,nn+1,p,A,hd,hn,hi,hp,hA=>by
  obtain⟨q1,q2,q3⟩:=Dc hd;simp only[G7] at hn hA;obtain⟨c0,c1⟩:=saa q2;have nt:Int.toNat (i:Int)=i:=H0 _;have w1:=OR (fu:=fu) (d:=d+2) s.kd 1 4;have w2:=OR (fu:=fu) (d:=d+2) s.at_ 0 1099511627776
  have bad:∀{e:Int},Hf p s=e->e≠0->some (D0.mk [.own 3 0 [],At e] [])=some (D0.mk (Xc (Eu p (s::rs)) (A++((s::rs).map Cp).flatten)) []):=fun {e} h he=>by
   have:Eu p (s::rs)=e:=by rw[Eu,Bq (by rw[h];exact he),h]
   rw[this,Qk he]
  by_cases g1:s.kd<1\/4<s.kd
  ·have hb:Hf p s=9:=by unfold Hf;rw[Bq (by omega)]
   have:(decide ((1:Int)<=s.kd)&&decide (s.kd<=4))=false:=by simp;omega
   rw[this] at w1;rw[<-bad hb (by omega),He]
   repeat(with_reducible(first|apply Aj|apply Ad|apply Ah|apply Ao|apply Ax|apply Bb|apply Ba|apply Au|apply Ae|apply Ai|apply Ct);· first|constructor|(simp(disch:=omega)only[Cu,nt,c0,c1,w1,Cv,Ev]<;>first|constructor|omega)|omega)
   try simp(disch:=omega)only[Aa,nt,c0,c1,w1,Cv,Ev]
   all_goals rfl
  have z1:(decide ((1:Int)<=s.kd)&&decide (s.kd<=4))=true:=by simp;omega
  rw[z1] at w1;by_cases g3:s.at_<0\/1099511627776<s.at_
  ·have hb:Hf p s=9:=by unfold Hf;rw[Bq (by omega)]
   have:(decide ((0:Int)<=s.at_)&&decide (s.at_<=1099511627776))=false:=by simp;omega
   rw[this] at w2;rw[<-bad hb (by omega),He]
   repeat(with_reducible(first|apply Aj|apply Ad|apply Ah|apply Ao|apply Ax|apply Bb|apply Ba|apply Au|apply Ae|apply Ai|apply Ct);· first|constructor|(simp(disch:=omega)only[Cu,nt,c0,c1,w1,w2,Cv,Ev]<;>first|constructor|omega)|omega)
   try simp(disch:=omega)only[Aa,nt,c0,c1,w1,w2,Cv,Ev]
   all_goals rfl
  have z2:(decide ((0:Int)<=s.at_)&&decide (s.at_<=1099511627776))=true:=by simp;omega
  rw[z2] at w2;have S1:Hf none s=0:=by unfold Hf;rw[A5 (by omega)]
  have S0:∀q:Int,Hf (some q) s=if s.at_<=q then 7 else 0:=fun q=>by unfold Hf;rw[A5 (by omega)]
  have wk:wrap .u64 s.kd=s.kd:=Cd (by omega) (by omega);have wa:wrap .u64 s.at_=s.at_:=Cd (by omega) (by omega);have a2:=Qo (fu:=fu) (d:=d+2) 2 (by omega) (by omega);have u1:=Qf (fu:=fu) (d:=d+2) s.kd;have u2:=Qf (fu:=fu) (d:=d+2) s.at_;have w:wrap .i64 ((i:Int)+1)=((i+1:Nat):Int):=by rw[Ag (by omega) (by omega)];omega
  have L:=Cw A;have t:List.take (A.length*3) (Ay A)=Ay A:=Gv (by omega);have ea:=A5k A (D9 2) (Dy s.kd) (Dy s.at_);simp only[D9,Dy] at ea
  have eS:A++((s::rs).map Cp).flatten=(A++[D9 2,Dy s.kd,Dy s.at_])++(rs.map Cp).flatten:=by
   rw[Sf,List.flatten_cons,<-FC];rfl
  have hz:Hf p s=0->Eu p (s::rs)=Eu (some s.at_) rs:=fun h=>by rw[Eu,A5 (by simp[h])]
  have ih:=A0g (C7:=C7) (Ht:=Ht) (Eb:=Eb) (Ci:=Ci) (Dw:=Dw) h2 rs (i+1) nn (some s.at_) (A++[D9 2,Dy s.kd,Dy s.at_]) q3 (by omega) (by omega) (.inr ⟨s,by omega,by rw[Nat.add_sub_cancel];exact q2,rfl⟩) (by rw[Fw];simp only[G7,Vx];omega)
  have lA:(A++[D9 2,Dy s.kd,Dy s.at_]).length=A.length+3:=by rw[Fw];rfl
  rw[lA] at ih;simp only[D9,Dy] at ih eS;rw[He];rcases hp with⟨rfl,rfl⟩|⟨s',h0,h5,rfl⟩
  ·rw[eS,hz S1,<-ih];generalize Ay (A++[⟨5,2,Fv⟩,⟨1,s.kd,Fv⟩,⟨1,s.at_,Fv⟩])=C' at *
   generalize Ay A=C at *
   generalize A.length=n at *
   repeat(with_reducible(first|apply Aj|apply Ad|apply Ah|apply Ao|apply Ax|apply Bb|apply Ba|apply Au|apply Ae|apply Ai|apply Ct);· first|constructor|(simp(disch:=omega)only[Cu,nt,c0,c1,w1,w2,wk,wa,a2,u1,u2,L,t,ea,w,Cv,Ev]<;>first|constructor|omega)|omega)
   try simp(disch:=omega)only[Aa,nt,c0,c1,w1,w2,wk,wa,a2,u1,u2,L,t,ea,w,Cv,Ev]
   all_goals rfl
  ·obtain⟨b0,b1⟩:=saa h5;have wi:wrap .i64 ((i:Int)-1)=((i-1:Nat):Int):=by rw[Ag (by omega) (by omega)];omega
   have nt1:Int.toNat ((i-1:Nat):Int)=i-1:=H0 _;by_cases ho:s.at_<=s'.at_
   ·have hb:Hf (some s'.at_) s=7:=by rw[S0,Bq ho]
    rw[<-bad hb (by omega)]
    repeat(with_reducible(first|apply Aj|apply Ad|apply Ah|apply Ao|apply Ax|apply Bb|apply Ba|apply Au|apply Ae|apply Ai|apply Ct);· first|constructor|(simp(disch:=omega)only[Cu,nt,c0,c1,w1,w2,wi,nt1,b0,b1,Cv,Ev]<;>first|constructor|omega)|omega)
    try simp(disch:=omega)only[Aa,nt,c0,c1,w1,w2,wi,nt1,b0,b1,Cv,Ev]
    all_goals rfl
   ·have hb:Hf (some s'.at_) s=0:=by rw[S0,A5 ho]
    rw[eS,hz hb,<-ih];generalize Ay (A++[⟨5,2,Fv⟩,⟨1,s.kd,Fv⟩,⟨1,s.at_,Fv⟩])=C' at *
    generalize Ay A=C at *
    generalize A.length=n at *
    repeat(with_reducible(first|apply Aj|apply Ad|apply Ah|apply Ao|apply Ax|apply Bb|apply Ba|apply Au|apply Ae|apply Ai|apply Ct);· first|constructor|(simp(disch:=omega)only[Cu,nt,c0,c1,w1,w2,wi,nt1,b0,b1,wk,wa,a2,u1,u2,L,t,ea,w,Cv,Ev]<;>first|constructor|omega)|omega)
    try simp(disch:=omega)only[Aa,nt,c0,c1,w1,w2,wi,nt1,b0,b1,wk,wa,a2,u1,u2,L,t,ea,w,Cv,Ev]
    all_goals rfl
theorem A0p(Bn:1000<=fu){C7:Int}{Ht Eb:Nat}{Ci Dw:Ab}{x:Me}(h1:x.ans.length<=4)(h2:x.sts.length<=4):∀(r:List An)(i nn:Nat)(A:List It),x.ans.drop i=r->r.length<nn->i<=x.ans.length->A.length+3*r.length<=500 ->
  H8 fu (Ar C0 prog fu (d+3)) C7 Ht Ci Eb Dw nn A.length (i:Int) x.model x.ans.length (Cz x.ans) x.sts.length (Dn x.sts) (Ay A) =
   some ⟨Xc (if Dp r≠0 then Dp r else Eu none x.sts) (A++(r.map Cr).flatten++Dq (x.sts.map Cp)),[]⟩
 |_,_,0,_,_,h,_,_=>by omega
 |[],i,nn+1,A,hd,hn,hi,hA=>by
  have hl:=drop_nil hd;have ei:i=x.ans.length:=by omega
  have Hc:Dp []=0:=by unfold Dp;rfl
  have L:=Cw A;have t:List.take (A.length*3) (Ay A)=Ay A:=Gv (by omega);have a1:=Qo (fu:=fu) (d:=d+2) x.sts.length (by omega) (by omega);have ea:=Bbo A (D9 x.sts.length);simp only[D9] at ea
  have e:A++(([]:List An).map Cr).flatten++Dq (x.sts.map Cp)=(A++[D9 x.sts.length])++(x.sts.map Cp).flatten:=by
   unfold Dq;rw[List.map_nil,List.flatten_nil,List.append_nil,FC,List.length_map];rfl
  simp only[Vx] at hA;have l1:=A0g (fu:=fu) (d:=d) (C7:=C7) (Ht:=Ht) (Eb:=Eb) (Ci:=Ci) (Dw:=Dw) h2 x.sts 0 fu none (A++[D9 x.sts.length]) rfl (by omega) (by omega) (.inl ⟨rfl,rfl⟩) (by rw[Fw,List.length_singleton];omega)
  have lA:(A++[D9 x.sts.length]).length=A.length+1:=by rw[Fw];rfl
  have z0:((0:Nat):Int)=0:=rfl;rw[lA,z0] at l1;rw[e,Hc,A5 (by simp),<-l1];simp only[D9];subst ei;rw[Fo];generalize Ay (A++[⟨5,x.sts.length,Fv⟩])=C' at *
  generalize Ay A=C at *
  generalize A.length=n at *
  repeat(with_reducible(first|apply Aj|apply Ad|apply Ah|apply Ao|apply Ax|apply Bb|apply Ba|apply Au|apply Ae|apply Ai|apply Ct);· first|constructor|(simp(disch:=omega)only[Cu,L,t,a1,ea]<;>first|constructor|omega)|omega)
  try simp(disch:=omega)only[Aa,L,t,a1,ea]
  all_goals rfl
 |a::rs,i,nn+1,A,hd,hn,hi,hA=>by
  obtain⟨q1,q2,q3⟩:=Dc hd;simp only[G7] at hn hA;obtain⟨c0,c1,c2⟩:=ana q2;have c0':(Cz x.ans).getD (i*3+0) .top=.sc (.string a.name):=c0;have c2':(Cz x.ans).getD (i*3+1+1) .top=Af a.key.root:=c2;have nt:Int.toNat (i:Int)=i:=H0 _;have nm:=Aog (fu:=fu) (d:=d+1) a.name;have ek:=Aie (fu:=fu) (d:=d+1) Bn a.key;simp only[Ky.cells] at ek;have e00:((0:Int) != 0)=false:=rfl;have e90:((9:Int) != 0)=true:=rfl;have e60:((6:Int) != 0)=true:=rfl
  have bad:∀{e:Int},F1 a=e->e≠0->some (D0.mk [.own 3 0 [],At e] [])=some (D0.mk (Xc (if Dp (a::rs)≠0 then Dp (a::rs) else Eu none x.sts) (A++((a::rs).map Cr).flatten++Dq (x.sts.map Cp))) []):=fun {e} h he=>by
   have:Dp (a::rs)=e:=by rw[Dp,Bq (by rw[h];exact he),h]
   rw[this,Bq he,Qk he]
  by_cases e1:a.name.size<1\/32<a.name.size
  ·have hb:F1 a=9:=by unfold F1;rw[Bq e1]
   rw[Bq e1] at nm;rw[<-bad hb (by omega),Fo]
   repeat(with_reducible(first|apply Aj|apply Ad|apply Ah|apply Ao|apply Ax|apply Bb|apply Ba|apply Au|apply Ae|apply Ai|apply Ct);· first|constructor|(simp(disch:=omega)only[Cu,nt,c0',nm,e90,Cv,Ev]<;>first|constructor|omega)|omega)
   try simp(disch:=omega)only[Aa,nt,c0',nm,e90,Cv,Ev]
   all_goals rfl
  rw[A5 e1] at nm;cases e3:okS a.name
  ·have hb:F1 a=6:=by unfold F1;rw[A5 e1,Bq e3]
   rw[e3,Bq rfl] at nm;rw[<-bad hb (by omega),Fo]
   repeat(with_reducible(first|apply Aj|apply Ad|apply Ah|apply Ao|apply Ax|apply Bb|apply Ba|apply Au|apply Ae|apply Ai|apply Ct);· first|constructor|(simp(disch:=omega)only[Cu,nt,c0',nm,e60,Cv,Ev]<;>first|constructor|omega)|omega)
   try simp(disch:=omega)only[Aa,nt,c0',nm,e60,Cv,Ev]
   all_goals rfl
  rw[e3,A5 (by simp)] at nm;cases e5:D1 a.key.h
  rotate_left
  ·have hb:F1 a=9:=by unfold F1;rw[A5 e1,A5 (by simp[e3]),Bq e5]
   rw[e5,Bq rfl] at ek;rw[<-bad hb (by omega),Fo]
   repeat(with_reducible(first|apply Aj|apply Ad|apply Ah|apply Ao|apply Ax|apply Bb|apply Ba|apply Au|apply Ae|apply Ai|apply Ct);· first|constructor|(simp(disch:=omega)only[Cu,nt,c0',c1,c2',nm,ek,e00,e90,Cv,Ev]<;>first|constructor|omega)|omega)
   try simp(disch:=omega)only[Aa,nt,c0',c1,c2',nm,ek,e00,e90,Cv,Ev]
   all_goals rfl
  rw[e5,A5 (by simp)] at ek;have hz:F1 a=0:=by unfold F1;rw[A5 e1,A5 (by simp[e3]),A5 (by simp[e5])]
  have a2:=Qo (fu:=fu) (d:=d+2) 2 (by omega) (by omega);have u1:=Arn (fu:=fu) (d:=d+2) a.name;have u2:=Avc (fu:=fu) (d:=d+2) (Ij a.key);have k9:(Ij a.key).length=9:=rfl;rw[k9] at u2;have L9:=Am .u8 (Ij a.key);rw[k9] at L9;have tk9:List.take 9 (Ac .u8 (Ij a.key))=Ac .u8 (Ij a.key):=Gv (by omega);have w:wrap .i64 ((i:Int)+1)=((i+1:Nat):Int):=by rw[Ag (by omega) (by omega)];omega
  have L:=Cw A;have t:List.take (A.length*3) (Ay A)=Ay A:=Gv (by omega);have ea:=A5k A (D9 2) ⟨4,0,a.name⟩ ⟨3,0,Bj (Ij a.key)⟩;simp only[D9] at ea
  have eS:A++((a::rs).map Cr).flatten=(A++[D9 2,⟨4,0,a.name⟩,⟨3,0,Bj (Ij a.key)⟩])++(rs.map Cr).flatten:=by
   rw[Sf,List.flatten_cons,<-FC];rfl
  have hgo:Dp (a::rs)=Dp rs:=by rw[Dp,A5 (by simp[hz])]
  have ih:=A0p Bn (C7:=C7) (Ht:=Ht) (Eb:=Eb) (Ci:=Ci) (Dw:=Dw) h1 h2 rs (i+1) nn (A++[D9 2,⟨4,0,a.name⟩,⟨3,0,Bj (Ij a.key)⟩]) q3 (by omega) (by omega) (by rw[Fw];simp only[G7,Vx];omega)
  have lA:(A++[D9 2,⟨4,0,a.name⟩,⟨3,0,Bj (Ij a.key)⟩]).length=A.length+3:=by rw[Fw];rfl
  rw[lA] at ih;rw[Fo,eS,hgo,<-ih];simp only[D9];generalize Ay (A++[⟨5,2,Fv⟩,⟨4,0,a.name⟩,⟨3,0,Bj (Ij a.key)⟩])=C' at *
  generalize Ay A=C at *
  generalize A.length=n at *
  generalize Ac .u8 (Ij a.key)=KB at *
  repeat(with_reducible(first|apply Aj|apply Ad|apply Ah|apply Ao|apply Ax|apply Bb|apply Ba|apply Au|apply Ae|apply Ai|apply Ct);· first|constructor|(simp(disch:=omega)only[Cu,nt,c0',c1,c2',nm,ek,e00,a2,u1,u2,L9,tk9,L,t,ea,w,Cm,Df,Es,Cv,Ev]<;>first|constructor|omega)|omega)
  try simp(disch:=omega)only[Aa,nt,c0',c1,c2',nm,ek,e00,a2,u1,u2,L9,tk9,L,t,ea,w,Cm,Df,Es,Cv,Ev]
  all_goals rfl
theorem A4i(Bn:1000<=fu)(x:Me):Ar C0 prog fu (d+4) 58 [.agg x.cells]=some ⟨Xc (C4 x) (A7 x),[]⟩:=by
 refine (CV fu (d+3) x.model x.ans.length (Cz x.ans) x.sts.length (Dn x.sts)).trans ?_;by_cases h1:4<x.ans.length
 ·have hb:C4 x=8:=by unfold C4;rw[Bq (.inl h1)]
  rw[hb,Qk (by omega)]
  repeat(with_reducible(first|apply Aj|apply Ad|apply Ah|apply Ao|apply Ax|apply Bb|apply Ba|apply Au|apply Ae|apply Ai|apply Ct);· first|constructor|(simp(disch:=omega)only[Cu,Cv]<;>first|constructor|omega)|omega)
  try simp(disch:=omega)only[Aa,Cv]
  all_goals rfl
 by_cases h2:4<x.sts.length
 ·have hb:C4 x=8:=by unfold C4;rw[Bq (.inr h2)]
  rw[hb,Qk (by omega)]
  repeat(with_reducible(first|apply Aj|apply Ad|apply Ah|apply Ao|apply Ax|apply Bb|apply Ba|apply Au|apply Ae|apply Ai|apply Ct);· first|constructor|(simp(disch:=omega)only[Cu,Cv]<;>first|constructor|omega)|omega)
  try simp(disch:=omega)only[Aa,Cv]
  all_goals rfl
 have hb:C4 x=if Dp x.ans≠0 then Dp x.ans else Eu none x.sts:=by unfold C4;rw[A5 (by omega)]
 have a3:=Qo (fu:=fu) (d:=d+2) 3 (by omega) (by omega);have a4:=Qo (fu:=fu) (d:=d+2) x.ans.length (by omega) (by omega);have u:=Qf (fu:=fu) (d:=d+2) x.model;have l0:=A0p (fu:=fu) (d:=d) Bn (C7:=x.model) (Ht:=x.ans.length) (Eb:=x.sts.length) (Ci:=Cz x.ans) (Dw:=Dn x.sts) (x:=x) (by omega) (by omega) x.ans 0 fu [D9 3,Dy x.model,D9 x.ans.length] rfl (by omega) (by omega) (by simp only[G7,Vx];omega)
 have z0:((0:Nat):Int)=0:=rfl
 have e:A7 x=[D9 3,Dy x.model,D9 x.ans.length]++(x.ans.map Cr).flatten++Dq (x.sts.map Cp):=by
  simp only[A7,Vs,List.flatten_cons,List.flatten_nil,List.append_nil,Zzp,SR,FC];unfold Dq;rw[List.length_map,List.length_map];rfl
 have eT:Ay [D9 3,Dy x.model,D9 x.ans.length]=[At 5,Af 3,.sc (.string Fv),At 1,Af x.model,.sc (.string Fv),At 5,Af x.ans.length,.sc (.string Fv)]:=rfl;have eL:[D9 3,Dy x.model,D9 x.ans.length].length=3:=rfl;rw[z0,eT,eL] at l0;rw[hb,e,<-l0]
 repeat(with_reducible(first|apply Aj|apply Ad|apply Ah|apply Ao|apply Ax|apply Bb|apply Ba|apply Au|apply Ae|apply Ai|apply Ct);· first|constructor|(simp(disch:=omega)only[Cu,a3,a4,u]<;>first|constructor|omega)|omega)
 try simp(disch:=omega)only[Aa,a3,a4,u]
 all_goals rfl
theorem Azj(Bn:1000<=fu){C7 Ci Dw AH:Int}{Ol O6 Oh:Nat}{AJ AD Zm:Ab}{m:Md}(hw:m.wf)(h3:m.ents.length<=16)(h0:Bu m=Dj none m.ents):∀(r:List Me)(i nn:Nat)(p:Option Int)(A:List It),m.ents.drop i=r->r.length<nn->i<=m.ents.length ->
  ((i=0/\p=none)\/∃x',0<i/\m.ents[i-1]?=some x'/\p=some x'.model)->A++(r.map A7).flatten=A6 m->(Dj p r=0->Dj none m.ents=0)->Dj none m.ents=Dj p r->A.length+28*r.length<=500 ->
  Fe fu (Ar C0 prog fu (d+4)) C7 Ci Dw Ol AJ AH O6 AD Oh Zm nn A.length (i:Int) m.ver m.iss m.nxt m.ents.length (B7 m.ents) m.sig.leaf m.sig.chains.length (Ac .u64 m.sig.chains) m.sig.path.length (Ac .u64 m.sig.path) (Ay A)=some ⟨J1 m,[]⟩
 |_,_,0,_,_,_,h,_,_,_,_,_,_=>by omega
 |[],i,nn+1,p,A,hd,hn,hi,hp,hM,hz,hE,hA=>by
  have hl:=drop_nil hd;have ei:i=m.ents.length:=by omega
  have Hc:Dj p []=0:=by unfold Dj;rfl
  have hm0:Bu m=0:=by rw[h0,hz Hc]
  rw[List.map_nil,List.flatten_nil,List.append_nil] at hM;subst hM;obtain⟨vm,fm,lm⟩:=Uh hw hm0;have bi:=An3 (fu:=fu) (d:=d) (its:=A6 m) (fun x hx=>⟨(fm x hx).1,(fm x hx).2.1⟩) (by omega) Bn;unfold J1;rw[Bq hm0];have L:=Cw (A6 m);have t:List.take ((A6 m).length*3) (Ay (A6 m))=Ay (A6 m):=Gv (by omega);have LB:=Am .u8 (Bi (A6 m));have tB:=Mb .u8 (Bi (A6 m));subst ei;rw[K9];generalize Bi (A6 m)=B at *
  generalize Ay (A6 m)=C at *
  generalize (A6 m).length=n at *
  repeat(with_reducible(first|apply Aj|apply Ad|apply Ah|apply Ao|apply Ax|apply Bb|apply Ba|apply Au|apply Ae|apply Ai|apply Ct);· first|constructor|(simp(disch:=omega)only[Cu,L,t,bi,LB,tB,Cm,Df,Es]<;>first|constructor|omega)|omega)
  try simp(disch:=omega)only[Aa,L,t,bi,LB,tB,Cm,Df,Es]
  all_goals rfl
 |x::rs,i,nn+1,p,A,hd,hn,hi,hp,hM,hz,hE,hA=>by
  obtain⟨q1,q2,q3⟩:=Dc hd;simp only[G7] at hn hA;obtain⟨c0,c1,c2⟩:=mea q2;have c0':(B7 m.ents).getD (i*3+0) .top=Af x.model:=c0;have c2':(B7 m.ents).getD (i*3+1+1) .top=.lst false 2 x.sts.length (Dn x.sts):=c2;have nt:Int.toNat (i:Int)=i:=H0 _;have hxm:=hw.mod x (List.mem_of_getElem? q2);have en:=A4i (fu:=fu) (d:=d) Bn x;simp only[Me.cells] at en;have w:wrap .i64 ((i:Int)+1)=((i+1:Nat):Int):=by rw[Ag (by omega) (by omega)];omega
  have O1:J3 none x=0:=rfl;have O0:∀q:Int,J3 (some q) x=if x.model<=q then 7 else 0:=fun q=>rfl
  have LA:=Cw A;have tA:List.take (A.length*3) (Ay A)=Ay A:=Gv (by omega);have ea:=(U8 A (A7 x)).symm;have LE:=Cw (A7 x);have tE:List.take ((A7 x).length*3) (Ay (A7 x))=Ay (A7 x):=Gv (by omega);have e00:((0:Int) != 0)=false:=rfl;have hgo:J3 p x=0->C4 x=0->Dj p (x::rs)=Dj (some x.model) rs:=fun h h'=>by rw[Dj,A5 (by simp[h]),A5 (by simp[h'])]
  have Agk:J3 p x=0->C4 x≠0->Dj p (x::rs)=C4 x:=fun h h'=>by rw[Dj,A5 (by simp[h]),Bq h']
  have A2t:J3 p x=7->Dj p (x::rs)=7:=fun h=>by rw[Dj,Bq (by rw[h];omega),h]
  have bad:∀{e:Int},Dj p (x::rs)=e->e≠0->some (D0.mk [.own 1 0 [],At e] [])=some (D0.mk (J1 m) []):=fun {e} h he=>by unfold J1;rw[h0,hE,h,A5 he]
  have lA:(A++A7 x).length=A.length+(A7 x).length:=Fw;have ih:=fun (h:J3 p x=0) (h':C4 x=0)=>Azj Bn (C7:=C7) (Ci:=Ci) (Dw:=Dw) (AH:=AH) (Ol:=Ol) (O6:=O6) (Oh:=Oh) (AJ:=AJ) (AD:=AD) (Zm:=Zm) hw h3 h0 rs (i+1) nn (some x.model) (A++A7 x) q3 (by omega) (by omega) (.inr ⟨x,by omega,by rw[Nat.add_sub_cancel];exact q2,rfl⟩) (by rw[<-hM,Sf,List.flatten_cons,FC]) (fun e=>hz (by rw[hgo h h'];exact e)) (by rw[hE,hgo h h']) (by have:=(Wu hxm h').2.2;omega)
  rw[K9];rcases hp with⟨rfl,rfl⟩|⟨x',h9,h5,rfl⟩
  ·by_cases he:C4 x=0
   ·have le:=(Wu hxm he).2.2;have ih:=ih O1 he;unfold Xc at en;rw[Bq he] at en;rw[lA] at ih;rw[<-ih];generalize Ay (A++A7 x)=C' at *
    generalize Ay A=C at *
    generalize A.length=n at *
    generalize Ay (A7 x)=TE at *
    generalize (A7 x).length=nE at *
    repeat(with_reducible(first|apply Aj|apply Ad|apply Ah|apply Ao|apply Ax|apply Bb|apply Ba|apply Au|apply Ae|apply Ai|apply Ct);· first|constructor|(simp(disch:=omega)only[Cu,nt,c0,c1,c2',en,e00,LE,tE,LA,tA,ea,w,Cm,Df,Es]<;>first|constructor|omega)|omega)
    try simp(disch:=omega)only[Aa,nt,c0,c1,c2',en,e00,LE,tE,LA,tA,ea,w,Cm,Df,Es]
    all_goals rfl
   ·rw[Qk he] at en;have Gz:(C4 x != 0)=true:=by simp[he]
    rw[<-bad (Agk O1 he) he]
    repeat(with_reducible(first|apply Aj|apply Ad|apply Ah|apply Ao|apply Ax|apply Bb|apply Ba|apply Au|apply Ae|apply Ai|apply Ct);· first|constructor|(simp(disch:=omega)only[Cu,nt,c0,c1,c2',en,Gz]<;>first|constructor|omega)|omega)
    try simp(disch:=omega)only[Aa,nt,c0,c1,c2',en,Gz]
    all_goals rfl
  ·obtain⟨b0,b1,b2⟩:=mea h5;have b0':(B7 m.ents).getD ((i-1)*3+0) .top=Af x'.model:=b0;have wi:wrap .i64 ((i:Int)-1)=((i-1:Nat):Int):=by rw[Ag (by omega) (by omega)];omega
   have nt1:Int.toNat ((i-1:Nat):Int)=i-1:=H0 _;by_cases ho:x.model<=x'.model
   ·have h7:J3 (some x'.model) x=7:=by rw[O0,Bq ho]
    rw[<-bad (A2t h7) (by omega)]
    repeat(with_reducible(first|apply Aj|apply Ad|apply Ah|apply Ao|apply Ax|apply Bb|apply Ba|apply Au|apply Ae|apply Ai|apply Ct);· first|constructor|(simp(disch:=omega)only[Cu,nt,c0',c0,c1,c2',wi,nt1,b0']<;>first|constructor|omega)|omega)
    try simp(disch:=omega)only[Aa,nt,c0',c0,c1,c2',wi,nt1,b0']
    all_goals rfl
   ·have h7:J3 (some x'.model) x=0:=by rw[O0,A5 ho]
    by_cases he:C4 x=0
    ·have le:=(Wu hxm he).2.2;have ih:=ih h7 he;unfold Xc at en;rw[Bq he] at en;rw[lA] at ih;rw[<-ih];generalize Ay (A++A7 x)=C' at *
     generalize Ay A=C at *
     generalize A.length=n at *
     generalize Ay (A7 x)=TE at *
     generalize (A7 x).length=nE at *
     repeat(with_reducible(first|apply Aj|apply Ad|apply Ah|apply Ao|apply Ax|apply Bb|apply Ba|apply Au|apply Ae|apply Ai|apply Ct);· first|constructor|(simp(disch:=omega)only[Cu,nt,c0',c0,c1,c2',wi,nt1,b0',en,e00,LE,tE,LA,tA,ea,w,Cm,Df,Es]<;>first|constructor|omega)|omega)
     try simp(disch:=omega)only[Aa,nt,c0',c0,c1,c2',wi,nt1,b0',en,e00,LE,tE,LA,tA,ea,w,Cm,Df,Es]
     all_goals rfl
    ·rw[Qk he] at en;have Gz:(C4 x != 0)=true:=by simp[he]
     rw[<-bad (Agk h7 he) he]
     repeat(with_reducible(first|apply Aj|apply Ad|apply Ah|apply Ao|apply Ax|apply Bb|apply Ba|apply Au|apply Ae|apply Ai|apply Ct);· first|constructor|(simp(disch:=omega)only[Cu,nt,c0',c0,c1,c2',wi,nt1,b0',en,Gz]<;>first|constructor|omega)|omega)
     try simp(disch:=omega)only[Aa,nt,c0',c0,c1,c2',wi,nt1,b0',en,Gz]
     all_goals rfl
theorem Aab(Bn:1000<=fu){m:Md}(hw:m.wf):Ar C0 prog fu (d+5) 31 [.agg m.cells]=some ⟨J1 m,[]⟩:=by
 refine (Y2 fu (d+4) m.ver m.iss m.nxt m.ents.length (B7 m.ents) m.sig.leaf m.sig.chains.length (Ac .u64 m.sig.chains) m.sig.path.length (Ac .u64 m.sig.path)).trans ?_;have bad:∀{e:Int},Bu m=e->e≠0->some (D0.mk [.own 1 0 [],At e] [])=some (D0.mk (J1 m) []):=fun {e} h he=>by unfold J1;rw[h,A5 he]
 have w1:=OR (fu:=fu) (d:=d+3) m.ver 1 16;by_cases h1:m.ver<1\/16<m.ver
 ·have hb:Bu m=9:=by unfold Bu;rw[Bq h1]
  have:(decide ((1:Int)<=m.ver)&&decide (m.ver<=16))=false:=by simp;omega
  rw[this] at w1;rw[<-bad hb (by omega)]
  repeat(with_reducible(first|apply Aj|apply Ad|apply Ah|apply Ao|apply Ax|apply Bb|apply Ba|apply Au|apply Ae|apply Ai|apply Ct);· first|constructor|(simp(disch:=omega)only[Cu,w1,Cv,Ev]<;>first|constructor|omega)|omega)
  try simp(disch:=omega)only[Aa,w1,Cv,Ev]
  all_goals rfl
 have z1:(decide ((1:Int)<=m.ver)&&decide (m.ver<=16))=true:=by simp;omega
 rw[z1] at w1;by_cases h2:m.iss<0\/m.nxt<m.iss\/1099511627776<m.nxt
 ·have hb:Bu m=9:=by unfold Bu;rw[A5 h1,Bq h2]
  rw[<-bad hb (by omega)];by_cases h2':m.iss<0
  ·skip
   repeat(with_reducible(first|apply Aj|apply Ad|apply Ah|apply Ao|apply Ax|apply Bb|apply Ba|apply Au|apply Ae|apply Ai|apply Ct);· first|constructor|(simp(disch:=omega)only[Cu,w1,Cv]<;>first|constructor|omega)|omega)
   try simp(disch:=omega)only[Aa,w1,Cv]
   all_goals rfl
  by_cases Bcc:m.nxt<m.iss
  ·skip
   repeat(with_reducible(first|apply Aj|apply Ad|apply Ah|apply Ao|apply Ax|apply Bb|apply Ba|apply Au|apply Ae|apply Ai|apply Ct);· first|constructor|(simp(disch:=omega)only[Cu,w1,Cv]<;>first|constructor|omega)|omega)
   try simp(disch:=omega)only[Aa,w1,Cv]
   all_goals rfl
  ·skip
   repeat(with_reducible(first|apply Aj|apply Ad|apply Ah|apply Ao|apply Ax|apply Bb|apply Ba|apply Au|apply Ae|apply Ai|apply Ct);· first|constructor|(simp(disch:=omega)only[Cu,w1,Cv]<;>first|constructor|omega)|omega)
   try simp(disch:=omega)only[Aa,w1,Cv]
   all_goals rfl
 by_cases h3:16<m.ents.length
 ·have hb:Bu m=8:=by unfold Bu;rw[A5 h1,A5 h2,Bq h3]
  rw[<-bad hb (by omega)]
  repeat(with_reducible(first|apply Aj|apply Ad|apply Ah|apply Ao|apply Ax|apply Bb|apply Ba|apply Au|apply Ae|apply Ai|apply Ct);· first|constructor|(simp(disch:=omega)only[Cu,w1,Cv]<;>first|constructor|omega)|omega)
  try simp(disch:=omega)only[Aa,w1,Cv]
  all_goals rfl
 have hb:Bu m=Dj none m.ents:=by unfold Bu;rw[A5 h1,A5 h2,A5 h3]
 have a4:=Qo (fu:=fu) (d:=d+3) 4 (by omega) (by omega);have aE:=Qo (fu:=fu) (d:=d+3) m.ents.length (by omega) (by omega);have u1:=Qf (fu:=fu) (d:=d+3) m.ver;have u2:=Qf (fu:=fu) (d:=d+3) m.iss;have u3:=Qf (fu:=fu) (d:=d+3) m.nxt;have x1:wrap .u64 m.ver=m.ver:=Cd (by omega) (by omega);have x2:wrap .u64 m.iss=m.iss:=Cd (by omega) (by omega);have x3:wrap .u64 m.nxt=m.nxt:=Cd (by omega) (by omega);have eT:Ay [D9 4,Dy m.ver,Dy m.iss,Dy m.nxt,D9 m.ents.length]=[At 5,Af 4,.sc (.string Fv),At 1,Af m.ver,.sc (.string Fv),At 1,Af m.iss,.sc (.string Fv),At 1,Af m.nxt,.sc (.string Fv),At 5,Af m.ents.length,.sc (.string Fv)]:=rfl
 have eL:[D9 4,Dy m.ver,Dy m.iss,Dy m.nxt,D9 m.ents.length].length=5:=rfl
 have l0:=Azj (fu:=fu) (d:=d) Bn (C7:=m.ver) (Ci:=m.iss) (Dw:=m.nxt) (Ol:=m.ents.length) (AJ:=B7 m.ents) (AH:=m.sig.leaf) (O6:=m.sig.chains.length) (AD:=Ac .u64 m.sig.chains) (Oh:=m.sig.path.length) (Zm:=Ac .u64 m.sig.path) hw (by omega) hb m.ents 0 fu none [D9 4,Dy m.ver,Dy m.iss,Dy m.nxt,D9 m.ents.length] rfl (by omega) (by omega) (.inl ⟨rfl,rfl⟩) (by
  simp only[A6,Np,List.flatten_cons,List.flatten_nil,List.append_nil,Zzp,SR];unfold Dq;rw[List.length_map]) (fun h=>h) rfl (by simp only[G7,Vx];omega)
 have z0:((0:Nat):Int)=0:=rfl;rw[z0,eT,eL] at l0;rw[<-l0]
 repeat(with_reducible(first|apply Aj|apply Ad|apply Ah|apply Ao|apply Ax|apply Bb|apply Ba|apply Au|apply Ae|apply Ai|apply Ct);· first|constructor|(simp(disch:=omega)only[Cu,w1,a4,aE,u1,u2,u3,x1,x2,x3,Cv]<;>first|constructor|omega)|omega)
 try simp(disch:=omega)only[Aa,w1,a4,aE,u1,u2,u3,x1,x2,x3,Cv]
 all_goals rfl
end
section
variable {fu d:Nat}{m:Md}
theorem Ahr(Bn:20000<=fu)(hw:m.wf)(hp:m.sig.path.length<=1000000000):Ar C0 prog fu (d+6) 21 [.agg m.cells]=some ⟨Tm m,[]⟩:=by
 refine (V5 fu (d+5) m.ver m.iss m.nxt m.ents.length (B7 m.ents) m.sig.leaf m.sig.chains.length (Ac .u64 m.sig.chains) m.sig.path.length (Ac .u64 m.sig.path)).trans ?_;have bq:=Aab (fu:=fu) (d:=d) (by omega) hw;simp only[Md.cells] at bq;have es:=Akf (fu:=fu) (d:=d+3) (by omega) m.sig hp;simp only[Sg.cells] at es;unfold J1 at bq;unfold Tm Ds;by_cases h0:Bu m=0
 ·have lb:=Qv hw h0;rw[Bq h0] at bq;rw[Bq h0];have L1:=Am .u8 (Bi (A6 m));have t1:=Mb .u8 (Bi (A6 m));have e00:((0:Int) != 0)=false:=rfl;have e90:((9:Int) != 0)=true:=rfl;have e40:((4:Int) != 0)=true:=rfl;unfold NE;by_cases g1:D1 m.sig.path.length=true
  ·rw[Bq g1] at es;rw[Bq g1,A5 (by omega)]
   repeat(with_reducible(first|apply Aj|apply Ad|apply Ah|apply Ao|apply Ax|apply Bb|apply Ba|apply Au|apply Ae|apply Ai|apply Ct);· first|constructor|(simp(disch:=omega)only[Cu,bq,es,e00,e90]<;>first|constructor|omega)|omega)
   try simp(disch:=omega)only[Aa,bq,es,e00,e90]
   all_goals rfl
  rw[A5 g1] at es;rw[A5 g1];by_cases g2:Js m.sig.leaf m.sig.path.length=true
  ·rw[Bq g2] at es;rw[Bq g2,A5 (by omega)]
   repeat(with_reducible(first|apply Aj|apply Ad|apply Ah|apply Ao|apply Ax|apply Bb|apply Ba|apply Au|apply Ae|apply Ai|apply Ct);· first|constructor|(simp(disch:=omega)only[Cu,bq,es,e00,e90]<;>first|constructor|omega)|omega)
   try simp(disch:=omega)only[Aa,bq,es,e00,e90]
   all_goals rfl
  rw[A5 g2] at es;rw[A5 g2];by_cases g3:m.sig.chains.length≠18
  ·rw[Bq g3] at es;rw[Bq g3,A5 (by omega)]
   repeat(with_reducible(first|apply Aj|apply Ad|apply Ah|apply Ao|apply Ax|apply Bb|apply Ba|apply Au|apply Ae|apply Ai|apply Ct);· first|constructor|(simp(disch:=omega)only[Cu,bq,es,e00,e40]<;>first|constructor|omega)|omega)
   try simp(disch:=omega)only[Aa,bq,es,e00,e40]
   all_goals rfl
  rw[A5 g3] at es;rw[A5 g3,Bq rfl];have hb4:=H7 (h:=m.sig.path.length) (by simpa using g1)
  have ls:(Sj m.sig).length=2+8*m.sig.chains.length+8*m.sig.path.length:=by
   unfold Sj;simp only[G7,Fw,Da];omega
  have L2:=Am .u8 (Sj m.sig);have t2:=Mb .u8 (Sj m.sig)
  have ea:Ac .u8 (Bi (A6 m))++Ac .u8 (Sj m.sig)=Ac .u8 (Fx m):=by
   unfold Fx;rw[Ac,Ac,Ac,List.flatMap_append]
  have le:(Fx m).length=(Bi (A6 m)).length+(Sj m.sig).length:=by unfold Fx;rw[Fw]
  have L3:=Am .u8 (Fx m);have t3:List.take ((Bi (A6 m)).length+(Sj m.sig).length) (Ac .u8 (Fx m))=Ac .u8 (Fx m):=Gv (by omega);rw[le] at L3 ⊢;generalize (Bi (A6 m)).length=n1 at *
  generalize (Sj m.sig).length=n2 at *
  generalize Ac .u8 (Bi (A6 m))=c1 at *
  generalize Ac .u8 (Sj m.sig)=c2 at *
  repeat(with_reducible(first|apply Aj|apply Ad|apply Ah|apply Ao|apply Ax|apply Bb|apply Ba|apply Au|apply Ae|apply Ai|apply Ct);· first|constructor|(simp(disch:=omega)only[Cu,bq,es,e00,Df,Cm,Es,L1,t1,L2,t2,ea,L3,t3]<;>first|constructor|omega)|omega)
  try simp(disch:=omega)only[Aa,bq,es,e00,Df,Cm,Es,L1,t1,L2,t2,ea,L3,t3]
  all_goals rfl
 ·have Gz:(Bu m != 0)=true:=by simp[h0]
  rw[A5 h0] at bq;rw[A5 h0,A5 h0]
  repeat(with_reducible(first|apply Aj|apply Ad|apply Ah|apply Ao|apply Ax|apply Bb|apply Ba|apply Au|apply Ae|apply Ai|apply Ct);· first|constructor|(simp(disch:=omega)only[Cu,bq,Gz]<;>first|constructor|omega)|omega)
  try simp(disch:=omega)only[Aa,bq,Gz]
  all_goals rfl
theorem Aoi(Bn:20000<=fu)(hw:m.wf)(seed h:Int):Ar C0 prog fu (d+13) 12 [.agg m.cells,Af seed,At h]=some ⟨[.agg (Rx m seed h).1.cells,At (Rx m seed h).2],[]⟩:=by
 refine (Za fu (d+12) m.ver m.iss m.nxt m.ents.length (B7 m.ents) m.sig.leaf m.sig.chains.length (Ac .u64 m.sig.chains) m.sig.path.length (Ac .u64 m.sig.path) seed h).trans ?_;have bq:=Aab (fu:=fu) (d:=d+7) (by omega) hw;simp only[Md.cells] at bq;unfold J1 at bq;unfold Rx;by_cases h0:Bu m=0
 ·have lb:=Qv hw h0;rw[Bq h0] at bq;rw[Bq h0];have hv:=Kl h0;have e00:((0:Int) != 0)=false:=rfl;have e90:((9:Int) != 0)=true:=rfl;have w:wrap .i64 (m.ver-1)=m.ver-1:=Ag (by omega) (by omega);have hh:=Ahl (xs:=Mm) (fu:=fu) (d:=d+8) (KS hw h0) (by omega) (by omega) (by omega) 15;have sg:=Ard (fu:=fu) (d:=d) (by omega) seed h (m.ver-1) (Vb m);have eW:S4 15 (Bi (A6 m))=Vb m:=rfl;rw[eW] at hh;have L1:=Am .u8 (Bi (A6 m));have t1:=Mb .u8 (Bi (A6 m));generalize (Bi (A6 m)).length=n1 at *
  generalize Ac .u8 (Bi (A6 m))=c1 at *
  cases hs:LH seed h (m.ver-1) (Vb m) with
  |none=>
   rw[hs] at sg;simp only[Add,Sg.owned,Vx] at sg
   repeat(with_reducible(first|apply Aj|apply Ad|apply Ah|apply Ao|apply Ax|apply Bb|apply Ba|apply Au|apply Ae|apply Ai|apply Ct);· first|constructor|(simp(disch:=omega)only[Cu,bq,e00,e90,w,Df,Cm,Es,L1,t1,hh,sg]<;>first|constructor|omega)|omega)
   try simp(disch:=omega)only[Aa,bq,e00,e90,w,Df,Cm,Es,L1,t1,hh,sg]
   all_goals rfl
  |some s=>
   rw[hs] at sg;simp only[Add,Sg.owned] at sg;have hl:=Ao6 hs;have La:=Am .u64 s.chains;have Lb:=Am .u64 s.path;have ta:=Mb .u64 s.chains;have tb:=Mb .u64 s.path
   repeat(with_reducible(first|apply Aj|apply Ad|apply Ah|apply Ao|apply Ax|apply Bb|apply Ba|apply Au|apply Ae|apply Ai|apply Ct);· first|constructor|(simp(disch:=omega)only[Cu,bq,e00,w,Df,Cm,Es,L1,t1,hh,sg,La,Lb,ta,tb]<;>first|constructor|omega)|omega)
   try simp(disch:=omega)only[Aa,bq,e00,w,Df,Cm,Es,L1,t1,hh,sg,La,Lb,ta,tb]
   all_goals rfl
 ·have Gz:(Bu m != 0)=true:=by simp[h0]
  rw[A5 h0] at bq;rw[A5 h0]
  repeat(with_reducible(first|apply Aj|apply Ad|apply Ah|apply Ao|apply Ax|apply Bb|apply Ba|apply Au|apply Ae|apply Ai|apply Ct);· first|constructor|(simp(disch:=omega)only[Cu,bq,Gz]<;>first|constructor|omega)|omega)
  try simp(disch:=omega)only[Aa,bq,Gz]
  all_goals rfl
end
def To(L:List It)(s:RS):Ab:=[.lst false 3 L.length (Ay L),At ((L.length-s.1.length:Nat):Int),.sc (.bool s.2)]
theorem Kh{k:Int}{s:RS}{L:List It}(h:s.1 <:+ L):(E5 k s).2.1 <:+ L:=by
 obtain⟨l,b⟩:=s;unfold E5;cases l with
 |nil=>exact h
 |cons x r=>
  simp only;by_cases hk:x.k=k
  ·rw[Bq hk];exact (List.suffix_cons x r).trans h
  ·rw[A5 hk];exact h
theorem F9{lim:Int}{s:RS}{L:List It}(h:s.1 <:+ L):(D4 lim s).2.1 <:+ L:=by
 unfold D4;split
 ·exact Kh h
 ·exact Kh h
theorem Yl{lim:Int}{s:RS}{L:List It}(h:s.1 <:+ L):(Om lim s).2.1 <:+ L:=by
 unfold Om;split
 ·exact Kh h
 ·exact Kh h
theorem Amg{s:RS}{L:List It}(h:s.1 <:+ L):(XD s).2.1 <:+ L:=Kh (Kh (F9 h))
theorem Amf{s:RS}{L:List It}(h:s.1 <:+ L):(stR s).2.1 <:+ L:=Yl (Yl (F9 h))
theorem SU:∀{n:Nat}{s:RS}{L:List It},s.1 <:+ L->(Mt n s).2.1 <:+ L
 |0,s,L,h=>h
 |n+1,s,L,h=>by
  unfold Mt;split
  ·exact SU (Amg h)
  ·exact h
theorem Agn:∀{n:Nat}{s:RS}{L:List It},s.1 <:+ L->(Oe n s).2.1 <:+ L
 |0,s,L,h=>h
 |n+1,s,L,h=>by
  unfold Oe;split
  ·exact Agn (Amf h)
  ·exact h
theorem Aup{s:RS}{L:List It}(h:s.1 <:+ L):(Si s).2.1 <:+ L:=Agn (F9 (SU (F9 (Kh (F9 h)))))
section
variable {fu d:Nat}{L:List It}
theorem CO(hL:L.length<=1000)(k:Int){s:RS}(hs:s.1 <:+ L):Ar C0 prog fu (d+1) 118 [.pbox (To L s),At k]=some ⟨[.agg (E5 k s).1.cells],[To L (E5 k s).2]⟩:=by
 refine (Vi fu d L.length (Ay L) ((L.length-s.1.length:Nat):Int) s.2 k).trans ?_;obtain⟨l,b⟩:=s;obtain⟨pre,hp⟩:=hs;simp only at hp;have hl:L.length=pre.length+l.length:=by rw[<-hp,Fw]
 cases l with
 |nil=>
  have ea:L.length-([]:List It).length=pre.length:=by omega
  simp only[Vx,JF] at hl;unfold E5 To;simp only;rw[ea]
  repeat(with_reducible(first|apply Aj|apply Ad|apply Ah|apply Ao|apply Ax|apply Ba|apply Au|apply Ae|apply Ai|apply Ct);· first|constructor|(simp(disch:=omega)only[Cu,Cv]<;>first|constructor|omega)|omega)
  try simp(disch:=omega)only[Aa,Cv]
  all_goals rfl
 |cons x r=>
  simp only[G7] at hl;have ea:L.length-(x::r).length=pre.length:=by simp only[G7];omega
  have eb:L.length-r.length=pre.length+1:=by omega
  have q:L[pre.length]?=some x:=by rw[<-hp,List.getElem?_append_right (C9 _),Nat.sub_self];rfl
  obtain⟨c0,c1,c2⟩:=aci q;have c0':(Ay L).getD (pre.length*3+0) .top=At x.k:=c0;have c2':(Ay L).getD (pre.length*3+1+1) .top=.sc (.string x.s):=c2;have nt:Int.toNat (pre.length:Int)=pre.length:=H0 _;have w1:wrap .i64 ((pre.length:Int)+1)=((pre.length+1:Nat):Int):=by rw[Ag (by omega) (by omega)];omega
  have w2:wrap .i64 (((pre.length+1:Nat):Int)-1)=(pre.length:Int):=by rw[Ag (by omega) (by omega)];omega
  unfold E5 To;simp only;clear hp q c2;generalize Ay L=T at *
  by_cases hk:x.k=k
  ·have hn:(x.k != k)=false:=by simp[hk]
   simp only[Bq hk];rw[ea,eb]
   repeat(with_reducible(first|apply Aj|apply Ad|apply Ah|apply Ao|apply Ax|apply Ba|apply Au|apply Ae|apply Ai|apply Ct);· first|constructor|(simp(disch:=omega)only[Cu,nt,c0',c0,c1,c2',hn,w1,w2]<;>first|constructor|omega)|omega)
   try simp(disch:=omega)only[Aa,nt,c0',c0,c1,c2',hn,w1,w2]
   all_goals rfl
  ·have hn:(x.k != k)=true:=by simp[hk]
   simp only[A5 hk];rw[ea]
   repeat(with_reducible(first|apply Aj|apply Ad|apply Ah|apply Ao|apply Ax|apply Ba|apply Au|apply Ae|apply Ai|apply Ct);· first|constructor|(simp(disch:=omega)only[Cu,nt,c0',hn]<;>first|constructor|omega)|omega)
   try simp(disch:=omega)only[Aa,nt,c0',hn]
   all_goals rfl
theorem MO(hL:L.length<=1000)(lim:Int){s:RS}(hs:s.1 <:+ L):Ar C0 prog fu (d+2) 82 [.pbox (To L s),Af lim]=some ⟨[At (Om lim s).1],[To L (Om lim s).2]⟩:=by
 refine (V6 fu (d+1) L.length (Ay L) ((L.length-s.1.length:Nat):Int) s.2 lim).trans ?_;have t:=CO (fu:=fu) (d:=d) hL 1 hs;unfold Om;simp only[To,It.cells] at t ⊢;by_cases h:(E5 1 s).1.n>lim
 ·simp only[Bq h]
  repeat(with_reducible(first|apply Aj|apply Ad|apply Ah|apply Ao|apply Ax|apply Ba|apply Au|apply Ae|apply Ai|apply Ct);· first|constructor|(simp(disch:=omega)only[Cu,t]<;>first|constructor|omega)|omega)
  try simp(disch:=omega)only[Aa,t]
 ·simp only[A5 h]
  repeat(with_reducible(first|apply Aj|apply Ad|apply Ah|apply Ao|apply Ax|apply Ba|apply Au|apply Ae|apply Ai|apply Ct);· first|constructor|(simp(disch:=omega)only[Cu,t]<;>first|constructor|omega)|omega)
  try simp(disch:=omega)only[Aa,t]
theorem Ra(hL:L.length<=1000){lim:Int}(h0:0<=lim)(h1:lim<=1000){s:RS}(hs:s.1 <:+ L):Ar C0 prog fu (d+2) 81 [.pbox (To L s),At lim]=some ⟨[At (D4 lim s).1],[To L (D4 lim s).2]⟩:=by
 refine (Up fu (d+1) L.length (Ay L) ((L.length-s.1.length:Nat):Int) s.2 lim).trans ?_;have t:=CO (fu:=fu) (d:=d) hL 5 hs;have w:wrap .u64 lim=lim:=Cd (by omega) (by omega);unfold D4;simp only[To,It.cells] at t ⊢;by_cases h:(E5 5 s).1.n>lim
 ·simp only[Bq h]
  repeat(with_reducible(first|apply Aj|apply Ad|apply Ah|apply Ao|apply Ax|apply Ba|apply Au|apply Ae|apply Ai|apply Ct);· first|constructor|(simp(disch:=omega)only[Cu,t,w]<;>first|constructor|omega)|omega)
  try simp(disch:=omega)only[Aa,t,w]
 ·simp only[A5 h]
  repeat(with_reducible(first|apply Aj|apply Ad|apply Ah|apply Ao|apply Ax|apply Ba|apply Au|apply Ae|apply Ai|apply Ct);· first|constructor|(simp(disch:=omega)only[Cu,t,w]<;>first|constructor|omega)|omega)
  try simp(disch:=omega)only[Aa,t,w]
theorem A03(hL:L.length<=1000){Ka:Nat}{C7:Ab}{Ci:Int}{Dw:Bool}{mo:Int}{A:List An}(hA:A.length<=3000):∀(n nn:Nat)(s:RS)(B:List Sa),s.1 <:+ L->n<nn->n<=1000->B.length+n<=3000 ->
  Dg fu (Ar C0 prog fu (d+2)) Ka C7 Ci Dw nn (n:Int) L.length (Ay L) ((L.length-s.1.length:Nat):Int) s.2 0 0 0 [] [] mo A.length B.length (Cz A) (Dn B) =
   some ⟨[.agg (Me.mk mo A (B++(Oe n s).1)).cells],[To L (Oe n s).2]⟩
 |n,0,_,_,_,h,_,_=>by omega
 |n,nn+1,s,B,hs,hn,hk,hB=>by
  have LA:=Nt A;have LB:=Yy B;have tA:List.take (A.length*3) (Cz A)=Cz A:=Gv (by omega);have tB:List.take (B.length*2) (Dn B)=Dn B:=Gv (by omega);rw[Qe];cases n with
  |zero=>
   have e1:B++(Oe 0 s).1=B:=by simp[Oe]
   have e2:(Oe 0 s).2=s:=rfl;rw[e1,e2];simp only[To,Me.cells]
   repeat(with_reducible(first|apply Aj|apply Ad|apply Ah|apply Ao|apply Ax|apply Ba|apply Au|apply Ae|apply Ai|apply Ct);· first|constructor|(simp(disch:=omega)only[Cu,LA,LB,tA,tB,Cm,Es]<;>first|constructor|omega)|omega)
   try simp(disch:=omega)only[Aa,LA,LB,tA,tB,Cm,Es]
   all_goals rfl
  |succ n=>
   obtain⟨l,b⟩:=s;cases b
   rotate_left
   ·have e1:B++(Oe (n+1) (l,true)).1=B:=by simp[Oe]
    have e2:(Oe (n+1) (l,true)).2=(l,true):=by simp[Oe]
    rw[e1,e2];simp only[To,Me.cells]
    repeat(with_reducible(first|apply Aj|apply Ad|apply Ah|apply Ao|apply Ax|apply Ba|apply Au|apply Ae|apply Ai|apply Ct);· first|constructor|(simp(disch:=omega)only[Cu,LA,LB,tA,tB,Cm,Es,Cv,Ev]<;>first|constructor|omega)|omega)
    try simp(disch:=omega)only[Aa,LA,LB,tA,tB,Cm,Es,Cv,Ev]
    all_goals rfl
   have wd:wrap .i64 (((n+1:Nat):Int)-1)=(n:Int):=by rw[Ag (by omega) (by omega)];omega
   have ih:=A03 hL (Ka:=Ka) (C7:=C7) (Ci:=Ci) (Dw:=Dw) (mo:=mo) hA n nn (stR (l,false)).2 (B++[(stR (l,false)).1]) (Amf hs) (by omega) (by omega) (by rw[Fw,List.length_singleton];omega)
   have es:Oe (n+1) (l,false)=((stR (l,false)).1::(Oe n (stR (l,false)).2).1,(Oe n (stR (l,false)).2).2):=by
    rw[Oe,Bq rfl]
   have eB:B++(Oe (n+1) (l,false)).1=(B++[(stR (l,false)).1])++(Oe n (stR (l,false)).2).1:=by rw[es];simp
   have e2:(Oe (n+1) (l,false)).2=(Oe n (stR (l,false)).2).2:=by rw[es]
   have lB:(B++[(stR (l,false)).1]).length=B.length+1:=by rw[Fw];rfl
   rw[eB,e2,<-ih,lB];clear ih es eB e2;have o1:=Ra (fu:=fu) (d:=d) hL (lim:=2) (by omega) (by omega) (s:=(l,false)) hs;have o2:=MO (fu:=fu) (d:=d) hL 4 (s:=(D4 2 (l,false)).2) (F9 hs);have o3:=MO (fu:=fu) (d:=d) hL 1099511627776 (s:=(Om 4 (D4 2 (l,false)).2).2) (Yl (F9 hs));have ea:=Abd B (stR (l,false)).1;simp only[stR] at ea ⊢;simp only[To] at o1 o2 o3;clear lB;generalize Dn (B++[_])=B' at *
   generalize Om 1099511627776 (Om 4 (D4 2 (l,false)).2).2=u3 at *
   generalize Om 4 (D4 2 (l,false)).2=u2 at *
   generalize D4 2 (l,false)=u1 at *
   generalize Ay L=T at *
   repeat(with_reducible(first|apply Aj|apply Ad|apply Ah|apply Ao|apply Ax|apply Ba|apply Au|apply Ae|apply Ai|apply Ct);· first|constructor|(simp(disch:=omega)only[Cu,o1,o2,o3,wd,LB,tB,ea,Cv,Ev]<;>first|constructor|omega)|omega)
   try simp(disch:=omega)only[Aa,o1,o2,o3,wd,LB,tB,ea,Cv,Ev]
   all_goals rfl
theorem A0s(Bn:2000<=fu)(hL:L.length<=1000){Ka:Nat}{C7:Ab}{Ci:Int}{Dw:Bool}{mo:Int}:∀(n nn:Nat)(s:RS)(A:List An),s.1 <:+ L->R0 s.1->n<nn->n<=1000->A.length+n<=3000 ->
  Ei fu (Ar C0 prog fu (d+2)) Ka C7 Ci Dw nn (n:Int) L.length (Ay L) ((L.length-s.1.length:Nat):Int) s.2 0 0 0 [] [] mo A.length 0 (Cz A) [] =
   Dg fu (Ar C0 prog fu (d+2)) Ka C7 Ci Dw fu (D4 4 (Mt n s).2).1 L.length (Ay L) ((L.length-(D4 4 (Mt n s).2).2.1.length:Nat):Int) (D4 4 (Mt n s).2).2.2 0 0 0 [] [] mo (A++(Mt n s).1).length 0 (Cz (A++(Mt n s).1)) []
 |n,0,_,_,_,_,h,_,_=>by omega
 |n,nn+1,s,A,hs,ho,hn,hk,hB=>by
  have LA:=Nt A;have tA:List.take (A.length*3) (Cz A)=Cz A:=Gv (by omega);rw[Q1];cases n with
  |zero=>
   have e1:A++(Mt 0 s).1=A:=by simp[Mt]
   have e2:(Mt 0 s).2=s:=rfl;rw[e1,e2];have o1:=Ra (fu:=fu) (d:=d) hL (lim:=4) (by omega) (by omega) hs;simp only[To] at o1
   repeat(with_reducible(first|apply Aj|apply Ad|apply Ah|apply Ao|apply Ax|apply Ba|apply Au|apply Ae|apply Ai|apply Ct);· first|constructor|(simp(disch:=omega)only[Cu,o1]<;>first|constructor|omega)|omega)
   try simp(disch:=omega)only[Aa,o1]
   all_goals rfl
  |succ n=>
   obtain⟨l,b⟩:=s;cases b
   rotate_left
   ·have e1:A++(Mt (n+1) (l,true)).1=A:=by simp[Mt]
    have e2:(Mt (n+1) (l,true)).2=(l,true):=by simp[Mt]
    rw[e1,e2];have o1:=Ra (fu:=fu) (d:=d) hL (lim:=4) (by omega) (by omega) hs;simp only[To] at o1
    repeat(with_reducible(first|apply Aj|apply Ad|apply Ah|apply Ao|apply Ax|apply Ba|apply Au|apply Ae|apply Ai|apply Ct);· first|constructor|(simp(disch:=omega)only[Cu,o1,Cv,Ev]<;>first|constructor|omega)|omega)
    try simp(disch:=omega)only[Aa,o1,Cv,Ev]
    all_goals rfl
   have wd:wrap .i64 (((n+1:Nat):Int)-1)=(n:Int):=by rw[Ag (by omega) (by omega)];omega
   have ih:=A0s Bn hL (Ka:=Ka) (C7:=C7) (Ci:=Ci) (Dw:=Dw) (mo:=mo) n nn (XD (l,false)).2 (A++[(XD (l,false)).1]) (Amg hs) (Ar5 (s:=(l,false)) ho).2.1 (by omega) (by omega) (by rw[Fw,List.length_singleton];omega)
   have es:Mt (n+1) (l,false)=((XD (l,false)).1::(Mt n (XD (l,false)).2).1,(Mt n (XD (l,false)).2).2):=by
    rw[Mt,Bq rfl]
   have eA:A++(Mt (n+1) (l,false)).1=(A++[(XD (l,false)).1])++(Mt n (XD (l,false)).2).1:=by rw[es];simp
   have e2:(Mt (n+1) (l,false)).2=(Mt n (XD (l,false)).2).2:=by rw[es]
   have lA:(A++[(XD (l,false)).1]).length=A.length+1:=by rw[Fw];rfl
   rw[eA,e2];generalize Mt n (XD (l,false)).2=qq at *
   rw[<-ih,lA];clear ih es eA e2 lA;obtain⟨_,_,a3,a4⟩:=Ld (lim:=2) (s:=(l,false)) ho (by omega) (by omega);obtain⟨_,b2,b3,b4⟩:=R6 (k:=4) a3;obtain⟨_,hs4,c3,c4⟩:=R6 (k:=3) b3;have o1:=Ra (fu:=fu) (d:=d) hL (lim:=2) (by omega) (by omega) (s:=(l,false)) hs;have o2:=CO (fu:=fu) (d:=d+1) hL 4 (s:=(D4 2 (l,false)).2) (F9 hs);have o3:=CO (fu:=fu) (d:=d+1) hL 3 (s:=(E5 4 (D4 2 (l,false)).2).2) (Kh (F9 hs));have ea:=Aae A (XD (l,false)).1;simp only[XD] at ea ⊢;simp only[To,It.cells] at o1 o2 o3;generalize E5 3 (E5 4 (D4 2 (l,false)).2).2=u3 at *
   generalize E5 4 (D4 2 (l,false)).2=u2 at *
   generalize D4 2 (l,false)=u1 at *
   have L4:(El u3.1.s).length=u3.1.s.size:=by rw[Lu,Am,Gi]
   have t4:List.take u3.1.s.size (El u3.1.s)=Ac .u8 (Cy u3.1.s):=by rw[Lu,Gv (by rw[Am,Gi];omega)]
   have dk:=Aj3 (fu:=fu) (d:=d) (by omega) (Zp u3.1.s);rw[Gi] at dk;have e00:((0:Int) != 0)=false:=rfl;have e20:((2:Int) != 0)=true:=rfl;generalize Ay L=T at *
   unfold Agp at ea ⊢;cases hk:IG (Cy u3.1.s) with
   |none=>
    rw[hk] at dk;simp only[OT,Ky.cells] at dk;simp only[hk,Option.getD_none,Option.isNone_none,Bool.or_true] at ea ⊢;generalize Cz (A++[_])=A' at *
    cases hb:u3.2.2
    ·skip
     repeat(with_reducible(first|apply Aj|apply Ad|apply Ah|apply Ao|apply Ax|apply Ba|apply Au|apply Ae|apply Ai|apply Ct);· first|constructor|(simp(disch:=omega)only[Cu,o1,o2,o3,L4,t4,dk,e20,wd,LA,tA,ea,hb,Df,Cm,Es,Cv,Ev,Bool.or_true,Bool.true_or]<;>first|constructor|omega)|omega)
     try simp(disch:=omega)only[Aa,o1,o2,o3,L4,t4,dk,e20,wd,LA,tA,ea,hb,Df,Cm,Es,Cv,Ev,Bool.or_true,Bool.true_or]
     all_goals rfl
    ·skip
     repeat(with_reducible(first|apply Aj|apply Ad|apply Ah|apply Ao|apply Ax|apply Ba|apply Au|apply Ae|apply Ai|apply Ct);· first|constructor|(simp(disch:=omega)only[Cu,o1,o2,o3,L4,t4,dk,e20,wd,LA,tA,ea,hb,Df,Cm,Es,Cv,Ev,Bool.or_true,Bool.true_or]<;>first|constructor|omega)|omega)
     try simp(disch:=omega)only[Aa,o1,o2,o3,L4,t4,dk,e20,wd,LA,tA,ea,hb,Df,Cm,Es,Cv,Ev,Bool.or_true,Bool.true_or]
     all_goals rfl
   |some k=>
    rw[hk] at dk;simp only[OT,Ky.cells] at dk;simp only[hk,Option.getD_some,Option.isNone_some,Bool.or_false] at ea ⊢;generalize Cz (A++[_])=A' at *
    cases hb:u3.2.2
    ·skip
     repeat(with_reducible(first|apply Aj|apply Ad|apply Ah|apply Ao|apply Ax|apply Ba|apply Au|apply Ae|apply Ai|apply Ct);· first|constructor|(simp(disch:=omega)only[Cu,o1,o2,o3,L4,t4,dk,e00,wd,LA,tA,ea,hb,Df,Cm,Es,Cv,Ev,Bool.or_false]<;>first|constructor|omega)|omega)
     try simp(disch:=omega)only[Aa,o1,o2,o3,L4,t4,dk,e00,wd,LA,tA,ea,hb,Df,Cm,Es,Cv,Ev,Bool.or_false]
     all_goals rfl
    ·skip
     repeat(with_reducible(first|apply Aj|apply Ad|apply Ah|apply Ao|apply Ax|apply Ba|apply Au|apply Ae|apply Ai|apply Ct);· first|constructor|(simp(disch:=omega)only[Cu,o1,o2,o3,L4,t4,dk,e00,wd,LA,tA,ea,hb,Df,Cm,Es,Cv,Ev,Bool.or_false]<;>first|constructor|omega)|omega)
     try simp(disch:=omega)only[Aa,o1,o2,o3,L4,t4,dk,e00,wd,LA,tA,ea,hb,Df,Cm,Es,Cv,Ev,Bool.or_false]
     all_goals rfl
theorem Axd(Bn:2000<=fu)(hL:L.length<=1000){s:RS}(hs:s.1 <:+ L)(ho:R0 s.1):Ar C0 prog fu (d+3) 83 [.pbox (To L s)]=some ⟨[.agg (Si s).1.cells],[To L (Si s).2]⟩:=by
 refine (Ts fu (d+2) L.length (Ay L) ((L.length-s.1.length:Nat):Int) s.2).trans ?_;obtain⟨_,_,a3,a4⟩:=Ld (lim:=3) ho (by omega) (by omega);obtain⟨b1,_,b3,b4⟩:=R6 (k:=1) a3;have hA:=Ld (lim:=4) b3 (by omega) (by omega);have hB:=Adl (n:=(Qa s).1.toNat) (s:=(Qa s).2) hA.2.2.1;have hC:=Ld (lim:=4) (s:=(Yf s).2) hB.2.2.1 (by omega) (by omega);have m1:(Yf s).1.length<=(Qa s).1.toNat:=hB.2.1;have n1:(Qa s).1<=4:=hA.2.1;have n2:(Ot s).1<=4:=hC.2.1;have p1:0<=(Qa s).1:=hA.1;have p2:0<=(Ot s).1:=hC.1;have sA:(Qa s).2.1 <:+ L:=F9 (Kh (F9 hs));have sB:(Yf s).2.1 <:+ L:=SU sA;have sC:(Ot s).2.1 <:+ L:=F9 sB
 have r0:=A0s (fu:=fu) (d:=d) Bn hL (Ka:=L.length) (C7:=Ay L) (Ci:=((L.length-s.1.length:Nat):Int)) (Dw:=s.2) (mo:=(E5 1 (D4 3 s).2).1.n) (Qa s).1.toNat fu (Qa s).2 [] sA hA.2.2.1 (by omega) (by omega) (by simp only[Vx];omega)
 have r1:=A03 (fu:=fu) (d:=d) hL (Ka:=L.length) (C7:=Ay L) (Ci:=((L.length-s.1.length:Nat):Int)) (Dw:=s.2) (mo:=(E5 1 (D4 3 s).2).1.n) (A:=(Yf s).1) (by omega) (Ot s).1.toNat fu (Ot s).2 [] sC (by omega) (by omega) (by simp only[Vx];omega)
 rw[Int.toNat_of_nonneg p1] at r0;rw[Int.toNat_of_nonneg p2] at r1;have r2:=r0.trans r1;have o1:=Ra (fu:=fu) (d:=d) hL (lim:=3) (by omega) (by omega) hs;have o2:=CO (fu:=fu) (d:=d+1) hL 1 (F9 (lim:=3) hs);have o3:=Ra (fu:=fu) (d:=d) hL (lim:=4) (by omega) (by omega) (Kh (k:=1) (F9 (lim:=3) hs));simp only[To,It.cells] at o1 o2 o3;have eR:(some ⟨[.agg (Si s).1.cells],[To L (Si s).2]⟩:Option D0)=some ⟨[.agg (Me.mk (E5 1 (D4 3 s).2).1.n (Yf s).1 ([]++(Oe (Ot s).1.toNat (Ot s).2).1)).cells],[To L (Oe (Ot s).1.toNat (Ot s).2).2]⟩:=rfl;rw[eR,<-r2];clear r0 r1 r2 eR
 repeat(with_reducible(first|apply Aj|apply Ad|apply Ah|apply Ao|apply Ax|apply Ba|apply Au|apply Ae|apply Ai|apply Ct);· first|constructor|(simp(disch:=omega)only[Cu,o1,o2,o3]<;>first|constructor|omega)|omega)
 try simp(disch:=omega)only[Aa,o1,o2,o3]
 all_goals rfl
end
section
variable {fu d:Nat}{L:List It}
theorem A1s(Bn:20000<=fu){P4:Nat}{a0:Ab}{b:Ca}(hb:Ii b){used:Nat}(hat:used<=b.length)(hl:b.length<=1000000){at_ v i x:Int}{nn n:Nat}{A:List Me}:
  Dv fu (Ar C0 prog fu (d+14)) P4 a0 (nn+1) b.length (Ac .u8 b) (used:Int) (n:Int) 0 0 0 0 0 0 0 [] [] [] L.length (Ay L) at_ true v i x A.length 0 0 0 (B7 A) [] [] =
   some ⟨[.agg HE.cells,At 2],[]⟩:=by
 rw[Hi];have ds:=UY (fu:=fu) (d:=d+12) (by omega) (l:=b.drop used) (fun x hx=>hb x (List.mem_of_mem_drop hx));rw[List.length_drop] at ds;have tb:List.take (b.length-used) (List.drop used (Ac .u8 b))=Ac .u8 (b.drop used):=by rw[Ha,Gv (by rw[Am,List.length_drop];omega)]
 have nu:Int.toNat (used:Int)=used:=H0 used;generalize Ay L=T at *
 generalize B7 A=TA at *
 by_cases h0:n=0
 ·subst h0;cases hs:sgD (b.drop used) with
  |none=>
   rw[hs] at ds;simp only[CF,Sg.owned] at ds
   repeat(with_reducible(first|apply Aj|apply Ad|apply Ah|apply Ao|apply Bb|apply Ba|apply Au|apply Gm|apply Ae|apply Ai|apply Ct);· first|constructor|(simp(disch:=omega)only[Cu,Cm,Df,nu,tb,ds,Cv,Ev]<;>first|constructor|omega)|omega)
   try simp(disch:=omega)only[Aa,Cm,Df,nu,tb,ds,Cv,Ev]
   all_goals rfl
  |some s=>
   rw[hs] at ds;simp only[CF,Sg.owned] at ds
   repeat(with_reducible(first|apply Aj|apply Ad|apply Ah|apply Ao|apply Bb|apply Ba|apply Au|apply Gm|apply Ae|apply Ai|apply Ct);· first|constructor|(simp(disch:=omega)only[Cu,Cm,Df,nu,tb,ds,Cv,Ev]<;>first|constructor|omega)|omega)
   try simp(disch:=omega)only[Aa,Cm,Df,nu,tb,ds,Cv,Ev]
   all_goals rfl
 ·cases hs:sgD (b.drop used) with
  |none=>
   rw[hs] at ds;simp only[CF,Sg.owned] at ds
   repeat(with_reducible(first|apply Aj|apply Ad|apply Ah|apply Ao|apply Bb|apply Ba|apply Au|apply Gm|apply Ae|apply Ai|apply Ct);· first|constructor|(simp(disch:=omega)only[Cu,Cm,Df,nu,tb,ds,Cv,Ev]<;>first|constructor|omega)|omega)
   try simp(disch:=omega)only[Aa,Cm,Df,nu,tb,ds,Cv,Ev]
   all_goals rfl
  |some s=>
   rw[hs] at ds;simp only[CF,Sg.owned] at ds
   repeat(with_reducible(first|apply Aj|apply Ad|apply Ah|apply Ao|apply Bb|apply Ba|apply Au|apply Gm|apply Ae|apply Ai|apply Ct);· first|constructor|(simp(disch:=omega)only[Cu,Cm,Df,nu,tb,ds,Cv,Ev]<;>first|constructor|omega)|omega)
   try simp(disch:=omega)only[Aa,Cm,Df,nu,tb,ds,Cv,Ev]
   all_goals rfl
theorem A15(Bn:20000<=fu){P4:Nat}{a0:Ab}{b:Ca}(hb:Ii b){used:Nat}(hat:used<=b.length)(hl:b.length<=1000000){at_ v i x:Int}{nn:Nat}{A:List Me}(hA:A.length<=3000)(hk:∀y∈A,okM y):
  Dv fu (Ar C0 prog fu (d+14)) P4 a0 (nn+1) b.length (Ac .u8 b) (used:Int) ((0:Nat):Int) 0 0 0 0 0 0 0 [] [] [] L.length (Ay L) at_ false v i x A.length 0 0 0 (B7 A) [] [] =
   some ⟨[.agg (UA b used (Md.mk v i x A YI,true)).1.cells,At (UA b used (Md.mk v i x A YI,true)).2],[]⟩:=by
 rw[Hi];have ds:=UY (fu:=fu) (d:=d+12) (by omega) (l:=b.drop used) (fun x hx=>hb x (List.mem_of_mem_drop hx));rw[List.length_drop] at ds;have tb:List.take (b.length-used) (List.drop used (Ac .u8 b))=Ac .u8 (b.drop used):=by rw[Ha,Gv (by rw[Am,List.length_drop];omega)]
 have nu:Int.toNat (used:Int)=used:=H0 used;have LA:=Mf A;have tA:List.take (A.length*3) (B7 A)=B7 A:=Gv (by omega);have e00:((0:Int) != 0)=false:=rfl;have e20:((2:Int) != 0)=true:=rfl;unfold UA;rw[A5 (by simp)];generalize Ay L=T at *
 cases hs:sgD (b.drop used) with
 |none=>
  rw[hs] at ds;simp only[CF,Sg.owned] at ds
  repeat(with_reducible(first|apply Aj|apply Ad|apply Ah|apply Ao|apply Bb|apply Ba|apply Au|apply Gm|apply Ae|apply Ai|apply Ct);· first|constructor|(simp(disch:=omega)only[Cu,Cm,Df,nu,tb,ds,e20,Cv,Ev]<;>first|constructor|omega)|omega)
  try simp(disch:=omega)only[Aa,Cm,Df,nu,tb,ds,e20,Cv,Ev]
  all_goals rfl
 |some s=>
  rw[hs] at ds;simp only[CF,Sg.owned] at ds;obtain⟨s1,s2,s3⟩:=Ai7 hs;simp only;have cok:(Md.mk v i x A s).ok:=⟨fun y hy=>Ace (hk y hy),s1⟩
  have en:=Ahr (fu:=fu) (d:=d+8) (m:=Md.mk v i x A s) Bn cok.wf (Nat.le_trans s2 (by omega));have ec:(Md.mk v i x A s).cells=[At v,At i,At x,.lst false 3 A.length (B7 A),At s.leaf,.lst false 1 s.chains.length (Ac .u64 s.chains),.lst false 1 s.path.length (Ac .u64 s.path)]:=rfl;have eB:∀h:Ds (Md.mk v i x A s)=0,Ii (Fx (Md.mk v i x A s)):=fun h y hy=>(Bz.1 hy).elim (KS cok.wf (Gr h).1 y) (Au1 s y)
  have eL:∀h:Ds (Md.mk v i x A s)=0,(Fx (Md.mk v i x A s)).length<=100000:=fun h=>by
   have h1:=Qv cok.wf (Gr h).1;have h2:=H7 (h:=s.path.length) (by simpa using (Gr h).2.1)
   have ls:(Sj s).length=2+8*s.chains.length+8*s.path.length:=by
    unfold Sj;simp only[G7,Fw,Da];omega
   show (Bi (A6 (Md.mk v i x A s))++Sj s).length<=_;rw[Fw];omega
  have Lc:=Am .u64 s.chains;have Lp:=Am .u64 s.path;have tc:=Mb .u64 s.chains;have tp:=Mb .u64 s.path;generalize (Md.mk v i x A s)=c at *
  rw[ec] at en;unfold Tm at en;by_cases hz:Ds c=0
  rotate_left
  ·have hz':(Ds c != 0)=true:=by simp[hz]
   rw[A5 hz] at en;rw[A5 (fun h=>hz h.1)];generalize B7 A=TA at *
   repeat(with_reducible(first|apply Aj|apply Ad|apply Ah|apply Ao|apply Bb|apply Ba|apply Au|apply Gm|apply Ae|apply Ai|apply Ct);· first|constructor|(simp(disch:=omega)only[Cu,Cm,Df,Es,nu,tb,ds,e00,LA,tA,Lc,Lp,tc,tp,en,hz',Cv,Ev]<;>first|constructor|omega)|omega)
   try simp(disch:=omega)only[Aa,Cm,Df,Es,nu,tb,ds,e00,LA,tA,Lc,Lp,tc,tp,en,hz',Cv,Ev]
   all_goals rfl
  rw[Bq hz] at en;have eL:=eL hz;have be:=A55 (eB hz) hb;have LE:=Am .u8 (Fx c);have tE:=Mb .u8 (Fx c);have oE:=G2 (Fx c);have LB:=Am .u8 b;have oB:=G2 b;by_cases hq:Fx c=b
  ·rw[Bq ⟨hz,hq⟩];simp only[hq,decide_true] at be en LE tE oE;simp only[ec];generalize B7 A=TA at *
   repeat(with_reducible(first|apply Aj|apply Ad|apply Ah|apply Ao|apply Bb|apply Ba|apply Au|apply Gm|apply Ae|apply Ai|apply Ct);· first|constructor|(simp(disch:=omega)only[Cu,Cm,Df,Es,nu,tb,ds,e00,LA,tA,Lc,Lp,tc,tp,en,LE,tE,oE,LB,oB,be,Cv,Ev]<;>first|constructor|omega)|omega)
   try simp(disch:=omega)only[Aa,Cm,Df,Es,nu,tb,ds,e00,LA,tA,Lc,Lp,tc,tp,en,LE,tE,oE,LB,oB,be,Cv,Ev]
   all_goals rfl
  ·rw[A5 (fun h=>hq h.2)];simp only[hq,decide_false] at be;generalize B7 A=TA at *
   repeat(with_reducible(first|apply Aj|apply Ad|apply Ah|apply Ao|apply Bb|apply Ba|apply Au|apply Gm|apply Ae|apply Ai|apply Ct);· first|constructor|(simp(disch:=omega)only[Cu,Cm,Df,Es,nu,tb,ds,e00,LA,tA,Lc,Lp,tc,tp,en,LE,tE,oE,LB,oB,be,Cv,Ev]<;>first|constructor|omega)|omega)
   try simp(disch:=omega)only[Aa,Cm,Df,Es,nu,tb,ds,e00,LA,tA,Lc,Lp,tc,tp,en,LE,tE,oE,LB,oB,be,Cv,Ev]
   all_goals rfl
theorem A0j(Bn:20000<=fu)(hL:L.length<=1000){P4:Nat}{a0:Ab}{b:Ca}(hb:Ii b){used:Nat}(hat:used<=b.length)(hl:b.length<=1000000){v i x:Int}:∀(n nn:Nat)(s:RS)(A:List Me),s.1 <:+ L->R0 s.1->n<nn->n<=1000->A.length+n<=3000->(∀y∈A,okM y) ->
  Dv fu (Ar C0 prog fu (d+14)) P4 a0 nn b.length (Ac .u8 b) (used:Int) (n:Int) 0 0 0 0 0 0 0 [] [] [] L.length (Ay L) ((L.length-s.1.length:Nat):Int) s.2 v i x A.length 0 0 0 (B7 A) [] [] =
   some ⟨[.agg (UA b used (Md.mk v i x (A++(Jd n s).1) YI,!(Jd n s).2.2)).1.cells,At (UA b used (Md.mk v i x (A++(Jd n s).1) YI,!(Jd n s).2.2)).2],[]⟩
 |n,0,_,_,_,_,h,_,_,_=>by omega
 |n,nn+1,(l,true),A,hs,ho,hn,hk,hB,hA=>by
  have e1:Jd n (l,true)=([],(l,true)):=by cases n<;>simp[Jd]
  rw[A1s Bn hb hat hl,e1];rfl
 |0,nn+1,(l,false),A,hs,ho,hn,hk,hB,hA=>by
  rw[A15 Bn hb hat hl (by omega) hA];simp[Jd]
 |n+1,nn+1,(l,false),A,hs,ho,hn,hk,hB,hA=>by
  obtain⟨k1,k2,k3⟩:=Ali (s:=(l,false)) ho;have wd:wrap .i64 (((n+1:Nat):Int)-1)=(n:Int):=by rw[Ag (by omega) (by omega)];omega
  have ih:=A0j Bn hL (P4:=P4) (a0:=a0) hb hat hl (v:=v) (i:=i) (x:=x) n nn (Si (l,false)).2 (A++[(Si (l,false)).1]) (Aup hs) k2 (by omega) (by omega) (by rw[Fw,List.length_singleton];omega) (fun y hy=>(Bz.1 hy).elim (hA y) (fun h=>by rw[Mv.1 h];exact k1))
  have es:Jd (n+1) (l,false)=((Si (l,false)).1::(Jd n (Si (l,false)).2).1,(Jd n (Si (l,false)).2).2):=by
   rw[Jd,Bq rfl]
  have eA:A++(Jd (n+1) (l,false)).1=(A++[(Si (l,false)).1])++(Jd n (Si (l,false)).2).1:=by rw[es];simp
  have e2:(Jd (n+1) (l,false)).2=(Jd n (Si (l,false)).2).2:=by rw[es]
  have lA:(A++[(Si (l,false)).1]).length=A.length+1:=by rw[Fw];rfl
  have LA:=Mf A;have tA:List.take (A.length*3) (B7 A)=B7 A:=Gv (by omega);rw[eA,e2,<-ih,lA];clear ih es eA e2 lA;have o1:=Axd (fu:=fu) (d:=d+11) (by omega) hL (s:=(l,false)) hs ho;have ea:=Yq A (Si (l,false)).1;simp only[To,Me.cells] at o1;rw[Hi];generalize Si (l,false)=u at *
  generalize B7 (A++[_])=A' at *
  generalize Ay L=T at *
  repeat(with_reducible(first|apply Aj|apply Ad|apply Ah|apply Ao|apply Bb|apply Ba|apply Au|apply Gm|apply Ae|apply Ai|apply Ct);· first|constructor|(simp(disch:=omega)only[Cu,o1,wd,LA,tA,ea,Cv,Ev]<;>first|constructor|omega)|omega)
  try simp(disch:=omega)only[Aa,o1,wd,LA,tA,ea,Cv,Ev]
  all_goals rfl
theorem Ait(Bn:20000<=fu){b:Ca}(hb:Ii b)(hl:b.length<=1000000):
  Ar C0 prog fu (d+15) 43 [.lst false 1 b.length (Ac .u8 b)]=some ⟨[.agg (Ms Ade b (NQ b)).1.cells,At (Ms Ade b (NQ b)).2],[]⟩:=by
 refine (Vz fu (d+14) b.length (Ac .u8 b)).trans ?_;have dec:=Ajt (fu:=fu) (d:=d) (by omega) hb hl;obtain⟨hox,hln,hat⟩:=Adg hb;generalize NQ b=r at dec hat hox hln ⊢;obtain⟨its,used,e⟩:=r;simp only at hat hox hln;unfold HZ at dec;simp only at dec;unfold Ms;simp only;by_cases h5:b.length>4096
 ·rw[Bq h5]
  repeat(with_reducible(first|apply Aj|apply Ad|apply Ah|apply Ao|apply Bb|apply Ba|apply Au|apply Gm|apply Ae|apply Ai|apply Ct);· first|constructor|(simp(disch:=omega)only[Cu,Df]<;>first|constructor|omega)|omega)
  try simp(disch:=omega)only[Aa,Df]
  all_goals rfl
 rw[A5 h5];by_cases he:e=0
 rotate_left
 ·rw[Bq he];have Y6:(e != 0)=true:=by simp[he]
  repeat(with_reducible(first|apply Aj|apply Ad|apply Ah|apply Ao|apply Bb|apply Ba|apply Au|apply Gm|apply Ae|apply Ai|apply Ct);· first|constructor|(simp(disch:=omega)only[Cu,dec,Y6]<;>first|constructor|omega)|omega)
  try simp(disch:=omega)only[Aa,dec,Y6]
  all_goals rfl
 rw[A5 (by simp[he])];subst he;have e00:((0:Int) != 0)=false:=rfl;have LT:=Cw its;have tT:List.take (its.length*3) (Ay its)=Ay its:=Gv (by omega);obtain⟨_,_,q1,q2,q3,q4⟩:=Am0 hox;have s0:((its,false):RS).1 <:+ its:=List.suffix_refl its;have s1:(D4 4 (its,false)).2.1 <:+ its:=F9 s0;have sA:(Yv its).2.1 <:+ its:=Yl s1;have sB:(Xu its).2.1 <:+ its:=Yl sA;have sC:(Ys its).2.1 <:+ its:=Yl sB;have sD:(Ml its).2.1 <:+ its:=F9 sC;have o1:=Ra (fu:=fu) (d:=d+12) hln (lim:=4) (by omega) (by omega) s0;have o2:=MO (fu:=fu) (d:=d+12) hln 16 s1;have o3:=MO (fu:=fu) (d:=d+12) hln 1099511627776 sA;have o4:=MO (fu:=fu) (d:=d+12) hln 1099511627776 sB;have o5:=Ra (fu:=fu) (d:=d+12) hln (lim:=16) (by omega) (by omega) sC;have eA:Om 16 (D4 4 (its,false)).2=Yv its:=rfl
 have eB:Om 1099511627776 (Yv its).2=Xu its:=rfl;have eC:Om 1099511627776 (Xu its).2=Ys its:=rfl;have eD:D4 16 (Ys its).2=Ml its:=rfl;rw[eA] at o2;rw[eB] at o3;rw[eC] at o4;rw[eD] at o5;have r0:=A0j (fu:=fu) (d:=d) Bn hln (P4:=b.length) (a0:=Ac .u8 b) hb hat hl (v:=(Yv its).1) (i:=(Xu its).1) (x:=(Ys its).1) (Ml its).1.toNat fu (Ml its).2 [] sD q1 (by omega) (by omega) (by simp only[Vx];omega) (fun y hy=>(by cases hy))
 rw[Int.toNat_of_nonneg q3] at r0;simp only[To,Nat.sub_self] at o1 o2 o3 o4 o5;have eR:Ade its=(Md.mk (Yv its).1 (Xu its).1 (Ys its).1 ([]++(Jd (Ml its).1.toNat (Ml its).2).1) YI,!(Jd (Ml its).1.toNat (Ml its).2).2.2):=rfl;rw[eR,<-r0];clear r0 eR eA eB eC eD s0 s1 sA sB sC sD hox;have z0:((0:Nat):Int)=0:=rfl;rw[z0] at o1;generalize Ml its=uD at *
 generalize Ys its=uC at *
 generalize Xu its=uB at *
 generalize Yv its=uA at *
 generalize D4 4 (its,false)=u0 at *
 generalize Ay its=T at *
 repeat(with_reducible(first|apply Aj|apply Ad|apply Ah|apply Ao|apply Bb|apply Ba|apply Au|apply Gm|apply Ae|apply Ai|apply Ct);· first|constructor|(simp(disch:=omega)only[Cu,dec,e00,Es,Cm,LT,tT,o1,o2,o3,o4,o5]<;>first|constructor|omega)|omega)
 try simp(disch:=omega)only[Aa,dec,e00,Es,Cm,LT,tT,o1,o2,o3,o4,o5]
 all_goals rfl
theorem Avm(Bn:20000<=fu){b:Ca}(hb:Ii b)(hl:b.length<=1000000):
  Ar C0 prog fu (d+15) 43 [.lst false 1 b.length (Ac .u8 b)]=some ⟨[.agg (M7 b).1.cells,At (M7 b).2],[]⟩:=by
 rw[<-Are hb];exact Ait Bn hb hl
end
theorem Amp{a b:Ca}(ha:Ii a)(hb:Ii b):Ii (a++b):=by
 intro x hx;rcases Bz.1 hx with hx|hx
 ·exact ha x hx
 ·exact hb x hx
section
variable {fu d:Nat}
theorem Aec(Bn:1000<=fu){a0 a1 a2:Int}{key nonce:Int}{n:Nat}(hn:n<=1024):∀(k nn:Nat)(i:Int)(l:Ca),n<=l.length+8*k->k<nn->Ii l->l.length<=2000 ->
  0<=i->i+k<=100000->∃r,Ii r/\r.length=n/\Ic fu (Ar C0 prog fu (d+4)) a0 a1 a2 nn key nonce (n:Int) l.length i (Ac .u8 l)=some ⟨[.own 1 n (Ac .u8 r)],[]⟩:=by
 intro k
 induction k with
 |zero=>
  intro nn i l h1 h2 hb hl i0 i1;obtain⟨m,rfl⟩:∃m,nn=m+1:=⟨nn-1,by omega⟩
  refine⟨l.take n,hb.take n,by rw[List.length_take];omega,?_⟩
  have L:=Am .u8 l;have nt:Int.toNat (n:Int)=n:=H0 _;rw[Jp]
  repeat(with_reducible(first|apply Aj|apply Ad|apply Ah|apply Bb|apply Au|apply Ae|apply Ai|apply Ct);· first|constructor|(simp(disch:=omega)only[Cu,L,nt,Nat.sub_zero,Df,Hx]<;>first|constructor|omega)|omega)
  try simp(disch:=omega)only[Aa,L,nt,Nat.sub_zero,Df,Hx]
 |succ k ih=>
  intro nn i l h1 h2 hb hl i0 i1;obtain⟨m,rfl⟩:∃m,nn=m+1:=⟨nn-1,by omega⟩
  have L:=Am .u8 l;have nt:Int.toNat (n:Int)=n:=H0 _;by_cases Cq:l.length<n
  rotate_left
  ·refine⟨l.take n,hb.take n,by rw[List.length_take];omega,?_⟩
   rw[Jp]
   repeat(with_reducible(first|apply Aj|apply Ad|apply Ah|apply Bb|apply Au|apply Ae|apply Ai|apply Ct);· first|constructor|(simp(disch:=omega)only[Cu,L,nt,Nat.sub_zero,Df,Hx]<;>first|constructor|omega)|omega)
   try simp(disch:=omega)only[Aa,L,nt,Nat.sub_zero,Df,Hx]
  have w1:wrap .u64 i=i:=Cd (by omega) (by omega);have w2:wrap .i64 (i+1)=i+1:=Ag (by omega) (by omega);have wd:Ar C0 prog fu (d+4) 79 [.lst false 1 2 [Af nonce,Af i]]=some ⟨[.own 1 (A4 [nonce,i]).length (Ac .u8 (A4 [nonce,i]))],[]⟩:=N5 (xs:=Mm) (ws:=[nonce,i]) (by simp) (by omega) (by simp;omega)
  have mc:=Am1 (xs:=Mm) (fu:=fu) (d:=d) (l:=A4 [nonce,i]) (Uk _) (by rw[Da];simp) (by omega) (by rw[Da];simp;omega) key 5
  have L2:=Am .u8 (A4 [nonce,i]);have t2:=Mb .u8 (A4 [nonce,i]);generalize Aui key 5 (A4 [nonce,i])=q at mc;have ow:=Ayx (fu:=fu) (d:=d+3) Bn q;have Lq:(Ac .u8 (Ew q)).length=8:=by rw[Am,Fb]
  have tq:List.take 8 (Ac .u8 (Ew q))=Ac .u8 (Ew q):=Gv (by omega);have tl:=Mb .u8 l;have ea:Ac .u8 l++Ac .u8 (Ew q)=Ac .u8 (l++Ew q):=by rw[Ac,Ac,Ac,List.flatMap_append]
  obtain⟨r,r1,r2,r3⟩:=ih m (i+1) (l++Ew q) (by rw[Fw,Fb];omega) (by omega) (Amp hb (Ac6 q)) (by rw[Fw,Fb];omega) (by omega) (by omega)
  refine⟨r,r1,r2,?_⟩;rw[Fw,Fb] at r3;rw[<-r3,Jp];generalize A4 [nonce,i]=W at *
  generalize W.length=wn at *
  repeat(with_reducible(first|apply Aj|apply Ad|apply Ah|apply Bb|apply Au|apply Ae|apply Ai|apply Ct);· first|constructor|(simp(disch:=omega)only[Cu,w1,w2,wd,Es,Cm,Df,L,L2,t2,mc,ow,Lq,tq,tl,ea]<;>first|constructor|omega)|omega)
  try simp(disch:=omega)only[Aa,w1,w2,wd,Es,Cm,Df,L,L2,t2,mc,ow,Lq,tq,tl,ea]
  all_goals rfl
theorem Asm(Bn:1000<=fu)(seed:Int){n:Nat}(hn:n<=1024):∃r,Ii r/\r.length=n/\Ar C0 prog fu (d+6) 24 [At seed,At n]=some ⟨[.own 1 n (Ac .u8 r)],[]⟩:=by
 obtain⟨r,r1,r2,r3⟩:=Aec (fu:=fu) (d:=d) Bn (a0:=wrap .u64 (wrap .u64 seed+1)) (a1:=7) (a2:=n) (key:=wrap .u64 (wrap .u64 seed+1)) (nonce:=7) hn 128 fu 0 [] (by omega) (by omega) (by intro x hx;cases hx) (by simp) (by omega) (by omega)
 refine⟨r,r1,r2,?_⟩
 have e:Ar C0 prog fu (d+5) 45 [Af (wrap .u64 (wrap .u64 seed+1)),Af 7,At n]=some ⟨[.own 1 n (Ac .u8 r)],[]⟩:=by
  rw[DJ];have f1:(if (n:Int)<0 then (0:Int) else (n:Int))=n:=A5 (by omega);have f2:(if (1024:Int)<(n:Int) then (1024:Int) else (n:Int))=n:=A5 (by omega);simp only[Jc,f1,f2];exact r3
 have f1:(if (n:Int)<0 then (0:Int) else (n:Int))=n:=A5 (by omega);have f2:(if (1024:Int)<(n:Int) then (1024:Int) else (n:Int))=n:=A5 (by omega);have L:=Am .u8 r;have t:List.take n (Ac .u8 r)=Ac .u8 r:=by rw[<-r2];exact Mb .u8 r
 rw[FH];simp(disch:=omega)only[B4,B3,f1,f2,e,Df,L,t]
theorem Aym{b:Ca}(hb:Ii b)(hl:b.length<=100000){n:Int}(h0:0<=n)(h1:n<=1000000):∃r,Ii r/\r.length=(if b.length=0 then 1 else b.length)/\Ar C0 prog fu (d+1) 44 [.lst false 1 b.length (Ac .u8 b),At n]=some ⟨[.own 1 r.length (Ac .u8 r)],[]⟩:=by
 have w8:∀v:Int,0<=wrap .u8 v/\wrap .u8 v<=255:=by
  intro v;simp only[wrap,IntKind.signed,IntKind.bits];simp;omega
 by_cases hz:b.length=0
 ·refine⟨[wrap .u8 n],?_,?_,?_⟩
  ·intro x hx;simp at hx;subst hx;exact w8 n
  ·rw[Bq hz];rfl
  ·rw[Vt];have b0:((b.length:Int)==0)=true:=by rw[hz];rfl
   simp(disch:=omega)only[B4,B3,b0];rfl
 have m0:0<=Int.tmod n b.length:=Int.tmod_nonneg _ h0;have m1:Int.tmod n b.length<b.length:=Int.tmod_lt_of_pos _ (by omega);have m2:(Int.tmod n b.length).toNat<b.length:=by generalize Int.tmod n b.length=im at *;omega
 obtain⟨x,hx⟩:∃x,b[(Int.tmod n b.length).toNat]?=some x:=⟨_,List.getElem?_eq_getElem m2⟩
 have hg:=Vg (k:=.u8) hx;have ib:=Aer (a:=n) (m:=7) (by omega) (by omega);obtain⟨a7,h7⟩:∃a7,Qg .i64 n 7=a7:=⟨_,rfl⟩
 rw[h7] at ib;have w4:wrap .u64 a7=a7:=Cd (by omega) (by omega);have L:=Am .u8 b;obtain⟨v,hv⟩:∃v,Fi .u8 x (Hm .u8 1 a7)=v:=⟨_,rfl⟩
 have hvb:0<=v/\v<=255:=by rw[<-hv];exact w8 _
 have es:Bx (Ac .u8 b) [.sc (.int .u8 v)] (Int.tmod n b.length).toNat=Ac .u8 (b.set (Int.tmod n b.length).toNat v):=by
  rw[Hg (by rw[L];exact m2)]
  have:=Au0 (f:=Axk .u8) (DU .u8) (p:=.sc (.int .u8 v)) (j:=0) (by omega) hx (y:=v) rfl;rw[Df,JF] at this;exact this
 have t2:=Mb .u8 (b.set (Int.tmod n b.length).toNat v);have l2:(b.set (Int.tmod n b.length).toNat v).length=b.length:=List.length_set;have L2:=Am .u8 (b.set (Int.tmod n b.length).toNat v);rw[l2] at t2;refine⟨b.set (Int.tmod n b.length).toNat v,?_,?_,?_⟩
 ·intro y hy;rcases List.mem_or_eq_of_mem_set hy with hy|hy
  ·exact hb y hy
  ·subst hy;exact hvb
 ·rw[A5 hz,l2]
 rw[Vt];have b0:((b.length:Int)==0)=false:=beq_eq_false_iff_ne.2 (by omega);rw[l2];generalize Int.tmod n b.length=im at *
 repeat(with_reducible(first|apply Aj|apply Ad|apply Ah|apply Bb|apply Au|apply Ae|apply Ai|apply Ct);· first|constructor|(simp(disch:=omega)only[Cu,b0,Cm,Df,L,hg,h7,w4,hv,es,L2,t2]<;>first|constructor|omega)|omega)
 try simp(disch:=omega)only[Aa,b0,Cm,Df,L,hg,h7,w4,hv,es,L2,t2]
 all_goals rfl
theorem A3f(Bn:1000<=fu)(seed h:Int):Ar C0 prog fu (d+13) 17 [Af seed,At h]=some ⟨[.agg (BP seed h).cells],[]⟩:=by rw[LJ];have p:=WX (fu:=fu) (d:=d) Bn seed h;simp only[Ky.cells] at p ⊢;simp only[B4,B3,p]
end
theorem Ab0(dom:Int)(l:Ca):Ty (S4 dom l):=Ls _
theorem A3u(key dom:Int)(l:Ca):Ty (Aui key dom l):=Ls _
theorem Ash(leaf chain:Int):∀(k:Nat)(p:Int){x:Int},Ty x->Ty (Xb leaf chain k p x)
 |0,_,_,h=>h
 |k+1,p,x,h=>Ash leaf chain k (p+1) (Ab0 _ _)
theorem A2h(seed leaf m:Int):isW (M8 seed leaf m):=by intro x hx;obtain⟨k,_,rfl⟩:=List.mem_map.1 hx;exact Ash _ _ _ _ (A3u _ _ _)
theorem Ak3(seed:Int):∀(l:Nat)(i:Int),Ty (Cs seed l i)
 |0,i=>Ab0 _ _
 |l+1,i=>Ab0 _ _
theorem Aph(seed h:Int):Ty (BP seed h).root:=by
 unfold BP;split
 ·exact⟨by simp,by simp⟩
 ·exact Ak3 _ _ _
theorem Aky{seed h leaf m:Int}(hh:D1 h=false)(ho:Js leaf h=false):∃s,LH seed h leaf m=some s/\s.ok/\s.leaf=leaf/\s.chains.length=18/\(s.path.length:Int)=h/\Apa (BP seed h) m s=0:=by
 have hb:=H7 hh;refine⟨⟨leaf,M8 seed leaf m,(List.range h.toNat).map fun k=>Cs seed k (H3 leaf k)⟩,?_,⟨A2h _ _ _,?_⟩,rfl,by simp[M8],?_,Ara hh ho⟩
 ·unfold LH;rw[A5 (by simp[hh]),A5 (by simp[ho])]
 ·intro x hx;obtain⟨k,_,rfl⟩:=List.mem_map.1 hx;exact Ak3 _ _ _
 ·simp only[List.length_map,List.length_range];omega
theorem Al9{s:Sg}:(Sj s).length=2+8*s.chains.length+8*s.path.length:=by unfold Sj;simp only[G7,Fw,Da];omega
section
variable {xs:FuncId->Option (Ab->Option D0)}(fu d:Nat)(call:Bp)
def Gs(Z:Nat)(Y:Ab)(X:Int)(W:Nat)(V:Int)(U:Nat)(T:Ab)(S Q:Int)(P O:Int)(N:Nat)(M:Int)(L K:Nat)(J I H:Ab)(G E D:Int)(B:Nat)(A:Int)(z w:Nat)(v u t:Ab):Option D0:=Mg fu call 11 Tryz.f11 [.pbox [Ap 1 Z Y,X]] [.r,.r,.l,.r,.l] W ⟨lk [(0,.ptr 238000 0),(2,.ptr 2 0),(3,.ptr 3 0),(4,V)],B0 [(238000,.st [Ap 1 U T,S]),(2,.st [Q,P,O,.view 478 3 0 N,M,.view 716 1 0 L,.view 835 1 0 K]),(478,.ar false J),(716,.ar false I),(835,.ar false H),(3,.st [G,E,D,.view 479 3 0 B,A,.view 717 1 0 z,.view 836 1 0 w]),(479,.ar false v),(717,.ar false u),(836,.ar false t)]⟩
def Gu(Z:Nat)(Y:Ab)(X:Int)(W V:Nat)(U T:Int)(S:Nat)(Q:Ab)(P O:Int)(N M:Int)(L:Nat)(K:Int)(J I:Nat)(H G E:Ab)(D B A:Int)(z:Nat)(w:Int)(v u:Nat)(t y23 y24:Ab)(y25:Int)(y26 y27:Nat)(y28 y29:Ab):Option D0:=Mg fu call 11 Tryz.f11 [.pbox [Ap 1 Z Y,X]] [.r,.r,.l,.r,.l,.i W,.r,.l,.l,.r,.l,.r,.l] V ⟨lk [(0,.ptr 238000 0),(2,.ptr 2 0),(3,.ptr 3 0),(4,U),(5,.ptr 5 0),(6,T)],B0 [(238000,.st [Ap 1 S Q,P]),(2,.st [O,N,M,.view 478 3 0 L,K,.view 716 1 0 J,.view 835 1 0 I]),(478,.ar false H),(716,.ar false G),(835,.ar false E),(3,.st [D,B,A,.view 479 3 0 z,w,.view 717 1 0 v,.view 836 1 0 u]),(479,.ar false t),(717,.ar false y23),(836,.ar false y24),(5,.st [Af y25,.view 243 3 0 y26,.view 362 2 0 y27]),(243,.ar false y28),(362,.ar false y29)]⟩
def M2(Z:Nat)(Y:Ab)(X:Int)(W V:Nat)(U:Ab)(T S:Int)(Q P:Int)(O:Nat)(N:Int)(M L:Nat)(K J I:Ab)(H G E:Int)(D:Nat)(B:Int)(A z:Nat)(w v u:Ab):Option D0:=Mg fu call 11 Tryz.f11 [.pbox [Ap 1 Z Y,X]] [.r,.r] W ⟨lk [(0,.ptr 238000 0),(2,.ptr 2 0),(3,.ptr 3 0)],B0 [(238000,.st [Ap 1 V U,T]),(2,.st [S,Q,P,.view 478 3 0 O,N,.view 716 1 0 M,.view 835 1 0 L]),(478,.ar false K),(716,.ar false J),(835,.ar false I),(3,.st [H,G,E,.view 479 3 0 D,B,.view 717 1 0 A,.view 836 1 0 z]),(479,.ar false w),(717,.ar false v),(836,.ar false u)]⟩
def Gw(Z:Nat)(Y:Ab)(X:Int)(W V:Nat)(U T:Int)(S:Nat)(Q:Ab)(P O:Int)(N M:Int)(L:Nat)(K:Int)(J I:Nat)(H G E:Ab)(D B A:Int)(z:Nat)(w:Int)(v u:Nat)(t y23 y24:Ab)(y25:Int)(y26 y27:Nat)(y28 y29:Ab):Option D0:=Mg fu call 11 Tryz.f11 [.pbox [Ap 1 Z Y,X]] [.r,.r,.l,.r,.l,.i W,.r,.l,.l,.r,.r,.l,.r,.l] V ⟨lk [(0,.ptr 238000 0),(2,.ptr 2 0),(3,.ptr 3 0),(4,U),(5,.ptr 5 0),(9,T)],B0 [(238000,.st [Ap 1 S Q,P]),(2,.st [O,N,M,.view 478 3 0 L,K,.view 716 1 0 J,.view 835 1 0 I]),(478,.ar false H),(716,.ar false G),(835,.ar false E),(3,.st [D,B,A,.view 479 3 0 z,w,.view 717 1 0 v,.view 836 1 0 u]),(479,.ar false t),(717,.ar false y23),(836,.ar false y24),(5,.st [Af y25,.view 243 3 0 y26,.view 362 2 0 y27]),(243,.ar false y28),(362,.ar false y29)]⟩
def Fh(Z:Nat)(Y:Ab)(X:Int)(W V:Nat)(U:Ab)(T S:Int)(Q P:Int)(O:Nat)(N:Int)(M L:Nat)(K J I:Ab)(H G E:Int)(D:Nat)(B:Int)(A z:Nat)(w v u:Ab):Option D0:=Mg fu call 11 Tryz.f11 [.pbox [Ap 1 Z Y,X]] [.r,.r,.r] W ⟨lk [(0,.ptr 238000 0),(2,.ptr 2 0),(3,.ptr 3 0)],B0 [(238000,.st [Ap 1 V U,T]),(2,.st [S,Q,P,.view 478 3 0 O,N,.view 716 1 0 M,.view 835 1 0 L]),(478,.ar false K),(716,.ar false J),(835,.ar false I),(3,.st [H,G,E,.view 479 3 0 D,B,.view 717 1 0 A,.view 836 1 0 z]),(479,.ar false w),(717,.ar false v),(836,.ar false u)]⟩
theorem Ex(Y:Nat)(X:Ab)(W:Int)(t:Nat)(V:Int)(U:Nat)(T:Ab)(S Q:Int)(P O:Int)(N:Nat)(M:Int)(L K:Nat)(J I H:Ab)(G E D:Int)(Z:Nat)(B:Int)(A z:Nat)(w v u:Ab):Gs fu call Y X W (t+1) V U T S Q P O N M L K J I H G E D Z B A z w v u=(A3 (decide (V>0)) (Aa (wrap .i64 ((↑Z:Int)+1)) fun a=>Bk (call 15 [.pbox [Ap 1 U T,S],(2:Int)]) fun b c=>Dk .i64 b fun b=>Av c fun c e=>Hw 1 c fun c f g=>Dk .i64 g fun g=>Aq e<|Aa (wrap .i64 (a+b)) fun a=>Aa (wrap .u64 a) fun a=>Bk (call 15 [.pbox [Ap 1 c f,g],(3:Int)]) fun b c=>Dk .i64 b fun b=>Av c fun c e=>Hw 1 c fun c f g=>Dk .i64 g fun g=>Aq e<|Gu fu call Y X W t fu V b c f g Q P O N M L K J I H G E D Z B A z w v u a 0 0 ([]) ([])) (M2 fu call Y X W fu U T S Q P O N M L K J I H G E D Z B A z w v u)):=by kernel_rfl
theorem Ln(Z:Nat)(Y:Ab)(X:Int)(W nn:Nat)(V U:Int)(T:Nat)(S:Ab)(Q P:Int)(O N:Int)(M:Nat)(L:Int)(K J:Nat)(I H G:Ab)(E D B:Int)(A:Nat)(z:Int)(w v:Nat)(u t y24:Ab)(y25:Int)(y26 y27:Nat)(y28 y29:Ab):Gu fu call Z Y X W (nn+1) V U T S Q P O N M L K J I H G E D B A z w v u t y24 y25 y26 y27 y28 y29=(A3 (decide (U>0)) (Bk (call 15 [.pbox [Ap 1 T S,Q],(4:Int)]) fun a b=>Dk .i64 a fun a=>Av b fun b c=>Hw 1 b fun b e f=>Dk .i64 f fun f=>Aq c<|Aa (wrap .u64 a) fun a=>Dm (call 30 [Af a,(1:Int)]) fun a c=>Dr a fun a=>C2 .i64 a fun a g=>Dk .u64 g fun g=>Dk .i64 c fun c=>Bk (call 15 [.pbox [Ap 1 b e,f],(2:Int)]) fun b c=>Dk .i64 b fun b=>Av c fun c e=>Hw 1 c fun c f h=>Dk .i64 h fun h=>Aq e<|As (decide (0<=b)&&decide (b<2))<|D8 (List.getD [.sc (.string (ByteArray.mk #[114,111,111,116])),.sc (.string (ByteArray.mk #[111,116,104,101,114]))] (0+b.toNat*1) .top) fun b=>Og y26 3 32 y28 [.sc (.string b),a,Af g] fun a b=>Aa (wrap .i64 (U-1)) fun e=>Gu fu call Z Y X W nn V e c f h P O N M L K J I H G E D B A z w v u t y24 y25 a y27 b y29) (Bk (call 15 [.pbox [Ap 1 T S,Q],(4:Int)]) fun a b=>Dk .i64 a fun a=>Av b fun b c=>Hw 1 b fun b e f=>Dk .i64 f fun f=>Aq c<|Gw fu call Z Y X W fu V a b e f P O N M L K J I H G E D B A z w v u t y24 y25 y26 y27 y28 y29)):=by kernel_rfl
theorem F8(Y:Nat)(X:Ab)(W:Int)(B:Nat)(Mz:0<B)(w:Nat)(v:Ab)(u V:Int)(U T:Int)(S:Nat)(Q:Int)(P O:Nat)(N M L:Ab)(A Z z:Int)(K:Nat)(J:Int)(I H:Nat)(G E D:Ab):M2 fu call Y X W B w v u V U T S Q P O N M L A Z z K J I H G E D=(Bk (call 15 [.pbox [Ap 1 w v,u],(12:Int)]) fun a b=>Dk .i64 a fun a=>Av b fun b c=>Hw 1 b fun b e f=>Dk .i64 f fun f=>Aq c<|A3 (a==11) (Bk (call 15 [.pbox [Ap 1 b e,f],(3:Int)]) fun a b=>Dk .i64 a fun a=>Av b fun b c=>Hw 1 b fun b e f=>Dk .i64 f fun f=>Aq c<|As (decide (0<=a)&&decide (a<3))<|Be .i64 (List.getD [(0:Int),(17:Int),(-1:Int)] (0+a.toNat*1) .top) fun a=>Fh fu call Y X W fu b e f V U T S Q P O N M L a Z z K J I H G E D) (A3 (a==10) (Aa (wrap .i64 (Z-1)) fun a=>Fh fu call Y X W fu b e f V U T S Q P O N M L A Z a K J I H G E D) (A3 (a==9) (Bk (call 15 [.pbox [Ap 1 b e,f],(6:Int)]) fun a b=>Dk .i64 a fun a=>Av b fun b c=>Hw 1 b fun b e f=>Dk .i64 f fun f=>Aq c<|Bk (call 15 [.pbox [Ap 1 b e,f],(2:Int)]) fun b c=>Dk .i64 b fun b=>Av c fun c e=>Hw 1 c fun c f g=>Dk .i64 g fun g=>Aq e<|Aa (wrap .i64 (0-b)) fun b=>Og K 3 56 G [Af 1,Ap 3 0 [],Ap 2 1 [a,b]] fun a b=>Fh fu call Y X W fu c f g V U T S Q P O N M L A Z z a J I H b E D) (Fh fu call Y X W fu b e f V U T S Q P O N M L A Z z K J I H G E D)))):=by cases B with|zero=>exact absurd Mz (Nat.lt_irrefl 0)|succ B=>kernel_rfl
theorem Ly(V:Nat)(U:Ab)(T:Int)(S nn:Nat)(Q P:Int)(O:Nat)(N:Ab)(M L:Int)(K J:Int)(I:Nat)(H:Int)(G E:Nat)(D B A:Ab)(z w v:Int)(u:Nat)(t:Int)(y20 y21:Nat)(y22 y23 y24:Ab)(y25:Int)(Y Z:Nat)(X W:Ab):Gw fu call V U T S (nn+1) Q P O N M L K J I H G E D B A z w v u t y20 y21 y22 y23 y24 y25 Y Z X W=(A3 (decide (P>0)) (Bk (call 15 [.pbox [Ap 1 O N,M],(4:Int)]) fun a b=>Dk .i64 a fun a=>Av b fun b c=>Hw 1 b fun b e f=>Dk .i64 f fun f=>Aq c<|Aa (wrap .i64 (1+a)) fun a=>Aa (wrap .i64 (10*(↑Z:Int))) fun c=>Bk (call 15 [.pbox [Ap 1 b e,f],(12:Int)]) fun b e=>Dk .i64 b fun b=>Av e fun e f=>Hw 1 e fun e g h=>Dk .i64 h fun h=>Aq f<|Aa (wrap .i64 (c+b)) fun b=>Og Z 2 16 W [a,b] fun a b=>Aa (wrap .i64 (P-1)) fun c=>Gw fu call V U T S nn Q c e g h L K J I H G E D B A z w v u t y20 y21 y22 y23 y24 y25 Y a X b) (As (decide (0+Y*3<=X.length))<|As (decide (0+Z*2<=W.length))<|Og u 3 56 y22 [Af y25,Ap 3 Y (List.take (Y*3) (X.drop 0)),Ap 2 Z (List.take (Z*2) (W.drop 0))] fun a b=>Aa (wrap .i64 (Q-1)) fun c=>Gs fu call V U T S c O N M L K J I H G E D B A z w v a t y20 y21 b y23 y24)):=by kernel_rfl
theorem F7(K:Nat)(J:Ab)(I:Int)(Z:Nat)(Mz:0<Z)(S:Nat)(Q:Ab)(P H:Int)(G E:Int)(D:Nat)(B:Int)(A z:Nat)(w v u:Ab)(O N M:Int)(Y:Nat)(L:Int)(X W:Nat)(V U T:Ab):Fh fu call K J I Z S Q P H G E D B A z w v u O N M Y L X W V U T=(As (decide (0+Y*3<=V.length))<|As (decide (0+X*1<=U.length))<|As (decide (0+W*1<=T.length))<|some ⟨[.agg [O,N,M,Ap 3 Y (List.take (Y*3) (V.drop 0)),L,Ap 1 X (List.take (X*1) (U.drop 0)),Ap 1 W (List.take (W*1) (T.drop 0))]],[[Ap 1 S Q,P]]⟩):=by cases Z with|zero=>exact absurd Mz (Nat.lt_irrefl 0)|succ Z=>kernel_rfl
theorem Yp(Z:Nat)(Y:Ab)(X:Int):Fn C0 fu d 11 [.pbox [Ap 1 Z Y,X]] fun call=>Bk (call 15 [.pbox [Ap 1 Z Y,X],(16:Int)]) fun a b=>Dk .i64 a fun a=>Av b fun b c=>Hw 1 b fun b e f=>Dk .i64 f fun f=>Aq c<|Aa (wrap .i64 (1+a)) fun a=>Bk (call 15 [.pbox [Ap 1 b e,f],(20:Int)]) fun b c=>Dk .i64 b fun b=>Av c fun c e=>Hw 1 c fun c f g=>Dk .i64 g fun g=>Aq e<|Bk (call 15 [.pbox [Ap 1 c f,g],(100:Int)]) fun c e=>Dk .i64 c fun c=>Av e fun e f=>Hw 1 e fun e g h=>Dk .i64 h fun h=>Aq f<|Aa (wrap .i64 (20+c)) fun c=>Bk (call 15 [.pbox [Ap 1 e g,h],(4:Int)]) fun e f=>Dk .i64 e fun e=>Av f fun f g=>Hw 1 f fun f h i=>Dk .i64 i fun i=>Aq g<|Gs fu call Z Y X fu e f h i 0 0 0 0 0 0 0 ([]) ([]) ([]) a b c 0 0 0 0 ([]) ([]) ([]):=by show _=_;kernel_rfl
theorem GX(Z:Nat)(Y:Ab)(X:Int):Fn C0 fu d 23 [Ap 1 Z Y,X] fun call=>Na .i64 (call 14 [X,(4096:Int)]) fun a=>Dm (call 44 [Ap 1 Z Y,a]) fun a b=>Je 1 a fun a c=>Aq b<|As (decide (a*1<=c.length))<|Bv [.own 1 a (c.take (a*1))]:=by show _=_;kernel_rfl
theorem AW(Z:Nat)(Y:Ab):Fn C0 fu d 22 [Ap 1 Z Y] fun call=>Dm (call 26 [Ap 1 Z Y]) fun a b=>Dr a fun a=>C2 .i64 a fun a c=>C2 .i64 c fun c e=>C2 .i64 e fun e f=>Hw 3 f fun f g h=>C2 .i64 h fun h i=>Hw 1 i fun i j k=>Hw 1 k fun k m n=>Aq n<|Dk .i64 b fun b=>Dm (call 43 [Ap 1 Z Y]) fun n o=>Dr n fun n=>C2 .i64 n fun n p=>C2 .i64 p fun p q=>C2 .i64 q fun q s=>Hw 3 s fun s t u=>C2 .i64 u fun u v=>Hw 1 v fun v w z=>Hw 1 z fun z A B=>Aq B<|Dk .i64 o fun o=>Dm (call 18 [.agg [a,c,e,Ap 3 f g,h,Ap 1 i j,Ap 1 k m],.agg [n,p,q,Ap 3 s t,u,Ap 1 v w,Ap 1 z A]]) fun a c=>Cg a fun a=>Aq c<|A3 a (Bv [.sc (.bool (b==o))]) (Bv [.sc (.bool false)]):=by show _=_;kernel_rfl
theorem DR :Fn C0 fu d 9 [] fun call=>Dm (call 16 [.agg [(2:Int),(1:Int),(9:Int),Ap 3 1 [Af 4,Ap 3 0 [],Ap 2 2 [(1:Int),(0:Int),(4:Int),(50:Int)]],(0:Int),Ap 1 0 [],Ap 1 0 []],Af 7,(2:Int)]) fun a b=>Dr a fun a=>C2 .i64 a fun a c=>C2 .i64 c fun c e=>C2 .i64 e fun e f=>Hw 3 f fun f g h=>C2 .i64 h fun h i=>Hw 1 i fun i j k=>Hw 1 k fun k m n=>Aq n<|Dk .i64 b fun b=>Dm (call 25 [.agg [a,c,e,Ap 3 f g,h,Ap 1 i j,Ap 1 k m]]) fun n o=>Je 1 n fun n p=>Dk .i64 o fun o=>Dm (call 17 [Af 7,(2:Int)]) fun q s=>Dr q fun q=>C2 .i64 q fun q t=>Dk .u64 t fun t=>Aq s<|As (decide (0+n*1<=p.length))<|Dm (call 27 [.agg [(1:Int),(0:Int),(0:Int),Ap 3 0 [],(0:Int),Ap 1 0 [],Ap 1 0 []],Ap 1 n (List.take (n*1) (p.drop 0)),.agg [q,Af t],(5:Int)]) fun q s=>Dr q fun q=>C2 .i64 q fun q t=>C2 .i64 t fun t u=>C2 .i64 u fun u v=>Hw 3 v fun v w z=>C2 .i64 z fun z A=>Hw 1 A fun A B D=>Hw 1 D fun D E G=>Aq G<|Dk .i64 s fun s=>Dm (call 17 [Af 7,(2:Int)]) fun G H=>Dr G fun G=>C2 .i64 G fun G I=>Dk .u64 I fun I=>Aq H<|As (decide (0+n*1<=p.length))<|Dm (call 27 [.agg [a,c,e,Ap 3 f g,h,Ap 1 i j,Ap 1 k m],Ap 1 n (List.take (n*1) (p.drop 0)),.agg [G,Af I],(5:Int)]) fun n p=>Dr n fun n=>C2 .i64 n fun n G=>C2 .i64 G fun n G=>C2 .i64 G fun n G=>Hw 3 G fun n G H=>C2 .i64 H fun n G=>Hw 1 G fun n G H=>Hw 1 H fun n G H=>Aq H<|Dk .i64 p fun n=>A3 (b==0) (A3 (o==0) (A3 (s==0) (A3 (n==7) (A3 (h==1) (Dm (call 18 [.agg [a,c,e,Ap 3 f g,h,Ap 1 i j,Ap 1 k m],.agg [q,t,u,Ap 3 v w,z,Ap 1 A B,Ap 1 D E]]) fun a b=>Cg a fun a=>Aq b<|A3 a (Na .i64 (call 29 [.agg [q,t,u,Ap 3 v w,z,Ap 1 A B,Ap 1 D E],Af 4,(49:Int)]) fun a=>A3 (a==1) (Na .i64 (call 29 [.agg [q,t,u,Ap 3 v w,z,Ap 1 A B,Ap 1 D E],Af 4,(50:Int)]) fun a=>Bv [.sc (.bool (a==4))]) (Bv [.sc (.bool false)])) (Bv [.sc (.bool false)])) (Bv [.sc (.bool false)])) (Bv [.sc (.bool false)])) (Bv [.sc (.bool false)])) (Bv [.sc (.bool false)])) (Bv [.sc (.bool false)]):=by show _=_;kernel_rfl
end
structure Me.few(x:Me):Prop where
 model:Ty x.model
 rts:x.rts
 ans:x.ans.length<=2
 sts:x.sts.length<=3
 nam:∀a∈x.ans,a.name.size<=60
structure Md.plain(m:Md):Prop where
 ent:∀x∈m.ents,x.few
 len:m.ents.length<=4
 sg:m.sig=YI
abbrev rtN:ByteArray:=⟨#[(114:UInt8),(111:UInt8),(111:UInt8),(116:UInt8)]⟩
abbrev otN:ByteArray:=⟨#[(111:UInt8),(116:UInt8),(104:UInt8),(101:UInt8),(114:UInt8)]⟩
theorem At2{v:Int}(h0:0<=v)(h1:v<2):∃s:ByteArray,s.size<=60/\List.getD [PV.sc (Value.string rtN),PV.sc (Value.string otN)] (0+Int.toNat v*1) PV.top=.sc (.string s):=by
 have:v=0\/v=1:=by omega
 rcases this with rfl|rfl
 ·exact⟨rtN,by decide,rfl⟩
 ·exact⟨otN,by decide,rfl⟩
section
variable {fu d:Nat}{l:Ca}
theorem Aq6(a:List An)(x:An):Cz a++[.sc (.string x.name),At x.key.h,Af x.key.root]=Cz (a++[x]):=by unfold Cz;rw[List.flatMap_append,Jr,List.flatMap_nil,List.append_nil];rfl
theorem Asg(a:List Sa)(x:Sa):Dn a++[At x.kd,At x.at_]=Dn (a++[x]):=by unfold Dn;rw[List.flatMap_append,Jr,List.flatMap_nil,List.append_nil];rfl
abbrev MS(fu d:Nat)(l:Ca)(Ci:Int)(nn:Nat)(v:Int)(i:Nat)(ver iss nxt:Int)(n:Nat)(c:Ab):Option D0:=
 Gs fu (Ar C0 prog fu (d+13)) l.length (Ac .i64 l) Ci nn v l.length (Ac .i64 l) (i:Int) 0 0 0 0 0 0 0 [] [] [] ver iss nxt n 0 0 0 c [] []
theorem A09(hl:l.length<=maxLen){Ci:Int}{m0:Nat}{v0 ver iss nxt mo:Int}{en:Nat}{E:List Me}(hE:E.length<=100){A:List An}(hA:A.length<=100):∀(k nn:Nat)(v:Int)(i:Nat)(S:List Sa),v<=k->k<nn->S.length+k<=100 ->
  ∃(S':List Sa) (i':Nat),S'.length<=S.length+k /\
  Gw fu (Ar C0 prog fu (d+13)) l.length (Ac .i64 l) Ci m0 nn v0 v l.length (Ac .i64 l) (i:Int) 0 0 0 0 0 0 0 [] [] [] ver iss nxt E.length 0 0 0 (B7 E) [] [] mo A.length S.length (Cz A) (Dn S) =
   MS fu d l Ci m0 (wrap .i64 (v0-1)) i' ver iss nxt (E++[Me.mk mo A S']).length (B7 (E++[Me.mk mo A S']))
 |_,0,_,_,_,_,h,_=>by omega
 |k,nn+1,v,i,S,hv,hn,hS=>by
  have LA:=Nt A;have LS:=Yy S;have LE:=Mf E;have tA:List.take (A.length*3) (Cz A)=Cz A:=Gv (by omega);have tS:List.take (S.length*2) (Dn S)=Dn S:=Gv (by omega);have tE:List.take (E.length*3) (B7 E)=B7 E:=Gv (by omega);by_cases h0:v>0
  rotate_left
  ·refine⟨S,i,by omega,?_⟩;rw[Ly];have ea:=Yq E (Me.mk mo A S);simp only at ea;have el:(E++[Me.mk mo A S]).length=E.length+1:=by rw[Fw];rfl
   rw[el];generalize B7 (E++[_])=E' at *
   repeat(with_reducible(first|apply Aj|apply Ad|apply Ah|apply Ax|apply Ba|apply Au|apply Ae|apply Ai|apply Ct);· first|constructor|(simp(disch:=omega)only[Cu,LA,LS,LE,tA,tS,tE,ea,Cm,Es]<;>first|constructor|omega)|omega)
   try simp(disch:=omega)only[Aa,LA,LS,LE,tA,tS,tE,ea,Cm,Es]
   all_goals rfl
  ·obtain⟨k',rfl⟩:∃k',k=k'+1:=⟨k-1,by omega⟩
   obtain⟨u0,j0,u00,u01,n0⟩:=Ib hl i 4 (by omega) (by omega);obtain⟨u1,j1,u10,u11,n1⟩:=Ib hl j0 12 (by omega) (by omega);have n0:=n0 (fu:=fu) (d:=d+11);have n1:=n1 (fu:=fu) (d:=d+11);simp only[dkc] at n0 n1;have wd:wrap .i64 (v-1)=v-1:=Ag (by omega) (by omega);obtain⟨S',i',h1,h2⟩:=A09 hl (Ci:=Ci) (m0:=m0) (v0:=v0) (ver:=ver) (iss:=iss) (nxt:=nxt) (mo:=mo) (en:=en) hE hA k' nn (v-1) j1 (S++[⟨wrap .i64 (1+u0),wrap .i64 (wrap .i64 (10*(S.length:Int))+u1)⟩]) (by omega) (by omega) (by rw[Fw,List.length_singleton];omega)
   refine⟨S',i',by rw[Fw,List.length_singleton] at h1;omega,?_⟩
   rw[<-h2,Ly];have ea:=Asg S ⟨wrap .i64 (1+u0),wrap .i64 (wrap .i64 (10*(S.length:Int))+u1)⟩;simp only at ea;have el:(S++[Sa.mk (wrap .i64 (1+u0)) (wrap .i64 (wrap .i64 (10*(S.length:Int))+u1))]).length=S.length+1:=by rw[Fw];rfl
   rw[el];clear h2;generalize Dn (S++[_])=S2 at *
   repeat(with_reducible(first|apply Aj|apply Ad|apply Ah|apply Ax|apply Ba|apply Au|apply Ae|apply Ai|apply Ct);· first|constructor|(simp(disch:=omega)only[Cu,n0,n1,LS,tS,ea,wd]<;>first|constructor|omega)|omega)
   try simp(disch:=omega)only[Aa,n0,n1,LS,tS,ea,wd]
   all_goals rfl
theorem Az1(Bn:2000<=fu)(hl:l.length<=maxLen){Ci:Int}{m0:Nat}{v0 ver iss nxt mo:Int}(hmo:Ty mo){E:List Me}(hE:E.length<=100):∀(k nn:Nat)(v:Int)(i:Nat)(A:List An),v<=k->k<nn->A.length+k<=2->(∀a∈A,Ty a.key.root/\a.name.size<=60) ->
  ∃(x:Me) (i':Nat),x.few /\
  Gu fu (Ar C0 prog fu (d+13)) l.length (Ac .i64 l) Ci m0 nn v0 v l.length (Ac .i64 l) (i:Int) 0 0 0 0 0 0 0 [] [] [] ver iss nxt E.length 0 0 0 (B7 E) [] [] mo A.length 0 (Cz A) [] =
   MS fu d l Ci m0 (wrap .i64 (v0-1)) i' ver iss nxt (E++[x]).length (B7 (E++[x]))
 |_,0,_,_,_,_,h,_,_=>by omega
 |k,nn+1,v,i,A,hv,hn,hA,hk=>by
  have LA:=Nt A;have tA:List.take (A.length*3) (Cz A)=Cz A:=Gv (by omega);by_cases h0:v>0
  rotate_left
  ·obtain⟨u0,j0,u00,u01,n0⟩:=Ib hl i 4 (by omega) (by omega);have n0:=n0 (fu:=fu) (d:=d+11);simp only[dkc] at n0;obtain⟨S',i',h1,h2⟩:=A09 (fu:=fu) (d:=d) hl (Ci:=Ci) (m0:=m0) (v0:=v0) (ver:=ver) (iss:=iss) (nxt:=nxt) (mo:=mo) (en:=0) hE (A:=A) (by omega) 3 fu u0 j0 [] (by omega) (by omega) (by simp);refine⟨⟨mo,A,S'⟩,i',⟨hmo,fun a ha=>(hk a ha).1,by simp only;omega,by simp only[Vx] at h1 ⊢;omega,fun a ha=>(hk a ha).2⟩,?_⟩
   rw[<-h2,Ln];clear h2
   repeat(with_reducible(first|apply Aj|apply Ad|apply Ah|apply Ax|apply Ba|apply Au|apply Ae|apply Ai|apply Ct);· first|constructor|(simp(disch:=omega)only[Cu,n0]<;>first|constructor|omega)|omega)
   try simp(disch:=omega)only[Aa,n0]
   all_goals rfl
  ·obtain⟨k',rfl⟩:∃k',k=k'+1:=⟨k-1,by omega⟩
   obtain⟨u0,j0,u00,u01,n0⟩:=Ib hl i 4 (by omega) (by omega);obtain⟨u1,j1,u10,u11,n1⟩:=Ib hl j0 2 (by omega) (by omega);have n0:=n0 (fu:=fu) (d:=d+11);have n1:=n1 (fu:=fu) (d:=d+11);simp only[dkc] at n0 n1;have pk:=WX (fu:=fu) (d:=d+1) (by omega) (wrap .u64 u0) 1;have kr:=Aph (wrap .u64 u0) 1;obtain⟨s1,z1,g1⟩:=At2 u10 u11;have c1:(decide ((0:Int)<=u1)&&decide (u1<2))=true:=by simp;omega
   simp only[Ky.cells] at pk;generalize BP (wrap .u64 u0) 1=K at *
   generalize (if D1 1=true then (9:Int) else 0)=er at *
   have wd:wrap .i64 (v-1)=v-1:=Ag (by omega) (by omega);obtain⟨x,i',h1,h2⟩:=Az1 Bn hl (Ci:=Ci) (m0:=m0) (v0:=v0) (ver:=ver) (iss:=iss) (nxt:=nxt) hmo hE k' nn (v-1) j1 (A++[⟨s1,K⟩]) (by omega) (by omega) (by rw[Fw,List.length_singleton];omega) (fun a ha=>(Bz.1 ha).elim (hk a) fun h=>by rw[Mv.1 h];exact⟨kr,z1⟩)
   refine⟨x,i',h1,?_⟩;rw[<-h2,Ln];have ea:=Aq6 A ⟨s1,K⟩;simp only at ea;have el:(A++[An.mk s1 K]).length=A.length+1:=by rw[Fw];rfl
   rw[el];clear h2;generalize Cz (A++[_])=A2 at *
   repeat(with_reducible(first|apply Aj|apply Ad|apply Ah|apply Ax|apply Ba|apply Au|apply Ae|apply Ai|apply Ct);· first|constructor|(simp(disch:=omega)only[Cu,n0,n1,pk,g1,c1,LA,tA,ea,wd]<;>first|constructor|omega)|omega)
   try simp(disch:=omega)only[Aa,n0,n1,pk,g1,c1,LA,tA,ea,wd]
   all_goals rfl
theorem Ajq(s:Sa)(E:List Me):B7 E++[Af 1,.lst false 3 0 [],.lst false 2 1 [At s.kd,At s.at_]]=B7 (E++[Me.mk 1 [] [s]]):=Yq E (Me.mk 1 [] [s])
theorem A0o(Bn:2000<=fu)(hl:l.length<=maxLen){Ci:Int}{ver iss nxt:Int}:∀(k nn:Nat)(v:Int)(i:Nat)(E:List Me),v<=k->k<nn->E.length+k<=3->(∀x∈E,x.few) ->
  ∃(m:Md) (j:Nat),m.plain/\MS fu d l Ci nn v i ver iss nxt E.length (B7 E)=some ⟨[.agg m.cells],[dkc l j]⟩
 |_,0,_,_,_,_,h,_,_=>by omega
 |k,nn+1,v,i,E,hv,hn,hE,hk=>by
  have LE:=Mf E;have tE:List.take (E.length*3) (B7 E)=B7 E:=Gv (by omega);by_cases h0:v>0
  ·obtain⟨k',rfl⟩:∃k',k=k'+1:=⟨k-1,by omega⟩
   obtain⟨u0,j0,u00,u01,n0⟩:=Ib hl i 2 (by omega) (by omega);obtain⟨u1,j1,u10,u11,n1⟩:=Ib hl j0 3 (by omega) (by omega);have n0:=n0 (fu:=fu) (d:=d+11);have n1:=n1 (fu:=fu) (d:=d+11);simp only[dkc] at n0 n1;have wd:wrap .i64 (v-1)=v-1:=Ag (by omega) (by omega);obtain⟨x,i',h1,h2⟩:=Az1 (fu:=fu) (d:=d) Bn hl (Ci:=Ci) (m0:=nn) (v0:=v) (ver:=ver) (iss:=iss) (nxt:=nxt) (mo:=wrap .u64 (wrap .i64 (wrap .i64 ((E.length:Int)+1)+u0))) (Ls _) (E:=E) (by omega) 2 fu u1 j1 [] (by omega) (by omega) (by simp) (fun a ha=>by cases ha);obtain⟨m,j,m1,m2⟩:=A0o Bn hl (Ci:=Ci) (ver:=ver) (iss:=iss) (nxt:=nxt) k' nn (v-1) i' (E++[x]) (by omega) (by omega) (by rw[Fw,List.length_singleton];omega) (fun y hy=>(Bz.1 hy).elim (hk y) fun h=>by rw[Mv.1 h];exact h1)
   refine⟨m,j,m1,?_⟩;rw[<-m2];rw[wd] at h2;rw[<-h2];unfold MS;rw[Ex];clear h2 m2
   repeat(with_reducible(first|apply Aj|apply Ad|apply Ah|apply Ax|apply Ba|apply Au|apply Ae|apply Ai|apply Ct);· first|constructor|(simp(disch:=omega)only[Cu,n0,n1]<;>first|constructor|omega)|omega)
   try simp(disch:=omega)only[Aa,n0,n1]
   all_goals rfl
  ·obtain⟨vs,j0,vs0,vs1,n0⟩:=Ib hl i 12 (by omega) (by omega);have n0:=n0 (fu:=fu) (d:=d+11);have h4:vs=11\/vs=10\/vs=9\/(vs≠11/\vs≠10/\vs≠9):=by omega
   unfold MS;rcases h4 with rfl|rfl|rfl|⟨m1,m2,m3⟩
   ·obtain⟨u1,j1,u10,u11,n1⟩:=Ib hl j0 3 (by omega) (by omega);have n1:=n1 (fu:=fu) (d:=d+11);simp only[dkc] at n0 n1;have c1:(decide ((0:Int)<=u1)&&decide (u1<3))=true:=by simp;omega
    obtain⟨w,g1⟩:∃w:Int,List.getD [PV.sc (Value.int IntKind.i64 (0:Int)),PV.sc (Value.int IntKind.i64 (17:Int)),PV.sc (Value.int IntKind.i64 (-1:Int))] ((0:Nat)+Int.toNat u1*(1:Nat)) PV.top=At w:=by
     have:u1=0\/u1=1\/u1=2:=by omega
     rcases this with rfl|rfl|rfl
     ·exact⟨_,rfl⟩
     ·exact⟨_,rfl⟩
     ·exact⟨_,rfl⟩
    rw[Cm] at g1;refine⟨⟨w,iss,nxt,E,YI⟩,j1,⟨hk,by simp only;omega,rfl⟩,?_⟩
    rw[Ex,Ef _ _ _ h0,F8 (Mz:=by omega)]
    repeat(with_reducible(first|apply Aj|apply Ad|apply Ah|apply Ax|apply Ba|apply Au|apply Ae|apply Ai|apply Ct);· first|constructor|(simp(disch:=omega)only[Cu,n0,n1,c1,g1,LE,tE,Cm,Es,Int.reduceBEq]<;>first|constructor|omega)|omega)
    try simp(disch:=omega)only[Aa,n0,n1,c1,g1,LE,tE,Cm,Es,Int.reduceBEq]
    rw[F7 (Mz:=by omega)]
    repeat(with_reducible(first|apply Aj|apply Ad|apply Ah|apply Ax|apply Ba|apply Au|apply Ae|apply Ai|apply Ct);· first|constructor|(simp(disch:=omega)only[Cu,n0,n1,c1,g1,LE,tE,Cm,Es,Int.reduceBEq]<;>first|constructor|omega)|omega)
    try simp(disch:=omega)only[Aa,n0,n1,c1,g1,LE,tE,Cm,Es,Int.reduceBEq]
    all_goals rfl
   ·simp only[dkc] at n0;refine⟨⟨ver,iss,wrap .i64 (iss-1),E,YI⟩,j0,⟨hk,by simp only;omega,rfl⟩,?_⟩
    rw[Ex,Ef _ _ _ h0,F8 (Mz:=by omega)]
    repeat(with_reducible(first|apply Aj|apply Ad|apply Ah|apply Ax|apply Ba|apply Au|apply Ae|apply Ai|apply Ct);· first|constructor|(simp(disch:=omega)only[Cu,n0,LE,tE,Cm,Es,Int.reduceBEq]<;>first|constructor|omega)|omega)
    try simp(disch:=omega)only[Aa,n0,LE,tE,Cm,Es,Int.reduceBEq]
    rw[F7 (Mz:=by omega)]
    repeat(with_reducible(first|apply Aj|apply Ad|apply Ah|apply Ax|apply Ba|apply Au|apply Ae|apply Ai|apply Ct);· first|constructor|(simp(disch:=omega)only[Cu,n0,LE,tE,Cm,Es,Int.reduceBEq]<;>first|constructor|omega)|omega)
    try simp(disch:=omega)only[Aa,n0,LE,tE,Cm,Es,Int.reduceBEq]
    all_goals rfl
   ·obtain⟨u1,j1,u10,u11,n1⟩:=Ib hl j0 6 (by omega) (by omega);obtain⟨u2,j2,u20,u21,n2⟩:=Ib hl j1 2 (by omega) (by omega);have n1:=n1 (fu:=fu) (d:=d+11);have n2:=n2 (fu:=fu) (d:=d+11);simp only[dkc] at n0 n1 n2;refine⟨⟨ver,iss,nxt,E++[⟨1,[],[⟨u1,wrap .i64 (0-u2)⟩]⟩],YI⟩,j2,⟨fun y hy=>(Bz.1 hy).elim (hk y) fun h=>by rw[Mv.1 h];exact⟨(show Ty 1 from ⟨by decide,by decide⟩),fun a ha=>(by cases ha),Nat.zero_le _,(show (1:Nat)<=3 by omega),fun a ha=>(by cases ha)⟩,by simp only[Fw,List.length_singleton];omega,rfl⟩,?_⟩
    rw[Ex,Ef _ _ _ h0,F8 (Mz:=by omega)];have ea:=Ajq ⟨u1,wrap .i64 (0-u2)⟩ E;have LE2:=Mf (E++[⟨1,[],[⟨u1,wrap .i64 (0-u2)⟩]⟩]);have el:(E++[Me.mk 1 [] [⟨u1,wrap .i64 (0-u2)⟩]]).length=E.length+1:=by rw[Fw];rfl
    simp only[Md.cells];rw[el] at LE2 ⊢;have tE2:List.take ((E.length+1)*3) (B7 (E++[⟨1,[],[⟨u1,wrap .i64 (0-u2)⟩]⟩]))=B7 (E++[⟨1,[],[⟨u1,wrap .i64 (0-u2)⟩]⟩]):=Gv (by omega);simp only at ea;generalize B7 (E++[_])=E' at *
    repeat(with_reducible(first|apply Aj|apply Ad|apply Ah|apply Ax|apply Ba|apply Au|apply Ae|apply Ai|apply Ct);· first|constructor|(simp(disch:=omega)only[Cu,n0,n1,n2,LE,tE,ea,LE2,tE2,Cm,Es,Int.reduceBEq]<;>first|constructor|omega)|omega)
    try simp(disch:=omega)only[Aa,n0,n1,n2,LE,tE,ea,LE2,tE2,Cm,Es,Int.reduceBEq]
    rw[F7 (Mz:=by omega)]
    repeat(with_reducible(first|apply Aj|apply Ad|apply Ah|apply Ax|apply Ba|apply Au|apply Ae|apply Ai|apply Ct);· first|constructor|(simp(disch:=omega)only[Cu,n0,n1,n2,LE,tE,ea,LE2,tE2,Cm,Es,Int.reduceBEq]<;>first|constructor|omega)|omega)
    try simp(disch:=omega)only[Aa,n0,n1,n2,LE,tE,ea,LE2,tE2,Cm,Es,Int.reduceBEq]
    all_goals rfl
   ·have f1:(vs==11)=false:=by rw[beq_eq_false_iff_ne];exact m1
    have f2:(vs==10)=false:=by rw[beq_eq_false_iff_ne];exact m2
    have f3:(vs==9)=false:=by rw[beq_eq_false_iff_ne];exact m3
    simp only[dkc] at n0;refine⟨⟨ver,iss,nxt,E,YI⟩,j0,⟨hk,by simp only;omega,rfl⟩,?_⟩
    rw[Ex,Ef _ _ _ h0,F8 (Mz:=by omega)]
    repeat(with_reducible(first|apply Aj|apply Ad|apply Ah|apply Ax|apply Ba|apply Au|apply Ae|apply Ai|apply Ct);· first|constructor|(simp(disch:=omega)only[Cu,n0,LE,tE,f1,f2,f3,Cm,Es]<;>first|constructor|omega)|omega)
    try simp(disch:=omega)only[Aa,n0,LE,tE,f1,f2,f3,Cm,Es]
    rw[F7 (Mz:=by omega)]
    repeat(with_reducible(first|apply Aj|apply Ad|apply Ah|apply Ax|apply Ba|apply Au|apply Ae|apply Ai|apply Ct);· first|constructor|(simp(disch:=omega)only[Cu,n0,LE,tE,f1,f2,f3,Cm,Es]<;>first|constructor|omega)|omega)
    try simp(disch:=omega)only[Aa,n0,LE,tE,f1,f2,f3,Cm,Es]
    all_goals rfl
theorem Asp(Bn:2000<=fu)(hl:l.length<=maxLen)(i:Nat):∃(m:Md)(j:Nat),m.plain /\
  Ar C0 prog fu (d+14) 11 [.pbox (dkc l i)]=some ⟨[.agg m.cells],[dkc l j]⟩:=by
 obtain⟨v0,j0,v00,v01,n0⟩:=Ib hl i 16 (by omega) (by omega);obtain⟨v1,j1,v10,v11,n1⟩:=Ib hl j0 20 (by omega) (by omega);obtain⟨v2,j2,v20,v21,n2⟩:=Ib hl j1 100 (by omega) (by omega);obtain⟨v3,j3,v30,v31,n3⟩:=Ib hl j2 4 (by omega) (by omega);have n0:=n0 (fu:=fu) (d:=d+11);have n1:=n1 (fu:=fu) (d:=d+11);have n2:=n2 (fu:=fu) (d:=d+11);have n3:=n3 (fu:=fu) (d:=d+11);simp only[dkc] at n0 n1 n2 n3;obtain⟨m,j,m1,m2⟩:=A0o (fu:=fu) (d:=d) Bn hl (Ci:=(i:Int)) (ver:=wrap .i64 (1+v0)) (iss:=v1) (nxt:=wrap .i64 (20+v2)) 3 fu v3 j3 [] (by omega) (by omega) (by simp) (fun y hy=>by cases hy);refine⟨m,j,m1,(Yp fu (d+13) l.length (Ac .i64 l) i).trans ?_⟩;rw[<-m2];unfold MS;clear m2
 repeat(with_reducible(first|apply Aj|apply Ad|apply Ah|apply Ax|apply Ba|apply Au|apply Ae|apply Ai|apply Ct);· first|constructor|(simp(disch:=omega)only[Cu,n0,n1,n2,n3]<;>first|constructor|omega)|omega)
 try simp(disch:=omega)only[Aa,n0,n1,n2,n3]
 all_goals rfl
end
section
variable {fu d:Nat}
theorem Afv{call:Bp}{P4 a1n:Nat}{a0 a1:Ab}{l:Ca}(hl:l.length<=1000):∀(k i nn:Nat),i+k=l.length->k<nn ->
  Gt fu call P4 a0 a1n a1 nn l.length (Ac .u64 l) l.length (Ac .u64 l) i=some ⟨[.sc (.bool true)],[]⟩
 |_,_,0,_,h=>by omega
 |0,i,nn+1,hi,hn=>by
  have e:i=l.length:=by omega
  subst e;rw[Lf];simp(disch:=omega)only[B4,B3]
 |k+1,i,nn+1,hi,hn=>by
  have ih:=Afv (call:=call) (P4:=P4) (a1n:=a1n) (a0:=a0) (a1:=a1) hl k (i+1) nn (by omega) (by omega);obtain⟨x,hx⟩:∃x,l[i]?=some x:=⟨_,List.getElem?_eq_getElem (by omega)⟩
  have w:wrap .i64 ((i:Int)+1)=((i+1:Nat):Int):=by rw[Ag (by omega) (by omega)];omega
  have q:(x != x)=false:=bne_self_eq_false x;rw[Lf];simp(disch:=omega)only[B4,B3,H0,Df,Cm,Vg hx,q,w];exact ih
theorem Auq(Bn:2000<=fu){l:Ca}(hl:l.length<=1000):Ar C0 prog fu (d+1) 74 [.lst false 1 l.length (Ac .u64 l),.lst false 1 l.length (Ac .u64 l)]=some ⟨[.sc (.bool true)],[]⟩:=by refine (Xv fu d l.length (Ac .u64 l) l.length (Ac .u64 l)).trans ?_;have q:=Afv (fu:=fu) (call:=Ar C0 prog fu d) (P4:=l.length) (a1n:=l.length) (a0:=Ac .u64 l) (a1:=Ac .u64 l) hl l.length 0 fu (by omega) (by omega);have b:((l.length:Int) != (l.length:Int))=false:=bne_self_eq_false _;simp only[B4,B3,b];exact q
theorem A31(Bn:2000<=fu){s:Sg}(h1:s.chains.length<=1000)(h2:s.path.length<=1000):Ar C0 prog fu (d+2) 39 [.agg s.cells,.agg s.cells]=some ⟨[.sc (.bool true)],[]⟩:=by
 refine (Te fu (d+1) s.leaf s.chains.length (Ac .u64 s.chains) s.path.length (Ac .u64 s.path) s.leaf s.chains.length (Ac .u64 s.chains) s.path.length (Ac .u64 s.path)).trans ?_;have w1:=Auq (fu:=fu) (d:=d) Bn h1;have w2:=Auq (fu:=fu) (d:=d) Bn h2;have q1:(s.leaf==s.leaf)=true:=beq_self_eq_true _
 repeat(with_reducible(first|apply Aj|apply Ad|apply Ah|apply Ao|apply Ax|apply Ba|apply Au|apply Ae|apply Ai|apply Ct);· first|constructor|(simp(disch:=omega)only[Cu,q1,w1,w2]<;>first|constructor|omega)|omega)
 try simp(disch:=omega)only[Aa,q1,w1,w2]
 all_goals rfl
theorem Arw{call:Bp}{C7 MD:Int}{Ht Eb GH GI:Nat}{Ci Dw LN KD:Ab}{x:Me}(hl:x.sts.length<=1000):∀(k i nn:Nat),i+k=x.sts.length->k<nn ->
  Gg fu call C7 Ht Ci Eb Dw MD GH LN GI KD nn (i:Int) x.model x.ans.length (Cz x.ans) x.sts.length (Dn x.sts) x.model x.ans.length (Cz x.ans) x.sts.length (Dn x.sts)=some ⟨[.sc (.bool true)],[]⟩
 |_,_,0,_,h=>by omega
 |0,i,nn+1,hi,hn=>by
  have e:i=x.sts.length:=by omega
  subst e;rw[Kx];simp(disch:=omega)only[B4,B3]
 |k+1,i,nn+1,hi,hn=>by
  have ih:=Arw (call:=call) (C7:=C7) (MD:=MD) (Ht:=Ht) (Eb:=Eb) (GH:=GH) (GI:=GI) (Ci:=Ci) (Dw:=Dw) (LN:=LN) (KD:=KD) hl k (i+1) nn (by omega) (by omega);obtain⟨s,hx⟩:∃s,x.sts[i]?=some s:=⟨_,List.getElem?_eq_getElem (by omega)⟩
  obtain⟨g0,g1⟩:=saa hx;have w:wrap .i64 ((i:Int)+1)=((i+1:Nat):Int):=by rw[Ag (by omega) (by omega)];omega
  have q:∀x:Int,(x==x)=true:=fun x=>beq_self_eq_true x;rw[Kx,<-ih];simp(disch:=omega)only[B4,B3,H0,g0,g1,q,w,Bool.and_true,Cv]
theorem Aru{call:Bp}{C7 MD:Int}{Ht Eb GH GI:Nat}{Ci Dw LN KD:Ab}{x:Me}(Bn:2000<=fu)(hl:x.sts.length<=1000)(RQ:x.ans.length<=1000):∀(k i nn:Nat),i+k=x.ans.length->k<nn ->
  Gf fu call C7 Ht Ci Eb Dw MD GH LN GI KD nn (i:Int) x.model x.ans.length (Cz x.ans) x.sts.length (Dn x.sts) x.model x.ans.length (Cz x.ans) x.sts.length (Dn x.sts)=some ⟨[.sc (.bool true)],[]⟩
 |_,_,0,_,h=>by omega
 |0,i,nn+1,hi,hn=>by
  have e:i=x.ans.length:=by omega
  subst e;have l1:=Arw (fu:=fu) (call:=call) (C7:=C7) (MD:=MD) (Ht:=Ht) (Eb:=Eb) (GH:=GH) (GI:=GI) (Ci:=Ci) (Dw:=Dw) (LN:=LN) (KD:=KD) hl x.sts.length 0 fu (by omega) (by omega);rw[Kq,<-l1];simp(disch:=omega)only[B4,B3];rfl
 |k+1,i,nn+1,hi,hn=>by
  have ih:=Aru (call:=call) (C7:=C7) (MD:=MD) (Ht:=Ht) (Eb:=Eb) (GH:=GH) (GI:=GI) (Ci:=Ci) (Dw:=Dw) (LN:=LN) (KD:=KD) Bn hl RQ k (i+1) nn (by omega) (by omega);obtain⟨s,hx⟩:∃s,x.ans[i]?=some s:=⟨_,List.getElem?_eq_getElem (by omega)⟩
  obtain⟨g0,g1,g2⟩:=ana hx;have g2':(Cz x.ans).getD (i*3+1+1) .top=Af s.key.root:=g2;have w:wrap .i64 ((i:Int)+1)=((i+1:Nat):Int):=by rw[Ag (by omega) (by omega)];omega
  have q:∀x:Int,(x==x)=true:=fun x=>beq_self_eq_true x
  have qs:∀x:ByteArray,(x==x)=true:=fun x=>by
   rcases x with⟨x⟩;show (x==x)=true;exact beq_self_eq_true x
  rw[Kq,<-ih];simp(disch:=omega)only[B4,B3,H0,g0,g1,g2',q,qs,w,Bool.and_true,Cv]
theorem A2d(Bn:2000<=fu){x:Me}(hl:x.sts.length<=1000)(RQ:x.ans.length<=1000):Ar C0 prog fu (d+1) 73 [.agg x.cells,.agg x.cells]=some ⟨[.sc (.bool true)],[]⟩:=by refine (Xd fu d x.model x.ans.length (Cz x.ans) x.sts.length (Dn x.sts) x.model x.ans.length (Cz x.ans) x.sts.length (Dn x.sts)).trans ?_;have l0:=Aru (fu:=fu) (call:=Ar C0 prog fu d) (C7:=x.model) (MD:=x.model) (Ht:=x.ans.length) (Eb:=x.sts.length) (GH:=x.ans.length) (GI:=x.sts.length) (Ci:=Cz x.ans) (Dw:=Dn x.sts) (LN:=Cz x.ans) (KD:=Dn x.sts) Bn hl RQ x.ans.length 0 fu (by omega) (by omega);have b:∀x:Int,(x != x)=false:=fun x=>bne_self_eq_false _;simp only[B4,B3,b];exact l0
def Md.shrt(m:Md):Prop:=m.ents.length<=1000/\∀x∈m.ents,x.sts.length<=1000/\x.ans.length<=1000
theorem Atl{P4 a1n:Nat}{a0 a1:Ab}{l:List Me}(Bn:2000<=fu)(hl:l.length<=1000)(hx:∀x∈l,x.sts.length<=1000/\x.ans.length<=1000):∀(k i nn:Nat),i+k=l.length->k<nn ->
  Fu fu (Ar C0 prog fu (d+1)) P4 a0 a1n a1 nn l.length (B7 l) l.length (B7 l) (i:Int)=some ⟨[.sc (.bool true)],[]⟩
 |_,_,0,_,h=>by omega
 |0,i,nn+1,hi,hn=>by
  have e:i=l.length:=by omega
  subst e;rw[Ju];simp(disch:=omega)only[B4,B3]
 |k+1,i,nn+1,hi,hn=>by
  have ih:=Atl (P4:=P4) (a1n:=a1n) (a0:=a0) (a1:=a1) Bn hl hx k (i+1) nn (by omega) (by omega);have hil:i<l.length:=by omega
  have hs:=List.getElem?_eq_getElem hil;have hm:=hx _ (List.getElem_mem hil);generalize l[i]=s at hs hm;obtain⟨g0,g1,g2⟩:=mea hs;have g2':(B7 l).getD (i*3+1+1) .top=.lst false 2 s.sts.length (Dn s.sts):=g2;have w:wrap .i64 ((i:Int)+1)=((i+1:Nat):Int):=by rw[Ag (by omega) (by omega)];omega
  have se:=A2d (fu:=fu) (d:=d) Bn hm.1 hm.2;simp only[Me.cells] at se;rw[Ju,<-ih];simp(disch:=omega)only[B4,B3,H0,g0,g1,g2',se,w,Bool.and_true,Cv]
theorem Aey(Bn:2000<=fu){m:Md}(hm:m.shrt)(h1:m.sig.chains.length<=1000)(h2:m.sig.path.length<=1000):Ar C0 prog fu (d+3) 18 [.agg m.cells,.agg m.cells]=some ⟨[.sc (.bool true)],[]⟩:=by
 refine (X3 fu (d+2) m.ver m.iss m.nxt m.ents.length (B7 m.ents) m.sig.leaf m.sig.chains.length (Ac .u64 m.sig.chains) m.sig.path.length (Ac .u64 m.sig.path) m.ver m.iss m.nxt m.ents.length (B7 m.ents) m.sig.leaf m.sig.chains.length (Ac .u64 m.sig.chains) m.sig.path.length (Ac .u64 m.sig.path)).trans ?_
 have sl:Ar C0 prog fu (d+2) 38 [.lst false 3 m.ents.length (B7 m.ents),.lst false 3 m.ents.length (B7 m.ents)]=some ⟨[.sc (.bool true)],[]⟩:=by
  refine (U0 fu (d+1) m.ents.length (B7 m.ents) m.ents.length (B7 m.ents)).trans ?_;have l0:=Atl (fu:=fu) (d:=d) (P4:=m.ents.length) (a1n:=m.ents.length) (a0:=B7 m.ents) (a1:=B7 m.ents) Bn hm.1 hm.2 m.ents.length 0 fu (by omega) (by have:=hm.1;omega)
  have b:∀x:Int,(x != x)=false:=fun x=>bne_self_eq_false _;simp only[B4,B3,b];exact l0
 have sg:=A31 (fu:=fu) (d:=d) Bn h1 h2;simp only[Sg.cells] at sg;have q:∀x:Int,(x==x)=true:=fun x=>beq_self_eq_true x
 repeat(with_reducible(first|apply Aj|apply Ad|apply Ah|apply Ao|apply Ax|apply Ba|apply Au|apply Ae|apply Ai|apply Ct);· first|constructor|(simp(disch:=omega)only[Cu,q,sl,sg]<;>first|constructor|omega)|omega)
 try simp(disch:=omega)only[Aa,q,sl,sg]
 all_goals rfl
theorem Ao7{b:Ca}(hb:Ii b):(M7 b).1.shrt/\(M7 b).1.sig.chains.length<=1000/\(M7 b).1.sig.path.length<=1000:=by
 have z:HE.shrt/\HE.sig.chains.length<=1000/\HE.sig.path.length<=1000:=⟨⟨by decide,fun x hx=>by cases hx⟩,by decide,by decide⟩
 rcases Akx hb with⟨h1,h2,h3,h4,h5⟩|h|h
 ·obtain⟨e0,e1,e2,e3⟩:=Gr h3;obtain⟨_,_,_,_,_,m6,m7⟩:=Kl e0;have hp:=H7 (h:=(M7 b).1.sig.path.length) (by simpa using e1);exact⟨⟨by omega,fun x hx=>by have:=Pg (Mh m7 x hx);omega⟩,by omega,by omega⟩
 ·rw[h];exact z
 ·rw[h];exact z
theorem Rf(Bn:20000<=fu){b:Ca}(hb:Ii b)(hl:b.length<=1000000):Ar C0 prog fu (d+16) 22 [.lst false 1 b.length (Ac .u8 b)]=some ⟨[.sc (.bool true)],[]⟩:=by
 refine (AW fu (d+15) b.length (Ac .u8 b)).trans ?_;have d1:=Aew (fu:=fu) (d:=d+4) Bn hb hl;have d2:=Avm (fu:=fu) (d:=d) Bn hb hl;obtain⟨h1,h2,h3⟩:=Ao7 hb;have sm:=Aey (fu:=fu) (d:=d+12) (by omega) h1 h2 h3;have q1:∀l:Int,(l==l)=true:=fun l=>beq_self_eq_true l;generalize M7 b=r at *
 obtain⟨m,e⟩:=r;simp only[Md.cells] at d1 d2 sm
 repeat(with_reducible(first|apply Aj|apply Ad|apply Ah|apply Ao|apply Ax|apply Ba|apply Au|apply Ae|apply Ai|apply Ct);· first|constructor|(simp(disch:=omega)only[Cu,d1,d2,sm,q1]<;>first|constructor|omega)|omega)
 try simp(disch:=omega)only[Aa,d1,d2,sm,q1]
 all_goals rfl
end
def YS(m:Md)(model now:Int):Int:=Ih now (match m.ents.find? fun x=>x.model==model with|some x=>x.sts.map fun s=>(s.kd,s.at_)|none=>[])
def Av9(x:Me):En:=⟨x.model,x.ans.length,Cz x.ans,x.sts.length,Dn x.sts⟩
theorem TO:∀{l:List Me},(∀x∈l,x.sts.length<=1000/\x.ans.length<=1000)->AM (B7 l)=some (l.map Av9)
 |[],_=>rfl
 |x::l,h=>by
  have h0:=h x (by simp);have ih:=TO (l:=l) fun y hy=>h y (by simp[hy])
  have b:(Nat.beq (Cz x.ans).length (x.ans.length*3)&&Nat.beq (Dn x.sts).length (x.sts.length*2)&&Nat.ble x.ans.length 1000&&Nat.ble x.sts.length 1000)=true:=by
   rw[Nt,Yy];simp only[Pu,Zzm,G8];exact⟨Nat.ble_eq_true_of_le h0.2,Nat.ble_eq_true_of_le h0.1⟩
  show AM (Af x.model :: .lst false 3 x.ans.length (Cz x.ans) :: .lst false 2 x.sts.length (Dn x.sts)::B7 l)=_;rw[AM,b,cond_true,ih];rfl
theorem PK:∀(l:List Sa),Tg (Dn l)=some (l.map fun s=>(s.kd,s.at_))
 |[]=>rfl
 |s::l=>by
  show Tg (At s.kd :: At s.at_::Dn l)=_;rw[Tg,PK l];rfl
theorem Ae0(model:Int):∀(l:List Me),Aix model (l.map Av9)=match l.find? fun x=>x.model==model with|some x=>Dn x.sts|none=>[]
 |[]=>rfl
 |x::l=>by
  have ih:=Ae0 model l;unfold Aix at ih ⊢;by_cases h:x.model=model
  ·rw[Sf,List.find?_cons_of_pos (by simpa [Av9] using h),List.find?_cons_of_pos (by simpa using h)];rfl
  ·rw[Sf,List.find?_cons_of_neg (by simpa [Av9] using h),List.find?_cons_of_neg (by simpa using h)];exact ih
theorem Aob(fu d:Nat)(args:Ab):Ar C0 prog fu (d+1) 29 args=Amw args:=by kernel_rfl
section
variable {fu d:Nat}
theorem Afg{m:Md}(hm:m.shrt)(model now:Int):Ar C0 prog fu (d+1) 29 [.agg m.cells,Af model,At now]=some ⟨[At (YS m model now)],[]⟩:=by
 rw[Aob]
 have b:(Nat.beq (B7 m.ents).length (m.ents.length*3)&&Nat.ble m.ents.length 1000)=true:=by
  rw[Mf];simp only[Pu,Zzm];exact Nat.ble_eq_true_of_le hm.1
 show (bif (Nat.beq (B7 m.ents).length (m.ents.length*3)&&Nat.ble m.ents.length 1000) then _ else none)=_;rw[b,cond_true,TO hm.2];simp only;rw[Ae0];unfold YS;cases m.ents.find? fun x=>x.model==model with
 |none=>rfl
 |some x=>
  simp only;rw[PK]
end
structure OI(m:Md)(seed h:Int):Prop where
 ok:m.ok
 err:Ds m=0
 ver:Ahp m (BP seed h)=0
 path:(m.sig.path.length:Int)=h
 leaf:m.sig.leaf=m.ver-1
theorem Aw1{h:Int}(hh:D1 h=false):0<=h/\h<=4:=by unfold D1 at hh;rw[Bool.or_eq_false_iff,SP,SP] at hh;omega
theorem Apr{m:Md}(hm:m.ok){seed h:Int}(he:Bu m=0)(hh:D1 h=false)(ho:Js (m.ver-1) h=false):∃s,Rx m seed h=({ m with sig:=s },0)/\OI { m with sig:=s } seed h:=by
 obtain⟨s,e,k1,k2,k3,k4,k5⟩:=Aky (seed:=seed) (m:=Vb m) hh ho;refine⟨s,?_,?_⟩
 ·unfold Rx;rw[Bq he,e]
 ·have Y6:Bu { m with sig:=s }=0:=he;refine⟨⟨hm.ent,k1⟩,?_,?_,k4,k2⟩
  ·unfold Ds;rw[Y6,Bq rfl];show NE s=0;unfold NE;rw[k4,k2,hh,ho,k3];rfl
  ·unfold Ahp;rw[Y6,Bq rfl,A5 (by simp only[ne_eq,Decidable.not_not];exact k2)]
   exact k5
theorem Auu{m:Md}(hm:m.ok)(seed h:Int):(Rx m seed h).1.ok/\(Rx m seed h).1.sig.path.length<=4/\(Rx m seed h).1.sig.chains.length<=18/\((Rx m seed h).1=HE\/∃s,(Rx m seed h).1={ m with sig:=s }):=by
 have z:HE.ok/\HE.sig.path.length<=4/\HE.sig.chains.length<=18/\(HE=HE\/∃s,HE={ m with sig:=s }):=⟨A27,by decide,by decide,.inl rfl⟩
 unfold Rx;split
 ·cases hs:LH seed h (m.ver-1) (Vb m) with
  |none=>exact z
  |some s=>
   by_cases hh:D1 h=false
   ·by_cases ho:Js (m.ver-1) h=false
    ·obtain⟨s',e,k1,k2,k3,k4,_⟩:=Aky (seed:=seed) (m:=Vb m) hh ho;rw[hs] at e;cases e;have:=Aw1 hh;exact⟨⟨hm.ent,k1⟩,by show s.path.length<=4;omega,by show s.chains.length<=18;omega,.inr ⟨s,rfl⟩⟩
    ·exfalso;unfold LH at hs;simp only[Bool.not_eq_false] at ho;rw[ho] at hs;simp at hs
   ·exfalso;unfold LH at hs;simp only[Bool.not_eq_false] at hh;rw[hh] at hs;simp at hs
 ·exact z
theorem OI.wf{m:Md}{seed h:Int}(hs:OI m seed h):m.wf:=hs.ok.wf
theorem OI.sizes{m:Md}{seed h:Int}(hs:OI m seed h)(h4:h<=4):m.shrt/\m.sig.chains.length<=1000/\m.sig.path.length<=1000:=by obtain⟨e0,e1,e2,e3⟩:=Gr hs.err;obtain⟨_,_,_,_,_,m6,m7⟩:=Kl e0;have:=hs.path;exact⟨⟨by omega,fun x hx=>by have:=Pg (Mh m7 x hx);omega⟩,by omega,by omega⟩
theorem Arl{m:Md}(hw:m.wf)(h:Ds m=0)(hf:(A6 m).length<=90):(Fx m).length<=4096:=by obtain⟨h0,h1,h2,h3⟩:=Gr h;obtain⟨_,f,_⟩:=Uh hw h0;have:=f.len;have hp:=H7 (h:=m.sig.path.length) (by simpa using h1);unfold Fx;rw[Fw,Al9];omega
theorem Atk{m:Md}(hw:m.wf)(h:Ds m=0):Ii (Fx m):=fun y hy=>(Bz.1 hy).elim (KS hw (Gr h).1 y) (Au1 m.sig y)
theorem Ast{m:Md}(hw:m.wf)(h:Ds m=0):(Fx m).length<=100000:=by obtain⟨h0,h1,h2,h3⟩:=Gr h;have:=Qv hw h0;have hp:=H7 (h:=m.sig.path.length) (by simpa using h1);unfold Fx;rw[Fw,Al9];omega
def mA0:Md:=⟨2,1,9,[⟨4,[],[⟨1,0⟩,⟨4,50⟩]⟩],YI⟩
theorem Aqs:mA0.ok:=⟨fun x hx=>by
 rw[Mv.1 hx];exact⟨⟨by decide,by decide⟩,fun a ha=>by cases ha⟩,⟨fun x hx=>(by cases hx),fun x hx=>(by cases hx)⟩⟩
theorem Aw8:Bu mA0=0:=by decide
section
variable {fu d:Nat}
abbrev mC(v i x:Int)(n:Nat)(c:Ab):Ab:=[At v,At i,At x,.lst false 3 n c,At 0,.lst false 1 0 [],.lst false 1 0 []]
theorem Anc(Bn:20000<=fu):Ar C0 prog fu (d+14) 9 []=some ⟨[.sc (.bool true)],[]⟩:=by
 rw[DR]
 have hM:∃M,Rx mA0 7 2=(M,0)/\OI M 7 2/\M.ver=2/\M.iss=1/\M.nxt=9/\M.ents=[⟨4,[],[⟨1,0⟩,⟨4,50⟩]⟩]/\(A6 M).length<=90/\M.sig.leaf=1:=by
  obtain⟨s,hs,hg⟩:=Apr Aqs (seed:=7) (h:=2) Aw8 (by decide) (by decide);exact⟨_,hs,hg,rfl,rfl,rfl,rfl,(show (15:Nat)<=90 by omega),hg.leaf⟩
 obtain⟨M,hs,hg,m1,m2,m3,m4,m5,lf⟩:=hM;have k7:=A3f (fu:=fu) (d:=d) (by omega) 7 2
 have sg:Ar C0 prog fu (d+13) 16 [.agg (mC 2 1 9 1 [Af 4,.lst false 3 0 [],.lst false 2 2 [At 1,At 0,At 4,At 50]]),Af 7,At 2]=some ⟨[.agg M.cells,At 0],[]⟩:=by
  have:=Arq (fu:=fu) (d:=d+2) (m:=mA0) Bn Aqs.wf 7 2;rw[hs] at this;exact this
 obtain⟨z1,z2,z3⟩:=hg.sizes (by omega);have en:=Alo (fu:=fu) (d:=d+3) (m:=M) Bn hg.wf (by omega) (by omega);unfold Tm at en;rw[hg.err,Bq rfl] at en;have le:(Fx M).length<=4096:=Arl hg.wf hg.err m5;have hb:=Atk hg.wf hg.err;have dh:=UK hg.ok hg.err le
 have a1:Ar C0 prog fu (d+13) 27 [.agg (mC 1 0 0 0 []),.lst false 1 (Fx M).length (Ac .u8 (Fx M)),.agg (BP 7 2).cells,At 5]=some ⟨[.agg M.cells,At 0],[]⟩:=by
  have:=Ahf (fu:=fu) (d:=d+1) Bn hb (by omega) ⟨1,0,0,[],YI⟩ (BP 7 2) 5
  have e1:Aiu ⟨1,0,0,[],YI⟩ (Fx M) (BP 7 2) 5=(M,0):=by
   unfold Aiu;rw[A5 (by omega),dh,A5 (by simp),A5 (by rw[m1];show ¬(2:Int)<=1;omega),A5 (by rw[hg.ver];simp),A5 (by rw[m2,m3];omega)]
  rw[e1] at this;exact this
 have a2:Ar C0 prog fu (d+13) 27 [.agg M.cells,.lst false 1 (Fx M).length (Ac .u8 (Fx M)),.agg (BP 7 2).cells,At 5]=some ⟨[.agg (mC 0 0 0 0 []),At 7],[]⟩:=by
  have:=Ahf (fu:=fu) (d:=d+1) Bn hb (by omega) M (BP 7 2) 5
  have e2:Aiu M (Fx M) (BP 7 2) 5=(HE,7):=by
   unfold Aiu;rw[A5 (by omega),dh,A5 (by simp),Bq (Int.le_refl _)]
  rw[e2] at this;exact this
 have sm:=Aey (fu:=fu) (d:=d+10) (m:=M) (by omega) z1 z2 z3;have s1:=Afg (fu:=fu) (d:=d+12) (m:=M) z1 4 49;have s2:=Afg (fu:=fu) (d:=d+12) (m:=M) z1 4 50;have v1:YS M 4 49=1:=by unfold YS;rw[m4];rfl
 have v2:YS M 4 50=4:=by unfold YS;rw[m4];rfl
 rw[v1] at s1;rw[v2] at s2;have L:=Am .u8 (Fx M);have t:=Mb .u8 (Fx M);generalize Fx M=E at *
 generalize BP 7 2=K at *
 simp only[Md.cells,Ky.cells,lf] at k7 sg en a1 a2 sm s1 s2;clear hs hg dh v1 v2
 repeat(with_reducible(first|apply Aj|apply Ad|apply Ah|apply Ao|apply Bb|apply Ba|apply Au|apply Ae|apply Ai|apply Ct);· first|constructor|(simp(disch:=omega)only[Cu,k7,sg,en,Df,Cm,Es,L,t,a1,a2,sm,s1,s2,Int.reduceBEq]<;>first|constructor|omega)|omega)
 try simp(disch:=omega)only[Aa,k7,sg,en,Df,Cm,Es,L,t,a1,a2,sm,s1,s2,Int.reduceBEq]
 all_goals rfl
end
section
variable {xs:FuncId->Option (Ab->Option D0)}(fu d:Nat)(call:Bp)
theorem Qq(Z:Nat)(Y:Ab)(X:Nat)(W:Ab):Fn C0 fu d 5 [Ap 1 Z Y,Ap 1 X W] fun call=>A3 (decide ((↑Z:Int)>5000)) (Dm (call 9 []) fun a b=>Cg a fun a=>Aq b<|Bv [.sc (.bool a)]) (Dm (call 10 [Ap 1 X W]) fun a b=>GA a fun a=>Hw 1 a fun a c e=>Dk .i64 e fun e=>Aq b<|Bk (call 11 [.pbox [Ap 1 a c,e]]) fun a b=>Av a fun a c=>Dr a fun a=>C2 .i64 a fun a e=>C2 .i64 e fun e f=>C2 .i64 f fun f g=>Hw 3 g fun g h i=>C2 .i64 i fun i j=>Hw 1 j fun j k m=>Hw 1 m fun m n o=>Aq o<|Aq c<|Av b fun b c=>Hw 1 b fun b o p=>Dk .i64 p fun p=>Aq c<|Dm (call 12 [.agg [a,e,f,Ap 3 g h,i,Ap 1 j k,Ap 1 m n],Af 5,(4:Int)]) fun a c=>Dr a fun a=>C2 .i64 a fun a e=>C2 .i64 e fun e f=>C2 .i64 f fun f g=>Hw 3 g fun g h i=>C2 .i64 i fun i j=>Hw 1 j fun j k m=>Hw 1 m fun m n q=>Aq q<|Dk .i64 c fun c=>Dm (call 21 [.agg [a,e,f,Ap 3 g h,i,Ap 1 j k,Ap 1 m n]]) fun a c=>Je 1 a fun a e=>Dk .i64 c fun c=>Dm (call 22 [Ap 1 Z Y]) fun c f=>Cg c fun c=>Aq f<|A3 c (As (decide (0+a*1<=e.length))<|Dm (call 22 [Ap 1 a (List.take (a*1) (e.drop 0))]) fun c f=>Cg c fun c=>Aq f<|A3 c (Bk (call 15 [.pbox [Ap 1 b o,p],(4096:Int)]) fun b c=>Dk .i64 b fun b=>Av c fun c f=>Hw 1 c fun c g h=>Dk .i64 h fun h=>Aq f<|As (decide (0+a*1<=e.length))<|Dm (call 23 [Ap 1 a (List.take (a*1) (e.drop 0)),b]) fun b f=>Je 1 b fun b i=>Aq f<|As (decide (0+b*1<=i.length))<|Dm (call 22 [Ap 1 b (List.take (b*1) (i.drop 0))]) fun b f=>Cg b fun b=>Aq f<|A3 b (Aa (wrap .i64 ((↑a:Int)+1)) fun b=>Bk (call 15 [.pbox [Ap 1 c g,h],b]) fun b c=>Dk .i64 b fun b=>Av c fun c f=>Hw 1 c fun c g h=>Dk .i64 h fun h=>Aq f<|As (decide (0<=b))<|As (decide (b.toNat<=a))<|Aa (b.toNat-0) fun b=>As (decide (0+b*1<=e.length))<|Dm (call 22 [Ap 1 b (List.take (b*1) (e.drop 0))]) fun b f=>Cg b fun b=>Aq f<|A3 b (As (decide (0+a*1<=e.length))<|As (decide (List.length (List.take (a*1) (e.drop 0))=a*1)&&decide (a*1<=1099511627776)&&decide (a<=1099511627776))<|Bk (call 15 [.pbox [Ap 1 c g,h],(3:Int)]) fun b c=>Dk .i64 b fun b=>Av c fun c f=>Hw 1 c fun c g h=>Dk .i64 h fun c=>Aq f<|Dm (call 24 [(1:Int),b]) fun b c=>Je 1 b fun b f=>Aq c<|As (decide (0+b*1<=f.length))<|As (decide (a*1<=List.length (List.take (a*1) (e.drop 0)))&&decide (List.length (List.take (b*1) (f.drop 0))=b*1)&&decide ((a+b)*1<=1099511627776)&&decide (a+b<=1099511627776))<|Aa (a+b) fun c=>Aa (List.take (a*1) (List.take (a*1) (e.drop 0))++List.take (b*1) (f.drop 0)) fun a=>As (decide (0+c*1<=a.length))<|Dm (call 22 [Ap 1 c (List.take (c*1) (a.drop 0))]) fun a b=>Cg a fun a=>Aq b<|A3 a (Dm (call 9 []) fun a b=>Cg a fun a=>Aq b<|Bv [.sc (.bool a)]) (Bv [.sc (.bool false)])) (Bv [.sc (.bool false)])) (Bv [.sc (.bool false)])) (Bv [.sc (.bool false)])) (Bv [.sc (.bool false)])):=by show _=_;kernel_rfl
end
theorem Md.plain.ok{m:Md}(h:m.plain):m.ok:=⟨fun x hx=>⟨(h.ent x hx).model,(h.ent x hx).rts⟩,by rw[h.sg];exact⟨fun x hx=>(by cases hx),fun x hx=>(by cases hx)⟩⟩
theorem Md.plain.shrt{m:Md}(h:m.plain):m.shrt:=⟨by have:=h.len;omega,fun x hx=>by have:=h.ent x hx;have:=this.ans;have:=(h.ent x hx).sts;omega⟩
theorem Apv(k:IntKind)(a b:Ca):Ac k (a++b)=Ac k a++Ac k b:=by rw[Ac,Ac,Ac,List.flatMap_append]
theorem Ath{fu d:Nat}(Bn:2000<=fu){b:Ca}(hb:Ii b)(hl:b.length<=100000)(n:Int):∃r,Ii r/\r.length<=100000/\Ar C0 prog fu (d+3) 23 [.lst false 1 b.length (Ac .u8 b),At n]=some ⟨[.own 1 r.length (Ac .u8 r)],[]⟩:=by
 obtain⟨m,m0,m1,mo⟩:=As7 n 4096 (by omega) (by omega);obtain⟨r,r1,r2,r3⟩:=Aym (fu:=fu) (d:=d+1) hb hl (n:=m) m0 (by omega);refine⟨r,r1,by rw[r2];split<;>omega,?_⟩
 refine (GX fu (d+2) b.length (Ac .u8 b) n).trans ?_;have L:=Am .u8 r;have t:=Mb .u8 r
 repeat(with_reducible(first|apply Aj|apply Ad|apply Ah|apply Ao|apply Bb|apply Ba|apply Au|apply Acs|apply Ae|apply Ai|apply Ct);· first|constructor|(simp(disch:=omega)only[Cu,mo,r3,Df,L,t]<;>first|constructor|omega)|omega)
 try simp(disch:=omega)only[Aa,mo,r3,Df,L,t]
 all_goals rfl
theorem Awj{m:Md}(hw:m.wf):∃(w:Ca)(f:Int),Tm m=[.own 1 w.length (Ac .u8 w),At f]/\Ii w/\w.length<=100000:=by
 unfold Tm;split
 ·rename_i h0;exact⟨_,_,rfl,Atk hw h0,Ast hw h0⟩
 ·exact⟨[],_,rfl,(fun x hx=>by cases hx),by simp⟩
set_option maxHeartbeats 4000000 in
theorem metadataDecodes_plain(qs:Ab)(h:B9 (WTv prog) [47,28] qs):∃fu d,Ar C0 prog fu d 5 qs=some ⟨[.sc (.bool true)],[]⟩:=by
 obtain⟨q0,_,rfl,h0,g⟩:=h.cons_inv;obtain⟨q1,_,rfl,h1,g⟩:=g.cons_inv;obtain rfl:=g.nil_inv;clear h g;obtain⟨b,rfl,IC,hbw⟩:=Afa (k:=.u8) (e:=5) (by kernel_rfl) (by kernel_rfl) (by kernel_rfl) (by kernel_rfl) h0;have hb:Ii b:=fun x hx=>A8a (hbw x hx);obtain⟨l,rfl,hl,_⟩:=Afa (k:=.i64) (e:=3) (by kernel_rfl) (by kernel_rfl) (by kernel_rfl) (by kernel_rfl) h1;clear h0 h1;refine⟨20000,20,?_⟩;refine (Qq 20000 19 b.length (Ac .u8 b) l.length (Ac .i64 l)).trans ?_;have aw:=Anc (fu:=20000) (d:=5) (by omega);by_cases h6:(b.length:Int)>5000
 ·have hd:decide ((b.length:Int)>5000)=true:=by simp[h6]
  repeat(with_reducible(first|apply Aj|apply Ad|apply Ah|apply Ao|apply Bb|apply Ba|apply Au|apply Acs|apply Ae|apply Ai|apply Ct);· first|constructor|(simp(disch:=omega)only[Cu,hd,aw]<;>first|constructor|omega)|omega)
  try simp(disch:=omega)only[Aa,hd,aw]
  all_goals rfl
 have hd:decide ((b.length:Int)>5000)=false:=by simp[h6]
 have nq:=A2o (fu:=20000) (d:=18) (l:=l);obtain⟨x,j,hx,xe⟩:=Asp (fu:=20000) (d:=5) (by omega) hl 0;obtain⟨v2,j2,v20,v21,n2⟩:=Ib hl j 4096 (by omega) (by omega);have sg:=Aoi (fu:=20000) (d:=6) (m:=x) (by omega) hx.ok.wf 5 4;obtain⟨s1,s2,s3,_⟩:=Auu hx.ok 5 4;generalize (Rx x 5 4).2=er at *
 generalize (Rx x 5 4).1=y at *
 have en:=Ahr (fu:=20000) (d:=13) (m:=y) (by omega) s1.wf (by omega);obtain⟨w,f,hw,hwB,hwl⟩:=Awj s1.wf;rw[hw] at en;have d1:=Rf (fu:=20000) (d:=3) (by omega) hb (by omega);have d2:=Rf (fu:=20000) (d:=3) (by omega) hwB (by omega);obtain⟨r,rB,rl,fl⟩:=Ath (fu:=20000) (d:=16) (by omega) hwB hwl v2;have d3:=Rf (fu:=20000) (d:=3) (by omega) rB (by omega);have ww:wrap .i64 ((w.length:Int)+1)=(w.length:Int)+1:=Ag (by omega) (by omega);obtain⟨v3,j3,v30,v31,n3⟩:=Ib hl j2 ((w.length:Int)+1) (by omega) (by omega);obtain⟨v4,j4,v40,v41,n4⟩:=Ib hl j3 3 (by omega) (by omega);have n2:=n2 (fu:=20000) (d:=17);have n3:=n3 (fu:=20000) (d:=17);have n4:=n4 (fu:=20000) (d:=17);obtain⟨k3,rfl⟩:∃k3:Nat,v3=k3:=⟨v3.toNat,by omega⟩
 obtain⟨k4,rfl⟩:∃k4:Nat,v4=k4:=⟨v4.toNat,by omega⟩
 have Xn:k3<=w.length:=by omega
 have tB:Ii (w.take k3):=fun x hx=>hwB x (List.mem_of_mem_take hx);have tl:(w.take k3).length=k3:=by rw[List.length_take];omega
 have d4:=Rf (fu:=20000) (d:=3) (by omega) tB (by omega);rw[tl] at d4;obtain⟨p,pB,pl,pe⟩:=Asm (fu:=20000) (d:=13) (by omega) 1 (n:=k4) (by omega);have d5:=Rf (fu:=20000) (d:=3) (by omega) (Amp hwB pB) (by rw[Fw];omega)
 rw[Fw,Apv] at d5;rw[pl] at d5;have Lw:=Am .u8 w;have tw:=Mb .u8 w;have Lr:=Am .u8 r;have tr:=Mb .u8 r;have Lp:(Ac .u8 p).length=k4:=by rw[Am,pl]
 have tp:List.take k4 (Ac .u8 p)=Ac .u8 p:=Gv (by omega);have L5:(Ac .u8 w++Ac .u8 p).length=w.length+k4:=by rw[Fw];omega
 have t5:List.take (w.length+k4) (Ac .u8 w++Ac .u8 p)=Ac .u8 w++Ac .u8 p:=Gv (by omega);have t4:List.take k3 (Ac .u8 w)=Ac .u8 (w.take k3):=by rw[Hx]
 have nt3:Int.toNat (k3:Int)=k3:=H0 _;have z0:((0:Nat):Int)=0:=rfl;simp only[Md.cells,dkc] at nq xe n2 n3 n4 sg en;rw[z0] at nq xe
 repeat(with_reducible(first|apply Aj|apply Ad|apply Ah|apply Ao|apply Bb|apply Ba|apply Au|apply Acs|apply Ae|apply Ai|apply Ct);· first|constructor|(simp(disch:=omega)only[Cu,hd,nq,xe,n2,n3,n4,sg,en,d1,d2,fl,d3,ww,nt3,Nat.sub_zero,t4,d4,pe,d5,aw,Lw,tw,Lr,tr,Lp,tp,L5,t5,Es,Cm,Df]<;>first|constructor|omega)|omega)
 try simp(disch:=omega)only[Aa,hd,nq,xe,n2,n3,n4,sg,en,d1,d2,fl,d3,ww,nt3,Nat.sub_zero,t4,d4,pe,d5,aw,Lw,tw,Lr,tr,Lp,tp,L5,t5,Es,Cm,Df]
 all_goals rfl
section
open Go Go.RowKit
def sL:Code->Code
 |.seq a _=>a
 |c=>c
def sR:Code->Code
 |.seq _ b=>b
 |c=>c
def sB:Code->Code
 |.block _ c=>c
 |.loop c=>c
 |c=>c
def sF:Code->Code
 |.rangeFunc _ _ _ b=>b
 |c=>c
def sA:Code->Code
 |.rangeFunc _ _ a _=>a
 |c=>c
def H5:Code->Array Oper
 |.region _ ops _=>ops
 |_=> #[]
abbrev JE:Code:=WP Tryz.f113
abbrev TH:Code:=WP Tryz.f36
def CS:Kk:={ CB with shr:=fun _=>true }
abbrev QB(N:Nat)(call:Bp)(c:Code)(L:Nat)(s:St):Option (Nat × St):=
 Pm CB prog 2000 N call c L (fun _=>L) 0 (fun s=>Ke N L s fun s'=>some (0,s')) (fun id s=>Ke N L s fun s'=>some (id+1,s')) (fun _=>none) s
section
variable {N:Nat}{w0:World}{X0:Gn}{Y:Nat->Prop}{β:Bt}{s s1:St}{a:Act}{w:World}
theorem D6{G:Zg}(Ks:QL prog G w0 X0)(hm:prog.follows .mixedOrders=true){call:Bp}(Dl:∀f args res,call f args=some res->Do G prog f args res){c:Code}{L t:Nat}{Q:Exit->Act->World->Prop}(h:Cj N w0 X0 Y β s a w)(hk:QB N call c L s=some (t,s1))(hQ:∀a' w' β',Cj N w0 X0 Y β' s1 a' w'->match t with|0=>Q .normal a' w'|id+1=>Q (.exit id) a' w'):c.wp prog Q a w:=by
 refine HL Ks Dl hm c h hk (fun s' a' w' β' h1 h2=>?_) (fun id s' a' w' β' h1 h2=>?_) (fun s' a' w' β' h1 h2=>by cases h1)
 ·obtain⟨β1,s2,h3,h4⟩:=Ck h2 h1;cases h3;exact hQ _ _ _ h4
 ·obtain⟨β1,s2,h3,h4⟩:=Ck h2 h1;cases h3;exact hQ _ _ _ h4
theorem JC{G:Zg}(Ks:QL prog G w0 X0)(hm:prog.follows .mixedOrders=true){call:Bp}(Dl:∀f args res,call f args=some res->Do G prog f args res){ro:Option Nat}{n:Nat}{c:Code}(ho:okR c=true){L t:Nat}{Q:Exit->Act->World->Prop}(HR:∀a w,¬Q .outgrown a w)(h:Cj N w0 X0 Y β s a w)(hk:QB N call c L s=some (t,s1))(hQ:∀a' w' β',Cj N w0 X0 Y β' s1 a' w'->match t with|0=>Q .normal a' w'|id+1=>Q (.exit id) a' w'):c.wpIn (WF ro) n prog Q a w:=by
 refine PD Ks Dl hm c ho HR h hk (fun s' a' w' β' h1 h2=>?_) (fun id s' a' w' β' h1 h2=>?_) (fun s' a' w' β' h1 h2=>by cases h1)
 ·obtain⟨β1,s2,h3,h4⟩:=Ck h2 h1;cases h3;exact hQ _ _ _ h4
 ·obtain⟨β1,s2,h3,h4⟩:=Ck h2 h1;cases h3;exact hQ _ _ _ h4
end
end
theorem A22(call:Bp)(yv:Value)(h seed:Int):QB 63 call (sL JE) 23 ⟨lk [(0,.sc yv),(1,.iptr [At h] 0),(2,.iptr [Af seed] 0)],B0 []⟩=(
 As (decide ((0:Int)<=h)) <|
 Aa (Hm IntKind.i64 (1:Int) h) fun x1=>
 As (decide ((0:Int)<=x1)&&decide (x1<=x1)&&decide (x1*(8:Int)<=(1099511627776:Int))&&decide (x1<=(1099511627776:Int))) <|
 some (0,⟨lk [(0,(.sc (yv))),(1,(.iptr ([PV.sc (Value.int IntKind.i64 h)]) ((0:Nat)))),(2,(.iptr ([PV.sc (Value.int IntKind.u64 seed)]) ((0:Nat)))),(4,(.view 4 1 0 (Int.toNat x1)))],B0 [(4,(.ar false (Yg (Int.toNat x1) [PV.sc (Value.int IntKind.u64 (0:Int))])))]⟩)):=by kernel_rfl
theorem A4c(call:Bp)(yv:Value)(h seed:Int)(n:Nat)(c:Ab):QB 63 call (sL (sL (sR JE))) 24599 ⟨lk [(0,.sc yv),(1,.iptr [At h] 0),(2,.iptr [Af seed] 0),(4,.view 4 1 0 n)],B0 [(4,.ar false c)]⟩=(
 some (0,⟨lk [(0,(.sc (yv))),(1,(.iptr ([PV.sc (Value.int IntKind.i64 h)]) ((0:Nat)))),(2,(.iptr ([PV.sc (Value.int IntKind.u64 seed)]) ((0:Nat)))),(4,(.view 4 1 0 (n))),(13,(At ((↑n:Int)))),(14,(At ((0:Int))))],B0 [(4,(.ar false (c)))]⟩)):=by kernel_rfl
theorem Aqi(call:Bp)(yv:Value)(h seed m i:Int)(n:Nat)(c:Ab):QB 63 call (sB (sB (sR (sL (sR JE))))) 24599 ⟨lk [(0,.sc yv),(1,.iptr [At h] 0),(2,.iptr [Af seed] 0),(4,.view 4 1 0 n),(13,At m),(14,At i)],B0 [(4,.ar false c)]⟩=(
  A3 (decide (i<m))
   (
   Bk (call (114:Nat) [PV.sc (Value.int IntKind.u64 seed),PV.sc (Value.int IntKind.i64 i)]) fun x1 x2=>
   Aq (x2) <|
   Av (x1) fun x3 x4=>
   Be (IntKind.u64) (x3) fun x5=>
   Aq (x4) <|
   As (decide ((0:Int)<=i)&&decide (i<(↑n:Int))) <|
   As (decide ((0:Nat)+Int.toNat i*(1:Nat)+(1:Nat)<=List.length c)) <|
   Aa (Bx c [PV.sc (Value.int IntKind.u64 x5)] ((0:Nat)+Int.toNat i*(1:Nat))) fun x6=>
   Aa (wrap IntKind.i64 (i+(1:Int))) fun x7=>
   some (0,⟨lk [(0,(.sc (yv))),(1,(.iptr ([PV.sc (Value.int IntKind.i64 h)]) ((0:Nat)))),(2,(.iptr ([PV.sc (Value.int IntKind.u64 seed)]) ((0:Nat)))),(4,(.view 4 1 0 (n))),(13,(At (m))),(14,(At (x7)))],B0 [(4,(.ar false (x6)))]⟩))
   (
   some (1,⟨lk [(0,(.sc (yv))),(1,(.iptr ([PV.sc (Value.int IntKind.i64 h)]) ((0:Nat)))),(2,(.iptr ([PV.sc (Value.int IntKind.u64 seed)]) ((0:Nat)))),(4,(.view 4 1 0 (n))),(13,(At (m))),(14,(At (i)))],B0 [(4,(.ar false (c)))]⟩))):=by kernel_rfl
theorem A25(call:Bp)(yv:Value)(h seed m i:Int)(n:Nat)(c:Ab):QB 63 call (sL (sR (sR JE))) 87 ⟨lk [(0,.sc yv),(1,.iptr [At h] 0),(2,.iptr [Af seed] 0),(4,.view 4 1 0 n),(13,At m),(14,At i)],B0 [(4,.ar false c)]⟩=(
 some (0,⟨lk [(0,(.sc (yv))),(1,(.iptr ([PV.sc (Value.int IntKind.i64 h)]) ((0:Nat)))),(2,(.iptr ([PV.sc (Value.int IntKind.u64 seed)]) ((0:Nat)))),(4,(.view 4 1 0 (n))),(6,(At ((0:Int))))],B0 [(4,(.ar false (c)))]⟩)):=by kernel_rfl
theorem A3q(call:Bp)(yv:Value)(h seed k:Int)(n:Nat)(c:Ab):QB 63 call (sL (sB (sL (sR (sB (sB (sR (sR (sR JE))))))))) 215 ⟨lk [(0,.sc yv),(1,.iptr [At h] 0),(2,.iptr [Af seed] 0),(4,.view 4 1 0 n),(6,At k)],B0 [(4,.ar false c)]⟩=(
 Aa (wrap IntKind.i64 (Int.tdiv (↑n:Int) (2:Int))) fun x1=>
 As (decide ((0:Int)<=x1)&&decide (x1<=x1)&&decide (x1*(8:Int)<=(1099511627776:Int))&&decide (x1<=(1099511627776:Int))) <|
 some (0,⟨lk [(0,(.sc (yv))),(1,(.iptr ([PV.sc (Value.int IntKind.i64 h)]) ((0:Nat)))),(2,(.iptr ([PV.sc (Value.int IntKind.u64 seed)]) ((0:Nat)))),(4,(.view 4 1 0 (n))),(6,(At (k))),(7,(.view 7 1 0 (Int.toNat x1)))],B0 [(4,(.ar false (c))),(7,(.ar false (Yg (Int.toNat x1) [PV.sc (Value.int IntKind.u64 (0:Int))])))]⟩)):=by kernel_rfl
theorem A2z(call:Bp)(yv:Value)(h seed k:Int)(n m:Nat)(c e:Ab):QB 63 call (sL (sL (sR (sB (sL (sR (sB (sB (sR (sR (sR JE))))))))))) 3298534883543 ⟨lk [(0,.sc yv),(1,.iptr [At h] 0),(2,.iptr [Af seed] 0),(4,.view 4 1 0 n),(6,At k),(7,.view 7 1 0 m)],B0 [(4,.ar false c),(7,.ar false e)]⟩=(
 some (0,⟨lk [(0,(.sc (yv))),(1,(.iptr ([PV.sc (Value.int IntKind.i64 h)]) ((0:Nat)))),(2,(.iptr ([PV.sc (Value.int IntKind.u64 seed)]) ((0:Nat)))),(4,(.view 4 1 0 (n))),(6,(At (k))),(7,(.view 7 1 0 (m))),(40,(At ((↑m:Int)))),(41,(At ((0:Int))))],B0 [(4,(.ar false (c))),(7,(.ar false (e)))]⟩)):=by kernel_rfl
theorem Avh(call:Bp)(yv:Value)(h seed k p i:Int)(n m:Nat)(c e:Ab):QB 63 call (sB (sB (sR (sL (sR (sB (sL (sR (sB (sB (sR (sR (sR JE))))))))))))) 3298534883543 ⟨lk [(0,.sc yv),(1,.iptr [At h] 0),(2,.iptr [Af seed] 0),(4,.view 4 1 0 n),(6,At k),(7,.view 7 1 0 m),(40,At p),(41,At i)],B0 [(4,.ar false c),(7,.ar false e)]⟩=(
  A3 (decide (i<p))
   (
   Aa (wrap IntKind.i64 (k+(1:Int))) fun x1=>
   Aa (wrap IntKind.i64 ((2:Int)*i)) fun x2=>
   As (decide ((0:Int)<=x2)&&decide (x2<(↑n:Int))) <|
   Be (IntKind.u64) (List.getD c ((0:Nat)+Int.toNat x2*(1:Nat)) PV.top) fun x3=>
   Aa (wrap IntKind.i64 ((2:Int)*i)) fun x4=>
   Aa (wrap IntKind.i64 (x4+(1:Int))) fun x5=>
   As (decide ((0:Int)<=x5)&&decide (x5<(↑n:Int))) <|
   Be (IntKind.u64) (List.getD c ((0:Nat)+Int.toNat x5*(1:Nat)) PV.top) fun x6=>
   Bk (call (76:Nat) [PV.sc (Value.int IntKind.i64 x1),PV.sc (Value.int IntKind.u64 x3),PV.sc (Value.int IntKind.u64 x6)]) fun x7 x8=>
   Aq (x8) <|
   Av (x7) fun x9 x10=>
   Be (IntKind.u64) (x9) fun x11=>
   Aq (x10) <|
   As (decide ((0:Int)<=i)&&decide (i<(↑m:Int))) <|
   As (decide ((0:Nat)+Int.toNat i*(1:Nat)+(1:Nat)<=List.length e)) <|
   Aa (Bx e [PV.sc (Value.int IntKind.u64 x11)] ((0:Nat)+Int.toNat i*(1:Nat))) fun x12=>
   Aa (wrap IntKind.i64 (i+(1:Int))) fun x13=>
   some (0,⟨lk [(0,(.sc (yv))),(1,(.iptr ([PV.sc (Value.int IntKind.i64 h)]) ((0:Nat)))),(2,(.iptr ([PV.sc (Value.int IntKind.u64 seed)]) ((0:Nat)))),(4,(.view 4 1 0 (n))),(6,(At (k))),(7,(.view 7 1 0 (m))),(40,(At (p))),(41,(At (x13)))],B0 [(4,(.ar false (c))),(7,(.ar false (x12)))]⟩))
   (
   some (5,⟨lk [(0,(.sc (yv))),(1,(.iptr ([PV.sc (Value.int IntKind.i64 h)]) ((0:Nat)))),(2,(.iptr ([PV.sc (Value.int IntKind.u64 seed)]) ((0:Nat)))),(4,(.view 4 1 0 (n))),(6,(At (k))),(7,(.view 7 1 0 (m))),(40,(At (p))),(41,(At (i)))],B0 [(4,(.ar false (c))),(7,(.ar false (e)))]⟩))):=by kernel_rfl
theorem A1n(call:Bp)(yv:Value)(h seed k p i:Int)(n m:Nat)(c e:Ab):QB 63 call (sR (sR (sB (sL (sR (sB (sB (sR (sR (sR JE)))))))))) 87 ⟨lk [(0,.sc yv),(1,.iptr [At h] 0),(2,.iptr [Af seed] 0),(4,.view 4 1 0 n),(6,At k),(7,.view 7 1 0 m),(40,At p),(41,At i)],B0 [(4,.ar false c),(7,.ar false e)]⟩=(
 some (0,⟨lk [(0,(.sc (yv))),(1,(.iptr ([PV.sc (Value.int IntKind.i64 h)]) ((0:Nat)))),(2,(.iptr ([PV.sc (Value.int IntKind.u64 seed)]) ((0:Nat)))),(4,(.view 4 1 0 (m))),(6,(At (k)))],B0 [(4,(.ar false (e)))]⟩)):=by kernel_rfl
theorem A29(call:Bp)(yv:Value)(h seed k:Int)(n:Nat)(c:Ab):QB 63 call (sR (sR (sB (sB (sR (sR (sR JE))))))) 87 ⟨lk [(0,.sc yv),(1,.iptr [At h] 0),(2,.iptr [Af seed] 0),(4,.view 4 1 0 n),(6,At k)],B0 [(4,.ar false c)]⟩=(
 Aa (wrap IntKind.i64 (k+(1:Int))) fun x1=>
 some (0,⟨lk [(0,(.sc (yv))),(1,(.iptr ([PV.sc (Value.int IntKind.i64 h)]) ((0:Nat)))),(2,(.iptr ([PV.sc (Value.int IntKind.u64 seed)]) ((0:Nat)))),(4,(.view 4 1 0 (n))),(6,(At (x1)))],B0 [(4,(.ar false (c)))]⟩)):=by kernel_rfl
theorem A1m(call:Bp)(yv:Value)(h seed k:Int)(n:Nat)(c:Ab):Mw CB prog 63 call (H5 (sL (sL (sB (sB (sR (sR (sR JE)))))))) (List.take 3 (H5 (sL (sL (sB (sB (sR (sR (sR JE)))))))).toList) ⟨lk [(0,.sc yv),(1,.iptr [At h] 0),(2,.iptr [Af seed] 0),(4,.view 4 1 0 n),(6,At k)],B0 [(4,.ar false c)]⟩ (fun s=>Ke 63 117440599 s fun s'=>some (0,s'))=(
 some (0,⟨lk [(0,(.sc (yv))),(1,(.iptr ([PV.sc (Value.int IntKind.i64 h)]) ((0:Nat)))),(2,(.iptr ([PV.sc (Value.int IntKind.u64 seed)]) ((0:Nat)))),(4,(.view 4 1 0 (n))),(6,(At (k))),(24,(.sc (yv))),(25,(At (k))),(26,(.view 4 1 0 (n)))],B0 [(4,(.ar false (c)))]⟩)):=by kernel_rfl
theorem Awt(call:Bp)(yv:Value)(h seed k:Int)(n:Nat)(c:Ab):Mw CB prog 63 call (H5 (sL (sL (sB (sB (sR (sR (sR JE)))))))) (List.drop 4 (H5 (sL (sL (sB (sB (sR (sR (sR JE)))))))).toList) ⟨lk [(0,.sc yv),(1,.iptr [At h] 0),(2,.iptr [Af seed] 0),(4,.view 4 1 0 n),(6,At k),(27,.sc (.bool true))],B0 [(4,.ar false c)]⟩ (fun s=>Ke 63 4294967383 s fun s'=>some (0,s'))=(
 some (0,⟨lk [(0,(.sc (yv))),(1,(.iptr ([PV.sc (Value.int IntKind.i64 h)]) ((0:Nat)))),(2,(.iptr ([PV.sc (Value.int IntKind.u64 seed)]) ((0:Nat)))),(4,(.view 4 1 0 (n))),(6,(At (k))),(32,(.sc (.bool (decide (k<h)))))],B0 [(4,(.ar false (c)))]⟩)):=by kernel_rfl
theorem Axc(call:Bp)(yv:Value)(h seed k:Int)(n:Nat)(c:Ab):Mw CB prog 63 call (H5 (sL (sL (sB (sB (sR (sR (sR JE)))))))) (List.drop 4 (H5 (sL (sL (sB (sB (sR (sR (sR JE)))))))).toList) ⟨lk [(0,.sc yv),(1,.iptr [At h] 0),(2,.iptr [Af seed] 0),(4,.view 4 1 0 n),(6,At k),(27,.sc (.bool false))],B0 [(4,.ar false c)]⟩ (fun s=>Ke 63 4294967383 s fun s'=>some (0,s'))=(
 some (0,⟨lk [(0,(.sc (yv))),(1,(.iptr ([PV.sc (Value.int IntKind.i64 h)]) ((0:Nat)))),(2,(.iptr ([PV.sc (Value.int IntKind.u64 seed)]) ((0:Nat)))),(4,(.view 4 1 0 (n))),(6,(At (k))),(32,(.sc (.bool (false))))],B0 [(4,(.ar false (c)))]⟩)):=by kernel_rfl
theorem Atj(call:Bp)(yv:Value)(h seed k:Int)(n:Nat)(c:Ab)(q:Bool):QB 63 call (sR (sL (sB (sB (sR (sR (sR JE))))))) 87 ⟨lk [(0,.sc yv),(1,.iptr [At h] 0),(2,.iptr [Af seed] 0),(4,.view 4 1 0 n),(6,At k),(32,.sc (.bool q))],B0 [(4,.ar false c)]⟩=(
  A3 (q)
   (
   some (0,⟨lk [(0,(.sc (yv))),(1,(.iptr ([PV.sc (Value.int IntKind.i64 h)]) ((0:Nat)))),(2,(.iptr ([PV.sc (Value.int IntKind.u64 seed)]) ((0:Nat)))),(4,(.view 4 1 0 (n))),(6,(At (k)))],B0 [(4,(.ar false (c)))]⟩))
   (
   some (3,⟨lk [(0,(.sc (yv))),(1,(.iptr ([PV.sc (Value.int IntKind.i64 h)]) ((0:Nat)))),(2,(.iptr ([PV.sc (Value.int IntKind.u64 seed)]) ((0:Nat)))),(4,(.view 4 1 0 (n))),(6,(At (k)))],B0 [(4,(.ar false (c)))]⟩))):=by kernel_rfl
theorem A3p(call:Bp)(seed h leaf m:Int):QB 48 call (sL TH) 873 ⟨lk [(0,Af seed),(1,At h),(2,At leaf),(3,Af m)],B0 []⟩=(
 some (0,⟨lk [(0,(Af (seed))),(3,(Af (m))),(5,(.ptr 5 0)),(6,(.ptr 6 0)),(8,(.ptr 8 0)),(9,(At ((0:Int))))],B0 [(5,(.st [(At (h))])),(6,(.st [(At (leaf))])),(8,(.st [(At ((0:Int))),(.view 104 1 0 ((0:Nat))),(.view 152 1 0 ((0:Nat)))])),(104,(.ar false ([]))),(152,(.ar false ([])))]⟩)):=by kernel_rfl
theorem A1x(call:Bp)(seed h leaf m:Int):QB 48 call (sL (sR TH)) 873 ⟨lk [(0,Af seed),(3,Af m),(5,.ptr 5 0),(6,.ptr 6 0),(8,.ptr 8 0),(9,At 0)],B0 [(5,.st [At h]),(6,.st [At leaf]),(8,.st [At 0,.view 104 1 0 0,.view 152 1 0 0]),(104,.ar false []),(152,.ar false [])]⟩=(
  Bk (call (67:Nat) [PV.sc (Value.int IntKind.i64 h)]) fun x1 x2=>
  Aq (x2) <|
  Av (x1) fun x3 x4=>
  Cg (x3) fun x5=>
  Aq (x4) <|
  A3 (x5)
   (
   none)
   (
   Bk (call (68:Nat) [PV.sc (Value.int IntKind.i64 leaf),PV.sc (Value.int IntKind.i64 h)]) fun x6 x7=>
   Aq (x7) <|
   Av (x6) fun x8 x9=>
   Cg (x8) fun x10=>
   Aq (x9) <|
   A3 (x10)
    (
    none)
    (
    some (0,⟨lk [(0,(Af (seed))),(3,(Af (m))),(5,(.ptr 5 0)),(6,(.ptr 6 0)),(8,(.ptr 8 0)),(9,(At ((0:Int))))],B0 [(5,(.st [(At (h))])),(6,(.st [(At (leaf))])),(8,(.st [(At ((0:Int))),(.view 104 1 0 ((0:Nat))),(.view 152 1 0 ((0:Nat)))])),(104,(.ar false ([]))),(152,(.ar false ([])))]⟩)))):=by kernel_rfl
theorem A1u(call:Bp)(seed h leaf m:Int):QB 48 call (sL (sR (sR TH))) 1897 ⟨lk [(0,Af seed),(3,Af m),(5,.ptr 5 0),(6,.ptr 6 0),(8,.ptr 8 0),(9,At 0)],B0 [(5,.st [At h]),(6,.st [At leaf]),(8,.st [At 0,.view 104 1 0 0,.view 152 1 0 0]),(104,.ar false []),(152,.ar false [])]⟩=(
 Bk (call (69:Nat) [PV.sc (Value.int IntKind.u64 seed),PV.sc (Value.int IntKind.i64 leaf),PV.sc (Value.int IntKind.u64 m)]) fun x1 x2=>
 Aq (x2) <|
 Av (x1) fun x3 x4=>
 Je ((1:Nat)) (x3) fun x5 x6=>
 Aq (x4) <|
 some (0,⟨lk [(0,(Af (seed))),(3,(Af (m))),(5,(.ptr 5 0)),(6,(.ptr 6 0)),(8,(.ptr 8 0)),(9,(At ((0:Int)))),(10,(.ptr 10 0))],B0 [(5,(.st [(At (h))])),(6,(.st [(At (leaf))])),(8,(.st [(At ((0:Int))),(.view 104 1 0 ((0:Nat))),(.view 152 1 0 ((0:Nat)))])),(104,(.ar false ([]))),(152,(.ar false ([]))),(10,(.st [(At (leaf)),(.view 106 1 0 (x5)),(.view 154 1 0 ((0:Nat)))])),(106,(.ar false (x6))),(154,(.ar false ([])))]⟩)):=by kernel_rfl
theorem Aq7(call:Bp)(h leaf k:Int)(ch:Value)(n m:Nat)(c d:Ab):QB 48 call (sF (sB (sR (sL (sR (sR (sR TH))))))) 1024 ⟨lk [(5,.iptr [At h] 0),(6,.iptr [At leaf] 0),(10,.ptr 96000 0),(11,At k),(12,.lst false 1 n c)],B0 [(96000,.st [At leaf,.sc ch,.view 20 1 0 m]),(20,.ar false d)]⟩=(
  A3 (k==h)
   (
   some (1,⟨lk [(10,(.ptr 96000 0))],B0 [(96000,(.st [(At (leaf)),(.sc (ch)),(.view 96144 1 0 (m))])),(96144,(.ar false (d)))]⟩))
   (
   As (decide ((0:Int)<=k)) <|
   Aa (F2 IntKind.i64 leaf k) fun x1=>
   Aa (Fi IntKind.i64 x1 (1:Int)) fun x2=>
   As (decide ((0:Int)<=x2)&&decide (x2<(↑n:Int))) <|
   Be (IntKind.u64) (List.getD c (Int.toNat x2*(1:Nat)) PV.top) fun x3=>
   As (decide (m*(1:Nat)<=List.length d)&&true&&decide ((m+(1:Nat))*(8:Nat)<=(1099511627776:Nat))&&decide (m+(1:Nat)<=(1099511627776:Nat))) <|
   Aa (m+(1:Nat)) fun x4=>
   Aa (List.take (m*(1:Nat)) d++[PV.sc (Value.int IntKind.u64 x3)]) fun x5=>
   some (0,⟨lk [(10,(.ptr 96000 0))],B0 [(96000,(.st [(At (leaf)),(.sc (ch)),(.view 96144 1 0 (x4))])),(96144,(.ar false (x5)))]⟩))):=by kernel_rfl
theorem A13(call:Bp)(seed h leaf m:Int)(n:Nat)(c:Ab):Mw CB prog 48 call (H5 (sL (sL (sR (sR (sR TH)))))) (List.take 2 (H5 (sL (sL (sR (sR (sR TH)))))).toList) ⟨lk [(0,Af seed),(3,Af m),(5,.ptr 5 0),(6,.ptr 6 0),(8,.ptr 8 0),(9,At 0),(10,.ptr 10 0)],B0 [(5,.st [At h]),(6,.st [At leaf]),(8,.st [At 0,.view 104 1 0 0,.view 152 1 0 0]),(104,.ar false []),(152,.ar false []),(10,.st [At leaf,.view 106 1 0 n,.view 154 1 0 0]),(106,.ar false c),(154,.ar false [])]⟩ (fun s=>Ke 48 402655081 s fun s'=>some (0,s'))=(
 some (0,⟨lk [(0,(Af (seed))),(3,(Af (m))),(5,(.ptr 5 0)),(6,(.ptr 6 0)),(8,(.ptr 8 0)),(9,(At ((0:Int)))),(10,(.ptr 10 0)),(27,(Af (seed))),(28,(At (h)))],B0 [(5,(.st [(At (h))])),(6,(.st [(At (leaf))])),(8,(.st [(At ((0:Int))),(.view 104 1 0 ((0:Nat))),(.view 152 1 0 ((0:Nat)))])),(104,(.ar false ([]))),(152,(.ar false ([]))),(10,(.st [(At (leaf)),(.view 106 1 0 (n)),(.view 154 1 0 ((0:Nat)))])),(106,(.ar false (c))),(154,(.ar false ([])))]⟩)):=by kernel_rfl
theorem A10(call:Bp)(leaf:Int)(n1 n2:Nat)(c1 c2:Ab):Mw CB prog 48 call (H5 (sL (sR (sR (sR (sR TH)))))) (H5 (sL (sR (sR (sR (sR TH)))))).toList ⟨lk [(8,.ptr 96000 0),(9,At 0),(10,.iptr [At leaf,.lst false 1 n1 c1,.lst false 1 n2 c2] 0)],B0 [(96000,.st [.top,.top,.top])]⟩ (fun s=>Ke 48 768 s fun s'=>some (0,s'))=(
 some (0,⟨lk [(8,(.ptr 96000 0)),(9,(At ((0:Int))))],B0 [(96000,(.st [(At (leaf)),(.lst false 1 (n1) (c1)),(.lst false 1 (n2) (c2))]))]⟩)):=by kernel_rfl
theorem A1h(a0 a1 a2 a3 leaf:Int)(n1 n2:Nat)(c1 c2:Ab):Afy CS prog 36 Tryz.f36 [Af a0,At a1,At a2,Af a3] ⟨lk [(8,.ptr 96000 0),(9,At 0)],B0 [(96000,.st [At leaf,.lst false 1 n1 c1,.lst false 1 n2 c2])]⟩=(
 some (D0.mk [PV.agg [PV.sc (Value.int IntKind.i64 leaf),PV.lst false (1:Nat) n1 c1,PV.lst false (1:Nat) n2 c2],PV.sc (Value.int IntKind.i64 (0:Int))] [])):=by kernel_rfl
theorem A2j(call:Bp)(seed h leaf m:Int):Ayk CS prog 2000 call 36 Tryz.f36 TH [Af seed,At h,At leaf,Af m]=(
  Bk (call (67:Nat) [PV.sc (Value.int IntKind.i64 h)]) fun x1 x2=>
  Aq (x2) <|
  Av (x1) fun x3 x4=>
  Cg (x3) fun x5=>
  Aq (x4) <|
  A3 (x5)
   (
   some (D0.mk [PV.agg [PV.sc (Value.int IntKind.i64 (0:Int)),PV.lst false (1:Nat) (0:Nat) [],PV.lst false (1:Nat) (0:Nat) []],PV.sc (Value.int IntKind.i64 (9:Int))] []))
   (
   Bk (call (68:Nat) [PV.sc (Value.int IntKind.i64 leaf),PV.sc (Value.int IntKind.i64 h)]) fun x6 x7=>
   Aq (x7) <|
   Av (x6) fun x8 x9=>
   Cg (x8) fun x10=>
   Aq (x9) <|
   A3 (x10)
    (
    some (D0.mk [PV.agg [PV.sc (Value.int IntKind.i64 (0:Int)),PV.lst false (1:Nat) (0:Nat) [],PV.lst false (1:Nat) (0:Nat) []],PV.sc (Value.int IntKind.i64 (9:Int))] []))
    (
    Bk (call (69:Nat) [PV.sc (Value.int IntKind.u64 seed),PV.sc (Value.int IntKind.i64 leaf),PV.sc (Value.int IntKind.u64 m)]) fun x11 x12=>
    Aq (x12) <|
    Av (x11) fun x13 x14=>
    Pq ((1:Nat)) (x13) fun x15 x16 x17=>
    Aq (x14) <|
    Bk (call (70:Nat) [PV.sc (Value.int IntKind.u64 seed),PV.sc (Value.int IntKind.i64 h)]) fun x18 x19=>
    Aq (x19) <|
    Av (x18) fun x20 x21=>
    fnK (x20) fun x22=>
    Aq (x21) <|
    none))):=by kernel_rfl
section
open Go Go.RowKit
def G1:Zg:=⟨fun _=>False,fun _=>True,fun _ _ _ _=>trivial⟩
def noX:FuncId->Option (Ab->Option D0):=fun _=>none
theorem A3v:Amt G1 prog (CX noX):=by intro f g args res h _;have h':(bif MN.any (Nat.beq f) then none else (none:Option (Ab->Option D0)))=some g:=h;cases hb:MN.any (Nat.beq f)<;>rw[hb] at h'<;>cases h'
abbrev cl:Bp:=Ar (CX noX) prog 2000 8
theorem ngT:NoNG prog:=by
 have h:(prog.funcs.toList.all fun fn=> !(fn.name == "runtime.NumGoroutine"))=true:=by kernel_rfl
 intro f fn hf;have:=List.all_eq_true.1 h fn (Array.mem_toList_iff.2 (Array.mem_of_getElem? hf))
 simpa using this
theorem GT:prog.follows .mixedOrders=true:=by kernel_rfl
theorem Ch:∀f args res,cl f args=some res->Do G1 prog f args res:=fun f args res h=>CY ngT GT A3v 8 f args res h
theorem J7(w0:World)(X0:Gn):QL prog G1 w0 X0:=⟨ngT,fun _ _=>trivial,fun _ h=>h.elim⟩
def gl(f:Nat->Int)(n i:Nat):Ca:=(List.range i).map f++List.replicate (n-i) 0
theorem At0(f:Nat->Int){n i:Nat}(h:i<=n):(gl f n i).length=n:=by simp[gl];omega
theorem Auy(f:Nat->Int){n i:Nat}(h:i<n):(gl f n i).set i (f i)=gl f n (i+1):=by unfold gl;rw[List.set_append_right _ _ (by simp),List.length_map,List.length_range,Nat.sub_self,show n-i=(n-(i+1))+1 by omega,List.replicate_succ,List.set_cons_zero,List.range_succ,List.map_append,FC];rfl
theorem Ak2(f:Nat->Int)(n:Nat):gl f n n=(List.range n).map f:=by simp[gl]
theorem Alv(f:Nat->Int)(n:Nat):gl f n 0=List.replicate n 0:=by simp[gl]
abbrev Apm(yv:Value)(h seed:Int)(n:Nat)(m i:Int)(c:Ab):St:=
 ⟨lk [(0,.sc yv),(1,.iptr [At h] 0),(2,.iptr [Af seed] 0),(4,.view 4 1 0 n),(13,At m),(14,At i)],B0 [(4,.ar false c)]⟩
abbrev Aoo(yv:Value)(h seed k:Int)(n m:Nat)(p i:Int)(c e:Ab):St:=
 ⟨lk [(0,.sc yv),(1,.iptr [At h] 0),(2,.iptr [Af seed] 0),(4,.view 4 1 0 n),(6,At k),(7,.view 7 1 0 m),(40,At p),(41,At i)],B0 [(4,.ar false c),(7,.ar false e)]⟩
theorem A77(yv:Value)(h seed:Int){n i:Nat}(hn:n<=1000)(hi:i<n):
  QB 63 cl (sB (sB (sR (sL (sR JE))))) 24599 (Apm yv h seed n n i (Ac .u64 (gl (fun (j:Nat)=>Lm seed (j:Int)) n i)))=some (0,Apm yv h seed n n ((i+1:Nat):Int) (Ac .u64 (gl (fun (j:Nat)=>Lm seed (j:Int)) n (i+1)))):=by
 have pb:cl 114 [Af seed,At i]=_:=An9 (xs:=noX) (fu:=2000) (d:=1) (by omega) seed i;have w:wrap .i64 ((i:Int)+1)=((i+1:Nat):Int):=by rw[Ag (by omega) (by omega)];omega
 have L:(Ac .u64 (gl (fun (j:Nat)=>Lm seed (j:Int)) n i)).length=n:=by rw[Am,At0 _ (by omega)]
 have FG:Bx (Ac .u64 (gl (fun (j:Nat)=>Lm seed (j:Int)) n i)) [Af (Lm seed i)] i=Ac .u64 (gl (fun (j:Nat)=>Lm seed (j:Int)) n (i+1)):=by
  rw[Hg (by omega),O2];exact congrArg _ (Auy (fun (j:Nat)=>Lm seed (j:Int)) hi)
 refine (Aqi cl yv h seed n i n (Ac .u64 (gl (fun (j:Nat)=>Lm seed (j:Int)) n i))).trans ?_;simp(disch:=omega)only[B4,B3,H0,Df,Cm,pb,L,FG,w]
theorem A6v(yv:Value)(h seed:Int)(n:Nat)(c:Ab):
  QB 63 cl (sB (sB (sR (sL (sR JE))))) 24599 (Apm yv h seed n n n c)=some (1,Apm yv h seed n n n c):=
 (Aqi cl yv h seed n n n c).trans (Ef _ _ _ (by omega))
theorem Af7{yv:Value}{h seed:Int}{n:Nat}(hn:n<=1000):∀(r i nn:Nat),i+r=n->r<nn->∀{w0:World}{X0:Gn}{Y:Nat->Prop}{β:Bt}{a:Act}{w:World}{Q:Exit->Act->World->Prop},
  Cj 63 w0 X0 Y β (Apm yv h seed n n i (Ac .u64 (gl (fun (j:Nat)=>Lm seed (j:Int)) n i))) a w ->
  (∀a' w' β',Cj 63 w0 X0 Y β' (Apm yv h seed n n n (Ac .u64 (gl (fun (j:Nat)=>Lm seed (j:Int)) n n))) a' w'->Q (.exit 0) a' w')->Code.rounds prog (sB (sB (sR (sL (sR JE))))) Q nn a w
 |_,_,0,_,h=>by omega
 |0,i,nn+1,hi,_=>by
  intro hs hQ;obtain rfl:i=n:=by omega
  rw[rounds_succ];exact D6 (J7 _ _) GT Ch hs (A6v yv h seed i _) fun a' w' β' h'=>hQ a' w' β' h'
 |r+1,i,nn+1,hi,hr=>by
  intro hs hQ;rw[rounds_succ];exact D6 (J7 _ _) GT Ch hs (A77 yv h seed hn (by omega)) fun a' w' β' h'=>Af7 hn r (i+1) nn (by omega) (by omega) h' hQ
def Gj(seed:Int)(n k:Nat):Ca:=(List.range n).map fun (j:Nat)=>Cs seed k (j:Int)
theorem VL(seed:Int)(n k:Nat):(Gj seed n k).length=n:=by simp[Gj]
theorem Yh(seed:Int){n k j:Nat}(h:j<n):(Gj seed n k)[j]?=some (Cs seed k j):=by simp[Gj,h]
theorem A8d(yv:Value)(h seed:Int){k m i:Nat}(hm:m<=1000)(hk:k<=1000)(hi:i<m):
  QB 63 cl (sB (sB (sR (sL (sR (sB (sL (sR (sB (sB (sR (sR (sR JE))))))))))))) 3298534883543 (Aoo yv h seed k (2*m) m m i (Ac .u64 (Gj seed (2*m) k)) (Ac .u64 (gl (fun (j:Nat)=>Cs seed (k+1) (j:Int)) m i))) =
   some (0,Aoo yv h seed k (2*m) m m ((i+1:Nat):Int) (Ac .u64 (Gj seed (2*m) k)) (Ac .u64 (gl (fun (j:Nat)=>Cs seed (k+1) (j:Int)) m (i+1)))):=by
 have e1:wrap .i64 ((2:Int)*i)=((2*i:Nat):Int):=by rw[Ag (by omega) (by omega)];omega
 have e2:wrap .i64 (((2*i:Nat):Int)+1)=((2*i+1:Nat):Int):=by rw[Ag (by omega) (by omega)];omega
 have e3:wrap .i64 ((k:Int)+1)=((k+1:Nat):Int):=by rw[Ag (by omega) (by omega)];omega
 have w:wrap .i64 ((i:Int)+1)=((i+1:Nat):Int):=by rw[Ag (by omega) (by omega)];omega
 have a1:(Ac .u64 (Gj seed (2*m) k)).getD (2*i) .top=Af (Cs seed k ((2*i:Nat):Int)):=Vg (Yh seed (by omega));have a2:(Ac .u64 (Gj seed (2*m) k)).getD (2*i+1) .top=Af (Cs seed k ((2*i+1:Nat):Int)):=Vg (Yh seed (by omega))
 have pn:cl 76 [At ((k+1:Nat):Int),Af (Cs seed k ((2*i:Nat):Int)),Af (Cs seed k ((2*i+1:Nat):Int))]=some ⟨[Af (Cs seed (k+1) (i:Int))],[]⟩:=by
  have:=OH (xs:=noX) (fu:=2000) (d:=2) (by omega) ((k+1:Nat):Int) (Cs seed k ((2*i:Nat):Int)) (Cs seed k ((2*i+1:Nat):Int))
  rw[show Cs seed (k+1) (i:Int)=Q4 ((k+1:Nat):Int) (Cs seed k ((2*i:Nat):Int)) (Cs seed k ((2*i+1:Nat):Int)) by
   rw[Cs];congr 2<;>omega]
  exact this
 have L:(Ac .u64 (gl (fun (j:Nat)=>Cs seed (k+1) (j:Int)) m i)).length=m:=by rw[Am,At0 _ (by omega)]
 have FG:Bx (Ac .u64 (gl (fun (j:Nat)=>Cs seed (k+1) (j:Int)) m i)) [Af (Cs seed (k+1) (i:Int))] i=Ac .u64 (gl (fun (j:Nat)=>Cs seed (k+1) (j:Int)) m (i+1)):=by
  rw[Hg (by omega),O2];exact congrArg _ (Auy (fun (j:Nat)=>Cs seed (k+1) (j:Int)) hi)
 refine (Avh cl yv h seed k m i (2*m) m _ _).trans ?_;simp(disch:=omega)only[B4,B3,H0,Df,Cm,e1,e2,e3,a1,a2,pn,L,FG,w]
theorem A7n(yv:Value)(h seed k:Int)(n m:Nat)(c e:Ab):
  QB 63 cl (sB (sB (sR (sL (sR (sB (sL (sR (sB (sB (sR (sR (sR JE))))))))))))) 3298534883543 (Aoo yv h seed k n m m m c e)=some (5,Aoo yv h seed k n m m m c e):=
 (Avh cl yv h seed k m m n m c e).trans (Ef _ _ _ (by omega))
theorem Afr{yv:Value}{h seed:Int}{k m:Nat}(hm:m<=1000)(hk:k<=1000):∀(r i nn:Nat),i+r=m->r<nn->∀{w0:World}{X0:Gn}{Y:Nat->Prop}{β:Bt}{a:Act}{w:World}{Q:Exit->Act->World->Prop},
  Cj 63 w0 X0 Y β (Aoo yv h seed k (2*m) m m i (Ac .u64 (Gj seed (2*m) k)) (Ac .u64 (gl (fun (j:Nat)=>Cs seed (k+1) (j:Int)) m i))) a w ->
  (∀a' w' β',Cj 63 w0 X0 Y β' (Aoo yv h seed k (2*m) m m m (Ac .u64 (Gj seed (2*m) k)) (Ac .u64 (gl (fun (j:Nat)=>Cs seed (k+1) (j:Int)) m m))) a' w'->Q (.exit 4) a' w') ->
  Code.rounds prog (sB (sB (sR (sL (sR (sB (sL (sR (sB (sB (sR (sR (sR JE))))))))))))) Q nn a w
 |_,_,0,_,h=>by omega
 |0,i,nn+1,hi,_=>by
  intro hs hQ;obtain rfl:i=m:=by omega
  rw[rounds_succ];exact D6 (J7 _ _) GT Ch hs (A7n yv h seed k (2*i) i _ _) fun a' w' β' h'=>hQ a' w' β' h'
 |r+1,i,nn+1,hi,hr=>by
  intro hs hQ;rw[rounds_succ];exact D6 (J7 _ _) GT Ch hs (A8d yv h seed hm hk (by omega)) fun a' w' β' h'=>Afr hm hk r (i+1) nn (by omega) (by omega) h' hQ
end
section
open Go Go.RowKit
abbrev XK:Code:=sB (sB (sR (sR (sR JE))))
abbrev lvX:Code:=sB (sL (sR XK))
theorem A30:XK=.seq (.seq (.region 7 (H5 (sL (sL XK))) false) (sR (sL XK))) (.seq (.block 3 lvX) (sR (sR XK))):=by kernel_rfl
theorem A14:lvX=.seq (sL lvX) (.seq (.seq (sL (sL (sR lvX))) (.block 4 (.loop (sB (sB (sR (sL (sR lvX)))))))) (sR (sR lvX))):=by kernel_rfl
theorem A2b:JE=.seq (sL JE) (.seq (.seq (sL (sL (sR JE))) (.block 0 (.loop (sB (sB (sR (sL (sR JE)))))))) (.seq (sL (sR (sR JE))) (.block 2 (.loop XK)))):=by kernel_rfl
theorem Q5{F:Fence}{n:Nat}{P:Program}{c c':Code}{Q:Exit->Act->World->Prop}{a:Act}{w:World}(e:c=c')(h:c'.wpIn F n P Q a w):c.wpIn F n P Q a w:=e ▸ h
abbrev lvS(yv:Value)(h seed:Int)(n:Nat)(k:Int)(c:Ab):St:=
 ⟨lk [(0,.sc yv),(1,.iptr [At h] 0),(2,.iptr [Af seed] 0),(4,.view 4 1 0 n),(6,At k)],B0 [(4,.ar false c)]⟩
abbrev Adz(yv:Value)(h seed:Int)(n:Nat)(k:Int)(c:Ab):St:=
 ⟨lk [(0,.sc yv),(1,.iptr [At h] 0),(2,.iptr [Af seed] 0),(4,.view 4 1 0 n),(6,At k),(24,.sc yv),(25,At k),(26,.view 4 1 0 n)],B0 [(4,.ar false c)]⟩
abbrev A7x(yv:Value)(h seed:Int)(n:Nat)(k:Int)(c:Ab)(b:Bool):St:=
 ⟨lk [(0,.sc yv),(1,.iptr [At h] 0),(2,.iptr [Af seed] 0),(4,.view 4 1 0 n),(6,At k),(27,.sc (.bool b))],B0 [(4,.ar false c)]⟩
def lvM(seed:Int)(h:Nat)(pre:Cc)(k:Nat)(args:Array Value)(Z:Nat->Prop)(A:World):Prop:=
 k<=h/\pre=List.range k/\∃b o cap,args = #[.int .i64 k,.slice (some ⟨b,o,none⟩) (2 ^ (h-k):Nat) cap]/\2 ^ (h-k)<=cap/\b<A.heap.size/\¬Z b/\∀j,j<2 ^ (h-k)->A.cell? ⟨b,o+j,none⟩=some (.int .u64 (Cs seed k j))
theorem Atp{seed:Int}{h:Nat}{pre:Cc}{k:Nat}{args:Array Value}{Z:Nat->Prop}{A B:World}(hm:lvM seed h pre k args Z A)(hs:A.heap.size<=B.heap.size)(hk:∀b,b<A.heap.size->¬Z b->B.heap[b]?=A.heap[b]?):lvM seed h pre k args Z B:=by obtain⟨h0,hpr,b,o,cap,h1,h2,h3,h4,h5⟩:=hm;exact⟨h0,hpr,b,o,cap,h1,h2,by omega,h4,fun j hj=>(World.cell?_of_block (a:=⟨b,o+j,none⟩) (hk b h3 h4)).trans (h5 j hj)⟩
theorem As0{seed:Int}{h:Nat}{pre:Cc}{k:Nat}{args:Array Value}{Z:Nat->Prop}{A:World}(hm:lvM seed h pre k args Z A):args.size=2:=by obtain⟨h0,_,b,o,cap,h1,_⟩:=hm;rw[h1];rfl
theorem A7j:∃ty pos aft x,(H5 (sL (sL XK)))[3]?=some { dst:=some 27,op:=.call { callee:=.value (.tmp 24),args:= #[.tmp 25,.tmp 26],argTypes:=x },type:=ty,pos:=pos,after:=aft,guard:=none }:=
 ⟨_,_,_,_,rfl⟩
theorem Qy{k:IntKind}{l:Ca}{i:Nat}{n:Int}(h:l[i]?=some n):(Ac k l)[i]?=some (.sc (.int k n)):=by
 have h1:=Vg (k:=k) h;have Cq:i<(Ac k l).length:=by rw[Am];exact (List.getElem?_eq_some_iff.1 h).1
 rw[List.getD_eq_getElem?_getD,List.getElem?_eq_getElem Cq] at h1;rw[List.getElem?_eq_getElem Cq];exact congrArg some h1
section
variable {seed:Int}{h l:Nat}{w0:World}{X0:Gn}{Z:Nat->Prop}{β:Bt}{a:Act}{w:World}
theorem Ayt{yv:Value}{k n:Nat}{c:Ab}{hi:Int}(hs:Cj 63 w0 X0 Z β (Adz yv hi seed n k c) a w)(hn:0<n):
  a.tmps.getD 24 undef=yv/\a.tmps.getD 25 undef=.int .i64 k/\∃b o cap,β 4=some (b,o)/\a.tmps.getD 26 undef=.slice (some ⟨b,o,none⟩) n cap/\n<=cap/\b<w.heap.size/\YO w (D2 (B0 [(4,.ar false c)]) β Z) ⟨b,o,none⟩ c:=by
 have h24:=hs.tms 24 (by decide);have h25:=hs.tms 25 (by decide);have h26:=hs.tms 26 (by decide);have hb:=hs.box 4 _ (rfl:_=some (Cb.ar false c));refine⟨(Ni h24),(Ni h25),?_⟩;rcases (show Cx w (D2 (B0 [(4,.ar false c)]) β Z) β (.view 4 1 0 n) (a.tmps.getD 26 undef) from h26) with⟨_,_,h3,_⟩|⟨b,o,x,cap,h1,h2,h3,h4,h5,h6⟩
 ·omega
 ·rcases hb with⟨h7,_⟩|⟨b',o',h7,h8,_⟩
  ·rw[h1] at h7;cases h7
  ·rw[h1] at h7;cases h7;have hx:x=o:=by omega
   subst hx;exact⟨b,x,cap,h1,h2,h4,h6,h8⟩
abbrev A56(yv:Value)(h seed:Int)(n:Nat)(k:Int)(c:Ab)(q:Bool):St:=
 ⟨lk [(0,.sc yv),(1,.iptr [At h] 0),(2,.iptr [Af seed] 0),(4,.view 4 1 0 n),(6,At k),(32,.sc (.bool q))],B0 [(4,.ar false c)]⟩
theorem Amq{yv:Value}{hi seed:Int}{n:Nat}{k:Int}{c:Ab}:∀id cc,(Adz yv hi seed n k c).hp id≠some (.st cc):=by
 intro id cc e;rcases Vf [(4,Cb.ar false c)] id with h1|⟨q,hq,h1,h2⟩
 ·rw[show (Adz yv hi seed n k c).hp id=B0 [(4,Cb.ar false c)] id from rfl,h1] at e;cases e
 ·simp at hq;subst hq;rw[show (Adz yv hi seed n k c).hp id=B0 [(4,Cb.ar false c)] id from rfl,h2] at e;cases e
theorem Azb{hi:Int}{yv:Value}{n:Nat}{k:Int}{c:Ab}{Z':Nat->Prop}{B:World}(b:Bool)(hs:Cj 63 w0 X0 Z β (Adz yv hi seed n k c) a w)(ht:Ug Z Z' w B):
  Cj 63 B (Ant (Adz yv hi seed n k c) β) Z' β (A7x yv hi seed n k c b) (a.put (some 27) (.bool b)) B:=by
 have h1:=(hs.rebase ht Amq).put (d:=some 27) (v:=.sc (.bool b)) (val:=.bool b) rfl (Bd.sc _) (by simp[Cn,C3,A9]);refine h1.pick _ _ ?_ ?_ ?_ ?_ (fun _ h=>h.elim)
 ·intro q hq;simp only[B6,Ie,or_false] at hq;rcases hq with rfl|rfl|rfl|rfl|rfl|rfl<;>rfl
 ·intro q hq;simp only[B6,Ie,or_false] at hq;rcases hq with rfl<;>rfl
 ·intro q hq id B5;simp only[B6,Ie,or_false] at hq;rcases hq with rfl|rfl|rfl|rfl|rfl|rfl<;>simp[Cn,C3,A9] at B5
  subst B5;simp[B0]
 ·intro q hq cells e;simp only[B6,Ie,or_false] at hq;rcases hq with rfl;cases e
theorem Ayr(hh:h<=4){J Jx:(Nat->Prop)->Cc->World->Prop}(hJ:∀Z pre A B,J Z pre A->O7 Z A B->J Z pre B)(hJx:∀Z pre A B,Jx Z pre A->O7 Z A B->Jx Z pre B)(hY:∀Z pre x args A,J Z pre A->lvM seed h pre x args Z A->YieldAt Fence.wide 0 prog l args A fun e B=>∃Z',Ug Z Z' A B/\((e=.returned (.bool true)/\J Z' (pre++[x]) B)\/(e=.returned (.bool false)/\Jx Z' (pre++[x]) B))){k r:Nat}(hk:k+r=h)(hs:Cj 63 w0 X0 Z β (lvS (.func (.yield l) #[] #[]) h seed (2 ^ r) k (Ac .u64 (Gj seed (2 ^ r) k))) a w)(hd:∀b,Z b->¬X0.X b)(hj:J Z (List.range k) w0){Q:Exit->Act->World->Prop}(hgo:k<h->∀w2 X2 Z' β' a' w',Cj 63 w2 X2 Z' β' (lvS (.func (.yield l) #[] #[]) h seed (2 ^ r) k (Ac .u64 (Gj seed (2 ^ r) k))) a' w'->(∀b,Z' b->¬X2.X b)->J Z' (List.range (k+1)) w2->Q .normal a' w')(Acy:∀a' w',a'.defers=[]->(∃Z xs,(xs=List.range (h+1)/\J Z xs w')\/((∃k,xs=List.range (k+1))/\Jx Z xs w'))->Q (.exit 2) a' w'):
  (Code.seq (.region 7 (H5 (sL (sL XK))) false) (sR (sL XK))).wpIn Fence.wide 0 prog Q a w:=by
 have hp:0<2 ^ r:=Nat.pos_of_ne_zero (by simp);refine wpIn_seq (wpIn_region ?_);have hl:List.range (H5 (sL (sL XK))).size=[0,1,2]++[3,4,5,6,7,8]:=by kernel_rfl
 rw[hl];refine Hu (ro:=none) (C:=CB) (call:=cl) (r:=((0:Nat),Adz (.func (.yield l) #[] #[]) h seed (2 ^ r) k (Ac .u64 (Gj seed (2 ^ r) k)))) (J7 _ _) Ch ?_ [0,1,2] (List.take 3 (H5 (sL (sL XK))).toList) (by kernel_rfl) ?_ (by kernel_rfl) hs (A1m cl _ h seed k (2 ^ r) _)
 rotate_left
 ·intro j i hj
  match j,hj with
  |0,hj=>cases hj;rfl
  |1,hj=>cases hj;rfl
  |2,hj=>cases hj;rfl
 intro s' a1 w1 β1 E9 PI;obtain⟨β2,s2,Hl,TL⟩:=Ck PI E9;cases Hl;obtain⟨v24,v25,b,o,cap,hb,v26,RH,IC,hrd⟩:=Ayt TL hp;have hjw:J Z (List.range k) w1:=hJ Z _ _ _ hj (TL.stay hd);have hkr:h-k=r:=by omega
 have hm:lvM seed h (List.range k) k #[.int .i64 k,.slice (some ⟨b,o,none⟩) (2 ^ r:Nat) cap] Z w1:=by
  refine⟨by omega,rfl,b,o,cap,by rw[hkr],by rw[hkr];exact RH,IC,fun hz=>TL.Yx b hz ⟨4,o,by trivial,hb⟩,fun j hj=>?_⟩
  rw[hkr] at hj;obtain⟨v,hv,_,hv2⟩:=hrd j (Af (Cs seed k j)) (Qy (Yh seed hj));rw[Fy] at hv;rw[hv,Bd.val hv2]
 obtain⟨fn,tmps,assign,body,hy,hR⟩:=hY Z _ k _ w1 hjw hm;obtain⟨ty,pos,aft,x,ho⟩:=A7j;rw[wpOpsIn_cons];unfold wpOpIn;rw[ho];simp only[Region.wanted,if_true]
 have run:(execOp a1.eval { dst:=some 27,op:=.call { callee:=.value (.tmp 24),args:= #[.tmp 25,.tmp 26],argTypes:=x },type:=ty,pos:=pos,after:=aft,guard:=none }).run prog w1=.ok (.round l fn tmps assign body) w1:=by
  have e24:a1.eval (.tmp 24)=.func (.yield l) #[] #[]:=v24;have e25:a1.eval (.tmp 25)=.int .i64 k:=v25;have e26:a1.eval (.tmp 26)=.slice (some ⟨b,o,none⟩) (2 ^ r:Nat) cap:=v26;refine Aah rfl rfl e24 ?_;rw[<-hy];simp only[List.map_toArray,Sf,List.map_nil,e25,e26]
 refine⟨fun _ _=>trivial,?_⟩;rw[show Oper.semAt (WF none).round a1.eval { dst:=some 27,op:=.call { callee:=.value (.tmp 24),args:= #[.tmp 25,.tmp 26],argTypes:=x },type:=ty,pos:=pos,after:=aft,guard:=none }=execOp a1.eval { dst:=some 27,op:=.call { callee:=.value (.tmp 24),args:= #[.tmp 25,.tmp 26],argTypes:=x },type:=ty,pos:=pos,after:=aft,guard:=none } from rfl,run];refine⟨(fun h=>by cases h),(PS hR).mono ?_⟩
 have rest:∀(e:Bool) (B:World) (Z':Nat->Prop) (q:Bool),Ug Z Z' w1 B->(Mw CB prog 63 cl (H5 (sL (sL XK))) (List.drop 4 (H5 (sL (sL XK))).toList) (A7x (.func (.yield l) #[] #[]) h seed (2 ^ r) k (Ac .u64 (Gj seed (2 ^ r) k)) e) (fun s=>Ke 63 4294967383 s fun s'=>some (0,s'))=some ((0:Nat),A56 (.func (.yield l) #[] #[]) h seed (2 ^ r) k (Ac .u64 (Gj seed (2 ^ r) k)) q)) ->
   (∀a' w' β',Cj 63 B (Ant (Adz (.func (.yield l) #[] #[]) h seed (2 ^ r) k (Ac .u64 (Gj seed (2 ^ r) k))) β2) Z' β' (lvS (.func (.yield l) #[] #[]) h seed (2 ^ r) k (Ac .u64 (Gj seed (2 ^ r) k))) a' w'->if q=true then Q .normal a' w' else Q (.exit 2) a' w') ->
   wpOpsIn (WF none) 0 prog (H5 (sL (sL XK))) (Exit.then ((sR (sL XK)).wpIn Fence.wide 0 prog Q) Q) [4,5,6,7,8] (a1.put (some 27) (.bool e)) B:=by
  intro e B Z' q ht heq hq;have h4:=Azb e TL ht;show wpOpsIn _ _ _ _ _ ([4,5,6,7,8]++[]) _ _;refine Hu (ro:=none) (C:=CB) (call:=cl) (J7 _ _) Ch ?_ [4,5,6,7,8] (List.drop 4 (H5 (sL (sL XK))).toList) (by kernel_rfl) ?_ (by kernel_rfl) h4 heq
  rotate_left
  ·intro j i hj
   match j,hj with
   |0,hj=>cases hj;rfl
   |1,hj=>cases hj;rfl
   |2,hj=>cases hj;rfl
   |3,hj=>cases hj;rfl
   |4,hj=>cases hj;rfl
  intro s' a5 w5 β5 hk5 Zx;obtain⟨β6,s6,hk6,hs6⟩:=Ck Zx hk5;cases hk6;show (sR (sL XK)).wpIn Fence.wide 0 prog Q a5 w5;cases q
  ·exact wpIn_wide.2 (D6 (J7 _ _) GT Ch hs6 ((Atj cl _ h seed k (2 ^ r) _ false).trans rfl) fun a' w' β' h'=>hq a' w' β' h')
  ·exact wpIn_wide.2 (D6 (J7 _ _) GT Ch hs6 ((Atj cl _ h seed k (2 ^ r) _ true).trans rfl) fun a' w' β' h'=>hq a' w' β' h')
 have H2:∀{B:World} {Z':Nat->Prop} {β':Bt} {s':St} {a':Act} {w':World},Ug Z Z' w1 B->∀b,Z' b->¬(Ant (Adz (.func (.yield l) #[] #[]) h seed (2 ^ r) k (Ac .u64 (Gj seed (2 ^ r) k))) β2).X b:=by
  intro B Z' _ _ _ _ ht b hz;exact (TL.rebase ht Amq).Yx b hz
 have er:List.range k++[k]=List.range (k+1):=(List.range_succ).symm
 rintro e B ⟨Z',ht,(⟨rfl,hj2⟩|⟨rfl,hj2⟩)⟩
 ·rw[er] at hj2;refine rest true B Z' (decide ((k:Int)<(h:Int))) ht (Awt cl _ h seed k (2 ^ r) _) fun a' w' β' h'=>?_;have hdd:=H2 (β':=β) (s':=s') (a':=a) (w':=w) ht;by_cases Cq:k<h
  ·rw[Bq (by simp;omega)]
   exact hgo Cq B _ Z' β' a' w' h' hdd hj2
  ·rw[A5 (by simp;omega)]
   exact Acy a' w' h'.dfr ⟨Z',List.range (k+1),.inl ⟨by rw[show k=h by omega],hJ Z' _ _ _ hj2 (h'.stay hdd)⟩⟩
 ·refine rest false B Z' false ht (Axc cl _ h seed k (2 ^ r) _) fun a' w' β' h'=>?_;have hdd:=H2 (β':=β) (s':=s') (a':=a) (w':=w) ht;rw[A5 (by simp)];exact Acy a' w' h'.dfr ⟨Z',_,.inr ⟨⟨k,er⟩,hJx Z' _ _ _ hj2 (h'.stay hdd)⟩⟩
theorem Aag(hh:h<=4){J Jx:(Nat->Prop)->Cc->World->Prop}(hJ:∀Z pre A B,J Z pre A->O7 Z A B->J Z pre B)(hJx:∀Z pre A B,Jx Z pre A->O7 Z A B->Jx Z pre B)(hY:∀Z pre x args A,J Z pre A->lvM seed h pre x args Z A->YieldAt Fence.wide 0 prog l args A fun e B=>∃Z',Ug Z Z' A B/\((e=.returned (.bool true)/\J Z' (pre++[x]) B)\/(e=.returned (.bool false)/\Jx Z' (pre++[x]) B))){Q:Exit->Act->World->Prop}(Acy:∀a' w',a'.defers=[]->(∃Z xs,(xs=List.range (h+1)/\J Z xs w')\/((∃k,xs=List.range (k+1))/\Jx Z xs w'))->Q (.exit 2) a' w'):
  ∀(r k nn:Nat),k+r=h->r<nn->∀{w0:World} {X0:Gn} {Z:Nat->Prop} {β:Bt} {a:Act} {w:World},
   Cj 63 w0 X0 Z β (lvS (.func (.yield l) #[] #[]) h seed (2 ^ r:Nat) k (Ac .u64 (Gj seed (2 ^ r) k))) a w->(∀b,Z b->¬X0.X b)->J Z (List.range k) w0->Code.roundsIn Fence.wide 0 prog XK Q nn a w
 |_,_,0,_,h=>by omega
 |r,k,nn+1,hk,hr=>by
  intro hs hd hj;rw[roundsIn_succ];refine Q5 A30 (wpIn_seq (Ayr hh hJ hJx hY hk hs hd hj ?_ fun a' w' h1 h2=>Acy a' w' h1 h2));intro Cq w2 X2 Z' β' a' w' TL hd2 hj2
  match r,hk,hr,TL with
  |0,hk,hr,TL=>omega
  |r+1,hk,hr,TL=>
   have hp:2 ^ (r+1)=2*2 ^ r:=by rw[Nat.pow_succ];omega
   have ET:2 ^ r<=8:=by
    have:2 ^ r<=2 ^ 3:=Nat.pow_le_pow_right (by omega) (by omega);omega
   rw[hp] at TL;show (Code.seq (.block 3 lvX) (sR (sR XK))).wpIn Fence.wide 0 prog _ a' w';refine wpIn_seq (wpIn_block (Q5 A14 (wpIn_seq (wpIn_wide.2 (D6 (J7 _ _) GT Ch TL (L:=215) (t:=0) (s1:=⟨lk [(0,.sc (.func (.yield l) #[] #[])),(1,.iptr [At h] 0),(2,.iptr [Af seed] 0),(4,.view 4 1 0 (2*2 ^ r)),(6,At k),(7,.view 7 1 0 (2 ^ r))],B0 [(4,.ar false (Ac .u64 (Gj seed (2*2 ^ r) k))),(7,.ar false (Ac .u64 (List.replicate (2 ^ r) 0)))]⟩) ?_ ?_)))))
   ·have w2:wrap .i64 (Int.tdiv ((2*2 ^ r:Nat):Int) 2)=((2 ^ r:Nat):Int):=by
     rw[Int.tdiv_eq_ediv_of_nonneg (by omega),Ag (by omega) (by omega)];omega
    refine (A3q cl _ h seed k (2*2 ^ r) _).trans ?_;simp(disch:=omega)only[B4,B3,H0,w2,UU]
   intro a3 w3 β3 hs3;refine wpIn_seq (wpIn_seq (wpIn_wide.2 (D6 (J7 _ _) GT Ch hs3 (A2z cl _ h seed k _ _ _ _) ?_)));intro a4 w4 β4 hs4;refine wpIn_block (wpIn_wide.2 (wp_loop_rounds 1000 (Afr (k:=k) (m:=2 ^ r) (by omega) (by omega) (2 ^ r) 0 1000 (by omega) (by omega) (by rw[Alv];exact hs4) ?_)))
   intro a5 w5 β5 Zx;show (sR (sR lvX)).wpIn Fence.wide 0 prog _ a5 w5;refine wpIn_wide.2 (D6 (J7 _ _) GT Ch Zx (A1n cl _ h seed k _ _ _ _ _ _) ?_);intro a6 w6 β6 hs6;show (sR (sR XK)).wpIn Fence.wide 0 prog _ a6 w6;refine wpIn_wide.2 (D6 (J7 _ _) GT Ch hs6 (L:=87) (t:=0) (s1:=lvS (.func (.yield l) #[] #[]) h seed (2 ^ r:Nat) ((k+1:Nat):Int) (Ac .u64 (Gj seed (2 ^ r) (k+1)))) ?_ ?_)
   ·have w1:wrap .i64 ((k:Int)+1)=((k+1:Nat):Int):=by rw[Ag (by omega) (by omega)];omega
    refine (A29 cl _ h seed k _ _).trans ?_;simp only[B4,B3,w1];rw[Ak2];rfl
   intro a7 w7 β7 hs7;exact Aag hh hJ hJx hY Acy r (k+1) nn (by omega) (by omega) hs7 hd2 hj2
end
end
section
open Go Go.RowKit
def noL:Gn:={ X:=fun _=>False,L:=fun _ _=>False,pn:=fun _=>False,pt:=fun _=>none,p8:=fun _ h=>h.elim }
theorem Cj.init{N:Nat}{W:World}{Z0:Nat->Prop}(l:List (Nat × PV))(a:Act)(hd:a.defers=[])(Kz:a.tmps.size=N)(Cq:∀q∈l,q.1<N)(hv:∀q∈l,Fc W Z0 (fun _=>none) q.2 (a.tmps.getD q.1 undef))(hr:∀q∈l,Cn q.2=[])(hZ:∀b,Z0 b->b<W.heap.size):
  Cj N W noL Z0 (fun _=>none) ⟨lk l,B0 []⟩ a W:=by
 have hA:∀b,b<W.heap.size->D2 (B0 []) (fun _=>none) Z0 b->Z0 b:=fun b _ hb=>hb.elim (fun ⟨_,_,h,_⟩=>(h:C8 none).elim) id;have Hc:C6 Z0 W W:=⟨C9 _,fun _ _ _=>rfl,fun _ _=>C9 _⟩
 refine⟨hd,Kz,fun i hi=>?_,fun i hi=>?_,fun id bx e=>(by cases e),fun id id' b o o' h=>(h:C8 none).elim,fun id b o h=>(h rfl).elim,fun i hi id B5=>?_,fun id c e=>(by cases e),fun b ⟨_,_,h,_⟩=>(h:C8 none).elim,fun id bx b o e=>(by cases e),
  fun i hi=>hi.elim,fun id c b o e=>(by cases e),fun b hz ⟨_,_,h,_⟩=>(h:C8 none).elim,hZ,⟨rfl,rfl,rfl,⟨C9 _,fun _ _ _=>rfl,fun _ _=>C9 _⟩,fun _ _ _ _=>⟨rfl,rfl⟩⟩⟩
 ·rcases Tf l i with e|⟨q,hq,h1,h2⟩
  ·exact e
  ·have:=Cq q hq;omega
 ·show Fc W (D2 (B0 []) (fun _=>none) Z0) (fun _=>none) (lk l i) _;rcases Tf l i with e|⟨q,hq,h1,h2⟩
  ·rw[e];exact Bd.top _
  ·rw[h2,<-h1];exact (hv q hq).step Hc hA fun _ _=>rfl
 ·rcases Tf l i with e|⟨q,hq,h1,h2⟩
  ·rw[show (St.mk (lk l) (B0 [])).tm i=lk l i from rfl,e] at B5;simp[Cn,C3,A9] at B5
  ·rw[show (St.mk (lk l) (B0 [])).tm i=lk l i from rfl,h2,hr q hq] at B5;cases B5
def A01(seed:Int)(h Bh Bs:Nat)(Z0:Nat->Prop)(W:World):Prop:=
 W.cell? ⟨Bh,0,none⟩=some (.int .i64 h)/\W.cell? ⟨Bs,0,none⟩=some (.int .u64 seed)/\Bh<W.heap.size/\Bs<W.heap.size/\¬Z0 Bh/\¬Z0 Bs
theorem Az2{h:Nat}(hh:h<=4):Hm .i64 1 (h:Int)=((2 ^ h:Nat):Int):=by
 have:h=0\/h=1\/h=2\/h=3\/h=4:=by omega
 rcases this with rfl|rfl|rfl|rfl|rfl<;>decide
theorem Ayv{seed:Int}{h Bh Bs:Nat}{Z0:Nat->Prop}{W:World}{yv:Value}(hP:A01 seed h Bh Bs Z0 W)(hZ:∀b,Z0 b->b<W.heap.size):
  Cj 63 W noL Z0 (fun _=>none) ⟨lk [(0,.sc yv),(1,.iptr [At h] 0),(2,.iptr [Af seed] 0)],B0 []⟩ { tmps:=(yv::Value.pointer (some ⟨Bh,0,none⟩)::Value.pointer (some ⟨Bs,0,none⟩)::List.replicate 60 undef).toArray,defers:=[] } W:=by
 obtain⟨p1,p2,p3,p4,p5,p6⟩:=hP;refine Cj.init _ _ rfl (by simp) ?_ ?_ ?_ hZ
 ·intro q hq;simp only[B6,Ie,or_false] at hq;rcases hq with rfl|rfl|rfl<;>simp
 ·intro q hq;simp only[B6,Ie,or_false] at hq;rcases hq with rfl|rfl|rfl
  ·exact Bd.sc _
  ·refine⟨⟨Bh,0,none⟩,rfl,rfl,p3,p5,fun j c hj=>?_⟩
   match j,hj with
   |0,hj=>cases hj;exact⟨_,p1,rfl,Bd.sc _⟩
  ·refine⟨⟨Bs,0,none⟩,rfl,rfl,p4,p6,fun j c hj=>?_⟩
   match j,hj with
   |0,hj=>cases hj;exact⟨_,p2,rfl,Bd.sc _⟩
 ·intro q hq;simp only[B6,Ie,or_false] at hq;rcases hq with rfl|rfl|rfl<;>rfl
theorem Axf{seed:Int}{h Bh Bs:Nat}(hh:h<=4):A06 prog 113 #[.pointer (some ⟨Bh,0,none⟩),.pointer (some ⟨Bs,0,none⟩)] (lvM seed h) (fun xs=>xs=List.range (h+1)) (fun xs=>∃k,xs=List.range (k+1)) (A01 seed h Bh Bs):=by
 intro l J Jx W Z0 hZ hP hJ hJx hY h0;obtain⟨p1,p2,p3,p4,p5,p6⟩:=hP;refine callsIn_wide.1 (callsIn_of_wp (F:=Fence.wide) (n:=0) Tryz.func113 rfl trivial ?_ rfl);show JE.wpIn _ _ _ _ _ _;have t1:(({ tmps:=(#[Value.func (.yield l) #[] #[]] ++ #[Value.pointer (some ⟨Bh,0,none⟩),Value.pointer (some ⟨Bs,0,none⟩)])++Array.replicate (Tryz.f113.ntmps-(#[Value.func (.yield l) #[] #[]] ++ #[Value.pointer (some ⟨Bh,0,none⟩),Value.pointer (some ⟨Bs,0,none⟩)]).size) undef,defers:=[] }:Act))={ tmps:=(Value.func (.yield l) #[] #[]::Value.pointer (some ⟨Bh,0,none⟩)::Value.pointer (some ⟨Bs,0,none⟩)::List.replicate 60 undef).toArray,defers:=[] }:=by kernel_rfl
 rw[t1];have i0:=Ayv (seed:=seed) (h:=h) (Z0:=Z0) (yv:=.func (.yield l) #[] #[]) ⟨p1,p2,p3,p4,p5,p6⟩ hZ;generalize ({ tmps:=(Value.func (.yield l) #[] #[]::Value.pointer (some ⟨Bh,0,none⟩)::Value.pointer (some ⟨Bs,0,none⟩)::List.replicate 60 undef).toArray,defers:=[] }:Act)=a0 at i0 ⊢
 have ET:2 ^ h<=16:=by
  have:2 ^ h<=2 ^ 4:=Nat.pow_le_pow_right (by omega) hh;omega
 refine Q5 A2b (wpIn_seq (wpIn_wide.2 (D6 (J7 _ _) GT Ch i0 (L:=23) (t:=0)
  (s1:=⟨lk [(0,.sc (.func (.yield l) #[] #[])),(1,.iptr [At h] 0),(2,.iptr [Af seed] 0),(4,.view 4 1 0 (2 ^ h))],B0 [(4,.ar false (Ac .u64 (List.replicate (2 ^ h) 0)))]⟩) ?_ ?_)))
 ·refine (A22 cl _ h seed).trans ?_;have e1:=Az2 hh;have e2:(0:Int)<=h:=by omega
  generalize 2 ^ h=n at ET e1 ⊢;simp(disch:=omega)only[B4,B3,e1,H0,UU]
 intro a1 w1 β1 h1;refine wpIn_seq (wpIn_seq (wpIn_wide.2 (D6 (J7 _ _) GT Ch h1 (A4c cl _ h seed _ _) ?_)));intro a2 w2 β2 h2;refine wpIn_block (wpIn_wide.2 (wp_loop_rounds 1000 (Af7 (n:=2 ^ h) (by omega) (2 ^ h) 0 1000 (by omega) (by omega) (by rw[Alv];exact h2) ?_)))
 intro a3 w3 β3 h3;show (Code.seq (sL (sR (sR JE))) (.block 2 (.loop XK))).wpIn Fence.wide 0 prog _ a3 w3;refine wpIn_seq (wpIn_wide.2 (D6 (J7 _ _) GT Ch h3 (L:=87) (t:=0) (s1:=lvS (.func (.yield l) #[] #[]) h seed (2 ^ h:Nat) ((0:Nat):Int) (Ac .u64 (Gj seed (2 ^ h) 0))) ?_ ?_))
 ·refine (A25 cl _ h seed _ _ _ _).trans ?_;rw[Ak2];rfl
 intro a4 w4 β4 h4;refine wpIn_block (wpIn_loop_rounds 1000 (Aag hh hJ hJx hY ?_ h 0 1000 (by omega) (by omega) h4 (fun b _ hb=>hb) h0));intro a5 w5 h5 h6;exact⟨h5,_,results_none rfl _ _ _,⟨_,rfl⟩,h6⟩
end
section
open Go Go.RowKit
theorem Cj.make{N:Nat}{W:World}{Y:Nat->Prop}{β:Bt}(l:List (Nat × PV))(bl:List (Nat × Cb))(a:Act)(pn:Nat->Prop)(p8:∀i,pn i->i<8)(hd:a.defers=[])(Kz:a.tmps.size=N)(Cq:∀q∈l,q.1<N)(hv:∀q∈l,Fc W (D2 (B0 bl) β Y) β q.2 (a.tmps.getD q.1 undef))(hb:∀id bx,B0 bl id=some bx->Yi W (D2 (B0 bl) β Y) β id bx)(inj:∀id id' b o o',C8 (B0 bl id)->C8 (B0 bl id')->β id=some (b,o)->β id'=some (b,o')->id=id')(blt:∀id b o,B0 bl id≠none->β id=some (b,o)->b<W.heap.size)(wfT:∀q∈l,∀id∈Cn q.2,B0 bl id≠none)(wfB:∀id cells,B0 bl id=some (.st cells)->∀c∈cells,∀i∈A9 c,B0 bl i≠none)(DX:∀i,pn i->B0 bl (Ec N i)≠none)(stp:∀id c,B0 bl id=some (.st c)->∃i,id=Ec N i/\pn i)(Yx:∀b,Y b->¬GY (B0 bl) β b)(Ylt:∀b,Y b->b<W.heap.size):
  Cj N W { X:=GY (B0 bl) β,L:=fun b _=>GY (B0 bl) β b,pn:=pn,pt:=fun i=>β (Ec N i),p8:=p8 } Y β ⟨lk l,B0 bl⟩ a W:=by
 refine⟨hd,Kz,fun i hi=>?_,fun i hi=>?_,hb,inj,blt,fun i hi id B5=>?_,wfB,fun b hb=>.inl hb,fun id bx b o h1 h2 h3 _ j _=>⟨id,o,by rw[show B0 bl id=some bx from h1];exact h2,h3⟩,fun i hi=>⟨DX i hi,rfl⟩,
  fun id c b o h1 _ _=>stp id c h1,Yx,Ylt,⟨rfl,rfl,rfl,⟨C9 _,fun _ _ _=>rfl,fun _ _=>C9 _⟩,fun _ _ _ _=>⟨rfl,rfl⟩⟩⟩
 ·rcases Tf l i with e|⟨q,hq,h1,h2⟩
  ·exact e
  ·have:=Cq q hq;omega
 ·show Fc W _ β (lk l i) _;rcases Tf l i with e|⟨q,hq,h1,h2⟩
  ·rw[e];exact Bd.top _
  ·rw[h2,<-h1];exact hv q hq
 ·rcases Tf l i with e|⟨q,hq,h1,h2⟩
  ·rw[show (St.mk (lk l) (B0 bl)).tm i=lk l i from rfl,e] at B5;simp[Cn,C3,A9] at B5
  ·rw[show (St.mk (lk l) (B0 bl)).tm i=lk l i from rfl,h2] at B5;exact wfT q hq id B5
def A5u(lo e0:Nat)(A:World)(pv:Value)(l:Ca):Prop:=
 (l=[]/\∃ad,pv=.slice ad 0 0)\/∃pb po cap,0<cap/\pv=.slice (some ⟨pb,po,none⟩) l.length cap/\l.length<=cap/\po+cap<=bsz A pb/\pb<A.heap.size/\(lo<=pb\/pb=e0)/\(∀(j:Nat) x,l[j]?=some x->A.cell? ⟨pb,po+j,none⟩=some (.int .u64 x))/\∀j,po<=j->j<bsz A pb->A.frozen? ⟨pb,j,none⟩=false
theorem frozen?_of_block{A B:World}{b j:Nat}(h:B.heap[b]?=A.heap[b]?):B.frozen? ⟨b,j,none⟩=A.frozen? ⟨b,j,none⟩:=by unfold World.frozen?;simp only[h]
structure OB(wS:World)(D:Nat)(seed leaf:Int)(h b10 o10 e0:Nat)(chv:Value)(Z:Nat->Prop)(pre:Cc)(A:World):Prop where
 os:A.os=wS.os
 tape:A.tape=wS.tape
 output:A.output=wS.output
 size:D+2<=A.heap.size
 zlo:∀b,b<wS.heap.size->Z b
 zlt:∀b,Z b->b<A.heap.size
 keep:∀b,b<wS.heap.size->b≠b10->b≠e0->A.heap[b]?=wS.heap[b]?
 bs:bsz wS b10<=bsz A b10
 c0:A.cell? ⟨b10,o10,none⟩=some (.int .i64 leaf)
 c1:A.cell? ⟨b10,o10+1,none⟩=some chv
 fz:∀k,k<3->A.frozen? ⟨b10,o10+k,none⟩=false
 lt:∀x∈pre,x<h
 path:∃pv,A.cell? ⟨b10,o10+2,none⟩=some pv/\A5u (D+2) e0 A pv (pre.map fun k=>Cs seed k (H3 leaf k))/\∀pb po n cap,0<cap->pv=.slice (some ⟨pb,po,none⟩) n cap->Z pb
abbrev Aki:Code:=sF (sB (sR (sL (sR (sR (sR TH))))))
abbrev A48(h leaf:Int)(x:Nat)(n:Nat)(c:Ab):List (Nat × PV):=[(5,.iptr [At h] 0),(6,.iptr [At leaf] 0),(10,.ptr 96000 0),(11,At x),(12,.lst false 1 n c)]
abbrev XP(leaf:Int)(ch:Value)(m:Nat)(d:Ab):List (Nat × Cb):=[(96000,.st [At leaf,.sc ch,.view 20 1 0 m]),(20,.ar false d)]
structure A75(wS:World)(b5 o5 b6 o6 b10 o10:Nat)(args:Array Value)(a:Act):Prop where
 dfr:a.defers=[]
 size:a.tmps.size=48
 t5:a.tmps.getD 5 undef=.pointer (some ⟨b5,o5,none⟩)
 t6:a.tmps.getD 6 undef=.pointer (some ⟨b6,o6,none⟩)
 t10:a.tmps.getD 10 undef=.pointer (some ⟨b10,o10,none⟩)
 t11:a.tmps.getD 11 undef=args.getD 0 undef
 t12:a.tmps.getD 12 undef=args.getD 1 undef
theorem Atg{wS:World}{D:Nat}{seed leaf:Int}{h b5 o5 b6 o6 b10 o10 e0:Nat}{chv:Value}{Z:Nat->Prop}{pre:Cc}{A:World}(hI:OB wS D seed leaf h b10 o10 e0 chv Z pre A){x:Nat}{args:Array Value}(hM:lvM seed h pre x args Z A){a:Act}(ha:A75 wS b5 o5 b6 o6 b10 o10 args a)(h5:wS.cell? ⟨b5,o5,none⟩=some (.int .i64 h))(h6:wS.cell? ⟨b6,o6,none⟩=some (.int .i64 leaf))(l5:b5<wS.heap.size)(l6:b6<wS.heap.size)(l10:b10<wS.heap.size)(n5:b5≠b10)(n6:b6≠b10)(m5:b5≠e0)(m6:b6≠e0)(m10:b10≠e0)(hD:wS.heap.size<=D):
  ∃β X0,X0.pt 0=some (b10,o10)/\X0.pn 0/\(∀b,X0.X b->Z b/\(b=b10\/D+2<=b\/b=e0)) /\
   Cj 48 A X0 (fun _=>False) β ⟨lk (A48 h leaf x (2 ^ (h-x)) (Ac .u64 (Gj seed (2 ^ (h-x)) x))),B0 (XP leaf chv pre.length (Ac .u64 (pre.map fun k=>Cs seed k (H3 leaf k))))⟩ a A:=by
 obtain⟨hx,_,b,o,cap,Fz,RH,IC,hbz,hcell⟩:=hM;obtain⟨pv,IZ,H2,hpz⟩:=hI.path
 obtain⟨q,hq⟩:∃q:Option (Nat × Nat),(q=none/\pre=[]/\∃ad,pv=.slice ad 0 0)\/∃pb po cap,q=some (pb,po)/\pv=.slice (some ⟨pb,po,none⟩) pre.length cap/\pre.length<=cap/\po+cap<=bsz A pb/\pb<A.heap.size/\(D+2<=pb\/pb=e0)/\Z pb/\(∀(j:Nat) y,(pre.map fun k=>Cs seed k (H3 leaf k))[j]?=some y->A.cell? ⟨pb,po+j,none⟩=some (.int .u64 y))/\∀j,po<=j->j<bsz A pb->A.frozen? ⟨pb,j,none⟩=false:=by
  rcases H2 with⟨h1,h2⟩|⟨pb,po,cap,h0,h1,h2,h3,h4,h5,h6,h7⟩
  ·exact⟨none,.inl ⟨rfl,by simpa using h1,h2⟩⟩
  ·rw[List.length_map] at h1 h2;exact⟨some (pb,po),.inr ⟨pb,po,cap,rfl,h1,h2,h3,h4,h5,hpz _ _ _ _ h0 h1,h6,h7⟩⟩
 obtain⟨β,hβ⟩:∃β:Bt,β=fun id=>if id=96000 then some (b10,o10) else if id=20 then q else none:=⟨_,rfl⟩
 have e1:β 96000=some (b10,o10):=by rw[hβ];rfl
 have e2:β 20=q:=by rw[hβ];rfl
 obtain⟨d,hd⟩:∃d,Ac .u64 (pre.map fun k=>Cs seed k (H3 leaf k))=d:=⟨_,rfl⟩
 have hdl:d.length=pre.length:=by rw[<-hd,Am,List.length_map]
 rw[hd]
 have Zk:∀id bx,B0 (XP leaf chv pre.length d) id=some bx->(id=96000/\bx=.st [At leaf,.sc chv,.view 20 1 0 pre.length])\/(id=20/\bx=.ar false d):=by
  intro id bx e;rcases Vf (XP leaf chv pre.length d) id with h1|⟨p,hp,h1,h2⟩
  ·rw[h1] at e;cases e
  ·rw[h2] at e;cases e;simp only[B6,Ie,or_false] at hp;rcases hp with rfl|rfl
   ·exact .inl ⟨h1.symm,rfl⟩
   ·exact .inr ⟨h1.symm,rfl⟩
 have hX:∀b,GY (B0 (XP leaf chv pre.length d)) β b->b=b10\/∃po,q=some (b,po):=by
  rintro b' ⟨id,o',hl,hb⟩
  cases hh:B0 (XP leaf chv pre.length d) id with
  |none=>rw[hh] at hl;exact hl.elim
  |some bx=>
   rcases Zk id bx hh with⟨rfl,_⟩|⟨rfl,_⟩
   ·rw[e1] at hb;cases hb;exact .inl rfl
   ·rw[e2] at hb;exact .inr ⟨o',hb⟩
 have hqz:∀b' po,q=some (b',po)->Z b'/\(D+2<=b'\/b'=e0)/\b'<A.heap.size:=by
  intro b' po e;rcases hq with⟨h1,_⟩|⟨pb,po',cap',h1,h2,h3,h4,h5,h6,h7,h8,h9⟩
  ·rw[h1] at e;cases e
  ·rw[h1] at e;cases e;exact⟨h7,h6,h5⟩
 have A6z:∀b',b'<wS.heap.size->b'≠b10->b'≠e0->¬D2 (B0 (XP leaf chv pre.length d)) β (fun _=>False) b':=by
  rintro b' hb Gz Bbr (hx|hf)
  ·rcases hX b' hx with h1|⟨po,h1⟩
   ·exact Gz h1
   ·rcases (hqz _ _ h1).2.1 with h2|h2
    ·omega
    ·exact Bbr h2
  ·exact hf
 have Kz:wS.heap.size<A.heap.size:=by have:=hI.size;omega
 refine⟨β,_,e1,rfl,?_,Cj.make (A48 h leaf x (2 ^ (h-x)) (Ac .u64 (Gj seed (2 ^ (h-x)) x))) (XP leaf chv pre.length d) a (fun i=>i=0) (fun i hi=>by omega) ha.dfr ha.size ?_ ?_ ?_ ?_ ?_ ?_ ?_ ?_ ?_ (fun _ h=>h.elim) (fun _ h=>h.elim)⟩
 ·intro b' hb;rcases hX b' hb with rfl|⟨po,h1⟩
  ·exact⟨hI.zlo _ l10,.inl rfl⟩
  ·exact⟨(hqz _ _ h1).1,.inr (hqz _ _ h1).2.1⟩
 ·intro p hp;simp only[B6,Ie,or_false] at hp;rcases hp with rfl|rfl|rfl|rfl|rfl<;>simp
 ·intro p hp;simp only[B6,Ie,or_false] at hp;rcases hp with rfl|rfl|rfl|rfl|rfl
  ·refine⟨⟨b5,o5,none⟩,ha.t5,rfl,by show b5<_;omega,A6z b5 l5 n5 m5,fun j c hj=>?_⟩
   match j,hj with
   |0,hj=>cases hj;exact⟨_,(World.cell?_of_block (a:=⟨b5,o5,none⟩) (hI.keep b5 l5 n5 m5)).trans h5,rfl,Bd.sc _⟩
  ·refine⟨⟨b6,o6,none⟩,ha.t6,rfl,by show b6<_;omega,A6z b6 l6 n6 m6,fun j c hj=>?_⟩
   match j,hj with
   |0,hj=>cases hj;exact⟨_,(World.cell?_of_block (a:=⟨b6,o6,none⟩) (hI.keep b6 l6 n6 m6)).trans h6,rfl,Bd.sc _⟩
  ·exact⟨b10,o10,e1,ha.t10⟩
  ·show Fc _ _ _ (At x) (a.tmps.getD 11 undef);rw[ha.t11,Fz];exact Bd.sc _
  ·show Fc _ _ _ (.lst false 1 _ _) (a.tmps.getD 12 undef);rw[ha.t12,Fz];refine Bd.lst 1 _ _ ⟨b,o,none⟩ cap (fun j=>.int .u64 (Cs seed x j)) rfl IC ?_ RH ?_ (fun _ _ _=>rfl) ?_
   ·rintro (Zj|hf)
    ·rcases hX b Zj with h1|⟨po,h1⟩
     ·exact hbz (h1 ▸ hI.zlo _ l10)
     ·exact hbz (hqz _ _ h1).1
    ·exact hf
   ·intro j c hj;rw[Fy];have Cq:j<(Ac .u64 (Gj seed (2 ^ (h-x)) x)).length:=(List.getElem?_eq_some_iff.1 hj).1;rw[Am,VL] at Cq;exact hcell j Cq
   ·intro j c hj;have Cq:j<(Ac .u64 (Gj seed (2 ^ (h-x)) x)).length:=(List.getElem?_eq_some_iff.1 hj).1;rw[Am,VL] at Cq;rw[Qy (Yh seed Cq)] at hj;cases hj;exact Bd.sc _
 ·intro id bx e;rcases Zk id bx e with⟨rfl,rfl⟩|⟨rfl,rfl⟩
  ·refine⟨b10,o10,e1,fun j c hj=>?_,fun j hj=>hI.fz j hj⟩
   match j,hj with
   |0,hj=>cases hj;exact⟨_,hI.c0,Bd.sc _⟩
   |1,hj=>cases hj;exact⟨_,hI.c1,Bd.sc _⟩
   |2,hj=>
    cases hj;refine⟨_,IZ,?_⟩;rcases hq with⟨h1,h2,h3⟩|⟨pb,po,cap',h1,h2,h3,h4,h5,h6,h7,h8,h9⟩
    ·exact .inl ⟨e2.trans h1,rfl,by rw[h2];rfl,h3⟩
    ·exact .inr ⟨pb,po,po,cap',e2.trans h1,h2,.inl rfl,h3,by omega,h5⟩
  ·rcases hq with⟨h1,h2,h3⟩|⟨pb,po,cap',h1,h2,h3,h4,h5,h6,h7,h8,h9⟩
   ·exact .inl ⟨e2.trans h1,by rw[<-hd,h2];rfl⟩
   ·refine .inr ⟨pb,po,e2.trans h1,fun j c hj=>?_,fun _=>h9,fun h=>by cases h⟩;have Cq:j<d.length:=(List.getElem?_eq_some_iff.1 hj).1;have Agx:j<(pre.map fun k=>Cs seed k (H3 leaf k)).length:=by rw[List.length_map];omega
    rw[<-hd,Qy (List.getElem?_eq_getElem Agx)] at hj;cases hj;rw[Fy];exact⟨_,h8 j _ (List.getElem?_eq_getElem Agx),rfl,Bd.sc _⟩
 ·intro id id' b1 o1 o2 g1 g2 g3 g4
  have B5:∀i,C8 (B0 (XP leaf chv pre.length d) i)->i=96000\/i=20:=by
   intro i hi;cases hh:B0 (XP leaf chv pre.length d) i with
   |none=>rw[hh] at hi;exact hi.elim
   |some bx=>exact (Zk i bx hh).imp (·.1) (·.1)
  have Gz:∀po po',β 96000=some (b1,po)->β 20=some (b1,po')->False:=by
   intro po po' f1 f2;rw[e1] at f1;rw[e2] at f2;cases f1;rcases (hqz _ _ f2).2.1 with h2|h2
   ·omega
   ·exact m10 h2
  rcases B5 id g1 with rfl|rfl<;>rcases B5 id' g2 with rfl|rfl
  ·rfl
  ·exact (Gz _ _ g3 g4).elim
  ·exact (Gz _ _ g4 g3).elim
  ·rfl
 ·intro id b1 o1 g1 g2;cases hh:B0 (XP leaf chv pre.length d) id with
  |none=>exact absurd hh g1
  |some bx=>
   rcases Zk id bx hh with⟨rfl,_⟩|⟨rfl,_⟩
   ·rw[e1] at g2;cases g2;omega
   ·rw[e2] at g2;exact (hqz _ _ g2).2.2
 ·intro p hp id B5;simp only[B6,Ie,or_false] at hp;rcases hp with rfl|rfl|rfl|rfl|rfl<;>simp[Cn,C3,A9] at B5
  subst B5;simp[B0]
 ·intro id cells e c hc i hi;rcases Zk id _ e with⟨rfl,e'⟩|⟨rfl,e'⟩
  ·cases e';simp only[B6,Ie,or_false] at hc;rcases hc with rfl|rfl|rfl<;>simp[A9] at hi
   subst hi;exact fun h0:some (Cb.ar false d)=none=>by cases h0
  ·cases e'
 ·intro i hi;subst hi;simp[B0,Ec]
 ·intro id c e;rcases Zk id _ e with⟨rfl,e'⟩|⟨rfl,e'⟩
  ·exact⟨0,rfl,rfl⟩
  ·cases e'
end
section
open Go Go.RowKit
theorem An1:∀h:Nat,h<5->∀k:Nat,k<h->∀n:Nat,n<16->n<2 ^ h->0<=H3 (n:Int) k/\H3 (n:Int) k<((2 ^ (h-k):Nat):Int):=by decide +kernel
theorem Ams{wS:World}{D:Nat}{seed leaf:Int}{h b10 o10 e0:Nat}{chv:Value}{Z:Nat->Prop}{pre pre':Cc}{A w':World}(hI:OB wS D seed leaf h b10 o10 e0 chv Z pre A){β':Bt}{X0:Gn}{a':Act}{m:Nat}{d:Ab}(hx1:X0.pt 0=some (b10,o10))(hx2:X0.pn 0)(hX:∀b,X0.X b->Z b/\(b=b10\/D+2<=b\/b=e0))(nD:D≠e0)(nD1:D+1≠e0)(l10:b10<wS.heap.size)(hD:wS.heap.size<=D)(hs:Cj 48 A X0 (fun _=>False) β' ⟨lk [(10,.ptr 96000 0)],B0 [(96000,.st [At leaf,.sc chv,.view 96144 1 0 m]),(96144,.ar false d)]⟩ a' w')(hm:m=pre'.length)(hd:d=Ac .u64 (pre'.map fun k=>Cs seed k (H3 leaf k)))(Cq:∀x∈pre',x<h)(hZD:Z D)(Ax8:Z (D+1)):
  Ug Z (fun b=>Z b\/(A.heap.size<=b/\b<w'.heap.size)) A w'/\w'.heap[D]?=A.heap[D]?/\w'.heap[D+1]?=A.heap[D+1]?/\OB wS D seed leaf h b10 o10 e0 chv (fun b=>Z b\/(A.heap.size<=b/\b<w'.heap.size)) pre' w':=by
 have Kz:=hI.size;have Hc:=hs.fr.step
 have same:∀b,b<A.heap.size->b≠b10->b≠e0->b<D+2->w'.heap[b]?=A.heap[b]?:=fun b hb hn SE hl=>Hc.keep b hb fun hx=>by
  rcases (hX b hx).2 with h1|h1|h1
  ·exact hn h1
  ·omega
  ·exact SE h1
 have hp:β' 96000=some (b10,o10):=(hs.pin 0 hx2).2.trans hx1;obtain⟨b,o,g1,g2,g3⟩:=(show ∃b o,β' 96000=some (b,o)/\_/\_ from hs.box 96000 _ (rfl:_=some (Cb.st [At leaf,.sc chv,.view 96144 1 0 m])))
 rw[hp] at g1;cases g1;obtain⟨v0,q0,r0⟩:=g2 0 _ rfl;obtain⟨v1,q1,r1⟩:=g2 1 _ rfl;obtain⟨v2,q2,r2⟩:=g2 2 _ rfl;have r0:=Bd.val r0;have r1:=Bd.val r1;subst r0 r1;have Qm:=hs.box 96144 _ (rfl:_=some (Cb.ar false d))
 have Gz:∀pb po,β' 96144=some (pb,po)->pb≠b10/\(Z pb\/(A.heap.size<=pb/\pb<w'.heap.size))/\(D+2<=pb\/pb=e0)/\pb<w'.heap.size:=by
  intro pb po e;have Cq:pb<w'.heap.size:=hs.blt 96144 pb po (fun h0:some (Cb.ar false d)=none=>by cases h0) e
  have hn:pb≠b10:=by
   intro e';subst e';have:=hs.inj 96000 96144 pb o10 po trivial trivial hp e;cases this
  rcases hs.ownd pb ⟨96144,po,trivial,e⟩ with h1|h1
  ·have h2:=hX pb h1;rcases h2.2 with h3|h3
   ·exact absurd h3 hn
   ·exact⟨hn,.inl h2.1,h3,Cq⟩
  ·exact⟨hn,.inr ⟨h1,Cq⟩,.inl (by omega),Cq⟩
 refine⟨⟨hs.fr.os,hs.fr.tape,hs.fr.output,Hc.size,fun b hb hn=>Hc.keep b hb fun hx=>hn (hX b hx).1,fun b hb=>.inl hb,fun b hb=>hb.imp (fun x=>x) (·.1),fun b hb=>hb.elim (fun h1=>Jm (hI.zlt b h1) Hc.size) (·.2),Hc.bs⟩,
  same D (hI.zlt D hZD) (by omega) nD (by omega),same (D+1) (hI.zlt _ Ax8) (by omega) nD1 (by omega),?_⟩
 refine⟨hs.fr.os.trans hI.os,hs.fr.tape.trans hI.tape,hs.fr.output.trans hI.output,by have:=Hc.size;omega,fun b hb=>.inl (hI.zlo b hb),fun b hb=>hb.elim (fun h1=>Jm (hI.zlt b h1) Hc.size) (·.2),fun b hb hn SE=>(same b (by omega) hn SE (by omega)).trans (hI.keep b hb hn SE),Nat.le_trans hI.bs (Hc.bs b10 (by omega)),q0,q1,fun k hk=>g3 k hk,Cq,v2,q2,?_,?_⟩
 ·rcases r2 with⟨f1,_,f3,f4⟩|⟨pb,po,xx,cap,f1,f2,f3,f4,f5,f6⟩
  ·have:pre'=[]:=List.length_eq_zero_iff.1 (by omega);exact .inl ⟨by rw[this];rfl,f4⟩
  ·rcases Qm with⟨e1,_⟩|⟨pb',po',e1,e2,e3,_⟩
   ·rw[f1] at e1;cases e1
   ·rw[f1] at e1;cases e1;have hxx:xx=po:=by omega
    subst hxx;rcases Nat.eq_zero_or_pos cap with q0|q0
    ·subst q0;have:pre'=[]:=List.length_eq_zero_iff.1 (by omega);have h0:m=0:=by omega
     exact .inl ⟨by rw[this];rfl,_,by rw[f2,h0]⟩
    refine .inr ⟨pb,xx,cap,q0,by rw[f2,List.length_map,hm],by rw[List.length_map];omega,by omega,f6,(Gz pb xx f1).2.2.1,fun j y hj=>?_,fun j hj hjb=>e3 rfl j hj hjb⟩
    obtain⟨v,h1,_,h3⟩:=e2 j (Af y) (by rw[hd];exact Qy hj)
    rw[Fy] at h1;rw[h1,Bd.val h3]
 ·intro pb po n cap hc0 e;rcases r2 with⟨f1,_,f3,ad,f4⟩|⟨pb',po',xx,cap',f1,f2,f3,f4,f5,f6⟩
  ·rw[f4] at e;cases e;omega
  ·rw[f2] at e;cases e;exact (Gz pb po' f1).2.1
def A2e(wS:World)(D:Nat)(seed leaf:Int)(h b10 o10 e0:Nat)(chv:Value)(c:Code)(Z:Nat->Prop)(xs:Cc)(B:World):Prop:=c=.exit 0/\∃pre,xs=pre++[h]/\OB wS D seed leaf h b10 o10 e0 chv Z pre B
theorem Au3{wS:World}{D:Nat}{seed leaf:Int}{h b5 o5 b6 o6 b10 o10 e0:Nat}{chv:Value}{Z:Nat->Prop}{pre:Cc}{A:World}(hh:h<=4)(Zk:0<=leaf)(MQ:leaf<((2 ^ h:Nat):Int))(hI:OB wS D seed leaf h b10 o10 e0 chv Z pre A){x:Nat}{args:Array Value}(hM:lvM seed h pre x args Z A){a:Act}(ha:A75 wS b5 o5 b6 o6 b10 o10 args a)(h5:wS.cell? ⟨b5,o5,none⟩=some (.int .i64 h))(h6:wS.cell? ⟨b6,o6,none⟩=some (.int .i64 leaf))(l5:b5<wS.heap.size)(l6:b6<wS.heap.size)(l10:b10<wS.heap.size)(n5:b5≠b10)(n6:b6≠b10)(m5:b5≠e0)(m6:b6≠e0)(m10:b10≠e0)(nD:D≠e0)(nD1:D+1≠e0)(hD:wS.heap.size<=D)(hZD:Z D)(Ax8:Z (D+1)):
  Aki.wpIn (WF (some (D+1))) 0 prog (MX D (OB wS D seed leaf h b10 o10 e0 chv) (A2e wS D seed leaf h b10 o10 e0 chv) Z (pre++[x]) A) a A:=by
 obtain⟨β,X0,hx1,hx2,hX,hs⟩:=Atg hI hM ha h5 h6 l5 l6 l10 n5 n6 m5 m6 m10 hD;have hx:=hM.1;have RE:pre.length<=1000:=by rw[hM.2.1,List.length_range];omega
 have HR:∀a w,¬MX D (OB wS D seed leaf h b10 o10 e0 chv) (A2e wS D seed leaf h b10 o10 e0 chv) Z (pre++[x]) A .outgrown a w:=fun a w ⟨_,_,_,_,hf⟩=>hf;by_cases hxh:x=h
 ·subst hxh;refine JC (J7 _ _) GT Ch (by kernel_rfl) HR hs (t:=1) (L:=1024) (s1:=⟨lk [(10,.ptr 96000 0)],B0 [(96000,.st [At leaf,.sc chv,.view 96144 1 0 pre.length]),(96144,.ar false (Ac .u64 (pre.map fun k=>Cs seed k (H3 leaf k))))]⟩) ?_ ?_
  ·refine (Aq7 cl x leaf x chv _ _ _ _).trans ?_;rw[show ((x:Int)==(x:Int))=true from beq_self_eq_true _];rfl
  ·intro a' w' β' hs';obtain⟨k1,k2,k3,k4⟩:=Ams hI hx1 hx2 hX nD nD1 l10 hD hs' rfl rfl hI.lt hZD Ax8;exact⟨_,k1,k2,k3,rfl,pre,rfl,k4⟩
 ·have Cq:x<h:=by omega
  obtain⟨n,rfl⟩:∃n:Nat,leaf=n:=⟨leaf.toNat,by omega⟩
  have h16:2 ^ h<=16:=by
   have:2 ^ h<=2 ^ 4:=Nat.pow_le_pow_right (by omega) hh;omega
  have sb:=An1 h (by omega) x Cq n (by omega) (by omega);have es:Fi .i64 (F2 .i64 (n:Int) (x:Int)) 1=H3 n x:=rfl;obtain⟨y,hy⟩:∃y:Nat,H3 n x=y:=⟨(H3 n x).toNat,by omega⟩
  have at1:(Ac .u64 (Gj seed (2 ^ (h-x)) x)).getD y .top=Af (Cs seed x (H3 n x)):=by
   rw[hy] at sb ⊢;exact Vg (Yh seed (by omega))
  have L:(Ac .u64 (pre.map fun k=>Cs seed k (H3 n k))).length=pre.length:=by rw[Am,List.length_map]
  have T:List.take pre.length (Ac .u64 (pre.map fun k=>Cs seed k (H3 n k)))=Ac .u64 (pre.map fun k=>Cs seed k (H3 n k)):=Gv (by omega)
  have bq:((x:Int)==(h:Int))=false:=by
   rw[beq_eq_false_iff_ne];omega
  refine JC (J7 _ _) GT Ch (by kernel_rfl) HR hs (t:=0) (L:=1024) (s1:=⟨lk [(10,.ptr 96000 0)],B0 [(96000,.st [At n,.sc chv,.view 96144 1 0 (pre.length+1)]),(96144,.ar false (Ac .u64 (pre.map fun k=>Cs seed k (H3 n k))++[Af (Cs seed x (H3 n x))]))]⟩) ?_ ?_
  ·refine (Aq7 cl h n x chv _ _ _ _).trans ?_;rw[bq];have t0:(0:Int)<=x:=by omega
   have t1:(0:Int)<=y:=by omega
   have t2:(y:Int)<((2 ^ (h-x):Nat):Int):=by omega
   have SE:((pre.length+1)*8<=1099511627776):=by omega
   generalize 2 ^ (h-x)=nn at *
   simp(disch:=omega)only[B4,B3,es,hy,at1,L,T,H0,Df]
  ·intro a' w' β' hs'
   obtain⟨k1,k2,k3,k4⟩:=Ams (pre':=pre++[x]) hI hx1 hx2 hX nD nD1 l10 hD hs' (by simp) (by simp) (by
    intro z hz;rcases Bz.1 hz with h1|h1
    ·exact hI.lt z h1
    ·rw[Mv.1 h1];exact Cq) hZD Ax8
   exact⟨_,k1,k2,k3,k4⟩
end
section
open Go Go.RowKit Go.Shelf
set_option maxHeartbeats 2000000 in
theorem Ayz(seed h:Int)(n:Nat)(w:World):CallsIn Fence.wide n prog 70 #[.int .u64 seed,.int .i64 h] w fun e w'=>
  e=.returned (.func (.func 113) #[] #[.pointer (some ⟨w.heap.size+1,0,none⟩),.pointer (some ⟨w.heap.size,0,none⟩)])/\w'=(w.alloc (.cells #[.int .u64 seed] 37)).alloc (.cells #[.int .i64 h] 3):=by
 refine callsIn_of_wp Tryz.func70 rfl trivial ?_ rfl;simp only[Tryz.ntmps70,List.size_toArray,G7,Vx,Nat.reduceAdd,Nat.reduceSub,Array.replicate_succ,Array.replicate_zero,List.push_toArray,List.append_toArray,SR,Zzp]
 gi_wp2
 go_ret
 exact⟨rfl,rfl⟩
end
section
open Go Go.RowKit
theorem A4g{G:Zg}{P:Program}{f:FuncId}{v0 v1 v2 v3:Value}{vals:Ab}(hf:∃fn,P.funcs[f]?=some fn/\fn.body.isSome=true)(h:∀(w:World)(Y:Nat->Prop),(∀b,Y b->b<w.heap.size)->Calls P f #[v0,v1,v2,v3] w fun e w'=>∃vs own,e=.returned (Nj vs)/\Out w w' Y CK [.sc v0,.sc v1,.sc v2,.sc v3] own ⟨vals,[]⟩ vs):Do G P f [.sc v0,.sc v1,.sc v2,.sc v3] ⟨vals,[]⟩:=by
 refine⟨hf,fun w Y bt us EN _ _=>?_⟩
 have hus:us=[v0,v1,v2,v3]:=by
  have ha:=EN.args
  match us,ha with
  |[u0,u1,u2,u3],⟨h0,h1,h2,h3,_⟩=>
   rw[Bd.val h0.2,Bd.val h1.2,Bd.val h2.2,Bd.val h3.2]
 subst hus
 have hl:∀i q,bt i 0≠some q:=by
  intro i q e;obtain⟨p,h1,h2⟩:=EN.l0 i q e
  match i,h1 with
  |0,h1=>cases h1;cases h2
  |1,h1=>cases h1;cases h2
  |2,h1=>cases h1;cases h2
  |3,h1=>cases h1;cases h2
 refine (h w Y EN.Ylt).mono ?_
 rintro e w' ⟨vs,own,rfl,ho⟩
 have hA:VV bt own Y=VV CK own Y:=by
  funext b
  apply propext;constructor
  ·rintro (h1|⟨i,o,h1⟩|h1)
   ·exact .inl h1
   ·exact absurd h1 (hl i _)
   ·exact .inr (.inr h1)
  ·rintro (h1|⟨i,o,h1⟩|h1)
   ·exact .inl h1
   ·cases h1
   ·exact .inr (.inr h1)
 refine⟨vs,own,rfl,ho.os,ho.tape,ho.output,ho.ext.weaken (fun b _ hb=>absurd hb (Sx b)),fun b j hb _=>ho.rng b j hb ?_,by rw[hA];exact ho.vals,rfl,fun j b o hj=>⟨(ho.fresh j b o hj).1,fun Cq=>?_⟩,ho.inj⟩
 ·rintro⟨i,p,_,⟨k,o,h1,_⟩|⟨o,ps,h1,_⟩⟩
  ·cases h1
  ·cases h1
 ·obtain⟨⟨i,k,o',h1⟩,_⟩:=(ho.fresh j b o hj).2 Cq;cases h1
theorem Cj.unbase{N:Nat}{we B w':World}{X XB:Gn}{Y YB:Nat->Prop}{β:Bt}{s:St}{a:Act}(h:Cj N B XB YB β s a w')(hY:∀b,Y b->YB b)(A3j:∀b,Y b->b<we.heap.size)(H2:∀b,XB.X b->we.heap.size<=b)(hpn:∀i,¬X.pn i)(hos:B.os=we.os)(ht:B.tape=we.tape)(hou:B.output=we.output)(Kz:we.heap.size<=B.heap.size)(hk:∀b,b<we.heap.size->B.heap[b]?=we.heap[b]?):Cj N we X Y β s a w':=by
 have hX:∀b,GY s.hp β b->we.heap.size<=b:=fun b hb=>(h.ownd b hb).elim (H2 b) (fun h1=>Nat.le_trans Kz h1);have hA:∀b,D2 s.hp β Y b->D2 s.hp β YB b:=fun b hb=>hb.imp (fun x=>x) (hY b);have Hc:C6 (D2 s.hp β YB) w' w':=⟨C9 _,fun _ _ _=>rfl,fun _ _=>C9 _⟩
 have hkw:∀b,b<we.heap.size->w'.heap[b]?=we.heap[b]?:=fun b hb=>(h.fr.step.keep b (by omega) fun hx=>by have:=H2 b hx;omega).trans (hk b hb)
 refine⟨h.dfr,h.tsz,h.tmo,fun i hi=>(h.tms i hi).step Hc (fun b _=>hA b) fun _ _=>rfl,fun id bx e=>(h.box id bx e).step' hA,h.inj,h.blt,h.wfT,h.wfB,fun b hb=>.inr (hX b hb),fun id bx b o h1 h2 h3 h4=>?_,fun i hi=>absurd hi (hpn i),fun id c b o h1 h2 h3=>?_,fun b hy=>h.Yx b (hY b hy),A3j,
  ⟨h.fr.os.trans hos,h.fr.tape.trans ht,h.fr.output.trans hou,⟨Nat.le_trans Kz h.fr.step.size,fun b hb _=>hkw b hb,fun b hb=>by unfold bsz;rw[hkw b hb];exact C9 _⟩,fun b j hb _=>⟨World.cell?_of_block (hkw b hb),frozen?_of_block (hkw b hb)⟩⟩⟩
 ·have:=hX b ⟨id,o,by rw[h1];exact h2,h3⟩
  omega
 ·have:=hX b ⟨id,o,by rw[h1];trivial,h2⟩
  omega
theorem OB.stay{wS:World}{D:Nat}{seed leaf:Int}{h b10 o10 e0:Nat}{chv:Value}{Z:Nat->Prop}{pre:Cc}{A B:World}(hI:OB wS D seed leaf h b10 o10 e0 chv Z pre A)(l10:b10<wS.heap.size)(nD:D≠e0)(nD1:D+1≠e0)(hD:wS.heap.size<=D)(hs:O7 (fun b=>Z b/\b≠D/\b≠D+1) A B):OB wS D seed leaf h b10 o10 e0 chv Z pre B:=by
 have e:∀b,b<wS.heap.size->B.heap[b]?=A.heap[b]?:=fun b hb=>hs.same b ⟨hI.zlo b hb,by omega,by omega⟩;have hb:bsz B b10=bsz A b10:=by unfold bsz;rw[e b10 l10]
 have hc:∀j,B.cell? ⟨b10,j,none⟩=A.cell? ⟨b10,j,none⟩:=fun j=>World.cell?_of_block (e b10 l10);obtain⟨pv,p1,p2,p3⟩:=hI.path;refine⟨hs.os.trans hI.os,hs.tape.trans hI.tape,hs.output.trans hI.output,Nat.le_trans hI.size hs.size,hI.zlo,fun b hz=>Jm (hI.zlt b hz) hs.size,fun b hb hn SE=>(e b hb).trans (hI.keep b hb hn SE),by rw[hb];exact hI.bs,(hc _).trans hI.c0,(hc _).trans hI.c1,fun k hk=>by rw[frozen?_of_block (e b10 l10)];exact hI.fz k hk,hI.lt,pv,(hc _).trans p1,?_,p3⟩
 rcases p2 with p2|⟨pb,po,cap,h0,h1,h2,h3,h4,h5,h6,h7⟩
 ·exact .inl p2
 ·have hh:B.heap[pb]?=A.heap[pb]?:=hs.same pb ⟨p3 _ _ _ _ h0 h1,by omega,by omega⟩;have hbb:bsz B pb=bsz A pb:=by unfold bsz;rw[hh]
  exact .inr ⟨pb,po,cap,h0,h1,h2,by rw[hbb];exact h3,Jm h4 hs.size,h5,fun j x hj=>(World.cell?_of_block (a:=⟨pb,po+j,none⟩) hh).trans (h6 j x hj),fun j hj hjb=>by rw[frozen?_of_block hh];exact h7 j hj (by rw[<-hbb];exact hjb)⟩
end
section
open Go Go.RowKit
abbrev sgE(leaf:Int)(n1 n2:Nat)(c1 c2:Ab):List (Nat × PV):=[(8,.ptr 96000 0),(9,At 0),(10,.iptr [At leaf,.lst false 1 n1 c1,.lst false 1 n2 c2] 0)]
theorem A1b{wS:World}{D:Nat}{seed leaf:Int}{h b8 o8 b10 o10 e0:Nat}{chv:Value}{Z:Nat->Prop}{pre:Cc}{B:World}{Y:Nat->Prop}{a:Act}{n1:Nat}{c1:Ab}(hB:OB wS D seed leaf h b10 o10 e0 chv Z pre B)(hd:a.defers=[])(Kz:a.tmps.size=48)(t8:a.tmps.getD 8 undef=.pointer (some ⟨b8,o8,none⟩))(t9:a.tmps.getD 9 undef=.int .i64 0)(t10:a.tmps.getD 10 undef=.pointer (some ⟨b10,o10,none⟩))(c8:∀j,j<3->∃v,B.cell? ⟨b8,o8+j,none⟩=some v)(f8:∀j,j<3->B.frozen? ⟨b8,o8+j,none⟩=false)(l8:b8<B.heap.size)(l10:b10<B.heap.size)(n8:b8≠b10)(y8:¬Y b8)(y10:¬Y b10)(hch:Bd B (fun b=>b=b8\/Y b) (.lst false 1 n1 c1) chv)(Bay:chv.oneCell'=true)(hp:∀pb,(D+2<=pb\/pb=e0)->pb≠b8/\¬Y pb)(hY:∀b,Y b->b<B.heap.size):
  ∃X0 β,(∀b,X0.X b->b=b8)/\Cj 48 B X0 Y β ⟨lk (sgE leaf n1 pre.length c1 (Ac .u64 (pre.map fun k=>Cs seed k (H3 leaf k)))),B0 [(96000,.st [.top,.top,.top])]⟩ a B:=by
 obtain⟨pv,IZ,H2,hpz⟩:=hB.path;obtain⟨β,hβ⟩:∃β:Bt,β=fun id=>if id=96000 then some (b8,o8) else none:=⟨_,rfl⟩
 have e1:β 96000=some (b8,o8):=by rw[hβ];rfl
 have Zk:∀id bx,B0 [(96000,Cb.st [.top,.top,.top])] id=some bx->id=96000/\bx=.st [.top,.top,.top]:=by
  intro id bx e;rcases Vf [(96000,Cb.st [.top,.top,.top])] id with h1|⟨p,hp,h1,h2⟩
  ·rw[h1] at e;cases e
  ·rw[h2] at e;cases e;simp only[B6,Ie,or_false] at hp;subst hp;exact⟨h1.symm,rfl⟩
 have hX:∀b,GY (B0 [(96000,Cb.st [.top,.top,.top])]) β b->b=b8:=by
  rintro b' ⟨id,o',hl,hb⟩
  cases hh:B0 [(96000,Cb.st [.top,.top,.top])] id with
  |none=>rw[hh] at hl;exact hl.elim
  |some bx=>
   obtain⟨rfl,_⟩:=Zk id bx hh;rw[e1] at hb;cases hb;rfl
 have hA:∀b,D2 (B0 [(96000,Cb.st [.top,.top,.top])]) β Y b->b=b8\/Y b:=fun b hb=>hb.imp (hX b) (fun x=>x);have Hc:C6 (fun b=>b=b8\/Y b) B B:=⟨C9 _,fun _ _ _=>rfl,fun _ _=>C9 _⟩
 have one:pv.oneCell'=true:=by
  rcases H2 with⟨_,ad,h2⟩|⟨pb,po,cap,_,h1,_⟩
  ·rw[h2];rfl
  ·rw[h1];rfl
 refine⟨_,β,?_,Cj.make (sgE leaf n1 pre.length c1 (Ac .u64 (pre.map fun k=>Cs seed k (H3 leaf k)))) [(96000,.st [.top,.top,.top])] a (fun i=>i=0) (fun i hi=>by omega) hd Kz ?_ ?_ ?_ ?_ ?_ ?_ ?_ ?_ ?_ ?_ hY⟩
 ·exact hX
 ·intro p Di;simp only[B6,Ie,or_false] at Di;rcases Di with rfl|rfl|rfl<;>simp
 ·intro p Di;simp only[B6,Ie,or_false] at Di;rcases Di with rfl|rfl|rfl
  ·exact⟨b8,o8,e1,t8⟩
  ·show Fc _ _ _ (At 0) (a.tmps.getD 9 undef);rw[t9];exact Bd.sc _
  ·refine⟨⟨b10,o10,none⟩,t10,rfl,l10,fun hb=>?_,fun j c hj=>?_⟩
   ·rcases hA _ hb with h1|h1
    ·exact n8 h1.symm
    ·exact y10 h1
   ·match j,hj with
    |0,hj=>cases hj;exact⟨_,hB.c0,rfl,Bd.sc _⟩
    |1,hj=>cases hj;exact⟨_,hB.c1,Bay,hch.step Hc fun b _=>hA b⟩
    |2,hj=>
     cases hj;refine⟨_,IZ,one,?_⟩;rcases H2 with⟨h1,ad,h2⟩|⟨pb,po,cap,_,h1,h2,h3,h4,h5,h6,h7⟩
     ·rw[h2];have:pre=[]:=by simpa using h1
      subst this;cases ad with
      |none=>exact Bd.lnil _ _
      |some p=>exact Bd.lemp _ p 0
     ·rw[h1,List.length_map];rw[List.length_map] at h2;refine Bd.lst 1 _ _ ⟨pb,po,none⟩ cap (fun j=>.int .u64 ((pre.map fun k=>Cs seed k (H3 leaf k)).getD j 0)) rfl h4 (fun hb=>?_) h2 ?_ (fun _ _ _=>rfl) ?_
      ·have hh:=hp pb h5;rcases hA _ hb with h8|h8
       ·exact hh.1 h8
       ·exact hh.2 h8
      ·intro j c hj;have Cq:j<(Ac .u64 (pre.map fun k=>Cs seed k (H3 leaf k))).length:=(List.getElem?_eq_some_iff.1 hj).1;rw[Am] at Cq;rw[Fy,h6 j _ (List.getElem?_eq_getElem Cq),List.getD_eq_getElem?_getD,List.getElem?_eq_getElem Cq];rfl
      ·intro j c hj;have Cq:j<(Ac .u64 (pre.map fun k=>Cs seed k (H3 leaf k))).length:=(List.getElem?_eq_some_iff.1 hj).1;rw[Am] at Cq;rw[Qy (List.getElem?_eq_getElem Cq)] at hj;cases hj;rw[List.getD_eq_getElem?_getD,List.getElem?_eq_getElem Cq];exact Bd.sc _
 ·intro id bx e;obtain⟨rfl,rfl⟩:=Zk id bx e;refine⟨b8,o8,e1,fun j c hj=>?_,fun j hj=>f8 j hj⟩;have Cq:j<3:=(List.getElem?_eq_some_iff.1 hj).1;obtain⟨v,hv⟩:=c8 j Cq
  match j,hj with
  |0,hj=>cases hj;exact⟨v,hv,Bd.top _⟩
  |1,hj=>cases hj;exact⟨v,hv,Bd.top _⟩
  |2,hj=>cases hj;exact⟨v,hv,Bd.top _⟩
 ·intro id id' b1 o1 o2 g1 g2 g3 g4
  have B5:∀i,C8 (B0 [(96000,Cb.st [.top,.top,.top])] i)->i=96000:=by
   intro i hi;cases hh:B0 [(96000,Cb.st [.top,.top,.top])] i with
   |none=>rw[hh] at hi;exact hi.elim
   |some bx=>exact (Zk i bx hh).1
  rw[B5 id g1,B5 id' g2]
 ·intro id b1 o1 g1 g2;cases hh:B0 [(96000,Cb.st [.top,.top,.top])] id with
  |none=>exact absurd hh g1
  |some bx=>
   obtain⟨rfl,_⟩:=Zk id bx hh;rw[e1] at g2;cases g2;exact l8
 ·intro p Di id B5;simp only[B6,Ie,or_false] at Di;rcases Di with rfl|rfl|rfl<;>simp[Cn,C3,A9] at B5
  subst B5;simp[B0]
 ·intro id cells e c hc i hi;obtain⟨rfl,e'⟩:=Zk id _ e;cases e';simp only[B6,Ie,or_false] at hc;rcases hc with rfl|rfl|rfl<;>simp[A9] at hi
 ·intro i hi;subst hi;simp[B0,Ec]
 ·intro id c e;obtain⟨rfl,_⟩:=Zk id _ e;exact⟨0,rfl,rfl⟩
 ·intro b hy hx;rw[hX b hx] at hy;exact y8 hy
end
section
open Go Go.RowKit
abbrev Apx(seed h leaf m:Int)(n:Nat)(c:Ab):St:=
  ⟨lk [(0,Af seed),(3,Af m),(5,.ptr 5 0),(6,.ptr 6 0),(8,.ptr 8 0),(9,At 0),(10,.ptr 10 0),(27,Af seed),(28,At h)],
   B0 [(5,.st [At h]),(6,.st [At leaf]),(8,.st [At 0,.view 104 1 0 0,.view 152 1 0 0]),(104,.ar false []),(152,.ar false []),(10,.st [At leaf,.view 106 1 0 n,.view 154 1 0 0]),(106,.ar false c),(154,.ar false [])]⟩
theorem Cj.var{N:Nat}{w0:World}{X0:Gn}{Y:Nat->Prop}{β:Bt}{s:St}{a:Act}{w:World}(h:Cj N w0 X0 Y β s a w){i id:Nat}{cells:Ab}(hi:i<N)(ht:s.tm i=.ptr id 0)(hb:s.hp id=some (.st cells)):
  ∃b o,β id=some (b,o)/\a.tmps.getD i undef=.pointer (some ⟨b,o,none⟩)/\b<w.heap.size/\(∀j c,cells[j]?=some c->∃v,w.cell? ⟨b,o+j,none⟩=some v/\Cx w (D2 s.hp β Y) β c v)/\∀j,j<cells.length->w.frozen? ⟨b,o+j,none⟩=false:=by
 have h1:=h.tms i hi;rw[ht] at h1;obtain⟨b,o,e1,e2⟩:=(show ∃b o,β id=some (b,o)/\a.tmps.getD i undef=.pointer (some ⟨b,o+0,none⟩) from h1)
 obtain⟨b',o',e3,e4,e5⟩:=(show ∃b o,β id=some (b,o)/\_/\_ from h.box id _ hb)
 rw[e1] at e3;cases e3;exact⟨b,o,e1,e2,h.blt id b o (by rw[hb];simp) e1,e4,e5⟩
structure A8f(w w4:World)(Y:Nat->Prop)(seed h leaf:Int)(c:Ab)(n:Nat)(a4:Act)(b5 o5 b6 o6 b8 o8 b10 o10 e0:Nat)(chv:Value):Prop where
 t5:a4.tmps.getD 5 undef=.pointer (some ⟨b5,o5,none⟩)
 t6:a4.tmps.getD 6 undef=.pointer (some ⟨b6,o6,none⟩)
 t8:a4.tmps.getD 8 undef=.pointer (some ⟨b8,o8,none⟩)
 t9:a4.tmps.getD 9 undef=.int .i64 0
 t10:a4.tmps.getD 10 undef=.pointer (some ⟨b10,o10,none⟩)
 t27:a4.tmps.getD 27 undef=.int .u64 seed
 t28:a4.tmps.getD 28 undef=.int .i64 h
 c5:w4.cell? ⟨b5,o5,none⟩=some (.int .i64 h)
 c6:w4.cell? ⟨b6,o6,none⟩=some (.int .i64 leaf)
 c8:∀j,j<3->∃v,w4.cell? ⟨b8,o8+j,none⟩=some v
 f8:∀j,j<3->w4.frozen? ⟨b8,o8+j,none⟩=false
 c10:w4.cell? ⟨b10,o10,none⟩=some (.int .i64 leaf)
 c11:w4.cell? ⟨b10,o10+1,none⟩=some chv
 f10:∀j,j<3->w4.frozen? ⟨b10,o10+j,none⟩=false
 l5:b5<w4.heap.size
 l6:b6<w4.heap.size
 l8:b8<w4.heap.size
 l10:b10<w4.heap.size
 le:e0<=w4.heap.size
 n5:b5≠b10
 n6:b6≠b10
 m5:b5≠e0
 m6:b6≠e0
 m10:b10≠e0
 n8:b8≠b10
 m8:b8≠e0
 y8:¬Y b8
 y10:¬Y b10
 ye:¬Y e0
 g10:w.heap.size<=b10
 ge:w.heap.size<=e0
 g8:w.heap.size<=b8
 one:chv.oneCell'=true
 ch:∀B:World,w4.heap.size<=B.heap.size->(∀b,b<w4.heap.size->b≠b10->b≠e0->B.heap[b]?=w4.heap[b]?)->Bd B (fun b=>b=b8\/Y b) (.lst false 1 n c) chv
 p0:∃v2,w4.cell? ⟨b10,o10+2,none⟩=some v2/\((∃ad,v2=.slice ad 0 0)\/∃x cap,v2=.slice (some ⟨e0,x,none⟩) 0 cap/\x+cap<=bsz w4 e0/\e0<w4.heap.size/\∀j,x<=j->j<bsz w4 e0->w4.frozen? ⟨e0,j,none⟩=false)
theorem Ar6{w w4:World}{Y:Nat->Prop}{seed h leaf m:Int}{l:Ca}{n:Nat}{a4:Act}{X0:Gn}{β4:Bt}(hn:0<n)(hl:l.length=n)(hX:∀b,¬X0.X b)(hs:Cj 48 w X0 Y β4 (Apx seed h leaf m n (Ac .u64 l)) a4 w4):
  ∃b5 o5 b6 o6 b8 o8 b10 o10 e0 chv,A8f w w4 Y seed h leaf (Ac .u64 l) n a4 b5 o5 b6 o6 b8 o8 b10 o10 e0 chv:=by
 obtain⟨b5,o5,e5,t5,l5,k5,f5⟩:=hs.var (i:=5) (id:=5) (by decide) rfl rfl;obtain⟨b6,o6,e6,t6,l6,k6,f6⟩:=hs.var (i:=6) (id:=6) (by decide) rfl rfl;obtain⟨b8,o8,e8,t8,l8,k8,f8⟩:=hs.var (i:=8) (id:=8) (by decide) rfl rfl;obtain⟨b10,o10,e10,t10,l10,k10,f10⟩:=hs.var (i:=10) (id:=10) (by decide) rfl rfl;obtain⟨v5,q5,r5⟩:=k5 0 _ rfl;obtain⟨v6,q6,r6⟩:=k6 0 _ rfl;obtain⟨v80,q80,_⟩:=k8 0 _ rfl;obtain⟨v81,q81,_⟩:=k8 1 _ rfl;obtain⟨v82,q82,_⟩:=k8 2 _ rfl;obtain⟨v0,q0,r0⟩:=k10 0 _ rfl;obtain⟨v1,q1,r1⟩:=k10 1 _ rfl;obtain⟨v2,q2,r2⟩:=k10 2 _ rfl;have r5:=Bd.val r5;have r6:=Bd.val r6;have r0:=Bd.val r0;subst r5 r6 r0;have Jq:=hs.box 106 _ (rfl:_=some (Cb.ar false (Ac .u64 l)));have Qm:=hs.box 154 _ (rfl:_=some (Cb.ar false []))
 have own:∀id b o,C8 ((Apx seed h leaf m n (Ac .u64 l)).hp id)->β4 id=some (b,o)->w.heap.size<=b/\¬Y b:=fun id b o h1 h2=>⟨(hs.ownd b ⟨id,o,h1,h2⟩).elim (fun x=>absurd x (hX b)) (fun x=>x),fun hy=>hs.Yx b hy ⟨id,o,h1,h2⟩⟩
 have dif:∀id id' b b' o o',id≠id'->C8 ((Apx seed h leaf m n (Ac .u64 l)).hp id)->C8 ((Apx seed h leaf m n (Ac .u64 l)).hp id')->β4 id=some (b,o)->β4 id'=some (b',o')->b≠b':=fun id id' b b' o o' Gz h1 h2 h3 h4 e=>by
  subst e;exact Gz (hs.inj id id' b o o' h1 h2 h3 h4)
 obtain⟨e0,he1,he2⟩:∃e0,(∀b o,β4 154=some (b,o)->e0=b)/\((∃o,β4 154=some (e0,o))\/e0=w4.heap.size):=by
  cases hq:β4 154 with
  |none=>exact⟨w4.heap.size,fun b o h=>by (cases h),.inr rfl⟩
  |some q=>exact⟨q.1,fun b o h=>by (cases h;rfl),.inl ⟨q.2,rfl⟩⟩
 have Bfa:w.heap.size<=w4.heap.size:=hs.fr.step.size
 have de:∀id b o,id≠154->C8 ((Apx seed h leaf m n (Ac .u64 l)).hp id)->β4 id=some (b,o)->b<w4.heap.size->b≠e0:=fun id b o Gz h1 h2 Cq e=>by
  rcases he2 with⟨o',h3⟩|h3
  ·exact dif id 154 b e0 o o' Gz h1 trivial h2 h3 e
  ·omega
 have ge:w.heap.size<=e0/\¬Y e0/\e0<=w4.heap.size:=by
  rcases he2 with⟨o',h3⟩|h3
  ·have:=own 154 e0 o' trivial h3;exact⟨this.1,this.2,Nat.le_of_lt (hs.blt 154 e0 o' (fun h0:some (Cb.ar false [])=none=>by cases h0) h3)⟩
  ·exact⟨by omega,fun hy=>by have:=hs.Ylt e0 hy;omega,by omega⟩
 rcases r1 with⟨_,_,h3,_⟩|⟨cb,co,x,cap,g1,g2,g3,g4,g5,g6⟩
 ·omega
 rcases Jq with⟨h7,_⟩|⟨cb',co',h7,h8,h9,_⟩
 ·rw[g1] at h7;cases h7
 rw[g1] at h7;cases h7;have hx:x=co:=by omega
 subst hx
 refine⟨b5,o5,b6,o6,b8,o8,b10,o10,e0,v1,⟨t5,t6,t8,Ni (hs.tms 9 (by decide)),t10,Ni (hs.tms 27 (by decide)),Ni (hs.tms 28 (by decide)),q5,q6,fun j hj=>?_,fun j hj=>f8 j hj,q0,q1,fun j hj=>f10 j hj,l5,l6,l8,l10,ge.2.2,
  dif 5 10 _ _ _ _ (by decide) trivial trivial e5 e10,dif 6 10 _ _ _ _ (by decide) trivial trivial e6 e10,de 5 _ _ (by decide) trivial e5 l5,de 6 _ _ (by decide) trivial e6 l6,de 10 _ _ (by decide) trivial e10 l10,dif 8 10 _ _ _ _ (by decide) trivial trivial e8 e10,de 8 _ _ (by decide) trivial e8 l8,
  (own 8 _ _ trivial e8).2,(own 10 _ _ trivial e10).2,ge.2.1,(own 10 _ _ trivial e10).1,ge.1,(own 8 _ _ trivial e8).1,by rw[g2];rfl,fun B hB hk=>?_,v2,q2,?_⟩⟩
 ·match j,hj with
  |0,_=>exact⟨v80,q80⟩
  |1,_=>exact⟨v81,q81⟩
  |2,_=>exact⟨v82,q82⟩
 ·have BK:=hk cb g6 (dif 106 10 _ _ _ _ (by decide) trivial trivial g1 e10) (de 106 _ _ (by decide) trivial g1 g6);rw[g2];refine Bd.lst 1 _ _ ⟨cb,x,none⟩ cap (fun j=>.int .u64 (l.getD j 0)) rfl (by show cb<_;omega) (fun hb=>?_) g4 (fun j c hj=>?_) (fun _ _ _=>rfl) (fun j c hj=>?_)
  ·rcases hb with hb|hb
   ·exact dif 106 8 _ _ _ _ (by decide) trivial trivial g1 e8 hb
   ·exact (own 106 _ _ trivial g1).2 hb
  ·have Cq:j<(Ac .u64 l).length:=(List.getElem?_eq_some_iff.1 hj).1;rw[Am] at Cq;obtain⟨v,k1,_,k3⟩:=h8 j _ (Qy (List.getElem?_eq_getElem Cq));rw[Fy] at k1 ⊢;rw[World.cell?_of_block (a:=⟨cb,x+j,none⟩) BK,k1,Bd.val k3,List.getD_eq_getElem?_getD,List.getElem?_eq_getElem Cq];rfl
  ·have Cq:j<(Ac .u64 l).length:=(List.getElem?_eq_some_iff.1 hj).1;rw[Am] at Cq;rw[Qy (List.getElem?_eq_getElem Cq)] at hj;cases hj;rw[List.getD_eq_getElem?_getD,List.getElem?_eq_getElem Cq];exact Bd.sc _
 ·rcases r2 with⟨_,_,_,h4⟩|⟨pb,po,x',cap',k1,k2,k3,k4,k5',k6'⟩
  ·exact .inl h4
  ·have he:=he1 pb po k1;subst he;rcases Qm with⟨h7,_⟩|⟨pb',po',h7,_,h9',_⟩
   ·rw[k1] at h7;cases h7
   ·rw[k1] at h7;cases h7;have hxx:x'=po:=by omega
    subst hxx;exact .inr ⟨x',cap',k2,by omega,k6',fun j hj hjb=>h9' rfl j hj hjb⟩
end
section
open Go Go.RowKit
abbrev Aro:Code:=sA (sB (sR (sL (sR (sR (sR TH))))))
theorem Aq1:∃o1 o2:Oper,Aro=.seq (.region 5 #[o1] false) (.region 6 #[o2] false)/\(o1.op=.assign (.tmp 30)/\o1.dst=some 11/\o1.guard=none)/\(o2.op=.assign (.tmp 31)/\o2.dst=some 12/\o2.guard=none):=
 ⟨_,_,rfl,⟨rfl,rfl,rfl⟩,⟨rfl,rfl,rfl⟩⟩
theorem Apb{F:Fence}{n:Nat}{P:Program}{o:Oper}{x:Operand}{a:Act}{w:World}{next:Act->World->Prop}{Q:Exit->Act->World->Prop}(hF:∀f,F.fn f)(ho:o.op=.assign x)(h:next (a.put o.dst (a.eval x)) w):o.wpIn F n P a w next Q:=by
 refine⟨fun f _=>hF f,?_⟩;have e:o.semAt F.round a.eval=execOp a.eval o:=Oper.semAt_eq _ _ _ (by intro c hc;rw[ho] at hc;cases hc)
 rw[e]
 have r:(execOp a.eval o).run P w=.ok (.value (a.eval x)) w:=by
  unfold execOp;rw[ho];simp
 rw[r];exact h
theorem Amu{F:Fence}{n:Nat}{P:Program}{o:Oper}{x:Operand}{id:Nat}{a:Act}{w:World}{Q:Exit->Act->World->Prop}(hF:∀f,F.fn f)(ho:o.op=.assign x)(hg:o.guard=none)(h:Q .normal (a.put o.dst (a.eval x)) w):(Code.region id #[o] false).wpIn F n P Q a w:=by refine wpIn_region ?_;show wpOpsIn F n P #[o] Q [0] a w;unfold wpOpsIn;simp only[List.getElem?_toArray,List.getElem?_cons_zero,Region.wanted,hg,if_true];exact Apb hF ho h
theorem Ge{a:Act}{i j:Nat}{v:Value}(h:i≠j):(a.put (some i) v).tmps.getD j undef=a.tmps.getD j undef:=by show (a.tmps.setIfInBounds i v).getD j undef=_;simp[Array.getD_eq_getD_getElem?,Array.getElem?_setIfInBounds_ne h]
theorem IB{a:Act}{i:Nat}{v:Value}(h:i<a.tmps.size):(a.put (some i) v).tmps.getD i undef=v:=by show (a.tmps.setIfInBounds i v).getD i undef=_;simp[Array.getD_eq_getD_getElem?,h]
def sgA(a:Act)(args:Array Value):Act:=
 let r:Act:={ tmps:=((#[30,31]:Array Tmp).zip args).foldl (fun t (p,v)=>t.setIfInBounds p v) a.tmps,defers:=[] }
 let r1:=r.put (some 11) (r.eval (.tmp 30))
 r1.put (some 12) (r1.eval (.tmp 31))
theorem Asi{a:Act}{x y:Value}(hs:a.tmps.size=48):(sgA a #[x,y]).defers=[]/\(sgA a #[x,y]).tmps.size=48/\(sgA a #[x,y]).tmps.getD 5 undef=a.tmps.getD 5 undef/\(sgA a #[x,y]).tmps.getD 6 undef=a.tmps.getD 6 undef/\(sgA a #[x,y]).tmps.getD 10 undef=a.tmps.getD 10 undef /\
  (sgA a #[x,y]).tmps.getD 11 undef=x/\(sgA a #[x,y]).tmps.getD 12 undef=y:=by
 obtain⟨b,hb⟩:∃b:Act,({ tmps:=a.tmps,defers:=[] }:Act)=b:=⟨_,rfl⟩
 have UP:b.tmps.size=48:=by rw[<-hb];exact hs
 have e:sgA a #[x,y]=(((b.put (some 30) x).put (some 31) y).put (some 11) (((b.put (some 30) x).put (some 31) y).eval (.tmp 30))).put (some 12) ((((b.put (some 30) x).put (some 31) y).put (some 11) (((b.put (some 30) x).put (some 31) y).eval (.tmp 30))).eval (.tmp 31)):=by
  rw[<-hb];have z:((#[30,31]:Array Tmp).zip #[x,y]) = #[(30,x),(31,y)]:=by simp
  unfold sgA;rw[z];simp[Act.put]
 have ev:∀(c:Act) (t:Nat),c.eval (.tmp t)=c.tmps.getD t undef:=fun c t=>rfl;have e30:((b.put (some 30) x).put (some 31) y).eval (.tmp 30)=x:=by rw[ev,Ge (by decide),IB (by omega)]
 rw[e,e30];have e31:(((b.put (some 30) x).put (some 31) y).put (some 11) x).eval (.tmp 31)=y:=by rw[ev,Ge (by decide),IB (by rw[Ip];omega)]
 rw[e31];have hd:b.defers=[]:=by rw[<-hb]
 have ht:b.tmps=a.tmps:=by rw[<-hb]
 refine⟨by simp only[Lg,hd],by simp only[Ip,UP],?_,?_,?_,?_,?_⟩
 ·rw[Ge (by decide),Ge (by decide),Ge (by decide),Ge (by decide),ht]
 ·rw[Ge (by decide),Ge (by decide),Ge (by decide),Ge (by decide),ht]
 ·rw[Ge (by decide),Ge (by decide),Ge (by decide),Ge (by decide),ht]
 ·rw[Ge (by decide),IB (by simp only[Ip];omega)]
 ·rw[IB (by simp only[Ip];omega)]
theorem Awr{w w4 w5:World}{Y:Nat->Prop}{seed leaf:Int}{h:Nat}{c:Ab}{n:Nat}{a4 a5:Act}{b5 o5 b6 o6 b8 o8 b10 o10 e0:Nat}{chv:Value}(hh:h<=4)(Zk:0<=leaf)(MQ:leaf<((2 ^ h:Nat):Int))(hp:A8f w w4 Y seed h leaf c n a4 b5 o5 b6 o6 b8 o8 b10 o10 e0 chv)(Kz:a4.tmps.size=48)(hw5:w5=(w4.alloc (.cells #[.int .u64 seed] 37)).alloc (.cells #[.int .i64 h] 3))(VO:a5=a4.put (some 29) (.func (.func 113) #[] #[.pointer (some ⟨w4.heap.size+1,0,none⟩),.pointer (some ⟨w4.heap.size,0,none⟩)])){K:Act->World->Prop}{Q:Exit->Act->World->Prop}(hK:∀Z B,OB w4 (w4.heap.size+2) seed leaf h b10 o10 e0 chv Z (List.range h) B->B.heap[w4.heap.size+2]?=some (.deferred (some []))->K { a5 with defers:={ target:=.collected (w4.heap.size+2),args:= #[] }::a5.defers } B):
  (Code.block 0 (.rangeFunc (.tmp 29) #[30,31] Aro Aki)).wpIn Fence.wide 0 prog (Exit.then K Q) a5 w5:=by
 have Zx:w5.heap.size=w4.heap.size+2:=by rw[hw5,World.size_alloc,World.size_alloc]
 have hold:∀b,b<w4.heap.size->w5.heap[b]?=w4.heap[b]?:=fun b hb=>by
  rw[hw5];exact (Below.heap_alloc _ _ _ (by simp;omega)).trans (Below.heap_alloc _ _ _ hb)
 have hB1:w5.heap[w4.heap.size+1]?=some (.cells #[.int .i64 h] 3):=by
  rw[hw5];have:=World.alloc_heap_new (w4.alloc (.cells #[.int .u64 seed] 37)) (.cells #[.int .i64 h] 3);rwa [World.size_alloc] at this
 have hB0:w5.heap[w4.heap.size]?=some (.cells #[.int .u64 seed] 37):=by
  rw[hw5];exact (Below.heap_alloc _ _ _ (by simp)).trans (World.alloc_heap_new w4 _)
 have A34:a5.tmps.size=48:=by rw[VO,Ip];exact Kz
 have g5:a5.tmps.getD 5 undef=.pointer (some ⟨b5,o5,none⟩):=by rw[VO,Ge (by decide)];exact hp.t5
 have g6:a5.tmps.getD 6 undef=.pointer (some ⟨b6,o6,none⟩):=by rw[VO,Ge (by decide)];exact hp.t6
 have g10:a5.tmps.getD 10 undef=.pointer (some ⟨b10,o10,none⟩):=by rw[VO,Ge (by decide)];exact hp.t10
 have g29:a5.eval (.tmp 29)=.func (.func 113) #[] #[.pointer (some ⟨w4.heap.size+1,0,none⟩),.pointer (some ⟨w4.heap.size,0,none⟩)]:=by
  show a5.tmps.getD 29 undef=_;rw[VO,IB (by omega)]
 have nD:w4.heap.size+2≠e0:=by have:=hp.le;omega
 have nD1:w4.heap.size+2+1≠e0:=by have:=hp.le;omega
 have YK:=Axf (seed:=seed) (h:=h) (Bh:=w4.heap.size+1) (Bs:=w4.heap.size) hh
 refine wpIn_block (Ank (Z0:=fun b=>b<w4.heap.size) g29 (enters_of Tryz.func113 (by kernel_rfl) rfl) YK (fun b hb=>by omega) (fun W hW hk=>?_) (fun pre x args Z A B hm h1 h2=>Atp hm h1 h2) (fun pre x args Z A hm=>As0 hm)
  (OB w4 (w4.heap.size+2) seed leaf h b10 o10 e0 chv) (A2e w4 (w4.heap.size+2) seed leaf h b10 o10 e0 chv) ?_ ?_ ?_ (sgA a5) ?_ ?_ ?_ ?_)
 ·have k1:=hk (w4.heap.size+1) (by omega);have k0:=hk w4.heap.size (by omega);refine⟨(World.cell?_of_block (a:=⟨w4.heap.size+1,0,none⟩) k1).trans ?_,(World.cell?_of_block (a:=⟨w4.heap.size,0,none⟩) k0).trans ?_,by omega,by omega,?_,?_⟩
  ·unfold World.cell?;rw[hB1];rfl
  ·unfold World.cell?;rw[hB0];rfl
  ·rintro (h1|h1|h1)<;>omega
  ·rintro (h1|h1|h1)<;>omega
 ·intro Z pre A B hI hs;rw[Zx] at hs;exact hI.stay hp.l10 nD nD1 (by omega) hs
 ·rintro c' Z pre A B ⟨h1,pre',h2,hI⟩ hs
  rw[Zx] at hs;exact⟨h1,pre',h2,hI.stay hp.l10 nD nD1 (by omega) hs⟩
 ·intro W hW Hc;have e:∀b,b<w4.heap.size->W.heap[b]?=w4.heap[b]?:=fun b hb=>(Hc.same b (by omega)).trans (hold b hb);have o5:w5.os=w4.os/\w5.tape=w4.tape/\w5.output=w4.output:=by rw[hw5];exact⟨rfl,rfl,rfl⟩
  obtain⟨v2,p1,p2⟩:=hp.p0;refine⟨Hc.os.trans o5.1,Hc.tape.trans o5.2.1,Hc.output.trans o5.2.2,by omega,fun b hb=>.inl hb,fun b hb=>by rcases hb with hb|hb|hb<;>omega,fun b hb _ _=>e b hb,by unfold bsz;rw[e b10 hp.l10];exact C9 _,(World.cell?_of_block (e b10 hp.l10)).trans hp.c10,(World.cell?_of_block (e b10 hp.l10)).trans hp.c11,fun k hk=>by rw[frozen?_of_block (e b10 hp.l10)];exact hp.f10 k hk,(fun x hx=>by cases hx),v2,(World.cell?_of_block (e b10 hp.l10)).trans p1,?_,?_⟩
  ·rcases p2 with p2|⟨x,cap,q1,q2,q3,q4⟩
   ·exact .inl ⟨rfl,p2⟩
   ·have hb:bsz W e0=bsz w4 e0:=by unfold bsz;rw[e e0 q3]
    rcases Nat.eq_zero_or_pos cap with q0|q0
    ·subst q0;exact .inl ⟨rfl,_,q1⟩
    exact .inr ⟨e0,x,cap,q0,q1,Nat.zero_le _,by rw[hb];exact q2,by omega,.inr rfl,fun j y hj=>(by cases hj),fun j hj hjb=>by rw[frozen?_of_block (e e0 q3)];exact q4 j hj (by rw[<-hb];exact hjb)⟩
  ·intro pb po k cap' hc0 hv;rcases p2 with⟨ad,p2⟩|⟨x,cap,q1,q2,q3,q4⟩
   ·rw[p2] at hv;cases hv;omega
   ·rw[q1] at hv;cases hv;exact .inl q3
 ·intro pre x args Z A K' hm hk;obtain⟨o1,o2,e,⟨a1,a2,a3⟩,⟨c1,c2,c3⟩⟩:=Aq1;refine Q5 e (wpIn_seq (Amu (fun _=>trivial) a1 a3 ?_));show (Code.region 6 #[o2] false).wpIn _ _ _ _ _ _;refine Amu (fun _=>trivial) c1 c3 ?_;rw[a2,c2];exact hk
 ·intro Z pre x args A hZ1 hZ2 hI hm;rw[Zx] at hZ1 hZ2 ⊢;obtain⟨hx,_,bb,oo,cc,Fz,_⟩:=id hm;have sp:=Asi (a:=a5) (x:=.int .i64 x) (y:=.slice (some ⟨bb,oo,none⟩) (2 ^ (h-x):Nat) cc) A34;rw[<-Fz] at sp;refine Au3 hh Zk MQ hI hm ⟨sp.1,sp.2.1,sp.2.2.1.trans g5,sp.2.2.2.1.trans g6,sp.2.2.2.2.1.trans g10,?_,?_⟩ hp.c5 hp.c6 hp.l5 hp.l6 hp.l10 hp.n5 hp.n6 hp.m5 hp.m6 hp.m10 nD nD1 (by omega) hZ1 hZ2
  ·rw[sp.2.2.2.2.2.1,Fz];rfl
  ·rw[sp.2.2.2.2.2.2,Fz];rfl
 ·intro Z xs B hS hI _;subst hS;have:=hI.lt h (by simp);omega
 ·rintro c' Z xs B ⟨k,hk⟩ ⟨rfl,pre,Aho,hI⟩ hdf
  have hrg:pre=List.range h:=by
   rw[Aho,List.range_succ] at hk;have:=List.append_inj' hk rfl;have h2:h=k:=by simpa using this.2
   rw[this.1,h2]
  subst hrg;rw[Zx] at hdf ⊢;refine wpIn_exit ?_;simp only[Exit.inBlock,if_true];exact hK Z B hI hdf
end
end
end Go.Proofs.YtpogefhpiaaliaaGreatDoor.Pv
