/-
  The proof of MetadataBodies, part 6.
-/
import Derived.Test.YtpogefhpiaaliaaGreatDoorBE
import Derived.Test.YtpogefhpiaaliaaGreatDoorRows
import Derived.Shelf.Abstract
import Derived.WalkKit
import Derived.OwnWalkIn
import Derived.TacticsInMore
set_option linter.unusedSimpArgs false
set_option linter.unusedVariables false
namespace Go.Proofs.YtpogefhpiaaliaaGreatDoor.Pv
section
open Go.Proofs.Tryz (prog)
open Go.IntKind (wrap)
set_option maxRecDepth 1000000
def XM (s:RS):List PV:=[.lst false 3 s.1.length (Bd s.1),.sc (.bool s.2)]
theorem Anx (x:It)(r:List It):Bd (x::r)=.sc (.int .i64 x.k) :: .sc (.int .u64 x.n) :: .sc (.string x.s)::Bd r:=rfl
section
variable {fu d:Nat}
theorem JI (k:Int)(s:RS):Ad C0 prog fu (d+1) Ou [.pbox (XM s),.sc (.int .i64 k)]=some ⟨[.agg (Bu k s).1.cells],[XM (Bu k s).2]⟩:=by
 refine (X6 fu d s.1.length (Bd s.1) s.2 k).trans ?_;obtain⟨l,b⟩:=s;cases b
 ·cases l with
  |nil=>rfl
  |cons x r=>
   unfold Bu;rw[Bp (by simp)]
   simp only[Anx,H5];have g0:List.getD (PV.sc (.int .i64 x.k) :: .sc (.int .u64 x.n) :: .sc (.string x.s)::Bd r) 0 .top=.sc (.int .i64 x.k):=rfl;have g1:List.getD (PV.sc (.int .i64 x.k) :: .sc (.int .u64 x.n) :: .sc (.string x.s)::Bd r) 1 .top=.sc (.int .u64 x.n):=rfl;have g2:List.getD (PV.sc (.int .i64 x.k) :: .sc (.int .u64 x.n) :: .sc (.string x.s)::Bd r) 2 .top=.sc (.string x.s):=rfl;have g3:List.drop 3 (PV.sc (.int .i64 x.k) :: .sc (.int .u64 x.n) :: .sc (.string x.s)::Bd r)=Bd r:=rfl;have L:=Fj r;have t:List.take (r.length*3) (Bd r)=Bd r:=Jq (by omega)
   have z:(((r.length+1:Nat):Int)==0)=false:=by simp;omega
   have e1:r.length+1-1=r.length:=rfl;by_cases hk:x.k=k
   ·have hn:(x.k != k)=false:=by simp[hk]
    rw[Co hk]
    try unfold Aa
    repeat first
     |((with_reducible first|apply As|apply Ao|apply Ar|apply Az|apply Be|apply Bg|apply A9|apply Am|apply Au|apply At);· first|with_reducible rfl|(simp (disch:=omega) only[gT,z,g0,g1,g2,g3,hn,e1,t]<;>first|with_reducible rfl|omega)|omega)
     |(with_reducible apply Av;· first|with_reducible rfl|(simp (disch:=omega) only[gF,z,g0,g1,g2,g3,hn,e1,t]<;>omega))
    try simp (disch:=omega) only[z,g0,g1,g2,g3,hn,e1,t]
    all_goals rfl
   ·have hn:(x.k != k)=true:=by simp[hk]
    rw[Bp hk]
    try unfold Aa
    repeat first
     |((with_reducible first|apply As|apply Ao|apply Ar|apply Az|apply Be|apply Bg|apply A9|apply Am|apply Au|apply At);· first|with_reducible rfl|(simp (disch:=omega) only[gT,z,g0,g1,g2,g3,hn]<;>first|with_reducible rfl|omega)|omega)
     |(with_reducible apply Av;· first|with_reducible rfl|(simp (disch:=omega) only[gF,z,g0,g1,g2,g3,hn]<;>omega))
    try simp (disch:=omega) only[z,g0,g1,g2,g3,hn]
    all_goals rfl
 ·rfl
theorem DU (s:RS):Ad C0 prog fu (d+2) Mm [.pbox (XM s)]=some ⟨[.sc (.int .u64 (Bu 1 s).1.n)],[XM (Bu 1 s).2]⟩:=by
 refine (V3 fu (d+1) s.1.length (Bd s.1) s.2).trans ?_;have t:=JI (fu:=fu) (d:=d) 1 s;simp only[XM,It.cells] at t ⊢
 try unfold Aa
 repeat first
  |((with_reducible first|apply As|apply Ao|apply Ar|apply Az|apply Be|apply Bg|apply A9|apply Am|apply Au|apply At);· first|with_reducible rfl|(simp (disch:=omega) only[gT,t]<;>first|with_reducible rfl|omega)|omega)
  |(with_reducible apply Av;· first|with_reducible rfl|(simp (disch:=omega) only[gF,t]<;>omega))
 try simp (disch:=omega) only[t]
theorem Qi (s:RS):Ad C0 prog fu (d+2) N5 [.pbox (XM s)]=some ⟨[.sc (.int .u64 (Bu 5 s).1.n)],[XM (Bu 5 s).2]⟩:=by
 refine (Ys fu (d+1) s.1.length (Bd s.1) s.2).trans ?_;have t:=JI (fu:=fu) (d:=d) 5 s;simp only[XM,It.cells] at t ⊢
 try unfold Aa
 repeat first
  |((with_reducible first|apply As|apply Ao|apply Ar|apply Az|apply Be|apply Bg|apply A9|apply Am|apply Au|apply At);· first|with_reducible rfl|(simp (disch:=omega) only[gT,t]<;>first|with_reducible rfl|omega)|omega)
  |(with_reducible apply Av;· first|with_reducible rfl|(simp (disch:=omega) only[gF,t]<;>omega))
 try simp (disch:=omega) only[t]
def RI (f:Nat)(s:RS):Prop:=s.1.length+2<=f∨(s.2=true∧1<=f)
theorem TF {n:Int}(h:Vd n)(h1:n>0):wrap .u64 (n-1)=n-1∧Vd (n-1):=by
 unfold Vd at *
 exact⟨C3 (by omega) (by omega),by omega⟩
theorem Aoa (a:List An)(x:An):Dh a++[.sc (.string x.name),.sc (.int .i64 x.key.h),.sc (.int .u64 x.key.root)]=Dh (a++[x]):=by
 unfold Dh;rw[List.flatMap_append,List.flatMap_cons,List.flatMap_nil,List.append_nil];rfl
theorem Am0 (a:List Sa)(x:Sa):Dw a++[.sc (.int .i64 x.kd),.sc (.int .i64 x.at_)]=Dw (a++[x]):=by
 unfold Dw;rw[List.flatMap_append,List.flatMap_cons,List.flatMap_nil,List.append_nil];rfl
theorem Az2 {Al:Nat}{Ag:List PV}{Ai:Bool}{mo:Int}{A:List An}(hA:A.length<=3000):∀(f nn:Nat)(n:Int)(s:RS)(B:List Sa),RI f s->f<nn->Vd n->LG s.1->B.length+f<=3000 ->
  Df fu (Ad C0 prog fu (d+2)) Al Ag Ai nn n s.1.length (Bd s.1) s.2 0 0 0 [] [] mo A.length B.length (Dh A) (Dw B) =
   some ⟨[.agg (Me.mk mo A (B++(Q6 f n s).1)).cells],[XM (Q6 f n s).2]⟩
 |0,_,n,s,_,h,_,_,_,_=>by unfold RI at h;omega
 |f+1,0,_,_,_,_,h,_,_,_=>by omega
 |f+1,nn+1,n,s,B,hr,hn,hu,ho,hB=>by
  have LA:=Sq A;have LB:=DV B;have tA:List.take (A.length*3) (Dh A)=Dh A:=Jq (by omega)
  have tB:List.take (B.length*2) (Dw B)=Dw B:=Jq (by omega)
  have ex:¬(n>0∧s.2=false)->(Me.mk mo A (B++(Q6 (f+1) n s).1))=Me.mk mo A B∧(Q6 (f+1) n s).2=s:=fun h=>by
   unfold Q6;rw[Bp h];exact⟨by simp,rfl⟩
  obtain⟨l,b⟩:=s;rw[Pq];by_cases h0:n>0
  rotate_left
  ·obtain⟨e1,e2⟩:=ex (fun h=>h0 h.1)
   rw[e1,e2];simp only[XM,Me.cells]
   try unfold Aa
   repeat first
    |((with_reducible first|apply As|apply Ao|apply Ar|apply Az|apply Be|apply Bg|apply A9|apply Am|apply Au|apply At);· first|with_reducible rfl|(simp (disch:=omega) only[gT,LA,LB,tA,tB,Cv,Dt]<;>first|with_reducible rfl|omega)|omega)
    |(with_reducible apply Av;· first|with_reducible rfl|(simp (disch:=omega) only[gF,LA,LB,tA,tB,Cv,Dt]<;>omega))
   try simp (disch:=omega) only[LA,LB,tA,tB,Cv,Dt]
   all_goals rfl
  cases b
  rotate_left
  ·obtain⟨e1,e2⟩:=ex (fun h=>by cases h.2)
   rw[e1,e2];simp only[XM,Me.cells]
   try unfold Aa
   repeat first
    |((with_reducible first|apply As|apply Ao|apply Ar|apply Az|apply Be|apply Bg|apply A9|apply Am|apply Au|apply At);· first|with_reducible rfl|(simp (disch:=omega) only[gT,LA,LB,tA,tB,Cv,Dt,Dc,Hg]<;>first|with_reducible rfl|omega)|omega)
    |(with_reducible apply Av;· first|with_reducible rfl|(simp (disch:=omega) only[gF,LA,LB,tA,tB,Cv,Dt,Dc,Hg]<;>omega))
   try simp (disch:=omega) only[LA,LB,tA,tB,Cv,Dt,Dc,Hg]
   all_goals rfl
  clear ex;obtain⟨wd,ud⟩:=TF hu h0;obtain⟨k2,k3,k4⟩:=Ara (s:=(l,false)) ho
  have ih:=Az2 (Al:=Al) (Ag:=Ag) (Ai:=Ai) (mo:=mo) hA f nn (n-1) (XL (l,false)).2 (B++[(XL (l,false)).1]) (by
   unfold RI at hr ⊢;simp only at hr k4;cases q:(XL (l,false)).2.2
   ·have:=k4 q;simp at hr;omega
   ·simp at hr;right;exact⟨rfl,by omega⟩) (by omega) ud k2 (by rw[Hi,List.length_singleton];omega)
  have es:Q6 (f+1) n (l,false)=((XL (l,false)).1::(Q6 f (n-1) (XL (l,false)).2).1,(Q6 f (n-1) (XL (l,false)).2).2):=by
   rw[Q6,Co ⟨h0,rfl⟩]
  have eB:B++(Q6 (f+1) n (l,false)).1=(B++[(XL (l,false)).1])++(Q6 f (n-1) (XL (l,false)).2).1:=by rw[es];simp
  have e2:(Q6 (f+1) n (l,false)).2=(Q6 f (n-1) (XL (l,false)).2).2:=by rw[es]
  have lB:(B++[(XL (l,false)).1]).length=B.length+1:=by rw[Hi];rfl
  rw[eB,e2];rw[lB] at ih;rw[←ih];clear ih es eB e2;have o1:=Qi (fu:=fu) (d:=d) (l,false);have o2:=DU (fu:=fu) (d:=d) (Bu 5 (l,false)).2;have o3:=DU (fu:=fu) (d:=d) (Bu 1 (Bu 5 (l,false)).2).2;have ea:=Am0 B (XL (l,false)).1;simp only[XL] at ea ⊢;simp only[XM] at o1 o2 o3;generalize Dw (B++[_])=B' at *
  generalize Bu 1 (Bu 1 (Bu 5 (l,false)).2).2=u3 at *
  generalize Bu 1 (Bu 5 (l,false)).2=u2 at *
  generalize Bu 5 (l,false)=u1 at *
  try unfold Aa
  repeat first
   |((with_reducible first|apply As|apply Ao|apply Ar|apply Az|apply Be|apply Bg|apply A9|apply Am|apply Au|apply At);· first|with_reducible rfl|(simp (disch:=omega) only[gT,o1,o2,o3,wd,LB,tB,ea,Dc,Hg]<;>first|with_reducible rfl|omega)|omega)
   |(with_reducible apply Av;· first|with_reducible rfl|(simp (disch:=omega) only[gF,o1,o2,o3,wd,LB,tB,ea,Dc,Hg]<;>omega))
  try simp (disch:=omega) only[o1,o2,o3,wd,LB,tB,ea,Dc,Hg]
  all_goals rfl
theorem A1k (B5:2000<=fu){Al:Nat}{Ag:List PV}{Ai:Bool}{mo:Int}:∀(f nn:Nat)(n:Int)(s:RS)(A:List An),RI f s->f<nn->Vd n->LG s.1->A.length+f<=3000 ->
  D6 fu (Ad C0 prog fu (d+2)) Al Ag Ai nn n s.1.length (Bd s.1) s.2 0 0 0 [] [] mo A.length 0 (Dh A) [] =
   Df fu (Ad C0 prog fu (d+2)) Al Ag Ai fu (Bu 5 (Ns f n s).2).1.n (Bu 5 (Ns f n s).2).2.1.length (Bd (Bu 5 (Ns f n s).2).2.1) (Bu 5 (Ns f n s).2).2.2 0 0 0 [] [] mo (A++(Ns f n s).1).length 0 (Dh (A++(Ns f n s).1)) []
 |0,_,n,s,_,h,_,_,_,_=>by unfold RI at h;omega
 |f+1,0,_,_,_,_,h,_,_,_=>by omega
 |f+1,nn+1,n,s,A,hr,hn,hu,ho,hB=>by
  have LA:=Sq A;have tA:List.take (A.length*3) (Dh A)=Dh A:=Jq (by omega)
  have ex:¬(n>0∧s.2=false)->A++(Ns (f+1) n s).1=A∧(Ns (f+1) n s).2=s:=fun h=>by
   unfold Ns;rw[Bp h];exact⟨by simp,rfl⟩
  obtain⟨l,b⟩:=s;rw[Pk];by_cases h0:n>0
  rotate_left
  ·obtain⟨e1,e2⟩:=ex (fun h=>h0 h.1)
   rw[e1,e2];have o1:=Qi (fu:=fu) (d:=d) (l,b);simp only[XM] at o1
   try unfold Aa
   repeat first
    |((with_reducible first|apply As|apply Ao|apply Ar|apply Az|apply Be|apply Bg|apply A9|apply Am|apply Au|apply At);· first|with_reducible rfl|(simp (disch:=omega) only[gT,o1]<;>first|with_reducible rfl|omega)|omega)
    |(with_reducible apply Av;· first|with_reducible rfl|(simp (disch:=omega) only[gF,o1]<;>omega))
   try simp (disch:=omega) only[o1]
   all_goals rfl
  cases b
  rotate_left
  ·obtain⟨e1,e2⟩:=ex (fun h=>by cases h.2)
   rw[e1,e2];have o1:=Qi (fu:=fu) (d:=d) (l,true);simp only[XM] at o1
   try unfold Aa
   repeat first
    |((with_reducible first|apply As|apply Ao|apply Ar|apply Az|apply Be|apply Bg|apply A9|apply Am|apply Au|apply At);· first|with_reducible rfl|(simp (disch:=omega) only[gT,o1,Dc,Hg]<;>first|with_reducible rfl|omega)|omega)
    |(with_reducible apply Av;· first|with_reducible rfl|(simp (disch:=omega) only[gF,o1,Dc,Hg]<;>omega))
   try simp (disch:=omega) only[o1,Dc,Hg]
   all_goals rfl
  clear ex;obtain⟨wd,ud⟩:=TF hu h0;obtain⟨k1,k2,k3,k4⟩:=Aql (s:=(l,false)) ho
  have ih:=A1k B5 (Al:=Al) (Ag:=Ag) (Ai:=Ai) (mo:=mo) f nn (n-1) (RZ (l,false)).2 (A++[(RZ (l,false)).1]) (by
   unfold RI at hr ⊢;simp only at hr k4;cases q:(RZ (l,false)).2.2
   ·have:=k4 q;simp at hr;omega
   ·simp at hr;right;exact⟨rfl,by omega⟩) (by omega) ud k2 (by rw[Hi,List.length_singleton];omega)
  have es:Ns (f+1) n (l,false)=((RZ (l,false)).1::(Ns f (n-1) (RZ (l,false)).2).1,(Ns f (n-1) (RZ (l,false)).2).2):=by
   rw[Ns,Co ⟨h0,rfl⟩]
  have eA:A++(Ns (f+1) n (l,false)).1=(A++[(RZ (l,false)).1])++(Ns f (n-1) (RZ (l,false)).2).1:=by rw[es];simp
  have e2:(Ns (f+1) n (l,false)).2=(Ns f (n-1) (RZ (l,false)).2).2:=by rw[es]
  have lA:(A++[(RZ (l,false)).1]).length=A.length+1:=by rw[Hi];rfl
  rw[eA,e2];generalize Ns f (n-1) (RZ (l,false)).2=qq at *
  rw[←ih,lA];clear ih es eA e2;obtain⟨_,_,a3,a4,a5⟩:=Dp (k:=5) (s:=(l,false)) ho;obtain⟨_,b2,b3,b4,b5⟩:=Dp (k:=4) a3;obtain⟨_,hs4,c3,c4,c5⟩:=Dp (k:=3) b3;have o1:=Qi (fu:=fu) (d:=d) (l,false);have o2:=JI (fu:=fu) (d:=d+1) 4 (Bu 5 (l,false)).2;have o3:=JI (fu:=fu) (d:=d+1) 3 (Bu 4 (Bu 5 (l,false)).2).2;have ea:=Aoa A (RZ (l,false)).1;simp only[RZ] at ea ⊢;simp only[XM,It.cells] at o1 o2 o3;generalize Bu 3 (Bu 4 (Bu 5 (l,false)).2).2=u3 at *
  generalize Bu 4 (Bu 5 (l,false)).2=u2 at *
  generalize Bu 5 (l,false)=u1 at *
  have L4:(Ew u3.1.s).length=u3.1.s.size:=by rw[Qk,Aq,Ti]
  have t4:List.take u3.1.s.size (Ew u3.1.s)=Af .u8 (Mx u3.1.s):=by rw[Qk,Jq (by rw[Aq,Ti];omega)]
  have dk:=Ape (xs:=Ni) (fu:=fu) (d:=d) (by omega) (Ajd u3.1.s)
  rw[Ti] at dk;have e00:((0:Int) != 0)=false:=rfl;have e20:((2:Int) != 0)=true:=rfl;unfold At7 at ea ⊢;cases hk:WB (Mx u3.1.s) with
  |none=>
   rw[hk] at dk;simp only[Aj6,Ky.cells] at dk;simp only[hk,Option.getD_none,Option.isNone_none,Bool.or_true] at ea ⊢;generalize Dh (A++[_])=A' at *
   try unfold Aa
   repeat first
    |((with_reducible first|apply As|apply Ao|apply Ar|apply Az|apply Be|apply Bg|apply A9|apply Am|apply Au|apply At);· first|with_reducible rfl|(simp (disch:=omega) only[gT,o1,o2,o3,L4,t4,dk,e20,wd,LA,tA,ea,Dr,Cv,Dt,Dc,Hg]<;>first|with_reducible rfl|omega)|omega)
    |(with_reducible apply Av;· first|with_reducible rfl|(simp (disch:=omega) only[gF,o1,o2,o3,L4,t4,dk,e20,wd,LA,tA,ea,Dr,Cv,Dt,Dc,Hg]<;>omega))
   try simp (disch:=omega) only[o1,o2,o3,L4,t4,dk,e20,wd,LA,tA,ea,Dr,Cv,Dt,Dc,Hg]
   all_goals rfl
  |some k=>
   rw[hk] at dk;simp only[Aj6,Ky.cells] at dk;simp only[hk,Option.getD_some,Option.isNone_some,Bool.or_false] at ea ⊢;generalize Dh (A++[_])=A' at *
   try unfold Aa
   repeat first
    |((with_reducible first|apply As|apply Ao|apply Ar|apply Az|apply Be|apply Bg|apply A9|apply Am|apply Au|apply At);· first|with_reducible rfl|(simp (disch:=omega) only[gT,o1,o2,o3,L4,t4,dk,e00,wd,LA,tA,ea,Dr,Cv,Dt,Dc,Hg]<;>first|with_reducible rfl|omega)|omega)
    |(with_reducible apply Av;· first|with_reducible rfl|(simp (disch:=omega) only[gF,o1,o2,o3,L4,t4,dk,e00,wd,LA,tA,ea,Dr,Cv,Dt,Dc,Hg]<;>omega))
   try simp (disch:=omega) only[o1,o2,o3,L4,t4,dk,e00,wd,LA,tA,ea,Dr,Cv,Dt,Dc,Hg]
   all_goals rfl
theorem Axz (B5:2000<=fu){s:RS}(ho:LG s.1)(hl:s.1.length<=1000):Ad C0 prog fu (d+3) Km [.pbox (XM s)]=some ⟨[.agg (Oc s).1.cells],[XM (Oc s).2]⟩:=by
 refine (Sf fu (d+2) s.1.length (Bd s.1) s.2).trans ?_;obtain⟨_,_,a3,a4,a5⟩:=Dp (k:=5) ho;obtain⟨_,_,b3,b4,b5⟩:=Dp (k:=1) a3;have hA:=Dp (k:=5) b3;have hB:=Adj (f:=s.1.length+2) (n:=(GU s).1.n) (s:=(GU s).2) hA.2.2.1;have hC:=Dp (k:=5) (s:=(EZ s).2) hB.2.2.1;have l1:(GU s).2.1.length<=(Bu 5 s).2.1.length:=Nat.le_trans hA.2.2.2.1 b4;have l2:(EZ s).2.1.length<=(GU s).2.1.length:=hB.2.2.2;have l3:(ED s).2.1.length<=(EZ s).2.1.length:=hC.2.2.2.1;have m1:(EZ s).1.length<=s.1.length+2:=hB.2.1;have r0:=A1k (fu:=fu) (d:=d) B5 (Al:=s.1.length) (Ag:=Bd s.1) (Ai:=s.2) (mo:=(Bu 1 (Bu 5 s).2).1.n) (s.1.length+2) fu (GU s).1.n (GU s).2 [] (by unfold RI;left;omega) (by omega) hA.1 hA.2.2.1 (by simp only[Ye];omega)
 have r1:=Az2 (fu:=fu) (d:=d) (Al:=s.1.length) (Ag:=Bd s.1) (Ai:=s.2) (mo:=(Bu 1 (Bu 5 s).2).1.n) (A:=(EZ s).1) (by omega) (s.1.length+2) fu (ED s).1.n (ED s).2 [] (by unfold RI;left;omega) (by omega) hC.1 hC.2.2.1 (by simp only[Ye];omega)
 have r2:=r0.trans r1;have o1:=Qi (fu:=fu) (d:=d) s;have o2:=DU (fu:=fu) (d:=d) (Bu 5 s).2;have o3:=Qi (fu:=fu) (d:=d) (Bu 1 (Bu 5 s).2).2;simp only[XM] at o1 o2 o3;have eR:(some ⟨[.agg (Oc s).1.cells],[XM (Oc s).2]⟩:Option A4)=some ⟨[.agg (Me.mk (Bu 1 (Bu 5 s).2).1.n (EZ s).1 ([]++(Q6 (s.1.length+2) (ED s).1.n (ED s).2).1)).cells],[XM (Q6 (s.1.length+2) (ED s).1.n (ED s).2).2]⟩:=rfl;rw[eR,←r2];clear r0 r1 r2 eR
 try unfold Aa
 repeat first
  |((with_reducible first|apply As|apply Ao|apply Ar|apply Az|apply Be|apply Bg|apply A9|apply Am|apply Au|apply At);· first|with_reducible rfl|(simp (disch:=omega) only[gT,o1,o2,o3]<;>first|with_reducible rfl|omega)|omega)
  |(with_reducible apply Av;· first|with_reducible rfl|(simp (disch:=omega) only[gF,o1,o2,o3]<;>omega))
 try simp (disch:=omega) only[o1,o2,o3]
 all_goals rfl
theorem A1t (B5:2000<=fu){Bq:Nat}{a0:List PV}{v i x:Int}:∀(f nn:Nat)(n:Int)(s:RS)(A:List Me),RI f s->f<nn->Vd n->LG s.1->s.1.length<=1000->A.length+f<=3000 ->
  Id fu (Ad C0 prog fu (d+3)) Bq a0 nn n 0 0 0 0 0 0 0 [] [] [] s.1.length (Bd s.1) s.2 v i x A.length 0 0 0 (Ca A) [] [] =
   some ⟨[.agg (Md.mk v i x (A++(Iy f n s).1) sg0).cells,.sc (.bool (!(Iy f n s).2.2&&(((Iy f n s).2.1.length:Int)==0)))],[]⟩
 |0,_,n,s,_,h,_,_,_,_,_=>by unfold RI at h;omega
 |f+1,0,_,_,_,_,h,_,_,_,_=>by omega
 |f+1,nn+1,n,s,A,hr,hn,hu,ho,hl,hB=>by
  have LA:=Pi A;have tA:List.take (A.length*3) (Ca A)=Ca A:=Jq (by omega)
  have ex:¬(n>0∧s.2=false)->A++(Iy (f+1) n s).1=A∧(Iy (f+1) n s).2=s:=fun h=>by
   unfold Iy;rw[Bp h];exact⟨by simp,rfl⟩
  obtain⟨l,b⟩:=s;rw[Yg];by_cases h0:n>0
  rotate_left
  ·obtain⟨e1,e2⟩:=ex (fun h=>h0 h.1)
   rw[e1,e2];simp only[Md.cells];cases b
   ·skip
    try unfold Aa
    repeat first
     |((with_reducible first|apply As|apply Ao|apply Ar|apply Az|apply Be|apply Bg|apply A9|apply Am|apply Au|apply At);· first|with_reducible rfl|(simp (disch:=omega) only[gT,LA,tA,Cv,Dt,Dc,Hg]<;>first|with_reducible rfl|omega)|omega)
     |(with_reducible apply Av;· first|with_reducible rfl|(simp (disch:=omega) only[gF,LA,tA,Cv,Dt,Dc,Hg]<;>omega))
    try simp (disch:=omega) only[LA,tA,Cv,Dt,Dc,Hg]
    all_goals rfl
   ·skip
    try unfold Aa
    repeat first
     |((with_reducible first|apply As|apply Ao|apply Ar|apply Az|apply Be|apply Bg|apply A9|apply Am|apply Au|apply At);· first|with_reducible rfl|(simp (disch:=omega) only[gT,LA,tA,Cv,Dt,Dc,Hg]<;>first|with_reducible rfl|omega)|omega)
     |(with_reducible apply Av;· first|with_reducible rfl|(simp (disch:=omega) only[gF,LA,tA,Cv,Dt,Dc,Hg]<;>omega))
    try simp (disch:=omega) only[LA,tA,Cv,Dt,Dc,Hg]
    all_goals rfl
  cases b
  rotate_left
  ·obtain⟨e1,e2⟩:=ex (fun h=>by cases h.2)
   rw[e1,e2];simp only[Md.cells]
   try unfold Aa
   repeat first
    |((with_reducible first|apply As|apply Ao|apply Ar|apply Az|apply Be|apply Bg|apply A9|apply Am|apply Au|apply At);· first|with_reducible rfl|(simp (disch:=omega) only[gT,LA,tA,Cv,Dt,Dc,Hg]<;>first|with_reducible rfl|omega)|omega)
    |(with_reducible apply Av;· first|with_reducible rfl|(simp (disch:=omega) only[gF,LA,tA,Cv,Dt,Dc,Hg]<;>omega))
   try simp (disch:=omega) only[LA,tA,Cv,Dt,Dc,Hg]
   all_goals rfl
  clear ex;obtain⟨wd,ud⟩:=TF hu h0;obtain⟨k1,k2,k3,_⟩:=Acy (s:=(l,false)) ho hl;have k4:=Atw (s:=(l,false)) ho hl
  have ih:=A1t B5 (Bq:=Bq) (a0:=a0) (v:=v) (i:=i) (x:=x) f nn (n-1) (Oc (l,false)).2 (A++[(Oc (l,false)).1]) (by
   unfold RI at hr ⊢;simp only at hr k4;cases q:(Oc (l,false)).2.2
   ·have:=k4 q;simp at hr;omega
   ·simp at hr;right;exact⟨rfl,by omega⟩) (by omega) ud k2 (by simp only at k3 hl;omega) (by rw[Hi,List.length_singleton];omega)
  have es:Iy (f+1) n (l,false)=((Oc (l,false)).1::(Iy f (n-1) (Oc (l,false)).2).1,(Iy f (n-1) (Oc (l,false)).2).2):=by
   rw[Iy,Co ⟨h0,rfl⟩]
  have eA:A++(Iy (f+1) n (l,false)).1=(A++[(Oc (l,false)).1])++(Iy f (n-1) (Oc (l,false)).2).1:=by rw[es];simp
  have e2:(Iy (f+1) n (l,false)).2=(Iy f (n-1) (Oc (l,false)).2).2:=by rw[es]
  have lA:(A++[(Oc (l,false)).1]).length=A.length+1:=by rw[Hi];rfl
  rw[eA,e2];rw[←ih,lA];clear ih es eA e2;have o1:=Axz (fu:=fu) (d:=d) B5 (s:=(l,false)) ho hl;have ea:=DP A (Oc (l,false)).1;simp only[XM,Me.cells] at o1;generalize Oc (l,false)=u at *
  generalize Ca (A++[_])=A' at *
  try unfold Aa
  repeat first
   |((with_reducible first|apply As|apply Ao|apply Ar|apply Az|apply Be|apply Bg|apply A9|apply Am|apply Au|apply At);· first|with_reducible rfl|(simp (disch:=omega) only[gT,o1,wd,LA,tA,ea,Dc,Hg]<;>first|with_reducible rfl|omega)|omega)
   |(with_reducible apply Av;· first|with_reducible rfl|(simp (disch:=omega) only[gF,o1,wd,LA,tA,ea,Dc,Hg]<;>omega))
  try simp (disch:=omega) only[o1,wd,LA,tA,ea,Dc,Hg]
  all_goals rfl
theorem Ax3 (B5:2000<=fu){l:List It}(ho:LG l)(hl:l.length<=1000):Ad C0 prog fu (d+4) Rl [.lst false 3 l.length (Bd l)]=some ⟨[.agg (KK l).1.cells,.sc (.bool (KK l).2)],[]⟩:=by
 refine (EY fu (d+3) l.length (Bd l)).trans ?_;obtain⟨_,_,_,_,_,_,_,_,q1,q2⟩:=Acp ho hl;have h0:=Dp (k:=5) (s:=(l,false)) ho;have hA:=Dp (k:=1) h0.2.2.1;have hB:=Dp (k:=1) (s:=(HP l).2) hA.2.2.1;have hC:=Dp (k:=1) (s:=(HE l).2) hB.2.2.1;have hD:=Dp (k:=5) (s:=(GC l).2) hC.2.2.1;have r0:=A1t (fu:=fu) (d:=d) B5 (Bq:=l.length) (a0:=Bd l) (v:=wrap .i64 (HP l).1.n) (i:=wrap .i64 (HE l).1.n) (x:=wrap .i64 (GC l).1.n) (l.length+2) fu (Zx l).1.n (Zx l).2 [] (by unfold RI;left;omega) (by omega) hD.1 q1 (by omega) (by simp only[Ye];omega)
 have o1:=Qi (fu:=fu) (d:=d+1) (l,false);have o2:=DU (fu:=fu) (d:=d+1) (Bu 5 (l,false)).2;have o3:=DU (fu:=fu) (d:=d+1) (HP l).2;have o4:=DU (fu:=fu) (d:=d+1) (HE l).2;have o5:=Qi (fu:=fu) (d:=d+1) (GC l).2;have eA:Bu 1 (Bu 5 (l,false)).2=HP l:=rfl;have eB:Bu 1 (HP l).2=HE l:=rfl;have eC:Bu 1 (HE l).2=GC l:=rfl;have eD:Bu 5 (GC l).2=Zx l:=rfl;rw[eA] at o2;rw[eB] at o3;rw[eC] at o4;rw[eD] at o5;simp only[XM] at o1 o2 o3 o4 o5;have eR:(some ⟨[.agg (KK l).1.cells,.sc (.bool (KK l).2)],[]⟩:Option A4)=some ⟨[.agg (Md.mk (wrap .i64 (HP l).1.n) (wrap .i64 (HE l).1.n) (wrap .i64 (GC l).1.n) ([]++(Iy (l.length+2) (Zx l).1.n (Zx l).2).1) sg0).cells,.sc (.bool (!(Iy (l.length+2) (Zx l).1.n (Zx l).2).2.2&&(((Iy (l.length+2) (Zx l).1.n (Zx l).2).2.1.length:Int)==0)))],[]⟩:=rfl
 rw[eR,←r0];clear r0 eR
 try unfold Aa
 repeat first
  |((with_reducible first|apply As|apply Ao|apply Ar|apply Az|apply Be|apply Bg|apply A9|apply Am|apply Au|apply At);· first|with_reducible rfl|(simp (disch:=omega) only[gT,o1,o2,o3,o4,o5]<;>first|with_reducible rfl|omega)|omega)
  |(with_reducible apply Av;· first|with_reducible rfl|(simp (disch:=omega) only[gF,o1,o2,o3,o4,o5]<;>omega))
 try simp (disch:=omega) only[o1,o2,o3,o4,o5]
 all_goals rfl
end
end
section
open Go.IntKind (wrap)
structure Md.ok (m:Md):Prop where
 ent:∀x∈m.ents,Vd x.model∧x.rts
 sg:m.sig.ok
theorem Md.ok.wf {m:Md}(h:m.ok):m.wf:=⟨fun x hx=>(h.ent x hx).1.1⟩
def Anp (b:List Int)(used:Nat)(r:Md × Bool):Md × Int:=if r.2=false then (NG,2) else match sgD (b.drop used) with
 |none=>(NG,2)
 |some s=>if Ej { r.1 with sig:=s }=0∧Gy { r.1 with sig:=s }=b then ({ r.1 with sig:=s },0) else (NG,2)
def Rh (P:List It->Md × Bool)(b:List Int)(r:List It × Nat × Int):Md × Int:=if b.length>4096 then (NG,8) else if r.2.2≠0 then (NG,2) else Anp b r.2.1 (P r.1)
def Sd (b:List Int):Md × Int:=Rh KK b (Kj 1000 [] 0 b 0 [])
def Jp (l:List It):Prop:=∀x∈l,Vd x.n
theorem Jp.app {a b:List It}(ha:Jp a)(hb:Jp b):Jp (a++b):=fun x hx=>(List.mem_append.1 hx).elim (ha x) (hb x)
theorem Jp.cons {x:It}{l:List It}(h:Vd x.n)(hl:Jp l):Jp (x::l):=fun y hy=>by
 rcases List.mem_cons.1 hy with rfl|hy
 ·exact h
 ·exact hl y hy
theorem Jp.nil:Jp []:=fun x hx=>by cases hx
theorem Jp.flat {α:Type}{f:α->List It}{l:List α}(h:∀x∈l,Jp (f x)):Jp (l.map f).flatten:=fun y hy=>by
 obtain⟨v,hv,hy⟩:=List.mem_flatten.1 hy;obtain⟨x,hx,rfl⟩:=List.mem_map.1 hv;exact h x hx y hy
theorem Acv {n:Nat}(h:n<=1000):Vd (n:Int):=⟨by omega,by omega⟩
theorem Ue {n:Int}(h:0<=n)(h1:n<=1099511627776):Vd n:=⟨h,by omega⟩
theorem Ayc (a:An):Jp (C9 a):=by
 refine Jp.cons (Ue (by show (0:Int)<=2;omega) (by show (2:Int)<=_;omega)) (Jp.cons (Ue (by show (0:Int)<=0;omega) (by show (0:Int)<=_;omega)) (Jp.cons (Ue (by show (0:Int)<=0;omega) (by show (0:Int)<=_;omega)) Jp.nil))
theorem Azm {s:Sa}(h:1<=s.kd∧s.kd<=4∧0<=s.at_∧s.at_<=1099511627776):Jp (Da s):=by
 refine Jp.cons (Ue (by show (0:Int)<=2;omega) (by show (2:Int)<=_;omega)) (Jp.cons (Ue (by show (0:Int)<=s.kd;omega) (by show s.kd<=_;omega)) (Jp.cons (Ue (by show (0:Int)<=s.at_;omega) (by show s.at_<=_;omega)) Jp.nil))
theorem Avj {x:Me}(hm:Vd x.model)(h:Db x=0):Jp (Bb x):=by
 obtain⟨h1,h2,h3,h4⟩:=W0 h;have e:=NC x [];rw[List.append_nil] at e;rw[e];refine Jp.cons (Ue (by show (0:Int)<=3;omega) (by show (3:Int)<=_;omega)) (Jp.cons hm (Jp.cons (Acv (by omega)) (Jp.app (Jp.flat fun a ha=>Ayc a) (Jp.cons (Acv (by omega)) (Jp.app (Jp.flat fun s hs=>Azm (LJ h4 s hs)) Jp.nil)))))
theorem Amy {m:Md}(hm:∀x∈m.ents,Vd x.model)(h:B0 m=0):Jp (Ba m):=by
 obtain⟨h1,h2,h3,h4,h5,h6,h7⟩:=P2 h;rw[GQ];exact Jp.cons (Ue (by show (0:Int)<=4;omega) (by show (4:Int)<=_;omega)) (Jp.cons (Ue (by show (0:Int)<=m.ver;omega) (by show m.ver<=_;omega)) (Jp.cons (Ue (by show (0:Int)<=m.iss;omega) (by show m.iss<=_;omega)) (Jp.cons (Ue (by show (0:Int)<=m.nxt;omega) (by show m.nxt<=_;omega)) (Jp.cons (Acv (by omega)) (Jp.flat fun x hx=>Avj (hm x hx) (Su h7 x hx))))))
theorem Ls {m:Md}(h:Ej m=0):B0 m=0∧D8 m.sig.path.length=false∧J1 m.sig.leaf m.sig.path.length=false∧m.sig.chains.length=18:=by
 unfold Ej at h;by_cases h0:B0 m=0
 ·rw[Co h0] at h;unfold NN at h;split at h
  ·cases h
  ·split at h
   ·cases h
   ·split at h
    ·cases h
    ·exact⟨h0,by simp_all,by simp_all,by simp_all⟩
 ·rw[Bp h0] at h;exact absurd h h0
theorem Aes {m:Md}(hc:m.ok)(h:Ej m=0){k:Nat}(hk:500<k):Kj k [] 0 (Gy m) 0 []=(Ba m,(Bx (Ba m)).length,0):=by
 have h0:=(Ls h).1;obtain⟨vm,fm,lm⟩:=W6 hc.wf h0;have r:=Abg (b:=Gy m) (rest:=To m.sig) (Ba m) [] 0 0 k [] (vm.goods (by omega) (by simp[Ba]) (by omega)) (fun x hx=>Amy (fun x hx=>(hc.ent x hx).1) h0 x hx) rfl (by omega)
 simpa using r
theorem Auk {m:Md}(hc:m.ok)(h:Ej m=0):Anp (Gy m) (Bx (Ba m)).length ({ m with sig:=sg0 },true)=(m,0):=by
 obtain⟨h0,h1,h2,h3⟩:=Ls h;have e:(Gy m).drop (Bx (Ba m)).length=To m.sig:=by unfold Gy;rw[List.drop_left]
 unfold Anp;rw[Bp (by simp),e,Aw2 hc.sg h1 h2 h3]
 simp only;rw[Co ⟨h,by trivial⟩]
theorem Aol {b:List Int}{used:Nat}{r:Md × Bool}(hr:∀x∈r.1.ents,Vd x.model∧x.rts)(hn:∀m:Md,m.ok->Ej m=0->Gy m≠b):Anp b used r=(NG,2):=by
 unfold Anp;split
 ·rfl
 ·split
  ·rfl
  ·rename_i s hs;rw[Bp];intro ⟨h1,h2⟩;exact hn { r.1 with sig:=s } ⟨hr,(Aq0 hs).1⟩ h1 h2
theorem Aun {x:Me}(h:okM x):Vd x.model∧x.rts:=⟨h.1,fun a ha=>(h.2.1 a ha).1⟩
theorem Abq {b:List Int}(hb:M3 b):∀(k:Nat)(l:List H8)(cnt:Int)(at_:Nat)(its:List It),at_<=b.length->(its.length:Int)=cnt->its.length<=512->(Kj k l cnt b at_ its).1.length<=512
 |0,l,cnt,at_,its,h,hi,h5=>by simp[Kj]
 |k+1,l,cnt,at_,its,h,hi,h5=>by
  unfold Kj;by_cases hd:UZ l cnt=true
  ·rw[Co hd];exact h5
  ·rw[Bp hd];by_cases he:(Hc l cnt b at_).e=0
   ·rw[Bp (by simp[he])]
    obtain⟨c1,c2,_,_,p,q⟩:=NP hb h he;exact Abq hb k _ _ _ _ p (by rw[c2,Hi,List.length_singleton];omega) (by rw[Hi,List.length_singleton];omega)
   ·rw[Co he];simp
structure Rdr (P:List It->Md × Bool):Prop where
 ok:∀l,LG l->l.length<=1000->∀x∈(P l).1.ents,Vd x.model∧x.rts
 hit:∀m:Md,m.ok->B0 m=0->P (Ba m)=({ m with sig:=sg0 },true)
theorem Are:Rdr KK:=⟨fun l h hl x hx=>Aun ((Acp h hl).1 x hx),fun m hm h=>Aqx h (fun x hx=>(hm.ent x hx).2)⟩
theorem VO {P:List It->Md × Bool}(hP:Rdr P){m:Md}(hc:m.ok)(h:Ej m=0)(hl:(Gy m).length<=4096):Rh P (Gy m) (Ba m,(Bx (Ba m)).length,0)=(m,0):=by
 unfold Rh;rw[Bp (by omega),Bp (by simp)]
 simp only;rw[hP.hit m hc (Ls h).1];exact Auk hc h
theorem OP {P:List It->Md × Bool}(hP:Rdr P){b:List Int}(hl:b.length<=4096){r:List It × Nat × Int}(hx:LG r.1)(h5:r.1.length<=1000)(hn:∀m:Md,m.ok->Ej m=0->Gy m≠b):Rh P b r=(NG,2):=by
 unfold Rh;rw[Bp (by omega)]
 split
 ·rfl
 ·exact Aol (hP.ok _ hx h5) hn
theorem AU {b:List Int}(hb:M3 b)(k:Nat):LG (Kj k [] 0 b 0 []).1∧(Kj k [] 0 b 0 []).1.length<=1000∧(Kj k [] 0 b 0 []).2.1<=b.length:=by
 have h:=Ahq hb k [] 0 0 [] (by omega) (by simp)
 exact⟨h.2,Nat.le_trans (Abq hb k [] 0 0 [] (by omega) rfl (by simp)) (by omega),h.1⟩
theorem VB {m:Md}(hc:m.ok)(h:Ej m=0)(hl:(Gy m).length<=4096):Sd (Gy m)=(m,0):=by
 unfold Sd;rw[Aes hc h (by omega)]
 exact VO Are hc h hl
theorem Aa9 {b:List Int}(hb:M3 b)(hl:b.length<=4096)(hn:∀m:Md,m.ok->Ej m=0->Gy m≠b):Sd b=(NG,2):=OP Are hl (AU hb 1000).1 (AU hb 1000).2.1 hn
theorem Aah {b:List Int}(hl:b.length>4096):Sd b=(NG,8):=by
 unfold Sd Rh;rw[Co hl]
theorem Apz {P:List It->Md × Bool}(hP:Rdr P){b:List Int}(hb:M3 b){r:List It × Nat × Int}(hx:LG r.1)(h5:r.1.length<=1000)(hc:∀m:Md,m.ok->Ej m=0->Gy m=b->r=(Ba m,(Bx (Ba m)).length,0)):Rh P b r=Sd b:=by
 by_cases hl:b.length>4096
 ·rw[Aah hl];unfold Rh;rw[Co hl]
 by_cases hex:∃m:Md,m.ok∧Ej m=0∧Gy m=b
 ·obtain⟨m,m1,m2,m3⟩:=hex;have e:=hc m m1 m2 m3;subst m3;rw[VB m1 m2 (by omega),e]
  exact VO hP m1 m2 (by omega)
 ·have hn:∀m:Md,m.ok->Ej m=0->Gy m≠b:=fun m h1 h2 h3=>hex ⟨m,h1,h2,h3⟩
  rw[Aa9 hb (by omega) hn]
  exact OP hP (by omega) hx h5 hn
theorem Atv {b:List Int}(hb:M3 b){k:Nat}(hk:500<k):Rh KK b (Kj k [] 0 b 0 [])=Sd b:=
 Apz Are hb (AU hb k).1 (AU hb k).2.1 (fun m m1 m2 m3=>by subst m3;exact Aes m1 m2 hk)
theorem Ax2 {b:List Int}(hb:M3 b):((Sd b).2=0∧(Sd b).1.ok∧Ej (Sd b).1=0∧Gy (Sd b).1=b∧b.length<=4096)∨(Sd b=(NG,8))∨(Sd b=(NG,2)):=by
 by_cases hl:b.length>4096
 ·exact .inr (.inl (Aah hl))
 by_cases hex:∃m:Md,m.ok∧Ej m=0∧Gy m=b
 ·obtain⟨m,m1,m2,m3⟩:=hex;subst m3;rw[VB m1 m2 (by omega)]
  exact .inl ⟨rfl,m1,m2,rfl,by omega⟩
 ·exact .inr (.inr (Aa9 hb (by omega) fun m h1 h2 h3=>hex ⟨m,h1,h2,h3⟩))
theorem A47:NG.ok:=⟨fun x hx=>(by cases hx),⟨fun x hx=>(by cases hx),fun x hx=>(by cases hx)⟩⟩
end
section
open Go.Proofs.Tryz (prog)
open Go.IntKind (wrap)
set_option maxRecDepth 1000000
section
variable {fu d:Nat}
theorem Ail (B5:20000<=fu){b:List Int}(hb:M3 b)(hl:b.length<=1000000):
  Ad C0 prog fu (d+11) Of [.lst false 1 b.length (Af .u8 b)]=some ⟨[.agg (Rh KK b (Kj fu [] 0 b 0 [])).1.cells,.sc (.int .i64 (Rh KK b (Kj fu [] 0 b 0 [])).2)],[]⟩:=by
 refine (IK fu (d+10) b.length (Af .u8 b)).trans ?_;have dec:=Aon (fu:=fu) (d:=d+5) (by omega) hb hl
 obtain⟨hox,hln,hat⟩:=AU hb fu;generalize Kj fu [] 0 b 0 []=r at dec hat hox hln ⊢;obtain⟨its,used,e⟩:=r;simp only at hat hox hln;unfold Aim at dec;simp only at dec;unfold Rh;simp only;by_cases h5:b.length>4096
 ·rw[Co h5]
  try unfold Aa
  repeat first
   |((with_reducible first|apply As|apply Ao|apply Ar|apply Az|apply Bo|apply Bg|apply A9|apply Am|apply Au|apply At);· first|with_reducible rfl|(simp (disch:=omega) only[gT,Dr]<;>first|with_reducible rfl|omega)|omega)
   |(with_reducible apply Av;· first|with_reducible rfl|(simp (disch:=omega) only[gF,Dr]<;>omega))
  try simp (disch:=omega) only[Dr]
  all_goals rfl
 rw[Bp h5];by_cases he:e=0
 rotate_left
 ·rw[Co he];have he':(e != 0)=true:=by simp[he]
  try unfold Aa
  repeat first
   |((with_reducible first|apply As|apply Ao|apply Ar|apply Az|apply Bo|apply Bg|apply A9|apply Am|apply Au|apply At);· first|with_reducible rfl|(simp (disch:=omega) only[gT,dec,he']<;>first|with_reducible rfl|omega)|omega)
   |(with_reducible apply Av;· first|with_reducible rfl|(simp (disch:=omega) only[gF,dec,he']<;>omega))
  try simp (disch:=omega) only[dec,he']
  all_goals rfl
 rw[Bp (by simp[he])]
 subst he;have e00:((0:Int) != 0)=false:=rfl;have e20:((2:Int) != 0)=true:=rfl;have LT:=Fj its;have tT:List.take (its.length*3) (Bd its)=Bd its:=Jq (by omega)
 have bo:=Ax3 (fu:=fu) (d:=d+6) (by omega) (l:=its) hox hln
 have bk:=(Acp hox hln).1;generalize KK its=p at bo bk ⊢;obtain⟨m,q⟩:=p;simp only at bo bk;simp only[Md.cells] at bo;unfold Anp;simp only;generalize Bd its=T at *
 generalize its.length=nT at *
 cases q
 ·rw[Co rfl]
  try unfold Aa
  repeat first
   |((with_reducible first|apply As|apply Ao|apply Ar|apply Az|apply Bo|apply Bg|apply A9|apply Am|apply Au|apply At);· first|with_reducible rfl|(simp (disch:=omega) only[gT,dec,e00,Dt,Cv,LT,tT,bo,Dc,Hg]<;>first|with_reducible rfl|omega)|omega)
   |(with_reducible apply Av;· first|with_reducible rfl|(simp (disch:=omega) only[gF,dec,e00,Dt,Cv,LT,tT,bo,Dc,Hg]<;>omega))
  try simp (disch:=omega) only[dec,e00,Dt,Cv,LT,tT,bo,Dc,Hg]
  all_goals rfl
 rw[Bp (by simp)]
 have ds:=Am9 (xs:=Ni) (fu:=fu) (d:=d+8) (by omega) (l:=b.drop used) (fun x hx=>hb x (List.mem_of_mem_drop hx))
 rw[List.length_drop] at ds;have tb:List.take (b.length-used) (List.drop used (Af .u8 b))=Af .u8 (b.drop used):=by rw[Lg,Jq (by rw[Aq,List.length_drop];omega)]
 have nu:Int.toNat (used:Int)=used:=Je used;cases hs:sgD (b.drop used) with
 |none=>
  rw[hs] at ds;simp only[Amw,Sg.owned] at ds
  try unfold Aa
  repeat first
   |((with_reducible first|apply As|apply Ao|apply Ar|apply Az|apply Bo|apply Bg|apply A9|apply Am|apply Au|apply At);· first|with_reducible rfl|(simp (disch:=omega) only[gT,dec,e00,e20,Dt,Cv,Dr,LT,tT,bo,nu,tb,ds,Dc,Hg]<;>first|with_reducible rfl|omega)|omega)
   |(with_reducible apply Av;· first|with_reducible rfl|(simp (disch:=omega) only[gF,dec,e00,e20,Dt,Cv,Dr,LT,tT,bo,nu,tb,ds,Dc,Hg]<;>omega))
  try simp (disch:=omega) only[dec,e00,e20,Dt,Cv,Dr,LT,tT,bo,nu,tb,ds,Dc,Hg]
  all_goals rfl
 |some s=>
  rw[hs] at ds;simp only[Amw,Sg.owned] at ds;obtain⟨s1,s2,s3⟩:=Aq0 hs;simp only;have cok:({ m with sig:=s }:Md).ok:=⟨fun x hx=>Aun (bk x hx),s1⟩
  have en:=Adc (fu:=fu) (d:=d) (m:={ m with sig:=s }) B5 cok.wf (Nat.le_trans s2 (by omega)) (Nat.lt_of_le_of_lt s2 (by omega))
  have ec:({ m with sig:=s }:Md).cells=[.sc (.int .i64 m.ver),.sc (.int .i64 m.iss),.sc (.int .i64 m.nxt),.lst false 3 m.ents.length (Ca m.ents),.sc (.int .i64 s.leaf),.lst false 1 s.chains.length (Af .u64 s.chains),.lst false 1 s.path.length (Af .u64 s.path)]:=rfl;have eB:∀h:Ej { m with sig:=s }=0,M3 (Gy { m with sig:=s }):=fun h y hy=>(List.mem_append.1 hy).elim (SC cok.wf (Ls h).1 y) (A04 s y)
  have eL:∀h:Ej { m with sig:=s }=0,(Gy { m with sig:=s }).length<=100000:=fun h=>by
   have h1:=We cok.wf (Ls h).1;have h2:=Jo (h:=s.path.length) (by simpa using (Ls h).2.1)
   have ls:(To s).length=2+8*s.chains.length+8*s.path.length:=by
    unfold To;simp only[H5,Hi,Dq];omega
   show (Bx (Ba { m with sig:=s })++To s).length<=_;rw[Hi];omega
  have Lc:=Aq .u64 s.chains;have Lp:=Aq .u64 s.path;have tc:=Nv .u64 s.chains;have tp:=Nv .u64 s.path;generalize ({ m with sig:=s }:Md)=c at *
  rw[ec] at en;unfold Vf at en;by_cases hz:Ej c=0
  rotate_left
  ·have hz':(Ej c != 0)=true:=by simp[hz]
   rw[Bp hz] at en;rw[Bp (fun h=>hz h.1)]
   try unfold Aa
   repeat first
    |((with_reducible first|apply As|apply Ao|apply Ar|apply Az|apply Bo|apply Bg|apply A9|apply Am|apply Au|apply At);· first|with_reducible rfl|(simp (disch:=omega) only[gT,dec,e00,e20,Dt,Cv,Dr,LT,tT,bo,nu,tb,ds,Lc,Lp,tc,tp,en,hz',Dc,Hg]<;>first|with_reducible rfl|omega)|omega)
    |(with_reducible apply Av;· first|with_reducible rfl|(simp (disch:=omega) only[gF,dec,e00,e20,Dt,Cv,Dr,LT,tT,bo,nu,tb,ds,Lc,Lp,tc,tp,en,hz',Dc,Hg]<;>omega))
   try simp (disch:=omega) only[dec,e00,e20,Dt,Cv,Dr,LT,tT,bo,nu,tb,ds,Lc,Lp,tc,tp,en,hz',Dc,Hg]
   all_goals rfl
  rw[Co hz] at en;have eL:=eL hz;have be:=XS (fu:=fu) (d:=d+9) (eB hz) hb;have LE:=Aq .u8 (Gy c);have tE:=Nv .u8 (Gy c);by_cases hq:Gy c=b
  ·rw[Co ⟨hz,hq⟩];simp only[hq,decide_true] at be en LE tE;simp only[ec]
   try unfold Aa
   repeat first
    |((with_reducible first|apply As|apply Ao|apply Ar|apply Az|apply Bo|apply Bg|apply A9|apply Am|apply Au|apply At);· first|with_reducible rfl|(simp (disch:=omega) only[gT,dec,e00,e20,Dt,Cv,Dr,LT,tT,bo,nu,tb,ds,Lc,Lp,tc,tp,en,LE,tE,be,Dc,Hg]<;>first|with_reducible rfl|omega)|omega)
    |(with_reducible apply Av;· first|with_reducible rfl|(simp (disch:=omega) only[gF,dec,e00,e20,Dt,Cv,Dr,LT,tT,bo,nu,tb,ds,Lc,Lp,tc,tp,en,LE,tE,be,Dc,Hg]<;>omega))
   try simp (disch:=omega) only[dec,e00,e20,Dt,Cv,Dr,LT,tT,bo,nu,tb,ds,Lc,Lp,tc,tp,en,LE,tE,be,Dc,Hg]
   all_goals rfl
  ·rw[Bp (fun h=>hq h.2)]
   simp only[hq,decide_false] at be
   try unfold Aa
   repeat first
    |((with_reducible first|apply As|apply Ao|apply Ar|apply Az|apply Bo|apply Bg|apply A9|apply Am|apply Au|apply At);· first|with_reducible rfl|(simp (disch:=omega) only[gT,dec,e00,e20,Dt,Cv,Dr,LT,tT,bo,nu,tb,ds,Lc,Lp,tc,tp,en,LE,tE,be,Dc,Hg]<;>first|with_reducible rfl|omega)|omega)
    |(with_reducible apply Av;· first|with_reducible rfl|(simp (disch:=omega) only[gF,dec,e00,e20,Dt,Cv,Dr,LT,tT,bo,nu,tb,ds,Lc,Lp,tc,tp,en,LE,tE,be,Dc,Hg]<;>omega))
   try simp (disch:=omega) only[dec,e00,e20,Dt,Cv,Dr,LT,tT,bo,nu,tb,ds,Lc,Lp,tc,tp,en,LE,tE,be,Dc,Hg]
   all_goals rfl
theorem At8 (B5:20000<=fu){b:List Int}(hb:M3 b)(hl:b.length<=1000000):
  Ad C0 prog fu (d+11) Of [.lst false 1 b.length (Af .u8 b)]=some ⟨[.agg (Sd b).1.cells,.sc (.int .i64 (Sd b).2)],[]⟩:=by
 rw[←Atv hb (k:=fu) (by omega)]
 exact Ail B5 hb hl
def Aib (cur:Md)(b:List Int)(k:Ky)(now:Int):Md × Int:=
 if now<0∨1099511627776<now then (NG,9) else if (Sd b).2≠0 then (NG,(Sd b).2) else if (Sd b).1.ver<=cur.ver then (NG,7) else if Afn (Sd b).1 k≠0 then (NG,Afn (Sd b).1 k) else if now<(Sd b).1.iss∨(Sd b).1.nxt<now then (NG,19) else ((Sd b).1,0)
theorem Ag3 (B5:20000<=fu){b:List Int}(hb:M3 b)(hl:b.length<=1000000)(cur:Md)(k:Ky)(now:Int):
  Ad C0 prog fu (d+12) Kl [.agg cur.cells,.lst false 1 b.length (Af .u8 b),.agg k.cells,.sc (.int .i64 now)]=some ⟨[.agg (Aib cur b k now).1.cells,.sc (.int .i64 (Aib cur b k now).2)],[]⟩:=by
 refine (IL fu (d+11) cur.ver cur.iss cur.nxt cur.ents.length (Ca cur.ents) cur.sig.leaf cur.sig.chains.length (Af .u64 cur.sig.chains) cur.sig.path.length (Af .u64 cur.sig.path) b.length (Af .u8 b) k.h k.root now).trans ?_;unfold Aib;by_cases h1:now<0
 ·rw[Co (.inl h1)]
  try unfold Aa
  repeat first
   |((with_reducible first|apply As|apply Ao|apply Ar|apply Az|apply Bo|apply Bg|apply A9|apply Am|apply Au|apply At);· first|with_reducible rfl|(simp (disch:=omega) only[gT,Dc]<;>first|with_reducible rfl|omega)|omega)
   |(with_reducible apply Av;· first|with_reducible rfl|(simp (disch:=omega) only[gF,Dc]<;>omega))
  try simp (disch:=omega) only[Dc]
  all_goals rfl
 by_cases h2:1099511627776<now
 ·rw[Co (.inr h2)]
  try unfold Aa
  repeat first
   |((with_reducible first|apply As|apply Ao|apply Ar|apply Az|apply Bo|apply Bg|apply A9|apply Am|apply Au|apply At);· first|with_reducible rfl|(simp (disch:=omega) only[gT,Dc]<;>first|with_reducible rfl|omega)|omega)
   |(with_reducible apply Av;· first|with_reducible rfl|(simp (disch:=omega) only[gF,Dc]<;>omega))
  try simp (disch:=omega) only[Dc]
  all_goals rfl
 rw[Bp (by omega)]
 have dec:=At8 (fu:=fu) (d:=d) B5 hb hl;have dok:=Ax2 hb;generalize Sd b=r at dec dok ⊢;obtain⟨m,e⟩:=r;simp only at dec dok ⊢;simp only[Md.cells] at dec;by_cases h3:e=0
 rotate_left
 ·have h3':(e != 0)=true:=by simp[h3]
  rw[Co h3]
  try unfold Aa
  repeat first
   |((with_reducible first|apply As|apply Ao|apply Ar|apply Az|apply Bo|apply Bg|apply A9|apply Am|apply Au|apply At);· first|with_reducible rfl|(simp (disch:=omega) only[gT,dec,h3']<;>first|with_reducible rfl|omega)|omega)
   |(with_reducible apply Av;· first|with_reducible rfl|(simp (disch:=omega) only[gF,dec,h3']<;>omega))
  try simp (disch:=omega) only[dec,h3']
  all_goals rfl
 subst h3;have e00:((0:Int) != 0)=false:=rfl
 have mk:m.ok:=by
  rcases dok with h|h|h
  ·exact h.2.1
  ·have:=congrArg Prod.snd h;simp at this
  ·have:=congrArg Prod.snd h;simp at this
 rw[Bp (by simp)]
 by_cases h4:m.ver<=cur.ver
 ·rw[Co h4]
  try unfold Aa
  repeat first
   |((with_reducible first|apply As|apply Ao|apply Ar|apply Az|apply Bo|apply Bg|apply A9|apply Am|apply Au|apply At);· first|with_reducible rfl|(simp (disch:=omega) only[gT,dec,e00]<;>first|with_reducible rfl|omega)|omega)
   |(with_reducible apply Av;· first|with_reducible rfl|(simp (disch:=omega) only[gF,dec,e00]<;>omega))
  try simp (disch:=omega) only[dec,e00]
  all_goals rfl
 rw[Bp h4];have vr:=Ayu (fu:=fu) (d:=d) (m:=m) B5 mk.wf k;simp only[Md.cells,Ky.cells] at vr;by_cases h5:Afn m k=0
 rotate_left
 ·have h5':(Afn m k != 0)=true:=by simp[h5]
  rw[Co h5]
  try unfold Aa
  repeat first
   |((with_reducible first|apply As|apply Ao|apply Ar|apply Az|apply Bo|apply Bg|apply A9|apply Am|apply Au|apply At);· first|with_reducible rfl|(simp (disch:=omega) only[gT,dec,e00,vr,h5']<;>first|with_reducible rfl|omega)|omega)
   |(with_reducible apply Av;· first|with_reducible rfl|(simp (disch:=omega) only[gF,dec,e00,vr,h5']<;>omega))
  try simp (disch:=omega) only[dec,e00,vr,h5']
  all_goals rfl
 rw[Bp (by simp[h5])]
 rw[h5] at vr;by_cases h6:now<m.iss
 ·rw[Co (.inl h6)]
  try unfold Aa
  repeat first
   |((with_reducible first|apply As|apply Ao|apply Ar|apply Az|apply Bo|apply Bg|apply A9|apply Am|apply Au|apply At);· first|with_reducible rfl|(simp (disch:=omega) only[gT,dec,e00,vr]<;>first|with_reducible rfl|omega)|omega)
   |(with_reducible apply Av;· first|with_reducible rfl|(simp (disch:=omega) only[gF,dec,e00,vr]<;>omega))
  try simp (disch:=omega) only[dec,e00,vr]
  all_goals rfl
 by_cases h7:m.nxt<now
 ·rw[Co (.inr h7)]
  try unfold Aa
  repeat first
   |((with_reducible first|apply As|apply Ao|apply Ar|apply Az|apply Bo|apply Bg|apply A9|apply Am|apply Au|apply At);· first|with_reducible rfl|(simp (disch:=omega) only[gT,dec,e00,vr]<;>first|with_reducible rfl|omega)|omega)
   |(with_reducible apply Av;· first|with_reducible rfl|(simp (disch:=omega) only[gF,dec,e00,vr]<;>omega))
  try simp (disch:=omega) only[dec,e00,vr]
  all_goals rfl
 rw[Bp (by omega)]
 simp only[Md.cells]
 try unfold Aa
 repeat first
  |((with_reducible first|apply As|apply Ao|apply Ar|apply Az|apply Bo|apply Bg|apply A9|apply Am|apply Au|apply At);· first|with_reducible rfl|(simp (disch:=omega) only[gT,dec,e00,vr]<;>first|with_reducible rfl|omega)|omega)
  |(with_reducible apply Av;· first|with_reducible rfl|(simp (disch:=omega) only[gF,dec,e00,vr]<;>omega))
 try simp (disch:=omega) only[dec,e00,vr]
 all_goals rfl
end
end
section
open Go.Proofs.Tryz (prog)
open Go.IntKind (wrap)
set_option maxRecDepth 1000000
section
variable {fu d:Nat}
theorem Am4 (s:ByteArray):Ad C0 prog fu (d+2) Qo [.sc (.string s)]=some ⟨[.sc (.int .i64 (if s.size<1∨32<s.size then 9 else if okS s=false then 6 else 0))],[]⟩:=by
 refine (BH fu (d+1) s).trans ?_;by_cases e1:s.size<1
 ·rw[Co (.inl e1)]
  try unfold Aa
  repeat first
   |((with_reducible first|apply As|apply Ao|apply Ar|apply Az|apply Be|apply Bo|apply Bg|apply A9|apply Am|apply Au|apply At);· first|with_reducible rfl|(simp (disch:=omega) only[gT,Dc]<;>first|with_reducible rfl|omega)|omega)
   |(with_reducible apply Av;· first|with_reducible rfl|(simp (disch:=omega) only[gF,Dc]<;>omega))
  try simp (disch:=omega) only[Dc]
 by_cases e2:32<s.size
 ·rw[Co (.inr e2)]
  try unfold Aa
  repeat first
   |((with_reducible first|apply As|apply Ao|apply Ar|apply Az|apply Be|apply Bo|apply Bg|apply A9|apply Am|apply Au|apply At);· first|with_reducible rfl|(simp (disch:=omega) only[gT,Dc]<;>first|with_reducible rfl|omega)|omega)
   |(with_reducible apply Av;· first|with_reducible rfl|(simp (disch:=omega) only[gF,Dc]<;>omega))
  try simp (disch:=omega) only[Dc]
 rw[Bp (by omega)]
 have v1:=CY (fu:=fu) (d:=d) s (by omega)
 cases e3:okS s
 ·rw[e3] at v1;rw[Co rfl]
  try unfold Aa
  repeat first
   |((with_reducible first|apply As|apply Ao|apply Ar|apply Az|apply Be|apply Bo|apply Bg|apply A9|apply Am|apply Au|apply At);· first|with_reducible rfl|(simp (disch:=omega) only[gT,v1,Dc,Hg]<;>first|with_reducible rfl|omega)|omega)
   |(with_reducible apply Av;· first|with_reducible rfl|(simp (disch:=omega) only[gF,v1,Dc,Hg]<;>omega))
  try simp (disch:=omega) only[v1,Dc,Hg]
 ·rw[e3] at v1;rw[Bp (by simp)]
  try unfold Aa
  repeat first
   |((with_reducible first|apply As|apply Ao|apply Ar|apply Az|apply Be|apply Bo|apply Bg|apply A9|apply Am|apply Au|apply At);· first|with_reducible rfl|(simp (disch:=omega) only[gT,v1,Dc,Hg]<;>first|with_reducible rfl|omega)|omega)
   |(with_reducible apply Av;· first|with_reducible rfl|(simp (disch:=omega) only[gF,v1,Dc,Hg]<;>omega))
  try simp (disch:=omega) only[v1,Dc,Hg]
def Vz (e:Int)(l:List It):List PV:=if e=0 then [.own 3 l.length (Bd l),.sc (.int .i64 0)] else [.own 3 0 [],.sc (.int .i64 e)]
theorem P5 {e:Int}{l:List It}(h:e≠0):Vz e l=[.own 3 0 [],.sc (.int .i64 e)]:=by unfold Vz;rw[Bp h]
theorem A82 (A:List It)(a b c:It):Bd A++[.sc (.int .i64 a.k),.sc (.int .u64 a.n),.sc (.string a.s),.sc (.int .i64 b.k),.sc (.int .u64 b.n),.sc (.string b.s),.sc (.int .i64 c.k),.sc (.int .u64 c.n),.sc (.string c.s)]=Bd (A++[a,b,c]):=by
 rw[AZ];rfl
theorem Bbi (A:List It)(a:It):Bd A++[.sc (.int .i64 a.k),.sc (.int .u64 a.n),.sc (.string a.s)]=Bd (A++[a]):=by
 rw[AZ];rfl
theorem A1d {Ag:Int}{Br Bf:Nat}{Ai Ay:List PV}{x:Me}(h2:x.sts.length<=4):∀(r:List Sa)(i nn:Nat)(p:Option Int)(A:List It),x.sts.drop i=r->r.length<nn->i<=x.sts.length ->
  ((i=0∧p=none)∨∃s',0<i∧x.sts[i-1]?=some s'∧p=some s'.at_)->A.length+3*r.length<=1000 ->
  Gc fu (Ad C0 prog fu (d+3)) Ag Br Ai Bf Ay nn A.length (i:Int) x.model x.ans.length (Dh x.ans) x.sts.length (Dw x.sts) (Bd A) =
   some ⟨Vz (Ee p r) (A++(r.map Da).flatten),[]⟩
 |_,_,0,_,_,_,h,_,_,_=>by omega
 |[],i,nn+1,p,A,hd,hn,hi,hp,hA=>by
  have hl:=drop_nil hd;have ei:i=x.sts.length:=by omega
  have G0:Ee p []=0:=by unfold Ee;rfl
  have L:=Fj A;have t:List.take (A.length*3) (Bd A)=Bd A:=Jq (by omega)
  have e:A++(([]:List Sa).map Da).flatten=A:=by simp
  rw[e,G0];unfold Vz;rw[Co rfl];subst ei;rw[G5];generalize Bd A=C at *
  generalize A.length=n at *
  try unfold Aa
  repeat first
   |((with_reducible first|apply As|apply Ao|apply Ar|apply Az|apply Be|apply Bo|apply Bg|apply A9|apply Am|apply Au|apply At);· first|with_reducible rfl|(simp (disch:=omega) only[gT,L,t]<;>first|with_reducible rfl|omega)|omega)
   |(with_reducible apply Av;· first|with_reducible rfl|(simp (disch:=omega) only[gF,L,t]<;>omega))
  try simp (disch:=omega) only[L,t]
  all_goals rfl
 |s::rs,i,nn+1,p,A,hd,hn,hi,hp,hA=>by
  obtain⟨q1,q2,q3⟩:=Dk hd;simp only[H5] at hn hA;obtain⟨c0,c1⟩:=saa q2;have nt:Int.toNat (i:Int)=i:=Je _;have w1:=NJ (fu:=fu) (d:=d+2) s.kd 1 4;have w2:=NJ (fu:=fu) (d:=d+2) s.at_ 0 1099511627776
  have bad:∀{e:Int},Gz p s=e->e≠0->some (A4.mk [.own 3 0 [],.sc (.int .i64 e)] [])=some (A4.mk (Vz (Ee p (s::rs)) (A++((s::rs).map Da).flatten)) []):=fun {e} h he=>by
   have:Ee p (s::rs)=e:=by rw[Ee,Co (by rw[h];exact he),h]
   rw[this,P5 he]
  by_cases g1:s.kd<1∨4<s.kd
  ·have hb:Gz p s=9:=by unfold Gz;rw[Co (by omega)]
   have:(decide ((1:Int)<=s.kd)&&decide (s.kd<=4))=false:=by simp;omega
   rw[this] at w1;rw[←bad hb (by omega),G5]
   try unfold Aa
   repeat first
    |((with_reducible first|apply As|apply Ao|apply Ar|apply Az|apply Be|apply Bo|apply Bg|apply A9|apply Am|apply Au|apply At);· first|with_reducible rfl|(simp (disch:=omega) only[gT,nt,c0,c1,w1,Dc,Hg]<;>first|with_reducible rfl|omega)|omega)
    |(with_reducible apply Av;· first|with_reducible rfl|(simp (disch:=omega) only[gF,nt,c0,c1,w1,Dc,Hg]<;>omega))
   try simp (disch:=omega) only[nt,c0,c1,w1,Dc,Hg]
   all_goals rfl
  have z1:(decide ((1:Int)<=s.kd)&&decide (s.kd<=4))=true:=by simp;omega
  rw[z1] at w1;by_cases g3:s.at_<0∨1099511627776<s.at_
  ·have hb:Gz p s=9:=by unfold Gz;rw[Co (by omega)]
   have:(decide ((0:Int)<=s.at_)&&decide (s.at_<=1099511627776))=false:=by simp;omega
   rw[this] at w2;rw[←bad hb (by omega),G5]
   try unfold Aa
   repeat first
    |((with_reducible first|apply As|apply Ao|apply Ar|apply Az|apply Be|apply Bo|apply Bg|apply A9|apply Am|apply Au|apply At);· first|with_reducible rfl|(simp (disch:=omega) only[gT,nt,c0,c1,w1,w2,Dc,Hg]<;>first|with_reducible rfl|omega)|omega)
    |(with_reducible apply Av;· first|with_reducible rfl|(simp (disch:=omega) only[gF,nt,c0,c1,w1,w2,Dc,Hg]<;>omega))
   try simp (disch:=omega) only[nt,c0,c1,w1,w2,Dc,Hg]
   all_goals rfl
  have z2:(decide ((0:Int)<=s.at_)&&decide (s.at_<=1099511627776))=true:=by simp;omega
  rw[z2] at w2;have S1:Gz none s=0:=by unfold Gz;rw[Bp (by omega)]
  have S0:∀q:Int,Gz (some q) s=if s.at_<=q then 7 else 0:=fun q=>by unfold Gz;rw[Bp (by omega)]
  have wk:wrap .u64 s.kd=s.kd:=C3 (by omega) (by omega)
  have wa:wrap .u64 s.at_=s.at_:=C3 (by omega) (by omega)
  have a2:=P7 (fu:=fu) (d:=d+2) 2 (by omega) (by omega)
  have u1:=Po (fu:=fu) (d:=d+2) s.kd;have u2:=Po (fu:=fu) (d:=d+2) s.at_;have w:wrap .i64 ((i:Int)+1)=((i+1:Nat):Int):=by rw[Ap (by omega) (by omega)];omega
  have L:=Fj A;have t:List.take (A.length*3) (Bd A)=Bd A:=Jq (by omega)
  have ea:=A82 A (E6 2) (Fc s.kd) (Fc s.at_);simp only[E6,Fc] at ea
  have eS:A++((s::rs).map Da).flatten=(A++[E6 2,Fc s.kd,Fc s.at_])++(rs.map Da).flatten:=by
   rw[VR,List.flatten_cons,←QV];rfl
  have hz:Gz p s=0->Ee p (s::rs)=Ee (some s.at_) rs:=fun h=>by rw[Ee,Bp (by simp[h])]
  have ih:=A1d (Ag:=Ag) (Br:=Br) (Bf:=Bf) (Ai:=Ai) (Ay:=Ay) h2 rs (i+1) nn (some s.at_) (A++[E6 2,Fc s.kd,Fc s.at_]) q3 (by omega) (by omega) (.inr ⟨s,by omega,by rw[Nat.add_sub_cancel];exact q2,rfl⟩) (by rw[Hi];simp only[H5,Ye];omega)
  have lA:(A++[E6 2,Fc s.kd,Fc s.at_]).length=A.length+3:=by rw[Hi];rfl
  rw[lA] at ih;simp only[E6,Fc] at ih eS;rw[G5];rcases hp with⟨rfl,rfl⟩|⟨s',h0,h5,rfl⟩
  ·rw[eS,hz S1,←ih];generalize Bd (A++[⟨5,2,Ob⟩,⟨1,s.kd,Ob⟩,⟨1,s.at_,Ob⟩])=C' at *
   generalize Bd A=C at *
   generalize A.length=n at *
   try unfold Aa
   repeat first
    |((with_reducible first|apply As|apply Ao|apply Ar|apply Az|apply Be|apply Bo|apply Bg|apply A9|apply Am|apply Au|apply At);· first|with_reducible rfl|(simp (disch:=omega) only[gT,nt,c0,c1,w1,w2,wk,wa,a2,u1,u2,L,t,ea,w,Dc,Hg]<;>first|with_reducible rfl|omega)|omega)
    |(with_reducible apply Av;· first|with_reducible rfl|(simp (disch:=omega) only[gF,nt,c0,c1,w1,w2,wk,wa,a2,u1,u2,L,t,ea,w,Dc,Hg]<;>omega))
   try simp (disch:=omega) only[nt,c0,c1,w1,w2,wk,wa,a2,u1,u2,L,t,ea,w,Dc,Hg]
   all_goals rfl
  ·obtain⟨b0,b1⟩:=saa h5;have wi:wrap .i64 ((i:Int)-1)=((i-1:Nat):Int):=by rw[Ap (by omega) (by omega)];omega
   have nt1:Int.toNat ((i-1:Nat):Int)=i-1:=Je _;by_cases ho:s.at_<=s'.at_
   ·have hb:Gz (some s'.at_) s=7:=by rw[S0,Co ho]
    rw[←bad hb (by omega)]
    try unfold Aa
    repeat first
     |((with_reducible first|apply As|apply Ao|apply Ar|apply Az|apply Be|apply Bo|apply Bg|apply A9|apply Am|apply Au|apply At);· first|with_reducible rfl|(simp (disch:=omega) only[gT,nt,c0,c1,w1,w2,wi,nt1,b0,b1,Dc,Hg]<;>first|with_reducible rfl|omega)|omega)
     |(with_reducible apply Av;· first|with_reducible rfl|(simp (disch:=omega) only[gF,nt,c0,c1,w1,w2,wi,nt1,b0,b1,Dc,Hg]<;>omega))
    try simp (disch:=omega) only[nt,c0,c1,w1,w2,wi,nt1,b0,b1,Dc,Hg]
    all_goals rfl
   ·have hb:Gz (some s'.at_) s=0:=by rw[S0,Bp ho]
    rw[eS,hz hb,←ih];generalize Bd (A++[⟨5,2,Ob⟩,⟨1,s.kd,Ob⟩,⟨1,s.at_,Ob⟩])=C' at *
    generalize Bd A=C at *
    generalize A.length=n at *
    try unfold Aa
    repeat first
     |((with_reducible first|apply As|apply Ao|apply Ar|apply Az|apply Be|apply Bo|apply Bg|apply A9|apply Am|apply Au|apply At);· first|with_reducible rfl|(simp (disch:=omega) only[gT,nt,c0,c1,w1,w2,wi,nt1,b0,b1,wk,wa,a2,u1,u2,L,t,ea,w,Dc,Hg]<;>first|with_reducible rfl|omega)|omega)
     |(with_reducible apply Av;· first|with_reducible rfl|(simp (disch:=omega) only[gF,nt,c0,c1,w1,w2,wi,nt1,b0,b1,wk,wa,a2,u1,u2,L,t,ea,w,Dc,Hg]<;>omega))
    try simp (disch:=omega) only[nt,c0,c1,w1,w2,wi,nt1,b0,b1,wk,wa,a2,u1,u2,L,t,ea,w,Dc,Hg]
    all_goals rfl
theorem A05 (B5:1000<=fu){Ag:Int}{Br Bf:Nat}{Ai Ay:List PV}{x:Me}(h1:x.ans.length<=4)(h2:x.sts.length<=4):∀(r:List An)(i nn:Nat)(A:List It),x.ans.drop i=r->r.length<nn->i<=x.ans.length->A.length+3*r.length<=500 ->
  Hz fu (Ad C0 prog fu (d+3)) Ag Br Ai Bf Ay nn A.length (i:Int) x.model x.ans.length (Dh x.ans) x.sts.length (Dw x.sts) (Bd A) =
   some ⟨Vz (if Dm r≠0 then Dm r else Ee none x.sts) (A++(r.map C9).flatten++Do (x.sts.map Da)),[]⟩
 |_,_,0,_,_,h,_,_=>by omega
 |[],i,nn+1,A,hd,hn,hi,hA=>by
  have hl:=drop_nil hd;have ei:i=x.ans.length:=by omega
  have G0:Dm []=0:=by unfold Dm;rfl
  have L:=Fj A;have t:List.take (A.length*3) (Bd A)=Bd A:=Jq (by omega)
  have a1:=P7 (fu:=fu) (d:=d+2) x.sts.length (by omega) (by omega)
  have ea:=Bbi A (E6 x.sts.length);simp only[E6] at ea
  have e:A++(([]:List An).map C9).flatten++Do (x.sts.map Da)=(A++[E6 x.sts.length])++(x.sts.map Da).flatten:=by
   unfold Do;rw[List.map_nil,List.flatten_nil,List.append_nil,QV,List.length_map];rfl
  simp only[Ye] at hA;have l1:=A1d (fu:=fu) (d:=d) (Ag:=Ag) (Br:=Br) (Bf:=Bf) (Ai:=Ai) (Ay:=Ay) h2 x.sts 0 fu none (A++[E6 x.sts.length]) rfl (by omega) (by omega) (.inl ⟨rfl,rfl⟩) (by rw[Hi,List.length_singleton];omega)
  have lA:(A++[E6 x.sts.length]).length=A.length+1:=by rw[Hi];rfl
  have z0:((0:Nat):Int)=0:=rfl;rw[lA,z0] at l1;rw[e,G0,Bp (by simp),←l1]
  simp only[E6];subst ei;rw[Fe];generalize Bd (A++[⟨5,x.sts.length,Ob⟩])=C' at *
  generalize Bd A=C at *
  generalize A.length=n at *
  try unfold Aa
  repeat first
   |((with_reducible first|apply As|apply Ao|apply Ar|apply Az|apply Be|apply Bo|apply Bg|apply A9|apply Am|apply Au|apply At);· first|with_reducible rfl|(simp (disch:=omega) only[gT,L,t,a1,ea]<;>first|with_reducible rfl|omega)|omega)
   |(with_reducible apply Av;· first|with_reducible rfl|(simp (disch:=omega) only[gF,L,t,a1,ea]<;>omega))
  try simp (disch:=omega) only[L,t,a1,ea]
  all_goals rfl
 |a::rs,i,nn+1,A,hd,hn,hi,hA=>by
  obtain⟨q1,q2,q3⟩:=Dk hd;simp only[H5] at hn hA;obtain⟨c0,c1,c2⟩:=ana q2;have c0':(Dh x.ans).getD (i*3+0) .top=.sc (.string a.name):=c0;have c2':(Dh x.ans).getD (i*3+1+1) .top=.sc (.int .u64 a.key.root):=c2;have nt:Int.toNat (i:Int)=i:=Je _;have nm:=Am4 (fu:=fu) (d:=d+1) a.name;have ek:=Akd (fu:=fu) (d:=d+1) B5 a.key;simp only[Ky.cells] at ek;have e00:((0:Int) != 0)=false:=rfl;have e90:((9:Int) != 0)=true:=rfl;have e60:((6:Int) != 0)=true:=rfl
  have bad:∀{e:Int},Gd a=e->e≠0->some (A4.mk [.own 3 0 [],.sc (.int .i64 e)] [])=some (A4.mk (Vz (if Dm (a::rs)≠0 then Dm (a::rs) else Ee none x.sts) (A++((a::rs).map C9).flatten++Do (x.sts.map Da))) []):=fun {e} h he=>by
   have:Dm (a::rs)=e:=by rw[Dm,Co (by rw[h];exact he),h]
   rw[this,Co he,P5 he]
  by_cases e1:a.name.size<1∨32<a.name.size
  ·have hb:Gd a=9:=by unfold Gd;rw[Co e1]
   rw[Co e1] at nm;rw[←bad hb (by omega),Fe]
   try unfold Aa
   repeat first
    |((with_reducible first|apply As|apply Ao|apply Ar|apply Az|apply Be|apply Bo|apply Bg|apply A9|apply Am|apply Au|apply At);· first|with_reducible rfl|(simp (disch:=omega) only[gT,nt,c0',nm,e90,Dc,Hg]<;>first|with_reducible rfl|omega)|omega)
    |(with_reducible apply Av;· first|with_reducible rfl|(simp (disch:=omega) only[gF,nt,c0',nm,e90,Dc,Hg]<;>omega))
   try simp (disch:=omega) only[nt,c0',nm,e90,Dc,Hg]
   all_goals rfl
  rw[Bp e1] at nm;cases e3:okS a.name
  ·have hb:Gd a=6:=by unfold Gd;rw[Bp e1,Co e3]
   rw[e3,Co rfl] at nm;rw[←bad hb (by omega),Fe]
   try unfold Aa
   repeat first
    |((with_reducible first|apply As|apply Ao|apply Ar|apply Az|apply Be|apply Bo|apply Bg|apply A9|apply Am|apply Au|apply At);· first|with_reducible rfl|(simp (disch:=omega) only[gT,nt,c0',nm,e60,Dc,Hg]<;>first|with_reducible rfl|omega)|omega)
    |(with_reducible apply Av;· first|with_reducible rfl|(simp (disch:=omega) only[gF,nt,c0',nm,e60,Dc,Hg]<;>omega))
   try simp (disch:=omega) only[nt,c0',nm,e60,Dc,Hg]
   all_goals rfl
  rw[e3,Bp (by simp)] at nm
  cases e5:D8 a.key.h
  rotate_left
  ·have hb:Gd a=9:=by unfold Gd;rw[Bp e1,Bp (by simp[e3]),Co e5]
   rw[e5,Co rfl] at ek;rw[←bad hb (by omega),Fe]
   try unfold Aa
   repeat first
    |((with_reducible first|apply As|apply Ao|apply Ar|apply Az|apply Be|apply Bo|apply Bg|apply A9|apply Am|apply Au|apply At);· first|with_reducible rfl|(simp (disch:=omega) only[gT,nt,c0',c1,c2',nm,ek,e00,e90,Dc,Hg]<;>first|with_reducible rfl|omega)|omega)
    |(with_reducible apply Av;· first|with_reducible rfl|(simp (disch:=omega) only[gF,nt,c0',c1,c2',nm,ek,e00,e90,Dc,Hg]<;>omega))
   try simp (disch:=omega) only[nt,c0',c1,c2',nm,ek,e00,e90,Dc,Hg]
   all_goals rfl
  rw[e5,Bp (by simp)] at ek
  have hz:Gd a=0:=by unfold Gd;rw[Bp e1,Bp (by simp[e3]),Bp (by simp[e5])]
  have a2:=P7 (fu:=fu) (d:=d+2) 2 (by omega) (by omega)
  have u1:=Avf (fu:=fu) (d:=d+2) a.name;have u2:=Aqy (fu:=fu) (d:=d+2) (Jt a.key);have k9:(Jt a.key).length=9:=rfl;rw[k9] at u2;have L9:=Aq .u8 (Jt a.key);rw[k9] at L9;have tk9:List.take 9 (Af .u8 (Jt a.key))=Af .u8 (Jt a.key):=Jq (by omega)
  have w:wrap .i64 ((i:Int)+1)=((i+1:Nat):Int):=by rw[Ap (by omega) (by omega)];omega
  have L:=Fj A;have t:List.take (A.length*3) (Bd A)=Bd A:=Jq (by omega)
  have ea:=A82 A (E6 2) ⟨4,0,a.name⟩ ⟨3,0,Cp (Jt a.key)⟩;simp only[E6] at ea
  have eS:A++((a::rs).map C9).flatten=(A++[E6 2,⟨4,0,a.name⟩,⟨3,0,Cp (Jt a.key)⟩])++(rs.map C9).flatten:=by
   rw[VR,List.flatten_cons,←QV];rfl
  have hgo:Dm (a::rs)=Dm rs:=by rw[Dm,Bp (by simp[hz])]
  have ih:=A05 B5 (Ag:=Ag) (Br:=Br) (Bf:=Bf) (Ai:=Ai) (Ay:=Ay) h1 h2 rs (i+1) nn (A++[E6 2,⟨4,0,a.name⟩,⟨3,0,Cp (Jt a.key)⟩]) q3 (by omega) (by omega) (by rw[Hi];simp only[H5,Ye];omega)
  have lA:(A++[E6 2,⟨4,0,a.name⟩,⟨3,0,Cp (Jt a.key)⟩]).length=A.length+3:=by rw[Hi];rfl
  rw[lA] at ih;rw[Fe,eS,hgo,←ih];simp only[E6];generalize Bd (A++[⟨5,2,Ob⟩,⟨4,0,a.name⟩,⟨3,0,Cp (Jt a.key)⟩])=C' at *
  generalize Bd A=C at *
  generalize A.length=n at *
  generalize Af .u8 (Jt a.key)=KB at *
  try unfold Aa
  repeat first
   |((with_reducible first|apply As|apply Ao|apply Ar|apply Az|apply Be|apply Bo|apply Bg|apply A9|apply Am|apply Au|apply At);· first|with_reducible rfl|(simp (disch:=omega) only[gT,nt,c0',c1,c2',nm,ek,e00,a2,u1,u2,L9,tk9,L,t,ea,w,Cv,Dr,Dt,Dc,Hg]<;>first|with_reducible rfl|omega)|omega)
   |(with_reducible apply Av;· first|with_reducible rfl|(simp (disch:=omega) only[gF,nt,c0',c1,c2',nm,ek,e00,a2,u1,u2,L9,tk9,L,t,ea,w,Cv,Dr,Dt,Dc,Hg]<;>omega))
  try simp (disch:=omega) only[nt,c0',c1,c2',nm,ek,e00,a2,u1,u2,L9,tk9,L,t,ea,w,Cv,Dr,Dt,Dc,Hg]
  all_goals rfl
theorem A4i (B5:1000<=fu)(x:Me):Ad C0 prog fu (d+4) Qe [.agg x.cells]=some ⟨Vz (Db x) (Bb x),[]⟩:=by
 refine (BI fu (d+3) x.model x.ans.length (Dh x.ans) x.sts.length (Dw x.sts)).trans ?_;by_cases h1:4<x.ans.length
 ·have hb:Db x=8:=by unfold Db;rw[Co (.inl h1)]
  rw[hb,P5 (by omega)]
  try unfold Aa
  repeat first
   |((with_reducible first|apply As|apply Ao|apply Ar|apply Az|apply Be|apply Bo|apply Bg|apply A9|apply Am|apply Au|apply At);· first|with_reducible rfl|(simp (disch:=omega) only[gT,Dc]<;>first|with_reducible rfl|omega)|omega)
   |(with_reducible apply Av;· first|with_reducible rfl|(simp (disch:=omega) only[gF,Dc]<;>omega))
  try simp (disch:=omega) only[Dc]
  all_goals rfl
 by_cases h2:4<x.sts.length
 ·have hb:Db x=8:=by unfold Db;rw[Co (.inr h2)]
  rw[hb,P5 (by omega)]
  try unfold Aa
  repeat first
   |((with_reducible first|apply As|apply Ao|apply Ar|apply Az|apply Be|apply Bo|apply Bg|apply A9|apply Am|apply Au|apply At);· first|with_reducible rfl|(simp (disch:=omega) only[gT,Dc]<;>first|with_reducible rfl|omega)|omega)
   |(with_reducible apply Av;· first|with_reducible rfl|(simp (disch:=omega) only[gF,Dc]<;>omega))
  try simp (disch:=omega) only[Dc]
  all_goals rfl
 have hb:Db x=if Dm x.ans≠0 then Dm x.ans else Ee none x.sts:=by unfold Db;rw[Bp (by omega)]
 have a3:=P7 (fu:=fu) (d:=d+2) 3 (by omega) (by omega)
 have a4:=P7 (fu:=fu) (d:=d+2) x.ans.length (by omega) (by omega)
 have u:=Po (fu:=fu) (d:=d+2) x.model;have l0:=A05 (fu:=fu) (d:=d) B5 (Ag:=x.model) (Br:=x.ans.length) (Bf:=x.sts.length) (Ai:=Dh x.ans) (Ay:=Dw x.sts) (x:=x) (by omega) (by omega) x.ans 0 fu [E6 3,Fc x.model,E6 x.ans.length] rfl (by omega) (by omega) (by simp only[H5,Ye];omega)
 have z0:((0:Nat):Int)=0:=rfl
 have e:Bb x=[E6 3,Fc x.model,E6 x.ans.length]++(x.ans.map C9).flatten++Do (x.sts.map Da):=by
  simp only[Bb,Zw,List.flatten_cons,List.flatten_nil,List.append_nil,Zzp,ZG,QV];unfold Do;rw[List.length_map,List.length_map];rfl
 have eT:Bd [E6 3,Fc x.model,E6 x.ans.length]=[.sc (.int .i64 5),.sc (.int .u64 3),.sc (.string Ob),.sc (.int .i64 1),.sc (.int .u64 x.model),.sc (.string Ob),.sc (.int .i64 5),.sc (.int .u64 x.ans.length),.sc (.string Ob)]:=rfl;have eL:[E6 3,Fc x.model,E6 x.ans.length].length=3:=rfl;rw[z0,eT,eL] at l0;rw[hb,e,←l0]
 try unfold Aa
 repeat first
  |((with_reducible first|apply As|apply Ao|apply Ar|apply Az|apply Be|apply Bo|apply Bg|apply A9|apply Am|apply Au|apply At);· first|with_reducible rfl|(simp (disch:=omega) only[gT,a3,a4,u]<;>first|with_reducible rfl|omega)|omega)
  |(with_reducible apply Av;· first|with_reducible rfl|(simp (disch:=omega) only[gF,a3,a4,u]<;>omega))
 try simp (disch:=omega) only[a3,a4,u]
 all_goals rfl
theorem A0j (B5:1000<=fu){Ag Ai Ay Cf:Int}{Bi Bk Bn:Nat}{Bv Cj Ci:List PV}{m:Md}(hw:m.wf)(h3:m.ents.length<=16)(h0:B0 m=Dg none m.ents):∀(r:List Me)(i nn:Nat)(p:Option Int)(A:List It),m.ents.drop i=r->r.length<nn->i<=m.ents.length ->
  ((i=0∧p=none)∨∃x',0<i∧m.ents[i-1]?=some x'∧p=some x'.model)->A++(r.map Bb).flatten=Ba m->(Dg p r=0->Dg none m.ents=0)->Dg none m.ents=Dg p r->A.length+28*r.length<=500 ->
  Ev fu (Ad C0 prog fu (d+4)) Ag Ai Ay Bi Bv Cf Bk Cj Bn Ci nn A.length (i:Int) m.ver m.iss m.nxt m.ents.length (Ca m.ents) m.sig.leaf m.sig.chains.length (Af .u64 m.sig.chains) m.sig.path.length (Af .u64 m.sig.path) (Bd A)=some ⟨Ia m,[]⟩
 |_,_,0,_,_,_,h,_,_,_,_,_,_=>by omega
 |[],i,nn+1,p,A,hd,hn,hi,hp,hM,hz,hE,hA=>by
  have hl:=drop_nil hd;have ei:i=m.ents.length:=by omega
  have G0:Dg p []=0:=by unfold Dg;rfl
  have hm0:B0 m=0:=by rw[h0,hz G0]
  rw[List.map_nil,List.flatten_nil,List.append_nil] at hM;subst hM;obtain⟨vm,fm,lm⟩:=W6 hw hm0;have bi:=Apc (fu:=fu) (d:=d) (its:=Ba m) (fun x hx=>⟨(fm x hx).1,(fm x hx).2.1⟩) (by omega) B5
  unfold Ia;rw[Co hm0];have L:=Fj (Ba m);have t:List.take ((Ba m).length*3) (Bd (Ba m))=Bd (Ba m):=Jq (by omega)
  have LB:=Aq .u8 (Bx (Ba m));have tB:=Nv .u8 (Bx (Ba m));subst ei;rw[Kt];generalize Bx (Ba m)=B at *
  generalize Bd (Ba m)=C at *
  generalize (Ba m).length=n at *
  try unfold Aa
  repeat first
   |((with_reducible first|apply As|apply Ao|apply Ar|apply Az|apply Be|apply Bo|apply Bg|apply A9|apply Am|apply Au|apply At);· first|with_reducible rfl|(simp (disch:=omega) only[gT,L,t,bi,LB,tB,Cv,Dr,Dt]<;>first|with_reducible rfl|omega)|omega)
   |(with_reducible apply Av;· first|with_reducible rfl|(simp (disch:=omega) only[gF,L,t,bi,LB,tB,Cv,Dr,Dt]<;>omega))
  try simp (disch:=omega) only[L,t,bi,LB,tB,Cv,Dr,Dt]
  all_goals rfl
 |x::rs,i,nn+1,p,A,hd,hn,hi,hp,hM,hz,hE,hA=>by
  obtain⟨q1,q2,q3⟩:=Dk hd;simp only[H5] at hn hA;obtain⟨c0,c1,c2⟩:=mea q2;have c0':(Ca m.ents).getD (i*3+0) .top=.sc (.int .u64 x.model):=c0;have c2':(Ca m.ents).getD (i*3+1+1) .top=.lst false 2 x.sts.length (Dw x.sts):=c2;have nt:Int.toNat (i:Int)=i:=Je _;have hxm:=hw.mod x (List.mem_of_getElem? q2);have en:=A4i (fu:=fu) (d:=d) B5 x;simp only[Me.cells] at en;have w:wrap .i64 ((i:Int)+1)=((i+1:Nat):Int):=by rw[Ap (by omega) (by omega)];omega
  have O1:Js none x=0:=rfl;have O0:∀q:Int,Js (some q) x=if x.model<=q then 7 else 0:=fun q=>rfl
  have LA:=Fj A;have tA:List.take (A.length*3) (Bd A)=Bd A:=Jq (by omega)
  have ea:=(AZ A (Bb x)).symm;have LE:=Fj (Bb x);have tE:List.take ((Bb x).length*3) (Bd (Bb x))=Bd (Bb x):=Jq (by omega)
  have e00:((0:Int) != 0)=false:=rfl;have hgo:Js p x=0->Db x=0->Dg p (x::rs)=Dg (some x.model) rs:=fun h h'=>by rw[Dg,Bp (by simp[h]),Bp (by simp[h'])]
  have Ael:Js p x=0->Db x≠0->Dg p (x::rs)=Db x:=fun h h'=>by rw[Dg,Bp (by simp[h]),Co h']
  have A44:Js p x=7->Dg p (x::rs)=7:=fun h=>by rw[Dg,Co (by rw[h];omega),h]
  have bad:∀{e:Int},Dg p (x::rs)=e->e≠0->some (A4.mk [.own 1 0 [],.sc (.int .i64 e)] [])=some (A4.mk (Ia m) []):=fun {e} h he=>by unfold Ia;rw[h0,hE,h,Bp he]
  have lA:(A++Bb x).length=A.length+(Bb x).length:=Hi;have ih:=fun (h:Js p x=0) (h':Db x=0)=>A0j B5 (Ag:=Ag) (Ai:=Ai) (Ay:=Ay) (Cf:=Cf) (Bi:=Bi) (Bk:=Bk) (Bn:=Bn) (Bv:=Bv) (Cj:=Cj) (Ci:=Ci) hw h3 h0 rs (i+1) nn (some x.model) (A++Bb x) q3 (by omega) (by omega) (.inr ⟨x,by omega,by rw[Nat.add_sub_cancel];exact q2,rfl⟩) (by rw[←hM,VR,List.flatten_cons,QV]) (fun e=>hz (by rw[hgo h h'];exact e)) (by rw[hE,hgo h h']) (by have:=(Up hxm h').2.2;omega)
  rw[Kt];rcases hp with⟨rfl,rfl⟩|⟨x',h9,h5,rfl⟩
  ·by_cases he:Db x=0
   ·have le:=(Up hxm he).2.2;have ih:=ih O1 he;unfold Vz at en;rw[Co he] at en;rw[lA] at ih;rw[←ih];generalize Bd (A++Bb x)=C' at *
    generalize Bd A=C at *
    generalize A.length=n at *
    generalize Bd (Bb x)=TE at *
    generalize (Bb x).length=nE at *
    try unfold Aa
    repeat first
     |((with_reducible first|apply As|apply Ao|apply Ar|apply Az|apply Be|apply Bo|apply Bg|apply A9|apply Am|apply Au|apply At);· first|with_reducible rfl|(simp (disch:=omega) only[gT,nt,c0,c1,c2',en,e00,LE,tE,LA,tA,ea,w,Cv,Dr,Dt]<;>first|with_reducible rfl|omega)|omega)
     |(with_reducible apply Av;· first|with_reducible rfl|(simp (disch:=omega) only[gF,nt,c0,c1,c2',en,e00,LE,tE,LA,tA,ea,w,Cv,Dr,Dt]<;>omega))
    try simp (disch:=omega) only[nt,c0,c1,c2',en,e00,LE,tE,LA,tA,ea,w,Cv,Dr,Dt]
    all_goals rfl
   ·rw[P5 he] at en;have Fu:(Db x != 0)=true:=by simp[he]
    rw[←bad (Ael O1 he) he]
    try unfold Aa
    repeat first
     |((with_reducible first|apply As|apply Ao|apply Ar|apply Az|apply Be|apply Bo|apply Bg|apply A9|apply Am|apply Au|apply At);· first|with_reducible rfl|(simp (disch:=omega) only[gT,nt,c0,c1,c2',en,Fu]<;>first|with_reducible rfl|omega)|omega)
     |(with_reducible apply Av;· first|with_reducible rfl|(simp (disch:=omega) only[gF,nt,c0,c1,c2',en,Fu]<;>omega))
    try simp (disch:=omega) only[nt,c0,c1,c2',en,Fu]
    all_goals rfl
  ·obtain⟨b0,b1,b2⟩:=mea h5;have b0':(Ca m.ents).getD ((i-1)*3+0) .top=.sc (.int .u64 x'.model):=b0;have wi:wrap .i64 ((i:Int)-1)=((i-1:Nat):Int):=by rw[Ap (by omega) (by omega)];omega
   have nt1:Int.toNat ((i-1:Nat):Int)=i-1:=Je _;by_cases ho:x.model<=x'.model
   ·have h7:Js (some x'.model) x=7:=by rw[O0,Co ho]
    rw[←bad (A44 h7) (by omega)]
    try unfold Aa
    repeat first
     |((with_reducible first|apply As|apply Ao|apply Ar|apply Az|apply Be|apply Bo|apply Bg|apply A9|apply Am|apply Au|apply At);· first|with_reducible rfl|(simp (disch:=omega) only[gT,nt,c0',c0,c1,c2',wi,nt1,b0']<;>first|with_reducible rfl|omega)|omega)
     |(with_reducible apply Av;· first|with_reducible rfl|(simp (disch:=omega) only[gF,nt,c0',c0,c1,c2',wi,nt1,b0']<;>omega))
    try simp (disch:=omega) only[nt,c0',c0,c1,c2',wi,nt1,b0']
    all_goals rfl
   ·have h7:Js (some x'.model) x=0:=by rw[O0,Bp ho]
    by_cases he:Db x=0
    ·have le:=(Up hxm he).2.2;have ih:=ih h7 he;unfold Vz at en;rw[Co he] at en;rw[lA] at ih;rw[←ih];generalize Bd (A++Bb x)=C' at *
     generalize Bd A=C at *
     generalize A.length=n at *
     generalize Bd (Bb x)=TE at *
     generalize (Bb x).length=nE at *
     try unfold Aa
     repeat first
      |((with_reducible first|apply As|apply Ao|apply Ar|apply Az|apply Be|apply Bo|apply Bg|apply A9|apply Am|apply Au|apply At);· first|with_reducible rfl|(simp (disch:=omega) only[gT,nt,c0',c0,c1,c2',wi,nt1,b0',en,e00,LE,tE,LA,tA,ea,w,Cv,Dr,Dt]<;>first|with_reducible rfl|omega)|omega)
      |(with_reducible apply Av;· first|with_reducible rfl|(simp (disch:=omega) only[gF,nt,c0',c0,c1,c2',wi,nt1,b0',en,e00,LE,tE,LA,tA,ea,w,Cv,Dr,Dt]<;>omega))
     try simp (disch:=omega) only[nt,c0',c0,c1,c2',wi,nt1,b0',en,e00,LE,tE,LA,tA,ea,w,Cv,Dr,Dt]
     all_goals rfl
    ·rw[P5 he] at en;have Fu:(Db x != 0)=true:=by simp[he]
     rw[←bad (Ael h7 he) he]
     try unfold Aa
     repeat first
      |((with_reducible first|apply As|apply Ao|apply Ar|apply Az|apply Be|apply Bo|apply Bg|apply A9|apply Am|apply Au|apply At);· first|with_reducible rfl|(simp (disch:=omega) only[gT,nt,c0',c0,c1,c2',wi,nt1,b0',en,Fu]<;>first|with_reducible rfl|omega)|omega)
      |(with_reducible apply Av;· first|with_reducible rfl|(simp (disch:=omega) only[gF,nt,c0',c0,c1,c2',wi,nt1,b0',en,Fu]<;>omega))
     try simp (disch:=omega) only[nt,c0',c0,c1,c2',wi,nt1,b0',en,Fu]
     all_goals rfl
theorem MW (B5:1000<=fu){m:Md}(hw:m.wf):Ad C0 prog fu (d+5) Nf [.agg m.cells]=some ⟨Ia m,[]⟩:=by
 refine (W9 fu (d+4) m.ver m.iss m.nxt m.ents.length (Ca m.ents) m.sig.leaf m.sig.chains.length (Af .u64 m.sig.chains) m.sig.path.length (Af .u64 m.sig.path)).trans ?_;have bad:∀{e:Int},B0 m=e->e≠0->some (A4.mk [.own 1 0 [],.sc (.int .i64 e)] [])=some (A4.mk (Ia m) []):=fun {e} h he=>by unfold Ia;rw[h,Bp he]
 have w1:=NJ (fu:=fu) (d:=d+3) m.ver 1 16;by_cases h1:m.ver<1∨16<m.ver
 ·have hb:B0 m=9:=by unfold B0;rw[Co h1]
  have:(decide ((1:Int)<=m.ver)&&decide (m.ver<=16))=false:=by simp;omega
  rw[this] at w1;rw[←bad hb (by omega)]
  try unfold Aa
  repeat first
   |((with_reducible first|apply As|apply Ao|apply Ar|apply Az|apply Be|apply Bo|apply Bg|apply A9|apply Am|apply Au|apply At);· first|with_reducible rfl|(simp (disch:=omega) only[gT,w1,Dc,Hg]<;>first|with_reducible rfl|omega)|omega)
   |(with_reducible apply Av;· first|with_reducible rfl|(simp (disch:=omega) only[gF,w1,Dc,Hg]<;>omega))
  try simp (disch:=omega) only[w1,Dc,Hg]
  all_goals rfl
 have z1:(decide ((1:Int)<=m.ver)&&decide (m.ver<=16))=true:=by simp;omega
 rw[z1] at w1;by_cases h2:m.iss<0∨m.nxt<m.iss∨1099511627776<m.nxt
 ·have hb:B0 m=9:=by unfold B0;rw[Bp h1,Co h2]
  rw[←bad hb (by omega)]
  by_cases h2':m.iss<0
  ·skip
   try unfold Aa
   repeat first
    |((with_reducible first|apply As|apply Ao|apply Ar|apply Az|apply Be|apply Bo|apply Bg|apply A9|apply Am|apply Au|apply At);· first|with_reducible rfl|(simp (disch:=omega) only[gT,w1,Dc]<;>first|with_reducible rfl|omega)|omega)
    |(with_reducible apply Av;· first|with_reducible rfl|(simp (disch:=omega) only[gF,w1,Dc]<;>omega))
   try simp (disch:=omega) only[w1,Dc]
   all_goals rfl
  by_cases Bc3:m.nxt<m.iss
  ·skip
   try unfold Aa
   repeat first
    |((with_reducible first|apply As|apply Ao|apply Ar|apply Az|apply Be|apply Bo|apply Bg|apply A9|apply Am|apply Au|apply At);· first|with_reducible rfl|(simp (disch:=omega) only[gT,w1,Dc]<;>first|with_reducible rfl|omega)|omega)
    |(with_reducible apply Av;· first|with_reducible rfl|(simp (disch:=omega) only[gF,w1,Dc]<;>omega))
   try simp (disch:=omega) only[w1,Dc]
   all_goals rfl
  ·skip
   try unfold Aa
   repeat first
    |((with_reducible first|apply As|apply Ao|apply Ar|apply Az|apply Be|apply Bo|apply Bg|apply A9|apply Am|apply Au|apply At);· first|with_reducible rfl|(simp (disch:=omega) only[gT,w1,Dc]<;>first|with_reducible rfl|omega)|omega)
    |(with_reducible apply Av;· first|with_reducible rfl|(simp (disch:=omega) only[gF,w1,Dc]<;>omega))
   try simp (disch:=omega) only[w1,Dc]
   all_goals rfl
 by_cases h3:16<m.ents.length
 ·have hb:B0 m=8:=by unfold B0;rw[Bp h1,Bp h2,Co h3]
  rw[←bad hb (by omega)]
  try unfold Aa
  repeat first
   |((with_reducible first|apply As|apply Ao|apply Ar|apply Az|apply Be|apply Bo|apply Bg|apply A9|apply Am|apply Au|apply At);· first|with_reducible rfl|(simp (disch:=omega) only[gT,w1,Dc]<;>first|with_reducible rfl|omega)|omega)
   |(with_reducible apply Av;· first|with_reducible rfl|(simp (disch:=omega) only[gF,w1,Dc]<;>omega))
  try simp (disch:=omega) only[w1,Dc]
  all_goals rfl
 have hb:B0 m=Dg none m.ents:=by unfold B0;rw[Bp h1,Bp h2,Bp h3]
 have a4:=P7 (fu:=fu) (d:=d+3) 4 (by omega) (by omega)
 have aE:=P7 (fu:=fu) (d:=d+3) m.ents.length (by omega) (by omega)
 have u1:=Po (fu:=fu) (d:=d+3) m.ver;have u2:=Po (fu:=fu) (d:=d+3) m.iss;have u3:=Po (fu:=fu) (d:=d+3) m.nxt;have x1:wrap .u64 m.ver=m.ver:=C3 (by omega) (by omega)
 have x2:wrap .u64 m.iss=m.iss:=C3 (by omega) (by omega)
 have x3:wrap .u64 m.nxt=m.nxt:=C3 (by omega) (by omega)
 have eT:Bd [E6 4,Fc m.ver,Fc m.iss,Fc m.nxt,E6 m.ents.length]=[.sc (.int .i64 5),.sc (.int .u64 4),.sc (.string Ob),.sc (.int .i64 1),.sc (.int .u64 m.ver),.sc (.string Ob),.sc (.int .i64 1),.sc (.int .u64 m.iss),.sc (.string Ob),.sc (.int .i64 1),.sc (.int .u64 m.nxt),.sc (.string Ob),.sc (.int .i64 5),.sc (.int .u64 m.ents.length),.sc (.string Ob)]:=rfl;have eL:[E6 4,Fc m.ver,Fc m.iss,Fc m.nxt,E6 m.ents.length].length=5:=rfl
 have l0:=A0j (fu:=fu) (d:=d) B5 (Ag:=m.ver) (Ai:=m.iss) (Ay:=m.nxt) (Bi:=m.ents.length) (Bv:=Ca m.ents) (Cf:=m.sig.leaf) (Bk:=m.sig.chains.length) (Cj:=Af .u64 m.sig.chains) (Bn:=m.sig.path.length) (Ci:=Af .u64 m.sig.path) hw (by omega) hb m.ents 0 fu none [E6 4,Fc m.ver,Fc m.iss,Fc m.nxt,E6 m.ents.length] rfl (by omega) (by omega) (.inl ⟨rfl,rfl⟩) (by
  simp only[Ba,Ri,List.flatten_cons,List.flatten_nil,List.append_nil,Zzp,ZG];unfold Do;rw[List.length_map]) (fun h=>h) rfl (by simp only[H5,Ye];omega)
 have z0:((0:Nat):Int)=0:=rfl;rw[z0,eT,eL] at l0;rw[←l0]
 try unfold Aa
 repeat first
  |((with_reducible first|apply As|apply Ao|apply Ar|apply Az|apply Be|apply Bo|apply Bg|apply A9|apply Am|apply Au|apply At);· first|with_reducible rfl|(simp (disch:=omega) only[gT,w1,a4,aE,u1,u2,u3,x1,x2,x3,Dc]<;>first|with_reducible rfl|omega)|omega)
  |(with_reducible apply Av;· first|with_reducible rfl|(simp (disch:=omega) only[gF,w1,a4,aE,u1,u2,u3,x1,x2,x3,Dc]<;>omega))
 try simp (disch:=omega) only[w1,a4,aE,u1,u2,u3,x1,x2,x3,Dc]
 all_goals rfl
end
section
variable {fu d:Nat} {m:Md}
theorem Ata (B5:20000<=fu)(hw:m.wf)(hp:m.sig.path.length<=1000000000):Ad C0 prog fu (d+6) Lx [.agg m.cells]=some ⟨Vf m,[]⟩:=by
 refine (Uj fu (d+5) m.ver m.iss m.nxt m.ents.length (Ca m.ents) m.sig.leaf m.sig.chains.length (Af .u64 m.sig.chains) m.sig.path.length (Af .u64 m.sig.path)).trans ?_;have bq:=MW (fu:=fu) (d:=d) (by omega) hw
 simp only[Md.cells] at bq;have es:=Aki (fu:=fu) (d:=d+3) (by omega) m.sig hp
 simp only[Sg.cells] at es;unfold Ia at bq;unfold Vf Ej;by_cases h0:B0 m=0
 ·have lb:=We hw h0;rw[Co h0] at bq;rw[Co h0];have L1:=Aq .u8 (Bx (Ba m));have t1:=Nv .u8 (Bx (Ba m));have e00:((0:Int) != 0)=false:=rfl;have e90:((9:Int) != 0)=true:=rfl;have e40:((4:Int) != 0)=true:=rfl;unfold NN;by_cases g1:D8 m.sig.path.length=true
  ·rw[Co g1] at es;rw[Co g1,Bp (by omega)]
   try unfold Aa
   repeat first
    |((with_reducible first|apply As|apply Ao|apply Ar|apply Az|apply Be|apply Bo|apply Bg|apply A9|apply Am|apply Au|apply At);· first|with_reducible rfl|(simp (disch:=omega) only[gT,bq,es,e00,e90]<;>first|with_reducible rfl|omega)|omega)
    |(with_reducible apply Av;· first|with_reducible rfl|(simp (disch:=omega) only[gF,bq,es,e00,e90]<;>omega))
   try simp (disch:=omega) only[bq,es,e00,e90]
   all_goals rfl
  rw[Bp g1] at es;rw[Bp g1];by_cases g2:J1 m.sig.leaf m.sig.path.length=true
  ·rw[Co g2] at es;rw[Co g2,Bp (by omega)]
   try unfold Aa
   repeat first
    |((with_reducible first|apply As|apply Ao|apply Ar|apply Az|apply Be|apply Bo|apply Bg|apply A9|apply Am|apply Au|apply At);· first|with_reducible rfl|(simp (disch:=omega) only[gT,bq,es,e00,e90]<;>first|with_reducible rfl|omega)|omega)
    |(with_reducible apply Av;· first|with_reducible rfl|(simp (disch:=omega) only[gF,bq,es,e00,e90]<;>omega))
   try simp (disch:=omega) only[bq,es,e00,e90]
   all_goals rfl
  rw[Bp g2] at es;rw[Bp g2];by_cases g3:m.sig.chains.length≠18
  ·rw[Co g3] at es;rw[Co g3,Bp (by omega)]
   try unfold Aa
   repeat first
    |((with_reducible first|apply As|apply Ao|apply Ar|apply Az|apply Be|apply Bo|apply Bg|apply A9|apply Am|apply Au|apply At);· first|with_reducible rfl|(simp (disch:=omega) only[gT,bq,es,e00,e40]<;>first|with_reducible rfl|omega)|omega)
    |(with_reducible apply Av;· first|with_reducible rfl|(simp (disch:=omega) only[gF,bq,es,e00,e40]<;>omega))
   try simp (disch:=omega) only[bq,es,e00,e40]
   all_goals rfl
  rw[Bp g3] at es;rw[Bp g3,Co rfl];have hb4:=Jo (h:=m.sig.path.length) (by simpa using g1)
  have ls:(To m.sig).length=2+8*m.sig.chains.length+8*m.sig.path.length:=by
   unfold To;simp only[H5,Hi,Dq];omega
  have L2:=Aq .u8 (To m.sig);have t2:=Nv .u8 (To m.sig)
  have ea:Af .u8 (Bx (Ba m))++Af .u8 (To m.sig)=Af .u8 (Gy m):=by
   unfold Gy;rw[Af,Af,Af,List.flatMap_append]
  have le:(Gy m).length=(Bx (Ba m)).length+(To m.sig).length:=by unfold Gy;rw[Hi]
  have L3:=Aq .u8 (Gy m);have t3:List.take ((Bx (Ba m)).length+(To m.sig).length) (Af .u8 (Gy m))=Af .u8 (Gy m):=Jq (by omega)
  rw[le] at L3 ⊢;generalize (Bx (Ba m)).length=n1 at *
  generalize (To m.sig).length=n2 at *
  generalize Af .u8 (Bx (Ba m))=c1 at *
  generalize Af .u8 (To m.sig)=c2 at *
  try unfold Aa
  repeat first
   |((with_reducible first|apply As|apply Ao|apply Ar|apply Az|apply Be|apply Bo|apply Bg|apply A9|apply Am|apply Au|apply At);· first|with_reducible rfl|(simp (disch:=omega) only[gT,bq,es,e00,Dr,Cv,Dt,L1,t1,L2,t2,ea,L3,t3]<;>first|with_reducible rfl|omega)|omega)
   |(with_reducible apply Av;· first|with_reducible rfl|(simp (disch:=omega) only[gF,bq,es,e00,Dr,Cv,Dt,L1,t1,L2,t2,ea,L3,t3]<;>omega))
  try simp (disch:=omega) only[bq,es,e00,Dr,Cv,Dt,L1,t1,L2,t2,ea,L3,t3]
  all_goals rfl
 ·have Fu:(B0 m != 0)=true:=by simp[h0]
  rw[Bp h0] at bq;rw[Bp h0,Bp h0]
  try unfold Aa
  repeat first
   |((with_reducible first|apply As|apply Ao|apply Ar|apply Az|apply Be|apply Bo|apply Bg|apply A9|apply Am|apply Au|apply At);· first|with_reducible rfl|(simp (disch:=omega) only[gT,bq,Fu]<;>first|with_reducible rfl|omega)|omega)
   |(with_reducible apply Av;· first|with_reducible rfl|(simp (disch:=omega) only[gF,bq,Fu]<;>omega))
  try simp (disch:=omega) only[bq,Fu]
  all_goals rfl
theorem Aoo (B5:20000<=fu)(hw:m.wf)(seed h:Int):Ad C0 prog fu (d+13) Nj [.agg m.cells,.sc (.int .u64 seed),.sc (.int .i64 h)]=some ⟨[.agg (Pe m seed h).1.cells,.sc (.int .i64 (Pe m seed h).2)],[]⟩:=by
 refine (Xt fu (d+12) m.ver m.iss m.nxt m.ents.length (Ca m.ents) m.sig.leaf m.sig.chains.length (Af .u64 m.sig.chains) m.sig.path.length (Af .u64 m.sig.path) seed h).trans ?_;have bq:=MW (fu:=fu) (d:=d+7) (by omega) hw
 simp only[Md.cells] at bq;unfold Ia at bq;unfold Pe;by_cases h0:B0 m=0
 ·have lb:=We hw h0;rw[Co h0] at bq;rw[Co h0];have hv:=P2 h0;have e00:((0:Int) != 0)=false:=rfl;have e90:((9:Int) != 0)=true:=rfl;have w:wrap .i64 (m.ver-1)=m.ver-1:=Ap (by omega) (by omega)
  have hh:=Ahf (xs:=Ni) (fu:=fu) (d:=d+8) (SC hw h0) (by omega) (by omega) (by omega) 15
  have sg:=Au7 (fu:=fu) (d:=d) (by omega) seed h (m.ver-1) (Tw m)
  have eW:Rm 15 (Bx (Ba m))=Tw m:=rfl;rw[eW] at hh;have L1:=Aq .u8 (Bx (Ba m));have t1:=Nv .u8 (Bx (Ba m));generalize (Bx (Ba m)).length=n1 at *
  generalize Af .u8 (Bx (Ba m))=c1 at *
  cases hs:JY seed h (m.ver-1) (Tw m) with
  |none=>
   rw[hs] at sg;simp only[Adf,Sg.owned,Ye] at sg
   try unfold Aa
   repeat first
    |((with_reducible first|apply As|apply Ao|apply Ar|apply Az|apply Be|apply Bo|apply Bg|apply A9|apply Am|apply Au|apply At);· first|with_reducible rfl|(simp (disch:=omega) only[gT,bq,e00,e90,w,Dr,Cv,Dt,L1,t1,hh,sg]<;>first|with_reducible rfl|omega)|omega)
    |(with_reducible apply Av;· first|with_reducible rfl|(simp (disch:=omega) only[gF,bq,e00,e90,w,Dr,Cv,Dt,L1,t1,hh,sg]<;>omega))
   try simp (disch:=omega) only[bq,e00,e90,w,Dr,Cv,Dt,L1,t1,hh,sg]
   all_goals rfl
  |some s=>
   rw[hs] at sg;simp only[Adf,Sg.owned] at sg;have hl:=Aoi hs;have La:=Aq .u64 s.chains;have Lb:=Aq .u64 s.path;have ta:=Nv .u64 s.chains;have tb:=Nv .u64 s.path
   try unfold Aa
   repeat first
    |((with_reducible first|apply As|apply Ao|apply Ar|apply Az|apply Be|apply Bo|apply Bg|apply A9|apply Am|apply Au|apply At);· first|with_reducible rfl|(simp (disch:=omega) only[gT,bq,e00,w,Dr,Cv,Dt,L1,t1,hh,sg,La,Lb,ta,tb]<;>first|with_reducible rfl|omega)|omega)
    |(with_reducible apply Av;· first|with_reducible rfl|(simp (disch:=omega) only[gF,bq,e00,w,Dr,Cv,Dt,L1,t1,hh,sg,La,Lb,ta,tb]<;>omega))
   try simp (disch:=omega) only[bq,e00,w,Dr,Cv,Dt,L1,t1,hh,sg,La,Lb,ta,tb]
   all_goals rfl
 ·have Fu:(B0 m != 0)=true:=by simp[h0]
  rw[Bp h0] at bq;rw[Bp h0]
  try unfold Aa
  repeat first
   |((with_reducible first|apply As|apply Ao|apply Ar|apply Az|apply Be|apply Bo|apply Bg|apply A9|apply Am|apply Au|apply At);· first|with_reducible rfl|(simp (disch:=omega) only[gT,bq,Fu]<;>first|with_reducible rfl|omega)|omega)
   |(with_reducible apply Av;· first|with_reducible rfl|(simp (disch:=omega) only[gF,bq,Fu]<;>omega))
  try simp (disch:=omega) only[bq,Fu]
  all_goals rfl
end
end
section
open Go.Proofs.Tryz (prog)
open Go.IntKind (wrap)
set_option maxRecDepth 1000000
section
variable {fu d:Nat}
theorem A3c (B5:1000<=fu)(seed h:Int):Ad C0 prog fu (d+13) Va [.sc (.int .u64 seed),.sc (.int .i64 h)]=some ⟨[.agg (Zy seed h).cells],[]⟩:=by
 rw[LD];have p:=TN (fu:=fu) (d:=d) B5 seed h;simp only[Ky.cells] at p ⊢;simp only[Cd,p]
end
theorem Ab0 (dom:Int)(l:List Int):Vd (Rm dom l):=Kv _
theorem A41 (key dom:Int)(l:List Int):Vd (Ayg key dom l):=Kv _
theorem Ava (leaf chain:Int):∀(k:Nat)(p:Int){x:Int},Vd x->Vd (Vy leaf chain k p x)
 |0,_,_,h=>h
 |k+1,p,x,h=>Ava leaf chain k (p+1) (Ab0 _ _)
theorem A4m (seed leaf m:Int):isW (Mg seed leaf m):=by
 intro x hx;obtain⟨k,_,rfl⟩:=List.mem_map.1 hx;exact Ava _ _ _ _ (A41 _ _ _)
theorem Alf (seed:Int):∀(l:Nat)(i:Int),Vd (Ct seed l i)
 |0,i=>Ab0 _ _
 |l+1,i=>Ab0 _ _
theorem Ao7 (seed h:Int):Vd (Zy seed h).root:=by
 unfold Zy;split
 ·exact⟨by simp,by simp⟩
 ·exact Alf _ _ _
theorem Alz {seed h leaf m:Int}(hh:D8 h=false)(ho:J1 leaf h=false):∃s,JY seed h leaf m=some s∧s.ok∧s.leaf=leaf∧s.chains.length=18∧(s.path.length:Int)=h∧Anw (Zy seed h) m s=0:=by
 have hb:=Jo hh;refine⟨⟨leaf,Mg seed leaf m,(List.range h.toNat).map fun k=>Ct seed k (Hu leaf k)⟩,?_,⟨A4m _ _ _,?_⟩,rfl,by simp[Mg],?_,Avg hh ho⟩
 ·unfold JY;rw[Bp (by simp[hh]),Bp (by simp[ho])]
 ·intro x hx;obtain⟨k,_,rfl⟩:=List.mem_map.1 hx;exact Alf _ _ _
 ·simp only[List.length_map,List.length_range];omega
theorem Awm {s:Sg}:(To s).length=2+8*s.chains.length+8*s.path.length:=by
 unfold To;simp only[H5,Hi,Dq];omega
end
section
open Go.Proofs.Tryz (prog)
open Go.IntKind (wrap)
set_option maxRecDepth 100000
abbrev M6:FuncId:=11
noncomputable def Gr (fu:Nat)(call:Ah)(Al:Nat)(Ag:List PV)(Ai:Int)(nn:Nat)(y0:Int)(y1:Nat)(y2:List PV)(y3 y4:Int)(y5 y6:Int)(y7:Nat)(y8:Int)(y9 y10:Nat)(Er F1 H1:List PV)(Lr Ks Nq:Int)(Lu:Nat)(M7:Int)(Ma Kc:Nat)(J5 Oy DA:List PV):Option A4:=Dd CB prog fu call 11 Tryz.f11 (B9 Tryz.f11) [.pbox [.lst false 1 Al Ag,.sc (.int .i64 Ai)]] [.r,.r,.l,.r,.l] nn ⟨lk [(0,(.ptr 238000 0)),(2,(.ptr 2 0)),(3,(.ptr 3 0)),(4,(.sc (.int .i64 y0)))],B7 [(238000,(.st [(.lst false 1 y1 y2),(.sc (.int .i64 y3))])),(2,(.st [(.sc (.int .i64 y4)),(.sc (.int .i64 y5)),(.sc (.int .i64 y6)),(.view 478 3 0 y7),(.sc (.int .i64 y8)),(.view 716 1 0 y9),(.view 835 1 0 y10)])),(478,(.ar false Er)),(716,(.ar false F1)),(835,(.ar false H1)),(3,(.st [(.sc (.int .i64 Lr)),(.sc (.int .i64 Ks)),(.sc (.int .i64 Nq)),(.view 479 3 0 Lu),(.sc (.int .i64 M7)),(.view 717 1 0 Ma),(.view 836 1 0 Kc)])),(479,(.ar false J5)),(717,(.ar false Oy)),(836,(.ar false DA))]⟩
noncomputable def Gm (fu:Nat)(call:Ah)(Al:Nat)(Ag:List PV)(Ai:Int)(m0 nn:Nat)(y0 y1:Int)(y2:Nat)(y3:List PV)(y4 y5:Int)(y6 y7:Int)(y8:Nat)(y9:Int)(y10 Er:Nat)(F1 H1 Lr:List PV)(Ks Nq Lu:Int)(M7:Nat)(Ma:Int)(Kc J5:Nat)(Oy DA y24:List PV)(y25:Int)(WL RY:Nat)(y28 y29:List PV):Option A4:=Dd CB prog fu call 11 Tryz.f11 (B9 Tryz.f11) [.pbox [.lst false 1 Al Ag,.sc (.int .i64 Ai)]] [.r,.r,.l,.r,.l,.i m0,.r,.l,.l,.r,.l,.r,.l] nn ⟨lk [(0,(.ptr 238000 0)),(2,(.ptr 2 0)),(3,(.ptr 3 0)),(4,(.sc (.int .i64 y0))),(5,(.ptr 5 0)),(6,(.sc (.int .i64 y1)))],B7 [(238000,(.st [(.lst false 1 y2 y3),(.sc (.int .i64 y4))])),(2,(.st [(.sc (.int .i64 y5)),(.sc (.int .i64 y6)),(.sc (.int .i64 y7)),(.view 478 3 0 y8),(.sc (.int .i64 y9)),(.view 716 1 0 y10),(.view 835 1 0 Er)])),(478,(.ar false F1)),(716,(.ar false H1)),(835,(.ar false Lr)),(3,(.st [(.sc (.int .i64 Ks)),(.sc (.int .i64 Nq)),(.sc (.int .i64 Lu)),(.view 479 3 0 M7),(.sc (.int .i64 Ma)),(.view 717 1 0 Kc),(.view 836 1 0 J5)])),(479,(.ar false Oy)),(717,(.ar false DA)),(836,(.ar false y24)),(5,(.st [(.sc (.int .u64 y25)),(.view 243 3 0 WL),(.view 362 2 0 RY)])),(243,(.ar false y28)),(362,(.ar false y29))]⟩
noncomputable def Mi (fu:Nat)(call:Ah)(Al:Nat)(Ag:List PV)(Ai:Int)(nn y0:Nat)(y1:List PV)(y2 y3:Int)(y4 y5:Int)(y6:Nat)(y7:Int)(y8 y9:Nat)(y10 Er F1:List PV)(H1 Lr Ks:Int)(Nq:Nat)(Lu:Int)(M7 Ma:Nat)(Kc J5 Oy:List PV):Option A4:=Dd CB prog fu call 11 Tryz.f11 (B9 Tryz.f11) [.pbox [.lst false 1 Al Ag,.sc (.int .i64 Ai)]] [.r,.r] nn ⟨lk [(0,(.ptr 238000 0)),(2,(.ptr 2 0)),(3,(.ptr 3 0))],B7 [(238000,(.st [(.lst false 1 y0 y1),(.sc (.int .i64 y2))])),(2,(.st [(.sc (.int .i64 y3)),(.sc (.int .i64 y4)),(.sc (.int .i64 y5)),(.view 478 3 0 y6),(.sc (.int .i64 y7)),(.view 716 1 0 y8),(.view 835 1 0 y9)])),(478,(.ar false y10)),(716,(.ar false Er)),(835,(.ar false F1)),(3,(.st [(.sc (.int .i64 H1)),(.sc (.int .i64 Lr)),(.sc (.int .i64 Ks)),(.view 479 3 0 Nq),(.sc (.int .i64 Lu)),(.view 717 1 0 M7),(.view 836 1 0 Ma)])),(479,(.ar false Kc)),(717,(.ar false J5)),(836,(.ar false Oy))]⟩
noncomputable def Gn (fu:Nat)(call:Ah)(Al:Nat)(Ag:List PV)(Ai:Int)(m0 nn:Nat)(y0 y1:Int)(y2:Nat)(y3:List PV)(y4 y5:Int)(y6 y7:Int)(y8:Nat)(y9:Int)(y10 Er:Nat)(F1 H1 Lr:List PV)(Ks Nq Lu:Int)(M7:Nat)(Ma:Int)(Kc J5:Nat)(Oy DA y24:List PV)(y25:Int)(WL RY:Nat)(y28 y29:List PV):Option A4:=Dd CB prog fu call 11 Tryz.f11 (B9 Tryz.f11) [.pbox [.lst false 1 Al Ag,.sc (.int .i64 Ai)]] [.r,.r,.l,.r,.l,.i m0,.r,.l,.l,.r,.r,.l,.r,.l] nn ⟨lk [(0,(.ptr 238000 0)),(2,(.ptr 2 0)),(3,(.ptr 3 0)),(4,(.sc (.int .i64 y0))),(5,(.ptr 5 0)),(9,(.sc (.int .i64 y1)))],B7 [(238000,(.st [(.lst false 1 y2 y3),(.sc (.int .i64 y4))])),(2,(.st [(.sc (.int .i64 y5)),(.sc (.int .i64 y6)),(.sc (.int .i64 y7)),(.view 478 3 0 y8),(.sc (.int .i64 y9)),(.view 716 1 0 y10),(.view 835 1 0 Er)])),(478,(.ar false F1)),(716,(.ar false H1)),(835,(.ar false Lr)),(3,(.st [(.sc (.int .i64 Ks)),(.sc (.int .i64 Nq)),(.sc (.int .i64 Lu)),(.view 479 3 0 M7),(.sc (.int .i64 Ma)),(.view 717 1 0 Kc),(.view 836 1 0 J5)])),(479,(.ar false Oy)),(717,(.ar false DA)),(836,(.ar false y24)),(5,(.st [(.sc (.int .u64 y25)),(.view 243 3 0 WL),(.view 362 2 0 RY)])),(243,(.ar false y28)),(362,(.ar false y29))]⟩
noncomputable def Eu (fu:Nat)(call:Ah)(Al:Nat)(Ag:List PV)(Ai:Int)(nn y0:Nat)(y1:List PV)(y2 y3:Int)(y4 y5:Int)(y6:Nat)(y7:Int)(y8 y9:Nat)(y10 Er F1:List PV)(H1 Lr Ks:Int)(Nq:Nat)(Lu:Int)(M7 Ma:Nat)(Kc J5 Oy:List PV):Option A4:=Dd CB prog fu call 11 Tryz.f11 (B9 Tryz.f11) [.pbox [.lst false 1 Al Ag,.sc (.int .i64 Ai)]] [.r,.r,.r] nn ⟨lk [(0,(.ptr 238000 0)),(2,(.ptr 2 0)),(3,(.ptr 3 0))],B7 [(238000,(.st [(.lst false 1 y0 y1),(.sc (.int .i64 y2))])),(2,(.st [(.sc (.int .i64 y3)),(.sc (.int .i64 y4)),(.sc (.int .i64 y5)),(.view 478 3 0 y6),(.sc (.int .i64 y7)),(.view 716 1 0 y8),(.view 835 1 0 y9)])),(478,(.ar false y10)),(716,(.ar false Er)),(835,(.ar false F1)),(3,(.st [(.sc (.int .i64 H1)),(.sc (.int .i64 Lr)),(.sc (.int .i64 Ks)),(.view 479 3 0 Nq),(.sc (.int .i64 Lu)),(.view 717 1 0 M7),(.view 836 1 0 Ma)])),(479,(.ar false Kc)),(717,(.ar false J5)),(836,(.ar false Oy))]⟩
theorem Ei (fu:Nat)(call:Ah)(Al:Nat)(Ag:List PV)(Ai:Int)(nn:Nat)(y0:Int)(y1:Nat)(y2:List PV)(y3 y4:Int)(y5 y6:Int)(y7:Nat)(y8:Int)(y9 y10:Nat)(Er F1 H1:List PV)(Lr Ks Nq:Int)(Lu:Nat)(M7:Int)(Ma Kc:Nat)(J5 Oy DA:List PV):Gr fu call Al Ag Ai (nn+1) y0 y1 y2 y3 y4 y5 y6 y7 y8 y9 y10 Er F1 H1 Lr Ks Nq Lu M7 Ma Kc J5 Oy DA=(Bm (decide (y0>0)) (Aa (wrap .i64 ((↑Lu:Int)+1)) fun AC=>Aj (call 15 [.pbox [.lst false 1 y1 y2,.sc (.int .i64 y3)],.sc (.int .i64 2)]) fun Zn Y5=>Ab Zn fun Wd AM=>Ae .i64 Wd fun DF=>Ac AM<|Ab Y5 fun AD CW=>Ab AD fun AL CF=>Fa 1 AL fun ET Zu EQ=>Ab CF fun IH AH=>Ae .i64 IH fun GO=>Ac AH<|Ac CW<|Aa (wrap .i64 (AC+DF)) fun JJ=>Aa (wrap .u64 JJ) fun GB=>Aj (call 15 [.pbox [.lst false 1 Zu EQ,.sc (.int .i64 GO)],.sc (.int .i64 3)]) fun JS PD=>Ab JS fun XF OV=>Ae .i64 XF fun UA=>Ac OV<|Ab PD fun SF RC=>Ab SF fun QT IG=>Fa 1 QT fun RP QY YW=>Ab IG fun LX XG=>Ae .i64 LX fun x95=>Ac XG<|Ac RC<|Gm fu call Al Ag Ai nn (fu) (y0) UA QY YW x95 (y4) (y5) (y6) (y7) (y8) (y9) (y10) (Er) (F1) (H1) (Lr) (Ks) (Nq) (Lu) (M7) (Ma) (Kc) (J5) (Oy) (DA) GB 0 0 ([]) ([])) (Mi fu call Al Ag Ai (fu) (y1) (y2) (y3) (y4) (y5) (y6) (y7) (y8) (y9) (y10) (Er) (F1) (H1) (Lr) (Ks) (Nq) (Lu) (M7) (Ma) (Kc) (J5) (Oy) (DA))):=by kernel_rfl
theorem Kw (fu:Nat)(call:Ah)(Al:Nat)(Ag:List PV)(Ai:Int)(m0 nn:Nat)(y0 y1:Int)(y2:Nat)(y3:List PV)(y4 y5:Int)(y6 y7:Int)(y8:Nat)(y9:Int)(y10 Er:Nat)(F1 H1 Lr:List PV)(Ks Nq Lu:Int)(M7:Nat)(Ma:Int)(Kc J5:Nat)(Oy DA y24:List PV)(y25:Int)(WL RY:Nat)(y28 y29:List PV):Gm fu call Al Ag Ai m0 (nn+1) y0 y1 y2 y3 y4 y5 y6 y7 y8 y9 y10 Er F1 H1 Lr Ks Nq Lu M7 Ma Kc J5 Oy DA y24 y25 WL RY y28 y29=(Bm (decide (y1>0)) (Aj (call 15 [.pbox [.lst false 1 y2 y3,.sc (.int .i64 y4)],.sc (.int .i64 4)]) fun YG ND=>Ab YG fun LU XD=>Ae .i64 LU fun Vs=>Ac XD<|Ab ND fun Vt Jg=>Ab Vt fun Lm Uk=>Fa 1 Lm fun Tb Sh Nt=>Ab Uk fun X7 Z8=>Ae .i64 X7 fun DB=>Ac Z8<|Ac Jg<|Aa (wrap .u64 Vs) fun CV=>Aj (call 30 [.sc (.int .u64 CV),.sc (.int .i64 1)]) fun I8 Mt=>Ac Mt<|Ab I8 fun EP EO=>Ef EP fun Yj=>Ab Yj fun EJ FH=>Ae .i64 EJ fun BQ=>Ab FH fun EK ES=>Ae .u64 EK fun AO=>Ac ES<|Ab EO fun BV CZ=>Ae .i64 BV fun FD=>Ac CZ<|Aj (call 15 [.pbox [.lst false 1 Sh Nt,.sc (.int .i64 DB)],.sc (.int .i64 2)]) fun CL HR=>Ab CL fun RH MH=>Ae .i64 RH fun EN=>Ac MH<|Ab HR fun ZC QS=>Ab ZC fun TZ NM=>Fa 1 TZ fun YA WV YZ=>Ab NM fun ZD UP=>Ae .i64 ZD fun UE=>Ac UP<|Ac QS<|Aw (decide (0<=EN)&&decide (EN<2))<|Fk (List.getD [.sc (.string (ByteArray.mk #[114,111,111,116])),.sc (.string (ByteArray.mk #[111,116,104,101,114]))] (0+Int.toNat EN*1) .top) fun UI=>Aw (decide (WL*3<=y28.length)&&true&&decide ((WL+1)*32<=1099511627776)&&decide (WL+1<=1099511627776))<|Aa (WL+1) fun WA=>Aa (List.take (WL*3) y28++[.sc (.string UI),.sc (.int .i64 BQ),.sc (.int .u64 AO)]) fun TY=>Aa (wrap .i64 (y1-1)) fun MT=>Gm fu call Al Ag Ai m0 (nn) (y0) MT WV YZ UE (y5) (y6) (y7) (y8) (y9) (y10) (Er) (F1) (H1) (Lr) (Ks) (Nq) (Lu) (M7) (Ma) (Kc) (J5) (Oy) (DA) (y24) (y25) WA (RY) TY (y29)) (Aj (call 15 [.pbox [.lst false 1 y2 y3,.sc (.int .i64 y4)],.sc (.int .i64 4)]) fun QJ VE=>Ab QJ fun TQ WX=>Ae .i64 TQ fun Ac5=>Ac WX<|Ab VE fun Adm Acu=>Ab Adm fun Ac3 Ajj=>Fa 1 Ac3 fun Aoc Ajc Ajo=>Ab Ajj fun Aei Ah7=>Ae .i64 Aei fun Ah8=>Ac Ah7<|Ac Acu<|Gn fu call Al Ag Ai m0 (fu) (y0) Ac5 Ajc Ajo Ah8 (y5) (y6) (y7) (y8) (y9) (y10) (Er) (F1) (H1) (Lr) (Ks) (Nq) (Lu) (M7) (Ma) (Kc) (J5) (Oy) (DA) (y24) (y25) (WL) (RY) (y28) (y29))):=by kernel_rfl
theorem Fv (fu:Nat)(call:Ah)(Al:Nat)(Ag:List PV)(Ai:Int)(nn:Nat)(O6:0<nn)(y0:Nat)(y1:List PV)(y2 y3:Int)(y4 y5:Int)(y6:Nat)(y7:Int)(y8 y9:Nat)(y10 Er F1:List PV)(H1 Lr Ks:Int)(Nq:Nat)(Lu:Int)(M7 Ma:Nat)(Kc J5 Oy:List PV):Mi fu call Al Ag Ai nn y0 y1 y2 y3 y4 y5 y6 y7 y8 y9 y10 Er F1 H1 Lr Ks Nq Lu M7 Ma Kc J5 Oy=(Aj (call 15 [.pbox [.lst false 1 y0 y1,.sc (.int .i64 y2)],.sc (.int .i64 12)]) fun Aka Akp=>Ab Aka fun Aji Apa=>Ae .i64 Aji fun TB=>Ac Apa<|Ab Akp fun Agb Ai1=>Ab Agb fun Aj0 Am5=>Fa 1 Aj0 fun Aos XW YL=>Ab Am5 fun Ajp Aii=>Ae .i64 Ajp fun YM=>Ac Aii<|Ac Ai1<|Bm (TB==11) (Aj (call 15 [.pbox [.lst false 1 XW YL,.sc (.int .i64 YM)],.sc (.int .i64 3)]) fun Adi Aht=>Ab Adi fun Aiy Ajx=>Ae .i64 Aiy fun Ab1=>Ac Ajx<|Ab Aht fun Atm Auv=>Ab Atm fun Avy Axr=>Fa 1 Avy fun Ax0 Aqu Atf=>Ab Axr fun Ato Asb=>Ae .i64 Ato fun Arm=>Ac Asb<|Ac Auv<|Aw (decide (0<=Ab1)&&decide (Ab1<3))<|Ae .i64 (List.getD [.sc (.int .i64 0),.sc (.int .i64 17),.sc (.int .i64 (-1))] (0+Int.toNat Ab1*1) .top) fun Aqf=>Eu fu call Al Ag Ai (fu) Aqu Atf Arm (y3) (y4) (y5) (y6) (y7) (y8) (y9) (y10) (Er) (F1) Aqf (Lr) (Ks) (Nq) (Lu) (M7) (Ma) (Kc) (J5) (Oy)) (Bm (TB==10) (Aa (wrap .i64 (Lr-1)) fun Ati=>Eu fu call Al Ag Ai (fu) XW YL YM (y3) (y4) (y5) (y6) (y7) (y8) (y9) (y10) (Er) (F1) (H1) (Lr) Ati (Nq) (Lu) (M7) (Ma) (Kc) (J5) (Oy)) (Bm (TB==9) (Aj (call 15 [.pbox [.lst false 1 XW YL,.sc (.int .i64 YM)],.sc (.int .i64 6)]) fun Asz Aux=>Ab Asz fun Aqw Ast=>Ae .i64 Aqw fun Aut=>Ac Ast<|Ab Aux fun Auf Asm=>Ab Auf fun Awn Aso=>Fa 1 Awn fun Awp At2 Aqs=>Ab Aso fun Atq Avk=>Ae .i64 Atq fun Avw=>Ac Avk<|Ac Asm<|Aj (call 15 [.pbox [.lst false 1 At2 Aqs,.sc (.int .i64 Avw)],.sc (.int .i64 2)]) fun Ave Avp=>Ab Ave fun A32 A4u=>Ae .i64 A32 fun A4e=>Ac A4u<|Ab Avp fun A4c A2n=>Ab A4c fun A4f A3q=>Fa 1 A4f fun A6f A4b A3k=>Ab A3q fun A2e A3i=>Ae .i64 A2e fun A21=>Ac A3i<|Ac A2n<|Aa (wrap .i64 (0-A4e)) fun A3l=>Aw (decide (Nq*3<=Kc.length)&&true&&decide ((Nq+1)*56<=1099511627776)&&decide (Nq+1<=1099511627776))<|Aa (Nq+1) fun A29=>Aa (List.take (Nq*3) Kc++[.sc (.int .u64 1),.lst false 3 0 [],.lst false 2 1 [.sc (.int .i64 Aut),.sc (.int .i64 A3l)]]) fun A2f=>Eu fu call Al Ag Ai (fu) A4b A3k A21 (y3) (y4) (y5) (y6) (y7) (y8) (y9) (y10) (Er) (F1) (H1) (Lr) (Ks) A29 (Lu) (M7) (Ma) A2f (J5) (Oy)) (Eu fu call Al Ag Ai (fu) XW YL YM (y3) (y4) (y5) (y6) (y7) (y8) (y9) (y10) (Er) (F1) (H1) (Lr) (Ks) (Nq) (Lu) (M7) (Ma) (Kc) (J5) (Oy))))):=by cases nn with|zero=>exact absurd O6 (Nat.lt_irrefl 0)|succ nn=>kernel_rfl
theorem K6 (fu:Nat)(call:Ah)(Al:Nat)(Ag:List PV)(Ai:Int)(m0 nn:Nat)(y0 y1:Int)(y2:Nat)(y3:List PV)(y4 y5:Int)(y6 y7:Int)(y8:Nat)(y9:Int)(y10 Er:Nat)(F1 H1 Lr:List PV)(Ks Nq Lu:Int)(M7:Nat)(Ma:Int)(Kc J5:Nat)(Oy DA y24:List PV)(y25:Int)(WL RY:Nat)(y28 y29:List PV):Gn fu call Al Ag Ai m0 (nn+1) y0 y1 y2 y3 y4 y5 y6 y7 y8 y9 y10 Er F1 H1 Lr Ks Nq Lu M7 Ma Kc J5 Oy DA y24 y25 WL RY y28 y29=(Bm (decide (y1>0)) (Aj (call 15 [.pbox [.lst false 1 y2 y3,.sc (.int .i64 y4)],.sc (.int .i64 4)]) fun A3w A4h=>Ab A3w fun A4t A2y=>Ae .i64 A4t fun A18=>Ac A2y<|Ab A4h fun Bdo Bbo=>Ab Bdo fun Bbt Bac=>Fa 1 Bbt fun Bfu Ban A92=>Ab Bac fun Ba9 Bcd=>Ae .i64 Ba9 fun Ba3=>Ac Bcd<|Ac Bbo<|Aa (wrap .i64 (1+A18)) fun Ba8=>Aa (wrap .i64 (10*(↑RY:Int))) fun Bav=>Aj (call 15 [.pbox [.lst false 1 Ban A92,.sc (.int .i64 Ba3)],.sc (.int .i64 12)]) fun A93 Baa=>Ab A93 fun Bcg Bdf=>Ae .i64 Bcg fun Bau=>Ac Bdf<|Ab Baa fun Bat Bak=>Ab Bat fun Bc5 Bc2=>Fa 1 Bc5 fun Bfv Ba4 Bcj=>Ab Bc2 fun Bb4 Bda=>Ae .i64 Bb4 fun Bcc=>Ac Bda<|Ac Bak<|Aa (wrap .i64 (Bav+Bau)) fun Bdn=>Aw (decide (RY*2<=y29.length)&&true&&decide ((RY+1)*16<=1099511627776)&&decide (RY+1<=1099511627776))<|Aa (RY+1) fun Bbm=>Aa (List.take (RY*2) y29++[.sc (.int .i64 Ba8),.sc (.int .i64 Bdn)]) fun Bcq=>Aa (wrap .i64 (y1-1)) fun Bbb=>Gn fu call Al Ag Ai m0 (nn) (y0) Bbb Ba4 Bcj Bcc (y5) (y6) (y7) (y8) (y9) (y10) (Er) (F1) (H1) (Lr) (Ks) (Nq) (Lu) (M7) (Ma) (Kc) (J5) (Oy) (DA) (y24) (y25) (WL) Bbm (y28) Bcq) (Aw (decide (0+WL*3<=y28.length))<|Aw (decide (0+RY*2<=y29.length))<|Aw (decide (M7*3<=Oy.length)&&true&&decide ((M7+1)*56<=1099511627776)&&decide (M7+1<=1099511627776))<|Aa (M7+1) fun Bb5=>Aa (List.take (M7*3) Oy++[.sc (.int .u64 y25),.lst false 3 WL (List.take (WL*3) (List.drop 0 y28)),.lst false 2 RY (List.take (RY*2) (List.drop 0 y29))]) fun Baz=>Aa (wrap .i64 (y0-1)) fun Ba7=>Gr fu call Al Ag Ai (m0) Ba7 (y2) (y3) (y4) (y5) (y6) (y7) (y8) (y9) (y10) (Er) (F1) (H1) (Lr) (Ks) (Nq) (Lu) Bb5 (Ma) (Kc) (J5) Baz (DA) (y24))):=by kernel_rfl
theorem Fz (fu:Nat)(call:Ah)(Al:Nat)(Ag:List PV)(Ai:Int)(nn:Nat)(O6:0<nn)(y0:Nat)(y1:List PV)(y2 y3:Int)(y4 y5:Int)(y6:Nat)(y7:Int)(y8 y9:Nat)(y10 Er F1:List PV)(H1 Lr Ks:Int)(Nq:Nat)(Lu:Int)(M7 Ma:Nat)(Kc J5 Oy:List PV):Eu fu call Al Ag Ai nn y0 y1 y2 y3 y4 y5 y6 y7 y8 y9 y10 Er F1 H1 Lr Ks Nq Lu M7 Ma Kc J5 Oy=(Aw (decide (0+Nq*3<=Kc.length))<|Aw (decide (0+M7*1<=J5.length))<|Aw (decide (0+Ma*1<=Oy.length))<|some (A4.mk [.agg [.sc (.int .i64 H1),.sc (.int .i64 Lr),.sc (.int .i64 Ks),.lst false 3 Nq (List.take (Nq*3) (List.drop 0 Kc)),.sc (.int .i64 Lu),.lst false 1 M7 (List.take (M7*1) (List.drop 0 J5)),.lst false 1 Ma (List.take (Ma*1) (List.drop 0 Oy))]] [[.lst false 1 y0 y1,.sc (.int .i64 y2)]])):=by cases nn with|zero=>exact absurd O6 (Nat.lt_irrefl 0)|succ nn=>kernel_rfl
theorem Wz (fu d Al:Nat)(Ag:List PV)(Ai:Int):Ad C0 prog fu (d+1) M6 [.pbox [.lst false 1 Al Ag,.sc (.int .i64 Ai)]]=(fun (call:Ah)=>Aj (call 15 [.pbox [.lst false 1 Al Ag,.sc (.int .i64 Ai)],.sc (.int .i64 16)]) fun x1 x2=>Ab x1 fun x3 x4=>Ae .i64 x3 fun x5=>Ac x4<|Ab x2 fun x6 x7=>Ab x6 fun x8 x9=>Fa 1 x8 fun Cy C4 D1=>Ab x9 fun Ed Dn=>Ae .i64 Ed fun Eg=>Ac Dn<|Ac x7<|Aa (wrap .i64 (1+x5)) fun Ez=>Aj (call 15 [.pbox [.lst false 1 C4 D1,.sc (.int .i64 Eg)],.sc (.int .i64 20)]) fun Fq F9=>Ab Fq fun Fp F2=>Ae .i64 Fp fun Iw=>Ac F2<|Ab F9 fun Hl H3=>Ab Hl fun E5 Ep=>Fa 1 E5 fun G2 I1 Gs=>Ab Ep fun Ml L5=>Ae .i64 Ml fun J6=>Ac L5<|Ac H3<|Aj (call 15 [.pbox [.lst false 1 I1 Gs,.sc (.int .i64 J6)],.sc (.int .i64 100)]) fun Le Mc=>Ab Le fun Nh Nw=>Ae .i64 Nh fun Qa=>Ac Nw<|Ab Mc fun Sb Ip=>Ab Sb fun Lf Rj=>Fa 1 Lf fun V9 Rb Zb=>Ab Rj fun Za Wc=>Ae .i64 Za fun Wa=>Ac Wc<|Ac Ip<|Aa (wrap .i64 (20+Qa)) fun Wt=>Aj (call 15 [.pbox [.lst false 1 Rb Zb,.sc (.int .i64 Wa)],.sc (.int .i64 4)]) fun Xr Xi=>Ab Xr fun Ze Y8=>Ae .i64 Ze fun Xz=>Ac Y8<|Ab Xi fun AN AG=>Ab AN fun Yd Zq=>Fa 1 Yd fun AJ Yz CJ=>Ab Zq fun AB AF=>Ae .i64 AB fun DT=>Ac AF<|Ac AG<|Gr fu call Al Ag Ai (fu) Xz Yz CJ DT 0 0 0 0 0 0 0 ([]) ([]) ([]) Ez Iw Wt 0 0 0 0 ([]) ([]) ([])) (Ad C0 prog fu d):=by kernel_rfl
abbrev Qz:FuncId:=8
noncomputable def Ge (fu:Nat)(call:Ah)(Ag Ai Ay:Int)(Bi:Nat)(Bv:List PV)(Cf:Int)(Bk:Nat)(Cj:List PV)(Bn:Nat)(Ci:List PV)(nn:Nat)(y0 y1:Int)(y2 y3:Int)(y4:Nat)(y5:List PV)(y6:Int)(y7:Nat)(y8:List PV)(y9:Nat)(y10:List PV):Option A4:=Dd CB prog fu call 8 Tryz.f8 (B9 Tryz.f8) [.agg [.sc (.int .i64 Ag),.sc (.int .i64 Ai),.sc (.int .i64 Ay),.lst false 3 Bi Bv,.sc (.int .i64 Cf),.lst false 1 Bk Cj,.lst false 1 Bn Ci]] [.r,.r,.l,.r,.l] nn ⟨lk [(1,(.ptr 1 0)),(3,(.sc (.int .i64 y0)))],B7 [(1,(.st [(.sc (.int .i64 y1)),(.sc (.int .i64 y2)),(.sc (.int .i64 y3)),(.lst false 3 y4 y5),(.sc (.int .i64 y6)),(.lst false 1 y7 y8),(.lst false 1 y9 y10)]))]⟩
noncomputable def Gf (fu:Nat)(call:Ah)(Ag Ai Ay:Int)(Bi:Nat)(Bv:List PV)(Cf:Int)(Bk:Nat)(Cj:List PV)(Bn:Nat)(Ci:List PV)(m0 nn:Nat)(y0 y1:Int)(y2 y3 y4:Int)(y5:Nat)(y6:List PV)(y7:Int)(y8:Nat)(y9:List PV)(y10:Nat)(Er:List PV):Option A4:=Dd CB prog fu call 8 Tryz.f8 (B9 Tryz.f8) [.agg [.sc (.int .i64 Ag),.sc (.int .i64 Ai),.sc (.int .i64 Ay),.lst false 3 Bi Bv,.sc (.int .i64 Cf),.lst false 1 Bk Cj,.lst false 1 Bn Ci]] [.r,.r,.l,.r,.l,.i m0,.r,.l,.l,.r,.r,.l] nn ⟨lk [(1,(.ptr 1 0)),(3,(.sc (.int .i64 y0))),(4,(.sc (.int .i64 y1)))],B7 [(1,(.st [(.sc (.int .i64 y2)),(.sc (.int .i64 y3)),(.sc (.int .i64 y4)),(.lst false 3 y5 y6),(.sc (.int .i64 y7)),(.lst false 1 y8 y9),(.lst false 1 y10 Er)]))]⟩
theorem Nb (fu:Nat)(call:Ah)(Ag Ai Ay:Int)(Bi:Nat)(Bv:List PV)(Cf:Int)(Bk:Nat)(Cj:List PV)(Bn:Nat)(Ci:List PV)(nn:Nat)(y0 y1:Int)(y2 y3:Int)(y4:Nat)(y5:List PV)(y6:Int)(y7:Nat)(y8:List PV)(y9:Nat)(y10:List PV):Ge fu call Ag Ai Ay Bi Bv Cf Bk Cj Bn Ci (nn+1) y0 y1 y2 y3 y4 y5 y6 y7 y8 y9 y10=(Bm (decide (y0<(↑y4:Int))) (Aw (decide (0<=y0)&&decide (y0<(↑y4:Int)))<|Fa 3 (List.getD y5 (Int.toNat y0*3+1) .top) fun x1 x2 x3=>Bm (decide ((↑x2:Int)>8)) (some (A4.mk [.sc (.bool false)] [])) (Aw (decide (0<=y0)&&decide (y0<(↑y4:Int)))<|Fa 2 (List.getD y5 (Int.toNat y0*3+2) .top) fun x4 x5 x6=>Bm (decide ((↑x5:Int)>8)) (some (A4.mk [.sc (.bool false)] [])) (Gf fu call Ag Ai Ay Bi Bv Cf Bk Cj Bn Ci nn (fu) (y0) 0 (y1) (y2) (y3) (y4) (y5) (y6) (y7) (y8) (y9) (y10)))) (some (A4.mk [.sc (.bool true)] []))):=by kernel_rfl
theorem Nk (fu:Nat)(call:Ah)(Ag Ai Ay:Int)(Bi:Nat)(Bv:List PV)(Cf:Int)(Bk:Nat)(Cj:List PV)(Bn:Nat)(Ci:List PV)(m0 nn:Nat)(y0 y1:Int)(y2 y3 y4:Int)(y5:Nat)(y6:List PV)(y7:Int)(y8:Nat)(y9:List PV)(y10:Nat)(Er:List PV):Gf fu call Ag Ai Ay Bi Bv Cf Bk Cj Bn Ci m0 (nn+1) y0 y1 y2 y3 y4 y5 y6 y7 y8 y9 y10 Er=(Aw (decide (0<=y0)&&decide (y0<(↑y5:Int)))<|Fa 3 (List.getD y6 (Int.toNat y0*3+1) .top) fun x7 x8 x9=>Bm (decide (y1<(↑x8:Int))) (Aw (decide (0<=y0)&&decide (y0<(↑y5:Int)))<|Fa 3 (List.getD y6 (Int.toNat y0*3+1) .top) fun Cy C4 D1=>Aw (decide (0<=y1)&&decide (y1<(↑C4:Int)))<|Fk (List.getD D1 (Int.toNat y1*3+0) .top) fun Ed=>Bm (decide ((↑(ByteArray.size Ed):Int)>60)) (some (A4.mk [.sc (.bool false)] [])) (Aa (wrap .i64 (y1+1)) fun Dn=>Gf fu call Ag Ai Ay Bi Bv Cf Bk Cj Bn Ci m0 (nn) (y0) Dn (y2) (y3) (y4) (y5) (y6) (y7) (y8) (y9) (y10) (Er))) (Aa (wrap .i64 (y0+1)) fun Eg=>Ge fu call Ag Ai Ay Bi Bv Cf Bk Cj Bn Ci (m0) Eg (y2) (y3) (y4) (y5) (y6) (y7) (y8) (y9) (y10) (Er))):=by kernel_rfl
theorem BB (fu d:Nat)(Ag Ai Ay:Int)(Bi:Nat)(Bv:List PV)(Cf:Int)(Bk:Nat)(Cj:List PV)(Bn:Nat)(Ci:List PV):Ad C0 prog fu (d+1) Qz [.agg [.sc (.int .i64 Ag),.sc (.int .i64 Ai),.sc (.int .i64 Ay),.lst false 3 Bi Bv,.sc (.int .i64 Cf),.lst false 1 Bk Cj,.lst false 1 Bn Ci]]=(fun (call:Ah)=>Bm (decide ((↑Bi:Int)>20)) (some (A4.mk [.sc (.bool false)] [])) (Bm (decide ((↑Bk:Int)>40)) (some (A4.mk [.sc (.bool false)] [])) (Bm (decide ((↑Bn:Int)>10)) (some (A4.mk [.sc (.bool false)] [])) (Ge fu call Ag Ai Ay Bi Bv Cf Bk Cj Bn Ci (fu) 0 (Ag) (Ai) (Ay) (Bi) (Bv) (Cf) (Bk) (Cj) (Bn) (Ci))))) (Ad C0 prog fu d):=by kernel_rfl
abbrev Pa:FuncId:=13
theorem Z6 (fu d:Nat)(Ag Ai Ay:Int)(Bi:Nat)(Bv:List PV)(Cf:Int)(Bk:Nat)(Cj:List PV)(Bn:Nat)(Ci:List PV):Ad C0 prog fu (d+1) Pa [.agg [.sc (.int .i64 Ag),.sc (.int .i64 Ai),.sc (.int .i64 Ay),.lst false 3 Bi Bv,.sc (.int .i64 Cf),.lst false 1 Bk Cj,.lst false 1 Bn Ci]]=(fun (call:Ah)=>Aj (call 34 [.agg [.sc (.int .i64 Ag),.sc (.int .i64 Ai),.sc (.int .i64 Ay),.lst false 3 Bi Bv,.sc (.int .i64 Cf),.lst false 1 Bk Cj,.lst false 1 Bn Ci]]) fun x1 x2=>Ac x2<|Ab x1 fun x3 x4=>F5 1 x3 fun x5 x6=>Ab x4 fun x7 x8=>Ae .i64 x7 fun x9=>Ac x8<|Aj (call 31 [.agg [.sc (.int .i64 Ag),.sc (.int .i64 Ai),.sc (.int .i64 Ay),.lst false 3 Bi Bv,.sc (.int .i64 Cf),.lst false 1 Bk Cj,.lst false 1 Bn Ci]]) fun Cy C4=>Ac C4<|Ab Cy fun D1 Ed=>F5 1 D1 fun Dn Eg=>Ab Ed fun Ez Fq=>Ae .i64 Ez fun F9=>Ac Fq<|Aj (call 25 [.agg [.sc (.int .i64 Ag),.sc (.int .i64 Ai),.sc (.int .i64 Ay),.lst false 3 Bi Bv,.sc (.int .i64 Cf),.lst false 1 Bk Cj,.lst false 1 Bn Ci]]) fun Fp F2=>Ac F2<|Ab Fp fun Iw Hl=>F5 1 Iw fun H3 E5=>Ab Hl fun Ep G2=>Ae .i64 Ep fun I1=>Ac G2<|Aj (call 21 [.agg [.sc (.int .i64 Ag),.sc (.int .i64 Ai),.sc (.int .i64 Ay),.lst false 3 Bi Bv,.sc (.int .i64 Cf),.lst false 1 Bk Cj,.lst false 1 Bn Ci]]) fun Gs Ml=>Ac Ml<|Ab Gs fun L5 J6=>F5 1 L5 fun Le Mc=>Ab J6 fun Nh Nw=>Ae .i64 Nh fun Qa=>Ac Nw<|Aw (decide (0+x5*1<=x6.length))<|Aw (decide (List.length (List.take (x5*1) (List.drop 0 x6))=x5))<|F6 (bytesOf (List.take (x5*1) (List.drop 0 x6))) fun Sb=>Aw (decide (0+Dn*1<=Eg.length))<|Aw (decide (List.length (List.take (Dn*1) (List.drop 0 Eg))=Dn))<|F6 (bytesOf (List.take (Dn*1) (List.drop 0 Eg))) fun Ip=>Bm (Array.toList (ByteArray.data (ByteArray.mk (List.toArray Sb)))==Array.toList (ByteArray.data (ByteArray.mk (List.toArray Ip)))) (Bm (x9==F9) (Aw (decide (0+H3*1<=E5.length))<|Aw (decide (List.length (List.take (H3*1) (List.drop 0 E5))=H3))<|F6 (bytesOf (List.take (H3*1) (List.drop 0 E5))) fun Lf=>Aw (decide (0+Le*1<=Mc.length))<|Aw (decide (List.length (List.take (Le*1) (List.drop 0 Mc))=Le))<|F6 (bytesOf (List.take (Le*1) (List.drop 0 Mc))) fun Rj=>Bm (Array.toList (ByteArray.data (ByteArray.mk (List.toArray Lf)))==Array.toList (ByteArray.data (ByteArray.mk (List.toArray Rj)))) (some (A4.mk [.sc (.bool (I1==Qa))] [])) (some (A4.mk [.sc (.bool false)] []))) (some (A4.mk [.sc (.bool false)] []))) (some (A4.mk [.sc (.bool false)] []))) (Ad C0 prog fu d):=by kernel_rfl
abbrev Q3:FuncId:=9
theorem CO (fu d:Nat):Ad C0 prog fu (d+1) Q3 []=(fun (call:Ah)=>Aj (call 16 [.agg [.sc (.int .i64 2),.sc (.int .i64 1),.sc (.int .i64 9),.lst false 3 1 [.sc (.int .u64 4),.lst false 3 0 [],.lst false 2 2 [.sc (.int .i64 1),.sc (.int .i64 0),.sc (.int .i64 4),.sc (.int .i64 50)]],.sc (.int .i64 0),.lst false 1 0 [],.lst false 1 0 []],.sc (.int .u64 7),.sc (.int .i64 2)]) fun x1 x2=>Ac x2<|Ab x1 fun x3 x4=>Ef x3 fun x5=>Ab x5 fun x6 x7=>Ae .i64 x6 fun x8=>Ab x7 fun x9 Cy=>Ae .i64 x9 fun C4=>Ab Cy fun D1 Ed=>Ae .i64 D1 fun Dn=>Ab Ed fun Eg Ez=>Fa 3 Eg fun Fq F9 Fp=>Ab Ez fun F2 Iw=>Ae .i64 F2 fun Hl=>Ab Iw fun H3 E5=>Fa 1 H3 fun Ep G2 I1=>Ab E5 fun Gs Ml=>Fa 1 Gs fun L5 J6 Le=>Ac Ml<|Ab x4 fun Mc Nh=>Ae .i64 Mc fun Nw=>Ac Nh<|Aj (call 25 [.agg [.sc (.int .i64 x8),.sc (.int .i64 C4),.sc (.int .i64 Dn),.lst false 3 F9 Fp,.sc (.int .i64 Hl),.lst false 1 G2 I1,.lst false 1 J6 Le]]) fun Qa Sb=>Ac Sb<|Ab Qa fun Ip Lf=>F5 1 Ip fun Rj V9=>Ab Lf fun Rb Zb=>Ae .i64 Rb fun Za=>Ac Zb<|Aj (call 17 [.sc (.int .u64 7),.sc (.int .i64 2)]) fun Wc Wa=>Ac Wa<|Ab Wc fun Wt Xr=>Ef Wt fun Xi=>Ab Xi fun Ze Y8=>Ae .i64 Ze fun Xz=>Ab Y8 fun AN AG=>Ae .u64 AN fun Yd=>Ac AG<|Ac Xr<|Aw (decide (0+Rj*1<=V9.length))<|Aj (call 27 [.agg [.sc (.int .i64 1),.sc (.int .i64 0),.sc (.int .i64 0),.lst false 3 0 [],.sc (.int .i64 0),.lst false 1 0 [],.lst false 1 0 []],.lst false 1 Rj (List.take (Rj*1) (List.drop 0 V9)),.agg [.sc (.int .i64 Xz),.sc (.int .u64 Yd)],.sc (.int .i64 5)]) fun Zq AJ=>Ac AJ<|Ab Zq fun Yz CJ=>Ef Yz fun AB=>Ab AB fun AF DT=>Ae .i64 AF fun AC=>Ab DT fun Zn Y5=>Ae .i64 Zn fun Wd=>Ab Y5 fun AM DF=>Ae .i64 AM fun AD=>Ab DF fun CW AL=>Fa 3 CW fun CF ET Zu=>Ab AL fun EQ IH=>Ae .i64 EQ fun AH=>Ab IH fun GO JJ=>Fa 1 GO fun GB JS PD=>Ab JJ fun XF OV=>Fa 1 XF fun UA SF RC=>Ac OV<|Ab CJ fun QT IG=>Ae .i64 QT fun RP=>Ac IG<|Aj (call 17 [.sc (.int .u64 7),.sc (.int .i64 2)]) fun QY YW=>Ac YW<|Ab QY fun LX XG=>Ef LX fun x95=>Ab x95 fun YG ND=>Ae .i64 YG fun LU=>Ab ND fun XD Vs=>Ae .u64 XD fun Vt=>Ac Vs<|Ac XG<|Aw (decide (0+Rj*1<=V9.length))<|Aj (call 27 [.agg [.sc (.int .i64 x8),.sc (.int .i64 C4),.sc (.int .i64 Dn),.lst false 3 F9 Fp,.sc (.int .i64 Hl),.lst false 1 G2 I1,.lst false 1 J6 Le],.lst false 1 Rj (List.take (Rj*1) (List.drop 0 V9)),.agg [.sc (.int .i64 LU),.sc (.int .u64 Vt)],.sc (.int .i64 5)]) fun Jg Lm=>Ac Lm<|Ab Jg fun Uk Tb=>Ef Uk fun Sh=>Ab Sh fun Nt X7=>Ae .i64 Nt fun Z8=>Ab X7 fun DB CV=>Ae .i64 DB fun I8=>Ab CV fun Mt EP=>Ae .i64 Mt fun EO=>Ab EP fun Yj EJ=>Fa 3 Yj fun FH BQ EK=>Ab EJ fun ES AO=>Ae .i64 ES fun BV=>Ab AO fun CZ FD=>Fa 1 CZ fun CL HR RH=>Ab FD fun MH EN=>Fa 1 MH fun ZC QS TZ=>Ac EN<|Ab Tb fun NM YA=>Ae .i64 NM fun WV=>Ac YA<|Bm (Nw==0) (Bm (Za==0) (Bm (RP==0) (Bm (WV==7) (Bm (Hl==1) (Aj (call 18 [.agg [.sc (.int .i64 x8),.sc (.int .i64 C4),.sc (.int .i64 Dn),.lst false 3 F9 Fp,.sc (.int .i64 Hl),.lst false 1 G2 I1,.lst false 1 J6 Le],.agg [.sc (.int .i64 AC),.sc (.int .i64 Wd),.sc (.int .i64 AD),.lst false 3 ET Zu,.sc (.int .i64 AH),.lst false 1 JS PD,.lst false 1 SF RC]]) fun YZ ZD=>Ac ZD<|Ab YZ fun UP UE=>B3 UP fun UI=>Ac UE<|Bm UI (Aj (call 29 [.agg [.sc (.int .i64 AC),.sc (.int .i64 Wd),.sc (.int .i64 AD),.lst false 3 ET Zu,.sc (.int .i64 AH),.lst false 1 JS PD,.lst false 1 SF RC],.sc (.int .u64 4),.sc (.int .i64 49)]) fun WA TY=>Ac TY<|Ab WA fun MT QJ=>Ae .i64 MT fun VE=>Ac QJ<|Bm (VE==1) (Aj (call 29 [.agg [.sc (.int .i64 AC),.sc (.int .i64 Wd),.sc (.int .i64 AD),.lst false 3 ET Zu,.sc (.int .i64 AH),.lst false 1 JS PD,.lst false 1 SF RC],.sc (.int .u64 4),.sc (.int .i64 50)]) fun TQ WX=>Ac WX<|Ab TQ fun Ac5 Adm=>Ae .i64 Ac5 fun Acu=>Ac Adm<|some (A4.mk [.sc (.bool (Acu==4))] [])) (some (A4.mk [.sc (.bool false)] []))) (some (A4.mk [.sc (.bool false)] []))) (some (A4.mk [.sc (.bool false)] []))) (some (A4.mk [.sc (.bool false)] []))) (some (A4.mk [.sc (.bool false)] []))) (some (A4.mk [.sc (.bool false)] []))) (some (A4.mk [.sc (.bool false)] []))) (Ad C0 prog fu d):=by kernel_rfl
end
section
open Go.Proofs.Tryz (prog)
open Go.IntKind (wrap)
set_option maxRecDepth 1000000
structure Me.few (x:Me):Prop where
 model:Vd x.model
 rts:x.rts
 ans:x.ans.length<=2
 sts:x.sts.length<=3
 nam:∀a∈x.ans,a.name.size<=60
structure Md.plain (m:Md):Prop where
 ent:∀x∈m.ents,x.few
 len:m.ents.length<=4
 sg:m.sig=sg0
abbrev rtN:ByteArray:=⟨#[(114:UInt8),(111:UInt8),(111:UInt8),(116:UInt8)]⟩
abbrev otN:ByteArray:=⟨#[(111:UInt8),(116:UInt8),(104:UInt8),(101:UInt8),(114:UInt8)]⟩
theorem Aq6 {v:Int}(h0:0<=v)(h1:v<2):∃s:ByteArray,s.size<=60∧List.getD [PV.sc (Value.string rtN),PV.sc (Value.string otN)] (0+Int.toNat v*1) PV.top=.sc (.string s):=by
 have:v=0∨v=1:=by omega
 rcases this with rfl|rfl
 ·exact⟨rtN,by decide,rfl⟩
 ·exact⟨otN,by decide,rfl⟩
section
variable {fu d:Nat} {l:List Int}
theorem Arz (a:List An)(x:An):Dh a++[.sc (.string x.name),.sc (.int .i64 x.key.h),.sc (.int .u64 x.key.root)]=Dh (a++[x]):=by
 unfold Dh;rw[List.flatMap_append,List.flatMap_cons,List.flatMap_nil,List.append_nil];rfl
theorem Avu (a:List Sa)(x:Sa):Dw a++[.sc (.int .i64 x.kd),.sc (.int .i64 x.at_)]=Dw (a++[x]):=by
 unfold Dw;rw[List.flatMap_append,List.flatMap_cons,List.flatMap_nil,List.append_nil];rfl
noncomputable abbrev NR (fu d:Nat)(l:List Int)(Ai:Int)(nn:Nat)(v:Int)(i:Nat)(ver iss nxt:Int)(n:Nat)(c:List PV):Option A4:=
 Gr fu (Ad C0 prog fu (d+13)) l.length (Af .i64 l) Ai nn v l.length (Af .i64 l) (i:Int) 0 0 0 0 0 0 0 [] [] [] ver iss nxt n 0 0 0 c [] []
theorem A0i (hl:l.length<=maxLen){Ai:Int}{m0:Nat}{v0 ver iss nxt mo:Int}{en:Nat}{E:List Me}(hE:E.length<=100){A:List An}(hA:A.length<=100):∀(k nn:Nat)(v:Int)(i:Nat)(S:List Sa),v<=k->k<nn->S.length+k<=100 ->
  ∃(S':List Sa) (i':Nat),S'.length<=S.length+k ∧
  Gn fu (Ad C0 prog fu (d+13)) l.length (Af .i64 l) Ai m0 nn v0 v l.length (Af .i64 l) (i:Int) 0 0 0 0 0 0 0 [] [] [] ver iss nxt E.length 0 0 0 (Ca E) [] [] mo A.length S.length (Dh A) (Dw S) =
   NR fu d l Ai m0 (wrap .i64 (v0-1)) i' ver iss nxt (E++[Me.mk mo A S']).length (Ca (E++[Me.mk mo A S']))
 |_,0,_,_,_,_,h,_=>by omega
 |k,nn+1,v,i,S,hv,hn,hS=>by
  have LA:=Sq A;have LS:=DV S;have LE:=Pi E;have tA:List.take (A.length*3) (Dh A)=Dh A:=Jq (by omega)
  have tS:List.take (S.length*2) (Dw S)=Dw S:=Jq (by omega)
  have tE:List.take (E.length*3) (Ca E)=Ca E:=Jq (by omega)
  by_cases h0:v>0
  rotate_left
  ·refine⟨S,i,by omega,?_⟩
   rw[K6];have ea:=DP E (Me.mk mo A S);simp only at ea;have el:(E++[Me.mk mo A S]).length=E.length+1:=by rw[Hi];rfl
   rw[el];generalize Ca (E++[_])=E' at *
   try unfold Aa
   repeat first
    |((with_reducible first|apply As|apply Ao|apply Ar|apply Be|apply Bg|apply A9|apply Am|apply Au|apply At);· first|with_reducible rfl|(simp (disch:=omega) only[gT,LA,LS,LE,tA,tS,tE,ea,Cv,Dt]<;>first|with_reducible rfl|omega)|omega)
    |(with_reducible apply Av;· first|with_reducible rfl|(simp (disch:=omega) only[gF,LA,LS,LE,tA,tS,tE,ea,Cv,Dt]<;>omega))
   try simp (disch:=omega) only[LA,LS,LE,tA,tS,tE,ea,Cv,Dt]
   all_goals rfl
  ·obtain⟨k',rfl⟩:∃k',k=k'+1:=⟨k-1,by omega⟩
   obtain⟨u0,j0,u00,u01,n0⟩:=Jm hl i 4 (by omega) (by omega)
   obtain⟨u1,j1,u10,u11,n1⟩:=Jm hl j0 12 (by omega) (by omega)
   have n0:=n0 (fu:=fu) (d:=d+11);have n1:=n1 (fu:=fu) (d:=d+11);simp only[dkc] at n0 n1;have wd:wrap .i64 (v-1)=v-1:=Ap (by omega) (by omega)
   obtain⟨S',i',h1,h2⟩:=A0i hl (Ai:=Ai) (m0:=m0) (v0:=v0) (ver:=ver) (iss:=iss) (nxt:=nxt) (mo:=mo) (en:=en) hE hA k' nn (v-1) j1 (S++[⟨wrap .i64 (1+u0),wrap .i64 (wrap .i64 (10*(S.length:Int))+u1)⟩]) (by omega) (by omega) (by rw[Hi,List.length_singleton];omega)
   refine⟨S',i',by rw[Hi,List.length_singleton] at h1;omega,?_⟩
   rw[←h2,K6];have ea:=Avu S ⟨wrap .i64 (1+u0),wrap .i64 (wrap .i64 (10*(S.length:Int))+u1)⟩;simp only at ea;have el:(S++[Sa.mk (wrap .i64 (1+u0)) (wrap .i64 (wrap .i64 (10*(S.length:Int))+u1))]).length=S.length+1:=by rw[Hi];rfl
   rw[el];clear h2;generalize Dw (S++[_])=S2 at *
   try unfold Aa
   repeat first
    |((with_reducible first|apply As|apply Ao|apply Ar|apply Be|apply Bg|apply A9|apply Am|apply Au|apply At);· first|with_reducible rfl|(simp (disch:=omega) only[gT,n0,n1,LS,tS,ea,wd]<;>first|with_reducible rfl|omega)|omega)
    |(with_reducible apply Av;· first|with_reducible rfl|(simp (disch:=omega) only[gF,n0,n1,LS,tS,ea,wd]<;>omega))
   try simp (disch:=omega) only[n0,n1,LS,tS,ea,wd]
   all_goals rfl
theorem A1p (B5:2000<=fu)(hl:l.length<=maxLen){Ai:Int}{m0:Nat}{v0 ver iss nxt mo:Int}(hmo:Vd mo){E:List Me}(hE:E.length<=100):∀(k nn:Nat)(v:Int)(i:Nat)(A:List An),v<=k->k<nn->A.length+k<=2->(∀a∈A,Vd a.key.root∧a.name.size<=60) ->
  ∃(x:Me) (i':Nat),x.few ∧
  Gm fu (Ad C0 prog fu (d+13)) l.length (Af .i64 l) Ai m0 nn v0 v l.length (Af .i64 l) (i:Int) 0 0 0 0 0 0 0 [] [] [] ver iss nxt E.length 0 0 0 (Ca E) [] [] mo A.length 0 (Dh A) [] =
   NR fu d l Ai m0 (wrap .i64 (v0-1)) i' ver iss nxt (E++[x]).length (Ca (E++[x]))
 |_,0,_,_,_,_,h,_,_=>by omega
 |k,nn+1,v,i,A,hv,hn,hA,hk=>by
  have LA:=Sq A;have tA:List.take (A.length*3) (Dh A)=Dh A:=Jq (by omega)
  by_cases h0:v>0
  rotate_left
  ·obtain⟨u0,j0,u00,u01,n0⟩:=Jm hl i 4 (by omega) (by omega)
   have n0:=n0 (fu:=fu) (d:=d+11);simp only[dkc] at n0;obtain⟨S',i',h1,h2⟩:=A0i (fu:=fu) (d:=d) hl (Ai:=Ai) (m0:=m0) (v0:=v0) (ver:=ver) (iss:=iss) (nxt:=nxt) (mo:=mo) (en:=0) hE (A:=A) (by omega) 3 fu u0 j0 [] (by omega) (by omega) (by simp)
   refine⟨⟨mo,A,S'⟩,i',⟨hmo,fun a ha=>(hk a ha).1,by simp only;omega,by simp only[Ye] at h1 ⊢;omega,fun a ha=>(hk a ha).2⟩,?_⟩
   rw[←h2,Kw];clear h2
   try unfold Aa
   repeat first
    |((with_reducible first|apply As|apply Ao|apply Ar|apply Be|apply Bg|apply A9|apply Am|apply Au|apply At);· first|with_reducible rfl|(simp (disch:=omega) only[gT,n0]<;>first|with_reducible rfl|omega)|omega)
    |(with_reducible apply Av;· first|with_reducible rfl|(simp (disch:=omega) only[gF,n0]<;>omega))
   try simp (disch:=omega) only[n0]
   all_goals rfl
  ·obtain⟨k',rfl⟩:∃k',k=k'+1:=⟨k-1,by omega⟩
   obtain⟨u0,j0,u00,u01,n0⟩:=Jm hl i 4 (by omega) (by omega)
   obtain⟨u1,j1,u10,u11,n1⟩:=Jm hl j0 2 (by omega) (by omega)
   have n0:=n0 (fu:=fu) (d:=d+11);have n1:=n1 (fu:=fu) (d:=d+11);simp only[dkc] at n0 n1;have pk:=TN (fu:=fu) (d:=d+1) (by omega) (wrap .u64 u0) 1
   have kr:=Ao7 (wrap .u64 u0) 1;obtain⟨s1,z1,g1⟩:=Aq6 u10 u11;have c1:(decide ((0:Int)<=u1)&&decide (u1<2))=true:=by simp;omega
   simp only[Ky.cells] at pk;generalize Zy (wrap .u64 u0) 1=K at *
   generalize (if D8 1=true then (9:Int) else 0)=er at *
   have wd:wrap .i64 (v-1)=v-1:=Ap (by omega) (by omega)
   obtain⟨x,i',h1,h2⟩:=A1p B5 hl (Ai:=Ai) (m0:=m0) (v0:=v0) (ver:=ver) (iss:=iss) (nxt:=nxt) hmo hE k' nn (v-1) j1 (A++[⟨s1,K⟩]) (by omega) (by omega) (by rw[Hi,List.length_singleton];omega) (fun a ha=>(List.mem_append.1 ha).elim (hk a) fun h=>by rw[List.mem_singleton.1 h];exact⟨kr,z1⟩)
   refine⟨x,i',h1,?_⟩;rw[←h2,Kw];have ea:=Arz A ⟨s1,K⟩;simp only at ea;have el:(A++[An.mk s1 K]).length=A.length+1:=by rw[Hi];rfl
   rw[el];clear h2;generalize Dh (A++[_])=A2 at *
   try unfold Aa
   repeat first
    |((with_reducible first|apply As|apply Ao|apply Ar|apply Be|apply Bg|apply A9|apply Am|apply Au|apply At);· first|with_reducible rfl|(simp (disch:=omega) only[gT,n0,n1,pk,g1,c1,LA,tA,ea,wd]<;>first|with_reducible rfl|omega)|omega)
    |(with_reducible apply Av;· first|with_reducible rfl|(simp (disch:=omega) only[gF,n0,n1,pk,g1,c1,LA,tA,ea,wd]<;>omega))
   try simp (disch:=omega) only[n0,n1,pk,g1,c1,LA,tA,ea,wd]
   all_goals rfl
theorem Ajg (s:Sa)(E:List Me):Ca E++[.sc (.int .u64 1),.lst false 3 0 [],.lst false 2 1 [.sc (.int .i64 s.kd),.sc (.int .i64 s.at_)]]=Ca (E++[Me.mk 1 [] [s]]):=DP E (Me.mk 1 [] [s])
theorem A1q (B5:2000<=fu)(hl:l.length<=maxLen){Ai:Int}{ver iss nxt:Int}:∀(k nn:Nat)(v:Int)(i:Nat)(E:List Me),v<=k->k<nn->E.length+k<=3->(∀x∈E,x.few) ->
  ∃(m:Md) (j:Nat),m.plain∧NR fu d l Ai nn v i ver iss nxt E.length (Ca E)=some ⟨[.agg m.cells],[dkc l j]⟩
 |_,0,_,_,_,_,h,_,_=>by omega
 |k,nn+1,v,i,E,hv,hn,hE,hk=>by
  have LE:=Pi E;have tE:List.take (E.length*3) (Ca E)=Ca E:=Jq (by omega)
  by_cases h0:v>0
  ·obtain⟨k',rfl⟩:∃k',k=k'+1:=⟨k-1,by omega⟩
   obtain⟨u0,j0,u00,u01,n0⟩:=Jm hl i 2 (by omega) (by omega)
   obtain⟨u1,j1,u10,u11,n1⟩:=Jm hl j0 3 (by omega) (by omega)
   have n0:=n0 (fu:=fu) (d:=d+11);have n1:=n1 (fu:=fu) (d:=d+11);simp only[dkc] at n0 n1;have wd:wrap .i64 (v-1)=v-1:=Ap (by omega) (by omega)
   obtain⟨x,i',h1,h2⟩:=A1p (fu:=fu) (d:=d) B5 hl (Ai:=Ai) (m0:=nn) (v0:=v) (ver:=ver) (iss:=iss) (nxt:=nxt) (mo:=wrap .u64 (wrap .i64 (wrap .i64 ((E.length:Int)+1)+u0))) (Kv _) (E:=E) (by omega) 2 fu u1 j1 [] (by omega) (by omega) (by simp) (fun a ha=>by cases ha)
   obtain⟨m,j,m1,m2⟩:=A1q B5 hl (Ai:=Ai) (ver:=ver) (iss:=iss) (nxt:=nxt) k' nn (v-1) i' (E++[x]) (by omega) (by omega) (by rw[Hi,List.length_singleton];omega) (fun y hy=>(List.mem_append.1 hy).elim (hk y) fun h=>by rw[List.mem_singleton.1 h];exact h1)
   refine⟨m,j,m1,?_⟩;rw[←m2];rw[wd] at h2;rw[←h2];unfold NR;rw[Ei];clear h2 m2
   try unfold Aa
   repeat first
    |((with_reducible first|apply As|apply Ao|apply Ar|apply Be|apply Bg|apply A9|apply Am|apply Au|apply At);· first|with_reducible rfl|(simp (disch:=omega) only[gT,n0,n1]<;>first|with_reducible rfl|omega)|omega)
    |(with_reducible apply Av;· first|with_reducible rfl|(simp (disch:=omega) only[gF,n0,n1]<;>omega))
   try simp (disch:=omega) only[n0,n1]
   all_goals rfl
  ·obtain⟨vs,j0,vs0,vs1,n0⟩:=Jm hl i 12 (by omega) (by omega)
   have n0:=n0 (fu:=fu) (d:=d+11);have h4:vs=11∨vs=10∨vs=9∨(vs≠11∧vs≠10∧vs≠9):=by omega
   unfold NR;rcases h4 with rfl|rfl|rfl|⟨m1,m2,m3⟩
   ·obtain⟨u1,j1,u10,u11,n1⟩:=Jm hl j0 3 (by omega) (by omega)
    have n1:=n1 (fu:=fu) (d:=d+11);simp only[dkc] at n0 n1;have c1:(decide ((0:Int)<=u1)&&decide (u1<3))=true:=by simp;omega
    obtain⟨w,g1⟩:∃w:Int,List.getD [PV.sc (Value.int IntKind.i64 (0:Int)),PV.sc (Value.int IntKind.i64 (17:Int)),PV.sc (Value.int IntKind.i64 (-1:Int))] ((0:Nat)+Int.toNat u1*(1:Nat)) PV.top=.sc (.int .i64 w):=by
     have:u1=0∨u1=1∨u1=2:=by omega
     rcases this with rfl|rfl|rfl
     ·exact⟨_,rfl⟩
     ·exact⟨_,rfl⟩
     ·exact⟨_,rfl⟩
    rw[Cv] at g1;refine⟨⟨w,iss,nxt,E,sg0⟩,j1,⟨hk,by simp only;omega,rfl⟩,?_⟩
    rw[Ei,Eh _ _ _ h0,Fv (O6:=by omega)]
    try unfold Aa
    repeat first
     |((with_reducible first|apply As|apply Ao|apply Ar|apply Be|apply Bg|apply A9|apply Am|apply Au|apply At);· first|with_reducible rfl|(simp (disch:=omega) only[gT,n0,n1,c1,g1,LE,tE,Cv,Dt,Int.reduceBEq]<;>first|with_reducible rfl|omega)|omega)
     |(with_reducible apply Av;· first|with_reducible rfl|(simp (disch:=omega) only[gF,n0,n1,c1,g1,LE,tE,Cv,Dt,Int.reduceBEq]<;>omega))
    try simp (disch:=omega) only[n0,n1,c1,g1,LE,tE,Cv,Dt,Int.reduceBEq]
    rw[Fz (O6:=by omega)]
    try unfold Aa
    repeat first
     |((with_reducible first|apply As|apply Ao|apply Ar|apply Be|apply Bg|apply A9|apply Am|apply Au|apply At);· first|with_reducible rfl|(simp (disch:=omega) only[gT,n0,n1,c1,g1,LE,tE,Cv,Dt,Int.reduceBEq]<;>first|with_reducible rfl|omega)|omega)
     |(with_reducible apply Av;· first|with_reducible rfl|(simp (disch:=omega) only[gF,n0,n1,c1,g1,LE,tE,Cv,Dt,Int.reduceBEq]<;>omega))
    try simp (disch:=omega) only[n0,n1,c1,g1,LE,tE,Cv,Dt,Int.reduceBEq]
    all_goals rfl
   ·simp only[dkc] at n0;refine⟨⟨ver,iss,wrap .i64 (iss-1),E,sg0⟩,j0,⟨hk,by simp only;omega,rfl⟩,?_⟩
    rw[Ei,Eh _ _ _ h0,Fv (O6:=by omega)]
    try unfold Aa
    repeat first
     |((with_reducible first|apply As|apply Ao|apply Ar|apply Be|apply Bg|apply A9|apply Am|apply Au|apply At);· first|with_reducible rfl|(simp (disch:=omega) only[gT,n0,LE,tE,Cv,Dt,Int.reduceBEq]<;>first|with_reducible rfl|omega)|omega)
     |(with_reducible apply Av;· first|with_reducible rfl|(simp (disch:=omega) only[gF,n0,LE,tE,Cv,Dt,Int.reduceBEq]<;>omega))
    try simp (disch:=omega) only[n0,LE,tE,Cv,Dt,Int.reduceBEq]
    rw[Fz (O6:=by omega)]
    try unfold Aa
    repeat first
     |((with_reducible first|apply As|apply Ao|apply Ar|apply Be|apply Bg|apply A9|apply Am|apply Au|apply At);· first|with_reducible rfl|(simp (disch:=omega) only[gT,n0,LE,tE,Cv,Dt,Int.reduceBEq]<;>first|with_reducible rfl|omega)|omega)
     |(with_reducible apply Av;· first|with_reducible rfl|(simp (disch:=omega) only[gF,n0,LE,tE,Cv,Dt,Int.reduceBEq]<;>omega))
    try simp (disch:=omega) only[n0,LE,tE,Cv,Dt,Int.reduceBEq]
    all_goals rfl
   ·obtain⟨u1,j1,u10,u11,n1⟩:=Jm hl j0 6 (by omega) (by omega)
    obtain⟨u2,j2,u20,u21,n2⟩:=Jm hl j1 2 (by omega) (by omega)
    have n1:=n1 (fu:=fu) (d:=d+11);have n2:=n2 (fu:=fu) (d:=d+11);simp only[dkc] at n0 n1 n2;refine⟨⟨ver,iss,nxt,E++[⟨1,[],[⟨u1,wrap .i64 (0-u2)⟩]⟩],sg0⟩,j2,⟨fun y hy=>(List.mem_append.1 hy).elim (hk y) fun h=>by rw[List.mem_singleton.1 h];exact⟨(show Vd 1 from ⟨by decide,by decide⟩),fun a ha=>(by cases ha),Nat.zero_le _,(show (1:Nat)<=3 by omega),fun a ha=>(by cases ha)⟩,by simp only[Hi,List.length_singleton];omega,rfl⟩,?_⟩
    rw[Ei,Eh _ _ _ h0,Fv (O6:=by omega)]
    have ea:=Ajg ⟨u1,wrap .i64 (0-u2)⟩ E;have LE2:=Pi (E++[⟨1,[],[⟨u1,wrap .i64 (0-u2)⟩]⟩]);have el:(E++[Me.mk 1 [] [⟨u1,wrap .i64 (0-u2)⟩]]).length=E.length+1:=by rw[Hi];rfl
    simp only[Md.cells];rw[el] at LE2 ⊢;have tE2:List.take ((E.length+1)*3) (Ca (E++[⟨1,[],[⟨u1,wrap .i64 (0-u2)⟩]⟩]))=Ca (E++[⟨1,[],[⟨u1,wrap .i64 (0-u2)⟩]⟩]):=Jq (by omega)
    simp only at ea;generalize Ca (E++[_])=E' at *
    try unfold Aa
    repeat first
     |((with_reducible first|apply As|apply Ao|apply Ar|apply Be|apply Bg|apply A9|apply Am|apply Au|apply At);· first|with_reducible rfl|(simp (disch:=omega) only[gT,n0,n1,n2,LE,tE,ea,LE2,tE2,Cv,Dt,Int.reduceBEq]<;>first|with_reducible rfl|omega)|omega)
     |(with_reducible apply Av;· first|with_reducible rfl|(simp (disch:=omega) only[gF,n0,n1,n2,LE,tE,ea,LE2,tE2,Cv,Dt,Int.reduceBEq]<;>omega))
    try simp (disch:=omega) only[n0,n1,n2,LE,tE,ea,LE2,tE2,Cv,Dt,Int.reduceBEq]
    rw[Fz (O6:=by omega)]
    try unfold Aa
    repeat first
     |((with_reducible first|apply As|apply Ao|apply Ar|apply Be|apply Bg|apply A9|apply Am|apply Au|apply At);· first|with_reducible rfl|(simp (disch:=omega) only[gT,n0,n1,n2,LE,tE,ea,LE2,tE2,Cv,Dt,Int.reduceBEq]<;>first|with_reducible rfl|omega)|omega)
     |(with_reducible apply Av;· first|with_reducible rfl|(simp (disch:=omega) only[gF,n0,n1,n2,LE,tE,ea,LE2,tE2,Cv,Dt,Int.reduceBEq]<;>omega))
    try simp (disch:=omega) only[n0,n1,n2,LE,tE,ea,LE2,tE2,Cv,Dt,Int.reduceBEq]
    all_goals rfl
   ·have f1:(vs==11)=false:=by rw[beq_eq_false_iff_ne];exact m1
    have f2:(vs==10)=false:=by rw[beq_eq_false_iff_ne];exact m2
    have f3:(vs==9)=false:=by rw[beq_eq_false_iff_ne];exact m3
    simp only[dkc] at n0;refine⟨⟨ver,iss,nxt,E,sg0⟩,j0,⟨hk,by simp only;omega,rfl⟩,?_⟩
    rw[Ei,Eh _ _ _ h0,Fv (O6:=by omega)]
    try unfold Aa
    repeat first
     |((with_reducible first|apply As|apply Ao|apply Ar|apply Be|apply Bg|apply A9|apply Am|apply Au|apply At);· first|with_reducible rfl|(simp (disch:=omega) only[gT,n0,LE,tE,f1,f2,f3,Cv,Dt]<;>first|with_reducible rfl|omega)|omega)
     |(with_reducible apply Av;· first|with_reducible rfl|(simp (disch:=omega) only[gF,n0,LE,tE,f1,f2,f3,Cv,Dt]<;>omega))
    try simp (disch:=omega) only[n0,LE,tE,f1,f2,f3,Cv,Dt]
    rw[Fz (O6:=by omega)]
    try unfold Aa
    repeat first
     |((with_reducible first|apply As|apply Ao|apply Ar|apply Be|apply Bg|apply A9|apply Am|apply Au|apply At);· first|with_reducible rfl|(simp (disch:=omega) only[gT,n0,LE,tE,f1,f2,f3,Cv,Dt]<;>first|with_reducible rfl|omega)|omega)
     |(with_reducible apply Av;· first|with_reducible rfl|(simp (disch:=omega) only[gF,n0,LE,tE,f1,f2,f3,Cv,Dt]<;>omega))
    try simp (disch:=omega) only[n0,LE,tE,f1,f2,f3,Cv,Dt]
    all_goals rfl
theorem Auj (B5:2000<=fu)(hl:l.length<=maxLen)(i:Nat):∃(m:Md)(j:Nat),m.plain ∧
  Ad C0 prog fu (d+14) M6 [.pbox (dkc l i)]=some ⟨[.agg m.cells],[dkc l j]⟩:=by
 obtain⟨v0,j0,v00,v01,n0⟩:=Jm hl i 16 (by omega) (by omega)
 obtain⟨v1,j1,v10,v11,n1⟩:=Jm hl j0 20 (by omega) (by omega)
 obtain⟨v2,j2,v20,v21,n2⟩:=Jm hl j1 100 (by omega) (by omega)
 obtain⟨v3,j3,v30,v31,n3⟩:=Jm hl j2 4 (by omega) (by omega)
 have n0:=n0 (fu:=fu) (d:=d+11);have n1:=n1 (fu:=fu) (d:=d+11);have n2:=n2 (fu:=fu) (d:=d+11);have n3:=n3 (fu:=fu) (d:=d+11);simp only[dkc] at n0 n1 n2 n3;obtain⟨m,j,m1,m2⟩:=A1q (fu:=fu) (d:=d) B5 hl (Ai:=(i:Int)) (ver:=wrap .i64 (1+v0)) (iss:=v1) (nxt:=wrap .i64 (20+v2)) 3 fu v3 j3 [] (by omega) (by omega) (by simp) (fun y hy=>by cases hy)
 refine⟨m,j,m1,(Wz fu (d+13) l.length (Af .i64 l) i).trans ?_⟩;rw[←m2];unfold NR;clear m2
 try unfold Aa
 repeat first
  |((with_reducible first|apply As|apply Ao|apply Ar|apply Be|apply Bg|apply A9|apply Am|apply Au|apply At);· first|with_reducible rfl|(simp (disch:=omega) only[gT,n0,n1,n2,n3]<;>first|with_reducible rfl|omega)|omega)
  |(with_reducible apply Av;· first|with_reducible rfl|(simp (disch:=omega) only[gF,n0,n1,n2,n3]<;>omega))
 try simp (disch:=omega) only[n0,n1,n2,n3]
 all_goals rfl
end
end
section
open Go.Proofs.Tryz (prog)
open Go.IntKind (wrap)
set_option maxRecDepth 1000000
section
variable {fu d:Nat}
theorem Agg {call:Ah}{Bq Q9:Nat}{a0 a1:List PV}{l:List Int}(hl:l.length<=1000):∀(k i nn:Nat),i+k=l.length->k<nn ->
  Gl fu call Bq a0 Q9 a1 nn l.length (Af .u64 l) l.length (Af .u64 l) i=some ⟨[.sc (.bool true)],[]⟩
 |_,_,0,_,h=>by omega
 |0,i,nn+1,hi,hn=>by
  have e:i=l.length:=by omega
  subst e;rw[K5];simp (disch:=omega) only[Cd]
 |k+1,i,nn+1,hi,hn=>by
  have ih:=Agg (call:=call) (Bq:=Bq) (Q9:=Q9) (a0:=a0) (a1:=a1) hl k (i+1) nn (by omega) (by omega)
  obtain⟨x,hx⟩:∃x,l[i]?=some x:=⟨_,List.getElem?_eq_getElem (by omega)⟩
  have w:wrap .i64 ((i:Int)+1)=((i+1:Nat):Int):=by rw[Ap (by omega) (by omega)];omega
  have q:(x != x)=false:=bne_self_eq_false x;rw[K5];simp (disch:=omega) only[Cd,Je,Dr,Cv,HL hx,q,w];exact ih
theorem Au8 (B5:2000<=fu){l:List Int}(hl:l.length<=1000):Ad C0 prog fu (d+1) M8 [.lst false 1 l.length (Af .u64 l),.lst false 1 l.length (Af .u64 l)]=some ⟨[.sc (.bool true)],[]⟩:=by
 refine (Xn fu d l.length (Af .u64 l) l.length (Af .u64 l)).trans ?_;have q:=Agg (fu:=fu) (call:=Ad C0 prog fu d) (Bq:=l.length) (Q9:=l.length) (a0:=Af .u64 l) (a1:=Af .u64 l) hl l.length 0 fu (by omega) (by omega)
 have b:((l.length:Int) != (l.length:Int))=false:=bne_self_eq_false _;simp only[Cd,b];exact q
theorem A4q (B5:2000<=fu){s:Sg}(h1:s.chains.length<=1000)(h2:s.path.length<=1000):Ad C0 prog fu (d+2) Kh [.agg s.cells,.agg s.cells]=some ⟨[.sc (.bool true)],[]⟩:=by
 refine (R5 fu (d+1) s.leaf s.chains.length (Af .u64 s.chains) s.path.length (Af .u64 s.path) s.leaf s.chains.length (Af .u64 s.chains) s.path.length (Af .u64 s.path)).trans ?_;have w1:=Au8 (fu:=fu) (d:=d) B5 h1;have w2:=Au8 (fu:=fu) (d:=d) B5 h2;have q1:(s.leaf==s.leaf)=true:=beq_self_eq_true _
 try unfold Aa
 repeat first
  |((with_reducible first|apply As|apply Ao|apply Ar|apply Az|apply Be|apply Bo|apply Bg|apply NE|apply Am|apply Au|apply At);· first|with_reducible rfl|(simp (disch:=omega) only[gT,q1,w1,w2]<;>first|with_reducible rfl|omega)|omega)
  |(with_reducible apply Av;· first|with_reducible rfl|(simp (disch:=omega) only[gF,q1,w1,w2]<;>omega))
 try simp (disch:=omega) only[q1,w1,w2]
 all_goals rfl
theorem Asg {call:Ah}{Ag Cr:Int}{Br Bf Il Ie:Nat}{Ai Ay Cs C1:List PV}{x:Me}(hl:x.sts.length<=1000):∀(k i nn:Nat),i+k=x.sts.length->k<nn ->
  Gb fu call Ag Br Ai Bf Ay Cr Il Cs Ie C1 nn (i:Int) x.model x.ans.length (Dh x.ans) x.sts.length (Dw x.sts) x.model x.ans.length (Dh x.ans) x.sts.length (Dw x.sts)=some ⟨[.sc (.bool true)],[]⟩
 |_,_,0,_,h=>by omega
 |0,i,nn+1,hi,hn=>by
  have e:i=x.sts.length:=by omega
  subst e;rw[Ko];simp (disch:=omega) only[Cd]
 |k+1,i,nn+1,hi,hn=>by
  have ih:=Asg (call:=call) (Ag:=Ag) (Cr:=Cr) (Br:=Br) (Bf:=Bf) (Il:=Il) (Ie:=Ie) (Ai:=Ai) (Ay:=Ay) (Cs:=Cs) (C1:=C1) hl k (i+1) nn (by omega) (by omega)
  obtain⟨s,hx⟩:∃s,x.sts[i]?=some s:=⟨_,List.getElem?_eq_getElem (by omega)⟩
  obtain⟨g0,g1⟩:=saa hx;have w:wrap .i64 ((i:Int)+1)=((i+1:Nat):Int):=by rw[Ap (by omega) (by omega)];omega
  have q:∀x:Int,(x==x)=true:=fun x=>beq_self_eq_true x
  rw[Ko,←ih];simp (disch:=omega) only[Cd,Je,g0,g1,q,w,Bool.and_true,Dc]
theorem Aui {call:Ah}{Ag Cr:Int}{Br Bf Il Ie:Nat}{Ai Ay Cs C1:List PV}{x:Me}(B5:2000<=fu)(hl:x.sts.length<=1000)(QN:x.ans.length<=1000):∀(k i nn:Nat),i+k=x.ans.length->k<nn ->
  Ga fu call Ag Br Ai Bf Ay Cr Il Cs Ie C1 nn (i:Int) x.model x.ans.length (Dh x.ans) x.sts.length (Dw x.sts) x.model x.ans.length (Dh x.ans) x.sts.length (Dw x.sts)=some ⟨[.sc (.bool true)],[]⟩
 |_,_,0,_,h=>by omega
 |0,i,nn+1,hi,hn=>by
  have e:i=x.ans.length:=by omega
  subst e;have l1:=Asg (fu:=fu) (call:=call) (Ag:=Ag) (Cr:=Cr) (Br:=Br) (Bf:=Bf) (Il:=Il) (Ie:=Ie) (Ai:=Ai) (Ay:=Ay) (Cs:=Cs) (C1:=C1) hl x.sts.length 0 fu (by omega) (by omega)
  rw[Kn,←l1];simp (disch:=omega) only[Cd];rfl
 |k+1,i,nn+1,hi,hn=>by
  have ih:=Aui (call:=call) (Ag:=Ag) (Cr:=Cr) (Br:=Br) (Bf:=Bf) (Il:=Il) (Ie:=Ie) (Ai:=Ai) (Ay:=Ay) (Cs:=Cs) (C1:=C1) B5 hl QN k (i+1) nn (by omega) (by omega)
  obtain⟨s,hx⟩:∃s,x.ans[i]?=some s:=⟨_,List.getElem?_eq_getElem (by omega)⟩
  obtain⟨g0,g1,g2⟩:=ana hx;have g2':(Dh x.ans).getD (i*3+1+1) .top=.sc (.int .u64 s.key.root):=g2;have w:wrap .i64 ((i:Int)+1)=((i+1:Nat):Int):=by rw[Ap (by omega) (by omega)];omega
  have q:∀x:Int,(x==x)=true:=fun x=>beq_self_eq_true x
  have qs:∀x:ByteArray,(x==x)=true:=fun x=>by
   rcases x with⟨x⟩;show (x==x)=true;exact beq_self_eq_true x
  rw[Kn,←ih];simp (disch:=omega) only[Cd,Je,g0,g1,g2',q,qs,w,Bool.and_true,Dc]
theorem A31 (B5:2000<=fu){x:Me}(hl:x.sts.length<=1000)(QN:x.ans.length<=1000):Ad C0 prog fu (d+1) Mb [.agg x.cells,.agg x.cells]=some ⟨[.sc (.bool true)],[]⟩:=by
 refine (Vx fu d x.model x.ans.length (Dh x.ans) x.sts.length (Dw x.sts) x.model x.ans.length (Dh x.ans) x.sts.length (Dw x.sts)).trans ?_;have l0:=Aui (fu:=fu) (call:=Ad C0 prog fu d) (Ag:=x.model) (Cr:=x.model) (Br:=x.ans.length) (Bf:=x.sts.length) (Il:=x.ans.length) (Ie:=x.sts.length) (Ai:=Dh x.ans) (Ay:=Dw x.sts) (Cs:=Dh x.ans) (C1:=Dw x.sts) B5 hl QN x.ans.length 0 fu (by omega) (by omega)
 have b:∀x:Int,(x != x)=false:=fun x=>bne_self_eq_false _
 simp only[Cd,b];exact l0
def Md.shrt (m:Md):Prop:=m.ents.length<=1000∧∀x∈m.ents,x.sts.length<=1000∧x.ans.length<=1000
theorem Ari {Bq Q9:Nat}{a0 a1:List PV}{l:List Me}(B5:2000<=fu)(hl:l.length<=1000)(hx:∀x∈l,x.sts.length<=1000∧x.ans.length<=1000):∀(k i nn:Nat),i+k=l.length->k<nn ->
  Fl fu (Ad C0 prog fu (d+1)) Bq a0 Q9 a1 nn l.length (Ca l) l.length (Ca l) (i:Int)=some ⟨[.sc (.bool true)],[]⟩
 |_,_,0,_,h=>by omega
 |0,i,nn+1,hi,hn=>by
  have e:i=l.length:=by omega
  subst e;rw[Jj];simp (disch:=omega) only[Cd]
 |k+1,i,nn+1,hi,hn=>by
  have ih:=Ari (Bq:=Bq) (Q9:=Q9) (a0:=a0) (a1:=a1) B5 hl hx k (i+1) nn (by omega) (by omega)
  have hil:i<l.length:=by omega
  have hs:=List.getElem?_eq_getElem hil;have hm:=hx _ (List.getElem_mem hil);generalize l[i]=s at hs hm;obtain⟨g0,g1,g2⟩:=mea hs;have g2':(Ca l).getD (i*3+1+1) .top=.lst false 2 s.sts.length (Dw s.sts):=g2;have w:wrap .i64 ((i:Int)+1)=((i+1:Nat):Int):=by rw[Ap (by omega) (by omega)];omega
  have se:=A31 (fu:=fu) (d:=d) B5 hm.1 hm.2;simp only[Me.cells] at se;rw[Jj,←ih];simp (disch:=omega) only[Cd,Je,g0,g1,g2',se,w,Bool.and_true,Dc]
theorem Asv (B5:2000<=fu){m:Md}(hm:m.shrt)(h1:m.sig.chains.length<=1000)(h2:m.sig.path.length<=1000):Ad C0 prog fu (d+3) Nr [.agg m.cells,.agg m.cells]=some ⟨[.sc (.bool true)],[]⟩:=by
 refine (Xe fu (d+2) m.ver m.iss m.nxt m.ents.length (Ca m.ents) m.sig.leaf m.sig.chains.length (Af .u64 m.sig.chains) m.sig.path.length (Af .u64 m.sig.path) m.ver m.iss m.nxt m.ents.length (Ca m.ents) m.sig.leaf m.sig.chains.length (Af .u64 m.sig.chains) m.sig.path.length (Af .u64 m.sig.path)).trans ?_
 have sl:Ad C0 prog fu (d+2) K9 [.lst false 3 m.ents.length (Ca m.ents),.lst false 3 m.ents.length (Ca m.ents)]=some ⟨[.sc (.bool true)],[]⟩:=by
  refine (Tj fu (d+1) m.ents.length (Ca m.ents) m.ents.length (Ca m.ents)).trans ?_;have l0:=Ari (fu:=fu) (d:=d) (Bq:=m.ents.length) (Q9:=m.ents.length) (a0:=Ca m.ents) (a1:=Ca m.ents) B5 hm.1 hm.2 m.ents.length 0 fu (by omega) (by have:=hm.1;omega)
  have b:∀x:Int,(x != x)=false:=fun x=>bne_self_eq_false _
  simp only[Cd,b];exact l0
 have sg:=A4q (fu:=fu) (d:=d) B5 h1 h2;simp only[Sg.cells] at sg;have q:∀x:Int,(x==x)=true:=fun x=>beq_self_eq_true x
 try unfold Aa
 repeat first
  |((with_reducible first|apply As|apply Ao|apply Ar|apply Az|apply Be|apply Bo|apply Bg|apply NE|apply Am|apply Au|apply At);· first|with_reducible rfl|(simp (disch:=omega) only[gT,q,sl,sg]<;>first|with_reducible rfl|omega)|omega)
  |(with_reducible apply Av;· first|with_reducible rfl|(simp (disch:=omega) only[gF,q,sl,sg]<;>omega))
 try simp (disch:=omega) only[q,sl,sg]
 all_goals rfl
theorem HF (B5:20000<=fu){m:Md}(hw:m.wf)(hp:m.sig.path.length<=1000):Ad C0 prog fu (d+11) Pa [.agg m.cells]=some ⟨[.sc (.bool true)],[]⟩:=by
 refine (Z6 fu (d+10) m.ver m.iss m.nxt m.ents.length (Ca m.ents) m.sig.leaf m.sig.chains.length (Af .u64 m.sig.chains) m.sig.path.length (Af .u64 m.sig.path)).trans ?_;have b1:=VV (fu:=fu) (d:=d+1) (by omega) hw
 have b2:=MW (fu:=fu) (d:=d+5) (by omega) hw
 have b3:=Adc (fu:=fu) (d:=d) B5 hw (by omega) (by omega)
 have b4:=Ata (fu:=fu) (d:=d+4) B5 hw (by omega)
 obtain⟨x,e,hx⟩:∃(x:List Int) (e:Int),Ia m=[.own 1 x.length (Af .u8 x),.sc (.int .i64 e)]:=by
  unfold Ia;split
  ·exact⟨_,_,rfl⟩
  ·exact⟨[],_,rfl⟩
 obtain⟨y,f,hy⟩:∃(y:List Int) (f:Int),Vf m=[.own 1 y.length (Af .u8 y),.sc (.int .i64 f)]:=by
  unfold Vf;split
  ·exact⟨_,_,rfl⟩
  ·exact⟨[],_,rfl⟩
 rw[hx] at b1 b2;rw[hy] at b3 b4;simp only[Md.cells] at b1 b2 b3 b4;have L1:=Aq .u8 x;have L2:=Aq .u8 y;have t1:=Nv .u8 x;have t2:=Nv .u8 y;have y1:=Hk x;have y2:=Hk y;have q0:∀l:List UInt8,(l==l)=true:=fun l=>beq_self_eq_true l
 have q1:∀l:Int,(l==l)=true:=fun l=>beq_self_eq_true l
 generalize Af .u8 x=cx at *
 generalize Af .u8 y=cy at *
 try unfold Aa
 repeat first
  |((with_reducible first|apply As|apply Ao|apply Ar|apply Az|apply Be|apply Bo|apply Bg|apply NE|apply Am|apply Au|apply At);· first|with_reducible rfl|(simp (disch:=omega) only[gT,b1,b2,b3,b4,Dr,Cv,Dt,L1,L2,t1,t2,y1,y2,q0,q1]<;>first|with_reducible rfl|omega)|omega)
  |(with_reducible apply Av;· first|with_reducible rfl|(simp (disch:=omega) only[gF,b1,b2,b3,b4,Dr,Cv,Dt,L1,L2,t1,t2,y1,y2,q0,q1]<;>omega))
 try simp (disch:=omega) only[b1,b2,b3,b4,Dr,Cv,Dt,L1,L2,t1,t2,y1,y2,q0,q1]
 all_goals rfl
theorem Az7 {call:Ah}{Ag Ai Ay Cf:Int}{Bi Bk Bn:Nat}{Bv Cj Ci:List PV}{m:Md}{x:Me}{i:Nat}(hx:m.ents[i]?=some x) (hi:i<=100)(ha:x.ans.length<=8){m0:Nat}:∀(k j nn:Nat),j+k=x.ans.length->k<nn ->
  Gf fu call Ag Ai Ay Bi Bv Cf Bk Cj Bn Ci m0 nn (i:Int) (j:Int) m.ver m.iss m.nxt m.ents.length (Ca m.ents) m.sig.leaf m.sig.chains.length (Af .u64 m.sig.chains) m.sig.path.length (Af .u64 m.sig.path)=some ⟨[.sc (.bool false)],[]⟩ ∨
  Gf fu call Ag Ai Ay Bi Bv Cf Bk Cj Bn Ci m0 nn (i:Int) (j:Int) m.ver m.iss m.nxt m.ents.length (Ca m.ents) m.sig.leaf m.sig.chains.length (Af .u64 m.sig.chains) m.sig.path.length (Af .u64 m.sig.path) =
   Ge fu call Ag Ai Ay Bi Bv Cf Bk Cj Bn Ci m0 ((i+1:Nat):Int) m.ver m.iss m.nxt m.ents.length (Ca m.ents) m.sig.leaf m.sig.chains.length (Af .u64 m.sig.chains) m.sig.path.length (Af .u64 m.sig.path)
 |_,_,0,_,h=>by omega
 |0,j,nn+1,hj,hn=>by
  have Cq:i<m.ents.length:=(List.getElem?_eq_some_iff.1 hx).1;obtain⟨g0,g1,g2⟩:=mea hx;have w:wrap .i64 ((i:Int)+1)=((i+1:Nat):Int):=by rw[Ap (by omega) (by omega)];omega
  right;rw[Nk];simp (disch:=omega) only[Cd,Je,g1,w]
 |k+1,j,nn+1,hj,hn=>by
  have Cq:i<m.ents.length:=(List.getElem?_eq_some_iff.1 hx).1;obtain⟨g0,g1,g2⟩:=mea hx;obtain⟨s,hs⟩:∃s,x.ans[j]?=some s:=⟨_,List.getElem?_eq_getElem (by omega)⟩
  obtain⟨a0,a1,a2⟩:=ana hs;have w:wrap .i64 ((j:Int)+1)=((j+1:Nat):Int):=by rw[Ap (by omega) (by omega)];omega
  rw[Nk];by_cases hz:(s.name.size:Int)>60
  ·left;simp (disch:=omega) only[Cd,Je,Zzr,g1,a0,w]
  ·have ih:=Az7 (call:=call) (Ag:=Ag) (Ai:=Ai) (Ay:=Ay) (Cf:=Cf) (Bi:=Bi) (Bk:=Bk) (Bn:=Bn) (Bv:=Bv) (Cj:=Cj) (Ci:=Ci) hx hi ha (m0:=m0) k (j+1) nn (by omega) (by omega)
   simp (disch:=omega) only[Cd,Je,Zzr,g1,a0,w];exact ih
theorem Azy {call:Ah}{Ag Ai Ay Cf:Int}{Bi Bk Bn:Nat}{Bv Cj Ci:List PV}{m:Md}(B5:100<=fu)(hm:m.ents.length<=20):∀(k i nn:Nat),i+k=m.ents.length->k<nn ->
  ∃b,Ge fu call Ag Ai Ay Bi Bv Cf Bk Cj Bn Ci nn (i:Int) m.ver m.iss m.nxt m.ents.length (Ca m.ents) m.sig.leaf m.sig.chains.length (Af .u64 m.sig.chains) m.sig.path.length (Af .u64 m.sig.path)=some ⟨[.sc (.bool b)],[]⟩
 |_,_,0,_,h=>by omega
 |0,i,nn+1,hi,hn=>by
  refine⟨true,?_⟩;rw[Nb];simp (disch:=omega) only[Cd]
 |k+1,i,nn+1,hi,hn=>by
  obtain⟨x,hx⟩:∃s,m.ents[i]?=some s:=⟨_,List.getElem?_eq_getElem (by omega)⟩
  obtain⟨g0,g1,g2⟩:=mea hx;rw[Nb];by_cases h1:(x.ans.length:Int)>8
  ·refine⟨false,?_⟩;simp (disch:=omega) only[Cd,Je,g1,g2]
  by_cases h2:(x.sts.length:Int)>8
  ·refine⟨false,?_⟩;simp (disch:=omega) only[Cd,Je,g1,g2]
  simp (disch:=omega) only[Cd,Je,g1,g2];obtain⟨b,ih⟩:=Azy (call:=call) (Ag:=Ag) (Ai:=Ai) (Ay:=Ay) (Cf:=Cf) (Bi:=Bi) (Bk:=Bk) (Bn:=Bn) (Bv:=Bv) (Cj:=Cj) (Ci:=Ci) B5 hm k (i+1) nn (by omega) (by omega)
  rcases Az7 (fu:=fu) (call:=call) (Ag:=Ag) (Ai:=Ai) (Ay:=Ay) (Cf:=Cf) (Bi:=Bi) (Bk:=Bk) (Bn:=Bn) (Bv:=Bv) (Cj:=Cj) (Ci:=Ci) hx (by omega) (by omega) (m0:=nn) x.ans.length 0 fu (by omega) (by omega) with h|h
  ·exact⟨false,h⟩
  ·exact⟨b,h.trans ih⟩
theorem Apu (B5:100<=fu)(m:Md):∃b,(b=true->m.sig.path.length<=10)∧Ad C0 prog fu (d+1) Qz [.agg m.cells]=some ⟨[.sc (.bool b)],[]⟩:=by
 have E:=BB fu d m.ver m.iss m.nxt m.ents.length (Ca m.ents) m.sig.leaf m.sig.chains.length (Af .u64 m.sig.chains) m.sig.path.length (Af .u64 m.sig.path);by_cases h1:(m.ents.length:Int)>20
 ·refine⟨false,(fun h=>by cases h),E.trans ?_⟩
  simp (disch:=omega) only[Cd]
 by_cases h2:(m.sig.chains.length:Int)>40
 ·refine⟨false,(fun h=>by cases h),E.trans ?_⟩
  simp (disch:=omega) only[Cd]
 by_cases h3:(m.sig.path.length:Int)>10
 ·refine⟨false,(fun h=>by cases h),E.trans ?_⟩
  simp (disch:=omega) only[Cd]
 obtain⟨b,hb⟩:=Azy (fu:=fu) (call:=Ad C0 prog fu d) (Ag:=m.ver) (Ai:=m.iss) (Ay:=m.nxt) (Cf:=m.sig.leaf) (Bi:=m.ents.length) (Bk:=m.sig.chains.length) (Bn:=m.sig.path.length) (Bv:=Ca m.ents) (Cj:=Af .u64 m.sig.chains) (Ci:=Af .u64 m.sig.path) B5 (m:=m) (by omega) m.ents.length 0 fu (by omega) (by omega)
 refine⟨b,(fun _=>by omega),E.trans ?_⟩
 simp (disch:=omega) only[Cd];exact hb
end
end
section
open Go.Proofs.Tryz (prog)
open Go.IntKind (wrap)
set_option maxRecDepth 1000000
def Aar (m:Md)(model now:Int):Int:=H2 now (match m.ents.find? fun x=>x.model==model with|some x=>x.sts.map fun s=>(s.kd,s.at_)|none=>[])
def Aww (x:Me):En:=⟨x.model,x.ans.length,Dh x.ans,x.sts.length,Dw x.sts⟩
theorem SQ:∀{l:List Me},(∀x∈l,x.sts.length<=1000∧x.ans.length<=1000)->X3 (Ca l)=some (l.map Aww)
 |[],_=>rfl
 |x::l,h=>by
  have h0:=h x (by simp)
  have ih:=SQ (l:=l) fun y hy=>h y (by simp[hy])
  have b:(Nat.beq (Dh x.ans).length (x.ans.length*3)&&Nat.beq (Dw x.sts).length (x.sts.length*2)&&Nat.ble x.ans.length 1000&&Nat.ble x.sts.length 1000)=true:=by
   rw[Sq,DV];simp only[Nat.beq_refl,Bool.true_and,Bool.and_eq_true];exact⟨Nat.ble_eq_true_of_le h0.2,Nat.ble_eq_true_of_le h0.1⟩
  show X3 (.sc (.int .u64 x.model) :: .lst false 3 x.ans.length (Dh x.ans) :: .lst false 2 x.sts.length (Dw x.sts)::Ca l)=_;rw[X3,b,cond_true,ih];rfl
theorem PK:∀(l:List Sa),Se (Dw l)=some (l.map fun s=>(s.kd,s.at_))
 |[]=>rfl
 |s::l=>by
  show Se (.sc (.int .i64 s.kd) :: .sc (.int .i64 s.at_)::Dw l)=_;rw[Se,PK l];rfl
theorem Aex (model:Int):∀(l:List Me),Ajz model (l.map Aww)=match l.find? fun x=>x.model==model with|some x=>Dw x.sts|none=>[]
 |[]=>rfl
 |x::l=>by
  have ih:=Aex model l;unfold Ajz at ih ⊢;by_cases h:x.model=model
  ·rw[VR,List.find?_cons_of_pos (by simpa [Aww] using h),List.find?_cons_of_pos (by simpa using h)]
   rfl
  ·rw[VR,List.find?_cons_of_neg (by simpa [Aww] using h),List.find?_cons_of_neg (by simpa using h)]
   exact ih
theorem Aou (fu d:Nat)(args:List PV):Ad C0 prog fu (d+1) 29 args=Amr args:=by kernel_rfl
section
variable {fu d:Nat}
theorem Ae3 {m:Md}(hm:m.shrt)(model now:Int):Ad C0 prog fu (d+1) 29 [.agg m.cells,.sc (.int .u64 model),.sc (.int .i64 now)]=some ⟨[.sc (.int .i64 (Aar m model now))],[]⟩:=by
 rw[Aou]
 have b:(Nat.beq (Ca m.ents).length (m.ents.length*3)&&Nat.ble m.ents.length 1000)=true:=by
  rw[Pi];simp only[Nat.beq_refl,Bool.true_and];exact Nat.ble_eq_true_of_le hm.1
 show (bif (Nat.beq (Ca m.ents).length (m.ents.length*3)&&Nat.ble m.ents.length 1000) then _ else none)=_;rw[b,cond_true,SQ hm.2];simp only;rw[Aex];unfold Aar;cases m.ents.find? fun x=>x.model==model with
 |none=>rfl
 |some x=>
  simp only;rw[PK]
end
structure MJ (m:Md) (seed h:Int):Prop where
 ok:m.ok
 err:Ej m=0
 ver:Afn m (Zy seed h)=0
 path:(m.sig.path.length:Int)=h
 leaf:m.sig.leaf=m.ver-1
theorem Ayy {h:Int}(hh:D8 h=false):0<=h∧h<=4:=by
 unfold D8 at hh;rw[Bool.or_eq_false_iff,decide_eq_false_iff_not,decide_eq_false_iff_not] at hh;omega
theorem Ao2 {m:Md}(hm:m.ok){seed h:Int}(he:B0 m=0)(hh:D8 h=false)(ho:J1 (m.ver-1) h=false):∃s,Pe m seed h=({ m with sig:=s },0)∧MJ { m with sig:=s } seed h:=by
 obtain⟨s,e,k1,k2,k3,k4,k5⟩:=Alz (seed:=seed) (m:=Tw m) hh ho;refine⟨s,?_,?_⟩
 ·unfold Pe;rw[Co he,e]
 ·have he':B0 { m with sig:=s }=0:=he;refine⟨⟨hm.ent,k1⟩,?_,?_,k4,k2⟩
  ·unfold Ej;rw[he',Co rfl];show NN s=0;unfold NN;rw[k4,k2,hh,ho,k3];rfl
  ·unfold Afn;rw[he',Co rfl,Bp (by simp only[ne_eq,Decidable.not_not];exact k2)]
   exact k5
theorem Arv {m:Md}(hm:m.ok)(seed h:Int):(Pe m seed h).1.ok∧(Pe m seed h).1.sig.path.length<=4∧(Pe m seed h).1.sig.chains.length<=18∧((Pe m seed h).1=NG∨∃s,(Pe m seed h).1={ m with sig:=s }):=by
 have z:NG.ok∧NG.sig.path.length<=4∧NG.sig.chains.length<=18∧(NG=NG∨∃s,NG={ m with sig:=s }):=⟨A47,by decide,by decide,.inl rfl⟩
 unfold Pe;split
 ·cases hs:JY seed h (m.ver-1) (Tw m) with
  |none=>exact z
  |some s=>
   by_cases hh:D8 h=false
   ·by_cases ho:J1 (m.ver-1) h=false
    ·obtain⟨s',e,k1,k2,k3,k4,_⟩:=Alz (seed:=seed) (m:=Tw m) hh ho;rw[hs] at e;cases e;have:=Ayy hh;exact⟨⟨hm.ent,k1⟩,by show s.path.length<=4;omega,by show s.chains.length<=18;omega,.inr ⟨s,rfl⟩⟩
    ·exfalso;unfold JY at hs;simp only[Bool.not_eq_false] at ho;rw[ho] at hs;simp at hs
   ·exfalso;unfold JY at hs;simp only[Bool.not_eq_false] at hh;rw[hh] at hs;simp at hs
 ·exact z
theorem MJ.wf {m:Md}{seed h:Int}(hs:MJ m seed h):m.wf:=hs.ok.wf
theorem MJ.sizes {m:Md}{seed h:Int}(hs:MJ m seed h)(h4:h<=4):m.shrt∧m.sig.chains.length<=1000∧m.sig.path.length<=1000:=by
 obtain⟨e0,e1,e2,e3⟩:=Ls hs.err;obtain⟨_,_,_,_,_,m6,m7⟩:=P2 e0;have:=hs.path;exact⟨⟨by omega,fun x hx=>by have:=W0 (Su m7 x hx);omega⟩,by omega,by omega⟩
theorem Avx {m:Md}(hw:m.wf)(h:Ej m=0)(hf:(Ba m).length<=90):(Gy m).length<=4096:=by
 obtain⟨h0,h1,h2,h3⟩:=Ls h;obtain⟨_,f,_⟩:=W6 hw h0;have:=f.len;have hp:=Jo (h:=m.sig.path.length) (by simpa using h1)
 unfold Gy;rw[Hi,Awm];omega
theorem A2u {m:Md}(hw:m.wf)(h:Ej m=0):M3 (Gy m):=fun y hy=>(List.mem_append.1 hy).elim (SC hw (Ls h).1 y) (A04 m.sig y)
def mA0:Md:=⟨2,1,9,[⟨4,[],[⟨1,0⟩,⟨4,50⟩]⟩],sg0⟩
theorem Asf:mA0.ok:=⟨fun x hx=>by
 rw[List.mem_singleton.1 hx];exact⟨⟨by decide,by decide⟩,fun a ha=>by cases ha⟩,⟨fun x hx=>(by cases hx),fun x hx=>(by cases hx)⟩⟩
theorem Ayx:B0 mA0=0:=by decide
section
variable {fu d:Nat}
abbrev mC (v i x:Int)(n:Nat)(c:List PV):List PV:=[.sc (.int .i64 v),.sc (.int .i64 i),.sc (.int .i64 x),.lst false 3 n c,.sc (.int .i64 0),.lst false 1 0 [],.lst false 1 0 []]
theorem Apv (B5:20000<=fu):Ad C0 prog fu (d+14) Q3 []=some ⟨[.sc (.bool true)],[]⟩:=by
 rw[CO]
 have hM:∃M,Pe mA0 7 2=(M,0)∧MJ M 7 2∧M.ver=2∧M.iss=1∧M.nxt=9∧M.ents=[⟨4,[],[⟨1,0⟩,⟨4,50⟩]⟩]∧(Ba M).length<=90∧M.sig.leaf=1:=by
  obtain⟨s,hs,hg⟩:=Ao2 Asf (seed:=7) (h:=2) Ayx (by decide) (by decide)
  exact⟨_,hs,hg,rfl,rfl,rfl,rfl,(show (15:Nat)<=90 by omega),hg.leaf⟩
 obtain⟨M,hs,hg,m1,m2,m3,m4,m5,lf⟩:=hM;have k7:=A3c (fu:=fu) (d:=d) (by omega) 7 2
 have sg:Ad C0 prog fu (d+13) Rg [.agg (mC 2 1 9 1 [.sc (.int .u64 4),.lst false 3 0 [],.lst false 2 2 [.sc (.int .i64 1),.sc (.int .i64 0),.sc (.int .i64 4),.sc (.int .i64 50)]]),.sc (.int .u64 7),.sc (.int .i64 2)]=some ⟨[.agg M.cells,.sc (.int .i64 0)],[]⟩:=by
  have:=Ar8 (fu:=fu) (d:=d+2) (m:=mA0) B5 Asf.wf 7 2;rw[hs] at this;exact this
 obtain⟨z1,z2,z3⟩:=hg.sizes (by omega)
 have en:=Adc (fu:=fu) (d:=d+3) (m:=M) B5 hg.wf (by omega) (by omega)
 unfold Vf at en;rw[hg.err,Co rfl] at en;have le:(Gy M).length<=4096:=Avx hg.wf hg.err m5;have hb:=A2u hg.wf hg.err;have dh:=VB hg.ok hg.err le
 have a1:Ad C0 prog fu (d+13) Kl [.agg (mC 1 0 0 0 []),.lst false 1 (Gy M).length (Af .u8 (Gy M)),.agg (Zy 7 2).cells,.sc (.int .i64 5)]=some ⟨[.agg M.cells,.sc (.int .i64 0)],[]⟩:=by
  have:=Ag3 (fu:=fu) (d:=d+1) B5 hb (by omega) ⟨1,0,0,[],sg0⟩ (Zy 7 2) 5
  have e1:Aib ⟨1,0,0,[],sg0⟩ (Gy M) (Zy 7 2) 5=(M,0):=by
   unfold Aib;rw[Bp (by omega),dh,Bp (by simp),Bp (by rw[m1];show ¬(2:Int)<=1;omega),Bp (by rw[hg.ver];simp),Bp (by rw[m2,m3];omega)]
  rw[e1] at this;exact this
 have a2:Ad C0 prog fu (d+13) Kl [.agg M.cells,.lst false 1 (Gy M).length (Af .u8 (Gy M)),.agg (Zy 7 2).cells,.sc (.int .i64 5)]=some ⟨[.agg (mC 0 0 0 0 []),.sc (.int .i64 7)],[]⟩:=by
  have:=Ag3 (fu:=fu) (d:=d+1) B5 hb (by omega) M (Zy 7 2) 5
  have e2:Aib M (Gy M) (Zy 7 2) 5=(NG,7):=by
   unfold Aib;rw[Bp (by omega),dh,Bp (by simp),Co (Int.le_refl _)]
  rw[e2] at this;exact this
 have sm:=Asv (fu:=fu) (d:=d+10) (m:=M) (by omega) z1 z2 z3
 have s1:=Ae3 (fu:=fu) (d:=d+12) (m:=M) z1 4 49;have s2:=Ae3 (fu:=fu) (d:=d+12) (m:=M) z1 4 50;have v1:Aar M 4 49=1:=by unfold Aar;rw[m4];rfl
 have v2:Aar M 4 50=4:=by unfold Aar;rw[m4];rfl
 rw[v1] at s1;rw[v2] at s2;have L:=Aq .u8 (Gy M);have t:=Nv .u8 (Gy M);generalize Gy M=E at *
 generalize Zy 7 2=K at *
 simp only[Md.cells,Ky.cells,lf] at k7 sg en a1 a2 sm s1 s2;clear hs hg dh v1 v2
 try unfold Aa
 repeat first
  |((with_reducible first|apply As|apply Ao|apply Ar|apply Az|apply Bo|apply Bg|apply A9|apply Am|apply Au|apply At);· first|with_reducible rfl|(simp (disch:=omega) only[gT,k7,sg,en,Dr,Cv,Dt,L,t,a1,a2,sm,s1,s2,Int.reduceBEq]<;>first|with_reducible rfl|omega)|omega)
  |(with_reducible apply Av;· first|with_reducible rfl|(simp (disch:=omega) only[gF,k7,sg,en,Dr,Cv,Dt,L,t,a1,a2,sm,s1,s2,Int.reduceBEq]<;>omega))
 try simp (disch:=omega) only[k7,sg,en,Dr,Cv,Dt,L,t,a1,a2,sm,s1,s2,Int.reduceBEq]
 all_goals rfl
end
end
section
open Go.Proofs.Tryz (prog)
open Go.IntKind (wrap)
theorem MR {d:Nat}{ps:List PV}(h:WT prog d 25 ps):∃(v0:Int)(v1:List Int)(v2:List Int),ps=[(.sc (.int .i64 v0)),(.lst false 1 v1.length (Af .u64 v1)),(.lst false 1 v2.length (Af .u64 v2))]∧(Lit.int .i64 v0).wf=true∧v1.length<=maxLen∧(∀n∈v1,(Lit.int .u64 n).wf=true)∧v2.length<=maxLen∧(∀n∈v2,(Lit.int .u64 n).wf=true):=by
 obtain⟨rs,rfl,h1⟩:=ZQ (ts:=[3,23,23]) (by kernel_rfl) h
 obtain⟨r0,_,rfl,g0,h1⟩:=h1.cons_inv;obtain⟨r1,_,rfl,g1,h1⟩:=h1.cons_inv;obtain⟨r2,_,rfl,g2,h1⟩:=h1.cons_inv;obtain rfl:=h1.nil_inv;obtain⟨v0,rfl,w0_0⟩:=Vw (k:=.i64) (by kernel_rfl) g0
 obtain⟨v1,rfl,w1_0,w1_1⟩:=Ads (k:=.u64) (e:=37) (by kernel_rfl) (by kernel_rfl) (by kernel_rfl) g1
 obtain⟨v2,rfl,w2_0,w2_1⟩:=Ads (k:=.u64) (e:=37) (by kernel_rfl) (by kernel_rfl) (by kernel_rfl) g2
 exact⟨v0,v1,v2,rfl,w0_0,w1_0,w1_1,w2_0,w2_1⟩
theorem RA {d:Nat}{ps:List PV}(h:WT prog d 27 ps):∃(v0:Int)(v1:Int)(v2:Int)(v3:List (List PV)) (v4v0:Int)(v4v1:List Int)(v4v2:List Int),ps=[(.sc (.int .i64 v0)),(.sc (.int .i64 v1)),(.sc (.int .i64 v2)),(.lst false 3 v3.length v3.flatten),(.sc (.int .i64 v4v0)),(.lst false 1 v4v1.length (Af .u64 v4v1)),(.lst false 1 v4v2.length (Af .u64 v4v2))]∧(Lit.int .i64 v0).wf=true∧(Lit.int .i64 v1).wf=true∧(Lit.int .i64 v2).wf=true∧v3.length<=maxLen∧(∀r∈v3,r.length=3∧WT prog (d-2) 61 r)∧(Lit.int .i64 v4v0).wf=true∧v4v1.length<=maxLen∧(∀n∈v4v1,(Lit.int .u64 n).wf=true)∧v4v2.length<=maxLen∧(∀n∈v4v2,(Lit.int .u64 n).wf=true):=by
 obtain⟨rs,rfl,h1⟩:=ZQ (ts:=[3,3,3,22,25]) (by kernel_rfl) h
 obtain⟨r0,_,rfl,g0,h1⟩:=h1.cons_inv;obtain⟨r1,_,rfl,g1,h1⟩:=h1.cons_inv;obtain⟨r2,_,rfl,g2,h1⟩:=h1.cons_inv;obtain⟨r3,_,rfl,g3,h1⟩:=h1.cons_inv;obtain⟨r4,_,rfl,g4,h1⟩:=h1.cons_inv;obtain rfl:=h1.nil_inv;obtain⟨v0,rfl,w0_0⟩:=Vw (k:=.i64) (by kernel_rfl) g0
 obtain⟨v1,rfl,w1_0⟩:=Vw (k:=.i64) (by kernel_rfl) g1
 obtain⟨v2,rfl,w2_0⟩:=Vw (k:=.i64) (by kernel_rfl) g2
 obtain⟨v3,rfl,w3_0,w3_1⟩:=Ajk (k:=3) (e:=61) (by kernel_rfl) (by kernel_rfl) g3
 obtain⟨v4v0,v4v1,v4v2,rfl,w4_0,w4_1,w4_2,w4_3,w4_4⟩:=MR g4;exact⟨v0,v1,v2,v3,v4v0,v4v1,v4v2,rfl,w0_0,w1_0,w2_0,w3_0,w3_1,w4_0,w4_1,w4_2,w4_3,w4_4⟩
theorem LN {d:Nat}{ps:List PV}(h:WT prog d 61 ps):∃(v0:Int)(v1:List (List PV)) (v2:List (List PV)),ps=[(.sc (.int .u64 v0)),(.lst false 3 v1.length v1.flatten),(.lst false 2 v2.length v2.flatten)]∧(Lit.int .u64 v0).wf=true∧v1.length<=maxLen∧(∀r∈v1,r.length=3∧WT prog (d-2) 63 r)∧v2.length<=maxLen∧(∀r∈v2,r.length=2∧WT prog (d-2) 65 r):=by
 obtain⟨rs,rfl,h1⟩:=ZQ (ts:=[37,58,59]) (by kernel_rfl) h
 obtain⟨r0,_,rfl,g0,h1⟩:=h1.cons_inv;obtain⟨r1,_,rfl,g1,h1⟩:=h1.cons_inv;obtain⟨r2,_,rfl,g2,h1⟩:=h1.cons_inv;obtain rfl:=h1.nil_inv;obtain⟨v0,rfl,w0_0⟩:=Vw (k:=.u64) (by kernel_rfl) g0
 obtain⟨v1,rfl,w1_0,w1_1⟩:=Ajk (k:=3) (e:=63) (by kernel_rfl) (by kernel_rfl) g1
 obtain⟨v2,rfl,w2_0,w2_1⟩:=Ajk (k:=2) (e:=65) (by kernel_rfl) (by kernel_rfl) g2
 exact⟨v0,v1,v2,rfl,w0_0,w1_0,w1_1,w2_0,w2_1⟩
theorem MA {d:Nat}{ps:List PV}(h:WT prog d 40 ps):∃(v0:Int)(v1:Int),ps=[(.sc (.int .i64 v0)),(.sc (.int .u64 v1))]∧(Lit.int .i64 v0).wf=true∧(Lit.int .u64 v1).wf=true:=by
 obtain⟨rs,rfl,h1⟩:=ZQ (ts:=[3,37]) (by kernel_rfl) h
 obtain⟨r0,_,rfl,g0,h1⟩:=h1.cons_inv;obtain⟨r1,_,rfl,g1,h1⟩:=h1.cons_inv;obtain rfl:=h1.nil_inv;obtain⟨v0,rfl,w0_0⟩:=Vw (k:=.i64) (by kernel_rfl) g0
 obtain⟨v1,rfl,w1_0⟩:=Vw (k:=.u64) (by kernel_rfl) g1
 exact⟨v0,v1,rfl,w0_0,w1_0⟩
theorem YF {d:Nat}{ps:List PV}(h:WT prog d 63 ps):∃(v0:ByteArray)(v1v0:Int)(v1v1:Int),ps=[(.sc (.string v0)),(.sc (.int .i64 v1v0)),(.sc (.int .u64 v1v1))]∧v0.size<=maxLen∧(Lit.int .i64 v1v0).wf=true∧(Lit.int .u64 v1v1).wf=true:=by
 obtain⟨rs,rfl,h1⟩:=ZQ (ts:=[9,40]) (by kernel_rfl) h
 obtain⟨r0,_,rfl,g0,h1⟩:=h1.cons_inv;obtain⟨r1,_,rfl,g1,h1⟩:=h1.cons_inv;obtain rfl:=h1.nil_inv;obtain⟨v0,rfl,w0_0⟩:=A3n (by kernel_rfl) g0
 obtain⟨v1v0,v1v1,rfl,w1_0,w1_1⟩:=MA g1;exact⟨v0,v1v0,v1v1,rfl,w0_0,w1_0,w1_1⟩
theorem ZA {d:Nat}{ps:List PV}(h:WT prog d 65 ps):∃(v0:Int)(v1:Int),ps=[(.sc (.int .i64 v0)),(.sc (.int .i64 v1))]∧(Lit.int .i64 v0).wf=true∧(Lit.int .i64 v1).wf=true:=by
 obtain⟨rs,rfl,h1⟩:=ZQ (ts:=[3,3]) (by kernel_rfl) h
 obtain⟨r0,_,rfl,g0,h1⟩:=h1.cons_inv;obtain⟨r1,_,rfl,g1,h1⟩:=h1.cons_inv;obtain rfl:=h1.nil_inv;obtain⟨v0,rfl,w0_0⟩:=Vw (k:=.i64) (by kernel_rfl) g0
 obtain⟨v1,rfl,w1_0⟩:=Vw (k:=.i64) (by kernel_rfl) g1
 exact⟨v0,v1,rfl,w0_0,w1_0⟩
end
section
open Go.Proofs.Tryz (prog)
open Go.IntKind (wrap)
set_option maxRecDepth 100000
abbrev Ji:FuncId:=3
theorem Q5 (fu d:Nat)(Ag Ai Ay:Int)(Bi:Nat)(Bv:List PV)(Cf:Int)(Bk:Nat)(Cj:List PV)(Bn:Nat)(Ci:List PV)(Q9:Nat)(a1:List PV):Ad C0 prog fu (d+1) Ji [.agg [.sc (.int .i64 Ag),.sc (.int .i64 Ai),.sc (.int .i64 Ay),.lst false 3 Bi Bv,.sc (.int .i64 Cf),.lst false 1 Bk Cj,.lst false 1 Bn Ci],.lst false 1 Q9 a1]=(fun (call:Ah)=>Aj (call 8 [.agg [.sc (.int .i64 Ag),.sc (.int .i64 Ai),.sc (.int .i64 Ay),.lst false 3 Bi Bv,.sc (.int .i64 Cf),.lst false 1 Bk Cj,.lst false 1 Bn Ci]]) fun x1 x2=>Ac x2<|Ab x1 fun x3 x4=>B3 x3 fun x5=>Ac x4<|Bm (!x5) (Aj (call 9 []) fun x6 x7=>Ac x7<|Ab x6 fun x8 x9=>B3 x8 fun Cy=>Ac x9<|some (A4.mk [.sc (.bool Cy)] [])) (Aj (call 10 [.lst false 1 Q9 a1]) fun C4 D1=>Ac D1<|Ab C4 fun Ed Dn=>FP Ed fun Eg=>Ab Eg fun Ez Fq=>Fa 1 Ez fun F9 Fp F2=>Ab Fq fun Iw Hl=>Ae .i64 Iw fun H3=>Ac Hl<|Ac Dn<|Aj (call 11 [.pbox [.lst false 1 Fp F2,.sc (.int .i64 H3)]]) fun E5 Ep=>Ab E5 fun G2 I1=>Ef G2 fun Gs=>Ab Gs fun Ml L5=>Ae .i64 Ml fun J6=>Ab L5 fun Le Mc=>Ae .i64 Le fun Nh=>Ab Mc fun Nw Qa=>Ae .i64 Nw fun Sb=>Ab Qa fun Ip Lf=>Fa 3 Ip fun Rj V9 Rb=>Ab Lf fun Zb Za=>Ae .i64 Zb fun Wc=>Ab Za fun Wa Wt=>Fa 1 Wa fun Xr Xi Ze=>Ab Wt fun Y8 Xz=>Fa 1 Y8 fun AN AG Yd=>Ac Xz<|Ac I1<|Ab Ep fun Zq AJ=>Ab Zq fun Yz CJ=>Fa 1 Yz fun AB AF DT=>Ab CJ fun AC Zn=>Ae .i64 AC fun Y5=>Ac Zn<|Ac AJ<|Aj (call 12 [.agg [.sc (.int .i64 J6),.sc (.int .i64 Nh),.sc (.int .i64 Sb),.lst false 3 V9 Rb,.sc (.int .i64 Wc),.lst false 1 Xi Ze,.lst false 1 AG Yd],.sc (.int .u64 5),.sc (.int .i64 4)]) fun Wd AM=>Ac AM<|Ab Wd fun DF AD=>Ef DF fun CW=>Ab CW fun AL CF=>Ae .i64 AL fun ET=>Ab CF fun Zu EQ=>Ae .i64 Zu fun IH=>Ab EQ fun AH GO=>Ae .i64 AH fun JJ=>Ab GO fun GB JS=>Fa 3 GB fun PD XF OV=>Ab JS fun UA SF=>Ae .i64 UA fun RC=>Ab SF fun QT IG=>Fa 1 QT fun RP QY YW=>Ab IG fun LX XG=>Fa 1 LX fun x95 YG ND=>Ac XG<|Ab AD fun LU XD=>Ae .i64 LU fun Vs=>Ac XD<|Aj (call 13 [.agg [.sc (.int .i64 Ag),.sc (.int .i64 Ai),.sc (.int .i64 Ay),.lst false 3 Bi Bv,.sc (.int .i64 Cf),.lst false 1 Bk Cj,.lst false 1 Bn Ci]]) fun Vt Jg=>Ac Jg<|Ab Vt fun Lm Uk=>B3 Lm fun Tb=>Ac Uk<|Bm Tb (Aj (call 13 [.agg [.sc (.int .i64 J6),.sc (.int .i64 Nh),.sc (.int .i64 Sb),.lst false 3 V9 Rb,.sc (.int .i64 Wc),.lst false 1 Xi Ze,.lst false 1 AG Yd]]) fun Sh Nt=>Ac Nt<|Ab Sh fun X7 Z8=>B3 X7 fun DB=>Ac Z8<|Bm DB (Aj (call 13 [.agg [.sc (.int .i64 ET),.sc (.int .i64 IH),.sc (.int .i64 JJ),.lst false 3 XF OV,.sc (.int .i64 RC),.lst false 1 QY YW,.lst false 1 YG ND]]) fun CV I8=>Ac I8<|Ab CV fun Mt EP=>B3 Mt fun EO=>Ac EP<|Bm EO (Aj (call 9 []) fun Yj EJ=>Ac EJ<|Ab Yj fun FH BQ=>B3 FH fun EK=>Ac BQ<|some (A4.mk [.sc (.bool EK)] [])) (some (A4.mk [.sc (.bool false)] []))) (some (A4.mk [.sc (.bool false)] []))) (some (A4.mk [.sc (.bool false)] [])))) (Ad C0 prog fu d):=by kernel_rfl
end
section
open Go.Proofs.Tryz (prog)
open Go.IntKind (wrap)
set_option maxRecDepth 1000000
theorem Ay2 {p:PV}(h:WTv prog 27 p):∃m:Md,p=.agg m.cells∧m.ok:=by
 obtain⟨ps,rfl,k0⟩:=Awt (by kernel_rfl) h
 obtain⟨v0,v1,v2,rows,v4,v5,v6,rfl,e0,e1,e2,e3,e4,e5,e6,e7,e8,e9⟩:=RA k0
 obtain⟨es,h1,h2,h3⟩:=Qs Me.cells (fun x=>Vd x.model∧x.rts) (rows:=rows) fun r hr=>by
  obtain⟨w0,ra,rs,rfl,f0,f1,f2,f3,f4⟩:=LN (e4 r hr).2
  obtain⟨la,a1,a2,a3⟩:=Qs An.cells (fun a=>Vd a.key.root) (rows:=ra) fun r' hr'=>by
   obtain⟨u0,u1,u2,rfl,g0,g1,g2⟩:=YF (f2 r' hr').2;exact⟨⟨u0,⟨u1,u2⟩⟩,rfl,Acw g2⟩
  obtain⟨ss,s1,s2,s3⟩:=Qs Sa.cells (fun _=>True) (rows:=rs) fun r' hr'=>by
   obtain⟨u0,u1,rfl,g0,g1⟩:=ZA (f4 r' hr').2;exact⟨⟨u0,u1⟩,rfl,trivial⟩
  refine⟨⟨w0,la,ss⟩,?_,Acw f0,a3⟩;rw[a1,a2,s1,s2];rfl
 refine⟨⟨v0,v1,v2,es,⟨v4,v5,v6⟩⟩,?_,⟨h3,⟨fun x hx=>Acw (e7 x hx),fun x hx=>Acw (e9 x hx)⟩⟩⟩
 rw[h1,h2];rfl
theorem Md.plain.ok {m:Md}(h:m.plain):m.ok:=⟨fun x hx=>⟨(h.ent x hx).model,(h.ent x hx).rts⟩,by rw[h.sg];exact⟨fun x hx=>(by cases hx),fun x hx=>(by cases hx)⟩⟩
theorem Md.plain.shrt {m:Md}(h:m.plain):m.shrt:=⟨by have:=h.len;omega,fun x hx=>by have:=h.ent x hx;have:=this.ans;have:=(h.ent x hx).sts;omega⟩
theorem metadataBodies_plain (qs:List PV)(h:B8 (WTv prog) [27,28] qs):∃fu d,Ad C0 prog fu d Ji qs=some ⟨[.sc (.bool true)],[]⟩:=by
 obtain⟨q0,_,rfl,h0,g⟩:=h.cons_inv;obtain⟨q1,_,rfl,h1,g⟩:=g.cons_inv;obtain rfl:=g.nil_inv;clear h g;obtain⟨m,rfl,hm⟩:=Ay2 h0;obtain⟨l,rfl,hl,_⟩:=Aqd (k:=.i64) (e:=3) (by kernel_rfl) (by kernel_rfl) (by kernel_rfl) (by kernel_rfl) h1
 clear h0 h1;refine⟨20000,20,?_⟩;refine (Q5 20000 19 m.ver m.iss m.nxt m.ents.length (Ca m.ents) m.sig.leaf m.sig.chains.length (Af .u64 m.sig.chains) m.sig.path.length (Af .u64 m.sig.path) l.length (Af .i64 l)).trans ?_;have aw:=Apv (fu:=20000) (d:=5) (by omega)
 obtain⟨b,hb,sm⟩:=Apu (fu:=20000) (d:=18) (by omega) m
 cases b
 ·simp only[Md.cells] at sm
  try unfold Aa
  repeat first
   |((with_reducible first|apply As|apply Ao|apply Ar|apply Az|apply Bg|apply A9|apply Ak0|apply Am|apply Au|apply At);· first|with_reducible rfl|(simp (disch:=omega) only[gT,sm,aw,Hg]<;>first|with_reducible rfl|omega)|omega)
   |(with_reducible apply Av;· first|with_reducible rfl|(simp (disch:=omega) only[gF,sm,aw,Hg]<;>omega))
  try simp (disch:=omega) only[sm,aw,Hg]
  all_goals rfl
 ·have hp:=hb rfl;have nq:=A3j (fu:=20000) (d:=18) (l:=l);obtain⟨x,j,hx,xe⟩:=Auj (fu:=20000) (d:=5) (by omega) hl 0
  have sg:=Aoo (fu:=20000) (d:=6) (m:=x) (by omega) hx.ok.wf 5 4
  obtain⟨s1,s2,s3,_⟩:=Arv hx.ok 5 4;have b1:=HF (fu:=20000) (d:=8) (m:=m) (by omega) hm.wf (by omega)
  have b2:=HF (fu:=20000) (d:=8) (m:=x) (by omega) hx.ok.wf (by rw[hx.sg];decide)
  have b3:=HF (fu:=20000) (d:=8) (m:=(Pe x 5 4).1) (by omega) s1.wf (by omega)
  generalize (Pe x 5 4).1=y at *
  generalize (Pe x 5 4).2=er at *
  have z0:((0:Nat):Int)=0:=rfl;simp only[Md.cells,dkc] at sm nq xe sg b1 b2 b3;rw[z0] at nq xe
  try unfold Aa
  repeat first
   |((with_reducible first|apply As|apply Ao|apply Ar|apply Az|apply Bg|apply A9|apply Ak0|apply Am|apply Au|apply At);· first|with_reducible rfl|(simp (disch:=omega) only[gT,sm,aw,nq,xe,sg,b1,b2,b3,Dc]<;>first|with_reducible rfl|omega)|omega)
   |(with_reducible apply Av;· first|with_reducible rfl|(simp (disch:=omega) only[gF,sm,aw,nq,xe,sg,b1,b2,b3,Dc]<;>omega))
  try simp (disch:=omega) only[sm,aw,nq,xe,sg,b1,b2,b3,Dc]
  all_goals rfl
end
section
open Go.Proofs.Tryz (prog)
open Go.IntKind (wrap)
open Go Go.RowKit
def sL:Code->Code
 |.seq a _=>a
 |c=>c
def sR:Code->Code
 |.seq _ b=>b
 |c=>c
def sB:Code->Code
 |.block _ c=>c
 |.loop c=>c
 |c=>c
def sF:Code->Code
 |.rangeFunc _ _ _ b=>b
 |c=>c
def sA:Code->Code
 |.rangeFunc _ _ a _=>a
 |c=>c
def Hq:Code->Array Oper
 |.region _ ops _=>ops
 |_=> #[]
noncomputable abbrev IF:Code:=B9 Tryz.f113
noncomputable abbrev VF:Code:=B9 Tryz.f36
def CS:Kf:={ CB with shr:=fun _=>true }
noncomputable abbrev PT (N:Nat)(call:Ah)(c:Code)(L:Nat)(s:St):Option (Nat × St):=
 Oj CB prog 2000 N call c L (fun _=>L) 0 (fun s=>Jz N L s fun s'=>some (0,s')) (fun id s=>Jz N L s fun s'=>some (id+1,s')) (fun _=>none) s
section
variable {N:Nat} {w0:World} {X0:Gg} {Y:Nat->Prop} {β:Bt} {s s1:St} {a:Act} {w:World}
theorem Dx {G:Xl}(Kg:QA prog G w0 X0)(hm:prog.follows .mixedOrders=true){call:Ah}(Dj:∀f args res,call f args=some res->Dl G prog f args res){c:Code}{L t:Nat}{Q:Exit->Act->World->Prop}(h:Ch N w0 X0 Y β s a w)
  (hk:PT N call c L s=some (t,s1)) (hQ:∀a' w' β',Ch N w0 X0 Y β' s1 a' w'->match t with|0=>Q .normal a' w'|id+1=>Q (.exit id) a' w'):c.wp prog Q a w:=by
 refine GL Kg Dj hm c h hk (fun s' a' w' β' h1 h2=>?_) (fun id s' a' w' β' h1 h2=>?_) (fun s' a' w' β' h1 h2=>by cases h1)
 ·obtain⟨β1,s2,h3,h4⟩:=Cl h2 h1;cases h3;exact hQ _ _ _ h4
 ·obtain⟨β1,s2,h3,h4⟩:=Cl h2 h1;cases h3;exact hQ _ _ _ h4
theorem HU {G:Xl}(Kg:QA prog G w0 X0)(hm:prog.follows .mixedOrders=true){call:Ah}(Dj:∀f args res,call f args=some res->Dl G prog f args res){ro:Option Nat}{n:Nat}{c:Code}(ho:okR c=true){L t:Nat}{Q:Exit->Act->World->Prop}(GZ:∀a w,¬Q .outgrown a w)(h:Ch N w0 X0 Y β s a w)
  (hk:PT N call c L s=some (t,s1)) (hQ:∀a' w' β',Ch N w0 X0 Y β' s1 a' w'->match t with|0=>Q .normal a' w'|id+1=>Q (.exit id) a' w'):c.wpIn (WF ro) n prog Q a w:=by
 refine PS Kg Dj hm c ho GZ h hk (fun s' a' w' β' h1 h2=>?_) (fun id s' a' w' β' h1 h2=>?_) (fun s' a' w' β' h1 h2=>by cases h1)
 ·obtain⟨β1,s2,h3,h4⟩:=Cl h2 h1;cases h3;exact hQ _ _ _ h4
 ·obtain⟨β1,s2,h3,h4⟩:=Cl h2 h1;cases h3;exact hQ _ _ _ h4
end
end
section
open Go.Proofs.Tryz (prog)
open Go.IntKind (wrap)
set_option maxRecDepth 100000
theorem A15 (call:Ah)(yv:Value)(h seed:Int):PT 63 call (sL IF) 23 ⟨lk [(0,.sc yv),(1,.iptr [.sc (.int .i64 h)] 0),(2,.iptr [.sc (.int .u64 seed)] 0)],B7 []⟩=(
 Aw (decide ((0:Int)<=h)) <|
 Aa (Jf IntKind.i64 (1:Int) h) fun x1=>
 Aw (decide ((0:Int)<=x1)&&decide (x1<=x1)&&decide (x1*(8:Int)<=(1099511627776:Int))&&decide (x1<=(1099511627776:Int))) <|
 some (0,⟨lk [(0,(.sc (yv))),(1,(.iptr ([PV.sc (Value.int IntKind.i64 h)]) ((0:Nat)))),(2,(.iptr ([PV.sc (Value.int IntKind.u64 seed)]) ((0:Nat)))),(4,(.view 4 1 0 (Int.toNat x1)))],B7 [(4,(.ar false (Wr (Int.toNat x1) [PV.sc (Value.int IntKind.u64 (0:Int))])))]⟩)):=by kernel_rfl
theorem A40 (call:Ah)(yv:Value)(h seed:Int)(n:Nat)(c:List PV):PT 63 call (sL (sL (sR IF))) 24599 ⟨lk [(0,.sc yv),(1,.iptr [.sc (.int .i64 h)] 0),(2,.iptr [.sc (.int .u64 seed)] 0),(4,.view 4 1 0 n)],B7 [(4,.ar false c)]⟩=(
 some (0,⟨lk [(0,(.sc (yv))),(1,(.iptr ([PV.sc (Value.int IntKind.i64 h)]) ((0:Nat)))),(2,(.iptr ([PV.sc (Value.int IntKind.u64 seed)]) ((0:Nat)))),(4,(.view 4 1 0 (n))),(13,(.sc (.int .i64 ((↑n:Int))))),(14,(.sc (.int .i64 ((0:Int)))))],B7 [(4,(.ar false (c)))]⟩)):=by kernel_rfl
theorem Ar4 (call:Ah)(yv:Value)(h seed m i:Int)(n:Nat)(c:List PV):PT 63 call (sB (sB (sR (sL (sR IF))))) 24599 ⟨lk [(0,.sc yv),(1,.iptr [.sc (.int .i64 h)] 0),(2,.iptr [.sc (.int .u64 seed)] 0),(4,.view 4 1 0 n),(13,.sc (.int .i64 m)),(14,.sc (.int .i64 i))],B7 [(4,.ar false c)]⟩=(
  Bm (decide (i<m))
   (
   Aj (call (114:Nat) [PV.sc (Value.int IntKind.u64 seed),PV.sc (Value.int IntKind.i64 i)]) fun x1 x2=>
   Ac (x2) <|
   Ab (x1) fun x3 x4=>
   Ae (IntKind.u64) (x3) fun x5=>
   Ac (x4) <|
   Aw (decide ((0:Int)<=i)&&decide (i<(↑n:Int))) <|
   Aw (decide ((0:Nat)+Int.toNat i*(1:Nat)+(1:Nat)<=List.length c)) <|
   Aa (B4 c [PV.sc (Value.int IntKind.u64 x5)] ((0:Nat)+Int.toNat i*(1:Nat))) fun x6=>
   Aa (wrap IntKind.i64 (i+(1:Int))) fun x7=>
   some (0,⟨lk [(0,(.sc (yv))),(1,(.iptr ([PV.sc (Value.int IntKind.i64 h)]) ((0:Nat)))),(2,(.iptr ([PV.sc (Value.int IntKind.u64 seed)]) ((0:Nat)))),(4,(.view 4 1 0 (n))),(13,(.sc (.int .i64 (m)))),(14,(.sc (.int .i64 (x7))))],B7 [(4,(.ar false (x6)))]⟩))
   (
   some (1,⟨lk [(0,(.sc (yv))),(1,(.iptr ([PV.sc (Value.int IntKind.i64 h)]) ((0:Nat)))),(2,(.iptr ([PV.sc (Value.int IntKind.u64 seed)]) ((0:Nat)))),(4,(.view 4 1 0 (n))),(13,(.sc (.int .i64 (m)))),(14,(.sc (.int .i64 (i))))],B7 [(4,(.ar false (c)))]⟩))):=by kernel_rfl
theorem A36 (call:Ah)(yv:Value)(h seed m i:Int)(n:Nat)(c:List PV):PT 63 call (sL (sR (sR IF))) 87 ⟨lk [(0,.sc yv),(1,.iptr [.sc (.int .i64 h)] 0),(2,.iptr [.sc (.int .u64 seed)] 0),(4,.view 4 1 0 n),(13,.sc (.int .i64 m)),(14,.sc (.int .i64 i))],B7 [(4,.ar false c)]⟩=(
 some (0,⟨lk [(0,(.sc (yv))),(1,(.iptr ([PV.sc (Value.int IntKind.i64 h)]) ((0:Nat)))),(2,(.iptr ([PV.sc (Value.int IntKind.u64 seed)]) ((0:Nat)))),(4,(.view 4 1 0 (n))),(6,(.sc (.int .i64 ((0:Int)))))],B7 [(4,(.ar false (c)))]⟩)):=by kernel_rfl
theorem A14 (call:Ah)(yv:Value)(h seed k:Int)(n:Nat)(c:List PV):PT 63 call (sL (sB (sL (sR (sB (sB (sR (sR (sR IF))))))))) 215 ⟨lk [(0,.sc yv),(1,.iptr [.sc (.int .i64 h)] 0),(2,.iptr [.sc (.int .u64 seed)] 0),(4,.view 4 1 0 n),(6,.sc (.int .i64 k))],B7 [(4,.ar false c)]⟩=(
 Aa (wrap IntKind.i64 (Int.tdiv (↑n:Int) (2:Int))) fun x1=>
 Aw (decide ((0:Int)<=x1)&&decide (x1<=x1)&&decide (x1*(8:Int)<=(1099511627776:Int))&&decide (x1<=(1099511627776:Int))) <|
 some (0,⟨lk [(0,(.sc (yv))),(1,(.iptr ([PV.sc (Value.int IntKind.i64 h)]) ((0:Nat)))),(2,(.iptr ([PV.sc (Value.int IntKind.u64 seed)]) ((0:Nat)))),(4,(.view 4 1 0 (n))),(6,(.sc (.int .i64 (k)))),(7,(.view 7 1 0 (Int.toNat x1)))],B7 [(4,(.ar false (c))),(7,(.ar false (Wr (Int.toNat x1) [PV.sc (Value.int IntKind.u64 (0:Int))])))]⟩)):=by kernel_rfl
theorem A3z (call:Ah)(yv:Value)(h seed k:Int)(n m:Nat)(c e:List PV):PT 63 call (sL (sL (sR (sB (sL (sR (sB (sB (sR (sR (sR IF))))))))))) 3298534883543 ⟨lk [(0,.sc yv),(1,.iptr [.sc (.int .i64 h)] 0),(2,.iptr [.sc (.int .u64 seed)] 0),(4,.view 4 1 0 n),(6,.sc (.int .i64 k)),(7,.view 7 1 0 m)],B7 [(4,.ar false c),(7,.ar false e)]⟩=(
 some (0,⟨lk [(0,(.sc (yv))),(1,(.iptr ([PV.sc (Value.int IntKind.i64 h)]) ((0:Nat)))),(2,(.iptr ([PV.sc (Value.int IntKind.u64 seed)]) ((0:Nat)))),(4,(.view 4 1 0 (n))),(6,(.sc (.int .i64 (k)))),(7,(.view 7 1 0 (m))),(40,(.sc (.int .i64 ((↑m:Int))))),(41,(.sc (.int .i64 ((0:Int)))))],B7 [(4,(.ar false (c))),(7,(.ar false (e)))]⟩)):=by kernel_rfl
theorem Aua (call:Ah)(yv:Value)(h seed k p i:Int)(n m:Nat)(c e:List PV):PT 63 call (sB (sB (sR (sL (sR (sB (sL (sR (sB (sB (sR (sR (sR IF))))))))))))) 3298534883543 ⟨lk [(0,.sc yv),(1,.iptr [.sc (.int .i64 h)] 0),(2,.iptr [.sc (.int .u64 seed)] 0),(4,.view 4 1 0 n),(6,.sc (.int .i64 k)),(7,.view 7 1 0 m),(40,.sc (.int .i64 p)),(41,.sc (.int .i64 i))],B7 [(4,.ar false c),(7,.ar false e)]⟩=(
  Bm (decide (i<p))
   (
   Aa (wrap IntKind.i64 (k+(1:Int))) fun x1=>
   Aa (wrap IntKind.i64 ((2:Int)*i)) fun x2=>
   Aw (decide ((0:Int)<=x2)&&decide (x2<(↑n:Int))) <|
   Ae (IntKind.u64) (List.getD c ((0:Nat)+Int.toNat x2*(1:Nat)) PV.top) fun x3=>
   Aa (wrap IntKind.i64 ((2:Int)*i)) fun x4=>
   Aa (wrap IntKind.i64 (x4+(1:Int))) fun x5=>
   Aw (decide ((0:Int)<=x5)&&decide (x5<(↑n:Int))) <|
   Ae (IntKind.u64) (List.getD c ((0:Nat)+Int.toNat x5*(1:Nat)) PV.top) fun x6=>
   Aj (call (76:Nat) [PV.sc (Value.int IntKind.i64 x1),PV.sc (Value.int IntKind.u64 x3),PV.sc (Value.int IntKind.u64 x6)]) fun x7 x8=>
   Ac (x8) <|
   Ab (x7) fun x9 Cy=>
   Ae (IntKind.u64) (x9) fun C4=>
   Ac (Cy) <|
   Aw (decide ((0:Int)<=i)&&decide (i<(↑m:Int))) <|
   Aw (decide ((0:Nat)+Int.toNat i*(1:Nat)+(1:Nat)<=List.length e)) <|
   Aa (B4 e [PV.sc (Value.int IntKind.u64 C4)] ((0:Nat)+Int.toNat i*(1:Nat))) fun D1=>
   Aa (wrap IntKind.i64 (i+(1:Int))) fun Ed=>
   some (0,⟨lk [(0,(.sc (yv))),(1,(.iptr ([PV.sc (Value.int IntKind.i64 h)]) ((0:Nat)))),(2,(.iptr ([PV.sc (Value.int IntKind.u64 seed)]) ((0:Nat)))),(4,(.view 4 1 0 (n))),(6,(.sc (.int .i64 (k)))),(7,(.view 7 1 0 (m))),(40,(.sc (.int .i64 (p)))),(41,(.sc (.int .i64 (Ed))))],B7 [(4,(.ar false (c))),(7,(.ar false (D1)))]⟩))
   (
   some (5,⟨lk [(0,(.sc (yv))),(1,(.iptr ([PV.sc (Value.int IntKind.i64 h)]) ((0:Nat)))),(2,(.iptr ([PV.sc (Value.int IntKind.u64 seed)]) ((0:Nat)))),(4,(.view 4 1 0 (n))),(6,(.sc (.int .i64 (k)))),(7,(.view 7 1 0 (m))),(40,(.sc (.int .i64 (p)))),(41,(.sc (.int .i64 (i))))],B7 [(4,(.ar false (c))),(7,(.ar false (e)))]⟩))):=by kernel_rfl
theorem A4v (call:Ah)(yv:Value)(h seed k p i:Int)(n m:Nat)(c e:List PV):PT 63 call (sR (sR (sB (sL (sR (sB (sB (sR (sR (sR IF)))))))))) 87 ⟨lk [(0,.sc yv),(1,.iptr [.sc (.int .i64 h)] 0),(2,.iptr [.sc (.int .u64 seed)] 0),(4,.view 4 1 0 n),(6,.sc (.int .i64 k)),(7,.view 7 1 0 m),(40,.sc (.int .i64 p)),(41,.sc (.int .i64 i))],B7 [(4,.ar false c),(7,.ar false e)]⟩=(
 some (0,⟨lk [(0,(.sc (yv))),(1,(.iptr ([PV.sc (Value.int IntKind.i64 h)]) ((0:Nat)))),(2,(.iptr ([PV.sc (Value.int IntKind.u64 seed)]) ((0:Nat)))),(4,(.view 4 1 0 (m))),(6,(.sc (.int .i64 (k))))],B7 [(4,(.ar false (e)))]⟩)):=by kernel_rfl
theorem A37 (call:Ah)(yv:Value)(h seed k:Int)(n:Nat)(c:List PV):PT 63 call (sR (sR (sB (sB (sR (sR (sR IF))))))) 87 ⟨lk [(0,.sc yv),(1,.iptr [.sc (.int .i64 h)] 0),(2,.iptr [.sc (.int .u64 seed)] 0),(4,.view 4 1 0 n),(6,.sc (.int .i64 k))],B7 [(4,.ar false c)]⟩=(
 Aa (wrap IntKind.i64 (k+(1:Int))) fun x1=>
 some (0,⟨lk [(0,(.sc (yv))),(1,(.iptr ([PV.sc (Value.int IntKind.i64 h)]) ((0:Nat)))),(2,(.iptr ([PV.sc (Value.int IntKind.u64 seed)]) ((0:Nat)))),(4,(.view 4 1 0 (n))),(6,(.sc (.int .i64 (x1))))],B7 [(4,(.ar false (c)))]⟩)):=by kernel_rfl
theorem A48 (call:Ah)(yv:Value)(h seed k:Int)(n:Nat)(c:List PV):L7 CB prog 63 call (Hq (sL (sL (sB (sB (sR (sR (sR IF)))))))) (List.take 3 (Hq (sL (sL (sB (sB (sR (sR (sR IF)))))))).toList) ⟨lk [(0,.sc yv),(1,.iptr [.sc (.int .i64 h)] 0),(2,.iptr [.sc (.int .u64 seed)] 0),(4,.view 4 1 0 n),(6,.sc (.int .i64 k))],B7 [(4,.ar false c)]⟩ (fun s=>Jz 63 117440599 s fun s'=>some (0,s'))=(
 some (0,⟨lk [(0,(.sc (yv))),(1,(.iptr ([PV.sc (Value.int IntKind.i64 h)]) ((0:Nat)))),(2,(.iptr ([PV.sc (Value.int IntKind.u64 seed)]) ((0:Nat)))),(4,(.view 4 1 0 (n))),(6,(.sc (.int .i64 (k)))),(24,(.sc (yv))),(25,(.sc (.int .i64 (k)))),(26,(.view 4 1 0 (n)))],B7 [(4,(.ar false (c)))]⟩)):=by kernel_rfl
theorem Ayf (call:Ah)(yv:Value)(h seed k:Int)(n:Nat)(c:List PV):L7 CB prog 63 call (Hq (sL (sL (sB (sB (sR (sR (sR IF)))))))) (List.drop 4 (Hq (sL (sL (sB (sB (sR (sR (sR IF)))))))).toList) ⟨lk [(0,.sc yv),(1,.iptr [.sc (.int .i64 h)] 0),(2,.iptr [.sc (.int .u64 seed)] 0),(4,.view 4 1 0 n),(6,.sc (.int .i64 k)),(27,.sc (.bool true))],B7 [(4,.ar false c)]⟩ (fun s=>Jz 63 4294967383 s fun s'=>some (0,s'))=(
 some (0,⟨lk [(0,(.sc (yv))),(1,(.iptr ([PV.sc (Value.int IntKind.i64 h)]) ((0:Nat)))),(2,(.iptr ([PV.sc (Value.int IntKind.u64 seed)]) ((0:Nat)))),(4,(.view 4 1 0 (n))),(6,(.sc (.int .i64 (k)))),(32,(.sc (.bool (decide (k<h)))))],B7 [(4,(.ar false (c)))]⟩)):=by kernel_rfl
theorem Azg (call:Ah)(yv:Value)(h seed k:Int)(n:Nat)(c:List PV):L7 CB prog 63 call (Hq (sL (sL (sB (sB (sR (sR (sR IF)))))))) (List.drop 4 (Hq (sL (sL (sB (sB (sR (sR (sR IF)))))))).toList) ⟨lk [(0,.sc yv),(1,.iptr [.sc (.int .i64 h)] 0),(2,.iptr [.sc (.int .u64 seed)] 0),(4,.view 4 1 0 n),(6,.sc (.int .i64 k)),(27,.sc (.bool false))],B7 [(4,.ar false c)]⟩ (fun s=>Jz 63 4294967383 s fun s'=>some (0,s'))=(
 some (0,⟨lk [(0,(.sc (yv))),(1,(.iptr ([PV.sc (Value.int IntKind.i64 h)]) ((0:Nat)))),(2,(.iptr ([PV.sc (Value.int IntKind.u64 seed)]) ((0:Nat)))),(4,(.view 4 1 0 (n))),(6,(.sc (.int .i64 (k)))),(32,(.sc (.bool (false))))],B7 [(4,(.ar false (c)))]⟩)):=by kernel_rfl
theorem Ass (call:Ah)(yv:Value)(h seed k:Int)(n:Nat)(c:List PV)(q:Bool):PT 63 call (sR (sL (sB (sB (sR (sR (sR IF))))))) 87 ⟨lk [(0,.sc yv),(1,.iptr [.sc (.int .i64 h)] 0),(2,.iptr [.sc (.int .u64 seed)] 0),(4,.view 4 1 0 n),(6,.sc (.int .i64 k)),(32,.sc (.bool q))],B7 [(4,.ar false c)]⟩=(
  Bm (q)
   (
   some (0,⟨lk [(0,(.sc (yv))),(1,(.iptr ([PV.sc (Value.int IntKind.i64 h)]) ((0:Nat)))),(2,(.iptr ([PV.sc (Value.int IntKind.u64 seed)]) ((0:Nat)))),(4,(.view 4 1 0 (n))),(6,(.sc (.int .i64 (k))))],B7 [(4,(.ar false (c)))]⟩))
   (
   some (3,⟨lk [(0,(.sc (yv))),(1,(.iptr ([PV.sc (Value.int IntKind.i64 h)]) ((0:Nat)))),(2,(.iptr ([PV.sc (Value.int IntKind.u64 seed)]) ((0:Nat)))),(4,(.view 4 1 0 (n))),(6,(.sc (.int .i64 (k))))],B7 [(4,(.ar false (c)))]⟩))):=by kernel_rfl
theorem A42 (call:Ah)(seed h leaf m:Int):PT 48 call (sL VF) 873 ⟨lk [(0,.sc (.int .u64 seed)),(1,.sc (.int .i64 h)),(2,.sc (.int .i64 leaf)),(3,.sc (.int .u64 m))],B7 []⟩=(
 some (0,⟨lk [(0,(.sc (.int .u64 (seed)))),(3,(.sc (.int .u64 (m)))),(5,(.ptr 5 0)),(6,(.ptr 6 0)),(8,(.ptr 8 0)),(9,(.sc (.int .i64 ((0:Int)))))],B7 [(5,(.st [(.sc (.int .i64 (h)))])),(6,(.st [(.sc (.int .i64 (leaf)))])),(8,(.st [(.sc (.int .i64 ((0:Int)))),(.view 104 1 0 ((0:Nat))),(.view 152 1 0 ((0:Nat)))])),(104,(.ar false ([]))),(152,(.ar false ([])))]⟩)):=by kernel_rfl
theorem A2k (call:Ah)(seed h leaf m:Int):PT 48 call (sL (sR VF)) 873 ⟨lk [(0,.sc (.int .u64 seed)),(3,.sc (.int .u64 m)),(5,.ptr 5 0),(6,.ptr 6 0),(8,.ptr 8 0),(9,.sc (.int .i64 0))],B7 [(5,.st [.sc (.int .i64 h)]),(6,.st [.sc (.int .i64 leaf)]),(8,.st [.sc (.int .i64 0),.view 104 1 0 0,.view 152 1 0 0]),(104,.ar false []),(152,.ar false [])]⟩=(
  Aj (call (67:Nat) [PV.sc (Value.int IntKind.i64 h)]) fun x1 x2=>
  Ac (x2) <|
  Ab (x1) fun x3 x4=>
  B3 (x3) fun x5=>
  Ac (x4) <|
  Bm (x5)
   (
   none)
   (
   Aj (call (68:Nat) [PV.sc (Value.int IntKind.i64 leaf),PV.sc (Value.int IntKind.i64 h)]) fun x6 x7=>
   Ac (x7) <|
   Ab (x6) fun x8 x9=>
   B3 (x8) fun Cy=>
   Ac (x9) <|
   Bm (Cy)
    (
    none)
    (
    some (0,⟨lk [(0,(.sc (.int .u64 (seed)))),(3,(.sc (.int .u64 (m)))),(5,(.ptr 5 0)),(6,(.ptr 6 0)),(8,(.ptr 8 0)),(9,(.sc (.int .i64 ((0:Int)))))],B7 [(5,(.st [(.sc (.int .i64 (h)))])),(6,(.st [(.sc (.int .i64 (leaf)))])),(8,(.st [(.sc (.int .i64 ((0:Int)))),(.view 104 1 0 ((0:Nat))),(.view 152 1 0 ((0:Nat)))])),(104,(.ar false ([]))),(152,(.ar false ([])))]⟩)))):=by kernel_rfl
theorem A4z (call:Ah)(seed h leaf m:Int):PT 48 call (sL (sR (sR VF))) 1897 ⟨lk [(0,.sc (.int .u64 seed)),(3,.sc (.int .u64 m)),(5,.ptr 5 0),(6,.ptr 6 0),(8,.ptr 8 0),(9,.sc (.int .i64 0))],B7 [(5,.st [.sc (.int .i64 h)]),(6,.st [.sc (.int .i64 leaf)]),(8,.st [.sc (.int .i64 0),.view 104 1 0 0,.view 152 1 0 0]),(104,.ar false []),(152,.ar false [])]⟩=(
 Aj (call (69:Nat) [PV.sc (Value.int IntKind.u64 seed),PV.sc (Value.int IntKind.i64 leaf),PV.sc (Value.int IntKind.u64 m)]) fun x1 x2=>
 Ac (x2) <|
 Ab (x1) fun x3 x4=>
 F5 ((1:Nat)) (x3) fun x5 x6=>
 Ac (x4) <|
 some (0,⟨lk [(0,(.sc (.int .u64 (seed)))),(3,(.sc (.int .u64 (m)))),(5,(.ptr 5 0)),(6,(.ptr 6 0)),(8,(.ptr 8 0)),(9,(.sc (.int .i64 ((0:Int))))),(10,(.ptr 10 0))],B7 [(5,(.st [(.sc (.int .i64 (h)))])),(6,(.st [(.sc (.int .i64 (leaf)))])),(8,(.st [(.sc (.int .i64 ((0:Int)))),(.view 104 1 0 ((0:Nat))),(.view 152 1 0 ((0:Nat)))])),(104,(.ar false ([]))),(152,(.ar false ([]))),(10,(.st [(.sc (.int .i64 (leaf))),(.view 106 1 0 (x5)),(.view 154 1 0 ((0:Nat)))])),(106,(.ar false (x6))),(154,(.ar false ([])))]⟩)):=by kernel_rfl
theorem Aq9 (call:Ah)(h leaf k:Int)(ch:Value)(n m:Nat)(c d:List PV):PT 48 call (sF (sB (sR (sL (sR (sR (sR VF))))))) 1024 ⟨lk [(5,.iptr [.sc (.int .i64 h)] 0),(6,.iptr [.sc (.int .i64 leaf)] 0),(10,.ptr 96000 0),(11,.sc (.int .i64 k)),(12,.lst false 1 n c)],B7 [(96000,.st [.sc (.int .i64 leaf),.sc ch,.view 20 1 0 m]),(20,.ar false d)]⟩=(
  Bm (k==h)
   (
   some (1,⟨lk [(10,(.ptr 96000 0))],B7 [(96000,(.st [(.sc (.int .i64 (leaf))),(.sc (ch)),(.view 96144 1 0 (m))])),(96144,(.ar false (d)))]⟩))
   (
   Aw (decide ((0:Int)<=k)) <|
   Aa (Ft IntKind.i64 leaf k) fun x1=>
   Aa (Fg IntKind.i64 x1 (1:Int)) fun x2=>
   Aw (decide ((0:Int)<=x2)&&decide (x2<(↑n:Int))) <|
   Ae (IntKind.u64) (List.getD c (Int.toNat x2*(1:Nat)) PV.top) fun x3=>
   Aw (decide (m*(1:Nat)<=List.length d)&&true&&decide ((m+(1:Nat))*(8:Nat)<=(1099511627776:Nat))&&decide (m+(1:Nat)<=(1099511627776:Nat))) <|
   Aa (m+(1:Nat)) fun x4=>
   Aa (List.take (m*(1:Nat)) d++[PV.sc (Value.int IntKind.u64 x3)]) fun x5=>
   some (0,⟨lk [(10,(.ptr 96000 0))],B7 [(96000,(.st [(.sc (.int .i64 (leaf))),(.sc (ch)),(.view 96144 1 0 (x4))])),(96144,(.ar false (x5)))]⟩))):=by kernel_rfl
theorem A30 (call:Ah)(seed h leaf m:Int)(n:Nat)(c:List PV):L7 CB prog 48 call (Hq (sL (sL (sR (sR (sR VF)))))) (List.take 2 (Hq (sL (sL (sR (sR (sR VF)))))).toList) ⟨lk [(0,.sc (.int .u64 seed)),(3,.sc (.int .u64 m)),(5,.ptr 5 0),(6,.ptr 6 0),(8,.ptr 8 0),(9,.sc (.int .i64 0)),(10,.ptr 10 0)],B7 [(5,.st [.sc (.int .i64 h)]),(6,.st [.sc (.int .i64 leaf)]),(8,.st [.sc (.int .i64 0),.view 104 1 0 0,.view 152 1 0 0]),(104,.ar false []),(152,.ar false []),(10,.st [.sc (.int .i64 leaf),.view 106 1 0 n,.view 154 1 0 0]),(106,.ar false c),(154,.ar false [])]⟩ (fun s=>Jz 48 402655081 s fun s'=>some (0,s'))=(
 some (0,⟨lk [(0,(.sc (.int .u64 (seed)))),(3,(.sc (.int .u64 (m)))),(5,(.ptr 5 0)),(6,(.ptr 6 0)),(8,(.ptr 8 0)),(9,(.sc (.int .i64 ((0:Int))))),(10,(.ptr 10 0)),(27,(.sc (.int .u64 (seed)))),(28,(.sc (.int .i64 (h))))],B7 [(5,(.st [(.sc (.int .i64 (h)))])),(6,(.st [(.sc (.int .i64 (leaf)))])),(8,(.st [(.sc (.int .i64 ((0:Int)))),(.view 104 1 0 ((0:Nat))),(.view 152 1 0 ((0:Nat)))])),(104,(.ar false ([]))),(152,(.ar false ([]))),(10,(.st [(.sc (.int .i64 (leaf))),(.view 106 1 0 (n)),(.view 154 1 0 ((0:Nat)))])),(106,(.ar false (c))),(154,(.ar false ([])))]⟩)):=by kernel_rfl
theorem A2b (call:Ah)(leaf:Int)(n1 n2:Nat)(c1 c2:List PV):L7 CB prog 48 call (Hq (sL (sR (sR (sR (sR VF)))))) (Hq (sL (sR (sR (sR (sR VF)))))).toList ⟨lk [(8,.ptr 96000 0),(9,.sc (.int .i64 0)),(10,.iptr [.sc (.int .i64 leaf),.lst false 1 n1 c1,.lst false 1 n2 c2] 0)],B7 [(96000,.st [.top,.top,.top])]⟩ (fun s=>Jz 48 768 s fun s'=>some (0,s'))=(
 some (0,⟨lk [(8,(.ptr 96000 0)),(9,(.sc (.int .i64 ((0:Int)))))],B7 [(96000,(.st [(.sc (.int .i64 (leaf))),(.lst false 1 (n1) (c1)),(.lst false 1 (n2) (c2))]))]⟩)):=by kernel_rfl
theorem A43 (a0 a1 a2 a3 leaf:Int)(n1 n2:Nat)(c1 c2:List PV):Aeq CS prog 36 Tryz.f36 [.sc (.int .u64 a0),.sc (.int .i64 a1),.sc (.int .i64 a2),.sc (.int .u64 a3)] ⟨lk [(8,.ptr 96000 0),(9,.sc (.int .i64 0))],B7 [(96000,.st [.sc (.int .i64 leaf),.lst false 1 n1 c1,.lst false 1 n2 c2])]⟩=(
 some (A4.mk [PV.agg [PV.sc (Value.int IntKind.i64 leaf),PV.lst false (1:Nat) n1 c1,PV.lst false (1:Nat) n2 c2],PV.sc (Value.int IntKind.i64 (0:Int))] [])):=by kernel_rfl
theorem A3x (call:Ah)(seed h leaf m:Int):Aw0 CS prog 2000 call 36 Tryz.f36 VF [.sc (.int .u64 seed),.sc (.int .i64 h),.sc (.int .i64 leaf),.sc (.int .u64 m)]=(
  Aj (call (67:Nat) [PV.sc (Value.int IntKind.i64 h)]) fun x1 x2=>
  Ac (x2) <|
  Ab (x1) fun x3 x4=>
  B3 (x3) fun x5=>
  Ac (x4) <|
  Bm (x5)
   (
   some (A4.mk [PV.agg [PV.sc (Value.int IntKind.i64 (0:Int)),PV.lst false (1:Nat) (0:Nat) [],PV.lst false (1:Nat) (0:Nat) []],PV.sc (Value.int IntKind.i64 (9:Int))] []))
   (
   Aj (call (68:Nat) [PV.sc (Value.int IntKind.i64 leaf),PV.sc (Value.int IntKind.i64 h)]) fun x6 x7=>
   Ac (x7) <|
   Ab (x6) fun x8 x9=>
   B3 (x8) fun Cy=>
   Ac (x9) <|
   Bm (Cy)
    (
    some (A4.mk [PV.agg [PV.sc (Value.int IntKind.i64 (0:Int)),PV.lst false (1:Nat) (0:Nat) [],PV.lst false (1:Nat) (0:Nat) []],PV.sc (Value.int IntKind.i64 (9:Int))] []))
    (
    Aj (call (69:Nat) [PV.sc (Value.int IntKind.u64 seed),PV.sc (Value.int IntKind.i64 leaf),PV.sc (Value.int IntKind.u64 m)]) fun C4 D1=>
    Ac (D1) <|
    Ab (C4) fun Ed Dn=>
    Fa ((1:Nat)) (Ed) fun Eg Ez Fq=>
    Ac (Dn) <|
    Aj (call (70:Nat) [PV.sc (Value.int IntKind.u64 seed),PV.sc (Value.int IntKind.i64 h)]) fun F9 Fp=>
    Ac (Fp) <|
    Ab (F9) fun F2 Iw=>
    fnK (F2) fun Hl=>
    Ac (Iw) <|
    none))):=by kernel_rfl
end
section
open Go.Proofs.Tryz (prog)
open Go.IntKind (wrap)
set_option maxRecDepth 20000
open Go Go.RowKit
def G1:Xl:=⟨fun _=>False,fun _=>True,fun _ _ _ _=>trivial⟩
def noX:FuncId->Option (List PV->Option A4):=fun _=>none
theorem A4l:Als G1 prog (CX noX):=by
 intro f g args res h _;have h':(bif KT.any (Nat.beq f) then none else (none:Option (List PV->Option A4)))=some g:=h;cases hb:KT.any (Nat.beq f)<;>rw[hb] at h'<;>cases h'
noncomputable abbrev cl:Ah:=Ad (CX noX) prog 2000 8
theorem ngT:NoNG prog:=by
 have h:(prog.funcs.toList.all fun fn=> !(fn.name == "runtime.NumGoroutine"))=true:=by kernel_rfl
 intro f fn hf;have:=List.all_eq_true.1 h fn (Array.mem_toList_iff.2 (Array.mem_of_getElem? hf))
 simpa using this
theorem HC:prog.follows .mixedOrders=true:=by kernel_rfl
theorem Cg:∀f args res,cl f args=some res->Dl G1 prog f args res:=fun f args res h=>DD ngT HC A4l 8 f args res h
theorem J3 (w0:World)(X0:Gg):QA prog G1 w0 X0:=⟨ngT,fun _ _=>trivial,fun _ h=>h.elim⟩
def gl (f:Nat->Int)(n i:Nat):List Int:=(List.range i).map f++List.replicate (n-i) 0
theorem Ar1 (f:Nat->Int){n i:Nat}(h:i<=n):(gl f n i).length=n:=by simp[gl];omega
theorem Atr (f:Nat->Int){n i:Nat}(h:i<n):(gl f n i).set i (f i)=gl f n (i+1):=by
 unfold gl;rw[List.set_append_right _ _ (by simp),List.length_map,List.length_range,Nat.sub_self,show n-i=(n-(i+1))+1 by omega,List.replicate_succ,List.set_cons_zero,List.range_succ,List.map_append,QV]
 rfl
theorem Aly (f:Nat->Int)(n:Nat):gl f n n=(List.range n).map f:=by simp[gl]
theorem Al5 (f:Nat->Int)(n:Nat):gl f n 0=List.replicate n 0:=by simp[gl]
abbrev Aow (yv:Value)(h seed:Int)(n:Nat)(m i:Int)(c:List PV):St:=
 ⟨lk [(0,.sc yv),(1,.iptr [.sc (.int .i64 h)] 0),(2,.iptr [.sc (.int .u64 seed)] 0),(4,.view 4 1 0 n),(13,.sc (.int .i64 m)),(14,.sc (.int .i64 i))],B7 [(4,.ar false c)]⟩
abbrev Apr (yv:Value)(h seed k:Int)(n m:Nat)(p i:Int)(c e:List PV):St:=
 ⟨lk [(0,.sc yv),(1,.iptr [.sc (.int .i64 h)] 0),(2,.iptr [.sc (.int .u64 seed)] 0),(4,.view 4 1 0 n),(6,.sc (.int .i64 k)),(7,.view 7 1 0 m),(40,.sc (.int .i64 p)),(41,.sc (.int .i64 i))],B7 [(4,.ar false c),(7,.ar false e)]⟩
theorem A6d (yv:Value)(h seed:Int){n i:Nat}(hn:n<=1000)(hi:i<n):
  PT 63 cl (sB (sB (sR (sL (sR IF))))) 24599 (Aow yv h seed n n i (Af .u64 (gl (fun (j:Nat)=>Ld seed (j:Int)) n i)))=some (0,Aow yv h seed n n ((i+1:Nat):Int) (Af .u64 (gl (fun (j:Nat)=>Ld seed (j:Int)) n (i+1)))):=by
 have pb:cl Pr [.sc (.int .u64 seed),.sc (.int .i64 i)]=_:=Aoz (xs:=noX) (fu:=2000) (d:=1) (by omega) seed i
 have w:wrap .i64 ((i:Int)+1)=((i+1:Nat):Int):=by rw[Ap (by omega) (by omega)];omega
 have L:(Af .u64 (gl (fun (j:Nat)=>Ld seed (j:Int)) n i)).length=n:=by rw[Aq,Ar1 _ (by omega)]
 have EE:B4 (Af .u64 (gl (fun (j:Nat)=>Ld seed (j:Int)) n i)) [.sc (.int .u64 (Ld seed i))] i=Af .u64 (gl (fun (j:Nat)=>Ld seed (j:Int)) n (i+1)):=by
  rw[Hv (by omega),Oe]
  exact congrArg _ (Atr (fun (j:Nat)=>Ld seed (j:Int)) hi)
 refine (Ar4 cl yv h seed n i n (Af .u64 (gl (fun (j:Nat)=>Ld seed (j:Int)) n i))).trans ?_
 simp (disch:=omega) only[Cd,Je,Dr,Cv,pb,L,EE,w]
theorem A7k (yv:Value)(h seed:Int)(n:Nat)(c:List PV):
  PT 63 cl (sB (sB (sR (sL (sR IF))))) 24599 (Aow yv h seed n n n c)=some (1,Aow yv h seed n n n c):=
 (Ar4 cl yv h seed n n n c).trans (Eh _ _ _ (by omega))
theorem Ae4 {yv:Value}{h seed:Int}{n:Nat}(hn:n<=1000):∀(r i nn:Nat),i+r=n->r<nn->∀{w0:World}{X0:Gg}{Y:Nat->Prop}{β:Bt}{a:Act}{w:World}{Q:Exit->Act->World->Prop},
  Ch 63 w0 X0 Y β (Aow yv h seed n n i (Af .u64 (gl (fun (j:Nat)=>Ld seed (j:Int)) n i))) a w ->
  (∀a' w' β',Ch 63 w0 X0 Y β' (Aow yv h seed n n n (Af .u64 (gl (fun (j:Nat)=>Ld seed (j:Int)) n n))) a' w'->Q (.exit 0) a' w')->Code.rounds prog (sB (sB (sR (sL (sR IF))))) Q nn a w
 |_,_,0,_,h=>by omega
 |0,i,nn+1,hi,_=>by
  intro hs hQ;obtain rfl:i=n:=by omega
  rw[rounds_succ];exact Dx (J3 _ _) HC Cg hs (A7k yv h seed i _) fun a' w' β' h'=>hQ a' w' β' h'
 |r+1,i,nn+1,hi,hr=>by
  intro hs hQ;rw[rounds_succ];exact Dx (J3 _ _) HC Cg hs (A6d yv h seed hn (by omega)) fun a' w' β' h'=>Ae4 hn r (i+1) nn (by omega) (by omega) h' hQ
def Gj (seed:Int)(n k:Nat):List Int:=(List.range n).map fun (j:Nat)=>Ct seed k (j:Int)
theorem SG (seed:Int)(n k:Nat):(Gj seed n k).length=n:=by simp[Gj]
theorem Xx (seed:Int){n k j:Nat}(h:j<n):(Gj seed n k)[j]?=some (Ct seed k j):=by simp[Gj,h]
theorem A8z (yv:Value)(h seed:Int){k m i:Nat}(hm:m<=1000)(hk:k<=1000)(hi:i<m):
  PT 63 cl (sB (sB (sR (sL (sR (sB (sL (sR (sB (sB (sR (sR (sR IF))))))))))))) 3298534883543 (Apr yv h seed k (2*m) m m i (Af .u64 (Gj seed (2*m) k)) (Af .u64 (gl (fun (j:Nat)=>Ct seed (k+1) (j:Int)) m i))) =
   some (0,Apr yv h seed k (2*m) m m ((i+1:Nat):Int) (Af .u64 (Gj seed (2*m) k)) (Af .u64 (gl (fun (j:Nat)=>Ct seed (k+1) (j:Int)) m (i+1)))):=by
 have e1:wrap .i64 ((2:Int)*i)=((2*i:Nat):Int):=by rw[Ap (by omega) (by omega)];omega
 have e2:wrap .i64 (((2*i:Nat):Int)+1)=((2*i+1:Nat):Int):=by rw[Ap (by omega) (by omega)];omega
 have e3:wrap .i64 ((k:Int)+1)=((k+1:Nat):Int):=by rw[Ap (by omega) (by omega)];omega
 have w:wrap .i64 ((i:Int)+1)=((i+1:Nat):Int):=by rw[Ap (by omega) (by omega)];omega
 have a1:(Af .u64 (Gj seed (2*m) k)).getD (2*i) .top=.sc (.int .u64 (Ct seed k ((2*i:Nat):Int))):=HL (Xx seed (by omega))
 have a2:(Af .u64 (Gj seed (2*m) k)).getD (2*i+1) .top=.sc (.int .u64 (Ct seed k ((2*i+1:Nat):Int))):=HL (Xx seed (by omega))
 have pn:cl Pj [.sc (.int .i64 ((k+1:Nat):Int)),.sc (.int .u64 (Ct seed k ((2*i:Nat):Int))),.sc (.int .u64 (Ct seed k ((2*i+1:Nat):Int)))]=some ⟨[.sc (.int .u64 (Ct seed (k+1) (i:Int)))],[]⟩:=by
  have:=NK (xs:=noX) (fu:=2000) (d:=2) (by omega) ((k+1:Nat):Int) (Ct seed k ((2*i:Nat):Int)) (Ct seed k ((2*i+1:Nat):Int))
  rw[show Ct seed (k+1) (i:Int)=P9 ((k+1:Nat):Int) (Ct seed k ((2*i:Nat):Int)) (Ct seed k ((2*i+1:Nat):Int)) by
   rw[Ct];congr 2<;>omega]
  exact this
 have L:(Af .u64 (gl (fun (j:Nat)=>Ct seed (k+1) (j:Int)) m i)).length=m:=by rw[Aq,Ar1 _ (by omega)]
 have EE:B4 (Af .u64 (gl (fun (j:Nat)=>Ct seed (k+1) (j:Int)) m i)) [.sc (.int .u64 (Ct seed (k+1) (i:Int)))] i=Af .u64 (gl (fun (j:Nat)=>Ct seed (k+1) (j:Int)) m (i+1)):=by
  rw[Hv (by omega),Oe]
  exact congrArg _ (Atr (fun (j:Nat)=>Ct seed (k+1) (j:Int)) hi)
 refine (Aua cl yv h seed k m i (2*m) m _ _).trans ?_;simp (disch:=omega) only[Cd,Je,Dr,Cv,e1,e2,e3,a1,a2,pn,L,EE,w]
theorem A6p (yv:Value)(h seed k:Int)(n m:Nat)(c e:List PV):
  PT 63 cl (sB (sB (sR (sL (sR (sB (sL (sR (sB (sB (sR (sR (sR IF))))))))))))) 3298534883543 (Apr yv h seed k n m m m c e)=some (5,Apr yv h seed k n m m m c e):=
 (Aua cl yv h seed k m m n m c e).trans (Eh _ _ _ (by omega))
theorem Ags {yv:Value}{h seed:Int}{k m:Nat}(hm:m<=1000)(hk:k<=1000):∀(r i nn:Nat),i+r=m->r<nn->∀{w0:World}{X0:Gg}{Y:Nat->Prop}{β:Bt}{a:Act}{w:World}{Q:Exit->Act->World->Prop},
  Ch 63 w0 X0 Y β (Apr yv h seed k (2*m) m m i (Af .u64 (Gj seed (2*m) k)) (Af .u64 (gl (fun (j:Nat)=>Ct seed (k+1) (j:Int)) m i))) a w ->
  (∀a' w' β',Ch 63 w0 X0 Y β' (Apr yv h seed k (2*m) m m m (Af .u64 (Gj seed (2*m) k)) (Af .u64 (gl (fun (j:Nat)=>Ct seed (k+1) (j:Int)) m m))) a' w'->Q (.exit 4) a' w') ->
  Code.rounds prog (sB (sB (sR (sL (sR (sB (sL (sR (sB (sB (sR (sR (sR IF))))))))))))) Q nn a w
 |_,_,0,_,h=>by omega
 |0,i,nn+1,hi,_=>by
  intro hs hQ;obtain rfl:i=m:=by omega
  rw[rounds_succ];exact Dx (J3 _ _) HC Cg hs (A6p yv h seed k (2*i) i _ _) fun a' w' β' h'=>hQ a' w' β' h'
 |r+1,i,nn+1,hi,hr=>by
  intro hs hQ;rw[rounds_succ];exact Dx (J3 _ _) HC Cg hs (A8z yv h seed hm hk (by omega)) fun a' w' β' h'=>Ags hm hk r (i+1) nn (by omega) (by omega) h' hQ
end
section
open Go.Proofs.Tryz (prog)
open Go.IntKind (wrap)
set_option maxRecDepth 20000
open Go Go.RowKit
noncomputable abbrev YQ:Code:=sB (sB (sR (sR (sR IF))))
noncomputable abbrev lvX:Code:=sB (sL (sR YQ))
theorem A10:YQ=.seq (.seq (.region 7 (Hq (sL (sL YQ))) false) (sR (sL YQ))) (.seq (.block 3 lvX) (sR (sR YQ))):=by kernel_rfl
theorem A5h:lvX=.seq (sL lvX) (.seq (.seq (sL (sL (sR lvX))) (.block 4 (.loop (sB (sB (sR (sL (sR lvX)))))))) (sR (sR lvX))):=by kernel_rfl
theorem A2c:IF=.seq (sL IF) (.seq (.seq (sL (sL (sR IF))) (.block 0 (.loop (sB (sB (sR (sL (sR IF)))))))) (.seq (sL (sR (sR IF))) (.block 2 (.loop YQ)))):=by kernel_rfl
theorem Qb {F:Fence}{n:Nat}{P:Program}{c c':Code}{Q:Exit->Act->World->Prop}{a:Act}{w:World}(e:c=c')(h:c'.wpIn F n P Q a w):c.wpIn F n P Q a w:=e ▸ h
abbrev lvS (yv:Value)(h seed:Int)(n:Nat)(k:Int)(c:List PV):St:=
 ⟨lk [(0,.sc yv),(1,.iptr [.sc (.int .i64 h)] 0),(2,.iptr [.sc (.int .u64 seed)] 0),(4,.view 4 1 0 n),(6,.sc (.int .i64 k))],B7 [(4,.ar false c)]⟩
abbrev Ab3 (yv:Value)(h seed:Int)(n:Nat)(k:Int)(c:List PV):St:=
 ⟨lk [(0,.sc yv),(1,.iptr [.sc (.int .i64 h)] 0),(2,.iptr [.sc (.int .u64 seed)] 0),(4,.view 4 1 0 n),(6,.sc (.int .i64 k)),(24,.sc yv),(25,.sc (.int .i64 k)),(26,.view 4 1 0 n)],B7 [(4,.ar false c)]⟩
abbrev A7l (yv:Value)(h seed:Int)(n:Nat)(k:Int)(c:List PV)(b:Bool):St:=
 ⟨lk [(0,.sc yv),(1,.iptr [.sc (.int .i64 h)] 0),(2,.iptr [.sc (.int .u64 seed)] 0),(4,.view 4 1 0 n),(6,.sc (.int .i64 k)),(27,.sc (.bool b))],B7 [(4,.ar false c)]⟩
def lvM (seed:Int)(h:Nat)(pre:List Nat)(k:Nat)(args:Array Value)(Z:Nat->Prop)(A:World):Prop:=
 k<=h∧pre=List.range k∧∃b o cap,args = #[.int .i64 k,.slice (some ⟨b,o,none⟩) (2 ^ (h-k):Nat) cap]∧2 ^ (h-k)<=cap∧b<A.heap.size∧¬Z b∧∀j,j<2 ^ (h-k)->A.cell? ⟨b,o+j,none⟩=some (.int .u64 (Ct seed k j))
theorem Au1 {seed:Int}{h:Nat}{pre:List Nat}{k:Nat}{args:Array Value}{Z:Nat->Prop}{A B:World}(hm:lvM seed h pre k args Z A)(hs:A.heap.size<=B.heap.size)(hk:∀b,b<A.heap.size->¬Z b->B.heap[b]?=A.heap[b]?):lvM seed h pre k args Z B:=by
 obtain⟨h0,hpr,b,o,cap,h1,h2,h3,h4,h5⟩:=hm;exact⟨h0,hpr,b,o,cap,h1,h2,by omega,h4,fun j hj=>(World.cell?_of_block (a:=⟨b,o+j,none⟩) (hk b h3 h4)).trans (h5 j hj)⟩
theorem Av2 {seed:Int}{h:Nat}{pre:List Nat}{k:Nat}{args:Array Value}{Z:Nat->Prop}{A:World}(hm:lvM seed h pre k args Z A):args.size=2:=by
 obtain⟨h0,_,b,o,cap,h1,_⟩:=hm;rw[h1];rfl
theorem A8s:∃ty pos aft x,(Hq (sL (sL YQ)))[3]?=some { dst:=some 27,op:=.call { callee:=.value (.tmp 24),args:= #[.tmp 25,.tmp 26],argTypes:=x },type:=ty,pos:=pos,after:=aft,guard:=none }:=
 ⟨_,_,_,_,rfl⟩
theorem Py {k:IntKind}{l:List Int}{i:Nat}{n:Int}(h:l[i]?=some n):(Af k l)[i]?=some (.sc (.int k n)):=by
 have h1:=HL (k:=k) h;have Cq:i<(Af k l).length:=by rw[Aq];exact (List.getElem?_eq_some_iff.1 h).1
 rw[List.getD_eq_getElem?_getD,List.getElem?_eq_getElem Cq] at h1;rw[List.getElem?_eq_getElem Cq];exact congrArg some h1
section
variable {seed:Int} {h l:Nat} {w0:World} {X0:Gg} {Z:Nat->Prop} {β:Bt} {a:Act} {w:World}
theorem Ayb {yv:Value}{k n:Nat}{c:List PV}{hi:Int}(hs:Ch 63 w0 X0 Z β (Ab3 yv hi seed n k c) a w) (hn:0<n):
  a.tmps.getD 24 undef=yv∧a.tmps.getD 25 undef=.int .i64 k∧∃b o cap,β 4=some (b,o)∧a.tmps.getD 26 undef=.slice (some ⟨b,o,none⟩) n cap∧n<=cap∧b<w.heap.size∧XP w (Du (B7 [(4,.ar false c)]) β Z) ⟨b,o,none⟩ c:=by
 have h24:=hs.tms 24 (by decide)
 have h25:=hs.tms 25 (by decide)
 have h26:=hs.tms 26 (by decide)
 have hb:=hs.box 4 _ (rfl:_=some (Cb.ar false c));refine⟨(Mw h24),(Mw h25),?_⟩;rcases (show Cu w (Du (B7 [(4,.ar false c)]) β Z) β (.view 4 1 0 n) (a.tmps.getD 26 undef) from h26) with⟨_,_,h3,_⟩|⟨b,o,x,cap,h1,h2,h3,h4,h5,h6⟩
 ·omega
 ·rcases hb with⟨h7,_⟩|⟨b',o',h7,h8,_⟩
  ·rw[h1] at h7;cases h7
  ·rw[h1] at h7;cases h7;have hx:x=o:=by omega
   subst hx;exact⟨b,x,cap,h1,h2,h4,h6,h8⟩
abbrev A8r (yv:Value)(h seed:Int)(n:Nat)(k:Int)(c:List PV)(q:Bool):St:=
 ⟨lk [(0,.sc yv),(1,.iptr [.sc (.int .i64 h)] 0),(2,.iptr [.sc (.int .u64 seed)] 0),(4,.view 4 1 0 n),(6,.sc (.int .i64 k)),(32,.sc (.bool q))],B7 [(4,.ar false c)]⟩
theorem Alq {yv:Value}{hi seed:Int}{n:Nat}{k:Int}{c:List PV}:∀id cc,(Ab3 yv hi seed n k c).hp id≠some (.st cc):=by
 intro id cc e;rcases S6 [(4,Cb.ar false c)] id with h1|⟨q,hq,h1,h2⟩
 ·rw[show (Ab3 yv hi seed n k c).hp id=B7 [(4,Cb.ar false c)] id from rfl,h1] at e;cases e
 ·simp at hq;subst hq;rw[show (Ab3 yv hi seed n k c).hp id=B7 [(4,Cb.ar false c)] id from rfl,h2] at e
  cases e
theorem Axt {hi:Int}{yv:Value}{n:Nat}{k:Int}{c:List PV}{Z':Nat->Prop}{B:World}(b:Bool)(hs:Ch 63 w0 X0 Z β (Ab3 yv hi seed n k c) a w) (ht:Ua Z Z' w B):
  Ch 63 B (Aph (Ab3 yv hi seed n k c) β) Z' β (A7l yv hi seed n k c b) (a.put (some 27) (.bool b)) B:=by
 have h1:=(hs.rebase ht Alq).put (d:=some 27) (v:=.sc (.bool b)) (val:=.bool b) rfl (A8.sc _) (by simp[Cm,Cw,A7])
 refine h1.pick _ _ ?_ ?_ ?_ ?_ (fun _ h=>h.elim)
 ·intro q hq;simp only[List.mem_cons,List.not_mem_nil,or_false] at hq;rcases hq with rfl|rfl|rfl|rfl|rfl|rfl<;>rfl
 ·intro q hq;simp only[List.mem_cons,List.not_mem_nil,or_false] at hq;rcases hq with rfl<;>rfl
 ·intro q hq id B6;simp only[List.mem_cons,List.not_mem_nil,or_false] at hq;rcases hq with rfl|rfl|rfl|rfl|rfl|rfl<;>simp[Cm,Cw,A7] at B6
  subst B6;simp[B7]
 ·intro q hq cells e;simp only[List.mem_cons,List.not_mem_nil,or_false] at hq;rcases hq with rfl;cases e
theorem Aw3 (hh:h<=4){J Jx:(Nat->Prop)->List Nat->World->Prop} (hJ:∀Z pre A B,J Z pre A->Om Z A B->J Z pre B)(hJx:∀Z pre A B,Jx Z pre A->Om Z A B->Jx Z pre B)
  (hY:∀Z pre x args A,J Z pre A->lvM seed h pre x args Z A->YieldAt Fence.wide 0 prog l args A fun e B=>∃Z',Ua Z Z' A B∧((e=.returned (.bool true)∧J Z' (pre++[x]) B)∨(e=.returned (.bool false)∧Jx Z' (pre++[x]) B)))
  {k r:Nat} (hk:k+r=h) (hs:Ch 63 w0 X0 Z β (lvS (.func (.yield l) #[] #[]) h seed (2 ^ r) k (Af .u64 (Gj seed (2 ^ r) k))) a w) (hd:∀b,Z b->¬X0.X b) (hj:J Z (List.range k) w0) {Q:Exit->Act->World->Prop}
  (hgo:k<h->∀w2 X2 Z' β' a' w',Ch 63 w2 X2 Z' β' (lvS (.func (.yield l) #[] #[]) h seed (2 ^ r) k (Af .u64 (Gj seed (2 ^ r) k))) a' w'->(∀b,Z' b->¬X2.X b)->J Z' (List.range (k+1)) w2->Q .normal a' w')
  (Ade:∀a' w',a'.defers=[]->(∃Z xs,(xs=List.range (h+1)∧J Z xs w')∨((∃k,xs=List.range (k+1))∧Jx Z xs w'))->Q (.exit 2) a' w'):
  (Code.seq (.region 7 (Hq (sL (sL YQ))) false) (sR (sL YQ))).wpIn Fence.wide 0 prog Q a w:=by
 have hp:0<2 ^ r:=Nat.pos_of_ne_zero (by simp)
 refine wpIn_seq (wpIn_region ?_);have hl:List.range (Hq (sL (sL YQ))).size=[0,1,2]++[3,4,5,6,7,8]:=by kernel_rfl
 rw[hl];refine Hh (ro:=none) (C:=CB) (call:=cl) (r:=((0:Nat),Ab3 (.func (.yield l) #[] #[]) h seed (2 ^ r) k (Af .u64 (Gj seed (2 ^ r) k)))) (J3 _ _) Cg ?_ [0,1,2] (List.take 3 (Hq (sL (sL YQ))).toList) (by kernel_rfl) ?_ (by kernel_rfl) hs (A48 cl _ h seed k (2 ^ r) _)
 rotate_left
 ·intro j i hj
  match j,hj with
  |0,hj=>cases hj;rfl
  |1,hj=>cases hj;rfl
  |2,hj=>cases hj;rfl
 intro s' a1 w1 β1 Em PZ;obtain⟨β2,s2,Ha,VY⟩:=Cl PZ Em;cases Ha;obtain⟨v24,v25,b,o,cap,hb,v26,RM,IE,hrd⟩:=Ayb VY hp;have hjw:J Z (List.range k) w1:=hJ Z _ _ _ hj (VY.stay hd);have hkr:h-k=r:=by omega
 have hm:lvM seed h (List.range k) k #[.int .i64 k,.slice (some ⟨b,o,none⟩) (2 ^ r:Nat) cap] Z w1:=by
  refine⟨by omega,rfl,b,o,cap,by rw[hkr],by rw[hkr];exact RM,IE,fun hz=>VY.Yx b hz ⟨4,o,by trivial,hb⟩,fun j hj=>?_⟩
  rw[hkr] at hj;obtain⟨v,hv,_,hv2⟩:=hrd j (.sc (.int .u64 (Ct seed k j))) (Py (Xx seed hj));rw[Fn] at hv;rw[hv,A8.val hv2]
 obtain⟨fn,tmps,assign,body,hy,hR⟩:=hY Z _ k _ w1 hjw hm;obtain⟨ty,pos,aft,x,ho⟩:=A8s;rw[wpOpsIn_cons];unfold wpOpIn;rw[ho];simp only[Region.wanted,if_true]
 have run:(execOp a1.eval { dst:=some 27,op:=.call { callee:=.value (.tmp 24),args:= #[.tmp 25,.tmp 26],argTypes:=x },type:=ty,pos:=pos,after:=aft,guard:=none }).run prog w1=.ok (.round l fn tmps assign body) w1:=by
  have e24:a1.eval (.tmp 24)=.func (.yield l) #[] #[]:=v24;have e25:a1.eval (.tmp 25)=.int .i64 k:=v25;have e26:a1.eval (.tmp 26)=.slice (some ⟨b,o,none⟩) (2 ^ r:Nat) cap:=v26;refine Aa2 rfl rfl e24 ?_;rw[←hy];simp only[List.map_toArray,VR,List.map_nil,e25,e26]
 refine⟨fun _ _=>trivial,?_⟩
 rw[show Oper.semAt (WF none).round a1.eval { dst:=some 27,op:=.call { callee:=.value (.tmp 24),args:= #[.tmp 25,.tmp 26],argTypes:=x },type:=ty,pos:=pos,after:=aft,guard:=none }=execOp a1.eval { dst:=some 27,op:=.call { callee:=.value (.tmp 24),args:= #[.tmp 25,.tmp 26],argTypes:=x },type:=ty,pos:=pos,after:=aft,guard:=none } from rfl,run]
 refine⟨(fun h=>by cases h),(PH hR).mono ?_⟩
 have rest:∀(e:Bool) (B:World) (Z':Nat->Prop) (q:Bool),Ua Z Z' w1 B->(L7 CB prog 63 cl (Hq (sL (sL YQ))) (List.drop 4 (Hq (sL (sL YQ))).toList) (A7l (.func (.yield l) #[] #[]) h seed (2 ^ r) k (Af .u64 (Gj seed (2 ^ r) k)) e) (fun s=>Jz 63 4294967383 s fun s'=>some (0,s'))=some ((0:Nat),A8r (.func (.yield l) #[] #[]) h seed (2 ^ r) k (Af .u64 (Gj seed (2 ^ r) k)) q)) ->
   (∀a' w' β',Ch 63 B (Aph (Ab3 (.func (.yield l) #[] #[]) h seed (2 ^ r) k (Af .u64 (Gj seed (2 ^ r) k))) β2) Z' β' (lvS (.func (.yield l) #[] #[]) h seed (2 ^ r) k (Af .u64 (Gj seed (2 ^ r) k))) a' w'->if q=true then Q .normal a' w' else Q (.exit 2) a' w') ->
   wpOpsIn (WF none) 0 prog (Hq (sL (sL YQ))) (Exit.then ((sR (sL YQ)).wpIn Fence.wide 0 prog Q) Q) [4,5,6,7,8] (a1.put (some 27) (.bool e)) B:=by
  intro e B Z' q ht heq hq;have h4:=Axt e VY ht;show wpOpsIn _ _ _ _ _ ([4,5,6,7,8]++[]) _ _;refine Hh (ro:=none) (C:=CB) (call:=cl) (J3 _ _) Cg ?_ [4,5,6,7,8] (List.drop 4 (Hq (sL (sL YQ))).toList) (by kernel_rfl) ?_ (by kernel_rfl) h4 heq
  rotate_left
  ·intro j i hj
   match j,hj with
   |0,hj=>cases hj;rfl
   |1,hj=>cases hj;rfl
   |2,hj=>cases hj;rfl
   |3,hj=>cases hj;rfl
   |4,hj=>cases hj;rfl
  intro s' a5 w5 β5 hk5 Yh;obtain⟨β6,s6,hk6,hs6⟩:=Cl Yh hk5;cases hk6;show (sR (sL YQ)).wpIn Fence.wide 0 prog Q a5 w5;cases q
  ·exact wpIn_wide.2 (Dx (J3 _ _) HC Cg hs6 ((Ass cl _ h seed k (2 ^ r) _ false).trans rfl) fun a' w' β' h'=>hq a' w' β' h')
  ·exact wpIn_wide.2 (Dx (J3 _ _) HC Cg hs6 ((Ass cl _ h seed k (2 ^ r) _ true).trans rfl) fun a' w' β' h'=>hq a' w' β' h')
 have Ho:∀{B:World} {Z':Nat->Prop} {β':Bt} {s':St} {a':Act} {w':World},Ua Z Z' w1 B->∀b,Z' b->¬(Aph (Ab3 (.func (.yield l) #[] #[]) h seed (2 ^ r) k (Af .u64 (Gj seed (2 ^ r) k))) β2).X b:=by
  intro B Z' _ _ _ _ ht b hz;exact (VY.rebase ht Alq).Yx b hz
 have er:List.range k++[k]=List.range (k+1):=(List.range_succ).symm
 rintro e B ⟨Z',ht,(⟨rfl,hj2⟩|⟨rfl,hj2⟩)⟩
 ·rw[er] at hj2;refine rest true B Z' (decide ((k:Int)<(h:Int))) ht (Ayf cl _ h seed k (2 ^ r) _) fun a' w' β' h'=>?_
  have hdd:=Ho (β':=β) (s':=s') (a':=a) (w':=w) ht;by_cases Cq:k<h
  ·rw[Co (by simp;omega)]
   exact hgo Cq B _ Z' β' a' w' h' hdd hj2
  ·rw[Bp (by simp;omega)]
   exact Ade a' w' h'.dfr ⟨Z',List.range (k+1),.inl ⟨by rw[show k=h by omega],hJ Z' _ _ _ hj2 (h'.stay hdd)⟩⟩
 ·refine rest false B Z' false ht (Azg cl _ h seed k (2 ^ r) _) fun a' w' β' h'=>?_
  have hdd:=Ho (β':=β) (s':=s') (a':=a) (w':=w) ht;rw[Bp (by simp)]
  exact Ade a' w' h'.dfr ⟨Z',_,.inr ⟨⟨k,er⟩,hJx Z' _ _ _ hj2 (h'.stay hdd)⟩⟩
theorem Aal (hh:h<=4){J Jx:(Nat->Prop)->List Nat->World->Prop} (hJ:∀Z pre A B,J Z pre A->Om Z A B->J Z pre B)(hJx:∀Z pre A B,Jx Z pre A->Om Z A B->Jx Z pre B)
  (hY:∀Z pre x args A,J Z pre A->lvM seed h pre x args Z A->YieldAt Fence.wide 0 prog l args A fun e B=>∃Z',Ua Z Z' A B∧((e=.returned (.bool true)∧J Z' (pre++[x]) B)∨(e=.returned (.bool false)∧Jx Z' (pre++[x]) B)))
  {Q:Exit->Act->World->Prop} (Ade:∀a' w',a'.defers=[]->(∃Z xs,(xs=List.range (h+1)∧J Z xs w')∨((∃k,xs=List.range (k+1))∧Jx Z xs w'))->Q (.exit 2) a' w'):
  ∀(r k nn:Nat),k+r=h->r<nn->∀{w0:World} {X0:Gg} {Z:Nat->Prop} {β:Bt} {a:Act} {w:World},
   Ch 63 w0 X0 Z β (lvS (.func (.yield l) #[] #[]) h seed (2 ^ r:Nat) k (Af .u64 (Gj seed (2 ^ r) k))) a w->(∀b,Z b->¬X0.X b)->J Z (List.range k) w0->Code.roundsIn Fence.wide 0 prog YQ Q nn a w
 |_,_,0,_,h=>by omega
 |r,k,nn+1,hk,hr=>by
  intro hs hd hj;rw[roundsIn_succ];refine Qb A10 (wpIn_seq (Aw3 hh hJ hJx hY hk hs hd hj ?_ fun a' w' h1 h2=>Ade a' w' h1 h2))
  intro Cq w2 X2 Z' β' a' w' VY hd2 hj2
  match r,hk,hr,VY with
  |0,hk,hr,VY=>omega
  |r+1,hk,hr,VY=>
   have hp:2 ^ (r+1)=2*2 ^ r:=by rw[Nat.pow_succ];omega
   have EU:2 ^ r<=8:=by
    have:2 ^ r<=2 ^ 3:=Nat.pow_le_pow_right (by omega) (by omega)
    omega
   rw[hp] at VY;show (Code.seq (.block 3 lvX) (sR (sR YQ))).wpIn Fence.wide 0 prog _ a' w';refine wpIn_seq (wpIn_block (Qb A5h (wpIn_seq (wpIn_wide.2 (Dx (J3 _ _) HC Cg VY (L:=215) (t:=0) (s1:=⟨lk [(0,.sc (.func (.yield l) #[] #[])),(1,.iptr [.sc (.int .i64 h)] 0),(2,.iptr [.sc (.int .u64 seed)] 0),(4,.view 4 1 0 (2*2 ^ r)),(6,.sc (.int .i64 k)),(7,.view 7 1 0 (2 ^ r))],B7 [(4,.ar false (Af .u64 (Gj seed (2*2 ^ r) k))),(7,.ar false (Af .u64 (List.replicate (2 ^ r) 0)))]⟩) ?_ ?_)))))
   ·have w2:wrap .i64 (Int.tdiv ((2*2 ^ r:Nat):Int) 2)=((2 ^ r:Nat):Int):=by
     rw[Int.tdiv_eq_ediv_of_nonneg (by omega),Ap (by omega) (by omega)];omega
    refine (A14 cl _ h seed k (2*2 ^ r) _).trans ?_;simp (disch:=omega) only[Cd,Je,w2,WW]
   intro a3 w3 β3 hs3;refine wpIn_seq (wpIn_seq (wpIn_wide.2 (Dx (J3 _ _) HC Cg hs3 (A3z cl _ h seed k _ _ _ _) ?_)));intro a4 w4 β4 hs4;refine wpIn_block (wpIn_wide.2 (wp_loop_rounds 1000 (Ags (k:=k) (m:=2 ^ r) (by omega) (by omega) (2 ^ r) 0 1000 (by omega) (by omega) (by rw[Al5];exact hs4) ?_)))
   intro a5 w5 β5 Yh;show (sR (sR lvX)).wpIn Fence.wide 0 prog _ a5 w5;refine wpIn_wide.2 (Dx (J3 _ _) HC Cg Yh (A4v cl _ h seed k _ _ _ _ _ _) ?_);intro a6 w6 β6 hs6;show (sR (sR YQ)).wpIn Fence.wide 0 prog _ a6 w6;refine wpIn_wide.2 (Dx (J3 _ _) HC Cg hs6 (L:=87) (t:=0) (s1:=lvS (.func (.yield l) #[] #[]) h seed (2 ^ r:Nat) ((k+1:Nat):Int) (Af .u64 (Gj seed (2 ^ r) (k+1)))) ?_ ?_)
   ·have w1:wrap .i64 ((k:Int)+1)=((k+1:Nat):Int):=by rw[Ap (by omega) (by omega)];omega
    refine (A37 cl _ h seed k _ _).trans ?_;simp only[Cd,w1];rw[Aly];rfl
   intro a7 w7 β7 hs7;exact Aal hh hJ hJx hY Ade r (k+1) nn (by omega) (by omega) hs7 hd2 hj2
end
end
section
open Go.Proofs.Tryz (prog)
open Go.IntKind (wrap)
set_option maxRecDepth 20000
open Go Go.RowKit
def noL:Gg:={ X:=fun _=>False,L:=fun _ _=>False,pn:=fun _=>False,pt:=fun _=>none,p8:=fun _ h=>h.elim }
theorem Ch.init {N:Nat}{W:World}{Z0:Nat->Prop}(l:List (Nat × PV)) (a:Act)(hd:a.defers=[]) (Mo:a.tmps.size=N)(Cq:∀q∈l,q.1<N)(hv:∀q∈l,Et W Z0 (fun _=>none) q.2 (a.tmps.getD q.1 undef)) (hr:∀q∈l,Cm q.2=[]) (hZ:∀b,Z0 b->b<W.heap.size):
  Ch N W noL Z0 (fun _=>none) ⟨lk l,B7 []⟩ a W:=by
 have hA:∀b,b<W.heap.size->Du (B7 []) (fun _=>none) Z0 b->Z0 b:=fun b _ hb=>hb.elim (fun ⟨_,_,h,_⟩=>(h:C5 none).elim) id
 have G0:C2 Z0 W W:=⟨Nat.le_refl _,fun _ _ _=>rfl,fun _ _=>Nat.le_refl _⟩
 refine⟨hd,Mo,fun i hi=>?_,fun i hi=>?_,fun id bx e=>(by cases e),fun id id' b o o' h=>(h:C5 none).elim,fun id b o h=>(h rfl).elim,fun i hi id B6=>?_,fun id c e=>(by cases e),fun b ⟨_,_,h,_⟩=>(h:C5 none).elim,fun id bx b o e=>(by cases e),
  fun i hi=>hi.elim,fun id c b o e=>(by cases e),fun b hz ⟨_,_,h,_⟩=>(h:C5 none).elim,hZ,⟨rfl,rfl,rfl,⟨Nat.le_refl _,fun _ _ _=>rfl,fun _ _=>Nat.le_refl _⟩,fun _ _ _ _=>⟨rfl,rfl⟩⟩⟩
 ·rcases R6 l i with e|⟨q,hq,h1,h2⟩
  ·exact e
  ·have:=Cq q hq;omega
 ·show Et W (Du (B7 []) (fun _=>none) Z0) (fun _=>none) (lk l i) _
  rcases R6 l i with e|⟨q,hq,h1,h2⟩
  ·rw[e];exact A8.top _
  ·rw[h2,←h1];exact (hv q hq).step G0 hA fun _ _=>rfl
 ·rcases R6 l i with e|⟨q,hq,h1,h2⟩
  ·rw[show (St.mk (lk l) (B7 [])).tm i=lk l i from rfl,e] at B6;simp[Cm,Cw,A7] at B6
  ·rw[show (St.mk (lk l) (B7 [])).tm i=lk l i from rfl,h2,hr q hq] at B6;cases B6
def A1b (seed:Int)(h Bh Bs:Nat)(Z0:Nat->Prop)(W:World):Prop:=
 W.cell? ⟨Bh,0,none⟩=some (.int .i64 h)∧W.cell? ⟨Bs,0,none⟩=some (.int .u64 seed)∧Bh<W.heap.size∧Bs<W.heap.size∧¬Z0 Bh∧¬Z0 Bs
theorem A1r {h:Nat}(hh:h<=4):Jf .i64 1 (h:Int)=((2 ^ h:Nat):Int):=by
 have:h=0∨h=1∨h=2∨h=3∨h=4:=by omega
 rcases this with rfl|rfl|rfl|rfl|rfl<;>decide
theorem Awu {seed:Int}{h Bh Bs:Nat}{Z0:Nat->Prop}{W:World}{yv:Value}(hP:A1b seed h Bh Bs Z0 W)(hZ:∀b,Z0 b->b<W.heap.size):
  Ch 63 W noL Z0 (fun _=>none) ⟨lk [(0,.sc yv),(1,.iptr [.sc (.int .i64 h)] 0),(2,.iptr [.sc (.int .u64 seed)] 0)],B7 []⟩ { tmps:=(yv::Value.pointer (some ⟨Bh,0,none⟩)::Value.pointer (some ⟨Bs,0,none⟩)::List.replicate 60 undef).toArray,defers:=[] } W:=by
 obtain⟨p1,p2,p3,p4,p5,p6⟩:=hP;refine Ch.init _ _ rfl (by simp) ?_ ?_ ?_ hZ
 ·intro q hq;simp only[List.mem_cons,List.not_mem_nil,or_false] at hq;rcases hq with rfl|rfl|rfl<;>simp
 ·intro q hq;simp only[List.mem_cons,List.not_mem_nil,or_false] at hq;rcases hq with rfl|rfl|rfl
  ·exact A8.sc _
  ·refine⟨⟨Bh,0,none⟩,rfl,rfl,p3,p5,fun j c hj=>?_⟩
   match j,hj with
   |0,hj=>cases hj;exact⟨_,p1,rfl,A8.sc _⟩
  ·refine⟨⟨Bs,0,none⟩,rfl,rfl,p4,p6,fun j c hj=>?_⟩
   match j,hj with
   |0,hj=>cases hj;exact⟨_,p2,rfl,A8.sc _⟩
 ·intro q hq;simp only[List.mem_cons,List.not_mem_nil,or_false] at hq;rcases hq with rfl|rfl|rfl<;>rfl
theorem Aym {seed:Int}{h Bh Bs:Nat}(hh:h<=4):A0e prog 113 #[.pointer (some ⟨Bh,0,none⟩),.pointer (some ⟨Bs,0,none⟩)] (lvM seed h) (fun xs=>xs=List.range (h+1)) (fun xs=>∃k,xs=List.range (k+1)) (A1b seed h Bh Bs):=by
 intro l J Jx W Z0 hZ hP hJ hJx hY h0;obtain⟨p1,p2,p3,p4,p5,p6⟩:=hP;refine callsIn_wide.1 (callsIn_of_wp (F:=Fence.wide) (n:=0) Tryz.func113 rfl trivial ?_ rfl);show IF.wpIn _ _ _ _ _ _;have t1:(({ tmps:=(#[Value.func (.yield l) #[] #[]] ++ #[Value.pointer (some ⟨Bh,0,none⟩),Value.pointer (some ⟨Bs,0,none⟩)])++Array.replicate (Tryz.f113.ntmps-(#[Value.func (.yield l) #[] #[]] ++ #[Value.pointer (some ⟨Bh,0,none⟩),Value.pointer (some ⟨Bs,0,none⟩)]).size) undef,defers:=[] }:Act))={ tmps:=(Value.func (.yield l) #[] #[]::Value.pointer (some ⟨Bh,0,none⟩)::Value.pointer (some ⟨Bs,0,none⟩)::List.replicate 60 undef).toArray,defers:=[] }:=by kernel_rfl
 rw[t1];have i0:=Awu (seed:=seed) (h:=h) (Z0:=Z0) (yv:=.func (.yield l) #[] #[]) ⟨p1,p2,p3,p4,p5,p6⟩ hZ;generalize ({ tmps:=(Value.func (.yield l) #[] #[]::Value.pointer (some ⟨Bh,0,none⟩)::Value.pointer (some ⟨Bs,0,none⟩)::List.replicate 60 undef).toArray,defers:=[] }:Act)=a0 at i0 ⊢
 have EU:2 ^ h<=16:=by
  have:2 ^ h<=2 ^ 4:=Nat.pow_le_pow_right (by omega) hh
  omega
 refine Qb A2c (wpIn_seq (wpIn_wide.2 (Dx (J3 _ _) HC Cg i0 (L:=23) (t:=0)
  (s1:=⟨lk [(0,.sc (.func (.yield l) #[] #[])),(1,.iptr [.sc (.int .i64 h)] 0),(2,.iptr [.sc (.int .u64 seed)] 0),(4,.view 4 1 0 (2 ^ h))],B7 [(4,.ar false (Af .u64 (List.replicate (2 ^ h) 0)))]⟩) ?_ ?_)))
 ·refine (A15 cl _ h seed).trans ?_;have e1:=A1r hh;have e2:(0:Int)<=h:=by omega
  generalize 2 ^ h=n at EU e1 ⊢;simp (disch:=omega) only[Cd,e1,Je,WW]
 intro a1 w1 β1 h1;refine wpIn_seq (wpIn_seq (wpIn_wide.2 (Dx (J3 _ _) HC Cg h1 (A40 cl _ h seed _ _) ?_)));intro a2 w2 β2 h2;refine wpIn_block (wpIn_wide.2 (wp_loop_rounds 1000 (Ae4 (n:=2 ^ h) (by omega) (2 ^ h) 0 1000 (by omega) (by omega) (by rw[Al5];exact h2) ?_)))
 intro a3 w3 β3 h3;show (Code.seq (sL (sR (sR IF))) (.block 2 (.loop YQ))).wpIn Fence.wide 0 prog _ a3 w3;refine wpIn_seq (wpIn_wide.2 (Dx (J3 _ _) HC Cg h3 (L:=87) (t:=0) (s1:=lvS (.func (.yield l) #[] #[]) h seed (2 ^ h:Nat) ((0:Nat):Int) (Af .u64 (Gj seed (2 ^ h) 0))) ?_ ?_))
 ·refine (A36 cl _ h seed _ _ _ _).trans ?_;rw[Aly];rfl
 intro a4 w4 β4 h4;refine wpIn_block (wpIn_loop_rounds 1000 (Aal hh hJ hJx hY ?_ h 0 1000 (by omega) (by omega) h4 (fun b _ hb=>hb) h0))
 intro a5 w5 h5 h6;exact⟨h5,_,results_none rfl _ _ _,⟨_,rfl⟩,h6⟩
end
section
open Go.IntKind (wrap)
set_option maxRecDepth 20000
open Go Go.RowKit
theorem Ch.make {N:Nat}{W:World}{Y:Nat->Prop}{β:Bt}(l:List (Nat × PV)) (bl:List (Nat × Cb)) (a:Act)(pn:Nat->Prop)(p8:∀i,pn i->i<8)(hd:a.defers=[]) (Mo:a.tmps.size=N)(Cq:∀q∈l,q.1<N)
  (hv:∀q∈l,Et W (Du (B7 bl) β Y) β q.2 (a.tmps.getD q.1 undef)) (hb:∀id bx,B7 bl id=some bx->Wx W (Du (B7 bl) β Y) β id bx)
  (inj:∀id id' b o o',C5 (B7 bl id)->C5 (B7 bl id')->β id=some (b,o)->β id'=some (b,o')->id=id') (blt:∀id b o,B7 bl id≠none->β id=some (b,o)->b<W.heap.size)
  (wfT:∀q∈l,∀id∈Cm q.2,B7 bl id≠none)(wfB:∀id cells,B7 bl id=some (.st cells)->∀c∈cells,∀i∈A7 c,B7 bl i≠none) (CK:∀i,pn i->B7 bl (D0 N i)≠none)
  (stp:∀id c,B7 bl id=some (.st c)->∃i,id=D0 N i∧pn i) (Yx:∀b,Y b->¬HZ (B7 bl) β b) (Ylt:∀b,Y b->b<W.heap.size):
  Ch N W { X:=HZ (B7 bl) β,L:=fun b _=>HZ (B7 bl) β b,pn:=pn,pt:=fun i=>β (D0 N i),p8:=p8 } Y β ⟨lk l,B7 bl⟩ a W:=by
 refine⟨hd,Mo,fun i hi=>?_,fun i hi=>?_,hb,inj,blt,fun i hi id B6=>?_,wfB,fun b hb=>.inl hb,fun id bx b o h1 h2 h3 _ j _=>⟨id,o,by rw[show B7 bl id=some bx from h1];exact h2,h3⟩,fun i hi=>⟨CK i hi,rfl⟩,
  fun id c b o h1 _ _=>stp id c h1,Yx,Ylt,⟨rfl,rfl,rfl,⟨Nat.le_refl _,fun _ _ _=>rfl,fun _ _=>Nat.le_refl _⟩,fun _ _ _ _=>⟨rfl,rfl⟩⟩⟩
 ·rcases R6 l i with e|⟨q,hq,h1,h2⟩
  ·exact e
  ·have:=Cq q hq;omega
 ·show Et W _ β (lk l i) _;rcases R6 l i with e|⟨q,hq,h1,h2⟩
  ·rw[e];exact A8.top _
  ·rw[h2,←h1];exact hv q hq
 ·rcases R6 l i with e|⟨q,hq,h1,h2⟩
  ·rw[show (St.mk (lk l) (B7 bl)).tm i=lk l i from rfl,e] at B6;simp[Cm,Cw,A7] at B6
  ·rw[show (St.mk (lk l) (B7 bl)).tm i=lk l i from rfl,h2] at B6;exact wfT q hq id B6
def A7q (lo e0:Nat)(A:World)(pv:Value)(l:List Int):Prop:=
 (l=[]∧∃ad,pv=.slice ad 0 0)∨∃pb po cap,0<cap∧pv=.slice (some ⟨pb,po,none⟩) l.length cap∧l.length<=cap∧po+cap<=bsz A pb∧pb<A.heap.size∧(lo<=pb∨pb=e0)∧(∀(j:Nat) x,l[j]?=some x->A.cell? ⟨pb,po+j,none⟩=some (.int .u64 x))∧∀j,po<=j->j<bsz A pb->A.frozen? ⟨pb,j,none⟩=false
theorem frozen?_of_block {A B:World}{b j:Nat}(h:B.heap[b]?=A.heap[b]?):B.frozen? ⟨b,j,none⟩=A.frozen? ⟨b,j,none⟩:=by
 unfold World.frozen?;simp only[h]
structure NQ (wS:World) (D:Nat) (seed leaf:Int) (h b10 o10 e0:Nat) (chv:Value) (Z:Nat->Prop) (pre:List Nat) (A:World):Prop where
 os:A.os=wS.os
 tape:A.tape=wS.tape
 output:A.output=wS.output
 size:D+2<=A.heap.size
 zlo:∀b,b<wS.heap.size->Z b
 zlt:∀b,Z b->b<A.heap.size
 keep:∀b,b<wS.heap.size->b≠b10->b≠e0->A.heap[b]?=wS.heap[b]?
 bs:bsz wS b10<=bsz A b10
 c0:A.cell? ⟨b10,o10,none⟩=some (.int .i64 leaf)
 c1:A.cell? ⟨b10,o10+1,none⟩=some chv
 fz:∀k,k<3->A.frozen? ⟨b10,o10+k,none⟩=false
 lt:∀x∈pre,x<h
 path:∃pv,A.cell? ⟨b10,o10+2,none⟩=some pv∧A7q (D+2) e0 A pv (pre.map fun k=>Ct seed k (Hu leaf k))∧∀pb po n cap,0<cap->pv=.slice (some ⟨pb,po,none⟩) n cap->Z pb
noncomputable abbrev Akb:Code:=sF (sB (sR (sL (sR (sR (sR VF))))))
abbrev A8c (h leaf:Int)(x:Nat)(n:Nat)(c:List PV):List (Nat × PV):=[(5,.iptr [.sc (.int .i64 h)] 0),(6,.iptr [.sc (.int .i64 leaf)] 0),(10,.ptr 96000 0),(11,.sc (.int .i64 x)),(12,.lst false 1 n c)]
abbrev XY (leaf:Int)(ch:Value)(m:Nat)(d:List PV):List (Nat × Cb):=[(96000,.st [.sc (.int .i64 leaf),.sc ch,.view 20 1 0 m]),(20,.ar false d)]
structure A64 (wS:World) (b5 o5 b6 o6 b10 o10:Nat) (args:Array Value) (a:Act):Prop where
 dfr:a.defers=[]
 size:a.tmps.size=48
 t5:a.tmps.getD 5 undef=.pointer (some ⟨b5,o5,none⟩)
 t6:a.tmps.getD 6 undef=.pointer (some ⟨b6,o6,none⟩)
 t10:a.tmps.getD 10 undef=.pointer (some ⟨b10,o10,none⟩)
 t11:a.tmps.getD 11 undef=args.getD 0 undef
 t12:a.tmps.getD 12 undef=args.getD 1 undef
theorem Avr {wS:World}{D:Nat}{seed leaf:Int}{h b5 o5 b6 o6 b10 o10 e0:Nat}{chv:Value}{Z:Nat->Prop}{pre:List Nat}{A:World}(hI:NQ wS D seed leaf h b10 o10 e0 chv Z pre A){x:Nat}{args:Array Value}(hM:lvM seed h pre x args Z A){a:Act}(ha:A64 wS b5 o5 b6 o6 b10 o10 args a)
  (h5:wS.cell? ⟨b5,o5,none⟩=some (.int .i64 h)) (h6:wS.cell? ⟨b6,o6,none⟩=some (.int .i64 leaf)) (l5:b5<wS.heap.size)(l6:b6<wS.heap.size)(l10:b10<wS.heap.size)(n5:b5≠b10)(n6:b6≠b10)(m5:b5≠e0)(m6:b6≠e0)(m10:b10≠e0)(hD:wS.heap.size<=D):
  ∃β X0,X0.pt 0=some (b10,o10)∧X0.pn 0∧(∀b,X0.X b->Z b∧(b=b10∨D+2<=b∨b=e0)) ∧
   Ch 48 A X0 (fun _=>False) β ⟨lk (A8c h leaf x (2 ^ (h-x)) (Af .u64 (Gj seed (2 ^ (h-x)) x))),B7 (XY leaf chv pre.length (Af .u64 (pre.map fun k=>Ct seed k (Hu leaf k))))⟩ a A:=by
 obtain⟨hx,_,b,o,cap,Fo,RM,IE,hbz,hcell⟩:=hM;obtain⟨pv,HM,Ho,hpz⟩:=hI.path
 obtain⟨q,hq⟩:∃q:Option (Nat × Nat),(q=none∧pre=[]∧∃ad,pv=.slice ad 0 0)∨∃pb po cap,q=some (pb,po)∧pv=.slice (some ⟨pb,po,none⟩) pre.length cap∧pre.length<=cap∧po+cap<=bsz A pb∧pb<A.heap.size∧(D+2<=pb∨pb=e0)∧Z pb∧(∀(j:Nat) y,(pre.map fun k=>Ct seed k (Hu leaf k))[j]?=some y->A.cell? ⟨pb,po+j,none⟩=some (.int .u64 y))∧∀j,po<=j->j<bsz A pb->A.frozen? ⟨pb,j,none⟩=false:=by
  rcases Ho with⟨h1,h2⟩|⟨pb,po,cap,h0,h1,h2,h3,h4,h5,h6,h7⟩
  ·exact⟨none,.inl ⟨rfl,by simpa using h1,h2⟩⟩
  ·rw[List.length_map] at h1 h2;exact⟨some (pb,po),.inr ⟨pb,po,cap,rfl,h1,h2,h3,h4,h5,hpz _ _ _ _ h0 h1,h6,h7⟩⟩
 obtain⟨β,hβ⟩:∃β:Bt,β=fun id=>if id=96000 then some (b10,o10) else if id=20 then q else none:=⟨_,rfl⟩
 have e1:β 96000=some (b10,o10):=by rw[hβ];rfl
 have e2:β 20=q:=by rw[hβ];rfl
 obtain⟨d,hd⟩:∃d,Af .u64 (pre.map fun k=>Ct seed k (Hu leaf k))=d:=⟨_,rfl⟩
 have hdl:d.length=pre.length:=by rw[←hd,Aq,List.length_map]
 rw[hd]
 have X1:∀id bx,B7 (XY leaf chv pre.length d) id=some bx->(id=96000∧bx=.st [.sc (.int .i64 leaf),.sc chv,.view 20 1 0 pre.length])∨(id=20∧bx=.ar false d):=by
  intro id bx e;rcases S6 (XY leaf chv pre.length d) id with h1|⟨p,hp,h1,h2⟩
  ·rw[h1] at e;cases e
  ·rw[h2] at e;cases e;simp only[List.mem_cons,List.not_mem_nil,or_false] at hp;rcases hp with rfl|rfl
   ·exact .inl ⟨h1.symm,rfl⟩
   ·exact .inr ⟨h1.symm,rfl⟩
 have hX:∀b,HZ (B7 (XY leaf chv pre.length d)) β b->b=b10∨∃po,q=some (b,po):=by
  rintro b' ⟨id,o',hl,hb⟩
  cases hh:B7 (XY leaf chv pre.length d) id with
  |none=>rw[hh] at hl;exact hl.elim
  |some bx=>
   rcases X1 id bx hh with⟨rfl,_⟩|⟨rfl,_⟩
   ·rw[e1] at hb;cases hb;exact .inl rfl
   ·rw[e2] at hb;exact .inr ⟨o',hb⟩
 have hqz:∀b' po,q=some (b',po)->Z b'∧(D+2<=b'∨b'=e0)∧b'<A.heap.size:=by
  intro b' po e;rcases hq with⟨h1,_⟩|⟨pb,po',cap',h1,h2,h3,h4,h5,h6,h7,h8,h9⟩
  ·rw[h1] at e;cases e
  ·rw[h1] at e;cases e;exact⟨h7,h6,h5⟩
 have A7b:∀b',b'<wS.heap.size->b'≠b10->b'≠e0->¬Du (B7 (XY leaf chv pre.length d)) β (fun _=>False) b':=by
  rintro b' hb Fu Bc8 (hx|hf)
  ·rcases hX b' hx with h1|⟨po,h1⟩
   ·exact Fu h1
   ·rcases (hqz _ _ h1).2.1 with h2|h2
    ·omega
    ·exact Bc8 h2
  ·exact hf
 have Mo:wS.heap.size<A.heap.size:=by have:=hI.size;omega
 refine⟨β,_,e1,rfl,?_,Ch.make (A8c h leaf x (2 ^ (h-x)) (Af .u64 (Gj seed (2 ^ (h-x)) x))) (XY leaf chv pre.length d) a (fun i=>i=0) (fun i hi=>by omega) ha.dfr ha.size ?_ ?_ ?_ ?_ ?_ ?_ ?_ ?_ ?_ (fun _ h=>h.elim) (fun _ h=>h.elim)⟩
 ·intro b' hb;rcases hX b' hb with rfl|⟨po,h1⟩
  ·exact⟨hI.zlo _ l10,.inl rfl⟩
  ·exact⟨(hqz _ _ h1).1,.inr (hqz _ _ h1).2.1⟩
 ·intro p hp;simp only[List.mem_cons,List.not_mem_nil,or_false] at hp;rcases hp with rfl|rfl|rfl|rfl|rfl<;>simp
 ·intro p hp;simp only[List.mem_cons,List.not_mem_nil,or_false] at hp;rcases hp with rfl|rfl|rfl|rfl|rfl
  ·refine⟨⟨b5,o5,none⟩,ha.t5,rfl,by show b5<_;omega,A7b b5 l5 n5 m5,fun j c hj=>?_⟩
   match j,hj with
   |0,hj=>cases hj;exact⟨_,(World.cell?_of_block (a:=⟨b5,o5,none⟩) (hI.keep b5 l5 n5 m5)).trans h5,rfl,A8.sc _⟩
  ·refine⟨⟨b6,o6,none⟩,ha.t6,rfl,by show b6<_;omega,A7b b6 l6 n6 m6,fun j c hj=>?_⟩
   match j,hj with
   |0,hj=>cases hj;exact⟨_,(World.cell?_of_block (a:=⟨b6,o6,none⟩) (hI.keep b6 l6 n6 m6)).trans h6,rfl,A8.sc _⟩
  ·exact⟨b10,o10,e1,ha.t10⟩
  ·show Et _ _ _ (.sc (.int .i64 x)) (a.tmps.getD 11 undef);rw[ha.t11,Fo];exact A8.sc _
  ·show Et _ _ _ (.lst false 1 _ _) (a.tmps.getD 12 undef);rw[ha.t12,Fo];refine A8.lst 1 _ _ ⟨b,o,none⟩ cap (fun j=>.int .u64 (Ct seed x j)) rfl IE ?_ RM ?_ (fun _ _ _=>rfl) ?_
   ·rintro (FI|hf)
    ·rcases hX b FI with h1|⟨po,h1⟩
     ·exact hbz (h1 ▸ hI.zlo _ l10)
     ·exact hbz (hqz _ _ h1).1
    ·exact hf
   ·intro j c hj;rw[Fn];have Cq:j<(Af .u64 (Gj seed (2 ^ (h-x)) x)).length:=(List.getElem?_eq_some_iff.1 hj).1;rw[Aq,SG] at Cq;exact hcell j Cq
   ·intro j c hj;have Cq:j<(Af .u64 (Gj seed (2 ^ (h-x)) x)).length:=(List.getElem?_eq_some_iff.1 hj).1;rw[Aq,SG] at Cq;rw[Py (Xx seed Cq)] at hj;cases hj;exact A8.sc _
 ·intro id bx e;rcases X1 id bx e with⟨rfl,rfl⟩|⟨rfl,rfl⟩
  ·refine⟨b10,o10,e1,fun j c hj=>?_,fun j hj=>hI.fz j hj⟩
   match j,hj with
   |0,hj=>cases hj;exact⟨_,hI.c0,A8.sc _⟩
   |1,hj=>cases hj;exact⟨_,hI.c1,A8.sc _⟩
   |2,hj=>
    cases hj;refine⟨_,HM,?_⟩;rcases hq with⟨h1,h2,h3⟩|⟨pb,po,cap',h1,h2,h3,h4,h5,h6,h7,h8,h9⟩
    ·exact .inl ⟨e2.trans h1,rfl,by rw[h2];rfl,h3⟩
    ·exact .inr ⟨pb,po,po,cap',e2.trans h1,h2,.inl rfl,h3,by omega,h5⟩
  ·rcases hq with⟨h1,h2,h3⟩|⟨pb,po,cap',h1,h2,h3,h4,h5,h6,h7,h8,h9⟩
   ·exact .inl ⟨e2.trans h1,by rw[←hd,h2];rfl⟩
   ·refine .inr ⟨pb,po,e2.trans h1,fun j c hj=>?_,fun _=>h9,fun h=>by cases h⟩
    have Cq:j<d.length:=(List.getElem?_eq_some_iff.1 hj).1;have Agx:j<(pre.map fun k=>Ct seed k (Hu leaf k)).length:=by rw[List.length_map];omega
    rw[←hd,Py (List.getElem?_eq_getElem Agx)] at hj;cases hj;rw[Fn];exact⟨_,h8 j _ (List.getElem?_eq_getElem Agx),rfl,A8.sc _⟩
 ·intro id id' b1 o1 o2 g1 g2 g3 g4
  have B6:∀i,C5 (B7 (XY leaf chv pre.length d) i)->i=96000∨i=20:=by
   intro i hi;cases hh:B7 (XY leaf chv pre.length d) i with
   |none=>rw[hh] at hi;exact hi.elim
   |some bx=>exact (X1 i bx hh).imp (·.1) (·.1)
  have Fu:∀po po',β 96000=some (b1,po)->β 20=some (b1,po')->False:=by
   intro po po' f1 f2;rw[e1] at f1;rw[e2] at f2;cases f1;rcases (hqz _ _ f2).2.1 with h2|h2
   ·omega
   ·exact m10 h2
  rcases B6 id g1 with rfl|rfl<;>rcases B6 id' g2 with rfl|rfl
  ·rfl
  ·exact (Fu _ _ g3 g4).elim
  ·exact (Fu _ _ g4 g3).elim
  ·rfl
 ·intro id b1 o1 g1 g2;cases hh:B7 (XY leaf chv pre.length d) id with
  |none=>exact absurd hh g1
  |some bx=>
   rcases X1 id bx hh with⟨rfl,_⟩|⟨rfl,_⟩
   ·rw[e1] at g2;cases g2;omega
   ·rw[e2] at g2;exact (hqz _ _ g2).2.2
 ·intro p hp id B6;simp only[List.mem_cons,List.not_mem_nil,or_false] at hp;rcases hp with rfl|rfl|rfl|rfl|rfl<;>simp[Cm,Cw,A7] at B6
  subst B6;simp[B7]
 ·intro id cells e c hc i hi;rcases X1 id _ e with⟨rfl,e'⟩|⟨rfl,e'⟩
  ·cases e';simp only[List.mem_cons,List.not_mem_nil,or_false] at hc;rcases hc with rfl|rfl|rfl<;>simp[A7] at hi
   subst hi;exact fun h0:some (Cb.ar false d)=none=>by cases h0
  ·cases e'
 ·intro i hi;subst hi;simp[B7,D0]
 ·intro id c e;rcases X1 id _ e with⟨rfl,e'⟩|⟨rfl,e'⟩
  ·exact⟨0,rfl,rfl⟩
  ·cases e'
end
section
open Go.Proofs.Tryz (prog)
open Go.IntKind (wrap)
set_option maxRecDepth 20000
open Go Go.RowKit
theorem Ao4:∀h:Nat,h<5->∀k:Nat,k<h->∀n:Nat,n<16->n<2 ^ h->0<=Hu (n:Int) k∧Hu (n:Int) k<((2 ^ (h-k):Nat):Int):=by decide +kernel
theorem Alg {wS:World}{D:Nat}{seed leaf:Int}{h b10 o10 e0:Nat}{chv:Value}{Z:Nat->Prop}{pre pre':List Nat}{A w':World}(hI:NQ wS D seed leaf h b10 o10 e0 chv Z pre A){β':Bt}{X0:Gg}{a':Act}{m:Nat}{d:List PV}
  (hx1:X0.pt 0=some (b10,o10)) (hx2:X0.pn 0)(hX:∀b,X0.X b->Z b∧(b=b10∨D+2<=b∨b=e0)) (nD:D≠e0)(nD1:D+1≠e0)(l10:b10<wS.heap.size)(hD:wS.heap.size<=D)
  (hs:Ch 48 A X0 (fun _=>False) β' ⟨lk [(10,.ptr 96000 0)],B7 [(96000,.st [.sc (.int .i64 leaf),.sc chv,.view 96144 1 0 m]),(96144,.ar false d)]⟩ a' w')
  (hm:m=pre'.length)(hd:d=Af .u64 (pre'.map fun k=>Ct seed k (Hu leaf k))) (Cq:∀x∈pre',x<h)(hZD:Z D)(Aw5:Z (D+1)):
  Ua Z (fun b=>Z b∨(A.heap.size<=b∧b<w'.heap.size)) A w'∧w'.heap[D]?=A.heap[D]?∧w'.heap[D+1]?=A.heap[D+1]?∧NQ wS D seed leaf h b10 o10 e0 chv (fun b=>Z b∨(A.heap.size<=b∧b<w'.heap.size)) pre' w':=by
 have Mo:=hI.size;have G0:=hs.fr.step
 have same:∀b,b<A.heap.size->b≠b10->b≠e0->b<D+2->w'.heap[b]?=A.heap[b]?:=fun b hb hn SA hl=>G0.keep b hb fun hx=>by
  rcases (hX b hx).2 with h1|h1|h1
  ·exact hn h1
  ·omega
  ·exact SA h1
 have hp:β' 96000=some (b10,o10):=(hs.pin 0 hx2).2.trans hx1;obtain⟨b,o,g1,g2,g3⟩:=(show ∃b o,β' 96000=some (b,o)∧_∧_ from hs.box 96000 _ (rfl:_=some (Cb.st [.sc (.int .i64 leaf),.sc chv,.view 96144 1 0 m])))
 rw[hp] at g1;cases g1;obtain⟨v0,q0,r0⟩:=g2 0 _ rfl;obtain⟨v1,q1,r1⟩:=g2 1 _ rfl;obtain⟨v2,q2,r2⟩:=g2 2 _ rfl;have r0:=A8.val r0;have r1:=A8.val r1;subst r0 r1;have Pw:=hs.box 96144 _ (rfl:_=some (Cb.ar false d))
 have Fu:∀pb po,β' 96144=some (pb,po)->pb≠b10∧(Z pb∨(A.heap.size<=pb∧pb<w'.heap.size))∧(D+2<=pb∨pb=e0)∧pb<w'.heap.size:=by
  intro pb po e;have Cq:pb<w'.heap.size:=hs.blt 96144 pb po (fun h0:some (Cb.ar false d)=none=>by cases h0) e
  have hn:pb≠b10:=by
   intro e';subst e';have:=hs.inj 96000 96144 pb o10 po trivial trivial hp e;cases this
  rcases hs.ownd pb ⟨96144,po,trivial,e⟩ with h1|h1
  ·have h2:=hX pb h1;rcases h2.2 with h3|h3
   ·exact absurd h3 hn
   ·exact⟨hn,.inl h2.1,h3,Cq⟩
  ·exact⟨hn,.inr ⟨h1,Cq⟩,.inl (by omega),Cq⟩
 refine⟨⟨hs.fr.os,hs.fr.tape,hs.fr.output,G0.size,fun b hb hn=>G0.keep b hb fun hx=>hn (hX b hx).1,fun b hb=>.inl hb,fun b hb=>hb.imp (fun x=>x) (·.1),fun b hb=>hb.elim (fun h1=>Nat.lt_of_lt_of_le (hI.zlt b h1) G0.size) (·.2),G0.bs⟩,
  same D (hI.zlt D hZD) (by omega) nD (by omega),same (D+1) (hI.zlt _ Aw5) (by omega) nD1 (by omega),?_⟩
 refine⟨hs.fr.os.trans hI.os,hs.fr.tape.trans hI.tape,hs.fr.output.trans hI.output,by have:=G0.size;omega,fun b hb=>.inl (hI.zlo b hb),fun b hb=>hb.elim (fun h1=>Nat.lt_of_lt_of_le (hI.zlt b h1) G0.size) (·.2),fun b hb hn SA=>(same b (by omega) hn SA (by omega)).trans (hI.keep b hb hn SA),Nat.le_trans hI.bs (G0.bs b10 (by omega)),q0,q1,fun k hk=>g3 k hk,Cq,v2,q2,?_,?_⟩
 ·rcases r2 with⟨f1,_,f3,f4⟩|⟨pb,po,xx,cap,f1,f2,f3,f4,f5,f6⟩
  ·have:pre'=[]:=List.length_eq_zero_iff.1 (by omega)
   exact .inl ⟨by rw[this];rfl,f4⟩
  ·rcases Pw with⟨e1,_⟩|⟨pb',po',e1,e2,e3,_⟩
   ·rw[f1] at e1;cases e1
   ·rw[f1] at e1;cases e1;have hxx:xx=po:=by omega
    subst hxx;rcases Nat.eq_zero_or_pos cap with q0|q0
    ·subst q0;have:pre'=[]:=List.length_eq_zero_iff.1 (by omega)
     have h0:m=0:=by omega
     exact .inl ⟨by rw[this];rfl,_,by rw[f2,h0]⟩
    refine .inr ⟨pb,xx,cap,q0,by rw[f2,List.length_map,hm],by rw[List.length_map];omega,by omega,f6,(Fu pb xx f1).2.2.1,fun j y hj=>?_,fun j hj hjb=>e3 rfl j hj hjb⟩
    obtain⟨v,h1,_,h3⟩:=e2 j (.sc (.int .u64 y)) (by rw[hd];exact Py hj)
    rw[Fn] at h1;rw[h1,A8.val h3]
 ·intro pb po n cap hc0 e;rcases r2 with⟨f1,_,f3,ad,f4⟩|⟨pb',po',xx,cap',f1,f2,f3,f4,f5,f6⟩
  ·rw[f4] at e;cases e;omega
  ·rw[f2] at e;cases e;exact (Fu pb po' f1).2.1
def A5c (wS:World)(D:Nat)(seed leaf:Int)(h b10 o10 e0:Nat)(chv:Value)(c:Code)(Z:Nat->Prop)(xs:List Nat)(B:World):Prop:=c=.exit 0∧∃pre,xs=pre++[h]∧NQ wS D seed leaf h b10 o10 e0 chv Z pre B
theorem Aud {wS:World}{D:Nat}{seed leaf:Int}{h b5 o5 b6 o6 b10 o10 e0:Nat}{chv:Value}{Z:Nat->Prop}{pre:List Nat}{A:World}(hh:h<=4)(X1:0<=leaf)(LW:leaf<((2 ^ h:Nat):Int)) (hI:NQ wS D seed leaf h b10 o10 e0 chv Z pre A){x:Nat}{args:Array Value}(hM:lvM seed h pre x args Z A){a:Act}(ha:A64 wS b5 o5 b6 o6 b10 o10 args a)
  (h5:wS.cell? ⟨b5,o5,none⟩=some (.int .i64 h)) (h6:wS.cell? ⟨b6,o6,none⟩=some (.int .i64 leaf)) (l5:b5<wS.heap.size)(l6:b6<wS.heap.size)(l10:b10<wS.heap.size)(n5:b5≠b10)(n6:b6≠b10)(m5:b5≠e0)(m6:b6≠e0)(m10:b10≠e0)(nD:D≠e0)(nD1:D+1≠e0)(hD:wS.heap.size<=D)(hZD:Z D)(Aw5:Z (D+1)):
  Akb.wpIn (WF (some (D+1))) 0 prog (MY D (NQ wS D seed leaf h b10 o10 e0 chv) (A5c wS D seed leaf h b10 o10 e0 chv) Z (pre++[x]) A) a A:=by
 obtain⟨β,X0,hx1,hx2,hX,hs⟩:=Avr hI hM ha h5 h6 l5 l6 l10 n5 n6 m5 m6 m10 hD;have hx:=hM.1;have QM:pre.length<=1000:=by rw[hM.2.1,List.length_range];omega
 have GZ:∀a w,¬MY D (NQ wS D seed leaf h b10 o10 e0 chv) (A5c wS D seed leaf h b10 o10 e0 chv) Z (pre++[x]) A .outgrown a w:=fun a w ⟨_,_,_,_,hf⟩=>hf
 by_cases hxh:x=h
 ·subst hxh;refine HU (J3 _ _) HC Cg (by kernel_rfl) GZ hs (t:=1) (L:=1024) (s1:=⟨lk [(10,.ptr 96000 0)],B7 [(96000,.st [.sc (.int .i64 leaf),.sc chv,.view 96144 1 0 pre.length]),(96144,.ar false (Af .u64 (pre.map fun k=>Ct seed k (Hu leaf k))))]⟩) ?_ ?_
  ·refine (Aq9 cl x leaf x chv _ _ _ _).trans ?_;rw[show ((x:Int)==(x:Int))=true from beq_self_eq_true _]
   rfl
  ·intro a' w' β' hs';obtain⟨k1,k2,k3,k4⟩:=Alg hI hx1 hx2 hX nD nD1 l10 hD hs' rfl rfl hI.lt hZD Aw5;exact⟨_,k1,k2,k3,rfl,pre,rfl,k4⟩
 ·have Cq:x<h:=by omega
  obtain⟨n,rfl⟩:∃n:Nat,leaf=n:=⟨leaf.toNat,by omega⟩
  have h16:2 ^ h<=16:=by
   have:2 ^ h<=2 ^ 4:=Nat.pow_le_pow_right (by omega) hh
   omega
  have sb:=Ao4 h (by omega) x Cq n (by omega) (by omega)
  have es:Fg .i64 (Ft .i64 (n:Int) (x:Int)) 1=Hu n x:=rfl;obtain⟨y,hy⟩:∃y:Nat,Hu n x=y:=⟨(Hu n x).toNat,by omega⟩
  have at1:(Af .u64 (Gj seed (2 ^ (h-x)) x)).getD y .top=.sc (.int .u64 (Ct seed x (Hu n x))):=by
   rw[hy] at sb ⊢;exact HL (Xx seed (by omega))
  have L:(Af .u64 (pre.map fun k=>Ct seed k (Hu n k))).length=pre.length:=by rw[Aq,List.length_map]
  have T:List.take pre.length (Af .u64 (pre.map fun k=>Ct seed k (Hu n k)))=Af .u64 (pre.map fun k=>Ct seed k (Hu n k)):=Jq (by omega)
  have bq:((x:Int)==(h:Int))=false:=by
   rw[beq_eq_false_iff_ne];omega
  refine HU (J3 _ _) HC Cg (by kernel_rfl) GZ hs (t:=0) (L:=1024) (s1:=⟨lk [(10,.ptr 96000 0)],B7 [(96000,.st [.sc (.int .i64 n),.sc chv,.view 96144 1 0 (pre.length+1)]),(96144,.ar false (Af .u64 (pre.map fun k=>Ct seed k (Hu n k))++[.sc (.int .u64 (Ct seed x (Hu n x)))]))]⟩) ?_ ?_
  ·refine (Aq9 cl h n x chv _ _ _ _).trans ?_;rw[bq];have t0:(0:Int)<=x:=by omega
   have t1:(0:Int)<=y:=by omega
   have t2:(y:Int)<((2 ^ (h-x):Nat):Int):=by omega
   have SA:((pre.length+1)*8<=1099511627776):=by omega
   generalize 2 ^ (h-x)=nn at *
   simp (disch:=omega) only[Cd,es,hy,at1,L,T,Je,Dr]
  ·intro a' w' β' hs'
   obtain⟨k1,k2,k3,k4⟩:=Alg (pre':=pre++[x]) hI hx1 hx2 hX nD nD1 l10 hD hs' (by simp) (by simp) (by
    intro z hz;rcases List.mem_append.1 hz with h1|h1
    ·exact hI.lt z h1
    ·rw[List.mem_singleton.1 h1];exact Cq) hZD Aw5
   exact⟨_,k1,k2,k3,k4⟩
end
section
open Go.Proofs.Tryz (prog)
open Go.IntKind (wrap)
set_option maxRecDepth 20000
open Go Go.RowKit Go.Shelf
set_option maxHeartbeats 2000000 in
theorem Azs (seed h:Int)(n:Nat)(w:World):CallsIn Fence.wide n prog 70 #[.int .u64 seed,.int .i64 h] w fun e w'=>
  e=.returned (.func (.func 113) #[] #[.pointer (some ⟨w.heap.size+1,0,none⟩),.pointer (some ⟨w.heap.size,0,none⟩)])∧w'=(w.alloc (.cells #[.int .u64 seed] 37)).alloc (.cells #[.int .i64 h] 3):=by
 refine callsIn_of_wp Tryz.func70 rfl trivial ?_ rfl;simp only[Tryz.ntmps70,List.size_toArray,H5,Ye,Nat.reduceAdd,Nat.reduceSub,Array.replicate_succ,Array.replicate_zero,List.push_toArray,List.append_toArray,ZG,Zzp]
 gi_wp2
 go_ret
 exact⟨rfl,rfl⟩
end
section
open Go.IntKind (wrap)
set_option maxRecDepth 20000
open Go Go.RowKit
theorem A3p {G:Xl}{P:Program}{f:FuncId}{v0 v1 v2 v3:Value}{vals:List PV}(hf:∃fn,P.funcs[f]?=some fn∧fn.body.isSome=true)
  (h:∀(w:World)(Y:Nat->Prop),(∀b,Y b->b<w.heap.size)->Calls P f #[v0,v1,v2,v3] w fun e w'=>∃vs own,e=.returned (M2 vs)∧Out w w' Y BA [.sc v0,.sc v1,.sc v2,.sc v3] own ⟨vals,[]⟩ vs):Dl G P f [.sc v0,.sc v1,.sc v2,.sc v3] ⟨vals,[]⟩:=by
 refine⟨hf,fun w Y bt us DY _ _=>?_⟩
 have hus:us=[v0,v1,v2,v3]:=by
  have ha:=DY.args
  match us,ha with
  |[u0,u1,u2,u3],⟨h0,h1,h2,h3,_⟩=>
   rw[A8.val h0.2,A8.val h1.2,A8.val h2.2,A8.val h3.2]
 subst hus
 have hl:∀i q,bt i 0≠some q:=by
  intro i q e;obtain⟨p,h1,h2⟩:=DY.l0 i q e
  match i,h1 with
  |0,h1=>cases h1;cases h2
  |1,h1=>cases h1;cases h2
  |2,h1=>cases h1;cases h2
  |3,h1=>cases h1;cases h2
 refine (h w Y DY.Ylt).mono ?_
 rintro e w' ⟨vs,own,rfl,ho⟩
 have hA:TG bt own Y=TG BA own Y:=by
  funext b
  apply propext;constructor
  ·rintro (h1|⟨i,o,h1⟩|h1)
   ·exact .inl h1
   ·exact absurd h1 (hl i _)
   ·exact .inr (.inr h1)
  ·rintro (h1|⟨i,o,h1⟩|h1)
   ·exact .inl h1
   ·cases h1
   ·exact .inr (.inr h1)
 refine⟨vs,own,rfl,ho.os,ho.tape,ho.output,ho.ext.weaken (fun b _ hb=>absurd hb (Rr b)),fun b j hb _=>ho.rng b j hb ?_,by rw[hA];exact ho.vals,rfl,fun j b o hj=>⟨(ho.fresh j b o hj).1,fun Cq=>?_⟩,ho.inj⟩
 ·rintro⟨i,p,_,⟨k,o,h1,_⟩|⟨o,ps,h1,_⟩⟩
  ·cases h1
  ·cases h1
 ·obtain⟨⟨i,k,o',h1⟩,_⟩:=(ho.fresh j b o hj).2 Cq;cases h1
theorem Ch.unbase {N:Nat}{we B w':World}{X XB:Gg}{Y YB:Nat->Prop}{β:Bt}{s:St}{a:Act}(h:Ch N B XB YB β s a w')(hY:∀b,Y b->YB b)(A5k:∀b,Y b->b<we.heap.size)(Ho:∀b,XB.X b->we.heap.size<=b)(hpn:∀i,¬X.pn i)
  (hos:B.os=we.os)(ht:B.tape=we.tape)(hou:B.output=we.output)(Mo:we.heap.size<=B.heap.size)(hk:∀b,b<we.heap.size->B.heap[b]?=we.heap[b]?):Ch N we X Y β s a w':=by
 have hX:∀b,HZ s.hp β b->we.heap.size<=b:=fun b hb=>(h.ownd b hb).elim (Ho b) (fun h1=>Nat.le_trans Mo h1)
 have hA:∀b,Du s.hp β Y b->Du s.hp β YB b:=fun b hb=>hb.imp (fun x=>x) (hY b)
 have G0:C2 (Du s.hp β YB) w' w':=⟨Nat.le_refl _,fun _ _ _=>rfl,fun _ _=>Nat.le_refl _⟩
 have hkw:∀b,b<we.heap.size->w'.heap[b]?=we.heap[b]?:=fun b hb=>(h.fr.step.keep b (by omega) fun hx=>by have:=Ho b hx;omega).trans (hk b hb)
 refine⟨h.dfr,h.tsz,h.tmo,fun i hi=>(h.tms i hi).step G0 (fun b _=>hA b) fun _ _=>rfl,fun id bx e=>(h.box id bx e).step' hA,h.inj,h.blt,h.wfT,h.wfB,fun b hb=>.inr (hX b hb),fun id bx b o h1 h2 h3 h4=>?_,fun i hi=>absurd hi (hpn i),fun id c b o h1 h2 h3=>?_,fun b hy=>h.Yx b (hY b hy),A5k,
  ⟨h.fr.os.trans hos,h.fr.tape.trans ht,h.fr.output.trans hou,⟨Nat.le_trans Mo h.fr.step.size,fun b hb _=>hkw b hb,fun b hb=>by unfold bsz;rw[hkw b hb];exact Nat.le_refl _⟩,fun b j hb _=>⟨World.cell?_of_block (hkw b hb),frozen?_of_block (hkw b hb)⟩⟩⟩
 ·have:=hX b ⟨id,o,by rw[h1];exact h2,h3⟩
  omega
 ·have:=hX b ⟨id,o,by rw[h1];trivial,h2⟩
  omega
theorem NQ.stay {wS:World}{D:Nat}{seed leaf:Int}{h b10 o10 e0:Nat}{chv:Value}{Z:Nat->Prop}{pre:List Nat}{A B:World}(hI:NQ wS D seed leaf h b10 o10 e0 chv Z pre A)(l10:b10<wS.heap.size)(nD:D≠e0)(nD1:D+1≠e0)(hD:wS.heap.size<=D)(hs:Om (fun b=>Z b∧b≠D∧b≠D+1) A B):NQ wS D seed leaf h b10 o10 e0 chv Z pre B:=by
 have e:∀b,b<wS.heap.size->B.heap[b]?=A.heap[b]?:=fun b hb=>hs.same b ⟨hI.zlo b hb,by omega,by omega⟩
 have hb:bsz B b10=bsz A b10:=by unfold bsz;rw[e b10 l10]
 have hc:∀j,B.cell? ⟨b10,j,none⟩=A.cell? ⟨b10,j,none⟩:=fun j=>World.cell?_of_block (e b10 l10)
 obtain⟨pv,p1,p2,p3⟩:=hI.path;refine⟨hs.os.trans hI.os,hs.tape.trans hI.tape,hs.output.trans hI.output,Nat.le_trans hI.size hs.size,hI.zlo,fun b hz=>Nat.lt_of_lt_of_le (hI.zlt b hz) hs.size,fun b hb hn SA=>(e b hb).trans (hI.keep b hb hn SA),by rw[hb];exact hI.bs,(hc _).trans hI.c0,(hc _).trans hI.c1,fun k hk=>by rw[frozen?_of_block (e b10 l10)];exact hI.fz k hk,hI.lt,pv,(hc _).trans p1,?_,p3⟩
 rcases p2 with p2|⟨pb,po,cap,h0,h1,h2,h3,h4,h5,h6,h7⟩
 ·exact .inl p2
 ·have hh:B.heap[pb]?=A.heap[pb]?:=hs.same pb ⟨p3 _ _ _ _ h0 h1,by omega,by omega⟩
  have hbb:bsz B pb=bsz A pb:=by unfold bsz;rw[hh]
  exact .inr ⟨pb,po,cap,h0,h1,h2,by rw[hbb];exact h3,Nat.lt_of_lt_of_le h4 hs.size,h5,fun j x hj=>(World.cell?_of_block (a:=⟨pb,po+j,none⟩) hh).trans (h6 j x hj),fun j hj hjb=>by rw[frozen?_of_block hh];exact h7 j hj (by rw[←hbb];exact hjb)⟩
end
section
open Go.IntKind (wrap)
set_option maxRecDepth 20000
open Go Go.RowKit
abbrev sgE (leaf:Int)(n1 n2:Nat)(c1 c2:List PV):List (Nat × PV):=[(8,.ptr 96000 0),(9,.sc (.int .i64 0)),(10,.iptr [.sc (.int .i64 leaf),.lst false 1 n1 c1,.lst false 1 n2 c2] 0)]
theorem A2p {wS:World}{D:Nat}{seed leaf:Int}{h b8 o8 b10 o10 e0:Nat}{chv:Value}{Z:Nat->Prop}{pre:List Nat}{B:World}{Y:Nat->Prop}{a:Act}{n1:Nat}{c1:List PV}(hB:NQ wS D seed leaf h b10 o10 e0 chv Z pre B)
  (hd:a.defers=[]) (Mo:a.tmps.size=48)(t8:a.tmps.getD 8 undef=.pointer (some ⟨b8,o8,none⟩)) (t9:a.tmps.getD 9 undef=.int .i64 0)(t10:a.tmps.getD 10 undef=.pointer (some ⟨b10,o10,none⟩))
  (c8:∀j,j<3->∃v,B.cell? ⟨b8,o8+j,none⟩=some v)(f8:∀j,j<3->B.frozen? ⟨b8,o8+j,none⟩=false)(l8:b8<B.heap.size)(l10:b10<B.heap.size)(n8:b8≠b10)(y8:¬Y b8)(y10:¬Y b10)
  (hch:A8 B (fun b=>b=b8∨Y b) (.lst false 1 n1 c1) chv) (Bbf:chv.oneCell'=true)(hp:∀pb,(D+2<=pb∨pb=e0)->pb≠b8∧¬Y pb) (hY:∀b,Y b->b<B.heap.size):
  ∃X0 β,(∀b,X0.X b->b=b8)∧Ch 48 B X0 Y β ⟨lk (sgE leaf n1 pre.length c1 (Af .u64 (pre.map fun k=>Ct seed k (Hu leaf k)))),B7 [(96000,.st [.top,.top,.top])]⟩ a B:=by
 obtain⟨pv,HM,Ho,hpz⟩:=hB.path;obtain⟨β,hβ⟩:∃β:Bt,β=fun id=>if id=96000 then some (b8,o8) else none:=⟨_,rfl⟩
 have e1:β 96000=some (b8,o8):=by rw[hβ];rfl
 have X1:∀id bx,B7 [(96000,Cb.st [.top,.top,.top])] id=some bx->id=96000∧bx=.st [.top,.top,.top]:=by
  intro id bx e;rcases S6 [(96000,Cb.st [.top,.top,.top])] id with h1|⟨p,hp,h1,h2⟩
  ·rw[h1] at e;cases e
  ·rw[h2] at e;cases e;simp only[List.mem_cons,List.not_mem_nil,or_false] at hp;subst hp;exact⟨h1.symm,rfl⟩
 have hX:∀b,HZ (B7 [(96000,Cb.st [.top,.top,.top])]) β b->b=b8:=by
  rintro b' ⟨id,o',hl,hb⟩
  cases hh:B7 [(96000,Cb.st [.top,.top,.top])] id with
  |none=>rw[hh] at hl;exact hl.elim
  |some bx=>
   obtain⟨rfl,_⟩:=X1 id bx hh;rw[e1] at hb;cases hb;rfl
 have hA:∀b,Du (B7 [(96000,Cb.st [.top,.top,.top])]) β Y b->b=b8∨Y b:=fun b hb=>hb.imp (hX b) (fun x=>x)
 have G0:C2 (fun b=>b=b8∨Y b) B B:=⟨Nat.le_refl _,fun _ _ _=>rfl,fun _ _=>Nat.le_refl _⟩
 have one:pv.oneCell'=true:=by
  rcases Ho with⟨_,ad,h2⟩|⟨pb,po,cap,_,h1,_⟩
  ·rw[h2];rfl
  ·rw[h1];rfl
 refine⟨_,β,?_,Ch.make (sgE leaf n1 pre.length c1 (Af .u64 (pre.map fun k=>Ct seed k (Hu leaf k)))) [(96000,.st [.top,.top,.top])] a (fun i=>i=0) (fun i hi=>by omega) hd Mo ?_ ?_ ?_ ?_ ?_ ?_ ?_ ?_ ?_ ?_ hY⟩
 ·exact hX
 ·intro p Di;simp only[List.mem_cons,List.not_mem_nil,or_false] at Di;rcases Di with rfl|rfl|rfl<;>simp
 ·intro p Di;simp only[List.mem_cons,List.not_mem_nil,or_false] at Di;rcases Di with rfl|rfl|rfl
  ·exact⟨b8,o8,e1,t8⟩
  ·show Et _ _ _ (.sc (.int .i64 0)) (a.tmps.getD 9 undef);rw[t9];exact A8.sc _
  ·refine⟨⟨b10,o10,none⟩,t10,rfl,l10,fun hb=>?_,fun j c hj=>?_⟩
   ·rcases hA _ hb with h1|h1
    ·exact n8 h1.symm
    ·exact y10 h1
   ·match j,hj with
    |0,hj=>cases hj;exact⟨_,hB.c0,rfl,A8.sc _⟩
    |1,hj=>cases hj;exact⟨_,hB.c1,Bbf,hch.step G0 fun b _=>hA b⟩
    |2,hj=>
     cases hj;refine⟨_,HM,one,?_⟩;rcases Ho with⟨h1,ad,h2⟩|⟨pb,po,cap,_,h1,h2,h3,h4,h5,h6,h7⟩
     ·rw[h2];have:pre=[]:=by simpa using h1
      subst this;cases ad with
      |none=>exact A8.lnil _ _
      |some p=>exact A8.lemp _ p 0
     ·rw[h1,List.length_map];rw[List.length_map] at h2;refine A8.lst 1 _ _ ⟨pb,po,none⟩ cap (fun j=>.int .u64 ((pre.map fun k=>Ct seed k (Hu leaf k)).getD j 0)) rfl h4 (fun hb=>?_) h2 ?_ (fun _ _ _=>rfl) ?_
      ·have hh:=hp pb h5;rcases hA _ hb with h8|h8
       ·exact hh.1 h8
       ·exact hh.2 h8
      ·intro j c hj;have Cq:j<(Af .u64 (pre.map fun k=>Ct seed k (Hu leaf k))).length:=(List.getElem?_eq_some_iff.1 hj).1
       rw[Aq] at Cq;rw[Fn,h6 j _ (List.getElem?_eq_getElem Cq),List.getD_eq_getElem?_getD,List.getElem?_eq_getElem Cq];rfl
      ·intro j c hj;have Cq:j<(Af .u64 (pre.map fun k=>Ct seed k (Hu leaf k))).length:=(List.getElem?_eq_some_iff.1 hj).1
       rw[Aq] at Cq;rw[Py (List.getElem?_eq_getElem Cq)] at hj;cases hj;rw[List.getD_eq_getElem?_getD,List.getElem?_eq_getElem Cq];exact A8.sc _
 ·intro id bx e;obtain⟨rfl,rfl⟩:=X1 id bx e;refine⟨b8,o8,e1,fun j c hj=>?_,fun j hj=>f8 j hj⟩
  have Cq:j<3:=(List.getElem?_eq_some_iff.1 hj).1;obtain⟨v,hv⟩:=c8 j Cq
  match j,hj with
  |0,hj=>cases hj;exact⟨v,hv,A8.top _⟩
  |1,hj=>cases hj;exact⟨v,hv,A8.top _⟩
  |2,hj=>cases hj;exact⟨v,hv,A8.top _⟩
 ·intro id id' b1 o1 o2 g1 g2 g3 g4
  have B6:∀i,C5 (B7 [(96000,Cb.st [.top,.top,.top])] i)->i=96000:=by
   intro i hi;cases hh:B7 [(96000,Cb.st [.top,.top,.top])] i with
   |none=>rw[hh] at hi;exact hi.elim
   |some bx=>exact (X1 i bx hh).1
  rw[B6 id g1,B6 id' g2]
 ·intro id b1 o1 g1 g2;cases hh:B7 [(96000,Cb.st [.top,.top,.top])] id with
  |none=>exact absurd hh g1
  |some bx=>
   obtain⟨rfl,_⟩:=X1 id bx hh;rw[e1] at g2;cases g2;exact l8
 ·intro p Di id B6;simp only[List.mem_cons,List.not_mem_nil,or_false] at Di;rcases Di with rfl|rfl|rfl<;>simp[Cm,Cw,A7] at B6
  subst B6;simp[B7]
 ·intro id cells e c hc i hi;obtain⟨rfl,e'⟩:=X1 id _ e;cases e';simp only[List.mem_cons,List.not_mem_nil,or_false] at hc;rcases hc with rfl|rfl|rfl<;>simp[A7] at hi
 ·intro i hi;subst hi;simp[B7,D0]
 ·intro id c e;obtain⟨rfl,_⟩:=X1 id _ e;exact⟨0,rfl,rfl⟩
 ·intro b hy hx;rw[hX b hx] at hy;exact y8 hy
end
section
open Go.IntKind (wrap)
set_option maxRecDepth 20000
open Go Go.RowKit
abbrev Am8 (seed h leaf m:Int)(n:Nat)(c:List PV):St:=
  ⟨lk [(0,.sc (.int .u64 seed)),(3,.sc (.int .u64 m)),(5,.ptr 5 0),(6,.ptr 6 0),(8,.ptr 8 0),(9,.sc (.int .i64 0)),(10,.ptr 10 0),(27,.sc (.int .u64 seed)),(28,.sc (.int .i64 h))],
   B7 [(5,.st [.sc (.int .i64 h)]),(6,.st [.sc (.int .i64 leaf)]),(8,.st [.sc (.int .i64 0),.view 104 1 0 0,.view 152 1 0 0]),(104,.ar false []),(152,.ar false []),(10,.st [.sc (.int .i64 leaf),.view 106 1 0 n,.view 154 1 0 0]),(106,.ar false c),(154,.ar false [])]⟩
theorem Ch.var {N:Nat}{w0:World}{X0:Gg}{Y:Nat->Prop}{β:Bt}{s:St}{a:Act}{w:World}(h:Ch N w0 X0 Y β s a w){i id:Nat}{cells:List PV}(hi:i<N)(ht:s.tm i=.ptr id 0)(hb:s.hp id=some (.st cells)):
  ∃b o,β id=some (b,o)∧a.tmps.getD i undef=.pointer (some ⟨b,o,none⟩)∧b<w.heap.size∧(∀j c,cells[j]?=some c->∃v,w.cell? ⟨b,o+j,none⟩=some v∧Cu w (Du s.hp β Y) β c v)∧∀j,j<cells.length->w.frozen? ⟨b,o+j,none⟩=false:=by
 have h1:=h.tms i hi;rw[ht] at h1;obtain⟨b,o,e1,e2⟩:=(show ∃b o,β id=some (b,o)∧a.tmps.getD i undef=.pointer (some ⟨b,o+0,none⟩) from h1)
 obtain⟨b',o',e3,e4,e5⟩:=(show ∃b o,β id=some (b,o)∧_∧_ from h.box id _ hb)
 rw[e1] at e3;cases e3;exact⟨b,o,e1,e2,h.blt id b o (by rw[hb];simp) e1,e4,e5⟩
structure A69 (w w4:World) (Y:Nat->Prop) (seed h leaf:Int) (c:List PV) (n:Nat) (a4:Act) (b5 o5 b6 o6 b8 o8 b10 o10 e0:Nat) (chv:Value):Prop where
 t5:a4.tmps.getD 5 undef=.pointer (some ⟨b5,o5,none⟩)
 t6:a4.tmps.getD 6 undef=.pointer (some ⟨b6,o6,none⟩)
 t8:a4.tmps.getD 8 undef=.pointer (some ⟨b8,o8,none⟩)
 t9:a4.tmps.getD 9 undef=.int .i64 0
 t10:a4.tmps.getD 10 undef=.pointer (some ⟨b10,o10,none⟩)
 t27:a4.tmps.getD 27 undef=.int .u64 seed
 t28:a4.tmps.getD 28 undef=.int .i64 h
 c5:w4.cell? ⟨b5,o5,none⟩=some (.int .i64 h)
 c6:w4.cell? ⟨b6,o6,none⟩=some (.int .i64 leaf)
 c8:∀j,j<3->∃v,w4.cell? ⟨b8,o8+j,none⟩=some v
 f8:∀j,j<3->w4.frozen? ⟨b8,o8+j,none⟩=false
 c10:w4.cell? ⟨b10,o10,none⟩=some (.int .i64 leaf)
 c11:w4.cell? ⟨b10,o10+1,none⟩=some chv
 f10:∀j,j<3->w4.frozen? ⟨b10,o10+j,none⟩=false
 l5:b5<w4.heap.size
 l6:b6<w4.heap.size
 l8:b8<w4.heap.size
 l10:b10<w4.heap.size
 le:e0<=w4.heap.size
 n5:b5≠b10
 n6:b6≠b10
 m5:b5≠e0
 m6:b6≠e0
 m10:b10≠e0
 n8:b8≠b10
 m8:b8≠e0
 y8:¬Y b8
 y10:¬Y b10
 ye:¬Y e0
 g10:w.heap.size<=b10
 ge:w.heap.size<=e0
 g8:w.heap.size<=b8
 one:chv.oneCell'=true
 ch:∀B:World,w4.heap.size<=B.heap.size->(∀b,b<w4.heap.size->b≠b10->b≠e0->B.heap[b]?=w4.heap[b]?)->A8 B (fun b=>b=b8∨Y b) (.lst false 1 n c) chv
 p0:∃v2,w4.cell? ⟨b10,o10+2,none⟩=some v2∧((∃ad,v2=.slice ad 0 0)∨∃x cap,v2=.slice (some ⟨e0,x,none⟩) 0 cap∧x+cap<=bsz w4 e0∧e0<w4.heap.size∧∀j,x<=j->j<bsz w4 e0->w4.frozen? ⟨e0,j,none⟩=false)
theorem Aus {w w4:World}{Y:Nat->Prop}{seed h leaf m:Int}{l:List Int}{n:Nat}{a4:Act}{X0:Gg}{β4:Bt}(hn:0<n)(hl:l.length=n)(hX:∀b,¬X0.X b)(hs:Ch 48 w X0 Y β4 (Am8 seed h leaf m n (Af .u64 l)) a4 w4):
  ∃b5 o5 b6 o6 b8 o8 b10 o10 e0 chv,A69 w w4 Y seed h leaf (Af .u64 l) n a4 b5 o5 b6 o6 b8 o8 b10 o10 e0 chv:=by
 obtain⟨b5,o5,e5,t5,l5,k5,f5⟩:=hs.var (i:=5) (id:=5) (by decide) rfl rfl
 obtain⟨b6,o6,e6,t6,l6,k6,f6⟩:=hs.var (i:=6) (id:=6) (by decide) rfl rfl
 obtain⟨b8,o8,e8,t8,l8,k8,f8⟩:=hs.var (i:=8) (id:=8) (by decide) rfl rfl
 obtain⟨b10,o10,e10,t10,l10,k10,f10⟩:=hs.var (i:=10) (id:=10) (by decide) rfl rfl
 obtain⟨v5,q5,r5⟩:=k5 0 _ rfl;obtain⟨v6,q6,r6⟩:=k6 0 _ rfl;obtain⟨v80,q80,_⟩:=k8 0 _ rfl;obtain⟨v81,q81,_⟩:=k8 1 _ rfl;obtain⟨v82,q82,_⟩:=k8 2 _ rfl;obtain⟨v0,q0,r0⟩:=k10 0 _ rfl;obtain⟨v1,q1,r1⟩:=k10 1 _ rfl;obtain⟨v2,q2,r2⟩:=k10 2 _ rfl;have r5:=A8.val r5;have r6:=A8.val r6;have r0:=A8.val r0;subst r5 r6 r0;have I6:=hs.box 106 _ (rfl:_=some (Cb.ar false (Af .u64 l)));have Pw:=hs.box 154 _ (rfl:_=some (Cb.ar false []));have own:∀id b o,C5 ((Am8 seed h leaf m n (Af .u64 l)).hp id)->β4 id=some (b,o)->w.heap.size<=b∧¬Y b:=fun id b o h1 h2=>⟨(hs.ownd b ⟨id,o,h1,h2⟩).elim (fun x=>absurd x (hX b)) (fun x=>x),fun hy=>hs.Yx b hy ⟨id,o,h1,h2⟩⟩
 have dif:∀id id' b b' o o',id≠id'->C5 ((Am8 seed h leaf m n (Af .u64 l)).hp id)->C5 ((Am8 seed h leaf m n (Af .u64 l)).hp id')->β4 id=some (b,o)->β4 id'=some (b',o')->b≠b':=fun id id' b b' o o' Fu h1 h2 h3 h4 e=>by
  subst e;exact Fu (hs.inj id id' b o o' h1 h2 h3 h4)
 obtain⟨e0,he1,he2⟩:∃e0,(∀b o,β4 154=some (b,o)->e0=b)∧((∃o,β4 154=some (e0,o))∨e0=w4.heap.size):=by
  cases hq:β4 154 with
  |none=>exact⟨w4.heap.size,fun b o h=>by (cases h),.inr rfl⟩
  |some q=>exact⟨q.1,fun b o h=>by (cases h;rfl),.inl ⟨q.2,rfl⟩⟩
 have Be6:w.heap.size<=w4.heap.size:=hs.fr.step.size
 have de:∀id b o,id≠154->C5 ((Am8 seed h leaf m n (Af .u64 l)).hp id)->β4 id=some (b,o)->b<w4.heap.size->b≠e0:=fun id b o Fu h1 h2 Cq e=>by
  rcases he2 with⟨o',h3⟩|h3
  ·exact dif id 154 b e0 o o' Fu h1 trivial h2 h3 e
  ·omega
 have ge:w.heap.size<=e0∧¬Y e0∧e0<=w4.heap.size:=by
  rcases he2 with⟨o',h3⟩|h3
  ·have:=own 154 e0 o' trivial h3;exact⟨this.1,this.2,Nat.le_of_lt (hs.blt 154 e0 o' (fun h0:some (Cb.ar false [])=none=>by cases h0) h3)⟩
  ·exact⟨by omega,fun hy=>by have:=hs.Ylt e0 hy;omega,by omega⟩
 rcases r1 with⟨_,_,h3,_⟩|⟨cb,co,x,cap,g1,g2,g3,g4,g5,g6⟩
 ·omega
 rcases I6 with⟨h7,_⟩|⟨cb',co',h7,h8,h9,_⟩
 ·rw[g1] at h7;cases h7
 rw[g1] at h7;cases h7;have hx:x=co:=by omega
 subst hx
 refine⟨b5,o5,b6,o6,b8,o8,b10,o10,e0,v1,⟨t5,t6,t8,Mw (hs.tms 9 (by decide)),t10,Mw (hs.tms 27 (by decide)),Mw (hs.tms 28 (by decide)),q5,q6,fun j hj=>?_,fun j hj=>f8 j hj,q0,q1,fun j hj=>f10 j hj,l5,l6,l8,l10,ge.2.2,
  dif 5 10 _ _ _ _ (by decide) trivial trivial e5 e10,dif 6 10 _ _ _ _ (by decide) trivial trivial e6 e10,de 5 _ _ (by decide) trivial e5 l5,de 6 _ _ (by decide) trivial e6 l6,de 10 _ _ (by decide) trivial e10 l10,dif 8 10 _ _ _ _ (by decide) trivial trivial e8 e10,de 8 _ _ (by decide) trivial e8 l8,
  (own 8 _ _ trivial e8).2,(own 10 _ _ trivial e10).2,ge.2.1,(own 10 _ _ trivial e10).1,ge.1,(own 8 _ _ trivial e8).1,by rw[g2];rfl,fun B hB hk=>?_,v2,q2,?_⟩⟩
 ·match j,hj with
  |0,_=>exact⟨v80,q80⟩
  |1,_=>exact⟨v81,q81⟩
  |2,_=>exact⟨v82,q82⟩
 ·have Zt:=hk cb g6 (dif 106 10 _ _ _ _ (by decide) trivial trivial g1 e10) (de 106 _ _ (by decide) trivial g1 g6)
  rw[g2];refine A8.lst 1 _ _ ⟨cb,x,none⟩ cap (fun j=>.int .u64 (l.getD j 0)) rfl (by show cb<_;omega) (fun hb=>?_) g4 (fun j c hj=>?_) (fun _ _ _=>rfl) (fun j c hj=>?_)
  ·rcases hb with hb|hb
   ·exact dif 106 8 _ _ _ _ (by decide) trivial trivial g1 e8 hb
   ·exact (own 106 _ _ trivial g1).2 hb
  ·have Cq:j<(Af .u64 l).length:=(List.getElem?_eq_some_iff.1 hj).1;rw[Aq] at Cq;obtain⟨v,k1,_,k3⟩:=h8 j _ (Py (List.getElem?_eq_getElem Cq));rw[Fn] at k1 ⊢;rw[World.cell?_of_block (a:=⟨cb,x+j,none⟩) Zt,k1,A8.val k3,List.getD_eq_getElem?_getD,List.getElem?_eq_getElem Cq];rfl
  ·have Cq:j<(Af .u64 l).length:=(List.getElem?_eq_some_iff.1 hj).1;rw[Aq] at Cq;rw[Py (List.getElem?_eq_getElem Cq)] at hj;cases hj;rw[List.getD_eq_getElem?_getD,List.getElem?_eq_getElem Cq];exact A8.sc _
 ·rcases r2 with⟨_,_,_,h4⟩|⟨pb,po,x',cap',k1,k2,k3,k4,k5',k6'⟩
  ·exact .inl h4
  ·have he:=he1 pb po k1;subst he;rcases Pw with⟨h7,_⟩|⟨pb',po',h7,_,h9',_⟩
   ·rw[k1] at h7;cases h7
   ·rw[k1] at h7;cases h7;have hxx:x'=po:=by omega
    subst hxx;exact .inr ⟨x',cap',k2,by omega,k6',fun j hj hjb=>h9' rfl j hj hjb⟩
end
end Go.Proofs.YtpogefhpiaaliaaGreatDoor.Pv
