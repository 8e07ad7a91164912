/-
  The proof of CertificateStrict, part 6.
-/
import Derived.Test.YtdjihiphpgkfmaaGreatDoorTE
import Derived.Test.YtdjihiphpgkfmaaGreatDoorRows
import Derived.RangeFuncNested
import Derived.RangeFuncLeaves
import Derived.WalkKit
import Derived.LoopNIn
import Derived.OrdersIn
import Derived.Shelf.Abstract
import Derived.OwnWalkIn
import Derived.TacticsInMore
import Derived.Lib.BytesEntry
import Derived.Lib.Bytealg
import Derived.Lib.Walk
import Derived.WalkMore
import Derived.Shelf.Unicode.ValidAny
import Derived.Lib.LaidU8T
set_option linter.unusedSimpArgs false
set_option linter.unusedVariables false
namespace Go.Proofs.YtdjihiphpgkfmaaGreatDoor.Pv
section
open Go.IntKind (wrap)
set_option maxRecDepth 1000000
structure Cu (c:Ce):Prop where
 wf:c.wf
 s1:c.subj.size<=5
 s2:c.iss.size<=5
 s3:c.sig.chains.length<=18
 s4:c.sig.path.length<=4
theorem Cu.in_ {c:Ce}(h:Cu c):c.in_:=⟨h.wf,by have:=h.s1;omega,by have:=h.s2;omega⟩
theorem Ahb {c:Ce}(h:Cu c)(seed hh leaf:Int):Cu (Tg c seed hh leaf).1:=by
 have z:Cu XC:=⟨⟨by decide,by decide⟩,by decide,by decide,by decide,by decide⟩
 unfold Tg;split
 ·cases hs:Y5 seed hh leaf (Lq c) with
  |none=>exact z
  |some s=>exact ⟨⟨h.wf.ser,h.wf.mod⟩,h.s1,h.s2,Nat.le_of_eq (CD hs).1,(CD hs).2⟩
 ·exact z
theorem SD {n:Nat}{S:List ByteArray}{m:Nat}(h1:n<S.length)(hS:∀s∈S,s.size<=m):∃s:ByteArray,s.size<=m∧(S.map fun s=>PV.sc (.string s)).getD n .top=.sc (.string s):=by
 refine ⟨S[n],hS _ (List.getElem_mem h1),?_⟩;rw [List.getD_eq_getElem?_getD,List.getElem?_map,List.getElem?_eq_getElem h1];rfl
theorem EY {cs:List Ce}{k:Nat}{c c':Ce}{p:PV}{j:Nat}(hj:j<13)(h:cs[k]?=some c) (hy:c'.cells=c.cells.set j p):Ba (Cp cs) [p] (k*13+j)=Cp (cs.set k c'):=by
 have hk:=Ag2 h;rw [Ev (by rw [Ks];omega)]
 exact Ai6 Ce.cells_len hj h hy
theorem As4 {cs:List Ce}{k:Nat}{c':Ce}(hk:k<cs.length):Ba (Cp cs) c'.cells (k*13)=Cp (cs.set k c'):=by
 unfold Ba Cp;rw [Ce.cells_len,AK Ce.cells_len,show k*13+13=(k+1)*13 by omega,Zg Ce.cells_len,List.set_eq_take_append_cons_drop,B4 hk,List.flatMap_append,List.flatMap_cons,WY]
theorem OL (a b:List Ce):Cp (a++b)=Cp a++Cp b:=by unfold Cp;rw [List.flatMap_append]
theorem NH (c:Ce):Cp [c]=c.cells:=by unfold Cp;simp
theorem ZA {cs:List Ce}{k:Nat}:List.take (k*13) (Cp cs)=Cp (cs.take k):=AK Ce.cells_len cs k
theorem V9 (l:List Rv):(G0 l).length=l.length*3:=Xu Rv.cells_len l
theorem Acn (a:List Rv)(r:Rv):G0 a++[.sc (.string r.iss),.sc (.int .u64 r.ser),.sc (.int .i64 r.at_)]=G0 (a++[r]):=by
 unfold G0;rw [List.flatMap_append,List.flatMap_cons,List.flatMap_nil,List.append_nil];rfl
theorem Aej (l:List An):(Nc l).length=l.length*3:=Xu An.cells_len l
def Fin (l:List Int)(r:Option A0):Prop:=∃(cs:List Ce)(ans:List An)(vs:List Rv)(j:Nat),(∀c∈cs,Cu c)∧cs.length<=4∧ans.length<=3∧vs.length<=10 ∧
 r=some ⟨[.lst false 13 cs.length (Cp cs),.lst false 3 ans.length (Nc ans),.lst false 3 vs.length (G0 vs)],[dkc l j]⟩
section
variable {d:Nat} {l:List Int} {a0_0n:Nat} {a0_0:List PV} {a0_1:Int}
theorem Ali (hl:l.length<=maxLen){cs:List Ce}(hc:∀c∈cs,Cu c){y0:Nat}(h0:y0<=cs.length)(h4:y0<=4){A:List An}{a n:Nat}(ha:a+n<=A.length)(hn:n<=3):∀(k nn j:Nat)(vs:List Rv),k<nn->vs.length+k<=10 ->
  Fin l (Cl 2000 (Ae C0 Tryz.prog 2000 (d+14)) a0_0n a0_0 a0_1 nn y0 (a*3) n vs.length (k:Int) l.length (Af .i64 l) (j:Int) (Cp cs) (Nc A) (G0 vs))
 |_,0,_,_,h,_=>by omega
 |0,nn+1,j,vs,_,hv=>by
  have e1:List.take (y0*13) (Cp cs)=Cp (cs.take y0):=ZA
  have e2:List.take (n*3) (List.drop (a*3) (Nc A))=Nc ((A.drop a).take n):=by
   unfold Nc;rw [Zg An.cells_len,AK An.cells_len]
  have e3:List.take (vs.length*3) (G0 vs)=G0 vs:=R9 (by rw [V9];omega)
  have L1:=Ks cs;have L2:=Aej A;have L3:=V9 vs;have t1:(cs.take y0).length=y0:=by rw [List.length_take];omega
  have t2:((A.drop a).take n).length=n:=by rw [List.length_take,List.length_drop];omega
  refine ⟨cs.take y0,(A.drop a).take n,vs,j,fun c h=>hc c (List.mem_of_mem_take h),by omega,by omega,by omega,?_⟩
  rw [t1,t2,I7]
  try unfold Aa
  repeat first
   |((with_reducible first|apply Aw|apply Al|apply Ay|apply Ar|apply A7|apply Cc|apply Bx|apply Am);· first|with_reducible rfl|(simp (disch:=omega) only [e1,e2,e3,L1,L2,L3,E6,Br]<;>with_reducible rfl))
   |((with_reducible first|apply Ax|apply Au);· first|with_reducible rfl|omega|(simp (disch:=omega) only [gT,e1,e2,e3,L1,L2,L3,E6,Br]<;>omega))
   |(with_reducible apply Av;· first|with_reducible rfl|(simp (disch:=omega) only [gF,e1,e2,e3,L1,L2,L3,E6,Br]<;>omega))
  try simp (disch:=omega) only [e1,e2,e3,L1,L2,L3,E6,Br]
  all_goals rfl
 |k+1,nn+1,j,vs,hk,hv=>by
  obtain ⟨v0,j0,v00,v01,n0⟩:=Hi hl j 3 (by omega) (by omega)
  obtain ⟨v1,j1,v10,v11,n1⟩:=Hi hl j0 3 (by omega) (by omega)
  obtain ⟨v2,j2,v20,v21,n2⟩:=Hi hl j1 14 (by omega) (by omega)
  have n0:=n0 (fu:=2000) (d:=d+12);have n1:=n1 (fu:=2000) (d:=d+12);have n2:=n2 (fu:=2000) (d:=d+12);obtain ⟨m0,rfl⟩:∃m:Nat,v0=m:=⟨v0.toNat,by omega⟩
  obtain ⟨s,zs,g⟩:=SD (n:=m0) (S:=[SR,mdS,tpS]) (m:=5) (by simp;omega) (by decide)
  simp only [Zzw,List.map_nil] at g;have c0:(decide ((0:Int)<=m0)&&decide ((m0:Int)<3))=true:=by simp;omega
  have nt:Int.toNat (m0:Int)=m0:=He _;have w:wrap .i64 (((k+1:Nat):Int)-1)=(k:Int):=by rw [Aj (by omega) (by omega)];omega
  have e3:List.take (vs.length*3) (G0 vs)=G0 vs:=R9 (by rw [V9];omega)
  have L3:=V9 vs;have ea:=Acn vs ⟨s,wrap .u64 v1,v2⟩;simp only at ea;obtain ⟨cs',ans',vs',j',q1,q2,q3,q4,q5⟩:=Ali hl hc h0 h4 ha hn k nn j2 (vs++[⟨s,wrap .u64 v1,v2⟩]) (by omega) (by rw [Jz,List.length_singleton];omega)
  refine ⟨cs',ans',vs',j',q1,q2,q3,q4,?_⟩;rw [Jz,List.length_singleton] at q5;simp only [dkc] at n0 n1 n2;rw [←q5,I7]
  try unfold Aa
  repeat first
   |((with_reducible first|apply Aw|apply Al|apply Ay|apply Ar|apply A7|apply Cc|apply Bx|apply Am);· first|with_reducible rfl|(simp (disch:=omega) only [n0,n1,n2,c0,nt,g,w,e3,L3,ea,Br,B8]<;>with_reducible rfl))
   |((with_reducible first|apply Ax|apply Au);· first|with_reducible rfl|omega|(simp (disch:=omega) only [gT,n0,n1,n2,c0,nt,g,w,e3,L3,ea,Br,B8]<;>omega))
   |(with_reducible apply Av;· first|with_reducible rfl|(simp (disch:=omega) only [gF,n0,n1,n2,c0,nt,g,w,e3,L3,ea,Br,B8]<;>omega))
  try simp (disch:=omega) only [n0,n1,n2,c0,nt,g,w,e3,L3,ea,Br,B8]
  all_goals rfl
theorem Alf (hl:l.length<=maxLen){n:Nat}(h1:1<=n)(h3:n<=3){k:Nat}(hk:k<n):∀(m i nn j:Nat)(cs:List Ce),i+m=n->m<nn->cs.length=n->(∀c∈cs,Cu c) ->
  Fin l (Dj 2000 (Ae C0 Tryz.prog 2000 (d+14)) a0_0n a0_0 a0_1 nn (n:Int) cs.length (k:Int) (i:Int) l.length (Af .i64 l) (j:Int) (Cp cs))
 |_,_,0,_,_,_,h,_,_=>by omega
 |0,i,nn+1,j,cs,hi,_,hcl,hc=>by
  obtain rfl:i=n:=by omega
  obtain ⟨v0,j0,v00,v01,n0⟩:=Hi hl j 12 (by omega) (by omega)
  obtain ⟨v1,j1,v10,v11,n1⟩:=Hi hl j0 2 (by omega) (by omega)
  obtain ⟨v2,j2,v20,v21,n2⟩:=Hi hl j1 2 (by omega) (by omega)
  obtain ⟨v3,j3,v30,v31,n3⟩:=Hi hl j2 3 (by omega) (by omega)
  have n0:=n0 (fu:=2000) (d:=d+12);have n1:=n1 (fu:=2000) (d:=d+12);have n2:=n2 (fu:=2000) (d:=d+12);have n3:=n3 (fu:=2000) (d:=d+12);have k2:=JF (fu:=2000) (d:=d+1) (by omega) 72 1
  have k1:=JF (fu:=2000) (d:=d+1) (by omega) 71 1
  obtain ⟨m1,rfl⟩:∃m:Nat,v1=m:=⟨v1.toNat,by omega⟩
  obtain ⟨m2,rfl⟩:∃m:Nat,v2=m:=⟨v2.toNat,by omega⟩
  obtain ⟨m3,rfl⟩:∃m:Nat,v3=m:=⟨v3.toNat,by omega⟩
  have w2:wrap .i64 ((2:Int)+m2)=((2+m2:Nat):Int):=by rw [Aj (by omega) (by omega)];omega
  have wk:wrap .i64 ((k:Int)+1)=((k+1:Nat):Int):=by rw [Aj (by omega) (by omega)];omega
  have nt:Int.toNat (m1:Int)=m1:=He _;have nt2:Int.toNat ((2+m2:Nat):Int)=2+m2:=He _;have ntk:Int.toNat (k:Int)=k:=He _;have ntk1:Int.toNat ((k+1:Nat):Int)=k+1:=He _;have hA:(Nc [⟨SR,Gq 72 1⟩,⟨SR,Gq 71 1⟩,⟨mdS,Gq 71 1⟩])=[.sc (.string SR),.sc (.int .i64 (Gq 72 1).h),.sc (.int .u64 (Gq 72 1).root),.sc (.string SR),.sc (.int .i64 (Gq 71 1).h),.sc (.int .u64 (Gq 71 1).root),.sc (.string mdS),.sc (.int .i64 (Gq 71 1).h),.sc (.int .u64 (Gq 71 1).root)]:=rfl;obtain ⟨A,hA',eA⟩:∃A,A.length=3∧A=[An.mk SR (Gq 72 1),⟨SR,Gq 71 1⟩,⟨mdS,Gq 71 1⟩]:=⟨_,rfl,rfl⟩;rw [←eA] at hA;have T:=fun (cs':List Ce) (hc':∀c∈cs',Cu c) (y:Nat) (hy:y<=cs'.length) (hy4:y<=4)=>Ali (d:=d) (a0_0n:=a0_0n) (a0_0:=a0_0) (a0_1:=a0_1) hl hc' hy hy4 (A:=A) (a:=m1) (n:=2+m2-m1) (by omega) (by omega) m3 2000 j3 [] (by omega) (by simp;omega)
  have c1:(decide (m1<=2+m2)&&decide (2+m2<=3))=true:=by simp;omega
  have ck:(decide ((0:Int)<=k)&&decide ((k:Int)<cs.length))=true:=by simp;omega
  have z3:G0 []=[]:=rfl;simp only [Wh,z3,hA] at T;clear hA eA hA';generalize Gq 72 1=K2 at *
  generalize Gq 71 1=K1 at *
  simp only [Ky.cells] at k2 k1;simp only [dkc] at n0 n1 n2 n3;obtain ⟨c,hg⟩:∃c,cs[k]?=some c:=⟨_,List.getElem?_eq_getElem (by omega)⟩
  have hcu:=hc c (List.mem_of_getElem? hg);have L:=Ks cs
  have setc:∀c':Ce,Cu c'->∀x∈cs.set k c',Cu x:=fun c' h' x hx=>by
   rcases List.mem_or_eq_of_mem_set hx with hx|rfl
   ·exact hc x hx
   ·exact h'
  have hcase:v0=0∨v0=1∨v0=2∨v0=3∨(v0≠0∧v0≠1∧v0≠2∧v0≠3):=by omega
  have nlt:∀x:Int,decide (x<x)=false:=fun x=>by simp
  rcases hcase with rfl|rfl|rfl|rfl|⟨u0,u1,u2,u3⟩
  ·have es:=EY (cs:=cs) (k:=k) (c:=c) (c':={ c with serial:=wrap .u64 (c.serial+7) }) (p:=.sc (.int .u64 (wrap .u64 (c.serial+7)))) (j:=2) (by omega) hg rfl
   have c2:=(cer hg).2.2.1;obtain ⟨cs',ans',vs',j',q1,q2,q3,q4,q5⟩:=T (cs.set k { c with serial:=wrap .u64 (c.serial+7) }) (setc _ ⟨⟨(Gs _).1,hcu.wf.mod⟩,hcu.s1,hcu.s2,hcu.s3,hcu.s4⟩) cs.length (by rw [List.length_set];omega) (by omega)
   refine ⟨cs',ans',vs',j',q1,q2,q3,q4,?_⟩;have c2':(Cp cs).getD (k*13+2) .top=.sc (.int .u64 c.serial):=c2;rw [←q5,C9]
   try unfold Aa
   repeat first
    |((with_reducible first|apply Aw|apply Al|apply Ay|apply Ar|apply A7|apply Cc|apply Bx|apply Am);· first|with_reducible rfl|(simp (disch:=omega) only [nlt,n0,n1,n2,n3,k1,k2,w2,nt,nt2,ntk,c1,ck,c2',L,es,Br,Int.reduceBEq]<;>with_reducible rfl))
    |((with_reducible first|apply Ax|apply Au);· first|with_reducible rfl|omega|(simp (disch:=omega) only [gT,nlt,n0,n1,n2,n3,k1,k2,w2,nt,nt2,ntk,c1,ck,c2',L,es,Br,Int.reduceBEq]<;>omega))
    |(with_reducible apply Av;· first|with_reducible rfl|(simp (disch:=omega) only [gF,nlt,n0,n1,n2,n3,k1,k2,w2,nt,nt2,ntk,c1,ck,c2',L,es,Br,Int.reduceBEq]<;>omega))
   try simp (disch:=omega) only [nlt,n0,n1,n2,n3,k1,k2,w2,nt,nt2,ntk,c1,ck,c2',L,es,Br,Int.reduceBEq]
   all_goals rfl
  ·obtain ⟨cs',ans',vs',j',q1,q2,q3,q4,q5⟩:=T cs hc (k+1) (by omega) (by omega)
   refine ⟨cs',ans',vs',j',q1,q2,q3,q4,?_⟩;rw [←q5,C9]
   try unfold Aa
   repeat first
    |((with_reducible first|apply Aw|apply Al|apply Ay|apply Ar|apply A7|apply Cc|apply Bx|apply Am);· first|with_reducible rfl|(simp (disch:=omega) only [nlt,n0,n1,n2,n3,k1,k2,w2,wk,nt,nt2,ntk1,c1,ck,L,Nat.sub_zero,Br,Int.reduceBEq]<;>with_reducible rfl))
    |((with_reducible first|apply Ax|apply Au);· first|with_reducible rfl|omega|(simp (disch:=omega) only [gT,nlt,n0,n1,n2,n3,k1,k2,w2,wk,nt,nt2,ntk1,c1,ck,L,Nat.sub_zero,Br,Int.reduceBEq]<;>omega))
    |(with_reducible apply Av;· first|with_reducible rfl|(simp (disch:=omega) only [gF,nlt,n0,n1,n2,n3,k1,k2,w2,wk,nt,nt2,ntk1,c1,ck,L,Nat.sub_zero,Br,Int.reduceBEq]<;>omega))
   try simp (disch:=omega) only [nlt,n0,n1,n2,n3,k1,k2,w2,wk,nt,nt2,ntk1,c1,ck,L,Nat.sub_zero,Br,Int.reduceBEq]
   all_goals rfl
  ·obtain ⟨d0,d1,d2,d3,d4,d5,d6,d7,d8,d9,d10,d11,d12⟩:=cer hg;have ea:Cp cs++[.sc (.string c.subj),.sc (.string c.iss),.sc (.int .u64 c.serial),.sc (.int .i64 c.key.h),.sc (.int .u64 c.key.root),.sc (.int .i64 c.fr),.sc (.int .i64 c.un),.sc (.bool c.auth),.sc (.int .i64 c.path),.sc (.int .u64 c.model),.sc (.int .i64 c.sig.leaf),.lst false 1 c.sig.chains.length (Af .u64 c.sig.chains),.lst false 1 c.sig.path.length (Af .u64 c.sig.path)]=Cp (cs++[c]):=by rw [OL,NH];rfl
   have tk:List.take (cs.length*13) (Cp cs)=Cp cs:=R9 (by omega)
   obtain ⟨cs',ans',vs',j',q1,q2,q3,q4,q5⟩:=T (cs++[c]) (fun x hx=>by
    rcases List.mem_append.1 hx with hx|hx
    ·exact hc x hx
    ·rw [List.mem_singleton.1 hx];exact hcu) (cs.length+1) (by simp) (by omega)
   refine ⟨cs',ans',vs',j',q1,q2,q3,q4,?_⟩;rw [←q5,C9]
   try unfold Aa
   repeat first
    |((with_reducible first|apply Aw|apply Al|apply Ay|apply Ar|apply A7|apply Cc|apply Bx|apply Am);· first|with_reducible rfl|(simp (disch:=omega) only [nlt,n0,n1,n2,n3,k1,k2,w2,nt,nt2,ntk,c1,ck,L,d0,d1,d2,d3,d4,d5,d6,d7,d8,d9,d10,d11,d12,tk,ea,Br,Int.reduceBEq]<;>with_reducible rfl))
    |((with_reducible first|apply Ax|apply Au);· first|with_reducible rfl|omega|(simp (disch:=omega) only [gT,nlt,n0,n1,n2,n3,k1,k2,w2,nt,nt2,ntk,c1,ck,L,d0,d1,d2,d3,d4,d5,d6,d7,d8,d9,d10,d11,d12,tk,ea,Br,Int.reduceBEq]<;>omega))
    |(with_reducible apply Av;· first|with_reducible rfl|(simp (disch:=omega) only [gF,nlt,n0,n1,n2,n3,k1,k2,w2,nt,nt2,ntk,c1,ck,L,d0,d1,d2,d3,d4,d5,d6,d7,d8,d9,d10,d11,d12,tk,ea,Br,Int.reduceBEq]<;>omega))
   try simp (disch:=omega) only [nlt,n0,n1,n2,n3,k1,k2,w2,nt,nt2,ntk,c1,ck,L,d0,d1,d2,d3,d4,d5,d6,d7,d8,d9,d10,d11,d12,tk,ea,Br,Int.reduceBEq]
   all_goals rfl
  ·have es:=EY (cs:=cs) (k:=k) (c:=c) (c':={ c with un:= -1 }) (p:=.sc (.int .i64 (-1))) (j:=6) (by omega) hg rfl
   obtain ⟨cs',ans',vs',j',q1,q2,q3,q4,q5⟩:=T (cs.set k { c with un:= -1 }) (setc _ ⟨⟨hcu.wf.ser,hcu.wf.mod⟩,hcu.s1,hcu.s2,hcu.s3,hcu.s4⟩) cs.length (by rw [List.length_set];omega) (by omega)
   refine ⟨cs',ans',vs',j',q1,q2,q3,q4,?_⟩;rw [←q5,C9]
   try unfold Aa
   repeat first
    |((with_reducible first|apply Aw|apply Al|apply Ay|apply Ar|apply A7|apply Cc|apply Bx|apply Am);· first|with_reducible rfl|(simp (disch:=omega) only [nlt,n0,n1,n2,n3,k1,k2,w2,nt,nt2,ntk,c1,ck,L,es,Br,Int.reduceBEq]<;>with_reducible rfl))
    |((with_reducible first|apply Ax|apply Au);· first|with_reducible rfl|omega|(simp (disch:=omega) only [gT,nlt,n0,n1,n2,n3,k1,k2,w2,nt,nt2,ntk,c1,ck,L,es,Br,Int.reduceBEq]<;>omega))
    |(with_reducible apply Av;· first|with_reducible rfl|(simp (disch:=omega) only [gF,nlt,n0,n1,n2,n3,k1,k2,w2,nt,nt2,ntk,c1,ck,L,es,Br,Int.reduceBEq]<;>omega))
   try simp (disch:=omega) only [nlt,n0,n1,n2,n3,k1,k2,w2,nt,nt2,ntk,c1,ck,L,es,Br,Int.reduceBEq]
   all_goals rfl
  ·obtain ⟨cs',ans',vs',j',q1,q2,q3,q4,q5⟩:=T cs hc cs.length (by omega) (by omega)
   refine ⟨cs',ans',vs',j',q1,q2,q3,q4,?_⟩;have f0:(v0==0)=false:=beq_eq_false_iff_ne.2 u0;have f1:(v0==1)=false:=beq_eq_false_iff_ne.2 u1;have f2:(v0==2)=false:=beq_eq_false_iff_ne.2 u2;have f3:(v0==3)=false:=beq_eq_false_iff_ne.2 u3;rw [←q5,C9]
   try unfold Aa
   repeat first
    |((with_reducible first|apply Aw|apply Al|apply Ay|apply Ar|apply A7|apply Cc|apply Bx|apply Am);· first|with_reducible rfl|(simp (disch:=omega) only [nlt,n0,n1,n2,n3,k1,k2,w2,nt,nt2,c1,ck,L,f0,f1,f2,f3,Br]<;>with_reducible rfl))
    |((with_reducible first|apply Ax|apply Au);· first|with_reducible rfl|omega|(simp (disch:=omega) only [gT,nlt,n0,n1,n2,n3,k1,k2,w2,nt,nt2,c1,ck,L,f0,f1,f2,f3,Br]<;>omega))
    |(with_reducible apply Av;· first|with_reducible rfl|(simp (disch:=omega) only [gF,nlt,n0,n1,n2,n3,k1,k2,w2,nt,nt2,c1,ck,L,f0,f1,f2,f3,Br]<;>omega))
   try simp (disch:=omega) only [nlt,n0,n1,n2,n3,k1,k2,w2,nt,nt2,c1,ck,L,f0,f1,f2,f3,Br]
   all_goals rfl
 |m+1,i,nn+1,j,cs,hi,hn,hcl,hc=>by
  obtain ⟨v0,j0,v00,v01,n0⟩:=Hi hl j 2 (by omega) (by omega)
  have n0:=n0 (fu:=2000) (d:=d+12);obtain ⟨c,hg⟩:∃c,cs[i]?=some c:=⟨_,List.getElem?_eq_getElem (by omega)⟩
  have hcu:=hc c (List.mem_of_getElem? hg);have hci:=hcu.in_;obtain ⟨d0,d1,d2,d3,d4,d5,d6,d7,d8,d9,d10,d11,d12⟩:=cer hg;have nt:Int.toNat (i:Int)=i:=He _;have w:wrap .i64 ((i:Int)+1)=((i+1:Nat):Int):=by rw [Aj (by omega) (by omega)];omega
  have wn:wrap .i64 ((n:Int)-1)=(n:Int)-1:=Aj (by omega) (by omega)
  have ci:(decide ((0:Int)<=i)&&decide ((i:Int)<cs.length))=true:=by simp;omega
  have L:=Ks cs;have lt:decide ((i:Int)<(n:Int))=true:=by simp;omega
  simp only [dkc] at n0
  have go:∀(seed:Int),(if (i:Int)=(n:Int)-1 then seed=71 else seed=wrap .u64 (wrap .i64 (81+(i:Int)))) ->
    Fin l (Dj 2000 (Ae C0 Tryz.prog 2000 (d+14)) a0_0n a0_0 a0_1 (nn+1) (n:Int) cs.length (k:Int) (i:Int) l.length (Af .i64 l) (j:Int) (Cp cs)):=by
   intro seed hs;have sg:=Aec (fu:=2000) (d:=d+1) (c:=c) (by omega) hci.wf hci.s1 hci.s2 seed 1 v0
   have su:=Ahb hcu seed 1 v0;generalize (Tg c seed 1 v0).2=er at *
   generalize (Tg c seed 1 v0).1=y at *
   have ep:=As4 (cs:=cs) (k:=i) (c':=y) (by omega)
   obtain ⟨cs',ans',vs',j',q1,q2,q3,q4,q5⟩:=Alf hl h1 h3 hk m (i+1) nn j0 (cs.set i y) (by omega) (by omega) (by rw [List.length_set];exact hcl) (fun x hx=>by
    rcases List.mem_or_eq_of_mem_set hx with hx|rfl
    ·exact hc x hx
    ·exact su)
   refine ⟨cs',ans',vs',j',q1,q2,q3,q4,?_⟩;rw [List.length_set] at q5;simp only [Ce.cells] at sg ep;rw [←q5,C9];by_cases hb:(i:Int)=(n:Int)-1
   ·rw [B4 hb] at hs;subst hs;have eb:((i:Int)==(n:Int)-1)=true:=by simp [hb]
    try unfold Aa
    repeat first
     |((with_reducible first|apply Aw|apply Al|apply Ay|apply Ar|apply A7|apply Cc|apply Bx|apply Am);· first|with_reducible rfl|(simp (disch:=omega) only [lt,wn,eb,n0,nt,w,ci,L,d0,d1,d2,d3,d4,d5,d6,d7,d8,d9,d10,d11,d12,sg,ep,Br]<;>with_reducible rfl))
     |((with_reducible first|apply Ax|apply Au);· first|with_reducible rfl|omega|(simp (disch:=omega) only [gT,lt,wn,eb,n0,nt,w,ci,L,d0,d1,d2,d3,d4,d5,d6,d7,d8,d9,d10,d11,d12,sg,ep,Br]<;>omega))
     |(with_reducible apply Av;· first|with_reducible rfl|(simp (disch:=omega) only [gF,lt,wn,eb,n0,nt,w,ci,L,d0,d1,d2,d3,d4,d5,d6,d7,d8,d9,d10,d11,d12,sg,ep,Br]<;>omega))
    try simp (disch:=omega) only [lt,wn,eb,n0,nt,w,ci,L,d0,d1,d2,d3,d4,d5,d6,d7,d8,d9,d10,d11,d12,sg,ep,Br]
    all_goals rfl
   ·rw [A6 hb] at hs;have eb:((i:Int)==(n:Int)-1)=false:=by simp [hb]
    rw [hs] at sg
    try unfold Aa
    repeat first
     |((with_reducible first|apply Aw|apply Al|apply Ay|apply Ar|apply A7|apply Cc|apply Bx|apply Am);· first|with_reducible rfl|(simp (disch:=omega) only [lt,wn,eb,n0,nt,w,ci,L,d0,d1,d2,d3,d4,d5,d6,d7,d8,d9,d10,d11,d12,sg,ep,Br]<;>with_reducible rfl))
     |((with_reducible first|apply Ax|apply Au);· first|with_reducible rfl|omega|(simp (disch:=omega) only [gT,lt,wn,eb,n0,nt,w,ci,L,d0,d1,d2,d3,d4,d5,d6,d7,d8,d9,d10,d11,d12,sg,ep,Br]<;>omega))
     |(with_reducible apply Av;· first|with_reducible rfl|(simp (disch:=omega) only [gF,lt,wn,eb,n0,nt,w,ci,L,d0,d1,d2,d3,d4,d5,d6,d7,d8,d9,d10,d11,d12,sg,ep,Br]<;>omega))
    try simp (disch:=omega) only [lt,wn,eb,n0,nt,w,ci,L,d0,d1,d2,d3,d4,d5,d6,d7,d8,d9,d10,d11,d12,sg,ep,Br]
    all_goals rfl
  by_cases hb:(i:Int)=(n:Int)-1
  ·exact go 71 (by rw [B4 hb])
  ·exact go _ (by rw [A6 hb])
theorem Alt (hl:l.length<=maxLen){n:Nat}(h1:1<=n)(h3:n<=3){k:Nat}(hk:k<n){j:Nat}{cs:List Ce}(hcl:cs.length=n)(hc:∀c∈cs,Cu c):
  Fin l (Ck 2000 (Ae C0 Tryz.prog 2000 (d+14)) a0_0n a0_0 a0_1 2000 (n:Int) cs.length (k:Int) l.length (Af .i64 l) (j:Int) (Cp cs)):=by
 rw [Rf (hnn:=by omega)]
 exact Alf hl h1 h3 hk n 0 2000 j cs (by omega) (by omega) hcl hc
theorem Al0 (hl:l.length<=maxLen){n:Nat}(h1:1<=n)(h3:n<=3):∀(m i nn j:Nat)(cs:List Ce),i+m=n->m<nn->cs.length=i->(∀c∈cs,Cu c) ->
  Fin l (Cj 2000 (Ae C0 Tryz.prog 2000 (d+14)) a0_0n a0_0 a0_1 nn 3 (n:Int) cs.length (i:Int) l.length (Af .i64 l) (j:Int) [.sc (.string lfS),.sc (.string mdS),.sc (.string tpS)] (Cp cs))
 |_,_,0,_,_,_,h,_,_=>by omega
 |0,i,nn+1,j,cs,hi,_,hcl,hc=>by
  obtain rfl:i=n:=by omega
  obtain ⟨v0,j0,v00,v01,n0⟩:=Hi hl j (i:Int) (by omega) (by omega)
  obtain ⟨v1,j1,v10,v11,n1⟩:=Hi hl j0 12 (by omega) (by omega)
  have n0:=n0 (fu:=2000) (d:=d+12);have n1:=n1 (fu:=2000) (d:=d+12);obtain ⟨k,rfl⟩:∃k:Nat,v0=k:=⟨v0.toNat,by omega⟩
  have ntk:Int.toNat (k:Int)=k:=He _;have nlt:∀x:Int,decide (x<x)=false:=fun x=>by simp
  obtain ⟨c,hg⟩:∃c,cs[k]?=some c:=⟨_,List.getElem?_eq_getElem (by omega)⟩
  have hcu:=hc c (List.mem_of_getElem? hg);have L:=Ks cs;have ck:(decide ((0:Int)<=k)&&decide ((k:Int)<cs.length))=true:=by simp;omega
  have setc:∀c':Ce,Cu c'->∀x∈cs.set k c',Cu x:=fun c' h' x hx=>by
   rcases List.mem_or_eq_of_mem_set hx with hx|rfl
   ·exact hc x hx
   ·exact h'
  simp only [dkc] at n0 n1;have T:=fun (c':Ce) (h':Cu c')=>Alt (d:=d) (a0_0n:=a0_0n) (a0_0:=a0_0) (a0_1:=a0_1) hl h1 h3 (k:=k) (by omega) (j:=j1) (cs:=cs.set k c') (by rw [List.length_set];omega) (setc c' h')
  have hcase:v1=0∨v1=1∨v1=2∨v1=3∨v1=4∨(v1≠0∧v1≠1∧v1≠2∧v1≠3∧v1≠4):=by omega
  rcases hcase with rfl|rfl|rfl|rfl|rfl|⟨u0,u1,u2,u3,u4⟩
  ·have es:=EY (cs:=cs) (k:=k) (c:=c) (c':={ c with auth:=false }) (p:=.sc (.bool false)) (j:=7) (by omega) hg rfl
   have hg':(cs.set k { c with auth:=false })[k]?=some { c with auth:=false }:=by rw [List.getElem?_set_self (by omega)]
   have es':=EY (k:=k) (c:={ c with auth:=false }) (c':={ c with auth:=false,path:=0 }) (p:=.sc (.int .i64 0)) (j:=8) (by omega) hg' rfl
   rw [List.set_set] at es';have L':(Cp (cs.set k { c with auth:=false })).length=cs.length*13:=by rw [Ks,List.length_set]
   obtain ⟨cs',ans',vs',j',q1,q2,q3,q4,q5⟩:=T { c with auth:=false,path:=0 } ⟨⟨hcu.wf.ser,hcu.wf.mod⟩,hcu.s1,hcu.s2,hcu.s3,hcu.s4⟩;refine ⟨cs',ans',vs',j',q1,q2,q3,q4,?_⟩;rw [List.length_set] at q5;rw [←q5,Bm]
   try unfold Aa
   repeat first
    |((with_reducible first|apply Aw|apply Al|apply Ay|apply Ar|apply A7|apply Cc|apply Bx|apply Am);· first|with_reducible rfl|(simp (disch:=omega) only [nlt,n0,n1,ntk,ck,L,es,L',es',Br,Int.reduceBEq]<;>with_reducible rfl))
    |((with_reducible first|apply Ax|apply Au);· first|with_reducible rfl|omega|(simp (disch:=omega) only [gT,nlt,n0,n1,ntk,ck,L,es,L',es',Br,Int.reduceBEq]<;>omega))
    |(with_reducible apply Av;· first|with_reducible rfl|(simp (disch:=omega) only [gF,nlt,n0,n1,ntk,ck,L,es,L',es',Br,Int.reduceBEq]<;>omega))
   try simp (disch:=omega) only [nlt,n0,n1,ntk,ck,L,es,L',es',Br,Int.reduceBEq]
   all_goals rfl
  ·have es:=EY (cs:=cs) (k:=k) (c:=c) (c':={ c with path:=0 }) (p:=.sc (.int .i64 0)) (j:=8) (by omega) hg rfl
   obtain ⟨cs',ans',vs',j',q1,q2,q3,q4,q5⟩:=T { c with path:=0 } ⟨⟨hcu.wf.ser,hcu.wf.mod⟩,hcu.s1,hcu.s2,hcu.s3,hcu.s4⟩;refine ⟨cs',ans',vs',j',q1,q2,q3,q4,?_⟩;rw [List.length_set] at q5;rw [←q5,Bm]
   try unfold Aa
   repeat first
    |((with_reducible first|apply Aw|apply Al|apply Ay|apply Ar|apply A7|apply Cc|apply Bx|apply Am);· first|with_reducible rfl|(simp (disch:=omega) only [nlt,n0,n1,ntk,ck,L,es,Br,Int.reduceBEq]<;>with_reducible rfl))
    |((with_reducible first|apply Ax|apply Au);· first|with_reducible rfl|omega|(simp (disch:=omega) only [gT,nlt,n0,n1,ntk,ck,L,es,Br,Int.reduceBEq]<;>omega))
    |(with_reducible apply Av;· first|with_reducible rfl|(simp (disch:=omega) only [gF,nlt,n0,n1,ntk,ck,L,es,Br,Int.reduceBEq]<;>omega))
   try simp (disch:=omega) only [nlt,n0,n1,ntk,ck,L,es,Br,Int.reduceBEq]
   all_goals rfl
  ·have es:=EY (cs:=cs) (k:=k) (c:=c) (c':={ c with iss:=otS }) (p:=.sc (.string otS)) (j:=1) (by omega) hg rfl
   obtain ⟨cs',ans',vs',j',q1,q2,q3,q4,q5⟩:=T { c with iss:=otS } ⟨⟨hcu.wf.ser,hcu.wf.mod⟩,hcu.s1,(by show otS.size<=5;decide),hcu.s3,hcu.s4⟩
   refine ⟨cs',ans',vs',j',q1,q2,q3,q4,?_⟩;rw [List.length_set] at q5;rw [←q5,Bm]
   try unfold Aa
   repeat first
    |((with_reducible first|apply Aw|apply Al|apply Ay|apply Ar|apply A7|apply Cc|apply Bx|apply Am);· first|with_reducible rfl|(simp (disch:=omega) only [nlt,n0,n1,ntk,ck,L,es,Br,Int.reduceBEq]<;>with_reducible rfl))
    |((with_reducible first|apply Ax|apply Au);· first|with_reducible rfl|omega|(simp (disch:=omega) only [gT,nlt,n0,n1,ntk,ck,L,es,Br,Int.reduceBEq]<;>omega))
    |(with_reducible apply Av;· first|with_reducible rfl|(simp (disch:=omega) only [gF,nlt,n0,n1,ntk,ck,L,es,Br,Int.reduceBEq]<;>omega))
   try simp (disch:=omega) only [nlt,n0,n1,ntk,ck,L,es,Br,Int.reduceBEq]
   all_goals rfl
  ·have es:=EY (cs:=cs) (k:=k) (c:=c) (c':={ c with subj:=otS }) (p:=.sc (.string otS)) (j:=0) (by omega) hg rfl
   obtain ⟨cs',ans',vs',j',q1,q2,q3,q4,q5⟩:=T { c with subj:=otS } ⟨⟨hcu.wf.ser,hcu.wf.mod⟩,(by show otS.size<=5;decide),hcu.s2,hcu.s3,hcu.s4⟩
   refine ⟨cs',ans',vs',j',q1,q2,q3,q4,?_⟩;rw [List.length_set] at q5;rw [←q5,Bm]
   try unfold Aa
   repeat first
    |((with_reducible first|apply Aw|apply Al|apply Ay|apply Ar|apply A7|apply Cc|apply Bx|apply Am);· first|with_reducible rfl|(simp (disch:=omega) only [nlt,n0,n1,ntk,ck,L,es,Br,Int.reduceBEq]<;>with_reducible rfl))
    |((with_reducible first|apply Ax|apply Au);· first|with_reducible rfl|omega|(simp (disch:=omega) only [gT,nlt,n0,n1,ntk,ck,L,es,Br,Int.reduceBEq]<;>omega))
    |(with_reducible apply Av;· first|with_reducible rfl|(simp (disch:=omega) only [gF,nlt,n0,n1,ntk,ck,L,es,Br,Int.reduceBEq]<;>omega))
   try simp (disch:=omega) only [nlt,n0,n1,ntk,ck,L,es,Br,Int.reduceBEq]
   all_goals rfl
  ·have es:=EY (cs:=cs) (k:=k) (c:=c) (c':={ c with un:=c.fr }) (p:=.sc (.int .i64 c.fr)) (j:=6) (by omega) hg rfl
   have c5:=(cer hg).2.2.2.2.2.1;have c5':(Cp cs).getD (k*13+5) .top=.sc (.int .i64 c.fr):=c5;obtain ⟨cs',ans',vs',j',q1,q2,q3,q4,q5⟩:=T { c with un:=c.fr } ⟨⟨hcu.wf.ser,hcu.wf.mod⟩,hcu.s1,hcu.s2,hcu.s3,hcu.s4⟩;refine ⟨cs',ans',vs',j',q1,q2,q3,q4,?_⟩;rw [List.length_set] at q5;rw [←q5,Bm]
   try unfold Aa
   repeat first
    |((with_reducible first|apply Aw|apply Al|apply Ay|apply Ar|apply A7|apply Cc|apply Bx|apply Am);· first|with_reducible rfl|(simp (disch:=omega) only [nlt,n0,n1,ntk,ck,L,c5',es,Br,Int.reduceBEq]<;>with_reducible rfl))
    |((with_reducible first|apply Ax|apply Au);· first|with_reducible rfl|omega|(simp (disch:=omega) only [gT,nlt,n0,n1,ntk,ck,L,c5',es,Br,Int.reduceBEq]<;>omega))
    |(with_reducible apply Av;· first|with_reducible rfl|(simp (disch:=omega) only [gF,nlt,n0,n1,ntk,ck,L,c5',es,Br,Int.reduceBEq]<;>omega))
   try simp (disch:=omega) only [nlt,n0,n1,ntk,ck,L,c5',es,Br,Int.reduceBEq]
   all_goals rfl
  ·have f0:(v1==0)=false:=beq_eq_false_iff_ne.2 u0;have f1:(v1==1)=false:=beq_eq_false_iff_ne.2 u1;have f2:(v1==2)=false:=beq_eq_false_iff_ne.2 u2;have f3:(v1==3)=false:=beq_eq_false_iff_ne.2 u3;have f4:(v1==4)=false:=beq_eq_false_iff_ne.2 u4;obtain ⟨cs',ans',vs',j',q1,q2,q3,q4,q5⟩:=Alt (d:=d) (a0_0n:=a0_0n) (a0_0:=a0_0) (a0_1:=a0_1) hl h1 h3 (k:=k) (by omega) (j:=j1) hcl hc
   refine ⟨cs',ans',vs',j',q1,q2,q3,q4,?_⟩;rw [←q5,Bm]
   try unfold Aa
   repeat first
    |((with_reducible first|apply Aw|apply Al|apply Ay|apply Ar|apply A7|apply Cc|apply Bx|apply Am);· first|with_reducible rfl|(simp (disch:=omega) only [nlt,n0,n1,ntk,ck,L,f0,f1,f2,f3,f4,Br]<;>with_reducible rfl))
    |((with_reducible first|apply Ax|apply Au);· first|with_reducible rfl|omega|(simp (disch:=omega) only [gT,nlt,n0,n1,ntk,ck,L,f0,f1,f2,f3,f4,Br]<;>omega))
    |(with_reducible apply Av;· first|with_reducible rfl|(simp (disch:=omega) only [gF,nlt,n0,n1,ntk,ck,L,f0,f1,f2,f3,f4,Br]<;>omega))
   try simp (disch:=omega) only [nlt,n0,n1,ntk,ck,L,f0,f1,f2,f3,f4,Br]
   all_goals rfl
 |m+1,i,nn+1,j,cs,hi,hn,hcl,hc=>by
  obtain ⟨v0,j0,v00,v01,n0⟩:=Hi hl j 3 (by omega) (by omega)
  obtain ⟨v1,j1,v10,v11,n1⟩:=Hi hl j0 5 (by omega) (by omega)
  obtain ⟨v2,j2,v20,v21,n2⟩:=Hi hl j1 2 (by omega) (by omega)
  have n0:=n0 (fu:=2000) (d:=d+12);have n1:=n1 (fu:=2000) (d:=d+12);have n2:=n2 (fu:=2000) (d:=d+12);have ky:=JF (fu:=2000) (d:=d+1) (by omega) (wrap .u64 (wrap .i64 (80+(i:Int)))) 1
  generalize Gq (wrap .u64 (wrap .i64 (80+(i:Int)))) 1=K at *
  simp only [Ky.cells] at ky;simp only [dkc] at n0 n1 n2;obtain ⟨s1,z1,g1⟩:=SD (n:=i) (S:=[lfS,mdS,tpS]) (m:=5) (by simp;omega) (by decide)
  simp only [Zzw,List.map_nil] at g1;have nt:Int.toNat (i:Int)=i:=He _;have nt1:Int.toNat ((i+1:Nat):Int)=i+1:=He _;have w:wrap .i64 ((i:Int)+1)=((i+1:Nat):Int):=by rw [Aj (by omega) (by omega)];omega
  have wn:wrap .i64 ((n:Int)-1)=(n:Int)-1:=Aj (by omega) (by omega)
  have ci:(decide ((0:Int)<=i)&&decide ((i:Int)<((3:Nat):Int)))=true:=by simp;omega
  have L:=Ks cs;have tk:List.take (cs.length*13) (Cp cs)=Cp cs:=R9 (by omega)
  have lt:decide ((i:Int)<(n:Int))=true:=by simp;omega
  have e0:Af .u64 []=[]:=rfl
  have go:∀(iss:ByteArray) (auth:Bool) (path:Int) (jj:Nat),iss.size<=5 ->
    Fin l (Cj 2000 (Ae C0 Tryz.prog 2000 (d+14)) a0_0n a0_0 a0_1 nn 3 (n:Int) (cs.length+1) ((i+1:Nat):Int) l.length (Af .i64 l) (jj:Int) [.sc (.string lfS),.sc (.string mdS),.sc (.string tpS)]
     (Cp cs++[.sc (.string s1),.sc (.string iss),.sc (.int .u64 (wrap .u64 (i:Int))),.sc (.int .i64 K.h),.sc (.int .u64 K.root),.sc (.int .i64 v0),.sc (.int .i64 (wrap .i64 (10+v1))),.sc (.bool auth),.sc (.int .i64 path),.sc (.int .u64 3),.sc (.int .i64 0),.lst false 1 0 [],.lst false 1 0 []])):=by
   intro iss auth path jj hs
   have:=Al0 hl h1 h3 m (i+1) nn jj (cs++[⟨s1,iss,wrap .u64 (i:Int),K,v0,wrap .i64 (10+v1),auth,path,3,⟨0,[],[]⟩⟩]) (by omega) (by omega) (by rw [Jz,List.length_singleton];omega) (fun x hx=>by
    rcases List.mem_append.1 hx with hx|hx
    ·exact hc x hx
    ·rw [List.mem_singleton.1 hx];exact ⟨⟨(Gs _).1,(by show (0:Int)<=3;omega)⟩,z1,hs,(by show ([]:List Int).length<=18;simp),(by show ([]:List Int).length<=4;simp)⟩)
   rw [Jz,List.length_singleton,OL,NH] at this;exact this
  by_cases hlast:(i:Int)<(n:Int)-1
  ·obtain ⟨s2,z2,g2⟩:=SD (n:=i+1) (S:=[lfS,mdS,tpS]) (m:=5) (by simp;omega) (by decide)
   simp only [Zzw,List.map_nil] at g2;have c1:(decide ((0:Int)<=((i+1:Nat):Int))&&decide (((i+1:Nat):Int)<((3:Nat):Int)))=true:=by simp;omega
   have hb:decide ((i:Int)<(n:Int)-1)=true:=decide_eq_true hlast;by_cases h0:(i:Int)>0
   ·have h0':decide ((i:Int)>0)=true:=decide_eq_true h0;obtain ⟨pth,hp⟩:∃p,(if (2:Int)<wrap .i64 (wrap .i64 ((i:Int)-1)+v2) then (2:Int) else wrap .i64 (wrap .i64 ((i:Int)-1)+v2))=p:=⟨_,rfl⟩
    obtain ⟨cs',ans',vs',j',q1,q2,q3,q4,q5⟩:=go s2 true pth j2 z2;refine ⟨cs',ans',vs',j',q1,q2,q3,q4,?_⟩;rw [←q5,Bm]
    try unfold Aa
    repeat first
     |((with_reducible first|apply Aw|apply Al|apply Ay|apply Ar|apply A7|apply Cc|apply Bx|apply Am);· first|with_reducible rfl|(simp (disch:=omega) only [lt,ci,g1,ky,n0,n1,h0',n2,hp,wn,hb,w,c1,nt,nt1,g2,L,tk,Br,B8]<;>with_reducible rfl))
     |((with_reducible first|apply Ax|apply Au);· first|with_reducible rfl|omega|(simp (disch:=omega) only [gT,lt,ci,g1,ky,n0,n1,h0',n2,hp,wn,hb,w,c1,nt,nt1,g2,L,tk,Br,B8]<;>omega))
     |(with_reducible apply Av;· first|with_reducible rfl|(simp (disch:=omega) only [gF,lt,ci,g1,ky,n0,n1,h0',n2,hp,wn,hb,w,c1,nt,nt1,g2,L,tk,Br,B8]<;>omega))
    try simp (disch:=omega) only [lt,ci,g1,ky,n0,n1,h0',n2,hp,wn,hb,w,c1,nt,nt1,g2,L,tk,Br,B8]
    all_goals rfl
   ·have h0':decide ((i:Int)>0)=false:=decide_eq_false h0;obtain ⟨cs',ans',vs',j',q1,q2,q3,q4,q5⟩:=go s2 false 0 j1 z2;refine ⟨cs',ans',vs',j',q1,q2,q3,q4,?_⟩;rw [←q5,Bm]
    try unfold Aa
    repeat first
     |((with_reducible first|apply Aw|apply Al|apply Ay|apply Ar|apply A7|apply Cc|apply Bx|apply Am);· first|with_reducible rfl|(simp (disch:=omega) only [lt,ci,g1,ky,n0,n1,h0',wn,hb,w,c1,nt,nt1,g2,L,tk,Br,B8]<;>with_reducible rfl))
     |((with_reducible first|apply Ax|apply Au);· first|with_reducible rfl|omega|(simp (disch:=omega) only [gT,lt,ci,g1,ky,n0,n1,h0',wn,hb,w,c1,nt,nt1,g2,L,tk,Br,B8]<;>omega))
     |(with_reducible apply Av;· first|with_reducible rfl|(simp (disch:=omega) only [gF,lt,ci,g1,ky,n0,n1,h0',wn,hb,w,c1,nt,nt1,g2,L,tk,Br,B8]<;>omega))
    try simp (disch:=omega) only [lt,ci,g1,ky,n0,n1,h0',wn,hb,w,c1,nt,nt1,g2,L,tk,Br,B8]
    all_goals rfl
  ·have hb:decide ((i:Int)<(n:Int)-1)=false:=decide_eq_false hlast;by_cases h0:(i:Int)>0
   ·have h0':decide ((i:Int)>0)=true:=decide_eq_true h0;obtain ⟨pth,hp⟩:∃p,(if (2:Int)<wrap .i64 (wrap .i64 ((i:Int)-1)+v2) then (2:Int) else wrap .i64 (wrap .i64 ((i:Int)-1)+v2))=p:=⟨_,rfl⟩
    obtain ⟨cs',ans',vs',j',q1,q2,q3,q4,q5⟩:=go SR true pth j2 (by decide)
    refine ⟨cs',ans',vs',j',q1,q2,q3,q4,?_⟩;rw [←q5,Bm]
    try unfold Aa
    repeat first
     |((with_reducible first|apply Aw|apply Al|apply Ay|apply Ar|apply A7|apply Cc|apply Bx|apply Am);· first|with_reducible rfl|(simp (disch:=omega) only [lt,ci,g1,ky,n0,n1,h0',n2,hp,wn,hb,w,nt,L,tk,Br,B8]<;>with_reducible rfl))
     |((with_reducible first|apply Ax|apply Au);· first|with_reducible rfl|omega|(simp (disch:=omega) only [gT,lt,ci,g1,ky,n0,n1,h0',n2,hp,wn,hb,w,nt,L,tk,Br,B8]<;>omega))
     |(with_reducible apply Av;· first|with_reducible rfl|(simp (disch:=omega) only [gF,lt,ci,g1,ky,n0,n1,h0',n2,hp,wn,hb,w,nt,L,tk,Br,B8]<;>omega))
    try simp (disch:=omega) only [lt,ci,g1,ky,n0,n1,h0',n2,hp,wn,hb,w,nt,L,tk,Br,B8]
    all_goals rfl
   ·have h0':decide ((i:Int)>0)=false:=decide_eq_false h0;obtain ⟨cs',ans',vs',j',q1,q2,q3,q4,q5⟩:=go SR false 0 j1 (by decide)
    refine ⟨cs',ans',vs',j',q1,q2,q3,q4,?_⟩;rw [←q5,Bm]
    try unfold Aa
    repeat first
     |((with_reducible first|apply Aw|apply Al|apply Ay|apply Ar|apply A7|apply Cc|apply Bx|apply Am);· first|with_reducible rfl|(simp (disch:=omega) only [lt,ci,g1,ky,n0,n1,h0',wn,hb,w,nt,L,tk,Br,B8]<;>with_reducible rfl))
     |((with_reducible first|apply Ax|apply Au);· first|with_reducible rfl|omega|(simp (disch:=omega) only [gT,lt,ci,g1,ky,n0,n1,h0',wn,hb,w,nt,L,tk,Br,B8]<;>omega))
     |(with_reducible apply Av;· first|with_reducible rfl|(simp (disch:=omega) only [gF,lt,ci,g1,ky,n0,n1,h0',wn,hb,w,nt,L,tk,Br,B8]<;>omega))
    try simp (disch:=omega) only [lt,ci,g1,ky,n0,n1,h0',wn,hb,w,nt,L,tk,Br,B8]
    all_goals rfl
theorem Ain (hl:l.length<=maxLen)(j:Nat):Fin l (Ae C0 Tryz.prog 2000 (d+15) Lw [.pbox (dkc l j)]):=by
 obtain ⟨v0,j0,v00,v01,n0⟩:=Hi hl j 3 (by omega) (by omega)
 have n0:=n0 (fu:=2000) (d:=d+12);obtain ⟨m,rfl⟩:∃m:Nat,v0=m:=⟨v0.toNat,by omega⟩
 have w:wrap .i64 (1+(m:Int))=((1+m:Nat):Int):=by rw [Aj (by omega) (by omega)];omega
 obtain ⟨cs',ans',vs',j',q1,q2,q3,q4,q5⟩:=Al0 (d:=d) (a0_0n:=l.length) (a0_0:=Af .i64 l) (a0_1:=(j:Int)) hl (n:=1+m) (by omega) (by omega) (1+m) 0 2000 j0 [] (by omega) (by omega) rfl (by intro c h;cases h)
 refine ⟨cs',ans',vs',j',q1,q2,q3,q4,?_⟩;have E:=Vv 2000 (d+14) l.length (Af .i64 l) (j:Int);refine E.trans ?_;have z:Cp []=[]:=rfl;have z0:((0:Nat):Int)=0:=rfl;rw [z,z0,Wh] at q5;simp only [dkc] at n0;rw [←q5]
 try unfold Aa
 repeat first
  |((with_reducible first|apply Aw|apply Al|apply Ay|apply Ar|apply A7|apply Cc|apply Bx|apply Am);· first|with_reducible rfl|(simp (disch:=omega) only [n0,w]<;>with_reducible rfl))
  |((with_reducible first|apply Ax|apply Au);· first|with_reducible rfl|omega|(simp (disch:=omega) only [gT,n0,w]<;>omega))
  |(with_reducible apply Av;· first|with_reducible rfl|(simp (disch:=omega) only [gF,n0,w]<;>omega))
 try simp (disch:=omega) only [n0,w]
 all_goals rfl
end
end
section
open Go.IntKind (wrap)
theorem Aim (c:Ce)(now:Int)(l:List Rv):Qv c now l=0∨Qv c now l=39:=by
 unfold Qv;split
 ·exact .inr rfl
 ·exact .inl rfl
theorem Af6 {c:Ce}{now:Int}{l:List Rv}{r:Rv}(hr:r∈l)(h:Sa c now r=true):Qv c now l=39:=by
 unfold Qv;rw [B4 (List.any_eq_true.2 ⟨r,hr,h⟩)]
theorem Ae8 {c:Ce}{now:Int}{l:List Rv}(h:∀r∈l,Sa c now r=false):Qv c now l=0:=by
 unfold Qv;rw [A6];intro e;obtain ⟨r,hr,e⟩:=List.any_eq_true.1 e;rw [h r hr] at e;cases e
theorem WR {c:Ce}{i:Int}{l:List Rv}{now:Int}(h:G5 c i l now=0):A3 c=0∧c.fr<=now∧now<=c.un∧(i>0->c.auth=true)∧Qv c now l=0∧∀l',G5 c i l' now=Qv c now l':=by
 unfold G5 at h;by_cases h0:A3 c=0
 rotate_left
 ·rw [B4 h0] at h;exact absurd h h0
 have q0:¬(A3 c≠0):=by simp [h0]
 rw [A6 q0] at h;by_cases h1:now<c.fr
 ·rw [B4 h1] at h;cases h
 rw [A6 h1] at h;by_cases h2:now>c.un
 ·rw [B4 h2] at h;cases h
 rw [A6 h2] at h;by_cases h3:i>0
 ·rw [B4 h3] at h;by_cases h4:c.auth=false
  ·rw [B4 h4] at h;cases h
  rw [A6 h4] at h;by_cases h5:c.path<i-1
  ·rw [B4 h5] at h;cases h
  rw [A6 h5] at h;refine ⟨h0,by omega,by omega,fun _=>by simpa using h4,h,fun l'=>?_⟩
  unfold G5;rw [A6 q0,A6 h1,A6 h2,B4 h3,A6 h4,A6 h5]
 ·rw [A6 h3] at h;refine ⟨h0,by omega,by omega,fun q=>absurd q h3,h,fun l'=>?_⟩
  unfold G5;rw [A6 q0,A6 h1,A6 h2,A6 h3]
theorem Acd {ans:List An}{vs:List Rv}{now:Int}{i:Nat}{c:Ce}(h:(Gv ans vs now i [c]).2=0):G5 c i vs now=0∧¬R4 c 0 ans<0∧Gv ans vs now i [c]=(R4 c 0 ans,0):=by
 unfold Gv at h ⊢;by_cases h1:G5 c i vs now=0
 rotate_left
 ·rw [B4 h1] at h;exact absurd h h1
 have q:¬(G5 c i vs now≠0):=by simp [h1]
 rw [A6 q] at h ⊢;unfold YZ at h ⊢;by_cases h2:R4 c 0 ans<0
 ·rw [B4 h2] at h;cases h
 ·rw [A6 h2];exact ⟨h1,h2,rfl⟩
theorem Acz {ans:List An}{vs:List Rv}{now:Int}{i:Nat}{c c2:Ce}{r:List Ce}(h:(Gv ans vs now i (c::c2::r)).2=0):G5 c i vs now=0∧eqS c.iss c2.subj=true∧Uc c c2.key=0∧Gv ans vs now i (c::c2::r)=Gv ans vs now (i+1) (c2::r):=by
 rw [Gv] at h
 conv=>rhs;rhs;rhs;lhs;rw [Gv]
 by_cases h1:G5 c i vs now=0
 rotate_left
 ·rw [B4 h1] at h;exact absurd h h1
 have q:¬(G5 c i vs now≠0):=by simp [h1]
 rw [A6 q] at h ⊢;cases h2:eqS c.iss c2.subj
 ·rw [B4 h2] at h;cases h
 rw [A6 (by simp [h2])] at h ⊢
 by_cases h3:Uc c c2.key=0
 rotate_left
 ·rw [B4 h3] at h;exact absurd h h3
 have q3:¬(Uc c c2.key≠0):=by simp [h3]
 rw [A6 q3];exact ⟨h1,rfl,h3,rfl⟩
theorem OC {ans:List An}{vs:List Rv}{now:Int}:∀(r:List Ce)(i:Nat),(Gv ans [] now i r).2=0 ->
  ((∃c∈r,Qv c now vs=39)->(Gv ans vs now i r).2=39)∧((∀c∈r,Qv c now vs=0)->Gv ans vs now i r=Gv ans [] now i r)
 |[],i,_=>⟨fun ⟨c,h,_⟩=>(by cases h),fun _=>(by rw [Gv,Gv])⟩
 |[c],i,h=>by
  obtain ⟨h1,h2,h3⟩:=Acd h;have lk:=(WR h1).2.2.2.2.2 vs;constructor
  ·rintro ⟨c',hm,e⟩
   rw [List.mem_singleton.1 hm] at e;unfold Gv;rw [lk,e,B4 (by simp)]
  ·intro ha;have e:=ha c (by simp)
   rw [h3];unfold Gv;rw [lk,e,A6 (by simp)]
   unfold YZ;rw [A6 h2]
 |c::c2::r,i,h=>by
  obtain ⟨h1,h2,h3,h4⟩:=Acz h;have lk:=(WR h1).2.2.2.2.2 vs;have hr:=h;rw [h4] at hr;obtain ⟨i1,i2⟩:=OC (vs:=vs) (c2::r) (i+1) hr;have q3:¬(Uc c c2.key≠0):=by simp [h3]
  constructor
  ·rintro ⟨c',hm,e⟩
   rw [Gv];by_cases h0:Qv c now vs=39
   ·rw [lk,h0,B4 (by simp)]
   ·have z:Qv c now vs=0:=by
     rcases Aim c now vs with z|z
     ·exact z
     ·exact absurd z h0
    rw [lk,z,A6 (by simp),A6 (by simp [h2]),A6 q3]
    refine i1 ⟨c',?_,e⟩;rcases List.mem_cons.1 hm with rfl|hm
    ·exact absurd e h0
    ·exact hm
  ·intro ha;have e:=ha c (by simp)
   rw [h4,←i2 (fun c' h'=>ha c' (by simp only [List.mem_cons] at h' ⊢;exact .inr h'))]
   rw [Gv,lk,e,A6 (by simp),A6 (by simp [h2]),A6 q3]
theorem Agt {cs:List Ce}{ans:List An}{vs:List Rv}{now:Int}(h:(Qj cs ans vs now).2=0):0<=now∧now<=1099511627776∧1<=cs.length∧cs.length<=3∧∀vs',Qj cs ans vs' now=Gv ans vs' now 0 cs:=by
 unfold Qj at h;by_cases h1:now<0
 ·rw [B4 h1] at h;cases h
 rw [A6 h1] at h;by_cases h2:now>1099511627776
 ·rw [B4 h2] at h;cases h
 rw [A6 h2] at h;by_cases h3:cs.length<1
 ·rw [B4 h3] at h;cases h
 rw [A6 h3] at h;by_cases h4:cs.length>3
 ·rw [B4 h4] at h;cases h
 refine ⟨by omega,by omega,by omega,by omega,fun vs'=>?_⟩
 unfold Qj;rw [A6 h1,A6 h2,A6 h3,A6 h4]
end
section
open Go.IntKind (wrap)
set_option maxRecDepth 100000
abbrev Fz:FuncId:=8
theorem Ju (fu d a0n:Nat)(a0:List PV)(a1 a2 a3:Int):Ae C0 Tryz.prog fu (d+1) Fz [.lst false 1 a0n a0,.sc (.int .u8 a1),.sc (.int .u8 a2),.sc (.int .u8 a3)]=(fun (call:Ai)=>Ag (call 11 [.lst false 1 a0n a0]) fun x1 x2=>Ac x2<|Ab x1 fun x3 x4=>W6 x3 fun x5=>Ab x5 fun x6 x7=>Fd 1 x6 fun x8 x9 Cm=>Ab x7 fun C3 Dt=>Ad .i64 C3 fun D0=>Ac Dt<|Ac x4<|Ag (call 26 [.pbox [.lst false 1 x9 Cm,.sc (.int .i64 D0)]]) fun Dq Ed=>Ab Dq fun Ek Ez=>Fd 13 Ek fun Fo Fg Ex=>Ab Ez fun H6 Gz=>Fd 3 H6 fun Hx D1 Dm=>Ab Gz fun F6 H9=>Fd 3 F6 fun Ey Jw Mq=>Ac H9<|Ab Ed fun J1 Mm=>Ab J1 fun Ml Ny=>Fd 1 Ml fun Pu Qp Sd=>Ab Ny fun G2 J0=>Ad .i64 G2 fun Ur=>Ac J0<|Ac Mm<|Aa (Int.tmod a3 16) fun Yu=>Aa (wrap .i64 Yu) fun Oo=>Ag (call 27 [.lst false 13 Fg Ex,.lst false 3 D1 Dm,.lst false 3 0 [],.sc (.int .i64 Oo)]) fun Uh Tq=>Ac Tq<|Ab Uh fun Sr Tp=>Ad .i64 Sr fun Xh=>Ab Tp fun X6 Ss=>Ad .i64 X6 fun Wm=>Ac Ss<|Bc (Wm != 0) (Ag (call 10 []) fun Wy Xd=>Ac Xd<|Ab Wy fun Pi Yi=>Bl Pi fun BM=>Ac Yi<|some (A0.mk [.sc (.bool BM)] [])) (Aa (wrap .i64 a1) fun BL=>Ap (decide ((↑Fg:Int)≠0))<|Aa (Int.tmod BL (↑Fg:Int)) fun P2=>Ap (decide (0<=P2)&&decide (P2<(↑Fg:Int)))<|Co (List.getD Ex (Int.toNat P2*13) .top) fun Ub=>Co (List.getD Ex (Int.toNat P2*13+1) .top) fun Ym=>Ad .u64 (List.getD Ex (Int.toNat P2*13+1+1) .top) fun AF=>Ad .i64 (List.getD Ex (Int.toNat P2*13+1+1+1) .top) fun Y2=>Ad .u64 (List.getD Ex (Int.toNat P2*13+1+1+1+1) .top) fun Zi=>Ad .i64 (List.getD Ex (Int.toNat P2*13+1+1+1+1+1) .top) fun CH=>Ad .i64 (List.getD Ex (Int.toNat P2*13+1+1+1+1+1+1) .top) fun AO=>Bl (List.getD Ex (Int.toNat P2*13+1+1+1+1+1+1+1) .top) fun BK=>Ad .i64 (List.getD Ex (Int.toNat P2*13+1+1+1+1+1+1+1+1) .top) fun W0=>Ad .u64 (List.getD Ex (Int.toNat P2*13+1+1+1+1+1+1+1+1+1) .top) fun Xq=>Ad .i64 (List.getD Ex (Int.toNat P2*13+1+1+1+1+1+1+1+1+1+1) .top) fun EF=>Fd 1 (List.getD Ex (Int.toNat P2*13+1+1+1+1+1+1+1+1+1+1+1) .top) fun BQ BI Y1=>Fd 1 (List.getD Ex (Int.toNat P2*13+1+1+1+1+1+1+1+1+1+1+1+1) .top) fun BN KF BJ=>Aa (Int.tmod a2 20) fun CU=>Aa (wrap .i64 CU) fun GQ=>Ag (call 27 [.lst false 13 Fg Ex,.lst false 3 D1 Dm,.lst false 3 2 [.sc (.string (ByteArray.mk #[110,111,98,111,100,121])),.sc (.int .u64 AF),.sc (.int .i64 0),.sc (.string Ym),.sc (.int .u64 AF),.sc (.int .i64 GQ)],.sc (.int .i64 Oo)]) fun BP ET=>Ac ET<|Ab BP fun IH JL=>Ad .i64 IH fun TB=>Ab JL fun SE QK=>Ad .i64 SE fun OA=>Ac QK<|Aa (Int.tmod a2 20) fun WJ=>Aa (wrap .i64 WJ) fun SX=>Bc (decide (SX<=Oo)) (Bc (OA==39) (Ag (call 10 []) fun SS SN=>Ac SN<|Ab SS fun GN PB=>Bl GN fun RW=>Ac PB<|some (A0.mk [.sc (.bool RW)] [])) (some (A0.mk [.sc (.bool false)] []))) (Bc (OA==0) (Bc (TB==Xh) (Ag (call 10 []) fun UC UN=>Ac UN<|Ab UC fun ZL ZZ=>Bl ZL fun YV=>Ac ZZ<|some (A0.mk [.sc (.bool YV)] [])) (some (A0.mk [.sc (.bool false)] []))) (some (A0.mk [.sc (.bool false)] []))))) (Ae C0 Tryz.prog fu d):=by kernel_rfl
end
section
open Go.IntKind (wrap)
set_option maxRecDepth 1000000
abbrev nbS:ByteArray:=⟨#[(110:UInt8),(111:UInt8),(98:UInt8),(111:UInt8),(100:UInt8),(121:UInt8)]⟩
theorem Aiu {a b:ByteArray}(h:eqS a b=true):a.size=b.size:=by
 have e:=eq_of_beq h;have:=congrArg List.length e;rw [Array.length_toList,Array.length_toList] at this;exact this
theorem certificateStrict_plain (qs:List PV)(h:Bj (WTv Tryz.prog) [30,5,5,5] qs):∃fu d,Ae C0 Tryz.prog fu d Fz qs=some ⟨[.sc (.bool true)],[]⟩:=by
 obtain ⟨q0,_,rfl,h0,g⟩:=h.cons_inv;obtain ⟨q1,_,rfl,h1,g⟩:=g.cons_inv;obtain ⟨q2,_,rfl,h2,g⟩:=g.cons_inv;obtain ⟨q3,_,rfl,h3,g⟩:=g.cons_inv;obtain rfl:=g.nil_inv;clear h g;obtain ⟨l,rfl,hl,_⟩:=Ahd (k:=.i64) (e:=3) (by kernel_rfl) (by kernel_rfl) (by kernel_rfl) (by kernel_rfl) h0
 obtain ⟨wh,rfl,w1⟩:=SM (k:=.u8) (by kernel_rfl) (by kernel_rfl) h1
 obtain ⟨at_,rfl,w2⟩:=SM (k:=.u8) (by kernel_rfl) (by kernel_rfl) h2
 obtain ⟨nw,rfl,w3⟩:=SM (k:=.u8) (by kernel_rfl) (by kernel_rfl) h3
 have w1:=Ait w1;have w2:=Ait w2;have w3:=Ait w3;clear h0 h1 h2 h3;refine ⟨2000,19,?_⟩;refine (Ju 2000 18 l.length (Af .i64 l) wh at_ nw).trans ?_;have aw:=Af0 (d:=3);have nq:=Aot (fu:=2000) (d:=17) (l:=l);obtain ⟨cs,ans,vs,j,hc,hcl,hal,hvl,ce⟩:=Ain (d:=3) hl 0;obtain ⟨t,ht⟩:∃t,wrap .i64 (Int.tmod nw 16)=t:=⟨_,rfl⟩;obtain ⟨a,ha⟩:∃a,wrap .i64 (Int.tmod at_ 20)=a:=⟨_,rfl⟩;have hin:∀c∈cs,c.in_:=fun c h=>(hc c h).in_
 have p0:=AZ (fu:=2000) (d:=8) (by omega) hin (ans:=ans) (by omega) (vs:=[]) (by simp) t
 have e0:G0 []=[]:=rfl;have z0:((0:Nat):Int)=0:=rfl;rw [e0,Wh] at p0;simp only [dkc] at nq ce;rw [z0] at nq ce;by_cases hk:(Qj cs ans [] t).2=0
 rotate_left
 ·have hk':((Qj cs ans [] t).2 != 0)=true:=by simp [hk]
  try unfold Aa
  repeat first
   |((with_reducible first|apply Aw|apply Al|apply Ay|apply Ar|apply A7|apply Cc|apply QZ|apply Am);· first|with_reducible rfl|(simp (disch:=omega) only [nq,ce,ht,p0,hk',aw]<;>with_reducible rfl))
   |((with_reducible first|apply Ax|apply Au);· first|with_reducible rfl|omega|(simp (disch:=omega) only [gT,nq,ce,ht,p0,hk',aw]<;>omega))
   |(with_reducible apply Av;· first|with_reducible rfl|(simp (disch:=omega) only [gF,nq,ce,ht,p0,hk',aw]<;>omega))
  try simp (disch:=omega) only [nq,ce,ht,p0,hk',aw]
  all_goals rfl
 have hk':((Qj cs ans [] t).2 != 0)=false:=by simp [hk]
 obtain ⟨t0,t1,c1,c3,pe⟩:=Agt hk;have wh':wrap .i64 wh=wh:=Aj (by omega) (by omega)
 have m0:0<=Int.tmod wh (cs.length:Int):=Int.tmod_nonneg _ w1.1;have m1:Int.tmod wh (cs.length:Int)<cs.length:=Int.tmod_lt_of_pos _ (by omega)
 have nz:decide ((cs.length:Int)≠0)=true:=decide_eq_true (by omega)
 obtain ⟨x,hx⟩:∃x:Nat,Int.tmod wh (cs.length:Int)=x:=⟨(Int.tmod wh (cs.length:Int)).toNat,(Int.toNat_of_nonneg m0).symm⟩;rw [hx] at m0 m1;obtain ⟨c,hg⟩:∃c,cs[x]?=some c:=⟨_,List.getElem?_eq_getElem (by omega)⟩
 have hm:=List.mem_of_getElem? hg;obtain ⟨d0,d1,d2,d3,d4,d5,d6,d7,d8,d9,d10,d11,d12⟩:=cer hg;have nt:Int.toNat (x:Int)=x:=He _;have p1:=AZ (fu:=2000) (d:=8) (by omega) hin (ans:=ans) (by omega) (vs:=[⟨nbS,c.serial,0⟩,⟨c.iss,c.serial,a⟩]) (by simp) t
 have e1:G0 [⟨nbS,c.serial,0⟩,⟨c.iss,c.serial,a⟩]=[.sc (.string nbS),.sc (.int .u64 c.serial),.sc (.int .i64 0),.sc (.string c.iss),.sc (.int .u64 c.serial),.sc (.int .i64 a)]:=rfl;rw [e1] at p1;have pr:=OC (ans:=ans) (vs:=[⟨nbS,c.serial,0⟩,⟨c.iss,c.serial,a⟩]) (now:=t) cs 0 (by rw [←pe];exact hk)
 rw [←pe,←pe] at pr;have e00:((0:Int)==0)=true:=rfl;have e39:((39:Int)==39)=true:=rfl;by_cases hat:a<=t
 ·have hit:(Qj cs ans [⟨nbS,c.serial,0⟩,⟨c.iss,c.serial,a⟩] t).2=39:=pr.1 ⟨c,hm,Af6 (r:=⟨c.iss,c.serial,a⟩) (by simp) (by unfold Sa;simp [hat])⟩
  rw [hit] at p1;simp only [J2,Wh,Br] at p1
  try unfold Aa
  repeat first
   |((with_reducible first|apply Aw|apply Al|apply Ay|apply Ar|apply A7|apply Cc|apply QZ|apply Am);· first|with_reducible rfl|(simp (disch:=omega) only [nq,ce,ht,p0,hk',wh',nz,hx,nt,d0,d1,d2,d3,d4,d5,d6,d7,d8,d9,d10,d11,d12,ha,p1,e39,aw]<;>with_reducible rfl))
   |((with_reducible first|apply Ax|apply Au);· first|with_reducible rfl|omega|(simp (disch:=omega) only [gT,nq,ce,ht,p0,hk',wh',nz,hx,nt,d0,d1,d2,d3,d4,d5,d6,d7,d8,d9,d10,d11,d12,ha,p1,e39,aw]<;>omega))
   |(with_reducible apply Av;· first|with_reducible rfl|(simp (disch:=omega) only [gF,nq,ce,ht,p0,hk',wh',nz,hx,nt,d0,d1,d2,d3,d4,d5,d6,d7,d8,d9,d10,d11,d12,ha,p1,e39,aw]<;>omega))
  try simp (disch:=omega) only [nq,ce,ht,p0,hk',wh',nz,hx,nt,d0,d1,d2,d3,d4,d5,d6,d7,d8,d9,d10,d11,d12,ha,p1,e39,aw]
  all_goals rfl
 ·have same:=pr.2 (fun c' h'=>Ae8 (fun r hr=>by
   simp only [List.mem_cons,List.not_mem_nil,or_false] at hr;rcases hr with rfl|rfl
   ·unfold Sa;cases hq:eqS nbS c'.iss
    ·simp [hq]
    ·have:=Aiu hq;have h5:=(hc c' h').s2;have h6:nbS.size=6:=rfl;omega
   ·unfold Sa;simp [hat]))
  rw [same,hk] at p1;simp only [J2,Wh,Br] at p1;have q1:∀l:Int,(l==l)=true:=fun l=>beq_self_eq_true l
  generalize (Qj cs ans [] t).1=K at *
  try unfold Aa
  repeat first
   |((with_reducible first|apply Aw|apply Al|apply Ay|apply Ar|apply A7|apply Cc|apply QZ|apply Am);· first|with_reducible rfl|(simp (disch:=omega) only [nq,ce,ht,p0,hk',wh',nz,hx,nt,d0,d1,d2,d3,d4,d5,d6,d7,d8,d9,d10,d11,d12,ha,p1,e00,q1,aw]<;>with_reducible rfl))
   |((with_reducible first|apply Ax|apply Au);· first|with_reducible rfl|omega|(simp (disch:=omega) only [gT,nq,ce,ht,p0,hk',wh',nz,hx,nt,d0,d1,d2,d3,d4,d5,d6,d7,d8,d9,d10,d11,d12,ha,p1,e00,q1,aw]<;>omega))
   |(with_reducible apply Av;· first|with_reducible rfl|(simp (disch:=omega) only [gF,nq,ce,ht,p0,hk',wh',nz,hx,nt,d0,d1,d2,d3,d4,d5,d6,d7,d8,d9,d10,d11,d12,ha,p1,e00,q1,aw]<;>omega))
  try simp (disch:=omega) only [nq,ce,ht,p0,hk',wh',nz,hx,nt,d0,d1,d2,d3,d4,d5,d6,d7,d8,d9,d10,d11,d12,ha,p1,e00,q1,aw]
  all_goals rfl
end
section
open Go.IntKind (wrap)
open Go Go.RowKit
structure HZ (Z Z':Nat->Prop) (w w':World):Prop where
 os:w'.os=w.os
 tape:w'.tape=w.tape
 output:w'.output=w.output
 size:w.heap.size<=w'.heap.size
 keep:∀b,b<w.heap.size->¬Z b->w'.heap[b]?=w.heap[b]?
 sub:∀b,Z b->Z' b
 new:∀b,Z' b->Z b∨w.heap.size<=b
 lt:∀b,Z' b->b<w'.heap.size
 bs:∀b,b<w.heap.size->bsz w b<=bsz w' b
structure Wg (Z:Nat->Prop) (w w':World):Prop where
 os:w'.os=w.os
 tape:w'.tape=w.tape
 output:w'.output=w.output
 size:w.heap.size<=w'.heap.size
 same:∀b,Z b->w'.heap[b]?=w.heap[b]?
theorem Wg.sub {Z Z':Nat->Prop}{w w':World}(h:Wg Z w w')(hs:∀b,Z' b->Z b):Wg Z' w w':=⟨h.os,h.tape,h.output,h.size,fun b hb=>h.same b (hs b hb)⟩
def Als {α:Type}(P:Program)(gf:Nat)(lb:Array Value)(M:List α->α->Array Value->(Nat->Prop)->World->Prop) (S Sp:List α->Prop)(Pre:(Nat->Prop)->World->Prop):Prop:=
 ∀(l:Nat) (J Jx:(Nat->Prop)->List α->World->Prop) (W:World) (Z0:Nat->Prop),(∀b,Z0 b->b<W.heap.size)->Pre Z0 W ->
  (∀Z pre A B,J Z pre A->Wg Z A B->J Z pre B)->(∀Z pre A B,Jx Z pre A->Wg Z A B->Jx Z pre B) ->
  (∀Z pre x args A,J Z pre A->M pre x args Z A->YieldAt Fence.wide 0 P l args A fun e B=>∃Z',HZ Z Z' A B ∧
   ((e=.returned (.bool true)∧J Z' (pre++[x]) B)∨(e=.returned (.bool false)∧Jx Z' (pre++[x]) B))) ->
  J Z0 [] W ->
  Calls P gf (#[.func (.yield l) #[] #[]]++lb) W fun e B=>(∃v,e=.returned v)∧∃Z xs,(S xs∧J Z xs B)∨(Sp xs∧Jx Z xs B)
theorem TU {P:Program}{n m l:Nat}{f:FuncId}{tmps:Array Value}{assign body:Code}{w:World}{R:Ending->World->Prop}(h:RoundIn Fence.wide n P l f tmps assign body w R):RoundIn Fence.wide m P l f tmps assign body w R:=
 ⟨h.1,fun c cs _=>h.2 c cs (room_wide _)⟩
def XX {α:Type}(D:Nat)(I:(Nat->Prop)->List α->World->Prop) (Ix:Code->(Nat->Prop)->List α->World->Prop) (Z:Nat->Prop)(xs:List α)(A:World):Exit->Act->World->Prop:=fun e _ B=>
 ∃Z',HZ Z Z' A B∧B.heap[D]?=A.heap[D]?∧B.heap[D+1]?=A.heap[D+1]? ∧
  match e with
  |.normal=>I Z' xs B
  |.ret=>Ix .ret Z' xs B
  |.exit id=>Ix (.exit id) Z' xs B
  |.goto t=>Ix (.goto t) Z' xs B
  |_=>False
theorem Ae2 {α:Type}{P:Program}{n:Nat}{g:Operand}{ps:Array Tmp}{assign body:Code}{Q:Exit->Act->World->Prop}{a:Act}{w:World}{gf:Nat}{lb:Array Value}
  (hg:a.eval g=.func (.func gf) #[] lb) (eg:∀args w,(callFunc gf args).run P w=.ok (.enter gf args) w)
  {M:List α->α->Array Value->(Nat->Prop)->World->Prop} {S Sp:List α->Prop} {Pre:(Nat->Prop)->World->Prop} (hit:Als P gf lb M S Sp Pre) {Z0:Nat->Prop} (hZ0:∀b,Z0 b->b<w.heap.size)
  (hPre:∀W:World,W.heap.size=w.heap.size+2->(∀b,b<w.heap.size->W.heap[b]?=w.heap[b]?)->Pre (fun b=>Z0 b∨b=w.heap.size∨b=w.heap.size+1) W)
  (hM:∀pre x args Z A B,M pre x args Z A->A.heap.size<=B.heap.size->(∀b,b<A.heap.size->¬Z b->B.heap[b]?=A.heap[b]?)->M pre x args Z B)
  (hps:∀pre x args Z A,M pre x args Z A->args.size=ps.size)
  (I:(Nat->Prop)->List α->World->Prop) (Ix:Code->(Nat->Prop)->List α->World->Prop)
  (hI:∀Z pre A B,I Z pre A->Wg (fun b=>Z b∧b≠w.heap.size∧b≠w.heap.size+1) A B->I Z pre B)
  (hIx:∀c Z pre A B,Ix c Z pre A->Wg (fun b=>Z b∧b≠w.heap.size∧b≠w.heap.size+1) A B->Ix c Z pre B)
  (h0:∀W,W.heap.size=w.heap.size+2->Wg (fun b=>b<w.heap.size) w W->I (fun b=>Z0 b∨b=w.heap.size∨b=w.heap.size+1) [] W)
  (a₁:Array Value->Act)
  (hassign:∀pre x args Z A (K:Act->World->Prop),M pre x args Z A->K (a₁ args) A->assign.wpIn (Fence.wide.inRound (w.heap.size+1)) 0 P (Exit.then K (fun _ _ _=>False)) { tmps:=(ps.zip args).foldl (fun t (p,v)=>t.setIfInBounds p v) a.tmps,defers:=[] } A)
  (hbody:∀Z pre x args A,Z w.heap.size->Z (w.heap.size+1)->I Z pre A->M pre x args Z A->body.wpIn (Fence.wide.inRound (w.heap.size+1)) 0 P (XX w.heap.size I Ix Z (pre++[x]) A) (a₁ args) A)
  (hdone:∀Z xs B,S xs->I Z xs B->B.heap[w.heap.size]?=some (.deferred (some []))->Q .normal { a with defers:={ target:=.collected w.heap.size,args:= #[] }::a.defers } B)
  (hstop:∀c Z xs B,Sp xs->Ix c Z xs B->B.heap[w.heap.size]?=some (.deferred (some []))->c.wpIn Fence.wide n P Q { a with defers:={ target:=.collected w.heap.size,args:= #[] }::a.defers } B):
  (Code.rangeFunc g ps assign body).wpIn Fence.wide n P Q a w:=by
 refine wpIn_rangeFunc ?_;intro fn hfn;obtain ⟨rec,hrec⟩:∃rec:LoopState->Option Code->Loop,rec=fun st pe=>{ state:=st,pending:=pe,fn,tmps:=a.tmps,params:=ps,assign,body,defers:=w.heap.size }:=⟨_,rfl⟩
 obtain ⟨D,hD⟩:∃D,w.heap.size=D:=⟨_,rfl⟩;rw [hD] at hI hIx h0 hassign hbody hdone hstop hZ0 hPre;obtain ⟨W1,hW1⟩:∃W1,(w.alloc (.deferred (some []))).alloc (.loop (rec .ready none))=W1:=⟨_,rfl⟩;have hs1:W1.heap.size=D+2:=by rw [←hW1,World.size_alloc,World.size_alloc,hD]
 have hL1:W1.heap[D+1]?=some (.loop (rec .ready none)):=by
  rw [←hW1,←hD];have:=World.alloc_heap_new (w.alloc (.deferred (some []))) (.loop (rec .ready none));rwa [World.size_alloc] at this
 have hK1:W1.heap[D]?=some (.deferred (some [])):=by
  rw [←hW1,←hD];exact (Below.heap_alloc _ _ _ (by simp)).trans (World.alloc_heap_new w _)
 have hst:Wg (fun b=>b<D) w W1:=by
  rw [←hW1,←hD];exact ⟨rfl,rfl,rfl,by simp;omega,fun b hb=>(Below.heap_alloc _ _ _ (by simp;omega)).trans (Below.heap_alloc _ _ _ hb)⟩
 refine ⟨D+1,[{ target:=.collected D,args:= #[] }],W1,{ target:=.fn (.func gf) lb,args:= #[.func (.yield (D+1)) #[] #[]] },W1,gf,
  #[.func (.yield (D+1)) #[] #[]]++lb,W1,?_,?_,fun _ _=>trivial,?_,(fun h=>by cases h),?_⟩
 ·rw [←hW1,hrec,←hD];exact run_enterLoop_outer _ _ _ _ _
 ·simp only [resolve,hg];simp [go_sem]
 ·simp [invoke,go_sem,eg]
 ·have put:∀{Z:Nat->Prop} {A:World} (o:Obj),Wg (fun b=>Z b∧b≠D∧b≠D+1) A (A.putObj (D+1) o):=fun o=>
   ⟨rfl,rfl,rfl,by simp,fun b hb=>World.putObj_heap_other hb.2.2⟩
  refine callsIn_wide.2 (Calls.mono (hit (D+1)
   (fun Z pre A=>(Z D∧Z (D+1))∧I Z pre A∧A.heap[D+1]?=some (.loop (rec .ready none))∧A.heap[D]?=some (.deferred (some [])))
   (fun Z pre A=>(Z D∧Z (D+1))∧∃c,Ix c Z pre A∧A.heap[D+1]?=some (.loop (rec .done (some c)))∧A.heap[D]?=some (.deferred (some [])))
   W1 (fun b=>Z0 b∨b=D∨b=D+1) (fun b hb=>by rw [hs1];exact hb.elim (fun h=>by have:=hZ0 b h;omega) fun h=>by omega) (hPre W1 hs1 (fun b hb=>hst.same b hb)) ?_ ?_ ?_ ?_) ?_)
  ·rintro Z pre A B ⟨hz,hi,hl,hk⟩ hs
   exact ⟨hz,hI Z pre A B hi (hs.sub fun _ h=>h.1),(hs.same _ hz.2).trans hl,(hs.same _ hz.1).trans hk⟩
  ·rintro Z pre A B ⟨hz,c,hi,hl,hk⟩ hs
   exact ⟨hz,c,hIx c Z pre A B hi (hs.sub fun _ h=>h.1),(hs.same _ hz.2).trans hl,(hs.same _ hz.1).trans hk⟩
  ·rintro Z pre x args A ⟨hz,hi,hl,hk⟩ hm
   have hlt:D+1<A.heap.size:=(Array.getElem?_eq_some_iff.1 hl).1;have hy:=run_yield (P:=P) (args:=args) hl (by rw [hrec];exact hps pre x args Z A hm)
   rw [hrec] at hy;refine ⟨fn,_,assign,body,hy,roundIn_of_wpIn hfn (hassign pre x args Z A _ hm ?_)⟩;refine ⟨_,run_beginRound hl (by rw [hrec]),?_⟩
   obtain ⟨A2,hA2⟩:∃A2,A.putObj (D+1) (.loop { rec .ready none with state:=.busy })=A2:=⟨_,rfl⟩;rw [hA2];have hl2:A2.heap[D+1]?=some (.loop { rec .ready none with state:=.busy }):=by rw [←hA2];exact World.putObj_heap_same hlt
   have hk2:A2.heap[D]?=some (.deferred (some [])):=by rw [←hA2];exact (World.putObj_heap_other (by omega)).trans hk
   have hz2:A2.heap.size=A.heap.size:=by rw [←hA2];simp
   have hi2:I Z pre A2:=by rw [←hA2];exact hI Z pre A _ hi (put _)
   have hm2:M pre x args Z A2:=by
    rw [←hA2];exact hM pre x args Z A _ hm (by simp) fun b _ hb=>World.putObj_heap_other fun e=>hb (e ▸ hz.2)
   refine wpIn_mono (hbody Z pre x args A2 hz.1 hz.2 hi2 hm2) ?_
   have fin:∀(jump:Option Code) (W3:World) (Z':Nat->Prop),HZ Z Z' A2 W3->W3.heap[D]?=A2.heap[D]?->W3.heap[D+1]?=A2.heap[D+1]? ->
     (Instr.endRound (D+1) jump).run P W3=.ok (.bool jump.isNone) (W3.putObj (D+1) (.loop (rec (if jump.isNone then .ready else .done) jump))) ∧
     (W3.putObj (D+1) (.loop (rec (if jump.isNone then .ready else .done) jump))).heap[D+1]?=some (.loop (rec (if jump.isNone then .ready else .done) jump)) ∧
     (W3.putObj (D+1) (.loop (rec (if jump.isNone then .ready else .done) jump))).heap[D]?=some (.deferred (some [])) ∧
     HZ Z Z' A (W3.putObj (D+1) (.loop (rec (if jump.isNone then .ready else .done) jump))):=fun jump W3 Z' ht e1 e2=>by
    have hl3:=e2.trans hl2;have:=run_endRound (P:=P) jump hl3;rw [hrec] at this ⊢;refine ⟨this,World.putObj_heap_same (Array.getElem?_eq_some_iff.1 hl3).1,(World.putObj_heap_other (by omega)).trans (e1.trans hk2),?_⟩
    have hA:A2.os=A.os∧A2.tape=A.tape∧A2.output=A.output:=by rw [←hA2];exact ⟨rfl,rfl,rfl⟩
    refine ⟨ht.os.trans hA.1,ht.tape.trans hA.2.1,ht.output.trans hA.2.2,by have:=ht.size;simp;omega,fun b hb hn=>?_,ht.sub,fun b hb=>by have:=ht.new b hb;rw [hz2] at this;exact this,fun b hb=>by simpa using ht.lt b hb,fun b hb=>?_⟩
    ·have hne:b≠D+1:=fun e=>hn (e ▸ hz.2)
     rw [World.putObj_heap_other hne,ht.keep b (by omega) hn,←hA2,World.putObj_heap_other hne]
    ·by_cases hne:b=D+1
     ·subst hne;unfold bsz;rw [hl];exact Nat.zero_le _
     ·have h5:=ht.bs b (by omega)
      have h6:bsz A2 b=bsz A b:=by unfold bsz;rw [←hA2,World.putObj_heap_other hne]
      have h7:∀o,bsz (W3.putObj (D+1) o) b=bsz W3 b:=fun o=>by unfold bsz;rw [World.putObj_heap_other hne]
      rw [h7,←h6];exact h5
   rintro e a3 W3 ⟨Z',ht,e1,e2,hp⟩
   cases e with
   |normal=>
    obtain ⟨hr,hl4,hk4,ht4⟩:=fin none W3 Z' ht e1 e2;exact ⟨_,_,hr,Z',ht4,.inl ⟨rfl,⟨ht.sub _ hz.1,ht.sub _ hz.2⟩,hI Z' _ _ _ hp (put _),hl4,hk4⟩⟩
   |ret=>
    obtain ⟨hr,hl4,hk4,ht4⟩:=fin (some .ret) W3 Z' ht e1 e2;exact ⟨_,_,hr,Z',ht4,.inr ⟨rfl,⟨ht.sub _ hz.1,ht.sub _ hz.2⟩,.ret,hIx _ Z' _ _ _ hp (put _),hl4,hk4⟩⟩
   |exit id=>
    obtain ⟨hr,hl4,hk4,ht4⟩:=fin (some (.exit id)) W3 Z' ht e1 e2;exact ⟨_,_,hr,Z',ht4,.inr ⟨rfl,⟨ht.sub _ hz.1,ht.sub _ hz.2⟩,.exit id,hIx _ Z' _ _ _ hp (put _),hl4,hk4⟩⟩
   |goto t=>
    obtain ⟨hr,hl4,hk4,ht4⟩:=fin (some (.goto t)) W3 Z' ht e1 e2;exact ⟨_,_,hr,Z',ht4,.inr ⟨rfl,⟨ht.sub _ hz.1,ht.sub _ hz.2⟩,.goto t,hIx _ Z' _ _ _ hp (put _),hl4,hk4⟩⟩
   |panic ch=>exact hp.elim
   |outgrown=>exact hp.elim
  ·exact ⟨⟨.inr (.inl rfl),.inr (.inr rfl)⟩,h0 W1 hs1 hst,hL1,hK1⟩
  ·rintro e W2 ⟨⟨v,rfl⟩,Z,xs,(⟨hS,hz,hi,hl,hk⟩|⟨hSp,hz,c,hi,hl,hk⟩)⟩
   ·exact ⟨none,_,by have:=run_endLoop (P:=P) hl (by rw [hrec];simp);rw [hrec] at this;exact this,hdone Z xs _ hS (hI Z _ _ _ hi (put _)) ((World.putObj_heap_other (by omega)).trans hk)⟩
   ·exact ⟨some c,_,by have:=run_endLoop (P:=P) hl (by rw [hrec];simp);rw [hrec] at this;exact this,hstop c Z xs _ hSp (hIx c Z _ _ _ hi (put _)) ((World.putObj_heap_other (by omega)).trans hk)⟩
def Ajj (s:St)(β:Bt):E5:={ X:=Ze s.hp β,L:=fun b _=>Ze s.hp β b,pn:=fun _=>False,pt:=fun _=>none,p8:=fun _ h=>h.elim }
theorem Bu.rebase {N:Nat}{w0 w w':World}{X0:E5}{Y Z':Nat->Prop}{β:Bt}{s:St}{a:Act}(h:Bu N w0 X0 Y β s a w)(ht:HZ Y Z' w w')(hns:∀id c,s.hp id≠some (.st c)):Bu N w' (Ajj s β) Z' β s a w':=by
 have hW:B7 (Cw s.hp β Y) w w':=⟨ht.size,fun b hb hn=>ht.keep b hb fun y=>hn (.inr y),ht.bs⟩
 have hA:∀b,b<w.heap.size->Cw s.hp β Z' b->Cw s.hp β Y b:=by
  rintro b hb (hx|hz)
  ·exact .inl hx
  ·rcases ht.new b hz with h1|h1
   ·exact .inr h1
   ·omega
 have hsame:∀b,b<w.heap.size->¬Y b->w'.heap[b]?=w.heap[b]?:=ht.keep
 refine ⟨h.dfr,h.tsz,h.tmo,fun i hi=>(h.tms i hi).step hW hA fun _ _=>rfl,fun id bx hbx=>?_,h.inj,fun id b o h1 h2=>Nat.lt_of_lt_of_le (h.blt id b o h1 h2) ht.size,h.wfT,h.wfB,fun b hb=>.inl hb,
  fun id bx b o h1 h2 h3 _ j _=>⟨id,o,by rw [h1];exact h2,h3⟩,fun i hi=>hi.elim,fun id c b o h1=>absurd h1 (hns id c),fun b hz=>?_,ht.lt,⟨rfl,rfl,rfl,⟨Nat.le_refl _,fun _ _ _=>rfl,fun _ _=>Nat.le_refl _⟩,fun _ _ _ _=>⟨rfl,rfl⟩⟩⟩
 ·cases bx with
  |st c=>exact absurd hbx (hns id c)
  |mv=>trivial
  |ar fz cells=>
   rcases h.box id _ hbx with h1|⟨b,o,h1,h2,h3,h4⟩
   ·exact .inl h1
   ·have hlt:b<w.heap.size:=h.blt id b o (by rw [hbx];simp) h1
    have hnY:¬Y b:=by
     cases fz with
     |false=>exact fun y=>h.Yx b y ⟨id,o,by rw [hbx];trivial,h1⟩
     |true=>exact fun y=>h4 rfl (.inr y)
    have hh:=hsame b hlt hnY;have hb':bsz w' b=bsz w b:=by unfold bsz;rw [hh]
    refine .inr ⟨b,o,h1,fun j c hj=>?_,fun hf j hj hjb=>?_,fun hf=>fun hA'=>h4 hf (hA b hlt hA')⟩
    ·obtain ⟨v,hv,hv1,hv2⟩:=h2 j c hj;exact ⟨v,(World.cell?_of_block (a:=(⟨b,o,none⟩:Addr).add j) (by rw [Fv];exact hh)).trans hv,hv1,hv2.step hW hA⟩
    ·rw [hb'] at hjb;have:=h3 hf j hj hjb;rw [←this];unfold World.frozen?;simp only [hh]
 ·rintro ⟨id,o,h1,h2⟩
  have hlt:b<w.heap.size:=h.blt id b o (Cv h1) h2;rcases ht.new b hz with h3|h3
  ·exact h.Yx b h3 ⟨id,o,h1,h2⟩
  ·omega
theorem Bu.stay {N:Nat}{w0 w:World}{X0:E5}{Y:Nat->Prop}{β:Bt}{s:St}{a:Act}(h:Bu N w0 X0 Y β s a w)(hd:∀b,Y b->¬X0.X b):Wg Y w0 w:=
 ⟨h.fr.os,h.fr.tape,h.fr.output,h.fr.step.size,fun b hb=>h.fr.step.keep b (h.Ylt b hb) (hd b hb)⟩
end
section
open Go.IntKind (wrap)
open Go Go.RowKit
abbrev WF (ro:Option Nat):Fence:={ fn:=fun _=>True,depth:=none,alive:=false,round:=ro }
def SJ (o:Oper):Bool:=
 match o.op with
 |.defer _=>false
 |_=>true
def okR:Code->Bool
 |.region _ ops _=>ops.toList.all SJ
 |.seq a b=>okR a&&okR b
 |.cond _ a b=>okR a&&okR b
 |.block _ c=>okR c
 |.loop c=>okR c
 |.skip=>true
 |.exit _=>true
 |.ret=>true
 |_=>false
theorem Zn {P:Program}{o:Oper}{a:Act}{w:World}{next:Act->World->Prop}{Q:Exit->Act->World->Prop}{ro:Option Nat}{n:Nat}(hd:SJ o=true)(h:o.wp P a w next Q):o.wpIn (WF ro) n P a w next Q:=by
 refine ⟨fun _ _=>trivial,?_⟩
 have e:o.semAt (WF ro).round a.eval=execOp a.eval o:=Oper.semAt_eq _ _ _ (by intro c hc;unfold SJ at hd;rw [hc] at hd;cases hd)
 rw [e];unfold Oper.wp at h
 revert h
 generalize (execOp a.eval o).run P w=q;intro h;cases q with
 |halt x w'=>cases x<;>first|exact h|exact h.elim
 |ok v w'=>
  cases v with
  |value v=>exact h
  |skip=>exact h
  |defer d=>exact h
  |enter f args=>exact ⟨(fun h=>by cases h),(callsIn_wide.2 h:CallsIn Fence.wide (n-1) P f args w' _)⟩
  |row row args=>exact ⟨(fun h=>by cases h),fun c cs _=>let ⟨v,w',r,s⟩:=h c cs;⟨v,w',r,stepsIn_wide.2 s⟩⟩
  |_=>exact h.elim
theorem QG {P:Program}{ops:Array Oper}{Q:Exit->Act->World->Prop}{K K':Act->World->Prop}{ro:Option Nat}{i n:Nat}{a:Act}{w:World}(hQo:¬LetsOut Q)(hnd:ops.toList.all SJ=true)(hK:∀a w,K a w->K' a w)(h:wpOp P ops Q i K a w):wpOpIn (WF ro) n P ops Q i K' a w:=by
 unfold wpOp at h;unfold wpOpIn;cases ho:ops[i]? with
 |none=>rw [ho] at h;exact hK _ _ h
 |some o=>
  rw [ho] at h;simp only at h ⊢;have hn:SJ o=true:=List.all_eq_true.1 hnd o (Array.mem_toList_iff.2 (Array.mem_of_getElem? ho));by_cases hw:Region.wanted o (yielded ops a.tmps)=true
  ·rw [B4 hw] at h ⊢;rcases h with h|h
   ·exact Zn hn (Oper.wp_mono hK h)
   ·exact absurd h.2 hQo
  ·rw [A6 hw] at h ⊢;exact ⟨fun _ _=>trivial,hK _ _ h⟩
theorem Qt {P:Program}{ops:Array Oper}{Q:Exit->Act->World->Prop}{ro:Option Nat}{n:Nat}{md:Region.Mode}(hQo:¬LetsOut Q)(hnd:ops.toList.all SJ=true):∀(fuel:Nat)(listed:Array Bool)(a:Act)(w:World),wpAny P md ops Q fuel listed a w->wpAnyIn (WF ro) n P md ops Q fuel listed a w
 |0,_,_,_,h=>h
 |fuel+1,_,_,_,h=>⟨h.1,fun i hi=>QG hQo hnd (fun a w=>Qt hQo hnd fuel _ a w) (h.2 i hi)⟩
section
variable {P:Program} {C:Hb} {N:Nat} {call:Ai} {w0:World} {X0:E5} {Y:Nat->Prop} {R:Type} {r:R} {β:Bt} {s:St} {a:Act} {w:World} {o:Oper} {ops:Array Oper} {K:St->Option R} {ro:Option Nat} {n:Nat}
theorem FI (h:Bu N w0 X0 Y β s a w){G:Ua}(hNG:HC P G w0 X0)(hcall:∀f args res,call f args=some res->C6 G P f args res)(hnd:SJ o=true)(hk:Dk C P N call ops o s K=some r):
  ∃s',K s'=some r∧∀(next:Act->World->Prop) (Q:Exit->Act->World->Prop),(∀a' w' β',Bu N w0 X0 Y β' s' a' w'->next a' w') ->
   if Region.wanted o (yielded ops a.tmps) then o.wpIn (WF ro) n P a w next Q else (∀f,o.about P w a.eval=some f->(WF ro).fn f)∧next (a.put o.dst undef) w:=by
 rw [GW] at hk
 have hw:∀b,Gb ops o s.tm=some b->Region.wanted o (yielded ops a.tmps)=b:=by
  intro b hb;unfold Gb at hb;unfold Region.wanted;cases hg:o.guard with
  |none=>rw [hg] at hb;simpa using hb
  |some q=>
   obtain ⟨j,want⟩:=q;rw [hg] at hb;simp only at hb ⊢;cases hd:(ops[j]?).bind (·.dst) with
   |none=>rw [hd] at hb;cases hb
   |some d=>
    rw [hd] at hb;simp only at hb;split at hb
    ·rename_i b' ht;rw [S7 h hd ht];simp at hb;rw [←hb];cases b'<;>cases want<;>rfl
    ·rename_i ht;rw [S7 h hd ht];simp at hb;rw [hb];rfl
    ·cases hb
 split at hk
 ·cases hk
 ·rename_i hv;obtain ⟨s',hs',hn⟩:=LL h hNG hcall hk;refine ⟨s',hs',fun next Q hnext=>?_⟩
  simp only [hw _ hv,if_true];exact Zn hnd (hn next Q hnext)
 ·rename_i hv;obtain ⟨hd,hk⟩:=Aq hk;refine ⟨_,hk,fun next Q hnext=>?_⟩
  simp only [hw _ hv];exact ⟨fun _ _=>trivial,hnext _ _ β (h.put hd (A5.sc _) (by simp [Bq,Cb,At]))⟩
theorem W9 {G:Ua}(hNG:HC P G w0 X0)(hcall:∀f args res,call f args=some res->C6 G P f args res){Q:Exit->Act->World->Prop}(hQ:∀s' a' w' β',K s'=some r->Bu N w0 X0 Y β' s' a' w'->Q .normal a' w'):
  ∀(li:List Nat) (os:List Oper),li.length=os.length->(∀(k i:Nat),li[k]?=some i->ops[i]?=os[k]?)->os.all SJ=true->∀{s:St} {a:Act} {w:World} {β:Bt},Bu N w0 X0 Y β s a w->Mo C P N call ops os s K=some r->wpOpsIn (WF ro) n P ops Q li a w
 |[],[],_,_,_,s,a,w,β,h,hk=>by
  show Q .normal a w;exact hQ s a w β hk h
 |[],_::_,hl,_,_,_,_,_,_,_,_=>by cases hl
 |_::_,[],hl,_,_,_,_,_,_,_,_=>by cases hl
 |i::li,o::os,hl,hi,hnd,s,a,w,β,h,hk=>by
  obtain ⟨s1,hk,h⟩:=Sf h hk;rw [List.all_cons,Bool.and_eq_true] at hnd;have hio:ops[i]?=some o:=by simpa using hi 0 i rfl
  obtain ⟨s',hs',hn⟩:=FI (ro:=ro) (n:=n) h hNG hcall hnd.1 hk;unfold wpOpsIn;rw [hio];exact hn _ _ fun a' w' β' h'=>W9 hNG hcall hQ li os (by simpa using hl) (fun k j hj=>by simpa using hi (k+1) j (by simpa using hj)) hnd.2 h' hs'
theorem FN {c:Code}{Q:Exit->Act->World->Prop}{F:(St->Option R)->St->Option R} {nm:St->(St->Option R)->Option R}
  (hnm:∀{β s a w} {K:St->Option R},Bu N w0 X0 Y β s a w->nm s K=some r->∃β' s',K s'=some r∧Bu N w0 X0 Y β' s' a w)
  (hF:∀{β s a w} {K:St->Option R}{Q':Act->World->Prop},Bu N w0 X0 Y β s a w->F K s=some r->(∀s' a' w' β',K s'=some r->Bu N w0 X0 Y β' s' a' w'->Q' a' w')->c.wpIn (WF ro) n P (Exit.then Q' Q) a w):
  ∀(m:Nat) {β s a w},Bu N w0 X0 Y β s a w->WS F nm m s=some r->Code.roundsIn (WF ro) n P c Q m a w
 |0,_,_,_,_,_,hk=>by cases hk
 |m+1,β,s,a,w,h,hk=>by
  rw [roundsIn_succ];refine hF h hk fun s' a' w' β' hk' h'=>?_
  obtain ⟨β1,s1,hk1,h1⟩:=hnm h' hk';exact FN hnm hF m h1 hk1
theorem UZ {G:Ua}(hNG:HC P G w0 X0)(hcall:∀f args res,call f args=some res->C6 G P f args res)(hm:P.follows .mixedOrders=true){fu:Nat}:
  ∀(c:Code),okR c=true->∀{ln:Nat} {lx:Nat->Nat} {lr:Nat} {kn:St->Option R} {kx:Nat->St->Option R} {kr:St->Option R} {β:Bt} {s:St} {a:Act} {w:World} {Q:Exit->Act->World->Prop},(∀a w,¬Q .outgrown a w)->Bu N w0 X0 Y β s a w ->
   J7 C P fu N call c ln lx lr kn kx kr s=some r->(∀s' a' w' β',kn s'=some r->Bu N w0 X0 Y β' s' a' w'->Q .normal a' w') ->
   (∀id s' a' w' β',kx id s'=some r->Bu N w0 X0 Y β' s' a' w'->Q (.exit id) a' w')->(∀s' a' w' β',kr s'=some r->Bu N w0 X0 Y β' s' a' w'->Q .ret a' w')->c.wpIn (WF ro) n P Q a w:=by
 intro c
 induction c with
 |skip=>intro _ ln lx lr kn kx kr β s a w Q hQo h hk hn hx hr;exact wpIn_skip (hn s a w β hk h)
 |region id ops draw=>
  intro ho ln lx lr kn kx kr β s a w Q hQo h hk hn hx hr;unfold okR at ho;unfold J7 at hk;cases draw
  ·simp only [MR,Bool.false_and,cond_false] at hk;refine wpIn_region (W9 hNG hcall hn (List.range ops.size) ops.toList (by simp) (fun k i hi=>?_) ho h hk)
   rw [List.getElem?_range] at hi
   ·simp at hi;subst hi;simp
   ·rcases Nat.lt_or_ge k ops.size with h'|h'
    ·exact h'
    ·rw [List.getElem?_eq_none (by simpa using h')] at hi;cases hi
  ·have hLo:¬LetsOut Q:=fun ⟨a,w,q⟩=>hQo a w q
   simp only [MR,Ahz,Bool.true_and,cond_true] at hk;cases hb:IA C P ops<;>rw [hb] at hk
   ·obtain ⟨hb',hk1⟩:=Aq (show Ap _ _=some r from hk)
    exact wpIn_region_any hm (Qt hLo ho _ _ _ _ (Tf h hNG hcall hm hb' hk1 hn))
   ·exact wpIn_region_any hm (Qt hLo ho _ _ _ _ (Q1 h hNG hcall hm hb hk hn))
 |seq c1 c2 ih1 ih2=>
  intro ho ln lx lr kn kx kr β s a w Q hQo h hk hn hx hr;unfold okR at ho;rw [Bool.and_eq_true] at ho;unfold J7 at hk
  refine wpIn_seq (ih1 ho.1 (fun a w=>hQo a w) h hk (fun s' a' w' β' hk' h'=>by
    cases hc:Abl P c1 c2
    ·rw [hc] at hk';exact ih2 ho.2 hQo h' hk' hn hx hr
    ·rw [hc] at hk';cases hq:BH c1 c2
     ·rw [hq] at hk';obtain ⟨β1,s1,hk1,h1⟩:=Di h' (show Kf _ _ _ _=some r from hk')
      exact ih2 ho.2 hQo h1 (Vz hk1) hn hx hr
     ·rw [hq] at hk';obtain ⟨β1,s1,hk1,h1⟩:=FP h' (show SY _ _ _ _=some r from hk')
      exact ih2 ho.2 hQo h1 (Vz hk1) hn hx hr) (fun id s' a' w' β' hk' h'=>hx id s' a' w' β' hk' h') (fun s' a' w' β' hk' h'=>hr s' a' w' β' hk' h'))
 |cond c c1 c2 ih1 ih2=>
  intro ho ln lx lr kn kx kr β s a w Q hQo h hk hn hx hr;unfold okR at ho;rw [Bool.and_eq_true] at ho;unfold J7 at hk;rcases FL h hk with ⟨hc,hk1⟩|⟨hc,hk1⟩
  ·exact wpIn_cond_true hc (ih1 ho.1 hQo h hk1 hn hx hr)
  ·exact wpIn_cond_false hc (ih2 ho.2 hQo h hk1 hn hx hr)
 |block id c ih=>
  intro ho ln lx lr kn kx kr β s a w Q hQo h hk hn hx hr;unfold okR at ho;unfold J7 at hk;refine wpIn_block (ih ho (fun a w=>hQo a w) h hk (fun s' a' w' β' hk' h'=>hn s' a' w' β' hk' h') (fun j s' a' w' β' hk' h'=>?_) (fun s' a' w' β' hk' h'=>hr s' a' w' β' hk' h'))
  show (if j=id then _ else _)
  by_cases e:j=id
  ·subst e;rw [B4 rfl];rw [Nat.beq_refl] at hk';exact hn s' a' w' β' hk' h'
  ·rw [A6 e]
   have:Nat.beq j id=false:=by
    cases hb:Nat.beq j id
    ·rfl
    ·exact absurd (Nat.eq_of_beq_eq_true hb) e
   rw [this] at hk';exact hx j s' a' w' β' hk' h'
 |loop c ih=>
  intro ho ln lx lr kn kx kr β s a w Q hQo h hk hn hx hr;unfold okR at ho;unfold J7 at hk;obtain ⟨β1,s1,hk1,h1⟩:=Di h hk;refine wpIn_loop_rounds fu (FN (fun h hk=>Di h hk) (fun h hk hQ=>?_) fu h1 hk1)
  exact ih ho (fun a w=>hQo a w) h hk hQ (fun id s' a' w' β' hk' h'=>hx id s' a' w' β' hk' h') (fun s' a' w' β' hk' h'=>hr s' a' w' β' hk' h')
 |«exit» id=>intro _ ln lx lr kn kx kr β s a w Q hQo h hk hn hx hr;exact wpIn_exit (hx id s a w β hk h)
 |ret=>intro _ ln lx lr kn kx kr β s a w Q hQo h hk hn hx hr;exact wpIn_ret (hr s a w β hk h)
 |_=>intro ho;cases ho
end
end
section
open Go.IntKind (wrap)
open Go Go.RowKit
theorem Nk:∀(l:List (Nat × PV)) (i:Nat),lk l i=.top∨∃q∈l,q.1=i∧lk l i=q.2
 |[],_=>.inl rfl
 |(j,p)::l,i=>by
  by_cases e:i=j
  ·subst e;refine .inr ⟨(i,p),by simp,rfl,?_⟩
   simp [lk,Nat.beq_refl]
  ·have hb:Nat.beq i j=false:=by
    cases h:Nat.beq i j
    ·rfl
    ·exact absurd (Nat.eq_of_beq_eq_true h) e
   have hb':Nat.beq j i=false:=by
    cases h:Nat.beq j i
    ·rfl
    ·exact absurd (Nat.eq_of_beq_eq_true h).symm e
   have h1:lk ((j,p)::l) i=lk l i:=by simp [lk,hb,hb']
   rw [h1];rcases Nk l i with h|⟨q,hq,h2,h3⟩
   ·exact .inl h
   ·exact .inr ⟨q,List.mem_cons_of_mem _ hq,h2,h3⟩
theorem Rb:∀(l:List (Nat × Bk)) (i:Nat),B5 l i=none∨∃q∈l,q.1=i∧B5 l i=some q.2
 |[],_=>.inl rfl
 |(j,p)::l,i=>by
  by_cases e:i=j
  ·subst e;refine .inr ⟨(i,p),by simp,rfl,?_⟩
   simp [B5,Nat.beq_refl]
  ·have hb:Nat.beq i j=false:=by
    cases h:Nat.beq i j
    ·rfl
    ·exact absurd (Nat.eq_of_beq_eq_true h) e
   have hb':Nat.beq j i=false:=by
    cases h:Nat.beq j i
    ·rfl
    ·exact absurd (Nat.eq_of_beq_eq_true h).symm e
   have h1:B5 ((j,p)::l) i=B5 l i:=by simp [B5,hb,hb']
   rw [h1];rcases Rb l i with h|⟨q,hq,h2,h3⟩
   ·exact .inl h
   ·exact .inr ⟨q,List.mem_cons_of_mem _ hq,h2,h3⟩
theorem Acu {P:Program}{a:Act}{w:World}{o:Oper}{c:Call}{t l:Nat}(ho:o.op=.call c)(hc:c.callee=.value (.tmp t)) (ht:a.eval (.tmp t)=.func (.yield l) #[] #[]) {r:Result Next}(hy:(Instr.yield l (c.args.map a.eval)).run P w=r):
  (execOp a.eval o).run P w=r:=by
 unfold execOp;rw [ho];simp [resolve,hc,ht,Deferred.ofValue,invoke,hy]
section
variable {P:Program} {C:Hb} {N:Nat} {call:Ai} {w0:World} {X0:E5} {Y:Nat->Prop} {R:Type} {r:R} {β:Bt} {s:St} {a:Act} {w:World} {o:Oper} {ops:Array Oper} {K:St->Option R} {ro:Option Nat} {n:Nat}
theorem Bu.part (h:Bu N w0 X0 Y β s a w)(tm':Nat->PV)(hp':Nat->Option Bk)(ht:∀i,tm' i=.top∨tm' i=s.tm i)(hh:∀id,hp' id=none∨hp' id=s.hp id)
  (hw:∀i,i<N->∀id∈Bq (tm' i),hp' id≠none) (hwB:∀id cells,hp' id=some (.st cells)->∀c∈cells,∀id'∈At c,hp' id'≠none) (hpin:∀i,X0.pn i->hp' (C2 N i)≠none):Bu N w0 X0 Y β ⟨tm',hp'⟩ a w:=by
 have hX:∀b,Ze hp' β b->Ze s.hp β b:=by
  rintro b ⟨id,o,h1,h2⟩
  rcases hh id with e|e
  ·rw [e] at h1;exact h1.elim
  ·rw [e] at h1;exact ⟨id,o,h1,h2⟩
 have hA:∀b,Cw hp' β Y b->Cw s.hp β Y b:=fun b hb=>hb.elim (fun x=>.inl (hX b x)) .inr
 have hs:∀{id bx},hp' id=some bx->s.hp id=some bx:=by
  intro id bx e;rcases hh id with e'|e'
  ·rw [e'] at e;cases e
  ·rw [←e'];exact e
 have hn:∀{id},hp' id≠none->s.hp id≠none:=by
  intro id e;rcases hh id with e'|e'
  ·exact absurd e' e
  ·rw [←e'];exact e
 have hl:∀{id},Cd (hp' id)->Cd (s.hp id):=by
  intro id e;rcases hh id with e'|e'
  ·rw [e'] at e;exact e.elim
  ·rw [←e'];exact e
 have hst:B7 (Cw s.hp β Y) w w:=⟨Nat.le_refl _,fun _ _ _=>rfl,fun _ _=>Nat.le_refl _⟩
 refine ⟨h.dfr,h.tsz,fun i hi=>?_,fun i hi=>?_,fun id bx hbx=>?_,fun id id' b o o' h1 h2=>h.inj id id' b o o' (hl h1) (hl h2),fun id b o h1 h2=>h.blt id b o (hn h1) h2,hw,hwB,fun b hb=>h.ownd b (hX b hb),fun id bx b o h1 h2 h3 h4=>h.rngB id bx b o (hs h1) h2 h3 h4,
  fun i hi=>⟨hpin i hi,(h.pin i hi).2⟩,fun id c b o h1=>h.stp id c b o (hs h1),fun b hy hx=>h.Yx b hy (hX b hx),h.Ylt,h.fr⟩
 ·rcases ht i with e|e
  ·exact e
  ·exact e.trans (h.tmo i hi)
 ·show Dp w (Cw hp' β Y) β (tm' i) _;rcases ht i with e|e
  ·rw [e];exact A5.top _
  ·rw [e];exact (h.tms i hi).step hst (fun b _=>hA b) fun _ _=>rfl
 ·have h0:=h.box id bx (hs hbx);exact h0.step' hA
theorem Bu.pick (h:Bu N w0 X0 Y β s a w)(l:List (Nat × PV)) (bl:List (Nat × Bk)) (hl:∀q∈l,q.2=s.tm q.1)(hb:∀q∈bl,some q.2=s.hp q.1)
  (hw:∀q∈l,∀id∈Bq q.2,B5 bl id≠none)(hwB:∀q∈bl,∀cells,q.2=.st cells->∀c∈cells,∀id'∈At c,B5 bl id'≠none)(hpin:∀i,X0.pn i->B5 bl (C2 N i)≠none):Bu N w0 X0 Y β ⟨lk l,B5 bl⟩ a w:=by
 refine h.part (lk l) (B5 bl) (fun i=>?_) (fun id=>?_) (fun i _ id hid=>?_) (fun id cells e=>?_) hpin
 ·rcases Nk l i with e|⟨q,hq,h1,h2⟩
  ·exact .inl e
  ·exact .inr (by rw [h2,hl q hq,h1])
 ·rcases Rb bl id with e|⟨q,hq,h1,h2⟩
  ·exact .inl e
  ·exact .inr (by rw [h2,hb q hq,h1])
 ·rcases Nk l i with e|⟨q,hq,h1,h2⟩
  ·rw [e] at hid;simp [Bq,Cb,At] at hid
  ·rw [h2] at hid;exact hw q hq id hid
 ·rcases Rb bl id with e'|⟨q,hq,h1,h2⟩
  ·rw [e'] at e;cases e
  ·rw [h2] at e;exact hwB q hq cells (by injection e)
theorem Md {G:Ua}(hNG:HC P G w0 X0)(hcall:∀f args res,call f args=some res->C6 G P f args res){Q:Exit->Act->World->Prop}{rest:List Nat}(hQ:∀s' a' w' β',K s'=some r->Bu N w0 X0 Y β' s' a' w'->wpOpsIn (WF ro) n P ops Q rest a' w'):
  ∀(li:List Nat) (os:List Oper),li.length=os.length->(∀(k i:Nat),li[k]?=some i->ops[i]?=os[k]?)->os.all SJ=true->∀{s:St} {a:Act} {w:World} {β:Bt},Bu N w0 X0 Y β s a w->Mo C P N call ops os s K=some r->wpOpsIn (WF ro) n P ops Q (li++rest) a w
 |[],[],_,_,_,s,a,w,β,h,hk=>hQ s a w β hk h
 |[],_::_,hl,_,_,_,_,_,_,_,_=>by cases hl
 |_::_,[],hl,_,_,_,_,_,_,_,_=>by cases hl
 |i::li,o::os,hl,hi,hnd,s,a,w,β,h,hk=>by
  obtain ⟨s1,hk,h⟩:=Sf h hk;rw [List.all_cons,Bool.and_eq_true] at hnd;have hio:ops[i]?=some o:=by simpa using hi 0 i rfl
  obtain ⟨s',hs',hn⟩:=FI (ro:=ro) (n:=n) h hNG hcall hnd.1 hk;rw [List.cons_append];unfold wpOpsIn;rw [hio];exact hn _ _ fun a' w' β' h'=>Md hNG hcall hQ li os (by simpa using hl) (fun k j hj=>by simpa using hi (k+1) j (by simpa using hj)) hnd.2 h' hs'
end
end
section
open Go.IntKind (wrap)
open Go Go.RowKit
abbrev Sm (ds:List Deferred)(a:Act):Act:={ a with defers:=a.defers++ds }
def TD (ds:List Deferred)(Q:Exit->Act->World->Prop):Exit->Act->World->Prop:=fun e a w=>∃a0:Act,a=Sm ds a0∧Q e a0 w
section
variable {P:Program} {ops:Array Oper} {Q:Exit->Act->World->Prop} {ro:Option Nat} {n:Nat} {ds:List Deferred}
theorem Oy (a:Act)(d:Option Tmp)(v:Value):(Sm ds a).put d v=Sm ds (a.put d v):=by cases d<;>rfl
theorem Ahf (h:LetsOut Q):LetsOut (TD ds Q):=let ⟨a,w,q⟩:=h;⟨_,w,a,rfl,q⟩
theorem Aew {o:Oper}{a:Act}{w:World}{K K':Act->World->Prop}(hK:∀a w,K a w->K' (Sm ds a) w) (h:o.wpIn (WF ro) n P a w K Q):o.wpIn (WF ro) n P (Sm ds a) w K' (TD ds Q):=by
 refine ⟨fun _ _=>trivial,?_⟩
 have h:=h.2;show o.uponIn _ _ _ _ _ _ ((o.semAt (WF ro).round a.eval).run P w);generalize (o.semAt (WF ro).round a.eval).run P w=q at h;cases q with
 |halt x w'=>cases x<;>first|exact ⟨a,rfl,h⟩|exact h.elim
 |ok v w'=>
  cases v with
  |value v=>show K' ((Sm ds a).put o.dst v) w';rw [Oy];exact hK _ _ h
  |skip=>show K' ((Sm ds a).put o.dst undef) w';rw [Oy];exact hK _ _ h
  |defer d=>
   show K' (({ (Sm ds a) with defers:=d::(Sm ds a).defers }:Act).put o.dst undef) w';rw [show ({ (Sm ds a) with defers:=d::(Sm ds a).defers }:Act)=Sm ds { a with defers:=d::a.defers } from rfl,Oy]
   exact hK _ _ h
  |enter f args=>
   refine ⟨h.1,h.2.mono ?_⟩;intro e w'' he;cases e with
   |returned v=>show K' ((Sm ds a).put o.dst v) w'';rw [Oy];exact hK _ _ he
   |panicked c=>exact ⟨a,rfl,he⟩
   |outgrown=>exact Ahf he
  |row row args=>
   refine ⟨h.1,h.2.mono ?_⟩;intro v w'' he;show K' ((Sm ds a).put o.dst v) w'';rw [Oy];exact hK _ _ he
  |round l f tmps assign body=>
   refine ⟨h.1,h.2.mono ?_⟩;intro e w'' he;cases e with
   |returned v=>show K' ((Sm ds a).put o.dst v) w'';rw [Oy];exact hK _ _ he
   |panicked c=>exact ⟨a,rfl,he⟩
   |outgrown=>exact Ahf he
  |_=>exact h.elim
theorem Sn:∀(li:List Nat){a:Act}{w:World},wpOpsIn (WF ro) n P ops Q li a w->wpOpsIn (WF ro) n P ops (TD ds Q) li (Sm ds a) w
 |[],a,w,h=>⟨a,rfl,h⟩
 |i::li,a,w,h=>by
  rw [wpOpsIn_cons] at h ⊢;unfold wpOpIn at h ⊢;cases ho:ops[i]? with
  |none=>rw [ho] at h;exact Sn li h
  |some o=>
   rw [ho] at h;simp only at h ⊢;by_cases hw:Region.wanted o (yielded ops a.tmps)=true
   ·rw [B4 hw] at h ⊢;exact Aew (fun a w=>Sn li) h
   ·rw [A6 hw] at h ⊢;refine ⟨fun _ _=>trivial,?_⟩
    rw [Oy];exact Sn li h.2
end
structure Aae (w w':World):Prop where
 os:w'.os=w.os
 tape:w'.tape=w.tape
 output:w'.output=w.output
 size:w'.heap.size=w.heap.size
 cell:∀a,w'.cell? a=w.cell? a
 frz:∀a,w'.frozen? a=w.frozen? a
 bs:∀b,bsz w' b=bsz w b
theorem A5.same {w w':World}{A:Nat->Prop}(h:Aae w w'){p:PV}{v:Value}(t:A5 w A p v):A5 w' A p v:=by
 induction t with
 |sc v=>exact .sc v
 |top v=>exact .top v
 |ub b=>exact .ub b
 |lnil z es=>exact .lnil z es
 |lemp es a cap=>exact .lemp es a cap
 |lst es n cells a cap f hs hb hA1 hn hc h1 hr ih=>exact .lst es n cells a cap f hs (by rw [h.size];exact hb) hA1 hn (fun j c hj=>by rw [h.cell];exact hc j c hj) h1 (fun j c hj=>ih j c hj)
theorem NQ.same {w w':World}{A:Nat->Prop}(h:Aae w w'){a:Addr}{c:List PV}(t:NQ w A a c):NQ w' A a c:=fun j x hj=>by
 obtain ⟨v,h1,h2,h3⟩:=t j x hj;exact ⟨v,by rw [h.cell];exact h1,h2,h3.same h⟩
theorem B9.same {w w':World}{A:Nat->Prop}{β:Nat->Option (Nat × Nat)} (h:Aae w w'){p:PV}{v:Value}(t:B9 w A β p v):B9 w' A β p v:=by
 cases p with
 |view id es off n=>
  rcases t with t|⟨b,o,x,cap,h1,h2,hx,h3,h4,h5⟩
  ·exact .inl t
  ·exact .inr ⟨b,o,x,cap,h1,h2,hx,h3,by rw [h.bs];exact h4,by rw [h.size];exact h5⟩
 |ptr id off=>exact t
 |iptr c off=>
  obtain ⟨a,h1,h2,h3,h4,h5⟩:=t;exact ⟨a,h1,h2,by rw [h.size];exact h3,h4,h5.same h⟩
 |_=>exact A5.same h t
theorem Bj.imp' {α β:Type}{R S:α->β->Prop}{zs:List α}{bs:List β}(h:Bj R zs bs)(f:∀a b,R a b->S a b):Bj S zs bs:=h.mono f
theorem Gl.same {w w':World}{A:Nat->Prop}{β:Nat->Option (Nat × Nat)} (h:Aae w w'){p:PV}{v:Value}(t:Gl w A β p v):Gl w' A β p v:=by
 cases p with
 |agg cs=>obtain ⟨vs,h1,h2⟩:=t;exact ⟨vs,h1,h2.imp' fun _ _=>B9.same h⟩
 |_=>exact (S2 (by intro cs e;cases e)).2 (B9.same h ((S2 (by intro cs e;cases e)).1 t))
theorem Dp.same {w w':World}{A:Nat->Prop}{β:Nat->Option (Nat × Nat)} (h:Aae w w'){p:PV}{v:Value}(t:Dp w A β p v):Dp w' A β p v:=by
 cases p with
 |tup cs=>obtain ⟨vs,h1,h2⟩:=t;exact ⟨vs,h1,h2.imp' fun _ _=>Gl.same h⟩
 |_=>exact (Nm (by intro cs e;cases e)).2 (Gl.same h ((Nm (by intro cs e;cases e)).1 t))
theorem Bu.same {N:Nat}{w0 w w':World}{X0:E5}{Y:Nat->Prop}{β:Bt}{s:St}{a:Act}(h:Bu N w0 X0 Y β s a w)(hs:Aae w w')(h0:∀b,b<w0.heap.size->w'.heap[b]?=w.heap[b]?):Bu N w0 X0 Y β s a w':=by
 refine ⟨h.dfr,h.tsz,h.tmo,fun i hi=>(h.tms i hi).same hs,fun id bx e=>?_,h.inj,fun id b o h1 h2=>by rw [hs.size];exact h.blt id b o h1 h2,h.wfT,h.wfB,h.ownd,h.rngB,h.pin,h.stp,h.Yx,h.Ylt,
  ⟨hs.os.trans h.fr.os,hs.tape.trans h.fr.tape,hs.output.trans h.fr.output,⟨by rw [hs.size];exact h.fr.step.size,fun b hb hn=>(h0 b hb).trans (h.fr.step.keep b hb hn),fun b hb=>by rw [hs.bs];exact h.fr.step.bs b hb⟩,fun b j hb hn=>by rw [hs.cell,hs.frz];exact h.fr.rng b j hb hn⟩⟩
 have h1:=h.box id bx e;cases bx with
 |st c=>
  obtain ⟨b,o,g1,g2,g3⟩:=h1;refine ⟨b,o,g1,fun j c hj=>?_,fun j hj=>by rw [hs.frz];exact g3 j hj⟩
  obtain ⟨v,k1,k2⟩:=g2 j c hj;exact ⟨v,by rw [hs.cell];exact k1,k2.same hs⟩
 |ar fz c=>
  rcases h1 with h1|⟨b,o,g1,g2,g3,g4⟩
  ·exact .inl h1
  ·exact .inr ⟨b,o,g1,g2.same hs,fun hf j hj hjb=>by rw [hs.frz];exact g3 hf j hj (by rw [←hs.bs];exact hjb),g4⟩
 |mv=>trivial
theorem VA {w:World}{D:Nat}{x y:Option (List Deferred)} (h:w.heap[D]?=some (.deferred x)):Aae w (w.putObj D (.deferred y)):=by
 have hD:D<w.heap.size:=(Array.getElem?_eq_some_iff.1 h).1;have hs:(w.putObj D (.deferred y)).heap[D]?=some (.deferred y):=World.putObj_heap_same hD;refine ⟨rfl,rfl,rfl,by simp,fun a=>?_,fun a=>?_,fun b=>?_⟩
 ·by_cases e:a.block=D
  ·unfold World.cell?;rw [e,hs,h]
  ·exact World.cell?_of_block (World.putObj_heap_other e)
 ·by_cases e:a.block=D
  ·unfold World.frozen?;rw [e,hs,h]
  ·unfold World.frozen?;rw [World.putObj_heap_other e]
 ·by_cases e:b=D
  ·subst e;unfold bsz;rw [hs,h]
  ·unfold bsz;rw [World.putObj_heap_other e]
end
section
open Go.IntKind (wrap)
open Go Go.RowKit
def sL:Code->Code
 |.seq a _=>a
 |c=>c
def sR:Code->Code
 |.seq _ b=>b
 |c=>c
def sB:Code->Code
 |.block _ c=>c
 |.loop c=>c
 |c=>c
def sF:Code->Code
 |.rangeFunc _ _ _ b=>b
 |c=>c
def sA:Code->Code
 |.rangeFunc _ _ a _=>a
 |c=>c
def Lz:Code->Array Oper
 |.region _ ops _=>ops
 |_=> #[]
noncomputable abbrev Yy:Code:=Bw Tryz.f107
noncomputable abbrev IB:Code:=Bw Tryz.f37
def CS:Hb:={ CB with shr:=fun _=>true }
noncomputable abbrev OP (N:Nat)(call:Ai)(c:Code)(L:Nat)(s:St):Option (Nat × St):=
 J7 CB Tryz.prog 2000 N call c L (fun _=>L) 0 (fun s=>Kf N L s fun s'=>some (0,s')) (fun id s=>Kf N L s fun s'=>some (id+1,s')) (fun _=>none) s
section
variable {N:Nat} {w0:World} {X0:E5} {Y:Nat->Prop} {β:Bt} {s s1:St} {a:Act} {w:World}
theorem D5 {G:Ua}(hNG:HC Tryz.prog G w0 X0)(hm:Tryz.prog.follows .mixedOrders=true){call:Ai}(hcall:∀f args res,call f args=some res->C6 G Tryz.prog f args res){c:Code}{L t:Nat}{Q:Exit->Act->World->Prop}(h:Bu N w0 X0 Y β s a w)
  (hk:OP N call c L s=some (t,s1)) (hQ:∀a' w' β',Bu N w0 X0 Y β' s1 a' w'->match t with|0=>Q .normal a' w'|id+1=>Q (.exit id) a' w'):c.wp Tryz.prog Q a w:=by
 refine IV hNG hcall hm c h hk (fun s' a' w' β' h1 h2=>?_) (fun id s' a' w' β' h1 h2=>?_) (fun s' a' w' β' h1 h2=>by cases h1)
 ·obtain ⟨β1,s2,h3,h4⟩:=Di h2 h1;cases h3;exact hQ _ _ _ h4
 ·obtain ⟨β1,s2,h3,h4⟩:=Di h2 h1;cases h3;exact hQ _ _ _ h4
theorem IJ {G:Ua}(hNG:HC Tryz.prog G w0 X0)(hm:Tryz.prog.follows .mixedOrders=true){call:Ai}(hcall:∀f args res,call f args=some res->C6 G Tryz.prog f args res){ro:Option Nat}{n:Nat}{c:Code}(ho:okR c=true){L t:Nat}{Q:Exit->Act->World->Prop}(hQo:∀a w,¬Q .outgrown a w)(h:Bu N w0 X0 Y β s a w)
  (hk:OP N call c L s=some (t,s1)) (hQ:∀a' w' β',Bu N w0 X0 Y β' s1 a' w'->match t with|0=>Q .normal a' w'|id+1=>Q (.exit id) a' w'):c.wpIn (WF ro) n Tryz.prog Q a w:=by
 refine UZ hNG hcall hm c ho hQo h hk (fun s' a' w' β' h1 h2=>?_) (fun id s' a' w' β' h1 h2=>?_) (fun s' a' w' β' h1 h2=>by cases h1)
 ·obtain ⟨β1,s2,h3,h4⟩:=Di h2 h1;cases h3;exact hQ _ _ _ h4
 ·obtain ⟨β1,s2,h3,h4⟩:=Di h2 h1;cases h3;exact hQ _ _ _ h4
end
end
section
open Go.IntKind (wrap)
set_option maxRecDepth 100000
theorem Ao0 (call:Ai)(yv:Value)(h seed:Int):OP 63 call (sL Yy) 23 ⟨lk [(0,.sc yv),(1,.iptr [.sc (.int .i64 h)] 0),(2,.iptr [.sc (.int .u64 seed)] 0)],B5 []⟩=(
 Ap (decide ((0:Int)<=h)) <|
 Aa (G4 IntKind.i64 (1:Int) h) fun x1=>
 Ap (decide ((0:Int)<=x1)&&decide (x1<=x1)&&decide (x1*(8:Int)<=(1099511627776:Int))&&decide (x1<=(1099511627776:Int))) <|
 some (0,⟨lk [(0,(.sc (yv))),(1,(.iptr ([PV.sc (Value.int IntKind.i64 h)]) ((0:Nat)))),(2,(.iptr ([PV.sc (Value.int IntKind.u64 seed)]) ((0:Nat)))),(4,(.view 4 1 0 (Int.toNat x1)))],B5 [(4,(.ar false (Q4 (Int.toNat x1) [PV.sc (Value.int IntKind.u64 (0:Int))])))]⟩)):=by kernel_rfl
theorem Anl (call:Ai)(yv:Value)(h seed:Int)(n:Nat)(c:List PV):OP 63 call (sL (sL (sR Yy))) 24599 ⟨lk [(0,.sc yv),(1,.iptr [.sc (.int .i64 h)] 0),(2,.iptr [.sc (.int .u64 seed)] 0),(4,.view 4 1 0 n)],B5 [(4,.ar false c)]⟩=(
 some (0,⟨lk [(0,(.sc (yv))),(1,(.iptr ([PV.sc (Value.int IntKind.i64 h)]) ((0:Nat)))),(2,(.iptr ([PV.sc (Value.int IntKind.u64 seed)]) ((0:Nat)))),(4,(.view 4 1 0 (n))),(13,(.sc (.int .i64 ((↑n:Int))))),(14,(.sc (.int .i64 ((0:Int)))))],B5 [(4,(.ar false (c)))]⟩)):=by kernel_rfl
theorem Aha (call:Ai)(yv:Value)(h seed m i:Int)(n:Nat)(c:List PV):OP 63 call (sB (sB (sR (sL (sR Yy))))) 24599 ⟨lk [(0,.sc yv),(1,.iptr [.sc (.int .i64 h)] 0),(2,.iptr [.sc (.int .u64 seed)] 0),(4,.view 4 1 0 n),(13,.sc (.int .i64 m)),(14,.sc (.int .i64 i))],B5 [(4,.ar false c)]⟩=(
  Bc (decide (i<m))
   (
   Ag (call (108:Nat) [PV.sc (Value.int IntKind.u64 seed),PV.sc (Value.int IntKind.i64 i)]) fun x1 x2=>
   Ac (x2) <|
   Ab (x1) fun x3 x4=>
   Ad (IntKind.u64) (x3) fun x5=>
   Ac (x4) <|
   Ap (decide ((0:Int)<=i)&&decide (i<(↑n:Int))) <|
   Ap (decide ((0:Nat)+Int.toNat i*(1:Nat)+(1:Nat)<=List.length c)) <|
   Aa (Ba c [PV.sc (Value.int IntKind.u64 x5)] ((0:Nat)+Int.toNat i*(1:Nat))) fun x6=>
   Aa (wrap IntKind.i64 (i+(1:Int))) fun x7=>
   some (0,⟨lk [(0,(.sc (yv))),(1,(.iptr ([PV.sc (Value.int IntKind.i64 h)]) ((0:Nat)))),(2,(.iptr ([PV.sc (Value.int IntKind.u64 seed)]) ((0:Nat)))),(4,(.view 4 1 0 (n))),(13,(.sc (.int .i64 (m)))),(14,(.sc (.int .i64 (x7))))],B5 [(4,(.ar false (x6)))]⟩))
   (
   some (1,⟨lk [(0,(.sc (yv))),(1,(.iptr ([PV.sc (Value.int IntKind.i64 h)]) ((0:Nat)))),(2,(.iptr ([PV.sc (Value.int IntKind.u64 seed)]) ((0:Nat)))),(4,(.view 4 1 0 (n))),(13,(.sc (.int .i64 (m)))),(14,(.sc (.int .i64 (i))))],B5 [(4,(.ar false (c)))]⟩))):=by kernel_rfl
theorem Aqh (call:Ai)(yv:Value)(h seed m i:Int)(n:Nat)(c:List PV):OP 63 call (sL (sR (sR Yy))) 87 ⟨lk [(0,.sc yv),(1,.iptr [.sc (.int .i64 h)] 0),(2,.iptr [.sc (.int .u64 seed)] 0),(4,.view 4 1 0 n),(13,.sc (.int .i64 m)),(14,.sc (.int .i64 i))],B5 [(4,.ar false c)]⟩=(
 some (0,⟨lk [(0,(.sc (yv))),(1,(.iptr ([PV.sc (Value.int IntKind.i64 h)]) ((0:Nat)))),(2,(.iptr ([PV.sc (Value.int IntKind.u64 seed)]) ((0:Nat)))),(4,(.view 4 1 0 (n))),(6,(.sc (.int .i64 ((0:Int)))))],B5 [(4,(.ar false (c)))]⟩)):=by kernel_rfl
theorem Amf (call:Ai)(yv:Value)(h seed k:Int)(n:Nat)(c:List PV):OP 63 call (sL (sB (sL (sR (sB (sB (sR (sR (sR Yy))))))))) 215 ⟨lk [(0,.sc yv),(1,.iptr [.sc (.int .i64 h)] 0),(2,.iptr [.sc (.int .u64 seed)] 0),(4,.view 4 1 0 n),(6,.sc (.int .i64 k))],B5 [(4,.ar false c)]⟩=(
 Aa (wrap IntKind.i64 (Int.tdiv (↑n:Int) (2:Int))) fun x1=>
 Ap (decide ((0:Int)<=x1)&&decide (x1<=x1)&&decide (x1*(8:Int)<=(1099511627776:Int))&&decide (x1<=(1099511627776:Int))) <|
 some (0,⟨lk [(0,(.sc (yv))),(1,(.iptr ([PV.sc (Value.int IntKind.i64 h)]) ((0:Nat)))),(2,(.iptr ([PV.sc (Value.int IntKind.u64 seed)]) ((0:Nat)))),(4,(.view 4 1 0 (n))),(6,(.sc (.int .i64 (k)))),(7,(.view 7 1 0 (Int.toNat x1)))],B5 [(4,(.ar false (c))),(7,(.ar false (Q4 (Int.toNat x1) [PV.sc (Value.int IntKind.u64 (0:Int))])))]⟩)):=by kernel_rfl
theorem Ao6 (call:Ai)(yv:Value)(h seed k:Int)(n m:Nat)(c e:List PV):OP 63 call (sL (sL (sR (sB (sL (sR (sB (sB (sR (sR (sR Yy))))))))))) 3298534883543 ⟨lk [(0,.sc yv),(1,.iptr [.sc (.int .i64 h)] 0),(2,.iptr [.sc (.int .u64 seed)] 0),(4,.view 4 1 0 n),(6,.sc (.int .i64 k)),(7,.view 7 1 0 m)],B5 [(4,.ar false c),(7,.ar false e)]⟩=(
 some (0,⟨lk [(0,(.sc (yv))),(1,(.iptr ([PV.sc (Value.int IntKind.i64 h)]) ((0:Nat)))),(2,(.iptr ([PV.sc (Value.int IntKind.u64 seed)]) ((0:Nat)))),(4,(.view 4 1 0 (n))),(6,(.sc (.int .i64 (k)))),(7,(.view 7 1 0 (m))),(40,(.sc (.int .i64 ((↑m:Int))))),(41,(.sc (.int .i64 ((0:Int)))))],B5 [(4,(.ar false (c))),(7,(.ar false (e)))]⟩)):=by kernel_rfl
theorem Afd (call:Ai)(yv:Value)(h seed k p i:Int)(n m:Nat)(c e:List PV):OP 63 call (sB (sB (sR (sL (sR (sB (sL (sR (sB (sB (sR (sR (sR Yy))))))))))))) 3298534883543 ⟨lk [(0,.sc yv),(1,.iptr [.sc (.int .i64 h)] 0),(2,.iptr [.sc (.int .u64 seed)] 0),(4,.view 4 1 0 n),(6,.sc (.int .i64 k)),(7,.view 7 1 0 m),(40,.sc (.int .i64 p)),(41,.sc (.int .i64 i))],B5 [(4,.ar false c),(7,.ar false e)]⟩=(
  Bc (decide (i<p))
   (
   Aa (wrap IntKind.i64 (k+(1:Int))) fun x1=>
   Aa (wrap IntKind.i64 ((2:Int)*i)) fun x2=>
   Ap (decide ((0:Int)<=x2)&&decide (x2<(↑n:Int))) <|
   Ad (IntKind.u64) (List.getD c ((0:Nat)+Int.toNat x2*(1:Nat)) PV.top) fun x3=>
   Aa (wrap IntKind.i64 ((2:Int)*i)) fun x4=>
   Aa (wrap IntKind.i64 (x4+(1:Int))) fun x5=>
   Ap (decide ((0:Int)<=x5)&&decide (x5<(↑n:Int))) <|
   Ad (IntKind.u64) (List.getD c ((0:Nat)+Int.toNat x5*(1:Nat)) PV.top) fun x6=>
   Ag (call (82:Nat) [PV.sc (Value.int IntKind.i64 x1),PV.sc (Value.int IntKind.u64 x3),PV.sc (Value.int IntKind.u64 x6)]) fun x7 x8=>
   Ac (x8) <|
   Ab (x7) fun x9 Cm=>
   Ad (IntKind.u64) (x9) fun C3=>
   Ac (Cm) <|
   Ap (decide ((0:Int)<=i)&&decide (i<(↑m:Int))) <|
   Ap (decide ((0:Nat)+Int.toNat i*(1:Nat)+(1:Nat)<=List.length e)) <|
   Aa (Ba e [PV.sc (Value.int IntKind.u64 C3)] ((0:Nat)+Int.toNat i*(1:Nat))) fun Dt=>
   Aa (wrap IntKind.i64 (i+(1:Int))) fun D0=>
   some (0,⟨lk [(0,(.sc (yv))),(1,(.iptr ([PV.sc (Value.int IntKind.i64 h)]) ((0:Nat)))),(2,(.iptr ([PV.sc (Value.int IntKind.u64 seed)]) ((0:Nat)))),(4,(.view 4 1 0 (n))),(6,(.sc (.int .i64 (k)))),(7,(.view 7 1 0 (m))),(40,(.sc (.int .i64 (p)))),(41,(.sc (.int .i64 (D0))))],B5 [(4,(.ar false (c))),(7,(.ar false (Dt)))]⟩))
   (
   some (5,⟨lk [(0,(.sc (yv))),(1,(.iptr ([PV.sc (Value.int IntKind.i64 h)]) ((0:Nat)))),(2,(.iptr ([PV.sc (Value.int IntKind.u64 seed)]) ((0:Nat)))),(4,(.view 4 1 0 (n))),(6,(.sc (.int .i64 (k)))),(7,(.view 7 1 0 (m))),(40,(.sc (.int .i64 (p)))),(41,(.sc (.int .i64 (i))))],B5 [(4,(.ar false (c))),(7,(.ar false (e)))]⟩))):=by kernel_rfl
theorem Amr (call:Ai)(yv:Value)(h seed k p i:Int)(n m:Nat)(c e:List PV):OP 63 call (sR (sR (sB (sL (sR (sB (sB (sR (sR (sR Yy)))))))))) 87 ⟨lk [(0,.sc yv),(1,.iptr [.sc (.int .i64 h)] 0),(2,.iptr [.sc (.int .u64 seed)] 0),(4,.view 4 1 0 n),(6,.sc (.int .i64 k)),(7,.view 7 1 0 m),(40,.sc (.int .i64 p)),(41,.sc (.int .i64 i))],B5 [(4,.ar false c),(7,.ar false e)]⟩=(
 some (0,⟨lk [(0,(.sc (yv))),(1,(.iptr ([PV.sc (Value.int IntKind.i64 h)]) ((0:Nat)))),(2,(.iptr ([PV.sc (Value.int IntKind.u64 seed)]) ((0:Nat)))),(4,(.view 4 1 0 (m))),(6,(.sc (.int .i64 (k))))],B5 [(4,(.ar false (e)))]⟩)):=by kernel_rfl
theorem Amg (call:Ai)(yv:Value)(h seed k:Int)(n:Nat)(c:List PV):OP 63 call (sR (sR (sB (sB (sR (sR (sR Yy))))))) 87 ⟨lk [(0,.sc yv),(1,.iptr [.sc (.int .i64 h)] 0),(2,.iptr [.sc (.int .u64 seed)] 0),(4,.view 4 1 0 n),(6,.sc (.int .i64 k))],B5 [(4,.ar false c)]⟩=(
 Aa (wrap IntKind.i64 (k+(1:Int))) fun x1=>
 some (0,⟨lk [(0,(.sc (yv))),(1,(.iptr ([PV.sc (Value.int IntKind.i64 h)]) ((0:Nat)))),(2,(.iptr ([PV.sc (Value.int IntKind.u64 seed)]) ((0:Nat)))),(4,(.view 4 1 0 (n))),(6,(.sc (.int .i64 (x1))))],B5 [(4,(.ar false (c)))]⟩)):=by kernel_rfl
theorem Ap2 (call:Ai)(yv:Value)(h seed k:Int)(n:Nat)(c:List PV):Mo CB Tryz.prog 63 call (Lz (sL (sL (sB (sB (sR (sR (sR Yy)))))))) (List.take 3 (Lz (sL (sL (sB (sB (sR (sR (sR Yy)))))))).toList) ⟨lk [(0,.sc yv),(1,.iptr [.sc (.int .i64 h)] 0),(2,.iptr [.sc (.int .u64 seed)] 0),(4,.view 4 1 0 n),(6,.sc (.int .i64 k))],B5 [(4,.ar false c)]⟩ (fun s=>Kf 63 117440599 s fun s'=>some (0,s'))=(
 some (0,⟨lk [(0,(.sc (yv))),(1,(.iptr ([PV.sc (Value.int IntKind.i64 h)]) ((0:Nat)))),(2,(.iptr ([PV.sc (Value.int IntKind.u64 seed)]) ((0:Nat)))),(4,(.view 4 1 0 (n))),(6,(.sc (.int .i64 (k)))),(24,(.sc (yv))),(25,(.sc (.int .i64 (k)))),(26,(.view 4 1 0 (n)))],B5 [(4,(.ar false (c)))]⟩)):=by kernel_rfl
theorem Ak3 (call:Ai)(yv:Value)(h seed k:Int)(n:Nat)(c:List PV):Mo CB Tryz.prog 63 call (Lz (sL (sL (sB (sB (sR (sR (sR Yy)))))))) (List.drop 4 (Lz (sL (sL (sB (sB (sR (sR (sR Yy)))))))).toList) ⟨lk [(0,.sc yv),(1,.iptr [.sc (.int .i64 h)] 0),(2,.iptr [.sc (.int .u64 seed)] 0),(4,.view 4 1 0 n),(6,.sc (.int .i64 k)),(27,.sc (.bool true))],B5 [(4,.ar false c)]⟩ (fun s=>Kf 63 4294967383 s fun s'=>some (0,s'))=(
 some (0,⟨lk [(0,(.sc (yv))),(1,(.iptr ([PV.sc (Value.int IntKind.i64 h)]) ((0:Nat)))),(2,(.iptr ([PV.sc (Value.int IntKind.u64 seed)]) ((0:Nat)))),(4,(.view 4 1 0 (n))),(6,(.sc (.int .i64 (k)))),(32,(.sc (.bool (decide (k<h)))))],B5 [(4,(.ar false (c)))]⟩)):=by kernel_rfl
theorem Ak5 (call:Ai)(yv:Value)(h seed k:Int)(n:Nat)(c:List PV):Mo CB Tryz.prog 63 call (Lz (sL (sL (sB (sB (sR (sR (sR Yy)))))))) (List.drop 4 (Lz (sL (sL (sB (sB (sR (sR (sR Yy)))))))).toList) ⟨lk [(0,.sc yv),(1,.iptr [.sc (.int .i64 h)] 0),(2,.iptr [.sc (.int .u64 seed)] 0),(4,.view 4 1 0 n),(6,.sc (.int .i64 k)),(27,.sc (.bool false))],B5 [(4,.ar false c)]⟩ (fun s=>Kf 63 4294967383 s fun s'=>some (0,s'))=(
 some (0,⟨lk [(0,(.sc (yv))),(1,(.iptr ([PV.sc (Value.int IntKind.i64 h)]) ((0:Nat)))),(2,(.iptr ([PV.sc (Value.int IntKind.u64 seed)]) ((0:Nat)))),(4,(.view 4 1 0 (n))),(6,(.sc (.int .i64 (k)))),(32,(.sc (.bool (false))))],B5 [(4,(.ar false (c)))]⟩)):=by kernel_rfl
theorem Agq (call:Ai)(yv:Value)(h seed k:Int)(n:Nat)(c:List PV)(q:Bool):OP 63 call (sR (sL (sB (sB (sR (sR (sR Yy))))))) 87 ⟨lk [(0,.sc yv),(1,.iptr [.sc (.int .i64 h)] 0),(2,.iptr [.sc (.int .u64 seed)] 0),(4,.view 4 1 0 n),(6,.sc (.int .i64 k)),(32,.sc (.bool q))],B5 [(4,.ar false c)]⟩=(
  Bc (q)
   (
   some (0,⟨lk [(0,(.sc (yv))),(1,(.iptr ([PV.sc (Value.int IntKind.i64 h)]) ((0:Nat)))),(2,(.iptr ([PV.sc (Value.int IntKind.u64 seed)]) ((0:Nat)))),(4,(.view 4 1 0 (n))),(6,(.sc (.int .i64 (k))))],B5 [(4,(.ar false (c)))]⟩))
   (
   some (3,⟨lk [(0,(.sc (yv))),(1,(.iptr ([PV.sc (Value.int IntKind.i64 h)]) ((0:Nat)))),(2,(.iptr ([PV.sc (Value.int IntKind.u64 seed)]) ((0:Nat)))),(4,(.view 4 1 0 (n))),(6,(.sc (.int .i64 (k))))],B5 [(4,(.ar false (c)))]⟩))):=by kernel_rfl
theorem Ao4 (call:Ai)(seed h leaf m:Int):OP 48 call (sL IB) 873 ⟨lk [(0,.sc (.int .u64 seed)),(1,.sc (.int .i64 h)),(2,.sc (.int .i64 leaf)),(3,.sc (.int .u64 m))],B5 []⟩=(
 some (0,⟨lk [(0,(.sc (.int .u64 (seed)))),(3,(.sc (.int .u64 (m)))),(5,(.ptr 5 0)),(6,(.ptr 6 0)),(8,(.ptr 8 0)),(9,(.sc (.int .i64 ((0:Int)))))],B5 [(5,(.st [(.sc (.int .i64 (h)))])),(6,(.st [(.sc (.int .i64 (leaf)))])),(8,(.st [(.sc (.int .i64 ((0:Int)))),(.view 104 1 0 ((0:Nat))),(.view 152 1 0 ((0:Nat)))])),(104,(.ar false ([]))),(152,(.ar false ([])))]⟩)):=by kernel_rfl
theorem An7 (call:Ai)(seed h leaf m:Int):OP 48 call (sL (sR IB)) 873 ⟨lk [(0,.sc (.int .u64 seed)),(3,.sc (.int .u64 m)),(5,.ptr 5 0),(6,.ptr 6 0),(8,.ptr 8 0),(9,.sc (.int .i64 0))],B5 [(5,.st [.sc (.int .i64 h)]),(6,.st [.sc (.int .i64 leaf)]),(8,.st [.sc (.int .i64 0),.view 104 1 0 0,.view 152 1 0 0]),(104,.ar false []),(152,.ar false [])]⟩=(
  Ag (call (74:Nat) [PV.sc (Value.int IntKind.i64 h)]) fun x1 x2=>
  Ac (x2) <|
  Ab (x1) fun x3 x4=>
  Bl (x3) fun x5=>
  Ac (x4) <|
  Bc (x5)
   (
   none)
   (
   Ag (call (75:Nat) [PV.sc (Value.int IntKind.i64 leaf),PV.sc (Value.int IntKind.i64 h)]) fun x6 x7=>
   Ac (x7) <|
   Ab (x6) fun x8 x9=>
   Bl (x8) fun Cm=>
   Ac (x9) <|
   Bc (Cm)
    (
    none)
    (
    some (0,⟨lk [(0,(.sc (.int .u64 (seed)))),(3,(.sc (.int .u64 (m)))),(5,(.ptr 5 0)),(6,(.ptr 6 0)),(8,(.ptr 8 0)),(9,(.sc (.int .i64 ((0:Int)))))],B5 [(5,(.st [(.sc (.int .i64 (h)))])),(6,(.st [(.sc (.int .i64 (leaf)))])),(8,(.st [(.sc (.int .i64 ((0:Int)))),(.view 104 1 0 ((0:Nat))),(.view 152 1 0 ((0:Nat)))])),(104,(.ar false ([]))),(152,(.ar false ([])))]⟩)))):=by kernel_rfl
theorem Aqj (call:Ai)(seed h leaf m:Int):OP 48 call (sL (sR (sR IB))) 1897 ⟨lk [(0,.sc (.int .u64 seed)),(3,.sc (.int .u64 m)),(5,.ptr 5 0),(6,.ptr 6 0),(8,.ptr 8 0),(9,.sc (.int .i64 0))],B5 [(5,.st [.sc (.int .i64 h)]),(6,.st [.sc (.int .i64 leaf)]),(8,.st [.sc (.int .i64 0),.view 104 1 0 0,.view 152 1 0 0]),(104,.ar false []),(152,.ar false [])]⟩=(
 Ag (call (76:Nat) [PV.sc (Value.int IntKind.u64 seed),PV.sc (Value.int IntKind.i64 leaf),PV.sc (Value.int IntKind.u64 m)]) fun x1 x2=>
 Ac (x2) <|
 Ab (x1) fun x3 x4=>
 El ((1:Nat)) (x3) fun x5 x6=>
 Ac (x4) <|
 some (0,⟨lk [(0,(.sc (.int .u64 (seed)))),(3,(.sc (.int .u64 (m)))),(5,(.ptr 5 0)),(6,(.ptr 6 0)),(8,(.ptr 8 0)),(9,(.sc (.int .i64 ((0:Int))))),(10,(.ptr 10 0))],B5 [(5,(.st [(.sc (.int .i64 (h)))])),(6,(.st [(.sc (.int .i64 (leaf)))])),(8,(.st [(.sc (.int .i64 ((0:Int)))),(.view 104 1 0 ((0:Nat))),(.view 152 1 0 ((0:Nat)))])),(104,(.ar false ([]))),(152,(.ar false ([]))),(10,(.st [(.sc (.int .i64 (leaf))),(.view 106 1 0 (x5)),(.view 154 1 0 ((0:Nat)))])),(106,(.ar false (x6))),(154,(.ar false ([])))]⟩)):=by kernel_rfl
theorem Agx (call:Ai)(h leaf k:Int)(ch:Value)(n m:Nat)(c d:List PV):OP 48 call (sF (sB (sR (sL (sR (sR (sR IB))))))) 1024 ⟨lk [(5,.iptr [.sc (.int .i64 h)] 0),(6,.iptr [.sc (.int .i64 leaf)] 0),(10,.ptr 96000 0),(11,.sc (.int .i64 k)),(12,.lst false 1 n c)],B5 [(96000,.st [.sc (.int .i64 leaf),.sc ch,.view 20 1 0 m]),(20,.ar false d)]⟩=(
  Bc (k==h)
   (
   some (1,⟨lk [(10,(.ptr 96000 0))],B5 [(96000,(.st [(.sc (.int .i64 (leaf))),(.sc (ch)),(.view 96144 1 0 (m))])),(96144,(.ar false (d)))]⟩))
   (
   Ap (decide ((0:Int)<=k)) <|
   Aa (D3 IntKind.i64 leaf k) fun x1=>
   Aa (Dw IntKind.i64 x1 (1:Int)) fun x2=>
   Ap (decide ((0:Int)<=x2)&&decide (x2<(↑n:Int))) <|
   Ad (IntKind.u64) (List.getD c (Int.toNat x2*(1:Nat)) PV.top) fun x3=>
   Ap (decide (m*(1:Nat)<=List.length d)&&true&&decide ((m+(1:Nat))*(8:Nat)<=(1099511627776:Nat))&&decide (m+(1:Nat)<=(1099511627776:Nat))) <|
   Aa (m+(1:Nat)) fun x4=>
   Aa (List.take (m*(1:Nat)) d++[PV.sc (Value.int IntKind.u64 x3)]) fun x5=>
   some (0,⟨lk [(10,(.ptr 96000 0))],B5 [(96000,(.st [(.sc (.int .i64 (leaf))),(.sc (ch)),(.view 96144 1 0 (x4))])),(96144,(.ar false (x5)))]⟩))):=by kernel_rfl
theorem Anw (call:Ai)(seed h leaf m:Int)(n:Nat)(c:List PV):Mo CB Tryz.prog 48 call (Lz (sL (sL (sR (sR (sR IB)))))) (List.take 2 (Lz (sL (sL (sR (sR (sR IB)))))).toList) ⟨lk [(0,.sc (.int .u64 seed)),(3,.sc (.int .u64 m)),(5,.ptr 5 0),(6,.ptr 6 0),(8,.ptr 8 0),(9,.sc (.int .i64 0)),(10,.ptr 10 0)],B5 [(5,.st [.sc (.int .i64 h)]),(6,.st [.sc (.int .i64 leaf)]),(8,.st [.sc (.int .i64 0),.view 104 1 0 0,.view 152 1 0 0]),(104,.ar false []),(152,.ar false []),(10,.st [.sc (.int .i64 leaf),.view 106 1 0 n,.view 154 1 0 0]),(106,.ar false c),(154,.ar false [])]⟩ (fun s=>Kf 48 402655081 s fun s'=>some (0,s'))=(
 some (0,⟨lk [(0,(.sc (.int .u64 (seed)))),(3,(.sc (.int .u64 (m)))),(5,(.ptr 5 0)),(6,(.ptr 6 0)),(8,(.ptr 8 0)),(9,(.sc (.int .i64 ((0:Int))))),(10,(.ptr 10 0)),(27,(.sc (.int .u64 (seed)))),(28,(.sc (.int .i64 (h))))],B5 [(5,(.st [(.sc (.int .i64 (h)))])),(6,(.st [(.sc (.int .i64 (leaf)))])),(8,(.st [(.sc (.int .i64 ((0:Int)))),(.view 104 1 0 ((0:Nat))),(.view 152 1 0 ((0:Nat)))])),(104,(.ar false ([]))),(152,(.ar false ([]))),(10,(.st [(.sc (.int .i64 (leaf))),(.view 106 1 0 (n)),(.view 154 1 0 ((0:Nat)))])),(106,(.ar false (c))),(154,(.ar false ([])))]⟩)):=by kernel_rfl
theorem Aph (call:Ai)(leaf:Int)(n1 n2:Nat)(c1 c2:List PV):Mo CB Tryz.prog 48 call (Lz (sL (sR (sR (sR (sR IB)))))) (Lz (sL (sR (sR (sR (sR IB)))))).toList ⟨lk [(8,.ptr 96000 0),(9,.sc (.int .i64 0)),(10,.iptr [.sc (.int .i64 leaf),.lst false 1 n1 c1,.lst false 1 n2 c2] 0)],B5 [(96000,.st [.top,.top,.top])]⟩ (fun s=>Kf 48 768 s fun s'=>some (0,s'))=(
 some (0,⟨lk [(8,(.ptr 96000 0)),(9,(.sc (.int .i64 ((0:Int)))))],B5 [(96000,(.st [(.sc (.int .i64 (leaf))),(.lst false 1 (n1) (c1)),(.lst false 1 (n2) (c2))]))]⟩)):=by kernel_rfl
theorem Aop (a0 a1 a2 a3 leaf:Int)(n1 n2:Nat)(c1 c2:List PV):XP CS Tryz.prog 37 Tryz.f37 [.sc (.int .u64 a0),.sc (.int .i64 a1),.sc (.int .i64 a2),.sc (.int .u64 a3)] ⟨lk [(8,.ptr 96000 0),(9,.sc (.int .i64 0))],B5 [(96000,.st [.sc (.int .i64 leaf),.lst false 1 n1 c1,.lst false 1 n2 c2])]⟩=(
 some (A0.mk [PV.agg [PV.sc (Value.int IntKind.i64 leaf),PV.lst false (1:Nat) n1 c1,PV.lst false (1:Nat) n2 c2],PV.sc (Value.int IntKind.i64 (0:Int))] [])):=by kernel_rfl
theorem Ao8 (call:Ai)(seed h leaf m:Int):Akf CS Tryz.prog 2000 call 37 Tryz.f37 IB [.sc (.int .u64 seed),.sc (.int .i64 h),.sc (.int .i64 leaf),.sc (.int .u64 m)]=(
  Ag (call (74:Nat) [PV.sc (Value.int IntKind.i64 h)]) fun x1 x2=>
  Ac (x2) <|
  Ab (x1) fun x3 x4=>
  Bl (x3) fun x5=>
  Ac (x4) <|
  Bc (x5)
   (
   some (A0.mk [PV.agg [PV.sc (Value.int IntKind.i64 (0:Int)),PV.lst false (1:Nat) (0:Nat) [],PV.lst false (1:Nat) (0:Nat) []],PV.sc (Value.int IntKind.i64 (9:Int))] []))
   (
   Ag (call (75:Nat) [PV.sc (Value.int IntKind.i64 leaf),PV.sc (Value.int IntKind.i64 h)]) fun x6 x7=>
   Ac (x7) <|
   Ab (x6) fun x8 x9=>
   Bl (x8) fun Cm=>
   Ac (x9) <|
   Bc (Cm)
    (
    some (A0.mk [PV.agg [PV.sc (Value.int IntKind.i64 (0:Int)),PV.lst false (1:Nat) (0:Nat) [],PV.lst false (1:Nat) (0:Nat) []],PV.sc (Value.int IntKind.i64 (9:Int))] []))
    (
    Ag (call (76:Nat) [PV.sc (Value.int IntKind.u64 seed),PV.sc (Value.int IntKind.i64 leaf),PV.sc (Value.int IntKind.u64 m)]) fun C3 Dt=>
    Ac (Dt) <|
    Ab (C3) fun D0 Dq=>
    Fd ((1:Nat)) (D0) fun Ed Ek Ez=>
    Ac (Dq) <|
    Ag (call (77:Nat) [PV.sc (Value.int IntKind.u64 seed),PV.sc (Value.int IntKind.i64 h)]) fun Fo Fg=>
    Ac (Fg) <|
    Ab (Fo) fun Ex H6=>
    fnK (Ex) fun Gz=>
    Ac (H6) <|
    none))):=by kernel_rfl
end
section
open Go.IntKind (wrap)
set_option maxRecDepth 20000
open Go Go.RowKit
def G1:Ua:=⟨fun _=>False,fun _=>True,fun _ _ _ _=>trivial⟩
def noX:FuncId->Option (List PV->Option A0):=fun _=>none
theorem Ant:Ab4 G1 Tryz.prog (CX noX):=by
 intro f g args res h _;have h':(bif BA.any (Nat.beq f) then none else (none:Option (List PV->Option A0)))=some g:=h;cases hb:BA.any (Nat.beq f)<;>rw [hb] at h'<;>cases h'
noncomputable abbrev cl:Ai:=Ae (CX noX) Tryz.prog 2000 8
theorem ngT:NoNG Tryz.prog:=by
 have h:(Tryz.prog.funcs.toList.all fun fn=> !(fn.name == "runtime.NumGoroutine"))=true:=by kernel_rfl
 intro f fn hf;have:=List.all_eq_true.1 h fn (Array.mem_toList_iff.2 (Array.mem_of_getElem? hf))
 simpa using this
theorem OT:Tryz.prog.follows .mixedOrders=true:=by kernel_rfl
theorem Db:∀f args res,cl f args=some res->C6 G1 Tryz.prog f args res:=fun f args res h=>Vi ngT OT Ant 8 f args res h
theorem Pm (w0:World)(X0:E5):HC Tryz.prog G1 w0 X0:=⟨ngT,fun _ _=>trivial,fun _ h=>h.elim⟩
def gl (f:Nat->Int)(n i:Nat):List Int:=(List.range i).map f++List.replicate (n-i) 0
theorem Agz (f:Nat->Int){n i:Nat}(h:i<=n):(gl f n i).length=n:=by simp [gl];omega
theorem Aip (f:Nat->Int){n i:Nat}(h:i<n):(gl f n i).set i (f i)=gl f n (i+1):=by
 unfold gl;rw [List.set_append_right _ _ (by simp),List.length_map,List.length_range,Nat.sub_self,show n-i=(n-(i+1))+1 by omega,List.replicate_succ,List.set_cons_zero,List.range_succ,List.map_append,WY]
 rfl
theorem Abd (f:Nat->Int)(n:Nat):gl f n n=(List.range n).map f:=by simp [gl]
theorem Ab5 (f:Nat->Int)(n:Nat):gl f n 0=List.replicate n 0:=by simp [gl]
abbrev Ad4 (yv:Value)(h seed:Int)(n:Nat)(m i:Int)(c:List PV):St:=
 ⟨lk [(0,.sc yv),(1,.iptr [.sc (.int .i64 h)] 0),(2,.iptr [.sc (.int .u64 seed)] 0),(4,.view 4 1 0 n),(13,.sc (.int .i64 m)),(14,.sc (.int .i64 i))],B5 [(4,.ar false c)]⟩
abbrev Adw (yv:Value)(h seed k:Int)(n m:Nat)(p i:Int)(c e:List PV):St:=
 ⟨lk [(0,.sc yv),(1,.iptr [.sc (.int .i64 h)] 0),(2,.iptr [.sc (.int .u64 seed)] 0),(4,.view 4 1 0 n),(6,.sc (.int .i64 k)),(7,.view 7 1 0 m),(40,.sc (.int .i64 p)),(41,.sc (.int .i64 i))],B5 [(4,.ar false c),(7,.ar false e)]⟩
theorem Ar9 (yv:Value)(h seed:Int){n i:Nat}(hn:n<=1000)(hi:i<n):
  OP 63 cl (sB (sB (sR (sL (sR Yy))))) 24599 (Ad4 yv h seed n n i (Af .u64 (gl (fun (j:Nat)=>Hs seed (j:Int)) n i)))=some (0,Ad4 yv h seed n n ((i+1:Nat):Int) (Af .u64 (gl (fun (j:Nat)=>Hs seed (j:Int)) n (i+1)))):=by
 have pb:cl Ku [.sc (.int .u64 seed),.sc (.int .i64 i)]=_:=Ac6 (xs:=noX) (fu:=2000) (d:=1) (by omega) seed i
 have w:wrap .i64 ((i:Int)+1)=((i+1:Nat):Int):=by rw [Aj (by omega) (by omega)];omega
 have L:(Af .u64 (gl (fun (j:Nat)=>Hs seed (j:Int)) n i)).length=n:=by rw [Ak,Agz _ (by omega)]
 have hset:Ba (Af .u64 (gl (fun (j:Nat)=>Hs seed (j:Int)) n i)) [.sc (.int .u64 (Hs seed i))] i=Af .u64 (gl (fun (j:Nat)=>Hs seed (j:Int)) n (i+1)):=by
  rw [Ev (by omega),Jv]
  exact congrArg _ (Aip (fun (j:Nat)=>Hs seed (j:Int)) hi)
 refine (Aha cl yv h seed n i n (Af .u64 (gl (fun (j:Nat)=>Hs seed (j:Int)) n i))).trans ?_
 simp (disch:=omega) only [Bz,He,B8,Br,pb,L,hset,w]
theorem Ary (yv:Value)(h seed:Int)(n:Nat)(c:List PV):
  OP 63 cl (sB (sB (sR (sL (sR Yy))))) 24599 (Ad4 yv h seed n n n c)=some (1,Ad4 yv h seed n n n c):=
 (Aha cl yv h seed n n n c).trans (Dr _ _ _ (by omega))
theorem TS {yv:Value}{h seed:Int}{n:Nat}(hn:n<=1000):∀(r i nn:Nat),i+r=n->r<nn->∀{w0:World}{X0:E5}{Y:Nat->Prop}{β:Bt}{a:Act}{w:World}{Q:Exit->Act->World->Prop},
  Bu 63 w0 X0 Y β (Ad4 yv h seed n n i (Af .u64 (gl (fun (j:Nat)=>Hs seed (j:Int)) n i))) a w ->
  (∀a' w' β',Bu 63 w0 X0 Y β' (Ad4 yv h seed n n n (Af .u64 (gl (fun (j:Nat)=>Hs seed (j:Int)) n n))) a' w'->Q (.exit 0) a' w')->Code.rounds Tryz.prog (sB (sB (sR (sL (sR Yy))))) Q nn a w
 |_,_,0,_,h=>by omega
 |0,i,nn+1,hi,_=>by
  intro hs hQ;obtain rfl:i=n:=by omega
  rw [rounds_succ];exact D5 (Pm _ _) OT Db hs (Ary yv h seed i _) fun a' w' β' h'=>hQ a' w' β' h'
 |r+1,i,nn+1,hi,hr=>by
  intro hs hQ;rw [rounds_succ];exact D5 (Pm _ _) OT Db hs (Ar9 yv h seed hn (by omega)) fun a' w' β' h'=>TS hn r (i+1) nn (by omega) (by omega) h' hQ
def Ef (seed:Int)(n k:Nat):List Int:=(List.range n).map fun (j:Nat)=>Bv seed k (j:Int)
theorem LD (seed:Int)(n k:Nat):(Ef seed n k).length=n:=by simp [Ef]
theorem Q3 (seed:Int){n k j:Nat}(h:j<n):(Ef seed n k)[j]?=some (Bv seed k j):=by simp [Ef,h]
theorem Arx (yv:Value)(h seed:Int){k m i:Nat}(hm:m<=1000)(hk:k<=1000)(hi:i<m):
  OP 63 cl (sB (sB (sR (sL (sR (sB (sL (sR (sB (sB (sR (sR (sR Yy))))))))))))) 3298534883543 (Adw yv h seed k (2*m) m m i (Af .u64 (Ef seed (2*m) k)) (Af .u64 (gl (fun (j:Nat)=>Bv seed (k+1) (j:Int)) m i))) =
   some (0,Adw yv h seed k (2*m) m m ((i+1:Nat):Int) (Af .u64 (Ef seed (2*m) k)) (Af .u64 (gl (fun (j:Nat)=>Bv seed (k+1) (j:Int)) m (i+1)))):=by
 have e1:wrap .i64 ((2:Int)*i)=((2*i:Nat):Int):=by rw [Aj (by omega) (by omega)];omega
 have e2:wrap .i64 (((2*i:Nat):Int)+1)=((2*i+1:Nat):Int):=by rw [Aj (by omega) (by omega)];omega
 have e3:wrap .i64 ((k:Int)+1)=((k+1:Nat):Int):=by rw [Aj (by omega) (by omega)];omega
 have w:wrap .i64 ((i:Int)+1)=((i+1:Nat):Int):=by rw [Aj (by omega) (by omega)];omega
 have a1:(Af .u64 (Ef seed (2*m) k)).getD (2*i) .top=.sc (.int .u64 (Bv seed k ((2*i:Nat):Int))):=W5 (Q3 seed (by omega))
 have a2:(Af .u64 (Ef seed (2*m) k)).getD (2*i+1) .top=.sc (.int .u64 (Bv seed k ((2*i+1:Nat):Int))):=W5 (Q3 seed (by omega))
 have pn:cl Km [.sc (.int .i64 ((k+1:Nat):Int)),.sc (.int .u64 (Bv seed k ((2*i:Nat):Int))),.sc (.int .u64 (Bv seed k ((2*i+1:Nat):Int)))]=some ⟨[.sc (.int .u64 (Bv seed (k+1) (i:Int)))],[]⟩:=by
  have:=DS (xs:=noX) (fu:=2000) (d:=2) (by omega) ((k+1:Nat):Int) (Bv seed k ((2*i:Nat):Int)) (Bv seed k ((2*i+1:Nat):Int))
  rw [show Bv seed (k+1) (i:Int)=Lj ((k+1:Nat):Int) (Bv seed k ((2*i:Nat):Int)) (Bv seed k ((2*i+1:Nat):Int)) by
   rw [Bv];congr 2<;>omega]
  exact this
 have L:(Af .u64 (gl (fun (j:Nat)=>Bv seed (k+1) (j:Int)) m i)).length=m:=by rw [Ak,Agz _ (by omega)]
 have hset:Ba (Af .u64 (gl (fun (j:Nat)=>Bv seed (k+1) (j:Int)) m i)) [.sc (.int .u64 (Bv seed (k+1) (i:Int)))] i=Af .u64 (gl (fun (j:Nat)=>Bv seed (k+1) (j:Int)) m (i+1)):=by
  rw [Ev (by omega),Jv]
  exact congrArg _ (Aip (fun (j:Nat)=>Bv seed (k+1) (j:Int)) hi)
 refine (Afd cl yv h seed k m i (2*m) m _ _).trans ?_;simp (disch:=omega) only [Bz,He,B8,Br,e1,e2,e3,a1,a2,pn,L,hset,w]
theorem Asp (yv:Value)(h seed k:Int)(n m:Nat)(c e:List PV):
  OP 63 cl (sB (sB (sR (sL (sR (sB (sL (sR (sB (sB (sR (sR (sR Yy))))))))))))) 3298534883543 (Adw yv h seed k n m m m c e)=some (5,Adw yv h seed k n m m m c e):=
 (Afd cl yv h seed k m m n m c e).trans (Dr _ _ _ (by omega))
theorem UE {yv:Value}{h seed:Int}{k m:Nat}(hm:m<=1000)(hk:k<=1000):∀(r i nn:Nat),i+r=m->r<nn->∀{w0:World}{X0:E5}{Y:Nat->Prop}{β:Bt}{a:Act}{w:World}{Q:Exit->Act->World->Prop},
  Bu 63 w0 X0 Y β (Adw yv h seed k (2*m) m m i (Af .u64 (Ef seed (2*m) k)) (Af .u64 (gl (fun (j:Nat)=>Bv seed (k+1) (j:Int)) m i))) a w ->
  (∀a' w' β',Bu 63 w0 X0 Y β' (Adw yv h seed k (2*m) m m m (Af .u64 (Ef seed (2*m) k)) (Af .u64 (gl (fun (j:Nat)=>Bv seed (k+1) (j:Int)) m m))) a' w'->Q (.exit 4) a' w') ->
  Code.rounds Tryz.prog (sB (sB (sR (sL (sR (sB (sL (sR (sB (sB (sR (sR (sR Yy))))))))))))) Q nn a w
 |_,_,0,_,h=>by omega
 |0,i,nn+1,hi,_=>by
  intro hs hQ;obtain rfl:i=m:=by omega
  rw [rounds_succ];exact D5 (Pm _ _) OT Db hs (Asp yv h seed k (2*i) i _ _) fun a' w' β' h'=>hQ a' w' β' h'
 |r+1,i,nn+1,hi,hr=>by
  intro hs hQ;rw [rounds_succ];exact D5 (Pm _ _) OT Db hs (Arx yv h seed hm hk (by omega)) fun a' w' β' h'=>UE hm hk r (i+1) nn (by omega) (by omega) h' hQ
end
section
open Go.IntKind (wrap)
set_option maxRecDepth 20000
open Go Go.RowKit
noncomputable abbrev MM:Code:=sB (sB (sR (sR (sR Yy))))
noncomputable abbrev lvX:Code:=sB (sL (sR MM))
theorem Aqz:MM=.seq (.seq (.region 7 (Lz (sL (sL MM))) false) (sR (sL MM))) (.seq (.block 3 lvX) (sR (sR MM))):=by kernel_rfl
theorem An0:lvX=.seq (sL lvX) (.seq (.seq (sL (sL (sR lvX))) (.block 4 (.loop (sB (sB (sR (sL (sR lvX)))))))) (sR (sR lvX))):=by kernel_rfl
theorem Aoe:Yy=.seq (sL Yy) (.seq (.seq (sL (sL (sR Yy))) (.block 0 (.loop (sB (sB (sR (sL (sR Yy)))))))) (.seq (sL (sR (sR Yy))) (.block 2 (.loop MM)))):=by kernel_rfl
theorem Zt {F:Fence}{n:Nat}{P:Program}{c c':Code}{Q:Exit->Act->World->Prop}{a:Act}{w:World}(e:c=c')(h:c'.wpIn F n P Q a w):c.wpIn F n P Q a w:=e ▸ h
abbrev lvS (yv:Value)(h seed:Int)(n:Nat)(k:Int)(c:List PV):St:=
 ⟨lk [(0,.sc yv),(1,.iptr [.sc (.int .i64 h)] 0),(2,.iptr [.sc (.int .u64 seed)] 0),(4,.view 4 1 0 n),(6,.sc (.int .i64 k))],B5 [(4,.ar false c)]⟩
abbrev QT (yv:Value)(h seed:Int)(n:Nat)(k:Int)(c:List PV):St:=
 ⟨lk [(0,.sc yv),(1,.iptr [.sc (.int .i64 h)] 0),(2,.iptr [.sc (.int .u64 seed)] 0),(4,.view 4 1 0 n),(6,.sc (.int .i64 k)),(24,.sc yv),(25,.sc (.int .i64 k)),(26,.view 4 1 0 n)],B5 [(4,.ar false c)]⟩
abbrev Asn (yv:Value)(h seed:Int)(n:Nat)(k:Int)(c:List PV)(b:Bool):St:=
 ⟨lk [(0,.sc yv),(1,.iptr [.sc (.int .i64 h)] 0),(2,.iptr [.sc (.int .u64 seed)] 0),(4,.view 4 1 0 n),(6,.sc (.int .i64 k)),(27,.sc (.bool b))],B5 [(4,.ar false c)]⟩
def lvM (seed:Int)(h:Nat)(pre:List Nat)(k:Nat)(args:Array Value)(Z:Nat->Prop)(A:World):Prop:=
 k<=h∧pre=List.range k∧∃b o cap,args = #[.int .i64 k,.slice (some ⟨b,o,none⟩) (2 ^ (h-k):Nat) cap]∧2 ^ (h-k)<=cap∧b<A.heap.size∧¬Z b∧∀j,j<2 ^ (h-k)->A.cell? ⟨b,o+j,none⟩=some (.int .u64 (Bv seed k j))
theorem Ahe {seed:Int}{h:Nat}{pre:List Nat}{k:Nat}{args:Array Value}{Z:Nat->Prop}{A B:World}(hm:lvM seed h pre k args Z A)(hs:A.heap.size<=B.heap.size)(hk:∀b,b<A.heap.size->¬Z b->B.heap[b]?=A.heap[b]?):lvM seed h pre k args Z B:=by
 obtain ⟨h0,hpr,b,o,cap,h1,h2,h3,h4,h5⟩:=hm;exact ⟨h0,hpr,b,o,cap,h1,h2,by omega,h4,fun j hj=>(World.cell?_of_block (a:=⟨b,o+j,none⟩) (hk b h3 h4)).trans (h5 j hj)⟩
theorem Ahl {seed:Int}{h:Nat}{pre:List Nat}{k:Nat}{args:Array Value}{Z:Nat->Prop}{A:World}(hm:lvM seed h pre k args Z A):args.size=2:=by
 obtain ⟨h0,_,b,o,cap,h1,_⟩:=hm;rw [h1];rfl
theorem Asq:∃ty pos aft x,(Lz (sL (sL MM)))[3]?=some { dst:=some 27,op:=.call { callee:=.value (.tmp 24),args:= #[.tmp 25,.tmp 26],argTypes:=x },type:=ty,pos:=pos,after:=aft,guard:=none }:=
 ⟨_,_,_,_,rfl⟩
theorem Le {k:IntKind}{l:List Int}{i:Nat}{n:Int}(h:l[i]?=some n):(Af k l)[i]?=some (.sc (.int k n)):=by
 have h1:=W5 (k:=k) h;have hlt:i<(Af k l).length:=by rw [Ak];exact (List.getElem?_eq_some_iff.1 h).1
 rw [List.getD_eq_getElem?_getD,List.getElem?_eq_getElem hlt] at h1;rw [List.getElem?_eq_getElem hlt];exact congrArg some h1
section
variable {seed:Int} {h l:Nat} {w0:World} {X0:E5} {Z:Nat->Prop} {β:Bt} {a:Act} {w:World}
theorem Ajn {yv:Value}{k n:Nat}{c:List PV}{hi:Int}(hs:Bu 63 w0 X0 Z β (QT yv hi seed n k c) a w) (hn:0<n):
  a.tmps.getD 24 undef=yv∧a.tmps.getD 25 undef=.int .i64 k∧∃b o cap,β 4=some (b,o)∧a.tmps.getD 26 undef=.slice (some ⟨b,o,none⟩) n cap∧n<=cap∧b<w.heap.size∧NQ w (Cw (B5 [(4,.ar false c)]) β Z) ⟨b,o,none⟩ c:=by
 have h24:=hs.tms 24 (by decide)
 have h25:=hs.tms 25 (by decide)
 have h26:=hs.tms 26 (by decide)
 have hb:=hs.box 4 _ (rfl:_=some (Bk.ar false c));refine ⟨(O8 h24),(O8 h25),?_⟩;rcases (show B9 w (Cw (B5 [(4,.ar false c)]) β Z) β (.view 4 1 0 n) (a.tmps.getD 26 undef) from h26) with ⟨_,_,h3,_⟩|⟨b,o,x,cap,h1,h2,h3,h4,h5,h6⟩
 ·omega
 ·rcases hb with ⟨h7,_⟩|⟨b',o',h7,h8,_⟩
  ·rw [h1] at h7;cases h7
  ·rw [h1] at h7;cases h7;have hx:x=o:=by omega
   subst hx;exact ⟨b,x,cap,h1,h2,h4,h6,h8⟩
abbrev Ar3 (yv:Value)(h seed:Int)(n:Nat)(k:Int)(c:List PV)(q:Bool):St:=
 ⟨lk [(0,.sc yv),(1,.iptr [.sc (.int .i64 h)] 0),(2,.iptr [.sc (.int .u64 seed)] 0),(4,.view 4 1 0 n),(6,.sc (.int .i64 k)),(32,.sc (.bool q))],B5 [(4,.ar false c)]⟩
theorem Ab7 {yv:Value}{hi seed:Int}{n:Nat}{k:Int}{c:List PV}:∀id cc,(QT yv hi seed n k c).hp id≠some (.st cc):=by
 intro id cc e;rcases Rb [(4,Bk.ar false c)] id with h1|⟨q,hq,h1,h2⟩
 ·rw [show (QT yv hi seed n k c).hp id=B5 [(4,Bk.ar false c)] id from rfl,h1] at e;cases e
 ·simp at hq;subst hq;rw [show (QT yv hi seed n k c).hp id=B5 [(4,Bk.ar false c)] id from rfl,h2] at e
  cases e
theorem Aj5 {hi:Int}{yv:Value}{n:Nat}{k:Int}{c:List PV}{Z':Nat->Prop}{B:World}(b:Bool)(hs:Bu 63 w0 X0 Z β (QT yv hi seed n k c) a w) (ht:HZ Z Z' w B):
  Bu 63 B (Ajj (QT yv hi seed n k c) β) Z' β (Asn yv hi seed n k c b) (a.put (some 27) (.bool b)) B:=by
 have h1:=(hs.rebase ht Ab7).put (d:=some 27) (v:=.sc (.bool b)) (val:=.bool b) rfl (A5.sc _) (by simp [Bq,Cb,At])
 refine h1.pick _ _ ?_ ?_ ?_ ?_ (fun _ h=>h.elim)
 ·intro q hq;simp only [List.mem_cons,List.not_mem_nil,or_false] at hq;rcases hq with rfl|rfl|rfl|rfl|rfl|rfl<;>rfl
 ·intro q hq;simp only [List.mem_cons,List.not_mem_nil,or_false] at hq;rcases hq with rfl<;>rfl
 ·intro q hq id hid;simp only [List.mem_cons,List.not_mem_nil,or_false] at hq;rcases hq with rfl|rfl|rfl|rfl|rfl|rfl<;>simp [Bq,Cb,At] at hid
  subst hid;simp [B5]
 ·intro q hq cells e;simp only [List.mem_cons,List.not_mem_nil,or_false] at hq;rcases hq with rfl;cases e
theorem Ake (hh:h<=4){J Jx:(Nat->Prop)->List Nat->World->Prop} (hJ:∀Z pre A B,J Z pre A->Wg Z A B->J Z pre B)(hJx:∀Z pre A B,Jx Z pre A->Wg Z A B->Jx Z pre B)
  (hY:∀Z pre x args A,J Z pre A->lvM seed h pre x args Z A->YieldAt Fence.wide 0 Tryz.prog l args A fun e B=>∃Z',HZ Z Z' A B∧((e=.returned (.bool true)∧J Z' (pre++[x]) B)∨(e=.returned (.bool false)∧Jx Z' (pre++[x]) B)))
  {k r:Nat} (hk:k+r=h) (hs:Bu 63 w0 X0 Z β (lvS (.func (.yield l) #[] #[]) h seed (2 ^ r) k (Af .u64 (Ef seed (2 ^ r) k))) a w) (hd:∀b,Z b->¬X0.X b) (hj:J Z (List.range k) w0) {Q:Exit->Act->World->Prop}
  (hgo:k<h->∀w2 X2 Z' β' a' w',Bu 63 w2 X2 Z' β' (lvS (.func (.yield l) #[] #[]) h seed (2 ^ r) k (Af .u64 (Ef seed (2 ^ r) k))) a' w'->(∀b,Z' b->¬X2.X b)->J Z' (List.range (k+1)) w2->Q .normal a' w')
  (hend:∀a' w',a'.defers=[]->(∃Z xs,(xs=List.range (h+1)∧J Z xs w')∨((∃k,xs=List.range (k+1))∧Jx Z xs w'))->Q (.exit 2) a' w'):
  (Code.seq (.region 7 (Lz (sL (sL MM))) false) (sR (sL MM))).wpIn Fence.wide 0 Tryz.prog Q a w:=by
 have hp:0<2 ^ r:=Nat.pos_of_ne_zero (by simp)
 refine wpIn_seq (wpIn_region ?_);have hl:List.range (Lz (sL (sL MM))).size=[0,1,2]++[3,4,5,6,7,8]:=by kernel_rfl
 rw [hl];refine Md (ro:=none) (C:=CB) (call:=cl) (r:=((0:Nat),QT (.func (.yield l) #[] #[]) h seed (2 ^ r) k (Af .u64 (Ef seed (2 ^ r) k)))) (Pm _ _) Db ?_ [0,1,2] (List.take 3 (Lz (sL (sL MM))).toList) (by kernel_rfl) ?_ (by kernel_rfl) hs (Ap2 cl _ h seed k (2 ^ r) _)
 rotate_left
 ·intro j i hj
  match j,hj with
  |0,hj=>cases hj;rfl
  |1,hj=>cases hj;rfl
  |2,hj=>cases hj;rfl
 intro s' a1 w1 β1 hk1 hs1;obtain ⟨β2,s2,hk2,hs2⟩:=Di hs1 hk1;cases hk2;obtain ⟨v24,v25,b,o,cap,hb,v26,hcap,hbl,hrd⟩:=Ajn hs2 hp;have hjw:J Z (List.range k) w1:=hJ Z _ _ _ hj (hs2.stay hd);have hkr:h-k=r:=by omega
 have hm:lvM seed h (List.range k) k #[.int .i64 k,.slice (some ⟨b,o,none⟩) (2 ^ r:Nat) cap] Z w1:=by
  refine ⟨by omega,rfl,b,o,cap,by rw [hkr],by rw [hkr];exact hcap,hbl,fun hz=>hs2.Yx b hz ⟨4,o,by trivial,hb⟩,fun j hj=>?_⟩
  rw [hkr] at hj;obtain ⟨v,hv,_,hv2⟩:=hrd j (.sc (.int .u64 (Bv seed k j))) (Le (Q3 seed hj));rw [Dz] at hv;rw [hv,A5.val hv2]
 obtain ⟨fn,tmps,assign,body,hy,hR⟩:=hY Z _ k _ w1 hjw hm;obtain ⟨ty,pos,aft,x,ho⟩:=Asq;rw [wpOpsIn_cons];unfold wpOpIn;rw [ho];simp only [Region.wanted,if_true]
 have run:(execOp a1.eval { dst:=some 27,op:=.call { callee:=.value (.tmp 24),args:= #[.tmp 25,.tmp 26],argTypes:=x },type:=ty,pos:=pos,after:=aft,guard:=none }).run Tryz.prog w1=.ok (.round l fn tmps assign body) w1:=by
  have e24:a1.eval (.tmp 24)=.func (.yield l) #[] #[]:=v24;have e25:a1.eval (.tmp 25)=.int .i64 k:=v25;have e26:a1.eval (.tmp 26)=.slice (some ⟨b,o,none⟩) (2 ^ r:Nat) cap:=v26;refine Acu rfl rfl e24 ?_;rw [←hy];simp only [List.map_toArray,Zzw,List.map_nil,e25,e26]
 refine ⟨fun _ _=>trivial,?_⟩
 rw [show Oper.semAt (WF none).round a1.eval { dst:=some 27,op:=.call { callee:=.value (.tmp 24),args:= #[.tmp 25,.tmp 26],argTypes:=x },type:=ty,pos:=pos,after:=aft,guard:=none }=execOp a1.eval { dst:=some 27,op:=.call { callee:=.value (.tmp 24),args:= #[.tmp 25,.tmp 26],argTypes:=x },type:=ty,pos:=pos,after:=aft,guard:=none } from rfl,run]
 refine ⟨(fun h=>by cases h),(TU hR).mono ?_⟩
 have rest:∀(e:Bool) (B:World) (Z':Nat->Prop) (q:Bool),HZ Z Z' w1 B->(Mo CB Tryz.prog 63 cl (Lz (sL (sL MM))) (List.drop 4 (Lz (sL (sL MM))).toList) (Asn (.func (.yield l) #[] #[]) h seed (2 ^ r) k (Af .u64 (Ef seed (2 ^ r) k)) e) (fun s=>Kf 63 4294967383 s fun s'=>some (0,s'))=some ((0:Nat),Ar3 (.func (.yield l) #[] #[]) h seed (2 ^ r) k (Af .u64 (Ef seed (2 ^ r) k)) q)) ->
   (∀a' w' β',Bu 63 B (Ajj (QT (.func (.yield l) #[] #[]) h seed (2 ^ r) k (Af .u64 (Ef seed (2 ^ r) k))) β2) Z' β' (lvS (.func (.yield l) #[] #[]) h seed (2 ^ r) k (Af .u64 (Ef seed (2 ^ r) k))) a' w'->if q=true then Q .normal a' w' else Q (.exit 2) a' w') ->
   wpOpsIn (WF none) 0 Tryz.prog (Lz (sL (sL MM))) (Exit.then ((sR (sL MM)).wpIn Fence.wide 0 Tryz.prog Q) Q) [4,5,6,7,8] (a1.put (some 27) (.bool e)) B:=by
  intro e B Z' q ht heq hq;have h4:=Aj5 e hs2 ht;show wpOpsIn _ _ _ _ _ ([4,5,6,7,8]++[]) _ _;refine Md (ro:=none) (C:=CB) (call:=cl) (Pm _ _) Db ?_ [4,5,6,7,8] (List.drop 4 (Lz (sL (sL MM))).toList) (by kernel_rfl) ?_ (by kernel_rfl) h4 heq
  rotate_left
  ·intro j i hj
   match j,hj with
   |0,hj=>cases hj;rfl
   |1,hj=>cases hj;rfl
   |2,hj=>cases hj;rfl
   |3,hj=>cases hj;rfl
   |4,hj=>cases hj;rfl
  intro s' a5 w5 β5 hk5 hs5;obtain ⟨β6,s6,hk6,hs6⟩:=Di hs5 hk5;cases hk6;show (sR (sL MM)).wpIn Fence.wide 0 Tryz.prog Q a5 w5;cases q
  ·exact wpIn_wide.2 (D5 (Pm _ _) OT Db hs6 ((Agq cl _ h seed k (2 ^ r) _ false).trans rfl) fun a' w' β' h'=>hq a' w' β' h')
  ·exact wpIn_wide.2 (D5 (Pm _ _) OT Db hs6 ((Agq cl _ h seed k (2 ^ r) _ true).trans rfl) fun a' w' β' h'=>hq a' w' β' h')
 have hown:∀{B:World} {Z':Nat->Prop} {β':Bt} {s':St} {a':Act} {w':World},HZ Z Z' w1 B->∀b,Z' b->¬(Ajj (QT (.func (.yield l) #[] #[]) h seed (2 ^ r) k (Af .u64 (Ef seed (2 ^ r) k))) β2).X b:=by
  intro B Z' _ _ _ _ ht b hz;exact (hs2.rebase ht Ab7).Yx b hz
 have er:List.range k++[k]=List.range (k+1):=(List.range_succ).symm
 rintro e B ⟨Z',ht,(⟨rfl,hj2⟩|⟨rfl,hj2⟩)⟩
 ·rw [er] at hj2;refine rest true B Z' (decide ((k:Int)<(h:Int))) ht (Ak3 cl _ h seed k (2 ^ r) _) fun a' w' β' h'=>?_
  have hdd:=hown (β':=β) (s':=s') (a':=a) (w':=w) ht;by_cases hlt:k<h
  ·rw [B4 (by simp;omega)]
   exact hgo hlt B _ Z' β' a' w' h' hdd hj2
  ·rw [A6 (by simp;omega)]
   exact hend a' w' h'.dfr ⟨Z',List.range (k+1),.inl ⟨by rw [show k=h by omega],hJ Z' _ _ _ hj2 (h'.stay hdd)⟩⟩
 ·refine rest false B Z' false ht (Ak5 cl _ h seed k (2 ^ r) _) fun a' w' β' h'=>?_
  have hdd:=hown (β':=β) (s':=s') (a':=a) (w':=w) ht;rw [A6 (by simp)]
  exact hend a' w' h'.dfr ⟨Z',_,.inr ⟨⟨k,er⟩,hJx Z' _ _ _ hj2 (h'.stay hdd)⟩⟩
theorem OQ (hh:h<=4){J Jx:(Nat->Prop)->List Nat->World->Prop} (hJ:∀Z pre A B,J Z pre A->Wg Z A B->J Z pre B)(hJx:∀Z pre A B,Jx Z pre A->Wg Z A B->Jx Z pre B)
  (hY:∀Z pre x args A,J Z pre A->lvM seed h pre x args Z A->YieldAt Fence.wide 0 Tryz.prog l args A fun e B=>∃Z',HZ Z Z' A B∧((e=.returned (.bool true)∧J Z' (pre++[x]) B)∨(e=.returned (.bool false)∧Jx Z' (pre++[x]) B)))
  {Q:Exit->Act->World->Prop} (hend:∀a' w',a'.defers=[]->(∃Z xs,(xs=List.range (h+1)∧J Z xs w')∨((∃k,xs=List.range (k+1))∧Jx Z xs w'))->Q (.exit 2) a' w'):
  ∀(r k nn:Nat),k+r=h->r<nn->∀{w0:World} {X0:E5} {Z:Nat->Prop} {β:Bt} {a:Act} {w:World},
   Bu 63 w0 X0 Z β (lvS (.func (.yield l) #[] #[]) h seed (2 ^ r:Nat) k (Af .u64 (Ef seed (2 ^ r) k))) a w->(∀b,Z b->¬X0.X b)->J Z (List.range k) w0->Code.roundsIn Fence.wide 0 Tryz.prog MM Q nn a w
 |_,_,0,_,h=>by omega
 |r,k,nn+1,hk,hr=>by
  intro hs hd hj;rw [roundsIn_succ];refine Zt Aqz (wpIn_seq (Ake hh hJ hJx hY hk hs hd hj ?_ fun a' w' h1 h2=>hend a' w' h1 h2))
  intro hlt w2 X2 Z' β' a' w' hs2 hd2 hj2
  match r,hk,hr,hs2 with
  |0,hk,hr,hs2=>omega
  |r+1,hk,hr,hs2=>
   have hp:2 ^ (r+1)=2*2 ^ r:=by rw [Nat.pow_succ];omega
   have hle:2 ^ r<=8:=by
    have:2 ^ r<=2 ^ 3:=Nat.pow_le_pow_right (by omega) (by omega)
    omega
   rw [hp] at hs2;show (Code.seq (.block 3 lvX) (sR (sR MM))).wpIn Fence.wide 0 Tryz.prog _ a' w';refine wpIn_seq (wpIn_block (Zt An0 (wpIn_seq (wpIn_wide.2 (D5 (Pm _ _) OT Db hs2 (L:=215) (t:=0) (s1:=⟨lk [(0,.sc (.func (.yield l) #[] #[])),(1,.iptr [.sc (.int .i64 h)] 0),(2,.iptr [.sc (.int .u64 seed)] 0),(4,.view 4 1 0 (2*2 ^ r)),(6,.sc (.int .i64 k)),(7,.view 7 1 0 (2 ^ r))],B5 [(4,.ar false (Af .u64 (Ef seed (2*2 ^ r) k))),(7,.ar false (Af .u64 (List.replicate (2 ^ r) 0)))]⟩) ?_ ?_)))))
   ·have w2:wrap .i64 (Int.tdiv ((2*2 ^ r:Nat):Int) 2)=((2 ^ r:Nat):Int):=by
     rw [Int.tdiv_eq_ediv_of_nonneg (by omega),Aj (by omega) (by omega)];omega
    refine (Amf cl _ h seed k (2*2 ^ r) _).trans ?_;simp (disch:=omega) only [Bz,He,w2,JU]
   intro a3 w3 β3 hs3;refine wpIn_seq (wpIn_seq (wpIn_wide.2 (D5 (Pm _ _) OT Db hs3 (Ao6 cl _ h seed k _ _ _ _) ?_)));intro a4 w4 β4 hs4;refine wpIn_block (wpIn_wide.2 (wp_loop_rounds 1000 (UE (k:=k) (m:=2 ^ r) (by omega) (by omega) (2 ^ r) 0 1000 (by omega) (by omega) (by rw [Ab5];exact hs4) ?_)))
   intro a5 w5 β5 hs5;show (sR (sR lvX)).wpIn Fence.wide 0 Tryz.prog _ a5 w5;refine wpIn_wide.2 (D5 (Pm _ _) OT Db hs5 (Amr cl _ h seed k _ _ _ _ _ _) ?_);intro a6 w6 β6 hs6;show (sR (sR MM)).wpIn Fence.wide 0 Tryz.prog _ a6 w6;refine wpIn_wide.2 (D5 (Pm _ _) OT Db hs6 (L:=87) (t:=0) (s1:=lvS (.func (.yield l) #[] #[]) h seed (2 ^ r:Nat) ((k+1:Nat):Int) (Af .u64 (Ef seed (2 ^ r) (k+1)))) ?_ ?_)
   ·have w1:wrap .i64 ((k:Int)+1)=((k+1:Nat):Int):=by rw [Aj (by omega) (by omega)];omega
    refine (Amg cl _ h seed k _ _).trans ?_;simp only [Bz,w1];rw [Abd];rfl
   intro a7 w7 β7 hs7;exact OQ hh hJ hJx hY hend r (k+1) nn (by omega) (by omega) hs7 hd2 hj2
end
end
section
open Go.IntKind (wrap)
set_option maxRecDepth 20000
open Go Go.RowKit
def noL:E5:={ X:=fun _=>False,L:=fun _ _=>False,pn:=fun _=>False,pt:=fun _=>none,p8:=fun _ h=>h.elim }
theorem Bu.init {N:Nat}{W:World}{Z0:Nat->Prop}(l:List (Nat × PV)) (a:Act)(hd:a.defers=[]) (hsz:a.tmps.size=N)(hlt:∀q∈l,q.1<N)(hv:∀q∈l,Dp W Z0 (fun _=>none) q.2 (a.tmps.getD q.1 undef)) (hr:∀q∈l,Bq q.2=[]) (hZ:∀b,Z0 b->b<W.heap.size):
  Bu N W noL Z0 (fun _=>none) ⟨lk l,B5 []⟩ a W:=by
 have hA:∀b,b<W.heap.size->Cw (B5 []) (fun _=>none) Z0 b->Z0 b:=fun b _ hb=>hb.elim (fun ⟨_,_,h,_⟩=>(h:Cd none).elim) id
 have hst:B7 Z0 W W:=⟨Nat.le_refl _,fun _ _ _=>rfl,fun _ _=>Nat.le_refl _⟩
 refine ⟨hd,hsz,fun i hi=>?_,fun i hi=>?_,fun id bx e=>(by cases e),fun id id' b o o' h=>(h:Cd none).elim,fun id b o h=>(h rfl).elim,fun i hi id hid=>?_,fun id c e=>(by cases e),fun b ⟨_,_,h,_⟩=>(h:Cd none).elim,fun id bx b o e=>(by cases e),
  fun i hi=>hi.elim,fun id c b o e=>(by cases e),fun b hz ⟨_,_,h,_⟩=>(h:Cd none).elim,hZ,⟨rfl,rfl,rfl,⟨Nat.le_refl _,fun _ _ _=>rfl,fun _ _=>Nat.le_refl _⟩,fun _ _ _ _=>⟨rfl,rfl⟩⟩⟩
 ·rcases Nk l i with e|⟨q,hq,h1,h2⟩
  ·exact e
  ·have:=hlt q hq;omega
 ·show Dp W (Cw (B5 []) (fun _=>none) Z0) (fun _=>none) (lk l i) _
  rcases Nk l i with e|⟨q,hq,h1,h2⟩
  ·rw [e];exact A5.top _
  ·rw [h2,←h1];exact (hv q hq).step hst hA fun _ _=>rfl
 ·rcases Nk l i with e|⟨q,hq,h1,h2⟩
  ·rw [show (St.mk (lk l) (B5 [])).tm i=lk l i from rfl,e] at hid;simp [Bq,Cb,At] at hid
  ·rw [show (St.mk (lk l) (B5 [])).tm i=lk l i from rfl,h2,hr q hq] at hid;cases hid
def Alg (seed:Int)(h Bh Bs:Nat)(Z0:Nat->Prop)(W:World):Prop:=
 W.cell? ⟨Bh,0,none⟩=some (.int .i64 h)∧W.cell? ⟨Bs,0,none⟩=some (.int .u64 seed)∧Bh<W.heap.size∧Bs<W.heap.size∧¬Z0 Bh∧¬Z0 Bs
theorem Al5 {h:Nat}(hh:h<=4):G4 .i64 1 (h:Int)=((2 ^ h:Nat):Int):=by
 have:h=0∨h=1∨h=2∨h=3∨h=4:=by omega
 rcases this with rfl|rfl|rfl|rfl|rfl<;>decide
theorem Alb {seed:Int}{h Bh Bs:Nat}{Z0:Nat->Prop}{W:World}{yv:Value}(hP:Alg seed h Bh Bs Z0 W)(hZ:∀b,Z0 b->b<W.heap.size):
  Bu 63 W noL Z0 (fun _=>none) ⟨lk [(0,.sc yv),(1,.iptr [.sc (.int .i64 h)] 0),(2,.iptr [.sc (.int .u64 seed)] 0)],B5 []⟩ { tmps:=(yv::Value.pointer (some ⟨Bh,0,none⟩)::Value.pointer (some ⟨Bs,0,none⟩)::List.replicate 60 undef).toArray,defers:=[] } W:=by
 obtain ⟨p1,p2,p3,p4,p5,p6⟩:=hP;refine Bu.init _ _ rfl (by simp) ?_ ?_ ?_ hZ
 ·intro q hq;simp only [List.mem_cons,List.not_mem_nil,or_false] at hq;rcases hq with rfl|rfl|rfl<;>simp
 ·intro q hq;simp only [List.mem_cons,List.not_mem_nil,or_false] at hq;rcases hq with rfl|rfl|rfl
  ·exact A5.sc _
  ·refine ⟨⟨Bh,0,none⟩,rfl,rfl,p3,p5,fun j c hj=>?_⟩
   match j,hj with
   |0,hj=>cases hj;exact ⟨_,p1,rfl,A5.sc _⟩
  ·refine ⟨⟨Bs,0,none⟩,rfl,rfl,p4,p6,fun j c hj=>?_⟩
   match j,hj with
   |0,hj=>cases hj;exact ⟨_,p2,rfl,A5.sc _⟩
 ·intro q hq;simp only [List.mem_cons,List.not_mem_nil,or_false] at hq;rcases hq with rfl|rfl|rfl<;>rfl
theorem Akm {seed:Int}{h Bh Bs:Nat}(hh:h<=4):Als Tryz.prog 107 #[.pointer (some ⟨Bh,0,none⟩),.pointer (some ⟨Bs,0,none⟩)] (lvM seed h) (fun xs=>xs=List.range (h+1)) (fun xs=>∃k,xs=List.range (k+1)) (Alg seed h Bh Bs):=by
 intro l J Jx W Z0 hZ hP hJ hJx hY h0;obtain ⟨p1,p2,p3,p4,p5,p6⟩:=hP;refine callsIn_wide.1 (callsIn_of_wp (F:=Fence.wide) (n:=0) Tryz.func107 rfl trivial ?_ rfl);show Yy.wpIn _ _ _ _ _ _;have t1:(({ tmps:=(#[Value.func (.yield l) #[] #[]] ++ #[Value.pointer (some ⟨Bh,0,none⟩),Value.pointer (some ⟨Bs,0,none⟩)])++Array.replicate (Tryz.f107.ntmps-(#[Value.func (.yield l) #[] #[]] ++ #[Value.pointer (some ⟨Bh,0,none⟩),Value.pointer (some ⟨Bs,0,none⟩)]).size) undef,defers:=[] }:Act))={ tmps:=(Value.func (.yield l) #[] #[]::Value.pointer (some ⟨Bh,0,none⟩)::Value.pointer (some ⟨Bs,0,none⟩)::List.replicate 60 undef).toArray,defers:=[] }:=by kernel_rfl
 rw [t1];have i0:=Alb (seed:=seed) (h:=h) (Z0:=Z0) (yv:=.func (.yield l) #[] #[]) ⟨p1,p2,p3,p4,p5,p6⟩ hZ;generalize ({ tmps:=(Value.func (.yield l) #[] #[]::Value.pointer (some ⟨Bh,0,none⟩)::Value.pointer (some ⟨Bs,0,none⟩)::List.replicate 60 undef).toArray,defers:=[] }:Act)=a0 at i0 ⊢
 have hle:2 ^ h<=16:=by
  have:2 ^ h<=2 ^ 4:=Nat.pow_le_pow_right (by omega) hh
  omega
 refine Zt Aoe (wpIn_seq (wpIn_wide.2 (D5 (Pm _ _) OT Db i0 (L:=23) (t:=0)
  (s1:=⟨lk [(0,.sc (.func (.yield l) #[] #[])),(1,.iptr [.sc (.int .i64 h)] 0),(2,.iptr [.sc (.int .u64 seed)] 0),(4,.view 4 1 0 (2 ^ h))],B5 [(4,.ar false (Af .u64 (List.replicate (2 ^ h) 0)))]⟩) ?_ ?_)))
 ·refine (Ao0 cl _ h seed).trans ?_;have e1:=Al5 hh;have e2:(0:Int)<=h:=by omega
  generalize 2 ^ h=n at hle e1 ⊢;simp (disch:=omega) only [Bz,e1,He,JU]
 intro a1 w1 β1 h1;refine wpIn_seq (wpIn_seq (wpIn_wide.2 (D5 (Pm _ _) OT Db h1 (Anl cl _ h seed _ _) ?_)));intro a2 w2 β2 h2;refine wpIn_block (wpIn_wide.2 (wp_loop_rounds 1000 (TS (n:=2 ^ h) (by omega) (2 ^ h) 0 1000 (by omega) (by omega) (by rw [Ab5];exact h2) ?_)))
 intro a3 w3 β3 h3;show (Code.seq (sL (sR (sR Yy))) (.block 2 (.loop MM))).wpIn Fence.wide 0 Tryz.prog _ a3 w3;refine wpIn_seq (wpIn_wide.2 (D5 (Pm _ _) OT Db h3 (L:=87) (t:=0) (s1:=lvS (.func (.yield l) #[] #[]) h seed (2 ^ h:Nat) ((0:Nat):Int) (Af .u64 (Ef seed (2 ^ h) 0))) ?_ ?_))
 ·refine (Aqh cl _ h seed _ _ _ _).trans ?_;rw [Abd];rfl
 intro a4 w4 β4 h4;refine wpIn_block (wpIn_loop_rounds 1000 (OQ hh hJ hJx hY ?_ h 0 1000 (by omega) (by omega) h4 (fun b _ hb=>hb) h0))
 intro a5 w5 h5 h6;exact ⟨h5,_,results_none rfl _ _ _,⟨_,rfl⟩,h6⟩
end
section
open Go.IntKind (wrap)
set_option maxRecDepth 20000
open Go Go.RowKit
theorem Bu.make {N:Nat}{W:World}{Y:Nat->Prop}{β:Bt}(l:List (Nat × PV)) (bl:List (Nat × Bk)) (a:Act)(pn:Nat->Prop)(p8:∀i,pn i->i<8)(hd:a.defers=[]) (hsz:a.tmps.size=N)(hlt:∀q∈l,q.1<N)
  (hv:∀q∈l,Dp W (Cw (B5 bl) β Y) β q.2 (a.tmps.getD q.1 undef)) (hb:∀id bx,B5 bl id=some bx->Rj W (Cw (B5 bl) β Y) β id bx)
  (inj:∀id id' b o o',Cd (B5 bl id)->Cd (B5 bl id')->β id=some (b,o)->β id'=some (b,o')->id=id') (blt:∀id b o,B5 bl id≠none->β id=some (b,o)->b<W.heap.size)
  (wfT:∀q∈l,∀id∈Bq q.2,B5 bl id≠none)(wfB:∀id cells,B5 bl id=some (.st cells)->∀c∈cells,∀i∈At c,B5 bl i≠none) (hpin:∀i,pn i->B5 bl (C2 N i)≠none)
  (stp:∀id c,B5 bl id=some (.st c)->∃i,id=C2 N i∧pn i) (Yx:∀b,Y b->¬Ze (B5 bl) β b) (Ylt:∀b,Y b->b<W.heap.size):
  Bu N W { X:=Ze (B5 bl) β,L:=fun b _=>Ze (B5 bl) β b,pn:=pn,pt:=fun i=>β (C2 N i),p8:=p8 } Y β ⟨lk l,B5 bl⟩ a W:=by
 refine ⟨hd,hsz,fun i hi=>?_,fun i hi=>?_,hb,inj,blt,fun i hi id hid=>?_,wfB,fun b hb=>.inl hb,fun id bx b o h1 h2 h3 _ j _=>⟨id,o,by rw [show B5 bl id=some bx from h1];exact h2,h3⟩,fun i hi=>⟨hpin i hi,rfl⟩,
  fun id c b o h1 _ _=>stp id c h1,Yx,Ylt,⟨rfl,rfl,rfl,⟨Nat.le_refl _,fun _ _ _=>rfl,fun _ _=>Nat.le_refl _⟩,fun _ _ _ _=>⟨rfl,rfl⟩⟩⟩
 ·rcases Nk l i with e|⟨q,hq,h1,h2⟩
  ·exact e
  ·have:=hlt q hq;omega
 ·show Dp W _ β (lk l i) _;rcases Nk l i with e|⟨q,hq,h1,h2⟩
  ·rw [e];exact A5.top _
  ·rw [h2,←h1];exact hv q hq
 ·rcases Nk l i with e|⟨q,hq,h1,h2⟩
  ·rw [show (St.mk (lk l) (B5 bl)).tm i=lk l i from rfl,e] at hid;simp [Bq,Cb,At] at hid
  ·rw [show (St.mk (lk l) (B5 bl)).tm i=lk l i from rfl,h2] at hid;exact wfT q hq id hid
def Ash (lo e0:Nat)(A:World)(pv:Value)(l:List Int):Prop:=
 (l=[]∧pv=.slice none 0 0)∨∃pb po cap,pv=.slice (some ⟨pb,po,none⟩) l.length cap∧l.length<=cap∧po+cap<=bsz A pb∧pb<A.heap.size∧(lo<=pb∨pb=e0)∧(∀(j:Nat) x,l[j]?=some x->A.cell? ⟨pb,po+j,none⟩=some (.int .u64 x))∧∀j,po<=j->j<bsz A pb->A.frozen? ⟨pb,j,none⟩=false
theorem frozen?_of_block {A B:World}{b j:Nat}(h:B.heap[b]?=A.heap[b]?):B.frozen? ⟨b,j,none⟩=A.frozen? ⟨b,j,none⟩:=by
 unfold World.frozen?;simp only [h]
structure CR (wS:World) (D:Nat) (seed leaf:Int) (h b10 o10 e0:Nat) (chv:Value) (Z:Nat->Prop) (pre:List Nat) (A:World):Prop where
 os:A.os=wS.os
 tape:A.tape=wS.tape
 output:A.output=wS.output
 size:D+2<=A.heap.size
 zlo:∀b,b<wS.heap.size->Z b
 zlt:∀b,Z b->b<A.heap.size
 keep:∀b,b<wS.heap.size->b≠b10->b≠e0->A.heap[b]?=wS.heap[b]?
 bs:bsz wS b10<=bsz A b10
 c0:A.cell? ⟨b10,o10,none⟩=some (.int .i64 leaf)
 c1:A.cell? ⟨b10,o10+1,none⟩=some chv
 fz:∀k,k<3->A.frozen? ⟨b10,o10+k,none⟩=false
 lt:∀x∈pre,x<h
 path:∃pv,A.cell? ⟨b10,o10+2,none⟩=some pv∧Ash (D+2) e0 A pv (pre.map fun k=>Bv seed k (Fj leaf k))∧∀pb po n cap,pv=.slice (some ⟨pb,po,none⟩) n cap->Z pb
noncomputable abbrev XI:Code:=sF (sB (sR (sL (sR (sR (sR IB))))))
abbrev Asd (h leaf:Int)(x:Nat)(n:Nat)(c:List PV):List (Nat × PV):=[(5,.iptr [.sc (.int .i64 h)] 0),(6,.iptr [.sc (.int .i64 leaf)] 0),(10,.ptr 96000 0),(11,.sc (.int .i64 x)),(12,.lst false 1 n c)]
abbrev ME (leaf:Int)(ch:Value)(m:Nat)(d:List PV):List (Nat × Bk):=[(96000,.st [.sc (.int .i64 leaf),.sc ch,.view 20 1 0 m]),(20,.ar false d)]
structure Asr (wS:World) (b5 o5 b6 o6 b10 o10:Nat) (args:Array Value) (a:Act):Prop where
 dfr:a.defers=[]
 size:a.tmps.size=48
 t5:a.tmps.getD 5 undef=.pointer (some ⟨b5,o5,none⟩)
 t6:a.tmps.getD 6 undef=.pointer (some ⟨b6,o6,none⟩)
 t10:a.tmps.getD 10 undef=.pointer (some ⟨b10,o10,none⟩)
 t11:a.tmps.getD 11 undef=args.getD 0 undef
 t12:a.tmps.getD 12 undef=args.getD 1 undef
theorem Afw {wS:World}{D:Nat}{seed leaf:Int}{h b5 o5 b6 o6 b10 o10 e0:Nat}{chv:Value}{Z:Nat->Prop}{pre:List Nat}{A:World}(hI:CR wS D seed leaf h b10 o10 e0 chv Z pre A){x:Nat}{args:Array Value}(hM:lvM seed h pre x args Z A){a:Act}(ha:Asr wS b5 o5 b6 o6 b10 o10 args a)
  (h5:wS.cell? ⟨b5,o5,none⟩=some (.int .i64 h)) (h6:wS.cell? ⟨b6,o6,none⟩=some (.int .i64 leaf)) (l5:b5<wS.heap.size)(l6:b6<wS.heap.size)(l10:b10<wS.heap.size)(n5:b5≠b10)(n6:b6≠b10)(m5:b5≠e0)(m6:b6≠e0)(m10:b10≠e0)(hD:wS.heap.size<=D):
  ∃β X0,X0.pt 0=some (b10,o10)∧X0.pn 0∧(∀b,X0.X b->Z b∧(b=b10∨D+2<=b∨b=e0)) ∧
   Bu 48 A X0 (fun _=>False) β ⟨lk (Asd h leaf x (2 ^ (h-x)) (Af .u64 (Ef seed (2 ^ (h-x)) x))),B5 (ME leaf chv pre.length (Af .u64 (pre.map fun k=>Bv seed k (Fj leaf k))))⟩ a A:=by
 obtain ⟨hx,_,b,o,cap,hargs,hcap,hbl,hbz,hcell⟩:=hM;obtain ⟨pv,hpv,hown,hpz⟩:=hI.path
 obtain ⟨q,hq⟩:∃q:Option (Nat × Nat),(q=none∧pre=[]∧pv=.slice none 0 0)∨∃pb po cap,q=some (pb,po)∧pv=.slice (some ⟨pb,po,none⟩) pre.length cap∧pre.length<=cap∧po+cap<=bsz A pb∧pb<A.heap.size∧(D+2<=pb∨pb=e0)∧Z pb∧(∀(j:Nat) y,(pre.map fun k=>Bv seed k (Fj leaf k))[j]?=some y->A.cell? ⟨pb,po+j,none⟩=some (.int .u64 y))∧∀j,po<=j->j<bsz A pb->A.frozen? ⟨pb,j,none⟩=false:=by
  rcases hown with ⟨h1,h2⟩|⟨pb,po,cap,h1,h2,h3,h4,h5,h6,h7⟩
  ·exact ⟨none,.inl ⟨rfl,by simpa using h1,h2⟩⟩
  ·rw [List.length_map] at h1 h2;exact ⟨some (pb,po),.inr ⟨pb,po,cap,rfl,h1,h2,h3,h4,h5,hpz _ _ _ _ h1,h6,h7⟩⟩
 obtain ⟨β,hβ⟩:∃β:Bt,β=fun id=>if id=96000 then some (b10,o10) else if id=20 then q else none:=⟨_,rfl⟩
 have e1:β 96000=some (b10,o10):=by rw [hβ];rfl
 have e2:β 20=q:=by rw [hβ];rfl
 obtain ⟨d,hd⟩:∃d,Af .u64 (pre.map fun k=>Bv seed k (Fj leaf k))=d:=⟨_,rfl⟩
 have hdl:d.length=pre.length:=by rw [←hd,Ak,List.length_map]
 rw [hd]
 have hl0:∀id bx,B5 (ME leaf chv pre.length d) id=some bx->(id=96000∧bx=.st [.sc (.int .i64 leaf),.sc chv,.view 20 1 0 pre.length])∨(id=20∧bx=.ar false d):=by
  intro id bx e;rcases Rb (ME leaf chv pre.length d) id with h1|⟨p,hp,h1,h2⟩
  ·rw [h1] at e;cases e
  ·rw [h2] at e;cases e;simp only [List.mem_cons,List.not_mem_nil,or_false] at hp;rcases hp with rfl|rfl
   ·exact .inl ⟨h1.symm,rfl⟩
   ·exact .inr ⟨h1.symm,rfl⟩
 have hX:∀b,Ze (B5 (ME leaf chv pre.length d)) β b->b=b10∨∃po,q=some (b,po):=by
  rintro b' ⟨id,o',hl,hb⟩
  cases hh:B5 (ME leaf chv pre.length d) id with
  |none=>rw [hh] at hl;exact hl.elim
  |some bx=>
   rcases hl0 id bx hh with ⟨rfl,_⟩|⟨rfl,_⟩
   ·rw [e1] at hb;cases hb;exact .inl rfl
   ·rw [e2] at hb;exact .inr ⟨o',hb⟩
 have hqz:∀b' po,q=some (b',po)->Z b'∧(D+2<=b'∨b'=e0)∧b'<A.heap.size:=by
  intro b' po e;rcases hq with ⟨h1,_⟩|⟨pb,po',cap',h1,h2,h3,h4,h5,h6,h7,h8,h9⟩
  ·rw [h1] at e;cases e
  ·rw [h1] at e;cases e;exact ⟨h7,h6,h5⟩
 have hAlo:∀b',b'<wS.heap.size->b'≠b10->b'≠e0->¬Cw (B5 (ME leaf chv pre.length d)) β (fun _=>False) b':=by
  rintro b' hb hne hne0 (hx|hf)
  ·rcases hX b' hx with h1|⟨po,h1⟩
   ·exact hne h1
   ·rcases (hqz _ _ h1).2.1 with h2|h2
    ·omega
    ·exact hne0 h2
  ·exact hf
 have hsz:wS.heap.size<A.heap.size:=by have:=hI.size;omega
 refine ⟨β,_,e1,rfl,?_,Bu.make (Asd h leaf x (2 ^ (h-x)) (Af .u64 (Ef seed (2 ^ (h-x)) x))) (ME leaf chv pre.length d) a (fun i=>i=0) (fun i hi=>by omega) ha.dfr ha.size ?_ ?_ ?_ ?_ ?_ ?_ ?_ ?_ ?_ (fun _ h=>h.elim) (fun _ h=>h.elim)⟩
 ·intro b' hb;rcases hX b' hb with rfl|⟨po,h1⟩
  ·exact ⟨hI.zlo _ l10,.inl rfl⟩
  ·exact ⟨(hqz _ _ h1).1,.inr (hqz _ _ h1).2.1⟩
 ·intro p hp;simp only [List.mem_cons,List.not_mem_nil,or_false] at hp;rcases hp with rfl|rfl|rfl|rfl|rfl<;>simp
 ·intro p hp;simp only [List.mem_cons,List.not_mem_nil,or_false] at hp;rcases hp with rfl|rfl|rfl|rfl|rfl
  ·refine ⟨⟨b5,o5,none⟩,ha.t5,rfl,by show b5<_;omega,hAlo b5 l5 n5 m5,fun j c hj=>?_⟩
   match j,hj with
   |0,hj=>cases hj;exact ⟨_,(World.cell?_of_block (a:=⟨b5,o5,none⟩) (hI.keep b5 l5 n5 m5)).trans h5,rfl,A5.sc _⟩
  ·refine ⟨⟨b6,o6,none⟩,ha.t6,rfl,by show b6<_;omega,hAlo b6 l6 n6 m6,fun j c hj=>?_⟩
   match j,hj with
   |0,hj=>cases hj;exact ⟨_,(World.cell?_of_block (a:=⟨b6,o6,none⟩) (hI.keep b6 l6 n6 m6)).trans h6,rfl,A5.sc _⟩
  ·exact ⟨b10,o10,e1,ha.t10⟩
  ·show Dp _ _ _ (.sc (.int .i64 x)) (a.tmps.getD 11 undef);rw [ha.t11,hargs];exact A5.sc _
  ·show Dp _ _ _ (.lst false 1 _ _) (a.tmps.getD 12 undef);rw [ha.t12,hargs];refine A5.lst 1 _ _ ⟨b,o,none⟩ cap (fun j=>.int .u64 (Bv seed x j)) rfl hbl ?_ hcap ?_ (fun _ _ _=>rfl) ?_
   ·rintro (hx'|hf)
    ·rcases hX b hx' with h1|⟨po,h1⟩
     ·exact hbz (h1 ▸ hI.zlo _ l10)
     ·exact hbz (hqz _ _ h1).1
    ·exact hf
   ·intro j c hj;rw [Dz];have hlt:j<(Af .u64 (Ef seed (2 ^ (h-x)) x)).length:=(List.getElem?_eq_some_iff.1 hj).1;rw [Ak,LD] at hlt;exact hcell j hlt
   ·intro j c hj;have hlt:j<(Af .u64 (Ef seed (2 ^ (h-x)) x)).length:=(List.getElem?_eq_some_iff.1 hj).1;rw [Ak,LD] at hlt;rw [Le (Q3 seed hlt)] at hj;cases hj;exact A5.sc _
 ·intro id bx e;rcases hl0 id bx e with ⟨rfl,rfl⟩|⟨rfl,rfl⟩
  ·refine ⟨b10,o10,e1,fun j c hj=>?_,fun j hj=>hI.fz j hj⟩
   match j,hj with
   |0,hj=>cases hj;exact ⟨_,hI.c0,A5.sc _⟩
   |1,hj=>cases hj;exact ⟨_,hI.c1,A5.sc _⟩
   |2,hj=>
    cases hj;refine ⟨_,hpv,?_⟩;rcases hq with ⟨h1,h2,h3⟩|⟨pb,po,cap',h1,h2,h3,h4,h5,h6,h7,h8,h9⟩
    ·exact .inl ⟨e2.trans h1,rfl,by rw [h2];rfl,h3⟩
    ·exact .inr ⟨pb,po,po,cap',e2.trans h1,h2,.inl rfl,h3,by omega,h5⟩
  ·rcases hq with ⟨h1,h2,h3⟩|⟨pb,po,cap',h1,h2,h3,h4,h5,h6,h7,h8,h9⟩
   ·exact .inl ⟨e2.trans h1,by rw [←hd,h2];rfl⟩
   ·refine .inr ⟨pb,po,e2.trans h1,fun j c hj=>?_,fun _=>h9,fun h=>by cases h⟩
    have hlt:j<d.length:=(List.getElem?_eq_some_iff.1 hj).1;have hlt':j<(pre.map fun k=>Bv seed k (Fj leaf k)).length:=by rw [List.length_map];omega
    rw [←hd,Le (List.getElem?_eq_getElem hlt')] at hj;cases hj;rw [Dz];exact ⟨_,h8 j _ (List.getElem?_eq_getElem hlt'),rfl,A5.sc _⟩
 ·intro id id' b1 o1 o2 g1 g2 g3 g4
  have hid:∀i,Cd (B5 (ME leaf chv pre.length d) i)->i=96000∨i=20:=by
   intro i hi;cases hh:B5 (ME leaf chv pre.length d) i with
   |none=>rw [hh] at hi;exact hi.elim
   |some bx=>exact (hl0 i bx hh).imp (·.1) (·.1)
  have hne:∀po po',β 96000=some (b1,po)->β 20=some (b1,po')->False:=by
   intro po po' f1 f2;rw [e1] at f1;rw [e2] at f2;cases f1;rcases (hqz _ _ f2).2.1 with h2|h2
   ·omega
   ·exact m10 h2
  rcases hid id g1 with rfl|rfl<;>rcases hid id' g2 with rfl|rfl
  ·rfl
  ·exact (hne _ _ g3 g4).elim
  ·exact (hne _ _ g4 g3).elim
  ·rfl
 ·intro id b1 o1 g1 g2;cases hh:B5 (ME leaf chv pre.length d) id with
  |none=>exact absurd hh g1
  |some bx=>
   rcases hl0 id bx hh with ⟨rfl,_⟩|⟨rfl,_⟩
   ·rw [e1] at g2;cases g2;omega
   ·rw [e2] at g2;exact (hqz _ _ g2).2.2
 ·intro p hp id hid;simp only [List.mem_cons,List.not_mem_nil,or_false] at hp;rcases hp with rfl|rfl|rfl|rfl|rfl<;>simp [Bq,Cb,At] at hid
  subst hid;simp [B5]
 ·intro id cells e c hc i hi;rcases hl0 id _ e with ⟨rfl,e'⟩|⟨rfl,e'⟩
  ·cases e';simp only [List.mem_cons,List.not_mem_nil,or_false] at hc;rcases hc with rfl|rfl|rfl<;>simp [At] at hi
   subst hi;exact fun h0:some (Bk.ar false d)=none=>by cases h0
  ·cases e'
 ·intro i hi;subst hi;simp [B5,C2]
 ·intro id c e;rcases hl0 id _ e with ⟨rfl,e'⟩|⟨rfl,e'⟩
  ·exact ⟨0,rfl,rfl⟩
  ·cases e'
end
section
open Go.IntKind (wrap)
set_option maxRecDepth 20000
open Go Go.RowKit
theorem Adn:∀h:Nat,h<5->∀k:Nat,k<h->∀n:Nat,n<16->n<2 ^ h->0<=Fj (n:Int) k∧Fj (n:Int) k<((2 ^ (h-k):Nat):Int):=by decide +kernel
theorem Aa7 {wS:World}{D:Nat}{seed leaf:Int}{h b10 o10 e0:Nat}{chv:Value}{Z:Nat->Prop}{pre pre':List Nat}{A w':World}(hI:CR wS D seed leaf h b10 o10 e0 chv Z pre A){β':Bt}{X0:E5}{a':Act}{m:Nat}{d:List PV}
  (hx1:X0.pt 0=some (b10,o10)) (hx2:X0.pn 0)(hX:∀b,X0.X b->Z b∧(b=b10∨D+2<=b∨b=e0)) (nD:D≠e0)(nD1:D+1≠e0)(l10:b10<wS.heap.size)(hD:wS.heap.size<=D)
  (hs:Bu 48 A X0 (fun _=>False) β' ⟨lk [(10,.ptr 96000 0)],B5 [(96000,.st [.sc (.int .i64 leaf),.sc chv,.view 96144 1 0 m]),(96144,.ar false d)]⟩ a' w')
  (hm:m=pre'.length)(hd:d=Af .u64 (pre'.map fun k=>Bv seed k (Fj leaf k))) (hlt:∀x∈pre',x<h)(hZD:Z D)(hZD1:Z (D+1)):
  HZ Z (fun b=>Z b∨(A.heap.size<=b∧b<w'.heap.size)) A w'∧w'.heap[D]?=A.heap[D]?∧w'.heap[D+1]?=A.heap[D+1]?∧CR wS D seed leaf h b10 o10 e0 chv (fun b=>Z b∨(A.heap.size<=b∧b<w'.heap.size)) pre' w':=by
 have hsz:=hI.size;have hst:=hs.fr.step
 have same:∀b,b<A.heap.size->b≠b10->b≠e0->b<D+2->w'.heap[b]?=A.heap[b]?:=fun b hb hn hn0 hl=>hst.keep b hb fun hx=>by
  rcases (hX b hx).2 with h1|h1|h1
  ·exact hn h1
  ·omega
  ·exact hn0 h1
 have hp:β' 96000=some (b10,o10):=(hs.pin 0 hx2).2.trans hx1;obtain ⟨b,o,g1,g2,g3⟩:=(show ∃b o,β' 96000=some (b,o)∧_∧_ from hs.box 96000 _ (rfl:_=some (Bk.st [.sc (.int .i64 leaf),.sc chv,.view 96144 1 0 m])))
 rw [hp] at g1;cases g1;obtain ⟨v0,q0,r0⟩:=g2 0 _ rfl;obtain ⟨v1,q1,r1⟩:=g2 1 _ rfl;obtain ⟨v2,q2,r2⟩:=g2 2 _ rfl;have r0:=A5.val r0;have r1:=A5.val r1;subst r0 r1;have hb2:=hs.box 96144 _ (rfl:_=some (Bk.ar false d))
 have hne:∀pb po,β' 96144=some (pb,po)->pb≠b10∧(Z pb∨(A.heap.size<=pb∧pb<w'.heap.size))∧(D+2<=pb∨pb=e0)∧pb<w'.heap.size:=by
  intro pb po e;have hlt:pb<w'.heap.size:=hs.blt 96144 pb po (fun h0:some (Bk.ar false d)=none=>by cases h0) e
  have hn:pb≠b10:=by
   intro e';subst e';have:=hs.inj 96000 96144 pb o10 po trivial trivial hp e;cases this
  rcases hs.ownd pb ⟨96144,po,trivial,e⟩ with h1|h1
  ·have h2:=hX pb h1;rcases h2.2 with h3|h3
   ·exact absurd h3 hn
   ·exact ⟨hn,.inl h2.1,h3,hlt⟩
  ·exact ⟨hn,.inr ⟨h1,hlt⟩,.inl (by omega),hlt⟩
 refine ⟨⟨hs.fr.os,hs.fr.tape,hs.fr.output,hst.size,fun b hb hn=>hst.keep b hb fun hx=>hn (hX b hx).1,fun b hb=>.inl hb,fun b hb=>hb.imp (fun x=>x) (·.1),fun b hb=>hb.elim (fun h1=>Nat.lt_of_lt_of_le (hI.zlt b h1) hst.size) (·.2),hst.bs⟩,
  same D (hI.zlt D hZD) (by omega) nD (by omega),same (D+1) (hI.zlt _ hZD1) (by omega) nD1 (by omega),?_⟩
 refine ⟨hs.fr.os.trans hI.os,hs.fr.tape.trans hI.tape,hs.fr.output.trans hI.output,by have:=hst.size;omega,fun b hb=>.inl (hI.zlo b hb),fun b hb=>hb.elim (fun h1=>Nat.lt_of_lt_of_le (hI.zlt b h1) hst.size) (·.2),fun b hb hn hn0=>(same b (by omega) hn hn0 (by omega)).trans (hI.keep b hb hn hn0),Nat.le_trans hI.bs (hst.bs b10 (by omega)),q0,q1,fun k hk=>g3 k hk,hlt,v2,q2,?_,?_⟩
 ·rcases r2 with ⟨f1,_,f3,f4⟩|⟨pb,po,xx,cap,f1,f2,f3,f4,f5,f6⟩
  ·have:pre'=[]:=List.length_eq_zero_iff.1 (by omega)
   exact .inl ⟨by rw [this];rfl,f4⟩
  ·rcases hb2 with ⟨e1,_⟩|⟨pb',po',e1,e2,e3,_⟩
   ·rw [f1] at e1;cases e1
   ·rw [f1] at e1;cases e1;have hxx:xx=po:=by omega
    subst hxx;refine .inr ⟨pb,xx,cap,by rw [f2,List.length_map,hm],by rw [List.length_map];omega,by omega,f6,(hne pb xx f1).2.2.1,fun j y hj=>?_,fun j hj hjb=>e3 rfl j hj hjb⟩
    obtain ⟨v,h1,_,h3⟩:=e2 j (.sc (.int .u64 y)) (by rw [hd];exact Le hj)
    rw [Dz] at h1;rw [h1,A5.val h3]
 ·intro pb po n cap e;rcases r2 with ⟨f1,_,f3,f4⟩|⟨pb',po',xx,cap',f1,f2,f3,f4,f5,f6⟩
  ·rw [f4] at e;cases e
  ·rw [f2] at e;cases e;exact (hne pb po' f1).2.1
def An4 (wS:World)(D:Nat)(seed leaf:Int)(h b10 o10 e0:Nat)(chv:Value)(c:Code)(Z:Nat->Prop)(xs:List Nat)(B:World):Prop:=c=.exit 0∧∃pre,xs=pre++[h]∧CR wS D seed leaf h b10 o10 e0 chv Z pre B
theorem Agw {wS:World}{D:Nat}{seed leaf:Int}{h b5 o5 b6 o6 b10 o10 e0:Nat}{chv:Value}{Z:Nat->Prop}{pre:List Nat}{A:World}(hh:h<=4)(hl0:0<=leaf)(hl1:leaf<((2 ^ h:Nat):Int)) (hI:CR wS D seed leaf h b10 o10 e0 chv Z pre A){x:Nat}{args:Array Value}(hM:lvM seed h pre x args Z A){a:Act}(ha:Asr wS b5 o5 b6 o6 b10 o10 args a)
  (h5:wS.cell? ⟨b5,o5,none⟩=some (.int .i64 h)) (h6:wS.cell? ⟨b6,o6,none⟩=some (.int .i64 leaf)) (l5:b5<wS.heap.size)(l6:b6<wS.heap.size)(l10:b10<wS.heap.size)(n5:b5≠b10)(n6:b6≠b10)(m5:b5≠e0)(m6:b6≠e0)(m10:b10≠e0)(nD:D≠e0)(nD1:D+1≠e0)(hD:wS.heap.size<=D)(hZD:Z D)(hZD1:Z (D+1)):
  XI.wpIn (WF (some (D+1))) 0 Tryz.prog (XX D (CR wS D seed leaf h b10 o10 e0 chv) (An4 wS D seed leaf h b10 o10 e0 chv) Z (pre++[x]) A) a A:=by
 obtain ⟨β,X0,hx1,hx2,hX,hs⟩:=Afw hI hM ha h5 h6 l5 l6 l10 n5 n6 m5 m6 m10 hD;have hx:=hM.1;have hpl:pre.length<=1000:=by rw [hM.2.1,List.length_range];omega
 have hQo:∀a w,¬XX D (CR wS D seed leaf h b10 o10 e0 chv) (An4 wS D seed leaf h b10 o10 e0 chv) Z (pre++[x]) A .outgrown a w:=fun a w ⟨_,_,_,_,hf⟩=>hf
 by_cases hxh:x=h
 ·subst hxh;refine IJ (Pm _ _) OT Db (by kernel_rfl) hQo hs (t:=1) (L:=1024) (s1:=⟨lk [(10,.ptr 96000 0)],B5 [(96000,.st [.sc (.int .i64 leaf),.sc chv,.view 96144 1 0 pre.length]),(96144,.ar false (Af .u64 (pre.map fun k=>Bv seed k (Fj leaf k))))]⟩) ?_ ?_
  ·refine (Agx cl x leaf x chv _ _ _ _).trans ?_;rw [show ((x:Int)==(x:Int))=true from beq_self_eq_true _]
   rfl
  ·intro a' w' β' hs';obtain ⟨k1,k2,k3,k4⟩:=Aa7 hI hx1 hx2 hX nD nD1 l10 hD hs' rfl rfl hI.lt hZD hZD1;exact ⟨_,k1,k2,k3,rfl,pre,rfl,k4⟩
 ·have hlt:x<h:=by omega
  obtain ⟨n,rfl⟩:∃n:Nat,leaf=n:=⟨leaf.toNat,by omega⟩
  have h16:2 ^ h<=16:=by
   have:2 ^ h<=2 ^ 4:=Nat.pow_le_pow_right (by omega) hh
   omega
  have sb:=Adn h (by omega) x hlt n (by omega) (by omega)
  have es:Dw .i64 (D3 .i64 (n:Int) (x:Int)) 1=Fj n x:=rfl;obtain ⟨y,hy⟩:∃y:Nat,Fj n x=y:=⟨(Fj n x).toNat,by omega⟩
  have at1:(Af .u64 (Ef seed (2 ^ (h-x)) x)).getD y .top=.sc (.int .u64 (Bv seed x (Fj n x))):=by
   rw [hy] at sb ⊢;exact W5 (Q3 seed (by omega))
  have L:(Af .u64 (pre.map fun k=>Bv seed k (Fj n k))).length=pre.length:=by rw [Ak,List.length_map]
  have T:List.take pre.length (Af .u64 (pre.map fun k=>Bv seed k (Fj n k)))=Af .u64 (pre.map fun k=>Bv seed k (Fj n k)):=R9 (by omega)
  have bq:((x:Int)==(h:Int))=false:=by
   rw [beq_eq_false_iff_ne];omega
  refine IJ (Pm _ _) OT Db (by kernel_rfl) hQo hs (t:=0) (L:=1024) (s1:=⟨lk [(10,.ptr 96000 0)],B5 [(96000,.st [.sc (.int .i64 n),.sc chv,.view 96144 1 0 (pre.length+1)]),(96144,.ar false (Af .u64 (pre.map fun k=>Bv seed k (Fj n k))++[.sc (.int .u64 (Bv seed x (Fj n x)))]))]⟩) ?_ ?_
  ·refine (Agx cl h n x chv _ _ _ _).trans ?_;rw [bq];have t0:(0:Int)<=x:=by omega
   have t1:(0:Int)<=y:=by omega
   have t2:(y:Int)<((2 ^ (h-x):Nat):Int):=by omega
   have hn0:((pre.length+1)*8<=1099511627776):=by omega
   generalize 2 ^ (h-x)=nn at *
   simp (disch:=omega) only [Bz,es,hy,at1,L,T,He,B8]
  ·intro a' w' β' hs'
   obtain ⟨k1,k2,k3,k4⟩:=Aa7 (pre':=pre++[x]) hI hx1 hx2 hX nD nD1 l10 hD hs' (by simp) (by simp) (by
    intro z hz;rcases List.mem_append.1 hz with h1|h1
    ·exact hI.lt z h1
    ·rw [List.mem_singleton.1 h1];exact hlt) hZD hZD1
   exact ⟨_,k1,k2,k3,k4⟩
end
section
open Go.IntKind (wrap)
set_option maxRecDepth 20000
open Go Go.RowKit Go.Shelf
set_option maxHeartbeats 2000000 in
theorem Akz (seed h:Int)(n:Nat)(w:World):CallsIn Fence.wide n Tryz.prog 77 #[.int .u64 seed,.int .i64 h] w fun e w'=>
  e=.returned (.func (.func 107) #[] #[.pointer (some ⟨w.heap.size+1,0,none⟩),.pointer (some ⟨w.heap.size,0,none⟩)])∧w'=(w.alloc (.cells #[.int .u64 seed] 22)).alloc (.cells #[.int .i64 h] 3):=by
 refine callsIn_of_wp Tryz.func77 rfl trivial ?_ rfl;simp only [Tryz.ntmps77,List.size_toArray,J2,Wh,Nat.reduceAdd,Nat.reduceSub,Array.replicate_succ,Array.replicate_zero,List.push_toArray,List.append_toArray,Zzq,List.cons_append]
 gi_wp2
 go_ret
 exact ⟨rfl,rfl⟩
end
section
open Go.IntKind (wrap)
set_option maxRecDepth 20000
open Go Go.RowKit
theorem Ane {G:Ua}{P:Program}{f:FuncId}{v0 v1 v2 v3:Value}{vals:List PV}(hf:∃fn,P.funcs[f]?=some fn∧fn.body.isSome=true)
  (h:∀(w:World)(Y:Nat->Prop),(∀b,Y b->b<w.heap.size)->Calls P f #[v0,v1,v2,v3] w fun e w'=>∃vs own,e=.returned (K0 vs)∧Out w w' Y MS [.sc v0,.sc v1,.sc v2,.sc v3] own ⟨vals,[]⟩ vs):C6 G P f [.sc v0,.sc v1,.sc v2,.sc v3] ⟨vals,[]⟩:=by
 refine ⟨hf,fun w Y bt us hin _ _=>?_⟩
 have hus:us=[v0,v1,v2,v3]:=by
  have ha:=hin.args
  match us,ha with
  |[u0,u1,u2,u3],⟨h0,h1,h2,h3,_⟩=>
   rw [A5.val h0.2,A5.val h1.2,A5.val h2.2,A5.val h3.2]
 subst hus
 have hl:∀i q,bt i 0≠some q:=by
  intro i q e;obtain ⟨p,h1,h2⟩:=hin.l0 i q e
  match i,h1 with
  |0,h1=>cases h1;cases h2
  |1,h1=>cases h1;cases h2
  |2,h1=>cases h1;cases h2
  |3,h1=>cases h1;cases h2
 refine (h w Y hin.Ylt).mono ?_
 rintro e w' ⟨vs,own,rfl,ho⟩
 have hA:QP bt own Y=QP MS own Y:=by
  funext b
  apply propext;constructor
  ·rintro (h1|⟨i,o,h1⟩|h1)
   ·exact .inl h1
   ·exact absurd h1 (hl i _)
   ·exact .inr (.inr h1)
  ·rintro (h1|⟨i,o,h1⟩|h1)
   ·exact .inl h1
   ·cases h1
   ·exact .inr (.inr h1)
 refine ⟨vs,own,rfl,ho.os,ho.tape,ho.output,ho.ext.weaken (fun b _ hb=>absurd hb (Uy b)),fun b j hb _=>ho.rng b j hb ?_,by rw [hA];exact ho.vals,rfl,fun j b o hj=>⟨(ho.fresh j b o hj).1,fun hlt=>?_⟩,ho.inj⟩
 ·rintro ⟨i,p,_,⟨k,o,h1,_⟩|⟨o,ps,h1,_⟩⟩
  ·cases h1
  ·cases h1
 ·obtain ⟨⟨i,k,o',h1⟩,_⟩:=(ho.fresh j b o hj).2 hlt;cases h1
theorem Bu.unbase {N:Nat}{we B w':World}{X XB:E5}{Y YB:Nat->Prop}{β:Bt}{s:St}{a:Act}(h:Bu N B XB YB β s a w')(hY:∀b,Y b->YB b)(hYlt:∀b,Y b->b<we.heap.size)(hown:∀b,XB.X b->we.heap.size<=b)(hpn:∀i,¬X.pn i)
  (hos:B.os=we.os)(ht:B.tape=we.tape)(hou:B.output=we.output)(hsz:we.heap.size<=B.heap.size)(hk:∀b,b<we.heap.size->B.heap[b]?=we.heap[b]?):Bu N we X Y β s a w':=by
 have hX:∀b,Ze s.hp β b->we.heap.size<=b:=fun b hb=>(h.ownd b hb).elim (hown b) (fun h1=>Nat.le_trans hsz h1)
 have hA:∀b,Cw s.hp β Y b->Cw s.hp β YB b:=fun b hb=>hb.imp (fun x=>x) (hY b)
 have hst:B7 (Cw s.hp β YB) w' w':=⟨Nat.le_refl _,fun _ _ _=>rfl,fun _ _=>Nat.le_refl _⟩
 have hkw:∀b,b<we.heap.size->w'.heap[b]?=we.heap[b]?:=fun b hb=>(h.fr.step.keep b (by omega) fun hx=>by have:=hown b hx;omega).trans (hk b hb)
 refine ⟨h.dfr,h.tsz,h.tmo,fun i hi=>(h.tms i hi).step hst (fun b _=>hA b) fun _ _=>rfl,fun id bx e=>(h.box id bx e).step' hA,h.inj,h.blt,h.wfT,h.wfB,fun b hb=>.inr (hX b hb),fun id bx b o h1 h2 h3 h4=>?_,fun i hi=>absurd hi (hpn i),fun id c b o h1 h2 h3=>?_,fun b hy=>h.Yx b (hY b hy),hYlt,
  ⟨h.fr.os.trans hos,h.fr.tape.trans ht,h.fr.output.trans hou,⟨Nat.le_trans hsz h.fr.step.size,fun b hb _=>hkw b hb,fun b hb=>by unfold bsz;rw [hkw b hb];exact Nat.le_refl _⟩,fun b j hb _=>⟨World.cell?_of_block (hkw b hb),frozen?_of_block (hkw b hb)⟩⟩⟩
 ·have:=hX b ⟨id,o,by rw [h1];exact h2,h3⟩
  omega
 ·have:=hX b ⟨id,o,by rw [h1];trivial,h2⟩
  omega
theorem CR.stay {wS:World}{D:Nat}{seed leaf:Int}{h b10 o10 e0:Nat}{chv:Value}{Z:Nat->Prop}{pre:List Nat}{A B:World}(hI:CR wS D seed leaf h b10 o10 e0 chv Z pre A)(l10:b10<wS.heap.size)(nD:D≠e0)(nD1:D+1≠e0)(hD:wS.heap.size<=D)(hs:Wg (fun b=>Z b∧b≠D∧b≠D+1) A B):CR wS D seed leaf h b10 o10 e0 chv Z pre B:=by
 have e:∀b,b<wS.heap.size->B.heap[b]?=A.heap[b]?:=fun b hb=>hs.same b ⟨hI.zlo b hb,by omega,by omega⟩
 have hb:bsz B b10=bsz A b10:=by unfold bsz;rw [e b10 l10]
 have hc:∀j,B.cell? ⟨b10,j,none⟩=A.cell? ⟨b10,j,none⟩:=fun j=>World.cell?_of_block (e b10 l10)
 obtain ⟨pv,p1,p2,p3⟩:=hI.path;refine ⟨hs.os.trans hI.os,hs.tape.trans hI.tape,hs.output.trans hI.output,Nat.le_trans hI.size hs.size,hI.zlo,fun b hz=>Nat.lt_of_lt_of_le (hI.zlt b hz) hs.size,fun b hb hn hn0=>(e b hb).trans (hI.keep b hb hn hn0),by rw [hb];exact hI.bs,(hc _).trans hI.c0,(hc _).trans hI.c1,fun k hk=>by rw [frozen?_of_block (e b10 l10)];exact hI.fz k hk,hI.lt,pv,(hc _).trans p1,?_,p3⟩
 rcases p2 with p2|⟨pb,po,cap,h1,h2,h3,h4,h5,h6,h7⟩
 ·exact .inl p2
 ·have hh:B.heap[pb]?=A.heap[pb]?:=hs.same pb ⟨p3 _ _ _ _ h1,by omega,by omega⟩
  have hbb:bsz B pb=bsz A pb:=by unfold bsz;rw [hh]
  exact .inr ⟨pb,po,cap,h1,h2,by rw [hbb];exact h3,Nat.lt_of_lt_of_le h4 hs.size,h5,fun j x hj=>(World.cell?_of_block (a:=⟨pb,po+j,none⟩) hh).trans (h6 j x hj),fun j hj hjb=>by rw [frozen?_of_block hh];exact h7 j hj (by rw [←hbb];exact hjb)⟩
end
section
open Go.IntKind (wrap)
set_option maxRecDepth 20000
open Go Go.RowKit
abbrev sgE (leaf:Int)(n1 n2:Nat)(c1 c2:List PV):List (Nat × PV):=[(8,.ptr 96000 0),(9,.sc (.int .i64 0)),(10,.iptr [.sc (.int .i64 leaf),.lst false 1 n1 c1,.lst false 1 n2 c2] 0)]
theorem Ao2 {wS:World}{D:Nat}{seed leaf:Int}{h b8 o8 b10 o10 e0:Nat}{chv:Value}{Z:Nat->Prop}{pre:List Nat}{B:World}{Y:Nat->Prop}{a:Act}{n1:Nat}{c1:List PV}(hB:CR wS D seed leaf h b10 o10 e0 chv Z pre B)
  (hd:a.defers=[]) (hsz:a.tmps.size=48)(t8:a.tmps.getD 8 undef=.pointer (some ⟨b8,o8,none⟩)) (t9:a.tmps.getD 9 undef=.int .i64 0)(t10:a.tmps.getD 10 undef=.pointer (some ⟨b10,o10,none⟩))
  (c8:∀j,j<3->∃v,B.cell? ⟨b8,o8+j,none⟩=some v)(f8:∀j,j<3->B.frozen? ⟨b8,o8+j,none⟩=false)(l8:b8<B.heap.size)(l10:b10<B.heap.size)(n8:b8≠b10)(y8:¬Y b8)(y10:¬Y b10)
  (hch:A5 B (fun b=>b=b8∨Y b) (.lst false 1 n1 c1) chv) (hch1:chv.oneCell'=true)(hp:∀pb,(D+2<=pb∨pb=e0)->pb≠b8∧¬Y pb) (hY:∀b,Y b->b<B.heap.size):
  ∃X0 β,(∀b,X0.X b->b=b8)∧Bu 48 B X0 Y β ⟨lk (sgE leaf n1 pre.length c1 (Af .u64 (pre.map fun k=>Bv seed k (Fj leaf k)))),B5 [(96000,.st [.top,.top,.top])]⟩ a B:=by
 obtain ⟨pv,hpv,hown,hpz⟩:=hB.path;obtain ⟨β,hβ⟩:∃β:Bt,β=fun id=>if id=96000 then some (b8,o8) else none:=⟨_,rfl⟩
 have e1:β 96000=some (b8,o8):=by rw [hβ];rfl
 have hl0:∀id bx,B5 [(96000,Bk.st [.top,.top,.top])] id=some bx->id=96000∧bx=.st [.top,.top,.top]:=by
  intro id bx e;rcases Rb [(96000,Bk.st [.top,.top,.top])] id with h1|⟨p,hp,h1,h2⟩
  ·rw [h1] at e;cases e
  ·rw [h2] at e;cases e;simp only [List.mem_cons,List.not_mem_nil,or_false] at hp;subst hp;exact ⟨h1.symm,rfl⟩
 have hX:∀b,Ze (B5 [(96000,Bk.st [.top,.top,.top])]) β b->b=b8:=by
  rintro b' ⟨id,o',hl,hb⟩
  cases hh:B5 [(96000,Bk.st [.top,.top,.top])] id with
  |none=>rw [hh] at hl;exact hl.elim
  |some bx=>
   obtain ⟨rfl,_⟩:=hl0 id bx hh;rw [e1] at hb;cases hb;rfl
 have hA:∀b,Cw (B5 [(96000,Bk.st [.top,.top,.top])]) β Y b->b=b8∨Y b:=fun b hb=>hb.imp (hX b) (fun x=>x)
 have hst:B7 (fun b=>b=b8∨Y b) B B:=⟨Nat.le_refl _,fun _ _ _=>rfl,fun _ _=>Nat.le_refl _⟩
 have one:pv.oneCell'=true:=by
  rcases hown with ⟨_,h2⟩|⟨pb,po,cap,h1,_⟩
  ·rw [h2];rfl
  ·rw [h1];rfl
 refine ⟨_,β,?_,Bu.make (sgE leaf n1 pre.length c1 (Af .u64 (pre.map fun k=>Bv seed k (Fj leaf k)))) [(96000,.st [.top,.top,.top])] a (fun i=>i=0) (fun i hi=>by omega) hd hsz ?_ ?_ ?_ ?_ ?_ ?_ ?_ ?_ ?_ ?_ hY⟩
 ·exact hX
 ·intro p hp';simp only [List.mem_cons,List.not_mem_nil,or_false] at hp';rcases hp' with rfl|rfl|rfl<;>simp
 ·intro p hp';simp only [List.mem_cons,List.not_mem_nil,or_false] at hp';rcases hp' with rfl|rfl|rfl
  ·exact ⟨b8,o8,e1,t8⟩
  ·show Dp _ _ _ (.sc (.int .i64 0)) (a.tmps.getD 9 undef);rw [t9];exact A5.sc _
  ·refine ⟨⟨b10,o10,none⟩,t10,rfl,l10,fun hb=>?_,fun j c hj=>?_⟩
   ·rcases hA _ hb with h1|h1
    ·exact n8 h1.symm
    ·exact y10 h1
   ·match j,hj with
    |0,hj=>cases hj;exact ⟨_,hB.c0,rfl,A5.sc _⟩
    |1,hj=>cases hj;exact ⟨_,hB.c1,hch1,hch.step hst fun b _=>hA b⟩
    |2,hj=>
     cases hj;refine ⟨_,hpv,one,?_⟩;rcases hown with ⟨h1,h2⟩|⟨pb,po,cap,h1,h2,h3,h4,h5,h6,h7⟩
     ·rw [h2];have:pre=[]:=by simpa using h1
      subst this;exact A5.lnil _ _
     ·rw [h1,List.length_map];rw [List.length_map] at h2;refine A5.lst 1 _ _ ⟨pb,po,none⟩ cap (fun j=>.int .u64 ((pre.map fun k=>Bv seed k (Fj leaf k)).getD j 0)) rfl h4 (fun hb=>?_) h2 ?_ (fun _ _ _=>rfl) ?_
      ·have hh:=hp pb h5;rcases hA _ hb with h8|h8
       ·exact hh.1 h8
       ·exact hh.2 h8
      ·intro j c hj;have hlt:j<(Af .u64 (pre.map fun k=>Bv seed k (Fj leaf k))).length:=(List.getElem?_eq_some_iff.1 hj).1
       rw [Ak] at hlt;rw [Dz,h6 j _ (List.getElem?_eq_getElem hlt),List.getD_eq_getElem?_getD,List.getElem?_eq_getElem hlt];rfl
      ·intro j c hj;have hlt:j<(Af .u64 (pre.map fun k=>Bv seed k (Fj leaf k))).length:=(List.getElem?_eq_some_iff.1 hj).1
       rw [Ak] at hlt;rw [Le (List.getElem?_eq_getElem hlt)] at hj;cases hj;rw [List.getD_eq_getElem?_getD,List.getElem?_eq_getElem hlt];exact A5.sc _
 ·intro id bx e;obtain ⟨rfl,rfl⟩:=hl0 id bx e;refine ⟨b8,o8,e1,fun j c hj=>?_,fun j hj=>f8 j hj⟩
  have hlt:j<3:=(List.getElem?_eq_some_iff.1 hj).1;obtain ⟨v,hv⟩:=c8 j hlt
  match j,hj with
  |0,hj=>cases hj;exact ⟨v,hv,A5.top _⟩
  |1,hj=>cases hj;exact ⟨v,hv,A5.top _⟩
  |2,hj=>cases hj;exact ⟨v,hv,A5.top _⟩
 ·intro id id' b1 o1 o2 g1 g2 g3 g4
  have hid:∀i,Cd (B5 [(96000,Bk.st [.top,.top,.top])] i)->i=96000:=by
   intro i hi;cases hh:B5 [(96000,Bk.st [.top,.top,.top])] i with
   |none=>rw [hh] at hi;exact hi.elim
   |some bx=>exact (hl0 i bx hh).1
  rw [hid id g1,hid id' g2]
 ·intro id b1 o1 g1 g2;cases hh:B5 [(96000,Bk.st [.top,.top,.top])] id with
  |none=>exact absurd hh g1
  |some bx=>
   obtain ⟨rfl,_⟩:=hl0 id bx hh;rw [e1] at g2;cases g2;exact l8
 ·intro p hp' id hid;simp only [List.mem_cons,List.not_mem_nil,or_false] at hp';rcases hp' with rfl|rfl|rfl<;>simp [Bq,Cb,At] at hid
  subst hid;simp [B5]
 ·intro id cells e c hc i hi;obtain ⟨rfl,e'⟩:=hl0 id _ e;cases e';simp only [List.mem_cons,List.not_mem_nil,or_false] at hc;rcases hc with rfl|rfl|rfl<;>simp [At] at hi
 ·intro i hi;subst hi;simp [B5,C2]
 ·intro id c e;obtain ⟨rfl,_⟩:=hl0 id _ e;exact ⟨0,rfl,rfl⟩
 ·intro b hy hx;rw [hX b hx] at hy;exact y8 hy
end
section
open Go.IntKind (wrap)
set_option maxRecDepth 20000
open Go Go.RowKit
abbrev Aci (seed h leaf m:Int)(n:Nat)(c:List PV):St:=
  ⟨lk [(0,.sc (.int .u64 seed)),(3,.sc (.int .u64 m)),(5,.ptr 5 0),(6,.ptr 6 0),(8,.ptr 8 0),(9,.sc (.int .i64 0)),(10,.ptr 10 0),(27,.sc (.int .u64 seed)),(28,.sc (.int .i64 h))],
   B5 [(5,.st [.sc (.int .i64 h)]),(6,.st [.sc (.int .i64 leaf)]),(8,.st [.sc (.int .i64 0),.view 104 1 0 0,.view 152 1 0 0]),(104,.ar false []),(152,.ar false []),(10,.st [.sc (.int .i64 leaf),.view 106 1 0 n,.view 154 1 0 0]),(106,.ar false c),(154,.ar false [])]⟩
theorem Bu.var {N:Nat}{w0:World}{X0:E5}{Y:Nat->Prop}{β:Bt}{s:St}{a:Act}{w:World}(h:Bu N w0 X0 Y β s a w){i id:Nat}{cells:List PV}(hi:i<N)(ht:s.tm i=.ptr id 0)(hb:s.hp id=some (.st cells)):
  ∃b o,β id=some (b,o)∧a.tmps.getD i undef=.pointer (some ⟨b,o,none⟩)∧b<w.heap.size∧(∀j c,cells[j]?=some c->∃v,w.cell? ⟨b,o+j,none⟩=some v∧B9 w (Cw s.hp β Y) β c v)∧∀j,j<cells.length->w.frozen? ⟨b,o+j,none⟩=false:=by
 have h1:=h.tms i hi;rw [ht] at h1;obtain ⟨b,o,e1,e2⟩:=(show ∃b o,β id=some (b,o)∧a.tmps.getD i undef=.pointer (some ⟨b,o+0,none⟩) from h1)
 obtain ⟨b',o',e3,e4,e5⟩:=(show ∃b o,β id=some (b,o)∧_∧_ from h.box id _ hb)
 rw [e1] at e3;cases e3;exact ⟨b,o,e1,e2,h.blt id b o (by rw [hb];simp) e1,e4,e5⟩
structure Ar2 (w w4:World) (Y:Nat->Prop) (seed h leaf:Int) (c:List PV) (n:Nat) (a4:Act) (b5 o5 b6 o6 b8 o8 b10 o10 e0:Nat) (chv:Value):Prop where
 t5:a4.tmps.getD 5 undef=.pointer (some ⟨b5,o5,none⟩)
 t6:a4.tmps.getD 6 undef=.pointer (some ⟨b6,o6,none⟩)
 t8:a4.tmps.getD 8 undef=.pointer (some ⟨b8,o8,none⟩)
 t9:a4.tmps.getD 9 undef=.int .i64 0
 t10:a4.tmps.getD 10 undef=.pointer (some ⟨b10,o10,none⟩)
 t27:a4.tmps.getD 27 undef=.int .u64 seed
 t28:a4.tmps.getD 28 undef=.int .i64 h
 c5:w4.cell? ⟨b5,o5,none⟩=some (.int .i64 h)
 c6:w4.cell? ⟨b6,o6,none⟩=some (.int .i64 leaf)
 c8:∀j,j<3->∃v,w4.cell? ⟨b8,o8+j,none⟩=some v
 f8:∀j,j<3->w4.frozen? ⟨b8,o8+j,none⟩=false
 c10:w4.cell? ⟨b10,o10,none⟩=some (.int .i64 leaf)
 c11:w4.cell? ⟨b10,o10+1,none⟩=some chv
 f10:∀j,j<3->w4.frozen? ⟨b10,o10+j,none⟩=false
 l5:b5<w4.heap.size
 l6:b6<w4.heap.size
 l8:b8<w4.heap.size
 l10:b10<w4.heap.size
 le:e0<=w4.heap.size
 n5:b5≠b10
 n6:b6≠b10
 m5:b5≠e0
 m6:b6≠e0
 m10:b10≠e0
 n8:b8≠b10
 m8:b8≠e0
 y8:¬Y b8
 y10:¬Y b10
 ye:¬Y e0
 g10:w.heap.size<=b10
 ge:w.heap.size<=e0
 g8:w.heap.size<=b8
 one:chv.oneCell'=true
 ch:∀B:World,w4.heap.size<=B.heap.size->(∀b,b<w4.heap.size->b≠b10->b≠e0->B.heap[b]?=w4.heap[b]?)->A5 B (fun b=>b=b8∨Y b) (.lst false 1 n c) chv
 p0:∃v2,w4.cell? ⟨b10,o10+2,none⟩=some v2∧(v2=.slice none 0 0∨∃x cap,v2=.slice (some ⟨e0,x,none⟩) 0 cap∧x+cap<=bsz w4 e0∧e0<w4.heap.size∧∀j,x<=j->j<bsz w4 e0->w4.frozen? ⟨e0,j,none⟩=false)
theorem Afg {w w4:World}{Y:Nat->Prop}{seed h leaf m:Int}{l:List Int}{n:Nat}{a4:Act}{X0:E5}{β4:Bt}(hn:0<n)(hl:l.length=n)(hX:∀b,¬X0.X b)(hs:Bu 48 w X0 Y β4 (Aci seed h leaf m n (Af .u64 l)) a4 w4):
  ∃b5 o5 b6 o6 b8 o8 b10 o10 e0 chv,Ar2 w w4 Y seed h leaf (Af .u64 l) n a4 b5 o5 b6 o6 b8 o8 b10 o10 e0 chv:=by
 obtain ⟨b5,o5,e5,t5,l5,k5,f5⟩:=hs.var (i:=5) (id:=5) (by decide) rfl rfl
 obtain ⟨b6,o6,e6,t6,l6,k6,f6⟩:=hs.var (i:=6) (id:=6) (by decide) rfl rfl
 obtain ⟨b8,o8,e8,t8,l8,k8,f8⟩:=hs.var (i:=8) (id:=8) (by decide) rfl rfl
 obtain ⟨b10,o10,e10,t10,l10,k10,f10⟩:=hs.var (i:=10) (id:=10) (by decide) rfl rfl
 obtain ⟨v5,q5,r5⟩:=k5 0 _ rfl;obtain ⟨v6,q6,r6⟩:=k6 0 _ rfl;obtain ⟨v80,q80,_⟩:=k8 0 _ rfl;obtain ⟨v81,q81,_⟩:=k8 1 _ rfl;obtain ⟨v82,q82,_⟩:=k8 2 _ rfl;obtain ⟨v0,q0,r0⟩:=k10 0 _ rfl;obtain ⟨v1,q1,r1⟩:=k10 1 _ rfl;obtain ⟨v2,q2,r2⟩:=k10 2 _ rfl;have r5:=A5.val r5;have r6:=A5.val r6;have r0:=A5.val r0;subst r5 r6 r0;have hb1:=hs.box 106 _ (rfl:_=some (Bk.ar false (Af .u64 l)));have hb2:=hs.box 154 _ (rfl:_=some (Bk.ar false []));have own:∀id b o,Cd ((Aci seed h leaf m n (Af .u64 l)).hp id)->β4 id=some (b,o)->w.heap.size<=b∧¬Y b:=fun id b o h1 h2=>⟨(hs.ownd b ⟨id,o,h1,h2⟩).elim (fun x=>absurd x (hX b)) (fun x=>x),fun hy=>hs.Yx b hy ⟨id,o,h1,h2⟩⟩
 have dif:∀id id' b b' o o',id≠id'->Cd ((Aci seed h leaf m n (Af .u64 l)).hp id)->Cd ((Aci seed h leaf m n (Af .u64 l)).hp id')->β4 id=some (b,o)->β4 id'=some (b',o')->b≠b':=fun id id' b b' o o' hne h1 h2 h3 h4 e=>by
  subst e;exact hne (hs.inj id id' b o o' h1 h2 h3 h4)
 obtain ⟨e0,he1,he2⟩:∃e0,(∀b o,β4 154=some (b,o)->e0=b)∧((∃o,β4 154=some (e0,o))∨e0=w4.heap.size):=by
  cases hq:β4 154 with
  |none=>exact ⟨w4.heap.size,fun b o h=>by (cases h),.inr rfl⟩
  |some q=>exact ⟨q.1,fun b o h=>by (cases h;rfl),.inl ⟨q.2,rfl⟩⟩
 have hlt4:w.heap.size<=w4.heap.size:=hs.fr.step.size
 have de:∀id b o,id≠154->Cd ((Aci seed h leaf m n (Af .u64 l)).hp id)->β4 id=some (b,o)->b<w4.heap.size->b≠e0:=fun id b o hne h1 h2 hlt e=>by
  rcases he2 with ⟨o',h3⟩|h3
  ·exact dif id 154 b e0 o o' hne h1 trivial h2 h3 e
  ·omega
 have ge:w.heap.size<=e0∧¬Y e0∧e0<=w4.heap.size:=by
  rcases he2 with ⟨o',h3⟩|h3
  ·have:=own 154 e0 o' trivial h3;exact ⟨this.1,this.2,Nat.le_of_lt (hs.blt 154 e0 o' (fun h0:some (Bk.ar false [])=none=>by cases h0) h3)⟩
  ·exact ⟨by omega,fun hy=>by have:=hs.Ylt e0 hy;omega,by omega⟩
 rcases r1 with ⟨_,_,h3,_⟩|⟨cb,co,x,cap,g1,g2,g3,g4,g5,g6⟩
 ·omega
 rcases hb1 with ⟨h7,_⟩|⟨cb',co',h7,h8,h9,_⟩
 ·rw [g1] at h7;cases h7
 rw [g1] at h7;cases h7;have hx:x=co:=by omega
 subst hx
 refine ⟨b5,o5,b6,o6,b8,o8,b10,o10,e0,v1,⟨t5,t6,t8,O8 (hs.tms 9 (by decide)),t10,O8 (hs.tms 27 (by decide)),O8 (hs.tms 28 (by decide)),q5,q6,fun j hj=>?_,fun j hj=>f8 j hj,q0,q1,fun j hj=>f10 j hj,l5,l6,l8,l10,ge.2.2,
  dif 5 10 _ _ _ _ (by decide) trivial trivial e5 e10,dif 6 10 _ _ _ _ (by decide) trivial trivial e6 e10,de 5 _ _ (by decide) trivial e5 l5,de 6 _ _ (by decide) trivial e6 l6,de 10 _ _ (by decide) trivial e10 l10,dif 8 10 _ _ _ _ (by decide) trivial trivial e8 e10,de 8 _ _ (by decide) trivial e8 l8,
  (own 8 _ _ trivial e8).2,(own 10 _ _ trivial e10).2,ge.2.1,(own 10 _ _ trivial e10).1,ge.1,(own 8 _ _ trivial e8).1,by rw [g2];rfl,fun B hB hk=>?_,v2,q2,?_⟩⟩
 ·match j,hj with
  |0,_=>exact ⟨v80,q80⟩
  |1,_=>exact ⟨v81,q81⟩
  |2,_=>exact ⟨v82,q82⟩
 ·have hsame:=hk cb g6 (dif 106 10 _ _ _ _ (by decide) trivial trivial g1 e10) (de 106 _ _ (by decide) trivial g1 g6)
  rw [g2];refine A5.lst 1 _ _ ⟨cb,x,none⟩ cap (fun j=>.int .u64 (l.getD j 0)) rfl (by show cb<_;omega) (fun hb=>?_) g4 (fun j c hj=>?_) (fun _ _ _=>rfl) (fun j c hj=>?_)
  ·rcases hb with hb|hb
   ·exact dif 106 8 _ _ _ _ (by decide) trivial trivial g1 e8 hb
   ·exact (own 106 _ _ trivial g1).2 hb
  ·have hlt:j<(Af .u64 l).length:=(List.getElem?_eq_some_iff.1 hj).1;rw [Ak] at hlt;obtain ⟨v,k1,_,k3⟩:=h8 j _ (Le (List.getElem?_eq_getElem hlt));rw [Dz] at k1 ⊢;rw [World.cell?_of_block (a:=⟨cb,x+j,none⟩) hsame,k1,A5.val k3,List.getD_eq_getElem?_getD,List.getElem?_eq_getElem hlt];rfl
  ·have hlt:j<(Af .u64 l).length:=(List.getElem?_eq_some_iff.1 hj).1;rw [Ak] at hlt;rw [Le (List.getElem?_eq_getElem hlt)] at hj;cases hj;rw [List.getD_eq_getElem?_getD,List.getElem?_eq_getElem hlt];exact A5.sc _
 ·rcases r2 with ⟨_,_,_,h4⟩|⟨pb,po,x',cap',k1,k2,k3,k4,k5',k6'⟩
  ·exact .inl h4
  ·have he:=he1 pb po k1;subst he;rcases hb2 with ⟨h7,_⟩|⟨pb',po',h7,_,h9',_⟩
   ·rw [k1] at h7;cases h7
   ·rw [k1] at h7;cases h7;have hxx:x'=po:=by omega
    subst hxx;exact .inr ⟨x',cap',k2,by omega,k6',fun j hj hjb=>h9' rfl j hj hjb⟩
end
section
open Go.IntKind (wrap)
set_option maxRecDepth 20000
open Go Go.RowKit
noncomputable abbrev Air:Code:=sA (sB (sR (sL (sR (sR (sR IB))))))
theorem Afx:∃o1 o2:Oper,Air=.seq (.region 5 #[o1] false) (.region 6 #[o2] false)∧(o1.op=.assign (.tmp 30)∧o1.dst=some 11∧o1.guard=none)∧(o2.op=.assign (.tmp 31)∧o2.dst=some 12∧o2.guard=none):=
 ⟨_,_,rfl,⟨rfl,rfl,rfl⟩,⟨rfl,rfl,rfl⟩⟩
theorem Aeq {F:Fence}{n:Nat}{P:Program}{o:Oper}{x:Operand}{a:Act}{w:World}{next:Act->World->Prop}{Q:Exit->Act->World->Prop}(hF:∀f,F.fn f)(ho:o.op=.assign x)(h:next (a.put o.dst (a.eval x)) w):o.wpIn F n P a w next Q:=by
 refine ⟨fun f _=>hF f,?_⟩
 have e:o.semAt F.round a.eval=execOp a.eval o:=Oper.semAt_eq _ _ _ (by intro c hc;rw [ho] at hc;cases hc)
 rw [e]
 have r:(execOp a.eval o).run P w=.ok (.value (a.eval x)) w:=by
  unfold execOp;rw [ho];simp
 rw [r];exact h
theorem Abc {F:Fence}{n:Nat}{P:Program}{o:Oper}{x:Operand}{id:Nat}{a:Act}{w:World}{Q:Exit->Act->World->Prop}(hF:∀f,F.fn f)(ho:o.op=.assign x)(hg:o.guard=none)(h:Q .normal (a.put o.dst (a.eval x)) w):(Code.region id #[o] false).wpIn F n P Q a w:=by
 refine wpIn_region ?_;show wpOpsIn F n P #[o] Q [0] a w;unfold wpOpsIn;simp only [List.getElem?_toArray,List.getElem?_cons_zero,Region.wanted,hg,if_true];exact Aeq hF ho h
theorem F7 {a:Act}{i j:Nat}{v:Value}(h:i≠j):(a.put (some i) v).tmps.getD j undef=a.tmps.getD j undef:=by
 show (a.tmps.setIfInBounds i v).getD j undef=_;simp [Array.getD_eq_getD_getElem?,Array.getElem?_setIfInBounds_ne h]
theorem JQ {a:Act}{i:Nat}{v:Value}(h:i<a.tmps.size):(a.put (some i) v).tmps.getD i undef=v:=by
 show (a.tmps.setIfInBounds i v).getD i undef=_;simp [Array.getD_eq_getD_getElem?,h]
def sgA (a:Act)(args:Array Value):Act:=
 let r:Act:={ tmps:=((#[30,31]:Array Tmp).zip args).foldl (fun t (p,v)=>t.setIfInBounds p v) a.tmps,defers:=[] }
 let r1:=r.put (some 11) (r.eval (.tmp 30))
 r1.put (some 12) (r1.eval (.tmp 31))
theorem Ai2 {a:Act}{x y:Value}(hs:a.tmps.size=48):(sgA a #[x,y]).defers=[]∧(sgA a #[x,y]).tmps.size=48∧(sgA a #[x,y]).tmps.getD 5 undef=a.tmps.getD 5 undef∧(sgA a #[x,y]).tmps.getD 6 undef=a.tmps.getD 6 undef∧(sgA a #[x,y]).tmps.getD 10 undef=a.tmps.getD 10 undef ∧
  (sgA a #[x,y]).tmps.getD 11 undef=x∧(sgA a #[x,y]).tmps.getD 12 undef=y:=by
 obtain ⟨b,hb⟩:∃b:Act,({ tmps:=a.tmps,defers:=[] }:Act)=b:=⟨_,rfl⟩;have hbs:b.tmps.size=48:=by rw [←hb];exact hs
 have e:sgA a #[x,y]=(((b.put (some 30) x).put (some 31) y).put (some 11) (((b.put (some 30) x).put (some 31) y).eval (.tmp 30))).put (some 12) ((((b.put (some 30) x).put (some 31) y).put (some 11) (((b.put (some 30) x).put (some 31) y).eval (.tmp 30))).eval (.tmp 31)):=by
  rw [←hb];have z:((#[30,31]:Array Tmp).zip #[x,y]) = #[(30,x),(31,y)]:=by simp
  unfold sgA;rw [z];simp [Act.put]
 have ev:∀(c:Act) (t:Nat),c.eval (.tmp t)=c.tmps.getD t undef:=fun c t=>rfl
 have e30:((b.put (some 30) x).put (some 31) y).eval (.tmp 30)=x:=by rw [ev,F7 (by decide),JQ (by omega)]
 rw [e,e30];have e31:(((b.put (some 30) x).put (some 31) y).put (some 11) x).eval (.tmp 31)=y:=by rw [ev,F7 (by decide),JQ (by rw [Ie];omega)]
 rw [e31];have hd:b.defers=[]:=by rw [←hb]
 have ht:b.tmps=a.tmps:=by rw [←hb]
 refine ⟨by simp only [Kr,hd],by simp only [Ie,hbs],?_,?_,?_,?_,?_⟩
 ·rw [F7 (by decide),F7 (by decide),F7 (by decide),F7 (by decide),ht]
 ·rw [F7 (by decide),F7 (by decide),F7 (by decide),F7 (by decide),ht]
 ·rw [F7 (by decide),F7 (by decide),F7 (by decide),F7 (by decide),ht]
 ·rw [F7 (by decide),JQ (by simp only [Ie];omega)]
 ·rw [JQ (by simp only [Ie];omega)]
theorem Aky {w w4 w5:World}{Y:Nat->Prop}{seed leaf:Int}{h:Nat}{c:List PV}{n:Nat}{a4 a5:Act}{b5 o5 b6 o6 b8 o8 b10 o10 e0:Nat}{chv:Value}(hh:h<=4)(hl0:0<=leaf)(hl1:leaf<((2 ^ h:Nat):Int)) (hp:Ar2 w w4 Y seed h leaf c n a4 b5 o5 b6 o6 b8 o8 b10 o10 e0 chv)
  (hsz:a4.tmps.size=48)(hw5:w5=(w4.alloc (.cells #[.int .u64 seed] 22)).alloc (.cells #[.int .i64 h] 3))
  (ha5:a5=a4.put (some 29) (.func (.func 107) #[] #[.pointer (some ⟨w4.heap.size+1,0,none⟩),.pointer (some ⟨w4.heap.size,0,none⟩)])) {K:Act->World->Prop}{Q:Exit->Act->World->Prop}
  (hK:∀Z B,CR w4 (w4.heap.size+2) seed leaf h b10 o10 e0 chv Z (List.range h) B->B.heap[w4.heap.size+2]?=some (.deferred (some []))->K { a5 with defers:={ target:=.collected (w4.heap.size+2),args:= #[] }::a5.defers } B):
  (Code.block 0 (.rangeFunc (.tmp 29) #[30,31] Air XI)).wpIn Fence.wide 0 Tryz.prog (Exit.then K Q) a5 w5:=by
 have hs5:w5.heap.size=w4.heap.size+2:=by rw [hw5,World.size_alloc,World.size_alloc]
 have hold:∀b,b<w4.heap.size->w5.heap[b]?=w4.heap[b]?:=fun b hb=>by
  rw [hw5];exact (Below.heap_alloc _ _ _ (by simp;omega)).trans (Below.heap_alloc _ _ _ hb)
 have hB1:w5.heap[w4.heap.size+1]?=some (.cells #[.int .i64 h] 3):=by
  rw [hw5];have:=World.alloc_heap_new (w4.alloc (.cells #[.int .u64 seed] 22)) (.cells #[.int .i64 h] 3);rwa [World.size_alloc] at this
 have hB0:w5.heap[w4.heap.size]?=some (.cells #[.int .u64 seed] 22):=by
  rw [hw5];exact (Below.heap_alloc _ _ _ (by simp)).trans (World.alloc_heap_new w4 _)
 have hs5':a5.tmps.size=48:=by rw [ha5,Ie];exact hsz
 have g5:a5.tmps.getD 5 undef=.pointer (some ⟨b5,o5,none⟩):=by rw [ha5,F7 (by decide)];exact hp.t5
 have g6:a5.tmps.getD 6 undef=.pointer (some ⟨b6,o6,none⟩):=by rw [ha5,F7 (by decide)];exact hp.t6
 have g10:a5.tmps.getD 10 undef=.pointer (some ⟨b10,o10,none⟩):=by rw [ha5,F7 (by decide)];exact hp.t10
 have g29:a5.eval (.tmp 29)=.func (.func 107) #[] #[.pointer (some ⟨w4.heap.size+1,0,none⟩),.pointer (some ⟨w4.heap.size,0,none⟩)]:=by
  show a5.tmps.getD 29 undef=_;rw [ha5,JQ (by omega)]
 have nD:w4.heap.size+2≠e0:=by have:=hp.le;omega
 have nD1:w4.heap.size+2+1≠e0:=by have:=hp.le;omega
 have WS:=Akm (seed:=seed) (h:=h) (Bh:=w4.heap.size+1) (Bs:=w4.heap.size) hh
 refine wpIn_block (Ae2 (Z0:=fun b=>b<w4.heap.size) g29 (enters_of Tryz.func107 (by kernel_rfl) rfl) WS (fun b hb=>by omega) (fun W hW hk=>?_) (fun pre x args Z A B hm h1 h2=>Ahe hm h1 h2) (fun pre x args Z A hm=>Ahl hm)
  (CR w4 (w4.heap.size+2) seed leaf h b10 o10 e0 chv) (An4 w4 (w4.heap.size+2) seed leaf h b10 o10 e0 chv) ?_ ?_ ?_ (sgA a5) ?_ ?_ ?_ ?_)
 ·have k1:=hk (w4.heap.size+1) (by omega)
  have k0:=hk w4.heap.size (by omega)
  refine ⟨(World.cell?_of_block (a:=⟨w4.heap.size+1,0,none⟩) k1).trans ?_,(World.cell?_of_block (a:=⟨w4.heap.size,0,none⟩) k0).trans ?_,by omega,by omega,?_,?_⟩
  ·unfold World.cell?;rw [hB1];rfl
  ·unfold World.cell?;rw [hB0];rfl
  ·rintro (h1|h1|h1)<;>omega
  ·rintro (h1|h1|h1)<;>omega
 ·intro Z pre A B hI hs;rw [hs5] at hs;exact hI.stay hp.l10 nD nD1 (by omega) hs
 ·rintro c' Z pre A B ⟨h1,pre',h2,hI⟩ hs
  rw [hs5] at hs;exact ⟨h1,pre',h2,hI.stay hp.l10 nD nD1 (by omega) hs⟩
 ·intro W hW hst;have e:∀b,b<w4.heap.size->W.heap[b]?=w4.heap[b]?:=fun b hb=>(hst.same b (by omega)).trans (hold b hb)
  have o5:w5.os=w4.os∧w5.tape=w4.tape∧w5.output=w4.output:=by rw [hw5];exact ⟨rfl,rfl,rfl⟩
  obtain ⟨v2,p1,p2⟩:=hp.p0;refine ⟨hst.os.trans o5.1,hst.tape.trans o5.2.1,hst.output.trans o5.2.2,by omega,fun b hb=>.inl hb,fun b hb=>by rcases hb with hb|hb|hb<;>omega,fun b hb _ _=>e b hb,by unfold bsz;rw [e b10 hp.l10];exact Nat.le_refl _,(World.cell?_of_block (e b10 hp.l10)).trans hp.c10,(World.cell?_of_block (e b10 hp.l10)).trans hp.c11,fun k hk=>by rw [frozen?_of_block (e b10 hp.l10)];exact hp.f10 k hk,(fun x hx=>by cases hx),v2,(World.cell?_of_block (e b10 hp.l10)).trans p1,?_,?_⟩
  ·rcases p2 with p2|⟨x,cap,q1,q2,q3,q4⟩
   ·exact .inl ⟨rfl,p2⟩
   ·have hb:bsz W e0=bsz w4 e0:=by unfold bsz;rw [e e0 q3]
    exact .inr ⟨e0,x,cap,q1,Nat.zero_le _,by rw [hb];exact q2,by omega,.inr rfl,fun j y hj=>(by cases hj),fun j hj hjb=>by rw [frozen?_of_block (e e0 q3)];exact q4 j hj (by rw [←hb];exact hjb)⟩
  ·intro pb po k cap' hv;rcases p2 with p2|⟨x,cap,q1,q2,q3,q4⟩
   ·rw [p2] at hv;cases hv
   ·rw [q1] at hv;cases hv;exact .inl q3
 ·intro pre x args Z A K' hm hk;obtain ⟨o1,o2,e,⟨a1,a2,a3⟩,⟨c1,c2,c3⟩⟩:=Afx;refine Zt e (wpIn_seq (Abc (fun _=>trivial) a1 a3 ?_))
  show (Code.region 6 #[o2] false).wpIn _ _ _ _ _ _;refine Abc (fun _=>trivial) c1 c3 ?_
  rw [a2,c2];exact hk
 ·intro Z pre x args A hZ1 hZ2 hI hm;rw [hs5] at hZ1 hZ2 ⊢;obtain ⟨hx,_,bb,oo,cc,hargs,_⟩:=id hm;have sp:=Ai2 (a:=a5) (x:=.int .i64 x) (y:=.slice (some ⟨bb,oo,none⟩) (2 ^ (h-x):Nat) cc) hs5';rw [←hargs] at sp;refine Agw hh hl0 hl1 hI hm ⟨sp.1,sp.2.1,sp.2.2.1.trans g5,sp.2.2.2.1.trans g6,sp.2.2.2.2.1.trans g10,?_,?_⟩ hp.c5 hp.c6 hp.l5 hp.l6 hp.l10 hp.n5 hp.n6 hp.m5 hp.m6 hp.m10 nD nD1 (by omega) hZ1 hZ2
  ·rw [sp.2.2.2.2.2.1,hargs];rfl
  ·rw [sp.2.2.2.2.2.2,hargs];rfl
 ·intro Z xs B hS hI _;subst hS;have:=hI.lt h (by simp)
  omega
 ·rintro c' Z xs B ⟨k,hk⟩ ⟨rfl,pre,hpre,hI⟩ hdf
  have hrg:pre=List.range h:=by
   rw [hpre,List.range_succ] at hk;have:=List.append_inj' hk rfl;have h2:h=k:=by simpa using this.2
   rw [this.1,h2]
  subst hrg;rw [hs5] at hdf ⊢;refine wpIn_exit ?_;simp only [Exit.inBlock,if_true];exact hK Z B hI hdf
end
section
open Go.IntKind (wrap)
set_option maxRecDepth 20000
open Go Go.RowKit
theorem Aoo:IB=.seq (sL IB) (.seq (sL (sR IB)) (.seq (sL (sR (sR IB))) (.seq (.seq (.region 4 (Lz (sL (sL (sR (sR (sR IB)))))) false) (.block 0 (.rangeFunc (.tmp 29) #[30,31] Air XI))) (.seq (.region 9 (Lz (sL (sR (sR (sR (sR IB)))))) false) .ret)))):=by kernel_rfl
theorem Asm:∃ty pos aft x,(Lz (sL (sL (sR (sR (sR IB))))))[2]?=some { dst:=some 29,op:=.call { callee:=.value (.func 77),args:= #[.tmp 27,.tmp 28],argTypes:=x },type:=ty,pos:=pos,after:=aft,guard:=none }:=
 ⟨_,_,_,_,rfl⟩
theorem SW {P:Program}{ops:Array Oper}{Q Q':Exit->Act->World->Prop}{n id:Nat}{ds:List Deferred}{a:Act}{w:World}(h:wpOpsIn (WF none) n P ops Q' (List.range ops.size) a w) (hq:∀e a w,TD ds Q' e a w->Q e a w):(Code.region id ops false).wpIn Fence.wide n P Q (Sm ds a) w:=
 wpIn_mono (wpIn_region (F:=Fence.wide) (Sn _ h)) hq
abbrev Ayw (seed h leaf m:Int):St:=
  ⟨lk [(0,.sc (.int .u64 seed)),(3,.sc (.int .u64 m)),(5,.ptr 5 0),(6,.ptr 6 0),(8,.ptr 8 0),(9,.sc (.int .i64 0))],
   B5 [(5,.st [.sc (.int .i64 h)]),(6,.st [.sc (.int .i64 leaf)]),(8,.st [.sc (.int .i64 0),.view 104 1 0 0,.view 152 1 0 0]),(104,.ar false []),(152,.ar false [])]⟩
abbrev Awo (seed h leaf m:Int)(n:Nat)(c:List PV):St:=
  ⟨lk [(0,.sc (.int .u64 seed)),(3,.sc (.int .u64 m)),(5,.ptr 5 0),(6,.ptr 6 0),(8,.ptr 8 0),(9,.sc (.int .i64 0)),(10,.ptr 10 0)],
   B5 [(5,.st [.sc (.int .i64 h)]),(6,.st [.sc (.int .i64 leaf)]),(8,.st [.sc (.int .i64 0),.view 104 1 0 0,.view 152 1 0 0]),(104,.ar false []),(152,.ar false []),(10,.st [.sc (.int .i64 leaf),.view 106 1 0 n,.view 154 1 0 0]),(106,.ar false c),(154,.ar false [])]⟩
abbrev Ard (leaf:Int)(n1 n2:Nat)(c1 c2:List PV):St:=⟨lk [(8,.ptr 96000 0),(9,.sc (.int .i64 0))],B5 [(96000,.st [.sc (.int .i64 leaf),.lst false 1 n1 c1,.lst false 1 n2 c2])]⟩
theorem YE {h leaf:Int}(hb:LG h leaf=false):De h=false∧J6 leaf h=false∧∃H:Nat,h=H∧H<=4∧0<=leaf∧leaf<((2 ^ H:Nat):Int):=by
 unfold LG at hb;rw [Bool.or_eq_false_iff] at hb;refine ⟨hb.1,hb.2,h.toNat,?_⟩;have h1:=hb.1;have h2:=hb.2;unfold De at h1;unfold J6 at h2;rw [Bool.or_eq_false_iff,decide_eq_false_iff_not,decide_eq_false_iff_not] at h1 h2;have h3:h=(h.toNat:Int):=by omega
 have h4:=Al5 (h:=h.toNat) (by omega)
 rw [←h3] at h4;rw [h4] at h2;exact ⟨h3,by omega,by omega,by omega⟩
theorem Aju {G:Ua}{seed h leaf m:Int}(hb:LG h leaf=false):C6 G Tryz.prog 37 [.sc (.int .u64 seed),.sc (.int .i64 h),.sc (.int .i64 leaf),.sc (.int .u64 m)]
  ⟨[.agg [.sc (.int .i64 leaf),.lst false 1 18 (Af .u64 (Ih seed leaf m)),.lst false 1 h.toNat (Af .u64 ((List.range h.toNat).map fun k=>Bv seed k (Fj leaf k)))],.sc (.int .i64 0)],[]⟩:=by
 obtain ⟨hhi,hou,H,rfl,hh,hl0,hl1⟩:=YE hb;refine Ane ⟨_,Tryz.func37,rfl⟩ fun w Y hY=>?_
 have hk0:Ad3 Tryz.prog 48 0 Tryz.f37.params.toList [.sc (.int .u64 seed),.sc (.int .i64 H),.sc (.int .i64 leaf),.sc (.int .u64 m)] (fun tms bs=>some (tms,bs))=some ([(0,.sc (.int .u64 seed)),(1,.sc (.int .i64 H)),(2,.sc (.int .i64 leaf)),(3,.sc (.int .u64 m))],[]):=by kernel_rfl
 have hin:Ins w Y MS [.sc (.int .u64 seed),.sc (.int .i64 H),.sc (.int .i64 leaf),.sc (.int .u64 m)] [.int .u64 seed,.int .i64 H,.int .i64 leaf,.int .u64 m]:=
  ⟨hY,fun b _=>Uy b,fun b x=>(Uy b x).elim,fun _ _ _ _ _ _ _ x=>(by cases x),fun _ _ x=>(by cases x),⟨.inl trivial,A5.sc _⟩,⟨.inl trivial,A5.sc _⟩,⟨.inl trivial,A5.sc _⟩,⟨.inl trivial,A5.sc _⟩,trivial⟩
 obtain ⟨tms,bs,hk1,hst⟩:=NZ hin hk0;cases hk1;obtain ⟨h8,β0,hs0⟩:=hst rfl (by simp)
 refine callsIn_wide.1 (callsIn_of_wp_marks (F:=Fence.wide) (n:=0) Tryz.func37 rfl trivial ?_ rfl);have t1:({ tmps:= #[Value.int .u64 seed,.int .i64 H,.int .i64 leaf,.int .u64 m]++Array.replicate (Tryz.f37.ntmps-(#[Value.int .u64 seed,.int .i64 H,.int .i64 leaf,.int .u64 m]).size) undef,defers:=[] }:Act)={ tmps:=[Value.int .u64 seed,.int .i64 H,.int .i64 leaf,.int .u64 m].toArray++Array.replicate (48-[Value.int .u64 seed,.int .i64 H,.int .i64 leaf,.int .u64 m].toArray.size) undef,defers:=[] }:=by kernel_rfl
 rw [t1];show IB.wpIn _ _ _ _ _ _;generalize ({ tmps:=[Value.int .u64 seed,.int .i64 H,.int .i64 leaf,.int .u64 m].toArray++Array.replicate (48-[Value.int .u64 seed,.int .i64 H,.int .i64 leaf,.int .u64 m].toArray.size) undef,defers:=[] }:Act)=a0 at hs0 ⊢;have hXn:∀b,¬(IK MS [.sc (.int .u64 seed),.sc (.int .i64 H),.sc (.int .i64 leaf),.sc (.int .u64 m)] h8).X b:=Uy;refine Zt Aoo (wpIn_seq (wpIn_wide.2 (D5 (Pm _ _) OT Db hs0 (Ao4 cl seed H leaf m) ?_)));intro a1 w1 β1 hs1;have eh:cl Jk [.sc (.int .i64 H)]=_:=S0 (xs:=noX) (fu:=2000) (d:=7) (H:Int);have eo:cl Hj [.sc (.int .i64 leaf),.sc (.int .i64 H)]=_:=Pd (xs:=noX) (fu:=2000) (d:=7) leaf H (by omega)
 have es:cl Oa [.sc (.int .u64 seed),.sc (.int .i64 leaf),.sc (.int .u64 m)]=_:=Ak0 (xs:=noX) (fu:=2000) (d:=1) (by omega) seed leaf m
 refine wpIn_seq (wpIn_wide.2 (D5 (Pm _ _) OT Db hs1 (L:=873) (t:=0) (s1:=Ayw seed H leaf m) ?_ ?_))
 ·refine (An7 cl seed H leaf m).trans ?_;simp only [Bz,eh,eo,hhi,hou]
 intro a2 w2 β2 hs2;refine wpIn_seq (wpIn_wide.2 (D5 (Pm _ _) OT Db hs2 (L:=1897) (t:=0) (s1:=Awo seed H leaf m 18 (Af .u64 (Ih seed leaf m))) ?_ ?_))
 ·refine (Aqj cl seed H leaf m).trans ?_;simp only [Bz,es]
 intro a3 w3 β3 hs3;refine wpIn_seq (wpIn_seq (wpIn_region ?_));have hl:List.range (Lz (sL (sL (sR (sR (sR IB)))))).size=[0,1]++[2]:=by kernel_rfl
 rw [hl];refine Md (ro:=none) (C:=CB) (call:=cl) (r:=((0:Nat),Aci seed H leaf m 18 (Af .u64 (Ih seed leaf m)))) (Pm _ _) Db ?_ [0,1] (List.take 2 (Lz (sL (sL (sR (sR (sR IB)))))).toList) (by kernel_rfl) ?_ (by kernel_rfl) hs3 (Anw cl seed H leaf m 18 _)
 rotate_left
 ·intro j i hj
  match j,hj with
  |0,hj=>cases hj;rfl
  |1,hj=>cases hj;rfl
 intro s' a4 w4 β4 hk4 hs4;obtain ⟨β5,s5,hk5,hs5⟩:=Di hs4 hk4;cases hk5;obtain ⟨b5,o5,b6,o6,b8,o8,b10,o10,e0,chv,hp⟩:=Afg (l:=Ih seed leaf m) (n:=18) (by omega) (by simp [Ih]) hXn hs5
 obtain ⟨ty,pos,aft,x,ho⟩:=Asm;rw [wpOpsIn_cons];unfold wpOpIn;rw [ho];simp only [Region.wanted,if_true];refine ⟨fun _ _=>trivial,?_⟩
 rw [show Oper.semAt (WF none).round a4.eval { dst:=some 29,op:=.call { callee:=.value (.func 77),args:= #[.tmp 27,.tmp 28],argTypes:=x },type:=ty,pos:=pos,after:=aft,guard:=none }=execOp a4.eval { dst:=some 29,op:=.call { callee:=.value (.func 77),args:= #[.tmp 27,.tmp 28],argTypes:=x },type:=ty,pos:=pos,after:=aft,guard:=none } from rfl,
  KN (o:={ dst:=some 29,op:=.call { callee:=.value (.func 77),args:= #[.tmp 27,.tmp 28],argTypes:=x },type:=ty,pos:=pos,after:=aft,guard:=none }) rfl rfl ngT Tryz.func77 rfl]
 have e27:a4.eval (.tmp 27)=.int .u64 seed:=hp.t27;have e28:a4.eval (.tmp 28)=.int .i64 H:=hp.t28;simp only [List.map_toArray,Zzw,List.map_nil,e27,e28];refine ⟨(fun h=>by cases h),(Akz seed H _ w4).mono ?_⟩
 rintro e w5 ⟨rfl,hw5⟩
 refine Aky (w:=w) (Y:=Y) hh hl0 hl1 hp hs5.tsz hw5 rfl ?_;intro Z B hRI hdf;obtain ⟨a5,ha5⟩:∃a5,a4.put (some 29) (.func (.func 107) #[] #[.pointer (some ⟨w4.heap.size+1,0,none⟩),.pointer (some ⟨w4.heap.size,0,none⟩)])=a5:=⟨_,rfl⟩;rw [ha5];have hd5:a5.defers=[]:=by rw [←ha5,Kr];exact hs5.dfr
 have hz5:a5.tmps.size=48:=by rw [←ha5,Ie];exact hs5.tsz
 have ea:({ a5 with defers:={ target:=.collected (w4.heap.size+2),args:= #[] }::a5.defers }:Act)=Sm [{ target:=.collected (w4.heap.size+2),args:= #[] }] a5:=by unfold Sm;rw [hd5];rfl
 rw [ea];have hsB:w4.heap.size<=B.heap.size:=by have:=hRI.size;omega
 have hkB:∀b,b<w4.heap.size->b≠b10->b≠e0->B.heap[b]?=w4.heap[b]?:=hRI.keep;have h8B:=hkB b8 hp.l8 hp.n8 hp.m8
 obtain ⟨XB,βB,hXB,hB⟩:=Ao2 (Y:=Y) (a:=a5) (b8:=b8) (o8:=o8) (n1:=18) (c1:=Af .u64 (Ih seed leaf m)) hRI hd5 hz5 (by rw [←ha5,F7 (by decide)];exact hp.t8) (by rw [←ha5,F7 (by decide)];exact hp.t9) (by rw [←ha5,F7 (by decide)];exact hp.t10)
  (fun j hj=>by rw [World.cell?_of_block (a:=⟨b8,o8+j,none⟩) h8B];exact hp.c8 j hj) (fun j hj=>by rw [frozen?_of_block h8B];exact hp.f8 j hj) (Nat.lt_of_lt_of_le hp.l8 hsB) (Nat.lt_of_lt_of_le hp.l10 hsB) hp.n8 hp.y8 hp.y10 (hp.ch B hsB hkB) hp.one
  (fun pb hpb=>by
   rcases hpb with hpb|hpb
   ·have:=hp.l8;exact ⟨by omega,fun hy=>by have:=hY pb hy;have:=hs5.fr.step.size;omega⟩
   ·rw [hpb];exact ⟨fun e=>hp.m8 e.symm,hp.ye⟩)
  (fun b hb=>by have:=hY b hb;have:=hs5.fr.step.size;omega)
 rw [List.length_range] at hB;refine wpIn_seq (SW (Q':=fun e a' w'=>e=.normal∧∃β',Bu 48 B XB Y β' (Ard leaf 18 H (Af .u64 (Ih seed leaf m)) (Af .u64 ((List.range H).map fun k=>Bv seed k (Fj leaf k)))) a' w') ?_ ?_)
 ·have hl9:List.range (Lz (sL (sR (sR (sR (sR IB)))))).size=[0,1,2]++[]:=by kernel_rfl
  rw [hl9];refine Md (ro:=none) (C:=CB) (call:=cl) (r:=((0:Nat),Ard leaf 18 H (Af .u64 (Ih seed leaf m)) (Af .u64 ((List.range H).map fun k=>Bv seed k (Fj leaf k))))) (Pm _ _) Db ?_ [0,1,2] (Lz (sL (sR (sR (sR (sR IB)))))).toList (by kernel_rfl) ?_ (by kernel_rfl) hB (Aph cl leaf 18 H _ _)
  rotate_left
  ·intro j i hj
   match j,hj with
   |0,hj=>cases hj;rfl
   |1,hj=>cases hj;rfl
   |2,hj=>cases hj;rfl
  intro s6 a6 w6 β6 hk6 hs6;obtain ⟨β7,s7,hk7,hs7⟩:=Di hs6 hk6;cases hk7;exact ⟨rfl,β7,hs7⟩
 ·rintro e a7 w7 ⟨a6,rfl,rfl,β6,hz⟩
  refine wpIn_ret ?_
  have hD':w7.heap[w4.heap.size+2]?=some (.deferred (some [])):=by
   have hlt:=hRI.size;have hl8:=hp.l8;rw [hz.fr.step.keep (w4.heap.size+2) (by omega) fun hx=>by have:=hXB _ hx;omega]
   exact hdf
  show LeavesInM _ _ _ _ _ _ (a6.defers++[{ target:=.collected (w4.heap.size+2),args:= #[] }]) .returning w7;rw [hz.dfr];refine ⟨by simp,.inl ⟨_,_,rfl,run_takeDeferred hD',?_⟩⟩
  have hfr:=hs5.fr
  have hu:Bu 48 w (IK MS [.sc (.int .u64 seed),.sc (.int .i64 H),.sc (.int .i64 leaf),.sc (.int .u64 m)] h8) Y β6 (Ard leaf 18 H (Af .u64 (Ih seed leaf m)) (Af .u64 ((List.range H).map fun k=>Bv seed k (Fj leaf k)))) a6 w7:=
   hz.unbase (fun _ h=>h) hY (fun b hx=>by rw [hXB b hx];exact hp.g8) (fun i ⟨p,h1,h2⟩=>by
    match i,h1 with
    |0,h1=>cases h1;cases h2
    |1,h1=>cases h1;cases h2
    |2,h1=>cases h1;cases h2
    |3,h1=>cases h1;cases h2) (hRI.os.trans hfr.os) (hRI.tape.trans hfr.tape) (hRI.output.trans hfr.output) (Nat.le_trans hfr.step.size hsB) (fun b hb=>by
    have h1:=hp.g10;have h2:=hp.ge;have h3:=hfr.step.size;exact (hkB b (by omega) (by omega) (by omega)).trans (hfr.step.keep b hb (hXn b)))
  have hv:=hu.same (VA (y:=none) hD') fun b hb=>World.putObj_heap_other (by have:=hfr.step.size;omega)
  obtain ⟨_,v,r1,vs,own,r2,r3⟩:=DE (C:=CS) (f:=37) (fn:=Tryz.f37) hin (res:=⟨[.agg [.sc (.int .i64 leaf),.lst false 1 18 (Af .u64 (Ih seed leaf m)),.lst false 1 H (Af .u64 ((List.range H).map fun k=>Bv seed k (Fj leaf k)))],.sc (.int .i64 0)],[]⟩) (Aop seed H leaf m leaf 18 H _ _) hv
  exact ⟨v,r1,vs,own,r2,r3⟩
end
section
open Go.IntKind (wrap)
set_option maxRecDepth 20000
open Go Go.RowKit
theorem C6.any {G:Ua}{P:Program}{f:FuncId}{args:List PV}{r:A0}(h:C6 G1 P f args r):C6 G P f args r:=
 ⟨h.1,fun w Y bt us hin _ _=>h.2 w Y bt us hin trivial fun _ hb=>hb.elim⟩
theorem Aq9 {G:Ua}{seed h leaf m:Int}(hb:LG h leaf=true):C6 G Tryz.prog 37 [.sc (.int .u64 seed),.sc (.int .i64 h),.sc (.int .i64 leaf),.sc (.int .u64 m)]
  ⟨[.agg [.sc (.int .i64 0),.lst false 1 0 [],.lst false 1 0 []],.sc (.int .i64 9)],[]⟩:=by
 refine C6.any (JV ngT OT Db Tryz.func37 rfl ((Ao8 cl seed h leaf m).trans ?_));have eh:cl Jk [.sc (.int .i64 h)]=_:=S0 (xs:=noX) (fu:=2000) (d:=7) h;unfold LG at hb;cases hhi:De h
 ·rw [hhi,Bool.false_or] at hb
  have h0:0<=h:=by
   unfold De at hhi;rw [Bool.or_eq_false_iff,decide_eq_false_iff_not] at hhi;omega
  have eo:cl Hj [.sc (.int .i64 leaf),.sc (.int .i64 h)]=_:=Pd (xs:=noX) (fu:=2000) (d:=7) leaf h h0;simp only [Bz,eh,eo,hhi,hb]
 ·simp only [Bz,eh,hhi]
theorem Adp {G:Ua}{args:List PV}{r:A0}(h:Ap8 args=some r):C6 G Tryz.prog 37 args r:=by
 unfold Ap8 at h;split at h
 ·rename_i seed hh leaf m;cases h;cases hb:LG hh leaf
  ·have l18:(Ih seed leaf m).length=18:=by simp [Ih]
   have:=Aju (G:=G) (seed:=seed) (m:=m) hb;unfold tkL tkC tkP tkE;rw [hb];simp only [Bool.false_eq_true,if_false,l18,List.length_map,List.length_range];exact this
  ·have:=Aq9 (G:=G) (seed:=seed) (m:=m) hb;unfold tkL tkC tkP tkE;rw [hb];exact this
 ·cases h
end
section
open Go.IntKind (wrap)
open Go.RowKit
theorem PF {w w':World}{Y:Nat->Prop}{bt:GZ}{args:List PV}{v:Value}(hb:Below w.heap.size w w')(ho:Y4 w' (QP bt (fun _=>none) Y) (fun _=>none) bt (Qm [.sc v]) 0 args []):
  Out w w' Y bt args (fun _=>none) ⟨[.sc v],[]⟩ [v] where
 os:=hb.os
 tape:=hb.tape
 output:=hb.output
 ext:=⟨hb.size,fun b h _=>hb.block b h,fun b h=>by unfold bsz;rw [hb.block b h];exact Nat.le_refl _⟩
 rng:=fun b j h _=>⟨by unfold World.cell?;simp only [hb.block b h],by unfold World.frozen?;simp only [hb.block b h]⟩
 vals:=⟨A5.sc v,trivial⟩
 outs:=ho
 fresh:=fun j b o h=>by cases h
 inj:=fun j j' b o o' h=>by cases h
theorem FG {P:Program}{w:World}{A:Nat->Prop}{bt:Bt}{z:Bool}{n:Nat}{c:List PV}{u:Value}{l:List UInt8}(h:WC w A bt (.lst z 1 n c) u) (hl:bytesOf c=some l)(hn:c.length=n):
  (Extern.Bytes.bytesOf u).run P w=.ok ⟨l.toArray⟩ w:=by
 obtain ⟨ns,rfl,rfl⟩:=Up hl;have ht:A5 w A (.lst z 1 n (ns.map fun n=>.sc (.int .u8 n))) u:=h.2
 generalize hc:(ns.map fun n=>PV.sc (.int .u8 n))=c at ht
 cases ht with
 |lnil=>
  have:ns=[]:=by simpa using hc
  subst this;rfl
 |lemp=>
  have:ns=[]:=by simpa using hc
  subst this;rfl
 |lst _ _ _ a cap f hs hb hA hn' hcell h1 hr=>
  subst hc;rw [List.length_map] at hn;subst hn;show (Extern.Bytes.loadBytes a ns.length .empty).run P w=_;rw [Lib.run_loadBytesX w ns a .empty fun j x hj=>?_]
  ·simp [Lib.bytesOf,Nat.toUInt8]
  ·have e:(ns.map fun n=>PV.sc (.int .u8 n))[j]?=some (.sc (.int .u8 x)):=by rw [List.getElem?_map,hj];rfl
   rw [hcell j _ e,(hr j _ e).val]
set_option maxRecDepth 1000000 in
theorem RP (u1 u2:Value)(a b:List UInt8)(w:World)(h1:(Extern.Bytes.bytesOf u1).run Tryz.prog w=.ok ⟨a.toArray⟩ w) (h2:(Extern.Bytes.bytesOf u2).run Tryz.prog w=.ok ⟨b.toArray⟩ w):
  Calls Tryz.prog 133 #[u1,u2] w fun e w'=>e=.returned (.int .i64 (Lib.compareBytes a b))∧w'=w:=by
 have hr:(Extern.BytealgCompare.compare #[u1,u2]).run Tryz.prog w=.ok (.int .i64 (Lib.compareBytes a b)) w:=by
  change Sem.run Tryz.prog (do pure (goInt (Extern.BytealgCompare.cmp (←Extern.Bytes.bytesOf u1) (←Extern.Bytes.bytesOf u2)))) w=_
  simp only [Sem.run_bind,Sem.run_pure,Result.andThen,h1,h2];rw [Lib.cmp_eq];rfl
 go_enter Tryz.func133,Tryz.ntmps133
 go_wp2
 rw [run_callFunc_extern Tryz.func134 (by kernel_rfl) (by kernel_rfl) (by kernel_rfl) (e:=Extern.BytealgCompare.compare) (by kernel_rfl),hr]
 simp only [Result.andThen];rw [Oper.upon_value]
 go_wp2
 go_ret
 exact ⟨rfl,rfl⟩
theorem MF (G:Ua)(args:List PV)(res:A0)(h:U8 args=some res):C6 G Tryz.prog 133 args res:=by
 refine ⟨⟨_,Tryz.func133,by kernel_rfl⟩,fun w Y bt us hi _ _=>?_⟩
 unfold U8 at h;split at h
 rotate_left
 ·cases h
 rename_i z n c z' m c';cases hq:(Nat.beq c.length n&&Nat.beq c'.length m)
 ·rw [hq] at h;cases h
 rw [hq] at h;simp only [Bool.and_eq_true] at hq;have hn:=Nat.eq_of_beq_eq_true hq.1;have hm:=Nat.eq_of_beq_eq_true hq.2;simp only [cond_true] at h;split at h
 rotate_left
 ·cases h
 rename_i a b ha hb;cases h;have ps:=hi.args
 match us,ps with
 |[u1,u2],ps=>
  refine (RP u1 u2 a b w (FG ps.1 ha hn) (FG ps.2.1 hb hm)).mono ?_
  rintro e w' ⟨rfl,rfl⟩
  exact ⟨[.int .i64 (Lib.compareBytes a b)],fun _=>none,rfl,PF (Below.refl _ _) rfl⟩
 |[],ps=>exact ps.elim
 |[_],ps=>exact ps.2.elim
 |_::_::_::_,ps=>exact ps.2.2.elim
end
section
open Go.IntKind (wrap)
set_option maxRecDepth 1000000
open Go.Shelf Go.RowKit Go.Lib
def Ar4:Go.Shelf.Ren:=⟨fun|196=>56|259=>93|n=>n,fun|0=>0|3=>3|4=>4|5=>5|9=>9|12=>12|46=>76|53=>22|119=>136|138=>138|139=>139|n=>n,fun|3=>0|4=>1|n=>n⟩
theorem laysVS:Lays.n196 Tryz.prog Ar4:={
 mixed:=by kernel_rfl
 f196:=Tryz.func56.trans (congrArg some (by kernel_rfl))
 f259:=Tryz.func93.trans (congrArg some (by kernel_rfl))
 t0:=Tryz.underlying0
 a0:=Tryz.isAgg0
 z0:=Tryz.sizeOf0
 v0:=Tryz.zeroValue0
 t3:=Tryz.underlying3
 a3:=Tryz.isAgg3
 z3:=Tryz.sizeOf3
 v3:=Tryz.zeroValue3
 t4:=Tryz.underlying4
 a4:=Tryz.isAgg4
 z4:=Tryz.sizeOf4
 v4:=Tryz.zeroValue4
 t5:=Tryz.underlying5
 a5:=Tryz.isAgg5
 z5:=Tryz.sizeOf5
 v5:=Tryz.zeroValue5
 t9:=Tryz.underlying9
 a9:=Tryz.isAgg9
 z9:=Tryz.sizeOf9
 v9:=Tryz.zeroValue9
 t12:=Tryz.underlying12
 a12:=Tryz.isAgg12
 z12:=Tryz.sizeOf12
 v12:=Tryz.zeroValue12
 t46:=Tryz.underlying76
 a46:=Tryz.isAgg76
 z46:=Tryz.sizeOf76
 v46:=Tryz.zeroValue76
 t53:=Tryz.underlying22
 a53:=Tryz.isAgg22
 z53:=Tryz.sizeOf22
 v53:=Tryz.zeroValue22
 t119:=Tryz.underlying136
 a119:=Tryz.isAgg136
 z119:=Tryz.sizeOf136
 t138:=Tryz.underlying138
 a138:=Tryz.isAgg138
 z138:=Tryz.sizeOf138
 v138:=Tryz.zeroValue138
 t139:=Tryz.underlying139
 a139:=Tryz.isAgg139
 z139:=Tryz.sizeOf139
 v139:=Tryz.zeroValue139
 g3:=by kernel_rfl
 g4:=by kernel_rfl }
def gU:Ua:=⟨fun b=>b=0∨b=1,fun w=>0<w.heap.size∧1<w.heap.size∧Lib.Utf8Tabs 0 1 w,fun w w' h ⟨s1,s2,h1,h2⟩=>by
 have e1:=h _ (.inl rfl) s1;have e2:=h _ (.inr rfl) s2
 have hs:∀b,b<w.heap.size->w'.heap[b]?=w.heap[b]?->b<w'.heap.size:=by
  intro b hb he;rw [Array.getElem?_eq_getElem hb] at he;rcases Nat.lt_or_ge b w'.heap.size with q|q
  ·exact q
  ·rw [Array.getElem?_eq_none q] at he;cases he
 refine ⟨hs _ s1 e1,hs _ s2 e2,fun c hc=>?_,fun i hi=>?_⟩
 ·have:=h1 c hc;unfold World.cell? at this ⊢;simp only [e1] at this ⊢;exact this
 ·obtain ⟨a,b⟩:=h2 i hi;unfold World.cell? at a b ⊢;simp only [e2] at a b ⊢;exact ⟨a,b⟩⟩
theorem UY (args:List PV)(res:A0)(h:HX args=some res):C6 gU Tryz.prog 56 args res:=by
 refine ⟨⟨_,Tryz.func56,by kernel_rfl⟩,fun w Y bt us hi hok _=>?_⟩
 unfold HX at h;split at h
 rotate_left
 ·cases h
 rename_i s;cases hq:decide (s.size<=9223372036854775807)
 ·rw [hq] at h;cases h
 rw [hq] at h;cases h;have hs:=of_decide_eq_true hq;have ps:=hi.args
 match us,ps with
 |[u],ps=>
  have hu:u=.string s:=by
   have:A5 w _ (.sc (.string s)) u:=ps.1.2;exact this.val
  subst hu;refine (Any.utf8_ValidString laysVS s w hs hok.2.2).mono ?_
  rintro e w' ⟨rfl,hb⟩
  exact ⟨[.bool (Lib.validD s.data.toList)],fun _=>none,rfl,PF hb rfl⟩
 |[],ps=>exact ps.elim
 |_::_::_,ps=>exact ps.2.elim
theorem extU:Ab4 gU Tryz.prog C0:=by
 intro f g args res hx hg;have hx0:(bif BA.any (Nat.beq f) then none else J9 f)=some g:=hx;cases hb:BA.any (Nat.beq f)
 rotate_left
 ·rw [hb,cond_true] at hx0;cases hx0
 rw [hb,cond_false] at hx0;have hx':J9 f=some g:=hx0;unfold J9 at hx';cases h1:Nat.beq f 56
 rotate_left
 ·rw [h1,cond_true] at hx';cases hx';rw [Nat.eq_of_beq_eq_true h1];exact UY args res hg
 rw [h1,cond_false] at hx';cases h2:Nat.beq f 133
 rotate_left
 ·rw [h2,cond_true] at hx';cases hx';rw [Nat.eq_of_beq_eq_true h2];exact MF gU args res hg
 rw [h2,cond_false] at hx';cases h4:Nat.beq f 37
 rotate_left
 ·rw [h4,cond_true] at hx';cases hx';rw [Nat.eq_of_beq_eq_true h4];exact Adp hg
 rw [h4,cond_false] at hx';cases h3:Nat.beq f 1000000
 ·rw [h3,cond_false] at hx';cases hx'
 ·rw [h3,cond_true] at hx';cases hx';cases hg
end
end Go.Proofs.YtdjihiphpgkfmaaGreatDoor.Pv
