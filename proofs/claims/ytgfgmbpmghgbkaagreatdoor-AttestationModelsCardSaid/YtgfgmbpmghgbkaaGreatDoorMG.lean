/-
  The proof of AttestationModels, part 7 (texts La3 Ex1 Ex2).
-/
import Derived.Test.YtgfgmbpmghgbkaaGreatDoorMF
import Derived.Test.YtgfgmbpmghgbkaaGreatDoorRows
import Derived.Lib.BytesEntry
import Derived.Lib.Bytealg
import Derived.Lib.Walk
import Derived.WalkKit
import Derived.WalkMore
import Derived.Shelf.Unicode.ValidAny
import Derived.Lib.LaidU8T
set_option linter.unusedSimpArgs false
set_option linter.unusedVariables false
namespace Go.Proofs.YtgfgmbpmghgbkaaGreatDoor.Pv
section
set_option maxRecDepth 1000000
theorem Apb {sd hh lf:Int}{r:Rp}{a:Ad}(h:Ahd sd hh 2 lf r a){m:Int}(hm:m≠3)(w:Int)(ans:List An)(vs:List Rv)(now:Int):Ab1 r { a with model:=m } w ans vs now=avE 38:=by
 obtain ⟨hc,s,s1,s2,s3,s4⟩:=h.f2 rfl;unfold Ab1;rw [A0 (show ¬(E9 .i64 a.flags 64=0) from Mx h.good),h.fmt,A0 (by omega),A0 (by omega),Bm rfl]
 unfold Aje;rw [hc]
 have ed:Dq [H6]=([cB],0):=by
  rw [Dq,Yk,A0 (by simp),Dq,A0 (by simp)]
 rw [ed,A0 (by simp),A0 (by simp),A0 (by simp)]
 simp only;rw [Aaf,A0 (by show ¬(false=true);simp),A0 (by show ¬((3:Int)=0);omega),Bm (by show (3:Int)≠m;omega)]
theorem Ahd.same_model {sd hh fm lf:Int}{r:Rp}{a:Ad}(h:Ahd sd hh fm lf r a):{ a with model:=3 }=a:=by
 have:=h.model;cases a;simp only at this;subst this;rfl
theorem A5b {sd hh lf:Int}{r:Rp}{a:Ad}(h:Ahd sd hh 2 lf r a):Ab1 r a (Qo r.ad (D8 11 (Bv r.cd))) [] [] 5=avE 38:=by
 have e:Ry [cB] [] [] 5=(0,38):=by
  rw [Acq _ _ (by omega) (by omega),Bm (by omega)]
  rfl
 rw [Aoz h (Mx h.good),e,Bm (by simp)]
theorem A35 {sd hh lf:Int}{r:Rp}{a:Ad}(h:Ahd sd hh 2 lf r a)(k:Ky):Ab1 r a (Qo r.ad (D8 11 (Bv r.cd))) [⟨Nv,k⟩] [] 5=if Ok cB k=0 then ⟨2,0,-1,0⟩ else avE 38:=by
 have p5:(5:Int)<=900:=by omega
 have z0:¬((0:Int)<0):=by omega
 have z1:((-1:Int)<0):=by omega
 rw [Aoz h (Mx h.good),Acq _ _ (by omega) (by omega),Bm p5]
 unfold Aqk;by_cases hv:Ok cB k=0
 ·have e:Rf cB 0 [⟨Nv,k⟩]=0:=by
   rw [Rf,Bm ⟨(show eqS Nv cB.iss=true by decide),hv⟩]
   rfl
  rw [e,Bm hv,A0 z0,A0 (by simp)]
 ·have e:Rf cB 0 [⟨Nv,k⟩] = -1:=by
   rw [Rf,A0 (fun q=>hv q.2)]
   rfl
  rw [e,A0 hv,Bm z1,Bm (by simp)]
theorem A4i {sd hh lf:Int}{r:Rp}{a:Ad}(h:Ahd sd hh 2 lf r a){t:Int}(h0:0<=t)(h1:t<=1000):Ab1 r a (Qo r.ad (D8 11 (Bv r.cd))) En [] t=if t<=900 then ⟨2,1,-1,0⟩ else avE 38:=by
 rw [Aoz h (Mx h.good),Acq _ _ h0 (by omega)]
 unfold Aqk;rw [Adb];have z1:¬((1:Int)<0):=by omega
 by_cases hv:t<=900
 ·rw [Bm hv,Bm hv,A0 z1,A0 (by simp)]
 ·rw [A0 hv,A0 hv,Bm (by simp)]
theorem attestationModels_plain (qs:List PV)(h:B5 (WTv Tryz.prog) [3,5,23,31,3] qs):∃fu d,Ae C0 Tryz.prog fu d Gm qs=some ⟨[.sc (.bool true)],[]⟩:=by
 obtain ⟨q0,_,rfl,h0,g⟩:=h.cons_inv;obtain ⟨q1,_,rfl,h1,g⟩:=g.cons_inv;obtain ⟨q2,_,rfl,h2,g⟩:=g.cons_inv;obtain ⟨q3,_,rfl,h3,g⟩:=g.cons_inv;obtain ⟨q4,_,rfl,h4,g⟩:=g.cons_inv;obtain rfl:=g.nil_inv;clear h g;obtain ⟨n,rfl,wn⟩:=Ah8 (k:=.i64) (by kernel_rfl) (by kernel_rfl) h0
 obtain ⟨lf,rfl,wl⟩:=Ah8 (k:=.u8) (by kernel_rfl) (by kernel_rfl) h1
 obtain ⟨mo,rfl,_⟩:=Ah8 (k:=.u64) (by kernel_rfl) (by kernel_rfl) h2
 obtain ⟨k,rfl,_⟩:=A3r h3;obtain ⟨nw,rfl,_⟩:=Ah8 (k:=.i64) (by kernel_rfl) (by kernel_rfl) h4
 clear h0 h1 h2 h3 h4;have wl:=A9q wl;refine ⟨2000,19,?_⟩;obtain ⟨l,el⟩:∃l,Int.tmod lf 16=l:=⟨_,rfl⟩;have l0:0<=l:=by rw [←el];exact Int.tmod_nonneg _ wl.1
 have l1:l<16:=by rw [←el];exact Int.tmod_lt_of_pos _ (by omega)
 have w1:IntKind.wrap .i64 l=l:=Ap (by omega) (by omega)
 obtain ⟨t,t0,t1,tm⟩:=Az0 nw 1000 (by omega) (by omega)
 obtain ⟨sd,r,a,M,mk⟩:=Awb (d:=2) n (h:=1) (fmt:=2) (leaf:=l) (by decide) (by decide) (by omega) l0 (by omega)
 have an:=Aik (d:=4);have al:En.length=2:=rfl;have L:=Af9;have tk:=Add;obtain ⟨W,eW⟩:∃W,Qo r.ad (D8 11 (Bv r.cd))=W:=⟨_,rfl⟩;have v1:=Ade (fu:=2000) (d:=6) (by omega) M.ok a W (ans:=En) (by rw [al];omega) (vs:=[]) (by simp) t
 have v2:=Ade (fu:=2000) (d:=6) (by omega) M.ok { a with model:=mo } W (ans:=En) (by rw [al];omega) (vs:=[]) (by simp) 5
 have v3:=Ade (fu:=2000) (d:=6) (by omega) M.ok { a with model:=mo } W (ans:=[]) (by simp) (vs:=[]) (by simp) 5
 have v4:=Ade (fu:=2000) (d:=6) (by omega) M.ok { a with model:=mo } W (ans:=[⟨Nv,k⟩]) (by simp) (vs:=[]) (by simp) 5
 have x1:=A4i M t0 (by omega)
 have aw:=Azz (d:=1);have ez:Kd []=[]:=rfl;have ea:Ic []=[]:=rfl;have eo:Ic [⟨Nv,k⟩]=[.sc (.string Nv),.sc (.int .i64 k.h),.sc (.int .u64 k.root)]:=rfl;have q1:(([]:List An).length)=0:=rfl;have q2:(([]:List Rv).length)=0:=rfl;have q3:([⟨Nv,k⟩]:List An).length=1:=rfl;have hc:r.certs=[H6]:=(M.f2 rfl).1;have lc:r.certs.length=1:=by rw [hc];rfl
 have gc:List.getD (Ag8 r.certs) 0 .top=.lst false 1 H6.length (Ah .u8 H6):=by rw [hc];rfl
 have dc:=A2l (fu:=2000) (d:=3) (by omega) Arr (by have:=Akk;omega)
 rw [Yk] at dc;have vr:=A3q (fu:=2000) (d:=10) (c:=cB) (by omega) A2u.wf A2u.s1 A2u.s2 k
 rw [eW] at mk x1;refine (Ls 2000 18 n lf mo k.h k.root nw).trans ?_;simp only [Rp.cells,Ad.cells,Ce.cells,Ky.cells,Vf,Av.vals,ez,ea,eo,al,q1,q2,q3,lc] at mk v1 v2 v3 v4 dc vr;have d0:decide ((0:Int)<((1:Nat):Int))=true:=rfl;have e380:((38:Int)==0)=false:=rfl;have e383:((38:Int)==38)=true:=rfl;have e00:((0:Int)==0)=true:=rfl;have e038:((0:Int)==38)=false:=rfl;have e11:((1:Int)==1)=true:=rfl;have n11:((1:Int) != 1)=false:=rfl;have b1:((!true)==true)=false:=rfl;have b2:((!false)==false)=false:=rfl;have b3:(true==true)=true:=rfl;have b4:(false==false)=true:=rfl;have L3:=Al .u8 H6;have t3:=Gs .u8 H6;by_cases hm:mo=3
 ·subst hm;have y2:=Awn M;have y3:=A5b M;have y4:=A35 M k;rw [eW] at y2 y3 y4;rw [M.same_model] at v2 v3 v4;rw [y2] at v2;rw [y3] at v3;rw [y4] at v4;rw [x1] at v1;rw [M.model] at mk v1;have n33:((3:Int) != 3)=false:=rfl;clear x1 y2 y3 y4 M hc;generalize H6=CB at *
  generalize cB=C at *
  generalize Ic En=E at *
  by_cases ht:t<=900
  ·have pt:decide (t<=900)=true:=decide_eq_true ht;rw [Bm ht] at v1;by_cases hv:Ok C k=0
   ·have pv:(Ok C k==0)=true:=by simp [hv]
    rw [Bm hv] at v4
    try unfold Aa
    repeat first
     |((with_reducible first|apply At|apply Aj|apply As|apply Ax|apply Az|apply A5|apply Cm|apply Bb|apply Ai);· first|with_reducible rfl|(simp (disch:=omega) only [el,w1,mk,tm,an,Cf,Bw,Bj,Nat.reduceMul,L,tk,v1,v2,v3,v4,lc,d0,gc,dc,vr,e380,e383,e00,e038,e11,n11,n33,pt,pv,L3,t3,aw,b1,b2,b3,b4]<;>with_reducible rfl))
     |((with_reducible first|apply Ar|apply Au);· first|with_reducible rfl|omega|(simp (disch:=omega) only [gT,el,w1,mk,tm,an,Cf,Bw,Bj,Nat.reduceMul,L,tk,v1,v2,v3,v4,lc,d0,gc,dc,vr,e380,e383,e00,e038,e11,n11,n33,pt,pv,L3,t3,aw,b1,b2,b3,b4]<;>omega))
     |(with_reducible apply Aw;· first|with_reducible rfl|(simp (disch:=omega) only [gF,el,w1,mk,tm,an,Cf,Bw,Bj,Nat.reduceMul,L,tk,v1,v2,v3,v4,lc,d0,gc,dc,vr,e380,e383,e00,e038,e11,n11,n33,pt,pv,L3,t3,aw,b1,b2,b3,b4]<;>omega))
    try simp (disch:=omega) only [el,w1,mk,tm,an,Cf,Bw,Bj,Nat.reduceMul,L,tk,v1,v2,v3,v4,lc,d0,gc,dc,vr,e380,e383,e00,e038,e11,n11,n33,pt,pv,L3,t3,aw,b1,b2,b3,b4]
    all_goals rfl
   ·have pv:(Ok C k==0)=false:=by simp [hv]
    rw [A0 hv] at v4
    try unfold Aa
    repeat first
     |((with_reducible first|apply At|apply Aj|apply As|apply Ax|apply Az|apply A5|apply Cm|apply Bb|apply Ai);· first|with_reducible rfl|(simp (disch:=omega) only [el,w1,mk,tm,an,Cf,Bw,Bj,Nat.reduceMul,L,tk,v1,v2,v3,v4,lc,d0,gc,dc,vr,e380,e383,e00,e038,e11,n11,n33,pt,pv,L3,t3,aw,b1,b2,b3,b4]<;>with_reducible rfl))
     |((with_reducible first|apply Ar|apply Au);· first|with_reducible rfl|omega|(simp (disch:=omega) only [gT,el,w1,mk,tm,an,Cf,Bw,Bj,Nat.reduceMul,L,tk,v1,v2,v3,v4,lc,d0,gc,dc,vr,e380,e383,e00,e038,e11,n11,n33,pt,pv,L3,t3,aw,b1,b2,b3,b4]<;>omega))
     |(with_reducible apply Aw;· first|with_reducible rfl|(simp (disch:=omega) only [gF,el,w1,mk,tm,an,Cf,Bw,Bj,Nat.reduceMul,L,tk,v1,v2,v3,v4,lc,d0,gc,dc,vr,e380,e383,e00,e038,e11,n11,n33,pt,pv,L3,t3,aw,b1,b2,b3,b4]<;>omega))
    try simp (disch:=omega) only [el,w1,mk,tm,an,Cf,Bw,Bj,Nat.reduceMul,L,tk,v1,v2,v3,v4,lc,d0,gc,dc,vr,e380,e383,e00,e038,e11,n11,n33,pt,pv,L3,t3,aw,b1,b2,b3,b4]
    all_goals rfl
  ·have pt:decide (t<=900)=false:=decide_eq_false ht;rw [A0 ht] at v1;by_cases hv:Ok C k=0
   ·have pv:(Ok C k==0)=true:=by simp [hv]
    rw [Bm hv] at v4
    try unfold Aa
    repeat first
     |((with_reducible first|apply At|apply Aj|apply As|apply Ax|apply Az|apply A5|apply Cm|apply Bb|apply Ai);· first|with_reducible rfl|(simp (disch:=omega) only [el,w1,mk,tm,an,Cf,Bw,Bj,Nat.reduceMul,L,tk,v1,v2,v3,v4,lc,d0,gc,dc,vr,e380,e383,e00,e038,e11,n11,n33,pt,pv,L3,t3,aw,b1,b2,b3,b4]<;>with_reducible rfl))
     |((with_reducible first|apply Ar|apply Au);· first|with_reducible rfl|omega|(simp (disch:=omega) only [gT,el,w1,mk,tm,an,Cf,Bw,Bj,Nat.reduceMul,L,tk,v1,v2,v3,v4,lc,d0,gc,dc,vr,e380,e383,e00,e038,e11,n11,n33,pt,pv,L3,t3,aw,b1,b2,b3,b4]<;>omega))
     |(with_reducible apply Aw;· first|with_reducible rfl|(simp (disch:=omega) only [gF,el,w1,mk,tm,an,Cf,Bw,Bj,Nat.reduceMul,L,tk,v1,v2,v3,v4,lc,d0,gc,dc,vr,e380,e383,e00,e038,e11,n11,n33,pt,pv,L3,t3,aw,b1,b2,b3,b4]<;>omega))
    try simp (disch:=omega) only [el,w1,mk,tm,an,Cf,Bw,Bj,Nat.reduceMul,L,tk,v1,v2,v3,v4,lc,d0,gc,dc,vr,e380,e383,e00,e038,e11,n11,n33,pt,pv,L3,t3,aw,b1,b2,b3,b4]
    all_goals rfl
   ·have pv:(Ok C k==0)=false:=by simp [hv]
    rw [A0 hv] at v4
    try unfold Aa
    repeat first
     |((with_reducible first|apply At|apply Aj|apply As|apply Ax|apply Az|apply A5|apply Cm|apply Bb|apply Ai);· first|with_reducible rfl|(simp (disch:=omega) only [el,w1,mk,tm,an,Cf,Bw,Bj,Nat.reduceMul,L,tk,v1,v2,v3,v4,lc,d0,gc,dc,vr,e380,e383,e00,e038,e11,n11,n33,pt,pv,L3,t3,aw,b1,b2,b3,b4]<;>with_reducible rfl))
     |((with_reducible first|apply Ar|apply Au);· first|with_reducible rfl|omega|(simp (disch:=omega) only [gT,el,w1,mk,tm,an,Cf,Bw,Bj,Nat.reduceMul,L,tk,v1,v2,v3,v4,lc,d0,gc,dc,vr,e380,e383,e00,e038,e11,n11,n33,pt,pv,L3,t3,aw,b1,b2,b3,b4]<;>omega))
     |(with_reducible apply Aw;· first|with_reducible rfl|(simp (disch:=omega) only [gF,el,w1,mk,tm,an,Cf,Bw,Bj,Nat.reduceMul,L,tk,v1,v2,v3,v4,lc,d0,gc,dc,vr,e380,e383,e00,e038,e11,n11,n33,pt,pv,L3,t3,aw,b1,b2,b3,b4]<;>omega))
    try simp (disch:=omega) only [el,w1,mk,tm,an,Cf,Bw,Bj,Nat.reduceMul,L,tk,v1,v2,v3,v4,lc,d0,gc,dc,vr,e380,e383,e00,e038,e11,n11,n33,pt,pv,L3,t3,aw,b1,b2,b3,b4]
    all_goals rfl
 ·have y2:=Apb M hm W En [] 5;have y3:=Apb M hm W [] [] 5;have y4:=Apb M hm W [⟨Nv,k⟩] [] 5;rw [y2] at v2;rw [y3] at v3;rw [y4] at v4;rw [x1] at v1;have n33:(mo != 3)=true:=by simp [hm]
  clear x1 y2 y3 y4 M hc dc vr;generalize H6=CB at *
  generalize Ic En=E at *
  by_cases ht:t<=900
  ·have pt:decide (t<=900)=true:=decide_eq_true ht;rw [Bm ht] at v1
   try unfold Aa
   repeat first
    |((with_reducible first|apply At|apply Aj|apply As|apply Ax|apply Az|apply A5|apply Cm|apply Bb|apply Ai);· first|with_reducible rfl|(simp (disch:=omega) only [el,w1,mk,tm,an,Cf,Bw,Bj,Nat.reduceMul,L,tk,v1,v2,v3,v4,lc,e380,e383,e00,e038,e11,n11,n33,pt,aw,b1,b2,b3,b4]<;>with_reducible rfl))
    |((with_reducible first|apply Ar|apply Au);· first|with_reducible rfl|omega|(simp (disch:=omega) only [gT,el,w1,mk,tm,an,Cf,Bw,Bj,Nat.reduceMul,L,tk,v1,v2,v3,v4,lc,e380,e383,e00,e038,e11,n11,n33,pt,aw,b1,b2,b3,b4]<;>omega))
    |(with_reducible apply Aw;· first|with_reducible rfl|(simp (disch:=omega) only [gF,el,w1,mk,tm,an,Cf,Bw,Bj,Nat.reduceMul,L,tk,v1,v2,v3,v4,lc,e380,e383,e00,e038,e11,n11,n33,pt,aw,b1,b2,b3,b4]<;>omega))
   try simp (disch:=omega) only [el,w1,mk,tm,an,Cf,Bw,Bj,Nat.reduceMul,L,tk,v1,v2,v3,v4,lc,e380,e383,e00,e038,e11,n11,n33,pt,aw,b1,b2,b3,b4]
   all_goals rfl
  ·have pt:decide (t<=900)=false:=decide_eq_false ht;rw [A0 ht] at v1
   try unfold Aa
   repeat first
    |((with_reducible first|apply At|apply Aj|apply As|apply Ax|apply Az|apply A5|apply Cm|apply Bb|apply Ai);· first|with_reducible rfl|(simp (disch:=omega) only [el,w1,mk,tm,an,Cf,Bw,Bj,Nat.reduceMul,L,tk,v1,v2,v3,v4,lc,e380,e383,e00,e038,e11,n11,n33,pt,aw,b1,b2,b3,b4]<;>with_reducible rfl))
    |((with_reducible first|apply Ar|apply Au);· first|with_reducible rfl|omega|(simp (disch:=omega) only [gT,el,w1,mk,tm,an,Cf,Bw,Bj,Nat.reduceMul,L,tk,v1,v2,v3,v4,lc,e380,e383,e00,e038,e11,n11,n33,pt,aw,b1,b2,b3,b4]<;>omega))
    |(with_reducible apply Aw;· first|with_reducible rfl|(simp (disch:=omega) only [gF,el,w1,mk,tm,an,Cf,Bw,Bj,Nat.reduceMul,L,tk,v1,v2,v3,v4,lc,e380,e383,e00,e038,e11,n11,n33,pt,aw,b1,b2,b3,b4]<;>omega))
   try simp (disch:=omega) only [el,w1,mk,tm,an,Cf,Bw,Bj,Nat.reduceMul,L,tk,v1,v2,v3,v4,lc,e380,e383,e00,e038,e11,n11,n33,pt,aw,b1,b2,b3,b4]
   all_goals rfl
end
section
open Go.RowKit
theorem Anm {w w':World}{Y:Nat->Prop}{bt:Bt2}{args:List PV}{v:Value}(hb:Below w.heap.size w w')(ho:Adq w' (As2 bt (fun _=>none) Y) (fun _=>none) bt (Sz [.sc v]) 0 args []):
  Out w w' Y bt args (fun _=>none) ⟨[.sc v],[]⟩ [v] where
 os:=hb.os
 tape:=hb.tape
 output:=hb.output
 ext:=⟨hb.size,fun b h _=>hb.block b h,fun b h=>by unfold bsz;rw [hb.block b h];exact Nat.le_refl _⟩
 rng:=fun b j h _=>⟨by unfold World.cell?;simp only [hb.block b h],by unfold World.frozen?;simp only [hb.block b h]⟩
 vals:=⟨Bq.sc v,trivial⟩
 outs:=ho
 fresh:=fun j b o h=>by cases h
 inj:=fun j j' b o o' h=>by cases h
theorem Agy {P:Program}{w:World}{A:Nat->Prop}{bt:Bt}{z:Bool}{n:Nat}{c:List PV}{u:Value}{l:List UInt8}(h:Art w A bt (.lst z 1 n c) u) (hl:bytesOf c=some l)(hn:c.length=n):
  (Extern.Bytes.bytesOf u).run P w=.ok ⟨l.toArray⟩ w:=by
 obtain ⟨ns,rfl,rfl⟩:=Xl hl;have ht:Bq w A (.lst z 1 n (ns.map fun n=>.sc (.int .u8 n))) u:=h.2
 generalize hc:(ns.map fun n=>PV.sc (.int .u8 n))=c at ht
 cases ht with
 |lnil=>
  have:ns=[]:=by simpa using hc
  subst this;rfl
 |lemp=>
  have:ns=[]:=by simpa using hc
  subst this;rfl
 |lst _ _ _ a cap f hs hb hA hn' hcell h1 hr=>
  subst hc;rw [List.length_map] at hn;subst hn;show (Extern.Bytes.loadBytes a ns.length .empty).run P w=_;rw [Lib.run_loadBytesX w ns a .empty fun j x hj=>?_]
  ·simp [Lib.bytesOf,Nat.toUInt8]
  ·have e:(ns.map fun n=>PV.sc (.int .u8 n))[j]?=some (.sc (.int .u8 x)):=by rw [List.getElem?_map,hj];rfl
   rw [hcell j _ e,(hr j _ e).val]
set_option maxRecDepth 1000000 in
theorem Aoh (u1 u2:Value)(a b:List UInt8)(w:World)(h1:(Extern.Bytes.bytesOf u1).run Tryz.prog w=.ok ⟨a.toArray⟩ w) (h2:(Extern.Bytes.bytesOf u2).run Tryz.prog w=.ok ⟨b.toArray⟩ w):
  Calls Tryz.prog 143 #[u1,u2] w fun e w'=>e=.returned (.int .i64 (Lib.compareBytes a b))∧w'=w:=by
 have hr:(Extern.BytealgCompare.compare #[u1,u2]).run Tryz.prog w=.ok (.int .i64 (Lib.compareBytes a b)) w:=by
  change Sem.run Tryz.prog (do pure (goInt (Extern.BytealgCompare.cmp (←Extern.Bytes.bytesOf u1) (←Extern.Bytes.bytesOf u2)))) w=_
  simp only [Sem.run_bind,Sem.run_pure,Result.andThen,h1,h2];rw [Lib.cmp_eq];rfl
 go_enter Tryz.func143,Tryz.ntmps143
 go_wp2
 rw [run_callFunc_extern Tryz.func145 (by kernel_rfl) (by kernel_rfl) (by kernel_rfl) (e:=Extern.BytealgCompare.compare) (by kernel_rfl),hr]
 simp only [Result.andThen];rw [Oper.upon_value]
 go_wp2
 go_ret
 exact ⟨rfl,rfl⟩
theorem Alb (G:Glo)(args:List PV)(res:Ay)(h:X2 args=some res):G7 G Tryz.prog 143 args res:=by
 refine ⟨⟨_,Tryz.func143,by kernel_rfl⟩,fun w Y bt us hi _ _=>?_⟩
 unfold X2 at h;split at h
 rotate_left
 ·cases h
 rename_i z n c z' m c';cases hq:(Nat.beq c.length n&&Nat.beq c'.length m)
 ·rw [hq] at h;cases h
 rw [hq] at h;simp only [Bool.and_eq_true] at hq;have hn:=Nat.eq_of_beq_eq_true hq.1;have hm:=Nat.eq_of_beq_eq_true hq.2;simp only [cond_true] at h;split at h
 rotate_left
 ·cases h
 rename_i a b ha hb;cases h;have ps:=hi.args
 match us,ps with
 |[u1,u2],ps=>
  refine (Aoh u1 u2 a b w (Agy ps.1 ha hn) (Agy ps.2.1 hb hm)).mono ?_
  rintro e w' ⟨rfl,rfl⟩
  exact ⟨[.int .i64 (Lib.compareBytes a b)],fun _=>none,rfl,Anm (Below.refl _ _) rfl⟩
 |[],ps=>exact ps.elim
 |[_],ps=>exact ps.2.elim
 |_::_::_::_,ps=>exact ps.2.2.elim
end
section
set_option maxRecDepth 1000000
open Go.Shelf Go.RowKit Go.Lib
def Bam:Go.Shelf.Ren:=⟨fun|196=>67|259=>98|n=>n,fun|0=>0|3=>3|4=>4|5=>5|9=>9|12=>12|46=>54|53=>23|119=>155|138=>157|139=>158|n=>n,fun|3=>0|4=>1|n=>n⟩
theorem laysVS:Lays.n196 Tryz.prog Bam:={
 mixed:=by kernel_rfl
 f196:=Tryz.func67.trans (congrArg some (by kernel_rfl))
 f259:=Tryz.func98.trans (congrArg some (by kernel_rfl))
 t0:=Tryz.underlying0
 a0:=Tryz.isAgg0
 z0:=Tryz.sizeOf0
 v0:=Tryz.zeroValue0
 t3:=Tryz.underlying3
 a3:=Tryz.isAgg3
 z3:=Tryz.sizeOf3
 v3:=Tryz.zeroValue3
 t4:=Tryz.underlying4
 a4:=Tryz.isAgg4
 z4:=Tryz.sizeOf4
 v4:=Tryz.zeroValue4
 t5:=Tryz.underlying5
 a5:=Tryz.isAgg5
 z5:=Tryz.sizeOf5
 v5:=Tryz.zeroValue5
 t9:=Tryz.underlying9
 a9:=Tryz.isAgg9
 z9:=Tryz.sizeOf9
 v9:=Tryz.zeroValue9
 t12:=Tryz.underlying12
 a12:=Tryz.isAgg12
 z12:=Tryz.sizeOf12
 v12:=Tryz.zeroValue12
 t46:=Tryz.underlying54
 a46:=Tryz.isAgg54
 z46:=Tryz.sizeOf54
 v46:=Tryz.zeroValue54
 t53:=Tryz.underlying23
 a53:=Tryz.isAgg23
 z53:=Tryz.sizeOf23
 v53:=Tryz.zeroValue23
 t119:=Tryz.underlying155
 a119:=Tryz.isAgg155
 z119:=Tryz.sizeOf155
 t138:=Tryz.underlying157
 a138:=Tryz.isAgg157
 z138:=Tryz.sizeOf157
 v138:=Tryz.zeroValue157
 t139:=Tryz.underlying158
 a139:=Tryz.isAgg158
 z139:=Tryz.sizeOf158
 v139:=Tryz.zeroValue158
 g3:=by kernel_rfl
 g4:=by kernel_rfl }
def gU:Glo:=⟨fun b=>b=0∨b=1,fun w=>0<w.heap.size∧1<w.heap.size∧Lib.Utf8Tabs 0 1 w,fun w w' h ⟨s1,s2,h1,h2⟩=>by
 have e1:=h _ (.inl rfl) s1;have e2:=h _ (.inr rfl) s2
 have hs:∀b,b<w.heap.size->w'.heap[b]?=w.heap[b]?->b<w'.heap.size:=by
  intro b hb he;rw [Array.getElem?_eq_getElem hb] at he;rcases Nat.lt_or_ge b w'.heap.size with q|q
  ·exact q
  ·rw [Array.getElem?_eq_none q] at he;cases he
 refine ⟨hs _ s1 e1,hs _ s2 e2,fun c hc=>?_,fun i hi=>?_⟩
 ·have:=h1 c hc;unfold World.cell? at this ⊢;simp only [e1] at this ⊢;exact this
 ·obtain ⟨a,b⟩:=h2 i hi;unfold World.cell? at a b ⊢;simp only [e2] at a b ⊢;exact ⟨a,b⟩⟩
theorem Arw (args:List PV)(res:Ay)(h:Ajp args=some res):G7 gU Tryz.prog 67 args res:=by
 refine ⟨⟨_,Tryz.func67,by kernel_rfl⟩,fun w Y bt us hi hok _=>?_⟩
 unfold Ajp at h;split at h
 rotate_left
 ·cases h
 rename_i s;cases hq:decide (s.size<=9223372036854775807)
 ·rw [hq] at h;cases h
 rw [hq] at h;cases h;have hs:=of_decide_eq_true hq;have ps:=hi.args
 match us,ps with
 |[u],ps=>
  have hu:u=.string s:=by
   have:Bq w _ (.sc (.string s)) u:=ps.1.2;exact this.val
  subst hu;refine (Any.utf8_ValidString laysVS s w hs hok.2.2).mono ?_
  rintro e w' ⟨rfl,hb⟩
  exact ⟨[.bool (Lib.validD s.data.toList)],fun _=>none,rfl,Anm hb rfl⟩
 |[],ps=>exact ps.elim
 |_::_::_,ps=>exact ps.2.elim
theorem extU:A1z gU Tryz.prog C0:=by
 intro f g args res hx hg;have hx':A2f f=some g:=hx;unfold A2f at hx';cases h1:Nat.beq f 67
 rotate_left
 ·rw [h1,cond_true] at hx';cases hx';rw [Nat.eq_of_beq_eq_true h1];exact Arw args res hg
 rw [h1,cond_false] at hx';cases h2:Nat.beq f 143
 rotate_left
 ·rw [h2,cond_true] at hx';cases hx';rw [Nat.eq_of_beq_eq_true h2];exact Alb gU args res hg
 rw [h2,cond_false] at hx';cases h3:Nat.beq f 1000000
 ·rw [h3,cond_false] at hx';cases hx'
 ·rw [h3,cond_true] at hx';cases hx';cases hg
end
end Go.Proofs.YtgfgmbpmghgbkaaGreatDoor.Pv
