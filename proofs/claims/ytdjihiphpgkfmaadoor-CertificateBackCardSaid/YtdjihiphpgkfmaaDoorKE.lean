/-
  The proof of CertificateBack, part 5.
-/
import Derived.Test.YtdjihiphpgkfmaaDoorKD
import Derived.Test.YtdjihiphpgkfmaaDoorRows
import Derived.RangeFuncNested
import Derived.RangeFuncLeaves
import Derived.WalkKit
import Derived.LoopNIn
import Derived.OrdersIn
set_option linter.unusedSimpArgs false
set_option linter.unusedVariables false
namespace Go.Proofs.YtdjihiphpgkfmaaDoor.Pv
section
open Go.IntKind (wrap)
def KZ (l:List Fz)(cnt:Int):Bool:=decide (cnt>0)&&((l.length:Int)==0)
def Ic:Nat->List Fz->Int->List Int->Nat->List It->List It × Nat × Int
 |0,_,_,_,_,_=>([],0,2)
 |m+1,l,cnt,b,at_,its=>if KZ l cnt=true then (its,at_,0) else
  if (En l cnt b at_).e≠0 then ([],0,(En l cnt b at_).e) else Ic m (En l cnt b at_).l (En l cnt b at_).cnt b (En l cnt b at_).at_ (its++[(En l cnt b at_).x])
def XL (r:List It × Nat × Int):List PV:=[.own 3 r.1.length (Cb r.1),.sc (.int .i64 r.2.1),.sc (.int .i64 r.2.2)]
theorem Afv (l:List Fz):(AC l).length<=l.length:=by
 unfold AC;rw [List.length_reverse];have:=(List.dropWhile_sublist (l:=l.reverse) fun f=>f.left==0).length_le
 rw [List.length_reverse] at this;exact this
theorem LY (l:List Fz)(x:It):(Ep l x).length<=l.length+1:=by
 unfold Ep;refine Nat.le_trans (Afv _) ?_;have:=GK l;unfold KU
 repeat' split
 all_goals simp
 all_goals omega
theorem VK (l:List Fz)(k:List Int):(Hy l k).length=l.length:=by
 rcases J8 l with rfl|⟨l',f,rfl⟩
 ·rfl
 ·rw [Kp];simp
theorem SE (l:List Fz)(x:It):(De l x).2.length<=l.length+1:=by
 unfold De;have h1:=LY l x;have h2:=LY (Hy l (B6 x)) x;rw [VK] at h2
 repeat' split
 all_goals simp only
 all_goals omega
structure OkX (x:It):Prop where
 k1:1<=x.k
 k8:x.k<=8
 n0:0<=x.n
 n1:x.n<=18446744073709551615
 s1:x.s.size<=1024
theorem Aeb {l:List Fz}{cnt k:Int}(h:Hx l cnt k=0):cnt<512∧l.length<=8:=by
 unfold Hx at h
 repeat' split at h
 all_goals first
  |(cases h;done)
  |omega
theorem GT {l:List Fz}{cnt:Int}{x:It}{at_:Nat}(hx:OkX x)(h:(R4 l cnt x at_).e=0):(R4 l cnt x at_).cnt=cnt+1∧(R4 l cnt x at_).l.length<=l.length+1∧(R4 l cnt x at_).at_=at_∧OkX (R4 l cnt x at_).x:=by
 have:=SE l x;unfold R4 at h ⊢;by_cases hz:(De l x).1=0
 ·rw [Cc hz];exact ⟨rfl,this,rfl,hx⟩
 ·rw [A9 hz] at h;exact absurd h hz
theorem MY {l:List Fz}{cnt:Int}{b:List Int}{at_:Nat}(hb:Ik b)(ha:at_<=b.length)(h:(En l cnt b at_).e=0):
  cnt<512∧(En l cnt b at_).cnt=cnt+1∧(En l cnt b at_).l.length<=9∧at_<(En l cnt b at_).at_∧(En l cnt b at_).at_<=b.length∧OkX (En l cnt b at_).x:=by
 have hk:=LW hb ha;unfold En at h ⊢;generalize Fe b at_=q at h hk ⊢;obtain ⟨k,n,e,a⟩:=q;obtain ⟨ka,hk⟩:=hk;unfold NP at h ⊢;simp only at h hk ka ⊢;by_cases he:e=0
 rotate_left
 ·rw [Cc he] at h;exact absurd h he
 subst he;obtain ⟨k1,k8,n0,n1,hlt⟩:=hk rfl;rw [A9 (by simp)] at h ⊢
 by_cases hm:Hx l cnt k=0
 rotate_left
 ·rw [Cc hm] at h;exact absurd h hm
 obtain ⟨c1,c2⟩:=Aeb hm;rw [A9 (by simp [hm])] at h ⊢
 have z:(ByteArray.mk #[]).size<=1024:=Nat.zero_le _;by_cases h56:k=5∨k=6
 ·rw [Cc h56] at h ⊢;by_cases hn:n>512
  ·rw [Cc hn] at h;exact absurd h (by simp)
  ·rw [A9 hn] at h ⊢;obtain ⟨p1,p2,p3,p4⟩:=GT ⟨k1,k8,n0,n1,z⟩ h;exact ⟨c1,p1,by omega,by omega,by omega,p4⟩
 ·rw [A9 h56] at h ⊢;by_cases h34:k=3∨k=4
  ·rw [Cc h34] at h ⊢;by_cases hn:n>1024
   ·rw [Cc hn] at h;exact absurd h (by simp)
   ·rw [A9 hn] at h ⊢;by_cases hr:b.length-a<n.toNat
    ·rw [Cc hr] at h;exact absurd h (by simp)
    ·rw [A9 hr] at h ⊢;obtain ⟨p1,p2,p3,p4⟩:=GT ⟨k1,k8,by simp,by simp,by rw [Hf,List.length_take];omega⟩ h
     exact ⟨c1,p1,by omega,by omega,by omega,p4⟩
  ·rw [A9 h34] at h ⊢;obtain ⟨p1,p2,p3,p4⟩:=GT ⟨k1,k8,n0,n1,z⟩ h;exact ⟨c1,p1,by omega,by omega,by omega,p4⟩
theorem Xd {b:List Int}(hb:Ik b):∀(m:Nat)(l:List Fz)(cnt:Int)(at_:Nat)(its:List It),at_<=b.length->(∀x∈its,OkX x)->(Ic m l cnt b at_ its).2.1<=b.length∧∀x∈(Ic m l cnt b at_ its).1,OkX x
 |0,l,cnt,at_,its,h,hi=>⟨by simp [Ic],by intro x hx;simp [Ic] at hx⟩
 |m+1,l,cnt,at_,its,h,hi=>by
  unfold Ic;by_cases hd:KZ l cnt=true
  ·rw [Cc hd];exact ⟨h,hi⟩
  ·rw [A9 hd];by_cases he:(En l cnt b at_).e=0
   ·rw [A9 (by simp [he])]
    obtain ⟨_,_,_,_,p,q⟩:=MY hb h he;refine Xd hb m _ _ _ _ p ?_;intro x hx;rcases List.mem_append.1 hx with hx|hx
    ·exact hi x hx
    ·simp at hx;subst hx;exact q
   ·rw [Cc he];exact ⟨by simp,by intro x hx;simp at hx⟩
section
variable {fu d:Nat}
theorem RD (hfu:1000<=fu){a0n:Nat}{a0:List PV}{b:List Int}(hb:Ik b)(hl:b.length<=1000000):∀(nn:Nat)(l:List Fz)(cnt:Int)(at_:Nat)(its:List It),0<=cnt->cnt<=512->512-cnt<nn->l.length<=9->at_<=b.length->its.length=cnt.toNat ->
  Iz fu (Ae C0 Tryd.prog fu (d+4)) a0n a0 nn its.length (Cb its) l.length cnt b.length (Ag .u8 b) (at_:Int) (D7 l)=some ⟨XL (Ic nn l cnt b at_ its),[]⟩
 |0,_,_,_,_,_,_,h,_,_,_=>by omega
 |nn+1,l,cnt,at_,its,h0,h1,hn,hf,ha,hi=>by
  have dn:=PY (fu:=fu) (d:=d+3) l cnt;have ri:=Af5 (fu:=fu) (d:=d) (l:=l) (cnt:=cnt) (b:=b) (at_:=at_) hfu hb hl ha (by omega) h0 (by omega)
  have ok:=MY (l:=l) (cnt:=cnt) hb ha;have L:=Cl l;have t:=Cx l;have LT:=P5 its;have tT:List.take (its.length*3) (Cb its)=Cb its:=Wz (by omega)
  have ih:=RD hfu (a0n:=a0n) (a0:=a0) hb hl nn;rw [Zx];unfold Ic;unfold I8 at dn;change _=some (Aw.mk [.sc (.bool (KZ l cnt))] _) at dn;generalize En l cnt b at_=r at ri ok ⊢;obtain ⟨x,e,l2,cnt2,at2⟩:=r;simp only at ri ok ⊢;cases hd:KZ l cnt
  ·rw [hd] at dn;rw [A9 (by simp)]
   by_cases he:e=0
   ·subst he;obtain ⟨p1,rfl,p3,p4,p5,p6⟩:=ok rfl;have q:=ih l2 (cnt+1) at2 (its++[x]) (by omega) (by omega) (by omega) p3 p5 (by simp;omega)
    rw [A9 (by simp),←q,QE,Ns]
    have e1:Cb [x]=x.cells:=by simp [Cb]
    rw [e1];obtain ⟨xk,xn,xs⟩:=x;unfold It.cells at ri ⊢;have e00:((0:Int) != 0)=false:=rfl
    try unfold Aa
    repeat first
     |((with_reducible first|apply Ay|apply Ar|apply A4|apply A6|apply Bb|apply Bl|apply Cg|apply C5|apply As);· first|with_reducible rfl|(simp (disch:=omega) only [dn,ri,e00,L,t,LT,tT]<;>with_reducible rfl))
     |((with_reducible first|apply A0|apply A3);· first|with_reducible rfl|omega|(simp (disch:=omega) only [gT,dn,ri,e00,L,t,LT,tT]<;>omega))
     |(with_reducible apply Az;· first|with_reducible rfl|(simp (disch:=omega) only [gF,dn,ri,e00,L,t,LT,tT]<;>omega))
    try simp (disch:=omega) only [dn,ri,e00,L,t,LT,tT]
    all_goals rfl
   ·have he':(e != 0)=true:=by simp [he]
    rw [Cc he];obtain ⟨xk,xn,xs⟩:=x;unfold It.cells at ri
    try unfold Aa
    repeat first
     |((with_reducible first|apply Ay|apply Ar|apply A4|apply A6|apply Bb|apply Bl|apply Cg|apply C5|apply As);· first|with_reducible rfl|(simp (disch:=omega) only [dn,ri,he',L,t,LT,tT]<;>with_reducible rfl))
     |((with_reducible first|apply A0|apply A3);· first|with_reducible rfl|omega|(simp (disch:=omega) only [gT,dn,ri,he',L,t,LT,tT]<;>omega))
     |(with_reducible apply Az;· first|with_reducible rfl|(simp (disch:=omega) only [gF,dn,ri,he',L,t,LT,tT]<;>omega))
    try simp (disch:=omega) only [dn,ri,he',L,t,LT,tT]
    all_goals rfl
  ·rw [hd] at dn;rw [Cc rfl]
   try unfold Aa
   repeat first
    |((with_reducible first|apply Ay|apply Ar|apply A4|apply A6|apply Bb|apply Bl|apply Cg|apply C5|apply As);· first|with_reducible rfl|(simp (disch:=omega) only [dn,L,t,LT,tT]<;>with_reducible rfl))
    |((with_reducible first|apply A0|apply A3);· first|with_reducible rfl|omega|(simp (disch:=omega) only [gT,dn,L,t,LT,tT]<;>omega))
    |(with_reducible apply Az;· first|with_reducible rfl|(simp (disch:=omega) only [gF,dn,L,t,LT,tT]<;>omega))
   try simp (disch:=omega) only [dn,L,t,LT,tT]
   all_goals rfl
theorem Ab7 (hfu:1000<=fu){b:List Int}(hb:Ik b)(hl:b.length<=1000000):
  Ae C0 Tryd.prog fu (d+5) Vl [.lst false 1 b.length (Ag .u8 b)]=some ⟨XL (Ic fu [] 0 b 0 []),[]⟩:=by
 rw [JQ];exact RD hfu hb hl fu [] 0 0 [] (by omega) (by omega) (by omega) (by simp) (by omega) (by simp)
end
end
section
open Go.IntKind (wrap)
theorem Ahq {n:Int}(h0:0<=n):(n<256->FC (tb n 1)=n)∧(n<65536->FC (tb n 2)=n)∧(n<4294967296->FC (tb n 4)=n)∧(n<=18446744073709551615->FC (tb n 8)=n):=by
 have st:∀(k:Nat) (D:Int),n<=18446744073709551615->k<8->(2:Int) ^ (56-8*k)=D->0<D->El (n / D / 256) (Cq n k)=n / D:=by
  intro k D h1 hk hD hp;rw [KL k hk,hD];exact Air (Int.ediv_nonneg h0 (Int.le_of_lt hp)) (Int.le_trans (Int.ediv_le_self _ h0) h1)
 refine ⟨fun h=>?_,fun h=>?_,fun h=>?_,fun h=>MC h0 h⟩
 ·have s7:=st 7 1 (by omega) (by omega) (by decide) (by omega)
  rw [show n / 1 / 256=0 by omega,show n / 1=n by omega] at s7
  exact s7
 ·have s6:=st 6 256 (by omega) (by omega) (by decide) (by omega)
  have s7:=st 7 1 (by omega) (by omega) (by decide) (by omega)
  rw [show n / 256 / 256=0 by omega] at s6
  rw [show n / 1 / 256=n / 256 by omega,show n / 1=n by omega] at s7
  show El (El 0 (Cq n 6)) (Cq n 7)=n;rw [s6,s7]
 ·have s4:=st 4 16777216 (by omega) (by omega) (by decide) (by omega)
  have s5:=st 5 65536 (by omega) (by omega) (by decide) (by omega)
  have s6:=st 6 256 (by omega) (by omega) (by decide) (by omega)
  have s7:=st 7 1 (by omega) (by omega) (by decide) (by omega)
  rw [show n / 16777216 / 256=0 by omega] at s4
  rw [show n / 65536 / 256=n / 16777216 by omega] at s5
  rw [show n / 256 / 256=n / 65536 by omega] at s6
  rw [show n / 1 / 256=n / 256 by omega,show n / 1=n by omega] at s7
  show El (El (El (El 0 (Cq n 4)) (Cq n 5)) (Cq n 6)) (Cq n 7)=n;rw [s4,s5,s6,s7]
theorem Tw {b:List Int}{at_:Nat}{mj n low:Int}{k:Nat}{rest:List Int}(m0:0<=mj)(m5:mj<=5)(l0:24<=low)(l1:low<=27)(hk:szE low=k)(h:b.drop (at_+1)=tb n k++rest) (hd:FC (tb n k)=n) (hs:¬(Nq n<(k:Int))):
  Ry b at_ (32*mj+low)=⟨1+mj,n,0,at_+1+k⟩:=by
 have e1:(32*mj+low) / 32=mj:=by omega
 have e2:(32*mj+low) % 32=low:=by omega
 have e3:(b.drop (at_+1)).take k=tb n k:=by rw [h,List.take_left' (Wh n k)]
 have e4:k<=b.length-(at_+1):=by
  have:=congrArg List.length h;rw [List.length_drop,Ns,Wh] at this;omega
 unfold Ry;rw [e1,e2,hk,e3,hd,A9 (by omega),A9 (by omega),A9 (by omega),A9 (by omega),A9 (by omega),A9 (by omega),A9 (by omega),A9 hs]
theorem Vz {b:List Int}{at_:Nat}{mj n:Int}{rest:List Int}(h:b.drop at_=Cw mj n++rest)(m0:0<=mj)(m5:mj<=5)(n0:0<=n)(n1:n<=18446744073709551615):
  Fe b at_=⟨1+mj,n,0,at_+(Cw mj n).length⟩:=by
 obtain ⟨d1,d2,d4,d8⟩:=Ahq n0;unfold Fe;unfold Cw at h ⊢;by_cases c1:n<24
 ·rw [Cc c1] at h ⊢;obtain ⟨_,g,_⟩:=Co h;rw [g];show Ry b at_ (32*mj+n)=_;unfold Ry;have e1:(32*mj+n) / 32=mj:=by omega
  have e2:(32*mj+n) % 32=n:=by omega
  rw [e1,e2,A9 (by omega),A9 (by omega),A9 (by omega),A9 (by omega),A9 (by omega),Cc c1]
  rfl
 rw [A9 c1] at h ⊢;by_cases c2:n<256
 ·rw [Cc c2] at h ⊢;obtain ⟨_,g,g2⟩:=Co h;rw [g];have:=Tw (at_:=at_) m0 m5 (low:=24) (by omega) (by omega) (k:=1) (by decide) g2 (d1 c2) (by unfold Nq;rw [A9 c1,Cc c2];omega)
  show Ry b at_ (32*mj+24)=_;rw [this,Le,Wh]
 rw [A9 c2] at h ⊢;by_cases c3:n<65536
 ·rw [Cc c3] at h ⊢;obtain ⟨_,g,g2⟩:=Co h;rw [g];have:=Tw (at_:=at_) m0 m5 (low:=25) (by omega) (by omega) (k:=2) (by decide) g2 (d2 c3) (by unfold Nq;rw [A9 c1,A9 c2,Cc c3];omega)
  show Ry b at_ (32*mj+25)=_;rw [this,Le,Wh]
 rw [A9 c3] at h ⊢;by_cases c4:n<4294967296
 ·rw [Cc c4] at h ⊢;obtain ⟨_,g,g2⟩:=Co h;rw [g];have:=Tw (at_:=at_) m0 m5 (low:=26) (by omega) (by omega) (k:=4) (by decide) g2 (d4 c4) (by unfold Nq;rw [A9 c1,A9 c2,A9 c3,Cc c4];omega)
  show Ry b at_ (32*mj+26)=_;rw [this,Le,Wh]
 ·rw [A9 c4] at h ⊢;obtain ⟨_,g,g2⟩:=Co h;rw [g];have:=Tw (at_:=at_) m0 m5 (low:=27) (by omega) (by omega) (k:=8) (by decide) g2 (d8 n1) (by unfold Nq;rw [A9 c1,A9 c2,A9 c3,A9 c4];omega)
  show Ry b at_ (32*mj+27)=_;rw [this,Le,Wh]
theorem OV {s:ByteArray}(h:PP s=true):s=⟨#[]⟩:=by
 unfold PP at h;have:=eq_of_beq h;apply ByteArray.ext;exact Array.toList_inj.1 this
def nOf (x:It):Int:=if x.k=3∨x.k=4 then (x.s.size:Int) else x.n
theorem XG {x:It}{b:List Int}{at_:Nat}{rest:List Int}(hsh:Fm x=true)(k1:1<=x.k)(k8:x.k<=8)(n0:0<=x.n)(n1:x.n<=18446744073709551615)(hs:x.s.size<=1024)(h:b.drop at_=B6 x++rest):
  Fe b at_=⟨x.k,nOf x,0,at_+((B6 x).length-x.s.size)⟩∧(x.k=3∨x.k=4->x.n=0∧b.drop (at_+((B6 x).length-x.s.size))=Ih x.s++rest)∧(¬(x.k=3∨x.k=4)->x.s=⟨#[]⟩)∧x.s.size<=(B6 x).length:=by
 obtain ⟨k,n,s⟩:=x;have z:(ByteArray.mk #[]).size=0:=rfl;simp only at k1 k8 n0 n1 hs ⊢;unfold Fm at hsh;simp only at hsh;have L:=M3 s;have E7:k=7->B6 ⟨k,n,s⟩=[wrap .u8 (244+wrap .u8 n)]:=fun e=>by unfold B6;rw [Cc e]
 have E8:k=8->B6 ⟨k,n,s⟩=[246]:=fun e=>by subst e;rfl
 have E3:k=3->B6 ⟨k,n,s⟩=Cw 2 s.size++Ih s:=fun e=>by subst e;rfl
 have E4:k=4->B6 ⟨k,n,s⟩=Cw 3 s.size++Ih s:=fun e=>by subst e;rfl
 have E0:k≠7->k≠8->k≠3->k≠4->B6 ⟨k,n,s⟩=Cw (k-1) n:=fun a b c d=>by unfold B6;rw [A9 a,A9 b,A9 c,A9 d]
 have N34:k=3∨k=4->nOf ⟨k,n,s⟩=s.size:=fun e=>by unfold nOf;rw [Cc e]
 have N0:¬(k=3∨k=4)->nOf ⟨k,n,s⟩=n:=fun e=>by unfold nOf;rw [A9 e]
 by_cases c7:k=7
 ·subst c7;simp at hsh;obtain ⟨hn,hs⟩:=hsh;obtain rfl:=OV hs;rw [E7 rfl] at h ⊢;rw [N0 (by omega)]
  obtain ⟨_,g,_⟩:=Co h;refine ⟨?_,fun h=>by omega,fun _=>rfl,Nat.zero_le _⟩
  have:n=0∨n=1:=by omega
  unfold Fe;rw [g];rcases this with rfl|rfl
  ·rfl
  ·rfl
 by_cases c8:k=8
 ·subst c8;simp at hsh;obtain ⟨rfl,hs⟩:=hsh;obtain rfl:=OV hs;rw [E8 rfl] at h ⊢;rw [N0 (by omega)]
  obtain ⟨_,g,_⟩:=Co h;refine ⟨?_,fun h=>by omega,fun _=>rfl,Nat.zero_le _⟩
  unfold Fe;rw [g];rfl
 by_cases c3:k=3
 ·subst c3;simp at hsh;subst hsh;rw [E3 rfl] at h ⊢;rw [N34 (by omega)]
  rw [YW] at h;have q:=Vz h (by omega) (by omega) (by omega) (by omega)
  have e:(Cw 2 (s.size:Int)++Ih s).length-s.size=(Cw 2 (s.size:Int)).length:=by rw [Ns,L];omega
  rw [e];refine ⟨q,fun _=>⟨rfl,?_⟩,fun h=>by omega,by rw [Ns,L];omega⟩
  rw [←List.drop_drop,h,List.drop_left' rfl]
 by_cases c4:k=4
 ·subst c4;simp at hsh;subst hsh;rw [E4 rfl] at h ⊢;rw [N34 (by omega)]
  rw [YW] at h;have q:=Vz h (by omega) (by omega) (by omega) (by omega)
  have e:(Cw 3 (s.size:Int)++Ih s).length-s.size=(Cw 3 (s.size:Int)).length:=by rw [Ns,L];omega
  rw [e];refine ⟨q,fun _=>⟨rfl,?_⟩,fun h=>by omega,by rw [Ns,L];omega⟩
  rw [←List.drop_drop,h,List.drop_left' rfl]
 rw [A9 c3,A9 c4,A9 c8,A9 c7] at hsh;obtain rfl:=OV hsh;rw [E0 c7 c8 c3 c4] at h ⊢;rw [N0 (by omega)]
 have q:=Vz h (by omega) (by omega) n0 n1
 refine ⟨?_,fun h=>by omega,fun _=>rfl,by rw [z];omega⟩
 rw [q,z,Nat.sub_zero]
 congr 1
 omega
theorem UY {l:List Fz}{cnt:Int}{x:It}{b:List Int}{at_:Nat}{rest:List Int}(g:Ais l cnt x)(n0:0<=x.n)(n1:x.n<=18446744073709551615)(h:b.drop at_=B6 x++rest):
  En l cnt b at_=⟨x,0,Ep l x,cnt+1,at_+(B6 x).length⟩:=by
 have k18:1<=x.k∧x.k<=8:=by
  have hm:=g.hm;unfold Hx at hm
  repeat' split at hm
  all_goals first
   |(cases hm;done)
   |omega
 obtain ⟨q1,q2,q3,q4⟩:=XG g.hsh k18.1 k18.2 n0 n1 g.hs h
 have ac:∀a:Nat,R4 l cnt x a=⟨x,0,Ep l x,cnt+1,a⟩:=by
  intro a
  have:De l x=(0,Ep l x):=by
   unfold De;rw [A9,A9 (by simp [g.ha])]
   intro hh;have:=g.hv hh.1;exact absurd hh.2 (by simp [VC,this])
  unfold R4;rw [this];rfl
 have ln:b.length-(at_+((B6 x).length-x.s.size))>=x.s.size:=by
  have:=congrArg List.length h;rw [List.length_drop,Ns] at this;omega
 unfold En;rw [q1];unfold NP;simp only;rw [A9 (by simp),g.hm,A9 (by simp)]
 have hs:=g.hs;have hn:=g.hn;obtain ⟨k,n,s⟩:=x;simp only at *
 by_cases c34:k=3∨k=4
 ·obtain ⟨rfl,q2⟩:=q2 c34;have N:nOf ⟨k,0,s⟩=s.size:=by unfold nOf;rw [Cc c34]
  rw [N,A9 (by omega),Cc c34,A9 (by omega),Hw,A9 (by omega),q2,List.take_left' (M3 s),OI,ac]
  congr 1
  omega
 ·obtain rfl:=q3 c34;have z:(ByteArray.mk #[]).size=0:=rfl;have N:nOf ⟨k,n,⟨#[]⟩⟩=n:=by unfold nOf;rw [A9 c34]
  rw [N,A9 c34,z,Nat.sub_zero];by_cases c56:k=5∨k=6
  ·rw [Cc c56,A9 (by omega),ac]
  ·rw [A9 c56,ac]
theorem MK {b:List Int}{rest:List Int}:∀(its:List It)(l:List Fz)(cnt:Int)(at_ m:Nat)(acc:List It),Mw l cnt its->(∀x∈its,0<=x.n∧x.n<=18446744073709551615)->b.drop at_=Br its++rest->its.length<m ->
  Ic m l cnt b at_ acc=(acc++its,at_+(Br its).length,0)
 |[],l,cnt,at_,m,acc,hg,hn,h,hm=>by
  obtain ⟨rfl,hc⟩:=hg;obtain ⟨m,rfl⟩:∃k,m=k+1:=⟨m-1,by omega⟩
  unfold Ic;rw [Cc (by simp [KZ,hc])]
  simp [Br]
 |x::its,l,cnt,at_,m,acc,hg,hn,h,hm=>by
  obtain ⟨g,hg⟩:=hg;obtain ⟨m,rfl⟩:∃k,m=k+1:=⟨m-1,by simp at hm;omega⟩
  have e:Br (x::its)=B6 x++Br its:=by simp [Br]
  rw [e,YW] at h;have r:=UY g (hn x (by simp)).1 (hn x (by simp)).2 h
  have h':b.drop (at_+(B6 x).length)=Br its++rest:=by rw [←List.drop_drop,h,List.drop_left' rfl]
  have ih:=MK its (Ep l x) (cnt+1) (at_+(B6 x).length) m (acc++[x]) hg (fun y hy=>hn y (List.mem_cons_of_mem _ hy)) h' (by simp at hm;omega)
  unfold Ic;have hd:KZ l cnt=false:=g.hd;rw [A9 (by simp [hd]),r]
  simp only;rw [A9 (by simp),ih,e]
  simp;omega
end
section
open Go.IntKind (wrap)
abbrev ZC (x:Int):Prop:=0<=x∧x<=18446744073709551615
abbrev isW (l:List Int):Prop:=∀x∈l,ZC x
theorem QC (l:List Int)(i:Nat):ZC (Pi l i):=Ti _ 0 (by omega) (by omega)
theorem RV (l:List Int):isW (Et l):=by
 intro x hx;obtain ⟨k,_,rfl⟩:=List.mem_map.1 hx;exact QC l k
theorem Q5:∀{ws:List Int}{i:Nat}{w:Int},isW ws->ws[i]?=some w->Pi (Au ws) i=w
 |[],i,w,_,h=>by simp at h
 |a::ws,0,w,hw,h=>by
  simp at h;subst h;have e:Au (a::ws)=F0 a++Au ws:=rfl;unfold Pi;rw [Nat.mul_zero,Ew,e,List.take_left' (Gb a)];have:=hw a (by simp)
  exact MC this.1 this.2
 |a::ws,i+1,w,hw,h=>by
  simp at h;have ih:=Q5 (ws:=ws) (fun x hx=>hw x (List.mem_cons_of_mem _ hx)) h
  have e:Au (a::ws)=F0 a++Au ws:=rfl;unfold Pi at ih ⊢;rw [show 8*(i+1)=(F0 a).length+8*i by rw [Gb];omega,e,←List.drop_drop,List.drop_left' rfl]
  exact ih
theorem Yv {ws:List Int}(hw:isW ws):Et (Au ws)=ws:=by
 have hl:(Au ws).length / 8=ws.length:=by rw [Cy];omega
 apply List.ext_getElem?;intro i;unfold Et;rw [hl];by_cases h:i<ws.length
 ·rw [List.getElem?_map,List.getElem?_range h,List.getElem?_eq_getElem h];simp only [Option.map_some];rw [Q5 hw (List.getElem?_eq_getElem h)]
 ·rw [List.getElem?_eq_none (by simp;omega),List.getElem?_eq_none (by omega)]
theorem Ab3 {k:Ky}(hh:C4 k.h=false)(hr:ZC k.root):FR (Ma k)=some k:=by
 obtain ⟨h,r⟩:=k;have hb:=Fn hh;simp only at hb hr hh;have w:wrap .u8 h=h:=Hu (by omega) (by omega)
 have w1:Au [r]=F0 r:=by simp [Au]
 have:=Q5 (ws:=[r]) (i:=0) (w:=r) (by intro x hx;simp at hx;subst hx;exact hr) rfl
 rw [w1] at this;unfold FR Ma;simp only [w,List.getD_cons_zero,List.drop_succ_cons,Ew,this,Le,Gb,hh,and_self,if_true]
theorem Akv {k:Ky}:Ik (Ma k):=by
 intro x hx;rcases List.mem_cons.1 hx with rfl|hx
 ·have:∀v:Int,0<=wrap .u8 v∧wrap .u8 v<=255:=by
   intro v;simp only [wrap,IntKind.signed,IntKind.bits];simp;omega
  exact this _
 ·exact XZ _ x hx
theorem NY {l:List Int}{k:Ky}(h:FR l=some k):C4 k.h=false∧ZC k.root:=by
 unfold FR at h;split at h
 ·rename_i hh;cases h;exact ⟨hh.2,QC _ _⟩
 ·cases h
structure Sg.ok (s:Sg):Prop where
 ch:isW s.chains
 pa:isW s.path
theorem Al1 (s:Sg):Ik (BB s):=by
 have w8:∀v:Int,0<=wrap .u8 v∧wrap .u8 v<=255:=by
  intro v;simp only [wrap,IntKind.signed,IntKind.bits];simp;omega
 intro x hx;unfold BB at hx;rcases List.mem_cons.1 hx with rfl|hx
 ·exact w8 _
 rcases List.mem_cons.1 hx with rfl|hx
 ·exact w8 _
 rcases List.mem_append.1 hx with hx|hx
 ·exact Qu _ x hx
 ·exact Qu _ x hx
theorem Ahm {s:Sg}(hs:s.ok)(h1:C4 s.path.length=false)(h2:Nn s.leaf s.path.length=false)(h3:s.chains.length=18):sgD (BB s)=some s:=by
 obtain ⟨leaf,ch,pa⟩:=s;obtain ⟨hc,hp⟩:=hs;simp only at h1 h2 h3 hc hp;have hb:=Fn h1;have ho:=Aek hb.1 hb.2 h2;have h16:=Alx hb.1 hb.2;have w1:wrap .u8 leaf=leaf:=Hu (by omega) (by omega)
 have w2:wrap .u8 (pa.length:Int)=pa.length:=Hu (by omega) (by omega)
 have lc:(Au ch).length=144:=by rw [Cy];omega
 have lp:(Au pa).length=8*pa.length:=Cy pa
 have len:(BB ⟨leaf,ch,pa⟩).length=2+144+8*pa.length:=by
  unfold BB;simp only [Le,Ns,lc,lp];omega
 have g0:(BB ⟨leaf,ch,pa⟩).getD 0 0=leaf:=w1;have g1:(BB ⟨leaf,ch,pa⟩).getD 1 0=pa.length:=w2;have d2:(BB ⟨leaf,ch,pa⟩).drop 2=Au ch++Au pa:=rfl
 have d146:(BB ⟨leaf,ch,pa⟩).drop 146=Au pa:=by
  rw [show 146=2+144 from rfl,←List.drop_drop,d2,List.drop_left' lc]
 unfold sgD;rw [Cc ⟨by omega,by rw [g1];exact h1,by rw [g0,g1];exact h2,by rw [g1,len];omega⟩,g0,d2,d146,List.take_left' lc,Yv hc,Yv hp]
theorem XK {l:List Int}{s:Sg}(h:sgD l=some s):s.ok∧s.path.length<=4∧s.chains.length=18:=by
 unfold sgD at h;split at h
 ·rename_i hh;cases h;have hb:=Fn hh.2.1;refine ⟨⟨RV _,RV _⟩,?_,?_⟩
  ·simp only [M6,List.length_drop];omega
  ·simp only [M6,List.length_take,List.length_drop];omega
 ·cases h
end
section
open Go.IntKind (wrap)
set_option maxRecDepth 100000
abbrev Mx:FuncId:=18
noncomputable def Eh (fu:Nat)(call:Ah)(a0_0 a0_1:ByteArray)(a0_2 a0_3:Int)(a0_4 a0_5 a0_6:Int)(a0_7:Bool)(a0_8 a0_9 a0_10:Int)(a0_11n:Nat)(a0_11:List PV)(a0_12n:Nat)(a0_12:List PV)(nn:Nat)(y0 y1:ByteArray)(y2:Int)(y3 y4:ByteArray)(y5 y6:Int)(y7 y8 y9:Int)(y10:Bool)(M2 Qo Wu:Int)(Wr:Nat)(Wy:List PV)(Ws:Nat)(Wq:List PV):Option Aw:=Dd CB Tryd.prog fu call 18 Tryd.f18 (B9 Tryd.f18) [.agg [.sc (.string a0_0),.sc (.string a0_1),.sc (.int .u64 a0_2),.sc (.int .i64 a0_3),.sc (.int .u64 a0_4),.sc (.int .i64 a0_5),.sc (.int .i64 a0_6),.sc (.bool a0_7),.sc (.int .i64 a0_8),.sc (.int .u64 a0_9),.sc (.int .i64 a0_10),.lst false 1 a0_11n a0_11,.lst false 1 a0_12n a0_12]] [.r,.l,.r,.l] nn ⟨lk [(1,(.ptr 1 0)),(13,(.agg [(.sc (.string y0)),(.sc (.string y1))])),(14,(.sc (.int .i64 y2)))],Bz [(1,(.st [(.sc (.string y3)),(.sc (.string y4)),(.sc (.int .u64 y5)),(.sc (.int .i64 y6)),(.sc (.int .u64 y7)),(.sc (.int .i64 y8)),(.sc (.int .i64 y9)),(.sc (.bool y10)),(.sc (.int .i64 M2)),(.sc (.int .u64 Qo)),(.sc (.int .i64 Wu)),(.lst false 1 Wr Wy),(.lst false 1 Ws Wq)]))]⟩
theorem Dt (fu:Nat)(call:Ah)(a0_0 a0_1:ByteArray)(a0_2 a0_3:Int)(a0_4 a0_5 a0_6:Int)(a0_7:Bool)(a0_8 a0_9 a0_10:Int)(a0_11n:Nat)(a0_11:List PV)(a0_12n:Nat)(a0_12:List PV)(nn:Nat)(y0 y1:ByteArray)(y2:Int)(y3 y4:ByteArray)(y5 y6:Int)(y7 y8 y9:Int)(y10:Bool)(M2 Qo Wu:Int)(Wr:Nat)(Wy:List PV)(Ws:Nat)(Wq:List PV):Eh fu call a0_0 a0_1 a0_2 a0_3 a0_4 a0_5 a0_6 a0_7 a0_8 a0_9 a0_10 a0_11n a0_11 a0_12n a0_12 (nn+1) y0 y1 y2 y3 y4 y5 y6 y7 y8 y9 y10 M2 Qo Wu Wr Wy Ws Wq=(Bc (decide (y2<2)) (Ao (decide (0<=y2)&&decide (y2<2)&&true)<|Dp (List.getD [.sc (.string y0),.sc (.string y1)] (Int.toNat y2*1) .top) fun x1=>Bc (decide ((↑(ByteArray.size x1):Int)<1)) (some (Aw.mk [.own 1 0 [],.sc (.int .i64 9)] [])) (Bc (decide ((↑(ByteArray.size x1):Int)>32)) (some (Aw.mk [.own 1 0 [],.sc (.int .i64 9)] [])) (Aa (wrap .i64 (y2+1)) fun x2=>Eh fu call a0_0 a0_1 a0_2 a0_3 a0_4 a0_5 a0_6 a0_7 a0_8 a0_9 a0_10 a0_11n a0_11 a0_12n a0_12 (nn) (y0) (y1) x2 (y3) (y4) (y5) (y6) (y7) (y8) (y9) (y10) (M2) (Qo) (Wu) (Wr) (Wy) (Ws) (Wq)))) (Ai (call 35 [.sc (.string y3)]) fun x3 x4=>Ac x4<|Ab x3 fun x5 x6=>Bn x5 fun x7=>Ac x6<|Bc (!x7) (some (Aw.mk [.own 1 0 [],.sc (.int .i64 6)] [])) (Ai (call 35 [.sc (.string y4)]) fun x8 x9=>Ac x9<|Ab x8 fun Cp C3=>Bn Cp fun Dz=>Ac C3<|Bc (!Dz) (some (Aw.mk [.own 1 0 [],.sc (.int .i64 6)] [])) (Ai (call 36 [.agg [.sc (.int .i64 y6),.sc (.int .u64 y7)]]) fun Ed Dy=>Ac Dy<|Ab Ed fun Ec Ej=>Eg 1 Ec fun Fc F2=>Ab Ej fun F3 F8=>Ad .i64 F3 fun Ij=>Ac F8<|Bc (Ij != 0) (some (Aw.mk [.own 1 0 [],.sc (.int .i64 Ij)] [])) (Bc (decide (y8<0)) (some (Aw.mk [.own 1 0 [],.sc (.int .i64 9)] [])) (Bc (decide (y8>y9)) (some (Aw.mk [.own 1 0 [],.sc (.int .i64 9)] [])) (Bc (decide (y9>1099511627776)) (some (Aw.mk [.own 1 0 [],.sc (.int .i64 9)] [])) (Bc (decide (M2<0)) (some (Aw.mk [.own 1 0 [],.sc (.int .i64 9)] [])) (Bc (decide (M2>2)) (some (Aw.mk [.own 1 0 [],.sc (.int .i64 9)] [])) (Bc (M2 != 0) (Bc (!y10) (some (Aw.mk [.own 1 0 [],.sc (.int .i64 4)] [])) (Ai (call 38 [.sc (.string y3)]) fun G6 H7=>Ac H7<|Ab G6 fun Dr Dl=>Eg 3 Dr fun G7 Il=>Ac Dl<|Ai (call 38 [.sc (.string y4)]) fun E1 Mi=>Ac Mi<|Ab E1 fun Nd Lf=>Eg 3 Nd fun Mv Nv=>Ac Lf<|Ai (call 39 [.sc (.int .u64 y5)]) fun Oa Pp=>Ac Pp<|Ab Oa fun Rh Rw=>Eg 3 Rh fun Gg Hv=>Ac Rw<|Ao (decide (0+Fc*1<=F2.length))<|Ai (call 40 [.lst false 1 Fc (List.take (Fc*1) (List.drop 0 F2))]) fun Ug Yw=>Ac Yw<|Ab Ug fun Kw Uo=>Eg 3 Kw fun S7 Sh=>Ac Uo<|Aa (wrap .u64 y8) fun Sf=>Ai (call 39 [.sc (.int .u64 Sf)]) fun Wx Xr=>Ac Xr<|Ab Wx fun R8 Ve=>Eg 3 R8 fun Ww Wt=>Ac Ve<|Aa (wrap .u64 y9) fun Oi=>Ai (call 39 [.sc (.int .u64 Oi)]) fun Y9 DO=>Ac DO<|Ab Y9 fun Zt BN=>Eg 3 Zt fun Ut V8=>Ac BN<|Ai (call 41 [.sc (.bool y10)]) fun Z7 Zb=>Ac Zb<|Ab Z7 fun Tz Zi=>Eg 3 Tz fun Y3 Zs=>Ac Zi<|Aa (wrap .u64 M2) fun Wp=>Ai (call 39 [.sc (.int .u64 Wp)]) fun Vk DS=>Ac DS<|Ab Vk fun CC Zg=>Eg 3 CC fun Yl CM=>Ac Zg<|Ai (call 39 [.sc (.int .u64 Qo)]) fun HC CE=>Ac CE<|Ab HC fun EN IW=>Eg 3 EN fun BL Vg=>Ac IW<|Ao (decide (0+G7*3<=Il.length))<|Ao (decide (0+Mv*3<=Nv.length))<|Ao (decide (0+Gg*3<=Hv.length))<|Ao (decide (0+S7*3<=Sh.length))<|Ao (decide (0+Ww*3<=Wt.length))<|Ao (decide (0+Ut*3<=V8.length))<|Ao (decide (0+Y3*3<=Zs.length))<|Ao (decide (0+Yl*3<=CM.length))<|Ao (decide (0+BL*3<=Vg.length))<|Ai (call 37 [.lst false 1 9 [.lst false 3 G7 (List.take (G7*3) (List.drop 0 Il)),.lst false 3 Mv (List.take (Mv*3) (List.drop 0 Nv)),.lst false 3 Gg (List.take (Gg*3) (List.drop 0 Hv)),.lst false 3 S7 (List.take (S7*3) (List.drop 0 Sh)),.lst false 3 Ww (List.take (Ww*3) (List.drop 0 Wt)),.lst false 3 Ut (List.take (Ut*3) (List.drop 0 V8)),.lst false 3 Y3 (List.take (Y3*3) (List.drop 0 Zs)),.lst false 3 Yl (List.take (Yl*3) (List.drop 0 CM)),.lst false 3 BL (List.take (BL*3) (List.drop 0 Vg))]]) fun MO KT=>Ac KT<|Ab MO fun VJ XM=>Eg 3 VJ fun QN UC=>Ab XM fun x85 YH=>Ad .i64 x85 fun UE=>Ac YH<|Bc (UE != 0) (some (Aw.mk [.own 1 0 [],.sc (.int .i64 UE)] [])) (Ao (decide (0+QN*3<=UC.length))<|Ai (call 42 [.lst false 3 QN (List.take (QN*3) (List.drop 0 UC))]) fun UD IX=>Ac IX<|Ab UD fun QA VN=>Eg 1 QA fun WM UI=>Ab VN fun IZ x95=>Ad .i64 IZ fun x96=>Ac x95<|Ao (decide (WM*1<=UI.length))<|some (Aw.mk [.own 1 WM (List.take (WM*1) UI),.sc (.int .i64 x96)] [])))) (Ai (call 38 [.sc (.string y3)]) fun UH XJ=>Ac XJ<|Ab UH fun DY Xi=>Eg 3 DY fun Us G8=>Ac Xi<|Ai (call 38 [.sc (.string y4)]) fun Jm BC=>Ac BC<|Ab Jm fun Sc R7=>Eg 3 Sc fun Jw W0=>Ac R7<|Ai (call 39 [.sc (.int .u64 y5)]) fun Z1 X3=>Ac X3<|Ab Z1 fun BA Hz=>Eg 3 BA fun I6 AP=>Ac Hz<|Ao (decide (0+Fc*1<=F2.length))<|Ai (call 40 [.lst false 1 Fc (List.take (Fc*1) (List.drop 0 F2))]) fun AR Y5=>Ac Y5<|Ab AR fun GV AX=>Eg 3 GV fun Vp Xs=>Ac AX<|Aa (wrap .u64 y8) fun X7=>Ai (call 39 [.sc (.int .u64 X7)]) fun Yo Zn=>Ac Zn<|Ab Yo fun AL Oh=>Eg 3 AL fun Qq Sx=>Ac Oh<|Aa (wrap .u64 y9) fun X1=>Ai (call 39 [.sc (.int .u64 X1)]) fun AG Lj=>Ac Lj<|Ab AG fun JJ Xp=>Eg 3 JJ fun Uv DE=>Ac Xp<|Ai (call 41 [.sc (.bool y10)]) fun JA JM=>Ac JM<|Ab JA fun HV EA=>Eg 3 HV fun Zu DT=>Ac EA<|Aa (wrap .u64 M2) fun HT=>Ai (call 39 [.sc (.int .u64 HT)]) fun HG GJ=>Ac GJ<|Ab HG fun AE DF=>Eg 3 AE fun Vw Z8=>Ac DF<|Ai (call 39 [.sc (.int .u64 Qo)]) fun HL OB=>Ac OB<|Ab HL fun RS KE=>Eg 3 RS fun Ym FL=>Ac KE<|Ao (decide (0+Us*3<=G8.length))<|Ao (decide (0+Jw*3<=W0.length))<|Ao (decide (0+I6*3<=AP.length))<|Ao (decide (0+Vp*3<=Xs.length))<|Ao (decide (0+Qq*3<=Sx.length))<|Ao (decide (0+Uv*3<=DE.length))<|Ao (decide (0+Zu*3<=DT.length))<|Ao (decide (0+Vw*3<=Z8.length))<|Ao (decide (0+Ym*3<=FL.length))<|Ai (call 37 [.lst false 1 9 [.lst false 3 Us (List.take (Us*3) (List.drop 0 G8)),.lst false 3 Jw (List.take (Jw*3) (List.drop 0 W0)),.lst false 3 I6 (List.take (I6*3) (List.drop 0 AP)),.lst false 3 Vp (List.take (Vp*3) (List.drop 0 Xs)),.lst false 3 Qq (List.take (Qq*3) (List.drop 0 Sx)),.lst false 3 Uv (List.take (Uv*3) (List.drop 0 DE)),.lst false 3 Zu (List.take (Zu*3) (List.drop 0 DT)),.lst false 3 Vw (List.take (Vw*3) (List.drop 0 Z8)),.lst false 3 Ym (List.take (Ym*3) (List.drop 0 FL))]]) fun PD QX=>Ac QX<|Ab PD fun Up QO=>Eg 3 Up fun NJ SM=>Ab QO fun UN PF=>Ad .i64 UN fun SS=>Ac PF<|Bc (SS != 0) (some (Aw.mk [.own 1 0 [],.sc (.int .i64 SS)] [])) (Ao (decide (0+NJ*3<=SM.length))<|Ai (call 42 [.lst false 3 NJ (List.take (NJ*3) (List.drop 0 SM))]) fun WC OD=>Ac OD<|Ab WC fun SC Ab6=>Eg 1 SC fun PL SK=>Ab Ab6 fun WU VT=>Ad .i64 WU fun WJ=>Ac VT<|Ao (decide (PL*1<=SK.length))<|some (Aw.mk [.own 1 PL (List.take (PL*1) SK),.sc (.int .i64 WJ)] []))))))))))))):=by kernel_rfl
theorem Wo (fu d:Nat)(a0_0 a0_1:ByteArray)(a0_2 a0_3:Int)(a0_4 a0_5 a0_6:Int)(a0_7:Bool)(a0_8 a0_9 a0_10:Int)(a0_11n:Nat)(a0_11:List PV)(a0_12n:Nat)(a0_12:List PV):Ae C0 Tryd.prog fu (d+1) Mx [.agg [.sc (.string a0_0),.sc (.string a0_1),.sc (.int .u64 a0_2),.sc (.int .i64 a0_3),.sc (.int .u64 a0_4),.sc (.int .i64 a0_5),.sc (.int .i64 a0_6),.sc (.bool a0_7),.sc (.int .i64 a0_8),.sc (.int .u64 a0_9),.sc (.int .i64 a0_10),.lst false 1 a0_11n a0_11,.lst false 1 a0_12n a0_12]]=(fun (call:Ah)=>Eh fu call a0_0 a0_1 a0_2 a0_3 a0_4 a0_5 a0_6 a0_7 a0_8 a0_9 a0_10 a0_11n a0_11 a0_12n a0_12 (fu) (a0_0) (a0_1) 0 (a0_0) (a0_1) (a0_2) (a0_3) (a0_4) (a0_5) (a0_6) (a0_7) (a0_8) (a0_9) (a0_10) (a0_11n) (a0_11) (a0_12n) (a0_12)) (Ae C0 Tryd.prog fu d):=by kernel_rfl
abbrev Nw:FuncId:=14
theorem Wa (fu d:Nat)(a0_0 a0_1:ByteArray)(a0_2 a0_3:Int)(a0_4 a0_5 a0_6:Int)(a0_7:Bool)(a0_8 a0_9 a0_10:Int)(a0_11n:Nat)(a0_11:List PV)(a0_12n:Nat)(a0_12:List PV):Ae C0 Tryd.prog fu (d+1) Nw [.agg [.sc (.string a0_0),.sc (.string a0_1),.sc (.int .u64 a0_2),.sc (.int .i64 a0_3),.sc (.int .u64 a0_4),.sc (.int .i64 a0_5),.sc (.int .i64 a0_6),.sc (.bool a0_7),.sc (.int .i64 a0_8),.sc (.int .u64 a0_9),.sc (.int .i64 a0_10),.lst false 1 a0_11n a0_11,.lst false 1 a0_12n a0_12]]=(fun (call:Ah)=>Ai (call 18 [.agg [.sc (.string a0_0),.sc (.string a0_1),.sc (.int .u64 a0_2),.sc (.int .i64 a0_3),.sc (.int .u64 a0_4),.sc (.int .i64 a0_5),.sc (.int .i64 a0_6),.sc (.bool a0_7),.sc (.int .i64 a0_8),.sc (.int .u64 a0_9),.sc (.int .i64 a0_10),.lst false 1 a0_11n a0_11,.lst false 1 a0_12n a0_12]]) fun x1 x2=>Ac x2<|Ab x1 fun x3 x4=>Eg 1 x3 fun x5 x6=>Ab x4 fun x7 x8=>Ad .i64 x7 fun x9=>Ac x8<|Bc (x9 != 0) (some (Aw.mk [.sc (.int .u64 0),.sc (.int .i64 x9)] [])) (Ao (decide (0+x5*1<=x6.length))<|Ai (call 28 [.sc (.int .i64 14),.lst false 1 x5 (List.take (x5*1) (List.drop 0 x6))]) fun Cp C3=>Ac C3<|Ab Cp fun Dz Ed=>Ad .u64 Dz fun Dy=>Ac Ed<|some (Aw.mk [.sc (.int .u64 Dy),.sc (.int .i64 0)] []))) (Ae C0 Tryd.prog fu d):=by kernel_rfl
abbrev Kh:FuncId:=27
theorem Tr (fu d:Nat)(a0_0 a0_1:ByteArray)(a0_2 a0_3:Int)(a0_4 a0_5 a0_6:Int)(a0_7:Bool)(a0_8 a0_9 a0_10:Int)(a0_11n:Nat)(a0_11:List PV)(a0_12n:Nat)(a0_12:List PV)(a1_0 a1_1:Int):Ae C0 Tryd.prog fu (d+1) Kh [.agg [.sc (.string a0_0),.sc (.string a0_1),.sc (.int .u64 a0_2),.sc (.int .i64 a0_3),.sc (.int .u64 a0_4),.sc (.int .i64 a0_5),.sc (.int .i64 a0_6),.sc (.bool a0_7),.sc (.int .i64 a0_8),.sc (.int .u64 a0_9),.sc (.int .i64 a0_10),.lst false 1 a0_11n a0_11,.lst false 1 a0_12n a0_12],.agg [.sc (.int .i64 a1_0),.sc (.int .u64 a1_1)]]=(fun (call:Ah)=>Ai (call 14 [.agg [.sc (.string a0_0),.sc (.string a0_1),.sc (.int .u64 a0_2),.sc (.int .i64 a0_3),.sc (.int .u64 a0_4),.sc (.int .i64 a0_5),.sc (.int .i64 a0_6),.sc (.bool a0_7),.sc (.int .i64 a0_8),.sc (.int .u64 a0_9),.sc (.int .i64 a0_10),.lst false 1 a0_11n a0_11,.lst false 1 a0_12n a0_12]]) fun x1 x2=>Ac x2<|Ab x1 fun x3 x4=>Ad .u64 x3 fun x5=>Ab x4 fun x6 x7=>Ad .i64 x6 fun x8=>Ac x7<|Bc (x8 != 0) (some (Aw.mk [.sc (.int .i64 x8)] [])) (Ai (call 48 [.agg [.sc (.int .i64 a1_0),.sc (.int .u64 a1_1)],.sc (.int .u64 x5),.agg [.sc (.int .i64 a0_10),.lst false 1 a0_11n a0_11,.lst false 1 a0_12n a0_12]]) fun x9 Cp=>Ac Cp<|Ab x9 fun C3 Dz=>Ad .i64 C3 fun Ed=>Ac Dz<|some (Aw.mk [.sc (.int .i64 Ed)] []))) (Ae C0 Tryd.prog fu d):=by kernel_rfl
abbrev Kn:FuncId:=9
theorem Tm (fu d:Nat)(a0_0 a0_1:ByteArray)(a0_2 a0_3:Int)(a0_4 a0_5 a0_6:Int)(a0_7:Bool)(a0_8 a0_9 a0_10:Int)(a0_11n:Nat)(a0_11:List PV)(a0_12n:Nat)(a0_12:List PV):Ae C0 Tryd.prog fu (d+1) Kn [.agg [.sc (.string a0_0),.sc (.string a0_1),.sc (.int .u64 a0_2),.sc (.int .i64 a0_3),.sc (.int .u64 a0_4),.sc (.int .i64 a0_5),.sc (.int .i64 a0_6),.sc (.bool a0_7),.sc (.int .i64 a0_8),.sc (.int .u64 a0_9),.sc (.int .i64 a0_10),.lst false 1 a0_11n a0_11,.lst false 1 a0_12n a0_12]]=(fun (call:Ah)=>Ai (call 18 [.agg [.sc (.string a0_0),.sc (.string a0_1),.sc (.int .u64 a0_2),.sc (.int .i64 a0_3),.sc (.int .u64 a0_4),.sc (.int .i64 a0_5),.sc (.int .i64 a0_6),.sc (.bool a0_7),.sc (.int .i64 a0_8),.sc (.int .u64 a0_9),.sc (.int .i64 a0_10),.lst false 1 a0_11n a0_11,.lst false 1 a0_12n a0_12]]) fun x1 x2=>Ac x2<|Ab x1 fun x3 x4=>Eg 1 x3 fun x5 x6=>Ab x4 fun x7 x8=>Ad .i64 x7 fun x9=>Ac x8<|Bc (x9 != 0) (some (Aw.mk [.own 1 0 [],.sc (.int .i64 x9)] [])) (Ai (call 19 [.agg [.sc (.int .i64 a0_10),.lst false 1 a0_11n a0_11,.lst false 1 a0_12n a0_12]]) fun Cp C3=>Ac C3<|Ab Cp fun Dz Ed=>Eg 1 Dz fun Dy Ec=>Ab Ed fun Ej Fc=>Ad .i64 Ej fun F2=>Ac Fc<|Bc (F2 != 0) (some (Aw.mk [.own 1 0 [],.sc (.int .i64 F2)] [])) (Ao (decide (0+Dy*1<=Ec.length))<|Ao (decide (x5*1<=x6.length)&&decide (List.length (List.take (Dy*1) (List.drop 0 Ec))=Dy*1)&&decide ((x5+Dy)*1<=1099511627776)&&decide (x5+Dy<=1099511627776))<|Aa (x5+Dy) fun F3=>Aa (List.take (x5*1) x6++List.take (Dy*1) (List.drop 0 Ec)) fun F8=>Ao (decide (F3*1<=F8.length))<|some (Aw.mk [.own 1 F3 (List.take (F3*1) F8),.sc (.int .i64 0)] [])))) (Ae C0 Tryd.prog fu d):=by kernel_rfl
abbrev Kr:FuncId:=21
noncomputable def Gj (fu:Nat)(call:Ah)(a0n:Nat)(a0:List PV)(nn y0:Nat)(y1:List PV):Option Aw:=Dd CB Tryd.prog fu call 21 Tryd.f21 (B9 Tryd.f21) [.lst false 3 a0n a0] [] nn ⟨lk [(0,(.lst false 3 y0 y1))],Bz []⟩
noncomputable def Jc (fu:Nat)(call:Ah)(a0n:Nat)(a0:List PV)(nn y0:Nat)(y1 y2:List PV):Option Aw:=Dd CB Tryd.prog fu call 21 Tryd.f21 (B9 Tryd.f21) [.lst false 3 a0n a0] [.r] nn ⟨lk [(0,(.lst false 3 y0 y1)),(3,(.ptr 3 0))],Bz [(3,(.ar false y2))]⟩
noncomputable def Ev (fu:Nat)(call:Ah)(a0n:Nat)(a0:List PV)(nn y0:Nat)(y1:List PV)(y2 y3:Int)(y4:List PV):Option Aw:=Dd CB Tryd.prog fu call 21 Tryd.f21 (B9 Tryd.f21) [.lst false 3 a0n a0] [.r,.r,.r,.l,.r,.l] nn ⟨lk [(3,(.ptr 3 0)),(10,(.lst false 3 y0 y1)),(11,(.sc (.int .i64 y2))),(12,(.sc (.int .i64 y3)))],Bz [(3,(.ar false y4))]⟩
theorem Qj (fu:Nat)(call:Ah)(a0n:Nat)(a0:List PV)(nn:Nat)(hnn:0<nn)(y0:Nat)(y1:List PV):Gj fu call a0n a0 nn y0 y1=(Jc fu call a0n a0 (fu) (y0) (y1) ([.sc (.int .i64 5),.sc (.int .i64 4),.sc (.int .i64 4),.sc (.int .i64 1),.sc (.int .i64 3),.sc (.int .i64 1),.sc (.int .i64 1),.sc (.int .i64 7),.sc (.int .i64 1),.sc (.int .i64 1)])):=by cases nn with|zero=>exact absurd hnn (Nat.lt_irrefl 0)|succ nn=>kernel_rfl
theorem Qi (fu:Nat)(call:Ah)(a0n:Nat)(a0:List PV)(nn:Nat)(hnn:0<nn)(y0:Nat)(y1 y2:List PV):Jc fu call a0n a0 nn y0 y1 y2=(Bc ((↑y0:Int) != 10) (some (Aw.mk [.sc (.bool false)] [])) (Ev fu call a0n a0 (fu) (y0) (y1) ((↑y0:Int)) 0 (y2))):=by cases nn with|zero=>exact absurd hnn (Nat.lt_irrefl 0)|succ nn=>kernel_rfl
theorem H6 (fu:Nat)(call:Ah)(a0n:Nat)(a0:List PV)(nn y0:Nat)(y1:List PV)(y2 y3:Int)(y4:List PV):Ev fu call a0n a0 (nn+1) y0 y1 y2 y3 y4=(Bc (decide (y3<y2)) (Ao (decide (0<=y3)&&decide (y3<(↑y0:Int)))<|Ad .i64 (List.getD y1 (Int.toNat y3*3) .top) fun x1=>Ad .u64 (List.getD y1 (Int.toNat y3*3+1) .top) fun x2=>Dp (List.getD y1 (Int.toNat y3*3+1+1) .top) fun x3=>Ao (decide (0<=y3)&&decide (y3<10))<|Ad .i64 (List.getD y4 (0+Int.toNat y3*1) .top) fun x4=>Bc (x1 != x4) (some (Aw.mk [.sc (.bool false)] [])) (Aa (wrap .i64 (y3+1)) fun x5=>Ev fu call a0n a0 (nn) (y0) (y1) (y2) x5 (y4))) (some (Aw.mk [.sc (.bool true)] []))):=by kernel_rfl
theorem Sk (fu d a0n:Nat)(a0:List PV):Ae C0 Tryd.prog fu (d+1) Kr [.lst false 3 a0n a0]=(fun (call:Ah)=>Gj fu call a0n a0 (fu) (a0n) (a0)) (Ae C0 Tryd.prog fu d):=by kernel_rfl
abbrev G4:FuncId:=10
theorem Ts (fu d a0n:Nat)(a0:List PV):Ae C0 Tryd.prog fu (d+1) G4 [.lst false 1 a0n a0]=(fun (call:Ah)=>Bc (decide ((↑a0n:Int)>512)) (some (Aw.mk [.agg [.sc (.string (ByteArray.mk #[])),.sc (.string (ByteArray.mk #[])),.sc (.int .u64 0),.sc (.int .i64 0),.sc (.int .u64 0),.sc (.int .i64 0),.sc (.int .i64 0),.sc (.bool false),.sc (.int .i64 0),.sc (.int .u64 0),.sc (.int .i64 0),.lst false 1 0 [],.lst false 1 0 []],.sc (.int .i64 8)] [])) (Ai (call 20 [.lst false 1 a0n a0]) fun x1 x2=>Ac x2<|Ab x1 fun x3 x4=>Eg 3 x3 fun x5 x6=>Ab x4 fun x7 x8=>Ad .i64 x7 fun x9=>Ab x8 fun Cp C3=>Ad .i64 Cp fun Dz=>Ac C3<|Bc (Dz != 0) (some (Aw.mk [.agg [.sc (.string (ByteArray.mk #[])),.sc (.string (ByteArray.mk #[])),.sc (.int .u64 0),.sc (.int .i64 0),.sc (.int .u64 0),.sc (.int .i64 0),.sc (.int .i64 0),.sc (.bool false),.sc (.int .i64 0),.sc (.int .u64 0),.sc (.int .i64 0),.lst false 1 0 [],.lst false 1 0 []],.sc (.int .i64 2)] [])) (Ao (decide (0+x5*3<=x6.length))<|Ai (call 21 [.lst false 3 x5 (List.take (x5*3) (List.drop 0 x6))]) fun Ed Dy=>Ac Dy<|Ab Ed fun Ec Ej=>Bn Ec fun Fc=>Ac Ej<|Bc (!Fc) (some (Aw.mk [.agg [.sc (.string (ByteArray.mk #[])),.sc (.string (ByteArray.mk #[])),.sc (.int .u64 0),.sc (.int .i64 0),.sc (.int .u64 0),.sc (.int .i64 0),.sc (.int .i64 0),.sc (.bool false),.sc (.int .i64 0),.sc (.int .u64 0),.sc (.int .i64 0),.lst false 1 0 [],.lst false 1 0 []],.sc (.int .i64 2)] [])) (Ao (decide (4<(↑x5:Int)))<|Dp (List.getD x6 14 .top) fun F2=>Ao (decide (ByteArray.size F2<=1099511627776))<|Ao (decide (0+ByteArray.size F2*1<=List.length (Ds F2)))<|Ai (call 22 [.lst false 1 (ByteArray.size F2) (List.take (ByteArray.size F2*1) (List.drop 0 (Ds F2)))]) fun F3 F8=>Ac F8<|Ab F3 fun Ij G6=>Ez Ij fun H7=>Ab H7 fun Dr Dl=>Ad .i64 Dr fun G7=>Ab Dl fun Il E1=>Ad .u64 Il fun Mi=>Ac E1<|Ab G6 fun Nd Lf=>Ad .i64 Nd fun Mv=>Ac Lf<|Bc (Mv != 0) (some (Aw.mk [.agg [.sc (.string (ByteArray.mk #[])),.sc (.string (ByteArray.mk #[])),.sc (.int .u64 0),.sc (.int .i64 0),.sc (.int .u64 0),.sc (.int .i64 0),.sc (.int .i64 0),.sc (.bool false),.sc (.int .i64 0),.sc (.int .u64 0),.sc (.int .i64 0),.lst false 1 0 [],.lst false 1 0 []],.sc (.int .i64 2)] [])) (Ao (decide (0<=x9))<|Ao (decide (Int.toNat x9<=a0n)&&decide (a0n<=a0n))<|Aa (a0n-Int.toNat x9) fun Nv=>Aa (List.take (Nv*1) (List.drop (Int.toNat x9*1) a0)) fun Oa=>Ai (call 23 [.lst false 1 Nv Oa]) fun Pp Rh=>Ac Rh<|Ab Pp fun Rw Gg=>Ez Rw fun Hv=>Ab Hv fun Ug Yw=>Ad .i64 Ug fun Kw=>Ab Yw fun Uo S7=>Eg 1 Uo fun Sh Sf=>Ab S7 fun Wx Xr=>Eg 1 Wx fun R8 Ve=>Ac Xr<|Ab Gg fun Ww Wt=>Ad .i64 Ww fun Oi=>Ac Wt<|Bc (Oi != 0) (some (Aw.mk [.agg [.sc (.string (ByteArray.mk #[])),.sc (.string (ByteArray.mk #[])),.sc (.int .u64 0),.sc (.int .i64 0),.sc (.int .u64 0),.sc (.int .i64 0),.sc (.int .i64 0),.sc (.bool false),.sc (.int .i64 0),.sc (.int .u64 0),.sc (.int .i64 0),.lst false 1 0 [],.lst false 1 0 []],.sc (.int .i64 2)] [])) (Ao (decide (1<(↑x5:Int)))<|Dp (List.getD x6 5 .top) fun Y9=>Ao (decide (2<(↑x5:Int)))<|Dp (List.getD x6 8 .top) fun DO=>Ao (decide (3<(↑x5:Int)))<|Ad .u64 (List.getD x6 10 .top) fun Zt=>Ao (decide (5<(↑x5:Int)))<|Ad .u64 (List.getD x6 16 .top) fun BN=>Aa (wrap .i64 BN) fun Ut=>Ao (decide (6<(↑x5:Int)))<|Ad .u64 (List.getD x6 19 .top) fun V8=>Aa (wrap .i64 V8) fun Z7=>Ao (decide (7<(↑x5:Int)))<|Ad .u64 (List.getD x6 22 .top) fun Zb=>Ao (decide (8<(↑x5:Int)))<|Ad .u64 (List.getD x6 25 .top) fun Tz=>Aa (wrap .i64 Tz) fun Zi=>Ao (decide (9<(↑x5:Int)))<|Ad .u64 (List.getD x6 28 .top) fun Y3=>Ao (decide (0+Sh*1<=Sf.length))<|Ao (decide (0+R8*1<=Ve.length))<|Ai (call 9 [.agg [.sc (.string Y9),.sc (.string DO),.sc (.int .u64 Zt),.sc (.int .i64 G7),.sc (.int .u64 Mi),.sc (.int .i64 Ut),.sc (.int .i64 Z7),.sc (.bool (Zb==1)),.sc (.int .i64 Zi),.sc (.int .u64 Y3),.sc (.int .i64 Kw),.lst false 1 Sh (List.take (Sh*1) (List.drop 0 Sf)),.lst false 1 R8 (List.take (R8*1) (List.drop 0 Ve))]]) fun Zs Wp=>Ac Wp<|Ab Zs fun Vk DS=>Eg 1 Vk fun CC Zg=>Ab DS fun Yl CM=>Ad .i64 Yl fun HC=>Ac CM<|Bc (HC != 0) (some (Aw.mk [.agg [.sc (.string (ByteArray.mk #[])),.sc (.string (ByteArray.mk #[])),.sc (.int .u64 0),.sc (.int .i64 0),.sc (.int .u64 0),.sc (.int .i64 0),.sc (.int .i64 0),.sc (.bool false),.sc (.int .i64 0),.sc (.int .u64 0),.sc (.int .i64 0),.lst false 1 0 [],.lst false 1 0 []],.sc (.int .i64 2)] [])) (Ao (decide (0+CC*1<=Zg.length))<|Ai (call 24 [.lst false 1 CC (List.take (CC*1) (List.drop 0 Zg)),.lst false 1 a0n a0]) fun CE EN=>Ac EN<|Ab CE fun IW BL=>Bn IW fun Vg=>Ac BL<|Bc (!Vg) (some (Aw.mk [.agg [.sc (.string (ByteArray.mk #[])),.sc (.string (ByteArray.mk #[])),.sc (.int .u64 0),.sc (.int .i64 0),.sc (.int .u64 0),.sc (.int .i64 0),.sc (.int .i64 0),.sc (.bool false),.sc (.int .i64 0),.sc (.int .u64 0),.sc (.int .i64 0),.lst false 1 0 [],.lst false 1 0 []],.sc (.int .i64 2)] [])) (Ao (decide (0+Sh*1<=Sf.length))<|Ao (decide (0+R8*1<=Ve.length))<|some (Aw.mk [.agg [.sc (.string Y9),.sc (.string DO),.sc (.int .u64 Zt),.sc (.int .i64 G7),.sc (.int .u64 Mi),.sc (.int .i64 Ut),.sc (.int .i64 Z7),.sc (.bool (Zb==1)),.sc (.int .i64 Zi),.sc (.int .u64 Y3),.sc (.int .i64 Kw),.lst false 1 Sh (List.take (Sh*1) (List.drop 0 Sf)),.lst false 1 R8 (List.take (R8*1) (List.drop 0 Ve))],.sc (.int .i64 0)] []))))))))) (Ae C0 Tryd.prog fu d):=by kernel_rfl
abbrev Ig:FuncId:=26
noncomputable def B8 (fu:Nat)(call:Ah)(a0_0 a0_1:ByteArray)(a0_2 a0_3:Int)(a0_4 a0_5 a0_6:Int)(a0_7:Bool)(a0_8 a0_9 a0_10:Int)(a0_11n:Nat)(a0_11:List PV)(a0_12n:Nat)(a0_12:List PV)(a1:Int)(a2n:Nat)(a2:List PV)(a3:Int)(nn:Nat)(y0:Int)(y1:Nat)(y2:List PV)(y3 y4:Int)(y5 y6:ByteArray)(y7 y8:Int)(y9 y10 M2:Int)(Qo:Bool)(Wu Wr Wy:Int)(Ws:Nat)(Wq:List PV)(DQ:Nat)(PZ:List PV):Option Aw:=Dd CB Tryd.prog fu call 26 Tryd.f26 (B9 Tryd.f26) [.agg [.sc (.string a0_0),.sc (.string a0_1),.sc (.int .u64 a0_2),.sc (.int .i64 a0_3),.sc (.int .u64 a0_4),.sc (.int .i64 a0_5),.sc (.int .i64 a0_6),.sc (.bool a0_7),.sc (.int .i64 a0_8),.sc (.int .u64 a0_9),.sc (.int .i64 a0_10),.lst false 1 a0_11n a0_11,.lst false 1 a0_12n a0_12],.sc (.int .i64 a1),.lst false 3 a2n a2,.sc (.int .i64 a3)] [.r,.r,.r,.r,.l,.r,.l] nn ⟨lk [(3,(.sc (.int .i64 y0))),(4,(.ptr 4 0)),(45,(.lst false 3 y1 y2)),(46,(.sc (.int .i64 y3))),(47,(.sc (.int .i64 y4)))],Bz [(4,(.st [(.sc (.string y5)),(.sc (.string y6)),(.sc (.int .u64 y7)),(.sc (.int .i64 y8)),(.sc (.int .u64 y9)),(.sc (.int .i64 y10)),(.sc (.int .i64 M2)),(.sc (.bool Qo)),(.sc (.int .i64 Wu)),(.sc (.int .u64 Wr)),(.sc (.int .i64 Wy)),(.lst false 1 Ws Wq),(.lst false 1 DQ PZ)]))]⟩
theorem Gw (fu:Nat)(call:Ah)(a0_0 a0_1:ByteArray)(a0_2 a0_3:Int)(a0_4 a0_5 a0_6:Int)(a0_7:Bool)(a0_8 a0_9 a0_10:Int)(a0_11n:Nat)(a0_11:List PV)(a0_12n:Nat)(a0_12:List PV)(a1:Int)(a2n:Nat)(a2:List PV)(a3:Int)(nn:Nat)(y0:Int)(y1:Nat)(y2:List PV)(y3 y4:Int)(y5 y6:ByteArray)(y7 y8:Int)(y9 y10 M2:Int)(Qo:Bool)(Wu Wr Wy:Int)(Ws:Nat)(Wq:List PV)(DQ:Nat)(PZ:List PV):B8 fu call a0_0 a0_1 a0_2 a0_3 a0_4 a0_5 a0_6 a0_7 a0_8 a0_9 a0_10 a0_11n a0_11 a0_12n a0_12 a1 a2n a2 a3 (nn+1) y0 y1 y2 y3 y4 y5 y6 y7 y8 y9 y10 M2 Qo Wu Wr Wy Ws Wq DQ PZ=(Bc (decide (y4<y3)) (Ao (decide (0<=y4)&&decide (y4<(↑y1:Int)))<|Dp (List.getD y2 (Int.toNat y4*3) .top) fun C3=>Ad .u64 (List.getD y2 (Int.toNat y4*3+1) .top) fun Dz=>Ad .i64 (List.getD y2 (Int.toNat y4*3+1+1) .top) fun Ed=>Bc (Array.toList (ByteArray.data C3)==Array.toList (ByteArray.data y6)) (Bc (Dz==y7) (Bc (decide (Ed<=y0)) (some (Aw.mk [.sc (.int .i64 39)] [])) (Aa (wrap .i64 (y4+1)) fun Dy=>B8 fu call a0_0 a0_1 a0_2 a0_3 a0_4 a0_5 a0_6 a0_7 a0_8 a0_9 a0_10 a0_11n a0_11 a0_12n a0_12 a1 a2n a2 a3 (nn) (y0) (y1) (y2) (y3) Dy (y5) (y6) (y7) (y8) (y9) (y10) (M2) (Qo) (Wu) (Wr) (Wy) (Ws) (Wq) (DQ) (PZ))) (Aa (wrap .i64 (y4+1)) fun Ec=>B8 fu call a0_0 a0_1 a0_2 a0_3 a0_4 a0_5 a0_6 a0_7 a0_8 a0_9 a0_10 a0_11n a0_11 a0_12n a0_12 a1 a2n a2 a3 (nn) (y0) (y1) (y2) (y3) Ec (y5) (y6) (y7) (y8) (y9) (y10) (M2) (Qo) (Wu) (Wr) (Wy) (Ws) (Wq) (DQ) (PZ))) (Aa (wrap .i64 (y4+1)) fun Ej=>B8 fu call a0_0 a0_1 a0_2 a0_3 a0_4 a0_5 a0_6 a0_7 a0_8 a0_9 a0_10 a0_11n a0_11 a0_12n a0_12 a1 a2n a2 a3 (nn) (y0) (y1) (y2) (y3) Ej (y5) (y6) (y7) (y8) (y9) (y10) (M2) (Qo) (Wu) (Wr) (Wy) (Ws) (Wq) (DQ) (PZ))) (some (Aw.mk [.sc (.int .i64 0)] []))):=by kernel_rfl
theorem Qz (fu d:Nat)(a0_0 a0_1:ByteArray)(a0_2 a0_3:Int)(a0_4 a0_5 a0_6:Int)(a0_7:Bool)(a0_8 a0_9 a0_10:Int)(a0_11n:Nat)(a0_11:List PV)(a0_12n:Nat)(a0_12:List PV)(a1:Int)(a2n:Nat)(a2:List PV)(a3:Int):Ae C0 Tryd.prog fu (d+1) Ig [.agg [.sc (.string a0_0),.sc (.string a0_1),.sc (.int .u64 a0_2),.sc (.int .i64 a0_3),.sc (.int .u64 a0_4),.sc (.int .i64 a0_5),.sc (.int .i64 a0_6),.sc (.bool a0_7),.sc (.int .i64 a0_8),.sc (.int .u64 a0_9),.sc (.int .i64 a0_10),.lst false 1 a0_11n a0_11,.lst false 1 a0_12n a0_12],.sc (.int .i64 a1),.lst false 3 a2n a2,.sc (.int .i64 a3)]=(fun (call:Ah)=>Ai (call 18 [.agg [.sc (.string a0_0),.sc (.string a0_1),.sc (.int .u64 a0_2),.sc (.int .i64 a0_3),.sc (.int .u64 a0_4),.sc (.int .i64 a0_5),.sc (.int .i64 a0_6),.sc (.bool a0_7),.sc (.int .i64 a0_8),.sc (.int .u64 a0_9),.sc (.int .i64 a0_10),.lst false 1 a0_11n a0_11,.lst false 1 a0_12n a0_12]]) fun x1 x2=>Ac x2<|Ab x1 fun x3 x4=>Eg 1 x3 fun x5 x6=>Ab x4 fun x7 x8=>Ad .i64 x7 fun x9=>Ac x8<|Bc (x9 != 0) (some (Aw.mk [.sc (.int .i64 x9)] [])) (Bc (decide (a3<a0_5)) (some (Aw.mk [.sc (.int .i64 38)] [])) (Bc (decide (a3>a0_6)) (some (Aw.mk [.sc (.int .i64 38)] [])) (Bc (decide (a1>0)) (Bc (!a0_7) (some (Aw.mk [.sc (.int .i64 38)] [])) (Aa (wrap .i64 (a1-1)) fun Cp=>Bc (decide (a0_8<Cp)) (some (Aw.mk [.sc (.int .i64 38)] [])) (B8 fu call a0_0 a0_1 a0_2 a0_3 a0_4 a0_5 a0_6 a0_7 a0_8 a0_9 a0_10 a0_11n a0_11 a0_12n a0_12 a1 a2n a2 a3 (fu) (a3) (a2n) (a2) ((↑a2n:Int)) 0 (a0_0) (a0_1) (a0_2) (a0_3) (a0_4) (a0_5) (a0_6) (a0_7) (a0_8) (a0_9) (a0_10) (a0_11n) (a0_11) (a0_12n) (a0_12)))) (B8 fu call a0_0 a0_1 a0_2 a0_3 a0_4 a0_5 a0_6 a0_7 a0_8 a0_9 a0_10 a0_11n a0_11 a0_12n a0_12 a1 a2n a2 a3 (fu) (a3) (a2n) (a2) ((↑a2n:Int)) 0 (a0_0) (a0_1) (a0_2) (a0_3) (a0_4) (a0_5) (a0_6) (a0_7) (a0_8) (a0_9) (a0_10) (a0_11n) (a0_11) (a0_12n) (a0_12)))))) (Ae C0 Tryd.prog fu d):=by kernel_rfl
abbrev Nu:FuncId:=13
noncomputable def Fj (fu:Nat)(call:Ah)(a0n:Nat)(a0:List PV)(a1n:Nat)(a1:List PV)(a2n:Nat)(a2:List PV)(a3:Int)(nn y0:Nat)(y1:List PV)(y2:Nat)(y3:List PV)(y4:Nat)(y5:List PV)(y6:Int)(y7:Nat)(y8:List PV)(y9 y10:Int):Option Aw:=Dd CB Tryd.prog fu call 13 Tryd.f13 (B9 Tryd.f13) [.lst false 13 a0n a0,.lst false 3 a1n a1,.lst false 3 a2n a2,.sc (.int .i64 a3)] [.r,.r,.r,.l,.r,.l] nn ⟨lk [(0,(.lst false 13 y0 y1)),(1,(.lst false 3 y2 y3)),(2,(.lst false 3 y4 y5)),(3,(.sc (.int .i64 y6))),(31,(.lst false 13 y7 y8)),(32,(.sc (.int .i64 y9))),(33,(.sc (.int .i64 y10)))],Bz []⟩
noncomputable def Di (fu:Nat)(call:Ah)(a0n:Nat)(a0:List PV)(a1n:Nat)(a1:List PV)(a2n:Nat)(a2:List PV)(a3:Int)(nn y0:Nat)(y1:List PV)(y2 y3:Int)(y4 y5:ByteArray)(y6 y7:Int)(y8 y9 y10:Int)(M2:Bool)(Qo Wu Wr:Int)(Wy:Nat)(Ws:List PV)(Wq:Nat)(DQ:List PV):Option Aw:=Dd CB Tryd.prog fu call 13 Tryd.f13 (B9 Tryd.f13) [.lst false 13 a0n a0,.lst false 3 a1n a1,.lst false 3 a2n a2,.sc (.int .i64 a3)] [.r,.r,.r,.r,.r,.l,.r,.l] nn ⟨lk [(14,(.ptr 14 0)),(78,(.lst false 3 y0 y1)),(79,(.sc (.int .i64 y2))),(80,(.sc (.int .i64 y3)))],Bz [(14,(.st [(.sc (.string y4)),(.sc (.string y5)),(.sc (.int .u64 y6)),(.sc (.int .i64 y7)),(.sc (.int .u64 y8)),(.sc (.int .i64 y9)),(.sc (.int .i64 y10)),(.sc (.bool M2)),(.sc (.int .i64 Qo)),(.sc (.int .u64 Wu)),(.sc (.int .i64 Wr)),(.lst false 1 Wy Ws),(.lst false 1 Wq DQ)]))]⟩
theorem Jb (fu:Nat)(call:Ah)(a0n:Nat)(a0:List PV)(a1n:Nat)(a1:List PV)(a2n:Nat)(a2:List PV)(a3:Int)(nn y0:Nat)(y1:List PV)(y2:Nat)(y3:List PV)(y4:Nat)(y5:List PV)(y6:Int)(y7:Nat)(y8:List PV)(y9 y10:Int):Fj fu call a0n a0 a1n a1 a2n a2 a3 (nn+1) y0 y1 y2 y3 y4 y5 y6 y7 y8 y9 y10=(Bc (decide (y10<y9)) (Ao (decide (0<=y10)&&decide (y10<(↑y7:Int)))<|Dp (List.getD y8 (Int.toNat y10*13) .top) fun x1=>Dp (List.getD y8 (Int.toNat y10*13+1) .top) fun x2=>Ad .u64 (List.getD y8 (Int.toNat y10*13+1+1) .top) fun x3=>Ad .i64 (List.getD y8 (Int.toNat y10*13+1+1+1) .top) fun x4=>Ad .u64 (List.getD y8 (Int.toNat y10*13+1+1+1+1) .top) fun x5=>Ad .i64 (List.getD y8 (Int.toNat y10*13+1+1+1+1+1) .top) fun x6=>Ad .i64 (List.getD y8 (Int.toNat y10*13+1+1+1+1+1+1) .top) fun x7=>Bn (List.getD y8 (Int.toNat y10*13+1+1+1+1+1+1+1) .top) fun x8=>Ad .i64 (List.getD y8 (Int.toNat y10*13+1+1+1+1+1+1+1+1) .top) fun x9=>Ad .u64 (List.getD y8 (Int.toNat y10*13+1+1+1+1+1+1+1+1+1) .top) fun Cp=>Ad .i64 (List.getD y8 (Int.toNat y10*13+1+1+1+1+1+1+1+1+1+1) .top) fun C3=>Gk 1 (List.getD y8 (Int.toNat y10*13+1+1+1+1+1+1+1+1+1+1+1) .top) fun Dz Ed Dy=>Gk 1 (List.getD y8 (Int.toNat y10*13+1+1+1+1+1+1+1+1+1+1+1+1) .top) fun Ec Ej Fc=>Ai (call 26 [.agg [.sc (.string x1),.sc (.string x2),.sc (.int .u64 x3),.sc (.int .i64 x4),.sc (.int .u64 x5),.sc (.int .i64 x6),.sc (.int .i64 x7),.sc (.bool x8),.sc (.int .i64 x9),.sc (.int .u64 Cp),.sc (.int .i64 C3),.lst false 1 Ed Dy,.lst false 1 Ej Fc],.sc (.int .i64 y10),.lst false 3 y4 y5,.sc (.int .i64 y6)]) fun F2 F3=>Ac F3<|Ab F2 fun F8 Ij=>Ad .i64 F8 fun G6=>Ac Ij<|Bc (G6 != 0) (some (Aw.mk [.sc (.int .i64 0),.sc (.int .i64 G6)] [])) (Aa (wrap .i64 ((↑y0:Int)-1)) fun H7=>Bc (y10==H7) (Aa (wrap .i64 ((↑y0:Int)-1)) fun Dr=>Ao (decide (0<=Dr)&&decide (Dr<(↑y0:Int)))<|Dp (List.getD y1 (Int.toNat Dr*13) .top) fun Dl=>Dp (List.getD y1 (Int.toNat Dr*13+1) .top) fun G7=>Ad .u64 (List.getD y1 (Int.toNat Dr*13+1+1) .top) fun Il=>Ad .i64 (List.getD y1 (Int.toNat Dr*13+1+1+1) .top) fun E1=>Ad .u64 (List.getD y1 (Int.toNat Dr*13+1+1+1+1) .top) fun Mi=>Ad .i64 (List.getD y1 (Int.toNat Dr*13+1+1+1+1+1) .top) fun Nd=>Ad .i64 (List.getD y1 (Int.toNat Dr*13+1+1+1+1+1+1) .top) fun Lf=>Bn (List.getD y1 (Int.toNat Dr*13+1+1+1+1+1+1+1) .top) fun Mv=>Ad .i64 (List.getD y1 (Int.toNat Dr*13+1+1+1+1+1+1+1+1) .top) fun Nv=>Ad .u64 (List.getD y1 (Int.toNat Dr*13+1+1+1+1+1+1+1+1+1) .top) fun Oa=>Ad .i64 (List.getD y1 (Int.toNat Dr*13+1+1+1+1+1+1+1+1+1+1) .top) fun Pp=>Gk 1 (List.getD y1 (Int.toNat Dr*13+1+1+1+1+1+1+1+1+1+1+1) .top) fun Rh Rw Gg=>Gk 1 (List.getD y1 (Int.toNat Dr*13+1+1+1+1+1+1+1+1+1+1+1+1) .top) fun Hv Ug Yw=>Di fu call a0n a0 a1n a1 a2n a2 a3 (fu) (y2) (y3) ((↑y2:Int)) 0 Dl G7 Il E1 Mi Nd Lf Mv Nv Oa Pp Rw Gg Ug Yw) (Aa (wrap .i64 (y10+1)) fun Kw=>Ao (decide (0<=Kw)&&decide (Kw<(↑y0:Int)))<|Dp (List.getD y1 (Int.toNat Kw*13+0) .top) fun Uo=>Bc (!Array.toList (ByteArray.data x2)==Array.toList (ByteArray.data Uo)) (some (Aw.mk [.sc (.int .i64 0),.sc (.int .i64 38)] [])) (Aa (wrap .i64 (y10+1)) fun S7=>Ao (decide (0<=S7)&&decide (S7<(↑y0:Int)))<|Ad .i64 (List.getD y1 (Int.toNat S7*13+3) .top) fun Sh=>Ad .u64 (List.getD y1 (Int.toNat S7*13+3+1) .top) fun Sf=>Ai (call 27 [.agg [.sc (.string x1),.sc (.string x2),.sc (.int .u64 x3),.sc (.int .i64 x4),.sc (.int .u64 x5),.sc (.int .i64 x6),.sc (.int .i64 x7),.sc (.bool x8),.sc (.int .i64 x9),.sc (.int .u64 Cp),.sc (.int .i64 C3),.lst false 1 Ed Dy,.lst false 1 Ej Fc],.agg [.sc (.int .i64 Sh),.sc (.int .u64 Sf)]]) fun Wx Xr=>Ac Xr<|Ab Wx fun R8 Ve=>Ad .i64 R8 fun Ww=>Ac Ve<|Bc (Ww != 0) (some (Aw.mk [.sc (.int .i64 0),.sc (.int .i64 Ww)] [])) (Aa (wrap .i64 (y10+1)) fun Wt=>Fj fu call a0n a0 a1n a1 a2n a2 a3 (nn) (y0) (y1) (y2) (y3) (y4) (y5) (y6) (y7) (y8) (y9) Wt))))) (Aa (wrap .i64 ((↑y0:Int)-1)) fun Oi=>Ao (decide (0<=Oi)&&decide (Oi<(↑y0:Int)))<|Dp (List.getD y1 (Int.toNat Oi*13) .top) fun Y9=>Dp (List.getD y1 (Int.toNat Oi*13+1) .top) fun DO=>Ad .u64 (List.getD y1 (Int.toNat Oi*13+1+1) .top) fun Zt=>Ad .i64 (List.getD y1 (Int.toNat Oi*13+1+1+1) .top) fun BN=>Ad .u64 (List.getD y1 (Int.toNat Oi*13+1+1+1+1) .top) fun Ut=>Ad .i64 (List.getD y1 (Int.toNat Oi*13+1+1+1+1+1) .top) fun V8=>Ad .i64 (List.getD y1 (Int.toNat Oi*13+1+1+1+1+1+1) .top) fun Z7=>Bn (List.getD y1 (Int.toNat Oi*13+1+1+1+1+1+1+1) .top) fun Zb=>Ad .i64 (List.getD y1 (Int.toNat Oi*13+1+1+1+1+1+1+1+1) .top) fun Tz=>Ad .u64 (List.getD y1 (Int.toNat Oi*13+1+1+1+1+1+1+1+1+1) .top) fun Zi=>Ad .i64 (List.getD y1 (Int.toNat Oi*13+1+1+1+1+1+1+1+1+1+1) .top) fun Y3=>Gk 1 (List.getD y1 (Int.toNat Oi*13+1+1+1+1+1+1+1+1+1+1+1) .top) fun Zs Wp Vk=>Gk 1 (List.getD y1 (Int.toNat Oi*13+1+1+1+1+1+1+1+1+1+1+1+1) .top) fun DS CC Zg=>Di fu call a0n a0 a1n a1 a2n a2 a3 (fu) (y2) (y3) ((↑y2:Int)) 0 Y9 DO Zt BN Ut V8 Z7 Zb Tz Zi Y3 Wp Vk CC Zg)):=by kernel_rfl
theorem Je (fu:Nat)(call:Ah)(a0n:Nat)(a0:List PV)(a1n:Nat)(a1:List PV)(a2n:Nat)(a2:List PV)(a3:Int)(nn y0:Nat)(y1:List PV)(y2 y3:Int)(y4 y5:ByteArray)(y6 y7:Int)(y8 y9 y10:Int)(M2:Bool)(Qo Wu Wr:Int)(Wy:Nat)(Ws:List PV)(Wq:Nat)(DQ:List PV):Di fu call a0n a0 a1n a1 a2n a2 a3 (nn+1) y0 y1 y2 y3 y4 y5 y6 y7 y8 y9 y10 M2 Qo Wu Wr Wy Ws Wq DQ=(Bc (decide (y3<y2)) (Ao (decide (0<=y3)&&decide (y3<(↑y0:Int)))<|Dp (List.getD y1 (Int.toNat y3*3) .top) fun Yl=>Ad .i64 (List.getD y1 (Int.toNat y3*3+1) .top) fun CM=>Ad .u64 (List.getD y1 (Int.toNat y3*3+1+1) .top) fun HC=>Bc (Array.toList (ByteArray.data Yl)==Array.toList (ByteArray.data y5)) (Ai (call 27 [.agg [.sc (.string y4),.sc (.string y5),.sc (.int .u64 y6),.sc (.int .i64 y7),.sc (.int .u64 y8),.sc (.int .i64 y9),.sc (.int .i64 y10),.sc (.bool M2),.sc (.int .i64 Qo),.sc (.int .u64 Wu),.sc (.int .i64 Wr),.lst false 1 Wy Ws,.lst false 1 Wq DQ],.agg [.sc (.int .i64 CM),.sc (.int .u64 HC)]]) fun CE EN=>Ac EN<|Ab CE fun IW BL=>Ad .i64 IW fun Vg=>Ac BL<|Bc (Vg==0) (some (Aw.mk [.sc (.int .i64 y3),.sc (.int .i64 0)] [])) (Aa (wrap .i64 (y3+1)) fun MO=>Di fu call a0n a0 a1n a1 a2n a2 a3 (nn) (y0) (y1) (y2) MO (y4) (y5) (y6) (y7) (y8) (y9) (y10) (M2) (Qo) (Wu) (Wr) (Wy) (Ws) (Wq) (DQ))) (Aa (wrap .i64 (y3+1)) fun KT=>Di fu call a0n a0 a1n a1 a2n a2 a3 (nn) (y0) (y1) (y2) KT (y4) (y5) (y6) (y7) (y8) (y9) (y10) (M2) (Qo) (Wu) (Wr) (Wy) (Ws) (Wq) (DQ))) (some (Aw.mk [.sc (.int .i64 0),.sc (.int .i64 38)] []))):=by kernel_rfl
theorem V0 (fu d a0n:Nat)(a0:List PV)(a1n:Nat)(a1:List PV)(a2n:Nat)(a2:List PV)(a3:Int):Ae C0 Tryd.prog fu (d+1) Nu [.lst false 13 a0n a0,.lst false 3 a1n a1,.lst false 3 a2n a2,.sc (.int .i64 a3)]=(fun (call:Ah)=>Bc (decide (a3<0)) (some (Aw.mk [.sc (.int .i64 0),.sc (.int .i64 9)] [])) (Bc (decide (a3>1099511627776)) (some (Aw.mk [.sc (.int .i64 0),.sc (.int .i64 9)] [])) (Bc (decide ((↑a0n:Int)<1)) (some (Aw.mk [.sc (.int .i64 0),.sc (.int .i64 38)] [])) (Bc (decide ((↑a0n:Int)>3)) (some (Aw.mk [.sc (.int .i64 0),.sc (.int .i64 38)] [])) (Fj fu call a0n a0 a1n a1 a2n a2 a3 (fu) (a0n) (a0) (a1n) (a1) (a2n) (a2) (a3) (a0n) (a0) ((↑a0n:Int)) 0))))) (Ae C0 Tryd.prog fu d):=by kernel_rfl
abbrev Vh:FuncId:=24
theorem JI (fu d a0n:Nat)(a0:List PV)(a1n:Nat)(a1:List PV):Ae C0 Tryd.prog fu (d+1) Vh [.lst false 1 a0n a0,.lst false 1 a1n a1]=(fun (call:Ah)=>Ao (decide (a0.length=a0n))<|D3 (bytesOf a0) fun x1=>Ao (decide (a1.length=a1n))<|D3 (bytesOf a1) fun x2=>some (Aw.mk [.sc (.bool (Array.toList (ByteArray.data (ByteArray.mk (List.toArray x1)))==Array.toList (ByteArray.data (ByteArray.mk (List.toArray x2)))))] [])) (Ae C0 Tryd.prog fu d):=by kernel_rfl
end
section
open Go.IntKind (wrap)
theorem ST {c:Ce}{e:Int}(h:A7 c=e)(he:e≠0):Iy c=[.own 1 0 [],.sc (.int .i64 e)]:=by
 unfold Iy;rw [h,A9 he]
theorem D1 {c:Ce}{e:Int}(h:A7 c=e)(he:e≠0):some (Aw.mk [.own 1 0 [],.sc (.int .i64 e)] [])=some (Aw.mk (Iy c) []):=by
 rw [ST h he]
def S9 (c:Ce):List It:=[⟨4,0,c.subj⟩,⟨4,0,c.iss⟩,⟨1,c.serial,Fv⟩,⟨3,0,Cu (Ma c.key)⟩,⟨1,c.fr,Fv⟩,⟨1,c.un,Fv⟩,⟨7,(if c.auth=true then 1 else 0),Fv⟩,⟨1,c.path,Fv⟩,⟨1,c.model,Fv⟩]
theorem CA {c:Ce}(hw:c.wf)(h:A7 c=0):∀x∈S9 c,RK x:=by
 unfold A7 at h;have kl:(Cu (Ma c.key)).size=9:=by rw [Hf];rfl
 have ns:Fv.size=0:=rfl;have hs:=hw.ser;have hm:=hw.mod;have es:PP Fv=true:=rfl;by_cases e1:c.subj.size<1∨32<c.subj.size
 ·rw [Cc e1] at h;cases h
 rw [A9 e1] at h;by_cases e2:c.iss.size<1∨32<c.iss.size
 ·rw [Cc e2] at h;cases h
 rw [A9 e2] at h;by_cases e3:VC c.subj=false
 ·rw [Cc e3] at h;cases h
 rw [A9 e3] at h;by_cases e4:VC c.iss=false
 ·rw [Cc e4] at h;cases h
 rw [A9 e4] at h
 repeat' (split at h;· cases h)
 rw [Bool.not_eq_false] at e3 e4;intro x hx;simp only [S9,List.mem_cons,List.not_mem_nil,or_false] at hx;rcases hx with rfl|rfl|rfl|rfl|rfl|rfl|rfl|rfl|rfl
 ·exact ⟨by simp,by simp only;omega,fun _=>e3,by simp [Fm],by simp⟩
 ·exact ⟨by simp,by simp only;omega,fun _=>e4,by simp [Fm],by simp⟩
 ·exact ⟨by simp,by simp only [ns];omega,fun h=>by simp at h,by simp [Fm,es],hs⟩
 ·exact ⟨by simp,by simp only [kl];omega,fun h=>by simp at h,by simp [Fm],by simp⟩
 ·exact ⟨by simp,by simp only [ns];omega,fun h=>by simp at h,by simp [Fm,es],by simp only;omega⟩
 ·exact ⟨by simp,by simp only [ns];omega,fun h=>by simp at h,by simp [Fm,es],by simp only;omega⟩
 ·exact ⟨by simp,by simp only [ns];omega,fun h=>by simp at h,by simp [Fm,es];split<;>omega,by simp only;split<;>omega⟩
 ·exact ⟨by simp,by simp only [ns];omega,fun h=>by simp at h,by simp [Fm,es],by simp only;omega⟩
 ·exact ⟨by simp,by simp only [ns];omega,fun h=>by simp at h,by simp [Fm,es],hm⟩
theorem Wb {c:Ce}(hw:c.wf)(h:A7 c=0):Mw [] 0 (Be c):=Acn (r:=S9 c) (by simp [S9]) (by simp [S9]) (CA hw h)
section
variable {fu d:Nat}
theorem SL (s:ByteArray):Ae C0 Tryd.prog fu (d+1) BO [.sc (.string s)]=some ⟨[.own 3 1 (Cb [⟨4,0,s⟩])],[]⟩:=by rw [TS];rfl
theorem Sl (n:Int):Ae C0 Tryd.prog fu (d+1) BI [.sc (.int .u64 n)]=some ⟨[.own 3 1 (Cb [⟨1,n,Fv⟩])],[]⟩:=by rw [SA];rfl
theorem Ad0 (b:Bool):Ae C0 Tryd.prog fu (d+1) CJ [.sc (.bool b)]=some ⟨[.own 3 1 (Cb [⟨7,(if b=true then 1 else 0),Fv⟩])],[]⟩:=by rw [TL];cases b<;>rfl
theorem Ab5 (l:List Int):Ae C0 Tryd.prog fu (d+1) Xv [.lst false 1 l.length (Ag .u8 l)]=some ⟨[.own 3 1 (Cb [⟨3,0,Cu l⟩])],[]⟩:=by
 rw [OE];have L:=Al .u8 l;have bo:=G2 l;simp (disch:=omega) only [Ca,L,bo];rfl
theorem UW (hfu:1000<=fu){c:Ce}(hw:c.wf)(hs1:c.subj.size<=9223372036854775807)(hs2:c.iss.size<=9223372036854775807)(e1:¬(c.subj.size<1∨32<c.subj.size)) (e2:¬(c.iss.size<1∨32<c.iss.size)) (nn:Nat):
  Eh fu (Ae C0 Tryd.prog fu (d+6)) c.subj c.iss c.serial c.key.h c.key.root c.fr c.un c.auth c.path c.model c.sig.leaf c.sig.chains.length (Ag .u64 c.sig.chains) c.sig.path.length (Ag .u64 c.sig.path) (nn+1) c.subj c.iss 2 c.subj c.iss c.serial c.key.h c.key.root c.fr c.un c.auth c.path c.model c.sig.leaf c.sig.chains.length (Ag .u64 c.sig.chains) c.sig.path.length (Ag .u64 c.sig.path)=some ⟨Iy c,[]⟩:=by
 have v1:=Sm (fu:=fu) (d:=d+5) c.subj hs1;have v2:=Sm (fu:=fu) (d:=d+5) c.iss hs2;have ek:=Aac (xs:=Kk) (fu:=fu) (d:=d+4) hfu c.key;simp only [Ky.cells] at ek;have e90:((9:Int) != 0)=true:=rfl;have e00:((0:Int) != 0)=false:=rfl;rw [Dt,Dx _ _ _ (by omega)]
 cases e3:VC c.subj
 ·have hb:A7 c=6:=by unfold A7;rw [A9 e1,A9 e2,Cc e3]
  rw [e3] at v1;rw [←D1 hb (by omega)]
  try unfold Aa
  repeat first
   |((with_reducible first|apply Ay|apply Ar|apply A4|apply A6|apply Bb|apply Bl|apply D8|apply As);· first|with_reducible rfl|(simp (disch:=omega) only [v1,D9,Ge]<;>with_reducible rfl))
   |((with_reducible first|apply A0|apply A3);· first|with_reducible rfl|omega|(simp (disch:=omega) only [gT,v1,D9,Ge]<;>omega))
   |(with_reducible apply Az;· first|with_reducible rfl|(simp (disch:=omega) only [gF,v1,D9,Ge]<;>omega))
  try simp (disch:=omega) only [v1,D9,Ge]
 rw [e3] at v1;cases e4:VC c.iss
 ·have hb:A7 c=6:=by unfold A7;rw [A9 e1,A9 e2,A9 (by simp [e3]),Cc e4]
  rw [e4] at v2;rw [←D1 hb (by omega)]
  try unfold Aa
  repeat first
   |((with_reducible first|apply Ay|apply Ar|apply A4|apply A6|apply Bb|apply Bl|apply D8|apply As);· first|with_reducible rfl|(simp (disch:=omega) only [v1,v2,D9,Ge]<;>with_reducible rfl))
   |((with_reducible first|apply A0|apply A3);· first|with_reducible rfl|omega|(simp (disch:=omega) only [gT,v1,v2,D9,Ge]<;>omega))
   |(with_reducible apply Az;· first|with_reducible rfl|(simp (disch:=omega) only [gF,v1,v2,D9,Ge]<;>omega))
  try simp (disch:=omega) only [v1,v2,D9,Ge]
 rw [e4] at v2;cases e5:C4 c.key.h
 rotate_left
 ·have hb:A7 c=9:=by unfold A7;rw [A9 e1,A9 e2,A9 (by simp [e3]),A9 (by simp [e4]),Cc e5]
  rw [e5,Cc rfl] at ek;rw [←D1 hb (by omega)]
  try unfold Aa
  repeat first
   |((with_reducible first|apply Ay|apply Ar|apply A4|apply A6|apply Bb|apply Bl|apply D8|apply As);· first|with_reducible rfl|(simp (disch:=omega) only [v1,v2,ek,e90,D9,Ge]<;>with_reducible rfl))
   |((with_reducible first|apply A0|apply A3);· first|with_reducible rfl|omega|(simp (disch:=omega) only [gT,v1,v2,ek,e90,D9,Ge]<;>omega))
   |(with_reducible apply Az;· first|with_reducible rfl|(simp (disch:=omega) only [gF,v1,v2,ek,e90,D9,Ge]<;>omega))
  try simp (disch:=omega) only [v1,v2,ek,e90,D9,Ge]
 rw [e5,A9 (by simp)] at ek
 have B0:A7 c=if c.fr<0 then 9 else if c.un<c.fr then 9 else if c.un>1099511627776 then 9 else if c.path<0∨2<c.path then 9 else if c.path≠0∧c.auth=false then 4 else 0:=by
  unfold A7;rw [A9 e1,A9 e2,A9 (by simp [e3]),A9 (by simp [e4]),A9 (by simp [e5])]
 by_cases e6:c.fr<0
 ·have hb:A7 c=9:=by rw [B0,Cc e6]
  rw [←D1 hb (by omega)]
  try unfold Aa
  repeat first
   |((with_reducible first|apply Ay|apply Ar|apply A4|apply A6|apply Bb|apply Bl|apply D8|apply As);· first|with_reducible rfl|(simp (disch:=omega) only [v1,v2,ek,e00,D9,Ge]<;>with_reducible rfl))
   |((with_reducible first|apply A0|apply A3);· first|with_reducible rfl|omega|(simp (disch:=omega) only [gT,v1,v2,ek,e00,D9,Ge]<;>omega))
   |(with_reducible apply Az;· first|with_reducible rfl|(simp (disch:=omega) only [gF,v1,v2,ek,e00,D9,Ge]<;>omega))
  try simp (disch:=omega) only [v1,v2,ek,e00,D9,Ge]
 by_cases e7:c.un<c.fr
 ·have hb:A7 c=9:=by rw [B0,A9 e6,Cc e7]
  rw [←D1 hb (by omega)]
  try unfold Aa
  repeat first
   |((with_reducible first|apply Ay|apply Ar|apply A4|apply A6|apply Bb|apply Bl|apply D8|apply As);· first|with_reducible rfl|(simp (disch:=omega) only [v1,v2,ek,e00,D9,Ge]<;>with_reducible rfl))
   |((with_reducible first|apply A0|apply A3);· first|with_reducible rfl|omega|(simp (disch:=omega) only [gT,v1,v2,ek,e00,D9,Ge]<;>omega))
   |(with_reducible apply Az;· first|with_reducible rfl|(simp (disch:=omega) only [gF,v1,v2,ek,e00,D9,Ge]<;>omega))
  try simp (disch:=omega) only [v1,v2,ek,e00,D9,Ge]
 by_cases e8:c.un>1099511627776
 ·have hb:A7 c=9:=by rw [B0,A9 e6,A9 e7,Cc e8]
  rw [←D1 hb (by omega)]
  try unfold Aa
  repeat first
   |((with_reducible first|apply Ay|apply Ar|apply A4|apply A6|apply Bb|apply Bl|apply D8|apply As);· first|with_reducible rfl|(simp (disch:=omega) only [v1,v2,ek,e00,D9,Ge]<;>with_reducible rfl))
   |((with_reducible first|apply A0|apply A3);· first|with_reducible rfl|omega|(simp (disch:=omega) only [gT,v1,v2,ek,e00,D9,Ge]<;>omega))
   |(with_reducible apply Az;· first|with_reducible rfl|(simp (disch:=omega) only [gF,v1,v2,ek,e00,D9,Ge]<;>omega))
  try simp (disch:=omega) only [v1,v2,ek,e00,D9,Ge]
 by_cases e9:c.path<0∨2<c.path
 ·have hb:A7 c=9:=by rw [B0,A9 e6,A9 e7,A9 e8,Cc e9]
  rw [←D1 hb (by omega)]
  by_cases e9':c.path<0
  ·skip
   try unfold Aa
   repeat first
    |((with_reducible first|apply Ay|apply Ar|apply A4|apply A6|apply Bb|apply Bl|apply D8|apply As);· first|with_reducible rfl|(simp (disch:=omega) only [v1,v2,ek,e00,D9,Ge]<;>with_reducible rfl))
    |((with_reducible first|apply A0|apply A3);· first|with_reducible rfl|omega|(simp (disch:=omega) only [gT,v1,v2,ek,e00,D9,Ge]<;>omega))
    |(with_reducible apply Az;· first|with_reducible rfl|(simp (disch:=omega) only [gF,v1,v2,ek,e00,D9,Ge]<;>omega))
   try simp (disch:=omega) only [v1,v2,ek,e00,D9,Ge]
  ·skip
   try unfold Aa
   repeat first
    |((with_reducible first|apply Ay|apply Ar|apply A4|apply A6|apply Bb|apply Bl|apply D8|apply As);· first|with_reducible rfl|(simp (disch:=omega) only [v1,v2,ek,e00,D9,Ge]<;>with_reducible rfl))
    |((with_reducible first|apply A0|apply A3);· first|with_reducible rfl|omega|(simp (disch:=omega) only [gT,v1,v2,ek,e00,D9,Ge]<;>omega))
    |(with_reducible apply Az;· first|with_reducible rfl|(simp (disch:=omega) only [gF,v1,v2,ek,e00,D9,Ge]<;>omega))
   try simp (disch:=omega) only [v1,v2,ek,e00,D9,Ge]
 by_cases e10:c.path≠0∧c.auth=false
 ·have hb:A7 c=4:=by rw [B0,A9 e6,A9 e7,A9 e8,A9 e9,Cc e10]
  have ea:=e10.2;have ep:(c.path != 0)=true:=by simp [e10.1]
  rw [←D1 hb (by omega)]
  try unfold Aa
  repeat first
   |((with_reducible first|apply Ay|apply Ar|apply A4|apply A6|apply Bb|apply Bl|apply D8|apply As);· first|with_reducible rfl|(simp (disch:=omega) only [v1,v2,ek,e00,ep,ea,D9,Ge]<;>with_reducible rfl))
   |((with_reducible first|apply A0|apply A3);· first|with_reducible rfl|omega|(simp (disch:=omega) only [gT,v1,v2,ek,e00,ep,ea,D9,Ge]<;>omega))
   |(with_reducible apply Az;· first|with_reducible rfl|(simp (disch:=omega) only [gF,v1,v2,ek,e00,ep,ea,D9,Ge]<;>omega))
  try simp (disch:=omega) only [v1,v2,ek,e00,ep,ea,D9,Ge]
 have hz:A7 c=0:=by rw [B0,A9 e6,A9 e7,A9 e8,A9 e9,A9 e10]
 have hfl:=CA hw hz
 have ar:=XO (fu:=fu) (d:=d) hfu (vs:=(S9 c).map fun x=>[x]) (by
  intro v hv;obtain ⟨x,hx,rfl⟩:=List.mem_map.1 hv;exact ⟨Acp (hfl x hx),by simp⟩) (by simp [S9]) (Wb hw hz) (by simp [S9])
 have en:=QM (fu:=fu) (d:=d+1) hfu (l:=Be c) (by simp [Be]) (by simp [Be];omega) (Wb hw hz) (fun x hx=>(FX hw hz x hx).1) (Nat.le_trans (O1 hz) (by omega))
 have ar':Ae C0 Tryd.prog fu (d+6) Q3 [.lst false 1 9 [.lst false 3 1 (Cb [⟨4,0,c.subj⟩]),.lst false 3 1 (Cb [⟨4,0,c.iss⟩]),.lst false 3 1 (Cb [⟨1,c.serial,Fv⟩]),.lst false 3 1 (Cb [⟨3,0,Cu (Ma c.key)⟩]),.lst false 3 1 (Cb [⟨1,c.fr,Fv⟩]),.lst false 3 1 (Cb [⟨1,c.un,Fv⟩]),.lst false 3 1 (Cb [⟨7,(if c.auth=true then 1 else 0),Fv⟩]),.lst false 3 1 (Cb [⟨1,c.path,Fv⟩]),.lst false 3 1 (Cb [⟨1,c.model,Fv⟩])]]=some ⟨[.own 3 10 (Cb (Be c)),.sc (.int .i64 0)],[]⟩:=ar
 have en':Ae C0 Tryd.prog fu (d+1+5) Pq [.lst false 3 10 (Cb (Be c))]=some ⟨[.own 1 (Br (Be c)).length (Ag .u8 (Br (Be c))),.sc (.int .i64 0)],[]⟩:=en;clear ar en hfl;have t1:=SL (fu:=fu) (d:=d+5) c.subj;have t2:=SL (fu:=fu) (d:=d+5) c.iss;have u1:=Sl (fu:=fu) (d:=d+5) c.serial;have u2:=Sl (fu:=fu) (d:=d+5) c.fr;have u3:=Sl (fu:=fu) (d:=d+5) c.un;have u4:=Sl (fu:=fu) (d:=d+5) c.path;have u5:=Sl (fu:=fu) (d:=d+5) c.model;have bo:=Ad0 (fu:=fu) (d:=d+5) c.auth;have by_:=Ab5 (fu:=fu) (d:=d+5) (Ma c.key);have k9:(Ma c.key).length=9:=rfl;rw [k9] at by_;have L9:=Al .u8 (Ma c.key);rw [k9] at L9;have tk9:List.take 9 (Ag .u8 (Ma c.key))=Ag .u8 (Ma c.key):=Wz (by omega)
 have wf:wrap .u64 c.fr=c.fr:=Dc (by omega) (by omega)
 have wu:wrap .u64 c.un=c.un:=Dc (by omega) (by omega)
 have wp:wrap .u64 c.path=c.path:=Dc (by omega) (by omega)
 have R:Iy c=[.own 1 (Br (Be c)).length (Ag .u8 (Br (Be c))),.sc (.int .i64 0)]:=by unfold Iy;rw [hz,Cc rfl]
 have LB:=Al .u8 (Br (Be c));have tB:=Nz .u8 (Br (Be c));rw [R];generalize Br (Be c)=W at en' LB tB ⊢;have LI:(Cb (Be c)).length=30:=rfl;have tI:List.take 30 (Cb (Be c))=Cb (Be c):=rfl;generalize Cb (Be c)=I at ar' en' LI tI;have K:∀x:It,List.take 3 (Cb [x])=Cb [x]:=fun _=>rfl
 have N:∀x:It,(Cb [x]).length=3:=fun _=>rfl
 have K1:=K ⟨4,0,c.subj⟩;have K2:=K ⟨4,0,c.iss⟩;have K3:=K ⟨1,c.serial,Fv⟩;have K4:=K ⟨3,0,Cu (Ma c.key)⟩;have K5:=K ⟨1,c.fr,Fv⟩;have K6:=K ⟨1,c.un,Fv⟩;have K7:=K ⟨7,(if c.auth=true then 1 else 0),Fv⟩
 have K8:=K ⟨1,c.path,Fv⟩;have K9:=K ⟨1,c.model,Fv⟩;have N1:=N ⟨4,0,c.subj⟩;have N2:=N ⟨4,0,c.iss⟩;have N3:=N ⟨1,c.serial,Fv⟩;have N4:=N ⟨3,0,Cu (Ma c.key)⟩;have N5:=N ⟨1,c.fr,Fv⟩;have N6:=N ⟨1,c.un,Fv⟩;have N7:=N ⟨7,(if c.auth=true then 1 else 0),Fv⟩
 have N8:=N ⟨1,c.path,Fv⟩;have N9:=N ⟨1,c.model,Fv⟩;generalize Cb [⟨4,0,c.subj⟩]=T1 at *
 generalize Cb [⟨4,0,c.iss⟩]=T2 at *
 generalize Cb [⟨1,c.serial,Fv⟩]=T3 at *
 generalize Cb [⟨3,0,Cu (Ma c.key)⟩]=T4 at *
 generalize Cb [⟨1,c.fr,Fv⟩]=T5 at *
 generalize Cb [⟨1,c.un,Fv⟩]=T6 at *
 generalize Cb [⟨7,(if c.auth=true then 1 else 0),Fv⟩]=T7 at *
 generalize Cb [⟨1,c.path,Fv⟩]=T8 at *
 generalize Cb [⟨1,c.model,Fv⟩]=T9 at *
 generalize Ag .u8 (Ma c.key)=KB at *
 by_cases ep:c.path=0
 ·have ep':(c.path != 0)=false:=by simp [ep]
  try unfold Aa
  repeat first
   |((with_reducible first|apply Ay|apply Ar|apply A4|apply A6|apply Bb|apply Bl|apply D8|apply As);· first|with_reducible rfl|(simp (disch:=omega) only [v1,v2,ek,e00,ep',t1,t2,u1,u2,u3,u4,u5,bo,by_,wf,wu,wp,L9,tk9,K1,K2,K3,K4,K5,K6,K7,K8,K9,N1,N2,N3,N4,N5,N6,N7,N8,N9,C2,Nat.one_mul,Cd,Nat.reduceMul,Ew,ar',LI,tI,en',LB,tB,D9,Ge]<;>with_reducible rfl))
   |((with_reducible first|apply A0|apply A3);· first|with_reducible rfl|omega|(simp (disch:=omega) only [gT,v1,v2,ek,e00,ep',t1,t2,u1,u2,u3,u4,u5,bo,by_,wf,wu,wp,L9,tk9,K1,K2,K3,K4,K5,K6,K7,K8,K9,N1,N2,N3,N4,N5,N6,N7,N8,N9,C2,Nat.one_mul,Cd,Nat.reduceMul,Ew,ar',LI,tI,en',LB,tB,D9,Ge]<;>omega))
   |(with_reducible apply Az;· first|with_reducible rfl|(simp (disch:=omega) only [gF,v1,v2,ek,e00,ep',t1,t2,u1,u2,u3,u4,u5,bo,by_,wf,wu,wp,L9,tk9,K1,K2,K3,K4,K5,K6,K7,K8,K9,N1,N2,N3,N4,N5,N6,N7,N8,N9,C2,Nat.one_mul,Cd,Nat.reduceMul,Ew,ar',LI,tI,en',LB,tB,D9,Ge]<;>omega))
  try simp (disch:=omega) only [v1,v2,ek,e00,ep',t1,t2,u1,u2,u3,u4,u5,bo,by_,wf,wu,wp,L9,tk9,K1,K2,K3,K4,K5,K6,K7,K8,K9,N1,N2,N3,N4,N5,N6,N7,N8,N9,C2,Nat.one_mul,Cd,Nat.reduceMul,Ew,ar',LI,tI,en',LB,tB,D9,Ge]
 ·have ea:c.auth=true:=by
   cases h:c.auth
   ·exact absurd ⟨ep,h⟩ e10
   ·rfl
  have ep':(c.path != 0)=true:=by simp [ep]
  rw [ea] at bo
  try unfold Aa
  repeat first
   |((with_reducible first|apply Ay|apply Ar|apply A4|apply A6|apply Bb|apply Bl|apply D8|apply As);· first|with_reducible rfl|(simp (disch:=omega) only [v1,v2,ek,e00,ep',ea,t1,t2,u1,u2,u3,u4,u5,bo,by_,wf,wu,wp,L9,tk9,K1,K2,K3,K4,K5,K6,K7,K8,K9,N1,N2,N3,N4,N5,N6,N7,N8,N9,C2,Nat.one_mul,Cd,Nat.reduceMul,Ew,ar',LI,tI,en',LB,tB,D9,Ge]<;>with_reducible rfl))
   |((with_reducible first|apply A0|apply A3);· first|with_reducible rfl|omega|(simp (disch:=omega) only [gT,v1,v2,ek,e00,ep',ea,t1,t2,u1,u2,u3,u4,u5,bo,by_,wf,wu,wp,L9,tk9,K1,K2,K3,K4,K5,K6,K7,K8,K9,N1,N2,N3,N4,N5,N6,N7,N8,N9,C2,Nat.one_mul,Cd,Nat.reduceMul,Ew,ar',LI,tI,en',LB,tB,D9,Ge]<;>omega))
   |(with_reducible apply Az;· first|with_reducible rfl|(simp (disch:=omega) only [gF,v1,v2,ek,e00,ep',ea,t1,t2,u1,u2,u3,u4,u5,bo,by_,wf,wu,wp,L9,tk9,K1,K2,K3,K4,K5,K6,K7,K8,K9,N1,N2,N3,N4,N5,N6,N7,N8,N9,C2,Nat.one_mul,Cd,Nat.reduceMul,Ew,ar',LI,tI,en',LB,tB,D9,Ge]<;>omega))
  try simp (disch:=omega) only [v1,v2,ek,e00,ep',ea,t1,t2,u1,u2,u3,u4,u5,bo,by_,wf,wu,wp,L9,tk9,K1,K2,K3,K4,K5,K6,K7,K8,K9,N1,N2,N3,N4,N5,N6,N7,N8,N9,C2,Nat.one_mul,Cd,Nat.reduceMul,Ew,ar',LI,tI,en',LB,tB,D9,Ge]
theorem XN (hfu:1000<=fu){c:Ce}(hw:c.wf)(hs1:c.subj.size<=9223372036854775807)(hs2:c.iss.size<=9223372036854775807)(nn:Nat)(hn:3<=nn):
  Eh fu (Ae C0 Tryd.prog fu (d+6)) c.subj c.iss c.serial c.key.h c.key.root c.fr c.un c.auth c.path c.model c.sig.leaf c.sig.chains.length (Ag .u64 c.sig.chains) c.sig.path.length (Ag .u64 c.sig.path) nn c.subj c.iss 0 c.subj c.iss c.serial c.key.h c.key.root c.fr c.un c.auth c.path c.model c.sig.leaf c.sig.chains.length (Ag .u64 c.sig.chains) c.sig.path.length (Ag .u64 c.sig.path)=some ⟨Iy c,[]⟩:=by
 obtain ⟨m,rfl⟩:∃m,nn=m+1+1+1:=⟨nn-3,by omega⟩
 have g0:List.getD [PV.sc (Value.string c.subj),PV.sc (Value.string c.iss)] (Int.toNat (0:Int)*1) PV.top=.sc (.string c.subj):=rfl;have g1:List.getD [PV.sc (Value.string c.subj),PV.sc (Value.string c.iss)] (Int.toNat (1:Int)*1) PV.top=.sc (.string c.iss):=rfl;have i1:wrap .i64 ((0:Int)+1)=1:=rfl;have i2:wrap .i64 ((1:Int)+1)=2:=rfl;by_cases e1:c.subj.size<1∨32<c.subj.size
 ·have hb:A7 c=9:=by unfold A7;rw [Cc e1]
  rw [←D1 hb (by omega),Dt]
  by_cases e1':c.subj.size<1
  ·skip
   try unfold Aa
   repeat first
    |((with_reducible first|apply Ay|apply Ar|apply A4|apply A6|apply Bb|apply Bl|apply D8|apply As);· first|with_reducible rfl|(simp (disch:=omega) only [g0]<;>with_reducible rfl))
    |((with_reducible first|apply A0|apply A3);· first|with_reducible rfl|omega|(simp (disch:=omega) only [gT,g0]<;>omega))
    |(with_reducible apply Az;· first|with_reducible rfl|(simp (disch:=omega) only [gF,g0]<;>omega))
   try simp (disch:=omega) only [g0]
  ·skip
   try unfold Aa
   repeat first
    |((with_reducible first|apply Ay|apply Ar|apply A4|apply A6|apply Bb|apply Bl|apply D8|apply As);· first|with_reducible rfl|(simp (disch:=omega) only [g0]<;>with_reducible rfl))
    |((with_reducible first|apply A0|apply A3);· first|with_reducible rfl|omega|(simp (disch:=omega) only [gT,g0]<;>omega))
    |(with_reducible apply Az;· first|with_reducible rfl|(simp (disch:=omega) only [gF,g0]<;>omega))
   try simp (disch:=omega) only [g0]
 rw [Dt];by_cases e2:c.iss.size<1∨32<c.iss.size
 ·have hb:A7 c=9:=by unfold A7;rw [A9 e1,Cc e2]
  rw [←D1 hb (by omega)]
  try unfold Aa
  repeat first
   |((with_reducible first|apply Ay|apply Ar|apply A4|apply A6|apply Bb|apply Bl|apply D8|apply As);· first|with_reducible rfl|(simp (disch:=omega) only [g0,i1]<;>with_reducible rfl))
   |((with_reducible first|apply A0|apply A3);· first|with_reducible rfl|omega|(simp (disch:=omega) only [gT,g0,i1]<;>omega))
   |(with_reducible apply Az;· first|with_reducible rfl|(simp (disch:=omega) only [gF,g0,i1]<;>omega))
  try simp (disch:=omega) only [g0,i1]
  rw [Dt];by_cases e2':c.iss.size<1
  ·skip
   try unfold Aa
   repeat first
    |((with_reducible first|apply Ay|apply Ar|apply A4|apply A6|apply Bb|apply Bl|apply D8|apply As);· first|with_reducible rfl|(simp (disch:=omega) only [g1]<;>with_reducible rfl))
    |((with_reducible first|apply A0|apply A3);· first|with_reducible rfl|omega|(simp (disch:=omega) only [gT,g1]<;>omega))
    |(with_reducible apply Az;· first|with_reducible rfl|(simp (disch:=omega) only [gF,g1]<;>omega))
   try simp (disch:=omega) only [g1]
  ·skip
   try unfold Aa
   repeat first
    |((with_reducible first|apply Ay|apply Ar|apply A4|apply A6|apply Bb|apply Bl|apply D8|apply As);· first|with_reducible rfl|(simp (disch:=omega) only [g1]<;>with_reducible rfl))
    |((with_reducible first|apply A0|apply A3);· first|with_reducible rfl|omega|(simp (disch:=omega) only [gT,g1]<;>omega))
    |(with_reducible apply Az;· first|with_reducible rfl|(simp (disch:=omega) only [gF,g1]<;>omega))
   try simp (disch:=omega) only [g1]
 try unfold Aa
 repeat first
  |((with_reducible first|apply Ay|apply Ar|apply A4|apply A6|apply Bb|apply Bl|apply D8|apply As);· first|with_reducible rfl|(simp (disch:=omega) only [g0,i1]<;>with_reducible rfl))
  |((with_reducible first|apply A0|apply A3);· first|with_reducible rfl|omega|(simp (disch:=omega) only [gT,g0,i1]<;>omega))
  |(with_reducible apply Az;· first|with_reducible rfl|(simp (disch:=omega) only [gF,g0,i1]<;>omega))
 try simp (disch:=omega) only [g0,i1]
 rw [Dt]
 try unfold Aa
 repeat first
  |((with_reducible first|apply Ay|apply Ar|apply A4|apply A6|apply Bb|apply Bl|apply D8|apply As);· first|with_reducible rfl|(simp (disch:=omega) only [g1,i2]<;>with_reducible rfl))
  |((with_reducible first|apply A0|apply A3);· first|with_reducible rfl|omega|(simp (disch:=omega) only [gT,g1,i2]<;>omega))
  |(with_reducible apply Az;· first|with_reducible rfl|(simp (disch:=omega) only [gF,g1,i2]<;>omega))
 try simp (disch:=omega) only [g1,i2]
 exact UW hfu hw hs1 hs2 e1 e2 m
theorem EW (hfu:1000<=fu){c:Ce}(hw:c.wf)(hs1:c.subj.size<=9223372036854775807)(hs2:c.iss.size<=9223372036854775807):Ae C0 Tryd.prog fu (d+7) Mx [.agg c.cells]=some ⟨Iy c,[]⟩:=
 (Wo fu (d+6) c.subj c.iss c.serial c.key.h c.key.root c.fr c.un c.auth c.path c.model c.sig.leaf c.sig.chains.length (Ag .u64 c.sig.chains) c.sig.path.length (Ag .u64 c.sig.path)).trans (XN hfu hw hs1 hs2 fu (by omega))
end
end
section
open Go.IntKind (wrap)
def EL (c:Ce):List PV:=if A7 c=0 then [.sc (.int .u64 (Kc c)),.sc (.int .i64 0)] else [.sc (.int .u64 0),.sc (.int .i64 (A7 c))]
section
variable {fu d:Nat} {c:Ce}
theorem QD (hfu:1000<=fu)(hw:c.wf)(hs1:c.subj.size<=9223372036854775807)(hs2:c.iss.size<=9223372036854775807):Ae C0 Tryd.prog fu (d+8) Nw [.agg c.cells]=some ⟨EL c,[]⟩:=by
 refine (Wa fu (d+7) c.subj c.iss c.serial c.key.h c.key.root c.fr c.un c.auth c.path c.model c.sig.leaf c.sig.chains.length (Ag .u64 c.sig.chains) c.sig.path.length (Ag .u64 c.sig.path)).trans ?_;have bq:=EW (fu:=fu) (d:=d) hfu hw hs1 hs2;simp only [Ce.cells] at bq;unfold Iy at bq;unfold EL;by_cases h0:A7 c=0
 ·have lb:=O1 h0;rw [Cc h0] at bq;rw [Cc h0];have e00:((0:Int) != 0)=false:=rfl;have hh:=ZP (xs:=Kk) (fu:=fu) (d:=d+2) (LV hw h0) (by omega) (by omega) (by omega) 14
  have eW:M8 14 (Br (Be c))=Kc c:=rfl;rw [eW] at hh;have L1:=Al .u8 (Br (Be c));have t1:=Nz .u8 (Br (Be c));generalize (Br (Be c)).length=n1 at *
  generalize Ag .u8 (Br (Be c))=c1 at *
  try unfold Aa
  repeat first
   |((with_reducible first|apply Ay|apply Ar|apply A4|apply Bl|apply As);· first|with_reducible rfl|(simp (disch:=omega) only [bq,e00,Cd,C2,Ew,L1,t1,hh]<;>with_reducible rfl))
   |((with_reducible first|apply A0|apply A3);· first|with_reducible rfl|omega|(simp (disch:=omega) only [gT,bq,e00,Cd,C2,Ew,L1,t1,hh]<;>omega))
   |(with_reducible apply Az;· first|with_reducible rfl|(simp (disch:=omega) only [gF,bq,e00,Cd,C2,Ew,L1,t1,hh]<;>omega))
  try simp (disch:=omega) only [bq,e00,Cd,C2,Ew,L1,t1,hh]
  all_goals rfl
 ·have hne:(A7 c != 0)=true:=by simp [h0]
  rw [A9 h0] at bq;rw [A9 h0]
  try unfold Aa
  repeat first
   |((with_reducible first|apply Ay|apply Ar|apply A4|apply Bl|apply As);· first|with_reducible rfl|(simp (disch:=omega) only [bq,hne]<;>with_reducible rfl))
   |((with_reducible first|apply A0|apply A3);· first|with_reducible rfl|omega|(simp (disch:=omega) only [gT,bq,hne]<;>omega))
   |(with_reducible apply Az;· first|with_reducible rfl|(simp (disch:=omega) only [gF,bq,hne]<;>omega))
  try simp (disch:=omega) only [bq,hne]
  all_goals rfl
theorem UB (hfu:1000<=fu)(hw:c.wf)(hs1:c.subj.size<=9223372036854775807)(hs2:c.iss.size<=9223372036854775807)(k:Ky):Ae C0 Tryd.prog fu (d+9) Kh [.agg c.cells,.agg k.cells]=some ⟨[.sc (.int .i64 (AK c k))],[]⟩:=by
 refine (Tr fu (d+8) c.subj c.iss c.serial c.key.h c.key.root c.fr c.un c.auth c.path c.model c.sig.leaf c.sig.chains.length (Ag .u64 c.sig.chains) c.sig.path.length (Ag .u64 c.sig.path) k.h k.root).trans ?_;have bq:=QD (fu:=fu) (d:=d) hfu hw hs1 hs2;simp only [Ce.cells] at bq;unfold EL at bq;unfold AK;by_cases h0:A7 c=0
 ·rw [Cc h0] at bq;rw [Cc h0];have e00:((0:Int) != 0)=false:=rfl;have vr:=Aad (xs:=Kk) (fu:=fu) (d:=d) hfu k (Kc c) c.sig;simp only [Ky.cells,Sg.cells] at vr
  try unfold Aa
  repeat first
   |((with_reducible first|apply Ay|apply Ar|apply A4|apply Bl|apply As);· first|with_reducible rfl|(simp (disch:=omega) only [bq,e00,vr]<;>with_reducible rfl))
   |((with_reducible first|apply A0|apply A3);· first|with_reducible rfl|omega|(simp (disch:=omega) only [gT,bq,e00,vr]<;>omega))
   |(with_reducible apply Az;· first|with_reducible rfl|(simp (disch:=omega) only [gF,bq,e00,vr]<;>omega))
  try simp (disch:=omega) only [bq,e00,vr]
  all_goals rfl
 ·have hne:(A7 c != 0)=true:=by simp [h0]
  rw [A9 h0] at bq;rw [A9 h0]
  try unfold Aa
  repeat first
   |((with_reducible first|apply Ay|apply Ar|apply A4|apply Bl|apply As);· first|with_reducible rfl|(simp (disch:=omega) only [bq,hne]<;>with_reducible rfl))
   |((with_reducible first|apply A0|apply A3);· first|with_reducible rfl|omega|(simp (disch:=omega) only [gT,bq,hne]<;>omega))
   |(with_reducible apply Az;· first|with_reducible rfl|(simp (disch:=omega) only [gF,bq,hne]<;>omega))
  try simp (disch:=omega) only [bq,hne]
  all_goals rfl
theorem Yg (hfu:1000<=fu)(hw:c.wf)(hs1:c.subj.size<=9223372036854775807)(hs2:c.iss.size<=9223372036854775807)(hp:c.sig.path.length<=1000000000)(hf:c.sig.path.length<fu):Ae C0 Tryd.prog fu (d+8) Kn [.agg c.cells]=some ⟨V1 c,[]⟩:=by
 refine (Tm fu (d+7) c.subj c.iss c.serial c.key.h c.key.root c.fr c.un c.auth c.path c.model c.sig.leaf c.sig.chains.length (Ag .u64 c.sig.chains) c.sig.path.length (Ag .u64 c.sig.path)).trans ?_;have bq:=EW (fu:=fu) (d:=d) hfu hw hs1 hs2;simp only [Ce.cells] at bq;have es:=Aae (xs:=Kk) (fu:=fu) (d:=d+5) hfu c.sig hp hf;simp only [Sg.cells] at es;unfold Iy at bq;unfold V1 Dh;by_cases h0:A7 c=0
 ·have lb:=O1 h0;rw [Cc h0] at bq;rw [Cc h0];have L1:=Al .u8 (Br (Be c));have t1:=Nz .u8 (Br (Be c));have e00:((0:Int) != 0)=false:=rfl;have e90:((9:Int) != 0)=true:=rfl;have e40:((4:Int) != 0)=true:=rfl;unfold Vt;by_cases g1:C4 c.sig.path.length=true
  ·rw [Cc g1] at es;rw [Cc g1,A9 (by omega)]
   try unfold Aa
   repeat first
    |((with_reducible first|apply Ay|apply Ar|apply A4|apply Bl|apply As);· first|with_reducible rfl|(simp (disch:=omega) only [bq,es,e00,e90]<;>with_reducible rfl))
    |((with_reducible first|apply A0|apply A3);· first|with_reducible rfl|omega|(simp (disch:=omega) only [gT,bq,es,e00,e90]<;>omega))
    |(with_reducible apply Az;· first|with_reducible rfl|(simp (disch:=omega) only [gF,bq,es,e00,e90]<;>omega))
   try simp (disch:=omega) only [bq,es,e00,e90]
   all_goals rfl
  rw [A9 g1] at es;rw [A9 g1];by_cases g2:Nn c.sig.leaf c.sig.path.length=true
  ·rw [Cc g2] at es;rw [Cc g2,A9 (by omega)]
   try unfold Aa
   repeat first
    |((with_reducible first|apply Ay|apply Ar|apply A4|apply Bl|apply As);· first|with_reducible rfl|(simp (disch:=omega) only [bq,es,e00,e90]<;>with_reducible rfl))
    |((with_reducible first|apply A0|apply A3);· first|with_reducible rfl|omega|(simp (disch:=omega) only [gT,bq,es,e00,e90]<;>omega))
    |(with_reducible apply Az;· first|with_reducible rfl|(simp (disch:=omega) only [gF,bq,es,e00,e90]<;>omega))
   try simp (disch:=omega) only [bq,es,e00,e90]
   all_goals rfl
  rw [A9 g2] at es;rw [A9 g2];by_cases g3:c.sig.chains.length≠18
  ·rw [Cc g3] at es;rw [Cc g3,A9 (by omega)]
   try unfold Aa
   repeat first
    |((with_reducible first|apply Ay|apply Ar|apply A4|apply Bl|apply As);· first|with_reducible rfl|(simp (disch:=omega) only [bq,es,e00,e40]<;>with_reducible rfl))
    |((with_reducible first|apply A0|apply A3);· first|with_reducible rfl|omega|(simp (disch:=omega) only [gT,bq,es,e00,e40]<;>omega))
    |(with_reducible apply Az;· first|with_reducible rfl|(simp (disch:=omega) only [gF,bq,es,e00,e40]<;>omega))
   try simp (disch:=omega) only [bq,es,e00,e40]
   all_goals rfl
  rw [A9 g3] at es;rw [A9 g3,Cc rfl];have hb4:=Fn (h:=c.sig.path.length) (by simpa using g1)
  have ls:(BB c.sig).length=2+8*c.sig.chains.length+8*c.sig.path.length:=by
   unfold BB;simp only [Le,Ns,Cy];omega
  have L2:=Al .u8 (BB c.sig);have t2:=Nz .u8 (BB c.sig)
  have ea:Ag .u8 (Br (Be c))++Ag .u8 (BB c.sig)=Ag .u8 (Fg c):=by
   unfold Fg;rw [Ag,Ag,Ag,List.flatMap_append]
  have le:(Fg c).length=(Br (Be c)).length+(BB c.sig).length:=by unfold Fg;rw [Ns]
  have L3:=Al .u8 (Fg c);have t3:List.take ((Br (Be c)).length+(BB c.sig).length) (Ag .u8 (Fg c))=Ag .u8 (Fg c):=Wz (by omega)
  rw [le] at L3 ⊢;generalize (Br (Be c)).length=n1 at *
  generalize (BB c.sig).length=n2 at *
  generalize Ag .u8 (Br (Be c))=c1 at *
  generalize Ag .u8 (BB c.sig)=c2 at *
  try unfold Aa
  repeat first
   |((with_reducible first|apply Ay|apply Ar|apply A4|apply Bl|apply As);· first|with_reducible rfl|(simp (disch:=omega) only [bq,es,e00,Cd,C2,Ew,L1,t1,L2,t2,ea,L3,t3]<;>with_reducible rfl))
   |((with_reducible first|apply A0|apply A3);· first|with_reducible rfl|omega|(simp (disch:=omega) only [gT,bq,es,e00,Cd,C2,Ew,L1,t1,L2,t2,ea,L3,t3]<;>omega))
   |(with_reducible apply Az;· first|with_reducible rfl|(simp (disch:=omega) only [gF,bq,es,e00,Cd,C2,Ew,L1,t1,L2,t2,ea,L3,t3]<;>omega))
  try simp (disch:=omega) only [bq,es,e00,Cd,C2,Ew,L1,t1,L2,t2,ea,L3,t3]
  all_goals rfl
 ·have hne:(A7 c != 0)=true:=by simp [h0]
  rw [A9 h0] at bq;rw [A9 h0,A9 h0]
  try unfold Aa
  repeat first
   |((with_reducible first|apply Ay|apply Ar|apply A4|apply Bl|apply As);· first|with_reducible rfl|(simp (disch:=omega) only [bq,hne]<;>with_reducible rfl))
   |((with_reducible first|apply A0|apply A3);· first|with_reducible rfl|omega|(simp (disch:=omega) only [gT,bq,hne]<;>omega))
   |(with_reducible apply Az;· first|with_reducible rfl|(simp (disch:=omega) only [gF,bq,hne]<;>omega))
  try simp (disch:=omega) only [bq,hne]
  all_goals rfl
end
end
section
open Go.IntKind (wrap)
theorem aci {its:List It}{i:Nat}{x:It}(h:its[i]?=some x):(Cb its).getD (i*3) .top=.sc (.int .i64 x.k)∧(Cb its).getD (i*3+1) .top=.sc (.int .u64 x.n)∧(Cb its).getD (i*3+2) .top=.sc (.string x.s):=
 ⟨D6 It.cells_len h (j:=0) (by omega),D6 It.cells_len h (j:=1) (by omega),D6 It.cells_len h (j:=2) (by omega)⟩
def Ld:List Int:=[5,4,4,1,3,1,1,7,1,1]
def Q6 (its:List It):Bool:=its.map (·.k)==Ld
section
variable {fu d:Nat}
theorem BT {call:Ah}{a0n:Nat}{a0:List PV}{its:List It}(h10:its.length=10):∀(r:List It)(rk:List Int)(i nn:Nat),its.drop i=r->Ld.drop i=rk->r.length<nn->i<=10 ->
  Ev fu call a0n a0 nn its.length (Cb its) (its.length:Int) (i:Int) (Ag .i64 Ld)=some ⟨[.sc (.bool (r.map (·.k)==rk))],[]⟩
 |_,_,_,0,_,_,h,_=>by omega
 |[],rk,i,nn+1,h,hk,hn,hi=>by
  have:=drop_nil h;obtain rfl:i=10:=by omega
  subst hk;rw [H6,Dx _ _ _ (by omega)]
  rfl
 |x::r,rk,i,nn+1,h,hk,hn,hi=>by
  obtain ⟨h1,h2,h3⟩:=Co h;simp only [Le] at hn;obtain ⟨k,hk1⟩:∃k,Ld[i]?=some k:=⟨_,List.getElem?_eq_getElem (by show i<10;omega)⟩
  have hk2:rk=k::Ld.drop (i+1):=by
   rw [←hk,List.drop_eq_getElem_cons (by show i<10;omega)]
   congr 1
   rw [List.getElem?_eq_getElem (by show i<10;omega)] at hk1
   injection hk1
  subst hk2;have w:wrap .i64 ((i:Int)+1)=((i+1:Nat):Int):=by rw [Aj (by omega) (by omega)];omega
  obtain ⟨c0,c1,c2⟩:=aci h2;have ck:=V5 (k:=.i64) hk1;have ih:=BT (call:=call) (a0n:=a0n) (a0:=a0) h10 r _ (i+1) nn h3 rfl (by omega) (by omega)
  rw [H6,Zzw];by_cases e:x.k=k
  ·have b0:(x.k != k)=false:=by simp [e]
   have e1:(x.k::List.map (·.k) r==k::Ld.drop (i+1))=(List.map (·.k) r==Ld.drop (i+1)):=by simp [e]
   rw [e1,←ih];simp (disch:=omega) only [Ca,Hw,Cd,C2,c0,c1,c2,ck,b0,w]
  ·have b0:(x.k != k)=true:=by simp [e]
   have e1:(x.k::List.map (·.k) r==k::Ld.drop (i+1))=false:=by simp [e]
   rw [e1];simp (disch:=omega) only [Ca,Hw,Cd,C2,c0,c1,c2,ck,b0,w]
theorem Aa3 (hfu:1000<=fu)(its:List It):Ae C0 Tryd.prog fu (d+1) Kr [.lst false 3 its.length (Cb its)]=some ⟨[.sc (.bool (Q6 its))],[]⟩:=by
 rw [Sk];show Gj _ _ _ _ _ _ _=_;rw [Qj (hnn:=by omega),Qi (hnn:=by omega)]
 by_cases h:its.length=10
 ·have b0:((its.length:Int) != 10)=false:=by simp;omega
  rw [b0,UM];exact BT (call:=Ae C0 Tryd.prog fu d) h its Ld 0 fu rfl rfl (by omega) (by omega)
 ·have b0:((its.length:Int) != 10)=true:=by simp;omega
  have e:Q6 its=false:=by
   unfold Q6;cases q:(its.map (·.k)==Ld)
   ·rfl
   ·have:=congrArg List.length (eq_of_beq q);simp [Ld] at this;omega
  rw [b0,VD,e]
theorem VQ {a b:List Int}(ha:Ik a)(hb:Ik b)(h:(a.map fun n=>n.toNat.toUInt8)=(b.map fun n=>n.toNat.toUInt8)):a=b:=by
 have e:Cu a=Cu b:=by unfold Cu;rw [h]
 rw [←Rk ha,←Rk hb,e]
theorem Amh {a b:List Int}(ha:Ik a)(hb:Ik b):(Array.toList (ByteArray.data (ByteArray.mk (List.toArray (a.map fun n=>n.toNat.toUInt8))))==Array.toList (ByteArray.data (ByteArray.mk (List.toArray (b.map fun n=>n.toNat.toUInt8)))))=decide (a=b):=by
 by_cases h:a=b
 ·subst h;simp
 ·have:(List.map (fun n=>n.toNat.toUInt8) a)≠(List.map (fun n=>n.toNat.toUInt8) b):=fun e=>h (VQ ha hb e)
  simp only [h,decide_false]
  simpa using this
theorem JE {a b:List Int}(ha:Ik a)(hb:Ik b):Ae C0 Tryd.prog fu (d+1) Vh [.lst false 1 a.length (Ag .u8 a),.lst false 1 b.length (Ag .u8 b)]=some ⟨[.sc (.bool (decide (a=b)))],[]⟩:=by
 rw [JI];have La:=Al .u8 a;have Lb:=Al .u8 b;have ba:=G2 a;have bb:=G2 b;have q:=Amh ha hb;simp (disch:=omega) only [Ca,La,Lb,ba,bb,q]
end
structure Ce.ok (c:Ce):Prop where
 ser:ZC c.serial
 mod:ZC c.model
 root:ZC c.key.root
 sg:c.sig.ok
theorem Ce.ok.wf {c:Ce}(h:c.ok):c.wf:=⟨h.ser.1,h.mod.1⟩
def Lz (x1 x2 x3 x5 x6 x7 x8 x9:It)(k:Ky)(s:Sg):Ce:=⟨x1.s,x2.s,x3.n,k,wrap .i64 x5.n,wrap .i64 x6.n,x7.n==1,wrap .i64 x8.n,x9.n,s⟩
def LU (b:List Int):Option Ce:=
 if (Ic 1000 [] 0 b 0 []).2.2≠0 then none else
 match (Ic 1000 [] 0 b 0 []).1 with
 |[_,x1,x2,x3,x4,x5,x6,x7,x8,x9]=>(match FR (Ih x4.s),sgD (b.drop (Ic 1000 [] 0 b 0 []).2.1) with|some k,some s=>some (Lz x1 x2 x3 x5 x6 x7 x8 x9 k s)|_,_=>none)
 |_=>none
def Oe (b:List Int):Ce × Int:=
 if b.length>512 then (NB,8) else match LU b with|some c=>if Dh c=0∧Fg c=b∧c.serial<=18446744073709551615∧c.model<=18446744073709551615 then (c,0) else (NB,2)|none=>(NB,2)
theorem I3 {c:Ce}(h:Dh c=0):A7 c=0∧C4 c.key.h=false∧C4 c.sig.path.length=false∧Nn c.sig.leaf c.sig.path.length=false∧c.sig.chains.length=18∧0<=c.fr∧c.fr<=c.un∧c.un<=1099511627776∧0<=c.path∧c.path<=2:=by
 unfold Dh at h;by_cases h0:A7 c=0
 rotate_left
 ·rw [A9 h0] at h;exact absurd h h0
 rw [Cc h0] at h;unfold Vt at h;have hb:=h0;unfold A7 at hb
 repeat' (split at h;· cases h)
 repeat' (split at hb;· cases hb)
 refine ⟨h0,by simp_all,by simp_all,by simp_all,by omega,by omega,by omega,by omega,by omega,by omega⟩
theorem TK {c:Ce}(hc:c.ok)(h:Dh c=0){m:Nat}(hm:10<m):Ic m [] 0 (Fg c) 0 []=(Be c,(Br (Be c)).length,0):=by
 obtain ⟨h0,h1,h2,h3,h4,h5,h6,h7,h8,h9⟩:=I3 h
 have r:=MK (b:=Fg c) (rest:=BB c.sig) (Be c) [] 0 0 m [] (Wb hc.wf h0) (by
  intro x hx;have u1:=hc.ser;have u2:=hc.mod;simp only [Be,List.mem_cons,List.not_mem_nil,or_false] at hx;rcases hx with rfl|rfl|rfl|rfl|rfl|rfl|rfl|rfl|rfl|rfl
  all_goals simp only
  all_goals try split
  all_goals omega) rfl (by simpa [Be] using hm)
 simpa using r
theorem FA {c:Ce}(h:Dh c=0):Lz ⟨4,0,c.subj⟩ ⟨4,0,c.iss⟩ ⟨1,c.serial,Fv⟩ ⟨1,c.fr,Fv⟩ ⟨1,c.un,Fv⟩ ⟨7,(if c.auth=true then 1 else 0),Fv⟩ ⟨1,c.path,Fv⟩ ⟨1,c.model,Fv⟩ c.key c.sig=c:=by
 obtain ⟨h0,h1,h2,h3,h4,h5,h6,h7,h8,h9⟩:=I3 h;obtain ⟨subj,iss,serial,key,fr,un,auth,path,model,sig⟩:=c;simp only at *
 unfold Lz;simp only;rw [Aj (by omega) (by omega),Aj (by omega) (by omega),Aj (by omega) (by omega)]
 cases auth<;>rfl
theorem Yh {c:Ce}(h:Dh c=0):(Fg c).length<=400:=by
 obtain ⟨h0,h1,h2,h3,h4,h5,h6,h7,h8,h9⟩:=I3 h;have:=O1 h0;have hb:=Fn h2;unfold Fg BB;simp only [Ns,Le,Cy];omega
theorem XE {c:Ce}(hw:c.wf)(h:Dh c=0):Ik (Fg c):=by
 intro x hx;rcases List.mem_append.1 hx with hx|hx
 ·exact LV hw (I3 h).1 x hx
 ·exact Al1 _ x hx
theorem Aec {c:Ce}(hc:c.ok)(h:Dh c=0):FR (Ih (Cu (Ma c.key)))=some c.key:=by
 rw [Rk Akv];exact Ab3 (I3 h).2.1 hc.root
theorem Ai4 {c:Ce}(hc:c.ok)(h:Dh c=0):sgD ((Fg c).drop (Br (Be c)).length)=some c.sig:=by
 obtain ⟨h0,h1,h2,h3,h4,h5,h6,h7,h8,h9⟩:=I3 h;unfold Fg;rw [List.drop_left' rfl];exact Ahm hc.sg h2 h3 h4
theorem HU {c:Ce}(hc:c.ok)(h:Dh c=0):Oe (Fg c)=(c,0):=by
 have r:=TK hc h (m:=1000) (by omega)
 have k:=Aec hc h;have s:=Ai4 hc h;have cs:=FA h;have l:=Yh h;have u1:=hc.ser;have u2:=hc.mod
 have:LU (Fg c)=some c:=by
  unfold LU;rw [r];simp only [Be];simp only [Be] at s;rw [A9 (by simp),k,s]
  simp only [cs]
 unfold Oe;rw [A9 (by omega),this]
 simp only;rw [Cc ⟨h,by trivial,u1.2,u2.2⟩]
theorem EQ {x1 x2 x3 x5 x6 x7 x8 x9:It}{k:Ky}{s:Sg}(h3:OkX x3)(h9:OkX x9)(hk:ZC k.root)(hs:s.ok):(Lz x1 x2 x3 x5 x6 x7 x8 x9 k s).ok:=⟨⟨h3.n0,h3.n1⟩,⟨h9.n0,h9.n1⟩,hk,hs⟩
theorem QQ {b:List Int}(hb:Ik b){c:Ce}(h:LU b=some c):c.ok:=by
 have ok:=(Xd hb 1000 [] 0 0 [] (by omega) (by simp)).2
 unfold LU at h;split at h
 ·cases h
 ·split at h
  ·rename_i e;rw [e] at ok;split at h
   ·rename_i hk hs;cases h;exact EQ (ok _ (by simp)) (ok _ (by simp)) (NY hk).2 (XK hs).1
   ·cases h
  ·cases h
theorem Aax {b:List Int}(hB:Ik b)(hl:b.length<=512)(hn:∀c:Ce,c.ok->Dh c=0->Fg c≠b):Oe b=(NB,2):=by
 unfold Oe;rw [A9 (by omega)]
 cases h:LU b with
 |none=>rfl
 |some c=>
  simp only;rw [A9];intro ⟨h1,h2,_⟩;exact hn c (QQ hB h) h1 h2
theorem Ag3 {b:List Int}(hB:Ik b):(Oe b).1.ok∧((Oe b).2=0->Dh (Oe b).1=0∧Fg (Oe b).1=b):=by
 have z:NB.ok:=⟨⟨by decide,by decide⟩,⟨by decide,by decide⟩,⟨by decide,by decide⟩,⟨(by intro x hx;cases hx),(by intro x hx;cases hx)⟩⟩
 unfold Oe;split
 ·exact ⟨z,fun h=>by simp at h⟩
 ·split
  ·rename_i c hc;split
   ·rename_i h;exact ⟨QQ hB hc,fun _=>⟨h.1,h.2.1⟩⟩
   ·exact ⟨z,fun h=>by simp at h⟩
  ·exact ⟨z,fun h=>by simp at h⟩
end
section
open Go.IntKind (wrap)
def Aak (b:List Int)(used:Nat):List It->Ce × Int
 |[_,x1,x2,x3,x4,x5,x6,x7,x8,x9]=>(match FR (Ih x4.s),sgD (b.drop used) with
  |some k,some s=>if Dh (Lz x1 x2 x3 x5 x6 x7 x8 x9 k s)=0∧Fg (Lz x1 x2 x3 x5 x6 x7 x8 x9 k s)=b then (Lz x1 x2 x3 x5 x6 x7 x8 x9 k s,0) else (NB,2)
  |_,_=>(NB,2))
 |_=>(NB,2)
def CP (b:List Int)(r:List It × Nat × Int):Ce × Int:=
 if b.length>512 then (NB,8) else if r.2.2≠0 then (NB,2) else if Q6 r.1=false then (NB,2) else Aak b r.2.1 r.1
theorem SH {its:List It}(h:Q6 its=true):its.length=10:=by
 have:=congrArg List.length (eq_of_beq h)
 simpa [Ld] using this
theorem Af7 {its:List It}(h:its.length=10):∃x0 x1 x2 x3 x4 x5 x6 x7 x8 x9,its=[x0,x1,x2,x3,x4,x5,x6,x7,x8,x9]:=by
 match its,h with
 |[x0,x1,x2,x3,x4,x5,x6,x7,x8,x9],_=>exact ⟨x0,x1,x2,x3,x4,x5,x6,x7,x8,x9,rfl⟩
theorem Ac2 {c:Ce}(hc:c.ok)(h:Dh c=0):Aak (Fg c) (Br (Be c)).length (Be c)=(c,0):=by
 have k:=Aec hc h;have s:=Ai4 hc h;have cs:=FA h
 have e:Aak (Fg c) (Br (Be c)).length (Be c)=(match FR (Ih (Cu (Ma c.key))),sgD ((Fg c).drop (Br (Be c)).length) with
  |some k,some s=>if Dh (Lz ⟨4,0,c.subj⟩ ⟨4,0,c.iss⟩ ⟨1,c.serial,Fv⟩ ⟨1,c.fr,Fv⟩ ⟨1,c.un,Fv⟩ ⟨7,(if c.auth=true then 1 else 0),Fv⟩ ⟨1,c.path,Fv⟩ ⟨1,c.model,Fv⟩ k s)=0∧Fg (Lz ⟨4,0,c.subj⟩ ⟨4,0,c.iss⟩ ⟨1,c.serial,Fv⟩ ⟨1,c.fr,Fv⟩ ⟨1,c.un,Fv⟩ ⟨7,(if c.auth=true then 1 else 0),Fv⟩ ⟨1,c.path,Fv⟩ ⟨1,c.model,Fv⟩ k s)=Fg c then (Lz ⟨4,0,c.subj⟩ ⟨4,0,c.iss⟩ ⟨1,c.serial,Fv⟩ ⟨1,c.fr,Fv⟩ ⟨1,c.un,Fv⟩ ⟨7,(if c.auth=true then 1 else 0),Fv⟩ ⟨1,c.path,Fv⟩ ⟨1,c.model,Fv⟩ k s,0) else (NB,2)
  |_,_=>(NB,2)):=rfl
 rw [e,k,s];simp only [cs];rw [Cc ⟨h,by trivial⟩]
theorem Acs {b:List Int}{used:Nat}{its:List It}(hx:∀x∈its,OkX x)(hn:∀c:Ce,c.ok->Dh c=0->Fg c≠b):Aak b used its=(NB,2):=by
 unfold Aak;split
 ·split
  ·rename_i hk hs;rw [A9];intro ⟨h1,h2⟩;exact hn _ (EQ (hx _ (by simp)) (hx _ (by simp)) (NY hk).2 (XK hs).1) h1 h2
  ·rfl
 ·rfl
theorem Ab0 (c:Ce):Q6 (Be c)=true:=rfl
theorem Af6 {b:List Int}(hb:Ik b){r:List It × Nat × Int}(hx:∀x∈r.1,OkX x)(hc:∀c:Ce,c.ok->Dh c=0->Fg c=b->r=(Be c,(Br (Be c)).length,0)):CP b r=Oe b:=by
 by_cases h5:b.length>512
 ·unfold CP Oe;rw [Cc h5,Cc h5]
 by_cases hex:∃c:Ce,c.ok∧Dh c=0∧Fg c=b
 ·obtain ⟨c,c1,c2,c3⟩:=hex;have e:=hc c c1 c2 c3;subst c3;rw [HU c1 c2,e];unfold CP;rw [A9 h5,A9 (by simp),A9 (by simp [Ab0])]
  exact Ac2 c1 c2
 ·have hn:∀c:Ce,c.ok->Dh c=0->Fg c≠b:=fun c h1 h2 h3=>hex ⟨c,h1,h2,h3⟩
  rw [Aax hb (by omega) hn]
  unfold CP;rw [A9 h5,Acs hx hn];split
  ·rfl
  ·split<;>rfl
section
variable {fu d:Nat}
theorem Abp (hfu:1000<=fu){b:List Int}(hb:Ik b)(hl:b.length<=1000000):
  Ae C0 Tryd.prog fu (d+9) G4 [.lst false 1 b.length (Ag .u8 b)]=some ⟨[.agg (CP b (Ic fu [] 0 b 0 [])).1.cells,.sc (.int .i64 (CP b (Ic fu [] 0 b 0 [])).2)],[]⟩:=by
 refine (Ts fu (d+8) b.length (Ag .u8 b)).trans ?_;have dec:=Ab7 (fu:=fu) (d:=d+3) hfu hb hl;obtain ⟨hat,hox⟩:=Xd hb fu [] 0 0 [] (by omega) (by simp)
 generalize Ic fu [] 0 b 0 []=r at dec hat hox ⊢;obtain ⟨its,used,e⟩:=r;simp only at hat hox;unfold XL at dec;simp only at dec;unfold CP;simp only;by_cases h5:b.length>512
 ·rw [Cc h5]
  try unfold Aa
  repeat first
   |((with_reducible first|apply Ay|apply Ar|apply A4|apply A6|apply Bb|apply Bl|apply C5|apply As);· first|with_reducible rfl|(simp (disch:=omega) only [Cd]<;>with_reducible rfl))
   |((with_reducible first|apply A0|apply A3);· first|with_reducible rfl|omega|(simp (disch:=omega) only [gT,Cd]<;>omega))
   |(with_reducible apply Az;· first|with_reducible rfl|(simp (disch:=omega) only [gF,Cd]<;>omega))
  try simp (disch:=omega) only [Cd]
  all_goals rfl
 rw [A9 h5];by_cases he:e=0
 rotate_left
 ·rw [Cc he];have he':(e != 0)=true:=by simp [he]
  try unfold Aa
  repeat first
   |((with_reducible first|apply Ay|apply Ar|apply A4|apply A6|apply Bb|apply Bl|apply C5|apply As);· first|with_reducible rfl|(simp (disch:=omega) only [dec,he']<;>with_reducible rfl))
   |((with_reducible first|apply A0|apply A3);· first|with_reducible rfl|omega|(simp (disch:=omega) only [gT,dec,he']<;>omega))
   |(with_reducible apply Az;· first|with_reducible rfl|(simp (disch:=omega) only [gF,dec,he']<;>omega))
  try simp (disch:=omega) only [dec,he']
  all_goals rfl
 rw [A9 (by simp [he])]
 subst he;have e00:((0:Int) != 0)=false:=rfl;have e20:((2:Int) != 0)=true:=rfl;have ib:=Aa3 (fu:=fu) (d:=d+7) hfu its;have LT:=P5 its;have tT:List.take (its.length*3) (Cb its)=Cb its:=Wz (by omega)
 cases hib:Q6 its
 ·rw [hib] at ib;rw [Cc rfl]
  try unfold Aa
  repeat first
   |((with_reducible first|apply Ay|apply Ar|apply A4|apply A6|apply Bb|apply Bl|apply C5|apply As);· first|with_reducible rfl|(simp (disch:=omega) only [dec,e00,Ew,C2,LT,tT,ib,D9,Ge]<;>with_reducible rfl))
   |((with_reducible first|apply A0|apply A3);· first|with_reducible rfl|omega|(simp (disch:=omega) only [gT,dec,e00,Ew,C2,LT,tT,ib,D9,Ge]<;>omega))
   |(with_reducible apply Az;· first|with_reducible rfl|(simp (disch:=omega) only [gF,dec,e00,Ew,C2,LT,tT,ib,D9,Ge]<;>omega))
  try simp (disch:=omega) only [dec,e00,Ew,C2,LT,tT,ib,D9,Ge]
  all_goals rfl
 rw [hib] at ib;rw [A9 (by simp)]
 have h10:=SH hib;obtain ⟨x0,x1,x2,x3,x4,x5,x6,x7,x8,x9,rfl⟩:=Af7 h10;clear hib;have o1:=hox x1 (by simp)
 have o2:=hox x2 (by simp)
 have o3:=hox x3 (by simp)
 have o4:=hox x4 (by simp)
 have o9:=hox x9 (by simp)
 clear hox;have g14:List.getD (Cb [x0,x1,x2,x3,x4,x5,x6,x7,x8,x9]) 14 .top=.sc (.string x4.s):=rfl;have g5:List.getD (Cb [x0,x1,x2,x3,x4,x5,x6,x7,x8,x9]) 5 .top=.sc (.string x1.s):=rfl;have g8:List.getD (Cb [x0,x1,x2,x3,x4,x5,x6,x7,x8,x9]) 8 .top=.sc (.string x2.s):=rfl;have g10:List.getD (Cb [x0,x1,x2,x3,x4,x5,x6,x7,x8,x9]) 10 .top=.sc (.int .u64 x3.n):=rfl;have g16:List.getD (Cb [x0,x1,x2,x3,x4,x5,x6,x7,x8,x9]) 16 .top=.sc (.int .u64 x5.n):=rfl;have g19:List.getD (Cb [x0,x1,x2,x3,x4,x5,x6,x7,x8,x9]) 19 .top=.sc (.int .u64 x6.n):=rfl;have g22:List.getD (Cb [x0,x1,x2,x3,x4,x5,x6,x7,x8,x9]) 22 .top=.sc (.int .u64 x7.n):=rfl;have g25:List.getD (Cb [x0,x1,x2,x3,x4,x5,x6,x7,x8,x9]) 25 .top=.sc (.int .u64 x8.n):=rfl;have g28:List.getD (Cb [x0,x1,x2,x3,x4,x5,x6,x7,x8,x9]) 28 .top=.sc (.int .u64 x9.n):=rfl;have ln:[x0,x1,x2,x3,x4,x5,x6,x7,x8,x9].length=10:=rfl
 rw [ln] at dec ib LT tT;generalize Cb [x0,x1,x2,x3,x4,x5,x6,x7,x8,x9]=T at *
 clear h10;have hs4:=o4.s1;have L4:(Ds x4.s).length=x4.s.size:=by rw [Oz,Al,M3]
 have t4:List.take x4.s.size (Ds x4.s)=Ag .u8 (Ih x4.s):=by rw [Oz,Wz (by rw [Al,M3];omega)]
 have dk:=Aam (xs:=Kk) (fu:=fu) (d:=d+6) hfu (UT x4.s);rw [M3] at dk;unfold Aak;simp only;cases hk:FR (Ih x4.s) with
 |none=>
  rw [hk] at dk;simp only [WX,Ky.cells] at dk
  try unfold Aa
  repeat first
   |((with_reducible first|apply Ay|apply Ar|apply A4|apply A6|apply Bb|apply Bl|apply C5|apply As);· first|with_reducible rfl|(simp (disch:=omega) only [dec,e00,e20,Ew,C2,Cd,Nat.reduceMul,LT,tT,ib,g14,L4,t4,dk,D9,Ge]<;>with_reducible rfl))
   |((with_reducible first|apply A0|apply A3);· first|with_reducible rfl|omega|(simp (disch:=omega) only [gT,dec,e00,e20,Ew,C2,Cd,Nat.reduceMul,LT,tT,ib,g14,L4,t4,dk,D9,Ge]<;>omega))
   |(with_reducible apply Az;· first|with_reducible rfl|(simp (disch:=omega) only [gF,dec,e00,e20,Ew,C2,Cd,Nat.reduceMul,LT,tT,ib,g14,L4,t4,dk,D9,Ge]<;>omega))
  try simp (disch:=omega) only [dec,e00,e20,Ew,C2,Cd,Nat.reduceMul,LT,tT,ib,g14,L4,t4,dk,D9,Ge]
  all_goals rfl
 |some k=>
  rw [hk] at dk;simp only [WX,Ky.cells] at dk;obtain ⟨k1,k2⟩:=NY hk;have ds:=Abf (xs:=Kk) (fu:=fu) (d:=d+6) hfu (l:=b.drop used) (fun x hx=>hb x (List.mem_of_mem_drop hx))
  rw [List.length_drop] at ds;have tb:List.take (b.length-used) (List.drop used (Ag .u8 b))=Ag .u8 (b.drop used):=by rw [Ha,Wz (by rw [Al,List.length_drop];omega)]
  have nu:Int.toNat (used:Int)=used:=Hw used;cases hs:sgD (b.drop used) with
  |none=>
   rw [hs] at ds;simp only [ZJ,Sg.owned] at ds
   try unfold Aa
   repeat first
    |((with_reducible first|apply Ay|apply Ar|apply A4|apply A6|apply Bb|apply Bl|apply C5|apply As);· first|with_reducible rfl|(simp (disch:=omega) only [dec,e00,e20,Ew,C2,Cd,Nat.reduceMul,LT,tT,ib,g14,L4,t4,dk,nu,tb,ds,D9,Ge]<;>with_reducible rfl))
    |((with_reducible first|apply A0|apply A3);· first|with_reducible rfl|omega|(simp (disch:=omega) only [gT,dec,e00,e20,Ew,C2,Cd,Nat.reduceMul,LT,tT,ib,g14,L4,t4,dk,nu,tb,ds,D9,Ge]<;>omega))
    |(with_reducible apply Az;· first|with_reducible rfl|(simp (disch:=omega) only [gF,dec,e00,e20,Ew,C2,Cd,Nat.reduceMul,LT,tT,ib,g14,L4,t4,dk,nu,tb,ds,D9,Ge]<;>omega))
   try simp (disch:=omega) only [dec,e00,e20,Ew,C2,Cd,Nat.reduceMul,LT,tT,ib,g14,L4,t4,dk,nu,tb,ds,D9,Ge]
   all_goals rfl
  |some s=>
   rw [hs] at ds;simp only [ZJ,Sg.owned] at ds;obtain ⟨s1,s2,s3⟩:=XK hs;have cok:(Lz x1 x2 x3 x5 x6 x7 x8 x9 k s).ok:=EQ o3 o9 k2 s1;have en:=Yg (fu:=fu) (d:=d) (c:=Lz x1 x2 x3 x5 x6 x7 x8 x9 k s) hfu cok.wf (Nat.le_trans o1.s1 (by omega)) (Nat.le_trans o2.s1 (by omega)) (Nat.le_trans s2 (by omega)) (Nat.lt_of_le_of_lt s2 (by omega))
   have ec:(Lz x1 x2 x3 x5 x6 x7 x8 x9 k s).cells=[.sc (.string x1.s),.sc (.string x2.s),.sc (.int .u64 x3.n),.sc (.int .i64 k.h),.sc (.int .u64 k.root),.sc (.int .i64 (wrap .i64 x5.n)),.sc (.int .i64 (wrap .i64 x6.n)),.sc (.bool (x7.n==1)),.sc (.int .i64 (wrap .i64 x8.n)),.sc (.int .u64 x9.n),.sc (.int .i64 s.leaf),.lst false 1 s.chains.length (Ag .u64 s.chains),.lst false 1 s.path.length (Ag .u64 s.path)]:=rfl;have eB:=fun h=>XE (c:=Lz x1 x2 x3 x5 x6 x7 x8 x9 k s) cok.wf h
   have eL:=fun h=>Yh (c:=Lz x1 x2 x3 x5 x6 x7 x8 x9 k s) h
   have Lc:=Al .u64 s.chains;have Lp:=Al .u64 s.path;have tc:=Nz .u64 s.chains;have tp:=Nz .u64 s.path;simp only;generalize Lz x1 x2 x3 x5 x6 x7 x8 x9 k s=c at *
   rw [ec] at en;unfold V1 at en;by_cases hz:Dh c=0
   rotate_left
   ·have hz':(Dh c != 0)=true:=by simp [hz]
    rw [A9 hz] at en;rw [A9 (fun h=>hz h.1)]
    try unfold Aa
    repeat first
     |((with_reducible first|apply Ay|apply Ar|apply A4|apply A6|apply Bb|apply Bl|apply C5|apply As);· first|with_reducible rfl|(simp (disch:=omega) only [dec,e00,e20,Ew,C2,Cd,Nat.reduceMul,LT,tT,ib,g14,L4,t4,dk,nu,tb,ds,g5,g8,g10,g16,g19,g22,g25,g28,Lc,Lp,tc,tp,en,hz',D9,Ge]<;>with_reducible rfl))
     |((with_reducible first|apply A0|apply A3);· first|with_reducible rfl|omega|(simp (disch:=omega) only [gT,dec,e00,e20,Ew,C2,Cd,Nat.reduceMul,LT,tT,ib,g14,L4,t4,dk,nu,tb,ds,g5,g8,g10,g16,g19,g22,g25,g28,Lc,Lp,tc,tp,en,hz',D9,Ge]<;>omega))
     |(with_reducible apply Az;· first|with_reducible rfl|(simp (disch:=omega) only [gF,dec,e00,e20,Ew,C2,Cd,Nat.reduceMul,LT,tT,ib,g14,L4,t4,dk,nu,tb,ds,g5,g8,g10,g16,g19,g22,g25,g28,Lc,Lp,tc,tp,en,hz',D9,Ge]<;>omega))
    try simp (disch:=omega) only [dec,e00,e20,Ew,C2,Cd,Nat.reduceMul,LT,tT,ib,g14,L4,t4,dk,nu,tb,ds,g5,g8,g10,g16,g19,g22,g25,g28,Lc,Lp,tc,tp,en,hz',D9,Ge]
    all_goals rfl
   rw [Cc hz] at en;have be:=JE (fu:=fu) (d:=d+7) (eB hz) hb;have LE:=Al .u8 (Fg c);have tE:=Nz .u8 (Fg c);by_cases hq:Fg c=b
   ·rw [Cc ⟨hz,hq⟩];simp only [hq,decide_true] at be en LE tE;simp only [ec]
    try unfold Aa
    repeat first
     |((with_reducible first|apply Ay|apply Ar|apply A4|apply A6|apply Bb|apply Bl|apply C5|apply As);· first|with_reducible rfl|(simp (disch:=omega) only [dec,e00,e20,Ew,C2,Cd,Nat.reduceMul,LT,tT,ib,g14,L4,t4,dk,nu,tb,ds,g5,g8,g10,g16,g19,g22,g25,g28,Lc,Lp,tc,tp,en,LE,tE,be,D9,Ge]<;>with_reducible rfl))
     |((with_reducible first|apply A0|apply A3);· first|with_reducible rfl|omega|(simp (disch:=omega) only [gT,dec,e00,e20,Ew,C2,Cd,Nat.reduceMul,LT,tT,ib,g14,L4,t4,dk,nu,tb,ds,g5,g8,g10,g16,g19,g22,g25,g28,Lc,Lp,tc,tp,en,LE,tE,be,D9,Ge]<;>omega))
     |(with_reducible apply Az;· first|with_reducible rfl|(simp (disch:=omega) only [gF,dec,e00,e20,Ew,C2,Cd,Nat.reduceMul,LT,tT,ib,g14,L4,t4,dk,nu,tb,ds,g5,g8,g10,g16,g19,g22,g25,g28,Lc,Lp,tc,tp,en,LE,tE,be,D9,Ge]<;>omega))
    try simp (disch:=omega) only [dec,e00,e20,Ew,C2,Cd,Nat.reduceMul,LT,tT,ib,g14,L4,t4,dk,nu,tb,ds,g5,g8,g10,g16,g19,g22,g25,g28,Lc,Lp,tc,tp,en,LE,tE,be,D9,Ge]
    all_goals rfl
   ·rw [A9 (fun h=>hq h.2)]
    simp only [hq,decide_false] at be
    try unfold Aa
    repeat first
     |((with_reducible first|apply Ay|apply Ar|apply A4|apply A6|apply Bb|apply Bl|apply C5|apply As);· first|with_reducible rfl|(simp (disch:=omega) only [dec,e00,e20,Ew,C2,Cd,Nat.reduceMul,LT,tT,ib,g14,L4,t4,dk,nu,tb,ds,g5,g8,g10,g16,g19,g22,g25,g28,Lc,Lp,tc,tp,en,LE,tE,be,D9,Ge]<;>with_reducible rfl))
     |((with_reducible first|apply A0|apply A3);· first|with_reducible rfl|omega|(simp (disch:=omega) only [gT,dec,e00,e20,Ew,C2,Cd,Nat.reduceMul,LT,tT,ib,g14,L4,t4,dk,nu,tb,ds,g5,g8,g10,g16,g19,g22,g25,g28,Lc,Lp,tc,tp,en,LE,tE,be,D9,Ge]<;>omega))
     |(with_reducible apply Az;· first|with_reducible rfl|(simp (disch:=omega) only [gF,dec,e00,e20,Ew,C2,Cd,Nat.reduceMul,LT,tT,ib,g14,L4,t4,dk,nu,tb,ds,g5,g8,g10,g16,g19,g22,g25,g28,Lc,Lp,tc,tp,en,LE,tE,be,D9,Ge]<;>omega))
    try simp (disch:=omega) only [dec,e00,e20,Ew,C2,Cd,Nat.reduceMul,LT,tT,ib,g14,L4,t4,dk,nu,tb,ds,g5,g8,g10,g16,g19,g22,g25,g28,Lc,Lp,tc,tp,en,LE,tE,be,D9,Ge]
    all_goals rfl
theorem PH (hfu:1000<=fu){b:List Int}(hb:Ik b)(hl:b.length<=1000000):
  Ae C0 Tryd.prog fu (d+9) G4 [.lst false 1 b.length (Ag .u8 b)]=some ⟨[.agg (Oe b).1.cells,.sc (.int .i64 (Oe b).2)],[]⟩:=by
 have e:CP b (Ic fu [] 0 b 0 [])=Oe b:=Af6 hb (Xd hb fu [] 0 0 [] (by omega) (by simp)).2 (fun c c1 c2 c3=>by subst c3;exact TK c1 c2 (by omega))
 rw [←e];exact Abp hfu hb hl
end
end
section
open Go.IntKind (wrap)
structure An where
 name:ByteArray
 key:Ky
structure Rv where
 iss:ByteArray
 ser:Int
 at_:Int
def An.cells (a:An):List PV:=[.sc (.string a.name),.sc (.int .i64 a.key.h),.sc (.int .u64 a.key.root)]
def Rv.cells (r:Rv):List PV:=[.sc (.string r.iss),.sc (.int .u64 r.ser),.sc (.int .i64 r.at_)]
def Yr (l:List An):List PV:=l.flatMap An.cells
def Ru (l:List Rv):List PV:=l.flatMap Rv.cells
def Hn (l:List Ce):List PV:=l.flatMap Ce.cells
theorem An.cells_len (a:An):a.cells.length=3:=rfl
theorem Rv.cells_len (r:Rv):r.cells.length=3:=rfl
theorem Ce.cells_len (c:Ce):c.cells.length=13:=rfl
abbrev eqS (a b:ByteArray):Bool:=Array.toList (ByteArray.data a)==Array.toList (ByteArray.data b)
def OH (c:Ce)(now:Int)(r:Rv):Bool:=eqS r.iss c.iss&&(r.ser==c.serial&&decide (r.at_<=now))
def RE (c:Ce)(now:Int)(l:List Rv):Int:=if l.any (OH c now)=true then 39 else 0
def Pb (c:Ce)(i:Int)(l:List Rv)(now:Int):Int:=
 if A7 c≠0 then A7 c else if now<c.fr then 38 else if now>c.un then 38 else if i>0 then (if c.auth=false then 38 else if c.path<i-1 then 38 else RE c now l) else RE c now l
def Tu (c:Ce):Nat->List An->Int
 |_,[]=> -1
 |i,a::r=>if eqS a.name c.iss=true∧AK c a.key=0 then (i:Int) else Tu c (i+1) r
def Adb (c:Ce)(l:List An):Int × Int:=if Tu c 0 l<0 then (0,38) else (Tu c 0 l,0)
def FM (ans:List An)(vs:List Rv)(now:Int):Nat->List Ce->Int × Int
 |_,[]=>(0,0)
 |i,[c]=>if Pb c i vs now≠0 then (0,Pb c i vs now) else Adb c ans
 |i,c::c2::r=>if Pb c i vs now≠0 then (0,Pb c i vs now) else if eqS c.iss c2.subj=false then (0,38) else if AK c c2.key≠0 then (0,AK c c2.key) else FM ans vs now (i+1) (c2::r)
def TN (cs:List Ce)(ans:List An)(vs:List Rv)(now:Int):Int × Int:=
 if now<0 then (0,9) else if now>1099511627776 then (0,9) else if cs.length<1 then (0,38) else if cs.length>3 then (0,38) else FM ans vs now 0 cs
structure Ce.in_ (c:Ce):Prop where
 wf:c.wf
 s1:c.subj.size<=9223372036854775807
 s2:c.iss.size<=9223372036854775807
theorem cer {l:List Ce}{i:Nat}{c:Ce}(h:l[i]?=some c):
  (Hn l).getD (i*13) .top=.sc (.string c.subj)∧(Hn l).getD (i*13+1) .top=.sc (.string c.iss)∧(Hn l).getD (i*13+1+1) .top=.sc (.int .u64 c.serial) ∧
  (Hn l).getD (i*13+1+1+1) .top=.sc (.int .i64 c.key.h)∧(Hn l).getD (i*13+1+1+1+1) .top=.sc (.int .u64 c.key.root)∧(Hn l).getD (i*13+1+1+1+1+1) .top=.sc (.int .i64 c.fr) ∧
  (Hn l).getD (i*13+1+1+1+1+1+1) .top=.sc (.int .i64 c.un)∧(Hn l).getD (i*13+1+1+1+1+1+1+1) .top=.sc (.bool c.auth)∧(Hn l).getD (i*13+1+1+1+1+1+1+1+1) .top=.sc (.int .i64 c.path) ∧
  (Hn l).getD (i*13+1+1+1+1+1+1+1+1+1) .top=.sc (.int .u64 c.model)∧(Hn l).getD (i*13+1+1+1+1+1+1+1+1+1+1) .top=.sc (.int .i64 c.sig.leaf) ∧
  (Hn l).getD (i*13+1+1+1+1+1+1+1+1+1+1+1) .top=.lst false 1 c.sig.chains.length (Ag .u64 c.sig.chains)∧(Hn l).getD (i*13+1+1+1+1+1+1+1+1+1+1+1+1) .top=.lst false 1 c.sig.path.length (Ag .u64 c.sig.path):=
 ⟨D6 Ce.cells_len h (j:=0) (by omega),D6 Ce.cells_len h (j:=1) (by omega),D6 Ce.cells_len h (j:=2) (by omega),D6 Ce.cells_len h (j:=3) (by omega),D6 Ce.cells_len h (j:=4) (by omega),D6 Ce.cells_len h (j:=5) (by omega),D6 Ce.cells_len h (j:=6) (by omega),D6 Ce.cells_len h (j:=7) (by omega),D6 Ce.cells_len h (j:=8) (by omega),D6 Ce.cells_len h (j:=9) (by omega),D6 Ce.cells_len h (j:=10) (by omega),D6 Ce.cells_len h (j:=11) (by omega),D6 Ce.cells_len h (j:=12) (by omega)⟩
theorem rva {l:List Rv}{i:Nat}{r:Rv}(h:l[i]?=some r):(Ru l).getD (i*3) .top=.sc (.string r.iss)∧(Ru l).getD (i*3+1) .top=.sc (.int .u64 r.ser)∧(Ru l).getD (i*3+2) .top=.sc (.int .i64 r.at_):=
 ⟨D6 Rv.cells_len h (j:=0) (by omega),D6 Rv.cells_len h (j:=1) (by omega),D6 Rv.cells_len h (j:=2) (by omega)⟩
theorem ana {l:List An}{i:Nat}{a:An}(h:l[i]?=some a):(Yr l).getD (i*3) .top=.sc (.string a.name)∧(Yr l).getD (i*3+1) .top=.sc (.int .i64 a.key.h)∧(Yr l).getD (i*3+2) .top=.sc (.int .u64 a.key.root):=
 ⟨D6 An.cells_len h (j:=0) (by omega),D6 An.cells_len h (j:=1) (by omega),D6 An.cells_len h (j:=2) (by omega)⟩
section
variable {fu d:Nat}
theorem MF {call:Ah}{a0_0 a0_1:ByteArray}{a0_2 a0_3 a0_4 a0_5 a0_6 a0_8 a0_9 a0_10 a1 a3:Int}{a0_7:Bool}{a0_11n a0_12n a2n:Nat}{a0_11 a0_12 a2:List PV}{c:Ce}{now:Int}{vs:List Rv}(hl:vs.length<=1000000):∀(r:List Rv)(i nn:Nat),vs.drop i=r->r.length<nn->i<=vs.length ->
  B8 fu call a0_0 a0_1 a0_2 a0_3 a0_4 a0_5 a0_6 a0_7 a0_8 a0_9 a0_10 a0_11n a0_11 a0_12n a0_12 a1 a2n a2 a3 nn now vs.length (Ru vs) (vs.length:Int) (i:Int) c.subj c.iss c.serial c.key.h c.key.root c.fr c.un c.auth c.path c.model c.sig.leaf c.sig.chains.length (Ag .u64 c.sig.chains) c.sig.path.length (Ag .u64 c.sig.path) =
   some ⟨[.sc (.int .i64 (RE c now r))],[]⟩
 |_,_,0,_,h,_=>by omega
 |[],i,nn+1,h,hn,hi=>by
  have:=drop_nil h;rw [Gw,Dx _ _ _ (by omega)]
  rfl
 |r::rs,i,nn+1,h,hn,hi=>by
  obtain ⟨h1,h2,h3⟩:=Co h;simp only [Le] at hn;obtain ⟨c0,c1,c2⟩:=rva h2;have w:wrap .i64 ((i:Int)+1)=((i+1:Nat):Int):=by rw [Aj (by omega) (by omega)];omega
  have nt:Int.toNat (i:Int)=i:=Hw _;have c2':(Ru vs).getD (i*3+1+1) .top=.sc (.int .i64 r.at_):=c2;have ih:=MF (call:=call) (a0_0:=a0_0) (a0_1:=a0_1) (a0_2:=a0_2) (a0_3:=a0_3) (a0_4:=a0_4) (a0_5:=a0_5) (a0_6:=a0_6) (a0_7:=a0_7) (a0_8:=a0_8) (a0_9:=a0_9) (a0_10:=a0_10) (a1:=a1) (a3:=a3) (a0_11n:=a0_11n) (a0_12n:=a0_12n) (a2n:=a2n) (a0_11:=a0_11) (a0_12:=a0_12) (a2:=a2) (c:=c) (now:=now) hl rs (i+1) nn h3 (by omega) (by omega)
  have er:RE c now (r::rs)=if OH c now r=true then 39 else RE c now rs:=by
   unfold RE;rw [List.any_cons];cases OH c now r<;>rfl
  rw [er,Gw];unfold OH;cases e1:eqS r.iss c.iss
  ·rw [Bool.false_and,A9 (by simp),←ih]
   try unfold Aa
   repeat first
    |((with_reducible first|apply Ay|apply Ar|apply A4|apply A6|apply Bb|apply Bl|apply Cg|apply As);· first|with_reducible rfl|(simp (disch:=omega) only [nt,c0,c1,c2',e1,w]<;>with_reducible rfl))
    |((with_reducible first|apply A0|apply A3);· first|with_reducible rfl|omega|(simp (disch:=omega) only [gT,nt,c0,c1,c2',e1,w]<;>omega))
    |(with_reducible apply Az;· first|with_reducible rfl|(simp (disch:=omega) only [gF,nt,c0,c1,c2',e1,w]<;>omega))
   try simp (disch:=omega) only [nt,c0,c1,c2',e1,w]
   all_goals rfl
  ·cases e2:(r.ser==c.serial)
   ·rw [Bool.true_and,Bool.false_and,A9 (by simp),←ih]
    try unfold Aa
    repeat first
     |((with_reducible first|apply Ay|apply Ar|apply A4|apply A6|apply Bb|apply Bl|apply Cg|apply As);· first|with_reducible rfl|(simp (disch:=omega) only [nt,c0,c1,c2',e1,e2,w]<;>with_reducible rfl))
     |((with_reducible first|apply A0|apply A3);· first|with_reducible rfl|omega|(simp (disch:=omega) only [gT,nt,c0,c1,c2',e1,e2,w]<;>omega))
     |(with_reducible apply Az;· first|with_reducible rfl|(simp (disch:=omega) only [gF,nt,c0,c1,c2',e1,e2,w]<;>omega))
    try simp (disch:=omega) only [nt,c0,c1,c2',e1,e2,w]
    all_goals rfl
   ·by_cases e3:r.at_<=now
    ·rw [Cc (by simp [e3])]
     try unfold Aa
     repeat first
      |((with_reducible first|apply Ay|apply Ar|apply A4|apply A6|apply Bb|apply Bl|apply Cg|apply As);· first|with_reducible rfl|(simp (disch:=omega) only [nt,c0,c1,c2',e1,e2,w]<;>with_reducible rfl))
      |((with_reducible first|apply A0|apply A3);· first|with_reducible rfl|omega|(simp (disch:=omega) only [gT,nt,c0,c1,c2',e1,e2,w]<;>omega))
      |(with_reducible apply Az;· first|with_reducible rfl|(simp (disch:=omega) only [gF,nt,c0,c1,c2',e1,e2,w]<;>omega))
     try simp (disch:=omega) only [nt,c0,c1,c2',e1,e2,w]
     all_goals rfl
    ·rw [A9 (by simp [e3]),←ih]
     try unfold Aa
     repeat first
      |((with_reducible first|apply Ay|apply Ar|apply A4|apply A6|apply Bb|apply Bl|apply Cg|apply As);· first|with_reducible rfl|(simp (disch:=omega) only [nt,c0,c1,c2',e1,e2,w]<;>with_reducible rfl))
      |((with_reducible first|apply A0|apply A3);· first|with_reducible rfl|omega|(simp (disch:=omega) only [gT,nt,c0,c1,c2',e1,e2,w]<;>omega))
      |(with_reducible apply Az;· first|with_reducible rfl|(simp (disch:=omega) only [gF,nt,c0,c1,c2',e1,e2,w]<;>omega))
     try simp (disch:=omega) only [nt,c0,c1,c2',e1,e2,w]
     all_goals rfl
theorem XV (hfu:1000<=fu){c:Ce}(hc:c.in_){vs:List Rv}(hl:vs.length<=900){i:Int}(hi:0<=i)(hi':i<=1000)(now:Int):
  Ae C0 Tryd.prog fu (d+8) Ig [.agg c.cells,.sc (.int .i64 i),.lst false 3 vs.length (Ru vs),.sc (.int .i64 now)]=some ⟨[.sc (.int .i64 (Pb c i vs now))],[]⟩:=by
 refine (Qz fu (d+7) c.subj c.iss c.serial c.key.h c.key.root c.fr c.un c.auth c.path c.model c.sig.leaf c.sig.chains.length (Ag .u64 c.sig.chains) c.sig.path.length (Ag .u64 c.sig.path) i vs.length (Ru vs) now).trans ?_;have bq:=EW (fu:=fu) (d:=d) hfu hc.wf hc.s1 hc.s2;simp only [Ce.cells] at bq;unfold Iy at bq;have lp:=MF (fu:=fu) (call:=Ae C0 Tryd.prog fu (d+7)) (a0_0:=c.subj) (a0_1:=c.iss) (a0_2:=c.serial) (a0_3:=c.key.h) (a0_4:=c.key.root) (a0_5:=c.fr) (a0_6:=c.un) (a0_7:=c.auth) (a0_8:=c.path) (a0_9:=c.model) (a0_10:=c.sig.leaf) (a1:=i) (a3:=now) (a0_11n:=c.sig.chains.length) (a0_12n:=c.sig.path.length) (a2n:=vs.length) (a0_11:=Ag .u64 c.sig.chains) (a0_12:=Ag .u64 c.sig.path) (a2:=Ru vs) (c:=c) (now:=now) (vs:=vs) (by omega) vs 0 fu rfl (by omega) (by omega)
 unfold Pb;by_cases h0:A7 c=0
 rotate_left
 ·have hne:(A7 c != 0)=true:=by simp [h0]
  rw [A9 h0] at bq;rw [Cc h0]
  try unfold Aa
  repeat first
   |((with_reducible first|apply Ay|apply Ar|apply A4|apply A6|apply Bb|apply Bl|apply Cg|apply As);· first|with_reducible rfl|(simp (disch:=omega) only [bq,hne]<;>with_reducible rfl))
   |((with_reducible first|apply A0|apply A3);· first|with_reducible rfl|omega|(simp (disch:=omega) only [gT,bq,hne]<;>omega))
   |(with_reducible apply Az;· first|with_reducible rfl|(simp (disch:=omega) only [gF,bq,hne]<;>omega))
  try simp (disch:=omega) only [bq,hne]
  all_goals rfl
 rw [Cc h0] at bq;rw [A9 (by simp [h0])]
 have e00:((0:Int) != 0)=false:=rfl;have w:wrap .i64 (i-1)=i-1:=Aj (by omega) (by omega)
 by_cases h1:now<c.fr
 ·rw [Cc h1]
  try unfold Aa
  repeat first
   |((with_reducible first|apply Ay|apply Ar|apply A4|apply A6|apply Bb|apply Bl|apply Cg|apply As);· first|with_reducible rfl|(simp (disch:=omega) only [bq,e00]<;>with_reducible rfl))
   |((with_reducible first|apply A0|apply A3);· first|with_reducible rfl|omega|(simp (disch:=omega) only [gT,bq,e00]<;>omega))
   |(with_reducible apply Az;· first|with_reducible rfl|(simp (disch:=omega) only [gF,bq,e00]<;>omega))
  try simp (disch:=omega) only [bq,e00]
  all_goals rfl
 rw [A9 h1];by_cases h2:now>c.un
 ·rw [Cc h2]
  try unfold Aa
  repeat first
   |((with_reducible first|apply Ay|apply Ar|apply A4|apply A6|apply Bb|apply Bl|apply Cg|apply As);· first|with_reducible rfl|(simp (disch:=omega) only [bq,e00]<;>with_reducible rfl))
   |((with_reducible first|apply A0|apply A3);· first|with_reducible rfl|omega|(simp (disch:=omega) only [gT,bq,e00]<;>omega))
   |(with_reducible apply Az;· first|with_reducible rfl|(simp (disch:=omega) only [gF,bq,e00]<;>omega))
  try simp (disch:=omega) only [bq,e00]
  all_goals rfl
 rw [A9 h2];by_cases h3:i>0
 ·rw [Cc h3];cases h4:c.auth
  ·rw [Cc rfl];rw [h4] at bq
   try unfold Aa
   repeat first
    |((with_reducible first|apply Ay|apply Ar|apply A4|apply A6|apply Bb|apply Bl|apply Cg|apply As);· first|with_reducible rfl|(simp (disch:=omega) only [bq,e00,Ge]<;>with_reducible rfl))
    |((with_reducible first|apply A0|apply A3);· first|with_reducible rfl|omega|(simp (disch:=omega) only [gT,bq,e00,Ge]<;>omega))
    |(with_reducible apply Az;· first|with_reducible rfl|(simp (disch:=omega) only [gF,bq,e00,Ge]<;>omega))
   try simp (disch:=omega) only [bq,e00,Ge]
   all_goals rfl
  ·rw [A9 (by simp)]
   rw [h4] at lp bq;by_cases h5:c.path<i-1
   ·rw [Cc h5]
    try unfold Aa
    repeat first
     |((with_reducible first|apply Ay|apply Ar|apply A4|apply A6|apply Bb|apply Bl|apply Cg|apply As);· first|with_reducible rfl|(simp (disch:=omega) only [bq,e00,h4,w,D9]<;>with_reducible rfl))
     |((with_reducible first|apply A0|apply A3);· first|with_reducible rfl|omega|(simp (disch:=omega) only [gT,bq,e00,h4,w,D9]<;>omega))
     |(with_reducible apply Az;· first|with_reducible rfl|(simp (disch:=omega) only [gF,bq,e00,h4,w,D9]<;>omega))
    try simp (disch:=omega) only [bq,e00,h4,w,D9]
    all_goals rfl
   ·rw [A9 h5,←lp]
    try unfold Aa
    repeat first
     |((with_reducible first|apply Ay|apply Ar|apply A4|apply A6|apply Bb|apply Bl|apply Cg|apply As);· first|with_reducible rfl|(simp (disch:=omega) only [bq,e00,h4,w,D9]<;>with_reducible rfl))
     |((with_reducible first|apply A0|apply A3);· first|with_reducible rfl|omega|(simp (disch:=omega) only [gT,bq,e00,h4,w,D9]<;>omega))
     |(with_reducible apply Az;· first|with_reducible rfl|(simp (disch:=omega) only [gF,bq,e00,h4,w,D9]<;>omega))
    try simp (disch:=omega) only [bq,e00,h4,w,D9]
    all_goals rfl
 ·rw [A9 h3,←lp]
  try unfold Aa
  repeat first
   |((with_reducible first|apply Ay|apply Ar|apply A4|apply A6|apply Bb|apply Bl|apply Cg|apply As);· first|with_reducible rfl|(simp (disch:=omega) only [bq,e00]<;>with_reducible rfl))
   |((with_reducible first|apply A0|apply A3);· first|with_reducible rfl|omega|(simp (disch:=omega) only [gT,bq,e00]<;>omega))
   |(with_reducible apply Az;· first|with_reducible rfl|(simp (disch:=omega) only [gF,bq,e00]<;>omega))
  try simp (disch:=omega) only [bq,e00]
  all_goals rfl
theorem X9 (hfu:1000<=fu){a0n a1n a2n:Nat}{a0 a1 a2:List PV}{a3:Int}{c:Ce}(hc:c.in_){ans:List An}(hl:ans.length<=1000000):∀(r:List An)(i nn:Nat),ans.drop i=r->r.length<nn->i<=ans.length ->
  Di fu (Ae C0 Tryd.prog fu (d+9)) a0n a0 a1n a1 a2n a2 a3 nn ans.length (Yr ans) (ans.length:Int) (i:Int) c.subj c.iss c.serial c.key.h c.key.root c.fr c.un c.auth c.path c.model c.sig.leaf c.sig.chains.length (Ag .u64 c.sig.chains) c.sig.path.length (Ag .u64 c.sig.path) =
   some ⟨(if Tu c i r<0 then [.sc (.int .i64 0),.sc (.int .i64 38)] else [.sc (.int .i64 (Tu c i r)),.sc (.int .i64 0)]),[]⟩
 |_,_,0,_,h,_=>by omega
 |[],i,nn+1,h,hn,hi=>by
  have:=drop_nil h;rw [Je,Dx _ _ _ (by omega)]
  rfl
 |a::rs,i,nn+1,h,hn,hi=>by
  obtain ⟨h1,h2,h3⟩:=Co h;simp only [Le] at hn;obtain ⟨c0,c1,c2⟩:=ana h2;have w:wrap .i64 ((i:Int)+1)=((i+1:Nat):Int):=by rw [Aj (by omega) (by omega)];omega
  have nt:Int.toNat (i:Int)=i:=Hw _;have c2':(Yr ans).getD (i*3+1+1) .top=.sc (.int .u64 a.key.root):=c2;have vq:=UB (fu:=fu) (d:=d) hfu hc.wf hc.s1 hc.s2 a.key;simp only [Ce.cells,Ky.cells] at vq;have ih:=X9 hfu (a0n:=a0n) (a1n:=a1n) (a2n:=a2n) (a0:=a0) (a1:=a1) (a2:=a2) (a3:=a3) hc hl rs (i+1) nn h3 (by omega) (by omega)
  rw [Je];cases e1:eqS a.name c.iss
  ·have er:Tu c i (a::rs)=Tu c (i+1) rs:=by rw [Tu,A9 (by simp [e1])]
   rw [er,←ih]
   try unfold Aa
   repeat first
    |((with_reducible first|apply Ay|apply Ar|apply A4|apply A6|apply Bb|apply Bl|apply Cg|apply As);· first|with_reducible rfl|(simp (disch:=omega) only [nt,c0,c1,c2',e1,w]<;>with_reducible rfl))
    |((with_reducible first|apply A0|apply A3);· first|with_reducible rfl|omega|(simp (disch:=omega) only [gT,nt,c0,c1,c2',e1,w]<;>omega))
    |(with_reducible apply Az;· first|with_reducible rfl|(simp (disch:=omega) only [gF,nt,c0,c1,c2',e1,w]<;>omega))
   try simp (disch:=omega) only [nt,c0,c1,c2',e1,w]
   all_goals rfl
  ·by_cases e2:AK c a.key=0
   ·have e2':(AK c a.key==0)=true:=by simp [e2]
    have er:Tu c i (a::rs)=(i:Int):=by rw [Tu,Cc ⟨e1,e2⟩]
    rw [er,A9 (by omega)]
    try unfold Aa
    repeat first
     |((with_reducible first|apply Ay|apply Ar|apply A4|apply A6|apply Bb|apply Bl|apply Cg|apply As);· first|with_reducible rfl|(simp (disch:=omega) only [nt,c0,c1,c2',e1,w,vq,e2']<;>with_reducible rfl))
     |((with_reducible first|apply A0|apply A3);· first|with_reducible rfl|omega|(simp (disch:=omega) only [gT,nt,c0,c1,c2',e1,w,vq,e2']<;>omega))
     |(with_reducible apply Az;· first|with_reducible rfl|(simp (disch:=omega) only [gF,nt,c0,c1,c2',e1,w,vq,e2']<;>omega))
    try simp (disch:=omega) only [nt,c0,c1,c2',e1,w,vq,e2']
    all_goals rfl
   ·have e2':(AK c a.key==0)=false:=by simp [e2]
    have er:Tu c i (a::rs)=Tu c (i+1) rs:=by rw [Tu,A9 (by simp [e2])]
    rw [er,←ih]
    try unfold Aa
    repeat first
     |((with_reducible first|apply Ay|apply Ar|apply A4|apply A6|apply Bb|apply Bl|apply Cg|apply As);· first|with_reducible rfl|(simp (disch:=omega) only [nt,c0,c1,c2',e1,w,vq,e2']<;>with_reducible rfl))
     |((with_reducible first|apply A0|apply A3);· first|with_reducible rfl|omega|(simp (disch:=omega) only [gT,nt,c0,c1,c2',e1,w,vq,e2']<;>omega))
     |(with_reducible apply Az;· first|with_reducible rfl|(simp (disch:=omega) only [gF,nt,c0,c1,c2',e1,w,vq,e2']<;>omega))
    try simp (disch:=omega) only [nt,c0,c1,c2',e1,w,vq,e2']
    all_goals rfl
theorem MS (hfu:1000<=fu){a0n a1n a2n:Nat}{a0 a1 a2:List PV}{a3:Int}{cs:List Ce}(hc:∀c∈cs,c.in_)(h3:cs.length<=3){ans:List An}(hl:ans.length<=900){vs:List Rv}(hv:vs.length<=900){now:Int}:∀(r:List Ce)(i nn:Nat),r≠[]->cs.drop i=r->r.length<nn->i<=cs.length ->
  Fj fu (Ae C0 Tryd.prog fu (d+9)) a0n a0 a1n a1 a2n a2 a3 nn cs.length (Hn cs) ans.length (Yr ans) vs.length (Ru vs) now cs.length (Hn cs) (cs.length:Int) (i:Int) =
   some ⟨[.sc (.int .i64 (FM ans vs now i r).1),.sc (.int .i64 (FM ans vs now i r).2)],[]⟩
 |_,_,0,_,_,h,_=>by omega
 |[],i,nn+1,hne,_,_,_=>absurd rfl hne
 |[c],i,nn+1,hne,h,hn,hi=>by
  obtain ⟨h1,h2,h3'⟩:=Co h;have hlast:=drop_nil h3';have hci:=hc c (List.mem_of_getElem? h2);obtain ⟨c0,c1,c2,c3,c4,c5,c6,c7,c8,c9,c10,c11,c12⟩:=cer h2;have nt:Int.toNat (i:Int)=i:=Hw _;have lk:=XV (fu:=fu) (d:=d+1) hfu hci hv (i:=(i:Int)) (by omega) (by omega) now
  simp only [Ce.cells] at lk;have w:wrap .i64 ((cs.length:Int)-1)=(i:Int):=by rw [Aj (by omega) (by omega)];omega
  have eb:((i:Int)==(i:Int))=true:=by simp
  rw [Jb];unfold FM;by_cases hz:Pb c i vs now=0
  ·have pa:=X9 (fu:=fu) (d:=d) hfu (a0n:=a0n) (a1n:=a1n) (a2n:=a2n) (a0:=a0) (a1:=a1) (a2:=a2) (a3:=a3) hci (ans:=ans) (by omega) ans 0 fu rfl (by omega) (by omega)
   have e0:(Pb c i vs now != 0)=false:=by simp [hz]
   have ea:(some ⟨(if Tu c 0 ans<0 then [.sc (.int .i64 0),.sc (.int .i64 38)] else [.sc (.int .i64 (Tu c 0 ans)),.sc (.int .i64 0)]),[]⟩:Option Aw)=some ⟨[.sc (.int .i64 (Adb c ans).1),.sc (.int .i64 (Adb c ans).2)],[]⟩:=by
    unfold Adb;split<;>rfl
   rw [ea] at pa;rw [A9 (by simp [hz]),←pa]
   try unfold Aa
   repeat first
    |((with_reducible first|apply Ay|apply Ar|apply A4|apply A6|apply Bb|apply Bl|apply Cg|apply As);· first|with_reducible rfl|(simp (disch:=omega) only [nt,c0,c1,c2,c3,c4,c5,c6,c7,c8,c9,c10,c11,c12,lk,e0,w,eb]<;>with_reducible rfl))
    |((with_reducible first|apply A0|apply A3);· first|with_reducible rfl|omega|(simp (disch:=omega) only [gT,nt,c0,c1,c2,c3,c4,c5,c6,c7,c8,c9,c10,c11,c12,lk,e0,w,eb]<;>omega))
    |(with_reducible apply Az;· first|with_reducible rfl|(simp (disch:=omega) only [gF,nt,c0,c1,c2,c3,c4,c5,c6,c7,c8,c9,c10,c11,c12,lk,e0,w,eb]<;>omega))
   try simp (disch:=omega) only [nt,c0,c1,c2,c3,c4,c5,c6,c7,c8,c9,c10,c11,c12,lk,e0,w,eb]
   all_goals rfl
  ·have e0:(Pb c i vs now != 0)=true:=by simp [hz]
   rw [Cc hz]
   try unfold Aa
   repeat first
    |((with_reducible first|apply Ay|apply Ar|apply A4|apply A6|apply Bb|apply Bl|apply Cg|apply As);· first|with_reducible rfl|(simp (disch:=omega) only [nt,c0,c1,c2,c3,c4,c5,c6,c7,c8,c9,c10,c11,c12,lk,e0]<;>with_reducible rfl))
    |((with_reducible first|apply A0|apply A3);· first|with_reducible rfl|omega|(simp (disch:=omega) only [gT,nt,c0,c1,c2,c3,c4,c5,c6,c7,c8,c9,c10,c11,c12,lk,e0]<;>omega))
    |(with_reducible apply Az;· first|with_reducible rfl|(simp (disch:=omega) only [gF,nt,c0,c1,c2,c3,c4,c5,c6,c7,c8,c9,c10,c11,c12,lk,e0]<;>omega))
   try simp (disch:=omega) only [nt,c0,c1,c2,c3,c4,c5,c6,c7,c8,c9,c10,c11,c12,lk,e0]
   all_goals rfl
 |c::e::r,i,nn+1,hne,h,hn,hi=>by
  obtain ⟨h1,h2,h3'⟩:=Co h;obtain ⟨k1,k2,k3⟩:=Co h3';simp only [Le] at hn;have hci:=hc c (List.mem_of_getElem? h2);obtain ⟨c0,c1,c2,c3,c4,c5,c6,c7,c8,c9,c10,c11,c12⟩:=cer h2;obtain ⟨q0,q1,q2,q3,q4,_⟩:=cer k2;have nt:Int.toNat (i:Int)=i:=Hw _;have nt1:Int.toNat ((i+1:Nat):Int)=i+1:=Hw _;have lk:=XV (fu:=fu) (d:=d+1) hfu hci hv (i:=(i:Int)) (by omega) (by omega) now
  simp only [Ce.cells] at lk;have w:wrap .i64 ((cs.length:Int)-1)=(cs.length:Int)-1:=Aj (by omega) (by omega)
  have w1:wrap .i64 ((i:Int)+1)=((i+1:Nat):Int):=by rw [Aj (by omega) (by omega)];omega
  have eb:((i:Int)==(cs.length:Int)-1)=false:=by simp;omega
  have q3':(Hn cs).getD ((i+1)*13+3) .top=.sc (.int .i64 e.key.h):=q3;have q4':(Hn cs).getD ((i+1)*13+3+1) .top=.sc (.int .u64 e.key.root):=q4;have vq:=UB (fu:=fu) (d:=d) hfu hci.wf hci.s1 hci.s2 e.key;simp only [Ce.cells,Ky.cells] at vq;rw [Jb];unfold FM;by_cases hz:Pb c i vs now=0
  rotate_left
  ·have e0:(Pb c i vs now != 0)=true:=by simp [hz]
   rw [Cc hz]
   try unfold Aa
   repeat first
    |((with_reducible first|apply Ay|apply Ar|apply A4|apply A6|apply Bb|apply Bl|apply Cg|apply As);· first|with_reducible rfl|(simp (disch:=omega) only [nt,c0,c1,c2,c3,c4,c5,c6,c7,c8,c9,c10,c11,c12,lk,e0]<;>with_reducible rfl))
    |((with_reducible first|apply A0|apply A3);· first|with_reducible rfl|omega|(simp (disch:=omega) only [gT,nt,c0,c1,c2,c3,c4,c5,c6,c7,c8,c9,c10,c11,c12,lk,e0]<;>omega))
    |(with_reducible apply Az;· first|with_reducible rfl|(simp (disch:=omega) only [gF,nt,c0,c1,c2,c3,c4,c5,c6,c7,c8,c9,c10,c11,c12,lk,e0]<;>omega))
   try simp (disch:=omega) only [nt,c0,c1,c2,c3,c4,c5,c6,c7,c8,c9,c10,c11,c12,lk,e0]
   all_goals rfl
  have e0:(Pb c i vs now != 0)=false:=by simp [hz]
  rw [A9 (by simp [hz])]
  cases es:eqS c.iss e.subj
  ·rw [Cc rfl]
   try unfold Aa
   repeat first
    |((with_reducible first|apply Ay|apply Ar|apply A4|apply A6|apply Bb|apply Bl|apply Cg|apply As);· first|with_reducible rfl|(simp (disch:=omega) only [nt,nt1,MT,c0,c1,c2,c3,c4,c5,c6,c7,c8,c9,c10,c11,c12,lk,e0,w,eb,w1,q0,es,Ge]<;>with_reducible rfl))
    |((with_reducible first|apply A0|apply A3);· first|with_reducible rfl|omega|(simp (disch:=omega) only [gT,nt,nt1,MT,c0,c1,c2,c3,c4,c5,c6,c7,c8,c9,c10,c11,c12,lk,e0,w,eb,w1,q0,es,Ge]<;>omega))
    |(with_reducible apply Az;· first|with_reducible rfl|(simp (disch:=omega) only [gF,nt,nt1,MT,c0,c1,c2,c3,c4,c5,c6,c7,c8,c9,c10,c11,c12,lk,e0,w,eb,w1,q0,es,Ge]<;>omega))
   try simp (disch:=omega) only [nt,nt1,MT,c0,c1,c2,c3,c4,c5,c6,c7,c8,c9,c10,c11,c12,lk,e0,w,eb,w1,q0,es,Ge]
   all_goals rfl
  rw [A9 (by simp)]
  by_cases hv':AK c e.key=0
  ·have v0:(AK c e.key != 0)=false:=by simp [hv']
   have ih:=MS hfu (a0n:=a0n) (a1n:=a1n) (a2n:=a2n) (a0:=a0) (a1:=a1) (a2:=a2) (a3:=a3) hc h3 hl hv (now:=now) (e::r) (i+1) nn (by simp) h3' (by simp only [Le];omega) (by omega)
   rw [A9 (by simp [hv']),←ih]
   try unfold Aa
   repeat first
    |((with_reducible first|apply Ay|apply Ar|apply A4|apply A6|apply Bb|apply Bl|apply Cg|apply As);· first|with_reducible rfl|(simp (disch:=omega) only [nt,nt1,MT,c0,c1,c2,c3,c4,c5,c6,c7,c8,c9,c10,c11,c12,lk,e0,w,eb,w1,q0,es,q3',q4',vq,v0,D9]<;>with_reducible rfl))
    |((with_reducible first|apply A0|apply A3);· first|with_reducible rfl|omega|(simp (disch:=omega) only [gT,nt,nt1,MT,c0,c1,c2,c3,c4,c5,c6,c7,c8,c9,c10,c11,c12,lk,e0,w,eb,w1,q0,es,q3',q4',vq,v0,D9]<;>omega))
    |(with_reducible apply Az;· first|with_reducible rfl|(simp (disch:=omega) only [gF,nt,nt1,MT,c0,c1,c2,c3,c4,c5,c6,c7,c8,c9,c10,c11,c12,lk,e0,w,eb,w1,q0,es,q3',q4',vq,v0,D9]<;>omega))
   try simp (disch:=omega) only [nt,nt1,MT,c0,c1,c2,c3,c4,c5,c6,c7,c8,c9,c10,c11,c12,lk,e0,w,eb,w1,q0,es,q3',q4',vq,v0,D9]
   all_goals rfl
  ·have v0:(AK c e.key != 0)=true:=by simp [hv']
   rw [Cc hv']
   try unfold Aa
   repeat first
    |((with_reducible first|apply Ay|apply Ar|apply A4|apply A6|apply Bb|apply Bl|apply Cg|apply As);· first|with_reducible rfl|(simp (disch:=omega) only [nt,nt1,MT,c0,c1,c2,c3,c4,c5,c6,c7,c8,c9,c10,c11,c12,lk,e0,w,eb,w1,q0,es,q3',q4',vq,v0,D9]<;>with_reducible rfl))
    |((with_reducible first|apply A0|apply A3);· first|with_reducible rfl|omega|(simp (disch:=omega) only [gT,nt,nt1,MT,c0,c1,c2,c3,c4,c5,c6,c7,c8,c9,c10,c11,c12,lk,e0,w,eb,w1,q0,es,q3',q4',vq,v0,D9]<;>omega))
    |(with_reducible apply Az;· first|with_reducible rfl|(simp (disch:=omega) only [gF,nt,nt1,MT,c0,c1,c2,c3,c4,c5,c6,c7,c8,c9,c10,c11,c12,lk,e0,w,eb,w1,q0,es,q3',q4',vq,v0,D9]<;>omega))
   try simp (disch:=omega) only [nt,nt1,MT,c0,c1,c2,c3,c4,c5,c6,c7,c8,c9,c10,c11,c12,lk,e0,w,eb,w1,q0,es,q3',q4',vq,v0,D9]
   all_goals rfl
theorem SG (hfu:1000<=fu){cs:List Ce}(hc:∀c∈cs,c.in_){ans:List An}(hl:ans.length<=900){vs:List Rv}(hv:vs.length<=900)(now:Int):
  Ae C0 Tryd.prog fu (d+10) Nu [.lst false 13 cs.length (Hn cs),.lst false 3 ans.length (Yr ans),.lst false 3 vs.length (Ru vs),.sc (.int .i64 now)]=some ⟨[.sc (.int .i64 (TN cs ans vs now).1),.sc (.int .i64 (TN cs ans vs now).2)],[]⟩:=by
 rw [V0];unfold TN;by_cases h1:now<0
 ·rw [Cc h1]
  try unfold Aa
  repeat first
   |((with_reducible first|apply Ay|apply Ar|apply A4|apply A6|apply Bb|apply Bl|apply Cg|apply As);· first|with_reducible rfl|(simp (disch:=omega) only [Cd]<;>with_reducible rfl))
   |((with_reducible first|apply A0|apply A3);· first|with_reducible rfl|omega|(simp (disch:=omega) only [gT,Cd]<;>omega))
   |(with_reducible apply Az;· first|with_reducible rfl|(simp (disch:=omega) only [gF,Cd]<;>omega))
  try simp (disch:=omega) only [Cd]
  all_goals rfl
 rw [A9 h1];by_cases h2:now>1099511627776
 ·rw [Cc h2]
  try unfold Aa
  repeat first
   |((with_reducible first|apply Ay|apply Ar|apply A4|apply A6|apply Bb|apply Bl|apply Cg|apply As);· first|with_reducible rfl|(simp (disch:=omega) only [Cd]<;>with_reducible rfl))
   |((with_reducible first|apply A0|apply A3);· first|with_reducible rfl|omega|(simp (disch:=omega) only [gT,Cd]<;>omega))
   |(with_reducible apply Az;· first|with_reducible rfl|(simp (disch:=omega) only [gF,Cd]<;>omega))
  try simp (disch:=omega) only [Cd]
  all_goals rfl
 rw [A9 h2];by_cases h3:cs.length<1
 ·rw [Cc h3]
  try unfold Aa
  repeat first
   |((with_reducible first|apply Ay|apply Ar|apply A4|apply A6|apply Bb|apply Bl|apply Cg|apply As);· first|with_reducible rfl|(simp (disch:=omega) only [Cd]<;>with_reducible rfl))
   |((with_reducible first|apply A0|apply A3);· first|with_reducible rfl|omega|(simp (disch:=omega) only [gT,Cd]<;>omega))
   |(with_reducible apply Az;· first|with_reducible rfl|(simp (disch:=omega) only [gF,Cd]<;>omega))
  try simp (disch:=omega) only [Cd]
  all_goals rfl
 rw [A9 h3];by_cases h4:cs.length>3
 ·rw [Cc h4]
  try unfold Aa
  repeat first
   |((with_reducible first|apply Ay|apply Ar|apply A4|apply A6|apply Bb|apply Bl|apply Cg|apply As);· first|with_reducible rfl|(simp (disch:=omega) only [Cd]<;>with_reducible rfl))
   |((with_reducible first|apply A0|apply A3);· first|with_reducible rfl|omega|(simp (disch:=omega) only [gT,Cd]<;>omega))
   |(with_reducible apply Az;· first|with_reducible rfl|(simp (disch:=omega) only [gF,Cd]<;>omega))
  try simp (disch:=omega) only [Cd]
  all_goals rfl
 rw [A9 h4];have lp:=MS (fu:=fu) (d:=d) hfu (a0n:=cs.length) (a1n:=ans.length) (a2n:=vs.length) (a0:=Hn cs) (a1:=Yr ans) (a2:=Ru vs) (a3:=now) hc (by omega) hl hv (now:=now) cs 0 fu (by intro h;subst h;simp at h3) rfl (by omega) (by omega)
 rw [←lp]
 try unfold Aa
 repeat first
  |((with_reducible first|apply Ay|apply Ar|apply A4|apply A6|apply Bb|apply Bl|apply Cg|apply As);· first|with_reducible rfl|(simp (disch:=omega) only [Cd]<;>with_reducible rfl))
  |((with_reducible first|apply A0|apply A3);· first|with_reducible rfl|omega|(simp (disch:=omega) only [gT,Cd]<;>omega))
  |(with_reducible apply Az;· first|with_reducible rfl|(simp (disch:=omega) only [gF,Cd]<;>omega))
 try simp (disch:=omega) only [Cd]
 all_goals rfl
end
end
section
open Go.IntKind (wrap)
set_option maxRecDepth 100000
abbrev O5:FuncId:=5
theorem Y7 (fu d a0n:Nat)(a0:List PV):Ae C0 Tryd.prog fu (d+1) O5 [.lst false 1 a0n a0]=(fun (call:Ah)=>some (Aw.mk [.pbox [.lst false 1 a0n a0,.sc (.int .i64 0)]] [])) (Ae C0 Tryd.prog fu d):=by kernel_rfl
abbrev Ox:FuncId:=17
theorem Yb (fu d:Nat)(a0 a1:Int):Ae C0 Tryd.prog fu (d+1) Ox [.sc (.int .i64 a0),.sc (.int .i64 a1)]=(fun (call:Ah)=>Aa (wrap .u64 a0) fun x1=>Aa (wrap .u64 a1) fun x2=>Ao (decide (x2≠0))<|Aa (Int.tmod x1 x2) fun x3=>Aa (wrap .i64 x3) fun x4=>some (Aw.mk [.sc (.int .i64 x4)] [])) (Ae C0 Tryd.prog fu d):=by kernel_rfl
abbrev H9:FuncId:=8
theorem Id (fu d a0_0n:Nat)(a0_0:List PV)(a0_1 a1:Int):Ae C0 Tryd.prog fu (d+1) H9 [.pbox [.lst false 1 a0_0n a0_0,.sc (.int .i64 a0_1)],.sc (.int .i64 a1)]=(fun (call:Ah)=>Bc (decide (a0_1>=(↑a0_0n:Int))) (some (Aw.mk [.sc (.int .i64 0)] [[.lst false 1 a0_0n a0_0,.sc (.int .i64 a0_1)]])) (Aa (wrap .i64 (a0_1+1)) fun x1=>Aa (wrap .i64 (x1-1)) fun x2=>Ao (decide (0<=x2)&&decide (x2<(↑a0_0n:Int)))<|Ad .i64 (List.getD a0_0 (Int.toNat x2*1) .top) fun x3=>Ai (call 17 [.sc (.int .i64 x3),.sc (.int .i64 a1)]) fun x4 x5=>Ac x5<|Ab x4 fun x6 x7=>Ad .i64 x6 fun x8=>Ac x7<|some (Aw.mk [.sc (.int .i64 x8)] [[.lst false 1 a0_0n a0_0,.sc (.int .i64 x1)]]))) (Ae C0 Tryd.prog fu d):=by kernel_rfl
end
section
open Go.IntKind (wrap)
abbrev dkc (l:List Int)(a:Nat):List PV:=[.lst false 1 l.length (Ag .i64 l),.sc (.int .i64 (a:Int))]
theorem Akw {fu d:Nat}{l:List Int}:Ae C0 Tryd.prog fu (d+1) O5 [.lst false 1 l.length (Ag .i64 l)]=some ⟨[.pbox (dkc l 0)],[]⟩:=by
 rw [Y7];rfl
theorem Ajp (v n:Int)(hn:0<n)(hm:n<=9223372036854775807):∃r,0<=r∧r<n∧∀{fu d:Nat},Ae C0 Tryd.prog fu (d+1) Ox [.sc (.int .i64 v),.sc (.int .i64 n)]=some ⟨[.sc (.int .i64 r)],[]⟩:=by
 have h1:=Ba v;have h2:wrap .u64 n=n:=Dc (by omega) (by omega)
 have h3:0<=Int.tmod (wrap .u64 v) n:=Int.tmod_nonneg _ h1.1;have h4:Int.tmod (wrap .u64 v) n<n:=Int.tmod_lt_of_pos _ hn;refine ⟨_,h3,h4,fun {fu d}=>?_⟩
 rw [Yb];simp only [F9,h2];rw [PE _ _ (by omega),Aj (by omega) (by omega)]
theorem Hc {l:List Int}(hl:l.length<=maxLen)(a:Nat)(n:Int)(hn:0<n)(hm:n<=9223372036854775807):∃(v:Int)(a':Nat),0<=v∧v<n ∧
  ∀{fu d:Nat},Ae C0 Tryd.prog fu (d+2) H9 [.pbox (dkc l a),.sc (.int .i64 n)]=some ⟨[.sc (.int .i64 v)],[dkc l a']⟩:=by
 simp only [maxLen] at hl;by_cases h:a<l.length
 ·obtain ⟨r,h1,h2,h3⟩:=Ajp l[a] n hn hm;refine ⟨r,a+1,h1,h2,fun {fu d}=>?_⟩
  rw [Id]
  have hg:(Ag .i64 l).getD (Int.toNat ((a:Int)+1-1)*1) .top=.sc (.int .i64 l[a]):=by
   have:=V5 (k:=.i64) (List.getElem?_eq_getElem h);rw [show Int.toNat ((a:Int)+1-1)*1=a by omega]
   exact this
  simp (disch:=omega) only [Ca,Aj,hg,h3];rfl
 ·refine ⟨0,a,by omega,hn,fun {fu d}=>?_⟩
  rw [Id];simp (disch:=omega) only [Ca]
end
section
open Go.IntKind (wrap)
set_option maxRecDepth 100000
abbrev Ou:FuncId:=12
theorem Xy (fu d:Nat)(a0 a1:Int):Ae C0 Tryd.prog fu (d+1) Ou [.sc (.int .u64 a0),.sc (.int .i64 a1)]=(fun (call:Ah)=>Ai (call 16 [.sc (.int .u64 a0),.sc (.int .i64 a1)]) fun x1 x2=>Ac x2<|Ab x1 fun x3 x4=>Ez x3 fun x5=>Ab x5 fun x6 x7=>Ad .i64 x6 fun x8=>Ab x7 fun x9 Cp=>Ad .u64 x9 fun C3=>Ac Cp<|Ab x4 fun Dz Ed=>Ad .i64 Dz fun Dy=>Ac Ed<|some (Aw.mk [.agg [.sc (.int .i64 x8),.sc (.int .u64 C3)]] [])) (Ae C0 Tryd.prog fu d):=by kernel_rfl
end
section
open Go.IntKind (wrap)
set_option maxRecDepth 1000000
section
variable {fu d:Nat}
theorem Ae4 (hfu:1000<=fu)(seed h:Int):Ae C0 Tryd.prog fu (d+13) Ou [.sc (.int .u64 seed),.sc (.int .i64 h)]=some ⟨[.agg (Js seed h).cells],[]⟩:=by
 rw [Xy];have p:=FP (fu:=fu) (d:=d) hfu seed h;simp only [Ky.cells] at p ⊢;simp only [Ca,p]
end
theorem OT (dom:Int)(l:List Int):ZC (M8 dom l):=Ba _
theorem Akk (key dom:Int)(l:List Int):ZC (Ahl key dom l):=Ba _
theorem Acx (leaf chain:Int):∀(k:Nat)(p:Int){x:Int},ZC x->ZC (Pm leaf chain k p x)
 |0,_,_,h=>h
 |k+1,p,x,h=>Acx leaf chain k (p+1) (OT _ _)
theorem Ajw (seed leaf m:Int):isW (Jt seed leaf m):=by
 intro x hx;obtain ⟨k,_,rfl⟩:=List.mem_map.1 hx;exact Acx _ _ _ _ (Akk _ _ _)
theorem XX (seed:Int):∀(l:Nat)(i:Int),ZC (Bw seed l i)
 |0,i=>OT _ _
 |l+1,i=>OT _ _
theorem KM (seed h:Int):ZC (Js seed h).root:=by
 unfold Js;split
 ·exact ⟨by simp,by simp⟩
 ·exact XX _ _ _
theorem Aaj (seed h:Int):C4 (Js seed h).h=false:=by
 unfold Js;cases hh:C4 h
 ·rw [A9 (by simp)]
  exact hh
 ·rw [Cc rfl];rfl
theorem ZF {seed h leaf m:Int}(hh:C4 h=false)(ho:Nn leaf h=false):∃s,V7 seed h leaf m=some s∧s.ok∧s.leaf=leaf∧s.chains.length=18∧(s.path.length:Int)=h∧QW (Js seed h) m s=0:=by
 have hb:=Fn hh;refine ⟨⟨leaf,Jt seed leaf m,(List.range h.toNat).map fun k=>Bw seed k (G0 leaf k)⟩,?_,⟨Ajw _ _ _,?_⟩,rfl,by simp [Jt],?_,Afu hh ho⟩
 ·unfold V7;rw [A9 (by simp [hh]),A9 (by simp [ho])]
 ·intro x hx;obtain ⟨k,_,rfl⟩:=List.mem_map.1 hx;exact XX _ _ _
 ·simp only [List.length_map,List.length_range];omega
end
section
open Go.IntKind (wrap)
set_option maxRecDepth 100000
abbrev Mu:FuncId:=6
theorem Wj (fu d:Nat)(a0_0 a0_1:ByteArray)(a0_2 a0_3:Int)(a0_4 a0_5 a0_6:Int)(a0_7:Bool)(a0_8 a0_9 a0_10:Int)(a0_11n:Nat)(a0_11:List PV)(a0_12n:Nat)(a0_12:List PV)(a1 a2 a3:Int):Ae C0 Tryd.prog fu (d+1) Mu [.agg [.sc (.string a0_0),.sc (.string a0_1),.sc (.int .u64 a0_2),.sc (.int .i64 a0_3),.sc (.int .u64 a0_4),.sc (.int .i64 a0_5),.sc (.int .i64 a0_6),.sc (.bool a0_7),.sc (.int .i64 a0_8),.sc (.int .u64 a0_9),.sc (.int .i64 a0_10),.lst false 1 a0_11n a0_11,.lst false 1 a0_12n a0_12],.sc (.int .u64 a1),.sc (.int .i64 a2),.sc (.int .i64 a3)]=(fun (call:Ah)=>Ai (call 14 [.agg [.sc (.string a0_0),.sc (.string a0_1),.sc (.int .u64 a0_2),.sc (.int .i64 a0_3),.sc (.int .u64 a0_4),.sc (.int .i64 a0_5),.sc (.int .i64 a0_6),.sc (.bool a0_7),.sc (.int .i64 a0_8),.sc (.int .u64 a0_9),.sc (.int .i64 a0_10),.lst false 1 a0_11n a0_11,.lst false 1 a0_12n a0_12]]) fun x1 x2=>Ac x2<|Ab x1 fun x3 x4=>Ad .u64 x3 fun x5=>Ab x4 fun x6 x7=>Ad .i64 x6 fun x8=>Ac x7<|Bc (x8 != 0) (some (Aw.mk [.agg [.sc (.string (ByteArray.mk #[])),.sc (.string (ByteArray.mk #[])),.sc (.int .u64 0),.sc (.int .i64 0),.sc (.int .u64 0),.sc (.int .i64 0),.sc (.int .i64 0),.sc (.bool false),.sc (.int .i64 0),.sc (.int .u64 0),.sc (.int .i64 0),.lst false 1 0 [],.lst false 1 0 []],.sc (.int .i64 x8)] [])) (Ai (call 15 [.sc (.int .u64 a1),.sc (.int .i64 a2),.sc (.int .i64 a3),.sc (.int .u64 x5)]) fun x9 Cp=>Ac Cp<|Ab x9 fun C3 Dz=>Ez C3 fun Ed=>Ab Ed fun Dy Ec=>Ad .i64 Dy fun Ej=>Ab Ec fun Fc F2=>Gk 1 Fc fun F3 F8 Ij=>Ab F2 fun G6 H7=>Gk 1 G6 fun Dr Dl G7=>Ac H7<|Ab Dz fun Il E1=>Ad .i64 Il fun Mi=>Ac E1<|Bc (Mi != 0) (some (Aw.mk [.agg [.sc (.string (ByteArray.mk #[])),.sc (.string (ByteArray.mk #[])),.sc (.int .u64 0),.sc (.int .i64 0),.sc (.int .u64 0),.sc (.int .i64 0),.sc (.int .i64 0),.sc (.bool false),.sc (.int .i64 0),.sc (.int .u64 0),.sc (.int .i64 0),.lst false 1 0 [],.lst false 1 0 []],.sc (.int .i64 Mi)] [])) (some (Aw.mk [.agg [.sc (.string a0_0),.sc (.string a0_1),.sc (.int .u64 a0_2),.sc (.int .i64 a0_3),.sc (.int .u64 a0_4),.sc (.int .i64 a0_5),.sc (.int .i64 a0_6),.sc (.bool a0_7),.sc (.int .i64 a0_8),.sc (.int .u64 a0_9),.sc (.int .i64 Ej),.lst false 1 F8 Ij,.lst false 1 Dl G7],.sc (.int .i64 0)] [])))) (Ae C0 Tryd.prog fu d):=by kernel_rfl
end
section
open Go.IntKind (wrap)
set_option maxRecDepth 100000
abbrev Fq:FuncId:=7
theorem J2 (fu d a0_0n:Nat)(a0_0:List PV)(a0_1:Int):Ae C0 Tryd.prog fu (d+1) Fq [.pbox [.lst false 1 a0_0n a0_0,.sc (.int .i64 a0_1)]]=(fun (call:Ah)=>Ai (call 8 [.pbox [.lst false 1 a0_0n a0_0,.sc (.int .i64 a0_1)],.sc (.int .i64 5)]) fun x1 x2=>Ab x1 fun x3 x4=>Ad .i64 x3 fun x5=>Ac x4<|Ab x2 fun x6 x7=>Ab x6 fun x8 x9=>Gk 1 x8 fun Cp C3 Dz=>Ab x9 fun Ed Dy=>Ad .i64 Ed fun Ec=>Ac Dy<|Ac x7<|Aa (wrap .u64 x5) fun Ej=>Ai (call 8 [.pbox [.lst false 1 C3 Dz,.sc (.int .i64 Ec)],.sc (.int .i64 3)]) fun Fc F2=>Ab Fc fun F3 F8=>Ad .i64 F3 fun Ij=>Ac F8<|Ab F2 fun G6 H7=>Ab G6 fun Dr Dl=>Gk 1 Dr fun G7 Il E1=>Ab Dl fun Mi Nd=>Ad .i64 Mi fun Lf=>Ac Nd<|Ac H7<|Ai (call 16 [.sc (.int .u64 Ej),.sc (.int .i64 Ij)]) fun Mv Nv=>Ac Nv<|Ab Mv fun Oa Pp=>Ez Oa fun Rh=>Ab Rh fun Rw Gg=>Ad .i64 Rw fun Hv=>Ab Gg fun Ug Yw=>Ad .u64 Ug fun Kw=>Ac Yw<|Ab Pp fun Uo S7=>Ad .i64 Uo fun Sh=>Ac S7<|Ai (call 8 [.pbox [.lst false 1 Il E1,.sc (.int .i64 Lf)],.sc (.int .i64 9)]) fun Sf Wx=>Ab Sf fun Xr R8=>Ad .i64 Xr fun Ve=>Ac R8<|Ab Wx fun Ww Wt=>Ab Ww fun Oi Y9=>Gk 1 Oi fun DO Zt BN=>Ab Y9 fun Ut V8=>Ad .i64 Ut fun Z7=>Ac V8<|Ac Wt<|Aa (if 4<Ve then 4 else Ve) fun Zb=>Ao (decide (0<=Zb)&&decide (Zb<5))<|Dp (List.getD [.sc (.string (ByteArray.mk #[108,101,97,102])),.sc (.string (ByteArray.mk #[109,105,100])),.sc (.string (ByteArray.mk #[116,111,112])),.sc (.string (ByteArray.mk #[])),.sc (.string (ByteArray.mk #[255]))] (0+Int.toNat Zb*1) .top) fun Tz=>Ai (call 8 [.pbox [.lst false 1 Zt BN,.sc (.int .i64 Z7)],.sc (.int .i64 4)]) fun Zi Y3=>Ab Zi fun Zs Wp=>Ad .i64 Zs fun Vk=>Ac Wp<|Ab Y3 fun DS CC=>Ab DS fun Zg Yl=>Gk 1 Zg fun CM HC CE=>Ab Yl fun EN IW=>Ad .i64 EN fun BL=>Ac IW<|Ac CC<|Ao (decide (0<=Vk)&&decide (Vk<4))<|Dp (List.getD [.sc (.string (ByteArray.mk #[114,111,111,116])),.sc (.string (ByteArray.mk #[109,105,100])),.sc (.string (ByteArray.mk #[116,111,112])),.sc (.string (ByteArray.mk #[111,116,104,101,114]))] (0+Int.toNat Vk*1) .top) fun Vg=>Ai (call 8 [.pbox [.lst false 1 HC CE,.sc (.int .i64 BL)],.sc (.int .i64 4)]) fun MO KT=>Ab MO fun VJ XM=>Ad .i64 VJ fun QN=>Ac XM<|Ab KT fun UC x85=>Ab UC fun YH UE=>Gk 1 YH fun UD IX QA=>Ab UE fun VN WM=>Ad .i64 VN fun UI=>Ac WM<|Ac x85<|Aa (wrap .u64 QN) fun IZ=>Ai (call 8 [.pbox [.lst false 1 IX QA,.sc (.int .i64 UI)],.sc (.int .i64 20)]) fun x95 x96=>Ab x95 fun UH XJ=>Ad .i64 UH fun DY=>Ac XJ<|Ab x96 fun Xi Us=>Ab Xi fun G8 Jm=>Gk 1 G8 fun BC Sc R7=>Ab Jm fun Jw W0=>Ad .i64 Jw fun Z1=>Ac W0<|Ac Us<|Ai (call 8 [.pbox [.lst false 1 Sc R7,.sc (.int .i64 Z1)],.sc (.int .i64 60)]) fun X3 BA=>Ab X3 fun Hz I6=>Ad .i64 Hz fun AP=>Ac I6<|Ab BA fun AR Y5=>Ab AR fun GV AX=>Gk 1 GV fun Vp Xs X7=>Ab AX fun Yo Zn=>Ad .i64 Yo fun AL=>Ac Zn<|Ac Y5<|Aa (wrap .i64 (20+AP)) fun Oh=>Ai (call 8 [.pbox [.lst false 1 Xs X7,.sc (.int .i64 AL)],.sc (.int .i64 2)]) fun Qq Sx=>Ab Qq fun X1 AG=>Ad .i64 X1 fun Lj=>Ac AG<|Ab Sx fun JJ Xp=>Ab JJ fun Uv DE=>Gk 1 Uv fun JA JM HV=>Ab DE fun EA Zu=>Ad .i64 EA fun DT=>Ac Zu<|Ac Xp<|Ai (call 8 [.pbox [.lst false 1 JM HV,.sc (.int .i64 DT)],.sc (.int .i64 3)]) fun HT HG=>Ab HT fun GJ AE=>Ad .i64 GJ fun DF=>Ac AE<|Ab HG fun Vw Z8=>Ab Vw fun HL OB=>Gk 1 HL fun RS KE Ym=>Ab OB fun FL PD=>Ad .i64 FL fun QX=>Ac PD<|Ac Z8<|Aa (wrap .u64 DF) fun Up=>Bc (Lj==1) (Ai (call 8 [.pbox [.lst false 1 KE Ym,.sc (.int .i64 QX)],.sc (.int .i64 3)]) fun QO NJ=>Ab QO fun SM UN=>Ad .i64 SM fun PF=>Ac UN<|Ab NJ fun SS WC=>Ab SS fun OD SC=>Gk 1 OD fun Ab6 PL SK=>Ab SC fun WU VT=>Ad .i64 WU fun WJ=>Ac VT<|Ac WC<|Ai (call 8 [.pbox [.lst false 1 PL SK,.sc (.int .i64 WJ)],.sc (.int .i64 14)]) fun Agb Afx=>Ab Agb fun Aga XC=>Ad .i64 Aga fun PA=>Ac XC<|Ab Afx fun Ad1 Ac1=>Ab Ad1 fun Ady Aj7=>Gk 1 Ady fun Alr UQ WO=>Ab Aj7 fun Ajx Akx=>Ad .i64 Ajx fun WL=>Ac Akx<|Ac Ac1<|Bc (PA==13) (Aa (wrap .i64 (DY-1)) fun Aky=>some (Aw.mk [.agg [.sc (.string Tz),.sc (.string Vg),.sc (.int .u64 IZ),.sc (.int .i64 Hv),.sc (.int .u64 Kw),.sc (.int .i64 DY),.sc (.int .i64 Aky),.sc (.bool (Lj==1)),.sc (.int .i64 PF),.sc (.int .u64 Up),.sc (.int .i64 0),.own 1 0 [],.own 1 0 []]] [[.lst false 1 UQ WO,.sc (.int .i64 WL)]])) (Bc (PA==12) (some (Aw.mk [.agg [.sc (.string Tz),.sc (.string Vg),.sc (.int .u64 IZ),.sc (.int .i64 Hv),.sc (.int .u64 Kw),.sc (.int .i64 DY),.sc (.int .i64 Oh),.sc (.bool (Lj==1)),.sc (.int .i64 3),.sc (.int .u64 Up),.sc (.int .i64 0),.own 1 0 [],.own 1 0 []]] [[.lst false 1 UQ WO,.sc (.int .i64 WL)]])) (Bc (PA==11) (some (Aw.mk [.agg [.sc (.string Tz),.sc (.string Vg),.sc (.int .u64 IZ),.sc (.int .i64 5),.sc (.int .u64 Kw),.sc (.int .i64 DY),.sc (.int .i64 Oh),.sc (.bool (Lj==1)),.sc (.int .i64 PF),.sc (.int .u64 Up),.sc (.int .i64 0),.own 1 0 [],.own 1 0 []]] [[.lst false 1 UQ WO,.sc (.int .i64 WL)]])) (Bc (PA==10) (some (Aw.mk [.agg [.sc (.string Tz),.sc (.string Vg),.sc (.int .u64 IZ),.sc (.int .i64 Hv),.sc (.int .u64 Kw),.sc (.int .i64 DY),.sc (.int .i64 Oh),.sc (.bool (Lj==1)),.sc (.int .i64 1),.sc (.int .u64 Up),.sc (.int .i64 0),.own 1 0 [],.own 1 0 []]] [[.lst false 1 UQ WO,.sc (.int .i64 WL)]])) (some (Aw.mk [.agg [.sc (.string Tz),.sc (.string Vg),.sc (.int .u64 IZ),.sc (.int .i64 Hv),.sc (.int .u64 Kw),.sc (.int .i64 DY),.sc (.int .i64 Oh),.sc (.bool (Lj==1)),.sc (.int .i64 PF),.sc (.int .u64 Up),.sc (.int .i64 0),.own 1 0 [],.own 1 0 []]] [[.lst false 1 UQ WO,.sc (.int .i64 WL)]])))))) (Ai (call 8 [.pbox [.lst false 1 KE Ym,.sc (.int .i64 QX)],.sc (.int .i64 14)]) fun Akj Ai7=>Ab Akj fun Akp Alj=>Ad .i64 Akp fun Acm=>Ac Alj<|Ab Ai7 fun Ajc Aki=>Ab Ajc fun Ajb Alm=>Gk 1 Ajb fun Alu XA WP=>Ab Alm fun Aju Aj2=>Ad .i64 Aju fun VR=>Ac Aj2<|Ac Aki<|Bc (Acm==13) (Aa (wrap .i64 (DY-1)) fun Akt=>some (Aw.mk [.agg [.sc (.string Tz),.sc (.string Vg),.sc (.int .u64 IZ),.sc (.int .i64 Hv),.sc (.int .u64 Kw),.sc (.int .i64 DY),.sc (.int .i64 Akt),.sc (.bool (Lj==1)),.sc (.int .i64 0),.sc (.int .u64 Up),.sc (.int .i64 0),.own 1 0 [],.own 1 0 []]] [[.lst false 1 XA WP,.sc (.int .i64 VR)]])) (Bc (Acm==12) (some (Aw.mk [.agg [.sc (.string Tz),.sc (.string Vg),.sc (.int .u64 IZ),.sc (.int .i64 Hv),.sc (.int .u64 Kw),.sc (.int .i64 DY),.sc (.int .i64 Oh),.sc (.bool (Lj==1)),.sc (.int .i64 3),.sc (.int .u64 Up),.sc (.int .i64 0),.own 1 0 [],.own 1 0 []]] [[.lst false 1 XA WP,.sc (.int .i64 VR)]])) (Bc (Acm==11) (some (Aw.mk [.agg [.sc (.string Tz),.sc (.string Vg),.sc (.int .u64 IZ),.sc (.int .i64 5),.sc (.int .u64 Kw),.sc (.int .i64 DY),.sc (.int .i64 Oh),.sc (.bool (Lj==1)),.sc (.int .i64 0),.sc (.int .u64 Up),.sc (.int .i64 0),.own 1 0 [],.own 1 0 []]] [[.lst false 1 XA WP,.sc (.int .i64 VR)]])) (Bc (Acm==10) (some (Aw.mk [.agg [.sc (.string Tz),.sc (.string Vg),.sc (.int .u64 IZ),.sc (.int .i64 Hv),.sc (.int .u64 Kw),.sc (.int .i64 DY),.sc (.int .i64 Oh),.sc (.bool (Lj==1)),.sc (.int .i64 1),.sc (.int .u64 Up),.sc (.int .i64 0),.own 1 0 [],.own 1 0 []]] [[.lst false 1 XA WP,.sc (.int .i64 VR)]])) (some (Aw.mk [.agg [.sc (.string Tz),.sc (.string Vg),.sc (.int .u64 IZ),.sc (.int .i64 Hv),.sc (.int .u64 Kw),.sc (.int .i64 DY),.sc (.int .i64 Oh),.sc (.bool (Lj==1)),.sc (.int .i64 0),.sc (.int .u64 Up),.sc (.int .i64 0),.own 1 0 [],.own 1 0 []]] [[.lst false 1 XA WP,.sc (.int .i64 VR)]]))))))) (Ae C0 Tryd.prog fu d):=by kernel_rfl
abbrev Ka:FuncId:=4
theorem Sr (fu d:Nat):Ae C0 Tryd.prog fu (d+1) Ka []=(fun (call:Ah)=>Ai (call 12 [.sc (.int .u64 5),.sc (.int .i64 1)]) fun x1 x2=>Ac x2<|Ab x1 fun x3 x4=>Ez x3 fun x5=>Ab x5 fun x6 x7=>Ad .i64 x6 fun x8=>Ab x7 fun x9 Cp=>Ad .u64 x9 fun C3=>Ac Cp<|Ac x4<|Ai (call 6 [.agg [.sc (.string (ByteArray.mk #[108,101,97,102])),.sc (.string (ByteArray.mk #[114,111,111,116])),.sc (.int .u64 9),.sc (.int .i64 x8),.sc (.int .u64 C3),.sc (.int .i64 1),.sc (.int .i64 8),.sc (.bool false),.sc (.int .i64 0),.sc (.int .u64 0),.sc (.int .i64 0),.lst false 1 0 [],.lst false 1 0 []],.sc (.int .u64 71),.sc (.int .i64 1),.sc (.int .i64 0)]) fun Dz Ed=>Ac Ed<|Ab Dz fun Dy Ec=>Ez Dy fun Ej=>Ab Ej fun Fc F2=>Dp Fc fun F3=>Ab F2 fun F8 Ij=>Dp F8 fun G6=>Ab Ij fun H7 Dr=>Ad .u64 H7 fun Dl=>Ab Dr fun G7 Il=>Ad .i64 G7 fun E1=>Ab Il fun Mi Nd=>Ad .u64 Mi fun Lf=>Ab Nd fun Mv Nv=>Ad .i64 Mv fun Oa=>Ab Nv fun Pp Rh=>Ad .i64 Pp fun Rw=>Ab Rh fun Gg Hv=>Bn Gg fun Ug=>Ab Hv fun Yw Kw=>Ad .i64 Yw fun Uo=>Ab Kw fun S7 Sh=>Ad .u64 S7 fun Sf=>Ab Sh fun Wx Xr=>Ad .i64 Wx fun R8=>Ab Xr fun Ve Ww=>Gk 1 Ve fun Wt Oi Y9=>Ab Ww fun DO Zt=>Gk 1 DO fun BN Ut V8=>Ac Zt<|Ab Ec fun Z7 Zb=>Ad .i64 Z7 fun Tz=>Ac Zb<|Ai (call 9 [.agg [.sc (.string F3),.sc (.string G6),.sc (.int .u64 Dl),.sc (.int .i64 E1),.sc (.int .u64 Lf),.sc (.int .i64 Oa),.sc (.int .i64 Rw),.sc (.bool Ug),.sc (.int .i64 Uo),.sc (.int .u64 Sf),.sc (.int .i64 R8),.lst false 1 Oi Y9,.lst false 1 Ut V8]]) fun Zi Y3=>Ac Y3<|Ab Zi fun Zs Wp=>Eg 1 Zs fun Vk DS=>Ab Wp fun CC Zg=>Ad .i64 CC fun Yl=>Ac Zg<|Ao (decide (0+Vk*1<=DS.length))<|Ai (call 10 [.lst false 1 Vk (List.take (Vk*1) (List.drop 0 DS))]) fun CM HC=>Ac HC<|Ab CM fun CE EN=>Ez CE fun IW=>Ab IW fun BL Vg=>Dp BL fun MO=>Ab Vg fun KT VJ=>Dp KT fun XM=>Ab VJ fun QN UC=>Ad .u64 QN fun x85=>Ab UC fun YH UE=>Ad .i64 YH fun UD=>Ab UE fun IX QA=>Ad .u64 IX fun VN=>Ab QA fun WM UI=>Ad .i64 WM fun IZ=>Ab UI fun x95 x96=>Ad .i64 x95 fun UH=>Ab x96 fun XJ DY=>Bn XJ fun Xi=>Ab DY fun Us G8=>Ad .i64 Us fun Jm=>Ab G8 fun BC Sc=>Ad .u64 BC fun R7=>Ab Sc fun Jw W0=>Ad .i64 Jw fun Z1=>Ab W0 fun X3 BA=>Gk 1 X3 fun Hz I6 AP=>Ab BA fun AR Y5=>Gk 1 AR fun GV AX Vp=>Ac Y5<|Ab EN fun Xs X7=>Ad .i64 Xs fun Yo=>Ac X7<|Ai (call 12 [.sc (.int .u64 71),.sc (.int .i64 1)]) fun Zn AL=>Ac AL<|Ab Zn fun Oh Qq=>Ez Oh fun Sx=>Ab Sx fun X1 AG=>Ad .i64 X1 fun Lj=>Ab AG fun JJ Xp=>Ad .u64 JJ fun Uv=>Ac Xp<|Ac Qq<|Ai (call 13 [.lst false 13 1 [.sc (.string F3),.sc (.string G6),.sc (.int .u64 Dl),.sc (.int .i64 E1),.sc (.int .u64 Lf),.sc (.int .i64 Oa),.sc (.int .i64 Rw),.sc (.bool Ug),.sc (.int .i64 Uo),.sc (.int .u64 Sf),.sc (.int .i64 R8),.lst false 1 Oi Y9,.lst false 1 Ut V8],.lst false 3 1 [.sc (.string (ByteArray.mk #[114,111,111,116])),.sc (.int .i64 Lj),.sc (.int .u64 Uv)],.lst false 3 0 [],.sc (.int .i64 8)]) fun DE JA=>Ac JA<|Ab DE fun JM HV=>Ad .i64 JM fun EA=>Ab HV fun Zu DT=>Ad .i64 Zu fun HT=>Ac DT<|Ai (call 13 [.lst false 13 1 [.sc (.string F3),.sc (.string G6),.sc (.int .u64 Dl),.sc (.int .i64 E1),.sc (.int .u64 Lf),.sc (.int .i64 Oa),.sc (.int .i64 Rw),.sc (.bool Ug),.sc (.int .i64 Uo),.sc (.int .u64 Sf),.sc (.int .i64 R8),.lst false 1 Oi Y9,.lst false 1 Ut V8],.lst false 3 1 [.sc (.string (ByteArray.mk #[114,111,111,116])),.sc (.int .i64 Lj),.sc (.int .u64 Uv)],.lst false 3 0 [],.sc (.int .i64 9)]) fun HG GJ=>Ac GJ<|Ab HG fun AE DF=>Ad .i64 AE fun Vw=>Ab DF fun Z8 HL=>Ad .i64 Z8 fun OB=>Ac HL<|Bc (Tz==0) (Bc (Yl==0) (Bc (Yo==0) (Bc (HT==0) (Bc (EA==0) (Bc (OB==38) (Ai (call 11 [.agg [.sc (.string F3),.sc (.string G6),.sc (.int .u64 Dl),.sc (.int .i64 E1),.sc (.int .u64 Lf),.sc (.int .i64 Oa),.sc (.int .i64 Rw),.sc (.bool Ug),.sc (.int .i64 Uo),.sc (.int .u64 Sf),.sc (.int .i64 R8),.lst false 1 Oi Y9,.lst false 1 Ut V8],.agg [.sc (.string MO),.sc (.string XM),.sc (.int .u64 x85),.sc (.int .i64 UD),.sc (.int .u64 VN),.sc (.int .i64 IZ),.sc (.int .i64 UH),.sc (.bool Xi),.sc (.int .i64 Jm),.sc (.int .u64 R7),.sc (.int .i64 Z1),.lst false 1 I6 AP,.lst false 1 AX Vp]]) fun RS KE=>Ac KE<|Ab RS fun Ym FL=>Bn Ym fun PD=>Ac FL<|some (Aw.mk [.sc (.bool PD)] [])) (some (Aw.mk [.sc (.bool false)] []))) (some (Aw.mk [.sc (.bool false)] []))) (some (Aw.mk [.sc (.bool false)] []))) (some (Aw.mk [.sc (.bool false)] []))) (some (Aw.mk [.sc (.bool false)] []))) (some (Aw.mk [.sc (.bool false)] []))) (Ae C0 Tryd.prog fu d):=by kernel_rfl
end
section
open Go.IntKind (wrap)
set_option maxRecDepth 1000000
section
variable {fu d:Nat} {c:Ce}
theorem Ajn (seed h leaf m:Int):Ae C0 Tryd.prog fu (d+1) 15 [.sc (.int .u64 seed),.sc (.int .i64 h),.sc (.int .i64 leaf),.sc (.int .u64 m)] =
  some ⟨[.agg [.sc (.int .i64 (tkL h leaf)),.lst false 1 (tkC seed h leaf m).length (Ag .u64 (tkC seed h leaf m)),.lst false 1 (tkP seed h leaf).length (Ag .u64 (tkP seed h leaf))],.sc (.int .i64 (tkE h leaf))],[]⟩:=by kernel_rfl
theorem Aja (seed h leaf m:Int):(V7 seed h leaf m=none∧tkE h leaf=9)∨(V7 seed h leaf m=some ⟨tkL h leaf,tkC seed h leaf m,tkP seed h leaf⟩∧tkE h leaf=0):=by
 unfold V7 tkE tkL tkC tkP EZ;cases C4 h
 ·cases Nn leaf h
  ·exact .inr ⟨rfl,rfl⟩
  ·exact .inl ⟨rfl,rfl⟩
 ·exact .inl ⟨rfl,rfl⟩
theorem SI (hfu:1000<=fu)(hw:c.wf)(hs1:c.subj.size<=9223372036854775807)(hs2:c.iss.size<=9223372036854775807)(seed h leaf:Int):Ae C0 Tryd.prog fu (d+9) Mu [.agg c.cells,.sc (.int .u64 seed),.sc (.int .i64 h),.sc (.int .i64 leaf)]=some ⟨[.agg (Lw c seed h leaf).1.cells,.sc (.int .i64 (Lw c seed h leaf).2)],[]⟩:=by
 refine (Wj fu (d+8) c.subj c.iss c.serial c.key.h c.key.root c.fr c.un c.auth c.path c.model c.sig.leaf c.sig.chains.length (Ag .u64 c.sig.chains) c.sig.path.length (Ag .u64 c.sig.path) seed h leaf).trans ?_;have wq:=QD (fu:=fu) (d:=d) hfu hw hs1 hs2;simp only [Ce.cells] at wq;unfold EL at wq;unfold Lw;by_cases h0:A7 c=0
 ·rw [Cc h0] at wq;rw [Cc h0];have e00:((0:Int) != 0)=false:=rfl;have e90:((9:Int) != 0)=true:=rfl;have tk:=Ajn (fu:=fu) (d:=d+7) seed h leaf (Kc c);have La:=Al .u64 (tkC seed h leaf (Kc c));have Lb:=Al .u64 (tkP seed h leaf);have ta:=Nz .u64 (tkC seed h leaf (Kc c));have tb:=Nz .u64 (tkP seed h leaf);rcases Aja seed h leaf (Kc c) with ⟨hs,he⟩|⟨hs,he⟩
  ·rw [hs];rw [he] at tk
   try unfold Aa
   repeat first
    |((with_reducible first|apply Ay|apply Ar|apply A4|apply Cg|apply C5|apply As);· first|with_reducible rfl|(simp (disch:=omega) only [wq,e00,e90,Cd,C2,Ew,tk,La,Lb,ta,tb]<;>with_reducible rfl))
    |((with_reducible first|apply A0|apply A3);· first|with_reducible rfl|omega|(simp (disch:=omega) only [gT,wq,e00,e90,Cd,C2,Ew,tk,La,Lb,ta,tb]<;>omega))
    |(with_reducible apply Az;· first|with_reducible rfl|(simp (disch:=omega) only [gF,wq,e00,e90,Cd,C2,Ew,tk,La,Lb,ta,tb]<;>omega))
   try simp (disch:=omega) only [wq,e00,e90,Cd,C2,Ew,tk,La,Lb,ta,tb]
   all_goals rfl
  ·rw [hs];rw [he] at tk
   try unfold Aa
   repeat first
    |((with_reducible first|apply Ay|apply Ar|apply A4|apply Cg|apply C5|apply As);· first|with_reducible rfl|(simp (disch:=omega) only [wq,e00,e90,Cd,C2,Ew,tk,La,Lb,ta,tb]<;>with_reducible rfl))
    |((with_reducible first|apply A0|apply A3);· first|with_reducible rfl|omega|(simp (disch:=omega) only [gT,wq,e00,e90,Cd,C2,Ew,tk,La,Lb,ta,tb]<;>omega))
    |(with_reducible apply Az;· first|with_reducible rfl|(simp (disch:=omega) only [gF,wq,e00,e90,Cd,C2,Ew,tk,La,Lb,ta,tb]<;>omega))
   try simp (disch:=omega) only [wq,e00,e90,Cd,C2,Ew,tk,La,Lb,ta,tb]
   all_goals rfl
 ·have hne:(A7 c != 0)=true:=by simp [h0]
  rw [A9 h0] at wq;rw [A9 h0]
  try unfold Aa
  repeat first
   |((with_reducible first|apply Ay|apply Ar|apply A4|apply Cg|apply C5|apply As);· first|with_reducible rfl|(simp (disch:=omega) only [wq,hne]<;>with_reducible rfl))
   |((with_reducible first|apply A0|apply A3);· first|with_reducible rfl|omega|(simp (disch:=omega) only [gT,wq,hne]<;>omega))
   |(with_reducible apply Az;· first|with_reducible rfl|(simp (disch:=omega) only [gF,wq,hne]<;>omega))
  try simp (disch:=omega) only [wq,hne]
  all_goals rfl
end
end
section
open Go.IntKind (wrap)
set_option maxRecDepth 1000000
section
variable {fu d:Nat}
theorem FO {call:Ah}{a0n a1n:Nat}{a0 a1:List PV}{l:List Int}(hl:l.length<=1000):∀(k i nn:Nat),i+k=l.length->k<nn ->
  D2 fu call a0n a0 a1n a1 nn l.length (Ag .u64 l) l.length (Ag .u64 l) i=some ⟨[.sc (.bool true)],[]⟩
 |_,_,0,_,h=>by omega
 |0,i,nn+1,hi,hn=>by
  have e:i=l.length:=by omega
  subst e;rw [G3];simp (disch:=omega) only [Ca]
 |k+1,i,nn+1,hi,hn=>by
  have ih:=FO (call:=call) (a0n:=a0n) (a1n:=a1n) (a0:=a0) (a1:=a1) hl k (i+1) nn (by omega) (by omega)
  obtain ⟨x,hx⟩:∃x,l[i]?=some x:=⟨_,List.getElem?_eq_getElem (by omega)⟩
  have w:wrap .i64 ((i:Int)+1)=((i+1:Nat):Int):=by rw [Aj (by omega) (by omega)];omega
  have q:(x != x)=false:=bne_self_eq_false x;rw [G3];simp (disch:=omega) only [Ca,Hw,Cd,C2,V5 hx,q,w];exact ih
theorem SO (hfu:2000<=fu){l:List Int}(hl:l.length<=1000):Ae C0 Tryd.prog fu (d+1) H8 [.lst false 1 l.length (Ag .u64 l),.lst false 1 l.length (Ag .u64 l)]=some ⟨[.sc (.bool true)],[]⟩:=by
 refine (P7 fu d l.length (Ag .u64 l) l.length (Ag .u64 l)).trans ?_;have q:=FO (fu:=fu) (call:=Ae C0 Tryd.prog fu d) (a0n:=l.length) (a1n:=l.length) (a0:=Ag .u64 l) (a1:=Ag .u64 l) hl l.length 0 fu (by omega) (by omega)
 have b:((l.length:Int) != (l.length:Int))=false:=bne_self_eq_false _;simp only [Ca,b];exact q
theorem Ad4 (hfu:2000<=fu){s:Sg}(h1:s.chains.length<=1000)(h2:s.path.length<=1000):Ae C0 Tryd.prog fu (d+2) Gm [.agg s.cells,.agg s.cells]=some ⟨[.sc (.bool true)],[]⟩:=by
 refine (Mh fu (d+1) s.leaf s.chains.length (Ag .u64 s.chains) s.path.length (Ag .u64 s.path) s.leaf s.chains.length (Ag .u64 s.chains) s.path.length (Ag .u64 s.path)).trans ?_;have w1:=SO (fu:=fu) (d:=d) hfu h1;have w2:=SO (fu:=fu) (d:=d) hfu h2;have q1:(s.leaf==s.leaf)=true:=beq_self_eq_true _
 try unfold Aa
 repeat first
  |((with_reducible first|apply Ay|apply Ar|apply A4|apply A6|apply Bb|apply Bl|apply Cg|apply C5|apply As);· first|with_reducible rfl|(simp (disch:=omega) only [q1,w1,w2]<;>with_reducible rfl))
  |((with_reducible first|apply A0|apply A3);· first|with_reducible rfl|omega|(simp (disch:=omega) only [gT,q1,w1,w2]<;>omega))
  |(with_reducible apply Az;· first|with_reducible rfl|(simp (disch:=omega) only [gF,q1,w1,w2]<;>omega))
 try simp (disch:=omega) only [q1,w1,w2]
 all_goals rfl
theorem RX (hfu:2000<=fu){c:Ce}(h1:c.sig.chains.length<=1000)(h2:c.sig.path.length<=1000):Ae C0 Tryd.prog fu (d+3) Fp [.agg c.cells,.agg c.cells]=some ⟨[.sc (.bool true)],[]⟩:=by
 refine (Jj fu (d+2) c.subj c.iss c.serial c.key.h c.key.root c.fr c.un c.auth c.path c.model c.sig.leaf c.sig.chains.length (Ag .u64 c.sig.chains) c.sig.path.length (Ag .u64 c.sig.path) c.subj c.iss c.serial c.key.h c.key.root c.fr c.un c.auth c.path c.model c.sig.leaf c.sig.chains.length (Ag .u64 c.sig.chains) c.sig.path.length (Ag .u64 c.sig.path)).trans ?_;have ws:=Ad4 (fu:=fu) (d:=d) hfu h1 h2;simp only [Sg.cells] at ws;have q0:∀l:List UInt8,(l==l)=true:=fun l=>beq_self_eq_true l
 have q1:∀l:Int,(l==l)=true:=fun l=>beq_self_eq_true l
 have q2:∀l:Bool,(l==l)=true:=fun l=>beq_self_eq_true l
 try unfold Aa
 repeat first
  |((with_reducible first|apply Ay|apply Ar|apply A4|apply A6|apply Bb|apply Bl|apply Cg|apply C5|apply As);· first|with_reducible rfl|(simp (disch:=omega) only [q0,q1,q2,Bool.and_true,ws]<;>with_reducible rfl))
  |((with_reducible first|apply A0|apply A3);· first|with_reducible rfl|omega|(simp (disch:=omega) only [gT,q0,q1,q2,Bool.and_true,ws]<;>omega))
  |(with_reducible apply Az;· first|with_reducible rfl|(simp (disch:=omega) only [gF,q0,q1,q2,Bool.and_true,ws]<;>omega))
 try simp (disch:=omega) only [q0,q1,q2,Bool.and_true,ws]
 all_goals rfl
end
abbrev lfS:ByteArray:=⟨#[(108:UInt8),(101:UInt8),(97:UInt8),(102:UInt8)]⟩
abbrev rtS:ByteArray:=⟨#[(114:UInt8),(111:UInt8),(111:UInt8),(116:UInt8)]⟩
def TX:Ce:=⟨lfS,rtS,9,Js 5 1,1,8,false,0,0,⟨0,[],[]⟩⟩
theorem QU:A7 TX=0:=by
 unfold A7;have h1:TX.subj.size=4:=rfl;have h2:TX.iss.size=4:=rfl;have h3:VC TX.subj=true:=by decide
 have h4:VC TX.iss=true:=by decide
 have h5:C4 TX.key.h=false:=Aaj 5 1;have h6:TX.fr=1:=rfl;have h7:TX.un=8:=rfl;have h8:TX.path=0:=rfl;rw [h1,h2,h3,h4,h5,h6,h7,h8];simp
theorem YN:∃s,V7 71 1 0 (Kc TX)=some s∧s.ok∧s.leaf=0∧s.chains.length=18∧(s.path.length:Int)=1∧QW (Js 71 1) (Kc TX) s=0:=ZF (by decide) (by decide)
noncomputable def TA:Sg:=Classical.choose YN
theorem Zc:V7 71 1 0 (Kc TX)=some TA∧TA.ok∧TA.leaf=0∧TA.chains.length=18∧(TA.path.length:Int)=1∧QW (Js 71 1) (Kc TX) TA=0:=Classical.choose_spec YN
noncomputable def cA:Ce:={ TX with sig:=TA }
theorem YZ:cA.ok:=⟨by decide,by decide,KM 5 1,Zc.2.1⟩
theorem PK:A7 cA=0:=QU
theorem OU:Dh cA=0:=by
 obtain ⟨_,_,h3,h4,h5,_⟩:=Zc;unfold Dh;rw [PK,Cc rfl];show Vt TA=0;unfold Vt;rw [h5,h3,A9 (by decide),A9 (by decide),A9 (by omega)]
theorem YX:cA.in_:=⟨YZ.wf,by show lfS.size<=_;decide,by show rtS.size<=_;decide⟩
theorem Ah6:AK cA (Js 71 1)=0:=by
 unfold AK;rw [PK,Cc rfl];exact Zc.2.2.2.2.2
theorem Acc:Lw TX 71 1 0=(cA,0):=by
 unfold Lw;rw [Cc QU,Zc.1];rfl
theorem RT (now:Int)(h0:1<=now)(h1:now<=9):TN [cA] [⟨rtS,Js 71 1⟩] [] now=if now<=8 then (0,0) else (0,38):=by
 unfold TN;rw [A9 (by omega),A9 (by omega),A9 (by simp),A9 (by simp)]
 unfold FM
 have lk:Pb cA ((0:Nat):Int) [] now=if now<1 then 38 else if now>8 then 38 else RE cA now []:=by
  unfold Pb;rw [PK];rfl
 have n1:¬(now<1):=by omega
 rw [lk,A9 n1];by_cases h:now<=8
 ·have r0:RE cA now []=0:=rfl;have n8:¬(now>8):=by omega
  rw [A9 n8,Cc h,r0,A9 (by simp)]
  unfold Adb
  have is:Tu cA 0 [⟨rtS,Js 71 1⟩]=0:=by
   rw [Tu,Cc ⟨by decide,Ah6⟩]
   rfl
  rw [is];rfl
 ·have n8:now>8:=by omega
  rw [Cc n8,A9 h,Cc (by simp)]
section
variable {d:Nat}
theorem Ac9:Ae C0 Tryd.prog 2000 (d+15) Ka []=some ⟨[.sc (.bool true)],[]⟩:=by
 rw [Sr];have k5:=Ae4 (fu:=2000) (d:=d+1) (by omega) 5 1
 have k71:=Ae4 (fu:=2000) (d:=d+1) (by omega) 71 1
 have sg:=SI (fu:=2000) (d:=d+5) (c:=TX) (by omega) ⟨by decide,by decide⟩ (by decide) (by decide) 71 1 0
 rw [Acc] at sg;obtain ⟨_,_,h3,h4,h5,_⟩:=Zc;have l1:cA.sig.chains.length=18:=h4;have l2:cA.sig.path.length=1:=by have:(cA.sig.path.length:Int)=1:=h5;omega
 have en:=Yg (fu:=2000) (d:=d+6) (c:=cA) (by omega) YZ.wf YX.s1 YX.s2 (by omega) (by omega)
 unfold V1 at en;rw [OU,Cc rfl] at en;have el:=Yh (c:=cA) OU;have de:=PH (fu:=2000) (d:=d+5) (by omega) (XE YZ.wf OU) (by omega)
 rw [HU YZ OU] at de;have p8:=SG (fu:=2000) (d:=d+4) (by omega) (cs:=[cA]) (by intro c hc;rw [List.mem_singleton.1 hc];exact YX) (ans:=[⟨rtS,Js 71 1⟩]) (by simp) (vs:=[]) (by simp) 8
 have p9:=SG (fu:=2000) (d:=d+4) (by omega) (cs:=[cA]) (by intro c hc;rw [List.mem_singleton.1 hc];exact YX) (ans:=[⟨rtS,Js 71 1⟩]) (by simp) (vs:=[]) (by simp) 9
 rw [RT 8 (by omega) (by omega),Cc (by omega)] at p8
 rw [RT 9 (by omega) (by omega),A9 (by omega)] at p9
 have sm:=RX (fu:=2000) (d:=d+11) (c:=cA) (by omega) (by omega) (by omega)
 have L:=Al .u8 (Fg cA);have t:=Nz .u8 (Fg cA);have c0:TX.cells=[.sc (.string lfS),.sc (.string rtS),.sc (.int .u64 9),.sc (.int .i64 (Js 5 1).h),.sc (.int .u64 (Js 5 1).root),.sc (.int .i64 1),.sc (.int .i64 8),.sc (.bool false),.sc (.int .i64 0),.sc (.int .u64 0),.sc (.int .i64 0),.lst false 1 0 [],.lst false 1 0 []]:=rfl;rw [c0] at sg;have e0:Hn [cA]=cA.cells:=by unfold Hn;simp
 have e1:Yr [⟨rtS,Js 71 1⟩]=[.sc (.string rtS),.sc (.int .i64 (Js 71 1).h),.sc (.int .u64 (Js 71 1).root)]:=rfl;have e2:Ru []=[]:=rfl;rw [e0,e1,e2] at p8 p9;simp only [Ce.cells,Ky.cells,Le,CV,C2] at k5 k71 sg en de p8 p9 sm;generalize Fg cA=E at *
 generalize cA=C at *
 generalize Js 5 1=K at *
 generalize Js 71 1=K2 at *
 have b0:((0:Int)==0)=true:=rfl;have b38:((38:Int)==38)=true:=rfl
 try unfold Aa
 repeat first
  |((with_reducible first|apply Ay|apply Ar|apply A4|apply A6|apply Bb|apply Bl|apply Cg|apply C5|apply As);· first|with_reducible rfl|(simp (disch:=omega) only [k5,k71,sg,en,de,p8,p9,sm,b0,b38,Ew,C2,Cd,L,t]<;>with_reducible rfl))
  |((with_reducible first|apply A0|apply A3);· first|with_reducible rfl|omega|(simp (disch:=omega) only [gT,k5,k71,sg,en,de,p8,p9,sm,b0,b38,Ew,C2,Cd,L,t]<;>omega))
  |(with_reducible apply Az;· first|with_reducible rfl|(simp (disch:=omega) only [gF,k5,k71,sg,en,de,p8,p9,sm,b0,b38,Ew,C2,Cd,L,t]<;>omega))
 try simp (disch:=omega) only [k5,k71,sg,en,de,p8,p9,sm,b0,b38,Ew,C2,Cd,L,t]
 all_goals rfl
end
end
section
open Go.IntKind (wrap)
set_option maxRecDepth 1000000
def Ce.cells0 (c:Ce):List PV:=[.sc (.string c.subj),.sc (.string c.iss),.sc (.int .u64 c.serial),.sc (.int .i64 c.key.h),.sc (.int .u64 c.key.root),.sc (.int .i64 c.fr),.sc (.int .i64 c.un),.sc (.bool c.auth),.sc (.int .i64 c.path),.sc (.int .u64 c.model),.sc (.int .i64 0),.own 1 0 [],.own 1 0 []]
structure Ce.plain (c:Ce):Prop where
 ok:c.ok
 s1:c.subj.size<=100
 s2:c.iss.size<=100
 sg:c.sig=⟨0,[],[]⟩
theorem w0:isW ([]:List Int):=fun x h=>by cases h
theorem YK {v:Int}{S:List ByteArray}(h0:0<=v)(h1:v<S.length)(hS:∀s∈S,s.size<=100):∃s:ByteArray,s.size<=100∧(S.map fun s=>PV.sc (.string s)).getD (0+Int.toNat v*1) .top=.sc (.string s):=by
 have hlt:v.toNat<S.length:=by omega
 refine ⟨S[v.toNat],hS _ (List.getElem_mem hlt),?_⟩;rw [C2,Cd,List.getD_eq_getElem?_getD,List.getElem?_map,List.getElem?_eq_getElem hlt];rfl
abbrev mdS:ByteArray:=⟨#[(109:UInt8),(105:UInt8),(100:UInt8)]⟩
abbrev tpS:ByteArray:=⟨#[(116:UInt8),(111:UInt8),(112:UInt8)]⟩
abbrev xxS:ByteArray:=⟨#[]⟩
abbrev ffS:ByteArray:=⟨#[(255:UInt8)]⟩
abbrev otS:ByteArray:=⟨#[(111:UInt8),(116:UInt8),(104:UInt8),(101:UInt8),(114:UInt8)]⟩
theorem Afz {d:Nat}{l:List Int}(hl:l.length<=maxLen)(i:Nat):∃(c:Ce)(j:Nat),c.plain ∧
  Ae C0 Tryd.prog 2000 (d+14) Fq [.pbox (dkc l i)]=some ⟨[.agg c.cells0],[dkc l j]⟩:=by
 obtain ⟨v0,j0,v00,v01,n0⟩:=Hc hl i 5 (by omega) (by omega)
 obtain ⟨v1,j1,v10,v11,n1⟩:=Hc hl j0 3 (by omega) (by omega)
 obtain ⟨v2,j2,v20,v21,n2⟩:=Hc hl j1 9 (by omega) (by omega)
 obtain ⟨v3,j3,v30,v31,n3⟩:=Hc hl j2 4 (by omega) (by omega)
 obtain ⟨v4,j4,v40,v41,n4⟩:=Hc hl j3 4 (by omega) (by omega)
 obtain ⟨v5,j5,v50,v51,n5⟩:=Hc hl j4 20 (by omega) (by omega)
 obtain ⟨v6,j6,v60,v61,n6⟩:=Hc hl j5 60 (by omega) (by omega)
 obtain ⟨v7,j7,v70,v71,n7⟩:=Hc hl j6 2 (by omega) (by omega)
 obtain ⟨v8,j8,v80,v81,n8⟩:=Hc hl j7 3 (by omega) (by omega)
 have E:=J2 2000 (d+13) l.length (Ag .i64 l) i;have n0:=n0 (fu:=2000) (d:=d+11);have n1:=n1 (fu:=2000) (d:=d+11);have n2:=n2 (fu:=2000) (d:=d+11);have n3:=n3 (fu:=2000) (d:=d+11);have n4:=n4 (fu:=2000) (d:=d+11);have n5:=n5 (fu:=2000) (d:=d+11);have n6:=n6 (fu:=2000) (d:=d+11);have n7:=n7 (fu:=2000) (d:=d+11);have n8:=n8 (fu:=2000) (d:=d+11);have pk:=FP (fu:=2000) (d:=d+1) (by omega) (wrap .u64 v0) v1
 obtain ⟨q,q0,q1,hq⟩:∃q:Int,0<=q∧q<5∧(if (4:Int)<v2 then (4:Int) else v2)=q:=⟨_,by split<;>omega,by split<;>omega,rfl⟩
 obtain ⟨s1,z1,g1⟩:=YK (S:=[lfS,mdS,tpS,xxS,ffS]) q0 (by simpa using q1) (by decide)
 obtain ⟨s2,z2,g2⟩:=YK (S:=[rtS,mdS,tpS,otS]) v30 (by simpa using v31) (by decide)
 simp only [Zzw,List.map_nil] at g1 g2;have cq:(decide ((0:Int)<=q)&&decide (q<5))=true:=by simp;omega
 have c3:(decide ((0:Int)<=v3)&&decide (v3<4))=true:=by simp;omega
 have kr:=KM (wrap .u64 v0) v1;simp only [Ky.cells] at pk;simp only [dkc] at n0 n1 n2 n3 n4 n5 n6 n7 n8;generalize Js (wrap .u64 v0) v1=K at *
 generalize (if C4 v1=true then (9:Int) else 0)=er at *
 have ka:v7=1∨v7=0:=by omega
 rcases ka with rfl|rfl
 ·obtain ⟨v9,j9,v90,v91,n9⟩:=Hc hl j8 3 (by omega) (by omega)
  obtain ⟨vs,js,vs0,vs1,ns⟩:=Hc hl j9 14 (by omega) (by omega)
  have n9:=n9 (fu:=2000) (d:=d+11);have ns:=ns (fu:=2000) (d:=d+11);simp only [dkc] at n9 ns;have e11:((1:Int)==1)=true:=rfl;have h4:vs=13∨vs=12∨vs=11∨vs=10∨(vs≠13∧vs≠12∧vs≠11∧vs≠10):=by omega
  rcases h4 with rfl|rfl|rfl|rfl|⟨m1,m2,m3,m4⟩
  ·refine ⟨⟨s1,s2,wrap .u64 v4,K,v5,wrap .i64 (v5-1),true,v9,wrap .u64 v8,⟨0,[],[]⟩⟩,js,⟨⟨Ba _,Ba _,kr,⟨w0,w0⟩⟩,z1,z2,rfl⟩,E.trans ?_⟩
   try unfold Aa
   repeat first
    |((with_reducible first|apply Ay|apply Ar|apply A4|apply Bb|apply Cg|apply C5|apply As);· first|with_reducible rfl|(simp (disch:=omega) only [n0,n1,n2,n3,n4,n5,n6,n7,n8,n9,ns,pk,hq,g1,g2,cq,c3,e11,Int.reduceBEq]<;>with_reducible rfl))
    |((with_reducible first|apply A0|apply A3);· first|with_reducible rfl|omega|(simp (disch:=omega) only [gT,n0,n1,n2,n3,n4,n5,n6,n7,n8,n9,ns,pk,hq,g1,g2,cq,c3,e11,Int.reduceBEq]<;>omega))
    |(with_reducible apply Az;· first|with_reducible rfl|(simp (disch:=omega) only [gF,n0,n1,n2,n3,n4,n5,n6,n7,n8,n9,ns,pk,hq,g1,g2,cq,c3,e11,Int.reduceBEq]<;>omega))
   try simp (disch:=omega) only [n0,n1,n2,n3,n4,n5,n6,n7,n8,n9,ns,pk,hq,g1,g2,cq,c3,e11,Int.reduceBEq]
   all_goals rfl
  ·refine ⟨⟨s1,s2,wrap .u64 v4,K,v5,wrap .i64 (20+v6),true,3,wrap .u64 v8,⟨0,[],[]⟩⟩,js,⟨⟨Ba _,Ba _,kr,⟨w0,w0⟩⟩,z1,z2,rfl⟩,E.trans ?_⟩
   try unfold Aa
   repeat first
    |((with_reducible first|apply Ay|apply Ar|apply A4|apply Bb|apply Cg|apply C5|apply As);· first|with_reducible rfl|(simp (disch:=omega) only [n0,n1,n2,n3,n4,n5,n6,n7,n8,n9,ns,pk,hq,g1,g2,cq,c3,e11,Int.reduceBEq]<;>with_reducible rfl))
    |((with_reducible first|apply A0|apply A3);· first|with_reducible rfl|omega|(simp (disch:=omega) only [gT,n0,n1,n2,n3,n4,n5,n6,n7,n8,n9,ns,pk,hq,g1,g2,cq,c3,e11,Int.reduceBEq]<;>omega))
    |(with_reducible apply Az;· first|with_reducible rfl|(simp (disch:=omega) only [gF,n0,n1,n2,n3,n4,n5,n6,n7,n8,n9,ns,pk,hq,g1,g2,cq,c3,e11,Int.reduceBEq]<;>omega))
   try simp (disch:=omega) only [n0,n1,n2,n3,n4,n5,n6,n7,n8,n9,ns,pk,hq,g1,g2,cq,c3,e11,Int.reduceBEq]
   all_goals rfl
  ·refine ⟨⟨s1,s2,wrap .u64 v4,⟨5,K.root⟩,v5,wrap .i64 (20+v6),true,v9,wrap .u64 v8,⟨0,[],[]⟩⟩,js,⟨⟨Ba _,Ba _,kr,⟨w0,w0⟩⟩,z1,z2,rfl⟩,E.trans ?_⟩
   try unfold Aa
   repeat first
    |((with_reducible first|apply Ay|apply Ar|apply A4|apply Bb|apply Cg|apply C5|apply As);· first|with_reducible rfl|(simp (disch:=omega) only [n0,n1,n2,n3,n4,n5,n6,n7,n8,n9,ns,pk,hq,g1,g2,cq,c3,e11,Int.reduceBEq]<;>with_reducible rfl))
    |((with_reducible first|apply A0|apply A3);· first|with_reducible rfl|omega|(simp (disch:=omega) only [gT,n0,n1,n2,n3,n4,n5,n6,n7,n8,n9,ns,pk,hq,g1,g2,cq,c3,e11,Int.reduceBEq]<;>omega))
    |(with_reducible apply Az;· first|with_reducible rfl|(simp (disch:=omega) only [gF,n0,n1,n2,n3,n4,n5,n6,n7,n8,n9,ns,pk,hq,g1,g2,cq,c3,e11,Int.reduceBEq]<;>omega))
   try simp (disch:=omega) only [n0,n1,n2,n3,n4,n5,n6,n7,n8,n9,ns,pk,hq,g1,g2,cq,c3,e11,Int.reduceBEq]
   all_goals rfl
  ·refine ⟨⟨s1,s2,wrap .u64 v4,K,v5,wrap .i64 (20+v6),true,1,wrap .u64 v8,⟨0,[],[]⟩⟩,js,⟨⟨Ba _,Ba _,kr,⟨w0,w0⟩⟩,z1,z2,rfl⟩,E.trans ?_⟩
   try unfold Aa
   repeat first
    |((with_reducible first|apply Ay|apply Ar|apply A4|apply Bb|apply Cg|apply C5|apply As);· first|with_reducible rfl|(simp (disch:=omega) only [n0,n1,n2,n3,n4,n5,n6,n7,n8,n9,ns,pk,hq,g1,g2,cq,c3,e11,Int.reduceBEq]<;>with_reducible rfl))
    |((with_reducible first|apply A0|apply A3);· first|with_reducible rfl|omega|(simp (disch:=omega) only [gT,n0,n1,n2,n3,n4,n5,n6,n7,n8,n9,ns,pk,hq,g1,g2,cq,c3,e11,Int.reduceBEq]<;>omega))
    |(with_reducible apply Az;· first|with_reducible rfl|(simp (disch:=omega) only [gF,n0,n1,n2,n3,n4,n5,n6,n7,n8,n9,ns,pk,hq,g1,g2,cq,c3,e11,Int.reduceBEq]<;>omega))
   try simp (disch:=omega) only [n0,n1,n2,n3,n4,n5,n6,n7,n8,n9,ns,pk,hq,g1,g2,cq,c3,e11,Int.reduceBEq]
   all_goals rfl
  ·refine ⟨⟨s1,s2,wrap .u64 v4,K,v5,wrap .i64 (20+v6),true,v9,wrap .u64 v8,⟨0,[],[]⟩⟩,js,⟨⟨Ba _,Ba _,kr,⟨w0,w0⟩⟩,z1,z2,rfl⟩,E.trans ?_⟩;have f1:(vs==13)=false:=by rw [beq_eq_false_iff_ne];exact m1
   have f2:(vs==12)=false:=by rw [beq_eq_false_iff_ne];exact m2
   have f3:(vs==11)=false:=by rw [beq_eq_false_iff_ne];exact m3
   have f4:(vs==10)=false:=by rw [beq_eq_false_iff_ne];exact m4
   try unfold Aa
   repeat first
    |((with_reducible first|apply Ay|apply Ar|apply A4|apply Bb|apply Cg|apply C5|apply As);· first|with_reducible rfl|(simp (disch:=omega) only [n0,n1,n2,n3,n4,n5,n6,n7,n8,n9,ns,pk,hq,g1,g2,cq,c3,e11,f1,f2,f3,f4]<;>with_reducible rfl))
    |((with_reducible first|apply A0|apply A3);· first|with_reducible rfl|omega|(simp (disch:=omega) only [gT,n0,n1,n2,n3,n4,n5,n6,n7,n8,n9,ns,pk,hq,g1,g2,cq,c3,e11,f1,f2,f3,f4]<;>omega))
    |(with_reducible apply Az;· first|with_reducible rfl|(simp (disch:=omega) only [gF,n0,n1,n2,n3,n4,n5,n6,n7,n8,n9,ns,pk,hq,g1,g2,cq,c3,e11,f1,f2,f3,f4]<;>omega))
   try simp (disch:=omega) only [n0,n1,n2,n3,n4,n5,n6,n7,n8,n9,ns,pk,hq,g1,g2,cq,c3,e11,f1,f2,f3,f4]
   all_goals rfl
 ·obtain ⟨vs,js,vs0,vs1,ns⟩:=Hc hl j8 14 (by omega) (by omega)
  have ns:=ns (fu:=2000) (d:=d+11);simp only [dkc] at ns;have e11:((0:Int)==1)=false:=rfl;have h4:vs=13∨vs=12∨vs=11∨vs=10∨(vs≠13∧vs≠12∧vs≠11∧vs≠10):=by omega
  rcases h4 with rfl|rfl|rfl|rfl|⟨m1,m2,m3,m4⟩
  ·refine ⟨⟨s1,s2,wrap .u64 v4,K,v5,wrap .i64 (v5-1),false,0,wrap .u64 v8,⟨0,[],[]⟩⟩,js,⟨⟨Ba _,Ba _,kr,⟨w0,w0⟩⟩,z1,z2,rfl⟩,E.trans ?_⟩
   try unfold Aa
   repeat first
    |((with_reducible first|apply Ay|apply Ar|apply A4|apply Bb|apply Cg|apply C5|apply As);· first|with_reducible rfl|(simp (disch:=omega) only [n0,n1,n2,n3,n4,n5,n6,n7,n8,ns,pk,hq,g1,g2,cq,c3,e11,Int.reduceBEq]<;>with_reducible rfl))
    |((with_reducible first|apply A0|apply A3);· first|with_reducible rfl|omega|(simp (disch:=omega) only [gT,n0,n1,n2,n3,n4,n5,n6,n7,n8,ns,pk,hq,g1,g2,cq,c3,e11,Int.reduceBEq]<;>omega))
    |(with_reducible apply Az;· first|with_reducible rfl|(simp (disch:=omega) only [gF,n0,n1,n2,n3,n4,n5,n6,n7,n8,ns,pk,hq,g1,g2,cq,c3,e11,Int.reduceBEq]<;>omega))
   try simp (disch:=omega) only [n0,n1,n2,n3,n4,n5,n6,n7,n8,ns,pk,hq,g1,g2,cq,c3,e11,Int.reduceBEq]
   all_goals rfl
  ·refine ⟨⟨s1,s2,wrap .u64 v4,K,v5,wrap .i64 (20+v6),false,3,wrap .u64 v8,⟨0,[],[]⟩⟩,js,⟨⟨Ba _,Ba _,kr,⟨w0,w0⟩⟩,z1,z2,rfl⟩,E.trans ?_⟩
   try unfold Aa
   repeat first
    |((with_reducible first|apply Ay|apply Ar|apply A4|apply Bb|apply Cg|apply C5|apply As);· first|with_reducible rfl|(simp (disch:=omega) only [n0,n1,n2,n3,n4,n5,n6,n7,n8,ns,pk,hq,g1,g2,cq,c3,e11,Int.reduceBEq]<;>with_reducible rfl))
    |((with_reducible first|apply A0|apply A3);· first|with_reducible rfl|omega|(simp (disch:=omega) only [gT,n0,n1,n2,n3,n4,n5,n6,n7,n8,ns,pk,hq,g1,g2,cq,c3,e11,Int.reduceBEq]<;>omega))
    |(with_reducible apply Az;· first|with_reducible rfl|(simp (disch:=omega) only [gF,n0,n1,n2,n3,n4,n5,n6,n7,n8,ns,pk,hq,g1,g2,cq,c3,e11,Int.reduceBEq]<;>omega))
   try simp (disch:=omega) only [n0,n1,n2,n3,n4,n5,n6,n7,n8,ns,pk,hq,g1,g2,cq,c3,e11,Int.reduceBEq]
   all_goals rfl
  ·refine ⟨⟨s1,s2,wrap .u64 v4,⟨5,K.root⟩,v5,wrap .i64 (20+v6),false,0,wrap .u64 v8,⟨0,[],[]⟩⟩,js,⟨⟨Ba _,Ba _,kr,⟨w0,w0⟩⟩,z1,z2,rfl⟩,E.trans ?_⟩
   try unfold Aa
   repeat first
    |((with_reducible first|apply Ay|apply Ar|apply A4|apply Bb|apply Cg|apply C5|apply As);· first|with_reducible rfl|(simp (disch:=omega) only [n0,n1,n2,n3,n4,n5,n6,n7,n8,ns,pk,hq,g1,g2,cq,c3,e11,Int.reduceBEq]<;>with_reducible rfl))
    |((with_reducible first|apply A0|apply A3);· first|with_reducible rfl|omega|(simp (disch:=omega) only [gT,n0,n1,n2,n3,n4,n5,n6,n7,n8,ns,pk,hq,g1,g2,cq,c3,e11,Int.reduceBEq]<;>omega))
    |(with_reducible apply Az;· first|with_reducible rfl|(simp (disch:=omega) only [gF,n0,n1,n2,n3,n4,n5,n6,n7,n8,ns,pk,hq,g1,g2,cq,c3,e11,Int.reduceBEq]<;>omega))
   try simp (disch:=omega) only [n0,n1,n2,n3,n4,n5,n6,n7,n8,ns,pk,hq,g1,g2,cq,c3,e11,Int.reduceBEq]
   all_goals rfl
  ·refine ⟨⟨s1,s2,wrap .u64 v4,K,v5,wrap .i64 (20+v6),false,1,wrap .u64 v8,⟨0,[],[]⟩⟩,js,⟨⟨Ba _,Ba _,kr,⟨w0,w0⟩⟩,z1,z2,rfl⟩,E.trans ?_⟩
   try unfold Aa
   repeat first
    |((with_reducible first|apply Ay|apply Ar|apply A4|apply Bb|apply Cg|apply C5|apply As);· first|with_reducible rfl|(simp (disch:=omega) only [n0,n1,n2,n3,n4,n5,n6,n7,n8,ns,pk,hq,g1,g2,cq,c3,e11,Int.reduceBEq]<;>with_reducible rfl))
    |((with_reducible first|apply A0|apply A3);· first|with_reducible rfl|omega|(simp (disch:=omega) only [gT,n0,n1,n2,n3,n4,n5,n6,n7,n8,ns,pk,hq,g1,g2,cq,c3,e11,Int.reduceBEq]<;>omega))
    |(with_reducible apply Az;· first|with_reducible rfl|(simp (disch:=omega) only [gF,n0,n1,n2,n3,n4,n5,n6,n7,n8,ns,pk,hq,g1,g2,cq,c3,e11,Int.reduceBEq]<;>omega))
   try simp (disch:=omega) only [n0,n1,n2,n3,n4,n5,n6,n7,n8,ns,pk,hq,g1,g2,cq,c3,e11,Int.reduceBEq]
   all_goals rfl
  ·refine ⟨⟨s1,s2,wrap .u64 v4,K,v5,wrap .i64 (20+v6),false,0,wrap .u64 v8,⟨0,[],[]⟩⟩,js,⟨⟨Ba _,Ba _,kr,⟨w0,w0⟩⟩,z1,z2,rfl⟩,E.trans ?_⟩;have f1:(vs==13)=false:=by rw [beq_eq_false_iff_ne];exact m1
   have f2:(vs==12)=false:=by rw [beq_eq_false_iff_ne];exact m2
   have f3:(vs==11)=false:=by rw [beq_eq_false_iff_ne];exact m3
   have f4:(vs==10)=false:=by rw [beq_eq_false_iff_ne];exact m4
   try unfold Aa
   repeat first
    |((with_reducible first|apply Ay|apply Ar|apply A4|apply Bb|apply Cg|apply C5|apply As);· first|with_reducible rfl|(simp (disch:=omega) only [n0,n1,n2,n3,n4,n5,n6,n7,n8,ns,pk,hq,g1,g2,cq,c3,e11,f1,f2,f3,f4]<;>with_reducible rfl))
    |((with_reducible first|apply A0|apply A3);· first|with_reducible rfl|omega|(simp (disch:=omega) only [gT,n0,n1,n2,n3,n4,n5,n6,n7,n8,ns,pk,hq,g1,g2,cq,c3,e11,f1,f2,f3,f4]<;>omega))
    |(with_reducible apply Az;· first|with_reducible rfl|(simp (disch:=omega) only [gF,n0,n1,n2,n3,n4,n5,n6,n7,n8,ns,pk,hq,g1,g2,cq,c3,e11,f1,f2,f3,f4]<;>omega))
   try simp (disch:=omega) only [n0,n1,n2,n3,n4,n5,n6,n7,n8,ns,pk,hq,g1,g2,cq,c3,e11,f1,f2,f3,f4]
   all_goals rfl
theorem Af3 {c:Ce}(hc:c.plain)(seed h leaf:Int):(Lw c seed h leaf).1.wf∧(Lw c seed h leaf).1.subj.size<=100∧(Lw c seed h leaf).1.iss.size<=100∧(Lw c seed h leaf).1.sig.path.length<=4:=by
 have z:NB.wf∧NB.subj.size<=100∧NB.iss.size<=100∧NB.sig.path.length<=4:=⟨⟨by decide,by decide⟩,by decide,by decide,by decide⟩
 unfold Lw;split
 ·cases hs:V7 seed h leaf (Kc c) with
  |none=>exact z
  |some s=>exact ⟨⟨hc.ok.ser.1,hc.ok.mod.1⟩,hc.s1,hc.s2,(Aav hs).2⟩
 ·exact z
end
section
open Go.IntKind (wrap)
set_option maxRecDepth 100000
abbrev Fx:FuncId:=3
theorem Ju (fu d a0n:Nat)(a0:List PV)(a1n:Nat)(a1:List PV):Ae C0 Tryd.prog fu (d+1) Fx [.lst false 1 a0n a0,.lst false 1 a1n a1]=(fun (call:Ah)=>Bc (decide ((↑a0n:Int)>600)) (Ai (call 4 []) fun x1 x2=>Ac x2<|Ab x1 fun x3 x4=>Bn x3 fun x5=>Ac x4<|some (Aw.mk [.sc (.bool x5)] [])) (Ai (call 5 [.lst false 1 a1n a1]) fun x6 x7=>Ac x7<|Ab x6 fun x8 x9=>Vb x8 fun Cp=>Ab Cp fun C3 Dz=>Gk 1 C3 fun Ed Dy Ec=>Ab Dz fun Ej Fc=>Ad .i64 Ej fun F2=>Ac Fc<|Ac x9<|Ai (call 7 [.pbox [.lst false 1 Dy Ec,.sc (.int .i64 F2)]]) fun F3 F8=>Ab F3 fun Ij G6=>Ez Ij fun H7=>Ab H7 fun Dr Dl=>Dp Dr fun G7=>Ab Dl fun Il E1=>Dp Il fun Mi=>Ab E1 fun Nd Lf=>Ad .u64 Nd fun Mv=>Ab Lf fun Nv Oa=>Ad .i64 Nv fun Pp=>Ab Oa fun Rh Rw=>Ad .u64 Rh fun Gg=>Ab Rw fun Hv Ug=>Ad .i64 Hv fun Yw=>Ab Ug fun Kw Uo=>Ad .i64 Kw fun S7=>Ab Uo fun Sh Sf=>Bn Sh fun Wx=>Ab Sf fun Xr R8=>Ad .i64 Xr fun Ve=>Ab R8 fun Ww Wt=>Ad .u64 Ww fun Oi=>Ab Wt fun Y9 DO=>Ad .i64 Y9 fun Zt=>Ab DO fun BN Ut=>Eg 1 BN fun V8 Z7=>Ab Ut fun Zb Tz=>Eg 1 Zb fun Zi Y3=>Ac Tz<|Ac G6<|Ab F8 fun Zs Wp=>Ab Zs fun Vk DS=>Gk 1 Vk fun CC Zg Yl=>Ab DS fun CM HC=>Ad .i64 CM fun CE=>Ac HC<|Ac Wp<|Ai (call 8 [.pbox [.lst false 1 Zg Yl,.sc (.int .i64 CE)],.sc (.int .i64 3)]) fun EN IW=>Ab EN fun BL Vg=>Ad .i64 BL fun MO=>Ac Vg<|Ab IW fun KT VJ=>Ab KT fun XM QN=>Gk 1 XM fun UC x85 YH=>Ab QN fun UE UD=>Ad .i64 UE fun IX=>Ac UD<|Ac VJ<|Aa (wrap .i64 (1+MO)) fun QA=>Ao (decide (0+V8*1<=Z7.length))<|Ao (decide (0+Zi*1<=Y3.length))<|Ai (call 6 [.agg [.sc (.string G7),.sc (.string Mi),.sc (.int .u64 Mv),.sc (.int .i64 Pp),.sc (.int .u64 Gg),.sc (.int .i64 Yw),.sc (.int .i64 S7),.sc (.bool Wx),.sc (.int .i64 Ve),.sc (.int .u64 Oi),.sc (.int .i64 Zt),.lst false 1 V8 (List.take (V8*1) (List.drop 0 Z7)),.lst false 1 Zi (List.take (Zi*1) (List.drop 0 Y3))],.sc (.int .u64 3),.sc (.int .i64 QA),.sc (.int .i64 0)]) fun VN WM=>Ac WM<|Ab VN fun UI IZ=>Ez UI fun x95=>Ab x95 fun x96 UH=>Dp x96 fun XJ=>Ab UH fun DY Xi=>Dp DY fun Us=>Ab Xi fun G8 Jm=>Ad .u64 G8 fun BC=>Ab Jm fun Sc R7=>Ad .i64 Sc fun Jw=>Ab R7 fun W0 Z1=>Ad .u64 W0 fun X3=>Ab Z1 fun BA Hz=>Ad .i64 BA fun I6=>Ab Hz fun AP AR=>Ad .i64 AP fun Y5=>Ab AR fun GV AX=>Bn GV fun Vp=>Ab AX fun Xs X7=>Ad .i64 Xs fun Yo=>Ab X7 fun Zn AL=>Ad .u64 Zn fun Oh=>Ab AL fun Qq Sx=>Ad .i64 Qq fun X1=>Ab Sx fun AG Lj=>Gk 1 AG fun JJ Xp Uv=>Ab Lj fun DE JA=>Gk 1 DE fun JM HV EA=>Ac JA<|Ab IZ fun Zu DT=>Ad .i64 Zu fun HT=>Ac DT<|Bc (HT==0) (Ai (call 9 [.agg [.sc (.string XJ),.sc (.string Us),.sc (.int .u64 BC),.sc (.int .i64 Jw),.sc (.int .u64 X3),.sc (.int .i64 I6),.sc (.int .i64 Y5),.sc (.bool Vp),.sc (.int .i64 Yo),.sc (.int .u64 Oh),.sc (.int .i64 X1),.lst false 1 Xp Uv,.lst false 1 HV EA]]) fun HG GJ=>Ac GJ<|Ab HG fun AE DF=>Eg 1 AE fun Vw Z8=>Ab DF fun HL OB=>Ad .i64 HL fun RS=>Ac OB<|Ao (decide (0+Vw*1<=Z8.length))<|Ai (call 10 [.lst false 1 Vw (List.take (Vw*1) (List.drop 0 Z8))]) fun KE Ym=>Ac Ym<|Ab KE fun FL PD=>Ez FL fun QX=>Ab QX fun Up QO=>Dp Up fun NJ=>Ab QO fun SM UN=>Dp SM fun PF=>Ab UN fun SS WC=>Ad .u64 SS fun OD=>Ab WC fun SC Ab6=>Ad .i64 SC fun PL=>Ab Ab6 fun SK WU=>Ad .u64 SK fun VT=>Ab WU fun WJ Agb=>Ad .i64 WJ fun Afx=>Ab Agb fun Aga XC=>Ad .i64 Aga fun PA=>Ab XC fun Ad1 Ac1=>Bn Ad1 fun Ady=>Ab Ac1 fun Aj7 Alr=>Ad .i64 Aj7 fun UQ=>Ab Alr fun WO Ajx=>Ad .u64 WO fun Akx=>Ab Ajx fun WL Aky=>Ad .i64 WL fun Akj=>Ab Aky fun Ai7 Akp=>Gk 1 Ai7 fun Alj Acm Ajc=>Ab Akp fun Aki Ajb=>Gk 1 Aki fun Alm Alu XA=>Ac Ajb<|Ab PD fun WP Aju=>Ad .i64 WP fun Aj2=>Ac Aju<|Bc (RS != 0) (some (Aw.mk [.sc (.bool false)] [])) (Bc (Aj2 != 0) (some (Aw.mk [.sc (.bool false)] [])) (Bc (decide ((↑Vw:Int)>512)) (some (Aw.mk [.sc (.bool false)] [])) (Ai (call 11 [.agg [.sc (.string XJ),.sc (.string Us),.sc (.int .u64 BC),.sc (.int .i64 Jw),.sc (.int .u64 X3),.sc (.int .i64 I6),.sc (.int .i64 Y5),.sc (.bool Vp),.sc (.int .i64 Yo),.sc (.int .u64 Oh),.sc (.int .i64 X1),.lst false 1 Xp Uv,.lst false 1 HV EA],.agg [.sc (.string NJ),.sc (.string PF),.sc (.int .u64 OD),.sc (.int .i64 PL),.sc (.int .u64 VT),.sc (.int .i64 Afx),.sc (.int .i64 PA),.sc (.bool Ady),.sc (.int .i64 UQ),.sc (.int .u64 Akx),.sc (.int .i64 Akj),.lst false 1 Acm Ajc,.lst false 1 Alu XA]]) fun VR Akt=>Ac Akt<|Ab VR fun Amy Aos=>Bn Amy fun Ao9=>Ac Aos<|Bc (!Ao9) (some (Aw.mk [.sc (.bool false)] [])) (Ai (call 10 [.lst false 1 a0n a0]) fun Ank Aqg=>Ac Aqg<|Ab Ank fun Ap7 Apz=>Ez Ap7 fun Anw=>Ab Anw fun Aoa Amg=>Dp Aoa fun An5=>Ab Amg fun Ap3 Aou=>Dp Ap3 fun Ao3=>Ab Aou fun Apd Apw=>Ad .u64 Apd fun Aqj=>Ab Apw fun Ao5 Am0=>Ad .i64 Ao5 fun Aql=>Ab Am0 fun Aoi Ap4=>Ad .u64 Aoi fun An4=>Ab Ap4 fun Ans Anz=>Ad .i64 Ans fun Aqn=>Ab Anz fun An2 Ape=>Ad .i64 An2 fun Aqi=>Ab Ape fun Ani Ap5=>Bn Ani fun Apr=>Ab Ap5 fun Ao7 Ap8=>Ad .i64 Ao7 fun Aqb=>Ab Ap8 fun Am5 Aon=>Ad .u64 Am5 fun Aob=>Ab Aon fun Apq An3=>Ad .i64 Apq fun App=>Ab An3 fun Anc Ant=>Gk 1 Anc fun Aq9 Apm Anq=>Ab Ant fun Am4 Am1=>Gk 1 Am4 fun Aq3 Aqo Aqp=>Ac Am1<|Ab Apz fun Aoo Anm=>Ad .i64 Aoo fun Apx=>Ac Anm<|Bc (Apx != 0) (Ai (call 4 []) fun Ap0 And=>Ac And<|Ab Ap0 fun Apg Am9=>Bn Apg fun Aps=>Ac Am9<|some (Aw.mk [.sc (.bool Aps)] [])) (Ai (call 9 [.agg [.sc (.string An5),.sc (.string Ao3),.sc (.int .u64 Aqj),.sc (.int .i64 Aql),.sc (.int .u64 An4),.sc (.int .i64 Aqn),.sc (.int .i64 Aqi),.sc (.bool Apr),.sc (.int .i64 Aqb),.sc (.int .u64 Aob),.sc (.int .i64 App),.lst false 1 Apm Anq,.lst false 1 Aqo Aqp]]) fun Anp Apj=>Ac Apj<|Ab Anp fun Aqc Ao8=>Eg 1 Aqc fun Aic Akr=>Ab Ao8 fun Aqr Anj=>Ad .i64 Aqr fun Anv=>Ac Anj<|Bc (Anv==0) (Ao (decide (0+Aic*1<=Akr.length))<|Ao (decide (List.length (List.take (Aic*1) (List.drop 0 Akr))=Aic))<|D3 (bytesOf (List.take (Aic*1) (List.drop 0 Akr))) fun Ap2=>Ao (decide (a0.length=a0n))<|D3 (bytesOf a0) fun Ana=>Bc (Array.toList (ByteArray.data (ByteArray.mk (List.toArray Ap2)))==Array.toList (ByteArray.data (ByteArray.mk (List.toArray Ana)))) (Ai (call 4 []) fun Aoz Ao0=>Ac Ao0<|Ab Aoz fun Anb Amv=>Bn Anb fun Ann=>Ac Amv<|some (Aw.mk [.sc (.bool Ann)] [])) (some (Aw.mk [.sc (.bool false)] []))) (some (Aw.mk [.sc (.bool false)] [])))))))) (Ai (call 10 [.lst false 1 a0n a0]) fun An6 Am3=>Ac Am3<|Ab An6 fun Ap9 Ami=>Ez Ap9 fun Aok=>Ab Aok fun Aml Aot=>Dp Aml fun Api=>Ab Aot fun Aoq Aoy=>Dp Aoq fun Aqh=>Ab Aoy fun Apb Am2=>Ad .u64 Apb fun Apy=>Ab Am2 fun Aqs Anx=>Ad .i64 Aqs fun Aqf=>Ab Anx fun Amt Aom=>Ad .u64 Amt fun Apo=>Ab Aom fun Ang Amm=>Ad .i64 Ang fun Am7=>Ab Amm fun Apn Anf=>Ad .i64 Apn fun Apv=>Ab Anf fun Am6 Apk=>Bn Am6 fun Aog=>Ab Apk fun An8 Amq=>Ad .i64 An8 fun Am8=>Ab Amq fun Apf Apa=>Ad .u64 Apf fun Aph=>Ab Apa fun Aop Ams=>Ad .i64 Aop fun Apt=>Ab Ams fun Aqq Amz=>Gk 1 Aqq fun Aq1 Ao2 Ane=>Ab Amz fun An9 Ao4=>Gk 1 An9 fun Aq0 Aqm Aod=>Ac Ao4<|Ab Ami fun Aor Apc=>Ad .i64 Aor fun Amp=>Ac Apc<|Bc (Amp != 0) (Ai (call 4 []) fun Aqa Aoh=>Ac Aoh<|Ab Aqa fun Ap6 Aoc=>Bn Ap6 fun Ao1=>Ac Aoc<|some (Aw.mk [.sc (.bool Ao1)] [])) (Ai (call 9 [.agg [.sc (.string Api),.sc (.string Aqh),.sc (.int .u64 Apy),.sc (.int .i64 Aqf),.sc (.int .u64 Apo),.sc (.int .i64 Am7),.sc (.int .i64 Apv),.sc (.bool Aog),.sc (.int .i64 Am8),.sc (.int .u64 Aph),.sc (.int .i64 Apt),.lst false 1 Ao2 Ane,.lst false 1 Aqm Aod]]) fun Amr Anl=>Ac Anl<|Ab Amr fun Aqk Amn=>Eg 1 Aqk fun Ag7 Akc=>Ab Amn fun Anh Anr=>Ad .i64 Anh fun An7=>Ac Anr<|Bc (An7==0) (Ao (decide (0+Ag7*1<=Akc.length))<|Ao (decide (List.length (List.take (Ag7*1) (List.drop 0 Akc))=Ag7))<|D3 (bytesOf (List.take (Ag7*1) (List.drop 0 Akc))) fun Amf=>Ao (decide (a0.length=a0n))<|D3 (bytesOf a0) fun Amj=>Bc (Array.toList (ByteArray.data (ByteArray.mk (List.toArray Amf)))==Array.toList (ByteArray.data (ByteArray.mk (List.toArray Amj)))) (Ai (call 4 []) fun An1 Aow=>Ac Aow<|Ab An1 fun Amu Ano=>Bn Amu fun Aol=>Ac Ano<|some (Aw.mk [.sc (.bool Aol)] [])) (some (Aw.mk [.sc (.bool false)] []))) (some (Aw.mk [.sc (.bool false)] [])))))) (Ae C0 Tryd.prog fu d):=by kernel_rfl
end
section
open Go.IntKind (wrap)
set_option maxRecDepth 1000000
theorem Abj {c:Ce}(hc:c.plain){seed h leaf:Int}(e:(Lw c seed h leaf).2=0):(Lw c seed h leaf).1.ok∧Dh (Lw c seed h leaf).1=0:=by
 unfold Lw at e ⊢;by_cases h0:A7 c=0
 rotate_left
 ·rw [A9 h0] at e;exact absurd e h0
 rw [Cc h0] at e ⊢;cases hh:C4 h
 rotate_left
 ·have:V7 seed h leaf (Kc c)=none:=by unfold V7;rw [Cc hh]
  rw [this] at e;cases e
 cases ho:Nn leaf h
 rotate_left
 ·have:V7 seed h leaf (Kc c)=none:=by unfold V7;rw [A9 (by simp [hh]),Cc ho]
  rw [this] at e;cases e
 obtain ⟨s,h1,h2,h3,h4,h5,_⟩:=ZF (seed:=seed) (m:=Kc c) hh ho;rw [h1];refine ⟨⟨hc.ok.ser,hc.ok.mod,hc.ok.root,h2⟩,?_⟩;have hb:A7 { c with sig:=s }=0:=h0;unfold Dh;simp only;rw [hb,Cc rfl];show Vt s=0;unfold Vt;rw [h5,h3,A9 (by simp [hh]),A9 (by simp [ho]),A9 (by omega)]
theorem EE {c:Ce}(h:A7 c=0):c.subj.size<=32∧c.iss.size<=32:=by
 unfold A7 at h;split at h
 ·cases h
 ·split at h
  ·cases h
  ·omega
theorem certificateBack_plain (qs:List PV)(h:Bi (WTv Tryd.prog) [22,23] qs):∃fu d,Ae C0 Tryd.prog fu d Fx qs=some ⟨[.sc (.bool true)],[]⟩:=by
 obtain ⟨q0,_,rfl,h0,g⟩:=h.cons_inv;obtain ⟨q1,_,rfl,h1,g⟩:=g.cons_inv;obtain rfl:=g.nil_inv;clear h g;obtain ⟨b,rfl,hbl,hbw⟩:=TG (k:=.u8) (e:=5) (by kernel_rfl) (by kernel_rfl) (by kernel_rfl) (by kernel_rfl) h0
 have hb:Ik b:=fun x hx=>Ama (hbw x hx)
 obtain ⟨l,rfl,hl,_⟩:=TG (k:=.i64) (e:=3) (by kernel_rfl) (by kernel_rfl) (by kernel_rfl) (by kernel_rfl) h1
 clear h0 h1 hbw;refine ⟨2000,19,?_⟩;refine (Ju 2000 18 b.length (Ag .u8 b) l.length (Ag .i64 l)).trans ?_;have aw:=Ac9 (d:=3);by_cases h6:(b.length:Int)>600
 ·have hd:decide ((b.length:Int)>600)=true:=by simp [h6]
  try unfold Aa
  repeat first
   |((with_reducible first|apply Ay|apply Ar|apply A4|apply A6|apply Bb|apply Bl|apply Cg|apply C5|apply X6|apply D8|apply As);· first|with_reducible rfl|(simp (disch:=omega) only [hd,aw]<;>with_reducible rfl))
   |((with_reducible first|apply A0|apply A3);· first|with_reducible rfl|omega|(simp (disch:=omega) only [gT,hd,aw]<;>omega))
   |(with_reducible apply Az;· first|with_reducible rfl|(simp (disch:=omega) only [gF,hd,aw]<;>omega))
  try simp (disch:=omega) only [hd,aw]
  all_goals rfl
 have hd:decide ((b.length:Int)>600)=false:=by simp [h6]
 have nq:=Akw (fu:=2000) (d:=17) (l:=l);obtain ⟨x,j,hx,xe⟩:=Afz (d:=4) hl 0;obtain ⟨v0,j0,v00,v01,n0⟩:=Hc hl j 3 (by omega) (by omega)
 have n0:=n0 (fu:=2000) (d:=16);have sx:x.sig=⟨0,[],[]⟩:=hx.sg;have sp:=SI (fu:=2000) (d:=9) (c:=x) (by omega) hx.ok.wf (by have:=hx.s1;omega) (by have:=hx.s2;omega) 3 (wrap .i64 (1+v0)) 0
 have so:=Af3 hx 3 (wrap .i64 (1+v0)) 0;have sn:=fun e=>Abj hx (seed:=3) (h:=wrap .i64 (1+v0)) (leaf:=0) e
 generalize (Lw x 3 (wrap .i64 (1+v0)) 0).2=er at *
 generalize (Lw x 3 (wrap .i64 (1+v0)) 0).1=y at *
 have q1:∀l:List UInt8,(l==l)=true:=fun l=>beq_self_eq_true l
 have z0:((0:Nat):Int)=0:=rfl;have e0:Ag .u64 []=[]:=rfl;have td:∀k:Nat,List.take k (List.drop 0 ([]:List PV))=[]:=fun k=>by rw [Ew,List.take_nil]
 have e00:((0:Int)==0)=true:=rfl;have e01:((0:Int) != 0)=false:=rfl;have p:=PH (fu:=2000) (d:=9) (by omega) hb (by omega)
 have ok:=Ag3 hb;simp only [Ce.cells,Ce.cells0,dkc,sx,CV] at nq xe n0 sp;rw [z0] at nq xe;simp only [e0] at sp
 have back:(Oe b).2≠0∨(Dh (Oe b).1=0∧Fg (Oe b).1=b∧(Oe b).1.ok∧(Oe b).2=0):=by
  by_cases hf:(Oe b).2=0
  ·exact .inr ⟨(ok.2 hf).1,(ok.2 hf).2,ok.1,hf⟩
  ·exact .inl hf
 clear ok;generalize (Oe b).1=C at *
 generalize (Oe b).2=f at *
 simp only [Ce.cells] at p;have Lb:=Al .u8 b;have tb:=Nz .u8 b;have yb:=G2 b;by_cases her:er=0
 ·obtain ⟨yo,ye⟩:=sn her;subst her;have en:=Yg (fu:=2000) (d:=10) (c:=y) (by omega) yo.wf (by have:=so.2.1;omega) (by have:=so.2.2.1;omega) (by have:=so.2.2.2;omega) (by have:=so.2.2.2;omega)
  unfold V1 at en;rw [Cc ye] at en;have el:=Yh ye;have de:=PH (fu:=2000) (d:=9) (by omega) (XE yo.wf ye) (by omega)
  rw [HU yo ye] at de;have e5:=I3 ye;have sm:=RX (fu:=2000) (d:=15) (c:=y) (by omega) (by have:=e5.2.2.2.2.1;omega) (by have:=so.2.2.2;omega)
  have Lx:=Al .u8 (Fg y);have tx:=Nz .u8 (Fg y);have h512:decide (((Fg y).length:Int)>512)=false:=by simp;omega
  generalize Fg y=Y at *
  simp only [Ce.cells] at en de sm;rcases back with hf|⟨c1,c2,c3,rfl⟩
  ·have hf':(f != 0)=true:=by simp [hf]
   try unfold Aa
   repeat first
    |((with_reducible first|apply Ay|apply Ar|apply A4|apply A6|apply Bb|apply Bl|apply Cg|apply C5|apply X6|apply D8|apply As);· first|with_reducible rfl|(simp (disch:=omega) only [hd,nq,xe,n0,sp,e00,en,de,sm,e01,Lx,tx,h512,p,hf',aw,D9,Ew,C2,Cd,Nat.zero_mul,td,List.take_nil]<;>with_reducible rfl))
    |((with_reducible first|apply A0|apply A3);· first|with_reducible rfl|omega|(simp (disch:=omega) only [gT,hd,nq,xe,n0,sp,e00,en,de,sm,e01,Lx,tx,h512,p,hf',aw,D9,Ew,C2,Cd,Nat.zero_mul,td,List.take_nil]<;>omega))
    |(with_reducible apply Az;· first|with_reducible rfl|(simp (disch:=omega) only [gF,hd,nq,xe,n0,sp,e00,en,de,sm,e01,Lx,tx,h512,p,hf',aw,D9,Ew,C2,Cd,Nat.zero_mul,td,List.take_nil]<;>omega))
   try simp (disch:=omega) only [hd,nq,xe,n0,sp,e00,en,de,sm,e01,Lx,tx,h512,p,hf',aw,D9,Ew,C2,Cd,Nat.zero_mul,td,List.take_nil]
   all_goals rfl
  ·have c5:=I3 c1;have eC:=Yg (fu:=2000) (d:=10) (c:=C) (by omega) c3.wf (by have:=(EE c5.1).1;omega) (by have:=(EE c5.1).2;omega) (by have:=Fn c5.2.2.1;omega) (by have:=Fn c5.2.2.1;omega)
   unfold V1 at eC;rw [Cc c1,c2] at eC;simp only [Ce.cells] at eC
   try unfold Aa
   repeat first
    |((with_reducible first|apply Ay|apply Ar|apply A4|apply A6|apply Bb|apply Bl|apply Cg|apply C5|apply X6|apply D8|apply As);· first|with_reducible rfl|(simp (disch:=omega) only [hd,nq,xe,n0,sp,e00,en,de,sm,e01,Lx,tx,h512,p,eC,Lb,tb,yb,q1,aw,D9,Ew,C2,Cd,Nat.zero_mul,td,List.take_nil]<;>with_reducible rfl))
    |((with_reducible first|apply A0|apply A3);· first|with_reducible rfl|omega|(simp (disch:=omega) only [gT,hd,nq,xe,n0,sp,e00,en,de,sm,e01,Lx,tx,h512,p,eC,Lb,tb,yb,q1,aw,D9,Ew,C2,Cd,Nat.zero_mul,td,List.take_nil]<;>omega))
    |(with_reducible apply Az;· first|with_reducible rfl|(simp (disch:=omega) only [gF,hd,nq,xe,n0,sp,e00,en,de,sm,e01,Lx,tx,h512,p,eC,Lb,tb,yb,q1,aw,D9,Ew,C2,Cd,Nat.zero_mul,td,List.take_nil]<;>omega))
   try simp (disch:=omega) only [hd,nq,xe,n0,sp,e00,en,de,sm,e01,Lx,tx,h512,p,eC,Lb,tb,yb,q1,aw,D9,Ew,C2,Cd,Nat.zero_mul,td,List.take_nil]
   all_goals rfl
 ·have her':(er==0)=false:=by simp [her]
  rcases back with hf|⟨c1,c2,c3,rfl⟩
  ·have hf':(f != 0)=true:=by simp [hf]
   try unfold Aa
   repeat first
    |((with_reducible first|apply Ay|apply Ar|apply A4|apply A6|apply Bb|apply Bl|apply Cg|apply C5|apply X6|apply D8|apply As);· first|with_reducible rfl|(simp (disch:=omega) only [hd,nq,xe,n0,sp,her',p,hf',aw,D9,Ew,C2,Cd,Nat.zero_mul,td,List.take_nil]<;>with_reducible rfl))
    |((with_reducible first|apply A0|apply A3);· first|with_reducible rfl|omega|(simp (disch:=omega) only [gT,hd,nq,xe,n0,sp,her',p,hf',aw,D9,Ew,C2,Cd,Nat.zero_mul,td,List.take_nil]<;>omega))
    |(with_reducible apply Az;· first|with_reducible rfl|(simp (disch:=omega) only [gF,hd,nq,xe,n0,sp,her',p,hf',aw,D9,Ew,C2,Cd,Nat.zero_mul,td,List.take_nil]<;>omega))
   try simp (disch:=omega) only [hd,nq,xe,n0,sp,her',p,hf',aw,D9,Ew,C2,Cd,Nat.zero_mul,td,List.take_nil]
   all_goals rfl
  ·have c5:=I3 c1;have eC:=Yg (fu:=2000) (d:=10) (c:=C) (by omega) c3.wf (by have:=(EE c5.1).1;omega) (by have:=(EE c5.1).2;omega) (by have:=Fn c5.2.2.1;omega) (by have:=Fn c5.2.2.1;omega)
   unfold V1 at eC;rw [Cc c1,c2] at eC;simp only [Ce.cells] at eC
   try unfold Aa
   repeat first
    |((with_reducible first|apply Ay|apply Ar|apply A4|apply A6|apply Bb|apply Bl|apply Cg|apply C5|apply X6|apply D8|apply As);· first|with_reducible rfl|(simp (disch:=omega) only [hd,nq,xe,n0,sp,her',e01,p,eC,e00,Lb,tb,yb,q1,aw,D9,Ew,C2,Cd,Nat.zero_mul,td,List.take_nil]<;>with_reducible rfl))
    |((with_reducible first|apply A0|apply A3);· first|with_reducible rfl|omega|(simp (disch:=omega) only [gT,hd,nq,xe,n0,sp,her',e01,p,eC,e00,Lb,tb,yb,q1,aw,D9,Ew,C2,Cd,Nat.zero_mul,td,List.take_nil]<;>omega))
    |(with_reducible apply Az;· first|with_reducible rfl|(simp (disch:=omega) only [gF,hd,nq,xe,n0,sp,her',e01,p,eC,e00,Lb,tb,yb,q1,aw,D9,Ew,C2,Cd,Nat.zero_mul,td,List.take_nil]<;>omega))
   try simp (disch:=omega) only [hd,nq,xe,n0,sp,her',e01,p,eC,e00,Lb,tb,yb,q1,aw,D9,Ew,C2,Cd,Nat.zero_mul,td,List.take_nil]
   all_goals rfl
end
section
open Go.IntKind (wrap)
open Go Go.RowKit
structure IA (Z Z':Nat->Prop) (w w':World):Prop where
 os:w'.os=w.os
 tape:w'.tape=w.tape
 output:w'.output=w.output
 size:w.heap.size<=w'.heap.size
 keep:∀b,b<w.heap.size->¬Z b->w'.heap[b]?=w.heap[b]?
 sub:∀b,Z b->Z' b
 new:∀b,Z' b->Z b∨w.heap.size<=b
 lt:∀b,Z' b->b<w'.heap.size
 bs:∀b,b<w.heap.size->bsz w b<=bsz w' b
structure Ux (Z:Nat->Prop) (w w':World):Prop where
 os:w'.os=w.os
 tape:w'.tape=w.tape
 output:w'.output=w.output
 size:w.heap.size<=w'.heap.size
 same:∀b,Z b->w'.heap[b]?=w.heap[b]?
theorem Ux.sub {Z Z':Nat->Prop}{w w':World}(h:Ux Z w w')(hs:∀b,Z' b->Z b):Ux Z' w w':=⟨h.os,h.tape,h.output,h.size,fun b hb=>h.same b (hs b hb)⟩
def Ail {α:Type}(P:Program)(gf:Nat)(lb:Array Value)(M:List α->α->Array Value->(Nat->Prop)->World->Prop) (S Sp:List α->Prop)(Pre:(Nat->Prop)->World->Prop):Prop:=
 ∀(l:Nat) (J Jx:(Nat->Prop)->List α->World->Prop) (W:World) (Z0:Nat->Prop),(∀b,Z0 b->b<W.heap.size)->Pre Z0 W ->
  (∀Z pre A B,J Z pre A->Ux Z A B->J Z pre B)->(∀Z pre A B,Jx Z pre A->Ux Z A B->Jx Z pre B) ->
  (∀Z pre x args A,J Z pre A->M pre x args Z A->YieldAt Fence.wide 0 P l args A fun e B=>∃Z',IA Z Z' A B ∧
   ((e=.returned (.bool true)∧J Z' (pre++[x]) B)∨(e=.returned (.bool false)∧Jx Z' (pre++[x]) B))) ->
  J Z0 [] W ->
  Calls P gf (#[.func (.yield l) #[] #[]]++lb) W fun e B=>(∃v,e=.returned v)∧∃Z xs,(S xs∧J Z xs B)∨(Sp xs∧Jx Z xs B)
theorem RC {P:Program}{n m l:Nat}{f:FuncId}{tmps:Array Value}{assign body:Code}{w:World}{R:Ending->World->Prop}(h:RoundIn Fence.wide n P l f tmps assign body w R):RoundIn Fence.wide m P l f tmps assign body w R:=
 ⟨h.1,fun c cs _=>h.2 c cs (room_wide _)⟩
def XP {α:Type}(D:Nat)(I:(Nat->Prop)->List α->World->Prop) (Ix:Code->(Nat->Prop)->List α->World->Prop) (Z:Nat->Prop)(xs:List α)(A:World):Exit->Act->World->Prop:=fun e _ B=>
 ∃Z',IA Z Z' A B∧B.heap[D]?=A.heap[D]?∧B.heap[D+1]?=A.heap[D+1]? ∧
  match e with
  |.normal=>I Z' xs B
  |.ret=>Ix .ret Z' xs B
  |.exit id=>Ix (.exit id) Z' xs B
  |.goto t=>Ix (.goto t) Z' xs B
  |_=>False
theorem Aay {α:Type}{P:Program}{n:Nat}{g:Operand}{ps:Array Tmp}{assign body:Code}{Q:Exit->Act->World->Prop}{a:Act}{w:World}{gf:Nat}{lb:Array Value}
  (hg:a.eval g=.func (.func gf) #[] lb) (eg:∀args w,(callFunc gf args).run P w=.ok (.enter gf args) w)
  {M:List α->α->Array Value->(Nat->Prop)->World->Prop} {S Sp:List α->Prop} {Pre:(Nat->Prop)->World->Prop} (hit:Ail P gf lb M S Sp Pre) {Z0:Nat->Prop} (hZ0:∀b,Z0 b->b<w.heap.size)
  (hPre:∀W:World,W.heap.size=w.heap.size+2->(∀b,b<w.heap.size->W.heap[b]?=w.heap[b]?)->Pre (fun b=>Z0 b∨b=w.heap.size∨b=w.heap.size+1) W)
  (hM:∀pre x args Z A B,M pre x args Z A->A.heap.size<=B.heap.size->(∀b,b<A.heap.size->¬Z b->B.heap[b]?=A.heap[b]?)->M pre x args Z B)
  (hps:∀pre x args Z A,M pre x args Z A->args.size=ps.size)
  (I:(Nat->Prop)->List α->World->Prop) (Ix:Code->(Nat->Prop)->List α->World->Prop)
  (hI:∀Z pre A B,I Z pre A->Ux (fun b=>Z b∧b≠w.heap.size∧b≠w.heap.size+1) A B->I Z pre B)
  (hIx:∀c Z pre A B,Ix c Z pre A->Ux (fun b=>Z b∧b≠w.heap.size∧b≠w.heap.size+1) A B->Ix c Z pre B)
  (h0:∀W,W.heap.size=w.heap.size+2->Ux (fun b=>b<w.heap.size) w W->I (fun b=>Z0 b∨b=w.heap.size∨b=w.heap.size+1) [] W)
  (a₁:Array Value->Act)
  (hassign:∀pre x args Z A (K:Act->World->Prop),M pre x args Z A->K (a₁ args) A->assign.wpIn (Fence.wide.inRound (w.heap.size+1)) 0 P (Exit.then K (fun _ _ _=>False)) { tmps:=(ps.zip args).foldl (fun t (p,v)=>t.setIfInBounds p v) a.tmps,defers:=[] } A)
  (hbody:∀Z pre x args A,Z w.heap.size->Z (w.heap.size+1)->I Z pre A->M pre x args Z A->body.wpIn (Fence.wide.inRound (w.heap.size+1)) 0 P (XP w.heap.size I Ix Z (pre++[x]) A) (a₁ args) A)
  (hdone:∀Z xs B,S xs->I Z xs B->B.heap[w.heap.size]?=some (.deferred (some []))->Q .normal { a with defers:={ target:=.collected w.heap.size,args:= #[] }::a.defers } B)
  (hstop:∀c Z xs B,Sp xs->Ix c Z xs B->B.heap[w.heap.size]?=some (.deferred (some []))->c.wpIn Fence.wide n P Q { a with defers:={ target:=.collected w.heap.size,args:= #[] }::a.defers } B):
  (Code.rangeFunc g ps assign body).wpIn Fence.wide n P Q a w:=by
 refine wpIn_rangeFunc ?_;intro fn hfn;obtain ⟨rec,hrec⟩:∃rec:LoopState->Option Code->Loop,rec=fun st pe=>{ state:=st,pending:=pe,fn,tmps:=a.tmps,params:=ps,assign,body,defers:=w.heap.size }:=⟨_,rfl⟩
 obtain ⟨D,hD⟩:∃D,w.heap.size=D:=⟨_,rfl⟩;rw [hD] at hI hIx h0 hassign hbody hdone hstop hZ0 hPre;obtain ⟨W1,hW1⟩:∃W1,(w.alloc (.deferred (some []))).alloc (.loop (rec .ready none))=W1:=⟨_,rfl⟩;have hs1:W1.heap.size=D+2:=by rw [←hW1,World.size_alloc,World.size_alloc,hD]
 have hL1:W1.heap[D+1]?=some (.loop (rec .ready none)):=by
  rw [←hW1,←hD];have:=World.alloc_heap_new (w.alloc (.deferred (some []))) (.loop (rec .ready none));rwa [World.size_alloc] at this
 have hK1:W1.heap[D]?=some (.deferred (some [])):=by
  rw [←hW1,←hD];exact (Below.heap_alloc _ _ _ (by simp)).trans (World.alloc_heap_new w _)
 have hst:Ux (fun b=>b<D) w W1:=by
  rw [←hW1,←hD];exact ⟨rfl,rfl,rfl,by simp;omega,fun b hb=>(Below.heap_alloc _ _ _ (by simp;omega)).trans (Below.heap_alloc _ _ _ hb)⟩
 refine ⟨D+1,[{ target:=.collected D,args:= #[] }],W1,{ target:=.fn (.func gf) lb,args:= #[.func (.yield (D+1)) #[] #[]] },W1,gf,
  #[.func (.yield (D+1)) #[] #[]]++lb,W1,?_,?_,fun _ _=>trivial,?_,(fun h=>by cases h),?_⟩
 ·rw [←hW1,hrec,←hD];exact run_enterLoop_outer _ _ _ _ _
 ·simp only [resolve,hg];simp [go_sem]
 ·simp [invoke,go_sem,eg]
 ·have put:∀{Z:Nat->Prop} {A:World} (o:Obj),Ux (fun b=>Z b∧b≠D∧b≠D+1) A (A.putObj (D+1) o):=fun o=>
   ⟨rfl,rfl,rfl,by simp,fun b hb=>World.putObj_heap_other hb.2.2⟩
  refine callsIn_wide.2 (Calls.mono (hit (D+1)
   (fun Z pre A=>(Z D∧Z (D+1))∧I Z pre A∧A.heap[D+1]?=some (.loop (rec .ready none))∧A.heap[D]?=some (.deferred (some [])))
   (fun Z pre A=>(Z D∧Z (D+1))∧∃c,Ix c Z pre A∧A.heap[D+1]?=some (.loop (rec .done (some c)))∧A.heap[D]?=some (.deferred (some [])))
   W1 (fun b=>Z0 b∨b=D∨b=D+1) (fun b hb=>by rw [hs1];exact hb.elim (fun h=>by have:=hZ0 b h;omega) fun h=>by omega) (hPre W1 hs1 (fun b hb=>hst.same b hb)) ?_ ?_ ?_ ?_) ?_)
  ·rintro Z pre A B ⟨hz,hi,hl,hk⟩ hs
   exact ⟨hz,hI Z pre A B hi (hs.sub fun _ h=>h.1),(hs.same _ hz.2).trans hl,(hs.same _ hz.1).trans hk⟩
  ·rintro Z pre A B ⟨hz,c,hi,hl,hk⟩ hs
   exact ⟨hz,c,hIx c Z pre A B hi (hs.sub fun _ h=>h.1),(hs.same _ hz.2).trans hl,(hs.same _ hz.1).trans hk⟩
  ·rintro Z pre x args A ⟨hz,hi,hl,hk⟩ hm
   have hlt:D+1<A.heap.size:=(Array.getElem?_eq_some_iff.1 hl).1;have hy:=run_yield (P:=P) (args:=args) hl (by rw [hrec];exact hps pre x args Z A hm)
   rw [hrec] at hy;refine ⟨fn,_,assign,body,hy,roundIn_of_wpIn hfn (hassign pre x args Z A _ hm ?_)⟩;refine ⟨_,run_beginRound hl (by rw [hrec]),?_⟩
   obtain ⟨A2,hA2⟩:∃A2,A.putObj (D+1) (.loop { rec .ready none with state:=.busy })=A2:=⟨_,rfl⟩;rw [hA2];have hl2:A2.heap[D+1]?=some (.loop { rec .ready none with state:=.busy }):=by rw [←hA2];exact World.putObj_heap_same hlt
   have hk2:A2.heap[D]?=some (.deferred (some [])):=by rw [←hA2];exact (World.putObj_heap_other (by omega)).trans hk
   have hz2:A2.heap.size=A.heap.size:=by rw [←hA2];simp
   have hi2:I Z pre A2:=by rw [←hA2];exact hI Z pre A _ hi (put _)
   have hm2:M pre x args Z A2:=by
    rw [←hA2];exact hM pre x args Z A _ hm (by simp) fun b _ hb=>World.putObj_heap_other fun e=>hb (e ▸ hz.2)
   refine wpIn_mono (hbody Z pre x args A2 hz.1 hz.2 hi2 hm2) ?_
   have fin:∀(jump:Option Code) (W3:World) (Z':Nat->Prop),IA Z Z' A2 W3->W3.heap[D]?=A2.heap[D]?->W3.heap[D+1]?=A2.heap[D+1]? ->
     (Instr.endRound (D+1) jump).run P W3=.ok (.bool jump.isNone) (W3.putObj (D+1) (.loop (rec (if jump.isNone then .ready else .done) jump))) ∧
     (W3.putObj (D+1) (.loop (rec (if jump.isNone then .ready else .done) jump))).heap[D+1]?=some (.loop (rec (if jump.isNone then .ready else .done) jump)) ∧
     (W3.putObj (D+1) (.loop (rec (if jump.isNone then .ready else .done) jump))).heap[D]?=some (.deferred (some [])) ∧
     IA Z Z' A (W3.putObj (D+1) (.loop (rec (if jump.isNone then .ready else .done) jump))):=fun jump W3 Z' ht e1 e2=>by
    have hl3:=e2.trans hl2;have:=run_endRound (P:=P) jump hl3;rw [hrec] at this ⊢;refine ⟨this,World.putObj_heap_same (Array.getElem?_eq_some_iff.1 hl3).1,(World.putObj_heap_other (by omega)).trans (e1.trans hk2),?_⟩
    have hA:A2.os=A.os∧A2.tape=A.tape∧A2.output=A.output:=by rw [←hA2];exact ⟨rfl,rfl,rfl⟩
    refine ⟨ht.os.trans hA.1,ht.tape.trans hA.2.1,ht.output.trans hA.2.2,by have:=ht.size;simp;omega,fun b hb hn=>?_,ht.sub,fun b hb=>by have:=ht.new b hb;rw [hz2] at this;exact this,fun b hb=>by simpa using ht.lt b hb,fun b hb=>?_⟩
    ·have hne:b≠D+1:=fun e=>hn (e ▸ hz.2)
     rw [World.putObj_heap_other hne,ht.keep b (by omega) hn,←hA2,World.putObj_heap_other hne]
    ·by_cases hne:b=D+1
     ·subst hne;unfold bsz;rw [hl];exact Nat.zero_le _
     ·have h5:=ht.bs b (by omega)
      have h6:bsz A2 b=bsz A b:=by unfold bsz;rw [←hA2,World.putObj_heap_other hne]
      have h7:∀o,bsz (W3.putObj (D+1) o) b=bsz W3 b:=fun o=>by unfold bsz;rw [World.putObj_heap_other hne]
      rw [h7,←h6];exact h5
   rintro e a3 W3 ⟨Z',ht,e1,e2,hp⟩
   cases e with
   |normal=>
    obtain ⟨hr,hl4,hk4,ht4⟩:=fin none W3 Z' ht e1 e2;exact ⟨_,_,hr,Z',ht4,.inl ⟨rfl,⟨ht.sub _ hz.1,ht.sub _ hz.2⟩,hI Z' _ _ _ hp (put _),hl4,hk4⟩⟩
   |ret=>
    obtain ⟨hr,hl4,hk4,ht4⟩:=fin (some .ret) W3 Z' ht e1 e2;exact ⟨_,_,hr,Z',ht4,.inr ⟨rfl,⟨ht.sub _ hz.1,ht.sub _ hz.2⟩,.ret,hIx _ Z' _ _ _ hp (put _),hl4,hk4⟩⟩
   |exit id=>
    obtain ⟨hr,hl4,hk4,ht4⟩:=fin (some (.exit id)) W3 Z' ht e1 e2;exact ⟨_,_,hr,Z',ht4,.inr ⟨rfl,⟨ht.sub _ hz.1,ht.sub _ hz.2⟩,.exit id,hIx _ Z' _ _ _ hp (put _),hl4,hk4⟩⟩
   |goto t=>
    obtain ⟨hr,hl4,hk4,ht4⟩:=fin (some (.goto t)) W3 Z' ht e1 e2;exact ⟨_,_,hr,Z',ht4,.inr ⟨rfl,⟨ht.sub _ hz.1,ht.sub _ hz.2⟩,.goto t,hIx _ Z' _ _ _ hp (put _),hl4,hk4⟩⟩
   |panic ch=>exact hp.elim
   |outgrown=>exact hp.elim
  ·exact ⟨⟨.inr (.inl rfl),.inr (.inr rfl)⟩,h0 W1 hs1 hst,hL1,hK1⟩
  ·rintro e W2 ⟨⟨v,rfl⟩,Z,xs,(⟨hS,hz,hi,hl,hk⟩|⟨hSp,hz,c,hi,hl,hk⟩)⟩
   ·exact ⟨none,_,by have:=run_endLoop (P:=P) hl (by rw [hrec];simp);rw [hrec] at this;exact this,hdone Z xs _ hS (hI Z _ _ _ hi (put _)) ((World.putObj_heap_other (by omega)).trans hk)⟩
   ·exact ⟨some c,_,by have:=run_endLoop (P:=P) hl (by rw [hrec];simp);rw [hrec] at this;exact this,hstop c Z xs _ hSp (hIx c Z _ _ _ hi (put _)) ((World.putObj_heap_other (by omega)).trans hk)⟩
def Agq (s:St)(β:Bt):Ef:={ X:=Yj s.hp β,L:=fun b _=>Yj s.hp β b,pn:=fun _=>False,pt:=fun _=>none,p8:=fun _ h=>h.elim }
theorem Bp.rebase {N:Nat}{w0 w w':World}{X0:Ef}{Y Z':Nat->Prop}{β:Bt}{s:St}{a:Act}(h:Bp N w0 X0 Y β s a w)(ht:IA Y Z' w w')(hns:∀id c,s.hp id≠some (.st c)):Bp N w' (Agq s β) Z' β s a w':=by
 have hW:Bv (Ci s.hp β Y) w w':=⟨ht.size,fun b hb hn=>ht.keep b hb fun y=>hn (.inr y),ht.bs⟩
 have hA:∀b,b<w.heap.size->Ci s.hp β Z' b->Ci s.hp β Y b:=by
  rintro b hb (hx|hz)
  ·exact .inl hx
  ·rcases ht.new b hz with h1|h1
   ·exact .inr h1
   ·omega
 have hsame:∀b,b<w.heap.size->¬Y b->w'.heap[b]?=w.heap[b]?:=ht.keep
 refine ⟨h.dfr,h.tsz,h.tmo,fun i hi=>(h.tms i hi).step hW hA fun _ _=>rfl,fun id bx hbx=>?_,h.inj,fun id b o h1 h2=>Nat.lt_of_lt_of_le (h.blt id b o h1 h2) ht.size,h.wfT,h.wfB,fun b hb=>.inl hb,
  fun id bx b o h1 h2 h3 _ j _=>⟨id,o,by rw [h1];exact h2,h3⟩,fun i hi=>hi.elim,fun id c b o h1=>absurd h1 (hns id c),fun b hz=>?_,ht.lt,⟨rfl,rfl,rfl,⟨Nat.le_refl _,fun _ _ _=>rfl,fun _ _=>Nat.le_refl _⟩,fun _ _ _ _=>⟨rfl,rfl⟩⟩⟩
 ·cases bx with
  |st c=>exact absurd hbx (hns id c)
  |mv=>trivial
  |ar fz cells=>
   rcases h.box id _ hbx with h1|⟨b,o,h1,h2,h3,h4⟩
   ·exact .inl h1
   ·have hlt:b<w.heap.size:=h.blt id b o (by rw [hbx];simp) h1
    have hnY:¬Y b:=by
     cases fz with
     |false=>exact fun y=>h.Yx b y ⟨id,o,by rw [hbx];trivial,h1⟩
     |true=>exact fun y=>h4 rfl (.inr y)
    have hh:=hsame b hlt hnY;have hb':bsz w' b=bsz w b:=by unfold bsz;rw [hh]
    refine .inr ⟨b,o,h1,fun j c hj=>?_,fun hf j hj hjb=>?_,fun hf=>fun hA'=>h4 hf (hA b hlt hA')⟩
    ·obtain ⟨v,hv,hv1,hv2⟩:=h2 j c hj;exact ⟨v,(World.cell?_of_block (a:=(⟨b,o,none⟩:Addr).add j) (by rw [E2];exact hh)).trans hv,hv1,hv2.step hW hA⟩
    ·rw [hb'] at hjb;have:=h3 hf j hj hjb;rw [←this];unfold World.frozen?;simp only [hh]
 ·rintro ⟨id,o,h1,h2⟩
  have hlt:b<w.heap.size:=h.blt id b o (Cj h1) h2;rcases ht.new b hz with h3|h3
  ·exact h.Yx b h3 ⟨id,o,h1,h2⟩
  ·omega
theorem Bp.stay {N:Nat}{w0 w:World}{X0:Ef}{Y:Nat->Prop}{β:Bt}{s:St}{a:Act}(h:Bp N w0 X0 Y β s a w)(hd:∀b,Y b->¬X0.X b):Ux Y w0 w:=
 ⟨h.fr.os,h.fr.tape,h.fr.output,h.fr.step.size,fun b hb=>h.fr.step.keep b (h.Ylt b hb) (hd b hb)⟩
end
section
open Go.IntKind (wrap)
open Go Go.RowKit
abbrev WF (ro:Option Nat):Fence:={ fn:=fun _=>True,depth:=none,alive:=false,round:=ro }
def OM (o:Oper):Bool:=
 match o.op with
 |.defer _=>false
 |_=>true
def okR:Code->Bool
 |.region _ ops _=>ops.toList.all OM
 |.seq a b=>okR a&&okR b
 |.cond _ a b=>okR a&&okR b
 |.block _ c=>okR c
 |.loop c=>okR c
 |.skip=>true
 |.exit _=>true
 |.ret=>true
 |_=>false
theorem Y4 {P:Program}{o:Oper}{a:Act}{w:World}{next:Act->World->Prop}{Q:Exit->Act->World->Prop}{ro:Option Nat}{n:Nat}(hd:OM o=true)(h:o.wp P a w next Q):o.wpIn (WF ro) n P a w next Q:=by
 refine ⟨fun _ _=>trivial,?_⟩
 have e:o.semAt (WF ro).round a.eval=execOp a.eval o:=Oper.semAt_eq _ _ _ (by intro c hc;unfold OM at hd;rw [hc] at hd;cases hd)
 rw [e];unfold Oper.wp at h
 revert h
 generalize (execOp a.eval o).run P w=q;intro h;cases q with
 |halt x w'=>cases x<;>first|exact h|exact h.elim
 |ok v w'=>
  cases v with
  |value v=>exact h
  |skip=>exact h
  |defer d=>exact h
  |enter f args=>exact ⟨(fun h=>by cases h),(callsIn_wide.2 h:CallsIn Fence.wide (n-1) P f args w' _)⟩
  |row row args=>exact ⟨(fun h=>by cases h),fun c cs _=>let ⟨v,w',r,s⟩:=h c cs;⟨v,w',r,stepsIn_wide.2 s⟩⟩
  |_=>exact h.elim
theorem NU {P:Program}{ops:Array Oper}{Q:Exit->Act->World->Prop}{K K':Act->World->Prop}{ro:Option Nat}{i n:Nat}{a:Act}{w:World}(hQo:¬LetsOut Q)(hnd:ops.toList.all OM=true)(hK:∀a w,K a w->K' a w)(h:wpOp P ops Q i K a w):wpOpIn (WF ro) n P ops Q i K' a w:=by
 unfold wpOp at h;unfold wpOpIn;cases ho:ops[i]? with
 |none=>rw [ho] at h;exact hK _ _ h
 |some o=>
  rw [ho] at h;simp only at h ⊢;have hn:OM o=true:=List.all_eq_true.1 hnd o (Array.mem_toList_iff.2 (Array.mem_of_getElem? ho));by_cases hw:Region.wanted o (yielded ops a.tmps)=true
  ·rw [Cc hw] at h ⊢;rcases h with h|h
   ·exact Y4 hn (Oper.wp_mono hK h)
   ·exact absurd h.2 hQo
  ·rw [A9 hw] at h ⊢;exact ⟨fun _ _=>trivial,hK _ _ h⟩
theorem Pj {P:Program}{ops:Array Oper}{Q:Exit->Act->World->Prop}{ro:Option Nat}{n:Nat}{md:Region.Mode}(hQo:¬LetsOut Q)(hnd:ops.toList.all OM=true):∀(fuel:Nat)(listed:Array Bool)(a:Act)(w:World),wpAny P md ops Q fuel listed a w->wpAnyIn (WF ro) n P md ops Q fuel listed a w
 |0,_,_,_,h=>h
 |fuel+1,_,_,_,h=>⟨h.1,fun i hi=>NU hQo hnd (fun a w=>Pj hQo hnd fuel _ a w) (h.2 i hi)⟩
section
variable {P:Program} {C:Gi} {N:Nat} {call:Ah} {w0:World} {X0:Ef} {Y:Nat->Prop} {R:Type} {r:R} {β:Bt} {s:St} {a:Act} {w:World} {o:Oper} {ops:Array Oper} {K:St->Option R} {ro:Option Nat} {n:Nat}
theorem CW (h:Bp N w0 X0 Y β s a w){G:Se}(hNG:EC P G w0 X0)(hcall:∀f args res,call f args=some res->Cr G P f args res)(hnd:OM o=true)(hk:C6 C P N call ops o s K=some r):
  ∃s',K s'=some r∧∀(next:Act->World->Prop) (Q:Exit->Act->World->Prop),(∀a' w' β',Bp N w0 X0 Y β' s' a' w'->next a' w') ->
   if Region.wanted o (yielded ops a.tmps) then o.wpIn (WF ro) n P a w next Q else (∀f,o.about P w a.eval=some f->(WF ro).fn f)∧next (a.put o.dst undef) w:=by
 rw [EI] at hk
 have hw:∀b,Fk ops o s.tm=some b->Region.wanted o (yielded ops a.tmps)=b:=by
  intro b hb;unfold Fk at hb;unfold Region.wanted;cases hg:o.guard with
  |none=>rw [hg] at hb;simpa using hb
  |some q=>
   obtain ⟨j,want⟩:=q;rw [hg] at hb;simp only at hb ⊢;cases hd:(ops[j]?).bind (·.dst) with
   |none=>rw [hd] at hb;cases hb
   |some d=>
    rw [hd] at hb;simp only at hb;split at hb
    ·rename_i b' ht;rw [Re h hd ht];simp at hb;rw [←hb];cases b'<;>cases want<;>rfl
    ·rename_i ht;rw [Re h hd ht];simp at hb;rw [hb];rfl
    ·cases hb
 split at hk
 ·cases hk
 ·rename_i hv;obtain ⟨s',hs',hn⟩:=ID h hNG hcall hk;refine ⟨s',hs',fun next Q hnext=>?_⟩
  simp only [hw _ hv,if_true];exact Y4 hnd (hn next Q hnext)
 ·rename_i hv;obtain ⟨hd,hk⟩:=Am hk;refine ⟨_,hk,fun next Q hnext=>?_⟩
  simp only [hw _ hv];exact ⟨fun _ _=>trivial,hnext _ _ β (h.put hd (Av.sc _) (by simp [Bo,B3,Aq]))⟩
theorem Vj {G:Se}(hNG:EC P G w0 X0)(hcall:∀f args res,call f args=some res->Cr G P f args res){Q:Exit->Act->World->Prop}(hQ:∀s' a' w' β',K s'=some r->Bp N w0 X0 Y β' s' a' w'->Q .normal a' w'):
  ∀(li:List Nat) (os:List Oper),li.length=os.length->(∀(k i:Nat),li[k]?=some i->ops[i]?=os[k]?)->os.all OM=true->∀{s:St} {a:Act} {w:World} {β:Bt},Bp N w0 X0 Y β s a w->Li C P N call ops os s K=some r->wpOpsIn (WF ro) n P ops Q li a w
 |[],[],_,_,_,s,a,w,β,h,hk=>by
  show Q .normal a w;exact hQ s a w β hk h
 |[],_::_,hl,_,_,_,_,_,_,_,_=>by cases hl
 |_::_,[],hl,_,_,_,_,_,_,_,_=>by cases hl
 |i::li,o::os,hl,hi,hnd,s,a,w,β,h,hk=>by
  obtain ⟨s1,hk,h⟩:=Rs h hk;rw [List.all_cons,Bool.and_eq_true] at hnd;have hio:ops[i]?=some o:=by simpa using hi 0 i rfl
  obtain ⟨s',hs',hn⟩:=CW (ro:=ro) (n:=n) h hNG hcall hnd.1 hk;unfold wpOpsIn;rw [hio];exact hn _ _ fun a' w' β' h'=>Vj hNG hcall hQ li os (by simpa using hl) (fun k j hj=>by simpa using hi (k+1) j (by simpa using hj)) hnd.2 h' hs'
theorem BG {c:Code}{Q:Exit->Act->World->Prop}{F:(St->Option R)->St->Option R} {nm:St->(St->Option R)->Option R}
  (hnm:∀{β s a w} {K:St->Option R},Bp N w0 X0 Y β s a w->nm s K=some r->∃β' s',K s'=some r∧Bp N w0 X0 Y β' s' a w)
  (hF:∀{β s a w} {K:St->Option R}{Q':Act->World->Prop},Bp N w0 X0 Y β s a w->F K s=some r->(∀s' a' w' β',K s'=some r->Bp N w0 X0 Y β' s' a' w'->Q' a' w')->c.wpIn (WF ro) n P (Exit.then Q' Q) a w):
  ∀(m:Nat) {β s a w},Bp N w0 X0 Y β s a w->QL F nm m s=some r->Code.roundsIn (WF ro) n P c Q m a w
 |0,_,_,_,_,_,hk=>by cases hk
 |m+1,β,s,a,w,h,hk=>by
  rw [roundsIn_succ];refine hF h hk fun s' a' w' β' hk' h'=>?_
  obtain ⟨β1,s1,hk1,h1⟩:=hnm h' hk';exact BG hnm hF m h1 hk1
theorem QK {G:Se}(hNG:EC P G w0 X0)(hcall:∀f args res,call f args=some res->Cr G P f args res)(hm:P.follows .mixedOrders=true){fu:Nat}:
  ∀(c:Code),okR c=true->∀{ln:Nat} {lx:Nat->Nat} {lr:Nat} {kn:St->Option R} {kx:Nat->St->Option R} {kr:St->Option R} {β:Bt} {s:St} {a:Act} {w:World} {Q:Exit->Act->World->Prop},(∀a w,¬Q .outgrown a w)->Bp N w0 X0 Y β s a w ->
   I7 C P fu N call c ln lx lr kn kx kr s=some r->(∀s' a' w' β',kn s'=some r->Bp N w0 X0 Y β' s' a' w'->Q .normal a' w') ->
   (∀id s' a' w' β',kx id s'=some r->Bp N w0 X0 Y β' s' a' w'->Q (.exit id) a' w')->(∀s' a' w' β',kr s'=some r->Bp N w0 X0 Y β' s' a' w'->Q .ret a' w')->c.wpIn (WF ro) n P Q a w:=by
 intro c
 induction c with
 |skip=>intro _ ln lx lr kn kx kr β s a w Q hQo h hk hn hx hr;exact wpIn_skip (hn s a w β hk h)
 |region id ops draw=>
  intro ho ln lx lr kn kx kr β s a w Q hQo h hk hn hx hr;unfold okR at ho;unfold I7 at hk;cases draw
  ·simp only [JO,Bool.false_and,cond_false] at hk;refine wpIn_region (Vj hNG hcall hn (List.range ops.size) ops.toList (by simp) (fun k i hi=>?_) ho h hk)
   rw [List.getElem?_range] at hi
   ·simp at hi;subst hi;simp
   ·rcases Nat.lt_or_ge k ops.size with h'|h'
    ·exact h'
    ·rw [List.getElem?_eq_none (by simpa using h')] at hi;cases hi
  ·have hLo:¬LetsOut Q:=fun ⟨a,w,q⟩=>hQo a w q
   simp only [JO,Ad5,Bool.true_and,cond_true] at hk;cases hb:FH C P ops<;>rw [hb] at hk
   ·obtain ⟨hb',hk1⟩:=Am (show Ao _ _=some r from hk)
    exact wpIn_region_any hm (Pj hLo ho _ _ _ _ (Rx h hNG hcall hm hb' hk1 hn))
   ·exact wpIn_region_any hm (Pj hLo ho _ _ _ _ (Qg h hNG hcall hm hb hk hn))
 |seq c1 c2 ih1 ih2=>
  intro ho ln lx lr kn kx kr β s a w Q hQo h hk hn hx hr;unfold okR at ho;rw [Bool.and_eq_true] at ho;unfold I7 at hk
  refine wpIn_seq (ih1 ho.1 (fun a w=>hQo a w) h hk (fun s' a' w' β' hk' h'=>by
    cases hc:YE P c1 c2
    ·rw [hc] at hk';exact ih2 ho.2 hQo h' hk' hn hx hr
    ·rw [hc] at hk';cases hq:Xm c1 c2
     ·rw [hq] at hk';obtain ⟨β1,s1,hk1,h1⟩:=Cz h' (show Jh _ _ _ _=some r from hk')
      exact ih2 ho.2 hQo h1 (Uf hk1) hn hx hr
     ·rw [hq] at hk';obtain ⟨β1,s1,hk1,h1⟩:=CD h' (show SY _ _ _ _=some r from hk')
      exact ih2 ho.2 hQo h1 (Uf hk1) hn hx hr) (fun id s' a' w' β' hk' h'=>hx id s' a' w' β' hk' h') (fun s' a' w' β' hk' h'=>hr s' a' w' β' hk' h'))
 |cond c c1 c2 ih1 ih2=>
  intro ho ln lx lr kn kx kr β s a w Q hQo h hk hn hx hr;unfold okR at ho;rw [Bool.and_eq_true] at ho;unfold I7 at hk;rcases BU h hk with ⟨hc,hk1⟩|⟨hc,hk1⟩
  ·exact wpIn_cond_true hc (ih1 ho.1 hQo h hk1 hn hx hr)
  ·exact wpIn_cond_false hc (ih2 ho.2 hQo h hk1 hn hx hr)
 |block id c ih=>
  intro ho ln lx lr kn kx kr β s a w Q hQo h hk hn hx hr;unfold okR at ho;unfold I7 at hk;refine wpIn_block (ih ho (fun a w=>hQo a w) h hk (fun s' a' w' β' hk' h'=>hn s' a' w' β' hk' h') (fun j s' a' w' β' hk' h'=>?_) (fun s' a' w' β' hk' h'=>hr s' a' w' β' hk' h'))
  show (if j=id then _ else _)
  by_cases e:j=id
  ·subst e;rw [Cc rfl];rw [Nat.beq_refl] at hk';exact hn s' a' w' β' hk' h'
  ·rw [A9 e]
   have:Nat.beq j id=false:=by
    cases hb:Nat.beq j id
    ·rfl
    ·exact absurd (Nat.eq_of_beq_eq_true hb) e
   rw [this] at hk';exact hx j s' a' w' β' hk' h'
 |loop c ih=>
  intro ho ln lx lr kn kx kr β s a w Q hQo h hk hn hx hr;unfold okR at ho;unfold I7 at hk;obtain ⟨β1,s1,hk1,h1⟩:=Cz h hk;refine wpIn_loop_rounds fu (BG (fun h hk=>Cz h hk) (fun h hk hQ=>?_) fu h1 hk1)
  exact ih ho (fun a w=>hQo a w) h hk hQ (fun id s' a' w' β' hk' h'=>hx id s' a' w' β' hk' h') (fun s' a' w' β' hk' h'=>hr s' a' w' β' hk' h')
 |«exit» id=>intro _ ln lx lr kn kx kr β s a w Q hQo h hk hn hx hr;exact wpIn_exit (hx id s a w β hk h)
 |ret=>intro _ ln lx lr kn kx kr β s a w Q hQo h hk hn hx hr;exact wpIn_ret (hr s a w β hk h)
 |_=>intro ho;cases ho
end
end
section
open Go.IntKind (wrap)
open Go Go.RowKit
theorem Mb:∀(l:List (Nat × PV)) (i:Nat),lk l i=.top∨∃q∈l,q.1=i∧lk l i=q.2
 |[],_=>.inl rfl
 |(j,p)::l,i=>by
  by_cases e:i=j
  ·subst e;refine .inr ⟨(i,p),by simp,rfl,?_⟩
   simp [lk,Nat.beq_refl]
  ·have hb:Nat.beq i j=false:=by
    cases h:Nat.beq i j
    ·rfl
    ·exact absurd (Nat.eq_of_beq_eq_true h) e
   have hb':Nat.beq j i=false:=by
    cases h:Nat.beq j i
    ·rfl
    ·exact absurd (Nat.eq_of_beq_eq_true h).symm e
   have h1:lk ((j,p)::l) i=lk l i:=by simp [lk,hb,hb']
   rw [h1];rcases Mb l i with h|⟨q,hq,h2,h3⟩
   ·exact .inl h
   ·exact .inr ⟨q,List.mem_cons_of_mem _ hq,h2,h3⟩
theorem Ql:∀(l:List (Nat × Bj)) (i:Nat),Bz l i=none∨∃q∈l,q.1=i∧Bz l i=some q.2
 |[],_=>.inl rfl
 |(j,p)::l,i=>by
  by_cases e:i=j
  ·subst e;refine .inr ⟨(i,p),by simp,rfl,?_⟩
   simp [Bz,Nat.beq_refl]
  ·have hb:Nat.beq i j=false:=by
    cases h:Nat.beq i j
    ·rfl
    ·exact absurd (Nat.eq_of_beq_eq_true h) e
   have hb':Nat.beq j i=false:=by
    cases h:Nat.beq j i
    ·rfl
    ·exact absurd (Nat.eq_of_beq_eq_true h).symm e
   have h1:Bz ((j,p)::l) i=Bz l i:=by simp [Bz,hb,hb']
   rw [h1];rcases Ql l i with h|⟨q,hq,h2,h3⟩
   ·exact .inl h
   ·exact .inr ⟨q,List.mem_cons_of_mem _ hq,h2,h3⟩
theorem Aaf {P:Program}{a:Act}{w:World}{o:Oper}{c:Call}{t l:Nat}(ho:o.op=.call c)(hc:c.callee=.value (.tmp t)) (ht:a.eval (.tmp t)=.func (.yield l) #[] #[]) {r:Result Next}(hy:(Instr.yield l (c.args.map a.eval)).run P w=r):
  (execOp a.eval o).run P w=r:=by
 unfold execOp;rw [ho];simp [resolve,hc,ht,Deferred.ofValue,invoke,hy]
section
variable {P:Program} {C:Gi} {N:Nat} {call:Ah} {w0:World} {X0:Ef} {Y:Nat->Prop} {R:Type} {r:R} {β:Bt} {s:St} {a:Act} {w:World} {o:Oper} {ops:Array Oper} {K:St->Option R} {ro:Option Nat} {n:Nat}
theorem Bp.part (h:Bp N w0 X0 Y β s a w)(tm':Nat->PV)(hp':Nat->Option Bj)(ht:∀i,tm' i=.top∨tm' i=s.tm i)(hh:∀id,hp' id=none∨hp' id=s.hp id)
  (hw:∀i,i<N->∀id∈Bo (tm' i),hp' id≠none) (hwB:∀id cells,hp' id=some (.st cells)->∀c∈cells,∀id'∈Aq c,hp' id'≠none) (hpin:∀i,X0.pn i->hp' (Cm N i)≠none):Bp N w0 X0 Y β ⟨tm',hp'⟩ a w:=by
 have hX:∀b,Yj hp' β b->Yj s.hp β b:=by
  rintro b ⟨id,o,h1,h2⟩
  rcases hh id with e|e
  ·rw [e] at h1;exact h1.elim
  ·rw [e] at h1;exact ⟨id,o,h1,h2⟩
 have hA:∀b,Ci hp' β Y b->Ci s.hp β Y b:=fun b hb=>hb.elim (fun x=>.inl (hX b x)) .inr
 have hs:∀{id bx},hp' id=some bx->s.hp id=some bx:=by
  intro id bx e;rcases hh id with e'|e'
  ·rw [e'] at e;cases e
  ·rw [←e'];exact e
 have hn:∀{id},hp' id≠none->s.hp id≠none:=by
  intro id e;rcases hh id with e'|e'
  ·exact absurd e' e
  ·rw [←e'];exact e
 have hl:∀{id},B4 (hp' id)->B4 (s.hp id):=by
  intro id e;rcases hh id with e'|e'
  ·rw [e'] at e;exact e.elim
  ·rw [←e'];exact e
 have hst:Bv (Ci s.hp β Y) w w:=⟨Nat.le_refl _,fun _ _ _=>rfl,fun _ _=>Nat.le_refl _⟩
 refine ⟨h.dfr,h.tsz,fun i hi=>?_,fun i hi=>?_,fun id bx hbx=>?_,fun id id' b o o' h1 h2=>h.inj id id' b o o' (hl h1) (hl h2),fun id b o h1 h2=>h.blt id b o (hn h1) h2,hw,hwB,fun b hb=>h.ownd b (hX b hb),fun id bx b o h1 h2 h3 h4=>h.rngB id bx b o (hs h1) h2 h3 h4,
  fun i hi=>⟨hpin i hi,(h.pin i hi).2⟩,fun id c b o h1=>h.stp id c b o (hs h1),fun b hy hx=>h.Yx b hy (hX b hx),h.Ylt,h.fr⟩
 ·rcases ht i with e|e
  ·exact e
  ·exact e.trans (h.tmo i hi)
 ·show C9 w (Ci hp' β Y) β (tm' i) _;rcases ht i with e|e
  ·rw [e];exact Av.top _
  ·rw [e];exact (h.tms i hi).step hst (fun b _=>hA b) fun _ _=>rfl
 ·have h0:=h.box id bx (hs hbx);exact h0.step' hA
theorem Bp.pick (h:Bp N w0 X0 Y β s a w)(l:List (Nat × PV)) (bl:List (Nat × Bj)) (hl:∀q∈l,q.2=s.tm q.1)(hb:∀q∈bl,some q.2=s.hp q.1)
  (hw:∀q∈l,∀id∈Bo q.2,Bz bl id≠none)(hwB:∀q∈bl,∀cells,q.2=.st cells->∀c∈cells,∀id'∈Aq c,Bz bl id'≠none)(hpin:∀i,X0.pn i->Bz bl (Cm N i)≠none):Bp N w0 X0 Y β ⟨lk l,Bz bl⟩ a w:=by
 refine h.part (lk l) (Bz bl) (fun i=>?_) (fun id=>?_) (fun i _ id hid=>?_) (fun id cells e=>?_) hpin
 ·rcases Mb l i with e|⟨q,hq,h1,h2⟩
  ·exact .inl e
  ·exact .inr (by rw [h2,hl q hq,h1])
 ·rcases Ql bl id with e|⟨q,hq,h1,h2⟩
  ·exact .inl e
  ·exact .inr (by rw [h2,hb q hq,h1])
 ·rcases Mb l i with e|⟨q,hq,h1,h2⟩
  ·rw [e] at hid;simp [Bo,B3,Aq] at hid
  ·rw [h2] at hid;exact hw q hq id hid
 ·rcases Ql bl id with e'|⟨q,hq,h1,h2⟩
  ·rw [e'] at e;cases e
  ·rw [h2] at e;exact hwB q hq cells (by injection e)
theorem Kf {G:Se}(hNG:EC P G w0 X0)(hcall:∀f args res,call f args=some res->Cr G P f args res){Q:Exit->Act->World->Prop}{rest:List Nat}(hQ:∀s' a' w' β',K s'=some r->Bp N w0 X0 Y β' s' a' w'->wpOpsIn (WF ro) n P ops Q rest a' w'):
  ∀(li:List Nat) (os:List Oper),li.length=os.length->(∀(k i:Nat),li[k]?=some i->ops[i]?=os[k]?)->os.all OM=true->∀{s:St} {a:Act} {w:World} {β:Bt},Bp N w0 X0 Y β s a w->Li C P N call ops os s K=some r->wpOpsIn (WF ro) n P ops Q (li++rest) a w
 |[],[],_,_,_,s,a,w,β,h,hk=>hQ s a w β hk h
 |[],_::_,hl,_,_,_,_,_,_,_,_=>by cases hl
 |_::_,[],hl,_,_,_,_,_,_,_,_=>by cases hl
 |i::li,o::os,hl,hi,hnd,s,a,w,β,h,hk=>by
  obtain ⟨s1,hk,h⟩:=Rs h hk;rw [List.all_cons,Bool.and_eq_true] at hnd;have hio:ops[i]?=some o:=by simpa using hi 0 i rfl
  obtain ⟨s',hs',hn⟩:=CW (ro:=ro) (n:=n) h hNG hcall hnd.1 hk;rw [List.cons_append];unfold wpOpsIn;rw [hio];exact hn _ _ fun a' w' β' h'=>Kf hNG hcall hQ li os (by simpa using hl) (fun k j hj=>by simpa using hi (k+1) j (by simpa using hj)) hnd.2 h' hs'
end
end
section
open Go.IntKind (wrap)
open Go Go.RowKit
abbrev Q8 (ds:List Deferred)(a:Act):Act:={ a with defers:=a.defers++ds }
def TD (ds:List Deferred)(Q:Exit->Act->World->Prop):Exit->Act->World->Prop:=fun e a w=>∃a0:Act,a=Q8 ds a0∧Q e a0 w
section
variable {P:Program} {ops:Array Oper} {Q:Exit->Act->World->Prop} {ro:Option Nat} {n:Nat} {ds:List Deferred}
theorem Mz (a:Act)(d:Option Tmp)(v:Value):(Q8 ds a).put d v=Q8 ds (a.put d v):=by cases d<;>rfl
theorem Af1 (h:LetsOut Q):LetsOut (TD ds Q):=let ⟨a,w,q⟩:=h;⟨_,w,a,rfl,q⟩
theorem Abq {o:Oper}{a:Act}{w:World}{K K':Act->World->Prop}(hK:∀a w,K a w->K' (Q8 ds a) w) (h:o.wpIn (WF ro) n P a w K Q):o.wpIn (WF ro) n P (Q8 ds a) w K' (TD ds Q):=by
 refine ⟨fun _ _=>trivial,?_⟩
 have h:=h.2;show o.uponIn _ _ _ _ _ _ ((o.semAt (WF ro).round a.eval).run P w);generalize (o.semAt (WF ro).round a.eval).run P w=q at h;cases q with
 |halt x w'=>cases x<;>first|exact ⟨a,rfl,h⟩|exact h.elim
 |ok v w'=>
  cases v with
  |value v=>show K' ((Q8 ds a).put o.dst v) w';rw [Mz];exact hK _ _ h
  |skip=>show K' ((Q8 ds a).put o.dst undef) w';rw [Mz];exact hK _ _ h
  |defer d=>
   show K' (({ (Q8 ds a) with defers:=d::(Q8 ds a).defers }:Act).put o.dst undef) w';rw [show ({ (Q8 ds a) with defers:=d::(Q8 ds a).defers }:Act)=Q8 ds { a with defers:=d::a.defers } from rfl,Mz]
   exact hK _ _ h
  |enter f args=>
   refine ⟨h.1,h.2.mono ?_⟩;intro e w'' he;cases e with
   |returned v=>show K' ((Q8 ds a).put o.dst v) w'';rw [Mz];exact hK _ _ he
   |panicked c=>exact ⟨a,rfl,he⟩
   |outgrown=>exact Af1 he
  |row row args=>
   refine ⟨h.1,h.2.mono ?_⟩;intro v w'' he;show K' ((Q8 ds a).put o.dst v) w'';rw [Mz];exact hK _ _ he
  |round l f tmps assign body=>
   refine ⟨h.1,h.2.mono ?_⟩;intro e w'' he;cases e with
   |returned v=>show K' ((Q8 ds a).put o.dst v) w'';rw [Mz];exact hK _ _ he
   |panicked c=>exact ⟨a,rfl,he⟩
   |outgrown=>exact Af1 he
  |_=>exact h.elim
theorem Ra:∀(li:List Nat){a:Act}{w:World},wpOpsIn (WF ro) n P ops Q li a w->wpOpsIn (WF ro) n P ops (TD ds Q) li (Q8 ds a) w
 |[],a,w,h=>⟨a,rfl,h⟩
 |i::li,a,w,h=>by
  rw [wpOpsIn_cons] at h ⊢;unfold wpOpIn at h ⊢;cases ho:ops[i]? with
  |none=>rw [ho] at h;exact Ra li h
  |some o=>
   rw [ho] at h;simp only at h ⊢;by_cases hw:Region.wanted o (yielded ops a.tmps)=true
   ·rw [Cc hw] at h ⊢;exact Abq (fun a w=>Ra li) h
   ·rw [A9 hw] at h ⊢;refine ⟨fun _ _=>trivial,?_⟩
    rw [Mz];exact Ra li h.2
end
structure WD (w w':World):Prop where
 os:w'.os=w.os
 tape:w'.tape=w.tape
 output:w'.output=w.output
 size:w'.heap.size=w.heap.size
 cell:∀a,w'.cell? a=w.cell? a
 frz:∀a,w'.frozen? a=w.frozen? a
 bs:∀b,bsz w' b=bsz w b
theorem Av.same {w w':World}{A:Nat->Prop}(h:WD w w'){p:PV}{v:Value}(t:Av w A p v):Av w' A p v:=by
 induction t with
 |sc v=>exact .sc v
 |top v=>exact .top v
 |ub b=>exact .ub b
 |lnil z es=>exact .lnil z es
 |lemp es a cap=>exact .lemp es a cap
 |lst es n cells a cap f hs hb hA1 hn hc h1 hr ih=>exact .lst es n cells a cap f hs (by rw [h.size];exact hb) hA1 hn (fun j c hj=>by rw [h.cell];exact hc j c hj) h1 (fun j c hj=>ih j c hj)
theorem LO.same {w w':World}{A:Nat->Prop}(h:WD w w'){a:Addr}{c:List PV}(t:LO w A a c):LO w' A a c:=fun j x hj=>by
 obtain ⟨v,h1,h2,h3⟩:=t j x hj;exact ⟨v,by rw [h.cell];exact h1,h2,h3.same h⟩
theorem Bx.same {w w':World}{A:Nat->Prop}{β:Nat->Option (Nat × Nat)} (h:WD w w'){p:PV}{v:Value}(t:Bx w A β p v):Bx w' A β p v:=by
 cases p with
 |view id es off n=>
  rcases t with t|⟨b,o,x,cap,h1,h2,hx,h3,h4,h5⟩
  ·exact .inl t
  ·exact .inr ⟨b,o,x,cap,h1,h2,hx,h3,by rw [h.bs];exact h4,by rw [h.size];exact h5⟩
 |ptr id off=>exact t
 |iptr c off=>
  obtain ⟨a,h1,h2,h3,h4,h5⟩:=t;exact ⟨a,h1,h2,by rw [h.size];exact h3,h4,h5.same h⟩
 |_=>exact Av.same h t
theorem Bi.imp' {α β:Type}{R S:α->β->Prop}{zs:List α}{bs:List β}(h:Bi R zs bs)(f:∀a b,R a b->S a b):Bi S zs bs:=h.mono f
theorem Fs.same {w w':World}{A:Nat->Prop}{β:Nat->Option (Nat × Nat)} (h:WD w w'){p:PV}{v:Value}(t:Fs w A β p v):Fs w' A β p v:=by
 cases p with
 |agg cs=>obtain ⟨vs,h1,h2⟩:=t;exact ⟨vs,h1,h2.imp' fun _ _=>Bx.same h⟩
 |_=>exact (Rg (by intro cs e;cases e)).2 (Bx.same h ((Rg (by intro cs e;cases e)).1 t))
theorem C9.same {w w':World}{A:Nat->Prop}{β:Nat->Option (Nat × Nat)} (h:WD w w'){p:PV}{v:Value}(t:C9 w A β p v):C9 w' A β p v:=by
 cases p with
 |tup cs=>obtain ⟨vs,h1,h2⟩:=t;exact ⟨vs,h1,h2.imp' fun _ _=>Fs.same h⟩
 |_=>exact (Mj (by intro cs e;cases e)).2 (Fs.same h ((Mj (by intro cs e;cases e)).1 t))
theorem Bp.same {N:Nat}{w0 w w':World}{X0:Ef}{Y:Nat->Prop}{β:Bt}{s:St}{a:Act}(h:Bp N w0 X0 Y β s a w)(hs:WD w w')(h0:∀b,b<w0.heap.size->w'.heap[b]?=w.heap[b]?):Bp N w0 X0 Y β s a w':=by
 refine ⟨h.dfr,h.tsz,h.tmo,fun i hi=>(h.tms i hi).same hs,fun id bx e=>?_,h.inj,fun id b o h1 h2=>by rw [hs.size];exact h.blt id b o h1 h2,h.wfT,h.wfB,h.ownd,h.rngB,h.pin,h.stp,h.Yx,h.Ylt,
  ⟨hs.os.trans h.fr.os,hs.tape.trans h.fr.tape,hs.output.trans h.fr.output,⟨by rw [hs.size];exact h.fr.step.size,fun b hb hn=>(h0 b hb).trans (h.fr.step.keep b hb hn),fun b hb=>by rw [hs.bs];exact h.fr.step.bs b hb⟩,fun b j hb hn=>by rw [hs.cell,hs.frz];exact h.fr.rng b j hb hn⟩⟩
 have h1:=h.box id bx e;cases bx with
 |st c=>
  obtain ⟨b,o,g1,g2,g3⟩:=h1;refine ⟨b,o,g1,fun j c hj=>?_,fun j hj=>by rw [hs.frz];exact g3 j hj⟩
  obtain ⟨v,k1,k2⟩:=g2 j c hj;exact ⟨v,by rw [hs.cell];exact k1,k2.same hs⟩
 |ar fz c=>
  rcases h1 with h1|⟨b,o,g1,g2,g3,g4⟩
  ·exact .inl h1
  ·exact .inr ⟨b,o,g1,g2.same hs,fun hf j hj hjb=>by rw [hs.frz];exact g3 hf j hj (by rw [←hs.bs];exact hjb),g4⟩
 |mv=>trivial
theorem QV {w:World}{D:Nat}{x y:Option (List Deferred)} (h:w.heap[D]?=some (.deferred x)):WD w (w.putObj D (.deferred y)):=by
 have hD:D<w.heap.size:=(Array.getElem?_eq_some_iff.1 h).1;have hs:(w.putObj D (.deferred y)).heap[D]?=some (.deferred y):=World.putObj_heap_same hD;refine ⟨rfl,rfl,rfl,by simp,fun a=>?_,fun a=>?_,fun b=>?_⟩
 ·by_cases e:a.block=D
  ·unfold World.cell?;rw [e,hs,h]
  ·exact World.cell?_of_block (World.putObj_heap_other e)
 ·by_cases e:a.block=D
  ·unfold World.frozen?;rw [e,hs,h]
  ·unfold World.frozen?;rw [World.putObj_heap_other e]
 ·by_cases e:b=D
  ·subst e;unfold bsz;rw [hs,h]
  ·unfold bsz;rw [World.putObj_heap_other e]
end
section
open Go.IntKind (wrap)
open Go Go.RowKit
def sL:Code->Code
 |.seq a _=>a
 |c=>c
def sR:Code->Code
 |.seq _ b=>b
 |c=>c
def sB:Code->Code
 |.block _ c=>c
 |.loop c=>c
 |c=>c
def sF:Code->Code
 |.rangeFunc _ _ _ b=>b
 |c=>c
def sA:Code->Code
 |.rangeFunc _ _ a _=>a
 |c=>c
def Ku:Code->Array Oper
 |.region _ ops _=>ops
 |_=> #[]
noncomputable abbrev Wv:Code:=B9 Tryd.f53
noncomputable abbrev IB:Code:=B9 Tryd.f15
def CS:Gi:={ CB with shr:=fun _=>true }
noncomputable abbrev LZ (N:Nat)(call:Ah)(c:Code)(L:Nat)(s:St):Option (Nat × St):=
 I7 CB Tryd.prog 2000 N call c L (fun _=>L) 0 (fun s=>Jh N L s fun s'=>some (0,s')) (fun id s=>Jh N L s fun s'=>some (id+1,s')) (fun _=>none) s
section
variable {N:Nat} {w0:World} {X0:Ef} {Y:Nat->Prop} {β:Bt} {s s1:St} {a:Act} {w:World}
theorem Dk {G:Se}(hNG:EC Tryd.prog G w0 X0)(hm:Tryd.prog.follows .mixedOrders=true){call:Ah}(hcall:∀f args res,call f args=some res->Cr G Tryd.prog f args res){c:Code}{L t:Nat}{Q:Exit->Act->World->Prop}(h:Bp N w0 X0 Y β s a w)
  (hk:LZ N call c L s=some (t,s1)) (hQ:∀a' w' β',Bp N w0 X0 Y β' s1 a' w'->match t with|0=>Q .normal a' w'|id+1=>Q (.exit id) a' w'):c.wp Tryd.prog Q a w:=by
 refine GF hNG hcall hm c h hk (fun s' a' w' β' h1 h2=>?_) (fun id s' a' w' β' h1 h2=>?_) (fun s' a' w' β' h1 h2=>by cases h1)
 ·obtain ⟨β1,s2,h3,h4⟩:=Cz h2 h1;cases h3;exact hQ _ _ _ h4
 ·obtain ⟨β1,s2,h3,h4⟩:=Cz h2 h1;cases h3;exact hQ _ _ _ h4
theorem ES {G:Se}(hNG:EC Tryd.prog G w0 X0)(hm:Tryd.prog.follows .mixedOrders=true){call:Ah}(hcall:∀f args res,call f args=some res->Cr G Tryd.prog f args res){ro:Option Nat}{n:Nat}{c:Code}(ho:okR c=true){L t:Nat}{Q:Exit->Act->World->Prop}(hQo:∀a w,¬Q .outgrown a w)(h:Bp N w0 X0 Y β s a w)
  (hk:LZ N call c L s=some (t,s1)) (hQ:∀a' w' β',Bp N w0 X0 Y β' s1 a' w'->match t with|0=>Q .normal a' w'|id+1=>Q (.exit id) a' w'):c.wpIn (WF ro) n Tryd.prog Q a w:=by
 refine QK hNG hcall hm c ho hQo h hk (fun s' a' w' β' h1 h2=>?_) (fun id s' a' w' β' h1 h2=>?_) (fun s' a' w' β' h1 h2=>by cases h1)
 ·obtain ⟨β1,s2,h3,h4⟩:=Cz h2 h1;cases h3;exact hQ _ _ _ h4
 ·obtain ⟨β1,s2,h3,h4⟩:=Cz h2 h1;cases h3;exact hQ _ _ _ h4
end
end
section
open Go.IntKind (wrap)
set_option maxRecDepth 100000
theorem Ajf (call:Ah)(yv:Value)(h seed:Int):LZ 63 call (sL Wv) 23 ⟨lk [(0,.sc yv),(1,.iptr [.sc (.int .i64 h)] 0),(2,.iptr [.sc (.int .u64 seed)] 0)],Bz []⟩=(
 Ao (decide ((0:Int)<=h)) <|
 Aa (Gr IntKind.i64 (1:Int) h) fun x1=>
 Ao (decide ((0:Int)<=x1)&&decide (x1<=x1)&&decide (x1*(8:Int)<=(1099511627776:Int))&&decide (x1<=(1099511627776:Int))) <|
 some (0,⟨lk [(0,(.sc (yv))),(1,(.iptr ([PV.sc (Value.int IntKind.i64 h)]) ((0:Nat)))),(2,(.iptr ([PV.sc (Value.int IntKind.u64 seed)]) ((0:Nat)))),(4,(.view 4 1 0 (Int.toNat x1)))],Bz [(4,(.ar false (Qv (Int.toNat x1) [PV.sc (Value.int IntKind.u64 (0:Int))])))]⟩)):=by kernel_rfl
theorem Akd (call:Ah)(yv:Value)(h seed:Int)(n:Nat)(c:List PV):LZ 63 call (sL (sL (sR Wv))) 24599 ⟨lk [(0,.sc yv),(1,.iptr [.sc (.int .i64 h)] 0),(2,.iptr [.sc (.int .u64 seed)] 0),(4,.view 4 1 0 n)],Bz [(4,.ar false c)]⟩=(
 some (0,⟨lk [(0,(.sc (yv))),(1,(.iptr ([PV.sc (Value.int IntKind.i64 h)]) ((0:Nat)))),(2,(.iptr ([PV.sc (Value.int IntKind.u64 seed)]) ((0:Nat)))),(4,(.view 4 1 0 (n))),(13,(.sc (.int .i64 ((↑n:Int))))),(14,(.sc (.int .i64 ((0:Int)))))],Bz [(4,(.ar false (c)))]⟩)):=by kernel_rfl
theorem Afi (call:Ah)(yv:Value)(h seed m i:Int)(n:Nat)(c:List PV):LZ 63 call (sB (sB (sR (sL (sR Wv))))) 24599 ⟨lk [(0,.sc yv),(1,.iptr [.sc (.int .i64 h)] 0),(2,.iptr [.sc (.int .u64 seed)] 0),(4,.view 4 1 0 n),(13,.sc (.int .i64 m)),(14,.sc (.int .i64 i))],Bz [(4,.ar false c)]⟩=(
  Bc (decide (i<m))
   (
   Ai (call (54:Nat) [PV.sc (Value.int IntKind.u64 seed),PV.sc (Value.int IntKind.i64 i)]) fun x1 x2=>
   Ac (x2) <|
   Ab (x1) fun x3 x4=>
   Ad (IntKind.u64) (x3) fun x5=>
   Ac (x4) <|
   Ao (decide ((0:Int)<=i)&&decide (i<(↑n:Int))) <|
   Ao (decide ((0:Nat)+Int.toNat i*(1:Nat)+(1:Nat)<=List.length c)) <|
   Aa (Bd c [PV.sc (Value.int IntKind.u64 x5)] ((0:Nat)+Int.toNat i*(1:Nat))) fun x6=>
   Aa (wrap IntKind.i64 (i+(1:Int))) fun x7=>
   some (0,⟨lk [(0,(.sc (yv))),(1,(.iptr ([PV.sc (Value.int IntKind.i64 h)]) ((0:Nat)))),(2,(.iptr ([PV.sc (Value.int IntKind.u64 seed)]) ((0:Nat)))),(4,(.view 4 1 0 (n))),(13,(.sc (.int .i64 (m)))),(14,(.sc (.int .i64 (x7))))],Bz [(4,(.ar false (x6)))]⟩))
   (
   some (1,⟨lk [(0,(.sc (yv))),(1,(.iptr ([PV.sc (Value.int IntKind.i64 h)]) ((0:Nat)))),(2,(.iptr ([PV.sc (Value.int IntKind.u64 seed)]) ((0:Nat)))),(4,(.view 4 1 0 (n))),(13,(.sc (.int .i64 (m)))),(14,(.sc (.int .i64 (i))))],Bz [(4,(.ar false (c)))]⟩))):=by kernel_rfl
theorem Aj4 (call:Ah)(yv:Value)(h seed m i:Int)(n:Nat)(c:List PV):LZ 63 call (sL (sR (sR Wv))) 87 ⟨lk [(0,.sc yv),(1,.iptr [.sc (.int .i64 h)] 0),(2,.iptr [.sc (.int .u64 seed)] 0),(4,.view 4 1 0 n),(13,.sc (.int .i64 m)),(14,.sc (.int .i64 i))],Bz [(4,.ar false c)]⟩=(
 some (0,⟨lk [(0,(.sc (yv))),(1,(.iptr ([PV.sc (Value.int IntKind.i64 h)]) ((0:Nat)))),(2,(.iptr ([PV.sc (Value.int IntKind.u64 seed)]) ((0:Nat)))),(4,(.view 4 1 0 (n))),(6,(.sc (.int .i64 ((0:Int)))))],Bz [(4,(.ar false (c)))]⟩)):=by kernel_rfl
theorem Ajs (call:Ah)(yv:Value)(h seed k:Int)(n:Nat)(c:List PV):LZ 63 call (sL (sB (sL (sR (sB (sB (sR (sR (sR Wv))))))))) 215 ⟨lk [(0,.sc yv),(1,.iptr [.sc (.int .i64 h)] 0),(2,.iptr [.sc (.int .u64 seed)] 0),(4,.view 4 1 0 n),(6,.sc (.int .i64 k))],Bz [(4,.ar false c)]⟩=(
 Aa (wrap IntKind.i64 (Int.tdiv (↑n:Int) (2:Int))) fun x1=>
 Ao (decide ((0:Int)<=x1)&&decide (x1<=x1)&&decide (x1*(8:Int)<=(1099511627776:Int))&&decide (x1<=(1099511627776:Int))) <|
 some (0,⟨lk [(0,(.sc (yv))),(1,(.iptr ([PV.sc (Value.int IntKind.i64 h)]) ((0:Nat)))),(2,(.iptr ([PV.sc (Value.int IntKind.u64 seed)]) ((0:Nat)))),(4,(.view 4 1 0 (n))),(6,(.sc (.int .i64 (k)))),(7,(.view 7 1 0 (Int.toNat x1)))],Bz [(4,(.ar false (c))),(7,(.ar false (Qv (Int.toNat x1) [PV.sc (Value.int IntKind.u64 (0:Int))])))]⟩)):=by kernel_rfl
theorem Aks (call:Ah)(yv:Value)(h seed k:Int)(n m:Nat)(c e:List PV):LZ 63 call (sL (sL (sR (sB (sL (sR (sB (sB (sR (sR (sR Wv))))))))))) 3298534883543 ⟨lk [(0,.sc yv),(1,.iptr [.sc (.int .i64 h)] 0),(2,.iptr [.sc (.int .u64 seed)] 0),(4,.view 4 1 0 n),(6,.sc (.int .i64 k)),(7,.view 7 1 0 m)],Bz [(4,.ar false c),(7,.ar false e)]⟩=(
 some (0,⟨lk [(0,(.sc (yv))),(1,(.iptr ([PV.sc (Value.int IntKind.i64 h)]) ((0:Nat)))),(2,(.iptr ([PV.sc (Value.int IntKind.u64 seed)]) ((0:Nat)))),(4,(.view 4 1 0 (n))),(6,(.sc (.int .i64 (k)))),(7,(.view 7 1 0 (m))),(40,(.sc (.int .i64 ((↑m:Int))))),(41,(.sc (.int .i64 ((0:Int)))))],Bz [(4,(.ar false (c))),(7,(.ar false (e)))]⟩)):=by kernel_rfl
theorem Afr (call:Ah)(yv:Value)(h seed k p i:Int)(n m:Nat)(c e:List PV):LZ 63 call (sB (sB (sR (sL (sR (sB (sL (sR (sB (sB (sR (sR (sR Wv))))))))))))) 3298534883543 ⟨lk [(0,.sc yv),(1,.iptr [.sc (.int .i64 h)] 0),(2,.iptr [.sc (.int .u64 seed)] 0),(4,.view 4 1 0 n),(6,.sc (.int .i64 k)),(7,.view 7 1 0 m),(40,.sc (.int .i64 p)),(41,.sc (.int .i64 i))],Bz [(4,.ar false c),(7,.ar false e)]⟩=(
  Bc (decide (i<p))
   (
   Aa (wrap IntKind.i64 (k+(1:Int))) fun x1=>
   Aa (wrap IntKind.i64 ((2:Int)*i)) fun x2=>
   Ao (decide ((0:Int)<=x2)&&decide (x2<(↑n:Int))) <|
   Ad (IntKind.u64) (List.getD c ((0:Nat)+Int.toNat x2*(1:Nat)) PV.top) fun x3=>
   Aa (wrap IntKind.i64 ((2:Int)*i)) fun x4=>
   Aa (wrap IntKind.i64 (x4+(1:Int))) fun x5=>
   Ao (decide ((0:Int)<=x5)&&decide (x5<(↑n:Int))) <|
   Ad (IntKind.u64) (List.getD c ((0:Nat)+Int.toNat x5*(1:Nat)) PV.top) fun x6=>
   Ai (call (55:Nat) [PV.sc (Value.int IntKind.i64 x1),PV.sc (Value.int IntKind.u64 x3),PV.sc (Value.int IntKind.u64 x6)]) fun x7 x8=>
   Ac (x8) <|
   Ab (x7) fun x9 Cp=>
   Ad (IntKind.u64) (x9) fun C3=>
   Ac (Cp) <|
   Ao (decide ((0:Int)<=i)&&decide (i<(↑m:Int))) <|
   Ao (decide ((0:Nat)+Int.toNat i*(1:Nat)+(1:Nat)<=List.length e)) <|
   Aa (Bd e [PV.sc (Value.int IntKind.u64 C3)] ((0:Nat)+Int.toNat i*(1:Nat))) fun Dz=>
   Aa (wrap IntKind.i64 (i+(1:Int))) fun Ed=>
   some (0,⟨lk [(0,(.sc (yv))),(1,(.iptr ([PV.sc (Value.int IntKind.i64 h)]) ((0:Nat)))),(2,(.iptr ([PV.sc (Value.int IntKind.u64 seed)]) ((0:Nat)))),(4,(.view 4 1 0 (n))),(6,(.sc (.int .i64 (k)))),(7,(.view 7 1 0 (m))),(40,(.sc (.int .i64 (p)))),(41,(.sc (.int .i64 (Ed))))],Bz [(4,(.ar false (c))),(7,(.ar false (Dz)))]⟩))
   (
   some (5,⟨lk [(0,(.sc (yv))),(1,(.iptr ([PV.sc (Value.int IntKind.i64 h)]) ((0:Nat)))),(2,(.iptr ([PV.sc (Value.int IntKind.u64 seed)]) ((0:Nat)))),(4,(.view 4 1 0 (n))),(6,(.sc (.int .i64 (k)))),(7,(.view 7 1 0 (m))),(40,(.sc (.int .i64 (p)))),(41,(.sc (.int .i64 (i))))],Bz [(4,(.ar false (c))),(7,(.ar false (e)))]⟩))):=by kernel_rfl
theorem Ajo (call:Ah)(yv:Value)(h seed k p i:Int)(n m:Nat)(c e:List PV):LZ 63 call (sR (sR (sB (sL (sR (sB (sB (sR (sR (sR Wv)))))))))) 87 ⟨lk [(0,.sc yv),(1,.iptr [.sc (.int .i64 h)] 0),(2,.iptr [.sc (.int .u64 seed)] 0),(4,.view 4 1 0 n),(6,.sc (.int .i64 k)),(7,.view 7 1 0 m),(40,.sc (.int .i64 p)),(41,.sc (.int .i64 i))],Bz [(4,.ar false c),(7,.ar false e)]⟩=(
 some (0,⟨lk [(0,(.sc (yv))),(1,(.iptr ([PV.sc (Value.int IntKind.i64 h)]) ((0:Nat)))),(2,(.iptr ([PV.sc (Value.int IntKind.u64 seed)]) ((0:Nat)))),(4,(.view 4 1 0 (m))),(6,(.sc (.int .i64 (k))))],Bz [(4,(.ar false (e)))]⟩)):=by kernel_rfl
theorem Akl (call:Ah)(yv:Value)(h seed k:Int)(n:Nat)(c:List PV):LZ 63 call (sR (sR (sB (sB (sR (sR (sR Wv))))))) 87 ⟨lk [(0,.sc yv),(1,.iptr [.sc (.int .i64 h)] 0),(2,.iptr [.sc (.int .u64 seed)] 0),(4,.view 4 1 0 n),(6,.sc (.int .i64 k))],Bz [(4,.ar false c)]⟩=(
 Aa (wrap IntKind.i64 (k+(1:Int))) fun x1=>
 some (0,⟨lk [(0,(.sc (yv))),(1,(.iptr ([PV.sc (Value.int IntKind.i64 h)]) ((0:Nat)))),(2,(.iptr ([PV.sc (Value.int IntKind.u64 seed)]) ((0:Nat)))),(4,(.view 4 1 0 (n))),(6,(.sc (.int .i64 (x1))))],Bz [(4,(.ar false (c)))]⟩)):=by kernel_rfl
theorem Ajq (call:Ah)(yv:Value)(h seed k:Int)(n:Nat)(c:List PV):Li CB Tryd.prog 63 call (Ku (sL (sL (sB (sB (sR (sR (sR Wv)))))))) (List.take 3 (Ku (sL (sL (sB (sB (sR (sR (sR Wv)))))))).toList) ⟨lk [(0,.sc yv),(1,.iptr [.sc (.int .i64 h)] 0),(2,.iptr [.sc (.int .u64 seed)] 0),(4,.view 4 1 0 n),(6,.sc (.int .i64 k))],Bz [(4,.ar false c)]⟩ (fun s=>Jh 63 117440599 s fun s'=>some (0,s'))=(
 some (0,⟨lk [(0,(.sc (yv))),(1,(.iptr ([PV.sc (Value.int IntKind.i64 h)]) ((0:Nat)))),(2,(.iptr ([PV.sc (Value.int IntKind.u64 seed)]) ((0:Nat)))),(4,(.view 4 1 0 (n))),(6,(.sc (.int .i64 (k)))),(24,(.sc (yv))),(25,(.sc (.int .i64 (k)))),(26,(.view 4 1 0 (n)))],Bz [(4,(.ar false (c)))]⟩)):=by kernel_rfl
theorem Agu (call:Ah)(yv:Value)(h seed k:Int)(n:Nat)(c:List PV):Li CB Tryd.prog 63 call (Ku (sL (sL (sB (sB (sR (sR (sR Wv)))))))) (List.drop 4 (Ku (sL (sL (sB (sB (sR (sR (sR Wv)))))))).toList) ⟨lk [(0,.sc yv),(1,.iptr [.sc (.int .i64 h)] 0),(2,.iptr [.sc (.int .u64 seed)] 0),(4,.view 4 1 0 n),(6,.sc (.int .i64 k)),(27,.sc (.bool true))],Bz [(4,.ar false c)]⟩ (fun s=>Jh 63 4294967383 s fun s'=>some (0,s'))=(
 some (0,⟨lk [(0,(.sc (yv))),(1,(.iptr ([PV.sc (Value.int IntKind.i64 h)]) ((0:Nat)))),(2,(.iptr ([PV.sc (Value.int IntKind.u64 seed)]) ((0:Nat)))),(4,(.view 4 1 0 (n))),(6,(.sc (.int .i64 (k)))),(32,(.sc (.bool (decide (k<h)))))],Bz [(4,(.ar false (c)))]⟩)):=by kernel_rfl
theorem Ahn (call:Ah)(yv:Value)(h seed k:Int)(n:Nat)(c:List PV):Li CB Tryd.prog 63 call (Ku (sL (sL (sB (sB (sR (sR (sR Wv)))))))) (List.drop 4 (Ku (sL (sL (sB (sB (sR (sR (sR Wv)))))))).toList) ⟨lk [(0,.sc yv),(1,.iptr [.sc (.int .i64 h)] 0),(2,.iptr [.sc (.int .u64 seed)] 0),(4,.view 4 1 0 n),(6,.sc (.int .i64 k)),(27,.sc (.bool false))],Bz [(4,.ar false c)]⟩ (fun s=>Jh 63 4294967383 s fun s'=>some (0,s'))=(
 some (0,⟨lk [(0,(.sc (yv))),(1,(.iptr ([PV.sc (Value.int IntKind.i64 h)]) ((0:Nat)))),(2,(.iptr ([PV.sc (Value.int IntKind.u64 seed)]) ((0:Nat)))),(4,(.view 4 1 0 (n))),(6,(.sc (.int .i64 (k)))),(32,(.sc (.bool (false))))],Bz [(4,(.ar false (c)))]⟩)):=by kernel_rfl
theorem Ad3 (call:Ah)(yv:Value)(h seed k:Int)(n:Nat)(c:List PV)(q:Bool):LZ 63 call (sR (sL (sB (sB (sR (sR (sR Wv))))))) 87 ⟨lk [(0,.sc yv),(1,.iptr [.sc (.int .i64 h)] 0),(2,.iptr [.sc (.int .u64 seed)] 0),(4,.view 4 1 0 n),(6,.sc (.int .i64 k)),(32,.sc (.bool q))],Bz [(4,.ar false c)]⟩=(
  Bc (q)
   (
   some (0,⟨lk [(0,(.sc (yv))),(1,(.iptr ([PV.sc (Value.int IntKind.i64 h)]) ((0:Nat)))),(2,(.iptr ([PV.sc (Value.int IntKind.u64 seed)]) ((0:Nat)))),(4,(.view 4 1 0 (n))),(6,(.sc (.int .i64 (k))))],Bz [(4,(.ar false (c)))]⟩))
   (
   some (3,⟨lk [(0,(.sc (yv))),(1,(.iptr ([PV.sc (Value.int IntKind.i64 h)]) ((0:Nat)))),(2,(.iptr ([PV.sc (Value.int IntKind.u64 seed)]) ((0:Nat)))),(4,(.view 4 1 0 (n))),(6,(.sc (.int .i64 (k))))],Bz [(4,(.ar false (c)))]⟩))):=by kernel_rfl
theorem Aku (call:Ah)(seed h leaf m:Int):LZ 48 call (sL IB) 873 ⟨lk [(0,.sc (.int .u64 seed)),(1,.sc (.int .i64 h)),(2,.sc (.int .i64 leaf)),(3,.sc (.int .u64 m))],Bz []⟩=(
 some (0,⟨lk [(0,(.sc (.int .u64 (seed)))),(3,(.sc (.int .u64 (m)))),(5,(.ptr 5 0)),(6,(.ptr 6 0)),(8,(.ptr 8 0)),(9,(.sc (.int .i64 ((0:Int)))))],Bz [(5,(.st [(.sc (.int .i64 (h)))])),(6,(.st [(.sc (.int .i64 (leaf)))])),(8,(.st [(.sc (.int .i64 ((0:Int)))),(.view 104 1 0 ((0:Nat))),(.view 152 1 0 ((0:Nat)))])),(104,(.ar false ([]))),(152,(.ar false ([])))]⟩)):=by kernel_rfl
theorem Ai8 (call:Ah)(seed h leaf m:Int):LZ 48 call (sL (sR IB)) 873 ⟨lk [(0,.sc (.int .u64 seed)),(3,.sc (.int .u64 m)),(5,.ptr 5 0),(6,.ptr 6 0),(8,.ptr 8 0),(9,.sc (.int .i64 0))],Bz [(5,.st [.sc (.int .i64 h)]),(6,.st [.sc (.int .i64 leaf)]),(8,.st [.sc (.int .i64 0),.view 104 1 0 0,.view 152 1 0 0]),(104,.ar false []),(152,.ar false [])]⟩=(
  Ai (call (29:Nat) [PV.sc (Value.int IntKind.i64 h)]) fun x1 x2=>
  Ac (x2) <|
  Ab (x1) fun x3 x4=>
  Bn (x3) fun x5=>
  Ac (x4) <|
  Bc (x5)
   (
   none)
   (
   Ai (call (30:Nat) [PV.sc (Value.int IntKind.i64 leaf),PV.sc (Value.int IntKind.i64 h)]) fun x6 x7=>
   Ac (x7) <|
   Ab (x6) fun x8 x9=>
   Bn (x8) fun Cp=>
   Ac (x9) <|
   Bc (Cp)
    (
    none)
    (
    some (0,⟨lk [(0,(.sc (.int .u64 (seed)))),(3,(.sc (.int .u64 (m)))),(5,(.ptr 5 0)),(6,(.ptr 6 0)),(8,(.ptr 8 0)),(9,(.sc (.int .i64 ((0:Int)))))],Bz [(5,(.st [(.sc (.int .i64 (h)))])),(6,(.st [(.sc (.int .i64 (leaf)))])),(8,(.st [(.sc (.int .i64 ((0:Int)))),(.view 104 1 0 ((0:Nat))),(.view 152 1 0 ((0:Nat)))])),(104,(.ar false ([]))),(152,(.ar false ([])))]⟩)))):=by kernel_rfl
theorem Aj6 (call:Ah)(seed h leaf m:Int):LZ 48 call (sL (sR (sR IB))) 1897 ⟨lk [(0,.sc (.int .u64 seed)),(3,.sc (.int .u64 m)),(5,.ptr 5 0),(6,.ptr 6 0),(8,.ptr 8 0),(9,.sc (.int .i64 0))],Bz [(5,.st [.sc (.int .i64 h)]),(6,.st [.sc (.int .i64 leaf)]),(8,.st [.sc (.int .i64 0),.view 104 1 0 0,.view 152 1 0 0]),(104,.ar false []),(152,.ar false [])]⟩=(
 Ai (call (31:Nat) [PV.sc (Value.int IntKind.u64 seed),PV.sc (Value.int IntKind.i64 leaf),PV.sc (Value.int IntKind.u64 m)]) fun x1 x2=>
 Ac (x2) <|
 Ab (x1) fun x3 x4=>
 Eg ((1:Nat)) (x3) fun x5 x6=>
 Ac (x4) <|
 some (0,⟨lk [(0,(.sc (.int .u64 (seed)))),(3,(.sc (.int .u64 (m)))),(5,(.ptr 5 0)),(6,(.ptr 6 0)),(8,(.ptr 8 0)),(9,(.sc (.int .i64 ((0:Int))))),(10,(.ptr 10 0))],Bz [(5,(.st [(.sc (.int .i64 (h)))])),(6,(.st [(.sc (.int .i64 (leaf)))])),(8,(.st [(.sc (.int .i64 ((0:Int)))),(.view 104 1 0 ((0:Nat))),(.view 152 1 0 ((0:Nat)))])),(104,(.ar false ([]))),(152,(.ar false ([]))),(10,(.st [(.sc (.int .i64 (leaf))),(.view 106 1 0 (x5)),(.view 154 1 0 ((0:Nat)))])),(106,(.ar false (x6))),(154,(.ar false ([])))]⟩)):=by kernel_rfl
theorem Ac8 (call:Ah)(h leaf k:Int)(ch:Value)(n m:Nat)(c d:List PV):LZ 48 call (sF (sB (sR (sL (sR (sR (sR IB))))))) 1024 ⟨lk [(5,.iptr [.sc (.int .i64 h)] 0),(6,.iptr [.sc (.int .i64 leaf)] 0),(10,.ptr 96000 0),(11,.sc (.int .i64 k)),(12,.lst false 1 n c)],Bz [(96000,.st [.sc (.int .i64 leaf),.sc ch,.view 20 1 0 m]),(20,.ar false d)]⟩=(
  Bc (k==h)
   (
   some (1,⟨lk [(10,(.ptr 96000 0))],Bz [(96000,(.st [(.sc (.int .i64 (leaf))),(.sc (ch)),(.view 96144 1 0 (m))])),(96144,(.ar false (d)))]⟩))
   (
   Ao (decide ((0:Int)<=k)) <|
   Aa (F6 IntKind.i64 leaf k) fun x1=>
   Aa (Dg IntKind.i64 x1 (1:Int)) fun x2=>
   Ao (decide ((0:Int)<=x2)&&decide (x2<(↑n:Int))) <|
   Ad (IntKind.u64) (List.getD c (Int.toNat x2*(1:Nat)) PV.top) fun x3=>
   Ao (decide (m*(1:Nat)<=List.length d)&&true&&decide ((m+(1:Nat))*(8:Nat)<=(1099511627776:Nat))&&decide (m+(1:Nat)<=(1099511627776:Nat))) <|
   Aa (m+(1:Nat)) fun x4=>
   Aa (List.take (m*(1:Nat)) d++[PV.sc (Value.int IntKind.u64 x3)]) fun x5=>
   some (0,⟨lk [(10,(.ptr 96000 0))],Bz [(96000,(.st [(.sc (.int .i64 (leaf))),(.sc (ch)),(.view 96144 1 0 (x4))])),(96144,(.ar false (x5)))]⟩))):=by kernel_rfl
theorem Ajt (call:Ah)(seed h leaf m:Int)(n:Nat)(c:List PV):Li CB Tryd.prog 48 call (Ku (sL (sL (sR (sR (sR IB)))))) (List.take 2 (Ku (sL (sL (sR (sR (sR IB)))))).toList) ⟨lk [(0,.sc (.int .u64 seed)),(3,.sc (.int .u64 m)),(5,.ptr 5 0),(6,.ptr 6 0),(8,.ptr 8 0),(9,.sc (.int .i64 0)),(10,.ptr 10 0)],Bz [(5,.st [.sc (.int .i64 h)]),(6,.st [.sc (.int .i64 leaf)]),(8,.st [.sc (.int .i64 0),.view 104 1 0 0,.view 152 1 0 0]),(104,.ar false []),(152,.ar false []),(10,.st [.sc (.int .i64 leaf),.view 106 1 0 n,.view 154 1 0 0]),(106,.ar false c),(154,.ar false [])]⟩ (fun s=>Jh 48 402655081 s fun s'=>some (0,s'))=(
 some (0,⟨lk [(0,(.sc (.int .u64 (seed)))),(3,(.sc (.int .u64 (m)))),(5,(.ptr 5 0)),(6,(.ptr 6 0)),(8,(.ptr 8 0)),(9,(.sc (.int .i64 ((0:Int))))),(10,(.ptr 10 0)),(27,(.sc (.int .u64 (seed)))),(28,(.sc (.int .i64 (h))))],Bz [(5,(.st [(.sc (.int .i64 (h)))])),(6,(.st [(.sc (.int .i64 (leaf)))])),(8,(.st [(.sc (.int .i64 ((0:Int)))),(.view 104 1 0 ((0:Nat))),(.view 152 1 0 ((0:Nat)))])),(104,(.ar false ([]))),(152,(.ar false ([]))),(10,(.st [(.sc (.int .i64 (leaf))),(.view 106 1 0 (n)),(.view 154 1 0 ((0:Nat)))])),(106,(.ar false (c))),(154,(.ar false ([])))]⟩)):=by kernel_rfl
theorem Aj0 (call:Ah)(leaf:Int)(n1 n2:Nat)(c1 c2:List PV):Li CB Tryd.prog 48 call (Ku (sL (sR (sR (sR (sR IB)))))) (Ku (sL (sR (sR (sR (sR IB)))))).toList ⟨lk [(8,.ptr 96000 0),(9,.sc (.int .i64 0)),(10,.iptr [.sc (.int .i64 leaf),.lst false 1 n1 c1,.lst false 1 n2 c2] 0)],Bz [(96000,.st [.top,.top,.top])]⟩ (fun s=>Jh 48 768 s fun s'=>some (0,s'))=(
 some (0,⟨lk [(8,(.ptr 96000 0)),(9,(.sc (.int .i64 ((0:Int)))))],Bz [(96000,(.st [(.sc (.int .i64 (leaf))),(.lst false 1 (n1) (c1)),(.lst false 1 (n2) (c2))]))]⟩)):=by kernel_rfl
theorem Ajr (a0 a1 a2 a3 leaf:Int)(n1 n2:Nat)(c1 c2:List PV):US CS Tryd.prog 15 Tryd.f15 [.sc (.int .u64 a0),.sc (.int .i64 a1),.sc (.int .i64 a2),.sc (.int .u64 a3)] ⟨lk [(8,.ptr 96000 0),(9,.sc (.int .i64 0))],Bz [(96000,.st [.sc (.int .i64 leaf),.lst false 1 n1 c1,.lst false 1 n2 c2])]⟩=(
 some (Aw.mk [PV.agg [PV.sc (Value.int IntKind.i64 leaf),PV.lst false (1:Nat) n1 c1,PV.lst false (1:Nat) n2 c2],PV.sc (Value.int IntKind.i64 (0:Int))] [])):=by kernel_rfl
theorem Ajh (call:Ah)(seed h leaf m:Int):Agp CS Tryd.prog 2000 call 15 Tryd.f15 IB [.sc (.int .u64 seed),.sc (.int .i64 h),.sc (.int .i64 leaf),.sc (.int .u64 m)]=(
  Ai (call (29:Nat) [PV.sc (Value.int IntKind.i64 h)]) fun x1 x2=>
  Ac (x2) <|
  Ab (x1) fun x3 x4=>
  Bn (x3) fun x5=>
  Ac (x4) <|
  Bc (x5)
   (
   some (Aw.mk [PV.agg [PV.sc (Value.int IntKind.i64 (0:Int)),PV.lst false (1:Nat) (0:Nat) [],PV.lst false (1:Nat) (0:Nat) []],PV.sc (Value.int IntKind.i64 (9:Int))] []))
   (
   Ai (call (30:Nat) [PV.sc (Value.int IntKind.i64 leaf),PV.sc (Value.int IntKind.i64 h)]) fun x6 x7=>
   Ac (x7) <|
   Ab (x6) fun x8 x9=>
   Bn (x8) fun Cp=>
   Ac (x9) <|
   Bc (Cp)
    (
    some (Aw.mk [PV.agg [PV.sc (Value.int IntKind.i64 (0:Int)),PV.lst false (1:Nat) (0:Nat) [],PV.lst false (1:Nat) (0:Nat) []],PV.sc (Value.int IntKind.i64 (9:Int))] []))
    (
    Ai (call (31:Nat) [PV.sc (Value.int IntKind.u64 seed),PV.sc (Value.int IntKind.i64 leaf),PV.sc (Value.int IntKind.u64 m)]) fun C3 Dz=>
    Ac (Dz) <|
    Ab (C3) fun Ed Dy=>
    Gk ((1:Nat)) (Ed) fun Ec Ej Fc=>
    Ac (Dy) <|
    Ai (call (32:Nat) [PV.sc (Value.int IntKind.u64 seed),PV.sc (Value.int IntKind.i64 h)]) fun F2 F3=>
    Ac (F3) <|
    Ab (F2) fun F8 Ij=>
    fnK (F8) fun G6=>
    Ac (Ij) <|
    none))):=by kernel_rfl
end
end Go.Proofs.YtdjihiphpgkfmaaDoor.Pv
