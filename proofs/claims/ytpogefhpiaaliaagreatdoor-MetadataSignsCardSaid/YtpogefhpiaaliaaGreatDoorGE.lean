/-
  The proof of MetadataSigns, part 5.
-/
import Derived.Test.YtpogefhpiaaliaaGreatDoorGD
import Derived.Test.YtpogefhpiaaliaaGreatDoorRows
set_option linter.unusedSimpArgs false
set_option linter.unusedVariables false
namespace Go.Proofs.YtpogefhpiaaliaaGreatDoor.Pv
open Go.IntKind (wrap)
open Go.Proofs.Tryz (prog)
set_option maxRecDepth 1000000
noncomputable section
theorem Asn{n:Int}(h0:0<=n):(n<256->RA (tb n 1)=n)/\(n<65536->RA (tb n 2)=n)/\(n<4294967296->RA (tb n 4)=n)/\(n<=18446744073709551615->RA (tb n 8)=n):=by
 have st:∀(k:Nat) (D:Int),n<=18446744073709551615->k<8->(2:Int) ^ (56-8*k)=D->0<D->G6 (n / D / 256) (Dz n k)=n / D:=by
  intro k D h1 hk hD hp;rw[XH k hk,hD];exact Awa (Int.ediv_nonneg h0 (Int.le_of_lt hp)) (Int.le_trans (Int.ediv_le_self _ h0) h1)
 refine⟨fun h=>?_,fun h=>?_,fun h=>?_,fun h=>VO h0 h⟩
 ·have s7:=st 7 1 (by omega) (by omega) (by decide) (by omega);rw[show n / 1 / 256=0 by omega,show n / 1=n by omega] at s7;exact s7
 ·have s6:=st 6 256 (by omega) (by omega) (by decide) (by omega);have s7:=st 7 1 (by omega) (by omega) (by decide) (by omega);rw[show n / 256 / 256=0 by omega] at s6;rw[show n / 1 / 256=n / 256 by omega,show n / 1=n by omega] at s7;show G6 (G6 0 (Dz n 6)) (Dz n 7)=n;rw[s6,s7]
 ·have s4:=st 4 16777216 (by omega) (by omega) (by decide) (by omega);have s5:=st 5 65536 (by omega) (by omega) (by decide) (by omega);have s6:=st 6 256 (by omega) (by omega) (by decide) (by omega);have s7:=st 7 1 (by omega) (by omega) (by decide) (by omega);rw[show n / 16777216 / 256=0 by omega] at s4;rw[show n / 65536 / 256=n / 16777216 by omega] at s5;rw[show n / 256 / 256=n / 65536 by omega] at s6;rw[show n / 1 / 256=n / 256 by omega,show n / 1=n by omega] at s7;show G6 (G6 (G6 (G6 0 (Dz n 4)) (Dz n 5)) (Dz n 6)) (Dz n 7)=n;rw[s4,s5,s6,s7]
theorem AU{b:Cg}{at_:Nat}{mj n low:Int}{k:Nat}{rest:Cg}(m0:0<=mj)(m5:mj<=5)(l0:24<=low)(l1:low<=27)(hk:szE low=k)(h:b.drop (at_+1)=tb n k++rest)(hd:RA (tb n k)=n)(hs:¬(R6 n<(k:Int))):
  Yk b at_ (32*mj+low)=⟨1+mj,n,0,at_+1+k⟩:=by
 have e1:(32*mj+low) / 32=mj:=by omega
 have e2:(32*mj+low) % 32=low:=by omega
 have e3:(b.drop (at_+1)).take k=tb n k:=by rw[h,List.take_left' (ET n k)]
 have e4:k<=b.length-(at_+1):=by
  have:=congrArg List.length h;rw[List.length_drop,G8,ET] at this;omega
 unfold Yk;rw[e1,e2,hk,e3,hd,Ba (by omega),Ba (by omega),Ba (by omega),Ba (by omega),Ba (by omega),Ba (by omega),Ba (by omega),Ba hs]
theorem FI{b:Cg}{at_:Nat}{mj n:Int}{rest:Cg}(h:b.drop at_=Dk mj n++rest)(m0:0<=mj)(m5:mj<=5)(n0:0<=n)(n1:n<=18446744073709551615):
  Ib b at_=⟨1+mj,n,0,at_+(Dk mj n).length⟩:=by
 obtain⟨d1,d2,d4,d8⟩:=Asn n0;unfold Ib;unfold Dk at h ⊢;by_cases c1:n<24
 ·rw[B7 c1] at h ⊢;obtain⟨_,g,_⟩:=C1 h;rw[g];show Yk b at_ (32*mj+n)=_;unfold Yk;have e1:(32*mj+n) / 32=mj:=by omega
  have e2:(32*mj+n) % 32=n:=by omega
  rw[e1,e2,Ba (by omega),Ba (by omega),Ba (by omega),Ba (by omega),Ba (by omega),B7 c1];rfl
 rw[Ba c1] at h ⊢;by_cases c2:n<256
 ·rw[B7 c2] at h ⊢;obtain⟨_,g,g2⟩:=C1 h;rw[g];have:=AU (at_:=at_) m0 m5 (low:=24) (by omega) (by omega) (k:=1) (by decide) g2 (d1 c2) (by unfold R6;rw[Ba c1,B7 c2];omega)
  show Yk b at_ (32*mj+24)=_;rw[this,G9,ET]
 rw[Ba c2] at h ⊢;by_cases c3:n<65536
 ·rw[B7 c3] at h ⊢;obtain⟨_,g,g2⟩:=C1 h;rw[g];have:=AU (at_:=at_) m0 m5 (low:=25) (by omega) (by omega) (k:=2) (by decide) g2 (d2 c3) (by unfold R6;rw[Ba c1,Ba c2,B7 c3];omega)
  show Yk b at_ (32*mj+25)=_;rw[this,G9,ET]
 rw[Ba c3] at h ⊢;by_cases c4:n<4294967296
 ·rw[B7 c4] at h ⊢;obtain⟨_,g,g2⟩:=C1 h;rw[g];have:=AU (at_:=at_) m0 m5 (low:=26) (by omega) (by omega) (k:=4) (by decide) g2 (d4 c4) (by unfold R6;rw[Ba c1,Ba c2,Ba c3,B7 c4];omega)
  show Yk b at_ (32*mj+26)=_;rw[this,G9,ET]
 ·rw[Ba c4] at h ⊢;obtain⟨_,g,g2⟩:=C1 h;rw[g];have:=AU (at_:=at_) m0 m5 (low:=27) (by omega) (by omega) (k:=8) (by decide) g2 (d8 n1) (by unfold R6;rw[Ba c1,Ba c2,Ba c3,Ba c4];omega)
  show Yk b at_ (32*mj+27)=_;rw[this,G9,ET]
theorem ZA{s:ByteArray}(h:Abs s=true):s=⟨#[]⟩:=by unfold Abs at h;have:=eq_of_beq h;apply ByteArray.ext;exact Array.toList_inj.1 this
def nOf(x:It):Int:=if x.k=3\/x.k=4 then (x.s.size:Int) else x.n
theorem Agd{x:It}{b:Cg}{at_:Nat}{rest:Cg}(hsh:L7 x=true)(k1:1<=x.k)(k8:x.k<=8)(n0:0<=x.n)(n1:x.n<=18446744073709551615)(hs:x.s.size<=1024)(h:b.drop at_=Cs x++rest):
  Ib b at_=⟨x.k,nOf x,0,at_+((Cs x).length-x.s.size)⟩/\(x.k=3\/x.k=4->x.n=0/\b.drop (at_+((Cs x).length-x.s.size))=Mi x.s++rest)/\(¬(x.k=3\/x.k=4)->x.s=⟨#[]⟩)/\x.s.size<=(Cs x).length:=by
 obtain⟨k,n,s⟩:=x;have z:(ByteArray.mk #[]).size=0:=rfl;simp only at k1 k8 n0 n1 hs ⊢;unfold L7 at hsh;simp only at hsh;have L:=Sj s;have E7:k=7->Cs ⟨k,n,s⟩=[wrap .u8 (244+wrap .u8 n)]:=fun e=>by unfold Cs;rw[B7 e]
 have E8:k=8->Cs ⟨k,n,s⟩=[246]:=fun e=>by subst e;rfl
 have E3:k=3->Cs ⟨k,n,s⟩=Dk 2 s.size++Mi s:=fun e=>by subst e;rfl
 have E4:k=4->Cs ⟨k,n,s⟩=Dk 3 s.size++Mi s:=fun e=>by subst e;rfl
 have E0:k≠7->k≠8->k≠3->k≠4->Cs ⟨k,n,s⟩=Dk (k-1) n:=fun a b c d=>by unfold Cs;rw[Ba a,Ba b,Ba c,Ba d]
 have N34:k=3\/k=4->nOf ⟨k,n,s⟩=s.size:=fun e=>by unfold nOf;rw[B7 e]
 have N0:¬(k=3\/k=4)->nOf ⟨k,n,s⟩=n:=fun e=>by unfold nOf;rw[Ba e]
 by_cases c7:k=7
 ·subst c7;simp at hsh;obtain⟨hn,hs⟩:=hsh;obtain rfl:=ZA hs;rw[E7 rfl] at h ⊢;rw[N0 (by omega)];obtain⟨_,g,_⟩:=C1 h;refine⟨?_,fun h=>by omega,fun _=>rfl,Nat.zero_le _⟩;have:n=0\/n=1:=by omega
  unfold Ib;rw[g];rcases this with rfl|rfl
  ·rfl
  ·rfl
 by_cases c8:k=8
 ·subst c8;simp at hsh;obtain⟨rfl,hs⟩:=hsh;obtain rfl:=ZA hs;rw[E8 rfl] at h ⊢;rw[N0 (by omega)];obtain⟨_,g,_⟩:=C1 h;refine⟨?_,fun h=>by omega,fun _=>rfl,Nat.zero_le _⟩;unfold Ib;rw[g];rfl
 by_cases c3:k=3
 ·subst c3;simp at hsh;subst hsh;rw[E3 rfl] at h ⊢;rw[N34 (by omega)];rw[IU] at h;have q:=FI h (by omega) (by omega) (by omega) (by omega);have e:(Dk 2 (s.size:Int)++Mi s).length-s.size=(Dk 2 (s.size:Int)).length:=by rw[G8,L];omega
  rw[e];refine⟨q,fun _=>⟨rfl,?_⟩,fun h=>by omega,by rw[G8,L];omega⟩
  rw[<-List.drop_drop,h,List.drop_left' rfl]
 by_cases c4:k=4
 ·subst c4;simp at hsh;subst hsh;rw[E4 rfl] at h ⊢;rw[N34 (by omega)];rw[IU] at h;have q:=FI h (by omega) (by omega) (by omega) (by omega);have e:(Dk 3 (s.size:Int)++Mi s).length-s.size=(Dk 3 (s.size:Int)).length:=by rw[G8,L];omega
  rw[e];refine⟨q,fun _=>⟨rfl,?_⟩,fun h=>by omega,by rw[G8,L];omega⟩
  rw[<-List.drop_drop,h,List.drop_left' rfl]
 rw[Ba c3,Ba c4,Ba c8,Ba c7] at hsh;obtain rfl:=ZA hsh;rw[E0 c7 c8 c3 c4] at h ⊢;rw[N0 (by omega)];have q:=FI h (by omega) (by omega) n0 n1;refine⟨?_,fun h=>by omega,fun _=>rfl,by rw[z];omega⟩
 rw[q,z,Nat.sub_zero]
 congr 1
 omega
theorem Aha{l:List Hw}{cnt:Int}{x:It}{b:Cg}{at_:Nat}{rest:Cg}(g:Axh l cnt x)(n0:0<=x.n)(n1:x.n<=18446744073709551615)(h:b.drop at_=Cs x++rest):
  G2 l cnt b at_=⟨x,0,Hm l x,cnt+1,at_+(Cs x).length⟩:=by
 have k18:1<=x.k/\x.k<=8:=by
  have hm:=g.hm;unfold Nb at hm
  repeat' split at hm
  all_goals first
   |(cases hm;done)
   |omega
 obtain⟨q1,q2,q3,q4⟩:=Agd g.hsh k18.1 k18.2 n0 n1 g.hs h
 have ac:∀a:Nat,Yd l cnt x a=⟨x,0,Hm l x,cnt+1,a⟩:=by
  intro a
  have:Fc l x=(0,Hm l x):=by
   unfold Fc;rw[Ba,Ba (by simp[g.ha])];intro hh;have:=g.hv hh.1;exact absurd hh.2 (by simp[okS,this])
  unfold Yd;rw[this];rfl
 have ln:b.length-(at_+((Cs x).length-x.s.size))>=x.s.size:=by
  have:=congrArg List.length h;rw[List.length_drop,G8] at this;omega
 unfold G2;rw[q1];unfold Aa2;simp only;rw[Ba (by simp),g.hm,Ba (by simp)];have hs:=g.hs;have hn:=g.hn;obtain⟨k,n,s⟩:=x;simp only at *
 by_cases c34:k=3\/k=4
 ·obtain⟨rfl,q2⟩:=q2 c34;have N:nOf ⟨k,0,s⟩=s.size:=by unfold nOf;rw[B7 c34]
  rw[N,Ba (by omega),B7 c34,Ba (by omega),Ij,Ba (by omega),q2,List.take_left' (Sj s),IJ,ac]
  congr 1
  omega
 ·obtain rfl:=q3 c34;have z:(ByteArray.mk #[]).size=0:=rfl;have N:nOf ⟨k,n,⟨#[]⟩⟩=n:=by unfold nOf;rw[Ba c34]
  rw[N,Ba c34,z,Nat.sub_zero];by_cases c56:k=5\/k=6
  ·rw[B7 c56,Ba (by omega),ac]
  ·rw[Ba c56,ac]
theorem WN{b:Cg}{rest:Cg}:∀(its:List It)(l:List Hw)(cnt:Int)(at_ m:Nat)(acc:List It),Q7 l cnt its->(∀x∈its,0<=x.n/\x.n<=18446744073709551615)->b.drop at_=Bn its++rest->its.length<m ->
  Jv m l cnt b at_ acc=(acc++its,at_+(Bn its).length,0)
 |[],l,cnt,at_,m,acc,hg,hn,h,hm=>by
  obtain⟨rfl,hc⟩:=hg;obtain⟨m,rfl⟩:∃k,m=k+1:=⟨m-1,by omega⟩
  unfold Jv;rw[B7 (by simp[SW,hc])];simp[Bn]
 |x::its,l,cnt,at_,m,acc,hg,hn,h,hm=>by
  obtain⟨g,hg⟩:=hg;obtain⟨m,rfl⟩:∃k,m=k+1:=⟨m-1,by simp at hm;omega⟩
  have e:Bn (x::its)=Cs x++Bn its:=by simp[Bn]
  rw[e,IU] at h;have r:=Aha g (hn x (by simp)).1 (hn x (by simp)).2 h;have h':b.drop (at_+(Cs x).length)=Bn its++rest:=by rw[<-List.drop_drop,h,List.drop_left' rfl]
  have ih:=WN its (Hm l x) (cnt+1) (at_+(Cs x).length) m (acc++[x]) hg (fun y hy=>hn y (Rw _ hy)) h' (by simp at hm;omega)
  unfold Jv;have hd:SW l cnt=false:=g.hd;rw[Ba (by simp[hd]),r];simp only;rw[Ba (by simp),ih,e];simp;omega
abbrev Ui(x:Int):Prop:=0<=x/\x<=18446744073709551615
abbrev isW(l:Cg):Prop:=∀x∈l,Ui x
theorem Adt(l:Cg)(i:Nat):Ui (Va l i):=Ze _ 0 (by omega) (by omega)
theorem Adj(l:Cg):isW (Hc l):=by intro x hx;obtain⟨k,_,rfl⟩:=List.mem_map.1 hx;exact Adt l k
theorem Yb:∀{ws:Cg}{i:Nat}{w:Int},isW ws->ws[i]?=some w->Va (A9 ws) i=w
 |[],i,w,_,h=>by simp at h
 |a::ws,0,w,hw,h=>by
  simp at h;subst h;have e:A9 (a::ws)=Ew a++A9 ws:=rfl;unfold Va;rw[Nat.mul_zero,Fi,e,List.take_left' (Gp a)];have:=hw a (by simp);exact VO this.1 this.2
 |a::ws,i+1,w,hw,h=>by
  simp at h;have ih:=Yb (ws:=ws) (fun x hx=>hw x (Rw _ hx)) h;have e:A9 (a::ws)=Ew a++A9 ws:=rfl;unfold Va at ih ⊢;rw[show 8*(i+1)=(Ew a).length+8*i by rw[Gp];omega,e,<-List.drop_drop,List.drop_left' rfl]
  exact ih
theorem GQ{ws:Cg}(hw:isW ws):Hc (A9 ws)=ws:=by
 have hl:(A9 ws).length / 8=ws.length:=by rw[D9];omega
 apply List.ext_getElem?;intro i;unfold Hc;rw[hl];by_cases h:i<ws.length
 ·rw[List.getElem?_map,List.getElem?_range h,List.getElem?_eq_getElem h];simp only[Option.map_some];rw[Yb hw (List.getElem?_eq_getElem h)]
 ·rw[List.getElem?_eq_none (by simp;omega),List.getElem?_eq_none (by omega)]
theorem Amb{k:Ky}(hh:D6 k.h=false)(hr:Ui k.root):QV (I7 k)=some k:=by
 obtain⟨h,r⟩:=k;have hb:=I5 hh;simp only at hb hr hh;have w:wrap .u8 h=h:=Hp (by omega) (by omega);have w1:A9 [r]=Ew r:=by simp[A9]
 have:=Yb (ws:=[r]) (i:=0) (w:=r) (by intro x hx;simp at hx;subst hx;exact hr) rfl
 rw[w1] at this;unfold QV I7;simp only[w,List.getD_cons_zero,List.drop_succ_cons,Fi,this,G9,Gp,hh,and_self,if_true]
theorem Aze{k:Ky}:Mn (I7 k):=by
 intro x hx;rcases Bx.1 hx with rfl|hx
 ·have:∀v:Int,0<=wrap .u8 v/\wrap .u8 v<=255:=by
   intro v;simp only[wrap,IntKind.signed,IntKind.bits];simp;omega
  exact this _
 ·exact Ajk _ x hx
theorem Auz{l:Cg}{k:Ky}(h:QV l=some k):D6 k.h=false/\Ui k.root:=by
 unfold QV at h;split at h
 ·rename_i hh;cases h;exact⟨hh.2,Adt _ _⟩
 ·cases h
structure Sg.ok(s:Sg):Prop where
 ch:isW s.chains
 pa:isW s.path
theorem Axm(s:Sg):Mn (DK s):=by
 have w8:∀v:Int,0<=wrap .u8 v/\wrap .u8 v<=255:=by
  intro v;simp only[wrap,IntKind.signed,IntKind.bits];simp;omega
 intro x hx;unfold DK at hx;rcases Bx.1 hx with rfl|hx
 ·exact w8 _
 rcases Bx.1 hx with rfl|hx
 ·exact w8 _
 rcases Bu.1 hx with hx|hx
 ·exact Wr _ x hx
 ·exact Wr _ x hx
theorem Atw{s:Sg}(hs:s.ok)(h1:D6 s.path.length=false)(h2:J8 s.leaf s.path.length=false)(h3:s.chains.length=18):sgD (DK s)=some s:=by
 obtain⟨leaf,ch,pa⟩:=s;obtain⟨hc,hp⟩:=hs;simp only at h1 h2 h3 hc hp;have hb:=I5 h1;have ho:=Af2 hb.1 hb.2 h2;have h16:=Ay8 hb.1 hb.2;have w1:wrap .u8 leaf=leaf:=Hp (by omega) (by omega);have w2:wrap .u8 (pa.length:Int)=pa.length:=Hp (by omega) (by omega);have lc:(A9 ch).length=144:=by rw[D9];omega
 have lp:(A9 pa).length=8*pa.length:=D9 pa
 have len:(DK ⟨leaf,ch,pa⟩).length=2+144+8*pa.length:=by
  unfold DK;simp only[G9,G8,lc,lp];omega
 have g0:(DK ⟨leaf,ch,pa⟩).getD 0 0=leaf:=w1;have g1:(DK ⟨leaf,ch,pa⟩).getD 1 0=pa.length:=w2;have d2:(DK ⟨leaf,ch,pa⟩).drop 2=A9 ch++A9 pa:=rfl
 have d146:(DK ⟨leaf,ch,pa⟩).drop 146=A9 pa:=by
  rw[show 146=2+144 from rfl,<-List.drop_drop,d2,List.drop_left' lc]
 unfold sgD;rw[B7 ⟨by omega,by rw[g1];exact h1,by rw[g0,g1];exact h2,by rw[g1,len];omega⟩,g0,d2,d146,List.take_left' lc,GQ hc,GQ hp]
theorem Arf{l:Cg}{s:Sg}(h:sgD l=some s):s.ok/\s.path.length<=4/\s.chains.length=18:=by
 unfold sgD at h;split at h
 ·rename_i hh;cases h;have hb:=I5 hh.2.1;refine⟨⟨Adj _,Adj _⟩,?_,?_⟩
  ·simp only[Su,List.length_drop];omega
  ·simp only[Su,List.length_take,List.length_drop];omega
 ·cases h
section
variable {xs:FuncId->Option (Ab->Option Dl)}(fu d:Nat)(call:Bi)
theorem UW(X:Nat)(Z:Ab)(W:Nat)(Y:Ab):F1 C0 fu d 50 [Ai 1 X Z,Ai 1 W Y] fun call=>At (decide (Z.length=X))<|Gi (bytesOf Z) fun a=>At (decide (Y.length=W))<|Gi (bytesOf Y) fun b=>Bv [.sc (.bool (Array.toList (ByteArray.data (ByteArray.mk (List.toArray a)))==Array.toList (ByteArray.data (ByteArray.mk (List.toArray b)))))]:=by show _=_;kernel_rfl
end
section
variable {fu d:Nat}
theorem Aq4(s:ByteArray):Ap C0 prog fu (d+1) 130 [.sc (.string s)]=some ⟨[.own 3 1 (A6 [⟨4,0,s⟩])],[]⟩:=by rw[Adg];rfl
theorem W6(n:Int):Ap C0 prog fu (d+1) 64 [Ac n]=some ⟨[.own 3 1 (A6 [⟨1,n,N9⟩])],[]⟩:=by rw[Adu];rfl
theorem Amg(l:Cg):Ap C0 prog fu (d+1) 131 [.lst false 1 l.length (Ad .u8 l)]=some ⟨[.own 3 1 (A6 [⟨3,0,Cf l⟩])],[]⟩:=by rw[Aae];have L:=Am .u8 l;have bo:=I1 l;simp(disch:=omega)only[B4,B3,L,bo];rfl
end
section
variable {fu d:Nat}
theorem Afh{a b:Cg}(ha:Mn a)(hb:Mn b)(h:(a.map fun n=>n.toNat.toUInt8)=(b.map fun n=>n.toNat.toUInt8)):a=b:=by
 have e:Cf a=Cf b:=by unfold Cf;rw[h]
 rw[<-Rh ha,<-Rh hb,e]
theorem A56{a b:Cg}(ha:Mn a)(hb:Mn b):(Array.toList (ByteArray.data (ByteArray.mk (List.toArray (a.map fun n=>n.toNat.toUInt8))))==Array.toList (ByteArray.data (ByteArray.mk (List.toArray (b.map fun n=>n.toNat.toUInt8)))))=decide (a=b):=by
 by_cases h:a=b
 ·subst h;simp
 ·have:(List.map (fun n=>n.toNat.toUInt8) a)≠(List.map (fun n=>n.toNat.toUInt8) b):=fun e=>h (Afh ha hb e);simp only[h,decide_false]
  simpa using this
theorem UE{a b:Cg}(ha:Mn a)(hb:Mn b):Ap C0 prog fu (d+1) 50 [.lst false 1 a.length (Ad .u8 a),.lst false 1 b.length (Ad .u8 b)]=some ⟨[.sc (.bool (decide (a=b)))],[]⟩:=by rw[UW];have La:=Am .u8 a;have Lb:=Am .u8 b;have ba:=I1 a;have bb:=I1 b;have q:=A56 ha hb;simp(disch:=omega)only[B4,B3,La,Lb,ba,bb,q]
end
structure Ce.ok(c:Ce):Prop where
 ser:Ui c.serial
 mod:Ui c.model
 root:Ui c.key.root
 sg:c.sig.ok
theorem Ce.ok.wf{c:Ce}(h:c.ok):c.wf:=⟨h.ser.1,h.mod.1⟩
section
variable {xs:FuncId->Option (Ab->Option Dl)}(fu d:Nat)(call:Bi)
theorem FX(Z:Nat)(Y:Ab):F1 C0 fu d 10 [Ai 1 Z Y] fun call=>Bv [.pbox [Ai 1 Z Y,(0:Int)]]:=by show _=_;kernel_rfl
theorem HG(Z Y:Int):F1 C0 fu d 14 [Z,Y] fun call=>Aa (wrap .u64 Z) fun a=>Aa (wrap .u64 Y) fun b=>At (decide (b≠0))<|Aa (Int.tmod a b) fun a=>Aa (wrap .i64 a) fun a=>Bv [a]:=by show _=_;kernel_rfl
theorem Mv(Z:Nat)(Y:Ab)(X W:Int):F1 C0 fu d 15 [.pbox [Ai 1 Z Y,X],W] fun call=>Bd (decide (X>=(↑Z:Int))) (some ⟨[(0:Int)],[[Ai 1 Z Y,X]]⟩) (Aa (wrap .i64 (X+1)) fun a=>Aa (wrap .i64 (a-1)) fun b=>At (decide (0<=b)&&decide (b<(↑Z:Int)))<|A8 .i64 (Y.getD (b.toNat*1) .top) fun b=>J1 .i64 (call 14 [b,W]) fun b=>some ⟨[b],[[Ai 1 Z Y,a]]⟩):=by show _=_;kernel_rfl
end
abbrev YW(l:Cg)(a:Nat):Ab:=[.lst false 1 l.length (Ad .i64 l),Ao (a:Int)]
theorem Azj{fu d:Nat}{l:Cg}:Ap C0 prog fu (d+1) 10 [.lst false 1 l.length (Ad .i64 l)]=some ⟨[.pbox (YW l 0)],[]⟩:=by rw[FX];rfl
theorem Agq(v n:Int)(hn:0<n)(hm:n<=9223372036854775807):∃r,0<=r/\r<n/\∀{fu d:Nat},Ap C0 prog fu (d+1) 14 [Ao v,Ao n]=some ⟨[Ao r],[]⟩:=by have h1:=Kh v;have h2:wrap .u64 n=n:=Cm (by omega) (by omega);have h3:0<=Int.tmod (wrap .u64 v) n:=Int.tmod_nonneg _ h1.1;have h4:Int.tmod (wrap .u64 v) n<n:=Int.tmod_lt_of_pos _ hn;refine⟨_,h3,h4,fun {fu d}=>?_⟩;rw[HG];simp only[Je,h2];rw[ZE _ _ (by omega),Ah (by omega) (by omega)]
theorem H7{l:Cg}(hl:l.length<=maxLen)(a:Nat)(n:Int)(hn:0<n)(hm:n<=9223372036854775807):∃(v:Int)(a':Nat),0<=v/\v<n /\
  ∀{fu d:Nat},Ap C0 prog fu (d+2) 15 [.pbox (YW l a),Ao n]=some ⟨[Ao v],[YW l a']⟩:=by
 simp only[maxLen] at hl;by_cases h:a<l.length
 ·obtain⟨r,h1,h2,h3⟩:=Agq l[a] n hn hm;refine⟨r,a+1,h1,h2,fun {fu d}=>?_⟩;rw[Mv]
  have hg:(Ad .i64 l).getD (Int.toNat ((a:Int)+1-1)*1) .top=Ao l[a]:=by
   have:=Z5 (k:=.i64) (List.getElem?_eq_getElem h);rw[show Int.toNat ((a:Int)+1-1)*1=a by omega];exact this
  simp(disch:=omega)only[B4,B3,Ah,hg,h3];rfl
 ·refine⟨0,a,by omega,hn,fun {fu d}=>?_⟩;rw[Mv];simp(disch:=omega)only[B4,B3]
section
variable {xs:FuncId->Option (Ab->Option Dl)}(fu d:Nat)(call:Bi)
theorem IP(Z Y:Int):F1 C0 fu d 17 [Ac Z,Y] fun call=>Eb (call 30 [Ac Z,Y]) fun a b=>D3 a fun a=>Di .i64 a fun a c=>D1 .u64 c fun c=>D1 .i64 b fun b=>Bv [.agg [a,Ac c]]:=by show _=_;kernel_rfl
end
structure An where
 name:ByteArray
 key:Ky
def An.cells(a:An):Ab:=[.sc (.string a.name),Ao a.key.h,Ac a.key.root]
def C3(l:List An):Ab:=l.flatMap An.cells
theorem An.cells_len(a:An):a.cells.length=3:=rfl
theorem ana{l:List An}{i:Nat}{a:An}(h:l[i]?=some a):(C3 l).getD (i*3) .top=.sc (.string a.name)/\(C3 l).getD (i*3+1) .top=Ao a.key.h/\(C3 l).getD (i*3+2) .top=Ac a.key.root:=
 ⟨H4 An.cells_len h (j:=0) (by omega),H4 An.cells_len h (j:=1) (by omega),H4 An.cells_len h (j:=2) (by omega)⟩
def Ab7(l:List Hw):Prop:=∀f∈l,f.p=false
theorem Ab7.key{l:List Hw}(h:Ab7 l):Ti l=false:=by
 rcases Kf l with rfl|⟨l',f,rfl⟩
 ·rfl
 ·unfold Ti;simp[h f (by simp)]
theorem Ab7.dec{l:List Hw}(h:Ab7 l):Ab7 (Xe l):=by
 rcases Kf l with rfl|⟨l',f,rfl⟩
 ·exact h
 ·rw[Ug];intro g hg;rcases Bu.1 hg with hg|hg
  ·exact h g (by simp[hg])
  ·rw[Lo.1 hg];exact h f (by simp)
def Val(k:Nat)(v:List It):Prop:=∀(l:List Hw)(cnt:Int)(rest:List It),l.length+k<=6->0<=cnt->cnt+v.length<=505->(cnt=0\/l≠[])->Ab7 l ->
 Q7 (HQ (Xe l)) (cnt+v.length) rest->Q7 l cnt (v++rest)
theorem SN{l:List Hw}{cnt k:Int}(ha:Ab7 l)(hl:l.length<=6)(hc:cnt<=505)(k1:1<=k)(k8:k<=8):Nb l cnt k=0:=by unfold Nb;rw[Ba (by omega),Ba (by omega),Ba (by omega),Ba (by intro q;rw[ha.key] at q;exact absurd q.1 (by simp)),Ba (by omega)]
theorem Gx{x:It}(h:US x)(k:Nat):Val k [x]:=by
 intro l cnt rest hl h0 h1 hd ha hg;simp only[List.length_singleton] at h1 hg;have hk:=h.kd;refine⟨⟨by omega,h0,by omega,ha.key,h.hs,h.hv,?_,SN ha (by omega) (by omega) (by omega) (by omega),h.hsh,.inr (by omega)⟩,?_⟩
 ·rcases hd with rfl|hd
  ·rfl
  ·have:l.length≠0:=fun e=>hd (List.eq_nil_of_length_eq_zero e);have h2:((l.length:Int)==0)=false:=by simp;exact hd
   rw[h2,Bool.and_false]
 ·unfold Hm;rw[h.push];exact hg
theorem Acu{k:Nat}{l:List Hw}(hl:l.length+1+k<=6)(ha:Ab7 l){rest:List It}:∀(vs:List (List It)) (cnt:Int),vs≠[]->vs.length<=100000->(∀v∈vs,Val k v)->0<=cnt->cnt+vs.flatten.length<=505->Q7 (HQ l) (cnt+vs.flatten.length) rest ->
  Q7 (l++[⟨false,vs.length,[]⟩]) cnt (vs.flatten++rest)
 |[],_,h,_,_,_,_,_=>absurd rfl h
 |v::vs,cnt,_,hn,hv,h0,h1,hg=>by
  rw[List.flatten_cons,G8] at h1 hg;rw[List.flatten_cons,IU];simp only[G9] at hn;refine hv v (by simp) _ cnt _ (by rw[G8,List.length_singleton];omega) h0 (by omega) (.inr (by simp)) ?_ ?_
  ·intro g hg';rcases Bu.1 hg' with hg'|hg'
   ·exact ha g hg'
   ·rw[Lo.1 hg']
  rw[Ug]
  have w:wrap .i64 (((v::vs).length:Int)-1)=(vs.length:Int):=by
   rw[Ah (by simp only[G9];omega) (by simp only[G9];omega)]
   simp only[G9];omega
  simp only[w];by_cases U5:vs=[]
  ·subst U5;rw[XR rfl]
   simpa using hg
  ·rw[RG (by simp only;have:=List.length_pos_iff.2 U5;omega)]
   exact Acu hl ha vs (cnt+v.length) U5 (by omega) (fun x hx=>hv x (by simp[hx])) (by omega) (by omega) (by rw[Int.add_assoc,<-Int.natCast_add];exact hg)
theorem Ua{k:Nat}{vs:List (List It)}(hv:∀v∈vs,Val k v)(hn:vs.length<=500):Val (k+1) (⟨5,vs.length,⟨#[]⟩⟩::vs.flatten):=by
 intro l cnt rest hl h0 h1 hd ha hg;simp only[G9] at h1 hg;refine⟨⟨by omega,h0,by omega,ha.key,Nat.zero_le _,(by intro h;cases h),?_,SN ha (by omega) (by omega) (by simp) (by simp),(by rfl),.inl (by simp only;omega)⟩,?_⟩
 ·rcases hd with rfl|hd
  ·rfl
  ·have h2:((l.length:Int)==0)=false:=by simp;exact hd
   rw[h2,Bool.and_false]
 ·by_cases U5:vs=[]
  ·subst U5
   have e:Hm l ⟨5,(([]:List (List It)).length:Nat),⟨#[]⟩⟩=HQ (Xe l):=by
    unfold Hm OW;rw[Ba (by simp),Ba (by simp)]
   rw[e]
   simpa using hg
  ·have hp:=List.length_pos_iff.2 U5;have w:wrap .i64 (vs.length:Int)=(vs.length:Int):=Ah (by omega) (by omega)
   have e:Hm l ⟨5,(vs.length:Nat),⟨#[]⟩⟩=Xe l++[⟨false,(vs.length:Nat),[]⟩]:=by
    unfold Hm OW;rw[B7 ⟨rfl,by simp only;omega⟩]
    simp only[w];exact RG (by simp only;omega)
   rw[e]
   exact Acu (by rw[FH];omega) ha.dec vs (cnt+1) U5 (by omega) hv (by omega) (by omega) (by
    have e1:cnt+1+(vs.flatten.length:Int)=cnt+((vs.flatten.length+1:Nat):Int):=by omega
    rw[e1];exact hg)
theorem Val.goods{k:Nat}(hk:k<=6){v:List It}(h:Val k v)(hn:v≠[])(hl:v.length<=505):Q7 [] 0 v:=by
 have:=h [] 0 [] (by simp;exact hk) (by omega) (by omega) (.inl rfl) (by intro f hf;cases hf) ⟨rfl,by have:=List.length_pos_iff.2 hn;omega⟩
 rw[List.append_nil] at this;exact this
structure Sa where
 kd:Int
 at_:Int
structure Me where
 model:Int
 ans:List An
 sts:List Sa
structure Md where
 ver:Int
 iss:Int
 nxt:Int
 ents:List Me
 sig:Sg
def Sa.cells(s:Sa):Ab:=[Ao s.kd,Ao s.at_]
def Dg(l:List Sa):Ab:=l.flatMap Sa.cells
theorem Sa.cells_len(s:Sa):s.cells.length=2:=rfl
def Me.cells(x:Me):Ab:=[Ac x.model,.lst false 3 x.ans.length (C3 x.ans),.lst false 2 x.sts.length (Dg x.sts)]
def B0(l:List Me):Ab:=l.flatMap Me.cells
theorem Me.cells_len(x:Me):x.cells.length=3:=rfl
def Md.cells(m:Md):Ab:=[Ao m.ver,Ao m.iss,Ao m.nxt,.lst false 3 m.ents.length (B0 m.ents),Ao m.sig.leaf,.lst false 1 m.sig.chains.length (Ad .u64 m.sig.chains),.lst false 1 m.sig.path.length (Ad .u64 m.sig.path)]
theorem R1(l:List An):(C3 l).length=l.length*3:=U6 An.cells_len l
theorem BK(l:List Sa):(Dg l).length=l.length*2:=U6 Sa.cells_len l
theorem Oz(l:List Me):(B0 l).length=l.length*3:=U6 Me.cells_len l
theorem saa{l:List Sa}{i:Nat}{s:Sa}(h:l[i]?=some s):(Dg l).getD (i*2) .top=Ao s.kd/\(Dg l).getD (i*2+1) .top=Ao s.at_:=
 ⟨H4 Sa.cells_len h (j:=0) (by omega),H4 Sa.cells_len h (j:=1) (by omega)⟩
theorem mea{l:List Me}{i:Nat}{x:Me}(h:l[i]?=some x):(B0 l).getD (i*3) .top=Ac x.model/\(B0 l).getD (i*3+1) .top=.lst false 3 x.ans.length (C3 x.ans)/\(B0 l).getD (i*3+2) .top=.lst false 2 x.sts.length (Dg x.sts):=
 ⟨H4 Me.cells_len h (j:=0) (by omega),H4 Me.cells_len h (j:=1) (by omega),H4 Me.cells_len h (j:=2) (by omega)⟩
def Fw(a:An):Int:=if a.name.size<1\/32<a.name.size then 9 else if okS a.name=false then 6 else if D6 a.key.h=true then 9 else 0
def C8:List An->Int
 |[]=>0
 |a::r=>if Fw a≠0 then Fw a else C8 r
def Gm(p:Option Int)(s:Sa):Int:=if s.kd<1\/4<s.kd\/s.at_<0\/1099511627776<s.at_ then 9 else match p with|some q=>if s.at_<=q then 7 else 0|none=>0
def D5:Option Int->List Sa->Int
 |_,[]=>0
 |p,s::r=>if Gm p s≠0 then Gm p s else D5 (some s.at_) r
def Cy(x:Me):Int:=if 4<x.ans.length\/4<x.sts.length then 8 else if C8 x.ans≠0 then C8 x.ans else D5 none x.sts
def Jb(p:Option Int)(x:Me):Int:=match p with|some q=>if x.model<=q then 7 else 0|none=>0
def C4:Option Int->List Me->Int
 |_,[]=>0
 |p,x::r=>if Jb p x≠0 then Jb p x else if Cy x≠0 then Cy x else C4 (some x.model) r
def Bl(m:Md):Int:=if m.ver<1\/16<m.ver then 9 else if m.iss<0\/m.nxt<m.iss\/1099511627776<m.nxt then 9 else if 16<m.ents.length then 8 else C4 none m.ents
def Es(n:Int):It:=⟨5,n,N9⟩
def Eu(n:Int):It:=⟨1,n,N9⟩
def Aa5(a:An):List (List It):=[[⟨4,0,a.name⟩],[⟨3,0,Cf (I7 a.key)⟩]]
def Cx(a:An):List It:=Es 2::(Aa5 a).flatten
def Ab5(s:Sa):List (List It):=[[Eu s.kd],[Eu s.at_]]
def Cw(s:Sa):List It:=Es 2::(Ab5 s).flatten
def C9(vs:List (List It)):List It:=Es vs.length::vs.flatten
def Yn(x:Me):List (List It):=[[Eu x.model],C9 (x.ans.map Cx),C9 (x.sts.map Cw)]
def A3(x:Me):List It:=Es 3::(Yn x).flatten
def Qn(m:Md):List (List It):=[[Eu m.ver],[Eu m.iss],[Eu m.nxt],C9 (m.ents.map A3)]
def A4(m:Md):List It:=Es 4::(Qn m).flatten
theorem Afa(k:Ky):(Cf (I7 k)).size=9:=by rw[K7];rfl
theorem Zn:N9.size=0:=rfl
def Fg(l:List It):Prop:=∀x∈l,x.ok/\x.dat/\x.s.size<=32
theorem Fg.app{a b:List It}(ha:Fg a)(hb:Fg b):Fg (a++b):=fun x hx=>(Bu.1 hx).elim (ha x) (hb x)
theorem Fg.cons{x:It}{l:List It}(h:x.ok/\x.dat/\x.s.size<=32)(hl:Fg l):Fg (x::l):=fun y hy=>by
 rcases Bx.1 hy with rfl|hy
 ·exact h
 ·exact hl y hy
theorem Fg.flat{α:Type}{f:α->List It}{l:List α}(h:∀x∈l,Fg (f x)):Fg (l.map f).flatten:=fun y hy=>by
 obtain⟨v,hv,hy⟩:=List.mem_flatten.1 hy;obtain⟨x,hx,rfl⟩:=List.mem_map.1 hv;exact h x hx y hy
theorem Vy{n:Int}(h:0<=n):(Eu n).ok/\(Eu n).dat/\(Eu n).s.size<=32:=⟨⟨by show (1:Int)<=1;omega,by show (1:Int)<=8;omega,h,by show N9.size<=_;rw[Zn];omega⟩,.inr (.inr rfl),by show N9.size<=32;rw[Zn];omega⟩
theorem Ss{n:Int}(h:0<=n):(Es n).ok/\(Es n).dat/\(Es n).s.size<=32:=⟨⟨by show (1:Int)<=5;omega,by show (5:Int)<=8;omega,h,by show N9.size<=_;rw[Zn];omega⟩,.inr (.inr rfl),by show N9.size<=32;rw[Zn];omega⟩
theorem Jd{n:Int}(h:0<=n):US (Eu n):=⟨.inl rfl,by show N9.size<=_;rw[Zn];omega,(fun e=>by cases e),(by unfold L7 Eu;rfl),h⟩
theorem Ahw{a:An}(h:Fw a=0):1<=a.name.size/\a.name.size<=32/\okS a.name=true/\D6 a.key.h=false:=by
 unfold Fw at h;split at h
 ·cases h
 ·split at h
  ·cases h
  ·split at h
   ·cases h
   ·rename_i h1 h2 h3;exact⟨by omega,by omega,by simpa using h2,by simpa using h3⟩
theorem Af7{a:An}(h:Fw a=0):Val 1 (Cx a)/\Fg (Cx a):=by
 obtain⟨h1,h2,h3,_⟩:=Ahw h;have f1:US ⟨4,0,a.name⟩:=⟨.inr (.inr (.inr (.inl rfl))),by simp only;omega,fun _=>h3,by unfold L7;rfl,by simp⟩
 have f2:US ⟨3,0,Cf (I7 a.key)⟩:=⟨.inr (.inr (.inl rfl)),by simp only[Afa];omega,(fun e=>by cases e),by unfold L7;rfl,by simp⟩
 refine⟨Ua (k:=0) (vs:=Aa5 a) (fun v hv=>?_) (by simp[Aa5]),fun x hx=>?_⟩
 ·simp only[Aa5,Bx,Ig,or_false] at hv;rcases hv with rfl|rfl
  ·exact Gx f1 0
  ·exact Gx f2 0
 ·simp only[Cx,Aa5,List.flatten_cons,List.flatten_nil,List.append_nil,Bx,List.singleton_append,Ig,or_false] at hx;rcases hx with rfl|rfl|rfl
  ·exact Ss (by omega)
  ·exact⟨f1.ok,.inr (.inl rfl),h2⟩
  ·exact⟨f2.ok,.inl rfl,by simp only[Afa];omega⟩
theorem Zd:∀{l:List An},C8 l=0->∀a∈l,Fw a=0
 |[],_,a,ha=>by cases ha
 |b::r,h,a,ha=>by
  unfold C8 at h;by_cases h0:Fw b=0
  ·rw[Ba (by simp[h0])] at h;rcases Bx.1 ha with rfl|ha
   ·exact h0
   ·exact Zd h a ha
  ·rw[B7 h0] at h;exact absurd h h0
theorem At7{p:Option Int}{s:Sa}(h:Gm p s=0):1<=s.kd/\s.kd<=4/\0<=s.at_/\s.at_<=1099511627776:=by
 unfold Gm at h;split at h
 ·cases h
 ·omega
theorem GO:∀{p:Option Int}{l:List Sa},D5 p l=0->∀s∈l,1<=s.kd/\s.kd<=4/\0<=s.at_/\s.at_<=1099511627776
 |_,[],_,a,ha=>by cases ha
 |p,b::r,h,a,ha=>by
  unfold D5 at h;by_cases h0:Gm p b=0
  ·rw[Ba (by simp[h0])] at h;rcases Bx.1 ha with rfl|ha
   ·exact At7 h0
   ·exact GO h a ha
  ·rw[B7 h0] at h;exact absurd h h0
theorem Agz{s:Sa}(h0:0<=s.kd)(h1:0<=s.at_):Val 1 (Cw s)/\Fg (Cw s):=by
 refine⟨Ua (k:=0) (vs:=Ab5 s) (fun v hv=>?_) (by simp[Ab5]),?_⟩
 ·simp only[Ab5,Bx,Ig,or_false] at hv;rcases hv with rfl|rfl
  ·exact Gx (Jd h0) 0
  ·exact Gx (Jd h1) 0
 ·exact Fg.cons (Ss (by omega)) (Fg.cons (Vy h0) (Fg.cons (Vy h1) (fun x hx=>by cases hx)))
theorem O3(a:An):(Cx a).length=3:=rfl
theorem Wn(s:Sa):(Cw s).length=3:=rfl
theorem Hz{α:Type}{f:α->List It}{k:Nat}(hf:∀x,(f x).length=k):∀l:List α,(l.map f).flatten.length=l.length*k
 |[]=>by simp
 |x::l=>by rw[Rz,List.flatten_cons,G8,hf x,Hz hf l,G9,Nat.succ_mul];omega
theorem Wq{x:Me}(h:Cy x=0):x.ans.length<=4/\x.sts.length<=4/\C8 x.ans=0/\D5 none x.sts=0:=by
 unfold Cy at h;by_cases h0:4<x.ans.length\/4<x.sts.length
 ·rw[B7 h0] at h;cases h
 rw[Ba h0] at h;by_cases h1:C8 x.ans=0
 ·rw[Ba (by simp[h1])] at h;exact⟨by omega,by omega,h1,h⟩
 ·rw[B7 h1] at h;exact absurd h h1
theorem Aaf{l:List An}(hl:l.length<=4)(h:∀a∈l,Fw a=0):Val 2 (C9 (l.map Cx))/\Fg (C9 (l.map Cx)):=by
 refine⟨Ua (k:=1) (fun v hv=>?_) (by rw[List.length_map];omega),Fg.cons (Ss (by omega)) (Fg.flat fun a ha=>(Af7 (h a ha)).2)⟩
 obtain⟨a,ha,rfl⟩:=List.mem_map.1 hv;exact (Af7 (h a ha)).1
theorem Ai0{l:List Sa}(hl:l.length<=4)(h:∀s∈l,0<=s.kd/\0<=s.at_):Val 2 (C9 (l.map Cw))/\Fg (C9 (l.map Cw)):=by
 refine⟨Ua (k:=1) (fun v hv=>?_) (by rw[List.length_map];omega),Fg.cons (Ss (by omega)) (Fg.flat fun s hs=>(Agz (h s hs).1 (h s hs).2).2)⟩
 obtain⟨s,hs,rfl⟩:=List.mem_map.1 hv;exact (Agz (h s hs).1 (h s hs).2).1
theorem Tv{x:Me}(hm:0<=x.model)(h:Cy x=0):Val 3 (A3 x)/\Fg (A3 x)/\(A3 x).length<=28:=by
 obtain⟨h1,h2,h3,h4⟩:=Wq h;have va:=Aaf h1 (Zd h3);have vs:=Ai0 h2 (fun s hs=>by have:=GO h4 s hs;exact⟨by omega,by omega⟩)
 refine⟨Ua (k:=2) (vs:=Yn x) (fun v hv=>?_) (by simp[Yn]),?_,?_⟩
 ·simp only[Yn,Bx,Ig,or_false] at hv;rcases hv with rfl|rfl|rfl
  ·exact Gx (Jd hm) 2
  ·exact va.1
  ·exact vs.1
 ·refine Fg.cons (Ss (by omega)) ?_;simp only[Yn,List.flatten_cons,List.flatten_nil,List.append_nil];exact Fg.app (Fg.cons (Vy hm) (fun x hx=>by cases hx)) (Fg.app va.2 vs.2)
 ·simp only[A3,Yn,C9,List.flatten_cons,List.flatten_nil,List.append_nil,G9,G8,List.length_singleton,Vl,Hz O3,Hz Wn];omega
theorem R0:∀{p:Option Int}{l:List Me},C4 p l=0->∀x∈l,Cy x=0
 |_,[],_,a,ha=>by cases ha
 |p,b::r,h,a,ha=>by
  unfold C4 at h;by_cases h0:Jb p b=0
  rotate_left
  ·rw[B7 h0] at h;exact absurd h h0
  rw[Ba (by simp[h0])] at h;by_cases h1:Cy b=0
  ·rw[Ba (by simp[h1])] at h;rcases Bx.1 ha with rfl|ha
   ·exact h1
   ·exact R0 h a ha
  ·rw[B7 h1] at h;exact absurd h h1
theorem Mw{m:Md}(h:Bl m=0):1<=m.ver/\m.ver<=16/\0<=m.iss/\m.iss<=m.nxt/\m.nxt<=1099511627776/\m.ents.length<=16/\C4 none m.ents=0:=by
 unfold Bl at h;split at h
 ·cases h
 ·split at h
  ·cases h
  ·split at h
   ·cases h
   ·exact⟨by omega,by omega,by omega,by omega,by omega,by omega,h⟩
theorem FB{α:Type}{f:α->List It}{k:Nat}:∀{l:List α},(∀x∈l,(f x).length<=k)->(l.map f).flatten.length<=l.length*k
 |[],_=>by simp
 |x::l,h=>by
  have h1:=h x (by simp);have h2:=FB (l:=l) (fun y hy=>h y (by simp[hy]));rw[Rz,List.flatten_cons,G8,G9,Nat.succ_mul];omega
theorem Ad7{l:List Me}(hl:l.length<=16)(h:∀x∈l,0<=x.model/\Cy x=0):Val 4 (C9 (l.map A3))/\Fg (C9 (l.map A3))/\(C9 (l.map A3)).length<=449:=by
 refine⟨Ua (k:=3) (fun v hv=>?_) (by rw[List.length_map];omega),Fg.cons (Ss (by omega)) (Fg.flat fun x hx=>(Tv (h x hx).1 (h x hx).2).2.1),?_⟩
 ·obtain⟨x,hx,rfl⟩:=List.mem_map.1 hv;exact (Tv (h x hx).1 (h x hx).2).1
 ·have:=FB (f:=A3) (k:=28) (l:=l) (fun x hx=>(Tv (h x hx).1 (h x hx).2).2.2);unfold C9;rw[G9];omega
structure Md.wf(m:Md):Prop where
 mod:∀x∈m.ents,0<=x.model
theorem Wa{m:Md}(hw:m.wf)(h:Bl m=0):Val 5 (A4 m)/\Fg (A4 m)/\(A4 m).length<=453:=by
 obtain⟨h1,h2,h3,h4,h5,h6,h7⟩:=Mw h;obtain⟨v1,v2,v3⟩:=Ad7 h6 (fun x hx=>⟨hw.mod x hx,R0 h7 x hx⟩);refine⟨Ua (k:=4) (vs:=Qn m) (fun v hv=>?_) (by simp[Qn]),?_,?_⟩
 ·simp only[Qn,Bx,Ig,or_false] at hv;rcases hv with rfl|rfl|rfl|rfl
  ·exact Gx (Jd (by omega)) 4
  ·exact Gx (Jd (by omega)) 4
  ·exact Gx (Jd (by omega)) 4
  ·exact v1
 ·refine Fg.cons (Ss (by omega)) ?_;simp only[Qn,List.flatten_cons,List.flatten_nil,List.append_nil];exact Fg.app (Fg.cons (Vy (by omega)) (fun x hx=>by cases hx)) (Fg.app (Fg.cons (Vy (by omega)) (fun x hx=>by cases hx)) (Fg.app (Fg.cons (Vy (by omega)) (fun x hx=>by cases hx)) v2))
 ·simp only[A4,Qn,List.flatten_cons,List.flatten_nil,List.append_nil,G9,G8,List.length_singleton,Vl];omega
abbrev RS:=List It × Bool
def Bg(k:Int)(s:RS):It × RS:=if s.2=true then (it0,(s.1,true)) else match s.1 with|[]=>(it0,([],true))|x::r=>if x.k=k then (x,(r,false)) else (it0,(x::r,true))
def Aru(l:Cg):Ky:=(QV l).getD ⟨0,0⟩
def OI(s:RS):An × RS:=
 (⟨(Bg 4 (Bg 5 s).2).1.s,Aru (Mi (Bg 3 (Bg 4 (Bg 5 s).2).2).1.s)⟩,((Bg 3 (Bg 4 (Bg 5 s).2).2).2.1,(Bg 3 (Bg 4 (Bg 5 s).2).2).2.2||(QV (Mi (Bg 3 (Bg 4 (Bg 5 s).2).2).1.s)).isNone))
def M8:Nat->Int->RS->List An × RS
 |0,_,s=>([],s)
 |f+1,n,s=>if n>0/\s.2=false then ((OI s).1::(M8 f (n-1) (OI s).2).1,(M8 f (n-1) (OI s).2).2) else ([],s)
def TJ(s:RS):Sa × RS:=(⟨wrap .i64 (Bg 1 (Bg 5 s).2).1.n,wrap .i64 (Bg 1 (Bg 1 (Bg 5 s).2).2).1.n⟩,(Bg 1 (Bg 1 (Bg 5 s).2).2).2)
def Pw:Nat->Int->RS->List Sa × RS
 |0,_,s=>([],s)
 |f+1,n,s=>if n>0/\s.2=false then ((TJ s).1::(Pw f (n-1) (TJ s).2).1,(Pw f (n-1) (TJ s).2).2) else ([],s)
def EC(s:RS):It × RS:=Bg 5 (Bg 1 (Bg 5 s).2).2
def CG(s:RS):List An × RS:=M8 (s.1.length+2) (EC s).1.n (EC s).2
def BO(s:RS):It × RS:=Bg 5 (CG s).2
def Abu(s:RS):List Sa × RS:=Pw (s.1.length+2) (BO s).1.n (BO s).2
def N5(s:RS):Me × RS:=(⟨(Bg 1 (Bg 5 s).2).1.n,(CG s).1,(Abu s).1⟩,(Abu s).2)
def Id:Nat->Int->RS->List Me × RS
 |0,_,s=>([],s)
 |f+1,n,s=>if n>0/\s.2=false then ((N5 s).1::(Id f (n-1) (N5 s).2).1,(Id f (n-1) (N5 s).2).2) else ([],s)
def EO(l:List It):It × RS:=Bg 1 (Bg 5 (l,false)).2
def EA(l:List It):It × RS:=Bg 1 (EO l).2
def EP(l:List It):It × RS:=Bg 1 (EA l).2
def Yz(l:List It):It × RS:=Bg 5 (EP l).2
def Ag6(l:List It):List Me × RS:=Id (l.length+2) (Yz l).1.n (Yz l).2
def sg0:Sg:=⟨0,[],[]⟩
def FY(l:List It):Md × Bool:=(⟨wrap .i64 (EO l).1.n,wrap .i64 (EA l).1.n,wrap .i64 (EP l).1.n,(Ag6 l).1,sg0⟩,!(Ag6 l).2.2&&(((Ag6 l).2.1.length:Int)==0))
theorem F2{k:Int}{x:It}{r:List It}(h:x.k=k):Bg k (x::r,false)=(x,(r,false)):=by unfold Bg;rw[Ba (by simp)];simp only[h,if_true]
theorem Atk{a:An}(h:Fw a=0)(hr:Ui a.key.root):QV (Mi (Cf (I7 a.key)))=some a.key:=by rw[Rh Aze];exact Amb (Ahw h).2.2.2 hr
theorem Asl{a:An}{r:List It}(h:Fw a=0)(hr:Ui a.key.root):OI (Cx a++r,false)=(a,(r,false)):=by have e1:Bg 5 (Cx a++r,false)=(Es 2,((⟨4,0,a.name⟩:It)::⟨3,0,Cf (I7 a.key)⟩::r,false)):=F2 rfl;have e2:Bg 4 ((⟨4,0,a.name⟩:It)::⟨3,0,Cf (I7 a.key)⟩::r,false)=(⟨4,0,a.name⟩,(⟨3,0,Cf (I7 a.key)⟩::r,false)):=F2 rfl;have e3:Bg 3 ((⟨3,0,Cf (I7 a.key)⟩:It)::r,false)=(⟨3,0,Cf (I7 a.key)⟩,(r,false)):=F2 rfl;unfold OI Aru;rw[e1];simp only[e2,e3,Atk h hr];rfl
theorem Ad9{rest:List It}:∀(l:List An)(f:Nat),l.length<f->(∀a∈l,Fw a=0/\Ui a.key.root)->M8 f l.length ((l.map Cx).flatten++rest,false)=(l,(rest,false))
 |_,0,h,_=>by omega
 |[],f+1,_,_=>by
  unfold M8;rw[Ba (by simp)];rfl
 |a::l,f+1,h,hk=>by
  simp only[G9] at h;have ih:=Ad9 (rest:=rest) l f (by omega) (fun x hx=>hk x (by simp[hx]));have e:=Asl (a:=a) (r:=(l.map Cx).flatten++rest) (hk a (by simp)).1 (hk a (by simp)).2;rw[Rz,List.flatten_cons,IU];unfold M8;rw[B7 ⟨by simp only[G9];omega,rfl⟩,e]
  have el:(((a::l).length:Nat):Int)-1=(l.length:Int):=by simp only[G9];omega
  rw[el];simp only[ih]
theorem Asx{s:Sa}{r:List It}(h:1<=s.kd/\s.kd<=4/\0<=s.at_/\s.at_<=1099511627776):TJ (Cw s++r,false)=(s,(r,false)):=by have e1:Bg 5 (Cw s++r,false)=(Es 2,(Eu s.kd::Eu s.at_::r,false)):=F2 rfl;have e2:Bg 1 (Eu s.kd::Eu s.at_::r,false)=(Eu s.kd,(Eu s.at_::r,false)):=F2 rfl;have e3:Bg 1 (Eu s.at_::r,false)=(Eu s.at_,(r,false)):=F2 rfl;have n1:(Eu s.kd).n=s.kd:=rfl;have n2:(Eu s.at_).n=s.at_:=rfl;unfold TJ;rw[e1];simp only[e2,e3,n1,n2];rw[Ah (by omega) (by omega),Ah (by omega) (by omega)]
theorem Adw{rest:List It}:∀(l:List Sa)(f:Nat),l.length<f->(∀s∈l,1<=s.kd/\s.kd<=4/\0<=s.at_/\s.at_<=1099511627776)->Pw f l.length ((l.map Cw).flatten++rest,false)=(l,(rest,false))
 |_,0,h,_=>by omega
 |[],f+1,_,_=>by
  unfold Pw;rw[Ba (by simp)];rfl
 |a::l,f+1,h,hk=>by
  simp only[G9] at h;have ih:=Adw (rest:=rest) l f (by omega) (fun x hx=>hk x (by simp[hx]));have e:=Asx (s:=a) (r:=(l.map Cw).flatten++rest) (hk a (by simp));rw[Rz,List.flatten_cons,IU];unfold Pw;rw[B7 ⟨by simp only[G9];omega,rfl⟩,e]
  have el:(((a::l).length:Nat):Int)-1=(l.length:Int):=by simp only[G9];omega
  rw[el];simp only[ih]
def Me.rts(x:Me):Prop:=∀a∈x.ans,Ui a.key.root
theorem JO(x:Me)(r:List It):A3 x++r=Es 3::Eu x.model::Es x.ans.length::((x.ans.map Cx).flatten++(Es x.sts.length::((x.sts.map Cw).flatten++r))):=by unfold A3 Yn C9;simp only[List.flatten_cons,List.flatten_nil,List.append_nil,Zzp,PT,IU,List.length_map]
theorem Arr{x:Me}{r:List It}(h:Cy x=0)(hr:x.rts):N5 (A3 x++r,false)=(x,(r,false)):=by
 obtain⟨h1,h2,h3,h4⟩:=Wq h;have e1:Bg 5 (A3 x++r,false)=(Es 3,(Eu x.model::Es x.ans.length::((x.ans.map Cx).flatten++(Es x.sts.length::((x.sts.map Cw).flatten++r))),false)):=by rw[JO];exact F2 rfl
 have e2:Bg 1 (Eu x.model::Es x.ans.length::((x.ans.map Cx).flatten++(Es x.sts.length::((x.sts.map Cw).flatten++r))),false)=(Eu x.model,(Es x.ans.length::((x.ans.map Cx).flatten++(Es x.sts.length::((x.sts.map Cw).flatten++r))),false)):=F2 rfl
 have eA:EC (A3 x++r,false)=(Es x.ans.length,((x.ans.map Cx).flatten++(Es x.sts.length::((x.sts.map Cw).flatten++r)),false)):=by
  unfold EC;rw[e1];simp only[e2];exact F2 rfl
 have len:x.ans.length<(A3 x++r).length+2/\x.sts.length<(A3 x++r).length+2:=by
  rw[JO];simp only[G9,G8,Hz O3,Hz Wn];omega
 have eB:CG (A3 x++r,false)=(x.ans,(Es x.sts.length::((x.sts.map Cw).flatten++r),false)):=by
  unfold CG;rw[eA];exact Ad9 x.ans _ len.1 (fun a ha=>⟨Zd h3 a ha,hr a ha⟩)
 have eC:BO (A3 x++r,false)=(Es x.sts.length,((x.sts.map Cw).flatten++r,false)):=by
  unfold BO;rw[eB];exact F2 rfl
 have eD:Abu (A3 x++r,false)=(x.sts,(r,false)):=by
  unfold Abu;rw[eC];exact Adw x.sts _ len.2 (GO h4)
 unfold N5;rw[eB,eD,e1];simp only[e2];rfl
theorem VV{rest:List It}:∀(l:List Me)(f:Nat),l.length<f->(∀x∈l,Cy x=0/\x.rts)->Id f l.length ((l.map A3).flatten++rest,false)=(l,(rest,false))
 |_,0,h,_=>by omega
 |[],f+1,_,_=>by
  unfold Id;rw[Ba (by simp)];rfl
 |a::l,f+1,h,hk=>by
  simp only[G9] at h;have ih:=VV (rest:=rest) l f (by omega) (fun x hx=>hk x (by simp[hx]));have e:=Arr (x:=a) (r:=(l.map A3).flatten++rest) (hk a (by simp)).1 (hk a (by simp)).2;rw[Rz,List.flatten_cons,IU];unfold Id;rw[B7 ⟨by simp only[G9];omega,rfl⟩,e]
  have el:(((a::l).length:Nat):Int)-1=(l.length:Int):=by simp only[G9];omega
  rw[el];simp only[ih]
theorem ED(m:Md):A4 m=Es 4::Eu m.ver::Eu m.iss::Eu m.nxt::Es m.ents.length::(m.ents.map A3).flatten:=by unfold A4 Qn C9;simp only[List.flatten_cons,List.flatten_nil,List.append_nil,Zzp,PT,List.length_map]
theorem Ara{l:List Me}:l.length<=(l.map A3).flatten.length:=by
 induction l with
 |nil=>simp
 |cons x l ih=>
  rw[Rz,List.flatten_cons,G8,G9];have:1<=(A3 x).length:=by unfold A3;simp
  omega
theorem Apr{m:Md}(h:Bl m=0)(hr:∀x∈m.ents,x.rts):FY (A4 m)=({ m with sig:=sg0 },true):=by
 obtain⟨h1,h2,h3,h4,h5,h6,h7⟩:=Mw h;have e1:Bg 5 (A4 m,false)=(Es 4,(Eu m.ver::Eu m.iss::Eu m.nxt::Es m.ents.length::(m.ents.map A3).flatten,false)):=by rw[ED];exact F2 rfl
 have eA:EO (A4 m)=(Eu m.ver,(Eu m.iss::Eu m.nxt::Es m.ents.length::(m.ents.map A3).flatten,false)):=by unfold EO;rw[e1];exact F2 rfl
 have eB:EA (A4 m)=(Eu m.iss,(Eu m.nxt::Es m.ents.length::(m.ents.map A3).flatten,false)):=by unfold EA;rw[eA];exact F2 rfl
 have eC:EP (A4 m)=(Eu m.nxt,(Es m.ents.length::(m.ents.map A3).flatten,false)):=by unfold EP;rw[eB];exact F2 rfl
 have eD:Yz (A4 m)=(Es m.ents.length,((m.ents.map A3).flatten,false)):=by unfold Yz;rw[eC];exact F2 rfl
 have eE:Ag6 (A4 m)=(m.ents,([],false)):=by
  unfold Ag6;rw[eD];have:=VV (rest:=[]) m.ents ((A4 m).length+2) (by rw[ED];simp only[G9];have:=Ara (l:=m.ents);omega) (fun x hx=>⟨R0 h7 x hx,hr x hx⟩)
  rw[List.append_nil] at this;exact this
 have n1:(Eu m.ver).n=m.ver:=rfl;have n2:(Eu m.iss).n=m.iss:=rfl;have n3:(Eu m.nxt).n=m.nxt:=rfl;unfold FY;rw[eA,eB,eC,eE];simp only[n1,n2,n3];rw[Ah (by omega) (by omega),Ah (by omega) (by omega),Ah (by omega) (by omega)];rfl
def okA(a:An):Prop:=Ui a.key.root/\a.name.size<=1024
def okM(x:Me):Prop:=Ui x.model/\(∀a∈x.ans,okA a)/\x.ans.length<=1010/\x.sts.length<=1010
def FT(l:List It):Prop:=∀x∈l,OkX x
theorem Aoe:Ui it0.n:=⟨by decide,by decide⟩
theorem Arj:it0.s.size<=1024:=by decide
theorem Da{k:Int}{s:RS}(h:FT s.1):Ui (Bg k s).1.n/\(Bg k s).1.s.size<=1024/\FT (Bg k s).2.1/\(Bg k s).2.1.length<=s.1.length/\((Bg k s).2.2=false->s.2=false/\(Bg k s).2.1.length<s.1.length):=by
 obtain⟨l,b⟩:=s;unfold Bg;cases b
 ·rw[Ba (by simp)];cases l with
  |nil=>exact⟨Aoe,Arj,h,Dn _,fun e=>(by cases e)⟩
  |cons x r=>
   simp only;by_cases hk:x.k=k
   ·simp only[hk,if_true];have hx:=h x (by simp);exact⟨⟨hx.n0,hx.n1⟩,hx.s1,fun y hy=>h y (by simp[hy]),by simp,fun _=>⟨by trivial,by simp⟩⟩
   ·simp only[hk,if_false];exact⟨Aoe,Arj,h,Dn _,fun e=>(by cases e)⟩
 ·rw[B7 rfl];exact⟨Aoe,Arj,h,Dn _,fun e=>(by cases e)⟩
theorem Aul(l:Cg):Ui (Aru l).root:=by
 unfold Aru;cases h:QV l with
 |none=>exact⟨by simp,by simp⟩
 |some k=>exact (Auz h).2
theorem Apb{s:RS}(h:FT s.1):okA (OI s).1/\FT (OI s).2.1/\(OI s).2.1.length<=s.1.length/\((OI s).2.2=false->(OI s).2.1.length<s.1.length):=by
 obtain⟨_,_,a3,a4,a5⟩:=Da (k:=5) h;obtain⟨_,b2,b3,b4,b5⟩:=Da (k:=4) a3;obtain⟨_,_,c3,c4,c5⟩:=Da (k:=3) b3;unfold OI;refine⟨⟨Aul _,b2⟩,c3,by simp only;omega,fun e=>?_⟩
 simp only[Bool.or_eq_false_iff] at e;have:=c5 e.1;simp only;omega
theorem Aan:∀{f:Nat}{n:Int}{s:RS},FT s.1->(∀a∈(M8 f n s).1,okA a)/\(M8 f n s).1.length<=f/\FT (M8 f n s).2.1/\(M8 f n s).2.1.length<=s.1.length
 |0,n,s,h=>⟨fun a ha=>(by cases ha),Dn _,h,Dn _⟩
 |f+1,n,s,h=>by
  obtain⟨a1,a2,a3,_⟩:=Apb h;obtain⟨b1,b2,b3,b4⟩:=Aan (f:=f) (n:=n-1) a2;unfold M8;split
  ·refine⟨fun a ha=>?_,by simp only[G9];omega,b3,by simp only;omega⟩
   rcases Bx.1 ha with rfl|ha
   ·exact a1
   ·exact b1 a ha
  ·exact⟨fun a ha=>(by cases ha),Nat.zero_le _,h,Dn _⟩
theorem Aqw{s:RS}(h:FT s.1):FT (TJ s).2.1/\(TJ s).2.1.length<=s.1.length/\((TJ s).2.2=false->(TJ s).2.1.length<s.1.length):=by
 obtain⟨_,_,a3,a4,a5⟩:=Da (k:=5) h;obtain⟨_,_,b3,b4,b5⟩:=Da (k:=1) a3;obtain⟨_,_,c3,c4,c5⟩:=Da (k:=1) b3;unfold TJ;refine⟨c3,by simp only;omega,fun e=>?_⟩
 have:=c5 e;simp only;omega
theorem Ahx:∀{f:Nat}{n:Int}{s:RS},FT s.1->(Pw f n s).1.length<=f/\FT (Pw f n s).2.1/\(Pw f n s).2.1.length<=s.1.length
 |0,n,s,h=>⟨Dn _,h,Dn _⟩
 |f+1,n,s,h=>by
  obtain⟨a2,a3,_⟩:=Aqw h;obtain⟨b2,b3,b4⟩:=Ahx (f:=f) (n:=n-1) a2;unfold Pw;split
  ·exact⟨by simp only[G9];omega,b3,by simp only;omega⟩
  ·exact⟨Nat.zero_le _,h,Dn _⟩
theorem Aaw{s:RS}(h:FT s.1)(hl:s.1.length<=1000):okM (N5 s).1/\FT (N5 s).2.1/\(N5 s).2.1.length<=s.1.length/\((Bg 5 s).2.2=false->(N5 s).2.1.length<s.1.length):=by
 obtain⟨_,_,a3,a4,a5⟩:=Da (k:=5) h;obtain⟨b1,_,b3,b4,b5⟩:=Da (k:=1) a3;have hA:=Da (k:=5) b3;have hB:=Aan (f:=s.1.length+2) (n:=(EC s).1.n) (s:=(EC s).2) hA.2.2.1;have hC:=Da (k:=5) (s:=(CG s).2) hB.2.2.1;have hD:=Ahx (f:=s.1.length+2) (n:=(BO s).1.n) (s:=(BO s).2) hC.2.2.1;have l1:(EC s).2.1.length<=(Bg 5 s).2.1.length:=Nat.le_trans hA.2.2.2.1 b4;have l2:(CG s).2.1.length<=(EC s).2.1.length:=hB.2.2.2;have l3:(BO s).2.1.length<=(CG s).2.1.length:=hC.2.2.2.1;have l4:(Abu s).2.1.length<=(BO s).2.1.length:=hD.2.2;have m1:(CG s).1.length<=s.1.length+2:=hB.2.1;have m2:(Abu s).1.length<=s.1.length+2:=hD.1;unfold N5;refine⟨⟨b1,hB.1,by simp only;omega,by simp only;omega⟩,hD.2.1,by simp only;omega,fun e=>?_⟩
 have:=(a5 e).2;simp only;omega
theorem Aqx{s:RS}(h:FT s.1)(hl:s.1.length<=1000):(N5 s).2.2=false->(N5 s).2.1.length<s.1.length:=by
 intro e;by_cases hf:(Bg 5 s).2.2=false
 ·exact (Aaw h hl).2.2.2 hf
 ·exfalso;have hf:(Bg 5 s).2.2=true:=by simpa using hf
  have st:∀{k:Int} {q:RS},q.2=true->(Bg k q).2.2=true:=fun {k q} hq=>by unfold Bg;rw[B7 hq]
  have h1:(EC s).2.2=true:=st (st hf)
  have h2:(CG s).2.2=true:=by
   unfold CG M8;rw[Ba (by simp[h1])];exact h1
  have h3:(BO s).2.2=true:=st h2
  have h4:(Abu s).2.2=true:=by
   unfold Abu Pw;rw[Ba (by simp[h3])];exact h3
  have:(N5 s).2.2=true:=h4;rw[this] at e;cases e
theorem Aei:∀{f:Nat}{n:Int}{s:RS},FT s.1->s.1.length<=1000->(∀x∈(Id f n s).1,okM x)/\(Id f n s).1.length<=f/\FT (Id f n s).2.1/\(Id f n s).2.1.length<=s.1.length
 |0,n,s,h,_=>⟨fun a ha=>(by cases ha),Dn _,h,Dn _⟩
 |f+1,n,s,h,hl=>by
  obtain⟨a1,a2,a3,_⟩:=Aaw h hl;obtain⟨b1,b2,b3,b4⟩:=Aei (f:=f) (n:=n-1) a2 (by omega);unfold Id;split
  ·refine⟨fun a ha=>?_,by simp only[G9];omega,b3,by simp only;omega⟩
   rcases Bx.1 ha with rfl|ha
   ·exact a1
   ·exact b1 a ha
  ·exact⟨fun a ha=>(by cases ha),Nat.zero_le _,h,Dn _⟩
theorem Aai{l:List It}(h:FT l)(hl:l.length<=1000):(∀x∈(FY l).1.ents,okM x)/\(FY l).1.ents.length<=1010/\FT (EO l).2.1/\(EO l).2.1.length<=1000/\FT (EA l).2.1/\(EA l).2.1.length<=1000/\FT (EP l).2.1/\(EP l).2.1.length<=1000/\FT (Yz l).2.1/\(Yz l).2.1.length<=l.length:=by have h0:=Da (k:=5) (s:=(l,false)) h;have hA:=Da (k:=1) h0.2.2.1;have hB:=Da (k:=1) (s:=(EO l).2) hA.2.2.1;have hC:=Da (k:=1) (s:=(EA l).2) hB.2.2.1;have hD:=Da (k:=5) (s:=(EP l).2) hC.2.2.1;have l0:(Bg 5 ((l,false):RS)).2.1.length<=l.length:=h0.2.2.2.1;have l1:(EO l).2.1.length<=(Bg 5 ((l,false):RS)).2.1.length:=hA.2.2.2.1;have l2:(EA l).2.1.length<=(EO l).2.1.length:=hB.2.2.2.1;have l3:(EP l).2.1.length<=(EA l).2.1.length:=hC.2.2.2.1;have l4:(Yz l).2.1.length<=(EP l).2.1.length:=hD.2.2.2.1;have hE:=Aei (f:=l.length+2) (n:=(Yz l).1.n) (s:=(Yz l).2) hD.2.2.1 (by omega);exact⟨hE.1,by have:(Ag6 l).1.length<=l.length+2:=hE.2.1;show (Ag6 l).1.length<=_;omega,hA.2.2.1,by omega,hB.2.2.1,by omega,hC.2.2.1,by omega,hD.2.2.1,by omega⟩
section
variable {xs:FuncId->Option (Ab->Option Dl)}(fu d:Nat)(call:Bi)
theorem Xp(Z:ByteArray)(Y X:Int):F1 C0 fu d 104 [.agg [.sc (.string Z),Y,Ac X]] fun call=>Bd (decide ((↑(ByteArray.size Z):Int)<1)) (Bv [.own 3 0 [],(9:Int)]) (Bd (decide ((↑(ByteArray.size Z):Int)>32)) (Bv [.own 3 0 [],(9:Int)]) (Eb (call 126 [.sc (.string Z)]) fun a b=>Co a fun a=>Aq b<|Bd (!a) (Bv [.own 3 0 [],(6:Int)]) (Eb (call 129 [.agg [Y,Ac X]]) fun a b=>Kn 1 a fun a c=>D1 .i64 b fun b=>Bd (b != 0) (Bv [.own 3 0 [],b]) (Eb (call 130 [.sc (.string Z)]) fun b e=>Kn 3 b fun b f=>Aq e<|At (decide (0+a*1<=c.length))<|Eb (call 131 [Ai 1 a (List.take (a*1) (c.drop 0))]) fun a c=>Kn 3 a fun a e=>Aq c<|At (decide (0+b*3<=f.length))<|At (decide (0+a*3<=e.length))<|Eb (call 63 [Ai 1 2 [Ai 3 b (List.take (b*3) (f.drop 0)),Ai 3 a (List.take (a*3) (e.drop 0))]]) fun a b=>Kn 3 a fun a c=>D1 .i64 b fun b=>At (decide (a*3<=c.length))<|Bv [.own 3 a (c.take (a*3)),b])))):=by show _=_;kernel_rfl
def G0(Z:Int)(Y:Nat)(X:Ab)(W:Nat)(V:Ab)(U T S:Nat)(Q:Ab)(P O N:Int)(M:Nat)(L:Ab)(K:Nat)(J I:Ab):Option Dl:=Lu fu call 62 Tryz.f62 [.agg [Ac Z,Ai 3 Y X,Ai 2 W V]] [.r,.r,.r,.l,.r,.l] U ⟨lk [(1,.ptr 1 0),(4,.view 4 1 0 T),(27,Ai 3 S Q),(28,P),(29,O)],Bq [(1,.st [Ac N,Ai 3 M L,Ai 2 K J]),(4,.ar false I)]⟩
def Fm(Z:Int)(Y:Nat)(X:Ab)(W:Nat)(V:Ab)(U T:Nat)(S Q:Nat)(P:Ab)(O N M:Int)(L:Nat)(K:Ab)(J:Nat)(I H G:Ab):Option Dl:=Lu fu call 62 Tryz.f62 [.agg [Ac Z,Ai 3 Y X,Ai 2 W V]] [.r,.r,.r,.r,.r,.r,.r,.l,.r,.l] U ⟨lk [(1,.ptr 1 0),(4,.view 4 1 0 T),(9,.view 9 3 0 S),(55,Ai 2 Q P),(56,O),(57,N)],Bq [(1,.st [Ac M,Ai 3 L K,Ai 2 J I]),(4,.ar false H),(9,.ar false G)]⟩
def Oa(Z:Int)(Y:Nat)(X:Ab)(W:Nat)(V:Ab)(U T:Nat)(S Q:Nat)(P:Int)(O:Nat)(N:Ab)(M L K:Int)(J:Nat)(I:Ab)(H:Nat)(G E D:Ab)(B A:Int):Option Dl:=Lu fu call 62 Tryz.f62 [.agg [Ac Z,Ai 3 Y X,Ai 2 W V]] [.r,.r,.r,.r,.r,.r,.r,.l,.r,.l,.i U,.r,.r,.l,.l,.r] T ⟨lk [(1,.ptr 1 0),(4,.view 4 1 0 S),(9,.view 9 3 0 Q),(11,P),(12,.ptr 12 0),(55,Ai 2 O N),(56,M),(57,L)],Bq [(1,.st [Ac K,Ai 3 J I,Ai 2 H G]),(4,.ar false E),(9,.ar false D),(12,.st [B,A])]⟩
theorem H9(T:Int)(S:Nat)(Q:Ab)(P:Nat)(O:Ab)(I Y N:Nat)(X:Ab)(M Z L:Int)(K:Nat)(J:Ab)(W:Nat)(V U:Ab):G0 fu call T S Q P O (I+1) Y N X M Z L K J W V U=(Bd (decide (Z<M)) (At (decide (0<=Z)&&decide (Z<(↑N:Int)))<|Ez (X.getD (Z.toNat*3) .top) fun a=>A8 .i64 (X.getD (Z.toNat*3+1) .top) fun b=>A8 .u64 (X.getD (Z.toNat*3+1+1) .top) fun c=>Eb (call 104 [.agg [.sc (.string a),b,Ac c]]) fun a b=>Kn 3 a fun a c=>D1 .i64 b fun b=>Bd (b != 0) (Bv [.own 3 0 [],b]) (At (decide (0+a*3<=c.length))<|Ve Y 1 24 U [Ai 3 a (List.take (a*3) (c.drop 0))] fun a b=>Aa (wrap .i64 (Z+1)) fun c=>G0 fu call T S Q P O I a N X M c L K J W V b)) (At (decide (0+Y*1<=U.length))<|Eb (call 63 [Ai 1 Y (List.take (Y*1) (U.drop 0))]) fun a b=>Kn 3 a fun a c=>D1 .i64 b fun b=>Bd (b != 0) (Bv [.own 3 0 [],b]) (Fm fu call T S Q P O fu 0 a W V (↑W:Int) 0 L K J W V ([]) c))):=by kernel_rfl
theorem Dw(P:Int)(O:Nat)(N:Ab)(M:Nat)(L:Ab)(K Y:Nat)(X T:Nat)(W:Ab)(S Z Q:Int)(J:Nat)(I:Ab)(H:Nat)(G V U:Ab):Fm fu call P O N M L (K+1) Y X T W S Z Q J I H G V U=(Bd (decide (Z<S)) (At (decide (0<=Z)&&decide (Z<(↑T:Int)))<|A8 .i64 (W.getD (Z.toNat*2) .top) fun a=>A8 .i64 (W.getD (Z.toNat*2+1) .top) fun b=>Bd (decide (a<1)) (Bv [.own 3 0 [],(9:Int)]) (Bd (decide (a>4)) (Bv [.own 3 0 [],(9:Int)]) (Bd (decide (b<0)) (Bv [.own 3 0 [],(9:Int)]) (Bd (decide (b>1099511627776)) (Bv [.own 3 0 [],(9:Int)]) (Oa fu call P O N M L K fu Y X Z T W S Z Q J I H G V U a b))))) (At (decide (0+Y*1<=V.length))<|Eb (call 63 [Ai 1 Y (List.take (Y*1) (V.drop 0))]) fun a b=>Kn 3 a fun a c=>D1 .i64 b fun b=>Bd (b != 0) (Bv [.own 3 0 [],b]) (Eb (call 64 [Ac Q]) fun b e=>Kn 3 b fun b f=>Aq e<|At (decide (0+b*3<=f.length))<|At (decide (0+X*3<=U.length))<|At (decide (0+a*3<=c.length))<|Eb (call 63 [Ai 1 3 [Ai 3 b (List.take (b*3) (f.drop 0)),Ai 3 X (List.take (X*3) (U.drop 0)),Ai 3 a (List.take (a*3) (c.drop 0))]]) fun a b=>Kn 3 a fun a c=>D1 .i64 b fun b=>At (decide (a*3<=c.length))<|Bv [.own 3 a (c.take (a*3)),b]))):=by kernel_rfl
theorem H8(V:Int)(U:Nat)(T:Ab)(S:Nat)(Q:Ab)(P Z:Nat)(Ld:0<Z)(O N:Nat)(M:Int)(L:Nat)(K:Ab)(J I H:Int)(G:Nat)(E:Ab)(Y:Nat)(X D B:Ab)(A W:Int):Oa fu call V U T S Q P Z O N M L K J I H G E Y X D B A W=(Bd (decide (M>0)) (Aa (wrap .i64 (M-1)) fun a=>At (decide (0<=a)&&decide (a<(↑Y:Int)))<|A8 .i64 (X.getD (a.toNat*2+1) .top) fun a=>Bd (decide (W<=a)) (Bv [.own 3 0 [],(7:Int)]) (Aa (wrap .u64 A) fun a=>Eb (call 64 [Ac a]) fun a b=>Kn 3 a fun a c=>Aq b<|Aa (wrap .u64 W) fun b=>Eb (call 64 [Ac b]) fun b e=>Kn 3 b fun b f=>Aq e<|At (decide (0+a*3<=c.length))<|At (decide (0+b*3<=f.length))<|Eb (call 63 [Ai 1 2 [Ai 3 a (List.take (a*3) (c.drop 0)),Ai 3 b (List.take (b*3) (f.drop 0))]]) fun a b=>Kn 3 a fun a c=>D1 .i64 b fun b=>Bd (b != 0) (Bv [.own 3 0 [],b]) (At (decide (0+a*3<=c.length))<|Ve O 1 24 D [Ai 3 a (List.take (a*3) (c.drop 0))] fun a b=>Aa (wrap .i64 (I+1)) fun c=>Fm fu call V U T S Q P a N L K J c H G E Y X b B))) (Aa (wrap .u64 A) fun a=>Eb (call 64 [Ac a]) fun a b=>Kn 3 a fun a c=>Aq b<|Aa (wrap .u64 W) fun b=>Eb (call 64 [Ac b]) fun b e=>Kn 3 b fun b f=>Aq e<|At (decide (0+a*3<=c.length))<|At (decide (0+b*3<=f.length))<|Eb (call 63 [Ai 1 2 [Ai 3 a (List.take (a*3) (c.drop 0)),Ai 3 b (List.take (b*3) (f.drop 0))]]) fun a b=>Kn 3 a fun a c=>D1 .i64 b fun b=>Bd (b != 0) (Bv [.own 3 0 [],b]) (At (decide (0+a*3<=c.length))<|Ve O 1 24 D [Ai 3 a (List.take (a*3) (c.drop 0))] fun a b=>Aa (wrap .i64 (I+1)) fun c=>Fm fu call V U T S Q P a N L K J c H G E Y X b B))):=by cases Z with|zero=>exact absurd Ld (Nat.lt_irrefl 0)|succ Z=>kernel_rfl
theorem Yy(W:Int)(Z:Nat)(Y:Ab)(X:Nat)(V:Ab):F1 C0 fu d 62 [.agg [Ac W,Ai 3 Z Y,Ai 2 X V]] fun call=>Bd (decide ((↑Z:Int)>4)) (Bv [.own 3 0 [],(8:Int)]) (Bd (decide ((↑X:Int)>4)) (Bv [.own 3 0 [],(8:Int)]) (G0 fu call W Z Y X V fu 0 Z Y (↑Z:Int) 0 W Z Y X V ([]))):=by show _=_;kernel_rfl
def Ir(Z Y X:Int)(W:Nat)(V:Ab)(U:Int)(T:Nat)(S:Ab)(Q:Nat)(P:Ab)(O N M:Nat)(L:Ab)(K J:Int)(I H G:Int)(E:Nat)(D:Ab)(B:Int)(A:Nat)(z:Ab)(w:Nat)(v u:Ab):Option Dl:=Lu fu call 34 Tryz.f34 [.agg [Z,Y,X,Ai 3 W V,U,Ai 1 T S,Ai 1 Q P]] [.r,.r,.r,.r,.r,.l,.r,.l] O ⟨lk [(1,.ptr 1 0),(4,.view 4 1 0 N),(40,Ai 3 M L),(41,K),(42,J)],Bq [(1,.st [I,H,G,Ai 3 E D,B,Ai 1 A z,Ai 1 w v]),(4,.ar false u)]⟩
theorem Sq(N M L:Int)(K:Nat)(J:Ab)(I:Int)(H:Nat)(G:Ab)(E:Nat)(D:Ab)(B Y V:Nat)(X:Ab)(U Z:Int)(T S Q:Int)(P:Nat)(O:Ab)(A:Int)(z:Nat)(w:Ab)(v:Nat)(u W:Ab):Ir fu call N M L K J I H G E D (B+1) Y V X U Z T S Q P O A z w v u W=(Bd (decide (Z<U)) (At (decide (0<=Z)&&decide (Z<(↑V:Int)))<|A8 .u64 (X.getD (Z.toNat*3) .top) fun a=>M0 3 (X.getD (Z.toNat*3+1) .top) fun b c e=>M0 2 (X.getD (Z.toNat*3+1+1) .top) fun b f g=>Bd (decide (Z>0)) (Aa (wrap .i64 (Z-1)) fun b=>At (decide (0<=b)&&decide (b<(↑P:Int)))<|A8 .u64 (O.getD (b.toNat*3+0) .top) fun b=>Bd (decide (a<=b)) (Bv [.own 1 0 [],(7:Int)]) (Eb (call 62 [.agg [Ac a,Ai 3 c e,Ai 2 f g]]) fun a b=>Kn 3 a fun a c=>D1 .i64 b fun b=>Bd (b != 0) (Bv [.own 1 0 [],b]) (At (decide (0+a*3<=c.length))<|Ve Y 1 24 W [Ai 3 a (List.take (a*3) (c.drop 0))] fun a b=>Aa (wrap .i64 (Z+1)) fun c=>Ir fu call N M L K J I H G E D B a V X U c T S Q P O A z w v u b))) (Eb (call 62 [.agg [Ac a,Ai 3 c e,Ai 2 f g]]) fun a b=>Kn 3 a fun a c=>D1 .i64 b fun b=>Bd (b != 0) (Bv [.own 1 0 [],b]) (At (decide (0+a*3<=c.length))<|Ve Y 1 24 W [Ai 3 a (List.take (a*3) (c.drop 0))] fun a b=>Aa (wrap .i64 (Z+1)) fun c=>Ir fu call N M L K J I H G E D B a V X U c T S Q P O A z w v u b))) (At (decide (0+Y*1<=W.length))<|Eb (call 63 [Ai 1 Y (List.take (Y*1) (W.drop 0))]) fun a b=>Kn 3 a fun a c=>D1 .i64 b fun b=>Bd (b != 0) (Bv [.own 1 0 [],b]) (Aa (wrap .u64 T) fun b=>Eb (call 64 [Ac b]) fun b e=>Kn 3 b fun b f=>Aq e<|Aa (wrap .u64 S) fun e=>Eb (call 64 [Ac e]) fun e g=>Kn 3 e fun e h=>Aq g<|Aa (wrap .u64 Q) fun g=>Eb (call 64 [Ac g]) fun g i=>Kn 3 g fun g j=>Aq i<|At (decide (0+b*3<=f.length))<|At (decide (0+e*3<=h.length))<|At (decide (0+g*3<=j.length))<|At (decide (0+a*3<=c.length))<|Eb (call 63 [Ai 1 4 [Ai 3 b (List.take (b*3) (f.drop 0)),Ai 3 e (List.take (e*3) (h.drop 0)),Ai 3 g (List.take (g*3) (j.drop 0)),Ai 3 a (List.take (a*3) (c.drop 0))]]) fun a b=>Kn 3 a fun a c=>D1 .i64 b fun b=>Bd (b != 0) (Bv [.own 1 0 [],b]) (At (decide (0+a*3<=c.length))<|Eb (call 65 [Ai 3 a (List.take (a*3) (c.drop 0))]) fun a b=>Kn 1 a fun a c=>D1 .i64 b fun b=>At (decide (a*1<=c.length))<|Bv [.own 1 a (c.take (a*1)),b])))):=by kernel_rfl
theorem NF(Y X W:Int)(Z:Nat)(V:Ab)(U:Int)(T:Nat)(S:Ab)(Q:Nat)(P:Ab):F1 C0 fu d 34 [.agg [Y,X,W,Ai 3 Z V,U,Ai 1 T S,Ai 1 Q P]] fun call=>Bd (decide (Y<1)) (Bv [.own 1 0 [],(9:Int)]) (Bd (decide (Y>16)) (Bv [.own 1 0 [],(9:Int)]) (Bd (decide (X<0)) (Bv [.own 1 0 [],(9:Int)]) (Bd (decide (X>W)) (Bv [.own 1 0 [],(9:Int)]) (Bd (decide (W>1099511627776)) (Bv [.own 1 0 [],(9:Int)]) (Bd (decide ((↑Z:Int)>16)) (Bv [.own 1 0 [],(8:Int)]) (Ir fu call Y X W Z V U T S Q P fu 0 Z V (↑Z:Int) 0 Y X W Z V U T S Q P ([]))))))):=by show _=_;kernel_rfl
theorem NX(Z Y X:Int)(W:Nat)(V:Ab)(U:Int)(T:Nat)(S:Ab)(Q:Nat)(P:Ab):F1 C0 fu d 35 [.agg [Z,Y,X,Ai 3 W V,U,Ai 1 T S,Ai 1 Q P]] fun call=>Eb (call 34 [.agg [Z,Y,X,Ai 3 W V,U,Ai 1 T S,Ai 1 Q P]]) fun a b=>Kn 1 a fun a c=>D1 .i64 b fun b=>Bd (b != 0) (Bv [Ac 0,b]) (At (decide (0+a*1<=c.length))<|J1 .u64 (call 66 [(15:Int),Ai 1 a (List.take (a*1) (c.drop 0))]) fun a=>Bv [Ac a,(0:Int)]):=by show _=_;kernel_rfl
theorem HL(Y T S:Int)(Q:Nat)(P:Ab)(Z:Int)(X:Nat)(W:Ab)(V:Nat)(U:Ab)(O N:Int):F1 C0 fu d 19 [.agg [Y,T,S,Ai 3 Q P,Z,Ai 1 X W,Ai 1 V U],.agg [O,Ac N]] fun call=>Eb (call 35 [.agg [Y,T,S,Ai 3 Q P,Z,Ai 1 X W,Ai 1 V U]]) fun a b=>A8 .u64 a fun a=>D1 .i64 b fun b=>Bd (b != 0) (Bv [b]) (Aa (wrap .i64 (Y-1)) fun b=>Bd (Z != b) (Bv [(33:Int)]) (J1 .i64 (call 40 [.agg [O,Ac N],Ac a,.agg [Z,Ai 1 X W,Ai 1 V U]]) fun a=>Bv [a])):=by show _=_;kernel_rfl
theorem GJ(U T S:Int)(Q:Nat)(P:Ab)(Z:Int)(Y:Nat)(X:Ab)(W:Nat)(V:Ab):F1 C0 fu d 25 [.agg [U,T,S,Ai 3 Q P,Z,Ai 1 Y X,Ai 1 W V]] fun call=>Eb (call 34 [.agg [U,T,S,Ai 3 Q P,Z,Ai 1 Y X,Ai 1 W V]]) fun a b=>Kn 1 a fun a c=>D1 .i64 b fun b=>Bd (b != 0) (Bv [.own 1 0 [],b]) (Eb (call 46 [.agg [Z,Ai 1 Y X,Ai 1 W V]]) fun b e=>Kn 1 b fun b f=>D1 .i64 e fun e=>Bd (e != 0) (Bv [.own 1 0 [],e]) (At (decide (0+b*1<=f.length))<|At (decide (a*1<=c.length)&&decide (List.length (List.take (b*1) (f.drop 0))=b*1)&&decide ((a+b)*1<=1099511627776)&&decide (a+b<=1099511627776))<|Aa (a+b) fun e=>Aa (List.take (a*1) c++List.take (b*1) (f.drop 0)) fun a=>At (decide (e*1<=a.length))<|Bv [.own 1 e (a.take (e*1)),(0:Int)])):=by show _=_;kernel_rfl
def K8(Z Y X:Int)(W:Nat)(V:Ab)(U:Int)(T:Nat)(S:Ab)(Q:Nat)(P:Ab)(O N:Int)(M L K:Nat)(J:Ab)(I H:Int)(G E D:Int)(B:Nat)(A:Ab)(z:Int)(w:Nat)(v:Ab)(u:Nat)(t:Ab)(y15 y16 y17:Int)(y18:Nat)(y19:Int)(UO UG:Nat)(TK OB LR:Ab)(QS:Int)(YS:Nat)(y27:Ab)(ZT:Nat)(YG y30:Ab):Option Dl:=Lu fu call 16 Tryz.f16 [.agg [Z,Y,X,Ai 3 W V,U,Ai 1 T S,Ai 1 Q P],Ac O,N] [.r,.r,.r,.r,.r,.r,.l,.r,.l] M ⟨lk [(3,.ptr 3 0),(6,.ptr 6 0),(10,.ptr 10 0),(11,.view 11 3 0 L),(42,Ai 3 K J),(43,I),(44,H)],Bq [(3,.st [G,E,D,Ai 3 B A,z,Ai 1 w v,Ai 1 u t]),(6,.st [y15,y16,y17,.view 242 3 0 y18,y19,.view 360 1 0 UO,.view 419 1 0 UG]),(242,.ar false TK),(360,.ar false OB),(419,.ar false LR),(10,.st [QS,Ai 1 YS y27,Ai 1 ZT YG]),(11,.ar false y30)]⟩
theorem Sl(K J I:Int)(H:Nat)(G:Ab)(E:Int)(D:Nat)(B:Ab)(A:Nat)(z:Ab)(w v:Int)(u Y V:Nat)(X:Ab)(U Z:Int)(T S Q:Int)(t:Nat)(y9:Ab)(y10:Int)(y11:Nat)(y12:Ab)(y13:Nat)(y14:Ab)(y15 y16 y17:Int)(y18:Nat)(y19:Int)(UO UG:Nat)(TK OB LR:Ab)(P:Int)(O:Nat)(N:Ab)(M:Nat)(L W:Ab):K8 fu call K J I H G E D B A z w v (u+1) Y V X U Z T S Q t y9 y10 y11 y12 y13 y14 y15 y16 y17 y18 y19 UO UG TK OB LR P O N M L W=(Bd (decide (Z<U)) (At (decide (0<=Z)&&decide (Z<(↑V:Int)))<|A8 .u64 (X.getD (Z.toNat*3) .top) fun a=>M0 3 (X.getD (Z.toNat*3+1) .top) fun b c e=>M0 2 (X.getD (Z.toNat*3+1+1) .top) fun b f g=>Eb (call 37 [.agg [Ac a,Ai 3 c e,Ai 2 f g]]) fun a b=>D3 a fun a=>Di .u64 a fun a c=>J9 3 c fun c e f=>J9 2 f fun f g h=>Aq h<|Aq b<|Ve Y 3 56 W [Ac a,Ai 3 c e,Ai 2 f g] fun a b=>Aa (wrap .i64 (Z+1)) fun c=>K8 fu call K J I H G E D B A z w v u a V X U c T S Q t y9 y10 y11 y12 y13 y14 y15 y16 y17 y18 y19 UO UG TK OB LR P O N M L b) (At (decide (0+Y*3<=W.length))<|Bv [.agg [T,S,Q,Ai 3 Y (List.take (Y*3) (W.drop 0)),P,Ai 1 O N,Ai 1 M L],(0:Int)])):=by kernel_rfl
theorem NV(Y W V:Int)(Z:Nat)(X:Ab)(U:Int)(T:Nat)(S:Ab)(Q:Nat)(P:Ab)(O N:Int):F1 C0 fu d 16 [.agg [Y,W,V,Ai 3 Z X,U,Ai 1 T S,Ai 1 Q P],Ac O,N] fun call=>Eb (call 35 [.agg [Y,W,V,Ai 3 Z X,U,Ai 1 T S,Ai 1 Q P]]) fun a b=>A8 .u64 a fun a=>D1 .i64 b fun b=>Bd (b != 0) (Bv [.agg [(0:Int),(0:Int),(0:Int),Ai 3 0 [],(0:Int),Ai 1 0 [],Ai 1 0 []],b]) (Aa (wrap .i64 (Y-1)) fun b=>Eb (call 36 [Ac O,N,b,Ac a]) fun a b=>D3 a fun a=>Di .i64 a fun a c=>J9 1 c fun c e f=>J9 1 f fun f g h=>Aq h<|D1 .i64 b fun b=>Bd (b != 0) (Bv [.agg [(0:Int),(0:Int),(0:Int),Ai 3 0 [],(0:Int),Ai 1 0 [],Ai 1 0 []],b]) (At (decide ((↑Z:Int)*56<=1099511627776)&&decide ((↑Z:Int)<=1099511627776))<|K8 fu call Y W V Z X U T S Q P O N fu 0 Z X (↑Z:Int) 0 Y W V Z X U T S Q P 0 0 0 0 0 0 0 ([]) ([]) ([]) a c e f g ([]))):=by show _=_;kernel_rfl
theorem X9(Z:Nat)(Y:Ab)(X:Bool)(W:Int):F1 C0 fu d 124 [.pbox [Ai 3 Z Y,.sc (.bool X)],W] fun call=>Bd X (some ⟨[.agg [(0:Int),Ac 0,.sc (.string (ByteArray.mk #[]))]],[[Ai 3 Z Y,.sc (.bool true)]]⟩) (Bd ((↑Z:Int)==0) (some ⟨[.agg [(0:Int),Ac 0,.sc (.string (ByteArray.mk #[]))]],[[Ai 3 Z Y,.sc (.bool true)]]⟩) (At (decide (0<(↑Z:Int)))<|A8 .i64 (Y.getD 0 .top) fun a=>Bd (a != W) (some ⟨[.agg [(0:Int),Ac 0,.sc (.string (ByteArray.mk #[]))]],[[Ai 3 Z Y,.sc (.bool true)]]⟩) (At (decide (0<(↑Z:Int)))<|A8 .i64 (Y.getD 0 .top) fun a=>A8 .u64 (Y.getD 1 .top) fun b=>Ez (Y.getD 2 .top) fun c=>At (decide (1<=Z)&&decide (Z<=Z))<|Aa (Z-1) fun e=>Aa (List.take (e*3) (Y.drop 3)) fun f=>some ⟨[.agg [a,Ac b,.sc (.string c)]],[[Ai 3 e f,.sc (.bool X)]]⟩))):=by show _=_;kernel_rfl
theorem Vg(Z:Nat)(Y:Ab)(X:Bool):F1 C0 fu d 90 [.pbox [Ai 3 Z Y,.sc (.bool X)]] fun call=>Bk (call 124 [.pbox [Ai 3 Z Y,.sc (.bool X)],(1:Int)]) fun a b=>Av a fun a c=>D3 a fun a=>Di .i64 a fun a e=>Di .u64 e fun a e=>Av e fun e f=>Ez e fun e=>Aq f<|Aq c<|Av b fun b c=>J9 3 b fun b e f=>MI f fun f=>Aq c<|some ⟨[Ac a],[[Ai 3 b e,.sc (.bool f)]]⟩:=by show _=_;kernel_rfl
theorem Xz(Z:Nat)(Y:Ab)(X:Bool):F1 C0 fu d 89 [.pbox [Ai 3 Z Y,.sc (.bool X)]] fun call=>Bk (call 124 [.pbox [Ai 3 Z Y,.sc (.bool X)],(5:Int)]) fun a b=>Av a fun a c=>D3 a fun a=>Di .i64 a fun a e=>Di .u64 e fun a e=>Av e fun e f=>Ez e fun e=>Aq f<|Aq c<|Av b fun b c=>J9 3 b fun b e f=>MI f fun f=>Aq c<|some ⟨[Ac a],[[Ai 3 b e,.sc (.bool f)]]⟩:=by show _=_;kernel_rfl
def Du(Z:Nat)(Y:Ab)(X:Bool)(W:Nat)(V:Int)(U:Nat)(T:Ab)(S:Bool)(Q:Int)(P O:Nat)(N M:Ab)(L:Int)(K J:Nat)(I H:Ab):Option Dl:=Lu fu call 91 Tryz.f91 [.pbox [Ai 3 Z Y,.sc (.bool X)]] [.r,.r,.r,.l,.r,.l] W ⟨lk [(0,.ptr 162000 0),(2,.ptr 2 0),(3,.ptr 3 0),(4,Ac V)],Bq [(162000,.st [Ai 3 U T,.sc (.bool S)]),(2,.st [Ac Q,.view 164 3 0 P,.view 245 2 0 O]),(164,.ar false N),(245,.ar false M),(3,.st [Ac L,.view 165 3 0 K,.view 246 2 0 J]),(165,.ar false I),(246,.ar false H)]⟩
def C2(Z:Nat)(Y:Ab)(X:Bool)(W:Nat)(V:Int)(U:Nat)(T:Ab)(S:Bool)(Q:Int)(P O:Nat)(N M:Ab)(L:Int)(K J:Nat)(I H:Ab):Option Dl:=Lu fu call 91 Tryz.f91 [.pbox [Ai 3 Z Y,.sc (.bool X)]] [.r,.r,.r,.r,.l,.r,.l] W ⟨lk [(0,.ptr 162000 0),(2,.ptr 2 0),(3,.ptr 3 0),(8,Ac V)],Bq [(162000,.st [Ai 3 U T,.sc (.bool S)]),(2,.st [Ac Q,.view 164 3 0 P,.view 245 2 0 O]),(164,.ar false N),(245,.ar false M),(3,.st [Ac L,.view 165 3 0 K,.view 246 2 0 J]),(165,.ar false I),(246,.ar false H)]⟩
theorem O6(Z:Nat)(Y:Ab)(X:Bool)(H:Nat)(K:Int)(J:Nat)(I:Ab)(W:Bool)(V:Int)(U T:Nat)(S Q:Ab)(P:Int)(O N:Nat)(M L:Ab):Du fu call Z Y X (H+1) K J I W V U T S Q P O N M L=(Bd (decide (K>0)) (Bd (!W) (Bk (call 89 [.pbox [Ai 3 J I,.sc (.bool W)]]) fun a b=>D1 .u64 a fun a=>Av b fun a b=>J9 3 a fun a c e=>MI e fun e=>Aq b<|Bk (call 124 [.pbox [Ai 3 a c,.sc (.bool e)],(4:Int)]) fun a b=>Av a fun a c=>D3 a fun a=>Di .i64 a fun a e=>Di .u64 e fun a e=>Av e fun a e=>Ez a fun a=>Aq e<|Aq c<|Av b fun b c=>J9 3 b fun b e f=>MI f fun f=>Aq c<|Bk (call 124 [.pbox [Ai 3 b e,.sc (.bool f)],(3:Int)]) fun b c=>Av b fun b e=>D3 b fun b=>Di .i64 b fun b f=>Di .u64 f fun b f=>Av f fun b f=>Ez b fun b=>Aq f<|Aq e<|Av c fun c e=>J9 3 c fun c f g=>MI g fun g=>Aq e<|At (decide (ByteArray.size b<=1099511627776))<|At (decide (0+ByteArray.size b*1<=List.length (Ej b)))<|Eb (call 125 [Ai 1 (ByteArray.size b) (List.take (ByteArray.size b*1) (List.drop 0 (Ej b)))]) fun b e=>D3 b fun b=>Di .i64 b fun b h=>D1 .u64 h fun h=>D1 .i64 e fun e=>Bd (e != 0) (Ve O 3 32 M [.sc (.string a),b,Ac h] fun a b=>Aa (wrap .u64 (K-1)) fun e=>Du fu call Z Y X H e c f true V U T S Q P a N b L) (Ve O 3 32 M [.sc (.string a),b,Ac h] fun a b=>Aa (wrap .u64 (K-1)) fun e=>Du fu call Z Y X H e c f g V U T S Q P a N b L)) (Bk (call 89 [.pbox [Ai 3 J I,.sc (.bool W)]]) fun a b=>D1 .u64 a fun a=>Av b fun b c=>J9 3 b fun b e f=>MI f fun f=>Aq c<|C2 fu call Z Y X fu a b e f V U T S Q P O N M L)) (Bk (call 89 [.pbox [Ai 3 J I,.sc (.bool W)]]) fun a b=>D1 .u64 a fun a=>Av b fun b c=>J9 3 b fun b e f=>MI f fun f=>Aq c<|C2 fu call Z Y X fu a b e f V U T S Q P O N M L)):=by kernel_rfl
theorem O8(P:Nat)(O:Ab)(N:Bool)(M:Nat)(Q:Int)(U:Nat)(T:Ab)(V:Bool)(L:Int)(K J:Nat)(I H:Ab)(S:Int)(Z Y:Nat)(X W:Ab):C2 fu call P O N (M+1) Q U T V L K J I H S Z Y X W=(Bd (decide (Q>0)) (Bd (!V) (Bk (call 89 [.pbox [Ai 3 U T,.sc (.bool V)]]) fun a b=>D1 .u64 a fun a=>Av b fun a b=>J9 3 a fun a c e=>MI e fun e=>Aq b<|Bk (call 90 [.pbox [Ai 3 a c,.sc (.bool e)]]) fun a b=>D1 .u64 a fun a=>Av b fun b c=>J9 3 b fun b e f=>MI f fun f=>Aq c<|Aa (wrap .i64 a) fun a=>Bk (call 90 [.pbox [Ai 3 b e,.sc (.bool f)]]) fun b c=>D1 .u64 b fun b=>Av c fun c e=>J9 3 c fun c f g=>MI g fun g=>Aq e<|Aa (wrap .i64 b) fun b=>Ve Y 2 16 W [a,b] fun a b=>Aa (wrap .u64 (Q-1)) fun e=>C2 fu call P O N M e c f g L K J I H S Z a X b) (At (decide (0+Z*3<=X.length))<|At (decide (0+Y*2<=W.length))<|some ⟨[.agg [Ac S,Ai 3 Z (List.take (Z*3) (X.drop 0)),Ai 2 Y (List.take (Y*2) (W.drop 0))]],[[Ai 3 U T,.sc (.bool V)]]⟩)) (At (decide (0+Z*3<=X.length))<|At (decide (0+Y*2<=W.length))<|some ⟨[.agg [Ac S,Ai 3 Z (List.take (Z*3) (X.drop 0)),Ai 2 Y (List.take (Y*2) (W.drop 0))]],[[Ai 3 U T,.sc (.bool V)]]⟩)):=by kernel_rfl
theorem Rv(Z:Nat)(Y:Ab)(X:Bool):F1 C0 fu d 91 [.pbox [Ai 3 Z Y,.sc (.bool X)]] fun call=>Bk (call 89 [.pbox [Ai 3 Z Y,.sc (.bool X)]]) fun a b=>D1 .u64 a fun a=>Av b fun a b=>J9 3 a fun a c e=>MI e fun e=>Aq b<|Bk (call 90 [.pbox [Ai 3 a c,.sc (.bool e)]]) fun a b=>D1 .u64 a fun a=>Av b fun b c=>J9 3 b fun b e f=>MI f fun f=>Aq c<|Bk (call 89 [.pbox [Ai 3 b e,.sc (.bool f)]]) fun b c=>D1 .u64 b fun b=>Av c fun c e=>J9 3 c fun c f g=>MI g fun g=>Aq e<|Du fu call Z Y X fu b c f g 0 0 0 ([]) ([]) a 0 0 ([]) ([]):=by show _=_;kernel_rfl
def H0(Z:Nat)(Y:Ab)(X:Nat)(W V:Int)(U T:Int)(S:Nat)(Q:Int)(P O:Nat)(N M L:Ab)(K:Nat)(J:Ab)(I:Bool)(H G E:Int)(D:Nat)(B:Int)(A z:Nat)(w v u:Ab):Option Dl:=Lu fu call 48 Tryz.f48 [Ai 3 Z Y] [.r,.r,.r,.r,.l,.r,.l] X ⟨lk [(2,.ptr 2 0),(4,.ptr 4 0),(5,.ptr 5 0),(6,Ac W)],Bq [(2,.st [V,U,T,.view 226 3 0 S,Q,.view 338 1 0 P,.view 394 1 0 O]),(226,.ar false N),(338,.ar false M),(394,.ar false L),(4,.st [Ai 3 K J,.sc (.bool I)]),(5,.st [H,G,E,.view 229 3 0 D,B,.view 341 1 0 A,.view 397 1 0 z]),(229,.ar false w),(341,.ar false v),(397,.ar false u)]⟩
theorem Xr(L:Nat)(K:Ab)(J:Nat)(M I:Int)(H G:Int)(E:Nat)(D:Int)(B A:Nat)(z w v:Ab)(N:Nat)(u:Ab)(O:Bool)(T S Q:Int)(Z:Nat)(P:Int)(Y X:Nat)(W V U:Ab):H0 fu call L K (J+1) M I H G E D B A z w v N u O T S Q Z P Y X W V U=(Bd (decide (M>0)) (Bd (!O) (Bk (call 91 [.pbox [Ai 3 N u,.sc (.bool O)]]) fun a b=>Av a fun a c=>D3 a fun a=>Di .u64 a fun a e=>J9 3 e fun e f g=>J9 2 g fun g h i=>Aq i<|Aq c<|Av b fun b c=>J9 3 b fun b i j=>MI j fun j=>Aq c<|Ve Z 3 56 W [Ac a,Ai 3 e f,Ai 2 g h] fun a c=>Aa (wrap .u64 (M-1)) fun e=>H0 fu call L K J e I H G E D B A z w v b i j T S Q a P Y X c V U) (Bd (!O) (At (decide (0+Z*3<=W.length))<|At (decide (0+Y*1<=V.length))<|At (decide (0+X*1<=U.length))<|Bv [.agg [T,S,Q,Ai 3 Z (List.take (Z*3) (W.drop 0)),P,Ai 1 Y (List.take (Y*1) (V.drop 0)),Ai 1 X (List.take (X*1) (U.drop 0))],.sc (.bool ((↑N:Int)==0))]) (At (decide (0+Z*3<=W.length))<|At (decide (0+Y*1<=V.length))<|At (decide (0+X*1<=U.length))<|Bv [.agg [T,S,Q,Ai 3 Z (List.take (Z*3) (W.drop 0)),P,Ai 1 Y (List.take (Y*1) (V.drop 0)),Ai 1 X (List.take (X*1) (U.drop 0))],.sc (.bool false)]))) (Bd (!O) (At (decide (0+Z*3<=W.length))<|At (decide (0+Y*1<=V.length))<|At (decide (0+X*1<=U.length))<|Bv [.agg [T,S,Q,Ai 3 Z (List.take (Z*3) (W.drop 0)),P,Ai 1 Y (List.take (Y*1) (V.drop 0)),Ai 1 X (List.take (X*1) (U.drop 0))],.sc (.bool ((↑N:Int)==0))]) (At (decide (0+Z*3<=W.length))<|At (decide (0+Y*1<=V.length))<|At (decide (0+X*1<=U.length))<|Bv [.agg [T,S,Q,Ai 3 Z (List.take (Z*3) (W.drop 0)),P,Ai 1 Y (List.take (Y*1) (V.drop 0)),Ai 1 X (List.take (X*1) (U.drop 0))],.sc (.bool false)]))):=by kernel_rfl
theorem BV(Z:Nat)(Y:Ab):F1 C0 fu d 48 [Ai 3 Z Y] fun call=>Bk (call 89 [.pbox [Ai 3 Z Y,.sc (.bool false)]]) fun a b=>D1 .u64 a fun a=>Av b fun a b=>J9 3 a fun a c e=>MI e fun e=>Aq b<|Bk (call 90 [.pbox [Ai 3 a c,.sc (.bool e)]]) fun a b=>D1 .u64 a fun a=>Av b fun b c=>J9 3 b fun b e f=>MI f fun f=>Aq c<|Aa (wrap .i64 a) fun a=>Bk (call 90 [.pbox [Ai 3 b e,.sc (.bool f)]]) fun b c=>D1 .u64 b fun b=>Av c fun c e=>J9 3 c fun c f g=>MI g fun g=>Aq e<|Aa (wrap .i64 b) fun b=>Bk (call 90 [.pbox [Ai 3 c f,.sc (.bool g)]]) fun c e=>D1 .u64 c fun c=>Av e fun e f=>J9 3 e fun e g h=>MI h fun h=>Aq f<|Aa (wrap .i64 c) fun c=>Bk (call 89 [.pbox [Ai 3 e g,.sc (.bool h)]]) fun e f=>D1 .u64 e fun e=>Av f fun f g=>J9 3 f fun f h i=>MI i fun i=>Aq g<|H0 fu call Z Y fu e 0 0 0 0 0 0 0 ([]) ([]) ([]) f h i a b c 0 0 0 0 ([]) ([]) ([]):=by show _=_;kernel_rfl
theorem HN(Z:Nat)(Y:Ab):F1 C0 fu d 26 [Ai 1 Z Y] fun call=>Bd (decide ((↑Z:Int)>4096)) (Bv [.agg [(0:Int),(0:Int),(0:Int),Ai 3 0 [],(0:Int),Ai 1 0 [],Ai 1 0 []],(8:Int)]) (Eb (call 47 [Ai 1 Z Y]) fun a b=>Kn 3 a fun a c=>Di .i64 b fun b e=>D1 .i64 e fun e=>Bd (e != 0) (Bv [.agg [(0:Int),(0:Int),(0:Int),Ai 3 0 [],(0:Int),Ai 1 0 [],Ai 1 0 []],(2:Int)]) (At (decide (0+a*3<=c.length))<|Eb (call 48 [Ai 3 a (List.take (a*3) (c.drop 0))]) fun a c=>D3 a fun a=>Di .i64 a fun a e=>Di .i64 e fun e f=>Di .i64 f fun f g=>J9 3 g fun g h i=>Di .i64 i fun i j=>J9 1 j fun i j k=>J9 1 k fun i j k=>Aq k<|MI c fun c=>Bd (!c) (Bv [.agg [(0:Int),(0:Int),(0:Int),Ai 3 0 [],(0:Int),Ai 1 0 [],Ai 1 0 []],(2:Int)]) (At (decide (0<=b))<|At (decide (b.toNat<=Z)&&decide (Z<=Z))<|Aa (Z-b.toNat) fun c=>Aa (List.take (c*1) (Y.drop (b.toNat*1))) fun b=>Eb (call 49 [Ai 1 c b]) fun b c=>D3 b fun b=>Di .i64 b fun b i=>Xi 1 i fun i j k=>Xi 1 k fun k m n=>Aq n<|D1 .i64 c fun c=>Bd (c != 0) (Bv [.agg [(0:Int),(0:Int),(0:Int),Ai 3 0 [],(0:Int),Ai 1 0 [],Ai 1 0 []],(2:Int)]) (At (decide (0+i*1<=j.length))<|At (decide (0+k*1<=m.length))<|Eb (call 25 [.agg [a,e,f,Ai 3 g h,b,Ai 1 i (List.take (i*1) (j.drop 0)),Ai 1 k (List.take (k*1) (m.drop 0))]]) fun c n=>Kn 1 c fun c o=>D1 .i64 n fun n=>Bd (n != 0) (Bv [.agg [(0:Int),(0:Int),(0:Int),Ai 3 0 [],(0:Int),Ai 1 0 [],Ai 1 0 []],(2:Int)]) (At (decide (0+c*1<=o.length))<|Eb (call 50 [Ai 1 c (List.take (c*1) (o.drop 0)),Ai 1 Z Y]) fun c n=>Co c fun c=>Aq n<|Bd (!c) (Bv [.agg [(0:Int),(0:Int),(0:Int),Ai 3 0 [],(0:Int),Ai 1 0 [],Ai 1 0 []],(2:Int)]) (At (decide (0+i*1<=j.length))<|At (decide (0+k*1<=m.length))<|Bv [.agg [a,e,f,Ai 3 g h,b,Ai 1 i (List.take (i*1) (j.drop 0)),Ai 1 k (List.take (k*1) (m.drop 0))],(0:Int)])))))):=by show _=_;kernel_rfl
theorem HH(Y T S:Int)(Q:Nat)(P:Ab)(O:Int)(N:Nat)(M:Ab)(L:Nat)(K:Ab)(X:Nat)(W:Ab)(V U Z:Int):F1 C0 fu d 27 [.agg [Y,T,S,Ai 3 Q P,O,Ai 1 N M,Ai 1 L K],Ai 1 X W,.agg [V,Ac U],Z] fun call=>Bd (decide (Z<0)) (Bv [.agg [(0:Int),(0:Int),(0:Int),Ai 3 0 [],(0:Int),Ai 1 0 [],Ai 1 0 []],(9:Int)]) (Bd (decide (Z>1099511627776)) (Bv [.agg [(0:Int),(0:Int),(0:Int),Ai 3 0 [],(0:Int),Ai 1 0 [],Ai 1 0 []],(9:Int)]) (Eb (call 26 [Ai 1 X W]) fun a b=>D3 a fun a=>Di .i64 a fun a c=>Di .i64 c fun c e=>Di .i64 e fun e f=>J9 3 f fun f g h=>Di .i64 h fun h i=>J9 1 i fun i j k=>J9 1 k fun k m n=>Aq n<|D1 .i64 b fun b=>Bd (b != 0) (Bv [.agg [(0:Int),(0:Int),(0:Int),Ai 3 0 [],(0:Int),Ai 1 0 [],Ai 1 0 []],b]) (Bd (decide (a<=Y)) (Bv [.agg [(0:Int),(0:Int),(0:Int),Ai 3 0 [],(0:Int),Ai 1 0 [],Ai 1 0 []],(7:Int)]) (J1 .i64 (call 19 [.agg [a,c,e,Ai 3 f g,h,Ai 1 i j,Ai 1 k m],.agg [V,Ac U]]) fun b=>Bd (b != 0) (Bv [.agg [(0:Int),(0:Int),(0:Int),Ai 3 0 [],(0:Int),Ai 1 0 [],Ai 1 0 []],b]) (Bd (decide (Z<c)) (Bv [.agg [(0:Int),(0:Int),(0:Int),Ai 3 0 [],(0:Int),Ai 1 0 [],Ai 1 0 []],(19:Int)]) (Bd (decide (Z>e)) (Bv [.agg [(0:Int),(0:Int),(0:Int),Ai 3 0 [],(0:Int),Ai 1 0 [],Ai 1 0 []],(19:Int)]) (Bv [.agg [a,c,e,Ai 3 f g,h,Ai 1 i j,Ai 1 k m],(0:Int)]))))))):=by show _=_;kernel_rfl
end
section
variable {fu d:Nat}
theorem DQ(Bo:1000<=fu){k:Nat}(hk:k<=5){vs:List (List It)}(hv:∀v∈vs,Val k v/\v≠[]/\v.length<=499)(hn:vs.length<=400)(hb:vs.flatten.length<=499):
  Ap C0 prog fu (d+6) 63 [.lst false 1 vs.length (Gd vs)]=some ⟨[.own 3 (C9 vs).length (A6 (C9 vs)),Ao 0],[]⟩:=
 Ags Bo (fun v h=>⟨(hv v h).1.goods (by omega) (hv v h).2.1 (by have:=(hv v h).2.2;omega),by have:=(hv v h).2.2;omega⟩) hn ((Ua (fun v h=>(hv v h).1) (by omega)).goods (by omega) (by simp) (by simp only[G9];omega)) hb
def VS(a:An):Ab:=if Fw a=0 then [.own 3 (Cx a).length (A6 (Cx a)),Ao 0] else [.own 3 0 [],Ao (Fw a)]
theorem Anc(Bo:1000<=fu)(a:An):Ap C0 prog fu (d+7) 104 [.agg a.cells]=some ⟨VS a,[]⟩:=by
 refine (Xp fu (d+6) a.name a.key.h a.key.root).trans ?_;have bad:∀{e:Int},Fw a=e->e≠0->some (Dl.mk [.own 3 0 [],Ao e] [])=some (Dl.mk (VS a) []):=fun h he=>by unfold VS;rw[h,Ba he]
 by_cases e1:a.name.size<1
 ·have hb:Fw a=9:=by unfold Fw;rw[B7 (.inl e1)]
  rw[<-bad hb (by omega)]
  repeat(with_reducible(first|apply Al|apply Af|apply Ak|apply As|apply Bb|apply Bf|apply Ag|apply Aj|apply Do);· first|constructor|(simp(disch:=omega)only[Dp,Dx]<;>first|constructor|omega)|omega)
  try simp(disch:=omega)only[Aa,Dx]
 by_cases e2:32<a.name.size
 ·have hb:Fw a=9:=by unfold Fw;rw[B7 (.inr e2)]
  rw[<-bad hb (by omega)]
  repeat(with_reducible(first|apply Al|apply Af|apply Ak|apply As|apply Bb|apply Bf|apply Ag|apply Aj|apply Do);· first|constructor|(simp(disch:=omega)only[Dp,Dx]<;>first|constructor|omega)|omega)
  try simp(disch:=omega)only[Aa,Dx]
 have v1:=Y6 (fu:=fu) (d:=d+5) a.name (by omega);have e12:¬(a.name.size<1\/32<a.name.size):=by omega
 cases e3:okS a.name
 ·have hb:Fw a=6:=by unfold Fw;rw[Ba e12,B7 e3]
  rw[e3] at v1;rw[<-bad hb (by omega)]
  repeat(with_reducible(first|apply Al|apply Af|apply Ak|apply As|apply Bb|apply Bf|apply Ag|apply Aj|apply Do);· first|constructor|(simp(disch:=omega)only[Dp,v1,Dx,Ll]<;>first|constructor|omega)|omega)
  try simp(disch:=omega)only[Aa,v1,Dx,Ll]
 rw[e3] at v1;have ek:=Amu (xs:=Nz) (fu:=fu) (d:=d+4) Bo a.key;simp only[Ky.cells] at ek;have e90:((9:Int) != 0)=true:=rfl;have e00:((0:Int) != 0)=false:=rfl;cases e5:D6 a.key.h
 rotate_left
 ·have hb:Fw a=9:=by unfold Fw;rw[Ba e12,Ba (by simp[e3]),B7 e5]
  rw[e5,B7 rfl] at ek;rw[<-bad hb (by omega)]
  repeat(with_reducible(first|apply Al|apply Af|apply Ak|apply As|apply Bb|apply Bf|apply Ag|apply Aj|apply Do);· first|constructor|(simp(disch:=omega)only[Dp,v1,ek,e90,Dx,Ll]<;>first|constructor|omega)|omega)
  try simp(disch:=omega)only[Aa,v1,ek,e90,Dx,Ll]
 rw[e5,Ba (by simp)] at ek;have hz:Fw a=0:=by unfold Fw;rw[Ba e12,Ba (by simp[e3]),Ba (by simp[e5])]
 have f1:US ⟨4,0,a.name⟩:=⟨.inr (.inr (.inr (.inl rfl))),by simp only;omega,fun _=>e3,by unfold L7;rfl,by simp⟩
 have f2:US ⟨3,0,Cf (I7 a.key)⟩:=⟨.inr (.inr (.inl rfl)),by simp only[Afa];omega,(fun e=>by cases e),by unfold L7;rfl,by simp⟩
 have ar:Ap C0 prog fu (d+6) 63 [.lst false 1 2 [.lst false 3 1 (A6 [⟨4,0,a.name⟩]),.lst false 3 1 (A6 [⟨3,0,Cf (I7 a.key)⟩])]]=some ⟨[.own 3 3 (A6 (Cx a)),Ao 0],[]⟩:=DQ (fu:=fu) (d:=d) Bo (k:=0) (by omega) (vs:=Aa5 a) (fun v hv=>by
  simp only[Aa5,Bx,Ig,or_false] at hv;rcases hv with rfl|rfl
  ·exact⟨Gx f1 0,by simp,by simp⟩
  ·exact⟨Gx f2 0,by simp,by simp⟩) (by simp[Aa5]) (by simp[Aa5])
 have t1:=Aq4 (fu:=fu) (d:=d+5) a.name;have by_:=Amg (fu:=fu) (d:=d+5) (I7 a.key);have k9:(I7 a.key).length=9:=rfl;rw[k9] at by_;have L9:=Am .u8 (I7 a.key);rw[k9] at L9;have tk9:List.take 9 (Ad .u8 (I7 a.key))=Ad .u8 (I7 a.key):=I9 (by omega);have R:VS a=[.own 3 3 (A6 (Cx a)),Ao 0]:=by unfold VS;rw[B7 hz,O3]
 rw[R];have LI:(A6 (Cx a)).length=9:=rfl;have tI:List.take 9 (A6 (Cx a))=A6 (Cx a):=rfl;generalize A6 (Cx a)=I at ar LI tI ⊢;have K1:List.take 3 (A6 [⟨4,0,a.name⟩])=A6 [⟨4,0,a.name⟩]:=rfl;have K2:List.take 3 (A6 [⟨3,0,Cf (I7 a.key)⟩])=A6 [⟨3,0,Cf (I7 a.key)⟩]:=rfl;have N1:(A6 [⟨4,0,a.name⟩]).length=3:=rfl;have N2:(A6 [⟨3,0,Cf (I7 a.key)⟩]).length=3:=rfl;generalize A6 [⟨4,0,a.name⟩]=T1 at *
 generalize A6 [⟨3,0,Cf (I7 a.key)⟩]=T2 at *
 generalize Ad .u8 (I7 a.key)=KB at *
 repeat(with_reducible(first|apply Al|apply Af|apply Ak|apply As|apply Bb|apply Bf|apply Ag|apply Aj|apply Do);· first|constructor|(simp(disch:=omega)only[Dp,v1,ek,e00,t1,by_,L9,tk9,K1,K2,N1,N2,Cu,Nat.one_mul,Ec,Nat.reduceMul,Fi,ar,LI,tI,Dx,Ll]<;>first|constructor|omega)|omega)
 try simp(disch:=omega)only[Aa,v1,ek,e00,t1,by_,L9,tk9,K1,K2,N1,N2,Cu,Nat.one_mul,Ec,Nat.reduceMul,Fi,ar,LI,tI,Dx,Ll]
def Aqv(x:Me):Ab:=if Cy x=0 then [.own 3 (A3 x).length (A6 (A3 x)),Ao 0] else [.own 3 0 [],Ao (Cy x)]
theorem PW(a:List (List It))(v:List It):Gd a++[.lst false 3 v.length (A6 v)]=Gd (a++[v]):=by unfold Gd;rw[List.flatMap_append,J7,List.flatMap_nil,List.append_nil];rfl
theorem Vr(a:List (List It)):(Gd a).length=a.length:=by unfold Gd;rw[U6 VG];omega
theorem Av1(Bo:1000<=fu){Dc:Int}{G7 G5:Nat}{Cj Ef:Ab}{x:Me}(hm:0<=x.model)(h1:x.ans.length<=4)(h2:x.sts.length<=4)(h3:C8 x.ans=0):∀(r:List Sa)(i nn:Nat)(p:Option Int),x.sts.drop i=r->r.length<nn->i<=x.sts.length ->
  ((i=0/\p=none)\/∃s',0<i/\x.sts[i-1]?=some s'/\p=some s'.at_)->(∀s∈x.sts.take i,1<=s.kd/\s.kd<=4/\0<=s.at_/\s.at_<=1099511627776) ->
  Fm fu (Ap C0 prog fu (d+7)) Dc G7 Cj G5 Ef nn i (C9 (x.ans.map Cx)).length x.sts.length (Dg x.sts) (x.sts.length:Int) (i:Int) x.model x.ans.length (C3 x.ans) x.sts.length (Dg x.sts) (Gd ((x.sts.take i).map Cw)) (A6 (C9 (x.ans.map Cx))) =
   some ⟨(if D5 p r=0 then [.own 3 (A3 x).length (A6 (A3 x)),Ao 0] else [.own 3 0 [],Ao (D5 p r)]),[]⟩
 |_,_,0,_,_,h,_,_,_=>by omega
 |[],i,nn+1,p,hd,hn,hi,hp,hk=>by
  have hl:=drop_nil hd;have ei:i=x.sts.length:=by omega
  have eall:x.sts.take i=x.sts:=I9 (by omega);rw[eall] at hk ⊢;have vs:=Ai0 h2 (fun s hs=>by have:=hk s hs;exact⟨by omega,by omega⟩)
  have va:=Aaf h1 (Zd h3);have Gn:D5 p []=0:=by unfold D5;rfl
  rw[B7 Gn]
  have ar:=DQ (fu:=fu) (d:=d+1) Bo (k:=1) (by omega) (vs:=x.sts.map Cw) (fun v hv=>by
   obtain⟨s,hs,rfl⟩:=List.mem_map.1 hv;have:=hk s hs;exact⟨(Agz (by omega) (by omega)).1,by simp[Cw],by rw[Wn];omega⟩) (by rw[List.length_map];omega) (by rw[Hz Wn];omega)
  rw[List.length_map] at ar;have u:=W6 (fu:=fu) (d:=d+6) x.model;have la:(C9 (x.ans.map Cx)).length<=20:=by unfold C9;rw[G9,Hz O3];omega
  have ls:(C9 (x.sts.map Cw)).length<=20:=by unfold C9;rw[G9,Hz Wn];omega
  have ar3:Ap C0 prog fu (d+7) 63 [.lst false 1 3 [.lst false 3 1 (A6 [⟨1,x.model,N9⟩]),.lst false 3 (C9 (x.ans.map Cx)).length (A6 (C9 (x.ans.map Cx))),.lst false 3 (C9 (x.sts.map Cw)).length (A6 (C9 (x.sts.map Cw)))]]=some ⟨[.own 3 (A3 x).length (A6 (A3 x)),Ao 0],[]⟩:=DQ (fu:=fu) (d:=d+1) Bo (k:=2) (by omega) (vs:=Yn x) (fun v hv=>by
   simp only[Yn,Bx,Ig,or_false] at hv;rcases hv with rfl|rfl|rfl
   ·exact⟨Gx (Jd hm) 2,by simp,by simp⟩
   ·exact⟨va.1,by simp[C9],by omega⟩
   ·exact⟨vs.1,by simp[C9],by omega⟩) (by simp[Yn]) (by simp only[Yn,List.flatten_cons,List.flatten_nil,List.append_nil,G8,List.length_singleton];omega)
  have e00:((0:Int) != 0)=false:=rfl;have LV:(Gd (x.sts.map Cw)).length=x.sts.length:=by rw[Vr,List.length_map]
  have tV:List.take x.sts.length (Gd (x.sts.map Cw))=Gd (x.sts.map Cw):=I9 (by omega);have LA:=Fa (C9 (x.ans.map Cx));have LS:=Fa (C9 (x.sts.map Cw));have LE:=Fa (A3 x);have tA:List.take ((C9 (x.ans.map Cx)).length*3) (A6 (C9 (x.ans.map Cx)))=A6 (C9 (x.ans.map Cx)):=I9 (by omega);have tS:List.take ((C9 (x.sts.map Cw)).length*3) (A6 (C9 (x.sts.map Cw)))=A6 (C9 (x.sts.map Cw)):=I9 (by omega);have tE:List.take ((A3 x).length*3) (A6 (A3 x))=A6 (A3 x):=I9 (by omega);have K1:List.take 3 (A6 [⟨1,x.model,N9⟩])=A6 [⟨1,x.model,N9⟩]:=rfl;have N1:(A6 [⟨1,x.model,N9⟩]).length=3:=rfl;subst ei;rw[Dw];generalize A6 [⟨1,x.model,N9⟩]=T1 at *
  generalize A6 (A3 x)=TE at *
  generalize (A3 x).length=nE at *
  generalize A6 (C9 (x.sts.map Cw))=TS at *
  generalize A6 (C9 (x.ans.map Cx))=TA at *
  generalize (C9 (x.sts.map Cw)).length=nS at *
  generalize (C9 (x.ans.map Cx)).length=nA at *
  generalize Gd (x.sts.map Cw)=TV at *
  repeat(with_reducible(first|apply Al|apply Af|apply Ak|apply As|apply Bb|apply Bf|apply Ag|apply Aj|apply Do);· first|constructor|(simp(disch:=omega)only[Dp,LV,tV,ar,e00,u,K1,N1,LA,LS,tA,tS,ar3,LE,tE,Cu,Nat.one_mul,Ec,Fi,Dx,Ll]<;>first|constructor|omega)|omega)
  try simp(disch:=omega)only[Aa,LV,tV,ar,e00,u,K1,N1,LA,LS,tA,tS,ar3,LE,tE,Cu,Nat.one_mul,Ec,Fi,Dx,Ll]
  all_goals rfl
 |s::rs,i,nn+1,p,hd,hn,hi,hp,hk=>by
  obtain⟨q1,q2,q3⟩:=C1 hd;simp only[G9] at hn;obtain⟨c0,c1⟩:=saa q2;have nt:Int.toNat (i:Int)=i:=Ij _
  have bad:∀{e:Int},Gm p s=e->e≠0->some (Dl.mk [.own 3 0 [],Ao e] [])=some (Dl.mk (if D5 p (s::rs)=0 then [.own 3 (A3 x).length (A6 (A3 x)),Ao 0] else [.own 3 0 [],Ao (D5 p (s::rs))]) []):=fun {e} h he=>by
   have:D5 p (s::rs)=e:=by rw[D5,B7 (by rw[h];exact he),h]
   rw[this,Ba he]
  by_cases g1:s.kd<1
  ·have hb:Gm p s=9:=by unfold Gm;rw[B7 (.inl g1)]
   rw[<-bad hb (by omega),Dw]
   repeat(with_reducible(first|apply Al|apply Af|apply Ak|apply As|apply Bb|apply Bf|apply Ag|apply Aj|apply Do);· first|constructor|(simp(disch:=omega)only[Dp,nt,c0,c1]<;>first|constructor|omega)|omega)
   try simp(disch:=omega)only[Aa,nt,c0,c1]
   all_goals rfl
  by_cases g2:4<s.kd
  ·have hb:Gm p s=9:=by unfold Gm;rw[B7 (.inr (.inl g2))]
   rw[<-bad hb (by omega),Dw]
   repeat(with_reducible(first|apply Al|apply Af|apply Ak|apply As|apply Bb|apply Bf|apply Ag|apply Aj|apply Do);· first|constructor|(simp(disch:=omega)only[Dp,nt,c0,c1]<;>first|constructor|omega)|omega)
   try simp(disch:=omega)only[Aa,nt,c0,c1]
   all_goals rfl
  by_cases g3:s.at_<0
  ·have hb:Gm p s=9:=by unfold Gm;rw[B7 (.inr (.inr (.inl g3)))]
   rw[<-bad hb (by omega),Dw]
   repeat(with_reducible(first|apply Al|apply Af|apply Ak|apply As|apply Bb|apply Bf|apply Ag|apply Aj|apply Do);· first|constructor|(simp(disch:=omega)only[Dp,nt,c0,c1]<;>first|constructor|omega)|omega)
   try simp(disch:=omega)only[Aa,nt,c0,c1]
   all_goals rfl
  by_cases g4:1099511627776<s.at_
  ·have hb:Gm p s=9:=by unfold Gm;rw[B7 (.inr (.inr (.inr g4)))]
   rw[<-bad hb (by omega),Dw]
   repeat(with_reducible(first|apply Al|apply Af|apply Ak|apply As|apply Bb|apply Bf|apply Ag|apply Aj|apply Do);· first|constructor|(simp(disch:=omega)only[Dp,nt,c0,c1]<;>first|constructor|omega)|omega)
   try simp(disch:=omega)only[Aa,nt,c0,c1]
   all_goals rfl
  have S1:Gm none s=0:=by unfold Gm;rw[Ba (by omega)]
  have S0:∀q:Int,Gm (some q) s=if s.at_<=q then 7 else 0:=fun q=>by unfold Gm;rw[Ba (by omega)]
  have wk:wrap .u64 s.kd=s.kd:=Cm (by omega) (by omega);have wa:wrap .u64 s.at_=s.at_:=Cm (by omega) (by omega);have u1:=W6 (fu:=fu) (d:=d+6) s.kd;have u2:=W6 (fu:=fu) (d:=d+6) s.at_
  have ar:Ap C0 prog fu (d+7) 63 [.lst false 1 2 [.lst false 3 1 (A6 [⟨1,s.kd,N9⟩]),.lst false 3 1 (A6 [⟨1,s.at_,N9⟩])]]=some ⟨[.own 3 3 (A6 (Cw s)),Ao 0],[]⟩:=DQ (fu:=fu) (d:=d+1) Bo (k:=0) (by omega) (vs:=Ab5 s) (fun v hv=>by
   simp only[Ab5,Bx,Ig,or_false] at hv;rcases hv with rfl|rfl
   ·exact⟨Gx (Jd (by omega)) 0,by simp,by simp⟩
   ·exact⟨Gx (Jd (by omega)) 0,by simp,by simp⟩) (by simp[Ab5]) (by simp[Ab5])
  have e00:((0:Int) != 0)=false:=rfl;have LI:(A6 (Cw s)).length=9:=rfl;have tI:List.take 9 (A6 (Cw s))=A6 (Cw s):=rfl;have K1:List.take 3 (A6 [⟨1,s.kd,N9⟩])=A6 [⟨1,s.kd,N9⟩]:=rfl;have K2:List.take 3 (A6 [⟨1,s.at_,N9⟩])=A6 [⟨1,s.at_,N9⟩]:=rfl;have N1:(A6 [⟨1,s.kd,N9⟩]).length=3:=rfl;have N2:(A6 [⟨1,s.at_,N9⟩]).length=3:=rfl;have LV:(Gd ((x.sts.take i).map Cw)).length=i:=by rw[Vr,List.length_map,List.length_take];omega
  have tV:List.take i (Gd ((x.sts.take i).map Cw))=Gd ((x.sts.take i).map Cw):=I9 (by omega);have w:wrap .i64 ((i:Int)+1)=((i+1:Nat):Int):=by rw[Ah (by omega) (by omega)];omega
  have et:x.sts.take (i+1)=x.sts.take i++[s]:=by rw[List.take_add_one,q2];rfl
  have ea:Gd ((x.sts.take i).map Cw)++[.lst false 3 3 (A6 (Cw s))]=Gd ((x.sts.take (i+1)).map Cw):=by
   rw[et,List.map_append,List.map_singleton];exact PW _ (Cw s)
  have hz:∀{v:Int},Gm p s=0->D5 p (s::rs)=D5 (some s.at_) rs:=fun {v} h=>by rw[D5,Ba (by simp[h])]
  have ih:=Av1 Bo (Dc:=Dc) (G7:=G7) (G5:=G5) (Cj:=Cj) (Ef:=Ef) hm h1 h2 h3 rs (i+1) nn (some s.at_) q3 (by omega) (by omega) (.inr ⟨s,by omega,by rw[Nat.add_sub_cancel];exact q2,rfl⟩) (fun y hy=>by
   rw[et] at hy;rcases Bu.1 hy with hy|hy
   ·exact hk y hy
   ·rw[Lo.1 hy];omega)
  rw[Dw];rcases hp with⟨rfl,rfl⟩|⟨s',h0,h5,rfl⟩
  ·have hs:Gm none s=0:=S1;rw[hz (v:=0) hs,<-ih];generalize A6 (Cw s)=TI at *
   generalize A6 [⟨1,s.kd,N9⟩]=T1 at *
   generalize A6 [⟨1,s.at_,N9⟩]=T2 at *
   generalize Gd ((x.sts.take 0).map Cw)=TV at *
   generalize Gd ((x.sts.take (0+1)).map Cw)=TV' at *
   repeat(with_reducible(first|apply Al|apply Af|apply Ak|apply As|apply Bb|apply Bf|apply Ag|apply Aj|apply Do);· first|constructor|(simp(disch:=omega)only[Dp,nt,c0,c1]<;>first|constructor|omega)|omega)
   try simp(disch:=omega)only[Aa,nt,c0,c1]
   rw[H8 (Ld:=by omega)]
   repeat(with_reducible(first|apply Al|apply Af|apply Ak|apply As|apply Bb|apply Bf|apply Ag|apply Aj|apply Do);· first|constructor|(simp(disch:=omega)only[Dp,wk,wa,u1,u2,K1,K2,N1,N2,ar,e00,LI,tI,LV,tV,ea,w,Cu,Nat.one_mul,Ec,Nat.reduceMul,Fi,Dx]<;>first|constructor|omega)|omega)
   try simp(disch:=omega)only[Aa,wk,wa,u1,u2,K1,K2,N1,N2,ar,e00,LI,tI,LV,tV,ea,w,Cu,Nat.one_mul,Ec,Nat.reduceMul,Fi,Dx]
   all_goals rfl
  ·obtain⟨b0,b1⟩:=saa h5;have wi:wrap .i64 ((i:Int)-1)=((i-1:Nat):Int):=by rw[Ah (by omega) (by omega)];omega
   have nt1:Int.toNat ((i-1:Nat):Int)=i-1:=Ij _;by_cases g5:s.at_<=s'.at_
   ·have hb:Gm (some s'.at_) s=7:=by rw[S0,B7 g5]
    rw[<-bad hb (by omega)]
    repeat(with_reducible(first|apply Al|apply Af|apply Ak|apply As|apply Bb|apply Bf|apply Ag|apply Aj|apply Do);· first|constructor|(simp(disch:=omega)only[Dp,nt,c0,c1]<;>first|constructor|omega)|omega)
    try simp(disch:=omega)only[Aa,nt,c0,c1]
    rw[H8 (Ld:=by omega)]
    repeat(with_reducible(first|apply Al|apply Af|apply Ak|apply As|apply Bb|apply Bf|apply Ag|apply Aj|apply Do);· first|constructor|(simp(disch:=omega)only[Dp,wi,nt1,b1]<;>first|constructor|omega)|omega)
    try simp(disch:=omega)only[Aa,wi,nt1,b1]
    all_goals rfl
   ·have hs:Gm (some s'.at_) s=0:=by rw[S0,Ba g5]
    rw[hz (v:=0) hs,<-ih];generalize A6 (Cw s)=TI at *
    generalize A6 [⟨1,s.kd,N9⟩]=T1 at *
    generalize A6 [⟨1,s.at_,N9⟩]=T2 at *
    generalize Gd ((x.sts.take i).map Cw)=TV at *
    generalize Gd ((x.sts.take (i+1)).map Cw)=TV' at *
    repeat(with_reducible(first|apply Al|apply Af|apply Ak|apply As|apply Bb|apply Bf|apply Ag|apply Aj|apply Do);· first|constructor|(simp(disch:=omega)only[Dp,nt,c0,c1]<;>first|constructor|omega)|omega)
    try simp(disch:=omega)only[Aa,nt,c0,c1]
    rw[H8 (Ld:=by omega)]
    repeat(with_reducible(first|apply Al|apply Af|apply Ak|apply As|apply Bb|apply Bf|apply Ag|apply Aj|apply Do);· first|constructor|(simp(disch:=omega)only[Dp,wi,nt1,b1,wk,wa,u1,u2,K1,K2,N1,N2,ar,e00,LI,tI,LV,tV,ea,w,Cu,Nat.one_mul,Ec,Nat.reduceMul,Fi,Dx]<;>first|constructor|omega)|omega)
    try simp(disch:=omega)only[Aa,wi,nt1,b1,wk,wa,u1,u2,K1,K2,N1,N2,ar,e00,LI,tI,LV,tV,ea,w,Cu,Nat.one_mul,Ec,Nat.reduceMul,Fi,Dx]
    all_goals rfl
theorem Awm(Bo:1000<=fu){Dc:Int}{G7 G5:Nat}{Cj Ef:Ab}{x:Me}(hm:0<=x.model)(h1:x.ans.length<=4)(h2:x.sts.length<=4):∀(r:List An)(i nn:Nat),x.ans.drop i=r->r.length<nn->i<=x.ans.length->(C8 r=0->C8 x.ans=0)->(∀a∈x.ans.take i,Fw a=0) ->
  G0 fu (Ap C0 prog fu (d+7)) Dc G7 Cj G5 Ef nn i x.ans.length (C3 x.ans) (x.ans.length:Int) (i:Int) x.model x.ans.length (C3 x.ans) x.sts.length (Dg x.sts) (Gd ((x.ans.take i).map Cx)) =
   some ⟨(if C8 r=0 then (if D5 none x.sts=0 then [.own 3 (A3 x).length (A6 (A3 x)),Ao 0] else [.own 3 0 [],Ao (D5 none x.sts)]) else [.own 3 0 [],Ao (C8 r)]),[]⟩
 |_,_,0,_,h,_,_,_=>by omega
 |[],i,nn+1,hd,hn,hi,hz,hk=>by
  have hl:=drop_nil hd;have ei:i=x.ans.length:=by omega
  have eall:x.ans.take i=x.ans:=I9 (by omega);rw[eall] at hk ⊢;have h3:=hz rfl;have va:=Aaf h1 (Zd h3);have Gn:C8 []=0:=by unfold C8;rfl
  rw[B7 Gn]
  have ar:=DQ (fu:=fu) (d:=d+1) Bo (k:=1) (by omega) (vs:=x.ans.map Cx) (fun v hv=>by
   obtain⟨a,ha,rfl⟩:=List.mem_map.1 hv;exact⟨(Af7 (hk a ha)).1,by simp[Cx],by rw[O3];omega⟩) (by rw[List.length_map];omega) (by rw[Hz O3];omega)
  rw[List.length_map] at ar;have e00:((0:Int) != 0)=false:=rfl;have LV:(Gd (x.ans.map Cx)).length=x.ans.length:=by rw[Vr,List.length_map]
  have tV:List.take x.ans.length (Gd (x.ans.map Cx))=Gd (x.ans.map Cx):=I9 (by omega);have l1:=Av1 (fu:=fu) (d:=d) Bo (Dc:=Dc) (G7:=G7) (G5:=G5) (Cj:=Cj) (Ef:=Ef) hm h1 h2 h3 x.sts 0 fu none rfl (by omega) (by omega) (.inl ⟨rfl,rfl⟩) (fun s hs=>by cases hs);have ev:Gd ((x.sts.take 0).map Cw)=[]:=rfl;have z0:((0:Nat):Int)=0:=rfl;rw[ev,z0] at l1;subst ei;rw[H9,<-l1]
  repeat(with_reducible(first|apply Al|apply Af|apply Ak|apply As|apply Bb|apply Bf|apply Ag|apply Aj|apply Do);· first|constructor|(simp(disch:=omega)only[Dp,LV,tV,ar,e00,Cu,Nat.one_mul,Ec,Fi,Dx,Ll]<;>first|constructor|omega)|omega)
  try simp(disch:=omega)only[Aa,LV,tV,ar,e00,Cu,Nat.one_mul,Ec,Fi,Dx,Ll]
  all_goals rfl
 |a::rs,i,nn+1,hd,hn,hi,hz,hk=>by
  obtain⟨q1,q2,q3⟩:=C1 hd;simp only[G9] at hn;obtain⟨c0,c1,c2⟩:=ana q2;have c2':(C3 x.ans).getD (i*3+1+1) .top=Ac a.key.root:=c2;have nt:Int.toNat (i:Int)=i:=Ij _;have an:=Anc (fu:=fu) (d:=d) Bo a;unfold VS at an;simp only[An.cells] at an;by_cases h0:Fw a=0
  ·rw[B7 h0,O3] at an;have e00:((0:Int) != 0)=false:=rfl;have LI:(A6 (Cx a)).length=9:=rfl;have tI:List.take 9 (A6 (Cx a))=A6 (Cx a):=rfl;have LV:(Gd ((x.ans.take i).map Cx)).length=i:=by rw[Vr,List.length_map,List.length_take];omega
   have tV:List.take i (Gd ((x.ans.take i).map Cx))=Gd ((x.ans.take i).map Cx):=I9 (by omega);have w:wrap .i64 ((i:Int)+1)=((i+1:Nat):Int):=by rw[Ah (by omega) (by omega)];omega
   have et:x.ans.take (i+1)=x.ans.take i++[a]:=by rw[List.take_add_one,q2];rfl
   have ea:Gd ((x.ans.take i).map Cx)++[.lst false 3 3 (A6 (Cx a))]=Gd ((x.ans.take (i+1)).map Cx):=by
    rw[et,List.map_append,List.map_singleton];exact PW _ (Cx a)
   have he:C8 (a::rs)=C8 rs:=by rw[C8,Ba (by simp[h0])]
   have ih:=Awm Bo (Dc:=Dc) (G7:=G7) (G5:=G5) (Cj:=Cj) (Ef:=Ef) hm h1 h2 rs (i+1) nn q3 (by omega) (by omega) (fun h=>hz (by rw[he];exact h)) (fun y hy=>by
    rw[et] at hy;rcases Bu.1 hy with hy|hy
    ·exact hk y hy
    ·rw[Lo.1 hy];exact h0)
   rw[he,<-ih,H9];generalize A6 (Cx a)=TI at *
   generalize Gd ((x.ans.take i).map Cx)=TV at *
   generalize Gd ((x.ans.take (i+1)).map Cx)=TV' at *
   repeat(with_reducible(first|apply Al|apply Af|apply Ak|apply As|apply Bb|apply Bf|apply Ag|apply Aj|apply Do);· first|constructor|(simp(disch:=omega)only[Dp,nt,c0,c1,c2',an,e00,LI,tI,LV,tV,ea,w,Cu,Nat.one_mul,Ec,Nat.reduceMul,Fi,Dx]<;>first|constructor|omega)|omega)
   try simp(disch:=omega)only[Aa,nt,c0,c1,c2',an,e00,LI,tI,LV,tV,ea,w,Cu,Nat.one_mul,Ec,Nat.reduceMul,Fi,Dx]
   all_goals rfl
  ·rw[Ba h0] at an;have he:C8 (a::rs)=Fw a:=by rw[C8,B7 h0]
   have Ge:(Fw a != 0)=true:=by simp[h0]
   rw[he,Ba h0,H9]
   repeat(with_reducible(first|apply Al|apply Af|apply Ak|apply As|apply Bb|apply Bf|apply Ag|apply Aj|apply Do);· first|constructor|(simp(disch:=omega)only[Dp,nt,c0,c1,c2',an,Ge]<;>first|constructor|omega)|omega)
   try simp(disch:=omega)only[Aa,nt,c0,c1,c2',an,Ge]
   all_goals rfl
theorem Ap8(Bo:1000<=fu){x:Me}(hm:0<=x.model):Ap C0 prog fu (d+8) 62 [.agg x.cells]=some ⟨Aqv x,[]⟩:=by
 refine (Yy fu (d+7) x.model x.ans.length (C3 x.ans) x.sts.length (Dg x.sts)).trans ?_;unfold Aqv;by_cases e1:4<x.ans.length
 ·have hb:Cy x=8:=by unfold Cy;rw[B7 (.inl e1)]
  rw[hb,Ba (by omega)]
  repeat(with_reducible(first|apply Al|apply Af|apply Ak|apply As|apply Bb|apply Bf|apply Ag|apply Aj|apply Do);· first|constructor|(simp(disch:=omega)only[Dp,Dx]<;>first|constructor|omega)|omega)
  try simp(disch:=omega)only[Aa,Dx]
  all_goals rfl
 by_cases e2:4<x.sts.length
 ·have hb:Cy x=8:=by unfold Cy;rw[B7 (.inr e2)]
  rw[hb,Ba (by omega)]
  repeat(with_reducible(first|apply Al|apply Af|apply Ak|apply As|apply Bb|apply Bf|apply Ag|apply Aj|apply Do);· first|constructor|(simp(disch:=omega)only[Dp,Dx]<;>first|constructor|omega)|omega)
  try simp(disch:=omega)only[Aa,Dx]
  all_goals rfl
 have l0:=Awm (fu:=fu) (d:=d) Bo (Dc:=x.model) (G7:=x.ans.length) (Cj:=C3 x.ans) (G5:=x.sts.length) (Ef:=Dg x.sts) hm (by omega) (by omega) x.ans 0 fu rfl (by omega) (by omega) (fun h=>h) (fun a ha=>by cases ha);have ev:Gd ((x.ans.take 0).map Cx)=[]:=rfl;have z0:((0:Nat):Int)=0:=rfl;have hb:Cy x=if C8 x.ans≠0 then C8 x.ans else D5 none x.sts:=by unfold Cy;rw[Ba (by omega)]
 have R:(if Cy x=0 then [PV.own 3 (A3 x).length (A6 (A3 x)),Ao 0] else [.own 3 0 [],Ao (Cy x)])=(if C8 x.ans=0 then (if D5 none x.sts=0 then [PV.own 3 (A3 x).length (A6 (A3 x)),Ao 0] else [.own 3 0 [],Ao (D5 none x.sts)]) else [.own 3 0 [],Ao (C8 x.ans)]):=by
  rw[hb];by_cases h:C8 x.ans=0
  ·have e:(if C8 x.ans≠0 then C8 x.ans else D5 none x.sts)=D5 none x.sts:=Ba (by simp[h]);rw[e,B7 h]
  ·have e:(if C8 x.ans≠0 then C8 x.ans else D5 none x.sts)=C8 x.ans:=B7 h;rw[e,Ba h,Ba h]
 rw[R,<-l0,ev,z0]
 repeat(with_reducible(first|apply Al|apply Af|apply Ak|apply As|apply Bb|apply Bf|apply Ag|apply Aj|apply Do);· first|constructor|(simp(disch:=omega)only[Dp,Dx]<;>first|constructor|omega)|omega)
 try simp(disch:=omega)only[Aa,Dx]
 all_goals rfl
end
theorem Fg.len:∀{l:List It},Fg l->(Bn l).length<=41*l.length
 |[],_=>by simp[Bn]
 |x::l,h=>by
  have h1:=VN x;have h2:=(h x (by simp)).2.2;have ih:=Fg.len (l:=l) (fun y hy=>h y (by simp[hy]));have e:Bn (x::l)=Cs x++Bn l:=rfl;rw[e,G8,G9];omega
def I4(m:Md):Ab:=if Bl m=0 then [.own 1 (Bn (A4 m)).length (Ad .u8 (Bn (A4 m))),Ao 0] else [.own 1 0 [],Ao (Bl m)]
section
variable {fu d:Nat}
theorem Av7(Bo:1000<=fu){Dc Cj Ef Kz:Int}{Gt Gv Gu:Nat}{Ku Kx K4:Ab}{m:Md}(hw:m.wf)(h1:¬(m.ver<1\/16<m.ver))(h2:¬(m.iss<0\/m.nxt<m.iss\/1099511627776<m.nxt))(h3:m.ents.length<=16):∀(r:List Me)(i nn:Nat)(p:Option Int),m.ents.drop i=r->r.length<nn->i<=m.ents.length ->
  ((i=0/\p=none)\/∃x',0<i/\m.ents[i-1]?=some x'/\p=some x'.model)->(C4 p r=0->C4 none m.ents=0)->(∀x∈m.ents.take i,Cy x=0) ->
  Ir fu (Ap C0 prog fu (d+8)) Dc Cj Ef Gt Ku Kz Gv Kx Gu K4 nn i m.ents.length (B0 m.ents) (m.ents.length:Int) (i:Int) m.ver m.iss m.nxt m.ents.length (B0 m.ents) m.sig.leaf m.sig.chains.length (Ad .u64 m.sig.chains) m.sig.path.length (Ad .u64 m.sig.path) (Gd ((m.ents.take i).map A3)) =
   some ⟨(if C4 p r=0 then [.own 1 (Bn (A4 m)).length (Ad .u8 (Bn (A4 m))),Ao 0] else [.own 1 0 [],Ao (C4 p r)]),[]⟩
 |_,_,0,_,_,h,_,_,_,_=>by omega
 |[],i,nn+1,p,hd,hn,hi,hp,hz,hk=>by
  have hl:=drop_nil hd;have ei:i=m.ents.length:=by omega
  have eall:m.ents.take i=m.ents:=I9 (by omega);rw[eall] at hk ⊢;have Gn:C4 p []=0:=by unfold C4;rfl
  have h0:=hz Gn;have hm0:Bl m=0:=by unfold Bl;rw[Ba h1,Ba h2,Ba (by omega),h0]
  rw[B7 Gn];obtain⟨ve,fe,le⟩:=Ad7 h3 (fun x hx=>⟨hw.mod x hx,hk x hx⟩);obtain⟨vm,fm,lm⟩:=Wa hw hm0;have fl:=FB (f:=A3) (k:=28) (l:=m.ents) (fun x hx=>(Tv (hw.mod x hx) (hk x hx)).2.2)
  have ar:=DQ (fu:=fu) (d:=d+2) Bo (k:=3) (by omega) (vs:=m.ents.map A3) (fun v hv=>by
   obtain⟨x,hx,rfl⟩:=List.mem_map.1 hv;have:=Tv (hw.mod x hx) (hk x hx);exact⟨this.1,by simp[A3],by have:=this.2.2;omega⟩) (by rw[List.length_map];omega) (by omega)
  rw[List.length_map] at ar
  have ar4:Ap C0 prog fu (d+8) 63 [.lst false 1 4 [.lst false 3 1 (A6 [⟨1,m.ver,N9⟩]),.lst false 3 1 (A6 [⟨1,m.iss,N9⟩]),.lst false 3 1 (A6 [⟨1,m.nxt,N9⟩]),.lst false 3 (C9 (m.ents.map A3)).length (A6 (C9 (m.ents.map A3)))]]=some ⟨[.own 3 (A4 m).length (A6 (A4 m)),Ao 0],[]⟩:=DQ (fu:=fu) (d:=d+2) Bo (k:=4) (by omega) (vs:=Qn m) (fun v hv=>by
   simp only[Qn,Bx,Ig,or_false] at hv;rcases hv with rfl|rfl|rfl|rfl
   ·exact⟨Gx (Jd (by omega)) 4,by simp,by simp⟩
   ·exact⟨Gx (Jd (by omega)) 4,by simp,by simp⟩
   ·exact⟨Gx (Jd (by omega)) 4,by simp,by simp⟩
   ·exact⟨ve,by simp[C9],by omega⟩) (by simp[Qn]) (by simp only[Qn,List.flatten_cons,List.flatten_nil,List.append_nil,G8,List.length_singleton];omega)
  have en:=Aed (fu:=fu) (d:=d+3) Bo (l:=A4 m) (by omega) (by omega) (vm.goods (by omega) (by simp[A4]) (by omega)) (fun x hx=>(fm x hx).1) (by have:=fm.len;omega)
  have u1:=W6 (fu:=fu) (d:=d+7) m.ver;have u2:=W6 (fu:=fu) (d:=d+7) m.iss;have u3:=W6 (fu:=fu) (d:=d+7) m.nxt;have w1:wrap .u64 m.ver=m.ver:=Cm (by omega) (by omega);have w2:wrap .u64 m.iss=m.iss:=Cm (by omega) (by omega);have w3:wrap .u64 m.nxt=m.nxt:=Cm (by omega) (by omega);have e00:((0:Int) != 0)=false:=rfl;have LV:(Gd (m.ents.map A3)).length=m.ents.length:=by rw[Vr,List.length_map]
  have tV:List.take m.ents.length (Gd (m.ents.map A3))=Gd (m.ents.map A3):=I9 (by omega);have LA:=Fa (C9 (m.ents.map A3));have LM:=Fa (A4 m);have tA:List.take ((C9 (m.ents.map A3)).length*3) (A6 (C9 (m.ents.map A3)))=A6 (C9 (m.ents.map A3)):=I9 (by omega);have tM:List.take ((A4 m).length*3) (A6 (A4 m))=A6 (A4 m):=I9 (by omega);have LB:=Am .u8 (Bn (A4 m));have tB:=Ob .u8 (Bn (A4 m));have K1:List.take 3 (A6 [⟨1,m.ver,N9⟩])=A6 [⟨1,m.ver,N9⟩]:=rfl;have K2:List.take 3 (A6 [⟨1,m.iss,N9⟩])=A6 [⟨1,m.iss,N9⟩]:=rfl;have K3:List.take 3 (A6 [⟨1,m.nxt,N9⟩])=A6 [⟨1,m.nxt,N9⟩]:=rfl;have N1:(A6 [⟨1,m.ver,N9⟩]).length=3:=rfl;have N2:(A6 [⟨1,m.iss,N9⟩]).length=3:=rfl;have N3:(A6 [⟨1,m.nxt,N9⟩]).length=3:=rfl;subst ei
  rw[Sq];generalize A6 [⟨1,m.ver,N9⟩]=T1 at *
  generalize A6 [⟨1,m.iss,N9⟩]=T2 at *
  generalize A6 [⟨1,m.nxt,N9⟩]=T3 at *
  generalize Bn (A4 m)=B at *
  generalize A6 (A4 m)=TM at *
  generalize (A4 m).length=nM at *
  generalize A6 (C9 (m.ents.map A3))=TA at *
  generalize (C9 (m.ents.map A3)).length=nA at *
  generalize Gd (m.ents.map A3)=TV at *
  repeat(with_reducible(first|apply Al|apply Af|apply Ak|apply Bf|apply A7|apply Ag|apply Aj|apply Do);· first|constructor|(simp(disch:=omega)only[Dp,LV,tV,ar,e00,u1,u2,u3,w1,w2,w3,K1,K2,K3,N1,N2,N3,LA,tA,ar4,LM,tM,en,LB,tB,Cu,Nat.one_mul,Ec,Fi,Dx,Ll]<;>first|constructor|omega)|omega)
  try simp(disch:=omega)only[Aa,LV,tV,ar,e00,u1,u2,u3,w1,w2,w3,K1,K2,K3,N1,N2,N3,LA,tA,ar4,LM,tM,en,LB,tB,Cu,Nat.one_mul,Ec,Fi,Dx,Ll]
  all_goals rfl
 |x::rs,i,nn+1,p,hd,hn,hi,hp,hz,hk=>by
  obtain⟨q1,q2,q3⟩:=C1 hd;simp only[G9] at hn;obtain⟨c0,c1,c2⟩:=mea q2;have c2':(B0 m.ents).getD (i*3+1+1) .top=.lst false 2 x.sts.length (Dg x.sts):=c2;have nt:Int.toNat (i:Int)=i:=Ij _;have hxm:=hw.mod x (List.mem_of_getElem? q2);have en:=Ap8 (fu:=fu) (d:=d) Bo hxm;unfold Aqv at en;simp only[Me.cells] at en;have w:wrap .i64 ((i:Int)+1)=((i+1:Nat):Int):=by rw[Ah (by omega) (by omega)];omega
  have et:m.ents.take (i+1)=m.ents.take i++[x]:=by rw[List.take_add_one,q2];rfl
  have O1:Jb none x=0:=rfl;have O0:∀q:Int,Jb (some q) x=if x.model<=q then 7 else 0:=fun q=>rfl
  have LV:(Gd ((m.ents.take i).map A3)).length=i:=by rw[Vr,List.length_map,List.length_take];omega
  have tV:List.take i (Gd ((m.ents.take i).map A3))=Gd ((m.ents.take i).map A3):=I9 (by omega)
  have ea:Gd ((m.ents.take i).map A3)++[.lst false 3 (A3 x).length (A6 (A3 x))]=Gd ((m.ents.take (i+1)).map A3):=by
   rw[et,List.map_append,List.map_singleton];exact PW _ (A3 x)
  have LE:=Fa (A3 x);have tE:List.take ((A3 x).length*3) (A6 (A3 x))=A6 (A3 x):=I9 (by omega);have e00:((0:Int) != 0)=false:=rfl;have hgo:Jb p x=0->Cy x=0->C4 p (x::rs)=C4 (some x.model) rs:=fun h h'=>by rw[C4,Ba (by simp[h]),Ba (by simp[h'])]
  have Abo:Jb p x=0->Cy x≠0->C4 p (x::rs)=Cy x:=fun h h'=>by rw[C4,Ba (by simp[h]),B7 h']
  have Ayf:Jb p x=7->C4 p (x::rs)=7:=fun h=>by rw[C4,B7 (by rw[h];omega),h]
  have ih:=fun (h:Jb p x=0) (h':Cy x=0)=>Av7 Bo (Dc:=Dc) (Cj:=Cj) (Ef:=Ef) (Kz:=Kz) (Gt:=Gt) (Gv:=Gv) (Gu:=Gu) (Ku:=Ku) (Kx:=Kx) (K4:=K4) hw h1 h2 h3 rs (i+1) nn (some x.model) q3 (by omega) (by omega) (.inr ⟨x,by omega,by rw[Nat.add_sub_cancel];exact q2,rfl⟩) (fun e=>hz (by rw[hgo h h'];exact e)) (fun y hy=>by
   rw[et] at hy;rcases Bu.1 hy with hy|hy
   ·exact hk y hy
   ·rw[Lo.1 hy];exact h')
  rw[Sq];rcases hp with⟨rfl,rfl⟩|⟨x',h0,h5,rfl⟩
  ·by_cases he:Cy x=0
   ·rw[B7 he] at en;have ih:=ih O1 he;rw[hgo O1 he,<-ih];generalize A6 (A3 x)=TE at *
    generalize (A3 x).length=nE at *
    generalize Gd ((m.ents.take 0).map A3)=TV at *
    generalize Gd ((m.ents.take (0+1)).map A3)=TV' at *
    repeat(with_reducible(first|apply Al|apply Af|apply Ak|apply Bf|apply A7|apply Ag|apply Aj|apply Do);· first|constructor|(simp(disch:=omega)only[Dp,nt,c0,c1,c2',en,e00,LE,tE,LV,tV,ea,w,Cu,Ec,Fi]<;>first|constructor|omega)|omega)
    try simp(disch:=omega)only[Aa,nt,c0,c1,c2',en,e00,LE,tE,LV,tV,ea,w,Cu,Ec,Fi]
    all_goals rfl
   ·rw[Ba he] at en;have Ge:(Cy x != 0)=true:=by simp[he]
    rw[Abo O1 he,Ba he]
    repeat(with_reducible(first|apply Al|apply Af|apply Ak|apply Bf|apply A7|apply Ag|apply Aj|apply Do);· first|constructor|(simp(disch:=omega)only[Dp,nt,c0,c1,c2',en,Ge]<;>first|constructor|omega)|omega)
    try simp(disch:=omega)only[Aa,nt,c0,c1,c2',en,Ge]
    all_goals rfl
  ·obtain⟨b0,b1,b2⟩:=mea h5;have b0':(B0 m.ents).getD ((i-1)*3+0) .top=Ac x'.model:=b0;have wi:wrap .i64 ((i:Int)-1)=((i-1:Nat):Int):=by rw[Ah (by omega) (by omega)];omega
   have nt1:Int.toNat ((i-1:Nat):Int)=i-1:=Ij _;by_cases ho:x.model<=x'.model
   ·have h7:Jb (some x'.model) x=7:=by rw[O0,B7 ho]
    rw[Ayf h7,Ba (by omega)]
    repeat(with_reducible(first|apply Al|apply Af|apply Ak|apply Bf|apply A7|apply Ag|apply Aj|apply Do);· first|constructor|(simp(disch:=omega)only[Dp,nt,c0,c1,c2',wi,nt1,b0']<;>first|constructor|omega)|omega)
    try simp(disch:=omega)only[Aa,nt,c0,c1,c2',wi,nt1,b0']
    all_goals rfl
   ·have h7:Jb (some x'.model) x=0:=by rw[O0,Ba ho]
    by_cases he:Cy x=0
    ·rw[B7 he] at en;have ih:=ih h7 he;rw[hgo h7 he,<-ih];generalize A6 (A3 x)=TE at *
     generalize (A3 x).length=nE at *
     generalize Gd ((m.ents.take i).map A3)=TV at *
     generalize Gd ((m.ents.take (i+1)).map A3)=TV' at *
     repeat(with_reducible(first|apply Al|apply Af|apply Ak|apply Bf|apply A7|apply Ag|apply Aj|apply Do);· first|constructor|(simp(disch:=omega)only[Dp,nt,c0,c1,c2',wi,nt1,b0',en,e00,LE,tE,LV,tV,ea,w,Cu,Ec,Fi]<;>first|constructor|omega)|omega)
     try simp(disch:=omega)only[Aa,nt,c0,c1,c2',wi,nt1,b0',en,e00,LE,tE,LV,tV,ea,w,Cu,Ec,Fi]
     all_goals rfl
    ·rw[Ba he] at en;have Ge:(Cy x != 0)=true:=by simp[he]
     rw[Abo h7 he,Ba he]
     repeat(with_reducible(first|apply Al|apply Af|apply Ak|apply Bf|apply A7|apply Ag|apply Aj|apply Do);· first|constructor|(simp(disch:=omega)only[Dp,nt,c0,c1,c2',wi,nt1,b0',en,Ge]<;>first|constructor|omega)|omega)
     try simp(disch:=omega)only[Aa,nt,c0,c1,c2',wi,nt1,b0',en,Ge]
     all_goals rfl
theorem Ac1(Bo:1000<=fu){m:Md}(hw:m.wf):Ap C0 prog fu (d+9) 34 [.agg m.cells]=some ⟨I4 m,[]⟩:=by
 refine (NF fu (d+8) m.ver m.iss m.nxt m.ents.length (B0 m.ents) m.sig.leaf m.sig.chains.length (Ad .u64 m.sig.chains) m.sig.path.length (Ad .u64 m.sig.path)).trans ?_;have bad:∀{e:Int},Bl m=e->e≠0->some (Dl.mk [.own 1 0 [],Ao e] [])=some (Dl.mk (I4 m) []):=fun {e} h he=>by unfold I4;rw[h,Ba he]
 by_cases h1:m.ver<1\/16<m.ver
 ·have hb:Bl m=9:=by unfold Bl;rw[B7 h1]
  rw[<-bad hb (by omega)];by_cases WR:m.ver<1
  ·skip
   repeat(with_reducible(first|apply Al|apply Af|apply Ak|apply Bf|apply A7|apply Ag|apply Aj|apply Do);· first|constructor|(simp(disch:=omega)only[Dp,Dx]<;>first|constructor|omega)|omega)
   try simp(disch:=omega)only[Aa,Dx]
   all_goals rfl
  ·skip
   repeat(with_reducible(first|apply Al|apply Af|apply Ak|apply Bf|apply A7|apply Ag|apply Aj|apply Do);· first|constructor|(simp(disch:=omega)only[Dp,Dx]<;>first|constructor|omega)|omega)
   try simp(disch:=omega)only[Aa,Dx]
   all_goals rfl
 by_cases h2:m.iss<0\/m.nxt<m.iss\/1099511627776<m.nxt
 ·have hb:Bl m=9:=by unfold Bl;rw[Ba h1,B7 h2]
  rw[<-bad hb (by omega)];by_cases h2':m.iss<0
  ·skip
   repeat(with_reducible(first|apply Al|apply Af|apply Ak|apply Bf|apply A7|apply Ag|apply Aj|apply Do);· first|constructor|(simp(disch:=omega)only[Dp,Dx]<;>first|constructor|omega)|omega)
   try simp(disch:=omega)only[Aa,Dx]
   all_goals rfl
  by_cases A76:m.nxt<m.iss
  ·skip
   repeat(with_reducible(first|apply Al|apply Af|apply Ak|apply Bf|apply A7|apply Ag|apply Aj|apply Do);· first|constructor|(simp(disch:=omega)only[Dp,Dx]<;>first|constructor|omega)|omega)
   try simp(disch:=omega)only[Aa,Dx]
   all_goals rfl
  ·skip
   repeat(with_reducible(first|apply Al|apply Af|apply Ak|apply Bf|apply A7|apply Ag|apply Aj|apply Do);· first|constructor|(simp(disch:=omega)only[Dp,Dx]<;>first|constructor|omega)|omega)
   try simp(disch:=omega)only[Aa,Dx]
   all_goals rfl
 by_cases h3:16<m.ents.length
 ·have hb:Bl m=8:=by unfold Bl;rw[Ba h1,Ba h2,B7 h3]
  rw[<-bad hb (by omega)]
  repeat(with_reducible(first|apply Al|apply Af|apply Ak|apply Bf|apply A7|apply Ag|apply Aj|apply Do);· first|constructor|(simp(disch:=omega)only[Dp,Dx]<;>first|constructor|omega)|omega)
  try simp(disch:=omega)only[Aa,Dx]
  all_goals rfl
 have hb:Bl m=C4 none m.ents:=by unfold Bl;rw[Ba h1,Ba h2,Ba h3]
 have l0:=Av7 (fu:=fu) (d:=d) Bo (Dc:=m.ver) (Cj:=m.iss) (Ef:=m.nxt) (Gt:=m.ents.length) (Ku:=B0 m.ents) (Kz:=m.sig.leaf) (Gv:=m.sig.chains.length) (Kx:=Ad .u64 m.sig.chains) (Gu:=m.sig.path.length) (K4:=Ad .u64 m.sig.path) hw h1 h2 (by omega) m.ents 0 fu none rfl (by omega) (by omega) (.inl ⟨rfl,rfl⟩) (fun h=>h) (fun x hx=>by cases hx);have ev:Gd ((m.ents.take 0).map A3)=[]:=rfl;have z0:((0:Nat):Int)=0:=rfl;rw[ev,z0] at l0;unfold I4;rw[hb,<-l0]
 repeat(with_reducible(first|apply Al|apply Af|apply Ak|apply Bf|apply A7|apply Ag|apply Aj|apply Do);· first|constructor|(simp(disch:=omega)only[Dp,Dx]<;>first|constructor|omega)|omega)
 try simp(disch:=omega)only[Aa,Dx]
 all_goals rfl
end
def Py(m:Md):Int:=P8 15 (Bn (A4 m))
def JA(m:Md)(k:Ky):Int:=if Bl m=0 then (if m.sig.leaf≠m.ver-1 then 33 else Acj k (Py m) m.sig) else Bl m
def Ei(m:Md):Int:=if Bl m=0 then QG m.sig else Bl m
def Ht(m:Md):Cg:=Bn (A4 m)++DK m.sig
def OJ(m:Md):Ab:=if Ei m=0 then [.own 1 (Ht m).length (Ad .u8 (Ht m)),Ao 0] else [.own 1 0 [],Ao (Ei m)]
def IL(m:Md):Ab:=if Bl m=0 then [Ac (Py m),Ao 0] else [Ac 0,Ao (Bl m)]
def JT:Md:=⟨0,0,0,[],⟨0,[],[]⟩⟩
def Nm(m:Md)(seed h:Int):Md × Int:=
 if Bl m=0 then (match HJ seed h (m.ver-1) (Py m) with|some s=>({ m with sig:=s },0)|none=>(JT,9)) else (JT,Bl m)
theorem Vq{m:Md}(hw:m.wf)(h:Bl m=0):(Bn (A4 m)).length<=18573:=by obtain⟨_,f,l⟩:=Wa hw h;have:=f.len;omega
theorem FN{m:Md}(hw:m.wf)(h:Bl m=0):Mn (Bn (A4 m)):=by obtain⟨_,f,_⟩:=Wa hw h;intro y hy;obtain⟨x,hx,hy⟩:=List.mem_flatMap.1 hy;have:=(f x hx).1;exact Ah1 this.k1 this.k8 this.n0 y hy
section
variable {fu d:Nat}{m:Md}
theorem Aew(Bo:20000<=fu)(hw:m.wf):Ap C0 prog fu (d+10) 35 [.agg m.cells]=some ⟨IL m,[]⟩:=by
 refine (NX fu (d+9) m.ver m.iss m.nxt m.ents.length (B0 m.ents) m.sig.leaf m.sig.chains.length (Ad .u64 m.sig.chains) m.sig.path.length (Ad .u64 m.sig.path)).trans ?_;have bq:=Ac1 (fu:=fu) (d:=d) (by omega) hw;simp only[Md.cells] at bq;unfold I4 at bq;unfold IL;by_cases h0:Bl m=0
 ·have lb:=Vq hw h0;rw[B7 h0] at bq;rw[B7 h0];have e00:((0:Int) != 0)=false:=rfl;have hh:=Ait (xs:=Nz) (fu:=fu) (d:=d+4) (FN hw h0) (by omega) (by omega) (by omega) 15;have eW:P8 15 (Bn (A4 m))=Py m:=rfl;rw[eW] at hh;have L1:=Am .u8 (Bn (A4 m));have t1:=Ob .u8 (Bn (A4 m));generalize (Bn (A4 m)).length=n1 at *
  generalize Ad .u8 (Bn (A4 m))=c1 at *
  repeat(with_reducible(first|apply Al|apply Af|apply Ak|apply Bf|apply A7|apply Ay|apply Ag|apply Aj|apply Do);· first|constructor|(simp(disch:=omega)only[Dp,bq,e00,Ec,Cu,Fi,L1,t1,hh]<;>first|constructor|omega)|omega)
  try simp(disch:=omega)only[Aa,bq,e00,Ec,Cu,Fi,L1,t1,hh]
  all_goals rfl
 ·have Ge:(Bl m != 0)=true:=by simp[h0]
  rw[Ba h0] at bq;rw[Ba h0]
  repeat(with_reducible(first|apply Al|apply Af|apply Ak|apply Bf|apply A7|apply Ay|apply Ag|apply Aj|apply Do);· first|constructor|(simp(disch:=omega)only[Dp,bq,Ge]<;>first|constructor|omega)|omega)
  try simp(disch:=omega)only[Aa,bq,Ge]
  all_goals rfl
theorem BB(Bo:20000<=fu)(hw:m.wf)(k:Ky):Ap C0 prog fu (d+11) 19 [.agg m.cells,.agg k.cells]=some ⟨[Ao (JA m k)],[]⟩:=by
 refine (HL fu (d+10) m.ver m.iss m.nxt m.ents.length (B0 m.ents) m.sig.leaf m.sig.chains.length (Ad .u64 m.sig.chains) m.sig.path.length (Ad .u64 m.sig.path) k.h k.root).trans ?_;have bq:=Aew (fu:=fu) (d:=d) Bo hw;simp only[Md.cells] at bq;unfold IL at bq;unfold JA;by_cases h0:Bl m=0
 ·rw[B7 h0] at bq;rw[B7 h0];have hv:=Mw h0;have e00:((0:Int) != 0)=false:=rfl;have w:wrap .i64 (m.ver-1)=m.ver-1:=Ah (by omega) (by omega);by_cases h1:m.sig.leaf≠m.ver-1
  ·have hn:(m.sig.leaf != m.ver-1)=true:=by simp[h1]
   rw[B7 h1]
   repeat(with_reducible(first|apply Al|apply Af|apply Ak|apply Bf|apply A7|apply Ay|apply Ag|apply Aj|apply Do);· first|constructor|(simp(disch:=omega)only[Dp,bq,e00,w,hn]<;>first|constructor|omega)|omega)
   try simp(disch:=omega)only[Aa,bq,e00,w,hn]
   all_goals rfl
  ·have hn:(m.sig.leaf != m.ver-1)=false:=by simp only[ne_eq,Decidable.not_not] at h1;simp[h1]
   rw[Ba h1];have vr:=Ake (xs:=Nz) (fu:=fu) (d:=d+2) (by omega) k (Py m) m.sig;simp only[Ky.cells,Sg.cells] at vr
   repeat(with_reducible(first|apply Al|apply Af|apply Ak|apply Bf|apply A7|apply Ay|apply Ag|apply Aj|apply Do);· first|constructor|(simp(disch:=omega)only[Dp,bq,e00,w,hn,vr]<;>first|constructor|omega)|omega)
   try simp(disch:=omega)only[Aa,bq,e00,w,hn,vr]
   all_goals rfl
 ·have Ge:(Bl m != 0)=true:=by simp[h0]
  rw[Ba h0] at bq;rw[Ba h0]
  repeat(with_reducible(first|apply Al|apply Af|apply Ak|apply Bf|apply A7|apply Ay|apply Ag|apply Aj|apply Do);· first|constructor|(simp(disch:=omega)only[Dp,bq,Ge]<;>first|constructor|omega)|omega)
  try simp(disch:=omega)only[Aa,bq,Ge]
  all_goals rfl
theorem Aix(Bo:20000<=fu)(hw:m.wf)(hp:m.sig.path.length<=1000000000)(hf:m.sig.path.length<fu):Ap C0 prog fu (d+10) 25 [.agg m.cells]=some ⟨OJ m,[]⟩:=by
 refine (GJ fu (d+9) m.ver m.iss m.nxt m.ents.length (B0 m.ents) m.sig.leaf m.sig.chains.length (Ad .u64 m.sig.chains) m.sig.path.length (Ad .u64 m.sig.path)).trans ?_;have bq:=Ac1 (fu:=fu) (d:=d) (by omega) hw;simp only[Md.cells] at bq;have es:=Amd (xs:=Nz) (fu:=fu) (d:=d+7) (by omega) m.sig hp hf;simp only[Sg.cells] at es;unfold I4 at bq;unfold OJ Ei;by_cases h0:Bl m=0
 ·have lb:=Vq hw h0;rw[B7 h0] at bq;rw[B7 h0];have L1:=Am .u8 (Bn (A4 m));have t1:=Ob .u8 (Bn (A4 m));have e00:((0:Int) != 0)=false:=rfl;have e90:((9:Int) != 0)=true:=rfl;have e40:((4:Int) != 0)=true:=rfl;unfold QG;by_cases g1:D6 m.sig.path.length=true
  ·rw[B7 g1] at es;rw[B7 g1,Ba (by omega)]
   repeat(with_reducible(first|apply Al|apply Af|apply Ak|apply Bf|apply A7|apply Ay|apply Ag|apply Aj|apply Do);· first|constructor|(simp(disch:=omega)only[Dp,bq,es,e00,e90]<;>first|constructor|omega)|omega)
   try simp(disch:=omega)only[Aa,bq,es,e00,e90]
   all_goals rfl
  rw[Ba g1] at es;rw[Ba g1];by_cases g2:J8 m.sig.leaf m.sig.path.length=true
  ·rw[B7 g2] at es;rw[B7 g2,Ba (by omega)]
   repeat(with_reducible(first|apply Al|apply Af|apply Ak|apply Bf|apply A7|apply Ay|apply Ag|apply Aj|apply Do);· first|constructor|(simp(disch:=omega)only[Dp,bq,es,e00,e90]<;>first|constructor|omega)|omega)
   try simp(disch:=omega)only[Aa,bq,es,e00,e90]
   all_goals rfl
  rw[Ba g2] at es;rw[Ba g2];by_cases g3:m.sig.chains.length≠18
  ·rw[B7 g3] at es;rw[B7 g3,Ba (by omega)]
   repeat(with_reducible(first|apply Al|apply Af|apply Ak|apply Bf|apply A7|apply Ay|apply Ag|apply Aj|apply Do);· first|constructor|(simp(disch:=omega)only[Dp,bq,es,e00,e40]<;>first|constructor|omega)|omega)
   try simp(disch:=omega)only[Aa,bq,es,e00,e40]
   all_goals rfl
  rw[Ba g3] at es;rw[Ba g3,B7 rfl];have hb4:=I5 (h:=m.sig.path.length) (by simpa using g1)
  have ls:(DK m.sig).length=2+8*m.sig.chains.length+8*m.sig.path.length:=by
   unfold DK;simp only[G9,G8,D9];omega
  have L2:=Am .u8 (DK m.sig);have t2:=Ob .u8 (DK m.sig)
  have ea:Ad .u8 (Bn (A4 m))++Ad .u8 (DK m.sig)=Ad .u8 (Ht m):=by
   unfold Ht;rw[Ad,Ad,Ad,List.flatMap_append]
  have le:(Ht m).length=(Bn (A4 m)).length+(DK m.sig).length:=by unfold Ht;rw[G8]
  have L3:=Am .u8 (Ht m);have t3:List.take ((Bn (A4 m)).length+(DK m.sig).length) (Ad .u8 (Ht m))=Ad .u8 (Ht m):=I9 (by omega);rw[le] at L3 ⊢;generalize (Bn (A4 m)).length=n1 at *
  generalize (DK m.sig).length=n2 at *
  generalize Ad .u8 (Bn (A4 m))=c1 at *
  generalize Ad .u8 (DK m.sig)=c2 at *
  repeat(with_reducible(first|apply Al|apply Af|apply Ak|apply Bf|apply A7|apply Ay|apply Ag|apply Aj|apply Do);· first|constructor|(simp(disch:=omega)only[Dp,bq,es,e00,Ec,Cu,Fi,L1,t1,L2,t2,ea,L3,t3]<;>first|constructor|omega)|omega)
  try simp(disch:=omega)only[Aa,bq,es,e00,Ec,Cu,Fi,L1,t1,L2,t2,ea,L3,t3]
  all_goals rfl
 ·have Ge:(Bl m != 0)=true:=by simp[h0]
  rw[Ba h0] at bq;rw[Ba h0,Ba h0]
  repeat(with_reducible(first|apply Al|apply Af|apply Ak|apply Bf|apply A7|apply Ay|apply Ag|apply Aj|apply Do);· first|constructor|(simp(disch:=omega)only[Dp,bq,Ge]<;>first|constructor|omega)|omega)
  try simp(disch:=omega)only[Aa,bq,Ge]
  all_goals rfl
theorem Al2{l:List An}(hl:l.length<=1000000):Ap C0 prog fu (d+1) 71 [.lst false 3 l.length (C3 l)]=some ⟨[.lst false 3 l.length (C3 l)],[]⟩:=by
 refine (Oq fu d l.length (C3 l)).trans ?_;have L:=R1 l;have t:List.take (l.length*3) (C3 l)=C3 l:=I9 (by omega);by_cases h:0<l.length
 ·skip
  repeat(with_reducible(first|apply Al|apply Af|apply Ak|apply Bf|apply A7|apply Ay|apply Ag|apply Aj|apply Do);· first|constructor|(simp(disch:=omega)only[Dp,L,t,PT,Cu,Fi]<;>first|constructor|omega)|omega)
  try simp(disch:=omega)only[Aa,L,t,PT,Cu,Fi]
  all_goals rfl
 ·have h0:l=[]:=List.eq_nil_of_length_eq_zero (by omega);subst h0;rw[D0 _ _ _ (by simp)];exact ON _
theorem Alx{l:List Sa}(hl:l.length<=1000000):Ap C0 prog fu (d+1) 72 [.lst false 2 l.length (Dg l)]=some ⟨[.lst false 2 l.length (Dg l)],[]⟩:=by
 refine (On fu d l.length (Dg l)).trans ?_;have L:=BK l;have t:List.take (l.length*2) (Dg l)=Dg l:=I9 (by omega);by_cases h:0<l.length
 ·skip
  repeat(with_reducible(first|apply Al|apply Af|apply Ak|apply Bf|apply A7|apply Ay|apply Ag|apply Aj|apply Do);· first|constructor|(simp(disch:=omega)only[Dp,L,t,PT,Cu,Fi]<;>first|constructor|omega)|omega)
  try simp(disch:=omega)only[Aa,L,t,PT,Cu,Fi]
  all_goals rfl
 ·have h0:l=[]:=List.eq_nil_of_length_eq_zero (by omega);subst h0;rw[D0 _ _ _ (by simp)];exact ON _
theorem Aot{x:Me}(h1:x.ans.length<=1000000)(h2:x.sts.length<=1000000):Ap C0 prog fu (d+2) 37 [.agg x.cells]=some ⟨[.agg x.cells],[]⟩:=by
 refine (Qb fu (d+1) x.model x.ans.length (C3 x.ans) x.sts.length (Dg x.sts)).trans ?_;have c1:=Al2 (fu:=fu) (d:=d) h1;have c2:=Alx (fu:=fu) (d:=d) h2
 repeat(with_reducible(first|apply Al|apply Af|apply Ak|apply Bf|apply A7|apply Ay|apply Ag|apply Aj|apply Do);· first|constructor|(simp(disch:=omega)only[Dp,c1,c2]<;>first|constructor|omega)|omega)
 try simp(disch:=omega)only[Aa,c1,c2]
 all_goals rfl
theorem BD(a:List Me)(x:Me):B0 a++[Ac x.model,.lst false 3 x.ans.length (C3 x.ans),.lst false 2 x.sts.length (Dg x.sts)]=B0 (a++[x]):=by unfold B0;rw[List.flatMap_append,J7,List.flatMap_nil,List.append_nil];rfl
theorem Ajc{Dc Cj Ef Kz a1 a2:Int}{Gt Gv Gu:Nat}{Ku Kx K4:Ab}{s:Sg}(h3:m.ents.length<=16)(h4:∀x∈m.ents,x.ans.length<=4/\x.sts.length<=4):∀(r:List Me)(i nn:Nat),m.ents.drop i=r->r.length<nn->i<=m.ents.length ->
  K8 fu (Ap C0 prog fu (d+2)) Dc Cj Ef Gt Ku Kz Gv Kx Gu K4 a1 a2 nn i m.ents.length (B0 m.ents) (m.ents.length:Int) (i:Int) m.ver m.iss m.nxt m.ents.length (B0 m.ents) m.sig.leaf m.sig.chains.length (Ad .u64 m.sig.chains) m.sig.path.length (Ad .u64 m.sig.path) 0 0 0 0 0 0 0 [] [] [] s.leaf s.chains.length (Ad .u64 s.chains) s.path.length (Ad .u64 s.path) (B0 (m.ents.take i)) =
   some ⟨[.agg ({ m with sig:=s }:Md).cells,Ao 0],[]⟩
 |_,_,0,_,h,_=>by omega
 |[],i,nn+1,hd,hn,hi=>by
  have hl:=drop_nil hd;have ei:i=m.ents.length:=by omega
  have eall:m.ents.take i=m.ents:=I9 (by omega);rw[eall];subst ei;have L:=Oz m.ents;have t:List.take (m.ents.length*3) (B0 m.ents)=B0 m.ents:=I9 (by omega);rw[Sl]
  repeat(with_reducible(first|apply Al|apply Af|apply Ak|apply Bf|apply A7|apply Ay|apply Ag|apply Aj|apply Do);· first|constructor|(simp(disch:=omega)only[Dp,L,t,Cu,Fi]<;>first|constructor|omega)|omega)
  try simp(disch:=omega)only[Aa,L,t,Cu,Fi]
  all_goals rfl
 |x::rs,i,nn+1,hd,hn,hi=>by
  obtain⟨q1,q2,q3⟩:=C1 hd;simp only[G9] at hn;obtain⟨c0,c1,c2⟩:=mea q2;have c2':(B0 m.ents).getD (i*3+1+1) .top=.lst false 2 x.sts.length (Dg x.sts):=c2;have hx:=h4 x (List.mem_of_getElem? q2);have nt:Int.toNat (i:Int)=i:=Ij _;have w:wrap .i64 ((i:Int)+1)=((i+1:Nat):Int):=by rw[Ah (by omega) (by omega)];omega
  have et:m.ents.take (i+1)=m.ents.take i++[x]:=by rw[List.take_add_one,q2];rfl
  have cp:=Aot (fu:=fu) (d:=d) (x:=x) (by omega) (by omega);simp only[Me.cells] at cp;have lt:(m.ents.take i).length=i:=by rw[List.length_take];omega
  have L:(B0 (m.ents.take i)).length=i*3:=by rw[Oz,lt]
  have t:List.take (i*3) (B0 (m.ents.take i))=B0 (m.ents.take i):=I9 (by omega);have ea:=BD (m.ents.take i) x;rw[<-et] at ea;have ih:=Ajc (Dc:=Dc) (Cj:=Cj) (Ef:=Ef) (Kz:=Kz) (a1:=a1) (a2:=a2) (Gt:=Gt) (Gv:=Gv) (Gu:=Gu) (Ku:=Ku) (Kx:=Kx) (K4:=K4) (s:=s) h3 h4 rs (i+1) nn q3 (by omega) (by omega);rw[<-ih,Sl];generalize B0 (m.ents.take i)=E1 at *
  generalize B0 (m.ents.take (i+1))=E2 at *
  repeat(with_reducible(first|apply Al|apply Af|apply Ak|apply Bf|apply A7|apply Ay|apply Ag|apply Aj|apply Do);· first|constructor|(simp(disch:=omega)only[Dp,nt,c0,c1,c2',cp,L,t,ea,w]<;>first|constructor|omega)|omega)
  try simp(disch:=omega)only[Aa,nt,c0,c1,c2',cp,L,t,ea,w]
  all_goals rfl
theorem At8(seed h leaf w:Int):Ap C0 prog fu (d+1) 36 [Ac seed,Ao h,Ao leaf,Ac w] =
  some ⟨[.agg [Ao (tkL h leaf),.lst false 1 (tkC seed h leaf w).length (Ad .u64 (tkC seed h leaf w)),.lst false 1 (tkP seed h leaf).length (Ad .u64 (tkP seed h leaf))],Ao (tkE h leaf)],[]⟩:=by kernel_rfl
theorem Aud(seed h leaf w:Int):(HJ seed h leaf w=none/\tkE h leaf=9)\/(HJ seed h leaf w=some ⟨tkL h leaf,tkC seed h leaf w,tkP seed h leaf⟩/\tkE h leaf=0):=by
 unfold HJ tkE tkL tkC tkP RP;cases D6 h
 ·cases J8 leaf h
  ·exact .inr ⟨rfl,rfl⟩
  ·exact .inl ⟨rfl,rfl⟩
 ·exact .inl ⟨rfl,rfl⟩
theorem Ad6{p:Option Int}:∀{l:List Me},(∀x∈l,Cy x=0)->∀x∈l,x.ans.length<=4/\x.sts.length<=4:=fun h x hx=>⟨(Wq (h x hx)).1,(Wq (h x hx)).2.1⟩
theorem Adc(Bo:20000<=fu)(hw:m.wf)(seed h:Int):Ap C0 prog fu (d+11) 16 [.agg m.cells,Ac seed,Ao h]=some ⟨[.agg (Nm m seed h).1.cells,Ao (Nm m seed h).2],[]⟩:=by
 refine (NV fu (d+10) m.ver m.iss m.nxt m.ents.length (B0 m.ents) m.sig.leaf m.sig.chains.length (Ad .u64 m.sig.chains) m.sig.path.length (Ad .u64 m.sig.path) seed h).trans ?_;have bq:=Aew (fu:=fu) (d:=d) Bo hw;simp only[Md.cells] at bq;unfold IL at bq;unfold Nm;by_cases h0:Bl m=0
 ·rw[B7 h0] at bq;rw[B7 h0];have hv:=Mw h0;have e00:((0:Int) != 0)=false:=rfl;have e90:((9:Int) != 0)=true:=rfl;have w:wrap .i64 (m.ver-1)=m.ver-1:=Ah (by omega) (by omega);have tk:=At8 (fu:=fu) (d:=d+9) seed h (m.ver-1) (Py m);have La:=Am .u64 (tkC seed h (m.ver-1) (Py m));have Lb:=Am .u64 (tkP seed h (m.ver-1));rcases Aud seed h (m.ver-1) (Py m) with⟨hs,he⟩|⟨hs,he⟩
  ·rw[hs];rw[he] at tk
   repeat(with_reducible(first|apply Al|apply Af|apply Ak|apply Bf|apply A7|apply Ay|apply Ag|apply Aj|apply Do);· first|constructor|(simp(disch:=omega)only[Dp,bq,e00,e90,w,tk]<;>first|constructor|omega)|omega)
   try simp(disch:=omega)only[Aa,bq,e00,e90,w,tk]
   all_goals rfl
  ·rw[hs];rw[he] at tk;have sl:=Ajc (fu:=fu) (d:=d+8) (m:=m) (Dc:=m.ver) (Cj:=m.iss) (Ef:=m.nxt) (Kz:=m.sig.leaf) (a1:=seed) (a2:=h) (Gt:=m.ents.length) (Gv:=m.sig.chains.length) (Gu:=m.sig.path.length) (Ku:=B0 m.ents) (Kx:=Ad .u64 m.sig.chains) (K4:=Ad .u64 m.sig.path) (s:=⟨tkL h (m.ver-1),tkC seed h (m.ver-1) (Py m),tkP seed h (m.ver-1)⟩) (by omega) (Ad6 (p:=none) (R0 hv.2.2.2.2.2.2)) m.ents 0 fu rfl (by omega) (by omega);have ev:B0 (m.ents.take 0)=[]:=rfl;have z0:((0:Nat):Int)=0:=rfl;rw[ev,z0] at sl;simp only;rw[<-sl]
   repeat(with_reducible(first|apply Al|apply Af|apply Ak|apply Bf|apply A7|apply Ay|apply Ag|apply Aj|apply Do);· first|constructor|(simp(disch:=omega)only[Dp,bq,e00,e90,w,tk]<;>first|constructor|omega)|omega)
   try simp(disch:=omega)only[Aa,bq,e00,e90,w,tk]
   all_goals rfl
 ·have Ge:(Bl m != 0)=true:=by simp[h0]
  rw[Ba h0] at bq;rw[Ba h0]
  repeat(with_reducible(first|apply Al|apply Af|apply Ak|apply Bf|apply A7|apply Ay|apply Ag|apply Aj|apply Do);· first|constructor|(simp(disch:=omega)only[Dp,bq,Ge]<;>first|constructor|omega)|omega)
  try simp(disch:=omega)only[Aa,bq,Ge]
  all_goals rfl
end
section
variable {xs:FuncId->Option (Ab->Option Dl)}(fu d:Nat)(call:Bi)
theorem AB(Z:ByteArray):F1 C0 fu d 95 [.sc (.string Z)] fun call=>Bd (decide ((↑(ByteArray.size Z):Int)<1)) (Bv [(9:Int)]) (Bd (decide ((↑(ByteArray.size Z):Int)>32)) (Bv [(9:Int)]) (Eb (call 126 [.sc (.string Z)]) fun a b=>Co a fun a=>Aq b<|Bd (!a) (Bv [(6:Int)]) (Bv [(0:Int)]))):=by show _=_;kernel_rfl
def Ho(Z:Int)(Y:Nat)(X:Ab)(W:Nat)(V:Ab)(U T:Nat)(S Q:Int)(P:Nat)(O:Ab)(N:Nat)(M L:Ab):Option Dl:=Lu fu call 58 Tryz.f58 [.agg [Ac Z,Ai 3 Y X,Ai 2 W V]] [.r,.r,.r,.l,.r,.l] U ⟨lk [(1,.ptr 1 0),(4,.view 4 3 0 T),(5,S)],Bq [(1,.st [Ac Q,Ai 3 P O,Ai 2 N M]),(4,.ar false L)]⟩
def Fx(Z:Int)(Y:Nat)(X:Ab)(W:Nat)(V:Ab)(U T:Nat)(S Q:Int)(P:Nat)(O:Ab)(N:Nat)(M L:Ab):Option Dl:=Lu fu call 58 Tryz.f58 [.agg [Ac Z,Ai 3 Y X,Ai 2 W V]] [.r,.r,.r,.r,.r,.l,.r,.l] U ⟨lk [(1,.ptr 1 0),(4,.view 4 3 0 T),(9,S)],Bq [(1,.st [Ac Q,Ai 3 P O,Ai 2 N M]),(4,.ar false L)]⟩
theorem E5(T:Int)(S:Nat)(Q:Ab)(P:Nat)(O:Ab)(L Y:Nat)(Z N:Int)(X:Nat)(W:Ab)(V:Nat)(M U:Ab):Ho fu call T S Q P O (L+1) Y Z N X W V M U=(Bd (decide (Z<(↑X:Int))) (At (decide (0<=Z)&&decide (Z<(↑X:Int)))<|Ez (W.getD (Z.toNat*3+0) .top) fun a=>J1 .i64 (call 95 [.sc (.string a)]) fun a=>Bd (a != 0) (Bv [.own 3 0 [],a]) (At (decide (0<=Z)&&decide (Z<(↑X:Int)))<|A8 .i64 (W.getD (Z.toNat*3+1) .top) fun a=>A8 .u64 (W.getD (Z.toNat*3+1+1) .top) fun b=>Eb (call 96 [.agg [a,Ac b]]) fun a b=>Kn 1 a fun a c=>D1 .i64 b fun b=>Bd (b != 0) (Bv [.own 3 0 [],b]) (Eb (call 56 [(2:Int)]) fun b e=>D3 b fun b=>Di .i64 b fun b f=>Di .u64 f fun f g=>Av g fun g h=>Ez g fun g=>Aq h<|Aq e<|At (decide (0<=Z)&&decide (Z<(↑X:Int)))<|Ez (W.getD (Z.toNat*3+0) .top) fun e=>Eb (call 97 [.sc (.string e)]) fun e h=>D3 e fun e=>Di .i64 e fun e i=>Di .u64 i fun i j=>Av j fun j k=>Ez j fun j=>Aq k<|Aq h<|At (decide (0+a*1<=c.length))<|Eb (call 98 [Ai 1 a (List.take (a*1) (c.drop 0))]) fun a c=>D3 a fun a=>Di .i64 a fun a h=>Di .u64 h fun h k=>Av k fun k m=>Ez k fun k=>Aq m<|Aq c<|At (decide (Y*3<=U.length)&&true&&decide ((Y+3)*32<=1099511627776)&&decide (Y+3<=1099511627776))<|Aa (Y+3) fun c=>Aa (List.take (Y*3) U++[Ao b,Ac f,.sc (.string g),Ao e,Ac i,.sc (.string j),Ao a,Ac h,.sc (.string k)]) fun a=>Aa (wrap .i64 (Z+1)) fun b=>Ho fu call T S Q P O L c b N X W V M a))) (Eb (call 56 [(↑V:Int)]) fun a b=>D3 a fun a=>Di .i64 a fun a c=>Di .u64 c fun c e=>Av e fun e f=>Ez e fun e=>Aq f<|Aq b<|Ve Y 3 32 U [a,Ac c,.sc (.string e)] fun a b=>Fx fu call T S Q P O fu a 0 N X W V M b)):=by kernel_rfl
theorem Gq(U:Int)(T:Nat)(S:Ab)(Q:Nat)(P:Ab)(O Z:Nat)(Y N:Int)(M:Nat)(L:Ab)(W:Nat)(V X:Ab):Fx fu call U T S Q P (O+1) Z Y N M L W V X=(Bd (decide (Y<(↑W:Int))) (At (decide (0<=Y)&&decide (Y<(↑W:Int)))<|A8 .i64 (V.getD (Y.toNat*2) .top) fun a=>A8 .i64 (V.getD (Y.toNat*2+1) .top) fun b=>Eb (call 51 [a,(1:Int),(4:Int)]) fun c e=>Co c fun c=>Aq e<|Bd (!c) (Bv [.own 3 0 [],(9:Int)]) (Eb (call 51 [b,(0:Int),(1099511627776:Int)]) fun c e=>Co c fun c=>Aq e<|Bd (!c) (Bv [.own 3 0 [],(9:Int)]) (Bd (decide (Y>0)) (Aa (wrap .i64 (Y-1)) fun c=>At (decide (0<=c)&&decide (c<(↑W:Int)))<|A8 .i64 (V.getD (c.toNat*2+1) .top) fun c=>Bd (decide (b<=c)) (Bv [.own 3 0 [],(7:Int)]) (Eb (call 56 [(2:Int)]) fun c e=>D3 c fun c=>Di .i64 c fun c f=>Di .u64 f fun f g=>Av g fun g h=>Ez g fun g=>Aq h<|Aq e<|Aa (wrap .u64 a) fun a=>Eb (call 57 [Ac a]) fun a e=>D3 a fun a=>Di .i64 a fun a h=>Di .u64 h fun h i=>Av i fun i j=>Ez i fun i=>Aq j<|Aq e<|Aa (wrap .u64 b) fun b=>Eb (call 57 [Ac b]) fun b e=>D3 b fun b=>Di .i64 b fun b j=>Di .u64 j fun j k=>Av k fun k m=>Ez k fun k=>Aq m<|Aq e<|At (decide (Z*3<=X.length)&&true&&decide ((Z+3)*32<=1099511627776)&&decide (Z+3<=1099511627776))<|Aa (Z+3) fun e=>Aa (List.take (Z*3) X++[Ao c,Ac f,.sc (.string g),Ao a,Ac h,.sc (.string i),Ao b,Ac j,.sc (.string k)]) fun a=>Aa (wrap .i64 (Y+1)) fun b=>Fx fu call U T S Q P O e b N M L W V a)) (Eb (call 56 [(2:Int)]) fun c e=>D3 c fun c=>Di .i64 c fun c f=>Di .u64 f fun f g=>Av g fun g h=>Ez g fun g=>Aq h<|Aq e<|Aa (wrap .u64 a) fun a=>Eb (call 57 [Ac a]) fun a e=>D3 a fun a=>Di .i64 a fun a h=>Di .u64 h fun h i=>Av i fun i j=>Ez i fun i=>Aq j<|Aq e<|Aa (wrap .u64 b) fun b=>Eb (call 57 [Ac b]) fun b e=>D3 b fun b=>Di .i64 b fun b j=>Di .u64 j fun j k=>Av k fun k m=>Ez k fun k=>Aq m<|Aq e<|At (decide (Z*3<=X.length)&&true&&decide ((Z+3)*32<=1099511627776)&&decide (Z+3<=1099511627776))<|Aa (Z+3) fun e=>Aa (List.take (Z*3) X++[Ao c,Ac f,.sc (.string g),Ao a,Ac h,.sc (.string i),Ao b,Ac j,.sc (.string k)]) fun a=>Aa (wrap .i64 (Y+1)) fun b=>Fx fu call U T S Q P O e b N M L W V a)))) (At (decide (Z*3<=X.length))<|Bv [.own 3 Z (X.take (Z*3)),(0:Int)])):=by kernel_rfl
theorem Z3(Y:Int)(Z:Nat)(W:Ab)(X:Nat)(V:Ab):F1 C0 fu d 58 [.agg [Ac Y,Ai 3 Z W,Ai 2 X V]] fun call=>Bd (decide ((↑Z:Int)>4)) (Bv [.own 3 0 [],(8:Int)]) (Bd (decide ((↑X:Int)>4)) (Bv [.own 3 0 [],(8:Int)]) (Eb (call 56 [(3:Int)]) fun a b=>D3 a fun a=>Di .i64 a fun a c=>Di .u64 c fun c e=>Av e fun e f=>Ez e fun e=>Aq f<|Aq b<|Eb (call 57 [Ac Y]) fun b f=>D3 b fun b=>Di .i64 b fun b g=>Di .u64 g fun g h=>Av h fun h i=>Ez h fun h=>Aq i<|Aq f<|Eb (call 56 [(↑Z:Int)]) fun f i=>D3 f fun f=>Di .i64 f fun f j=>Di .u64 j fun j k=>Av k fun k m=>Ez k fun k=>Aq m<|Aq i<|Ho fu call Y Z W X V fu 3 0 Y Z W X V ([a,Ac c,.sc (.string e),b,Ac g,.sc (.string h),f,Ac j,.sc (.string k)]))):=by show _=_;kernel_rfl
def Er(Z Y X:Int)(W:Nat)(V:Ab)(U:Int)(T:Nat)(S:Ab)(Q:Nat)(P:Ab)(O N:Nat)(M L:Int)(K J:Int)(I:Nat)(H:Ab)(G:Int)(E:Nat)(D:Ab)(B:Nat)(A z:Ab):Option Dl:=Lu fu call 31 Tryz.f31 [.agg [Z,Y,X,Ai 3 W V,U,Ai 1 T S,Ai 1 Q P]] [.r,.r,.r,.l,.r,.l] O ⟨lk [(1,.ptr 1 0),(4,.view 4 3 0 N),(5,M)],Bq [(1,.st [L,K,J,Ai 3 I H,G,Ai 1 E D,Ai 1 B A]),(4,.ar false z)]⟩
theorem Ko(U T S:Int)(Q:Nat)(P:Ab)(O:Int)(N:Nat)(M:Ab)(L:Nat)(K:Ab)(J Y:Nat)(Z I:Int)(H G:Int)(W:Nat)(X:Ab)(E:Int)(D:Nat)(B:Ab)(A:Nat)(z V:Ab):Er fu call U T S Q P O N M L K (J+1) Y Z I H G W X E D B A z V=(Bd (decide (Z<(↑W:Int))) (Bd (decide (Z>0)) (At (decide (0<=Z)&&decide (Z<(↑W:Int)))<|A8 .u64 (X.getD (Z.toNat*3+0) .top) fun a=>Aa (wrap .i64 (Z-1)) fun b=>At (decide (0<=b)&&decide (b<(↑W:Int)))<|A8 .u64 (X.getD (b.toNat*3+0) .top) fun b=>Bd (decide (a<=b)) (Bv [.own 1 0 [],(7:Int)]) (At (decide (0<=Z)&&decide (Z<(↑W:Int)))<|A8 .u64 (X.getD (Z.toNat*3) .top) fun a=>M0 3 (X.getD (Z.toNat*3+1) .top) fun b c e=>M0 2 (X.getD (Z.toNat*3+1+1) .top) fun b f g=>Eb (call 58 [.agg [Ac a,Ai 3 c e,Ai 2 f g]]) fun a b=>Kn 3 a fun a c=>D1 .i64 b fun b=>Bd (b != 0) (Bv [.own 1 0 [],b]) (At (decide (0+a*3<=c.length))<|At (decide (Y*3<=V.length)&&decide (List.length (List.take (a*3) (c.drop 0))=a*3)&&decide ((Y+a)*32<=1099511627776)&&decide (Y+a<=1099511627776))<|Aa (Y+a) fun b=>Aa (List.take (Y*3) V++List.take (a*3) (c.drop 0)) fun a=>Aa (wrap .i64 (Z+1)) fun c=>Er fu call U T S Q P O N M L K J b c I H G W X E D B A z a))) (At (decide (0<=Z)&&decide (Z<(↑W:Int)))<|A8 .u64 (X.getD (Z.toNat*3) .top) fun a=>M0 3 (X.getD (Z.toNat*3+1) .top) fun b c e=>M0 2 (X.getD (Z.toNat*3+1+1) .top) fun b f g=>Eb (call 58 [.agg [Ac a,Ai 3 c e,Ai 2 f g]]) fun a b=>Kn 3 a fun a c=>D1 .i64 b fun b=>Bd (b != 0) (Bv [.own 1 0 [],b]) (At (decide (0+a*3<=c.length))<|At (decide (Y*3<=V.length)&&decide (List.length (List.take (a*3) (c.drop 0))=a*3)&&decide ((Y+a)*32<=1099511627776)&&decide (Y+a<=1099511627776))<|Aa (Y+a) fun b=>Aa (List.take (Y*3) V++List.take (a*3) (c.drop 0)) fun a=>Aa (wrap .i64 (Z+1)) fun c=>Er fu call U T S Q P O N M L K J b c I H G W X E D B A z a))) (At (decide (0+Y*3<=V.length))<|Eb (call 59 [Ai 3 Y (List.take (Y*3) (V.drop 0))]) fun a b=>Kn 1 a fun a c=>Aq b<|At (decide (a*1<=c.length))<|Bv [.own 1 a (c.take (a*1)),(0:Int)])):=by kernel_rfl
theorem Wy(X Z Y:Int)(W:Nat)(V:Ab)(U:Int)(T:Nat)(S:Ab)(Q:Nat)(P:Ab):F1 C0 fu d 31 [.agg [X,Z,Y,Ai 3 W V,U,Ai 1 T S,Ai 1 Q P]] fun call=>Eb (call 51 [X,(1:Int),(16:Int)]) fun a b=>Co a fun a=>Aq b<|Bd (!a) (Bv [.own 1 0 [],(9:Int)]) (Bd (decide (Z<0)) (Bv [.own 1 0 [],(9:Int)]) (Bd (decide (Y<Z)) (Bv [.own 1 0 [],(9:Int)]) (Bd (decide (Y>1099511627776)) (Bv [.own 1 0 [],(9:Int)]) (Bd (decide ((↑W:Int)>16)) (Bv [.own 1 0 [],(8:Int)]) (Eb (call 56 [(4:Int)]) fun a b=>D3 a fun a=>Di .i64 a fun a c=>Di .u64 c fun c e=>Av e fun e f=>Ez e fun e=>Aq f<|Aq b<|Aa (wrap .u64 X) fun b=>Eb (call 57 [Ac b]) fun b f=>D3 b fun b=>Di .i64 b fun b g=>Di .u64 g fun g h=>Av h fun h i=>Ez h fun h=>Aq i<|Aq f<|Aa (wrap .u64 Z) fun f=>Eb (call 57 [Ac f]) fun f i=>D3 f fun f=>Di .i64 f fun f j=>Di .u64 j fun j k=>Av k fun k m=>Ez k fun k=>Aq m<|Aq i<|Aa (wrap .u64 Y) fun i=>Eb (call 57 [Ac i]) fun i m=>D3 i fun i=>Di .i64 i fun i n=>Di .u64 n fun n o=>Av o fun o p=>Ez o fun o=>Aq p<|Aq m<|Eb (call 56 [(↑W:Int)]) fun m p=>D3 m fun m=>Di .i64 m fun m q=>Di .u64 q fun q s=>Av s fun s t=>Ez s fun s=>Aq t<|Aq p<|Er fu call X Z Y W V U T S Q P fu 5 0 X Z Y W V U T S Q P ([a,Ac c,.sc (.string e),b,Ac g,.sc (.string h),f,Ac j,.sc (.string k),i,Ac n,.sc (.string o),m,Ac q,.sc (.string s)])))))):=by show _=_;kernel_rfl
theorem Wf(Z Y X:Int)(W:Nat)(V:Ab)(U:Int)(T:Nat)(S:Ab)(Q:Nat)(P:Ab)(O N:Int):F1 C0 fu d 12 [.agg [Z,Y,X,Ai 3 W V,U,Ai 1 T S,Ai 1 Q P],Ac O,N] fun call=>Eb (call 31 [.agg [Z,Y,X,Ai 3 W V,U,Ai 1 T S,Ai 1 Q P]]) fun a b=>Kn 1 a fun a c=>D1 .i64 b fun b=>Bd (b != 0) (Bv [.agg [(0:Int),(0:Int),(0:Int),Ai 3 0 [],(0:Int),Ai 1 0 [],Ai 1 0 []],b]) (Aa (wrap .i64 (Z-1)) fun b=>At (decide (0+a*1<=c.length))<|J1 .u64 (call 33 [(15:Int),Ai 1 a (List.take (a*1) (c.drop 0))]) fun a=>Eb (call 32 [Ac O,N,b,Ac a]) fun a b=>D3 a fun a=>Di .i64 a fun a c=>Xi 1 c fun c e f=>Xi 1 f fun f g h=>Aq h<|D1 .i64 b fun b=>Bd (b != 0) (Bv [.agg [(0:Int),(0:Int),(0:Int),Ai 3 0 [],(0:Int),Ai 1 0 [],Ai 1 0 []],b]) (At (decide (0+c*1<=e.length))<|At (decide (0+f*1<=g.length))<|Bv [.agg [Z,Y,X,Ai 3 W V,a,Ai 1 c (List.take (c*1) (e.drop 0)),Ai 1 f (List.take (f*1) (g.drop 0))],(0:Int)])):=by show _=_;kernel_rfl
theorem Tt(Y T S:Int)(Q:Nat)(P:Ab)(Z:Int)(X:Nat)(W:Ab)(V:Nat)(U:Ab)(O N:Int):F1 C0 fu d 20 [.agg [Y,T,S,Ai 3 Q P,Z,Ai 1 X W,Ai 1 V U],.agg [O,Ac N]] fun call=>Eb (call 31 [.agg [Y,T,S,Ai 3 Q P,Z,Ai 1 X W,Ai 1 V U]]) fun a b=>Kn 1 a fun a c=>D1 .i64 b fun b=>Bd (b != 0) (Bv [b]) (Aa (wrap .i64 (Y-1)) fun b=>Bd (Z != b) (Bv [(33:Int)]) (At (decide (0+a*1<=c.length))<|J1 .u64 (call 33 [(15:Int),Ai 1 a (List.take (a*1) (c.drop 0))]) fun a=>J1 .i64 (call 41 [.agg [O,Ac N],Ac a,.agg [Z,Ai 1 X W,Ai 1 V U]]) fun a=>Bv [a])):=by show _=_;kernel_rfl
def Fv(Z:Int)(Y:Nat)(X:Ab)(W:Nat)(V:Ab)(U:Int)(T:Nat)(S:Ab)(Q:Nat)(P:Ab)(O:Nat)(N M:Int)(L:Nat)(K:Ab)(J:Nat)(I:Ab)(H:Int)(G:Nat)(E:Ab)(D:Nat)(B:Ab):Option Dl:=Lu fu call 73 Tryz.f73 [.agg [Ac Z,Ai 3 Y X,Ai 2 W V],.agg [Ac U,Ai 3 T S,Ai 2 Q P]] [.r,.r,.l,.r,.l] O ⟨lk [(2,.ptr 2 0),(3,.ptr 3 0),(5,N)],Bq [(2,.st [Ac M,Ai 3 L K,Ai 2 J I]),(3,.st [Ac H,Ai 3 G E,Ai 2 D B])]⟩
def Fu(Z:Int)(Y:Nat)(X:Ab)(W:Nat)(V:Ab)(U:Int)(T:Nat)(S:Ab)(Q:Nat)(P:Ab)(O:Nat)(N M:Int)(L:Nat)(K:Ab)(J:Nat)(I:Ab)(H:Int)(G:Nat)(E:Ab)(D:Nat)(B:Ab):Option Dl:=Lu fu call 73 Tryz.f73 [.agg [Ac Z,Ai 3 Y X,Ai 2 W V],.agg [Ac U,Ai 3 T S,Ai 2 Q P]] [.r,.r,.r,.l,.r,.l] O ⟨lk [(2,.ptr 2 0),(3,.ptr 3 0),(6,N)],Bq [(2,.st [Ac M,Ai 3 L K,Ai 2 J I]),(3,.st [Ac H,Ai 3 G E,Ai 2 D B])]⟩
theorem J5(U:Int)(T:Nat)(S:Ab)(Q:Nat)(P:Ab)(O:Int)(N:Nat)(M:Ab)(L:Nat)(K:Ab)(B:Nat)(Z J:Int)(W:Nat)(Y:Ab)(I:Nat)(H:Ab)(G:Int)(V:Nat)(X:Ab)(E:Nat)(D:Ab):Fv fu call U T S Q P O N M L K (B+1) Z J W Y I H G V X E D=(Bd (decide (Z<(↑W:Int))) (At (decide (0<=Z)&&decide (Z<(↑W:Int)))<|Ez (Y.getD (Z.toNat*3) .top) fun a=>A8 .i64 (Y.getD (Z.toNat*3+1) .top) fun b=>A8 .u64 (Y.getD (Z.toNat*3+1+1) .top) fun c=>At (decide (0<=Z)&&decide (Z<(↑V:Int)))<|Ez (X.getD (Z.toNat*3) .top) fun e=>A8 .i64 (X.getD (Z.toNat*3+1) .top) fun f=>A8 .u64 (X.getD (Z.toNat*3+1+1) .top) fun g=>Bd (!(a==e&&(b==f&&(c==g&&true)))) (Bv [.sc (.bool false)]) (Aa (wrap .i64 (Z+1)) fun a=>Fv fu call U T S Q P O N M L K B a J W Y I H G V X E D)) (Fu fu call U T S Q P O N M L K fu 0 J W Y I H G V X E D)):=by kernel_rfl
theorem Ju(U:Int)(T:Nat)(S:Ab)(Q:Nat)(P:Ab)(O:Int)(N:Nat)(M:Ab)(L:Nat)(K:Ab)(J:Nat)(Z I:Int)(H:Nat)(G:Ab)(Y:Nat)(X:Ab)(E:Int)(D:Nat)(B:Ab)(V:Nat)(W:Ab):Fu fu call U T S Q P O N M L K (J+1) Z I H G Y X E D B V W=(Bd (decide (Z<(↑Y:Int))) (At (decide (0<=Z)&&decide (Z<(↑Y:Int)))<|A8 .i64 (X.getD (Z.toNat*2) .top) fun a=>A8 .i64 (X.getD (Z.toNat*2+1) .top) fun b=>At (decide (0<=Z)&&decide (Z<(↑V:Int)))<|A8 .i64 (W.getD (Z.toNat*2) .top) fun c=>A8 .i64 (W.getD (Z.toNat*2+1) .top) fun e=>Bd (!(a==c&&(b==e&&true))) (Bv [.sc (.bool false)]) (Aa (wrap .i64 (Z+1)) fun a=>Fu fu call U T S Q P O N M L K J a I H G Y X E D B V W)) (Bv [.sc (.bool true)])):=by kernel_rfl
theorem U9(Z:Int)(Y:Nat)(T:Ab)(X:Nat)(S:Ab)(W:Int)(V:Nat)(Q:Ab)(U:Nat)(P:Ab):F1 C0 fu d 73 [.agg [Ac Z,Ai 3 Y T,Ai 2 X S],.agg [Ac W,Ai 3 V Q,Ai 2 U P]] fun call=>Bd (Z != W) (Bv [.sc (.bool false)]) (Bd ((↑Y:Int) != (↑V:Int)) (Bv [.sc (.bool false)]) (Bd ((↑X:Int) != (↑U:Int)) (Bv [.sc (.bool false)]) (Fv fu call Z Y T X S W V Q U P fu 0 Z Y T X S W V Q U P))):=by show _=_;kernel_rfl
def Fd(Z:Nat)(Y:Ab)(X:Nat)(W:Ab)(V U:Nat)(T:Ab)(S:Nat)(Q:Ab)(P:Int):Option Dl:=Lu fu call 38 Tryz.f38 [Ai 3 Z Y,Ai 3 X W] [.r,.r,.l,.r,.l] V ⟨lk [(0,Ai 3 U T),(1,Ai 3 S Q),(5,P)],Bq []⟩
theorem Iz(U:Nat)(T:Ab)(S:Nat)(Q:Ab)(P W:Nat)(Y:Ab)(V:Nat)(X:Ab)(Z:Int):Fd fu call U T S Q (P+1) W Y V X Z=(Bd (decide (Z<(↑W:Int))) (At (decide (0<=Z)&&decide (Z<(↑W:Int)))<|A8 .u64 (Y.getD (Z.toNat*3) .top) fun a=>M0 3 (Y.getD (Z.toNat*3+1) .top) fun b c e=>M0 2 (Y.getD (Z.toNat*3+1+1) .top) fun b f g=>At (decide (0<=Z)&&decide (Z<(↑V:Int)))<|A8 .u64 (X.getD (Z.toNat*3) .top) fun b=>M0 3 (X.getD (Z.toNat*3+1) .top) fun h i j=>M0 2 (X.getD (Z.toNat*3+1+1) .top) fun h k m=>Eb (call 73 [.agg [Ac a,Ai 3 c e,Ai 2 f g],.agg [Ac b,Ai 3 i j,Ai 2 k m]]) fun a b=>Co a fun a=>Aq b<|Bd (!a) (Bv [.sc (.bool false)]) (Aa (wrap .i64 (Z+1)) fun a=>Fd fu call U T S Q P W Y V X a)) (Bv [.sc (.bool true)])):=by kernel_rfl
theorem Sw(Z:Nat)(X:Ab)(Y:Nat)(W:Ab):F1 C0 fu d 38 [Ai 3 Z X,Ai 3 Y W] fun call=>Bd ((↑Z:Int) != (↑Y:Int)) (Bv [.sc (.bool false)]) (Fd fu call Z X Y W fu Z X Y W 0):=by show _=_;kernel_rfl
theorem V7(Z Y X:Int)(W:Nat)(V:Ab)(U:Int)(T:Nat)(S:Ab)(Q:Nat)(P:Ab)(O N M:Int)(L:Nat)(K:Ab)(J:Int)(I:Nat)(H:Ab)(G:Nat)(E:Ab):F1 C0 fu d 18 [.agg [Z,Y,X,Ai 3 W V,U,Ai 1 T S,Ai 1 Q P],.agg [O,N,M,Ai 3 L K,J,Ai 1 I H,Ai 1 G E]] fun call=>Bd (Z==O) (Bd (Y==N) (Bd (X==M) (Eb (call 38 [Ai 3 W V,Ai 3 L K]) fun a b=>Co a fun a=>Aq b<|Bd a (Eb (call 39 [.agg [U,Ai 1 T S,Ai 1 Q P],.agg [J,Ai 1 I H,Ai 1 G E]]) fun a b=>Co a fun a=>Aq b<|Bv [.sc (.bool a)]) (Bv [.sc (.bool false)])) (Bv [.sc (.bool false)])) (Bv [.sc (.bool false)])) (Bv [.sc (.bool false)]):=by show _=_;kernel_rfl
end
def TF(s:RS):Ab:=[.lst false 3 s.1.length (A6 s.1),.sc (.bool s.2)]
theorem Ak3(x:It)(r:List It):A6 (x::r)=Ao x.k :: Ac x.n :: .sc (.string x.s)::A6 r:=rfl
section
variable {fu d:Nat}
theorem IF(k:Int)(s:RS):Ap C0 prog fu (d+1) 124 [.pbox (TF s),Ao k]=some ⟨[.agg (Bg k s).1.cells],[TF (Bg k s).2]⟩:=by
 refine (X9 fu d s.1.length (A6 s.1) s.2 k).trans ?_;obtain⟨l,b⟩:=s;cases b
 ·cases l with
  |nil=>rfl
  |cons x r=>
   unfold Bg;rw[Ba (by simp)];simp only[Ak3,G9];have g0:List.getD (PV.sc (.int .i64 x.k) :: Ac x.n :: .sc (.string x.s)::A6 r) 0 .top=Ao x.k:=rfl;have g1:List.getD (PV.sc (.int .i64 x.k) :: Ac x.n :: .sc (.string x.s)::A6 r) 1 .top=Ac x.n:=rfl;have g2:List.getD (PV.sc (.int .i64 x.k) :: Ac x.n :: .sc (.string x.s)::A6 r) 2 .top=.sc (.string x.s):=rfl;have g3:List.drop 3 (PV.sc (.int .i64 x.k) :: Ac x.n :: .sc (.string x.s)::A6 r)=A6 r:=rfl;have L:=Fa r;have t:List.take (r.length*3) (A6 r)=A6 r:=I9 (by omega);have z:(((r.length+1:Nat):Int)==0)=false:=by simp;omega
   have e1:r.length+1-1=r.length:=rfl;by_cases hk:x.k=k
   ·have hn:(x.k != k)=false:=by simp[hk]
    rw[B7 hk]
    repeat(with_reducible(first|apply Al|apply Af|apply Ak|apply As|apply Bb|apply A7|apply Ay|apply Ag|apply Aj|apply Do);· first|constructor|(simp(disch:=omega)only[Dp,z,g0,g1,g2,g3,hn,e1,t]<;>first|constructor|omega)|omega)
    try simp(disch:=omega)only[Aa,z,g0,g1,g2,g3,hn,e1,t]
    all_goals rfl
   ·have hn:(x.k != k)=true:=by simp[hk]
    rw[Ba hk]
    repeat(with_reducible(first|apply Al|apply Af|apply Ak|apply As|apply Bb|apply A7|apply Ay|apply Ag|apply Aj|apply Do);· first|constructor|(simp(disch:=omega)only[Dp,z,g0,g1,g2,g3,hn]<;>first|constructor|omega)|omega)
    try simp(disch:=omega)only[Aa,z,g0,g1,g2,g3,hn]
    all_goals rfl
 ·rfl
theorem BJ(s:RS):Ap C0 prog fu (d+2) 90 [.pbox (TF s)]=some ⟨[Ac (Bg 1 s).1.n],[TF (Bg 1 s).2]⟩:=by
 refine (Vg fu (d+1) s.1.length (A6 s.1) s.2).trans ?_;have t:=IF (fu:=fu) (d:=d) 1 s;simp only[TF,It.cells] at t ⊢
 repeat(with_reducible(first|apply Al|apply Af|apply Ak|apply As|apply Bb|apply A7|apply Ay|apply Ag|apply Aj|apply Do);· first|constructor|(simp(disch:=omega)only[Dp,t]<;>first|constructor|omega)|omega)
 try simp(disch:=omega)only[Aa,t]
theorem P7(s:RS):Ap C0 prog fu (d+2) 89 [.pbox (TF s)]=some ⟨[Ac (Bg 5 s).1.n],[TF (Bg 5 s).2]⟩:=by
 refine (Xz fu (d+1) s.1.length (A6 s.1) s.2).trans ?_;have t:=IF (fu:=fu) (d:=d) 5 s;simp only[TF,It.cells] at t ⊢
 repeat(with_reducible(first|apply Al|apply Af|apply Ak|apply As|apply Bb|apply A7|apply Ay|apply Ag|apply Aj|apply Do);· first|constructor|(simp(disch:=omega)only[Dp,t]<;>first|constructor|omega)|omega)
 try simp(disch:=omega)only[Aa,t]
def OA(f:Nat)(s:RS):Prop:=s.1.length+2<=f\/(s.2=true/\1<=f)
theorem RD{n:Int}(h:Ui n)(h1:n>0):wrap .u64 (n-1)=n-1/\Ui (n-1):=by
 unfold Ui at *
 exact⟨Cm (by omega) (by omega),by omega⟩
theorem Al0(a:List An)(x:An):C3 a++[.sc (.string x.name),Ao x.key.h,Ac x.key.root]=C3 (a++[x]):=by unfold C3;rw[List.flatMap_append,J7,List.flatMap_nil,List.append_nil];rfl
theorem Akp(a:List Sa)(x:Sa):Dg a++[Ao x.kd,Ao x.at_]=Dg (a++[x]):=by unfold Dg;rw[List.flatMap_append,J7,List.flatMap_nil,List.append_nil];rfl
theorem Awl{Ul:Nat}{Dc:Ab}{Cj:Bool}{mo:Int}{A:List An}(hA:A.length<=3000):∀(f nn:Nat)(n:Int)(s:RS)(B:List Sa),OA f s->f<nn->Ui n->FT s.1->B.length+f<=3000 ->
  C2 fu (Ap C0 prog fu (d+2)) Ul Dc Cj nn n s.1.length (A6 s.1) s.2 0 0 0 [] [] mo A.length B.length (C3 A) (Dg B) =
   some ⟨[.agg (Me.mk mo A (B++(Pw f n s).1)).cells],[TF (Pw f n s).2]⟩
 |0,_,n,s,_,h,_,_,_,_=>by unfold OA at h;omega
 |f+1,0,_,_,_,_,h,_,_,_=>by omega
 |f+1,nn+1,n,s,B,hr,hn,hu,ho,hB=>by
  have LA:=R1 A;have LB:=BK B;have tA:List.take (A.length*3) (C3 A)=C3 A:=I9 (by omega);have tB:List.take (B.length*2) (Dg B)=Dg B:=I9 (by omega)
  have ex:¬(n>0/\s.2=false)->(Me.mk mo A (B++(Pw (f+1) n s).1))=Me.mk mo A B/\(Pw (f+1) n s).2=s:=fun h=>by
   unfold Pw;rw[Ba h];exact⟨by simp,rfl⟩
  obtain⟨l,b⟩:=s;rw[O8];by_cases h0:n>0
  rotate_left
  ·obtain⟨e1,e2⟩:=ex (fun h=>h0 h.1);rw[e1,e2];simp only[TF,Me.cells]
   repeat(with_reducible(first|apply Al|apply Af|apply Ak|apply As|apply Bb|apply A7|apply Ay|apply Ag|apply Aj|apply Do);· first|constructor|(simp(disch:=omega)only[Dp,LA,LB,tA,tB,Cu,Fi]<;>first|constructor|omega)|omega)
   try simp(disch:=omega)only[Aa,LA,LB,tA,tB,Cu,Fi]
   all_goals rfl
  cases b
  rotate_left
  ·obtain⟨e1,e2⟩:=ex (fun h=>by cases h.2);rw[e1,e2];simp only[TF,Me.cells]
   repeat(with_reducible(first|apply Al|apply Af|apply Ak|apply As|apply Bb|apply A7|apply Ay|apply Ag|apply Aj|apply Do);· first|constructor|(simp(disch:=omega)only[Dp,LA,LB,tA,tB,Cu,Fi,Dx,Ll]<;>first|constructor|omega)|omega)
   try simp(disch:=omega)only[Aa,LA,LB,tA,tB,Cu,Fi,Dx,Ll]
   all_goals rfl
  clear ex;obtain⟨wd,ud⟩:=RD hu h0;obtain⟨k2,k3,k4⟩:=Aqw (s:=(l,false)) ho
  have ih:=Awl (Ul:=Ul) (Dc:=Dc) (Cj:=Cj) (mo:=mo) hA f nn (n-1) (TJ (l,false)).2 (B++[(TJ (l,false)).1]) (by
   unfold OA at hr ⊢;simp only at hr k4;cases q:(TJ (l,false)).2.2
   ·have:=k4 q;simp at hr;omega
   ·simp at hr;right;exact⟨rfl,by omega⟩) (by omega) ud k2 (by rw[G8,List.length_singleton];omega)
  have es:Pw (f+1) n (l,false)=((TJ (l,false)).1::(Pw f (n-1) (TJ (l,false)).2).1,(Pw f (n-1) (TJ (l,false)).2).2):=by
   rw[Pw,B7 ⟨h0,rfl⟩]
  have eB:B++(Pw (f+1) n (l,false)).1=(B++[(TJ (l,false)).1])++(Pw f (n-1) (TJ (l,false)).2).1:=by rw[es];simp
  have e2:(Pw (f+1) n (l,false)).2=(Pw f (n-1) (TJ (l,false)).2).2:=by rw[es]
  have lB:(B++[(TJ (l,false)).1]).length=B.length+1:=by rw[G8];rfl
  rw[eB,e2];rw[lB] at ih;rw[<-ih];clear ih es eB e2;have o1:=P7 (fu:=fu) (d:=d) (l,false);have o2:=BJ (fu:=fu) (d:=d) (Bg 5 (l,false)).2;have o3:=BJ (fu:=fu) (d:=d) (Bg 1 (Bg 5 (l,false)).2).2;have ea:=Akp B (TJ (l,false)).1;simp only[TJ] at ea ⊢;simp only[TF] at o1 o2 o3;generalize Dg (B++[_])=B' at *
  generalize Bg 1 (Bg 1 (Bg 5 (l,false)).2).2=u3 at *
  generalize Bg 1 (Bg 5 (l,false)).2=u2 at *
  generalize Bg 5 (l,false)=u1 at *
  repeat(with_reducible(first|apply Al|apply Af|apply Ak|apply As|apply Bb|apply A7|apply Ay|apply Ag|apply Aj|apply Do);· first|constructor|(simp(disch:=omega)only[Dp,o1,o2,o3,wd,LB,tB,ea,Dx,Ll]<;>first|constructor|omega)|omega)
  try simp(disch:=omega)only[Aa,o1,o2,o3,wd,LB,tB,ea,Dx,Ll]
  all_goals rfl
theorem Axg(Bo:2000<=fu){Ul:Nat}{Dc:Ab}{Cj:Bool}{mo:Int}:∀(f nn:Nat)(n:Int)(s:RS)(A:List An),OA f s->f<nn->Ui n->FT s.1->A.length+f<=3000 ->
  Du fu (Ap C0 prog fu (d+2)) Ul Dc Cj nn n s.1.length (A6 s.1) s.2 0 0 0 [] [] mo A.length 0 (C3 A) [] =
   C2 fu (Ap C0 prog fu (d+2)) Ul Dc Cj fu (Bg 5 (M8 f n s).2).1.n (Bg 5 (M8 f n s).2).2.1.length (A6 (Bg 5 (M8 f n s).2).2.1) (Bg 5 (M8 f n s).2).2.2 0 0 0 [] [] mo (A++(M8 f n s).1).length 0 (C3 (A++(M8 f n s).1)) []
 |0,_,n,s,_,h,_,_,_,_=>by unfold OA at h;omega
 |f+1,0,_,_,_,_,h,_,_,_=>by omega
 |f+1,nn+1,n,s,A,hr,hn,hu,ho,hB=>by
  have LA:=R1 A;have tA:List.take (A.length*3) (C3 A)=C3 A:=I9 (by omega)
  have ex:¬(n>0/\s.2=false)->A++(M8 (f+1) n s).1=A/\(M8 (f+1) n s).2=s:=fun h=>by
   unfold M8;rw[Ba h];exact⟨by simp,rfl⟩
  obtain⟨l,b⟩:=s;rw[O6];by_cases h0:n>0
  rotate_left
  ·obtain⟨e1,e2⟩:=ex (fun h=>h0 h.1);rw[e1,e2];have o1:=P7 (fu:=fu) (d:=d) (l,b);simp only[TF] at o1
   repeat(with_reducible(first|apply Al|apply Af|apply Ak|apply As|apply Bb|apply A7|apply Ay|apply Ag|apply Aj|apply Do);· first|constructor|(simp(disch:=omega)only[Dp,o1]<;>first|constructor|omega)|omega)
   try simp(disch:=omega)only[Aa,o1]
   all_goals rfl
  cases b
  rotate_left
  ·obtain⟨e1,e2⟩:=ex (fun h=>by cases h.2);rw[e1,e2];have o1:=P7 (fu:=fu) (d:=d) (l,true);simp only[TF] at o1
   repeat(with_reducible(first|apply Al|apply Af|apply Ak|apply As|apply Bb|apply A7|apply Ay|apply Ag|apply Aj|apply Do);· first|constructor|(simp(disch:=omega)only[Dp,o1,Dx,Ll]<;>first|constructor|omega)|omega)
   try simp(disch:=omega)only[Aa,o1,Dx,Ll]
   all_goals rfl
  clear ex;obtain⟨wd,ud⟩:=RD hu h0;obtain⟨k1,k2,k3,k4⟩:=Apb (s:=(l,false)) ho
  have ih:=Axg Bo (Ul:=Ul) (Dc:=Dc) (Cj:=Cj) (mo:=mo) f nn (n-1) (OI (l,false)).2 (A++[(OI (l,false)).1]) (by
   unfold OA at hr ⊢;simp only at hr k4;cases q:(OI (l,false)).2.2
   ·have:=k4 q;simp at hr;omega
   ·simp at hr;right;exact⟨rfl,by omega⟩) (by omega) ud k2 (by rw[G8,List.length_singleton];omega)
  have es:M8 (f+1) n (l,false)=((OI (l,false)).1::(M8 f (n-1) (OI (l,false)).2).1,(M8 f (n-1) (OI (l,false)).2).2):=by
   rw[M8,B7 ⟨h0,rfl⟩]
  have eA:A++(M8 (f+1) n (l,false)).1=(A++[(OI (l,false)).1])++(M8 f (n-1) (OI (l,false)).2).1:=by rw[es];simp
  have e2:(M8 (f+1) n (l,false)).2=(M8 f (n-1) (OI (l,false)).2).2:=by rw[es]
  have lA:(A++[(OI (l,false)).1]).length=A.length+1:=by rw[G8];rfl
  rw[eA,e2];generalize M8 f (n-1) (OI (l,false)).2=qq at *
  rw[<-ih,lA];clear ih es eA e2;obtain⟨_,_,a3,a4,a5⟩:=Da (k:=5) (s:=(l,false)) ho;obtain⟨_,b2,b3,b4,b5⟩:=Da (k:=4) a3;obtain⟨_,hs4,c3,c4,c5⟩:=Da (k:=3) b3;have o1:=P7 (fu:=fu) (d:=d) (l,false);have o2:=IF (fu:=fu) (d:=d+1) 4 (Bg 5 (l,false)).2;have o3:=IF (fu:=fu) (d:=d+1) 3 (Bg 4 (Bg 5 (l,false)).2).2;have ea:=Al0 A (OI (l,false)).1;simp only[OI] at ea ⊢;simp only[TF,It.cells] at o1 o2 o3;generalize Bg 3 (Bg 4 (Bg 5 (l,false)).2).2=u3 at *
  generalize Bg 4 (Bg 5 (l,false)).2=u2 at *
  generalize Bg 5 (l,false)=u1 at *
  have L4:(Ej u3.1.s).length=u3.1.s.size:=by rw[P6,Am,Sj]
  have t4:List.take u3.1.s.size (Ej u3.1.s)=Ad .u8 (Mi u3.1.s):=by rw[P6,I9 (by rw[Am,Sj];omega)]
  have dk:=Alb (xs:=Nz) (fu:=fu) (d:=d) (by omega) (Ag2 u3.1.s);rw[Sj] at dk;have e00:((0:Int) != 0)=false:=rfl;have e20:((2:Int) != 0)=true:=rfl;unfold Aru at ea ⊢;cases hk:QV (Mi u3.1.s) with
  |none=>
   rw[hk] at dk;simp only[Ae9,Ky.cells] at dk;simp only[hk,Option.getD_none,Option.isNone_none,Bool.or_true] at ea ⊢;generalize C3 (A++[_])=A' at *
   repeat(with_reducible(first|apply Al|apply Af|apply Ak|apply As|apply Bb|apply A7|apply Ay|apply Ag|apply Aj|apply Do);· first|constructor|(simp(disch:=omega)only[Dp,o1,o2,o3,L4,t4,dk,e20,wd,LA,tA,ea,Ec,Cu,Fi,Dx,Ll]<;>first|constructor|omega)|omega)
   try simp(disch:=omega)only[Aa,o1,o2,o3,L4,t4,dk,e20,wd,LA,tA,ea,Ec,Cu,Fi,Dx,Ll]
   all_goals rfl
  |some k=>
   rw[hk] at dk;simp only[Ae9,Ky.cells] at dk;simp only[hk,Option.getD_some,Option.isNone_some,Bool.or_false] at ea ⊢;generalize C3 (A++[_])=A' at *
   repeat(with_reducible(first|apply Al|apply Af|apply Ak|apply As|apply Bb|apply A7|apply Ay|apply Ag|apply Aj|apply Do);· first|constructor|(simp(disch:=omega)only[Dp,o1,o2,o3,L4,t4,dk,e00,wd,LA,tA,ea,Ec,Cu,Fi,Dx,Ll]<;>first|constructor|omega)|omega)
   try simp(disch:=omega)only[Aa,o1,o2,o3,L4,t4,dk,e00,wd,LA,tA,ea,Ec,Cu,Fi,Dx,Ll]
   all_goals rfl
theorem Aty(Bo:2000<=fu){s:RS}(ho:FT s.1)(hl:s.1.length<=1000):Ap C0 prog fu (d+3) 91 [.pbox (TF s)]=some ⟨[.agg (N5 s).1.cells],[TF (N5 s).2]⟩:=by
 refine (Rv fu (d+2) s.1.length (A6 s.1) s.2).trans ?_;obtain⟨_,_,a3,a4,a5⟩:=Da (k:=5) ho;obtain⟨_,_,b3,b4,b5⟩:=Da (k:=1) a3;have hA:=Da (k:=5) b3;have hB:=Aan (f:=s.1.length+2) (n:=(EC s).1.n) (s:=(EC s).2) hA.2.2.1;have hC:=Da (k:=5) (s:=(CG s).2) hB.2.2.1;have l1:(EC s).2.1.length<=(Bg 5 s).2.1.length:=Nat.le_trans hA.2.2.2.1 b4;have l2:(CG s).2.1.length<=(EC s).2.1.length:=hB.2.2.2;have l3:(BO s).2.1.length<=(CG s).2.1.length:=hC.2.2.2.1;have m1:(CG s).1.length<=s.1.length+2:=hB.2.1;have r0:=Axg (fu:=fu) (d:=d) Bo (Ul:=s.1.length) (Dc:=A6 s.1) (Cj:=s.2) (mo:=(Bg 1 (Bg 5 s).2).1.n) (s.1.length+2) fu (EC s).1.n (EC s).2 [] (by unfold OA;left;omega) (by omega) hA.1 hA.2.2.1 (by simp only[Vl];omega)
 have r1:=Awl (fu:=fu) (d:=d) (Ul:=s.1.length) (Dc:=A6 s.1) (Cj:=s.2) (mo:=(Bg 1 (Bg 5 s).2).1.n) (A:=(CG s).1) (by omega) (s.1.length+2) fu (BO s).1.n (BO s).2 [] (by unfold OA;left;omega) (by omega) hC.1 hC.2.2.1 (by simp only[Vl];omega)
 have r2:=r0.trans r1;have o1:=P7 (fu:=fu) (d:=d) s;have o2:=BJ (fu:=fu) (d:=d) (Bg 5 s).2;have o3:=P7 (fu:=fu) (d:=d) (Bg 1 (Bg 5 s).2).2;simp only[TF] at o1 o2 o3;have eR:(some ⟨[.agg (N5 s).1.cells],[TF (N5 s).2]⟩:Option Dl)=some ⟨[.agg (Me.mk (Bg 1 (Bg 5 s).2).1.n (CG s).1 ([]++(Pw (s.1.length+2) (BO s).1.n (BO s).2).1)).cells],[TF (Pw (s.1.length+2) (BO s).1.n (BO s).2).2]⟩:=rfl;rw[eR,<-r2];clear r0 r1 r2 eR
 repeat(with_reducible(first|apply Al|apply Af|apply Ak|apply As|apply Bb|apply A7|apply Ay|apply Ag|apply Aj|apply Do);· first|constructor|(simp(disch:=omega)only[Dp,o1,o2,o3]<;>first|constructor|omega)|omega)
 try simp(disch:=omega)only[Aa,o1,o2,o3]
 all_goals rfl
theorem Awv(Bo:2000<=fu){Ta:Nat}{a0:Ab}{v i x:Int}:∀(f nn:Nat)(n:Int)(s:RS)(A:List Me),OA f s->f<nn->Ui n->FT s.1->s.1.length<=1000->A.length+f<=3000 ->
  H0 fu (Ap C0 prog fu (d+3)) Ta a0 nn n 0 0 0 0 0 0 0 [] [] [] s.1.length (A6 s.1) s.2 v i x A.length 0 0 0 (B0 A) [] [] =
   some ⟨[.agg (Md.mk v i x (A++(Id f n s).1) sg0).cells,.sc (.bool (!(Id f n s).2.2&&(((Id f n s).2.1.length:Int)==0)))],[]⟩
 |0,_,n,s,_,h,_,_,_,_,_=>by unfold OA at h;omega
 |f+1,0,_,_,_,_,h,_,_,_,_=>by omega
 |f+1,nn+1,n,s,A,hr,hn,hu,ho,hl,hB=>by
  have LA:=Oz A;have tA:List.take (A.length*3) (B0 A)=B0 A:=I9 (by omega)
  have ex:¬(n>0/\s.2=false)->A++(Id (f+1) n s).1=A/\(Id (f+1) n s).2=s:=fun h=>by
   unfold Id;rw[Ba h];exact⟨by simp,rfl⟩
  obtain⟨l,b⟩:=s;rw[Xr];by_cases h0:n>0
  rotate_left
  ·obtain⟨e1,e2⟩:=ex (fun h=>h0 h.1);rw[e1,e2];simp only[Md.cells];cases b
   ·skip
    repeat(with_reducible(first|apply Al|apply Af|apply Ak|apply As|apply Bb|apply A7|apply Ay|apply Ag|apply Aj|apply Do);· first|constructor|(simp(disch:=omega)only[Dp,LA,tA,Cu,Fi,Dx,Ll]<;>first|constructor|omega)|omega)
    try simp(disch:=omega)only[Aa,LA,tA,Cu,Fi,Dx,Ll]
    all_goals rfl
   ·skip
    repeat(with_reducible(first|apply Al|apply Af|apply Ak|apply As|apply Bb|apply A7|apply Ay|apply Ag|apply Aj|apply Do);· first|constructor|(simp(disch:=omega)only[Dp,LA,tA,Cu,Fi,Dx,Ll]<;>first|constructor|omega)|omega)
    try simp(disch:=omega)only[Aa,LA,tA,Cu,Fi,Dx,Ll]
    all_goals rfl
  cases b
  rotate_left
  ·obtain⟨e1,e2⟩:=ex (fun h=>by cases h.2);rw[e1,e2];simp only[Md.cells]
   repeat(with_reducible(first|apply Al|apply Af|apply Ak|apply As|apply Bb|apply A7|apply Ay|apply Ag|apply Aj|apply Do);· first|constructor|(simp(disch:=omega)only[Dp,LA,tA,Cu,Fi,Dx,Ll]<;>first|constructor|omega)|omega)
   try simp(disch:=omega)only[Aa,LA,tA,Cu,Fi,Dx,Ll]
   all_goals rfl
  clear ex;obtain⟨wd,ud⟩:=RD hu h0;obtain⟨k1,k2,k3,_⟩:=Aaw (s:=(l,false)) ho hl;have k4:=Aqx (s:=(l,false)) ho hl
  have ih:=Awv Bo (Ta:=Ta) (a0:=a0) (v:=v) (i:=i) (x:=x) f nn (n-1) (N5 (l,false)).2 (A++[(N5 (l,false)).1]) (by
   unfold OA at hr ⊢;simp only at hr k4;cases q:(N5 (l,false)).2.2
   ·have:=k4 q;simp at hr;omega
   ·simp at hr;right;exact⟨rfl,by omega⟩) (by omega) ud k2 (by simp only at k3 hl;omega) (by rw[G8,List.length_singleton];omega)
  have es:Id (f+1) n (l,false)=((N5 (l,false)).1::(Id f (n-1) (N5 (l,false)).2).1,(Id f (n-1) (N5 (l,false)).2).2):=by
   rw[Id,B7 ⟨h0,rfl⟩]
  have eA:A++(Id (f+1) n (l,false)).1=(A++[(N5 (l,false)).1])++(Id f (n-1) (N5 (l,false)).2).1:=by rw[es];simp
  have e2:(Id (f+1) n (l,false)).2=(Id f (n-1) (N5 (l,false)).2).2:=by rw[es]
  have lA:(A++[(N5 (l,false)).1]).length=A.length+1:=by rw[G8];rfl
  rw[eA,e2];rw[<-ih,lA];clear ih es eA e2;have o1:=Aty (fu:=fu) (d:=d) Bo (s:=(l,false)) ho hl;have ea:=BD A (N5 (l,false)).1;simp only[TF,Me.cells] at o1;generalize N5 (l,false)=u at *
  generalize B0 (A++[_])=A' at *
  repeat(with_reducible(first|apply Al|apply Af|apply Ak|apply As|apply Bb|apply A7|apply Ay|apply Ag|apply Aj|apply Do);· first|constructor|(simp(disch:=omega)only[Dp,o1,wd,LA,tA,ea,Dx,Ll]<;>first|constructor|omega)|omega)
  try simp(disch:=omega)only[Aa,o1,wd,LA,tA,ea,Dx,Ll]
  all_goals rfl
theorem As3(Bo:2000<=fu){l:List It}(ho:FT l)(hl:l.length<=1000):Ap C0 prog fu (d+4) 48 [.lst false 3 l.length (A6 l)]=some ⟨[.agg (FY l).1.cells,.sc (.bool (FY l).2)],[]⟩:=by
 refine (BV fu (d+3) l.length (A6 l)).trans ?_;obtain⟨_,_,_,_,_,_,_,_,q1,q2⟩:=Aai ho hl;have h0:=Da (k:=5) (s:=(l,false)) ho;have hA:=Da (k:=1) h0.2.2.1;have hB:=Da (k:=1) (s:=(EO l).2) hA.2.2.1;have hC:=Da (k:=1) (s:=(EA l).2) hB.2.2.1;have hD:=Da (k:=5) (s:=(EP l).2) hC.2.2.1;have r0:=Awv (fu:=fu) (d:=d) Bo (Ta:=l.length) (a0:=A6 l) (v:=wrap .i64 (EO l).1.n) (i:=wrap .i64 (EA l).1.n) (x:=wrap .i64 (EP l).1.n) (l.length+2) fu (Yz l).1.n (Yz l).2 [] (by unfold OA;left;omega) (by omega) hD.1 q1 (by omega) (by simp only[Vl];omega)
 have o1:=P7 (fu:=fu) (d:=d+1) (l,false);have o2:=BJ (fu:=fu) (d:=d+1) (Bg 5 (l,false)).2;have o3:=BJ (fu:=fu) (d:=d+1) (EO l).2;have o4:=BJ (fu:=fu) (d:=d+1) (EA l).2;have o5:=P7 (fu:=fu) (d:=d+1) (EP l).2;have eA:Bg 1 (Bg 5 (l,false)).2=EO l:=rfl;have eB:Bg 1 (EO l).2=EA l:=rfl;have eC:Bg 1 (EA l).2=EP l:=rfl;have eD:Bg 5 (EP l).2=Yz l:=rfl;rw[eA] at o2;rw[eB] at o3;rw[eC] at o4;rw[eD] at o5;simp only[TF] at o1 o2 o3 o4 o5;have eR:(some ⟨[.agg (FY l).1.cells,.sc (.bool (FY l).2)],[]⟩:Option Dl)=some ⟨[.agg (Md.mk (wrap .i64 (EO l).1.n) (wrap .i64 (EA l).1.n) (wrap .i64 (EP l).1.n) ([]++(Id (l.length+2) (Yz l).1.n (Yz l).2).1) sg0).cells,.sc (.bool (!(Id (l.length+2) (Yz l).1.n (Yz l).2).2.2&&(((Id (l.length+2) (Yz l).1.n (Yz l).2).2.1.length:Int)==0)))],[]⟩:=rfl
 rw[eR,<-r0];clear r0 eR
 repeat(with_reducible(first|apply Al|apply Af|apply Ak|apply As|apply Bb|apply A7|apply Ay|apply Ag|apply Aj|apply Do);· first|constructor|(simp(disch:=omega)only[Dp,o1,o2,o3,o4,o5]<;>first|constructor|omega)|omega)
 try simp(disch:=omega)only[Aa,o1,o2,o3,o4,o5]
 all_goals rfl
end
structure Md.ok(m:Md):Prop where
 ent:∀x∈m.ents,Ui x.model/\x.rts
 sg:m.sig.ok
theorem Md.ok.wf{m:Md}(h:m.ok):m.wf:=⟨fun x hx=>(h.ent x hx).1.1⟩
def Aml(b:Cg)(used:Nat)(r:Md × Bool):Md × Int:=if r.2=false then (JT,2) else match sgD (b.drop used) with
 |none=>(JT,2)
 |some s=>if Ei { r.1 with sig:=s }=0/\Ht { r.1 with sig:=s }=b then ({ r.1 with sig:=s },0) else (JT,2)
def Qt(P:List It->Md × Bool)(b:Cg)(r:List It × Nat × Int):Md × Int:=if b.length>4096 then (JT,8) else if r.2.2≠0 then (JT,2) else Aml b r.2.1 (P r.1)
def Rm(b:Cg):Md × Int:=Qt FY b (Jv 1000 [] 0 b 0 [])
def I8(l:List It):Prop:=∀x∈l,Ui x.n
theorem I8.app{a b:List It}(ha:I8 a)(hb:I8 b):I8 (a++b):=fun x hx=>(Bu.1 hx).elim (ha x) (hb x)
theorem I8.cons{x:It}{l:List It}(h:Ui x.n)(hl:I8 l):I8 (x::l):=fun y hy=>by
 rcases Bx.1 hy with rfl|hy
 ·exact h
 ·exact hl y hy
theorem I8.nil:I8 []:=fun x hx=>by cases hx
theorem I8.flat{α:Type}{f:α->List It}{l:List α}(h:∀x∈l,I8 (f x)):I8 (l.map f).flatten:=fun y hy=>by
 obtain⟨v,hv,hy⟩:=List.mem_flatten.1 hy;obtain⟨x,hx,rfl⟩:=List.mem_map.1 hv;exact h x hx y hy
theorem YT{n:Nat}(h:n<=1000):Ui (n:Int):=⟨by omega,by omega⟩
theorem Sn{n:Int}(h:0<=n)(h1:n<=1099511627776):Ui n:=⟨h,by omega⟩
theorem Atr(a:An):I8 (Cx a):=by refine I8.cons (Sn (by show (0:Int)<=2;omega) (by show (2:Int)<=_;omega)) (I8.cons (Sn (by show (0:Int)<=0;omega) (by show (0:Int)<=_;omega)) (I8.cons (Sn (by show (0:Int)<=0;omega) (by show (0:Int)<=_;omega)) I8.nil))
theorem Ata{s:Sa}(h:1<=s.kd/\s.kd<=4/\0<=s.at_/\s.at_<=1099511627776):I8 (Cw s):=by refine I8.cons (Sn (by show (0:Int)<=2;omega) (by show (2:Int)<=_;omega)) (I8.cons (Sn (by show (0:Int)<=s.kd;omega) (by show s.kd<=_;omega)) (I8.cons (Sn (by show (0:Int)<=s.at_;omega) (by show s.at_<=_;omega)) I8.nil))
theorem Aq2{x:Me}(hm:Ui x.model)(h:Cy x=0):I8 (A3 x):=by obtain⟨h1,h2,h3,h4⟩:=Wq h;have e:=JO x [];rw[List.append_nil] at e;rw[e];refine I8.cons (Sn (by show (0:Int)<=3;omega) (by show (3:Int)<=_;omega)) (I8.cons hm (I8.cons (YT (by omega)) (I8.app (I8.flat fun a ha=>Atr a) (I8.cons (YT (by omega)) (I8.app (I8.flat fun s hs=>Ata (GO h4 s hs)) I8.nil)))))
theorem Ajy{m:Md}(hm:∀x∈m.ents,Ui x.model)(h:Bl m=0):I8 (A4 m):=by obtain⟨h1,h2,h3,h4,h5,h6,h7⟩:=Mw h;rw[ED];exact I8.cons (Sn (by show (0:Int)<=4;omega) (by show (4:Int)<=_;omega)) (I8.cons (Sn (by show (0:Int)<=m.ver;omega) (by show m.ver<=_;omega)) (I8.cons (Sn (by show (0:Int)<=m.iss;omega) (by show m.iss<=_;omega)) (I8.cons (Sn (by show (0:Int)<=m.nxt;omega) (by show m.nxt<=_;omega)) (I8.cons (YT (by omega)) (I8.flat fun x hx=>Aq2 (hm x hx) (R0 h7 x hx))))))
theorem Kw{m:Md}(h:Ei m=0):Bl m=0/\D6 m.sig.path.length=false/\J8 m.sig.leaf m.sig.path.length=false/\m.sig.chains.length=18:=by
 unfold Ei at h;by_cases h0:Bl m=0
 ·rw[B7 h0] at h;unfold QG at h;split at h
  ·cases h
  ·split at h
   ·cases h
   ·split at h
    ·cases h
    ·exact⟨h0,by simp_all,by simp_all,by simp_all⟩
 ·rw[Ba h0] at h;exact absurd h h0
theorem Ado{m:Md}(hc:m.ok)(h:Ei m=0){k:Nat}(hk:500<k):Jv k [] 0 (Ht m) 0 []=(A4 m,(Bn (A4 m)).length,0):=by
 have h0:=(Kw h).1;obtain⟨vm,fm,lm⟩:=Wa hc.wf h0;have r:=WN (b:=Ht m) (rest:=DK m.sig) (A4 m) [] 0 0 k [] (vm.goods (by omega) (by simp[A4]) (by omega)) (fun x hx=>Ajy (fun x hx=>(hc.ent x hx).1) h0 x hx) rfl (by omega)
 simpa using r
theorem Ao6{m:Md}(hc:m.ok)(h:Ei m=0):Aml (Ht m) (Bn (A4 m)).length ({ m with sig:=sg0 },true)=(m,0):=by
 obtain⟨h0,h1,h2,h3⟩:=Kw h;have e:(Ht m).drop (Bn (A4 m)).length=DK m.sig:=by unfold Ht;rw[List.drop_left]
 unfold Aml;rw[Ba (by simp),e,Atw hc.sg h1 h2 h3];simp only;rw[B7 ⟨h,by trivial⟩]
theorem Ak6{b:Cg}{used:Nat}{r:Md × Bool}(hr:∀x∈r.1.ents,Ui x.model/\x.rts)(hn:∀m:Md,m.ok->Ei m=0->Ht m≠b):Aml b used r=(JT,2):=by
 unfold Aml;split
 ·rfl
 ·split
  ·rfl
  ·rename_i s hs;rw[Ba];intro ⟨h1,h2⟩;exact hn { r.1 with sig:=s } ⟨hr,(Arf hs).1⟩ h1 h2
theorem Arw{x:Me}(h:okM x):Ui x.model/\x.rts:=⟨h.1,fun a ha=>(h.2.1 a ha).1⟩
theorem XA{b:Cg}(hb:Mn b):∀(k:Nat)(l:List Hw)(cnt:Int)(at_:Nat)(its:List It),at_<=b.length->(its.length:Int)=cnt->its.length<=512->(Jv k l cnt b at_ its).1.length<=512
 |0,l,cnt,at_,its,h,hi,h5=>by simp[Jv]
 |k+1,l,cnt,at_,its,h,hi,h5=>by
  unfold Jv;by_cases hd:SW l cnt=true
  ·rw[B7 hd];exact h5
  ·rw[Ba hd];by_cases he:(G2 l cnt b at_).e=0
   ·rw[Ba (by simp[he])];obtain⟨c1,c2,_,_,p,q⟩:=JK hb h he;exact XA hb k _ _ _ _ p (by rw[c2,G8,List.length_singleton];omega) (by rw[G8,List.length_singleton];omega)
   ·rw[B7 he];simp
structure Rdr(P:List It->Md × Bool):Prop where
 ok:∀l,FT l->l.length<=1000->∀x∈(P l).1.ents,Ui x.model/\x.rts
 hit:∀m:Md,m.ok->Bl m=0->P (A4 m)=({ m with sig:=sg0 },true)
theorem Ao1:Rdr FY:=⟨fun l h hl x hx=>Arw ((Aai h hl).1 x hx),fun m hm h=>Apr h (fun x hx=>(hm.ent x hx).2)⟩
theorem PJ{P:List It->Md × Bool}(hP:Rdr P){m:Md}(hc:m.ok)(h:Ei m=0)(hl:(Ht m).length<=4096):Qt P (Ht m) (A4 m,(Bn (A4 m)).length,0)=(m,0):=by unfold Qt;rw[Ba (by omega),Ba (by simp)];simp only;rw[hP.hit m hc (Kw h).1];exact Ao6 hc h
theorem LO{P:List It->Md × Bool}(hP:Rdr P){b:Cg}(hl:b.length<=4096){r:List It × Nat × Int}(hx:FT r.1)(h5:r.1.length<=1000)(hn:∀m:Md,m.ok->Ei m=0->Ht m≠b):Qt P b r=(JT,2):=by
 unfold Qt;rw[Ba (by omega)];split
 ·rfl
 ·exact Ak6 (hP.ok _ hx h5) hn
theorem Zo{b:Cg}(hb:Mn b)(k:Nat):FT (Jv k [] 0 b 0 []).1/\(Jv k [] 0 b 0 []).1.length<=1000/\(Jv k [] 0 b 0 []).2.1<=b.length:=by have h:=Aes hb k [] 0 0 [] (by omega) (by simp);exact⟨h.2,Nat.le_trans (XA hb k [] 0 0 [] (by omega) rfl (by simp)) (by omega),h.1⟩
theorem RX{m:Md}(hc:m.ok)(h:Ei m=0)(hl:(Ht m).length<=4096):Rm (Ht m)=(m,0):=by unfold Rm;rw[Ado hc h (by omega)];exact PJ Ao1 hc h hl
theorem VE{b:Cg}(hb:Mn b)(hl:b.length<=4096)(hn:∀m:Md,m.ok->Ei m=0->Ht m≠b):Rm b=(JT,2):=LO Ao1 hl (Zo hb 1000).1 (Zo hb 1000).2.1 hn
theorem VP{b:Cg}(hl:b.length>4096):Rm b=(JT,8):=by unfold Rm Qt;rw[B7 hl]
theorem Al1{P:List It->Md × Bool}(hP:Rdr P){b:Cg}(hb:Mn b){r:List It × Nat × Int}(hx:FT r.1)(h5:r.1.length<=1000)(hc:∀m:Md,m.ok->Ei m=0->Ht m=b->r=(A4 m,(Bn (A4 m)).length,0)):Qt P b r=Rm b:=by
 by_cases hl:b.length>4096
 ·rw[VP hl];unfold Qt;rw[B7 hl]
 by_cases hex:∃m:Md,m.ok/\Ei m=0/\Ht m=b
 ·obtain⟨m,m1,m2,m3⟩:=hex;have e:=hc m m1 m2 m3;subst m3;rw[RX m1 m2 (by omega),e];exact PJ hP m1 m2 (by omega)
 ·have hn:∀m:Md,m.ok->Ei m=0->Ht m≠b:=fun m h1 h2 h3=>hex ⟨m,h1,h2,h3⟩;rw[VE hb (by omega) hn];exact LO hP (by omega) hx h5 hn
theorem Aq7{b:Cg}(hb:Mn b){k:Nat}(hk:500<k):Qt FY b (Jv k [] 0 b 0 [])=Rm b:=
 Al1 Ao1 hb (Zo hb k).1 (Zo hb k).2.1 (fun m m1 m2 m3=>by subst m3;exact Ado m1 m2 hk)
theorem At4{b:Cg}(hb:Mn b):((Rm b).2=0/\(Rm b).1.ok/\Ei (Rm b).1=0/\Ht (Rm b).1=b/\b.length<=4096)\/(Rm b=(JT,8))\/(Rm b=(JT,2)):=by
 by_cases hl:b.length>4096
 ·exact .inr (.inl (VP hl))
 by_cases hex:∃m:Md,m.ok/\Ei m=0/\Ht m=b
 ·obtain⟨m,m1,m2,m3⟩:=hex;subst m3;rw[RX m1 m2 (by omega)];exact .inl ⟨rfl,m1,m2,rfl,by omega⟩
 ·exact .inr (.inr (VE hb (by omega) fun m h1 h2 h3=>hex ⟨m,h1,h2,h3⟩))
theorem Azp:JT.ok:=⟨fun x hx=>(by cases hx),⟨fun x hx=>(by cases hx),fun x hx=>(by cases hx)⟩⟩
section
variable {fu d:Nat}
theorem Aft(Bo:20000<=fu){b:Cg}(hb:Mn b)(hl:b.length<=1000000):
  Ap C0 prog fu (d+11) 26 [.lst false 1 b.length (Ad .u8 b)]=some ⟨[.agg (Qt FY b (Jv fu [] 0 b 0 [])).1.cells,Ao (Qt FY b (Jv fu [] 0 b 0 [])).2],[]⟩:=by
 refine (HN fu (d+10) b.length (Ad .u8 b)).trans ?_;have dec:=Aj3 (fu:=fu) (d:=d+5) (by omega) hb hl;obtain⟨hox,hln,hat⟩:=Zo hb fu;generalize Jv fu [] 0 b 0 []=r at dec hat hox hln ⊢;obtain⟨its,used,e⟩:=r;simp only at hat hox hln;unfold Afe at dec;simp only at dec;unfold Qt;simp only;by_cases h5:b.length>4096
 ·rw[B7 h5]
  repeat(with_reducible(first|apply Al|apply Af|apply Ak|apply As|apply Bf|apply A7|apply Ay|apply Ag|apply Aj|apply Do);· first|constructor|(simp(disch:=omega)only[Dp,Ec]<;>first|constructor|omega)|omega)
  try simp(disch:=omega)only[Aa,Ec]
  all_goals rfl
 rw[Ba h5];by_cases he:e=0
 rotate_left
 ·rw[B7 he];have he':(e != 0)=true:=by simp[he]
  repeat(with_reducible(first|apply Al|apply Af|apply Ak|apply As|apply Bf|apply A7|apply Ay|apply Ag|apply Aj|apply Do);· first|constructor|(simp(disch:=omega)only[Dp,dec,he']<;>first|constructor|omega)|omega)
  try simp(disch:=omega)only[Aa,dec,he']
  all_goals rfl
 rw[Ba (by simp[he])];subst he;have e00:((0:Int) != 0)=false:=rfl;have e20:((2:Int) != 0)=true:=rfl;have LT:=Fa its;have tT:List.take (its.length*3) (A6 its)=A6 its:=I9 (by omega);have bo:=As3 (fu:=fu) (d:=d+6) (by omega) (l:=its) hox hln;have bk:=(Aai hox hln).1;generalize FY its=p at bo bk ⊢;obtain⟨m,q⟩:=p;simp only at bo bk;simp only[Md.cells] at bo;unfold Aml;simp only;generalize A6 its=T at *
 generalize its.length=nT at *
 cases q
 ·rw[B7 rfl]
  repeat(with_reducible(first|apply Al|apply Af|apply Ak|apply As|apply Bf|apply A7|apply Ay|apply Ag|apply Aj|apply Do);· first|constructor|(simp(disch:=omega)only[Dp,dec,e00,Fi,Cu,LT,tT,bo,Dx,Ll]<;>first|constructor|omega)|omega)
  try simp(disch:=omega)only[Aa,dec,e00,Fi,Cu,LT,tT,bo,Dx,Ll]
  all_goals rfl
 rw[Ba (by simp)];have ds:=Aj6 (xs:=Nz) (fu:=fu) (d:=d+8) (by omega) (l:=b.drop used) (fun x hx=>hb x (List.mem_of_mem_drop hx));rw[List.length_drop] at ds;have tb:List.take (b.length-used) (List.drop used (Ad .u8 b))=Ad .u8 (b.drop used):=by rw[Ks,I9 (by rw[Am,List.length_drop];omega)]
 have nu:Int.toNat (used:Int)=used:=Ij used;cases hs:sgD (b.drop used) with
 |none=>
  rw[hs] at ds;simp only[Ajn,Sg.owned] at ds
  repeat(with_reducible(first|apply Al|apply Af|apply Ak|apply As|apply Bf|apply A7|apply Ay|apply Ag|apply Aj|apply Do);· first|constructor|(simp(disch:=omega)only[Dp,dec,e00,e20,Fi,Cu,Ec,LT,tT,bo,nu,tb,ds,Dx,Ll]<;>first|constructor|omega)|omega)
  try simp(disch:=omega)only[Aa,dec,e00,e20,Fi,Cu,Ec,LT,tT,bo,nu,tb,ds,Dx,Ll]
  all_goals rfl
 |some s=>
  rw[hs] at ds;simp only[Ajn,Sg.owned] at ds;obtain⟨s1,s2,s3⟩:=Arf hs;simp only;have cok:({ m with sig:=s }:Md).ok:=⟨fun x hx=>Arw (bk x hx),s1⟩
  have en:=Aix (fu:=fu) (d:=d) (m:={ m with sig:=s }) Bo cok.wf (Nat.le_trans s2 (by omega)) (Nat.lt_of_le_of_lt s2 (by omega));have ec:({ m with sig:=s }:Md).cells=[Ao m.ver,Ao m.iss,Ao m.nxt,.lst false 3 m.ents.length (B0 m.ents),Ao s.leaf,.lst false 1 s.chains.length (Ad .u64 s.chains),.lst false 1 s.path.length (Ad .u64 s.path)]:=rfl;have eB:∀h:Ei { m with sig:=s }=0,Mn (Ht { m with sig:=s }):=fun h y hy=>(Bu.1 hy).elim (FN cok.wf (Kw h).1 y) (Axm s y)
  have eL:∀h:Ei { m with sig:=s }=0,(Ht { m with sig:=s }).length<=100000:=fun h=>by
   have h1:=Vq cok.wf (Kw h).1;have h2:=I5 (h:=s.path.length) (by simpa using (Kw h).2.1)
   have ls:(DK s).length=2+8*s.chains.length+8*s.path.length:=by
    unfold DK;simp only[G9,G8,D9];omega
   show (Bn (A4 { m with sig:=s })++DK s).length<=_;rw[G8];omega
  have Lc:=Am .u64 s.chains;have Lp:=Am .u64 s.path;have tc:=Ob .u64 s.chains;have tp:=Ob .u64 s.path;generalize ({ m with sig:=s }:Md)=c at *
  rw[ec] at en;unfold OJ at en;by_cases hz:Ei c=0
  rotate_left
  ·have hz':(Ei c != 0)=true:=by simp[hz]
   rw[Ba hz] at en;rw[Ba (fun h=>hz h.1)]
   repeat(with_reducible(first|apply Al|apply Af|apply Ak|apply As|apply Bf|apply A7|apply Ay|apply Ag|apply Aj|apply Do);· first|constructor|(simp(disch:=omega)only[Dp,dec,e00,e20,Fi,Cu,Ec,LT,tT,bo,nu,tb,ds,Lc,Lp,tc,tp,en,hz',Dx,Ll]<;>first|constructor|omega)|omega)
   try simp(disch:=omega)only[Aa,dec,e00,e20,Fi,Cu,Ec,LT,tT,bo,nu,tb,ds,Lc,Lp,tc,tp,en,hz',Dx,Ll]
   all_goals rfl
  rw[B7 hz] at en;have eL:=eL hz;have be:=UE (fu:=fu) (d:=d+9) (eB hz) hb;have LE:=Am .u8 (Ht c);have tE:=Ob .u8 (Ht c);by_cases hq:Ht c=b
  ·rw[B7 ⟨hz,hq⟩];simp only[hq,decide_true] at be en LE tE;simp only[ec]
   repeat(with_reducible(first|apply Al|apply Af|apply Ak|apply As|apply Bf|apply A7|apply Ay|apply Ag|apply Aj|apply Do);· first|constructor|(simp(disch:=omega)only[Dp,dec,e00,e20,Fi,Cu,Ec,LT,tT,bo,nu,tb,ds,Lc,Lp,tc,tp,en,LE,tE,be,Dx,Ll]<;>first|constructor|omega)|omega)
   try simp(disch:=omega)only[Aa,dec,e00,e20,Fi,Cu,Ec,LT,tT,bo,nu,tb,ds,Lc,Lp,tc,tp,en,LE,tE,be,Dx,Ll]
   all_goals rfl
  ·rw[Ba (fun h=>hq h.2)];simp only[hq,decide_false] at be
   repeat(with_reducible(first|apply Al|apply Af|apply Ak|apply As|apply Bf|apply A7|apply Ay|apply Ag|apply Aj|apply Do);· first|constructor|(simp(disch:=omega)only[Dp,dec,e00,e20,Fi,Cu,Ec,LT,tT,bo,nu,tb,ds,Lc,Lp,tc,tp,en,LE,tE,be,Dx,Ll]<;>first|constructor|omega)|omega)
   try simp(disch:=omega)only[Aa,dec,e00,e20,Fi,Cu,Ec,LT,tT,bo,nu,tb,ds,Lc,Lp,tc,tp,en,LE,tE,be,Dx,Ll]
   all_goals rfl
theorem Anh(Bo:20000<=fu){b:Cg}(hb:Mn b)(hl:b.length<=1000000):
  Ap C0 prog fu (d+11) 26 [.lst false 1 b.length (Ad .u8 b)]=some ⟨[.agg (Rm b).1.cells,Ao (Rm b).2],[]⟩:=by
 rw[<-Aq7 hb (k:=fu) (by omega)];exact Aft Bo hb hl
def Ahb(cur:Md)(b:Cg)(k:Ky)(now:Int):Md × Int:=
 if now<0\/1099511627776<now then (JT,9) else if (Rm b).2≠0 then (JT,(Rm b).2) else if (Rm b).1.ver<=cur.ver then (JT,7) else if JA (Rm b).1 k≠0 then (JT,JA (Rm b).1 k) else if now<(Rm b).1.iss\/(Rm b).1.nxt<now then (JT,19) else ((Rm b).1,0)
theorem Ack(Bo:20000<=fu){b:Cg}(hb:Mn b)(hl:b.length<=1000000)(cur:Md)(k:Ky)(now:Int):
  Ap C0 prog fu (d+12) 27 [.agg cur.cells,.lst false 1 b.length (Ad .u8 b),.agg k.cells,Ao now]=some ⟨[.agg (Ahb cur b k now).1.cells,Ao (Ahb cur b k now).2],[]⟩:=by
 refine (HH fu (d+11) cur.ver cur.iss cur.nxt cur.ents.length (B0 cur.ents) cur.sig.leaf cur.sig.chains.length (Ad .u64 cur.sig.chains) cur.sig.path.length (Ad .u64 cur.sig.path) b.length (Ad .u8 b) k.h k.root now).trans ?_;unfold Ahb;by_cases h1:now<0
 ·rw[B7 (.inl h1)]
  repeat(with_reducible(first|apply Al|apply Af|apply Ak|apply As|apply Bf|apply A7|apply Ay|apply Ag|apply Aj|apply Do);· first|constructor|(simp(disch:=omega)only[Dp,Dx]<;>first|constructor|omega)|omega)
  try simp(disch:=omega)only[Aa,Dx]
  all_goals rfl
 by_cases h2:1099511627776<now
 ·rw[B7 (.inr h2)]
  repeat(with_reducible(first|apply Al|apply Af|apply Ak|apply As|apply Bf|apply A7|apply Ay|apply Ag|apply Aj|apply Do);· first|constructor|(simp(disch:=omega)only[Dp,Dx]<;>first|constructor|omega)|omega)
  try simp(disch:=omega)only[Aa,Dx]
  all_goals rfl
 rw[Ba (by omega)];have dec:=Anh (fu:=fu) (d:=d) Bo hb hl;have dok:=At4 hb;generalize Rm b=r at dec dok ⊢;obtain⟨m,e⟩:=r;simp only at dec dok ⊢;simp only[Md.cells] at dec;by_cases h3:e=0
 rotate_left
 ·have h3':(e != 0)=true:=by simp[h3]
  rw[B7 h3]
  repeat(with_reducible(first|apply Al|apply Af|apply Ak|apply As|apply Bf|apply A7|apply Ay|apply Ag|apply Aj|apply Do);· first|constructor|(simp(disch:=omega)only[Dp,dec,h3']<;>first|constructor|omega)|omega)
  try simp(disch:=omega)only[Aa,dec,h3']
  all_goals rfl
 subst h3;have e00:((0:Int) != 0)=false:=rfl
 have mk:m.ok:=by
  rcases dok with h|h|h
  ·exact h.2.1
  ·have:=congrArg Prod.snd h;simp at this
  ·have:=congrArg Prod.snd h;simp at this
 rw[Ba (by simp)];by_cases h4:m.ver<=cur.ver
 ·rw[B7 h4]
  repeat(with_reducible(first|apply Al|apply Af|apply Ak|apply As|apply Bf|apply A7|apply Ay|apply Ag|apply Aj|apply Do);· first|constructor|(simp(disch:=omega)only[Dp,dec,e00]<;>first|constructor|omega)|omega)
  try simp(disch:=omega)only[Aa,dec,e00]
  all_goals rfl
 rw[Ba h4];have vr:=BB (fu:=fu) (d:=d) (m:=m) Bo mk.wf k;simp only[Md.cells,Ky.cells] at vr;by_cases h5:JA m k=0
 rotate_left
 ·have h5':(JA m k != 0)=true:=by simp[h5]
  rw[B7 h5]
  repeat(with_reducible(first|apply Al|apply Af|apply Ak|apply As|apply Bf|apply A7|apply Ay|apply Ag|apply Aj|apply Do);· first|constructor|(simp(disch:=omega)only[Dp,dec,e00,vr,h5']<;>first|constructor|omega)|omega)
  try simp(disch:=omega)only[Aa,dec,e00,vr,h5']
  all_goals rfl
 rw[Ba (by simp[h5])];rw[h5] at vr;by_cases h6:now<m.iss
 ·rw[B7 (.inl h6)]
  repeat(with_reducible(first|apply Al|apply Af|apply Ak|apply As|apply Bf|apply A7|apply Ay|apply Ag|apply Aj|apply Do);· first|constructor|(simp(disch:=omega)only[Dp,dec,e00,vr]<;>first|constructor|omega)|omega)
  try simp(disch:=omega)only[Aa,dec,e00,vr]
  all_goals rfl
 by_cases h7:m.nxt<now
 ·rw[B7 (.inr h7)]
  repeat(with_reducible(first|apply Al|apply Af|apply Ak|apply As|apply Bf|apply A7|apply Ay|apply Ag|apply Aj|apply Do);· first|constructor|(simp(disch:=omega)only[Dp,dec,e00,vr]<;>first|constructor|omega)|omega)
  try simp(disch:=omega)only[Aa,dec,e00,vr]
  all_goals rfl
 rw[Ba (by omega)];simp only[Md.cells]
 repeat(with_reducible(first|apply Al|apply Af|apply Ak|apply As|apply Bf|apply A7|apply Ay|apply Ag|apply Aj|apply Do);· first|constructor|(simp(disch:=omega)only[Dp,dec,e00,vr]<;>first|constructor|omega)|omega)
 try simp(disch:=omega)only[Aa,dec,e00,vr]
 all_goals rfl
end
section
variable {fu d:Nat}
theorem Ak2(s:ByteArray):Ap C0 prog fu (d+2) 95 [.sc (.string s)]=some ⟨[Ao (if s.size<1\/32<s.size then 9 else if okS s=false then 6 else 0)],[]⟩:=by
 refine (AB fu (d+1) s).trans ?_;by_cases e1:s.size<1
 ·rw[B7 (.inl e1)]
  repeat(with_reducible(first|apply Al|apply Af|apply Ak|apply As|apply Bb|apply Bf|apply A7|apply Ay|apply Ag|apply Aj|apply Do);· first|constructor|(simp(disch:=omega)only[Dp,Dx]<;>first|constructor|omega)|omega)
  try simp(disch:=omega)only[Aa,Dx]
 by_cases e2:32<s.size
 ·rw[B7 (.inr e2)]
  repeat(with_reducible(first|apply Al|apply Af|apply Ak|apply As|apply Bb|apply Bf|apply A7|apply Ay|apply Ag|apply Aj|apply Do);· first|constructor|(simp(disch:=omega)only[Dp,Dx]<;>first|constructor|omega)|omega)
  try simp(disch:=omega)only[Aa,Dx]
 rw[Ba (by omega)];have v1:=Y6 (fu:=fu) (d:=d) s (by omega);cases e3:okS s
 ·rw[e3] at v1;rw[B7 rfl]
  repeat(with_reducible(first|apply Al|apply Af|apply Ak|apply As|apply Bb|apply Bf|apply A7|apply Ay|apply Ag|apply Aj|apply Do);· first|constructor|(simp(disch:=omega)only[Dp,v1,Dx,Ll]<;>first|constructor|omega)|omega)
  try simp(disch:=omega)only[Aa,v1,Dx,Ll]
 ·rw[e3] at v1;rw[Ba (by simp)]
  repeat(with_reducible(first|apply Al|apply Af|apply Ak|apply As|apply Bb|apply Bf|apply A7|apply Ay|apply Ag|apply Aj|apply Do);· first|constructor|(simp(disch:=omega)only[Dp,v1,Dx,Ll]<;>first|constructor|omega)|omega)
  try simp(disch:=omega)only[Aa,v1,Dx,Ll]
def U0(e:Int)(l:List It):Ab:=if e=0 then [.own 3 l.length (A6 l),Ao 0] else [.own 3 0 [],Ao e]
theorem Pk{e:Int}{l:List It}(h:e≠0):U0 e l=[.own 3 0 [],Ao e]:=by unfold U0;rw[Ba h]
theorem A2d(A:List It)(a b c:It):A6 A++[Ao a.k,Ac a.n,.sc (.string a.s),Ao b.k,Ac b.n,.sc (.string b.s),Ao c.k,Ac c.n,.sc (.string c.s)]=A6 (A++[a,b,c]):=by rw[Zx];rfl
theorem A6n(A:List It)(a:It):A6 A++[Ao a.k,Ac a.n,.sc (.string a.s)]=A6 (A++[a]):=by rw[Zx];rfl
theorem Av5{Dc:Int}{G7 G5:Nat}{Cj Ef:Ab}{x:Me}(h2:x.sts.length<=4):∀(r:List Sa)(i nn:Nat)(p:Option Int)(A:List It),x.sts.drop i=r->r.length<nn->i<=x.sts.length ->
  ((i=0/\p=none)\/∃s',0<i/\x.sts[i-1]?=some s'/\p=some s'.at_)->A.length+3*r.length<=1000 ->
  Fx fu (Ap C0 prog fu (d+3)) Dc G7 Cj G5 Ef nn A.length (i:Int) x.model x.ans.length (C3 x.ans) x.sts.length (Dg x.sts) (A6 A) =
   some ⟨U0 (D5 p r) (A++(r.map Cw).flatten),[]⟩
 |_,_,0,_,_,_,h,_,_,_=>by omega
 |[],i,nn+1,p,A,hd,hn,hi,hp,hA=>by
  have hl:=drop_nil hd;have ei:i=x.sts.length:=by omega
  have Gn:D5 p []=0:=by unfold D5;rfl
  have L:=Fa A;have t:List.take (A.length*3) (A6 A)=A6 A:=I9 (by omega);have e:A++(([]:List Sa).map Cw).flatten=A:=by simp
  rw[e,Gn];unfold U0;rw[B7 rfl];subst ei;rw[Gq];generalize A6 A=C at *
  generalize A.length=n at *
  repeat(with_reducible(first|apply Al|apply Af|apply Ak|apply As|apply Bb|apply Bf|apply A7|apply Ay|apply Ag|apply Aj|apply Do);· first|constructor|(simp(disch:=omega)only[Dp,L,t]<;>first|constructor|omega)|omega)
  try simp(disch:=omega)only[Aa,L,t]
  all_goals rfl
 |s::rs,i,nn+1,p,A,hd,hn,hi,hp,hA=>by
  obtain⟨q1,q2,q3⟩:=C1 hd;simp only[G9] at hn hA;obtain⟨c0,c1⟩:=saa q2;have nt:Int.toNat (i:Int)=i:=Ij _;have w1:=JW (fu:=fu) (d:=d+2) s.kd 1 4;have w2:=JW (fu:=fu) (d:=d+2) s.at_ 0 1099511627776
  have bad:∀{e:Int},Gm p s=e->e≠0->some (Dl.mk [.own 3 0 [],Ao e] [])=some (Dl.mk (U0 (D5 p (s::rs)) (A++((s::rs).map Cw).flatten)) []):=fun {e} h he=>by
   have:D5 p (s::rs)=e:=by rw[D5,B7 (by rw[h];exact he),h]
   rw[this,Pk he]
  by_cases g1:s.kd<1\/4<s.kd
  ·have hb:Gm p s=9:=by unfold Gm;rw[B7 (by omega)]
   have:(decide ((1:Int)<=s.kd)&&decide (s.kd<=4))=false:=by simp;omega
   rw[this] at w1;rw[<-bad hb (by omega),Gq]
   repeat(with_reducible(first|apply Al|apply Af|apply Ak|apply As|apply Bb|apply Bf|apply A7|apply Ay|apply Ag|apply Aj|apply Do);· first|constructor|(simp(disch:=omega)only[Dp,nt,c0,c1,w1,Dx,Ll]<;>first|constructor|omega)|omega)
   try simp(disch:=omega)only[Aa,nt,c0,c1,w1,Dx,Ll]
   all_goals rfl
  have z1:(decide ((1:Int)<=s.kd)&&decide (s.kd<=4))=true:=by simp;omega
  rw[z1] at w1;by_cases g3:s.at_<0\/1099511627776<s.at_
  ·have hb:Gm p s=9:=by unfold Gm;rw[B7 (by omega)]
   have:(decide ((0:Int)<=s.at_)&&decide (s.at_<=1099511627776))=false:=by simp;omega
   rw[this] at w2;rw[<-bad hb (by omega),Gq]
   repeat(with_reducible(first|apply Al|apply Af|apply Ak|apply As|apply Bb|apply Bf|apply A7|apply Ay|apply Ag|apply Aj|apply Do);· first|constructor|(simp(disch:=omega)only[Dp,nt,c0,c1,w1,w2,Dx,Ll]<;>first|constructor|omega)|omega)
   try simp(disch:=omega)only[Aa,nt,c0,c1,w1,w2,Dx,Ll]
   all_goals rfl
  have z2:(decide ((0:Int)<=s.at_)&&decide (s.at_<=1099511627776))=true:=by simp;omega
  rw[z2] at w2;have S1:Gm none s=0:=by unfold Gm;rw[Ba (by omega)]
  have S0:∀q:Int,Gm (some q) s=if s.at_<=q then 7 else 0:=fun q=>by unfold Gm;rw[Ba (by omega)]
  have wk:wrap .u64 s.kd=s.kd:=Cm (by omega) (by omega);have wa:wrap .u64 s.at_=s.at_:=Cm (by omega) (by omega);have a2:=Pe (fu:=fu) (d:=d+2) 2 (by omega) (by omega);have u1:=Ph (fu:=fu) (d:=d+2) s.kd;have u2:=Ph (fu:=fu) (d:=d+2) s.at_;have w:wrap .i64 ((i:Int)+1)=((i+1:Nat):Int):=by rw[Ah (by omega) (by omega)];omega
  have L:=Fa A;have t:List.take (A.length*3) (A6 A)=A6 A:=I9 (by omega);have ea:=A2d A (Es 2) (Eu s.kd) (Eu s.at_);simp only[Es,Eu] at ea
  have eS:A++((s::rs).map Cw).flatten=(A++[Es 2,Eu s.kd,Eu s.at_])++(rs.map Cw).flatten:=by
   rw[Rz,List.flatten_cons,<-IU];rfl
  have hz:Gm p s=0->D5 p (s::rs)=D5 (some s.at_) rs:=fun h=>by rw[D5,Ba (by simp[h])]
  have ih:=Av5 (Dc:=Dc) (G7:=G7) (G5:=G5) (Cj:=Cj) (Ef:=Ef) h2 rs (i+1) nn (some s.at_) (A++[Es 2,Eu s.kd,Eu s.at_]) q3 (by omega) (by omega) (.inr ⟨s,by omega,by rw[Nat.add_sub_cancel];exact q2,rfl⟩) (by rw[G8];simp only[G9,Vl];omega)
  have lA:(A++[Es 2,Eu s.kd,Eu s.at_]).length=A.length+3:=by rw[G8];rfl
  rw[lA] at ih;simp only[Es,Eu] at ih eS;rw[Gq];rcases hp with⟨rfl,rfl⟩|⟨s',h0,h5,rfl⟩
  ·rw[eS,hz S1,<-ih];generalize A6 (A++[⟨5,2,N9⟩,⟨1,s.kd,N9⟩,⟨1,s.at_,N9⟩])=C' at *
   generalize A6 A=C at *
   generalize A.length=n at *
   repeat(with_reducible(first|apply Al|apply Af|apply Ak|apply As|apply Bb|apply Bf|apply A7|apply Ay|apply Ag|apply Aj|apply Do);· first|constructor|(simp(disch:=omega)only[Dp,nt,c0,c1,w1,w2,wk,wa,a2,u1,u2,L,t,ea,w,Dx,Ll]<;>first|constructor|omega)|omega)
   try simp(disch:=omega)only[Aa,nt,c0,c1,w1,w2,wk,wa,a2,u1,u2,L,t,ea,w,Dx,Ll]
   all_goals rfl
  ·obtain⟨b0,b1⟩:=saa h5;have wi:wrap .i64 ((i:Int)-1)=((i-1:Nat):Int):=by rw[Ah (by omega) (by omega)];omega
   have nt1:Int.toNat ((i-1:Nat):Int)=i-1:=Ij _;by_cases ho:s.at_<=s'.at_
   ·have hb:Gm (some s'.at_) s=7:=by rw[S0,B7 ho]
    rw[<-bad hb (by omega)]
    repeat(with_reducible(first|apply Al|apply Af|apply Ak|apply As|apply Bb|apply Bf|apply A7|apply Ay|apply Ag|apply Aj|apply Do);· first|constructor|(simp(disch:=omega)only[Dp,nt,c0,c1,w1,w2,wi,nt1,b0,b1,Dx,Ll]<;>first|constructor|omega)|omega)
    try simp(disch:=omega)only[Aa,nt,c0,c1,w1,w2,wi,nt1,b0,b1,Dx,Ll]
    all_goals rfl
   ·have hb:Gm (some s'.at_) s=0:=by rw[S0,Ba ho]
    rw[eS,hz hb,<-ih];generalize A6 (A++[⟨5,2,N9⟩,⟨1,s.kd,N9⟩,⟨1,s.at_,N9⟩])=C' at *
    generalize A6 A=C at *
    generalize A.length=n at *
    repeat(with_reducible(first|apply Al|apply Af|apply Ak|apply As|apply Bb|apply Bf|apply A7|apply Ay|apply Ag|apply Aj|apply Do);· first|constructor|(simp(disch:=omega)only[Dp,nt,c0,c1,w1,w2,wi,nt1,b0,b1,wk,wa,a2,u1,u2,L,t,ea,w,Dx,Ll]<;>first|constructor|omega)|omega)
    try simp(disch:=omega)only[Aa,nt,c0,c1,w1,w2,wi,nt1,b0,b1,wk,wa,a2,u1,u2,L,t,ea,w,Dx,Ll]
    all_goals rfl
theorem Avx(Bo:1000<=fu){Dc:Int}{G7 G5:Nat}{Cj Ef:Ab}{x:Me}(h1:x.ans.length<=4)(h2:x.sts.length<=4):∀(r:List An)(i nn:Nat)(A:List It),x.ans.drop i=r->r.length<nn->i<=x.ans.length->A.length+3*r.length<=500 ->
  Ho fu (Ap C0 prog fu (d+3)) Dc G7 Cj G5 Ef nn A.length (i:Int) x.model x.ans.length (C3 x.ans) x.sts.length (Dg x.sts) (A6 A) =
   some ⟨U0 (if C8 r≠0 then C8 r else D5 none x.sts) (A++(r.map Cx).flatten++C9 (x.sts.map Cw)),[]⟩
 |_,_,0,_,_,h,_,_=>by omega
 |[],i,nn+1,A,hd,hn,hi,hA=>by
  have hl:=drop_nil hd;have ei:i=x.ans.length:=by omega
  have Gn:C8 []=0:=by unfold C8;rfl
  have L:=Fa A;have t:List.take (A.length*3) (A6 A)=A6 A:=I9 (by omega);have a1:=Pe (fu:=fu) (d:=d+2) x.sts.length (by omega) (by omega);have ea:=A6n A (Es x.sts.length);simp only[Es] at ea
  have e:A++(([]:List An).map Cx).flatten++C9 (x.sts.map Cw)=(A++[Es x.sts.length])++(x.sts.map Cw).flatten:=by
   unfold C9;rw[List.map_nil,List.flatten_nil,List.append_nil,IU,List.length_map];rfl
  simp only[Vl] at hA;have l1:=Av5 (fu:=fu) (d:=d) (Dc:=Dc) (G7:=G7) (G5:=G5) (Cj:=Cj) (Ef:=Ef) h2 x.sts 0 fu none (A++[Es x.sts.length]) rfl (by omega) (by omega) (.inl ⟨rfl,rfl⟩) (by rw[G8,List.length_singleton];omega)
  have lA:(A++[Es x.sts.length]).length=A.length+1:=by rw[G8];rfl
  have z0:((0:Nat):Int)=0:=rfl;rw[lA,z0] at l1;rw[e,Gn,Ba (by simp),<-l1];simp only[Es];subst ei;rw[E5];generalize A6 (A++[⟨5,x.sts.length,N9⟩])=C' at *
  generalize A6 A=C at *
  generalize A.length=n at *
  repeat(with_reducible(first|apply Al|apply Af|apply Ak|apply As|apply Bb|apply Bf|apply A7|apply Ay|apply Ag|apply Aj|apply Do);· first|constructor|(simp(disch:=omega)only[Dp,L,t,a1,ea]<;>first|constructor|omega)|omega)
  try simp(disch:=omega)only[Aa,L,t,a1,ea]
  all_goals rfl
 |a::rs,i,nn+1,A,hd,hn,hi,hA=>by
  obtain⟨q1,q2,q3⟩:=C1 hd;simp only[G9] at hn hA;obtain⟨c0,c1,c2⟩:=ana q2;have c0':(C3 x.ans).getD (i*3+0) .top=.sc (.string a.name):=c0;have c2':(C3 x.ans).getD (i*3+1+1) .top=Ac a.key.root:=c2;have nt:Int.toNat (i:Int)=i:=Ij _;have nm:=Ak2 (fu:=fu) (d:=d+1) a.name;have ek:=Agj (fu:=fu) (d:=d+1) Bo a.key;simp only[Ky.cells] at ek;have e00:((0:Int) != 0)=false:=rfl;have e90:((9:Int) != 0)=true:=rfl;have e60:((6:Int) != 0)=true:=rfl
  have bad:∀{e:Int},Fw a=e->e≠0->some (Dl.mk [.own 3 0 [],Ao e] [])=some (Dl.mk (U0 (if C8 (a::rs)≠0 then C8 (a::rs) else D5 none x.sts) (A++((a::rs).map Cx).flatten++C9 (x.sts.map Cw))) []):=fun {e} h he=>by
   have:C8 (a::rs)=e:=by rw[C8,B7 (by rw[h];exact he),h]
   rw[this,B7 he,Pk he]
  by_cases e1:a.name.size<1\/32<a.name.size
  ·have hb:Fw a=9:=by unfold Fw;rw[B7 e1]
   rw[B7 e1] at nm;rw[<-bad hb (by omega),E5]
   repeat(with_reducible(first|apply Al|apply Af|apply Ak|apply As|apply Bb|apply Bf|apply A7|apply Ay|apply Ag|apply Aj|apply Do);· first|constructor|(simp(disch:=omega)only[Dp,nt,c0',nm,e90,Dx,Ll]<;>first|constructor|omega)|omega)
   try simp(disch:=omega)only[Aa,nt,c0',nm,e90,Dx,Ll]
   all_goals rfl
  rw[Ba e1] at nm;cases e3:okS a.name
  ·have hb:Fw a=6:=by unfold Fw;rw[Ba e1,B7 e3]
   rw[e3,B7 rfl] at nm;rw[<-bad hb (by omega),E5]
   repeat(with_reducible(first|apply Al|apply Af|apply Ak|apply As|apply Bb|apply Bf|apply A7|apply Ay|apply Ag|apply Aj|apply Do);· first|constructor|(simp(disch:=omega)only[Dp,nt,c0',nm,e60,Dx,Ll]<;>first|constructor|omega)|omega)
   try simp(disch:=omega)only[Aa,nt,c0',nm,e60,Dx,Ll]
   all_goals rfl
  rw[e3,Ba (by simp)] at nm;cases e5:D6 a.key.h
  rotate_left
  ·have hb:Fw a=9:=by unfold Fw;rw[Ba e1,Ba (by simp[e3]),B7 e5]
   rw[e5,B7 rfl] at ek;rw[<-bad hb (by omega),E5]
   repeat(with_reducible(first|apply Al|apply Af|apply Ak|apply As|apply Bb|apply Bf|apply A7|apply Ay|apply Ag|apply Aj|apply Do);· first|constructor|(simp(disch:=omega)only[Dp,nt,c0',c1,c2',nm,ek,e00,e90,Dx,Ll]<;>first|constructor|omega)|omega)
   try simp(disch:=omega)only[Aa,nt,c0',c1,c2',nm,ek,e00,e90,Dx,Ll]
   all_goals rfl
  rw[e5,Ba (by simp)] at ek;have hz:Fw a=0:=by unfold Fw;rw[Ba e1,Ba (by simp[e3]),Ba (by simp[e5])]
  have a2:=Pe (fu:=fu) (d:=d+2) 2 (by omega) (by omega);have u1:=Anb (fu:=fu) (d:=d+2) a.name;have u2:=Aqb (fu:=fu) (d:=d+2) (I7 a.key);have k9:(I7 a.key).length=9:=rfl;rw[k9] at u2;have L9:=Am .u8 (I7 a.key);rw[k9] at L9;have tk9:List.take 9 (Ad .u8 (I7 a.key))=Ad .u8 (I7 a.key):=I9 (by omega);have w:wrap .i64 ((i:Int)+1)=((i+1:Nat):Int):=by rw[Ah (by omega) (by omega)];omega
  have L:=Fa A;have t:List.take (A.length*3) (A6 A)=A6 A:=I9 (by omega);have ea:=A2d A (Es 2) ⟨4,0,a.name⟩ ⟨3,0,Cf (I7 a.key)⟩;simp only[Es] at ea
  have eS:A++((a::rs).map Cx).flatten=(A++[Es 2,⟨4,0,a.name⟩,⟨3,0,Cf (I7 a.key)⟩])++(rs.map Cx).flatten:=by
   rw[Rz,List.flatten_cons,<-IU];rfl
  have hgo:C8 (a::rs)=C8 rs:=by rw[C8,Ba (by simp[hz])]
  have ih:=Avx Bo (Dc:=Dc) (G7:=G7) (G5:=G5) (Cj:=Cj) (Ef:=Ef) h1 h2 rs (i+1) nn (A++[Es 2,⟨4,0,a.name⟩,⟨3,0,Cf (I7 a.key)⟩]) q3 (by omega) (by omega) (by rw[G8];simp only[G9,Vl];omega)
  have lA:(A++[Es 2,⟨4,0,a.name⟩,⟨3,0,Cf (I7 a.key)⟩]).length=A.length+3:=by rw[G8];rfl
  rw[lA] at ih;rw[E5,eS,hgo,<-ih];simp only[Es];generalize A6 (A++[⟨5,2,N9⟩,⟨4,0,a.name⟩,⟨3,0,Cf (I7 a.key)⟩])=C' at *
  generalize A6 A=C at *
  generalize A.length=n at *
  generalize Ad .u8 (I7 a.key)=KB at *
  repeat(with_reducible(first|apply Al|apply Af|apply Ak|apply As|apply Bb|apply Bf|apply A7|apply Ay|apply Ag|apply Aj|apply Do);· first|constructor|(simp(disch:=omega)only[Dp,nt,c0',c1,c2',nm,ek,e00,a2,u1,u2,L9,tk9,L,t,ea,w,Cu,Ec,Fi,Dx,Ll]<;>first|constructor|omega)|omega)
  try simp(disch:=omega)only[Aa,nt,c0',c1,c2',nm,ek,e00,a2,u1,u2,L9,tk9,L,t,ea,w,Cu,Ec,Fi,Dx,Ll]
  all_goals rfl
theorem Ayr(Bo:1000<=fu)(x:Me):Ap C0 prog fu (d+4) 58 [.agg x.cells]=some ⟨U0 (Cy x) (A3 x),[]⟩:=by
 refine (Z3 fu (d+3) x.model x.ans.length (C3 x.ans) x.sts.length (Dg x.sts)).trans ?_;by_cases h1:4<x.ans.length
 ·have hb:Cy x=8:=by unfold Cy;rw[B7 (.inl h1)]
  rw[hb,Pk (by omega)]
  repeat(with_reducible(first|apply Al|apply Af|apply Ak|apply As|apply Bb|apply Bf|apply A7|apply Ay|apply Ag|apply Aj|apply Do);· first|constructor|(simp(disch:=omega)only[Dp,Dx]<;>first|constructor|omega)|omega)
  try simp(disch:=omega)only[Aa,Dx]
  all_goals rfl
 by_cases h2:4<x.sts.length
 ·have hb:Cy x=8:=by unfold Cy;rw[B7 (.inr h2)]
  rw[hb,Pk (by omega)]
  repeat(with_reducible(first|apply Al|apply Af|apply Ak|apply As|apply Bb|apply Bf|apply A7|apply Ay|apply Ag|apply Aj|apply Do);· first|constructor|(simp(disch:=omega)only[Dp,Dx]<;>first|constructor|omega)|omega)
  try simp(disch:=omega)only[Aa,Dx]
  all_goals rfl
 have hb:Cy x=if C8 x.ans≠0 then C8 x.ans else D5 none x.sts:=by unfold Cy;rw[Ba (by omega)]
 have a3:=Pe (fu:=fu) (d:=d+2) 3 (by omega) (by omega);have a4:=Pe (fu:=fu) (d:=d+2) x.ans.length (by omega) (by omega);have u:=Ph (fu:=fu) (d:=d+2) x.model;have l0:=Avx (fu:=fu) (d:=d) Bo (Dc:=x.model) (G7:=x.ans.length) (G5:=x.sts.length) (Cj:=C3 x.ans) (Ef:=Dg x.sts) (x:=x) (by omega) (by omega) x.ans 0 fu [Es 3,Eu x.model,Es x.ans.length] rfl (by omega) (by omega) (by simp only[G9,Vl];omega)
 have z0:((0:Nat):Int)=0:=rfl
 have e:A3 x=[Es 3,Eu x.model,Es x.ans.length]++(x.ans.map Cx).flatten++C9 (x.sts.map Cw):=by
  simp only[A3,Yn,List.flatten_cons,List.flatten_nil,List.append_nil,Zzp,PT,IU];unfold C9;rw[List.length_map,List.length_map];rfl
 have eT:A6 [Es 3,Eu x.model,Es x.ans.length]=[Ao 5,Ac 3,.sc (.string N9),Ao 1,Ac x.model,.sc (.string N9),Ao 5,Ac x.ans.length,.sc (.string N9)]:=rfl;have eL:[Es 3,Eu x.model,Es x.ans.length].length=3:=rfl;rw[z0,eT,eL] at l0;rw[hb,e,<-l0]
 repeat(with_reducible(first|apply Al|apply Af|apply Ak|apply As|apply Bb|apply Bf|apply A7|apply Ay|apply Ag|apply Aj|apply Do);· first|constructor|(simp(disch:=omega)only[Dp,a3,a4,u]<;>first|constructor|omega)|omega)
 try simp(disch:=omega)only[Aa,a3,a4,u]
 all_goals rfl
theorem Awz(Bo:1000<=fu){Dc Cj Ef Kz:Int}{Gt Gv Gu:Nat}{Ku Kx K4:Ab}{m:Md}(hw:m.wf)(h3:m.ents.length<=16)(h0:Bl m=C4 none m.ents):∀(r:List Me)(i nn:Nat)(p:Option Int)(A:List It),m.ents.drop i=r->r.length<nn->i<=m.ents.length ->
  ((i=0/\p=none)\/∃x',0<i/\m.ents[i-1]?=some x'/\p=some x'.model)->A++(r.map A3).flatten=A4 m->(C4 p r=0->C4 none m.ents=0)->C4 none m.ents=C4 p r->A.length+28*r.length<=500 ->
  Er fu (Ap C0 prog fu (d+4)) Dc Cj Ef Gt Ku Kz Gv Kx Gu K4 nn A.length (i:Int) m.ver m.iss m.nxt m.ents.length (B0 m.ents) m.sig.leaf m.sig.chains.length (Ad .u64 m.sig.chains) m.sig.path.length (Ad .u64 m.sig.path) (A6 A)=some ⟨I4 m,[]⟩
 |_,_,0,_,_,_,h,_,_,_,_,_,_=>by omega
 |[],i,nn+1,p,A,hd,hn,hi,hp,hM,hz,hE,hA=>by
  have hl:=drop_nil hd;have ei:i=m.ents.length:=by omega
  have Gn:C4 p []=0:=by unfold C4;rfl
  have hm0:Bl m=0:=by rw[h0,hz Gn]
  rw[List.map_nil,List.flatten_nil,List.append_nil] at hM;subst hM;obtain⟨vm,fm,lm⟩:=Wa hw hm0;have bi:=Alj (fu:=fu) (d:=d) (its:=A4 m) (fun x hx=>⟨(fm x hx).1,(fm x hx).2.1⟩) (by omega) Bo;unfold I4;rw[B7 hm0];have L:=Fa (A4 m);have t:List.take ((A4 m).length*3) (A6 (A4 m))=A6 (A4 m):=I9 (by omega);have LB:=Am .u8 (Bn (A4 m));have tB:=Ob .u8 (Bn (A4 m));subst ei;rw[Ko];generalize Bn (A4 m)=B at *
  generalize A6 (A4 m)=C at *
  generalize (A4 m).length=n at *
  repeat(with_reducible(first|apply Al|apply Af|apply Ak|apply As|apply Bb|apply Bf|apply A7|apply Ay|apply Ag|apply Aj|apply Do);· first|constructor|(simp(disch:=omega)only[Dp,L,t,bi,LB,tB,Cu,Ec,Fi]<;>first|constructor|omega)|omega)
  try simp(disch:=omega)only[Aa,L,t,bi,LB,tB,Cu,Ec,Fi]
  all_goals rfl
 |x::rs,i,nn+1,p,A,hd,hn,hi,hp,hM,hz,hE,hA=>by
  obtain⟨q1,q2,q3⟩:=C1 hd;simp only[G9] at hn hA;obtain⟨c0,c1,c2⟩:=mea q2;have c0':(B0 m.ents).getD (i*3+0) .top=Ac x.model:=c0;have c2':(B0 m.ents).getD (i*3+1+1) .top=.lst false 2 x.sts.length (Dg x.sts):=c2;have nt:Int.toNat (i:Int)=i:=Ij _;have hxm:=hw.mod x (List.mem_of_getElem? q2);have en:=Ayr (fu:=fu) (d:=d) Bo x;simp only[Me.cells] at en;have w:wrap .i64 ((i:Int)+1)=((i+1:Nat):Int):=by rw[Ah (by omega) (by omega)];omega
  have O1:Jb none x=0:=rfl;have O0:∀q:Int,Jb (some q) x=if x.model<=q then 7 else 0:=fun q=>rfl
  have LA:=Fa A;have tA:List.take (A.length*3) (A6 A)=A6 A:=I9 (by omega);have ea:=(Zx A (A3 x)).symm;have LE:=Fa (A3 x);have tE:List.take ((A3 x).length*3) (A6 (A3 x))=A6 (A3 x):=I9 (by omega);have e00:((0:Int) != 0)=false:=rfl;have hgo:Jb p x=0->Cy x=0->C4 p (x::rs)=C4 (some x.model) rs:=fun h h'=>by rw[C4,Ba (by simp[h]),Ba (by simp[h'])]
  have Abo:Jb p x=0->Cy x≠0->C4 p (x::rs)=Cy x:=fun h h'=>by rw[C4,Ba (by simp[h]),B7 h']
  have Ayf:Jb p x=7->C4 p (x::rs)=7:=fun h=>by rw[C4,B7 (by rw[h];omega),h]
  have bad:∀{e:Int},C4 p (x::rs)=e->e≠0->some (Dl.mk [.own 1 0 [],Ao e] [])=some (Dl.mk (I4 m) []):=fun {e} h he=>by unfold I4;rw[h0,hE,h,Ba he]
  have lA:(A++A3 x).length=A.length+(A3 x).length:=G8;have ih:=fun (h:Jb p x=0) (h':Cy x=0)=>Awz Bo (Dc:=Dc) (Cj:=Cj) (Ef:=Ef) (Kz:=Kz) (Gt:=Gt) (Gv:=Gv) (Gu:=Gu) (Ku:=Ku) (Kx:=Kx) (K4:=K4) hw h3 h0 rs (i+1) nn (some x.model) (A++A3 x) q3 (by omega) (by omega) (.inr ⟨x,by omega,by rw[Nat.add_sub_cancel];exact q2,rfl⟩) (by rw[<-hM,Rz,List.flatten_cons,IU]) (fun e=>hz (by rw[hgo h h'];exact e)) (by rw[hE,hgo h h']) (by have:=(Tv hxm h').2.2;omega)
  rw[Ko];rcases hp with⟨rfl,rfl⟩|⟨x',h9,h5,rfl⟩
  ·by_cases he:Cy x=0
   ·have le:=(Tv hxm he).2.2;have ih:=ih O1 he;unfold U0 at en;rw[B7 he] at en;rw[lA] at ih;rw[<-ih];generalize A6 (A++A3 x)=C' at *
    generalize A6 A=C at *
    generalize A.length=n at *
    generalize A6 (A3 x)=TE at *
    generalize (A3 x).length=nE at *
    repeat(with_reducible(first|apply Al|apply Af|apply Ak|apply As|apply Bb|apply Bf|apply A7|apply Ay|apply Ag|apply Aj|apply Do);· first|constructor|(simp(disch:=omega)only[Dp,nt,c0,c1,c2',en,e00,LE,tE,LA,tA,ea,w,Cu,Ec,Fi]<;>first|constructor|omega)|omega)
    try simp(disch:=omega)only[Aa,nt,c0,c1,c2',en,e00,LE,tE,LA,tA,ea,w,Cu,Ec,Fi]
    all_goals rfl
   ·rw[Pk he] at en;have Ge:(Cy x != 0)=true:=by simp[he]
    rw[<-bad (Abo O1 he) he]
    repeat(with_reducible(first|apply Al|apply Af|apply Ak|apply As|apply Bb|apply Bf|apply A7|apply Ay|apply Ag|apply Aj|apply Do);· first|constructor|(simp(disch:=omega)only[Dp,nt,c0,c1,c2',en,Ge]<;>first|constructor|omega)|omega)
    try simp(disch:=omega)only[Aa,nt,c0,c1,c2',en,Ge]
    all_goals rfl
  ·obtain⟨b0,b1,b2⟩:=mea h5;have b0':(B0 m.ents).getD ((i-1)*3+0) .top=Ac x'.model:=b0;have wi:wrap .i64 ((i:Int)-1)=((i-1:Nat):Int):=by rw[Ah (by omega) (by omega)];omega
   have nt1:Int.toNat ((i-1:Nat):Int)=i-1:=Ij _;by_cases ho:x.model<=x'.model
   ·have h7:Jb (some x'.model) x=7:=by rw[O0,B7 ho]
    rw[<-bad (Ayf h7) (by omega)]
    repeat(with_reducible(first|apply Al|apply Af|apply Ak|apply As|apply Bb|apply Bf|apply A7|apply Ay|apply Ag|apply Aj|apply Do);· first|constructor|(simp(disch:=omega)only[Dp,nt,c0',c0,c1,c2',wi,nt1,b0']<;>first|constructor|omega)|omega)
    try simp(disch:=omega)only[Aa,nt,c0',c0,c1,c2',wi,nt1,b0']
    all_goals rfl
   ·have h7:Jb (some x'.model) x=0:=by rw[O0,Ba ho]
    by_cases he:Cy x=0
    ·have le:=(Tv hxm he).2.2;have ih:=ih h7 he;unfold U0 at en;rw[B7 he] at en;rw[lA] at ih;rw[<-ih];generalize A6 (A++A3 x)=C' at *
     generalize A6 A=C at *
     generalize A.length=n at *
     generalize A6 (A3 x)=TE at *
     generalize (A3 x).length=nE at *
     repeat(with_reducible(first|apply Al|apply Af|apply Ak|apply As|apply Bb|apply Bf|apply A7|apply Ay|apply Ag|apply Aj|apply Do);· first|constructor|(simp(disch:=omega)only[Dp,nt,c0',c0,c1,c2',wi,nt1,b0',en,e00,LE,tE,LA,tA,ea,w,Cu,Ec,Fi]<;>first|constructor|omega)|omega)
     try simp(disch:=omega)only[Aa,nt,c0',c0,c1,c2',wi,nt1,b0',en,e00,LE,tE,LA,tA,ea,w,Cu,Ec,Fi]
     all_goals rfl
    ·rw[Pk he] at en;have Ge:(Cy x != 0)=true:=by simp[he]
     rw[<-bad (Abo h7 he) he]
     repeat(with_reducible(first|apply Al|apply Af|apply Ak|apply As|apply Bb|apply Bf|apply A7|apply Ay|apply Ag|apply Aj|apply Do);· first|constructor|(simp(disch:=omega)only[Dp,nt,c0',c0,c1,c2',wi,nt1,b0',en,Ge]<;>first|constructor|omega)|omega)
     try simp(disch:=omega)only[Aa,nt,c0',c0,c1,c2',wi,nt1,b0',en,Ge]
     all_goals rfl
theorem VM(Bo:1000<=fu){m:Md}(hw:m.wf):Ap C0 prog fu (d+5) 31 [.agg m.cells]=some ⟨I4 m,[]⟩:=by
 refine (Wy fu (d+4) m.ver m.iss m.nxt m.ents.length (B0 m.ents) m.sig.leaf m.sig.chains.length (Ad .u64 m.sig.chains) m.sig.path.length (Ad .u64 m.sig.path)).trans ?_;have bad:∀{e:Int},Bl m=e->e≠0->some (Dl.mk [.own 1 0 [],Ao e] [])=some (Dl.mk (I4 m) []):=fun {e} h he=>by unfold I4;rw[h,Ba he]
 have w1:=JW (fu:=fu) (d:=d+3) m.ver 1 16;by_cases h1:m.ver<1\/16<m.ver
 ·have hb:Bl m=9:=by unfold Bl;rw[B7 h1]
  have:(decide ((1:Int)<=m.ver)&&decide (m.ver<=16))=false:=by simp;omega
  rw[this] at w1;rw[<-bad hb (by omega)]
  repeat(with_reducible(first|apply Al|apply Af|apply Ak|apply As|apply Bb|apply Bf|apply A7|apply Ay|apply Ag|apply Aj|apply Do);· first|constructor|(simp(disch:=omega)only[Dp,w1,Dx,Ll]<;>first|constructor|omega)|omega)
  try simp(disch:=omega)only[Aa,w1,Dx,Ll]
  all_goals rfl
 have z1:(decide ((1:Int)<=m.ver)&&decide (m.ver<=16))=true:=by simp;omega
 rw[z1] at w1;by_cases h2:m.iss<0\/m.nxt<m.iss\/1099511627776<m.nxt
 ·have hb:Bl m=9:=by unfold Bl;rw[Ba h1,B7 h2]
  rw[<-bad hb (by omega)];by_cases h2':m.iss<0
  ·skip
   repeat(with_reducible(first|apply Al|apply Af|apply Ak|apply As|apply Bb|apply Bf|apply A7|apply Ay|apply Ag|apply Aj|apply Do);· first|constructor|(simp(disch:=omega)only[Dp,w1,Dx]<;>first|constructor|omega)|omega)
   try simp(disch:=omega)only[Aa,w1,Dx]
   all_goals rfl
  by_cases A76:m.nxt<m.iss
  ·skip
   repeat(with_reducible(first|apply Al|apply Af|apply Ak|apply As|apply Bb|apply Bf|apply A7|apply Ay|apply Ag|apply Aj|apply Do);· first|constructor|(simp(disch:=omega)only[Dp,w1,Dx]<;>first|constructor|omega)|omega)
   try simp(disch:=omega)only[Aa,w1,Dx]
   all_goals rfl
  ·skip
   repeat(with_reducible(first|apply Al|apply Af|apply Ak|apply As|apply Bb|apply Bf|apply A7|apply Ay|apply Ag|apply Aj|apply Do);· first|constructor|(simp(disch:=omega)only[Dp,w1,Dx]<;>first|constructor|omega)|omega)
   try simp(disch:=omega)only[Aa,w1,Dx]
   all_goals rfl
 by_cases h3:16<m.ents.length
 ·have hb:Bl m=8:=by unfold Bl;rw[Ba h1,Ba h2,B7 h3]
  rw[<-bad hb (by omega)]
  repeat(with_reducible(first|apply Al|apply Af|apply Ak|apply As|apply Bb|apply Bf|apply A7|apply Ay|apply Ag|apply Aj|apply Do);· first|constructor|(simp(disch:=omega)only[Dp,w1,Dx]<;>first|constructor|omega)|omega)
  try simp(disch:=omega)only[Aa,w1,Dx]
  all_goals rfl
 have hb:Bl m=C4 none m.ents:=by unfold Bl;rw[Ba h1,Ba h2,Ba h3]
 have a4:=Pe (fu:=fu) (d:=d+3) 4 (by omega) (by omega);have aE:=Pe (fu:=fu) (d:=d+3) m.ents.length (by omega) (by omega);have u1:=Ph (fu:=fu) (d:=d+3) m.ver;have u2:=Ph (fu:=fu) (d:=d+3) m.iss;have u3:=Ph (fu:=fu) (d:=d+3) m.nxt;have x1:wrap .u64 m.ver=m.ver:=Cm (by omega) (by omega);have x2:wrap .u64 m.iss=m.iss:=Cm (by omega) (by omega);have x3:wrap .u64 m.nxt=m.nxt:=Cm (by omega) (by omega);have eT:A6 [Es 4,Eu m.ver,Eu m.iss,Eu m.nxt,Es m.ents.length]=[Ao 5,Ac 4,.sc (.string N9),Ao 1,Ac m.ver,.sc (.string N9),Ao 1,Ac m.iss,.sc (.string N9),Ao 1,Ac m.nxt,.sc (.string N9),Ao 5,Ac m.ents.length,.sc (.string N9)]:=rfl
 have eL:[Es 4,Eu m.ver,Eu m.iss,Eu m.nxt,Es m.ents.length].length=5:=rfl
 have l0:=Awz (fu:=fu) (d:=d) Bo (Dc:=m.ver) (Cj:=m.iss) (Ef:=m.nxt) (Gt:=m.ents.length) (Ku:=B0 m.ents) (Kz:=m.sig.leaf) (Gv:=m.sig.chains.length) (Kx:=Ad .u64 m.sig.chains) (Gu:=m.sig.path.length) (K4:=Ad .u64 m.sig.path) hw (by omega) hb m.ents 0 fu none [Es 4,Eu m.ver,Eu m.iss,Eu m.nxt,Es m.ents.length] rfl (by omega) (by omega) (.inl ⟨rfl,rfl⟩) (by
  simp only[A4,Qn,List.flatten_cons,List.flatten_nil,List.append_nil,Zzp,PT];unfold C9;rw[List.length_map]) (fun h=>h) rfl (by simp only[G9,Vl];omega)
 have z0:((0:Nat):Int)=0:=rfl;rw[z0,eT,eL] at l0;rw[<-l0]
 repeat(with_reducible(first|apply Al|apply Af|apply Ak|apply As|apply Bb|apply Bf|apply A7|apply Ay|apply Ag|apply Aj|apply Do);· first|constructor|(simp(disch:=omega)only[Dp,w1,a4,aE,u1,u2,u3,x1,x2,x3,Dx]<;>first|constructor|omega)|omega)
 try simp(disch:=omega)only[Aa,w1,a4,aE,u1,u2,u3,x1,x2,x3,Dx]
 all_goals rfl
end
section
variable {fu d:Nat}{m:Md}
theorem AD(Bo:20000<=fu)(hw:m.wf)(k:Ky):Ap C0 prog fu (d+8) 20 [.agg m.cells,.agg k.cells]=some ⟨[Ao (JA m k)],[]⟩:=by
 refine (Tt fu (d+7) m.ver m.iss m.nxt m.ents.length (B0 m.ents) m.sig.leaf m.sig.chains.length (Ad .u64 m.sig.chains) m.sig.path.length (Ad .u64 m.sig.path) k.h k.root).trans ?_;have bq:=VM (fu:=fu) (d:=d+2) (by omega) hw;simp only[Md.cells] at bq;unfold I4 at bq;unfold JA;by_cases h0:Bl m=0
 ·have lb:=Vq hw h0;rw[B7 h0] at bq;rw[B7 h0];have hv:=Mw h0;have e00:((0:Int) != 0)=false:=rfl;have w:wrap .i64 (m.ver-1)=m.ver-1:=Ah (by omega) (by omega);by_cases h1:m.sig.leaf≠m.ver-1
  ·have hn:(m.sig.leaf != m.ver-1)=true:=by simp[h1]
   rw[B7 h1]
   repeat(with_reducible(first|apply Al|apply Af|apply Ak|apply As|apply Bb|apply Bf|apply A7|apply Ay|apply Ag|apply Aj|apply Do);· first|constructor|(simp(disch:=omega)only[Dp,bq,e00,w,hn]<;>first|constructor|omega)|omega)
   try simp(disch:=omega)only[Aa,bq,e00,w,hn]
   all_goals rfl
  ·have hn:(m.sig.leaf != m.ver-1)=false:=by simp only[ne_eq,Decidable.not_not] at h1;simp[h1]
   rw[Ba h1];have hh:=QB (xs:=Nz) (fu:=fu) (d:=d+3) (FN hw h0) (by omega) (by omega) (by omega) 15;have vr:=Af5 (fu:=fu) (d:=d) (by omega) k (Py m) m.sig;simp only[Ky.cells,Sg.cells] at vr;have eW:P8 15 (Bn (A4 m))=Py m:=rfl;rw[eW] at hh;have L1:=Am .u8 (Bn (A4 m));have t1:=Ob .u8 (Bn (A4 m));generalize (Bn (A4 m)).length=n1 at *
   generalize Ad .u8 (Bn (A4 m))=c1 at *
   repeat(with_reducible(first|apply Al|apply Af|apply Ak|apply As|apply Bb|apply Bf|apply A7|apply Ay|apply Ag|apply Aj|apply Do);· first|constructor|(simp(disch:=omega)only[Dp,bq,e00,w,hn,Ec,Cu,Fi,L1,t1,hh,vr]<;>first|constructor|omega)|omega)
   try simp(disch:=omega)only[Aa,bq,e00,w,hn,Ec,Cu,Fi,L1,t1,hh,vr]
   all_goals rfl
 ·have Ge:(Bl m != 0)=true:=by simp[h0]
  rw[Ba h0] at bq;rw[Ba h0]
  repeat(with_reducible(first|apply Al|apply Af|apply Ak|apply As|apply Bb|apply Bf|apply A7|apply Ay|apply Ag|apply Aj|apply Do);· first|constructor|(simp(disch:=omega)only[Dp,bq,Ge]<;>first|constructor|omega)|omega)
  try simp(disch:=omega)only[Aa,bq,Ge]
  all_goals rfl
theorem Akr(Bo:20000<=fu)(hw:m.wf)(seed h:Int):Ap C0 prog fu (d+13) 12 [.agg m.cells,Ac seed,Ao h]=some ⟨[.agg (Nm m seed h).1.cells,Ao (Nm m seed h).2],[]⟩:=by
 refine (Wf fu (d+12) m.ver m.iss m.nxt m.ents.length (B0 m.ents) m.sig.leaf m.sig.chains.length (Ad .u64 m.sig.chains) m.sig.path.length (Ad .u64 m.sig.path) seed h).trans ?_;have bq:=VM (fu:=fu) (d:=d+7) (by omega) hw;simp only[Md.cells] at bq;unfold I4 at bq;unfold Nm;by_cases h0:Bl m=0
 ·have lb:=Vq hw h0;rw[B7 h0] at bq;rw[B7 h0];have hv:=Mw h0;have e00:((0:Int) != 0)=false:=rfl;have e90:((9:Int) != 0)=true:=rfl;have w:wrap .i64 (m.ver-1)=m.ver-1:=Ah (by omega) (by omega);have hh:=QB (xs:=Nz) (fu:=fu) (d:=d+8) (FN hw h0) (by omega) (by omega) (by omega) 15;have sg:=Ane (fu:=fu) (d:=d) (by omega) seed h (m.ver-1) (Py m);have eW:P8 15 (Bn (A4 m))=Py m:=rfl;rw[eW] at hh;have L1:=Am .u8 (Bn (A4 m));have t1:=Ob .u8 (Bn (A4 m));generalize (Bn (A4 m)).length=n1 at *
  generalize Ad .u8 (Bn (A4 m))=c1 at *
  cases hs:HJ seed h (m.ver-1) (Py m) with
  |none=>
   rw[hs] at sg;simp only[ZF,Sg.owned,Vl] at sg
   repeat(with_reducible(first|apply Al|apply Af|apply Ak|apply As|apply Bb|apply Bf|apply A7|apply Ay|apply Ag|apply Aj|apply Do);· first|constructor|(simp(disch:=omega)only[Dp,bq,e00,e90,w,Ec,Cu,Fi,L1,t1,hh,sg]<;>first|constructor|omega)|omega)
   try simp(disch:=omega)only[Aa,bq,e00,e90,w,Ec,Cu,Fi,L1,t1,hh,sg]
   all_goals rfl
  |some s=>
   rw[hs] at sg;simp only[ZF,Sg.owned] at sg;have hl:=Aku hs;have La:=Am .u64 s.chains;have Lb:=Am .u64 s.path;have ta:=Ob .u64 s.chains;have tb:=Ob .u64 s.path
   repeat(with_reducible(first|apply Al|apply Af|apply Ak|apply As|apply Bb|apply Bf|apply A7|apply Ay|apply Ag|apply Aj|apply Do);· first|constructor|(simp(disch:=omega)only[Dp,bq,e00,w,Ec,Cu,Fi,L1,t1,hh,sg,La,Lb,ta,tb]<;>first|constructor|omega)|omega)
   try simp(disch:=omega)only[Aa,bq,e00,w,Ec,Cu,Fi,L1,t1,hh,sg,La,Lb,ta,tb]
   all_goals rfl
 ·have Ge:(Bl m != 0)=true:=by simp[h0]
  rw[Ba h0] at bq;rw[Ba h0]
  repeat(with_reducible(first|apply Al|apply Af|apply Ak|apply As|apply Bb|apply Bf|apply A7|apply Ay|apply Ag|apply Aj|apply Do);· first|constructor|(simp(disch:=omega)only[Dp,bq,Ge]<;>first|constructor|omega)|omega)
  try simp(disch:=omega)only[Aa,bq,Ge]
  all_goals rfl
end
section
variable {fu d:Nat}
theorem Anp(Bo:1000<=fu)(seed h:Int):Ap C0 prog fu (d+13) 17 [Ac seed,Ao h]=some ⟨[.agg (Xd seed h).cells],[]⟩:=by rw[IP];have p:=OV (fu:=fu) (d:=d) Bo seed h;simp only[Ky.cells] at p ⊢;simp only[B4,B3,p]
end
theorem ZC(dom:Int)(l:Cg):Ui (P8 dom l):=Kh _
theorem Ay2(key dom:Int)(l:Cg):Ui (Atn key dom l):=Kh _
theorem Anx(leaf chain:Int):∀(k:Nat)(p:Int){x:Int},Ui x->Ui (Tr leaf chain k p x)
 |0,_,_,h=>h
 |k+1,p,x,h=>Anx leaf chain k (p+1) (ZC _ _)
theorem A0c(seed leaf m:Int):isW (Ls seed leaf m):=by intro x hx;obtain⟨k,_,rfl⟩:=List.mem_map.1 hx;exact Anx _ _ _ _ (Ay2 _ _ _)
theorem Ahr(seed:Int):∀(l:Nat)(i:Int),Ui (Ci seed l i)
 |0,i=>ZC _ _
 |l+1,i=>ZC _ _
theorem Akj(seed h:Int):Ui (Xd seed h).root:=by
 unfold Xd;split
 ·exact⟨by simp,by simp⟩
 ·exact Ahr _ _ _
theorem Aja{seed h leaf m:Int}(hh:D6 h=false)(ho:J8 leaf h=false):∃s,HJ seed h leaf m=some s/\s.ok/\s.leaf=leaf/\s.chains.length=18/\(s.path.length:Int)=h/\Acj (Xd seed h) m s=0:=by
 have hb:=I5 hh;refine⟨⟨leaf,Ls seed leaf m,(List.range h.toNat).map fun k=>Ci seed k (Ha leaf k)⟩,?_,⟨A0c _ _ _,?_⟩,rfl,by simp[Ls],?_,An2 hh ho⟩
 ·unfold HJ;rw[Ba (by simp[hh]),Ba (by simp[ho])]
 ·intro x hx;obtain⟨k,_,rfl⟩:=List.mem_map.1 hx;exact Ahr _ _ _
 ·simp only[List.length_map,List.length_range];omega
theorem At6{s:Sg}:(DK s).length=2+8*s.chains.length+8*s.path.length:=by unfold DK;simp only[G9,G8,D9];omega
section
variable {xs:FuncId->Option (Ab->Option Dl)}(fu d:Nat)(call:Bi)
def F7(Z:Nat)(Y:Ab)(X:Int)(W:Nat)(V:Int)(U:Nat)(T:Ab)(S Q:Int)(P O:Int)(N:Nat)(M:Int)(L K:Nat)(J I H:Ab)(G E D:Int)(B:Nat)(A:Int)(z w:Nat)(v u t:Ab):Option Dl:=Lu fu call 11 Tryz.f11 [.pbox [Ai 1 Z Y,X]] [.r,.r,.l,.r,.l] W ⟨lk [(0,.ptr 238000 0),(2,.ptr 2 0),(3,.ptr 3 0),(4,V)],Bq [(238000,.st [Ai 1 U T,S]),(2,.st [Q,P,O,.view 478 3 0 N,M,.view 716 1 0 L,.view 835 1 0 K]),(478,.ar false J),(716,.ar false I),(835,.ar false H),(3,.st [G,E,D,.view 479 3 0 B,A,.view 717 1 0 z,.view 836 1 0 w]),(479,.ar false v),(717,.ar false u),(836,.ar false t)]⟩
def Gb(Z:Nat)(Y:Ab)(X:Int)(W V:Nat)(U T:Int)(S:Nat)(Q:Ab)(P O:Int)(N M:Int)(L:Nat)(K:Int)(J I:Nat)(H G E:Ab)(D B A:Int)(z:Nat)(w:Int)(v u:Nat)(t OB LR:Ab)(QS:Int)(YS y27:Nat)(ZT YG:Ab):Option Dl:=Lu fu call 11 Tryz.f11 [.pbox [Ai 1 Z Y,X]] [.r,.r,.l,.r,.l,.i W,.r,.l,.l,.r,.l,.r,.l] V ⟨lk [(0,.ptr 238000 0),(2,.ptr 2 0),(3,.ptr 3 0),(4,U),(5,.ptr 5 0),(6,T)],Bq [(238000,.st [Ai 1 S Q,P]),(2,.st [O,N,M,.view 478 3 0 L,K,.view 716 1 0 J,.view 835 1 0 I]),(478,.ar false H),(716,.ar false G),(835,.ar false E),(3,.st [D,B,A,.view 479 3 0 z,w,.view 717 1 0 v,.view 836 1 0 u]),(479,.ar false t),(717,.ar false OB),(836,.ar false LR),(5,.st [Ac QS,.view 243 3 0 YS,.view 362 2 0 y27]),(243,.ar false ZT),(362,.ar false YG)]⟩
def Lt(Z:Nat)(Y:Ab)(X:Int)(W V:Nat)(U:Ab)(T S:Int)(Q P:Int)(O:Nat)(N:Int)(M L:Nat)(K J I:Ab)(H G E:Int)(D:Nat)(B:Int)(A z:Nat)(w v u:Ab):Option Dl:=Lu fu call 11 Tryz.f11 [.pbox [Ai 1 Z Y,X]] [.r,.r] W ⟨lk [(0,.ptr 238000 0),(2,.ptr 2 0),(3,.ptr 3 0)],Bq [(238000,.st [Ai 1 V U,T]),(2,.st [S,Q,P,.view 478 3 0 O,N,.view 716 1 0 M,.view 835 1 0 L]),(478,.ar false K),(716,.ar false J),(835,.ar false I),(3,.st [H,G,E,.view 479 3 0 D,B,.view 717 1 0 A,.view 836 1 0 z]),(479,.ar false w),(717,.ar false v),(836,.ar false u)]⟩
def Gc(Z:Nat)(Y:Ab)(X:Int)(W V:Nat)(U T:Int)(S:Nat)(Q:Ab)(P O:Int)(N M:Int)(L:Nat)(K:Int)(J I:Nat)(H G E:Ab)(D B A:Int)(z:Nat)(w:Int)(v u:Nat)(t OB LR:Ab)(QS:Int)(YS y27:Nat)(ZT YG:Ab):Option Dl:=Lu fu call 11 Tryz.f11 [.pbox [Ai 1 Z Y,X]] [.r,.r,.l,.r,.l,.i W,.r,.l,.l,.r,.r,.l,.r,.l] V ⟨lk [(0,.ptr 238000 0),(2,.ptr 2 0),(3,.ptr 3 0),(4,U),(5,.ptr 5 0),(9,T)],Bq [(238000,.st [Ai 1 S Q,P]),(2,.st [O,N,M,.view 478 3 0 L,K,.view 716 1 0 J,.view 835 1 0 I]),(478,.ar false H),(716,.ar false G),(835,.ar false E),(3,.st [D,B,A,.view 479 3 0 z,w,.view 717 1 0 v,.view 836 1 0 u]),(479,.ar false t),(717,.ar false OB),(836,.ar false LR),(5,.st [Ac QS,.view 243 3 0 YS,.view 362 2 0 y27]),(243,.ar false ZT),(362,.ar false YG)]⟩
def Ek(Z:Nat)(Y:Ab)(X:Int)(W V:Nat)(U:Ab)(T S:Int)(Q P:Int)(O:Nat)(N:Int)(M L:Nat)(K J I:Ab)(H G E:Int)(D:Nat)(B:Int)(A z:Nat)(w v u:Ab):Option Dl:=Lu fu call 11 Tryz.f11 [.pbox [Ai 1 Z Y,X]] [.r,.r,.r] W ⟨lk [(0,.ptr 238000 0),(2,.ptr 2 0),(3,.ptr 3 0)],Bq [(238000,.st [Ai 1 V U,T]),(2,.st [S,Q,P,.view 478 3 0 O,N,.view 716 1 0 M,.view 835 1 0 L]),(478,.ar false K),(716,.ar false J),(835,.ar false I),(3,.st [H,G,E,.view 479 3 0 D,B,.view 717 1 0 A,.view 836 1 0 z]),(479,.ar false w),(717,.ar false v),(836,.ar false u)]⟩
theorem Ea(Y:Nat)(X:Ab)(W:Int)(t:Nat)(V:Int)(U:Nat)(T:Ab)(S Q:Int)(P O:Int)(N:Nat)(M:Int)(L K:Nat)(J I H:Ab)(G E D:Int)(Z:Nat)(B:Int)(A z:Nat)(w v u:Ab):F7 fu call Y X W (t+1) V U T S Q P O N M L K J I H G E D Z B A z w v u=(Bd (decide (V>0)) (Aa (wrap .i64 ((↑Z:Int)+1)) fun a=>Bk (call 15 [.pbox [Ai 1 U T,S],(2:Int)]) fun b c=>D1 .i64 b fun b=>Av c fun c e=>J9 1 c fun c f g=>D1 .i64 g fun g=>Aq e<|Aa (wrap .i64 (a+b)) fun a=>Aa (wrap .u64 a) fun a=>Bk (call 15 [.pbox [Ai 1 c f,g],(3:Int)]) fun b c=>D1 .i64 b fun b=>Av c fun c e=>J9 1 c fun c f g=>D1 .i64 g fun g=>Aq e<|Gb fu call Y X W t fu V b c f g Q P O N M L K J I H G E D Z B A z w v u a 0 0 ([]) ([])) (Lt fu call Y X W fu U T S Q P O N M L K J I H G E D Z B A z w v u)):=by kernel_rfl
theorem Kg(Z:Nat)(Y:Ab)(X:Int)(W nn:Nat)(V U:Int)(T:Nat)(S:Ab)(Q P:Int)(O N:Int)(M:Nat)(L:Int)(K J:Nat)(I H G:Ab)(E D B:Int)(A:Nat)(z:Int)(w v:Nat)(u t LR:Ab)(QS:Int)(YS y27:Nat)(ZT YG:Ab):Gb fu call Z Y X W (nn+1) V U T S Q P O N M L K J I H G E D B A z w v u t LR QS YS y27 ZT YG=(Bd (decide (U>0)) (Bk (call 15 [.pbox [Ai 1 T S,Q],(4:Int)]) fun a b=>D1 .i64 a fun a=>Av b fun b c=>J9 1 b fun b e f=>D1 .i64 f fun f=>Aq c<|Aa (wrap .u64 a) fun a=>Eb (call 30 [Ac a,(1:Int)]) fun a c=>D3 a fun a=>Di .i64 a fun a g=>D1 .u64 g fun g=>D1 .i64 c fun c=>Bk (call 15 [.pbox [Ai 1 b e,f],(2:Int)]) fun b c=>D1 .i64 b fun b=>Av c fun c e=>J9 1 c fun c f h=>D1 .i64 h fun h=>Aq e<|At (decide (0<=b)&&decide (b<2))<|Ez (List.getD [.sc (.string (ByteArray.mk #[114,111,111,116])),.sc (.string (ByteArray.mk #[111,116,104,101,114]))] (0+b.toNat*1) .top) fun b=>Ve YS 3 32 ZT [.sc (.string b),a,Ac g] fun a b=>Aa (wrap .i64 (U-1)) fun e=>Gb fu call Z Y X W nn V e c f h P O N M L K J I H G E D B A z w v u t LR QS a y27 b YG) (Bk (call 15 [.pbox [Ai 1 T S,Q],(4:Int)]) fun a b=>D1 .i64 a fun a=>Av b fun b c=>J9 1 b fun b e f=>D1 .i64 f fun f=>Aq c<|Gc fu call Z Y X W fu V a b e f P O N M L K J I H G E D B A z w v u t LR QS YS y27 ZT YG)):=by kernel_rfl
theorem Fn(Y:Nat)(X:Ab)(W:Int)(B:Nat)(Ld:0<B)(w:Nat)(v:Ab)(u V:Int)(U T:Int)(S:Nat)(Q:Int)(P O:Nat)(N M L:Ab)(A Z z:Int)(K:Nat)(J:Int)(I H:Nat)(G E D:Ab):Lt fu call Y X W B w v u V U T S Q P O N M L A Z z K J I H G E D=(Bk (call 15 [.pbox [Ai 1 w v,u],(12:Int)]) fun a b=>D1 .i64 a fun a=>Av b fun b c=>J9 1 b fun b e f=>D1 .i64 f fun f=>Aq c<|Bd (a==11) (Bk (call 15 [.pbox [Ai 1 b e,f],(3:Int)]) fun a b=>D1 .i64 a fun a=>Av b fun b c=>J9 1 b fun b e f=>D1 .i64 f fun f=>Aq c<|At (decide (0<=a)&&decide (a<3))<|A8 .i64 (List.getD [(0:Int),(17:Int),(-1:Int)] (0+a.toNat*1) .top) fun a=>Ek fu call Y X W fu b e f V U T S Q P O N M L a Z z K J I H G E D) (Bd (a==10) (Aa (wrap .i64 (Z-1)) fun a=>Ek fu call Y X W fu b e f V U T S Q P O N M L A Z a K J I H G E D) (Bd (a==9) (Bk (call 15 [.pbox [Ai 1 b e,f],(6:Int)]) fun a b=>D1 .i64 a fun a=>Av b fun b c=>J9 1 b fun b e f=>D1 .i64 f fun f=>Aq c<|Bk (call 15 [.pbox [Ai 1 b e,f],(2:Int)]) fun b c=>D1 .i64 b fun b=>Av c fun c e=>J9 1 c fun c f g=>D1 .i64 g fun g=>Aq e<|Aa (wrap .i64 (0-b)) fun b=>Ve K 3 56 G [Ac 1,Ai 3 0 [],Ai 2 1 [a,b]] fun a b=>Ek fu call Y X W fu c f g V U T S Q P O N M L A Z z a J I H b E D) (Ek fu call Y X W fu b e f V U T S Q P O N M L A Z z K J I H G E D)))):=by cases B with|zero=>exact absurd Ld (Nat.lt_irrefl 0)|succ B=>kernel_rfl
theorem Ka(V:Nat)(U:Ab)(T:Int)(S nn:Nat)(Q P:Int)(O:Nat)(N:Ab)(M L:Int)(K J:Int)(I:Nat)(H:Int)(G E:Nat)(D B A:Ab)(z w v:Int)(u:Nat)(t:Int)(UO UG:Nat)(TK OB LR:Ab)(QS:Int)(Y Z:Nat)(X W:Ab):Gc fu call V U T S (nn+1) Q P O N M L K J I H G E D B A z w v u t UO UG TK OB LR QS Y Z X W=(Bd (decide (P>0)) (Bk (call 15 [.pbox [Ai 1 O N,M],(4:Int)]) fun a b=>D1 .i64 a fun a=>Av b fun b c=>J9 1 b fun b e f=>D1 .i64 f fun f=>Aq c<|Aa (wrap .i64 (1+a)) fun a=>Aa (wrap .i64 (10*(↑Z:Int))) fun c=>Bk (call 15 [.pbox [Ai 1 b e,f],(12:Int)]) fun b e=>D1 .i64 b fun b=>Av e fun e f=>J9 1 e fun e g h=>D1 .i64 h fun h=>Aq f<|Aa (wrap .i64 (c+b)) fun b=>Ve Z 2 16 W [a,b] fun a b=>Aa (wrap .i64 (P-1)) fun c=>Gc fu call V U T S nn Q c e g h L K J I H G E D B A z w v u t UO UG TK OB LR QS Y a X b) (At (decide (0+Y*3<=X.length))<|At (decide (0+Z*2<=W.length))<|Ve u 3 56 TK [Ac QS,Ai 3 Y (List.take (Y*3) (X.drop 0)),Ai 2 Z (List.take (Z*2) (W.drop 0))] fun a b=>Aa (wrap .i64 (Q-1)) fun c=>F7 fu call V U T S c O N M L K J I H G E D B A z w v a t UO UG b OB LR)):=by kernel_rfl
theorem Fk(K:Nat)(J:Ab)(I:Int)(Z:Nat)(Ld:0<Z)(S:Nat)(Q:Ab)(P H:Int)(G E:Int)(D:Nat)(B:Int)(A z:Nat)(w v u:Ab)(O N M:Int)(Y:Nat)(L:Int)(X W:Nat)(V U T:Ab):Ek fu call K J I Z S Q P H G E D B A z w v u O N M Y L X W V U T=(At (decide (0+Y*3<=V.length))<|At (decide (0+X*1<=U.length))<|At (decide (0+W*1<=T.length))<|some ⟨[.agg [O,N,M,Ai 3 Y (List.take (Y*3) (V.drop 0)),L,Ai 1 X (List.take (X*1) (U.drop 0)),Ai 1 W (List.take (W*1) (T.drop 0))]],[[Ai 1 S Q,P]]⟩):=by cases Z with|zero=>exact absurd Ld (Nat.lt_irrefl 0)|succ Z=>kernel_rfl
theorem W5(Z:Nat)(Y:Ab)(X:Int):F1 C0 fu d 11 [.pbox [Ai 1 Z Y,X]] fun call=>Bk (call 15 [.pbox [Ai 1 Z Y,X],(16:Int)]) fun a b=>D1 .i64 a fun a=>Av b fun b c=>J9 1 b fun b e f=>D1 .i64 f fun f=>Aq c<|Aa (wrap .i64 (1+a)) fun a=>Bk (call 15 [.pbox [Ai 1 b e,f],(20:Int)]) fun b c=>D1 .i64 b fun b=>Av c fun c e=>J9 1 c fun c f g=>D1 .i64 g fun g=>Aq e<|Bk (call 15 [.pbox [Ai 1 c f,g],(100:Int)]) fun c e=>D1 .i64 c fun c=>Av e fun e f=>J9 1 e fun e g h=>D1 .i64 h fun h=>Aq f<|Aa (wrap .i64 (20+c)) fun c=>Bk (call 15 [.pbox [Ai 1 e g,h],(4:Int)]) fun e f=>D1 .i64 e fun e=>Av f fun f g=>J9 1 f fun f h i=>D1 .i64 i fun i=>Aq g<|F7 fu call Z Y X fu e f h i 0 0 0 0 0 0 0 ([]) ([]) ([]) a b c 0 0 0 0 ([]) ([]) ([]):=by show _=_;kernel_rfl
def Fz(Z Y X:Int)(W:Nat)(V:Ab)(U:Int)(T:Nat)(S:Ab)(Q:Nat)(P:Ab)(O:Nat)(N M:Int)(L K:Int)(J:Nat)(I:Ab)(H:Int)(G:Nat)(E:Ab)(D:Nat)(B:Ab):Option Dl:=Lu fu call 8 Tryz.f8 [.agg [Z,Y,X,Ai 3 W V,U,Ai 1 T S,Ai 1 Q P]] [.r,.r,.l,.r,.l] O ⟨lk [(1,.ptr 1 0),(3,N)],Bq [(1,.st [M,L,K,Ai 3 J I,H,Ai 1 G E,Ai 1 D B])]⟩
def F0(Z Y X:Int)(W:Nat)(V:Ab)(U:Int)(T:Nat)(S:Ab)(Q:Nat)(P:Ab)(O N:Nat)(M L:Int)(K J I:Int)(H:Nat)(G:Ab)(E:Int)(D:Nat)(B:Ab)(A:Nat)(z:Ab):Option Dl:=Lu fu call 8 Tryz.f8 [.agg [Z,Y,X,Ai 3 W V,U,Ai 1 T S,Ai 1 Q P]] [.r,.r,.l,.r,.l,.i O,.r,.l,.l,.r,.r,.l] N ⟨lk [(1,.ptr 1 0),(3,M),(4,L)],Bq [(1,.st [K,J,I,Ai 3 H G,E,Ai 1 D B,Ai 1 A z])]⟩
theorem Mr(W V U:Int)(T:Nat)(S:Ab)(Q:Int)(P:Nat)(O:Ab)(N:Nat)(M:Ab)(L:Nat)(Z K:Int)(J I:Int)(Y:Nat)(X:Ab)(H:Int)(G:Nat)(E:Ab)(D:Nat)(B:Ab):Fz fu call W V U T S Q P O N M (L+1) Z K J I Y X H G E D B=(Bd (decide (Z<(↑Y:Int))) (At (decide (0<=Z)&&decide (Z<(↑Y:Int)))<|M0 3 (X.getD (Z.toNat*3+1) .top) fun a b c=>Bd (decide ((↑b:Int)>8)) (Bv [.sc (.bool false)]) (At (decide (0<=Z)&&decide (Z<(↑Y:Int)))<|M0 2 (X.getD (Z.toNat*3+2) .top) fun a b c=>Bd (decide ((↑b:Int)>8)) (Bv [.sc (.bool false)]) (F0 fu call W V U T S Q P O N M L fu Z 0 K J I Y X H G E D B))) (Bv [.sc (.bool true)])):=by kernel_rfl
theorem My(V U T:Int)(S:Nat)(Q:Ab)(P:Int)(O:Nat)(N:Ab)(M:Nat)(L:Ab)(K z:Nat)(Z Y:Int)(J I H:Int)(X:Nat)(W:Ab)(G:Int)(E:Nat)(D:Ab)(B:Nat)(A:Ab):F0 fu call V U T S Q P O N M L K (z+1) Z Y J I H X W G E D B A=(At (decide (0<=Z)&&decide (Z<(↑X:Int)))<|M0 3 (W.getD (Z.toNat*3+1) .top) fun a b c=>Bd (decide (Y<(↑b:Int))) (At (decide (0<=Z)&&decide (Z<(↑X:Int)))<|M0 3 (W.getD (Z.toNat*3+1) .top) fun a b c=>At (decide (0<=Y)&&decide (Y<(↑b:Int)))<|Ez (c.getD (Y.toNat*3+0) .top) fun a=>Bd (decide ((↑(ByteArray.size a):Int)>60)) (Bv [.sc (.bool false)]) (Aa (wrap .i64 (Y+1)) fun a=>F0 fu call V U T S Q P O N M L K z Z a J I H X W G E D B A)) (Aa (wrap .i64 (Z+1)) fun a=>Fz fu call V U T S Q P O N M L K a J I H X W G E D B A)):=by kernel_rfl
theorem Zt(W V U:Int)(Z:Nat)(T:Ab)(S:Int)(Y:Nat)(Q:Ab)(X:Nat)(P:Ab):F1 C0 fu d 8 [.agg [W,V,U,Ai 3 Z T,S,Ai 1 Y Q,Ai 1 X P]] fun call=>Bd (decide ((↑Z:Int)>20)) (Bv [.sc (.bool false)]) (Bd (decide ((↑Y:Int)>40)) (Bv [.sc (.bool false)]) (Bd (decide ((↑X:Int)>10)) (Bv [.sc (.bool false)]) (Fz fu call W V U Z T S Y Q X P fu 0 W V U Z T S Y Q X P))):=by show _=_;kernel_rfl
theorem Zk :F1 C0 fu d 9 [] fun call=>Eb (call 16 [.agg [(2:Int),(1:Int),(9:Int),Ai 3 1 [Ac 4,Ai 3 0 [],Ai 2 2 [(1:Int),(0:Int),(4:Int),(50:Int)]],(0:Int),Ai 1 0 [],Ai 1 0 []],Ac 7,(2:Int)]) fun a b=>D3 a fun a=>Di .i64 a fun a c=>Di .i64 c fun c e=>Di .i64 e fun e f=>J9 3 f fun f g h=>Di .i64 h fun h i=>J9 1 i fun i j k=>J9 1 k fun k m n=>Aq n<|D1 .i64 b fun b=>Eb (call 25 [.agg [a,c,e,Ai 3 f g,h,Ai 1 i j,Ai 1 k m]]) fun n o=>Kn 1 n fun n p=>D1 .i64 o fun o=>Eb (call 17 [Ac 7,(2:Int)]) fun q s=>D3 q fun q=>Di .i64 q fun q t=>D1 .u64 t fun t=>Aq s<|At (decide (0+n*1<=p.length))<|Eb (call 27 [.agg [(1:Int),(0:Int),(0:Int),Ai 3 0 [],(0:Int),Ai 1 0 [],Ai 1 0 []],Ai 1 n (List.take (n*1) (p.drop 0)),.agg [q,Ac t],(5:Int)]) fun q s=>D3 q fun q=>Di .i64 q fun q t=>Di .i64 t fun t u=>Di .i64 u fun u v=>J9 3 v fun v w z=>Di .i64 z fun z A=>J9 1 A fun A B D=>J9 1 D fun D E G=>Aq G<|D1 .i64 s fun s=>Eb (call 17 [Ac 7,(2:Int)]) fun G H=>D3 G fun G=>Di .i64 G fun G I=>D1 .u64 I fun I=>Aq H<|At (decide (0+n*1<=p.length))<|Eb (call 27 [.agg [a,c,e,Ai 3 f g,h,Ai 1 i j,Ai 1 k m],Ai 1 n (List.take (n*1) (p.drop 0)),.agg [G,Ac I],(5:Int)]) fun n p=>D3 n fun n=>Di .i64 n fun n G=>Di .i64 G fun n G=>Di .i64 G fun n G=>J9 3 G fun n G H=>Di .i64 H fun n G=>J9 1 G fun n G H=>J9 1 H fun n G H=>Aq H<|D1 .i64 p fun n=>Bd (b==0) (Bd (o==0) (Bd (s==0) (Bd (n==7) (Bd (h==1) (Eb (call 18 [.agg [a,c,e,Ai 3 f g,h,Ai 1 i j,Ai 1 k m],.agg [q,t,u,Ai 3 v w,z,Ai 1 A B,Ai 1 D E]]) fun a b=>Co a fun a=>Aq b<|Bd a (J1 .i64 (call 29 [.agg [q,t,u,Ai 3 v w,z,Ai 1 A B,Ai 1 D E],Ac 4,(49:Int)]) fun a=>Bd (a==1) (J1 .i64 (call 29 [.agg [q,t,u,Ai 3 v w,z,Ai 1 A B,Ai 1 D E],Ac 4,(50:Int)]) fun a=>Bv [.sc (.bool (a==4))]) (Bv [.sc (.bool false)])) (Bv [.sc (.bool false)])) (Bv [.sc (.bool false)])) (Bv [.sc (.bool false)])) (Bv [.sc (.bool false)])) (Bv [.sc (.bool false)])) (Bv [.sc (.bool false)]):=by show _=_;kernel_rfl
end
structure Me.few(x:Me):Prop where
 model:Ui x.model
 rts:x.rts
 ans:x.ans.length<=2
 sts:x.sts.length<=3
 nam:∀a∈x.ans,a.name.size<=60
structure Md.plain(m:Md):Prop where
 ent:∀x∈m.ents,x.few
 len:m.ents.length<=4
 sg:m.sig=sg0
abbrev rtN:ByteArray:=⟨#[(114:UInt8),(111:UInt8),(111:UInt8),(116:UInt8)]⟩
abbrev otN:ByteArray:=⟨#[(111:UInt8),(116:UInt8),(104:UInt8),(101:UInt8),(114:UInt8)]⟩
theorem Aoq{v:Int}(h0:0<=v)(h1:v<2):∃s:ByteArray,s.size<=60/\List.getD [PV.sc (Value.string rtN),PV.sc (Value.string otN)] (0+Int.toNat v*1) PV.top=.sc (.string s):=by
 have:v=0\/v=1:=by omega
 rcases this with rfl|rfl
 ·exact⟨rtN,by decide,rfl⟩
 ·exact⟨otN,by decide,rfl⟩
section
variable {fu d:Nat}{l:Cg}
theorem Arm(a:List An)(x:An):C3 a++[.sc (.string x.name),Ao x.key.h,Ac x.key.root]=C3 (a++[x]):=by unfold C3;rw[List.flatMap_append,J7,List.flatMap_nil,List.append_nil];rfl
theorem Ar3(a:List Sa)(x:Sa):Dg a++[Ao x.kd,Ao x.at_]=Dg (a++[x]):=by unfold Dg;rw[List.flatMap_append,J7,List.flatMap_nil,List.append_nil];rfl
abbrev JE(fu d:Nat)(l:Cg)(Cj:Int)(nn:Nat)(v:Int)(i:Nat)(ver iss nxt:Int)(n:Nat)(c:Ab):Option Dl:=
 F7 fu (Ap C0 prog fu (d+13)) l.length (Ad .i64 l) Cj nn v l.length (Ad .i64 l) (i:Int) 0 0 0 0 0 0 0 [] [] [] ver iss nxt n 0 0 0 c [] []
theorem Awu(hl:l.length<=maxLen){Cj:Int}{m0:Nat}{v0 ver iss nxt mo:Int}{en:Nat}{E:List Me}(hE:E.length<=100){A:List An}(hA:A.length<=100):∀(k nn:Nat)(v:Int)(i:Nat)(S:List Sa),v<=k->k<nn->S.length+k<=100 ->
  ∃(S':List Sa) (i':Nat),S'.length<=S.length+k /\
  Gc fu (Ap C0 prog fu (d+13)) l.length (Ad .i64 l) Cj m0 nn v0 v l.length (Ad .i64 l) (i:Int) 0 0 0 0 0 0 0 [] [] [] ver iss nxt E.length 0 0 0 (B0 E) [] [] mo A.length S.length (C3 A) (Dg S) =
   JE fu d l Cj m0 (wrap .i64 (v0-1)) i' ver iss nxt (E++[Me.mk mo A S']).length (B0 (E++[Me.mk mo A S']))
 |_,0,_,_,_,_,h,_=>by omega
 |k,nn+1,v,i,S,hv,hn,hS=>by
  have LA:=R1 A;have LS:=BK S;have LE:=Oz E;have tA:List.take (A.length*3) (C3 A)=C3 A:=I9 (by omega);have tS:List.take (S.length*2) (Dg S)=Dg S:=I9 (by omega);have tE:List.take (E.length*3) (B0 E)=B0 E:=I9 (by omega);by_cases h0:v>0
  rotate_left
  ·refine⟨S,i,by omega,?_⟩;rw[Ka];have ea:=BD E (Me.mk mo A S);simp only at ea;have el:(E++[Me.mk mo A S]).length=E.length+1:=by rw[G8];rfl
   rw[el];generalize B0 (E++[_])=E' at *
   repeat(with_reducible(first|apply Al|apply Af|apply Ak|apply Bb|apply A7|apply Ay|apply Ag|apply Aj|apply Do);· first|constructor|(simp(disch:=omega)only[Dp,LA,LS,LE,tA,tS,tE,ea,Cu,Fi]<;>first|constructor|omega)|omega)
   try simp(disch:=omega)only[Aa,LA,LS,LE,tA,tS,tE,ea,Cu,Fi]
   all_goals rfl
  ·obtain⟨k',rfl⟩:∃k',k=k'+1:=⟨k-1,by omega⟩
   obtain⟨u0,j0,u00,u01,n0⟩:=H7 hl i 4 (by omega) (by omega);obtain⟨u1,j1,u10,u11,n1⟩:=H7 hl j0 12 (by omega) (by omega);have n0:=n0 (fu:=fu) (d:=d+11);have n1:=n1 (fu:=fu) (d:=d+11);simp only[YW] at n0 n1;have wd:wrap .i64 (v-1)=v-1:=Ah (by omega) (by omega);obtain⟨S',i',h1,h2⟩:=Awu hl (Cj:=Cj) (m0:=m0) (v0:=v0) (ver:=ver) (iss:=iss) (nxt:=nxt) (mo:=mo) (en:=en) hE hA k' nn (v-1) j1 (S++[⟨wrap .i64 (1+u0),wrap .i64 (wrap .i64 (10*(S.length:Int))+u1)⟩]) (by omega) (by omega) (by rw[G8,List.length_singleton];omega)
   refine⟨S',i',by rw[G8,List.length_singleton] at h1;omega,?_⟩
   rw[<-h2,Ka];have ea:=Ar3 S ⟨wrap .i64 (1+u0),wrap .i64 (wrap .i64 (10*(S.length:Int))+u1)⟩;simp only at ea;have el:(S++[Sa.mk (wrap .i64 (1+u0)) (wrap .i64 (wrap .i64 (10*(S.length:Int))+u1))]).length=S.length+1:=by rw[G8];rfl
   rw[el];clear h2;generalize Dg (S++[_])=S2 at *
   repeat(with_reducible(first|apply Al|apply Af|apply Ak|apply Bb|apply A7|apply Ay|apply Ag|apply Aj|apply Do);· first|constructor|(simp(disch:=omega)only[Dp,n0,n1,LS,tS,ea,wd]<;>first|constructor|omega)|omega)
   try simp(disch:=omega)only[Aa,n0,n1,LS,tS,ea,wd]
   all_goals rfl
theorem Awb(Bo:2000<=fu)(hl:l.length<=maxLen){Cj:Int}{m0:Nat}{v0 ver iss nxt mo:Int}(hmo:Ui mo){E:List Me}(hE:E.length<=100):∀(k nn:Nat)(v:Int)(i:Nat)(A:List An),v<=k->k<nn->A.length+k<=2->(∀a∈A,Ui a.key.root/\a.name.size<=60) ->
  ∃(x:Me) (i':Nat),x.few /\
  Gb fu (Ap C0 prog fu (d+13)) l.length (Ad .i64 l) Cj m0 nn v0 v l.length (Ad .i64 l) (i:Int) 0 0 0 0 0 0 0 [] [] [] ver iss nxt E.length 0 0 0 (B0 E) [] [] mo A.length 0 (C3 A) [] =
   JE fu d l Cj m0 (wrap .i64 (v0-1)) i' ver iss nxt (E++[x]).length (B0 (E++[x]))
 |_,0,_,_,_,_,h,_,_=>by omega
 |k,nn+1,v,i,A,hv,hn,hA,hk=>by
  have LA:=R1 A;have tA:List.take (A.length*3) (C3 A)=C3 A:=I9 (by omega);by_cases h0:v>0
  rotate_left
  ·obtain⟨u0,j0,u00,u01,n0⟩:=H7 hl i 4 (by omega) (by omega);have n0:=n0 (fu:=fu) (d:=d+11);simp only[YW] at n0;obtain⟨S',i',h1,h2⟩:=Awu (fu:=fu) (d:=d) hl (Cj:=Cj) (m0:=m0) (v0:=v0) (ver:=ver) (iss:=iss) (nxt:=nxt) (mo:=mo) (en:=0) hE (A:=A) (by omega) 3 fu u0 j0 [] (by omega) (by omega) (by simp);refine⟨⟨mo,A,S'⟩,i',⟨hmo,fun a ha=>(hk a ha).1,by simp only;omega,by simp only[Vl] at h1 ⊢;omega,fun a ha=>(hk a ha).2⟩,?_⟩
   rw[<-h2,Kg];clear h2
   repeat(with_reducible(first|apply Al|apply Af|apply Ak|apply Bb|apply A7|apply Ay|apply Ag|apply Aj|apply Do);· first|constructor|(simp(disch:=omega)only[Dp,n0]<;>first|constructor|omega)|omega)
   try simp(disch:=omega)only[Aa,n0]
   all_goals rfl
  ·obtain⟨k',rfl⟩:∃k',k=k'+1:=⟨k-1,by omega⟩
   obtain⟨u0,j0,u00,u01,n0⟩:=H7 hl i 4 (by omega) (by omega);obtain⟨u1,j1,u10,u11,n1⟩:=H7 hl j0 2 (by omega) (by omega);have n0:=n0 (fu:=fu) (d:=d+11);have n1:=n1 (fu:=fu) (d:=d+11);simp only[YW] at n0 n1;have pk:=OV (fu:=fu) (d:=d+1) (by omega) (wrap .u64 u0) 1;have kr:=Akj (wrap .u64 u0) 1;obtain⟨s1,z1,g1⟩:=Aoq u10 u11;have c1:(decide ((0:Int)<=u1)&&decide (u1<2))=true:=by simp;omega
   simp only[Ky.cells] at pk;generalize Xd (wrap .u64 u0) 1=K at *
   generalize (if D6 1=true then (9:Int) else 0)=er at *
   have wd:wrap .i64 (v-1)=v-1:=Ah (by omega) (by omega);obtain⟨x,i',h1,h2⟩:=Awb Bo hl (Cj:=Cj) (m0:=m0) (v0:=v0) (ver:=ver) (iss:=iss) (nxt:=nxt) hmo hE k' nn (v-1) j1 (A++[⟨s1,K⟩]) (by omega) (by omega) (by rw[G8,List.length_singleton];omega) (fun a ha=>(Bu.1 ha).elim (hk a) fun h=>by rw[Lo.1 h];exact⟨kr,z1⟩)
   refine⟨x,i',h1,?_⟩;rw[<-h2,Kg];have ea:=Arm A ⟨s1,K⟩;simp only at ea;have el:(A++[An.mk s1 K]).length=A.length+1:=by rw[G8];rfl
   rw[el];clear h2;generalize C3 (A++[_])=A2 at *
   repeat(with_reducible(first|apply Al|apply Af|apply Ak|apply Bb|apply A7|apply Ay|apply Ag|apply Aj|apply Do);· first|constructor|(simp(disch:=omega)only[Dp,n0,n1,pk,g1,c1,LA,tA,ea,wd]<;>first|constructor|omega)|omega)
   try simp(disch:=omega)only[Aa,n0,n1,pk,g1,c1,LA,tA,ea,wd]
   all_goals rfl
theorem Agi(s:Sa)(E:List Me):B0 E++[Ac 1,.lst false 3 0 [],.lst false 2 1 [Ao s.kd,Ao s.at_]]=B0 (E++[Me.mk 1 [] [s]]):=BD E (Me.mk 1 [] [s])
theorem Aw2(Bo:2000<=fu)(hl:l.length<=maxLen){Cj:Int}{ver iss nxt:Int}:∀(k nn:Nat)(v:Int)(i:Nat)(E:List Me),v<=k->k<nn->E.length+k<=3->(∀x∈E,x.few) ->
  ∃(m:Md) (j:Nat),m.plain/\JE fu d l Cj nn v i ver iss nxt E.length (B0 E)=some ⟨[.agg m.cells],[YW l j]⟩
 |_,0,_,_,_,_,h,_,_=>by omega
 |k,nn+1,v,i,E,hv,hn,hE,hk=>by
  have LE:=Oz E;have tE:List.take (E.length*3) (B0 E)=B0 E:=I9 (by omega);by_cases h0:v>0
  ·obtain⟨k',rfl⟩:∃k',k=k'+1:=⟨k-1,by omega⟩
   obtain⟨u0,j0,u00,u01,n0⟩:=H7 hl i 2 (by omega) (by omega);obtain⟨u1,j1,u10,u11,n1⟩:=H7 hl j0 3 (by omega) (by omega);have n0:=n0 (fu:=fu) (d:=d+11);have n1:=n1 (fu:=fu) (d:=d+11);simp only[YW] at n0 n1;have wd:wrap .i64 (v-1)=v-1:=Ah (by omega) (by omega);obtain⟨x,i',h1,h2⟩:=Awb (fu:=fu) (d:=d) Bo hl (Cj:=Cj) (m0:=nn) (v0:=v) (ver:=ver) (iss:=iss) (nxt:=nxt) (mo:=wrap .u64 (wrap .i64 (wrap .i64 ((E.length:Int)+1)+u0))) (Kh _) (E:=E) (by omega) 2 fu u1 j1 [] (by omega) (by omega) (by simp) (fun a ha=>by cases ha);obtain⟨m,j,m1,m2⟩:=Aw2 Bo hl (Cj:=Cj) (ver:=ver) (iss:=iss) (nxt:=nxt) k' nn (v-1) i' (E++[x]) (by omega) (by omega) (by rw[G8,List.length_singleton];omega) (fun y hy=>(Bu.1 hy).elim (hk y) fun h=>by rw[Lo.1 h];exact h1)
   refine⟨m,j,m1,?_⟩;rw[<-m2];rw[wd] at h2;rw[<-h2];unfold JE;rw[Ea];clear h2 m2
   repeat(with_reducible(first|apply Al|apply Af|apply Ak|apply Bb|apply A7|apply Ay|apply Ag|apply Aj|apply Do);· first|constructor|(simp(disch:=omega)only[Dp,n0,n1]<;>first|constructor|omega)|omega)
   try simp(disch:=omega)only[Aa,n0,n1]
   all_goals rfl
  ·obtain⟨vs,j0,vs0,vs1,n0⟩:=H7 hl i 12 (by omega) (by omega);have n0:=n0 (fu:=fu) (d:=d+11);have h4:vs=11\/vs=10\/vs=9\/(vs≠11/\vs≠10/\vs≠9):=by omega
   unfold JE;rcases h4 with rfl|rfl|rfl|⟨m1,m2,m3⟩
   ·obtain⟨u1,j1,u10,u11,n1⟩:=H7 hl j0 3 (by omega) (by omega);have n1:=n1 (fu:=fu) (d:=d+11);simp only[YW] at n0 n1;have c1:(decide ((0:Int)<=u1)&&decide (u1<3))=true:=by simp;omega
    obtain⟨w,g1⟩:∃w:Int,List.getD [PV.sc (Value.int IntKind.i64 (0:Int)),PV.sc (Value.int IntKind.i64 (17:Int)),PV.sc (Value.int IntKind.i64 (-1:Int))] ((0:Nat)+Int.toNat u1*(1:Nat)) PV.top=Ao w:=by
     have:u1=0\/u1=1\/u1=2:=by omega
     rcases this with rfl|rfl|rfl
     ·exact⟨_,rfl⟩
     ·exact⟨_,rfl⟩
     ·exact⟨_,rfl⟩
    rw[Cu] at g1;refine⟨⟨w,iss,nxt,E,sg0⟩,j1,⟨hk,by simp only;omega,rfl⟩,?_⟩
    rw[Ea,D0 _ _ _ h0,Fn (Ld:=by omega)]
    repeat(with_reducible(first|apply Al|apply Af|apply Ak|apply Bb|apply A7|apply Ay|apply Ag|apply Aj|apply Do);· first|constructor|(simp(disch:=omega)only[Dp,n0,n1,c1,g1,LE,tE,Cu,Fi,Int.reduceBEq]<;>first|constructor|omega)|omega)
    try simp(disch:=omega)only[Aa,n0,n1,c1,g1,LE,tE,Cu,Fi,Int.reduceBEq]
    rw[Fk (Ld:=by omega)]
    repeat(with_reducible(first|apply Al|apply Af|apply Ak|apply Bb|apply A7|apply Ay|apply Ag|apply Aj|apply Do);· first|constructor|(simp(disch:=omega)only[Dp,n0,n1,c1,g1,LE,tE,Cu,Fi,Int.reduceBEq]<;>first|constructor|omega)|omega)
    try simp(disch:=omega)only[Aa,n0,n1,c1,g1,LE,tE,Cu,Fi,Int.reduceBEq]
    all_goals rfl
   ·simp only[YW] at n0;refine⟨⟨ver,iss,wrap .i64 (iss-1),E,sg0⟩,j0,⟨hk,by simp only;omega,rfl⟩,?_⟩
    rw[Ea,D0 _ _ _ h0,Fn (Ld:=by omega)]
    repeat(with_reducible(first|apply Al|apply Af|apply Ak|apply Bb|apply A7|apply Ay|apply Ag|apply Aj|apply Do);· first|constructor|(simp(disch:=omega)only[Dp,n0,LE,tE,Cu,Fi,Int.reduceBEq]<;>first|constructor|omega)|omega)
    try simp(disch:=omega)only[Aa,n0,LE,tE,Cu,Fi,Int.reduceBEq]
    rw[Fk (Ld:=by omega)]
    repeat(with_reducible(first|apply Al|apply Af|apply Ak|apply Bb|apply A7|apply Ay|apply Ag|apply Aj|apply Do);· first|constructor|(simp(disch:=omega)only[Dp,n0,LE,tE,Cu,Fi,Int.reduceBEq]<;>first|constructor|omega)|omega)
    try simp(disch:=omega)only[Aa,n0,LE,tE,Cu,Fi,Int.reduceBEq]
    all_goals rfl
   ·obtain⟨u1,j1,u10,u11,n1⟩:=H7 hl j0 6 (by omega) (by omega);obtain⟨u2,j2,u20,u21,n2⟩:=H7 hl j1 2 (by omega) (by omega);have n1:=n1 (fu:=fu) (d:=d+11);have n2:=n2 (fu:=fu) (d:=d+11);simp only[YW] at n0 n1 n2;refine⟨⟨ver,iss,nxt,E++[⟨1,[],[⟨u1,wrap .i64 (0-u2)⟩]⟩],sg0⟩,j2,⟨fun y hy=>(Bu.1 hy).elim (hk y) fun h=>by rw[Lo.1 h];exact⟨(show Ui 1 from ⟨by decide,by decide⟩),fun a ha=>(by cases ha),Nat.zero_le _,(show (1:Nat)<=3 by omega),fun a ha=>(by cases ha)⟩,by simp only[G8,List.length_singleton];omega,rfl⟩,?_⟩
    rw[Ea,D0 _ _ _ h0,Fn (Ld:=by omega)];have ea:=Agi ⟨u1,wrap .i64 (0-u2)⟩ E;have LE2:=Oz (E++[⟨1,[],[⟨u1,wrap .i64 (0-u2)⟩]⟩]);have el:(E++[Me.mk 1 [] [⟨u1,wrap .i64 (0-u2)⟩]]).length=E.length+1:=by rw[G8];rfl
    simp only[Md.cells];rw[el] at LE2 ⊢;have tE2:List.take ((E.length+1)*3) (B0 (E++[⟨1,[],[⟨u1,wrap .i64 (0-u2)⟩]⟩]))=B0 (E++[⟨1,[],[⟨u1,wrap .i64 (0-u2)⟩]⟩]):=I9 (by omega);simp only at ea;generalize B0 (E++[_])=E' at *
    repeat(with_reducible(first|apply Al|apply Af|apply Ak|apply Bb|apply A7|apply Ay|apply Ag|apply Aj|apply Do);· first|constructor|(simp(disch:=omega)only[Dp,n0,n1,n2,LE,tE,ea,LE2,tE2,Cu,Fi,Int.reduceBEq]<;>first|constructor|omega)|omega)
    try simp(disch:=omega)only[Aa,n0,n1,n2,LE,tE,ea,LE2,tE2,Cu,Fi,Int.reduceBEq]
    rw[Fk (Ld:=by omega)]
    repeat(with_reducible(first|apply Al|apply Af|apply Ak|apply Bb|apply A7|apply Ay|apply Ag|apply Aj|apply Do);· first|constructor|(simp(disch:=omega)only[Dp,n0,n1,n2,LE,tE,ea,LE2,tE2,Cu,Fi,Int.reduceBEq]<;>first|constructor|omega)|omega)
    try simp(disch:=omega)only[Aa,n0,n1,n2,LE,tE,ea,LE2,tE2,Cu,Fi,Int.reduceBEq]
    all_goals rfl
   ·have f1:(vs==11)=false:=by rw[beq_eq_false_iff_ne];exact m1
    have f2:(vs==10)=false:=by rw[beq_eq_false_iff_ne];exact m2
    have f3:(vs==9)=false:=by rw[beq_eq_false_iff_ne];exact m3
    simp only[YW] at n0;refine⟨⟨ver,iss,nxt,E,sg0⟩,j0,⟨hk,by simp only;omega,rfl⟩,?_⟩
    rw[Ea,D0 _ _ _ h0,Fn (Ld:=by omega)]
    repeat(with_reducible(first|apply Al|apply Af|apply Ak|apply Bb|apply A7|apply Ay|apply Ag|apply Aj|apply Do);· first|constructor|(simp(disch:=omega)only[Dp,n0,LE,tE,f1,f2,f3,Cu,Fi]<;>first|constructor|omega)|omega)
    try simp(disch:=omega)only[Aa,n0,LE,tE,f1,f2,f3,Cu,Fi]
    rw[Fk (Ld:=by omega)]
    repeat(with_reducible(first|apply Al|apply Af|apply Ak|apply Bb|apply A7|apply Ay|apply Ag|apply Aj|apply Do);· first|constructor|(simp(disch:=omega)only[Dp,n0,LE,tE,f1,f2,f3,Cu,Fi]<;>first|constructor|omega)|omega)
    try simp(disch:=omega)only[Aa,n0,LE,tE,f1,f2,f3,Cu,Fi]
    all_goals rfl
theorem An9(Bo:2000<=fu)(hl:l.length<=maxLen)(i:Nat):∃(m:Md)(j:Nat),m.plain /\
  Ap C0 prog fu (d+14) 11 [.pbox (YW l i)]=some ⟨[.agg m.cells],[YW l j]⟩:=by
 obtain⟨v0,j0,v00,v01,n0⟩:=H7 hl i 16 (by omega) (by omega);obtain⟨v1,j1,v10,v11,n1⟩:=H7 hl j0 20 (by omega) (by omega);obtain⟨v2,j2,v20,v21,n2⟩:=H7 hl j1 100 (by omega) (by omega);obtain⟨v3,j3,v30,v31,n3⟩:=H7 hl j2 4 (by omega) (by omega);have n0:=n0 (fu:=fu) (d:=d+11);have n1:=n1 (fu:=fu) (d:=d+11);have n2:=n2 (fu:=fu) (d:=d+11);have n3:=n3 (fu:=fu) (d:=d+11);simp only[YW] at n0 n1 n2 n3;obtain⟨m,j,m1,m2⟩:=Aw2 (fu:=fu) (d:=d) Bo hl (Cj:=(i:Int)) (ver:=wrap .i64 (1+v0)) (iss:=v1) (nxt:=wrap .i64 (20+v2)) 3 fu v3 j3 [] (by omega) (by omega) (by simp) (fun y hy=>by cases hy);refine⟨m,j,m1,(W5 fu (d+13) l.length (Ad .i64 l) i).trans ?_⟩;rw[<-m2];unfold JE;clear m2
 repeat(with_reducible(first|apply Al|apply Af|apply Ak|apply Bb|apply A7|apply Ay|apply Ag|apply Aj|apply Do);· first|constructor|(simp(disch:=omega)only[Dp,n0,n1,n2,n3]<;>first|constructor|omega)|omega)
 try simp(disch:=omega)only[Aa,n0,n1,n2,n3]
 all_goals rfl
end
section
variable {fu d:Nat}
theorem Aej{call:Bi}{Ta a1n:Nat}{a0 a1:Ab}{l:Cg}(hl:l.length<=1000):∀(k i nn:Nat),i+k=l.length->k<nn ->
  F8 fu call Ta a0 a1n a1 nn l.length (Ad .u64 l) l.length (Ad .u64 l) i=some ⟨[.sc (.bool true)],[]⟩
 |_,_,0,_,h=>by omega
 |0,i,nn+1,hi,hn=>by
  have e:i=l.length:=by omega
  subst e;rw[Ke];simp(disch:=omega)only[B4,B3]
 |k+1,i,nn+1,hi,hn=>by
  have ih:=Aej (call:=call) (Ta:=Ta) (a1n:=a1n) (a0:=a0) (a1:=a1) hl k (i+1) nn (by omega) (by omega);obtain⟨x,hx⟩:∃x,l[i]?=some x:=⟨_,List.getElem?_eq_getElem (by omega)⟩
  have w:wrap .i64 ((i:Int)+1)=((i+1:Nat):Int):=by rw[Ah (by omega) (by omega)];omega
  have q:(x != x)=false:=bne_self_eq_false x;rw[Ke];simp(disch:=omega)only[B4,B3,Ij,Ec,Cu,Z5 hx,q,w];exact ih
theorem Aoo(Bo:2000<=fu){l:Cg}(hl:l.length<=1000):Ap C0 prog fu (d+1) 74 [.lst false 1 l.length (Ad .u64 l),.lst false 1 l.length (Ad .u64 l)]=some ⟨[.sc (.bool true)],[]⟩:=by refine (Vt fu d l.length (Ad .u64 l) l.length (Ad .u64 l)).trans ?_;have q:=Aej (fu:=fu) (call:=Ap C0 prog fu d) (Ta:=l.length) (a1n:=l.length) (a0:=Ad .u64 l) (a1:=Ad .u64 l) hl l.length 0 fu (by omega) (by omega);have b:((l.length:Int) != (l.length:Int))=false:=bne_self_eq_false _;simp only[B4,B3,b];exact q
theorem Axw(Bo:2000<=fu){s:Sg}(h1:s.chains.length<=1000)(h2:s.path.length<=1000):Ap C0 prog fu (d+2) 39 [.agg s.cells,.agg s.cells]=some ⟨[.sc (.bool true)],[]⟩:=by
 refine (Rj fu (d+1) s.leaf s.chains.length (Ad .u64 s.chains) s.path.length (Ad .u64 s.path) s.leaf s.chains.length (Ad .u64 s.chains) s.path.length (Ad .u64 s.path)).trans ?_;have w1:=Aoo (fu:=fu) (d:=d) Bo h1;have w2:=Aoo (fu:=fu) (d:=d) Bo h2;have q1:(s.leaf==s.leaf)=true:=beq_self_eq_true _
 repeat(with_reducible(first|apply Al|apply Af|apply Ak|apply As|apply Bb|apply A7|apply Ag|apply Aj|apply Do);· first|constructor|(simp(disch:=omega)only[Dp,q1,w1,w2]<;>first|constructor|omega)|omega)
 try simp(disch:=omega)only[Aa,q1,w1,w2]
 all_goals rfl
theorem Anv{call:Bi}{Dc CA:Int}{G7 G5 DF DM:Nat}{Cj Ef CH HF:Ab}{x:Me}(hl:x.sts.length<=1000):∀(k i nn:Nat),i+k=x.sts.length->k<nn ->
  Fu fu call Dc G7 Cj G5 Ef CA DF CH DM HF nn (i:Int) x.model x.ans.length (C3 x.ans) x.sts.length (Dg x.sts) x.model x.ans.length (C3 x.ans) x.sts.length (Dg x.sts)=some ⟨[.sc (.bool true)],[]⟩
 |_,_,0,_,h=>by omega
 |0,i,nn+1,hi,hn=>by
  have e:i=x.sts.length:=by omega
  subst e;rw[Ju];simp(disch:=omega)only[B4,B3]
 |k+1,i,nn+1,hi,hn=>by
  have ih:=Anv (call:=call) (Dc:=Dc) (CA:=CA) (G7:=G7) (G5:=G5) (DF:=DF) (DM:=DM) (Cj:=Cj) (Ef:=Ef) (CH:=CH) (HF:=HF) hl k (i+1) nn (by omega) (by omega);obtain⟨s,hx⟩:∃s,x.sts[i]?=some s:=⟨_,List.getElem?_eq_getElem (by omega)⟩
  obtain⟨g0,g1⟩:=saa hx;have w:wrap .i64 ((i:Int)+1)=((i+1:Nat):Int):=by rw[Ah (by omega) (by omega)];omega
  have q:∀x:Int,(x==x)=true:=fun x=>beq_self_eq_true x;rw[Ju,<-ih];simp(disch:=omega)only[B4,B3,Ij,g0,g1,q,w,Bool.and_true,Dx]
theorem Aou{call:Bi}{Dc CA:Int}{G7 G5 DF DM:Nat}{Cj Ef CH HF:Ab}{x:Me}(Bo:2000<=fu)(hl:x.sts.length<=1000)(NC:x.ans.length<=1000):∀(k i nn:Nat),i+k=x.ans.length->k<nn ->
  Fv fu call Dc G7 Cj G5 Ef CA DF CH DM HF nn (i:Int) x.model x.ans.length (C3 x.ans) x.sts.length (Dg x.sts) x.model x.ans.length (C3 x.ans) x.sts.length (Dg x.sts)=some ⟨[.sc (.bool true)],[]⟩
 |_,_,0,_,h=>by omega
 |0,i,nn+1,hi,hn=>by
  have e:i=x.ans.length:=by omega
  subst e;have l1:=Anv (fu:=fu) (call:=call) (Dc:=Dc) (CA:=CA) (G7:=G7) (G5:=G5) (DF:=DF) (DM:=DM) (Cj:=Cj) (Ef:=Ef) (CH:=CH) (HF:=HF) hl x.sts.length 0 fu (by omega) (by omega);rw[J5,<-l1];simp(disch:=omega)only[B4,B3];rfl
 |k+1,i,nn+1,hi,hn=>by
  have ih:=Aou (call:=call) (Dc:=Dc) (CA:=CA) (G7:=G7) (G5:=G5) (DF:=DF) (DM:=DM) (Cj:=Cj) (Ef:=Ef) (CH:=CH) (HF:=HF) Bo hl NC k (i+1) nn (by omega) (by omega);obtain⟨s,hx⟩:∃s,x.ans[i]?=some s:=⟨_,List.getElem?_eq_getElem (by omega)⟩
  obtain⟨g0,g1,g2⟩:=ana hx;have g2':(C3 x.ans).getD (i*3+1+1) .top=Ac s.key.root:=g2;have w:wrap .i64 ((i:Int)+1)=((i+1:Nat):Int):=by rw[Ah (by omega) (by omega)];omega
  have q:∀x:Int,(x==x)=true:=fun x=>beq_self_eq_true x
  have qs:∀x:ByteArray,(x==x)=true:=fun x=>by
   rcases x with⟨x⟩;show (x==x)=true;exact beq_self_eq_true x
  rw[J5,<-ih];simp(disch:=omega)only[B4,B3,Ij,g0,g1,g2',q,qs,w,Bool.and_true,Dx]
theorem Ay7(Bo:2000<=fu){x:Me}(hl:x.sts.length<=1000)(NC:x.ans.length<=1000):Ap C0 prog fu (d+1) 73 [.agg x.cells,.agg x.cells]=some ⟨[.sc (.bool true)],[]⟩:=by refine (U9 fu d x.model x.ans.length (C3 x.ans) x.sts.length (Dg x.sts) x.model x.ans.length (C3 x.ans) x.sts.length (Dg x.sts)).trans ?_;have l0:=Aou (fu:=fu) (call:=Ap C0 prog fu d) (Dc:=x.model) (CA:=x.model) (G7:=x.ans.length) (G5:=x.sts.length) (DF:=x.ans.length) (DM:=x.sts.length) (Cj:=C3 x.ans) (Ef:=Dg x.sts) (CH:=C3 x.ans) (HF:=Dg x.sts) Bo hl NC x.ans.length 0 fu (by omega) (by omega);have b:∀x:Int,(x != x)=false:=fun x=>bne_self_eq_false _;simp only[B4,B3,b];exact l0
def Md.shrt(m:Md):Prop:=m.ents.length<=1000/\∀x∈m.ents,x.sts.length<=1000/\x.ans.length<=1000
theorem Apx{Ta a1n:Nat}{a0 a1:Ab}{l:List Me}(Bo:2000<=fu)(hl:l.length<=1000)(hx:∀x∈l,x.sts.length<=1000/\x.ans.length<=1000):∀(k i nn:Nat),i+k=l.length->k<nn ->
  Fd fu (Ap C0 prog fu (d+1)) Ta a0 a1n a1 nn l.length (B0 l) l.length (B0 l) (i:Int)=some ⟨[.sc (.bool true)],[]⟩
 |_,_,0,_,h=>by omega
 |0,i,nn+1,hi,hn=>by
  have e:i=l.length:=by omega
  subst e;rw[Iz];simp(disch:=omega)only[B4,B3]
 |k+1,i,nn+1,hi,hn=>by
  have ih:=Apx (Ta:=Ta) (a1n:=a1n) (a0:=a0) (a1:=a1) Bo hl hx k (i+1) nn (by omega) (by omega);have hil:i<l.length:=by omega
  have hs:=List.getElem?_eq_getElem hil;have hm:=hx _ (List.getElem_mem hil);generalize l[i]=s at hs hm;obtain⟨g0,g1,g2⟩:=mea hs;have g2':(B0 l).getD (i*3+1+1) .top=.lst false 2 s.sts.length (Dg s.sts):=g2;have w:wrap .i64 ((i:Int)+1)=((i+1:Nat):Int):=by rw[Ah (by omega) (by omega)];omega
  have se:=Ay7 (fu:=fu) (d:=d) Bo hm.1 hm.2;simp only[Me.cells] at se;rw[Iz,<-ih];simp(disch:=omega)only[B4,B3,Ij,g0,g1,g2',se,w,Bool.and_true,Dx]
theorem Acd(Bo:2000<=fu){m:Md}(hm:m.shrt)(h1:m.sig.chains.length<=1000)(h2:m.sig.path.length<=1000):Ap C0 prog fu (d+3) 18 [.agg m.cells,.agg m.cells]=some ⟨[.sc (.bool true)],[]⟩:=by
 refine (V7 fu (d+2) m.ver m.iss m.nxt m.ents.length (B0 m.ents) m.sig.leaf m.sig.chains.length (Ad .u64 m.sig.chains) m.sig.path.length (Ad .u64 m.sig.path) m.ver m.iss m.nxt m.ents.length (B0 m.ents) m.sig.leaf m.sig.chains.length (Ad .u64 m.sig.chains) m.sig.path.length (Ad .u64 m.sig.path)).trans ?_
 have sl:Ap C0 prog fu (d+2) 38 [.lst false 3 m.ents.length (B0 m.ents),.lst false 3 m.ents.length (B0 m.ents)]=some ⟨[.sc (.bool true)],[]⟩:=by
  refine (Sw fu (d+1) m.ents.length (B0 m.ents) m.ents.length (B0 m.ents)).trans ?_;have l0:=Apx (fu:=fu) (d:=d) (Ta:=m.ents.length) (a1n:=m.ents.length) (a0:=B0 m.ents) (a1:=B0 m.ents) Bo hm.1 hm.2 m.ents.length 0 fu (by omega) (by have:=hm.1;omega)
  have b:∀x:Int,(x != x)=false:=fun x=>bne_self_eq_false _;simp only[B4,B3,b];exact l0
 have sg:=Axw (fu:=fu) (d:=d) Bo h1 h2;simp only[Sg.cells] at sg;have q:∀x:Int,(x==x)=true:=fun x=>beq_self_eq_true x
 repeat(with_reducible(first|apply Al|apply Af|apply Ak|apply As|apply Bb|apply A7|apply Ag|apply Aj|apply Do);· first|constructor|(simp(disch:=omega)only[Dp,q,sl,sg]<;>first|constructor|omega)|omega)
 try simp(disch:=omega)only[Aa,q,sl,sg]
 all_goals rfl
theorem Axj{call:Bi}{Dc Cj Ef Kz:Int}{Gt Gv Gu:Nat}{Ku Kx K4:Ab}{m:Md}{x:Me}{i:Nat}(hx:m.ents[i]?=some x)(hi:i<=100)(ha:x.ans.length<=8){m0:Nat}:∀(k j nn:Nat),j+k=x.ans.length->k<nn ->
  F0 fu call Dc Cj Ef Gt Ku Kz Gv Kx Gu K4 m0 nn (i:Int) (j:Int) m.ver m.iss m.nxt m.ents.length (B0 m.ents) m.sig.leaf m.sig.chains.length (Ad .u64 m.sig.chains) m.sig.path.length (Ad .u64 m.sig.path)=some ⟨[.sc (.bool false)],[]⟩ \/
  F0 fu call Dc Cj Ef Gt Ku Kz Gv Kx Gu K4 m0 nn (i:Int) (j:Int) m.ver m.iss m.nxt m.ents.length (B0 m.ents) m.sig.leaf m.sig.chains.length (Ad .u64 m.sig.chains) m.sig.path.length (Ad .u64 m.sig.path) =
   Fz fu call Dc Cj Ef Gt Ku Kz Gv Kx Gu K4 m0 ((i+1:Nat):Int) m.ver m.iss m.nxt m.ents.length (B0 m.ents) m.sig.leaf m.sig.chains.length (Ad .u64 m.sig.chains) m.sig.path.length (Ad .u64 m.sig.path)
 |_,_,0,_,h=>by omega
 |0,j,nn+1,hj,hn=>by
  have Ch:i<m.ents.length:=(List.getElem?_eq_some_iff.1 hx).1;obtain⟨g0,g1,g2⟩:=mea hx;have w:wrap .i64 ((i:Int)+1)=((i+1:Nat):Int):=by rw[Ah (by omega) (by omega)];omega
  right;rw[My];simp(disch:=omega)only[B4,B3,Ij,g1,w]
 |k+1,j,nn+1,hj,hn=>by
  have Ch:i<m.ents.length:=(List.getElem?_eq_some_iff.1 hx).1;obtain⟨g0,g1,g2⟩:=mea hx;obtain⟨s,hs⟩:∃s,x.ans[j]?=some s:=⟨_,List.getElem?_eq_getElem (by omega)⟩
  obtain⟨a0,a1,a2⟩:=ana hs;have w:wrap .i64 ((j:Int)+1)=((j+1:Nat):Int):=by rw[Ah (by omega) (by omega)];omega
  rw[My];by_cases hz:(s.name.size:Int)>60
  ·left;simp(disch:=omega)only[B4,B3,Ij,GD,g1,a0,w]
  ·have ih:=Axj (call:=call) (Dc:=Dc) (Cj:=Cj) (Ef:=Ef) (Kz:=Kz) (Gt:=Gt) (Gv:=Gv) (Gu:=Gu) (Ku:=Ku) (Kx:=Kx) (K4:=K4) hx hi ha (m0:=m0) k (j+1) nn (by omega) (by omega);simp(disch:=omega)only[B4,B3,Ij,GD,g1,a0,w];exact ih
theorem Av6{call:Bi}{Dc Cj Ef Kz:Int}{Gt Gv Gu:Nat}{Ku Kx K4:Ab}{m:Md}(Bo:100<=fu)(hm:m.ents.length<=20):∀(k i nn:Nat),i+k=m.ents.length->k<nn ->
  ∃b,Fz fu call Dc Cj Ef Gt Ku Kz Gv Kx Gu K4 nn (i:Int) m.ver m.iss m.nxt m.ents.length (B0 m.ents) m.sig.leaf m.sig.chains.length (Ad .u64 m.sig.chains) m.sig.path.length (Ad .u64 m.sig.path)=some ⟨[.sc (.bool b)],[]⟩
 |_,_,0,_,h=>by omega
 |0,i,nn+1,hi,hn=>by
  refine⟨true,?_⟩;rw[Mr];simp(disch:=omega)only[B4,B3]
 |k+1,i,nn+1,hi,hn=>by
  obtain⟨x,hx⟩:∃s,m.ents[i]?=some s:=⟨_,List.getElem?_eq_getElem (by omega)⟩
  obtain⟨g0,g1,g2⟩:=mea hx;rw[Mr];by_cases h1:(x.ans.length:Int)>8
  ·refine⟨false,?_⟩;simp(disch:=omega)only[B4,B3,Ij,g1,g2]
  by_cases h2:(x.sts.length:Int)>8
  ·refine⟨false,?_⟩;simp(disch:=omega)only[B4,B3,Ij,g1,g2]
  simp(disch:=omega)only[B4,B3,Ij,g1,g2];obtain⟨b,ih⟩:=Av6 (call:=call) (Dc:=Dc) (Cj:=Cj) (Ef:=Ef) (Kz:=Kz) (Gt:=Gt) (Gv:=Gv) (Gu:=Gu) (Ku:=Ku) (Kx:=Kx) (K4:=K4) Bo hm k (i+1) nn (by omega) (by omega);rcases Axj (fu:=fu) (call:=call) (Dc:=Dc) (Cj:=Cj) (Ef:=Ef) (Kz:=Kz) (Gt:=Gt) (Gv:=Gv) (Gu:=Gu) (Ku:=Ku) (Kx:=Kx) (K4:=K4) hx (by omega) (by omega) (m0:=nn) x.ans.length 0 fu (by omega) (by omega) with h|h
  ·exact⟨false,h⟩
  ·exact⟨b,h.trans ih⟩
theorem Akk(Bo:100<=fu)(m:Md):∃b,(b=true->m.sig.path.length<=10)/\Ap C0 prog fu (d+1) 8 [.agg m.cells]=some ⟨[.sc (.bool b)],[]⟩:=by
 have E:=Zt fu d m.ver m.iss m.nxt m.ents.length (B0 m.ents) m.sig.leaf m.sig.chains.length (Ad .u64 m.sig.chains) m.sig.path.length (Ad .u64 m.sig.path);by_cases h1:(m.ents.length:Int)>20
 ·refine⟨false,(fun h=>by cases h),E.trans ?_⟩;simp(disch:=omega)only[B4,B3]
 by_cases h2:(m.sig.chains.length:Int)>40
 ·refine⟨false,(fun h=>by cases h),E.trans ?_⟩;simp(disch:=omega)only[B4,B3]
 by_cases h3:(m.sig.path.length:Int)>10
 ·refine⟨false,(fun h=>by cases h),E.trans ?_⟩;simp(disch:=omega)only[B4,B3]
 obtain⟨b,hb⟩:=Av6 (fu:=fu) (call:=Ap C0 prog fu d) (Dc:=m.ver) (Cj:=m.iss) (Ef:=m.nxt) (Kz:=m.sig.leaf) (Gt:=m.ents.length) (Gv:=m.sig.chains.length) (Gu:=m.sig.path.length) (Ku:=B0 m.ents) (Kx:=Ad .u64 m.sig.chains) (K4:=Ad .u64 m.sig.path) Bo (m:=m) (by omega) m.ents.length 0 fu (by omega) (by omega);refine⟨b,(fun _=>by omega),E.trans ?_⟩;simp(disch:=omega)only[B4,B3];exact hb
end
def VX(m:Md)(model now:Int):Int:=Hs now (match m.ents.find? fun x=>x.model==model with|some x=>x.sts.map fun s=>(s.kd,s.at_)|none=>[])
def Au7(x:Me):En:=⟨x.model,x.ans.length,C3 x.ans,x.sts.length,Dg x.sts⟩
theorem RV:∀{l:List Me},(∀x∈l,x.sts.length<=1000/\x.ans.length<=1000)->Ya (B0 l)=some (l.map Au7)
 |[],_=>rfl
 |x::l,h=>by
  have h0:=h x (by simp);have ih:=RV (l:=l) fun y hy=>h y (by simp[hy])
  have b:(Nat.beq (C3 x.ans).length (x.ans.length*3)&&Nat.beq (Dg x.sts).length (x.sts.length*2)&&Nat.ble x.ans.length 1000&&Nat.ble x.sts.length 1000)=true:=by
   rw[R1,BK];simp only[Of,Zzm,Gl];exact⟨Nat.ble_eq_true_of_le h0.2,Nat.ble_eq_true_of_le h0.1⟩
  show Ya (Ac x.model :: .lst false 3 x.ans.length (C3 x.ans) :: .lst false 2 x.sts.length (Dg x.sts)::B0 l)=_;rw[Ya,b,cond_true,ih];rfl
theorem MP:∀(l:List Sa),Ri (Dg l)=some (l.map fun s=>(s.kd,s.at_))
 |[]=>rfl
 |s::l=>by
  show Ri (Ao s.kd :: Ao s.at_::Dg l)=_;rw[Ri,MP l];rfl
theorem Aex(model:Int):∀(l:List Me),Ae6 model (l.map Au7)=match l.find? fun x=>x.model==model with|some x=>Dg x.sts|none=>[]
 |[]=>rfl
 |x::l=>by
  have ih:=Aex model l;unfold Ae6 at ih ⊢;by_cases h:x.model=model
  ·rw[Rz,List.find?_cons_of_pos (by simpa [Au7] using h),List.find?_cons_of_pos (by simpa using h)];rfl
  ·rw[Rz,List.find?_cons_of_neg (by simpa [Au7] using h),List.find?_cons_of_neg (by simpa using h)];exact ih
theorem Ajz(fu d:Nat)(args:Ab):Ap C0 prog fu (d+1) 29 args=Ajr args:=by kernel_rfl
section
variable {fu d:Nat}
theorem Ab0{m:Md}(hm:m.shrt)(model now:Int):Ap C0 prog fu (d+1) 29 [.agg m.cells,Ac model,Ao now]=some ⟨[Ao (VX m model now)],[]⟩:=by
 rw[Ajz]
 have b:(Nat.beq (B0 m.ents).length (m.ents.length*3)&&Nat.ble m.ents.length 1000)=true:=by
  rw[Oz];simp only[Of,Zzm];exact Nat.ble_eq_true_of_le hm.1
 show (bif (Nat.beq (B0 m.ents).length (m.ents.length*3)&&Nat.ble m.ents.length 1000) then _ else none)=_;rw[b,cond_true,RV hm.2];simp only;rw[Aex];unfold VX;cases m.ents.find? fun x=>x.model==model with
 |none=>rfl
 |some x=>
  simp only;rw[MP]
end
structure KN(m:Md)(seed h:Int):Prop where
 ok:m.ok
 err:Ei m=0
 ver:JA m (Xd seed h)=0
 path:(m.sig.path.length:Int)=h
 leaf:m.sig.leaf=m.ver-1
theorem Aue{h:Int}(hh:D6 h=false):0<=h/\h<=4:=by unfold D6 at hh;rw[Bool.or_eq_false_iff,PA,PA] at hh;omega
theorem Amh{m:Md}(hm:m.ok){seed h:Int}(he:Bl m=0)(hh:D6 h=false)(ho:J8 (m.ver-1) h=false):∃s,Nm m seed h=({ m with sig:=s },0)/\KN { m with sig:=s } seed h:=by
 obtain⟨s,e,k1,k2,k3,k4,k5⟩:=Aja (seed:=seed) (m:=Py m) hh ho;refine⟨s,?_,?_⟩
 ·unfold Nm;rw[B7 he,e]
 ·have he':Bl { m with sig:=s }=0:=he;refine⟨⟨hm.ent,k1⟩,?_,?_,k4,k2⟩
  ·unfold Ei;rw[he',B7 rfl];show QG s=0;unfold QG;rw[k4,k2,hh,ho,k3];rfl
  ·unfold JA;rw[he',B7 rfl,Ba (by simp only[ne_eq,Decidable.not_not];exact k2)]
   exact k5
theorem Abz{m:Md}(hm:m.ok)(seed h:Int):(Nm m seed h).1.ok/\(Nm m seed h).1.sig.path.length<=4/\(Nm m seed h).1.sig.chains.length<=18/\((Nm m seed h).1=JT\/∃s,(Nm m seed h).1={ m with sig:=s }):=by
 have z:JT.ok/\JT.sig.path.length<=4/\JT.sig.chains.length<=18/\(JT=JT\/∃s,JT={ m with sig:=s }):=⟨Azp,by decide,by decide,.inl rfl⟩
 unfold Nm;split
 ·cases hs:HJ seed h (m.ver-1) (Py m) with
  |none=>exact z
  |some s=>
   by_cases hh:D6 h=false
   ·by_cases ho:J8 (m.ver-1) h=false
    ·obtain⟨s',e,k1,k2,k3,k4,_⟩:=Aja (seed:=seed) (m:=Py m) hh ho;rw[hs] at e;cases e;have:=Aue hh;exact⟨⟨hm.ent,k1⟩,by show s.path.length<=4;omega,by show s.chains.length<=18;omega,.inr ⟨s,rfl⟩⟩
    ·exfalso;unfold HJ at hs;simp only[Bool.not_eq_false] at ho;rw[ho] at hs;simp at hs
   ·exfalso;unfold HJ at hs;simp only[Bool.not_eq_false] at hh;rw[hh] at hs;simp at hs
 ·exact z
theorem KN.wf{m:Md}{seed h:Int}(hs:KN m seed h):m.wf:=hs.ok.wf
theorem KN.sizes{m:Md}{seed h:Int}(hs:KN m seed h)(h4:h<=4):m.shrt/\m.sig.chains.length<=1000/\m.sig.path.length<=1000:=by obtain⟨e0,e1,e2,e3⟩:=Kw hs.err;obtain⟨_,_,_,_,_,m6,m7⟩:=Mw e0;have:=hs.path;exact⟨⟨by omega,fun x hx=>by have:=Wq (R0 m7 x hx);omega⟩,by omega,by omega⟩
theorem Apn{m:Md}(hw:m.wf)(h:Ei m=0)(hf:(A4 m).length<=90):(Ht m).length<=4096:=by obtain⟨h0,h1,h2,h3⟩:=Kw h;obtain⟨_,f,_⟩:=Wa hw h0;have:=f.len;have hp:=I5 (h:=m.sig.path.length) (by simpa using h1);unfold Ht;rw[G8,At6];omega
theorem Azu{m:Md}(hw:m.wf)(h:Ei m=0):Mn (Ht m):=fun y hy=>(Bu.1 hy).elim (FN hw (Kw h).1 y) (Axm m.sig y)
def mA0:Md:=⟨2,1,9,[⟨4,[],[⟨1,0⟩,⟨4,50⟩]⟩],sg0⟩
theorem Apy:mA0.ok:=⟨fun x hx=>by
 rw[Lo.1 hx];exact⟨⟨by decide,by decide⟩,fun a ha=>by cases ha⟩,⟨fun x hx=>(by cases hx),fun x hx=>(by cases hx)⟩⟩
theorem Avu:Bl mA0=0:=by decide
section
variable {fu d:Nat}
abbrev mC(v i x:Int)(n:Nat)(c:Ab):Ab:=[Ao v,Ao i,Ao x,.lst false 3 n c,Ao 0,.lst false 1 0 [],.lst false 1 0 []]
theorem Ak8(Bo:20000<=fu):Ap C0 prog fu (d+14) 9 []=some ⟨[.sc (.bool true)],[]⟩:=by
 rw[Zk]
 have hM:∃M,Nm mA0 7 2=(M,0)/\KN M 7 2/\M.ver=2/\M.iss=1/\M.nxt=9/\M.ents=[⟨4,[],[⟨1,0⟩,⟨4,50⟩]⟩]/\(A4 M).length<=90/\M.sig.leaf=1:=by
  obtain⟨s,hs,hg⟩:=Amh Apy (seed:=7) (h:=2) Avu (by decide) (by decide);exact⟨_,hs,hg,rfl,rfl,rfl,rfl,(show (15:Nat)<=90 by omega),hg.leaf⟩
 obtain⟨M,hs,hg,m1,m2,m3,m4,m5,lf⟩:=hM;have k7:=Anp (fu:=fu) (d:=d) (by omega) 7 2
 have sg:Ap C0 prog fu (d+13) 16 [.agg (mC 2 1 9 1 [Ac 4,.lst false 3 0 [],.lst false 2 2 [Ao 1,Ao 0,Ao 4,Ao 50]]),Ac 7,Ao 2]=some ⟨[.agg M.cells,Ao 0],[]⟩:=by
  have:=Adc (fu:=fu) (d:=d+2) (m:=mA0) Bo Apy.wf 7 2;rw[hs] at this;exact this
 obtain⟨z1,z2,z3⟩:=hg.sizes (by omega);have en:=Aix (fu:=fu) (d:=d+3) (m:=M) Bo hg.wf (by omega) (by omega);unfold OJ at en;rw[hg.err,B7 rfl] at en;have le:(Ht M).length<=4096:=Apn hg.wf hg.err m5;have hb:=Azu hg.wf hg.err;have dh:=RX hg.ok hg.err le
 have a1:Ap C0 prog fu (d+13) 27 [.agg (mC 1 0 0 0 []),.lst false 1 (Ht M).length (Ad .u8 (Ht M)),.agg (Xd 7 2).cells,Ao 5]=some ⟨[.agg M.cells,Ao 0],[]⟩:=by
  have:=Ack (fu:=fu) (d:=d+1) Bo hb (by omega) ⟨1,0,0,[],sg0⟩ (Xd 7 2) 5
  have e1:Ahb ⟨1,0,0,[],sg0⟩ (Ht M) (Xd 7 2) 5=(M,0):=by
   unfold Ahb;rw[Ba (by omega),dh,Ba (by simp),Ba (by rw[m1];show ¬(2:Int)<=1;omega),Ba (by rw[hg.ver];simp),Ba (by rw[m2,m3];omega)]
  rw[e1] at this;exact this
 have a2:Ap C0 prog fu (d+13) 27 [.agg M.cells,.lst false 1 (Ht M).length (Ad .u8 (Ht M)),.agg (Xd 7 2).cells,Ao 5]=some ⟨[.agg (mC 0 0 0 0 []),Ao 7],[]⟩:=by
  have:=Ack (fu:=fu) (d:=d+1) Bo hb (by omega) M (Xd 7 2) 5
  have e2:Ahb M (Ht M) (Xd 7 2) 5=(JT,7):=by
   unfold Ahb;rw[Ba (by omega),dh,Ba (by simp),B7 (Int.le_refl _)]
  rw[e2] at this;exact this
 have sm:=Acd (fu:=fu) (d:=d+10) (m:=M) (by omega) z1 z2 z3;have s1:=Ab0 (fu:=fu) (d:=d+12) (m:=M) z1 4 49;have s2:=Ab0 (fu:=fu) (d:=d+12) (m:=M) z1 4 50;have v1:VX M 4 49=1:=by unfold VX;rw[m4];rfl
 have v2:VX M 4 50=4:=by unfold VX;rw[m4];rfl
 rw[v1] at s1;rw[v2] at s2;have L:=Am .u8 (Ht M);have t:=Ob .u8 (Ht M);generalize Ht M=E at *
 generalize Xd 7 2=K at *
 simp only[Md.cells,Ky.cells,lf] at k7 sg en a1 a2 sm s1 s2;clear hs hg dh v1 v2
 repeat(with_reducible(first|apply Al|apply Af|apply Ak|apply As|apply Bf|apply A7|apply Ay|apply Ag|apply Aj|apply Do);· first|constructor|(simp(disch:=omega)only[Dp,k7,sg,en,Ec,Cu,Fi,L,t,a1,a2,sm,s1,s2,Int.reduceBEq]<;>first|constructor|omega)|omega)
 try simp(disch:=omega)only[Aa,k7,sg,en,Ec,Cu,Fi,L,t,a1,a2,sm,s1,s2,Int.reduceBEq]
 all_goals rfl
end
end
end Go.Proofs.YtpogefhpiaaliaaGreatDoor.Pv
