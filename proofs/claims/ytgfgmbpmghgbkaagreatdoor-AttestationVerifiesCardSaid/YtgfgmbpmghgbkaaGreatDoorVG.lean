/-
  The proof of AttestationVerifies, part 7.
-/
import Derived.Test.YtgfgmbpmghgbkaaGreatDoorVF
import Derived.Test.YtgfgmbpmghgbkaaGreatDoorRows
import Derived.Lib.BytesEntry
import Derived.Lib.Bytealg
import Derived.Lib.Walk
import Derived.WalkKit
import Derived.WalkMore
import Derived.Shelf.Unicode.ValidAny
import Derived.Lib.LaidU8T
set_option linter.unusedSimpArgs false
namespace Go.Proofs.YtgfgmbpmghgbkaaGreatDoor.Pv
section
open Go.IntKind (wrap)
theorem BL {a b:List Int}(ha:G9 a)(hb:G9 b):G9 (a++b):=by
 intro x hx;rcases List.mem_append.1 hx with hx|hx
 ·exact ha x hx
 ·exact hb x hx
section
variable {fu d:Nat}
theorem Ab3 (hfu:1000<=fu){a0 a1 a2:Int}{key nonce:Int}{n:Nat}(hn:n<=1024):∀(k nn:Nat)(i:Int)(l:List Int),n<=l.length+8*k->k<nn->G9 l->l.length<=2000 ->
  0<=i->i+k<=100000->∃r,G9 r∧r.length=n∧Gp fu (Ae C0 Tryz.prog fu (d+4)) a0 a1 a2 nn key nonce (n:Int) l.length i (Ai .u8 l)=some ⟨[.own 1 n (Ai .u8 r)],[]⟩:=by
 intro k
 induction k with
 |zero=>
  intro nn i l h1 h2 hb hl i0 i1;obtain ⟨m,rfl⟩:∃m,nn=m+1:=⟨nn-1,by omega⟩
  refine ⟨l.take n,hb.take n,by rw [List.length_take];omega,?_⟩
  have L:=Aq .u8 l;have nt:Int.toNat (n:Int)=n:=Hc _;rw [Hn]
  try unfold Aa
  repeat first
   |((with_reducible first|apply Ap|apply Ag|apply Am|apply Az|apply A6|apply Ah);· first|with_reducible rfl|(simp (disch:=omega) only [L,nt,Nat.sub_zero,Bj,D3]<;>with_reducible rfl))
   |((with_reducible first|apply Ak|apply Al);· first|with_reducible rfl|omega|(simp (disch:=omega) only [gT,L,nt,Nat.sub_zero,Bj,D3]<;>omega))
   |(with_reducible apply Ao;· first|with_reducible rfl|(simp (disch:=omega) only [gF,L,nt,Nat.sub_zero,Bj,D3]<;>omega))
  try simp (disch:=omega) only [L,nt,Nat.sub_zero,Bj,D3]
 |succ k ih=>
  intro nn i l h1 h2 hb hl i0 i1;obtain ⟨m,rfl⟩:∃m,nn=m+1:=⟨nn-1,by omega⟩
  have L:=Aq .u8 l;have nt:Int.toNat (n:Int)=n:=Hc _;by_cases hlt:l.length<n
  rotate_left
  ·refine ⟨l.take n,hb.take n,by rw [List.length_take];omega,?_⟩
   rw [Hn]
   try unfold Aa
   repeat first
    |((with_reducible first|apply Ap|apply Ag|apply Am|apply Az|apply A6|apply Ah);· first|with_reducible rfl|(simp (disch:=omega) only [L,nt,Nat.sub_zero,Bj,D3]<;>with_reducible rfl))
    |((with_reducible first|apply Ak|apply Al);· first|with_reducible rfl|omega|(simp (disch:=omega) only [gT,L,nt,Nat.sub_zero,Bj,D3]<;>omega))
    |(with_reducible apply Ao;· first|with_reducible rfl|(simp (disch:=omega) only [gF,L,nt,Nat.sub_zero,Bj,D3]<;>omega))
   try simp (disch:=omega) only [L,nt,Nat.sub_zero,Bj,D3]
  have w1:wrap .u64 i=i:=B5 (by omega) (by omega)
  have w2:wrap .i64 (i+1)=i+1:=At (by omega) (by omega)
  have wd:Ae C0 Tryz.prog fu (d+4) Ea [.lst false 1 2 [.sc (.int .u64 nonce),.sc (.int .u64 i)]]=some ⟨[.own 1 (A7 [nonce,i]).length (Ai .u8 (A7 [nonce,i]))],[]⟩:=Lr (ws:=[nonce,i]) (by simp) (by omega) (by simp;omega)
  have mc:=Afq (fu:=fu) (d:=d) (l:=A7 [nonce,i]) (Wh _) (by rw [Dd];simp) (by omega) (by rw [Dd];simp;omega) key 5
  have L2:=Aq .u8 (A7 [nonce,i]);have t2:=Gd .u8 (A7 [nonce,i]);generalize Aps key 5 (A7 [nonce,i])=q at mc;have ow:=Aex (fu:=fu) (d:=d+3) hfu q;have Lq:(Ai .u8 (Ci q)).length=8:=by rw [Aq,C3]
  have tq:List.take 8 (Ai .u8 (Ci q))=Ai .u8 (Ci q):=I0 (by omega)
  have tl:=Gd .u8 l;have ea:Ai .u8 l++Ai .u8 (Ci q)=Ai .u8 (l++Ci q):=by rw [Ai,Ai,Ai,List.flatMap_append]
  obtain ⟨r,r1,r2,r3⟩:=ih m (i+1) (l++Ci q) (by rw [H1,C3];omega) (by omega) (BL hb (CI q)) (by rw [H1,C3];omega) (by omega) (by omega)
  refine ⟨r,r1,r2,?_⟩;rw [H1,C3] at r3;rw [←r3,Hn];generalize A7 [nonce,i]=W at *
  generalize W.length=wn at *
  try unfold Aa
  repeat first
   |((with_reducible first|apply Ap|apply Ag|apply Am|apply Az|apply A6|apply Ah);· first|with_reducible rfl|(simp (disch:=omega) only [w1,w2,wd,B8,Bv,Bj,L,L2,t2,mc,ow,Lq,tq,tl,ea]<;>with_reducible rfl))
   |((with_reducible first|apply Ak|apply Al);· first|with_reducible rfl|omega|(simp (disch:=omega) only [gT,w1,w2,wd,B8,Bv,Bj,L,L2,t2,mc,ow,Lq,tq,tl,ea]<;>omega))
   |(with_reducible apply Ao;· first|with_reducible rfl|(simp (disch:=omega) only [gF,w1,w2,wd,B8,Bv,Bj,L,L2,t2,mc,ow,Lq,tq,tl,ea]<;>omega))
  try simp (disch:=omega) only [w1,w2,wd,B8,Bv,Bj,L,L2,t2,mc,ow,Lq,tq,tl,ea]
  all_goals rfl
theorem RY (hfu:1000<=fu)(seed:Int){n:Nat}(hn:n<=1024):∃r,G9 r∧r.length=n∧Ae C0 Tryz.prog fu (d+6) Hi [.sc (.int .i64 seed),.sc (.int .i64 n)]=some ⟨[.own 1 n (Ai .u8 r)],[]⟩:=by
 obtain ⟨r,r1,r2,r3⟩:=Ab3 (fu:=fu) (d:=d) hfu (a0:=wrap .u64 (wrap .u64 seed+1)) (a1:=7) (a2:=n) (key:=wrap .u64 (wrap .u64 seed+1)) (nonce:=7) hn 128 fu 0 [] (by omega) (by omega) (by intro x hx;cases hx) (by simp) (by omega) (by omega)
 refine ⟨r,r1,r2,?_⟩
 have e:Ae C0 Tryz.prog fu (d+5) Pc [.sc (.int .u64 (wrap .u64 (wrap .u64 seed+1))),.sc (.int .u64 7),.sc (.int .i64 n)]=some ⟨[.own 1 n (Ai .u8 r)],[]⟩:=by
  rw [BG];have f1:(if (n:Int)<0 then (0:Int) else (n:Int))=n:=A3 (by omega)
  have f2:(if (1024:Int)<(n:Int) then (1024:Int) else (n:Int))=n:=A3 (by omega)
  simp only [Hr,f1,f2];exact r3
 have f1:(if (n:Int)<0 then (0:Int) else (n:Int))=n:=A3 (by omega)
 have f2:(if (1024:Int)<(n:Int) then (1024:Int) else (n:Int))=n:=A3 (by omega)
 have L:=Aq .u8 r;have t:List.take n (Ai .u8 r)=Ai .u8 r:=by rw [←r2];exact Gd .u8 r
 rw [DE];simp (disch:=omega) only [B6,f1,f2,e,Bj,L,t]
theorem XX (hfu:1000<=fu)(seed h:Int):Ae C0 Tryz.prog fu (d+13) Ui [.sc (.int .u64 seed),.sc (.int .i64 h)]=some ⟨[.agg (Ey seed h).cells],[]⟩:=by
 rw [HX];have p:=Adw (fu:=fu) (d:=d) hfu seed h;simp only [Ky.cells] at p ⊢;simp only [B6,p]
theorem Ap4 (hfu:1000<=fu){n:Int}(h0:0<=n)(h1:n<=10000)(h:Int)(sh:Bool):∃id_,G9 id_∧id_.length=176∧Ae C0 Tryz.prog fu (d+7) Kh [.sc (.int .i64 n),.sc (.int .i64 h),.sc (.bool sh)]=some ⟨[.agg [.sc (.int .u64 (1000+n)),.sc (.int .i64 h),.own 1 176 (Ai .u8 id_),.sc (.bool sh)]],[]⟩:=by
 have w1:wrap .u64 n=n:=B5 (by omega) (by omega)
 have w2:wrap .u64 (1000+n)=1000+n:=B5 (by omega) (by omega)
 have w3:wrap .i64 (500+n)=500+n:=At (by omega) (by omega)
 obtain ⟨r,r1,r2,r3⟩:=RY (fu:=fu) (d:=d) hfu (500+n) (n:=176) (by omega)
 refine ⟨r,r1,r2,?_⟩;have L:=Aq .u8 r;have t:List.take 176 (Ai .u8 r)=Ai .u8 r:=by rw [←r2];exact Gd .u8 r
 have r3':Ae C0 Tryz.prog fu (d+6) Hi [.sc (.int .i64 (500+n)),.sc (.int .i64 176)]=some ⟨[.own 1 176 (Ai .u8 r)],[]⟩:=r3;rw [Vb];simp (disch:=omega) only [B6,w1,w2,w3,r3',Bj,L,t]
def LX (sh vf:Bool):Int:=if vf=true then (if sh=true then 13 else 5) else if sh=true then 9 else 1
theorem Amf (seed h:Int)(id_:List Int)(sh vf:Bool):Ae C0 Tryz.prog fu (d+1) Km [.agg [.sc (.int .u64 seed),.sc (.int .i64 h),.lst false 1 id_.length (Ai .u8 id_),.sc (.bool sh)],.sc (.bool vf)]=some ⟨[.sc (.int .i64 (LX sh vf))],[]⟩:=by
 rw [U9];cases vf<;>cases sh<;>rfl
theorem Aho {s:ByteArray}(hs:s.size<=900)(hfu:1000<=fu):Ae C0 Tryz.prog fu (d+5) Ng [.sc (.string s)]=some ⟨[.sc (.int .u64 (Em 9 (B4 s)))],[]⟩:=by
 rw [Yp];have hh:=Vq (fu:=fu) (d:=d) (l:=B4 s) (Sl s) (by rw [C9];omega) (by omega) (by rw [C9];omega) 9
 have L:(Ct s).length=s.size:=by rw [Fw,Aq,C9]
 have t:List.take s.size (Ct s)=Ai .u8 (B4 s):=by rw [Fw,I0 (by rw [Aq,C9];omega)]
 rw [C9] at hh;simp (disch:=omega) only [B6,L,t,B8,Bj,hh]
theorem NM {s:ByteArray}(hs:s.size<=900)(hfu:1000<=fu):Ae C0 Tryz.prog fu (d+5) L7 [.sc (.string s)]=some ⟨[.sc (.int .u64 (Em 11 (B4 s)))],[]⟩:=by
 rw [Wo];have hh:=Vq (fu:=fu) (d:=d) (l:=B4 s) (Sl s) (by rw [C9];omega) (by omega) (by rw [C9];omega) 11
 have L:(Ct s).length=s.size:=by rw [Fw,Aq,C9]
 have t:List.take s.size (Ct s)=Ai .u8 (B4 s):=by rw [Fw,I0 (by rw [Aq,C9];omega)]
 rw [C9] at hh;simp (disch:=omega) only [B6,L,t,B8,Bj,hh]
def Wr (b:List Int)(c:Int):Int:=Em 13 (b++Ci c)
theorem RL {b:List Int}(hb:G9 b)(hl:b.length<=900)(hfu:1000<=fu)(c:Int):Ae C0 Tryz.prog fu (d+5) Mk [.lst false 1 b.length (Ai .u8 b),.sc (.int .u64 c)]=some ⟨[.sc (.int .u64 (Wr b c))],[]⟩:=by
 rw [Wz];unfold Wr;have ow:=Aex (fu:=fu) (d:=d+3) hfu c;have Lq:(Ai .u8 (Ci c)).length=8:=by rw [Aq,C3]
 have tq:List.take 8 (Ai .u8 (Ci c))=Ai .u8 (Ci c):=I0 (by omega)
 have L:=Aq .u8 b;have t:=Gd .u8 b;have ea:Ai .u8 b++Ai .u8 (Ci c)=Ai .u8 (b++Ci c):=by rw [Ai,Ai,Ai,List.flatMap_append]
 have hl2:(b++Ci c).length=b.length+8:=by rw [H1,C3]
 have hh:=Vq (fu:=fu) (d:=d) (l:=b++Ci c) (BL hb (CI c)) (by omega) (by omega) (by omega) 13
 have L2:=Aq .u8 (b++Ci c);have t2:List.take (b.length+8) (Ai .u8 (b++Ci c))=Ai .u8 (b++Ci c):=I0 (by omega)
 rw [hl2] at hh;simp (disch:=omega) only [B6,ow,B8,Bv,Bj,Lq,tq,L,t,ea,L2,t2,hh]
theorem BP {b:List Int}(hb:G9 b)(hl:b.length<=100000){n:Int}(h0:0<=n)(h1:n<=1000000):∃r,G9 r∧r.length=(if b.length=0 then 1 else b.length)∧Ae C0 Tryz.prog fu (d+1) R5 [.lst false 1 b.length (Ai .u8 b),.sc (.int .i64 n)]=some ⟨[.own 1 r.length (Ai .u8 r)],[]⟩:=by
 have w8:∀v:Int,0<=wrap .u8 v∧wrap .u8 v<=255:=by
  intro v;simp only [wrap,IntKind.signed,IntKind.bits];simp;omega
 by_cases hz:b.length=0
 ·refine ⟨[wrap .u8 n],?_,?_,?_⟩
  ·intro x hx;simp at hx;subst hx;exact w8 n
  ·rw [Bl hz];rfl
  ·rw [Rq];have b0:((b.length:Int)==0)=true:=by rw [hz];rfl
   simp (disch:=omega) only [B6,b0];rfl
 have m0:0<=Int.tmod n b.length:=Int.tmod_nonneg _ h0;have m1:Int.tmod n b.length<b.length:=Int.tmod_lt_of_pos _ (by omega)
 have m2:(Int.tmod n b.length).toNat<b.length:=by generalize Int.tmod n b.length=im at *;omega
 obtain ⟨x,hx⟩:∃x,b[(Int.tmod n b.length).toNat]?=some x:=⟨_,List.getElem?_eq_getElem m2⟩;have hg:=Qb (k:=.u8) hx;have ib:=Aco (a:=n) (m:=7) (by omega) (by omega)
 obtain ⟨a7,h7⟩:∃a7,Ed .i64 n 7=a7:=⟨_,rfl⟩;rw [h7] at ib;have w4:wrap .u64 a7=a7:=B5 (by omega) (by omega)
 have L:=Aq .u8 b;obtain ⟨v,hv⟩:∃v,Er .u8 x (Ff .u8 1 a7)=v:=⟨_,rfl⟩;have hvb:0<=v∧v<=255:=by rw [←hv];exact w8 _
 have es:B7 (Ai .u8 b) [.sc (.int .u8 v)] (Int.tmod n b.length).toNat=Ai .u8 (b.set (Int.tmod n b.length).toNat v):=by
  rw [Jg (by rw [L];exact m2)]
  have:=Aod (f:=Ao4 .u8) (Zo .u8) (p:=.sc (.int .u8 v)) (j:=0) (by omega) hx (y:=v) rfl
  rw [Bj,Lz] at this;exact this
 have t2:=Gd .u8 (b.set (Int.tmod n b.length).toNat v);have l2:(b.set (Int.tmod n b.length).toNat v).length=b.length:=List.length_set;have L2:=Aq .u8 (b.set (Int.tmod n b.length).toNat v);rw [l2] at t2;refine ⟨b.set (Int.tmod n b.length).toNat v,?_,?_,?_⟩
 ·intro y hy;rcases List.mem_or_eq_of_mem_set hy with hy|hy
  ·exact hb y hy
  ·subst hy;exact hvb
 ·rw [A3 hz,l2]
 rw [Rq];have b0:((b.length:Int)==0)=false:=beq_eq_false_iff_ne.2 (by omega)
 rw [l2];generalize Int.tmod n b.length=im at *
 try unfold Aa
 repeat first
  |((with_reducible first|apply Ap|apply Ag|apply Am|apply Az|apply A6|apply Ah);· first|with_reducible rfl|(simp (disch:=omega) only [b0,Bv,Bj,L,hg,h7,w4,hv,es,L2,t2]<;>with_reducible rfl))
  |((with_reducible first|apply Ak|apply Al);· first|with_reducible rfl|omega|(simp (disch:=omega) only [gT,b0,Bv,Bj,L,hg,h7,w4,hv,es,L2,t2]<;>omega))
  |(with_reducible apply Ao;· first|with_reducible rfl|(simp (disch:=omega) only [gF,b0,Bv,Bj,L,hg,h7,w4,hv,es,L2,t2]<;>omega))
 try simp (disch:=omega) only [b0,Bv,Bj,L,hg,h7,w4,hv,es,L2,t2]
 all_goals rfl
end
end
section
open Go.IntKind (wrap)
structure Ad.good (a:Ad):Prop where
 rp:ZX a.rp
 flags:a.flags=77∨a.flags=69∨a.flags=73∨a.flags=65
 cnt:a.cnt=0∨a.cnt=1
 rng:a.rng=0
 model:ZX a.model
 idB:G9 a.id_
 idl:a.id_.length=176
 key:Df a.key.h=false
 root:ZX a.key.root
def Y6 (a:Ad):List Int:=Ci a.rp++([a.flags,a.cnt,a.rng]++(Ci a.model++(a.id_++G0 a.key)))
theorem SC (k:Ky):(G0 k).length=9:=rfl
theorem YK {a:Ad}(h:a.good):(Y6 a).length=204:=by
 unfold Y6;simp only [H1,C3,Ib,Y4,h.idl,SC]
theorem An4 {a:Ad}(h:a.good):G9 (Y6 a):=by
 have hf:=h.flags;have hc:=h.cnt;have hr:=h.rng;refine BL (CI _) (BL ?_ (BL (CI _) (BL h.idB Adt)));intro x hx;simp only [List.mem_cons,List.not_mem_nil,or_false] at hx;rcases hx with rfl|rfl|rfl<;>omega
section
variable {fu d:Nat}
theorem MV (n lo hi:Int):Ae C0 Tryz.prog fu (d+1) Nt [.sc (.int .i64 n),.sc (.int .i64 lo),.sc (.int .i64 hi)]=some ⟨[.sc (.bool (decide (lo<=n)&&decide (n<=hi)))],[]⟩:=by
 rw [Ye];by_cases h:lo<=n
 ·simp (disch:=omega) only [B6,h,decide_true,Zzm]
 ·simp (disch:=omega) only [B6,h,decide_false,Bool.false_and]
theorem QW (hfu:1000<=fu){a:Ad}(h:a.good):Ae C0 Tryz.prog fu (d+3) Is [.agg a.cells]=some ⟨[.sc (.int .i64 0)],[]⟩:=by
 refine (Rh fu (d+2) a.rp a.flags a.cnt a.rng a.model a.id_.length (Ai .u8 a.id_) a.key.h a.key.root).trans ?_;have w1:=MV (fu:=fu) (d:=d+1) a.cnt 0 16;have w2:=MV (fu:=fu) (d:=d+1) a.rng 0 15
 have q1:(decide ((0:Int)<=a.cnt)&&decide (a.cnt<=16))=true:=by
  rcases h.cnt with e|e<;>rw [e]<;>rfl
 have q2:(decide ((0:Int)<=a.rng)&&decide (a.rng<=15))=true:=by rw [h.rng];rfl
 rw [q1] at w1;rw [q2] at w2;have ek:=FN (fu:=fu) (d:=d) hfu a.key;rw [h.key,A3 (by simp)] at ek
 simp only [Ky.cells] at ek;have f1:(IQ .i64 a.flags 93 != 0)=false:=by rcases h.flags with e|e|e|e<;>rw [e]<;>decide
 have f2:(Ed .i64 a.flags 16 != 0)=false:=by rcases h.flags with e|e|e|e<;>rw [e]<;>decide
 have f3:(Ed .i64 a.flags 64==0)=false:=by rcases h.flags with e|e|e|e<;>rw [e]<;>decide
 have l:((a.id_.length:Int) != 176)=false:=by rw [h.idl];rfl
 try unfold Aa
 repeat first
  |((with_reducible first|apply Ap|apply Ag|apply Am|apply As|apply Az|apply A6|apply Ah);· first|with_reducible rfl|(simp (disch:=omega) only [f1,f2,f3,w1,w2,l,ek,Bp]<;>with_reducible rfl))
  |((with_reducible first|apply Ak|apply Al);· first|with_reducible rfl|omega|(simp (disch:=omega) only [gT,f1,f2,f3,w1,w2,l,ek,Bp]<;>omega))
  |(with_reducible apply Ao;· first|with_reducible rfl|(simp (disch:=omega) only [gF,f1,f2,f3,w1,w2,l,ek,Bp]<;>omega))
 try simp (disch:=omega) only [f1,f2,f3,w1,w2,l,ek,Bp]
 all_goals rfl
theorem Aef (hfu:1000<=fu){a:Ad}(h:a.good):Ae C0 Tryz.prog fu (d+4) Jz [.agg a.cells]=some ⟨[.own 1 204 (Ai .u8 (Y6 a)),.sc (.int .i64 0)],[]⟩:=by
 refine (To fu (d+3) a.rp a.flags a.cnt a.rng a.model a.id_.length (Ai .u8 a.id_) a.key.h a.key.root).trans ?_;have vd:=QW (fu:=fu) (d:=d) hfu h;simp only [Ad.cells,Tb] at vd;have e00:((0:Int) != 0)=false:=rfl;have ek:=FN (fu:=fu) (d:=d+1) hfu a.key;rw [h.key,A3 (by simp)] at ek
 simp only [Ky.cells] at ek;have o1:=Aex (fu:=fu) (d:=d+2) hfu a.rp;have o2:=Aex (fu:=fu) (d:=d+2) hfu a.model;have f3:(Ed .i64 a.flags 64 != 0)=true:=by rcases h.flags with e|e|e|e<;>rw [e]<;>decide
 have u1:wrap .u8 a.flags=a.flags:=by rcases h.flags with e|e|e|e<;>rw [e]<;>decide
 have u2:wrap .u8 a.cnt=a.cnt:=by rcases h.cnt with e|e<;>rw [e]<;>decide
 have u3:wrap .u8 a.rng=a.rng:=by rw [h.rng];decide
 have l1:(Ai .u8 (Ci a.rp)).length=8:=by rw [Aq,C3]
 have l2:(Ai .u8 (Ci a.model)).length=8:=by rw [Aq,C3]
 have l3:(Ai .u8 a.id_).length=176:=by rw [Aq,h.idl]
 have l4:(Ai .u8 (G0 a.key)).length=9:=by rw [Aq,SC]
 have t1:List.take 8 (Ai .u8 (Ci a.rp))=Ai .u8 (Ci a.rp):=I0 (by omega)
 have t2:List.take 8 (Ai .u8 (Ci a.model))=Ai .u8 (Ci a.model):=I0 (by omega)
 have t4:List.take 9 (Ai .u8 (G0 a.key))=Ai .u8 (G0 a.key):=I0 (by omega)
 have E:Ai .u8 (Y6 a)=Ai .u8 (Ci a.rp)++[.sc (.int .u8 a.flags),.sc (.int .u8 a.cnt),.sc (.int .u8 a.rng)]++Ai .u8 (Ci a.model)++Ai .u8 a.id_++Ai .u8 (G0 a.key):=by
  unfold Y6;simp [Ai,List.flatMap_append]
 have il:=h.idl;rw [il] at vd ⊢;rw [E];generalize Ai .u8 (Ci a.rp)=c1 at *
 generalize Ai .u8 (Ci a.model)=c2 at *
 generalize Ai .u8 a.id_=c3 at *
 generalize Ai .u8 (G0 a.key)=c4 at *
 have T1:List.take 11 (c1++[PV.sc (.int .u8 a.flags),.sc (.int .u8 a.cnt),.sc (.int .u8 a.rng)])=c1++[PV.sc (.int .u8 a.flags),.sc (.int .u8 a.cnt),.sc (.int .u8 a.rng)]:=I0 (by simp;omega)
 have T2:List.take 19 (c1++[PV.sc (.int .u8 a.flags),.sc (.int .u8 a.cnt),.sc (.int .u8 a.rng)]++c2)=c1++[PV.sc (.int .u8 a.flags),.sc (.int .u8 a.cnt),.sc (.int .u8 a.rng)]++c2:=I0 (by simp;omega)
 have T3:List.take 195 (c1++[PV.sc (.int .u8 a.flags),.sc (.int .u8 a.cnt),.sc (.int .u8 a.rng)]++c2++c3)=c1++[PV.sc (.int .u8 a.flags),.sc (.int .u8 a.cnt),.sc (.int .u8 a.rng)]++c2++c3:=I0 (by simp;omega)
 have T4:List.take 204 (c1++[PV.sc (.int .u8 a.flags),.sc (.int .u8 a.cnt),.sc (.int .u8 a.rng)]++c2++c3++c4)=c1++[PV.sc (.int .u8 a.flags),.sc (.int .u8 a.cnt),.sc (.int .u8 a.rng)]++c2++c3++c4:=I0 (by simp;omega)
 have L1:(c1++[PV.sc (.int .u8 a.flags),.sc (.int .u8 a.cnt),.sc (.int .u8 a.rng)]).length=11:=by simp;omega
 have L2:(c1++[PV.sc (.int .u8 a.flags),.sc (.int .u8 a.cnt),.sc (.int .u8 a.rng)]++c2).length=19:=by simp;omega
 have L3:(c1++[PV.sc (.int .u8 a.flags),.sc (.int .u8 a.cnt),.sc (.int .u8 a.rng)]++c2++c3).length=195:=by simp;omega
 have L4:(c1++[PV.sc (.int .u8 a.flags),.sc (.int .u8 a.cnt),.sc (.int .u8 a.rng)]++c2++c3++c4).length=204:=by simp;omega
 try unfold Aa
 repeat first
  |((with_reducible first|apply Ap|apply Ag|apply Am|apply As|apply Az|apply A6|apply Ah);· first|with_reducible rfl|(simp (disch:=omega) only [vd,e00,o1,u1,u2,u3,l1,t1,Bj,Nat.reduceAdd,Nat.reduceMul,f3,ek,o2,Bv,B8,l2,t2,L1,T1,L2,T2,l3,L3,T3,l4,t4,L4,T4]<;>with_reducible rfl))
  |((with_reducible first|apply Ak|apply Al);· first|with_reducible rfl|omega|(simp (disch:=omega) only [gT,vd,e00,o1,u1,u2,u3,l1,t1,Bj,Nat.reduceAdd,Nat.reduceMul,f3,ek,o2,Bv,B8,l2,t2,L1,T1,L2,T2,l3,L3,T3,l4,t4,L4,T4]<;>omega))
  |(with_reducible apply Ao;· first|with_reducible rfl|(simp (disch:=omega) only [gF,vd,e00,o1,u1,u2,u3,l1,t1,Bj,Nat.reduceAdd,Nat.reduceMul,f3,ek,o2,Bv,B8,l2,t2,L1,T1,L2,T2,l3,L3,T3,l4,t4,L4,T4]<;>omega))
 try simp (disch:=omega) only [vd,e00,o1,u1,u2,u3,l1,t1,Bj,Nat.reduceAdd,Nat.reduceMul,f3,ek,o2,Bv,B8,l2,t2,L1,T1,L2,T2,l3,L3,T3,l4,t4,L4,T4]
 all_goals rfl
theorem Afi (hfu:1000<=fu){a:Ad}(h:a.good):Ae C0 Tryz.prog fu (d+4) Jv [.lst false 1 204 (Ai .u8 (Y6 a))]=some ⟨[.agg a.cells,.sc (.int .i64 0)],[]⟩:=by
 rw [Tk];have vd:=QW (fu:=fu) (d:=d) hfu h;simp only [Ad.cells,Tb] at vd ⊢;have e00:((0:Int) != 0)=false:=rfl;have n1:(((204:Nat):Int) != 11)=true:=rfl;have n2:(((204:Nat):Int) != 204)=false:=rfl
 have d1:List.take 8 (Ai .u8 (Y6 a))=Ai .u8 (Ci a.rp):=by
  rw [D3]
  congr 1
 have w1:=JT (fu:=fu) (d:=d+2) hfu (l:=Ci a.rp) (C3 _);rw [CD h.rp.1 h.rp.2] at w1
 have d2:List.take 8 (List.drop 11 (Ai .u8 (Y6 a)))=Ai .u8 (Ci a.model):=by
  rw [E2,D3]
  congr 1
 have w2:=JT (fu:=fu) (d:=d+2) hfu (l:=Ci a.model) (C3 _);rw [CD h.model.1 h.model.2] at w2;have g8:(Ai .u8 (Y6 a)).getD 8 .top=.sc (.int .u8 a.flags):=rfl;have g9:(Ai .u8 (Y6 a)).getD 9 .top=.sc (.int .u8 a.cnt):=rfl;have g10:(Ai .u8 (Y6 a)).getD 10 .top=.sc (.int .u8 a.rng):=rfl;have u1:wrap .i64 a.flags=a.flags:=by rcases h.flags with e|e|e|e<;>rw [e]<;>decide
 have u2:wrap .i64 a.cnt=a.cnt:=by rcases h.cnt with e|e<;>rw [e]<;>decide
 have u3:wrap .i64 a.rng=a.rng:=by rw [h.rng];decide
 have D19:(Y6 a).drop 19=a.id_++G0 a.key:=rfl
 have D195:(Y6 a).drop 195=G0 a.key:=by
  rw [show 195=19+a.id_.length by rw [h.idl],←List.drop_drop,D19,List.drop_left' rfl]
 have d3:List.take 9 (List.drop 195 (Ai .u8 (Y6 a)))=Ai .u8 (G0 a.key):=by
  rw [E2,D3,D195]
  congr 1
 have dk:=RW (fu:=fu) (d:=d+1) hfu (l:=G0 a.key) Adt;rw [UZ h.key h.root] at dk;simp only [FT,Ky.cells,SC] at dk
 have d4:List.take 176 (List.drop 19 (Ai .u8 (Y6 a)))=Ai .u8 a.id_:=by
  rw [E2,D3,D19,List.take_left' h.idl]
 have t4:List.take 176 (Ai .u8 a.id_)=Ai .u8 a.id_:=I0 (by rw [Aq,h.idl];omega)
 have l4:(Ai .u8 a.id_).length=176:=by rw [Aq,h.idl]
 have f3:(Ed .i64 a.flags 64 != 0)=true:=by rcases h.flags with e|e|e|e<;>rw [e]<;>decide
 have c1:decide (((204:Nat):Int)>11)=true:=rfl;have c2:(true==true)=true:=rfl;have s9:204-195=9:=rfl;have il:=h.idl;rw [il] at vd ⊢;generalize Ai .u8 (Y6 a)=E at *
 generalize Ai .u8 (Ci a.rp)=e1 at *
 generalize Ai .u8 (Ci a.model)=e2 at *
 generalize Ai .u8 (G0 a.key)=e3 at *
 generalize Ai .u8 a.id_=e4 at *
 try unfold Aa
 repeat first
  |((with_reducible first|apply Ap|apply Ag|apply Am|apply As|apply Az|apply A6|apply Ah);· first|with_reducible rfl|(simp (disch:=omega) only [n1,n2,B8,d1,w1,g8,g9,g10,u1,u2,u3,c1,s9,Bj,d3,dk,e00,d2,w2,d4,l4,t4,vd,f3,c2,Bp]<;>with_reducible rfl))
  |((with_reducible first|apply Ak|apply Al);· first|with_reducible rfl|omega|(simp (disch:=omega) only [gT,n1,n2,B8,d1,w1,g8,g9,g10,u1,u2,u3,c1,s9,Bj,d3,dk,e00,d2,w2,d4,l4,t4,vd,f3,c2,Bp]<;>omega))
  |(with_reducible apply Ao;· first|with_reducible rfl|(simp (disch:=omega) only [gF,n1,n2,B8,d1,w1,g8,g9,g10,u1,u2,u3,c1,s9,Bj,d3,dk,e00,d2,w2,d4,l4,t4,vd,f3,c2,Bp]<;>omega))
 try simp (disch:=omega) only [n1,n2,B8,d1,w1,g8,g9,g10,u1,u2,u3,c1,s9,Bj,d3,dk,e00,d2,w2,d4,l4,t4,vd,f3,c2,Bp]
 all_goals rfl
end
end
section
open Go.IntKind (wrap)
set_option maxRecDepth 100000
abbrev Iu:FuncId:=24
theorem Q4 (fu d:Nat)(a0_0 a0_1:Int)(a0_2n:Nat)(a0_2:List PV)(a0_3:Bool)(a1 a2:ByteArray)(a3n:Nat)(a3:List PV)(a4:Int)(a5:Bool)(a6:Int):Ae C0 Tryz.prog fu (d+1) Iu [.agg [.sc (.int .u64 a0_0),.sc (.int .i64 a0_1),.lst false 1 a0_2n a0_2,.sc (.bool a0_3)],.sc (.string a1),.sc (.string a2),.lst false 1 a3n a3,.sc (.int .i64 a4),.sc (.bool a5),.sc (.int .i64 a6)]=(fun (call:Ar)=>Aj (call 47 [.agg [.sc (.int .i64 1),.lst false 1 a3n a3,.sc (.string a2),.sc (.bool false),.sc (.string (ByteArray.mk #[]))]]) fun x1 x2=>Ac x2<|Ab x1 fun x3 x4=>Co x3 fun x5=>Ab x4 fun x6 x7=>Af .i64 x6 fun x8=>Ac x7<|Aj (call 48 [.sc (.string a1)]) fun x9 Ck=>Ac Ck<|Ab x9 fun Bn Cw=>Af .u64 Bn fun Da=>Ac Cw<|Aj (call 49 [.agg [.sc (.int .u64 a0_0),.sc (.int .i64 a0_1),.lst false 1 a0_2n a0_2,.sc (.bool a0_3)],.sc (.bool a5)]) fun Cq Cy=>Ac Cy<|Ab Cq fun Db Dq=>Af .i64 Db fun D2=>Ac Dq<|Aa (CH .i64 D2 64) fun D0=>Aj (call 16 [.sc (.int .u64 a0_0),.sc (.int .i64 a0_1)]) fun D9 Fj=>Ac Fj<|Ab D9 fun Cn Fn=>C2 Cn fun Dj=>Ab Dj fun B3 Et=>Af .i64 B3 fun F1=>Ab Et fun Bm Cj=>Af .u64 Bm fun Gt=>Ac Cj<|Ac Fn<|A4 (a4==1) (Aj (call 50 [.agg [.sc (.int .u64 Da),.sc (.int .i64 D0),.sc (.int .i64 1),.sc (.int .i64 0),.sc (.int .u64 3),.lst false 1 a0_2n a0_2,.sc (.int .i64 F1),.sc (.int .u64 Gt)]]) fun Gu Hz=>Ac Hz<|Ab Gu fun Ha Il=>Dc 1 Ha fun G4 Ir=>Ab Il fun Kr F0=>Af .i64 Kr fun H2=>Ac F0<|Aj (call 28 [.sc (.string x5)]) fun Nc Ot=>Ac Ot<|Ab Nc fun Kc J5=>Af .u64 Kc fun Nk=>Ac J5<|Ay (decide (0+G4*1<=Ir.length))<|Aj (call 27 [.lst false 1 G4 (List.take (G4*1) (List.drop 0 Ir)),.sc (.int .u64 Nk)]) fun Md Oo=>Ac Oo<|Ab Md fun Py Pw=>Af .u64 Py fun Ox=>Ac Pw<|A4 (a4==1) (Aj (call 17 [.sc (.int .u64 a0_0),.sc (.int .i64 a0_1),.sc (.int .i64 0),.sc (.int .u64 Ox)]) fun Rb Q5=>Ac Q5<|Ab Rb fun Q0 Ks=>C2 Q0 fun S9=>Ab S9 fun Ql Ru=>Af .i64 Ql fun Nz=>Ab Ru fun Pz Q9=>Dc 1 Pz fun Rk Pr=>Ab Q9 fun Te Uv=>Dc 1 Te fun S7 Rz=>Ac Uv<|Ab Ks fun Ro Q7=>Af .i64 Ro fun Vv=>Ac Q7<|Ay (decide (0+Rk*1<=Pr.length))<|Ay (decide (0+S7*1<=Rz.length))<|Aj (call 18 [.agg [.sc (.int .i64 Nz),.lst false 1 Rk (List.take (Rk*1) (List.drop 0 Pr)),.lst false 1 S7 (List.take (S7*1) (List.drop 0 Rz))]]) fun Tn S5=>Ac S5<|Ab Tn fun Tj Uz=>Dc 1 Tj fun Tm S8=>Ab Uz fun Rr Vg=>Af .i64 Rr fun T0=>Ac Vg<|Ay (decide (0+G4*1<=Ir.length))<|Ay (decide (0+Tm*1<=S8.length))<|some (A0.mk [.agg [.sc (.int .i64 1),.sc (.string x5),.lst false 1 G4 (List.take (G4*1) (List.drop 0 Ir)),.lst false 1 Tm (List.take (Tm*1) (List.drop 0 S8)),.lst false 1 0 [],.sc (.int .i64 a4),.lst false 1 a0_2n a0_2,.sc (.string (ByteArray.mk #[]))]] [])) (A4 (a4==2) (Aj (call 17 [.sc (.int .u64 33),.sc (.int .i64 4),.sc (.int .i64 a6),.sc (.int .u64 Ox)]) fun Vl W8=>Ac W8<|Ab Vl fun Wv Yq=>C2 Wv fun Wu=>Ab Wu fun X5 Xq=>Af .i64 X5 fun Y5=>Ab Xq fun Z3 AL=>Dc 1 Z3 fun Re S6=>Ab AL fun Uc GO=>Dc 1 Uc fun DV FL=>Ac GO<|Ab Yq fun JV MP=>Af .i64 JV fun OZ=>Ac MP<|Ay (decide (0+Re*1<=S6.length))<|Ay (decide (0+DV*1<=FL.length))<|Aj (call 18 [.agg [.sc (.int .i64 Y5),.lst false 1 Re (List.take (Re*1) (List.drop 0 S6)),.lst false 1 DV (List.take (DV*1) (List.drop 0 FL))]]) fun NC OC=>Ac OC<|Ab NC fun NL S0=>Dc 1 NL fun Px Gw=>Ab S0 fun Iz Vh=>Af .i64 Iz fun P6=>Ac Vh<|Aj (call 51 []) fun Oh J9=>Ac J9<|Ab Oh fun Vk Xx=>Dc 1 Vk fun Ve Vj=>Ac Xx<|Ay (decide (0+G4*1<=Ir.length))<|Ay (decide (0+Px*1<=Gw.length))<|Ay (decide (0+Ve*1<=Vj.length))<|some (A0.mk [.agg [.sc (.int .i64 1),.sc (.string x5),.lst false 1 G4 (List.take (G4*1) (List.drop 0 Ir)),.lst false 1 Px (List.take (Px*1) (List.drop 0 Gw)),.lst false 1 Ve (List.take (Ve*1) (List.drop 0 Vj)),.sc (.int .i64 a4),.lst false 1 a0_2n a0_2,.sc (.string (ByteArray.mk #[]))]] [])) (Ay (decide (0+G4*1<=Ir.length))<|some (A0.mk [.agg [.sc (.int .i64 1),.sc (.string x5),.lst false 1 G4 (List.take (G4*1) (List.drop 0 Ir)),.lst false 1 0 [],.lst false 1 0 [],.sc (.int .i64 a4),.lst false 1 a0_2n a0_2,.sc (.string (ByteArray.mk #[]))]] [])))) (Aj (call 50 [.agg [.sc (.int .u64 Da),.sc (.int .i64 D0),.sc (.int .i64 0),.sc (.int .i64 0),.sc (.int .u64 3),.lst false 1 a0_2n a0_2,.sc (.int .i64 F1),.sc (.int .u64 Gt)]]) fun Ig Ko=>Ac Ko<|Ab Ig fun Zp Y8=>Dc 1 Zp fun M8 Q6=>Ab Y8 fun Zn Xh=>Af .i64 Zn fun Ym=>Ac Xh<|Aj (call 28 [.sc (.string x5)]) fun Yz AG=>Ac AG<|Ab Yz fun Yy Zb=>Af .u64 Yy fun Yg=>Ac Zb<|Ay (decide (0+M8*1<=Q6.length))<|Aj (call 27 [.lst false 1 M8 (List.take (M8*1) (List.drop 0 Q6)),.sc (.int .u64 Yg)]) fun P5 U0=>Ac U0<|Ab P5 fun Zx Zz=>Af .u64 Zx fun Xo=>Ac Zz<|A4 (a4==1) (Aj (call 17 [.sc (.int .u64 a0_0),.sc (.int .i64 a0_1),.sc (.int .i64 0),.sc (.int .u64 Xo)]) fun FZ Yu=>Ac Yu<|Ab FZ fun W1 Z5=>C2 W1 fun GB=>Ab GB fun EM FM=>Af .i64 EM fun GI=>Ab FM fun Xd Ys=>Dc 1 Xd fun BD DG=>Ab Ys fun FC AM=>Dc 1 FC fun V3 Yr=>Ac AM<|Ab Z5 fun DN GK=>Af .i64 DN fun OA=>Ac GK<|Ay (decide (0+BD*1<=DG.length))<|Ay (decide (0+V3*1<=Yr.length))<|Aj (call 18 [.agg [.sc (.int .i64 GI),.lst false 1 BD (List.take (BD*1) (List.drop 0 DG)),.lst false 1 V3 (List.take (V3*1) (List.drop 0 Yr))]]) fun OT LH=>Ac LH<|Ab OT fun Z2 FI=>Dc 1 Z2 fun GC GQ=>Ab FI fun MB GT=>Af .i64 MB fun IJ=>Ac GT<|Ay (decide (0+M8*1<=Q6.length))<|Ay (decide (0+GC*1<=GQ.length))<|some (A0.mk [.agg [.sc (.int .i64 1),.sc (.string x5),.lst false 1 M8 (List.take (M8*1) (List.drop 0 Q6)),.lst false 1 GC (List.take (GC*1) (List.drop 0 GQ)),.lst false 1 0 [],.sc (.int .i64 a4),.lst false 1 a0_2n a0_2,.sc (.string (ByteArray.mk #[]))]] [])) (A4 (a4==2) (Aj (call 17 [.sc (.int .u64 33),.sc (.int .i64 4),.sc (.int .i64 a6),.sc (.int .u64 Xo)]) fun HQ LJ=>Ac LJ<|Ab HQ fun KY JM=>C2 KY fun KG=>Ab KG fun EK IC=>Af .i64 EK fun OK=>Ab IC fun FR HN=>Dc 1 FR fun EN GM=>Ab HN fun KU QA=>Dc 1 KU fun KD OS=>Ac QA<|Ab JM fun JG HO=>Af .i64 JG fun PQ=>Ac HO<|Ay (decide (0+EN*1<=GM.length))<|Ay (decide (0+KD*1<=OS.length))<|Aj (call 18 [.agg [.sc (.int .i64 OK),.lst false 1 EN (List.take (EN*1) (List.drop 0 GM)),.lst false 1 KD (List.take (KD*1) (List.drop 0 OS))]]) fun HB OE=>Ac OE<|Ab HB fun Acx EI=>Dc 1 Acx fun W2 QY=>Ab EI fun XZ Ac2=>Af .i64 XZ fun Abo=>Ac Ac2<|Aj (call 51 []) fun YC YQ=>Ac YQ<|Ab YC fun XN XE=>Dc 1 XN fun PX YS=>Ac XE<|Ay (decide (0+M8*1<=Q6.length))<|Ay (decide (0+W2*1<=QY.length))<|Ay (decide (0+PX*1<=YS.length))<|some (A0.mk [.agg [.sc (.int .i64 1),.sc (.string x5),.lst false 1 M8 (List.take (M8*1) (List.drop 0 Q6)),.lst false 1 W2 (List.take (W2*1) (List.drop 0 QY)),.lst false 1 PX (List.take (PX*1) (List.drop 0 YS)),.sc (.int .i64 a4),.lst false 1 a0_2n a0_2,.sc (.string (ByteArray.mk #[]))]] [])) (Ay (decide (0+M8*1<=Q6.length))<|some (A0.mk [.agg [.sc (.int .i64 1),.sc (.string x5),.lst false 1 M8 (List.take (M8*1) (List.drop 0 Q6)),.lst false 1 0 [],.lst false 1 0 [],.sc (.int .i64 a4),.lst false 1 a0_2n a0_2,.sc (.string (ByteArray.mk #[]))]] []))))) (Ae C0 Tryz.prog fu d):=by kernel_rfl
abbrev Kq:FuncId:=10
theorem Vc (fu d a0_0n:Nat)(a0_0:List PV)(a0_1 a1_0:Int)(a1_1:ByteArray)(Sz:Nat)(a1_2:List PV)(Su:Nat)(a1_3:List PV)(I9:Nat)(a1_4:List PV)(a1_5:Int)(S1:Nat)(a1_6:List PV)(a1_7:ByteArray):Ae C0 Tryz.prog fu (d+1) Kq [.pbox [.lst false 1 a0_0n a0_0,.sc (.int .i64 a0_1)],.agg [.sc (.int .i64 a1_0),.sc (.string a1_1),.lst false 1 Sz a1_2,.lst false 1 Su a1_3,.lst false 1 I9 a1_4,.sc (.int .i64 a1_5),.lst false 1 S1 a1_6,.sc (.string a1_7)]]=(fun (call:Ar)=>Aj (call 9 [.pbox [.lst false 1 a0_0n a0_0,.sc (.int .i64 a0_1)],.sc (.int .i64 12)]) fun x1 x2=>Ab x1 fun x3 x4=>Af .i64 x3 fun x5=>Ac x4<|Ab x2 fun x6 x7=>Ab x6 fun x8 x9=>F8 1 x8 fun Ck Bn Cw=>Ab x9 fun Da Cq=>Af .i64 Da fun Cy=>Ac Cq<|Ac x7<|A4 (x5==0) (Aa (wrap .i64 (3-a1_0)) fun Db=>some (A0.mk [.agg [.sc (.int .i64 Db),.sc (.string a1_1),.lst false 1 Sz a1_2,.lst false 1 Su a1_3,.lst false 1 I9 a1_4,.sc (.int .i64 a1_5),.lst false 1 S1 a1_6,.sc (.string a1_7)]] [[.lst false 1 Bn Cw,.sc (.int .i64 Cy)]])) (A4 (x5==1) (Ay (decide (ByteArray.size a1_1+1<=9223372036854775807))<|Aa (a1_1++ByteArray.mk #[32]) fun Dq=>some (A0.mk [.agg [.sc (.int .i64 a1_0),.sc (.string Dq),.lst false 1 Sz a1_2,.lst false 1 Su a1_3,.lst false 1 I9 a1_4,.sc (.int .i64 a1_5),.lst false 1 S1 a1_6,.sc (.string a1_7)]] [[.lst false 1 Bn Cw,.sc (.int .i64 Cy)]])) (A4 (x5==2) (Aa (wrap .i64 (Int.tdiv (↑(ByteArray.size a1_1):Int) 2)) fun D2=>Ay (decide (0<=D2))<|Ay (decide (Int.toNat D2<=ByteArray.size a1_1))<|Aa (ByteArray.extract a1_1 0 D2.toNat) fun D0=>some (A0.mk [.agg [.sc (.int .i64 a1_0),.sc (.string D0),.lst false 1 Sz a1_2,.lst false 1 Su a1_3,.lst false 1 I9 a1_4,.sc (.int .i64 a1_5),.lst false 1 S1 a1_6,.sc (.string a1_7)]] [[.lst false 1 Bn Cw,.sc (.int .i64 Cy)]])) (A4 (x5==3) (Aj (call 9 [.pbox [.lst false 1 Bn Cw,.sc (.int .i64 Cy)],.sc (.int .i64 300)]) fun D9 Fj=>Ab D9 fun Cn Fn=>Af .i64 Cn fun Dj=>Ac Fn<|Ab Fj fun B3 Et=>Ab B3 fun F1 Bm=>F8 1 F1 fun Cj Gt Gu=>Ab Bm fun Hz Ha=>Af .i64 Hz fun Il=>Ac Ha<|Ac Et<|Aj (call 29 [.lst false 1 Sz a1_2,.sc (.int .i64 Dj)]) fun G4 Ir=>Ac Ir<|Ab G4 fun Kr F0=>Dc 1 Kr fun H2 Nc=>Ac F0<|Ay (decide (0+H2*1<=Nc.length))<|some (A0.mk [.agg [.sc (.int .i64 a1_0),.sc (.string a1_1),.lst false 1 H2 (List.take (H2*1) (List.drop 0 Nc)),.lst false 1 Su a1_3,.lst false 1 I9 a1_4,.sc (.int .i64 a1_5),.lst false 1 S1 a1_6,.sc (.string a1_7)]] [[.lst false 1 Gt Gu,.sc (.int .i64 Il)]])) (A4 (x5==4) (Aj (call 9 [.pbox [.lst false 1 Bn Cw,.sc (.int .i64 Cy)],.sc (.int .i64 300)]) fun Ot Kc=>Ab Ot fun J5 Nk=>Af .i64 J5 fun Md=>Ac Nk<|Ab Kc fun Oo Py=>Ab Oo fun Pw Ox=>F8 1 Pw fun Rb Q5 Q0=>Ab Ox fun Ks S9=>Af .i64 Ks fun Ql=>Ac S9<|Ac Py<|Aj (call 29 [.lst false 1 Sz a1_2,.sc (.int .i64 Md)]) fun Ru Nz=>Ac Nz<|Ab Ru fun Pz Q9=>Dc 1 Pz fun Rk Pr=>Ac Q9<|Ay (decide (0+Rk*1<=Pr.length))<|some (A0.mk [.agg [.sc (.int .i64 a1_0),.sc (.string a1_1),.lst false 1 Rk (List.take (Rk*1) (List.drop 0 Pr)),.lst false 1 Su a1_3,.lst false 1 I9 a1_4,.sc (.int .i64 a1_5),.lst false 1 S1 a1_6,.sc (.string a1_7)]] [[.lst false 1 Q5 Q0,.sc (.int .i64 Ql)]])) (A4 (x5==5) (Aj (call 9 [.pbox [.lst false 1 Bn Cw,.sc (.int .i64 Cy)],.sc (.int .i64 300)]) fun Te Uv=>Ab Te fun S7 Rz=>Af .i64 S7 fun Ro=>Ac Rz<|Ab Uv fun Q7 Vv=>Ab Q7 fun Tn S5=>F8 1 Tn fun Tj Uz Tm=>Ab S5 fun S8 Rr=>Af .i64 S8 fun Vg=>Ac Rr<|Ac Vv<|Aj (call 29 [.lst false 1 Su a1_3,.sc (.int .i64 Ro)]) fun T0 Vl=>Ac Vl<|Ab T0 fun W8 Wv=>Dc 1 W8 fun Yq Wu=>Ac Wv<|Ay (decide (0+Yq*1<=Wu.length))<|some (A0.mk [.agg [.sc (.int .i64 a1_0),.sc (.string a1_1),.lst false 1 Sz a1_2,.lst false 1 Yq (List.take (Yq*1) (List.drop 0 Wu)),.lst false 1 I9 a1_4,.sc (.int .i64 a1_5),.lst false 1 S1 a1_6,.sc (.string a1_7)]] [[.lst false 1 Uz Tm,.sc (.int .i64 Vg)]])) (A4 (x5==6) (Aj (call 9 [.pbox [.lst false 1 Bn Cw,.sc (.int .i64 Cy)],.sc (.int .i64 300)]) fun X5 Xq=>Ab X5 fun Y5 Z3=>Af .i64 Y5 fun AL=>Ac Z3<|Ab Xq fun Re S6=>Ab Re fun Uc GO=>F8 1 Uc fun DV FL JV=>Ab GO fun MP OZ=>Af .i64 MP fun NC=>Ac OZ<|Ac S6<|Aj (call 29 [.lst false 1 Su a1_3,.sc (.int .i64 AL)]) fun OC NL=>Ac NL<|Ab OC fun S0 Px=>Dc 1 S0 fun Gw Iz=>Ac Px<|Ay (decide (0+Gw*1<=Iz.length))<|some (A0.mk [.agg [.sc (.int .i64 a1_0),.sc (.string a1_1),.lst false 1 Sz a1_2,.lst false 1 Gw (List.take (Gw*1) (List.drop 0 Iz)),.lst false 1 I9 a1_4,.sc (.int .i64 a1_5),.lst false 1 S1 a1_6,.sc (.string a1_7)]] [[.lst false 1 FL JV,.sc (.int .i64 NC)]])) (A4 (x5==7) (Aj (call 9 [.pbox [.lst false 1 Bn Cw,.sc (.int .i64 Cy)],.sc (.int .i64 5)]) fun Vh P6=>Ab Vh fun Oh J9=>Af .i64 Oh fun Vk=>Ac J9<|Ab P6 fun Xx Ve=>Ab Xx fun Vj Ig=>F8 1 Vj fun Ko Zp Y8=>Ab Ig fun M8 Q6=>Af .i64 M8 fun Zn=>Ac Q6<|Ac Ve<|Aa (wrap .i64 (Vk-1)) fun Xh=>some (A0.mk [.agg [.sc (.int .i64 a1_0),.sc (.string a1_1),.lst false 1 Sz a1_2,.lst false 1 Su a1_3,.lst false 1 I9 a1_4,.sc (.int .i64 Xh),.lst false 1 S1 a1_6,.sc (.string a1_7)]] [[.lst false 1 Zp Y8,.sc (.int .i64 Zn)]])) (A4 (x5==8) (Aj (call 9 [.pbox [.lst false 1 Bn Cw,.sc (.int .i64 Cy)],.sc (.int .i64 200)]) fun Ym Yz=>Ab Ym fun AG Yy=>Af .i64 AG fun Zb=>Ac Yy<|Ab Yz fun Yg P5=>Ab Yg fun U0 Zx=>F8 1 U0 fun Zz Xo FZ=>Ab Zx fun Yu W1=>Af .i64 Yu fun Z5=>Ac W1<|Ac P5<|Aj (call 29 [.lst false 1 S1 a1_6,.sc (.int .i64 Zb)]) fun GB EM=>Ac EM<|Ab GB fun FM GI=>Dc 1 FM fun Xd Ys=>Ac GI<|Ay (decide (0+Xd*1<=Ys.length))<|some (A0.mk [.agg [.sc (.int .i64 a1_0),.sc (.string a1_1),.lst false 1 Sz a1_2,.lst false 1 Su a1_3,.lst false 1 I9 a1_4,.sc (.int .i64 a1_5),.lst false 1 Xd (List.take (Xd*1) (List.drop 0 Ys)),.sc (.string a1_7)]] [[.lst false 1 Xo FZ,.sc (.int .i64 Z5)]])) (A4 (x5==9) (Aj (call 9 [.pbox [.lst false 1 Bn Cw,.sc (.int .i64 Cy)],.sc (.int .i64 2)]) fun BD DG=>Ab BD fun FC AM=>Af .i64 FC fun V3=>Ac AM<|Ab DG fun Yr DN=>Ab Yr fun GK OA=>F8 1 GK fun OT LH Z2=>Ab OA fun FI GC=>Af .i64 FI fun GQ=>Ac GC<|Ac DN<|Ay (decide (0<=V3)&&decide (V3<2))<|Co (List.getD [.sc (.string (ByteArray.mk #[])),.sc (.string (ByteArray.mk #[120]))] (0+Int.toNat V3*1) .top) fun MB=>some (A0.mk [.agg [.sc (.int .i64 a1_0),.sc (.string a1_1),.lst false 1 Sz a1_2,.lst false 1 Su a1_3,.lst false 1 I9 a1_4,.sc (.int .i64 a1_5),.lst false 1 S1 a1_6,.sc (.string MB)]] [[.lst false 1 LH Z2,.sc (.int .i64 GQ)]])) (A4 (x5==10) (Ay (decide (a1_4.length=I9*1)&&decide (I9*24<=1099511627776)&&decide (I9<=1099511627776))<|Aj (call 9 [.pbox [.lst false 1 Bn Cw,.sc (.int .i64 Cy)],.sc (.int .i64 20)]) fun GT IJ=>Ab GT fun HQ LJ=>Af .i64 HQ fun KY=>Ac LJ<|Ab IJ fun JM KG=>Ab JM fun EK IC=>F8 1 EK fun OK FR HN=>Ab IC fun EN GM=>Af .i64 EN fun KU=>Ac GM<|Ac KG<|Aj (call 25 [.sc (.int .i64 3),.sc (.int .i64 KY)]) fun QA KD=>Ac KD<|Ab QA fun OS JG=>Dc 1 OS fun HO PQ=>Ac JG<|Ay (decide (0+HO*1<=PQ.length))<|Ay (decide (I9*1<=a1_4.length)&&true&&decide ((I9+1)*24<=1099511627776)&&decide (I9+1<=1099511627776))<|Aa (I9+1) fun HB=>Aa (List.take (I9*1) a1_4++[.lst false 1 HO (List.take (HO*1) (List.drop 0 PQ))]) fun OE=>Ay (decide (0+HB*1<=OE.length))<|some (A0.mk [.agg [.sc (.int .i64 a1_0),.sc (.string a1_1),.lst false 1 Sz a1_2,.lst false 1 Su a1_3,.lst false 1 HB (List.take (HB*1) (List.drop 0 OE)),.sc (.int .i64 a1_5),.lst false 1 S1 a1_6,.sc (.string a1_7)]] [[.lst false 1 FR HN,.sc (.int .i64 KU)]])) (A4 (x5==11) (A4 (decide ((↑I9:Int)>0)) (Ay (decide (0<(↑I9:Int)))<|F8 1 (List.getD a1_4 0 .top) fun Acx EI W2=>Aj (call 9 [.pbox [.lst false 1 Bn Cw,.sc (.int .i64 Cy)],.sc (.int .i64 300)]) fun QY XZ=>Ab QY fun Ac2 Abo=>Af .i64 Ac2 fun YC=>Ac Abo<|Ab XZ fun YQ XN=>Ab YQ fun XE PX=>F8 1 XE fun YS Aeb Afj=>Ab PX fun XY Aar=>Af .i64 XY fun Adr=>Ac Aar<|Ac XN<|Aj (call 29 [.lst false 1 EI W2,.sc (.int .i64 YC)]) fun Adm Aet=>Ac Aet<|Ab Adm fun Ag9 QP=>Dc 1 Ag9 fun NW Aag=>Ac QP<|Ay (decide (0+NW*1<=Aag.length))<|some (A0.mk [.agg [.sc (.int .i64 a1_0),.sc (.string a1_1),.lst false 1 Sz a1_2,.lst false 1 Su a1_3,.lst false 1 1 [.lst false 1 NW (List.take (NW*1) (List.drop 0 Aag))],.sc (.int .i64 a1_5),.lst false 1 S1 a1_6,.sc (.string a1_7)]] [[.lst false 1 Aeb Afj,.sc (.int .i64 Adr)]])) (some (A0.mk [.agg [.sc (.int .i64 a1_0),.sc (.string a1_1),.lst false 1 Sz a1_2,.lst false 1 Su a1_3,.lst false 1 I9 a1_4,.sc (.int .i64 a1_5),.lst false 1 S1 a1_6,.sc (.string a1_7)]] [[.lst false 1 Bn Cw,.sc (.int .i64 Cy)]]))) (some (A0.mk [.agg [.sc (.int .i64 a1_0),.sc (.string a1_1),.lst false 1 Sz a1_2,.lst false 1 Su a1_3,.lst false 1 I9 a1_4,.sc (.int .i64 a1_5),.lst false 1 S1 a1_6,.sc (.string a1_7)]] [[.lst false 1 Bn Cw,.sc (.int .i64 Cy)]])))))))))))))) (Ae C0 Tryz.prog fu d):=by kernel_rfl
abbrev Qv:FuncId:=8
theorem CM (fu d:Nat)(a0 a1:Int)(a2 a3:Int):Ae C0 Tryz.prog fu (d+1) Qv [.sc (.int .i64 a0),.sc (.int .i64 a1),.sc (.int .i64 a2),.sc (.int .i64 a3)]=(fun (call:Ar)=>Aj (call 11 [.sc (.int .i64 a0),.sc (.int .i64 50)]) fun x1 x2=>Ac x2<|Ab x1 fun x3 x4=>Af .i64 x3 fun x5=>Ac x4<|Aa (Ed .i64 a0 64) fun x6=>Aj (call 23 [.sc (.int .i64 x5),.sc (.int .i64 a1),.sc (.bool (x6==64))]) fun x7 x8=>Ac x8<|Ab x7 fun x9 Ck=>C2 x9 fun Bn=>Ab Bn fun Cw Da=>Af .u64 Cw fun Cq=>Ab Da fun Cy Db=>Af .i64 Cy fun Dq=>Ab Db fun D2 D0=>Dc 1 D2 fun D9 Fj=>Ab D0 fun Cn Fn=>Bx Cn fun Dj=>Ac Fn<|Ac Ck<|Aa (Ed .i64 a0 7) fun B3=>Aj (call 25 [.sc (.int .i64 B3),.sc (.int .i64 16)]) fun Et F1=>Ac F1<|Ab Et fun Bm Cj=>Dc 1 Bm fun Gt Gu=>Ac Cj<|Aa (Ed .i64 a0 128) fun Hz=>Ay (decide (0+D9*1<=Fj.length))<|Ay (decide (0+Gt*1<=Gu.length))<|Aj (call 24 [.agg [.sc (.int .u64 Cq),.sc (.int .i64 Dq),.lst false 1 D9 (List.take (D9*1) (List.drop 0 Fj)),.sc (.bool Dj)],.sc (.string (ByteArray.mk #[101,120,97,109,112,108,101,46,99,111,109])),.sc (.string (ByteArray.mk #[104,116,116,112,115,58,47,47,101,120,97,109,112,108,101,46,99,111,109])),.lst false 1 Gt (List.take (Gt*1) (List.drop 0 Gu)),.sc (.int .i64 a2),.sc (.bool (Hz==128)),.sc (.int .i64 a3)]) fun Ha Il=>Ac Il<|Ab Ha fun G4 Ir=>C2 G4 fun Kr=>Ab Kr fun F0 H2=>Af .i64 F0 fun Nc=>Ab H2 fun Ot Kc=>Co Ot fun J5=>Ab Kc fun Nk Md=>F8 1 Nk fun Oo Py Pw=>Ab Md fun Ox Rb=>F8 1 Ox fun Q5 Q0 Ks=>Ab Rb fun S9 Ql=>F8 1 S9 fun Ru Nz Pz=>Ab Ql fun Q9 Rk=>Af .i64 Q9 fun Pr=>Ab Rk fun Te Uv=>F8 1 Te fun S7 Rz Ro=>Ab Uv fun Q7 Vv=>Co Q7 fun Tn=>Ac Vv<|Ac Ir<|Aj (call 26 [.lst false 1 Py Pw]) fun S5 Tj=>Ac Tj<|Ab S5 fun Uz Tm=>C2 Uz fun S8=>Ab S8 fun Rr Vg=>Af .u64 Rr fun T0=>Ab Vg fun Vl W8=>Af .i64 Vl fun Wv=>Ab W8 fun Yq Wu=>Af .i64 Yq fun X5=>Ab Wu fun Xq Y5=>Af .i64 Xq fun Z3=>Ab Y5 fun AL Re=>Af .u64 AL fun S6=>Ab Re fun Uc GO=>F8 1 Uc fun DV FL JV=>Ab GO fun MP OZ=>Af .i64 MP fun NC=>Ab OZ fun OC NL=>Af .u64 OC fun S0=>Ac NL<|Ab Tm fun Px Gw=>Af .i64 Px fun Iz=>Ac Gw<|Aj (call 28 [.sc (.string J5)]) fun Vh P6=>Ac P6<|Ab Vh fun Oh J9=>Af .u64 Oh fun Vk=>Ac J9<|Aj (call 27 [.lst false 1 Py Pw,.sc (.int .u64 Vk)]) fun Xx Ve=>Ac Ve<|Ab Xx fun Vj Ig=>Af .u64 Vj fun Ko=>Ac Ig<|some (A0.mk [.agg [.sc (.int .i64 Nc),.sc (.string J5),.lst false 1 Py Pw,.lst false 1 Q0 Ks,.lst false 1 Nz Pz,.sc (.int .i64 Pr),.lst false 1 Rz Ro,.sc (.string Tn)],.agg [.sc (.int .u64 T0),.sc (.int .i64 Wv),.sc (.int .i64 X5),.sc (.int .i64 Z3),.sc (.int .u64 S6),.lst false 1 FL JV,.sc (.int .i64 NC),.sc (.int .u64 S0)],.sc (.int .u64 Ko)] [])) (Ae C0 Tryz.prog fu d):=by kernel_rfl
abbrev Pn:FuncId:=13
noncomputable def Cs (fu:Nat)(call:Ar)(nn:Nat)(y0:Int):Option A0:=Cz C0 Tryz.prog fu call 13 Tryz.f13 (B9 Tryz.f13) [] [.r,.l,.r,.l] nn ⟨lk [(1,(.sc (.int .i64 y0)))],Gl []⟩
theorem Lt (fu:Nat)(call:Ar)(nn:Nat)(y0:Int):Cs fu call (nn+1) y0=(A4 (decide (y0<=2)) (Aj (call 8 [.sc (.int .i64 1),.sc (.int .i64 1),.sc (.int .i64 y0),.sc (.int .i64 0)]) fun x1 x2=>Ac x2<|Ab x1 fun x3 x4=>C2 x3 fun x5=>Ab x5 fun x6 x7=>Af .i64 x6 fun x8=>Ab x7 fun x9 Ck=>Co x9 fun Bn=>Ab Ck fun Cw Da=>F8 1 Cw fun Cq Cy Db=>Ab Da fun Dq D2=>F8 1 Dq fun D0 D9 Fj=>Ab D2 fun Cn Fn=>F8 1 Cn fun Dj B3 Et=>Ab Fn fun F1 Bm=>Af .i64 F1 fun Cj=>Ab Bm fun Gt Gu=>F8 1 Gt fun Hz Ha Il=>Ab Gu fun G4 Ir=>Co G4 fun Kr=>Ac Ir<|Ab x4 fun F0 H2=>C2 F0 fun Nc=>Ab Nc fun Ot Kc=>Af .u64 Ot fun J5=>Ab Kc fun Nk Md=>Af .i64 Nk fun Oo=>Ab Md fun Py Pw=>Af .i64 Py fun Ox=>Ab Pw fun Rb Q5=>Af .i64 Rb fun Q0=>Ab Q5 fun Ks S9=>Af .u64 Ks fun Ql=>Ab S9 fun Ru Nz=>F8 1 Ru fun Pz Q9 Rk=>Ab Nz fun Pr Te=>Af .i64 Pr fun Uv=>Ab Te fun S7 Rz=>Af .u64 S7 fun Ro=>Ac Rz<|Ab H2 fun Q7 Vv=>Af .u64 Q7 fun Tn=>Ac Vv<|Aj (call 20 []) fun S5 Tj=>Ac Tj<|Ab S5 fun Uz Tm=>Dc 3 Uz fun S8 Rr=>Ac Tm<|Ay (decide (0+S8*3<=Rr.length))<|Aj (call 14 [.agg [.sc (.int .i64 x8),.sc (.string Bn),.lst false 1 Cy Db,.lst false 1 D9 Fj,.lst false 1 B3 Et,.sc (.int .i64 Cj),.lst false 1 Ha Il,.sc (.string Kr)],.agg [.sc (.int .u64 J5),.sc (.int .i64 Oo),.sc (.int .i64 Ox),.sc (.int .i64 Q0),.sc (.int .u64 Ql),.lst false 1 Q9 Rk,.sc (.int .i64 Uv),.sc (.int .u64 Ro)],.sc (.int .u64 Tn),.lst false 3 S8 (List.take (S8*3) (List.drop 0 Rr)),.lst false 3 0 [],.sc (.int .i64 5)]) fun Vg T0=>Ac T0<|Ab Vg fun Vl W8=>C2 Vl fun Wv=>Ab Wv fun Yq Wu=>Af .i64 Yq fun X5=>Ab Wu fun Xq Y5=>Af .i64 Xq fun Z3=>Ab Y5 fun AL Re=>Af .i64 AL fun S6=>Ac Re<|Ab W8 fun Uc GO=>Af .i64 Uc fun DV=>Ac GO<|A4 (y0==2) (A4 (y0==1) (A4 (DV != 0) (some (A0.mk [.sc (.bool false)] [])) (A4 (!(X5==y0&&(Z3==1&&(S6==0&&true)))) (some (A0.mk [.sc (.bool false)] [])) (Aa (wrap .i64 (y0+1)) fun FL=>Cs fu call (nn) FL))) (A4 (DV != 0) (some (A0.mk [.sc (.bool false)] [])) (A4 (!(X5==y0&&(Z3==1&&(S6==(-1)&&true)))) (some (A0.mk [.sc (.bool false)] [])) (Aa (wrap .i64 (y0+1)) fun JV=>Cs fu call (nn) JV)))) (A4 (y0==1) (A4 (DV != 0) (some (A0.mk [.sc (.bool false)] [])) (A4 (!(X5==y0&&(Z3==(-1)&&(S6==0&&true)))) (some (A0.mk [.sc (.bool false)] [])) (Aa (wrap .i64 (y0+1)) fun MP=>Cs fu call (nn) MP))) (A4 (DV != 0) (some (A0.mk [.sc (.bool false)] [])) (A4 (!(X5==y0&&(Z3==(-1)&&(S6==(-1)&&true)))) (some (A0.mk [.sc (.bool false)] [])) (Aa (wrap .i64 (y0+1)) fun OZ=>Cs fu call (nn) OZ))))) (some (A0.mk [.sc (.bool true)] []))):=by kernel_rfl
theorem Zi (fu d:Nat):Ae C0 Tryz.prog fu (d+1) Pn []=(fun (call:Ar)=>Cs fu call (fu) 0) (Ae C0 Tryz.prog fu d):=by kernel_rfl
end
section
open Go.IntKind (wrap)
set_option maxRecDepth 1000000
theorem PA (dom:Int)(l:List Int):ZX (Em dom l):=Mm _
theorem Ar0 (key dom:Int)(l:List Int):ZX (Aps key dom l):=Mm _
theorem Anr (leaf chain:Int):∀(k:Nat)(p:Int){x:Int},ZX x->ZX (Wl leaf chain k p x)
 |0,_,_,h=>h
 |k+1,p,x,h=>Anr leaf chain k (p+1) (PA _ _)
theorem Asw (seed leaf m:Int):isW (CP seed leaf m):=by
 intro x hx;obtain ⟨k,_,rfl⟩:=List.mem_map.1 hx;exact Anr _ _ _ _ (Ar0 _ _ _)
theorem Agw (seed:Int):∀(l:Nat)(i:Int),ZX (Kn seed l i)
 |0,i=>PA _ _
 |l+1,i=>PA _ _
theorem UR (seed h:Int):ZX (Ey seed h).root:=by
 unfold Ey;split
 ·exact ⟨by simp,by simp⟩
 ·exact Agw _ _ _
theorem WW (seed h:Int):Df (Ey seed h).h=false:=by
 unfold Ey;cases hh:Df h
 ·rw [A3 (by simp)]
  exact hh
 ·rw [Bl rfl];rfl
theorem YL {seed h leaf m:Int}(hh:Df h=false)(ho:Gc leaf h=false):∃s,TQ seed h leaf m=some s∧s.ok∧s.leaf=leaf∧s.chains.length=18∧(s.path.length:Int)=h∧Jp (Ey seed h) m s=0:=by
 have hb:=Gr hh;refine ⟨⟨leaf,CP seed leaf m,(List.range h.toNat).map fun k=>Kn seed k (Y2 leaf k)⟩,?_,⟨Asw _ _ _,?_⟩,rfl,by simp [CP],?_,Ake hh ho⟩
 ·unfold TQ;rw [A3 (by simp [hh]),A3 (by simp [ho])]
 ·intro x hx;obtain ⟨k,_,rfl⟩:=List.mem_map.1 hx;exact Agw _ _ _
 ·simp only [List.length_map,List.length_range];omega
theorem Apv {s:Sg}:(M6 s).length=2+8*s.chains.length+8*s.path.length:=by
 unfold M6;simp only [Ib,H1,Dd];omega
section
variable {fu d:Nat}
theorem Aou {call:Ar}{a0n m0:Nat}{a0:List PV}{b:List Int}{i:Nat}(hi:i<b.length)(hl:b.length<=1000){n:Int}{S B:Nat}(hB:B<=100000)(hL:∀y:ByteArray,y.size<=B->∃s:ByteArray,s.size<=S∧Dh fu call a0n a0 m0 b.length (Ai .u8 b) y ((i+3:Nat):Int)=some ⟨[.sc (.string s)],[]⟩):
  ∀(k nn:Nat) (j:Nat) (y:ByteArray),j+k=4->k<nn->y.size+k<=B->∃s:ByteArray,s.size<=S∧Cp fu call a0n a0 m0 nn b.length (Ai .u8 b) y (i:Int) n (j:Int)=some ⟨[.sc (.string s)],[]⟩:=by
 have w3:wrap .i64 ((i:Int)+3)=((i+3:Nat):Int):=by rw [At (by omega) (by omega)];omega
 intro k
 induction k with
 |zero=>
  intro nn j y hj hn hy;obtain ⟨m,rfl⟩:∃m,nn=m+1:=⟨nn-1,by omega⟩
  obtain ⟨s,s1,s2⟩:=hL y (by omega)
  refine ⟨s,s1,?_⟩;rw [←s2,F3]
  try unfold Aa
  repeat first
   |((with_reducible first|apply Ap|apply Ag|apply Am|apply Ah);· first|with_reducible rfl|(simp (disch:=omega) only [w3]<;>with_reducible rfl))
   |((with_reducible first|apply Ak|apply Al);· first|with_reducible rfl|omega|(simp (disch:=omega) only [gT,w3]<;>omega))
   |(with_reducible apply Ao;· first|with_reducible rfl|(simp (disch:=omega) only [gF,w3]<;>omega))
  try simp (disch:=omega) only [w3]
  all_goals rfl
 |succ k ih=>
  intro nn j y hj hn hy;obtain ⟨m,rfl⟩:∃m,nn=m+1:=⟨nn-1,by omega⟩
  have w4:wrap .i64 ((b.length:Int)-(i:Int))=(b.length:Int)-i:=At (by omega) (by omega)
  by_cases hjj:(j:Int)<=(b.length:Int)-i
  rotate_left
  ·obtain ⟨s,s1,s2⟩:=hL y (by omega)
   refine ⟨s,s1,?_⟩;rw [←s2,F3]
   try unfold Aa
   repeat first
    |((with_reducible first|apply Ap|apply Ag|apply Am|apply Ah);· first|with_reducible rfl|(simp (disch:=omega) only [w3,w4]<;>with_reducible rfl))
    |((with_reducible first|apply Ak|apply Al);· first|with_reducible rfl|omega|(simp (disch:=omega) only [gT,w3,w4]<;>omega))
    |(with_reducible apply Ao;· first|with_reducible rfl|(simp (disch:=omega) only [gF,w3,w4]<;>omega))
   try simp (disch:=omega) only [w3,w4]
   all_goals rfl
  have u1:wrap .u64 (j:Int)=j:=B5 (by omega) (by omega)
  have u2:wrap .u64 (6*(j:Int))=6*j:=B5 (by omega) (by omega)
  have u3:wrap .u64 (18-6*(j:Int))=18-6*j:=B5 (by omega) (by omega)
  have ib:=Alj (a:=El .u64 n (18-6*(j:Int))) (m:=63) (by omega) (by omega)
  obtain ⟨v,hv⟩:∃v,Ed .u64 (El .u64 n (18-6*(j:Int))) 63=v:=⟨_,rfl⟩;rw [hv] at ib;have u4:wrap .u64 (v+1)=v+1:=B5 (by omega) (by omega)
  have w1:wrap .i64 ((j:Int)+1)=((j+1:Nat):Int):=by rw [At (by omega) (by omega)];omega
  have ez:∀A:ByteArray,(A.extract v.toNat (v+1).toNat).size<=1:=by
   intro A;rw [ByteArray.size_extract];omega
  obtain ⟨q,hq⟩:∃q:List UInt8,q=[(65:UInt8),(66:UInt8),(67:UInt8),(68:UInt8),(69:UInt8),(70:UInt8),(71:UInt8),(72:UInt8),(73:UInt8),(74:UInt8),(75:UInt8),(76:UInt8),(77:UInt8),(78:UInt8),(79:UInt8),(80:UInt8),(81:UInt8),(82:UInt8),(83:UInt8),(84:UInt8),(85:UInt8),(86:UInt8),(87:UInt8),(88:UInt8),(89:UInt8),(90:UInt8),(97:UInt8),(98:UInt8),(99:UInt8),(100:UInt8),(101:UInt8),(102:UInt8),(103:UInt8),(104:UInt8),(105:UInt8),(106:UInt8),(107:UInt8),(108:UInt8),(109:UInt8),(110:UInt8),(111:UInt8),(112:UInt8),(113:UInt8),(114:UInt8),(115:UInt8),(116:UInt8),(117:UInt8),(118:UInt8),(119:UInt8),(120:UInt8),(121:UInt8),(122:UInt8),(48:UInt8),(49:UInt8),(50:UInt8),(51:UInt8),(52:UInt8),(53:UInt8),(54:UInt8),(55:UInt8),(56:UInt8),(57:UInt8),(45:UInt8),(95:UInt8)]:=⟨_,rfl⟩;have ez1:=ez (ByteArray.mk q.toArray)
  obtain ⟨s,s1,s2⟩:=ih m (j+1) (y++(ByteArray.mk q.toArray).extract v.toNat (v+1).toNat) (by omega) (by omega) (by rw [ByteArray.size_append];omega)
  refine ⟨s,s1,?_⟩;rw [←s2,F3,←hq]
  try unfold Aa
  repeat first
   |((with_reducible first|apply Ap|apply Ag|apply Am|apply Ah);· first|with_reducible rfl|(simp (disch:=omega) only [w4,u1,u2,u3,hv,u4,w1]<;>with_reducible rfl))
   |((with_reducible first|apply Ak|apply Al);· first|with_reducible rfl|omega|(simp (disch:=omega) only [gT,w4,u1,u2,u3,hv,u4,w1]<;>omega))
   |(with_reducible apply Ao;· first|with_reducible rfl|(simp (disch:=omega) only [gF,w4,u1,u2,u3,hv,u4,w1]<;>omega))
  try simp (disch:=omega) only [w4,u1,u2,u3,hv,u4,w1]
  all_goals rfl
theorem Ahd {call:Ar}{a0n:Nat}{a0:List PV}{b:List Int}(hfu:1000<=fu)(hl:b.length<=300):∀(k nn i:Nat)(y:ByteArray),b.length<=i+3*k->k<nn->i<=b.length+3->y.size+4*k<=10000->∃s:ByteArray,s.size<=y.size+4*k∧Dh fu call a0n a0 nn b.length (Ai .u8 b) y (i:Int)=some ⟨[.sc (.string s)],[]⟩:=by
 intro k
 induction k with
 |zero=>
  intro nn i y h1 h2 h3 h4;obtain ⟨m,rfl⟩:∃m,nn=m+1:=⟨nn-1,by omega⟩
  refine ⟨y,by omega,?_⟩
  rw [F5,Dt _ _ _ (by omega)]
 |succ k ih=>
  intro nn i y h1 h2 h3 h4;obtain ⟨m,rfl⟩:∃m,nn=m+1:=⟨nn-1,by omega⟩
  by_cases hi:i<b.length
  rotate_left
  ·refine ⟨y,by omega,?_⟩
   rw [F5,Dt _ _ _ (by omega)]
  obtain ⟨x,hx⟩:∃x,b[i]?=some x:=⟨_,List.getElem?_eq_getElem hi⟩;have g0:=Qb (k:=.u8) hx;have nt:Int.toNat (i:Int)=i:=Hc _;have nt1:Int.toNat ((i+1:Nat):Int)=i+1:=Hc _;have nt2:Int.toNat ((i+2:Nat):Int)=i+2:=Hc _;have w1:wrap .i64 ((i:Int)+1)=((i+1:Nat):Int):=by rw [At (by omega) (by omega)];omega
  have w2:wrap .i64 ((i:Int)+2)=((i+2:Nat):Int):=by rw [At (by omega) (by omega)];omega
  have inn:∀n:Int,∃s:ByteArray,s.size<=y.size+4*(k+1)∧Cp fu call a0n a0 m fu b.length (Ai .u8 b) y (i:Int) n 0=some ⟨[.sc (.string s)],[]⟩:=by
   intro n;refine Aou (S:=y.size+4*(k+1)) (B:=y.size+4) (m0:=m) hi (by omega) (by omega) (fun z hz=>?_) 4 fu 0 y (by omega) (by omega) (by omega)
   obtain ⟨s,s1,s2⟩:=ih m (i+3) z (by omega) (by omega) (by omega) (by omega)
   exact ⟨s,by omega,s2⟩
  rw [F5];by_cases h1':i+1<b.length
  ·obtain ⟨x1,hx1⟩:∃x,b[i+1]?=some x:=⟨_,List.getElem?_eq_getElem h1'⟩;have g1:=Qb (k:=.u8) hx1;by_cases h2':i+2<b.length
   ·obtain ⟨x2,hx2⟩:∃x,b[i+2]?=some x:=⟨_,List.getElem?_eq_getElem h2'⟩;have g2:=Qb (k:=.u8) hx2;obtain ⟨s,s1,s2⟩:=inn (CH .u64 (CH .u64 (Ff .u64 (wrap .u64 x) 16) (Ff .u64 (wrap .u64 x1) 8)) (wrap .u64 x2));refine ⟨s,s1,?_⟩;rw [←s2]
    try unfold Aa
    repeat first
     |((with_reducible first|apply Ap|apply Ag|apply Am|apply Ah);· first|with_reducible rfl|(simp (disch:=omega) only [nt,nt1,nt2,w1,w2,Bj,g0,g1,g2]<;>with_reducible rfl))
     |((with_reducible first|apply Ak|apply Al);· first|with_reducible rfl|omega|(simp (disch:=omega) only [gT,nt,nt1,nt2,w1,w2,Bj,g0,g1,g2]<;>omega))
     |(with_reducible apply Ao;· first|with_reducible rfl|(simp (disch:=omega) only [gF,nt,nt1,nt2,w1,w2,Bj,g0,g1,g2]<;>omega))
    try simp (disch:=omega) only [nt,nt1,nt2,w1,w2,Bj,g0,g1,g2]
    all_goals rfl
   ·obtain ⟨s,s1,s2⟩:=inn (CH .u64 (Ff .u64 (wrap .u64 x) 16) (Ff .u64 (wrap .u64 x1) 8));refine ⟨s,s1,?_⟩;rw [←s2]
    try unfold Aa
    repeat first
     |((with_reducible first|apply Ap|apply Ag|apply Am|apply Ah);· first|with_reducible rfl|(simp (disch:=omega) only [nt,nt1,nt2,w1,w2,Bj,g0,g1]<;>with_reducible rfl))
     |((with_reducible first|apply Ak|apply Al);· first|with_reducible rfl|omega|(simp (disch:=omega) only [gT,nt,nt1,nt2,w1,w2,Bj,g0,g1]<;>omega))
     |(with_reducible apply Ao;· first|with_reducible rfl|(simp (disch:=omega) only [gF,nt,nt1,nt2,w1,w2,Bj,g0,g1]<;>omega))
    try simp (disch:=omega) only [nt,nt1,nt2,w1,w2,Bj,g0,g1]
    all_goals rfl
  ·obtain ⟨s,s1,s2⟩:=inn (Ff .u64 (wrap .u64 x) 16);refine ⟨s,s1,?_⟩;rw [←s2]
   try unfold Aa
   repeat first
    |((with_reducible first|apply Ap|apply Ag|apply Am|apply Ah);· first|with_reducible rfl|(simp (disch:=omega) only [nt,nt1,nt2,w1,w2,Bj,g0]<;>with_reducible rfl))
    |((with_reducible first|apply Ak|apply Al);· first|with_reducible rfl|omega|(simp (disch:=omega) only [gT,nt,nt1,nt2,w1,w2,Bj,g0]<;>omega))
    |(with_reducible apply Ao;· first|with_reducible rfl|(simp (disch:=omega) only [gF,nt,nt1,nt2,w1,w2,Bj,g0]<;>omega))
   try simp (disch:=omega) only [nt,nt1,nt2,w1,w2,Bj,g0]
   all_goals rfl
theorem Aoq (hfu:1000<=fu){b:List Int}(hl:b.length<=64):∃s:ByteArray,s.size<=400∧Ae C0 Tryz.prog fu (d+1) Jx [.lst false 1 b.length (Ai .u8 b)]=some ⟨[.sc (.string s)],[]⟩:=by
 obtain ⟨s,s1,s2⟩:=Ahd (fu:=fu) (call:=Ae C0 Tryz.prog fu d) (a0n:=b.length) (a0:=Ai .u8 b) (b:=b) hfu (by omega) 100 fu 0 ⟨#[]⟩ (by omega) (by omega) (by omega) (by decide)
 refine ⟨s,?_,?_⟩
 ·have:(ByteArray.mk #[]).size=0:=rfl;omega
 ·rw [Tf];exact s2
end
end
section
open Go.IntKind (wrap)
set_option maxRecDepth 1000000
abbrev Amh:ByteArray:=⟨#[(104:UInt8),(116:UInt8),(116:UInt8),(112:UInt8),(115:UInt8),(58:UInt8),(47:UInt8),(47:UInt8),(101:UInt8),(120:UInt8),(97:UInt8),(109:UInt8),(112:UInt8),(108:UInt8),(101:UInt8),(46:UInt8),(99:UInt8),(111:UInt8),(109:UInt8)]⟩
abbrev XC:ByteArray:=⟨#[(101:UInt8),(120:UInt8),(97:UInt8),(109:UInt8),(112:UInt8),(108:UInt8),(101:UInt8),(46:UInt8),(99:UInt8),(111:UInt8),(109:UInt8)]⟩
theorem Amj (l:List UInt8):(ByteArray.mk (List.toArray l)).size=l.length:=by exact id rfl
section
variable {d:Nat}
theorem Ag7:Ae C0 Tryz.prog 2000 (d+5) Rx [.sc (.string Amh)]=some ⟨[.agg [.sc (.bool true),.sc (.string XC),.sc (.int .i64 443)],.sc (.int .i64 0)],[]⟩:=by kernel_rfl
theorem Ail {b:List Int}(h1:1<=b.length)(h2:b.length<=64):∃t:ByteArray,t.size<=600∧Ae C0 Tryz.prog 2000 (d+6) Jt [.agg [.sc (.int .i64 1),.lst false 1 b.length (Ai .u8 b),.sc (.string Amh),.sc (.bool false),.sc (.string C5)]]=some ⟨[.sc (.string t),.sc (.int .i64 0)],[]⟩:=by
 obtain ⟨s,s1,s2⟩:=Aoq (fu:=2000) (d:=d+4) (by omega) (b:=b) h2
 have po:=Ag7 (d:=d)
 have ty:Ae C0 Tryz.prog 2000 (d+5) Nh [.sc (.int .i64 1)]=some ⟨[.sc (.string ⟨#[(112:UInt8),(97:UInt8),(115:UInt8),(115:UInt8),(107:UInt8),(101:UInt8),(121:UInt8),(46:UInt8),(99:UInt8),(114:UInt8),(101:UInt8),(97:UInt8),(116:UInt8),(101:UInt8)]⟩)],[]⟩:=by
  rw [Yf];rfl
 have e00:((0:Int) != 0)=false:=rfl;have ze:(Array.toList (ByteArray.data (ByteArray.mk #[]))==Array.toList (ByteArray.data (ByteArray.mk #[])))=true:=rfl;have zt:(Array.toList (ByteArray.data (ByteArray.mk #[(112:UInt8),(97:UInt8),(115:UInt8),(115:UInt8),(107:UInt8),(101:UInt8),(121:UInt8),(46:UInt8),(99:UInt8),(114:UInt8),(101:UInt8),(97:UInt8),(116:UInt8),(101:UInt8)]))==Array.toList (ByteArray.data (ByteArray.mk #[])))=false:=rfl;apply Exists.intro;apply And.intro
 rotate_left
 ·refine (Td 2000 (d+5) 1 b.length (Ai .u8 b) Amh false C5).trans ?_
  try unfold Aa
  repeat first
   |((with_reducible first|apply Ap|apply Ag|apply Am|apply As|apply Ax|apply A6|apply Ah);· first|with_reducible rfl|(simp (disch:=omega) only [ty,zt,po,e00,s2,ByteArray.size_append,Amj,Ib,Y4,Nat.reduceAdd,ze,Bp,Br]<;>with_reducible rfl))
   |((with_reducible first|apply Ak|apply Al);· first|with_reducible rfl|omega|(simp (disch:=omega) only [gT,ty,zt,po,e00,s2,ByteArray.size_append,Amj,Ib,Y4,Nat.reduceAdd,ze,Bp,Br]<;>omega))
   |(with_reducible apply Ao;· first|with_reducible rfl|(simp (disch:=omega) only [gF,ty,zt,po,e00,s2,ByteArray.size_append,Amj,Ib,Y4,Nat.reduceAdd,ze,Bp,Br]<;>omega))
  try simp (disch:=omega) only [ty,zt,po,e00,s2,ByteArray.size_append,Amj,Ib,Y4,Nat.reduceAdd,ze,Bp,Br]
  all_goals rfl
 ·simp only [ByteArray.size_append,Amj,Ib,Y4,Nat.reduceAdd];omega
end
end
section
open Go.IntKind (wrap)
set_option maxRecDepth 1000000
abbrev Arj:ByteArray:=⟨#[(98:UInt8),(97:UInt8),(116:UInt8),(99:UInt8),(104:UInt8)]⟩
abbrev Yd:ByteArray:=⟨#[(114:UInt8),(111:UInt8),(111:UInt8),(116:UInt8)]⟩
def Nr:Ce:=⟨Arj,Yd,1,Ey 33 4,0,900,false,0,3,⟨0,[],[]⟩⟩
theorem RP:Bf Nr=0:=by
 unfold Bf;have h1:Nr.subj.size=5:=rfl;have h2:Nr.iss.size=4:=rfl;have h3:TH Nr.subj=true:=by decide
 have h4:TH Nr.iss=true:=by decide
 have h5:Df Nr.key.h=false:=WW 33 4;have h6:Nr.fr=0:=rfl;have h7:Nr.un=900:=rfl;have h8:Nr.path=0:=rfl;rw [h1,h2,h3,h4,h5,h6,h7,h8];simp
theorem Af9:∃s,TQ 32 1 0 (Sb Nr)=some s∧s.ok∧s.leaf=0∧s.chains.length=18∧(s.path.length:Int)=1∧Jp (Ey 32 1) (Sb Nr) s=0:=YL (by decide) (by decide)
noncomputable def TP:Sg:=Classical.choose Af9
theorem CE:TQ 32 1 0 (Sb Nr)=some TP∧TP.ok∧TP.leaf=0∧TP.chains.length=18∧(TP.path.length:Int)=1∧Jp (Ey 32 1) (Sb Nr) TP=0:=Classical.choose_spec Af9
noncomputable def cB:Ce:={ Nr with sig:=TP }
theorem Alt:cB.ok:=⟨by decide,by decide,UR 33 4,CE.2.1⟩
theorem YW:Bf cB=0:=RP
theorem YB:Dy cB=0:=by
 obtain ⟨_,_,h3,h4,h5,_⟩:=CE;unfold Dy;rw [YW,Bl rfl];show KH TP=0;unfold KH;rw [h5,h3,A3 (by decide),A3 (by decide),A3 (by omega)]
noncomputable def Vi:List Int:=Eu cB
theorem Aob:G9 Vi:=Ae7 Alt.wf YB
theorem Aeo:Vi.length<=400:=GV YB
theorem Abl:J8 Vi=(cB,0):=PZ Alt YB
section
variable {fu d:Nat}
theorem Ak9 (hfu:1000<=fu):Ae C0 Tryz.prog fu (d+14) P8 []=some ⟨[.own 1 1 [Tb Vi]],[]⟩:=by
 rw [CU];have k:=XX (fu:=fu) (d:=d) hfu 33 4;have sg:=Ai6 (fu:=fu) (d:=d) (c:=Nr) hfu ⟨by decide,by decide⟩ (by decide) (by decide) 32 1 0
 have es:Ab0 Nr 32 1 0=(cB,0):=by
  unfold Ab0;rw [Bl RP,CE.1];rfl
 rw [es] at sg;have en:=Aft (fu:=fu) (d:=d+7) (c:=cB) hfu Alt.wf (by show Arj.size<=_;decide) (by show Yd.size<=_;decide) (by have:=CE.2.2.2.2.1;show TP.path.length<=_;omega)
 unfold FU at en;rw [YB,Bl rfl] at en;have L:=Aq .u8 (Eu cB);have t:=Gd .u8 (Eu cB);show _=some (A0.mk [.own 1 1 [Tb (Eu cB)]] []);have c0:Nr.cells=[.sc (.string Arj),.sc (.string Yd),.sc (.int .u64 1),.sc (.int .i64 (Ey 33 4).h),.sc (.int .u64 (Ey 33 4).root),.sc (.int .i64 0),.sc (.int .i64 900),.sc (.bool false),.sc (.int .i64 0),.sc (.int .u64 3),.sc (.int .i64 0),.lst false 1 0 [],.lst false 1 0 []]:=rfl;rw [c0] at sg;simp only [Ce.cells,Ky.cells] at k sg en;generalize Eu cB=E at *
 generalize cB=C at *
 generalize Ey 33 4=K at *
 try unfold Aa
 repeat first
  |((with_reducible first|apply Ap|apply Ag|apply Am|apply As|apply Ax|apply Az|apply Bh|apply A6|apply Ah);· first|with_reducible rfl|(simp (disch:=omega) only [k,sg,en,B8,Bv,Bj,L,t]<;>with_reducible rfl))
  |((with_reducible first|apply Ak|apply Al);· first|with_reducible rfl|omega|(simp (disch:=omega) only [gT,k,sg,en,B8,Bv,Bj,L,t]<;>omega))
  |(with_reducible apply Ao;· first|with_reducible rfl|(simp (disch:=omega) only [gF,k,sg,en,B8,Bv,Bj,L,t]<;>omega))
 try simp (disch:=omega) only [k,sg,en,B8,Bv,Bj,L,t]
 all_goals rfl
structure Afe (sd hh fm lf:Int) (r:Rp) (a:Ad):Prop where
 ok:r.ok
 good:a.good
 ad:r.ad=Y6 a
 cd:r.cd.size<=600
 fmt:r.fmt=fm
 key:a.key=Ey sd hh
 model:a.model=3
 sgl:r.sg.length<=300
 cl:r.certs.length<=1
 cb:∀b∈r.certs,b.length<=400
 kind:r.kind=1
 idB:G9 r.id_
 idl:r.id_.length=176
 user:r.user=C5
 f0:fm=0->r.sg=[]∧r.certs=[]
 f1:fm=1->r.certs=[]∧∃s,r.sg=M6 s∧OG r.sg=some s∧s.leaf=0∧Jp (Ey sd hh) (Wr r.ad (Em 11 (B4 r.cd))) s=0
 f2:fm=2->r.certs=[Vi]∧∃s,r.sg=M6 s∧OG r.sg=some s∧s.leaf=lf∧Jp (Ey 33 4) (Wr r.ad (Em 11 (B4 r.cd))) s=0
theorem Aa8 {s:Sg}(hs:s.ok)(h1:Df s.path.length=false)(h2:Gc s.leaf s.path.length=false)(h3:s.chains.length=18):G9 (M6 s)∧(M6 s).length<=300∧OG (M6 s)=some s:=by
 have hb:=Gr h1;refine ⟨Aqb s,?_,Afo hs h1 h2 h3⟩;rw [Apv];omega
theorem As0 {seed h:Int}(hh:Df h=false)(ho:Gc 0 h=false){id_ ch:List Int}(hib:G9 id_)(hil:id_.length=176)(hcl:ch.length=16)(sh vf:Bool){fmt leaf:Int}(hf:fmt=0∨fmt=1∨fmt=2)(l0:0<=leaf)(l1:leaf<=15):
  ∃r a,Afe seed h fmt leaf r a∧Ae C0 Tryz.prog 2000 (d+15) Iu [.agg [.sc (.int .u64 seed),.sc (.int .i64 h),Tb id_,.sc (.bool sh)],.sc (.string XC),.sc (.string Amh),.lst false 1 16 (Ai .u8 ch),.sc (.int .i64 fmt),.sc (.bool vf),.sc (.int .i64 leaf)]=some ⟨[.agg r.cells],[]⟩:=by
 obtain ⟨t,t1,t2⟩:=Ail (d:=d+8) (b:=ch) (by omega) (by omega)
 rw [hcl] at t2;have rp:=Aho (fu:=2000) (d:=d+9) (s:=XC) (by decide) (by omega)
 have hd:=NM (fu:=2000) (d:=d+9) (s:=t) (by omega) (by omega)
 have fl:=Amf (fu:=2000) (d:=d+13) seed h id_ sh vf;have ky:=XX (fu:=2000) (d:=d+1) (by omega) seed h
 rw [hil] at fl
 have fe:CH .i64 (LX sh vf) 64=77∨CH .i64 (LX sh vf) 64=69∨CH .i64 (LX sh vf) 64=73∨CH .i64 (LX sh vf) 64=65:=by
  cases sh<;>cases vf
  ·exact .inr (.inr (.inr (by decide)))
  ·exact .inr (.inl (by decide))
  ·exact .inr (.inr (.inl (by decide)))
  ·exact .inl (by decide)
 obtain ⟨F,hF⟩:∃F,CH .i64 (LX sh vf) 64=F:=⟨_,rfl⟩;rw [hF] at fe;obtain ⟨P,hP⟩:∃P,Em 9 (B4 XC)=P:=⟨_,rfl⟩;have hPU:=PA 9 (B4 XC);rw [hP] at rp hPU;have hKr:=UR seed h;have hKh:=WW seed h;have good:∀cnt:Int,cnt=0∨cnt=1->(Ad.mk P F cnt 0 3 id_ (Ey seed h)).good:=fun cnt hc=>⟨hPU,fe,hc,rfl,(⟨by decide,by decide⟩:ZX 3),hib,hil,hKh,hKr⟩
 have enc:=fun (cnt:Int) (hc:cnt=0∨cnt=1)=>Aef (fu:=2000) (d:=d+10) (by omega) (good cnt hc)
 have LA:=fun (cnt:Int) (hc:cnt=0∨cnt=1)=>YK (good cnt hc)
 have BA:=fun (cnt:Int) (hc:cnt=0∨cnt=1)=>An4 (good cnt hc)
 have msg:=fun (cnt:Int) (hc:cnt=0∨cnt=1)=>RL (fu:=2000) (d:=d+9) (BA cnt hc) (by rw [LA cnt hc];omega) (by omega) (Em 11 (B4 t))
 simp only [Ad.cells,Tb,Ky.cells] at enc ky fl;simp only [hil] at enc;have s9:(9:Int)=9:=rfl;have oA:=fun (fm:Int) (cnt:Int) (hc:cnt=0∨cnt=1)=>(Q4 2000 (d+14) seed h id_.length (Ai .u8 id_) sh XC Amh 16 (Ai .u8 ch) fm vf leaf)
 simp only [hil] at oA;rcases hf with rfl|rfl|rfl
 ·refine ⟨⟨1,t,Y6 ⟨P,F,0,0,3,id_,Ey seed h⟩,[],[],0,id_,C5⟩,⟨P,F,0,0,3,id_,Ey seed h⟩,⟨⟨(by intro x hx;cases hx),(by simp),(by intro b hb;cases hb)⟩,good 0 (.inl rfl),rfl,(by simp only;omega),rfl,rfl,rfl,(by simp),(by simp),(by intro b hb;cases hb),rfl,hib,hil,rfl,(fun _=>⟨rfl,rfl⟩),(fun hx=>by omega),(fun hx=>by omega)⟩,?_⟩
  have en:=enc 0 (.inl rfl);have ms:=msg 0 (.inl rfl);rw [LA 0 (.inl rfl)] at ms;have L:=Aq .u8 (Y6 ⟨P,F,0,0,3,id_,Ey seed h⟩);have tk:=Gd .u8 (Y6 ⟨P,F,0,0,3,id_,Ey seed h⟩);rw [LA 0 (.inl rfl)] at L tk;simp only [Rp.cells,Tb,LA 0 (.inl rfl),hil];refine (oA 0 0 (.inl rfl)).trans ?_;generalize Y6 ⟨P,F,0,0,3,id_,Ey seed h⟩=A at *
  generalize Ey seed h=K at *
  try unfold Aa
  repeat first
   |((with_reducible first|apply Ap|apply Ag|apply Am|apply As|apply Ax|apply Az|apply Bh|apply A6|apply Ah);· first|with_reducible rfl|(simp (disch:=omega) only [t2,rp,fl,hF,ky,Int.reduceBEq,en,hd,B8,Bv,Bj,Nat.reduceMul,L,tk,ms]<;>with_reducible rfl))
   |((with_reducible first|apply Ak|apply Al);· first|with_reducible rfl|omega|(simp (disch:=omega) only [gT,t2,rp,fl,hF,ky,Int.reduceBEq,en,hd,B8,Bv,Bj,Nat.reduceMul,L,tk,ms]<;>omega))
   |(with_reducible apply Ao;· first|with_reducible rfl|(simp (disch:=omega) only [gF,t2,rp,fl,hF,ky,Int.reduceBEq,en,hd,B8,Bv,Bj,Nat.reduceMul,L,tk,ms]<;>omega))
  try simp (disch:=omega) only [t2,rp,fl,hF,ky,Int.reduceBEq,en,hd,B8,Bv,Bj,Nat.reduceMul,L,tk,ms]
  all_goals rfl
 ·obtain ⟨s,s1,s2,s3,s4,s5,s6⟩:=YL (seed:=seed) (h:=h) (leaf:=0) (m:=Wr (Y6 ⟨P,F,1,0,3,id_,Ey seed h⟩) (Em 11 (B4 t))) hh ho;have p1:Df s.path.length=false:=by rw [s5];exact hh
  have p2:Gc s.leaf s.path.length=false:=by rw [s5,s3];exact ho
  obtain ⟨g1,g2,g3⟩:=Aa8 s2 p1 p2 s4;refine ⟨⟨1,t,Y6 ⟨P,F,1,0,3,id_,Ey seed h⟩,M6 s,[],1,id_,C5⟩,⟨P,F,1,0,3,id_,Ey seed h⟩,⟨⟨g1,(by simp only;omega),(by intro b hb;cases hb)⟩,good 1 (.inr rfl),rfl,(by simp only;omega),rfl,rfl,rfl,g2,(by simp),(by intro b hb;cases hb),rfl,hib,hil,rfl,(fun hx=>by omega),(fun _=>⟨rfl,s,rfl,g3,s3,s6⟩),(fun hx=>by omega)⟩,?_⟩
  have en:=enc 1 (.inr rfl);have ms:=msg 1 (.inr rfl);rw [LA 1 (.inr rfl)] at ms;have L:=Aq .u8 (Y6 ⟨P,F,1,0,3,id_,Ey seed h⟩);have tk:=Gd .u8 (Y6 ⟨P,F,1,0,3,id_,Ey seed h⟩);rw [LA 1 (.inr rfl)] at L tk;have sg:=SF (fu:=2000) (d:=d+2) (by omega) seed h 0 (Wr (Y6 ⟨P,F,1,0,3,id_,Ey seed h⟩) (Em 11 (B4 t)))
  rw [s1] at sg;simp only [GP,Sg.owned] at sg;have es:=EX (fu:=2000) (d:=d+12) (by omega) s (by have:=Gr p1;omega)
  rw [p1,p2,s4,A3 (by simp),A3 (by simp),A3 (by simp)] at es
  simp only [Sg.cells,s4] at es sg;have L1:=Aq .u64 s.chains;have L2:=Aq .u64 s.path;have t1':=Gd .u64 s.chains;have t2':=Gd .u64 s.path;rw [s4] at L1 t1';have L3:=Aq .u8 (M6 s);have t3:=Gd .u8 (M6 s);simp only [Rp.cells,Tb,LA 1 (.inr rfl),hil];refine (oA 1 1 (.inr rfl)).trans ?_;clear g1 g2 g3 s6 s1;generalize Wr (Y6 ⟨P,F,1,0,3,id_,Ey seed h⟩) (Em 11 (B4 t))=M at *
  generalize Y6 ⟨P,F,1,0,3,id_,Ey seed h⟩=A at *
  generalize Ey seed h=K at *
  generalize M6 s=G at *
  try unfold Aa
  repeat first
   |((with_reducible first|apply Ap|apply Ag|apply Am|apply As|apply Ax|apply Az|apply Bh|apply A6|apply Ah);· first|with_reducible rfl|(simp (disch:=omega) only [t2,rp,fl,hF,ky,Int.reduceBEq,en,hd,B8,Bv,Bj,Nat.reduceMul,L,tk,ms,sg,L1,L2,t1',t2',es,L3,t3]<;>with_reducible rfl))
   |((with_reducible first|apply Ak|apply Al);· first|with_reducible rfl|omega|(simp (disch:=omega) only [gT,t2,rp,fl,hF,ky,Int.reduceBEq,en,hd,B8,Bv,Bj,Nat.reduceMul,L,tk,ms,sg,L1,L2,t1',t2',es,L3,t3]<;>omega))
   |(with_reducible apply Ao;· first|with_reducible rfl|(simp (disch:=omega) only [gF,t2,rp,fl,hF,ky,Int.reduceBEq,en,hd,B8,Bv,Bj,Nat.reduceMul,L,tk,ms,sg,L1,L2,t1',t2',es,L3,t3]<;>omega))
  try simp (disch:=omega) only [t2,rp,fl,hF,ky,Int.reduceBEq,en,hd,B8,Bv,Bj,Nat.reduceMul,L,tk,ms,sg,L1,L2,t1',t2',es,L3,t3]
  all_goals rfl
 ·have ho4:Gc leaf 4=false:=by
   unfold Gc;have:Ff .i64 1 4=16:=by decide
   rw [this];simp;omega
  obtain ⟨s,s1,s2,s3,s4,s5,s6⟩:=YL (seed:=33) (h:=4) (leaf:=leaf) (m:=Wr (Y6 ⟨P,F,0,0,3,id_,Ey seed h⟩) (Em 11 (B4 t))) (by decide) ho4
  have p1:Df s.path.length=false:=by rw [s5];decide
  have p2:Gc s.leaf s.path.length=false:=by rw [s5,s3];exact ho4
  obtain ⟨g1,g2,g3⟩:=Aa8 s2 p1 p2 s4;have clen:=Aeo;refine ⟨⟨1,t,Y6 ⟨P,F,0,0,3,id_,Ey seed h⟩,M6 s,[Vi],2,id_,C5⟩,⟨P,F,0,0,3,id_,Ey seed h⟩,⟨⟨g1,(by simp only;omega),(by intro b hb;simp at hb;subst hb;exact ⟨Aob,by omega⟩)⟩,good 0 (.inl rfl),rfl,(by simp only;omega),rfl,rfl,rfl,g2,(by simp),(by intro b hb;simp at hb;subst hb;exact clen),rfl,hib,hil,rfl,(fun hx=>by omega),(fun hx=>by omega),(fun _=>⟨rfl,s,rfl,g3,s3,s6⟩)⟩,?_⟩
  have en:=enc 0 (.inl rfl);have ms:=msg 0 (.inl rfl);rw [LA 0 (.inl rfl)] at ms;have L:=Aq .u8 (Y6 ⟨P,F,0,0,3,id_,Ey seed h⟩);have tk:=Gd .u8 (Y6 ⟨P,F,0,0,3,id_,Ey seed h⟩);rw [LA 0 (.inl rfl)] at L tk;have sg:=SF (fu:=2000) (d:=d+2) (by omega) 33 4 leaf (Wr (Y6 ⟨P,F,0,0,3,id_,Ey seed h⟩) (Em 11 (B4 t)))
  rw [s1] at sg;simp only [GP,Sg.owned] at sg;have es:=EX (fu:=2000) (d:=d+12) (by omega) s (by have:=Gr p1;omega)
  rw [p1,p2,s4,A3 (by simp),A3 (by simp),A3 (by simp)] at es
  simp only [Sg.cells,s4] at es sg;have L1:=Aq .u64 s.chains;have L2:=Aq .u64 s.path;have t1':=Gd .u64 s.chains;have t2':=Gd .u64 s.path;rw [s4] at L1 t1';have L3:=Aq .u8 (M6 s);have t3:=Gd .u8 (M6 s);have ch':=Ak9 (fu:=2000) (d:=d) (by omega)
  have eb:Jl [Vi]=[Tb Vi]:=rfl;simp only [Rp.cells,LA 0 (.inl rfl),hil,eb];simp only [Tb,LA 0 (.inl rfl),hil];refine (oA 2 0 (.inl rfl)).trans ?_;clear g1 g2 g3 s6 s1;generalize Wr (Y6 ⟨P,F,0,0,3,id_,Ey seed h⟩) (Em 11 (B4 t))=M at *
  generalize Y6 ⟨P,F,0,0,3,id_,Ey seed h⟩=A at *
  generalize Ey seed h=K at *
  generalize M6 s=G at *
  generalize Vi=CB at *
  have tc:List.take 1 [PV.lst false 1 CB.length (Ai .u8 CB)]=[PV.lst false 1 CB.length (Ai .u8 CB)]:=rfl;have lc:[PV.lst false 1 CB.length (Ai .u8 CB)].length=1:=rfl
  try unfold Aa
  repeat first
   |((with_reducible first|apply Ap|apply Ag|apply Am|apply As|apply Ax|apply Az|apply Bh|apply A6|apply Ah);· first|with_reducible rfl|(simp (disch:=omega) only [t2,rp,fl,hF,ky,Int.reduceBEq,en,hd,B8,Bv,Bj,Nat.reduceMul,L,tk,ms,sg,L1,L2,t1',t2',es,L3,t3,ch',lc,tc]<;>with_reducible rfl))
   |((with_reducible first|apply Ak|apply Al);· first|with_reducible rfl|omega|(simp (disch:=omega) only [gT,t2,rp,fl,hF,ky,Int.reduceBEq,en,hd,B8,Bv,Bj,Nat.reduceMul,L,tk,ms,sg,L1,L2,t1',t2',es,L3,t3,ch',lc,tc]<;>omega))
   |(with_reducible apply Ao;· first|with_reducible rfl|(simp (disch:=omega) only [gF,t2,rp,fl,hF,ky,Int.reduceBEq,en,hd,B8,Bv,Bj,Nat.reduceMul,L,tk,ms,sg,L1,L2,t1',t2',es,L3,t3,ch',lc,tc]<;>omega))
  try simp (disch:=omega) only [t2,rp,fl,hF,ky,Int.reduceBEq,en,hd,B8,Bv,Bj,Nat.reduceMul,L,tk,ms,sg,L1,L2,t1',t2',es,L3,t3,ch',lc,tc]
  all_goals rfl
end
end
section
open Go.IntKind (wrap)
set_option maxRecDepth 1000000
theorem Aqw:Pt 9 0=13207923356878440101:=by kernel_rfl
theorem As7:Pt 9 1=15907844771915319014:=by kernel_rfl
theorem Aoo:Pt 32 0=10501167752601797684:=by kernel_rfl
theorem Apm:Pt 32 1=17170201293266426176:=by kernel_rfl
theorem Apw:(Ey 9 1).root≠(Ey 32 1).root:=by
 have h:Df 1=false:=by decide
 have e:∀s:Int,(Ey s 1).root=Oq 1 (Pt s 0) (Pt s 1):=by
  intro s;unfold Ey;rw [A3 (by simp [h])]
  rfl
 rw [e,e,Aqw,As7,Aoo,Apm];exact of_decide_eq_true (by kernel_rfl)
end
section
open Go.IntKind (wrap)
set_option maxRecDepth 1000000
theorem An3 {k:Ky}{m:Int}{s:Sg}(h:Jp k m s=0):Xf s.leaf 0 (TS s.leaf m s.chains) s.path=k.root:=by
 unfold Jp at h
 repeat' (split at h;· cases h)
 unfold okE at h;split at h
 ·assumption
 ·cases h
theorem Al9 {k k':Ky}{m:Int}{s:Sg}(h:Jp k m s=0)(h':Jp k' m s=0):k.root=k'.root:=by rw [←An3 h,←An3 h']
noncomputable def Fx:List An:=[⟨Yd,Ey 9 1⟩,⟨Yd,Ey 32 1⟩]
theorem Afn (k:Ky):Od cB k=Jp k (Sb Nr) TP:=by
 unfold Od;rw [YW,Bl rfl];rfl
theorem Aij:Od cB (Ey 32 1)=0:=by rw [Afn];exact CE.2.2.2.2.2
theorem Akh:Od cB (Ey 9 1)≠0:=by
 intro h;rw [Afn] at h;exact Apw (Al9 h CE.2.2.2.2.2)
theorem YM:M0 cB 0 Fx=1:=by
 unfold Fx;rw [M0,A3 (fun h=>Akh h.2),M0,Bl ⟨by decide,Aij⟩]
 rfl
theorem Akg (vs:List Rv)(now:Int):Gg cB 0 vs now=if now<0 then 38 else if now>900 then 38 else J6 cB now vs:=by
 unfold Gg;rw [YW];rfl
theorem Alw (ans:List An)(now:Int)(h0:0<=now)(h1:now<=1099511627776):O5 [cB] ans [] now=if now<=900 then ZH cB ans else (0,38):=by
 unfold O5;rw [A3 (by omega),A3 (by omega),A3 (by simp),A3 (by simp)]
 unfold V8;have lk:Gg cB ((0:Nat):Int) [] now=if now<0 then 38 else if now>900 then 38 else J6 cB now []:=Akg [] now
 have n0:¬(now<0):=by omega
 rw [lk,A3 n0];by_cases h:now<=900
 ·have h9:¬(now>900):=by omega
  have r0:J6 cB now []=0:=rfl;rw [A3 h9,Bl h,r0,A3 (by simp)]
 ·have h9:now>900:=by omega
  rw [Bl h9,A3 h,Bl (by simp)]
theorem Arl {sd hh lf:Int}{r:Rp}{a:Ad}(h:Afe sd hh 2 lf r a)(hf:Ed .i64 a.flags 64≠0)(ans:List An)(now:Int):LR r a (Wr r.ad (Em 11 (B4 r.cd))) ans [] now=if (O5 [cB] ans [] now).2≠0 then MZ (O5 [cB] ans [] now).2 else ⟨2,(O5 [cB] ans [] now).1,-1,0⟩:=by
 obtain ⟨hc,s,s1,s2,s3,s4⟩:=h.f2 rfl;unfold LR;rw [A3 hf,h.fmt,A3 (by omega),A3 (by omega),Bl rfl]
 unfold KZ;rw [hc]
 have ed:Cb [Vi]=([cB],0):=by
  rw [Cb,Abl,A3 (by simp),Cb,A3 (by simp)]
 rw [ed,A3 (by simp),A3 (by simp),A3 (by simp)]
 simp only;rw [Qq,A3 (by show ¬(false=true);simp),A3 (by show ¬((3:Int)=0);omega),A3 (by rw [h.model];show ¬((3:Int)≠3);simp),s2]
 simp only;have e:Jp cB.key (Wr r.ad (Em 11 (B4 r.cd))) s=0:=s4;rw [e,A3 (by simp)]
theorem JX {a:Ad}(h:a.good):Ed .i64 a.flags 64≠0:=by rcases h.flags with e|e|e|e<;>rw [e]<;>decide
theorem Asc {sd hh lf:Int}{r:Rp}{a:Ad}(h:Afe sd hh 1 lf r a)(ans:List An)(vs:List Rv)(now:Int):LR r a (Wr r.ad (Em 11 (B4 r.cd))) ans vs now=⟨1,-1,0,0⟩:=by
 obtain ⟨hc,s,s1,s2,s3,s4⟩:=h.f1 rfl;unfold LR;rw [A3 (JX h.good),h.fmt,A3 (by omega),Bl rfl]
 unfold Aca;rw [hc,A3 (by simp),s2]
 simp only;rw [h.key,s4,A3 (by simp),s3]
theorem As6 {sd hh lf:Int}{r:Rp}{a:Ad}(h:Afe sd hh 0 lf r a)(w:Int)(ans:List An)(vs:List Rv)(now:Int):LR r a w ans vs now=⟨0,-1,-1,0⟩:=by
 obtain ⟨h1,h2⟩:=h.f0 rfl;unfold LR;rw [A3 (JX h.good),h.fmt,Bl rfl,h1,h2,A3 (by simp),A3 (by simp)]
theorem Aoi {sd hh lf:Int}{r:Rp}{a:Ad}(h:Afe sd hh 2 lf r a):LR r a (Wr r.ad (Em 11 (B4 r.cd))) Fx [] 5=⟨2,1,-1,0⟩:=by
 have e:O5 [cB] Fx [] 5=(1,0):=by
  rw [Alw _ _ (by omega) (by omega),Bl (by omega)]
  unfold ZH;rw [YM];rfl
 rw [Arl h (JX h.good),e,A3 (by simp)]
section
variable {d:Nat}
theorem SA:Ae C0 Tryz.prog 2000 (d+14) Mr []=some ⟨[.own 3 2 (Ev Fx)],[]⟩:=by
 rw [Xm];have k1:=XX (fu:=2000) (d:=d) (by omega) 9 1
 have k2:=XX (fu:=2000) (d:=d) (by omega) 32 1
 show _=some (A0.mk [.own 3 2 [.sc (.string Yd),.sc (.int .i64 (Ey 9 1).h),.sc (.int .u64 (Ey 9 1).root),.sc (.string Yd),.sc (.int .i64 (Ey 32 1).h),.sc (.int .u64 (Ey 32 1).root)]] []);simp only [Ky.cells] at k1 k2;generalize Ey 9 1=K1 at *
 generalize Ey 32 1=K2 at *
 try unfold Aa
 repeat first
  |((with_reducible first|apply Ap|apply Ag|apply Am|apply As|apply Ax|apply Az|apply Bh|apply A6|apply Ah);· first|with_reducible rfl|(simp (disch:=omega) only [k1,k2]<;>with_reducible rfl))
  |((with_reducible first|apply Ak|apply Al);· first|with_reducible rfl|omega|(simp (disch:=omega) only [gT,k1,k2]<;>omega))
  |(with_reducible apply Ao;· first|with_reducible rfl|(simp (disch:=omega) only [gF,k1,k2]<;>omega))
 try simp (disch:=omega) only [k1,k2]
 all_goals rfl
theorem ND:(Ev Fx).length=6:=rfl
theorem HS:List.take 6 (Ev Fx)=Ev Fx:=rfl
theorem Age (n:Int){h:Int}(hh:Df h=false)(ho:Gc 0 h=false){fmt leaf:Int}(hf:fmt=0∨fmt=1∨fmt=2)(l0:0<=leaf)(l1:leaf<=15):
  ∃sd r a,Afe sd h fmt leaf r a∧Ae C0 Tryz.prog 2000 (d+16) Qv [.sc (.int .i64 n),.sc (.int .i64 h),.sc (.int .i64 fmt),.sc (.int .i64 leaf)]=some ⟨[.agg r.cells,.agg a.cells,.sc (.int .u64 (Wr r.ad (Em 11 (B4 r.cd))))],[]⟩:=by
 obtain ⟨m,m0,m1,m2⟩:=YO n 50 (by omega) (by omega)
 obtain ⟨id_,i1,i2,i3⟩:=Ap4 (fu:=2000) (d:=d+8) (by omega) (n:=m) m0 (by omega) h (Ed .i64 n 64==64)
 obtain ⟨ch,c1,c2,c3⟩:=RY (fu:=2000) (d:=d+9) (by omega) (Ed .i64 n 7) (n:=16) (by omega)
 obtain ⟨r,a,M,R⟩:=As0 (d:=d) (seed:=1000+m) hh ho i1 i2 c2 (Ed .i64 n 64==64) (Ed .i64 n 128==128) hf l0 l1;refine ⟨1000+m,r,a,M,?_⟩;have dd:=Afi (fu:=2000) (d:=d+11) (by omega) M.good
 rw [←M.ad] at dd;have al:r.ad.length=204:=by rw [M.ad,YK M.good]
 have hd:=NM (fu:=2000) (d:=d+10) (s:=r.cd) (by have:=M.cd;omega) (by omega)
 have ms:=RL (fu:=2000) (d:=d+10) (b:=r.ad) (by rw [M.ad];exact An4 M.good) (by omega) (by omega) (Em 11 (B4 r.cd))
 rw [al] at ms;have c3':Ae C0 Tryz.prog 2000 (d+15) Hi [.sc (.int .i64 (Ed .i64 n 7)),.sc (.int .i64 16)]=some ⟨[.own 1 16 (Ai .u8 ch)],[]⟩:=c3;have L1:=Aq .u8 id_;have t1:=Gd .u8 id_;have L2:=Aq .u8 ch;have t2:=Gd .u8 ch;rw [i2] at L1 t1;rw [c2] at L2 t2;simp only [Rp.cells,Ad.cells,Tb,i2,al] at R dd ⊢;rw [CM];generalize Wr r.ad (Em 11 (B4 r.cd))=W at *
 try unfold Aa
 repeat first
  |((with_reducible first|apply Ap|apply Ag|apply Am|apply As|apply Ax|apply Az|apply Bh|apply A6|apply Ah);· first|with_reducible rfl|(simp (disch:=omega) only [m2,i3,c3',B8,Bv,Bj,L1,t1,L2,t2,R,dd,hd,ms]<;>with_reducible rfl))
  |((with_reducible first|apply Ak|apply Al);· first|with_reducible rfl|omega|(simp (disch:=omega) only [gT,m2,i3,c3',B8,Bv,Bj,L1,t1,L2,t2,R,dd,hd,ms]<;>omega))
  |(with_reducible apply Ao;· first|with_reducible rfl|(simp (disch:=omega) only [gF,m2,i3,c3',B8,Bv,Bj,L1,t1,L2,t2,R,dd,hd,ms]<;>omega))
 try simp (disch:=omega) only [m2,i3,c3',B8,Bv,Bj,L1,t1,L2,t2,R,dd,hd,ms]
 all_goals rfl
theorem JF {r:Rp}(hr:r.ok)(a:Ad)(w:Int){vs:List Rv}(hv:vs.length<=900)(now:Int):
  Ae C0 Tryz.prog 2000 (d+18) Qn [.agg r.cells,.agg a.cells,.sc (.int .u64 w),.lst false 3 vs.length (Fb vs),.sc (.int .i64 now)]=some ⟨[.sc (.bool true)],[]⟩:=by
 refine (DD 2000 (d+17) r.kind r.cd r.ad.length (Ai .u8 r.ad) r.sg.length (Ai .u8 r.sg) r.certs.length (Jl r.certs) r.fmt r.id_.length (Ai .u8 r.id_) r.user a.rp a.flags a.cnt a.rng a.model a.id_.length (Ai .u8 a.id_) a.key.h a.key.root w vs.length (Fb vs) now).trans ?_;have an:=SA (d:=d+3);have l2:Fx.length=2:=rfl;have p:=Af5 (fu:=2000) (d:=d+5) (by omega) hr a w (ans:=Fx) (by rw [l2];omega) hv now
 have q:=Apl (fu:=2000) (d:=d) (by omega) hr a w (ans:=Fx) (by rw [l2];omega) hv now
 have L:=ND;have t:=HS;rw [l2] at p q;simp only [Rp.cells,Ad.cells,Tb,Av.vals] at p q;generalize LR r a w Fx vs now=v at *
 generalize Ev Fx=E at *
 try unfold Aa
 repeat first
  |((with_reducible first|apply Ap|apply Ag|apply Am|apply As|apply Ax|apply Az|apply Bh|apply A6|apply Ah);· first|with_reducible rfl|(simp (disch:=omega) only [an,B8,Bv,Nat.reduceMul,L,t,p,q,beq_self_eq_true,Zzm]<;>with_reducible rfl))
  |((with_reducible first|apply Ak|apply Al);· first|with_reducible rfl|omega|(simp (disch:=omega) only [gT,an,B8,Bv,Nat.reduceMul,L,t,p,q,beq_self_eq_true,Zzm]<;>omega))
  |(with_reducible apply Ao;· first|with_reducible rfl|(simp (disch:=omega) only [gF,an,B8,Bv,Nat.reduceMul,L,t,p,q,beq_self_eq_true,Zzm]<;>omega))
 try simp (disch:=omega) only [an,B8,Bv,Nat.reduceMul,L,t,p,q,beq_self_eq_true,Zzm]
 all_goals simp
theorem SP {call:Ar}{nn:Nat}{f:Int}(h:f>2):Cs 2000 call (nn+1) f=some ⟨[.sc (.bool true)],[]⟩:=by
 rw [Lt,Dt _ _ _ (by omega)]
theorem Alq:Ae C0 Tryz.prog 2000 (d+17) Pn []=some ⟨[.sc (.bool true)],[]⟩:=by
 rw [Zi];have an:=SA (d:=d+2);have l2:Fx.length=2:=rfl;have L:=ND;have t:=HS;have w0:wrap .i64 ((0:Int)+1)=1:=by decide
 have w1:wrap .i64 ((1:Int)+1)=2:=by decide
 have w2:wrap .i64 ((2:Int)+1)=3:=by decide
 have st:∀(f:Int) (nn:Nat),f=0∨f=1∨f=2->Cs 2000 (Ae C0 Tryz.prog 2000 (d+16)) (nn+1) f=Cs 2000 (Ae C0 Tryz.prog 2000 (d+16)) nn (f+1):=by
  intro f nn hf;obtain ⟨sd,r,a,M,R⟩:=Age (d:=d) 1 (h:=1) (by decide) (by decide) (leaf:=0) hf (by omega) (by omega)
  have p:=Af5 (fu:=2000) (d:=d+4) (by omega) M.ok a (Wr r.ad (Em 11 (B4 r.cd))) (ans:=Fx) (by rw [l2];omega) (vs:=[]) (by simp) 5
  have ez:Fb []=[]:=rfl;rw [l2] at p;simp only [Rp.cells,Ad.cells,Tb,Av.vals,ez,Y4] at p R
  have av:∃x y:Int,LR r a (Wr r.ad (Em 11 (B4 r.cd))) Fx [] 5=⟨f,x,y,0⟩∧x=(if f=2 then 1 else -1)∧y=(if f=1 then 0 else -1):=by
   rcases hf with rfl|rfl|rfl
   ·exact ⟨_,_,As6 M _ _ _ _,rfl,rfl⟩
   ·exact ⟨_,_,Asc M _ _ _,rfl,rfl⟩
   ·exact ⟨_,_,Aoi M,rfl,rfl⟩
  obtain ⟨x,y,e1,e2,e3⟩:=av;rw [e1] at p;simp only at p;subst e2 e3;clear e1 M;generalize Wr r.ad (Em 11 (B4 r.cd))=W at *
  generalize Ev Fx=E at *
  rw [Lt];rcases hf with rfl|rfl|rfl
  all_goals
   try unfold Aa
   repeat first
    |((with_reducible first|apply Ap|apply Ag|apply Am|apply As|apply Ax|apply Az|apply Bh|apply A6|apply Ah);· first|with_reducible rfl|(simp (disch:=omega) only [R,an,B8,Bv,Nat.reduceMul,L,t,p,Int.reduceBEq,w0,w1,w2,bne_self_eq_false,beq_self_eq_true,Zzm,Bool.and_true,Bp,Int.reduceEq,if_true,if_false]<;>with_reducible rfl))
    |((with_reducible first|apply Ak|apply Al);· first|with_reducible rfl|omega|(simp (disch:=omega) only [gT,R,an,B8,Bv,Nat.reduceMul,L,t,p,Int.reduceBEq,w0,w1,w2,bne_self_eq_false,beq_self_eq_true,Zzm,Bool.and_true,Bp,Int.reduceEq,if_true,if_false]<;>omega))
    |(with_reducible apply Ao;· first|with_reducible rfl|(simp (disch:=omega) only [gF,R,an,B8,Bv,Nat.reduceMul,L,t,p,Int.reduceBEq,w0,w1,w2,bne_self_eq_false,beq_self_eq_true,Zzm,Bool.and_true,Bp,Int.reduceEq,if_true,if_false]<;>omega))
   try simp (disch:=omega) only [R,an,B8,Bv,Nat.reduceMul,L,t,p,Int.reduceBEq,w0,w1,w2,bne_self_eq_false,beq_self_eq_true,Zzm,Bool.and_true,Bp,Int.reduceEq,if_true,if_false]
  all_goals rfl
 show Cs 2000 (Ae C0 Tryz.prog 2000 (d+16)) (1996+1+1+1+1) 0=_;rw [st 0 _ (.inl rfl),st (0+1) _ (.inr (.inl rfl)),st (0+1+1) _ (.inr (.inr rfl))];exact SP (by omega)
end
end
section
open Go.IntKind (wrap)
set_option maxRecDepth 1000000
section
variable {d:Nat}
theorem MA {b x:List Int}(h:x.length=(if b.length=0 then 1 else b.length)) (hb:b.length<=1000):x.length<=1000:=by
 rw [h];split<;>omega
theorem WE:∀l:List (List Int),(Jl l).length=l.length
 |[]=>rfl
 |c::cs=>by
  show (An7 c++Jl cs).length=_;rw [H1,WE cs,VB,Ib];omega
theorem Anh {sd hh fm lf:Int}{r:Rp}{a:Ad}(M:Afe sd hh fm lf r a){l:List Int}(hl:l.length<=maxLen)(i:Nat):∃(s:Rp)(j:Nat),s.ok ∧
  Ae C0 Tryz.prog 2000 (d+8) Kq [.pbox (dkc l i),.agg r.cells]=some ⟨[.agg s.cells],[dkc l j]⟩:=by
 obtain ⟨v,j,v0,v1,nx⟩:=Gq hl i 12 (by omega) (by omega)
 have nx:=nx (fu:=2000) (d:=d+5);have E:=Vc 2000 (d+7) l.length (Ai .i64 l) i r.kind r.cd r.ad.length (Ai .u8 r.ad) r.sg.length (Ai .u8 r.sg) r.certs.length (Jl r.certs) r.fmt r.id_.length (Ai .u8 r.id_) r.user;have hadB:G9 r.ad:=by rw [M.ad];exact An4 M.good
 have hadl:r.ad.length=204:=by rw [M.ad];exact YK M.good
 have hcd:=M.cd;have hsg:=M.sgl;have hcl:=M.cl;have ok:=M.ok;have hv:v=0∨v=1∨v=2∨v=3∨v=4∨v=5∨v=6∨v=7∨v=8∨v=9∨v=10∨v=11:=by omega
 simp only [dkc] at nx;rcases hv with rfl|rfl|rfl|rfl|rfl|rfl|rfl|rfl|rfl|rfl|rfl|rfl
 ·refine ⟨{ r with kind:=wrap .i64 (3-r.kind) },j,⟨ok.sg,ok.sgl,ok.certs⟩,E.trans ?_⟩
  try unfold Aa
  repeat first
   |((with_reducible first|apply Ap|apply Ag|apply Am|apply Ax|apply Az|apply Bh|apply Ah);· first|with_reducible rfl|(simp (disch:=omega) only [Int.reduceBEq,nx]<;>with_reducible rfl))
   |((with_reducible first|apply Ak|apply Al);· first|with_reducible rfl|omega|(simp (disch:=omega) only [gT,Int.reduceBEq,nx]<;>omega))
   |(with_reducible apply Ao;· first|with_reducible rfl|(simp (disch:=omega) only [gF,Int.reduceBEq,nx]<;>omega))
  try simp (disch:=omega) only [Int.reduceBEq,nx]
  all_goals rfl
 ·refine ⟨{ r with cd:=r.cd++⟨#[(32:UInt8)]⟩ },j,⟨ok.sg,ok.sgl,ok.certs⟩,E.trans ?_⟩
  try unfold Aa
  repeat first
   |((with_reducible first|apply Ap|apply Ag|apply Am|apply Ax|apply Az|apply Bh|apply Ah);· first|with_reducible rfl|(simp (disch:=omega) only [Int.reduceBEq,nx]<;>with_reducible rfl))
   |((with_reducible first|apply Ak|apply Al);· first|with_reducible rfl|omega|(simp (disch:=omega) only [gT,Int.reduceBEq,nx]<;>omega))
   |(with_reducible apply Ao;· first|with_reducible rfl|(simp (disch:=omega) only [gF,Int.reduceBEq,nx]<;>omega))
  try simp (disch:=omega) only [Int.reduceBEq,nx]
  all_goals rfl
 ·have t0:Int.tdiv (r.cd.size:Int) 2=((r.cd.size / 2:Nat):Int):=by
   rw [Int.ofNat_tdiv];rfl
  have w0:wrap .i64 ((r.cd.size / 2:Nat):Int)=((r.cd.size / 2:Nat):Int):=At (by omega) (by omega)
  refine ⟨{ r with cd:=ByteArray.extract r.cd 0 (r.cd.size / 2) },j,⟨ok.sg,ok.sgl,ok.certs⟩,E.trans ?_⟩;have n0:Int.toNat ((r.cd.size / 2:Nat):Int)=r.cd.size / 2:=rfl
  try unfold Aa
  repeat first
   |((with_reducible first|apply Ap|apply Ag|apply Am|apply Ax|apply Az|apply Bh|apply Ah);· first|with_reducible rfl|(simp (disch:=omega) only [Int.reduceBEq,nx,t0,w0,n0]<;>with_reducible rfl))
   |((with_reducible first|apply Ak|apply Al);· first|with_reducible rfl|omega|(simp (disch:=omega) only [gT,Int.reduceBEq,nx,t0,w0,n0]<;>omega))
   |(with_reducible apply Ao;· first|with_reducible rfl|(simp (disch:=omega) only [gF,Int.reduceBEq,nx,t0,w0,n0]<;>omega))
  try simp (disch:=omega) only [Int.reduceBEq,nx,t0,w0,n0]
  all_goals rfl
 ·obtain ⟨m,j2,m0,m1,ny⟩:=Gq hl j 300 (by omega) (by omega)
  have ny:=ny (fu:=2000) (d:=d+5);obtain ⟨x,x1,x2,x3⟩:=BP (fu:=2000) (d:=d+6) hadB (by omega) m0 (by omega)
  have L:=Aq .u8 x;have t:=Gd .u8 x;simp only [dkc] at ny;refine ⟨{ r with ad:=x },j2,⟨ok.sg,ok.sgl,ok.certs⟩,E.trans ?_⟩
  try unfold Aa
  repeat first
   |((with_reducible first|apply Ap|apply Ag|apply Am|apply Ax|apply Az|apply Bh|apply Ah);· first|with_reducible rfl|(simp (disch:=omega) only [Int.reduceBEq,nx,ny,x3,B8,Bv,Bj,L,t]<;>with_reducible rfl))
   |((with_reducible first|apply Ak|apply Al);· first|with_reducible rfl|omega|(simp (disch:=omega) only [gT,Int.reduceBEq,nx,ny,x3,B8,Bv,Bj,L,t]<;>omega))
   |(with_reducible apply Ao;· first|with_reducible rfl|(simp (disch:=omega) only [gF,Int.reduceBEq,nx,ny,x3,B8,Bv,Bj,L,t]<;>omega))
  try simp (disch:=omega) only [Int.reduceBEq,nx,ny,x3,B8,Bv,Bj,L,t]
  all_goals rfl
 ·obtain ⟨m,j2,m0,m1,ny⟩:=Gq hl j 300 (by omega) (by omega)
  have ny:=ny (fu:=2000) (d:=d+5);obtain ⟨x,x1,x2,x3⟩:=BP (fu:=2000) (d:=d+6) hadB (by omega) m0 (by omega)
  have L:=Aq .u8 x;have t:=Gd .u8 x;simp only [dkc] at ny;refine ⟨{ r with ad:=x },j2,⟨ok.sg,ok.sgl,ok.certs⟩,E.trans ?_⟩
  try unfold Aa
  repeat first
   |((with_reducible first|apply Ap|apply Ag|apply Am|apply Ax|apply Az|apply Bh|apply Ah);· first|with_reducible rfl|(simp (disch:=omega) only [Int.reduceBEq,nx,ny,x3,B8,Bv,Bj,L,t]<;>with_reducible rfl))
   |((with_reducible first|apply Ak|apply Al);· first|with_reducible rfl|omega|(simp (disch:=omega) only [gT,Int.reduceBEq,nx,ny,x3,B8,Bv,Bj,L,t]<;>omega))
   |(with_reducible apply Ao;· first|with_reducible rfl|(simp (disch:=omega) only [gF,Int.reduceBEq,nx,ny,x3,B8,Bv,Bj,L,t]<;>omega))
  try simp (disch:=omega) only [Int.reduceBEq,nx,ny,x3,B8,Bv,Bj,L,t]
  all_goals rfl
 ·obtain ⟨m,j2,m0,m1,ny⟩:=Gq hl j 300 (by omega) (by omega)
  have ny:=ny (fu:=2000) (d:=d+5);obtain ⟨x,x1,x2,x3⟩:=BP (fu:=2000) (d:=d+6) ok.sg (by omega) m0 (by omega)
  have L:=Aq .u8 x;have t:=Gd .u8 x;have xl:=MA x2 (by omega)
  simp only [dkc] at ny;refine ⟨{ r with sg:=x },j2,⟨x1,(by simp only;omega),ok.certs⟩,E.trans ?_⟩
  try unfold Aa
  repeat first
   |((with_reducible first|apply Ap|apply Ag|apply Am|apply Ax|apply Az|apply Bh|apply Ah);· first|with_reducible rfl|(simp (disch:=omega) only [Int.reduceBEq,nx,ny,x3,B8,Bv,Bj,L,t]<;>with_reducible rfl))
   |((with_reducible first|apply Ak|apply Al);· first|with_reducible rfl|omega|(simp (disch:=omega) only [gT,Int.reduceBEq,nx,ny,x3,B8,Bv,Bj,L,t]<;>omega))
   |(with_reducible apply Ao;· first|with_reducible rfl|(simp (disch:=omega) only [gF,Int.reduceBEq,nx,ny,x3,B8,Bv,Bj,L,t]<;>omega))
  try simp (disch:=omega) only [Int.reduceBEq,nx,ny,x3,B8,Bv,Bj,L,t]
  all_goals rfl
 ·obtain ⟨m,j2,m0,m1,ny⟩:=Gq hl j 300 (by omega) (by omega)
  have ny:=ny (fu:=2000) (d:=d+5);obtain ⟨x,x1,x2,x3⟩:=BP (fu:=2000) (d:=d+6) ok.sg (by omega) m0 (by omega)
  have L:=Aq .u8 x;have t:=Gd .u8 x;have xl:=MA x2 (by omega)
  simp only [dkc] at ny;refine ⟨{ r with sg:=x },j2,⟨x1,(by simp only;omega),ok.certs⟩,E.trans ?_⟩
  try unfold Aa
  repeat first
   |((with_reducible first|apply Ap|apply Ag|apply Am|apply Ax|apply Az|apply Bh|apply Ah);· first|with_reducible rfl|(simp (disch:=omega) only [Int.reduceBEq,nx,ny,x3,B8,Bv,Bj,L,t]<;>with_reducible rfl))
   |((with_reducible first|apply Ak|apply Al);· first|with_reducible rfl|omega|(simp (disch:=omega) only [gT,Int.reduceBEq,nx,ny,x3,B8,Bv,Bj,L,t]<;>omega))
   |(with_reducible apply Ao;· first|with_reducible rfl|(simp (disch:=omega) only [gF,Int.reduceBEq,nx,ny,x3,B8,Bv,Bj,L,t]<;>omega))
  try simp (disch:=omega) only [Int.reduceBEq,nx,ny,x3,B8,Bv,Bj,L,t]
  all_goals rfl
 ·obtain ⟨m,j2,m0,m1,ny⟩:=Gq hl j 5 (by omega) (by omega)
  have ny:=ny (fu:=2000) (d:=d+5);simp only [dkc] at ny;refine ⟨{ r with fmt:=wrap .i64 (m-1) },j2,⟨ok.sg,ok.sgl,ok.certs⟩,E.trans ?_⟩
  try unfold Aa
  repeat first
   |((with_reducible first|apply Ap|apply Ag|apply Am|apply Ax|apply Az|apply Bh|apply Ah);· first|with_reducible rfl|(simp (disch:=omega) only [Int.reduceBEq,nx,ny]<;>with_reducible rfl))
   |((with_reducible first|apply Ak|apply Al);· first|with_reducible rfl|omega|(simp (disch:=omega) only [gT,Int.reduceBEq,nx,ny]<;>omega))
   |(with_reducible apply Ao;· first|with_reducible rfl|(simp (disch:=omega) only [gF,Int.reduceBEq,nx,ny]<;>omega))
  try simp (disch:=omega) only [Int.reduceBEq,nx,ny]
  all_goals rfl
 ·obtain ⟨m,j2,m0,m1,ny⟩:=Gq hl j 200 (by omega) (by omega)
  have ny:=ny (fu:=2000) (d:=d+5);obtain ⟨x,x1,x2,x3⟩:=BP (fu:=2000) (d:=d+6) M.idB (by rw [M.idl];omega) m0 (by omega)
  have L:=Aq .u8 x;have t:=Gd .u8 x;simp only [dkc] at ny;refine ⟨{ r with id_:=x },j2,⟨ok.sg,ok.sgl,ok.certs⟩,E.trans ?_⟩
  try unfold Aa
  repeat first
   |((with_reducible first|apply Ap|apply Ag|apply Am|apply Ax|apply Az|apply Bh|apply Ah);· first|with_reducible rfl|(simp (disch:=omega) only [Int.reduceBEq,nx,ny,x3,B8,Bv,Bj,L,t]<;>with_reducible rfl))
   |((with_reducible first|apply Ak|apply Al);· first|with_reducible rfl|omega|(simp (disch:=omega) only [gT,Int.reduceBEq,nx,ny,x3,B8,Bv,Bj,L,t]<;>omega))
   |(with_reducible apply Ao;· first|with_reducible rfl|(simp (disch:=omega) only [gF,Int.reduceBEq,nx,ny,x3,B8,Bv,Bj,L,t]<;>omega))
  try simp (disch:=omega) only [Int.reduceBEq,nx,ny,x3,B8,Bv,Bj,L,t]
  all_goals rfl
 ·obtain ⟨m,j2,m0,m1,ny⟩:=Gq hl j 2 (by omega) (by omega)
  have ny:=ny (fu:=2000) (d:=d+5);simp only [dkc] at ny;have hm:m=0∨m=1:=by omega
  rcases hm with rfl|rfl
  ·refine ⟨{ r with user:=⟨#[]⟩ },j2,⟨ok.sg,ok.sgl,ok.certs⟩,E.trans ?_⟩
   try unfold Aa
   repeat first
    |((with_reducible first|apply Ap|apply Ag|apply Am|apply Ax|apply Az|apply Bh|apply Ah);· first|with_reducible rfl|(simp (disch:=omega) only [Int.reduceBEq,nx,ny]<;>with_reducible rfl))
    |((with_reducible first|apply Ak|apply Al);· first|with_reducible rfl|omega|(simp (disch:=omega) only [gT,Int.reduceBEq,nx,ny]<;>omega))
    |(with_reducible apply Ao;· first|with_reducible rfl|(simp (disch:=omega) only [gF,Int.reduceBEq,nx,ny]<;>omega))
   try simp (disch:=omega) only [Int.reduceBEq,nx,ny]
   all_goals rfl
  ·refine ⟨{ r with user:=⟨#[(120:UInt8)]⟩ },j2,⟨ok.sg,ok.sgl,ok.certs⟩,E.trans ?_⟩
   try unfold Aa
   repeat first
    |((with_reducible first|apply Ap|apply Ag|apply Am|apply Ax|apply Az|apply Bh|apply Ah);· first|with_reducible rfl|(simp (disch:=omega) only [Int.reduceBEq,nx,ny]<;>with_reducible rfl))
    |((with_reducible first|apply Ak|apply Al);· first|with_reducible rfl|omega|(simp (disch:=omega) only [gT,Int.reduceBEq,nx,ny]<;>omega))
    |(with_reducible apply Ao;· first|with_reducible rfl|(simp (disch:=omega) only [gF,Int.reduceBEq,nx,ny]<;>omega))
   try simp (disch:=omega) only [Int.reduceBEq,nx,ny]
   all_goals rfl
 ·obtain ⟨m,j2,m0,m1,ny⟩:=Gq hl j 20 (by omega) (by omega)
  have ny:=ny (fu:=2000) (d:=d+5);simp only [dkc] at ny;obtain ⟨x,x1,x2,x3⟩:=RY (fu:=2000) (d:=d+1) (by omega) 3 (n:=m.toNat) (by omega)
  have em:((m.toNat:Nat):Int)=m:=by omega
  rw [em] at x3;have L:=Aq .u8 x;have t:=Gd .u8 x;rw [x2] at L t;have L2:(Jl r.certs).length=r.certs.length:=WE r.certs;have t2:List.take r.certs.length (Jl r.certs)=Jl r.certs:=by rw [←L2];exact List.take_length
  have L3:(Jl r.certs++[PV.lst false 1 m.toNat (Ai .u8 x)]).length=r.certs.length+1:=by rw [H1,L2];rfl
  have t3:List.take (r.certs.length+1) (Jl r.certs++[PV.lst false 1 m.toNat (Ai .u8 x)])=Jl r.certs++[PV.lst false 1 m.toNat (Ai .u8 x)]:=by rw [←L3];exact List.take_length
  have e4:Jl (r.certs++[x])=Jl r.certs++[PV.lst false 1 m.toNat (Ai .u8 x)]:=by
   unfold Jl;rw [List.flatMap_append,←x2];rfl
  have e5:(r.certs++[x]).length=r.certs.length+1:=by rw [H1];rfl
  refine ⟨{ r with certs:=r.certs++[x] },j2,⟨ok.sg,ok.sgl,?_⟩,E.trans ?_⟩
  ·intro b hb;rcases List.mem_append.1 hb with h|h
   ·exact ok.certs b h
   ·rw [List.mem_singleton.1 h];exact ⟨x1,by omega⟩
  ·simp only [Rp.cells,Tb,e4,e5]
   try unfold Aa
   repeat first
    |((with_reducible first|apply Ap|apply Ag|apply Am|apply Ax|apply Az|apply Bh|apply Ah);· first|with_reducible rfl|(simp (disch:=omega) only [Int.reduceBEq,nx,ny,x3,B8,Bv,Bj,L,t,L2,t2,L3,t3]<;>with_reducible rfl))
    |((with_reducible first|apply Ak|apply Al);· first|with_reducible rfl|omega|(simp (disch:=omega) only [gT,Int.reduceBEq,nx,ny,x3,B8,Bv,Bj,L,t,L2,t2,L3,t3]<;>omega))
    |(with_reducible apply Ao;· first|with_reducible rfl|(simp (disch:=omega) only [gF,Int.reduceBEq,nx,ny,x3,B8,Bv,Bj,L,t,L2,t2,L3,t3]<;>omega))
   try simp (disch:=omega) only [Int.reduceBEq,nx,ny,x3,B8,Bv,Bj,L,t,L2,t2,L3,t3]
   all_goals rfl
 ·by_cases hc:r.certs=[]
  ·refine ⟨r,j,ok,E.trans ?_⟩;have z:r.certs.length=0:=by rw [hc];rfl
   have dz:decide ((r.certs.length:Int)>0)=false:=by rw [z];rfl
   try unfold Aa
   repeat first
    |((with_reducible first|apply Ap|apply Ag|apply Am|apply Ax|apply Az|apply Bh|apply Ah);· first|with_reducible rfl|(simp (disch:=omega) only [Int.reduceBEq,nx,dz]<;>with_reducible rfl))
    |((with_reducible first|apply Ak|apply Al);· first|with_reducible rfl|omega|(simp (disch:=omega) only [gT,Int.reduceBEq,nx,dz]<;>omega))
    |(with_reducible apply Ao;· first|with_reducible rfl|(simp (disch:=omega) only [gF,Int.reduceBEq,nx,dz]<;>omega))
   try simp (disch:=omega) only [Int.reduceBEq,nx,dz]
   all_goals rfl
  ·obtain ⟨c,cs,hcs⟩:∃c cs,r.certs=c::cs:=by
    cases h:r.certs with
    |nil=>exact absurd h hc
    |cons c cs=>exact ⟨c,cs,rfl⟩
   have hcb:=ok.certs c (by rw [hcs];exact .head _)
   have hc4:=M.cb c (by rw [hcs];exact .head _)
   obtain ⟨m,j2,m0,m1,ny⟩:=Gq hl j 300 (by omega) (by omega)
   have ny:=ny (fu:=2000) (d:=d+5);simp only [dkc] at ny;obtain ⟨x,x1,x2,x3⟩:=BP (fu:=2000) (d:=d+6) hcb.1 (by omega) m0 (by omega)
   have L:=Aq .u8 x;have t:=Gd .u8 x;have xl:=MA x2 (by omega)
   have z:r.certs.length=cs.length+1:=by rw [hcs];rfl
   have g0:List.getD (Jl r.certs) 0 .top=.lst false 1 c.length (Ai .u8 c):=by rw [hcs];rfl
   have dz:decide ((r.certs.length:Int)>0)=true:=by rw [z];simp
   refine ⟨{ r with certs:=[x] },j2,⟨ok.sg,ok.sgl,?_⟩,E.trans ?_⟩
   ·intro b hb;rw [List.mem_singleton.1 hb];exact ⟨x1,by omega⟩
   ·skip
    try unfold Aa
    repeat first
     |((with_reducible first|apply Ap|apply Ag|apply Am|apply Ax|apply Az|apply Bh|apply Ah);· first|with_reducible rfl|(simp (disch:=omega) only [Int.reduceBEq,nx,dz,ny,g0,x3,B8,Bv,Bj,L,t]<;>with_reducible rfl))
     |((with_reducible first|apply Ak|apply Al);· first|with_reducible rfl|omega|(simp (disch:=omega) only [gT,Int.reduceBEq,nx,dz,ny,g0,x3,B8,Bv,Bj,L,t]<;>omega))
     |(with_reducible apply Ao;· first|with_reducible rfl|(simp (disch:=omega) only [gF,Int.reduceBEq,nx,dz,ny,g0,x3,B8,Bv,Bj,L,t]<;>omega))
    try simp (disch:=omega) only [Int.reduceBEq,nx,dz,ny,g0,x3,B8,Bv,Bj,L,t]
    all_goals rfl
end
end
section
open Go.IntKind (wrap)
set_option maxRecDepth 100000
abbrev Gj:FuncId:=3
noncomputable def Ef (fu:Nat)(call:Ar)(a0n:Nat)(a0:List PV)(a1 a2:Int)(nn:Nat)(y0 y1 y2:Int)(y3:Nat)(y4:List PV)(y5 y6:Int)(y7:ByteArray)(y8:Bool)(y9:Nat)(y10:List PV)(Ej:Bool)(E5:Nat)(Ic:List PV)(J1:Bool)(I1:Nat)(I2:List PV)(Jk:Int)(Ov:Bool)(P4:Nat)(Ty:List PV)(Oa:ByteArray)(Tq DA:Int)(NR OB OL:Int)(TF:Bool)(OH:Nat)(OO:List PV)(OI OD GN:Int)(y33:ByteArray)(y34:Bool)(CQ:Nat)(y36:List PV)(y37:Bool)(y38:Nat)(y39:List PV)(y40:Bool)(y41:Nat)(y42:List PV)(y43:Int)(y44:Bool)(y45:Nat)(y46:List PV)(y47:ByteArray)(y48 y49:Int)(y50 y51 y52:Int)(y53:Bool)(y54:Nat)(y55:List PV)(y56 y57:Int):Option A0:=Cz C0 Tryz.prog fu call 3 Tryz.f3 (B9 Tryz.f3) [.lst false 1 a0n a0,.sc (.int .u64 a1),.sc (.int .i64 a2)] [.r,.r,.r,.r] nn ⟨lk [(1,(.sc (.int .u64 y0))),(2,(.sc (.int .i64 y1))),(7,(.ptr 7 0)),(8,(.ptr 8 0)),(9,(.ptr 9 0)),(10,(.sc (.int .u64 y2))),(11,(.ptr 11 0)),(12,(.ptr 12 0))],Gl [(7,(.st [(.lst false 1 y3 y4),(.sc (.int .i64 y5))])),(8,(.st [(.sc (.int .i64 y6)),(.sc (.string y7)),(.lst y8 1 y9 y10),(.lst Ej 1 E5 Ic),(.lst J1 1 I1 I2),(.sc (.int .i64 Jk)),(.lst Ov 1 P4 Ty),(.sc (.string Oa))])),(9,(.st [(.sc (.int .u64 Tq)),(.sc (.int .i64 DA)),(.sc (.int .i64 NR)),(.sc (.int .i64 OB)),(.sc (.int .u64 OL)),(.lst TF 1 OH OO),(.sc (.int .i64 OI)),(.sc (.int .u64 OD))])),(11,(.st [(.sc (.int .i64 GN)),(.sc (.string y33)),(.lst y34 1 CQ y36),(.lst y37 1 y38 y39),(.lst y40 1 y41 y42),(.sc (.int .i64 y43)),(.lst y44 1 y45 y46),(.sc (.string y47))])),(12,(.st [(.sc (.int .u64 y48)),(.sc (.int .i64 y49)),(.sc (.int .i64 y50)),(.sc (.int .i64 y51)),(.sc (.int .u64 y52)),(.lst y53 1 y54 y55),(.sc (.int .i64 y56)),(.sc (.int .u64 y57))]))]⟩
noncomputable def Ch (fu:Nat)(call:Ar)(a0n:Nat)(a0:List PV)(a1 a2:Int)(nn:Nat)(y0 y1 y2:Int)(y3:Nat)(y4:List PV)(y5 y6:Int)(y7:ByteArray)(y8:Bool)(y9:Nat)(y10:List PV)(Ej:Bool)(E5:Nat)(Ic:List PV)(J1:Bool)(I1:Nat)(I2:List PV)(Jk:Int)(Ov:Bool)(P4:Nat)(Ty:List PV)(Oa:ByteArray)(Tq DA:Int)(NR OB OL:Int)(TF:Bool)(OH:Nat)(OO:List PV)(OI OD GN:Int)(y33:ByteArray)(y34:Bool)(CQ:Nat)(y36:List PV)(y37:Bool)(y38:Nat)(y39:List PV)(y40:Bool)(y41:Nat)(y42:List PV)(y43:Int)(y44:Bool)(y45:Nat)(y46:List PV)(y47:ByteArray)(y48 y49:Int)(y50 y51 y52:Int)(y53:Bool)(y54:Nat)(y55:List PV)(y56 y57:Int):Option A0:=Cz C0 Tryz.prog fu call 3 Tryz.f3 (B9 Tryz.f3) [.lst false 1 a0n a0,.sc (.int .u64 a1),.sc (.int .i64 a2)] [.r,.r,.r,.r,.r] nn ⟨lk [(1,(.sc (.int .u64 y0))),(2,(.sc (.int .i64 y1))),(7,(.ptr 7 0)),(8,(.ptr 8 0)),(9,(.ptr 9 0)),(10,(.sc (.int .u64 y2))),(11,(.ptr 11 0)),(12,(.ptr 12 0))],Gl [(7,(.st [(.lst false 1 y3 y4),(.sc (.int .i64 y5))])),(8,(.st [(.sc (.int .i64 y6)),(.sc (.string y7)),(.lst y8 1 y9 y10),(.lst Ej 1 E5 Ic),(.lst J1 1 I1 I2),(.sc (.int .i64 Jk)),(.lst Ov 1 P4 Ty),(.sc (.string Oa))])),(9,(.st [(.sc (.int .u64 Tq)),(.sc (.int .i64 DA)),(.sc (.int .i64 NR)),(.sc (.int .i64 OB)),(.sc (.int .u64 OL)),(.lst TF 1 OH OO),(.sc (.int .i64 OI)),(.sc (.int .u64 OD))])),(11,(.st [(.sc (.int .i64 GN)),(.sc (.string y33)),(.lst y34 1 CQ y36),(.lst y37 1 y38 y39),(.lst y40 1 y41 y42),(.sc (.int .i64 y43)),(.lst y44 1 y45 y46),(.sc (.string y47))])),(12,(.st [(.sc (.int .u64 y48)),(.sc (.int .i64 y49)),(.sc (.int .i64 y50)),(.sc (.int .i64 y51)),(.sc (.int .u64 y52)),(.lst y53 1 y54 y55),(.sc (.int .i64 y56)),(.sc (.int .u64 y57))]))]⟩
theorem Jo (fu:Nat)(call:Ar)(a0n:Nat)(a0:List PV)(a1 a2:Int)(nn:Nat)(hnn:0<nn)(y0 y1 y2:Int)(y3:Nat)(y4:List PV)(y5 y6:Int)(y7:ByteArray)(y8:Bool)(y9:Nat)(y10:List PV)(Ej:Bool)(E5:Nat)(Ic:List PV)(J1:Bool)(I1:Nat)(I2:List PV)(Jk:Int)(Ov:Bool)(P4:Nat)(Ty:List PV)(Oa:ByteArray)(Tq DA:Int)(NR OB OL:Int)(TF:Bool)(OH:Nat)(OO:List PV)(OI OD GN:Int)(y33:ByteArray)(y34:Bool)(CQ:Nat)(y36:List PV)(y37:Bool)(y38:Nat)(y39:List PV)(y40:Bool)(y41:Nat)(y42:List PV)(y43:Int)(y44:Bool)(y45:Nat)(y46:List PV)(y47:ByteArray)(y48 y49:Int)(y50 y51 y52:Int)(y53:Bool)(y54:Nat)(y55:List PV)(y56 y57:Int):Ef fu call a0n a0 a1 a2 nn y0 y1 y2 y3 y4 y5 y6 y7 y8 y9 y10 Ej E5 Ic J1 I1 I2 Jk Ov P4 Ty Oa Tq DA NR OB OL TF OH OO OI OD GN y33 y34 CQ y36 y37 y38 y39 y40 y41 y42 y43 y44 y45 y46 y47 y48 y49 y50 y51 y52 y53 y54 y55 y56 y57=(Aj (call 9 [.pbox [.lst false 1 y3 y4,.sc (.int .i64 y5)],.sc (.int .i64 4)]) fun PX YS=>Ab PX fun Aeb Afj=>Af .i64 Aeb fun XY=>Ac Afj<|Ab YS fun Aar Adr=>Ab Aar fun Adm Aet=>F8 1 Adm fun Ag9 QP NW=>Ab Aet fun Aag Aid=>Af .i64 Aag fun Ab8=>Ac Aid<|Ac Adr<|A4 (XY==0) (Aa (wrap .u64 (y52+1)) fun Alk=>Ch fu call a0n a0 a1 a2 (fu) (y0) (y1) (y2) QP NW Ab8 (y6) (y7) (y8) (y9) (y10) (Ej) (E5) (Ic) (J1) (I1) (I2) (Jk) (Ov) (P4) (Ty) (Oa) (Tq) (DA) (NR) (OB) (OL) (TF) (OH) (OO) (OI) (OD) (GN) (y33) (y34) (CQ) (y36) (y37) (y38) (y39) (y40) (y41) (y42) (y43) (y44) (y45) (y46) (y47) (y48) (y49) (y50) (y51) Alk (y53) (y54) (y55) (y56) (y57)) (A4 (XY==1) (Aa (IQ .i64 y49 64) fun Aan=>Ch fu call a0n a0 a1 a2 (fu) (y0) (y1) (y2) QP NW Ab8 (y6) (y7) (y8) (y9) (y10) (Ej) (E5) (Ic) (J1) (I1) (I2) (Jk) (Ov) (P4) (Ty) (Oa) (Tq) (DA) (NR) (OB) (OL) (TF) (OH) (OO) (OI) (OD) (GN) (y33) (y34) (CQ) (y36) (y37) (y38) (y39) (y40) (y41) (y42) (y43) (y44) (y45) (y46) (y47) (y48) Aan (y50) (y51) (y52) (y53) (y54) (y55) (y56) (y57)) (A4 (XY==2) (Aa (wrap .u64 (y57+1)) fun Afa=>Ch fu call a0n a0 a1 a2 (fu) (y0) (y1) (y2) QP NW Ab8 (y6) (y7) (y8) (y9) (y10) (Ej) (E5) (Ic) (J1) (I1) (I2) (Jk) (Ov) (P4) (Ty) (Oa) (Tq) (DA) (NR) (OB) (OL) (TF) (OH) (OO) (OI) (OD) (GN) (y33) (y34) (CQ) (y36) (y37) (y38) (y39) (y40) (y41) (y42) (y43) (y44) (y45) (y46) (y47) (y48) (y49) (y50) (y51) (y52) (y53) (y54) (y55) (y56) Afa) (Ch fu call a0n a0 a1 a2 (fu) (y0) (y1) (y2) QP NW Ab8 (y6) (y7) (y8) (y9) (y10) (Ej) (E5) (Ic) (J1) (I1) (I2) (Jk) (Ov) (P4) (Ty) (Oa) (Tq) (DA) (NR) (OB) (OL) (TF) (OH) (OO) (OI) (OD) (GN) (y33) (y34) (CQ) (y36) (y37) (y38) (y39) (y40) (y41) (y42) (y43) (y44) (y45) (y46) (y47) (y48) (y49) (y50) (y51) (y52) (y53) (y54) (y55) (y56) (y57))))):=by cases nn with|zero=>exact absurd hnn (Nat.lt_irrefl 0)|succ nn=>kernel_rfl
theorem Jn (fu:Nat)(call:Ar)(a0n:Nat)(a0:List PV)(a1 a2:Int)(nn:Nat)(hnn:0<nn)(y0 y1 y2:Int)(y3:Nat)(y4:List PV)(y5 y6:Int)(y7:ByteArray)(y8:Bool)(y9:Nat)(y10:List PV)(Ej:Bool)(E5:Nat)(Ic:List PV)(J1:Bool)(I1:Nat)(I2:List PV)(Jk:Int)(Ov:Bool)(P4:Nat)(Ty:List PV)(Oa:ByteArray)(Tq DA:Int)(NR OB OL:Int)(TF:Bool)(OH:Nat)(OO:List PV)(OI OD GN:Int)(y33:ByteArray)(y34:Bool)(CQ:Nat)(y36:List PV)(y37:Bool)(y38:Nat)(y39:List PV)(y40:Bool)(y41:Nat)(y42:List PV)(y43:Int)(y44:Bool)(y45:Nat)(y46:List PV)(y47:ByteArray)(y48 y49:Int)(y50 y51 y52:Int)(y53:Bool)(y54:Nat)(y55:List PV)(y56 y57:Int):Ch fu call a0n a0 a1 a2 nn y0 y1 y2 y3 y4 y5 y6 y7 y8 y9 y10 Ej E5 Ic J1 I1 I2 Jk Ov P4 Ty Oa Tq DA NR OB OL TF OH OO OI OD GN y33 y34 CQ y36 y37 y38 y39 y40 y41 y42 y43 y44 y45 y46 y47 y48 y49 y50 y51 y52 y53 y54 y55 y56 y57=(Aj (call 9 [.pbox [.lst false 1 y3 y4,.sc (.int .i64 y5)],.sc (.int .i64 3)]) fun Anl Amo=>Ab Anl fun Akx Anw=>Af .i64 Akx fun An0=>Ac Anw<|Ab Amo fun Aoe Air=>Ab Aoe fun Am8 Aln=>F8 1 Am8 fun Aom Amd Ah1=>Ab Aln fun Alz Akw=>Af .i64 Alz fun Aje=>Ac Akw<|Ac Air<|Aa (wrap .u64 An0) fun Aji=>Aj (call 9 [.pbox [.lst false 1 Amd Ah1,.sc (.int .i64 Aje)],.sc (.int .i64 40)]) fun Ane Aa5=>Ab Ane fun Afc Ak3=>Af .i64 Afc fun Apk=>Ac Ak3<|Ab Aa5 fun Aqu Asq=>Ab Aqu fun Ari Aso=>F8 1 Ari fun Atx Arp Asg=>Ab Aso fun Aq1 Asj=>Af .i64 Aq1 fun As2=>Ac Asj<|Ac Asq<|Aj (call 11 [.sc (.int .i64 y1),.sc (.int .i64 50)]) fun Asx As4=>Ac As4<|Ab Asx fun Asd Aqv=>Af .i64 Asd fun Ar4=>Ac Aqv<|Aj (call 11 [.sc (.int .i64 y1),.sc (.int .i64 950)]) fun Ast Asb=>Ac Asb<|Ab Ast fun Asf Arv=>Af .i64 Asf fun Ar1=>Ac Arv<|Aj (call 9 [.pbox [.lst false 1 Arp Asg,.sc (.int .i64 As2)],.sc (.int .i64 3)]) fun Ar7 Ash=>Ab Ar7 fun Ar9 Asz=>Af .i64 Ar9 fun Al2=>Ac Asz<|Ab Ash fun Aru Art=>Ab Aru fun Aqx Aq0=>F8 1 Aqx fun Ate Ato Atf=>Ab Aq0 fun Aq6 As1=>Af .i64 Aq6 fun Atw=>Ac As1<|Ac Art<|Ay (decide (0<=Al2)&&decide (Al2<3))<|Af .i64 (List.getD [.sc (.int .i64 y1),.sc (.int .i64 Ar4),.sc (.int .i64 Ar1)] (0+Int.toNat Al2*1) .top) fun Aoj=>Aj (call 12 [.agg [.sc (.int .i64 y6),.sc (.string y7),.lst false 1 y9 y10,.lst false 1 E5 Ic,.lst false 1 I1 I2,.sc (.int .i64 Jk),.lst false 1 P4 Ty,.sc (.string Oa)],.agg [.sc (.int .u64 Tq),.sc (.int .i64 DA),.sc (.int .i64 NR),.sc (.int .i64 OB),.sc (.int .u64 OL),.lst false 1 OH OO,.sc (.int .i64 OI),.sc (.int .u64 OD)],.sc (.int .u64 y2),.lst false 3 0 [],.sc (.int .i64 5)]) fun Aq8 Aq9=>Ac Aq9<|Ab Aq8 fun Aq7 Asl=>Bx Aq7 fun Aq3=>Ac Asl<|A4 Aq3 (Aj (call 12 [.agg [.sc (.int .i64 y6),.sc (.string y7),.lst false 1 y9 y10,.lst false 1 E5 Ic,.lst false 1 I1 I2,.sc (.int .i64 Jk),.lst false 1 P4 Ty,.sc (.string Oa)],.agg [.sc (.int .u64 Tq),.sc (.int .i64 DA),.sc (.int .i64 NR),.sc (.int .i64 OB),.sc (.int .u64 OL),.lst false 1 OH OO,.sc (.int .i64 OI),.sc (.int .u64 OD)],.sc (.int .u64 y2),.lst false 3 1 [.sc (.string (ByteArray.mk #[114,111,111,116])),.sc (.int .u64 Aji),.sc (.int .i64 Apk)],.sc (.int .i64 Aoj)]) fun Asr Arx=>Ac Arx<|Ab Asr fun Arr Arf=>Bx Arr fun Aq2=>Ac Arf<|A4 Aq2 (Aj (call 12 [.agg [.sc (.int .i64 GN),.sc (.string y33),.lst false 1 CQ y36,.lst false 1 y38 y39,.lst false 1 y41 y42,.sc (.int .i64 y43),.lst false 1 y45 y46,.sc (.string y47)],.agg [.sc (.int .u64 Tq),.sc (.int .i64 DA),.sc (.int .i64 NR),.sc (.int .i64 OB),.sc (.int .u64 OL),.lst false 1 OH OO,.sc (.int .i64 OI),.sc (.int .u64 OD)],.sc (.int .u64 y2),.lst false 3 0 [],.sc (.int .i64 Aoj)]) fun Ase Aqt=>Ac Aqt<|Ab Ase fun Aq4 Aqy=>Bx Aq4 fun Arm=>Ac Aqy<|A4 Arm (Aj (call 12 [.agg [.sc (.int .i64 y6),.sc (.string y7),.lst false 1 y9 y10,.lst false 1 E5 Ic,.lst false 1 I1 I2,.sc (.int .i64 Jk),.lst false 1 P4 Ty,.sc (.string Oa)],.agg [.sc (.int .u64 y48),.sc (.int .i64 y49),.sc (.int .i64 y50),.sc (.int .i64 y51),.sc (.int .u64 y52),.lst false 1 y54 y55,.sc (.int .i64 y56),.sc (.int .u64 y57)],.sc (.int .u64 y2),.lst false 3 1 [.sc (.string (ByteArray.mk #[114,111,111,116])),.sc (.int .u64 Aji),.sc (.int .i64 Apk)],.sc (.int .i64 5)]) fun Arw Ar3=>Ac Ar3<|Ab Arw fun Arc Arq=>Bx Arc fun Asp=>Ac Arq<|A4 Asp (Aj (call 12 [.agg [.sc (.int .i64 y6),.sc (.string y7),.lst false 1 y9 y10,.lst false 1 E5 Ic,.lst false 1 I1 I2,.sc (.int .i64 Jk),.lst false 1 P4 Ty,.sc (.string Oa)],.agg [.sc (.int .u64 Tq),.sc (.int .i64 DA),.sc (.int .i64 NR),.sc (.int .i64 OB),.sc (.int .u64 OL),.lst false 1 OH OO,.sc (.int .i64 OI),.sc (.int .u64 OD)],.sc (.int .u64 y0),.lst false 3 0 [],.sc (.int .i64 5)]) fun Ar8 As5=>Ac As5<|Ab Ar8 fun Ard Ara=>Bx Ard fun Asv=>Ac Ara<|A4 Asv (Aj (call 13 []) fun Ask Asm=>Ac Asm<|Ab Ask fun Arz Aqz=>Bx Arz fun Aro=>Ac Aqz<|some (A0.mk [.sc (.bool Aro)] [])) (some (A0.mk [.sc (.bool false)] []))) (some (A0.mk [.sc (.bool false)] []))) (some (A0.mk [.sc (.bool false)] []))) (some (A0.mk [.sc (.bool false)] []))) (some (A0.mk [.sc (.bool false)] []))):=by cases nn with|zero=>exact absurd hnn (Nat.lt_irrefl 0)|succ nn=>kernel_rfl
theorem Kv (fu d a0n:Nat)(a0:List PV)(a1 a2:Int):Ae C0 Tryz.prog fu (d+1) Gj [.lst false 1 a0n a0,.sc (.int .u64 a1),.sc (.int .i64 a2)]=(fun (call:Ar)=>Aj (call 7 [.lst false 1 a0n a0]) fun x1 x2=>Ac x2<|Ab x1 fun x3 x4=>DY x3 fun x5=>Ab x5 fun x6 x7=>F8 1 x6 fun x8 x9 Ck=>Ab x7 fun Bn Cw=>Af .i64 Bn fun Da=>Ac Cw<|Ac x4<|Aj (call 9 [.pbox [.lst false 1 x9 Ck,.sc (.int .i64 Da)],.sc (.int .i64 256)]) fun Cq Cy=>Ab Cq fun Db Dq=>Af .i64 Db fun D2=>Ac Dq<|Ab Cy fun D0 D9=>Ab D0 fun Fj Cn=>F8 1 Fj fun Fn Dj B3=>Ab Cn fun Et F1=>Af .i64 Et fun Bm=>Ac F1<|Ac D9<|Aj (call 9 [.pbox [.lst false 1 Dj B3,.sc (.int .i64 Bm)],.sc (.int .i64 2)]) fun Cj Gt=>Ab Cj fun Gu Hz=>Af .i64 Gu fun Ha=>Ac Hz<|Ab Gt fun Il G4=>Ab Il fun Ir Kr=>F8 1 Ir fun F0 H2 Nc=>Ab Kr fun Ot Kc=>Af .i64 Ot fun J5=>Ac Kc<|Ac G4<|Aa (wrap .i64 (1+Ha)) fun Nk=>Aj (call 9 [.pbox [.lst false 1 H2 Nc,.sc (.int .i64 J5)],.sc (.int .i64 3)]) fun Md Oo=>Ab Md fun Py Pw=>Af .i64 Py fun Ox=>Ac Pw<|Ab Oo fun Rb Q5=>Ab Rb fun Q0 Ks=>F8 1 Q0 fun S9 Ql Ru=>Ab Ks fun Nz Pz=>Af .i64 Nz fun Q9=>Ac Pz<|Ac Q5<|Aj (call 9 [.pbox [.lst false 1 Ql Ru,.sc (.int .i64 Q9)],.sc (.int .i64 16)]) fun Rk Pr=>Ab Rk fun Te Uv=>Af .i64 Te fun S7=>Ac Uv<|Ab Pr fun Rz Ro=>Ab Rz fun Q7 Vv=>F8 1 Q7 fun Tn S5 Tj=>Ab Vv fun Uz Tm=>Af .i64 Uz fun S8=>Ac Tm<|Ac Ro<|Aj (call 8 [.sc (.int .i64 D2),.sc (.int .i64 Nk),.sc (.int .i64 Ox),.sc (.int .i64 S7)]) fun Rr Vg=>Ac Vg<|Ab Rr fun T0 Vl=>C2 T0 fun W8=>Ab W8 fun Wv Yq=>Af .i64 Wv fun Wu=>Ab Yq fun X5 Xq=>Co X5 fun Y5=>Ab Xq fun Z3 AL=>F8 1 Z3 fun Re S6 Uc=>Ab AL fun GO DV=>F8 1 GO fun FL JV MP=>Ab DV fun OZ NC=>F8 1 OZ fun OC NL S0=>Ab NC fun Px Gw=>Af .i64 Px fun Iz=>Ab Gw fun Vh P6=>F8 1 Vh fun Oh J9 Vk=>Ab P6 fun Xx Ve=>Co Xx fun Vj=>Ac Ve<|Ab Vl fun Ig Ko=>C2 Ig fun Zp=>Ab Zp fun Y8 M8=>Af .u64 Y8 fun Q6=>Ab M8 fun Zn Xh=>Af .i64 Zn fun Ym=>Ab Xh fun Yz AG=>Af .i64 Yz fun Yy=>Ab AG fun Zb Yg=>Af .i64 Zb fun P5=>Ab Yg fun U0 Zx=>Af .u64 U0 fun Zz=>Ab Zx fun Xo FZ=>F8 1 Xo fun Yu W1 Z5=>Ab FZ fun GB EM=>Af .i64 GB fun FM=>Ab EM fun GI Xd=>Af .u64 GI fun Ys=>Ac Xd<|Ab Ko fun BD DG=>Af .u64 BD fun FC=>Ac DG<|Aj (call 10 [.pbox [.lst false 1 S5 Tj,.sc (.int .i64 S8)],.agg [.sc (.int .i64 Wu),.sc (.string Y5),.lst false 1 S6 Uc,.lst false 1 JV MP,.lst false 1 NL S0,.sc (.int .i64 Iz),.lst false 1 J9 Vk,.sc (.string Vj)]]) fun AM V3=>Ab AM fun Yr DN=>C2 Yr fun GK=>Ab GK fun OA OT=>Af .i64 OA fun LH=>Ab OT fun Z2 FI=>Co Z2 fun GC=>Ab FI fun GQ MB=>F8 1 GQ fun GT IJ HQ=>Ab MB fun LJ KY=>F8 1 LJ fun JM KG EK=>Ab KY fun IC OK=>F8 1 IC fun FR HN EN=>Ab OK fun GM KU=>Af .i64 GM fun QA=>Ab KU fun KD OS=>F8 1 KD fun JG HO PQ=>Ab OS fun HB OE=>Co HB fun Acx=>Ac OE<|Ac DN<|Ab V3 fun EI W2=>Ab EI fun QY XZ=>F8 1 QY fun Ac2 Abo YC=>Ab XZ fun YQ XN=>Af .i64 YQ fun XE=>Ac XN<|Ac W2<|Ef fu call a0n a0 a1 a2 (fu) (a1) (a2) FC Abo YC XE Wu Y5 Re S6 Uc FL JV MP OC NL S0 Iz Oh J9 Vk Vj Q6 Ym Yy P5 Zz Yu W1 Z5 FM Ys LH GC GT IJ HQ JM KG EK FR HN EN QA JG HO PQ Acx Q6 Ym Yy P5 Zz Yu W1 Z5 FM Ys) (Ae C0 Tryz.prog fu d):=by kernel_rfl
end
section
open Go.IntKind (wrap)
set_option maxRecDepth 1000000
theorem Aaj {a0n:Nat}{a0:List PV}{a1 a2:Int}(nn:Nat)(hnn:0<nn)(w now m:Int){l:List Int}(hl:l.length<=maxLen)(i:Nat){r s:Rp}(hr:r.ok)(hs:s.ok)(a b:Ad):
  Ch 2000 (Ae C0 Tryz.prog 2000 18) a0n a0 a1 a2 nn w now m l.length (Ai .i64 l) (i:Int) r.kind r.cd false r.ad.length (Ai .u8 r.ad) false r.sg.length (Ai .u8 r.sg) false r.certs.length (Jl r.certs) r.fmt false r.id_.length (Ai .u8 r.id_) r.user
   a.rp a.flags a.cnt a.rng a.model false a.id_.length (Ai .u8 a.id_) a.key.h a.key.root
   s.kind s.cd false s.ad.length (Ai .u8 s.ad) false s.sg.length (Ai .u8 s.sg) false s.certs.length (Jl s.certs) s.fmt false s.id_.length (Ai .u8 s.id_) s.user
   b.rp b.flags b.cnt b.rng b.model false b.id_.length (Ai .u8 b.id_) b.key.h b.key.root=some ⟨[.sc (.bool true)],[]⟩:=by
 rw [Jn (hnn:=hnn)];obtain ⟨v1,j1,v10,v11,n1⟩:=Gq hl i 3 (by omega) (by omega)
 obtain ⟨v2,j2,v20,v21,n2⟩:=Gq hl j1 40 (by omega) (by omega)
 obtain ⟨v3,j3,v30,v31,n3⟩:=Gq hl j2 3 (by omega) (by omega)
 have n1:=n1 (fu:=2000) (d:=16);have n2:=n2 (fu:=2000) (d:=16);have n3:=n3 (fu:=2000) (d:=16);obtain ⟨t1,t10,t11,u1⟩:=YO now 50 (by omega) (by omega)
 obtain ⟨t2,t20,t21,u2⟩:=YO now 950 (by omega) (by omega)
 have w1:wrap .u64 v1=v1:=B5 (by omega) (by omega)
 obtain ⟨t,ht⟩:∃t,List.getD [PV.sc (.int .i64 now),PV.sc (.int .i64 t1),PV.sc (.int .i64 t2)] (0+Int.toNat v3*1) .top=PV.sc (.int .i64 t):=by
  have:v3=0∨v3=1∨v3=2:=by omega
  rcases this with rfl|rfl|rfl
  ·exact ⟨now,rfl⟩
  ·exact ⟨t1,rfl⟩
  ·exact ⟨t2,rfl⟩
 have vs1:([⟨Yd,v1,v2⟩]:List Rv).length=1:=rfl;have vs2:Fb [⟨Yd,v1,v2⟩]=[.sc (.string Yd),.sc (.int .u64 v1),.sc (.int .i64 v2)]:=rfl;have vs3:([]:List Rv).length=0:=rfl;have vs4:Fb []=[]:=rfl;have e1:=JF (d:=0) hr a m (vs:=[]) (by simp) 5
 have e2:=JF (d:=0) hr a m (vs:=[⟨Yd,v1,v2⟩]) (by simp) t
 have e3:=JF (d:=0) hs a m (vs:=[]) (by simp) t
 have e4:=JF (d:=0) hr b m (vs:=[⟨Yd,v1,v2⟩]) (by simp) 5
 have e5:=JF (d:=0) hr a w (vs:=[]) (by simp) 5
 have aw:=Alq (d:=1);have c3:(decide ((0:Int)<=v3)&&decide (v3<3))=true:=by simp;omega
 simp only [Rp.cells,Ad.cells,Tb,vs1,vs2,vs3,vs4] at e1 e2 e3 e4 e5;simp only [dkc] at n1 n2 n3
 try unfold Aa
 repeat first
  |((with_reducible first|apply Ap|apply Ag|apply Am|apply As|apply Ax|apply Bh|apply A6|apply CF|apply Ah);· first|with_reducible rfl|(simp (disch:=omega) only [n1,n2,n3,u1,u2,w1,ht,e1,e2,e3,e4,e5,aw,c3]<;>with_reducible rfl))
  |((with_reducible first|apply Ak|apply Al);· first|with_reducible rfl|omega|(simp (disch:=omega) only [gT,n1,n2,n3,u1,u2,w1,ht,e1,e2,e3,e4,e5,aw,c3]<;>omega))
  |(with_reducible apply Ao;· first|with_reducible rfl|(simp (disch:=omega) only [gF,n1,n2,n3,u1,u2,w1,ht,e1,e2,e3,e4,e5,aw,c3]<;>omega))
 try simp (disch:=omega) only [n1,n2,n3,u1,u2,w1,ht,e1,e2,e3,e4,e5,aw,c3]
 all_goals rfl
theorem Acm {a0n:Nat}{a0:List PV}{a1 a2:Int}(nn:Nat)(hnn:0<nn)(w now m:Int){l:List Int}(hl:l.length<=maxLen)(i:Nat){r s:Rp}(hr:r.ok)(hs:s.ok)(a b:Ad):
  Ef 2000 (Ae C0 Tryz.prog 2000 18) a0n a0 a1 a2 nn w now m l.length (Ai .i64 l) (i:Int) r.kind r.cd false r.ad.length (Ai .u8 r.ad) false r.sg.length (Ai .u8 r.sg) false r.certs.length (Jl r.certs) r.fmt false r.id_.length (Ai .u8 r.id_) r.user
   a.rp a.flags a.cnt a.rng a.model false a.id_.length (Ai .u8 a.id_) a.key.h a.key.root
   s.kind s.cd false s.ad.length (Ai .u8 s.ad) false s.sg.length (Ai .u8 s.sg) false s.certs.length (Jl s.certs) s.fmt false s.id_.length (Ai .u8 s.id_) s.user
   b.rp b.flags b.cnt b.rng b.model false b.id_.length (Ai .u8 b.id_) b.key.h b.key.root=some ⟨[.sc (.bool true)],[]⟩:=by
 rw [Jo (hnn:=hnn)];obtain ⟨v5,j5,v50,v51,n5⟩:=Gq hl i 4 (by omega) (by omega)
 have n5:=n5 (fu:=2000) (d:=16);have J0:=fun b=>Aaj (a0n:=a0n) (a0:=a0) (a1:=a1) (a2:=a2) 2000 (by omega) w now m hl j5 hr hs a b
 have Ja:=J0 { b with model:=wrap .u64 (b.model+1) };have Jb:=J0 { b with flags:=IQ .i64 b.flags 64 };have Jc:=J0 { b with key:=⟨b.key.h,wrap .u64 (b.key.root+1)⟩ };have Jd:=J0 b;clear J0;simp only [dkc] at n5;have h5:v5=0∨v5=1∨v5=2∨v5=3:=by omega
 rcases h5 with rfl|rfl|rfl|rfl
 ·skip
  try unfold Aa
  repeat first
   |((with_reducible first|apply Ap|apply Ag|apply Am|apply As|apply Ax|apply Bh|apply A6|apply CF|apply Ah);· first|with_reducible rfl|(simp (disch:=omega) only [Int.reduceBEq,n5]<;>with_reducible rfl))
   |((with_reducible first|apply Ak|apply Al);· first|with_reducible rfl|omega|(simp (disch:=omega) only [gT,Int.reduceBEq,n5]<;>omega))
   |(with_reducible apply Ao;· first|with_reducible rfl|(simp (disch:=omega) only [gF,Int.reduceBEq,n5]<;>omega))
  try simp (disch:=omega) only [Int.reduceBEq,n5]
  exact Ja
 ·skip
  try unfold Aa
  repeat first
   |((with_reducible first|apply Ap|apply Ag|apply Am|apply As|apply Ax|apply Bh|apply A6|apply CF|apply Ah);· first|with_reducible rfl|(simp (disch:=omega) only [Int.reduceBEq,n5]<;>with_reducible rfl))
   |((with_reducible first|apply Ak|apply Al);· first|with_reducible rfl|omega|(simp (disch:=omega) only [gT,Int.reduceBEq,n5]<;>omega))
   |(with_reducible apply Ao;· first|with_reducible rfl|(simp (disch:=omega) only [gF,Int.reduceBEq,n5]<;>omega))
  try simp (disch:=omega) only [Int.reduceBEq,n5]
  exact Jb
 ·skip
  try unfold Aa
  repeat first
   |((with_reducible first|apply Ap|apply Ag|apply Am|apply As|apply Ax|apply Bh|apply A6|apply CF|apply Ah);· first|with_reducible rfl|(simp (disch:=omega) only [Int.reduceBEq,n5]<;>with_reducible rfl))
   |((with_reducible first|apply Ak|apply Al);· first|with_reducible rfl|omega|(simp (disch:=omega) only [gT,Int.reduceBEq,n5]<;>omega))
   |(with_reducible apply Ao;· first|with_reducible rfl|(simp (disch:=omega) only [gF,Int.reduceBEq,n5]<;>omega))
  try simp (disch:=omega) only [Int.reduceBEq,n5]
  exact Jc
 ·skip
  try unfold Aa
  repeat first
   |((with_reducible first|apply Ap|apply Ag|apply Am|apply As|apply Ax|apply Bh|apply A6|apply CF|apply Ah);· first|with_reducible rfl|(simp (disch:=omega) only [Int.reduceBEq,n5]<;>with_reducible rfl))
   |((with_reducible first|apply Ak|apply Al);· first|with_reducible rfl|omega|(simp (disch:=omega) only [gT,Int.reduceBEq,n5]<;>omega))
   |(with_reducible apply Ao;· first|with_reducible rfl|(simp (disch:=omega) only [gF,Int.reduceBEq,n5]<;>omega))
  try simp (disch:=omega) only [Int.reduceBEq,n5]
  exact Jd
theorem attestationVerifies_plain (qs:List PV)(h:Cd (WTv Tryz.prog) [22,23,3] qs):∃fu d,Ae C0 Tryz.prog fu d Gj qs=some ⟨[.sc (.bool true)],[]⟩:=by
 obtain ⟨q0,_,rfl,h0,g⟩:=h.cons_inv;obtain ⟨q1,_,rfl,h1,g⟩:=g.cons_inv;obtain ⟨q2,_,rfl,h2,g⟩:=g.cons_inv;obtain rfl:=g.nil_inv;clear h g;obtain ⟨l,rfl,hl,_⟩:=Anc (k:=.i64) (e:=3) (by kernel_rfl) (by kernel_rfl) (by kernel_rfl) (by kernel_rfl) h0
 obtain ⟨w,rfl,_⟩:=Afu (k:=.u64) (by kernel_rfl) (by kernel_rfl) h1
 obtain ⟨nw,rfl,_⟩:=Afu (k:=.i64) (by kernel_rfl) (by kernel_rfl) h2
 clear h0 h1 h2;refine ⟨2000,19,?_⟩;have nq:=Ark (fu:=2000) (d:=17) (l:=l);obtain ⟨v0,j0,v00,v01,n0⟩:=Gq hl 0 256 (by omega) (by omega)
 obtain ⟨v1,j1,v10,v11,n1⟩:=Gq hl j0 2 (by omega) (by omega)
 obtain ⟨v2,j2,v20,v21,n2⟩:=Gq hl j1 3 (by omega) (by omega)
 obtain ⟨v3,j3,v30,v31,n3⟩:=Gq hl j2 16 (by omega) (by omega)
 have n0:=n0 (fu:=2000) (d:=16);have n1:=n1 (fu:=2000) (d:=16);have n2:=n2 (fu:=2000) (d:=16);have n3:=n3 (fu:=2000) (d:=16);have w1:wrap .i64 (1+v1)=1+v1:=At (by omega) (by omega)
 have hH:Df (1+v1)=false:=by
  have:v1=0∨v1=1:=by omega
  rcases this with rfl|rfl<;>decide
 have hO:Gc 0 (1+v1)=false:=by
  have:v1=0∨v1=1:=by omega
  rcases this with rfl|rfl<;>decide
 obtain ⟨sd,r,a,M,mk⟩:=Age (d:=2) v0 (h:=1+v1) (fmt:=v2) (leaf:=v3) hH hO (by omega) v30 (by omega)
 obtain ⟨s,j4,hs,sp⟩:=Anh (d:=10) M hl j3;obtain ⟨W,eW⟩:∃W,Wr r.ad (Em 11 (B4 r.cd))=W:=⟨_,rfl⟩;rw [eW] at mk;have hr:=M.ok;clear M eW hH hO;have J:=Acm (a0n:=l.length) (a0:=Ai .i64 l) (a1:=w) (a2:=nw) 2000 (by omega) w nw W hl j4 hr hs a a
 simp only [Rp.cells,Ad.cells,Tb] at mk sp;simp only [dkc] at nq n0 n1 n2 n3 sp;have z0:((0:Nat):Int)=0:=rfl;rw [z0] at nq n0;refine (Kv 2000 18 l.length (Ai .i64 l) w nw).trans ?_
 try unfold Aa
 repeat first
  |((with_reducible first|apply Ap|apply Ag|apply Am|apply As|apply Ax|apply Bh|apply A6|apply CF|apply Ah);· first|with_reducible rfl|(simp (disch:=omega) only [nq,n0,n1,n2,n3,w1,mk,sp]<;>with_reducible rfl))
  |((with_reducible first|apply Ak|apply Al);· first|with_reducible rfl|omega|(simp (disch:=omega) only [gT,nq,n0,n1,n2,n3,w1,mk,sp]<;>omega))
  |(with_reducible apply Ao;· first|with_reducible rfl|(simp (disch:=omega) only [gF,nq,n0,n1,n2,n3,w1,mk,sp]<;>omega))
 try simp (disch:=omega) only [nq,n0,n1,n2,n3,w1,mk,sp]
 exact J
end
section
open Go.IntKind (wrap)
open Go.RowKit
theorem VI {w w':World}{Y:Nat->Prop}{bt:SN}{args:List PV}{v:Value}(hb:Below w.heap.size w w')(ho:HR w' (Ad2 bt (fun _=>none) Y) (fun _=>none) bt (Va [.sc v]) 0 args []):
  Out w w' Y bt args (fun _=>none) ⟨[.sc v],[]⟩ [v] where
 os:=hb.os
 tape:=hb.tape
 output:=hb.output
 ext:=⟨hb.size,fun b h _=>hb.block b h,fun b h=>by unfold bsz;rw [hb.block b h];exact Nat.le_refl _⟩
 rng:=fun b j h _=>⟨by unfold World.cell?;simp only [hb.block b h],by unfold World.frozen?;simp only [hb.block b h]⟩
 vals:=⟨Bu.sc v,trivial⟩
 outs:=ho
 fresh:=fun j b o h=>by cases h
 inj:=fun j j' b o o' h=>by cases h
theorem MR {P:Program}{w:World}{A:Nat->Prop}{bt:Bt}{z:Bool}{n:Nat}{c:List PV}{u:Value}{l:List UInt8}(h:Ab7 w A bt (.lst z 1 n c) u) (hl:bytesOf c=some l)(hn:c.length=n):
  (Extern.Bytes.bytesOf u).run P w=.ok ⟨l.toArray⟩ w:=by
 obtain ⟨ns,rfl,rfl⟩:=AE hl;have ht:Bu w A (.lst z 1 n (ns.map fun n=>.sc (.int .u8 n))) u:=h.2
 generalize hc:(ns.map fun n=>PV.sc (.int .u8 n))=c at ht
 cases ht with
 |lnil=>
  have:ns=[]:=by simpa using hc
  subst this;rfl
 |lemp=>
  have:ns=[]:=by simpa using hc
  subst this;rfl
 |lst _ _ _ a cap f hs hb hA hn' hcell h1 hr=>
  subst hc;rw [List.length_map] at hn;subst hn;show (Extern.Bytes.loadBytes a ns.length .empty).run P w=_;rw [Lib.run_loadBytesX w ns a .empty fun j x hj=>?_]
  ·simp [Lib.bytesOf,Nat.toUInt8]
  ·have e:(ns.map fun n=>PV.sc (.int .u8 n))[j]?=some (.sc (.int .u8 x)):=by rw [List.getElem?_map,hj];rfl
   rw [hcell j _ e,(hr j _ e).val]
set_option maxRecDepth 1000000 in
theorem ZS (u1 u2:Value)(a b:List UInt8)(w:World)(h1:(Extern.Bytes.bytesOf u1).run Tryz.prog w=.ok ⟨a.toArray⟩ w) (h2:(Extern.Bytes.bytesOf u2).run Tryz.prog w=.ok ⟨b.toArray⟩ w):
  Calls Tryz.prog 143 #[u1,u2] w fun e w'=>e=.returned (.int .i64 (Lib.compareBytes a b))∧w'=w:=by
 have hr:(Extern.BytealgCompare.compare #[u1,u2]).run Tryz.prog w=.ok (.int .i64 (Lib.compareBytes a b)) w:=by
  change Sem.run Tryz.prog (do pure (goInt (Extern.BytealgCompare.cmp (←Extern.Bytes.bytesOf u1) (←Extern.Bytes.bytesOf u2)))) w=_
  simp only [Sem.run_bind,Sem.run_pure,Result.andThen,h1,h2];rw [Lib.cmp_eq];rfl
 go_enter Tryz.func143,Tryz.ntmps143
 go_wp2
 rw [run_callFunc_extern Tryz.func145 (by kernel_rfl) (by kernel_rfl) (by kernel_rfl) (e:=Extern.BytealgCompare.compare) (by kernel_rfl),hr]
 simp only [Result.andThen];rw [Oper.upon_value]
 go_wp2
 go_ret
 exact ⟨rfl,rfl⟩
theorem UD (G:TE)(args:List PV)(res:A0)(h:Zg args=some res):Ho G Tryz.prog 143 args res:=by
 refine ⟨⟨_,Tryz.func143,by kernel_rfl⟩,fun w Y bt us hi _ _=>?_⟩
 unfold Zg at h;split at h
 rotate_left
 ·cases h
 rename_i z n c z' m c';cases hq:(Nat.beq c.length n&&Nat.beq c'.length m)
 ·rw [hq] at h;cases h
 rw [hq] at h;simp only [Bool.and_eq_true] at hq;have hn:=Nat.eq_of_beq_eq_true hq.1;have hm:=Nat.eq_of_beq_eq_true hq.2;simp only [cond_true] at h;split at h
 rotate_left
 ·cases h
 rename_i a b ha hb;cases h;have ps:=hi.args
 match us,ps with
 |[u1,u2],ps=>
  refine (ZS u1 u2 a b w (MR ps.1 ha hn) (MR ps.2.1 hb hm)).mono ?_
  rintro e w' ⟨rfl,rfl⟩
  exact ⟨[.int .i64 (Lib.compareBytes a b)],fun _=>none,rfl,VI (Below.refl _ _) rfl⟩
 |[],ps=>exact ps.elim
 |[_],ps=>exact ps.2.elim
 |_::_::_::_,ps=>exact ps.2.2.elim
end
section
open Go.IntKind (wrap)
set_option maxRecDepth 1000000
open Go.Shelf Go.RowKit Go.Lib
def At0:Go.Shelf.Ren:=⟨fun|196=>67|259=>98|n=>n,fun|0=>0|3=>3|4=>4|5=>5|9=>9|12=>12|46=>54|53=>23|119=>155|138=>157|139=>158|n=>n,fun|3=>0|4=>1|n=>n⟩
theorem laysVS:Lays.n196 Tryz.prog At0:={
 mixed:=by kernel_rfl
 f196:=Tryz.func67.trans (congrArg some (by kernel_rfl))
 f259:=Tryz.func98.trans (congrArg some (by kernel_rfl))
 t0:=Tryz.underlying0
 a0:=Tryz.isAgg0
 z0:=Tryz.sizeOf0
 v0:=Tryz.zeroValue0
 t3:=Tryz.underlying3
 a3:=Tryz.isAgg3
 z3:=Tryz.sizeOf3
 v3:=Tryz.zeroValue3
 t4:=Tryz.underlying4
 a4:=Tryz.isAgg4
 z4:=Tryz.sizeOf4
 v4:=Tryz.zeroValue4
 t5:=Tryz.underlying5
 a5:=Tryz.isAgg5
 z5:=Tryz.sizeOf5
 v5:=Tryz.zeroValue5
 t9:=Tryz.underlying9
 a9:=Tryz.isAgg9
 z9:=Tryz.sizeOf9
 v9:=Tryz.zeroValue9
 t12:=Tryz.underlying12
 a12:=Tryz.isAgg12
 z12:=Tryz.sizeOf12
 v12:=Tryz.zeroValue12
 t46:=Tryz.underlying54
 a46:=Tryz.isAgg54
 z46:=Tryz.sizeOf54
 v46:=Tryz.zeroValue54
 t53:=Tryz.underlying23
 a53:=Tryz.isAgg23
 z53:=Tryz.sizeOf23
 v53:=Tryz.zeroValue23
 t119:=Tryz.underlying155
 a119:=Tryz.isAgg155
 z119:=Tryz.sizeOf155
 t138:=Tryz.underlying157
 a138:=Tryz.isAgg157
 z138:=Tryz.sizeOf157
 v138:=Tryz.zeroValue157
 t139:=Tryz.underlying158
 a139:=Tryz.isAgg158
 z139:=Tryz.sizeOf158
 v139:=Tryz.zeroValue158
 g3:=by kernel_rfl
 g4:=by kernel_rfl }
def gU:TE:=⟨fun b=>b=0∨b=1,fun w=>0<w.heap.size∧1<w.heap.size∧Lib.Utf8Tabs 0 1 w,fun w w' h ⟨s1,s2,h1,h2⟩=>by
 have e1:=h _ (.inl rfl) s1;have e2:=h _ (.inr rfl) s2
 have hs:∀b,b<w.heap.size->w'.heap[b]?=w.heap[b]?->b<w'.heap.size:=by
  intro b hb he;rw [Array.getElem?_eq_getElem hb] at he;rcases Nat.lt_or_ge b w'.heap.size with q|q
  ·exact q
  ·rw [Array.getElem?_eq_none q] at he;cases he
 refine ⟨hs _ s1 e1,hs _ s2 e2,fun c hc=>?_,fun i hi=>?_⟩
 ·have:=h1 c hc;unfold World.cell? at this ⊢;simp only [e1] at this ⊢;exact this
 ·obtain ⟨a,b⟩:=h2 i hi;unfold World.cell? at a b ⊢;simp only [e2] at a b ⊢;exact ⟨a,b⟩⟩
theorem Aai (args:List PV)(res:A0)(h:RH args=some res):Ho gU Tryz.prog 67 args res:=by
 refine ⟨⟨_,Tryz.func67,by kernel_rfl⟩,fun w Y bt us hi hok _=>?_⟩
 unfold RH at h;split at h
 rotate_left
 ·cases h
 rename_i s;cases hq:decide (s.size<=9223372036854775807)
 ·rw [hq] at h;cases h
 rw [hq] at h;cases h;have hs:=of_decide_eq_true hq;have ps:=hi.args
 match us,ps with
 |[u],ps=>
  have hu:u=.string s:=by
   have:Bu w _ (.sc (.string s)) u:=ps.1.2;exact this.val
  subst hu;refine (Any.utf8_ValidString laysVS s w hs hok.2.2).mono ?_
  rintro e w' ⟨rfl,hb⟩
  exact ⟨[.bool (Lib.validD s.data.toList)],fun _=>none,rfl,VI hb rfl⟩
 |[],ps=>exact ps.elim
 |_::_::_,ps=>exact ps.2.elim
theorem extU:Ald gU Tryz.prog C0:=by
 intro f g args res hx hg;have hx':Akp f=some g:=hx;unfold Akp at hx';cases h1:Nat.beq f 67
 rotate_left
 ·rw [h1,cond_true] at hx';cases hx';rw [Nat.eq_of_beq_eq_true h1];exact Aai args res hg
 rw [h1,cond_false] at hx';cases h2:Nat.beq f 143
 rotate_left
 ·rw [h2,cond_true] at hx';cases hx';rw [Nat.eq_of_beq_eq_true h2];exact UD gU args res hg
 rw [h2,cond_false] at hx';cases h3:Nat.beq f 1000000
 ·rw [h3,cond_false] at hx';cases hx'
 ·rw [h3,cond_true] at hx';cases hx';cases hg
end
end Go.Proofs.YtgfgmbpmghgbkaaGreatDoor.Pv
