/-
  The proof of CertificateLinks, part 5.
-/
import Derived.Test.YtdjihiphpgkfmaaGreatDoorLD
import Derived.Test.YtdjihiphpgkfmaaGreatDoorRows
set_option linter.unusedSimpArgs false
set_option linter.unusedVariables false
namespace Go.Proofs.YtdjihiphpgkfmaaGreatDoor.Pv
section
open Go.IntKind (wrap)
def QP (s:ByteArray):Bool:=Array.toList (ByteArray.data s)==Array.toList (ByteArray.data (ByteArray.mk #[]))
def Gg (x:It):Bool:=
 if x.k=3 then x.n==0 else if x.k=4 then x.n==0 else if x.k=8 then (x.n==0)&&QP x.s else if x.k=7 then decide (x.n<=1)&&QP x.s else QP x.s
section
variable {fu d:Nat}
theorem Adc (x:It):Ae C0 Tryz.prog fu (d+1) Xo [.agg x.cells]=some ⟨[.sc (.bool (Gg x))],[]⟩:=by
 obtain ⟨k,n,s⟩:=x;refine (NF fu d k n s).trans ?_;unfold Gg;show _=some (⟨[.sc (.bool (if k=3 then n==0 else if k=4 then n==0 else if k=8 then (n==0)&&QP s else if k=7 then decide (n<=1)&&QP s else QP s))],[]⟩:Az)
 by_cases h3:k=3
 ·subst h3;simp only [B4,Int.reduceBEq,if_true]
 by_cases h4:k=4
 ·subst h4;simp only [B4,Int.reduceBEq,Int.reduceEq,if_true,if_false]
 have b3:(k==(3:Int))=false:=by simp [h3]
 have b4:(k==(4:Int))=false:=by simp [h4]
 by_cases h8:k=8
 ·subst h8;cases hn:n==0<;>simp only [B4,Int.reduceBEq,Int.reduceEq,if_true,if_false,hn,Zzm,Bool.false_and]<;>rfl
 have b8:(k==(8:Int))=false:=by simp [h8]
 by_cases h7:k=7
 ·subst h7;cases hn:decide (n<=1)<;>simp only [B4,Int.reduceBEq,Int.reduceEq,if_true,if_false,hn,Zzm,Bool.false_and]<;>rfl
 have b7:(k==(7:Int))=false:=by simp [h7]
 simp only [B4,b3,b4,b8,b7,A7 h3,A7 h4,A7 h8,A7 h7];rfl
theorem FG {l:List Gt}{x:It}{cnt:Int}(hl:l.length<=1000)(hf:l.length+1<fu)(h0:0<=cnt)(h1:cnt<=1000000)(ha:Q3 l=false)
  (hs:x.s.size<=100000)(hv:x.k=4->Lib.validD x.s.data.toList=true):
  Ae C0 Tryz.prog fu (d+2) I2 [.pbox (Ka l cnt),.agg x.cells]=some ⟨[.sc (.int .i64 0)],[Ka (Fk l x) (cnt+1)]⟩:=by
 have st:=Abr (fu:=fu) (d:=d) (l:=l) (x:=x) (cnt:=cnt) (by omega) hf h0 h1
 have ak:=JG (fu:=fu) (d:=d) (l:=l) (by omega) cnt
 have L:=C4 l;have t:=Df l;have L2:=C4 (Fk l x);have t2:=Df (Fk l x);rw [ha] at ak;generalize hE:Fk l x=E at *
 obtain ⟨k,n,s⟩:=x;have va:=Po (fu:=fu) (d:=d) s (Nat.le_trans hs (by omega))
 unfold UY at va;refine (Iz fu (d+1) l.length (Eo l) cnt k n s).trans ?_;unfold Ka It.cells at st;unfold Ka at ak;by_cases k4:k=4
 ·subst k4;rw [hv rfl] at va;simp (disch:=omega) only [B4,Int.reduceBEq,va,C7,L,t,ak,st,L2,t2]
 ·have b4:(k==(4:Int))=false:=by simp [k4]
  simp (disch:=omega) only [B4,b4,L,t,ak,st,L2,t2]
theorem Ahv {l:List Gt}{x:It}{cnt:Int}(hl:l.length<=1000)(hf:l.length+1<fu)(h0:0<=cnt)(h1:cnt<=1000000)(ha:Q3 l=false)
  (hs:x.s.size<=1024)(hv:x.k=4->Lib.validD x.s.data.toList=true)(hd:(decide (cnt>0)&&((l.length:Int)==0))=false) (hm:Iv l cnt x.k=0)(hsh:Gg x=true)(hn:x.n<=512∨(x.k≠5∧x.k≠6)):
  Ae C0 Tryz.prog fu (d+3) Nn [.pbox (Ka l cnt),.agg x.cells]=some ⟨[.sc (.int .i64 0)],[Ka (Fk l x) (cnt+1)]⟩:=by
 have ac:=FG (fu:=fu) (d:=d) (l:=l) (x:=x) (cnt:=cnt) hl hf h0 h1 ha (by omega) hv
 have dn:=SB (fu:=fu) (d:=d+1) l cnt;have ad:=WM (fu:=fu) (d:=d) (l:=l) (by omega) cnt x.k
 have sh:=Adc (fu:=fu) (d:=d+1) x;rw [hd] at dn;rw [hm] at ad;rw [hsh] at sh;have L:=C4 l;have t:=Df l;have L2:=C4 (Fk l x);have t2:=Df (Fk l x);generalize hE:Fk l x=E at *
 obtain ⟨k,n,s⟩:=x;have hs':¬((s.size:Int)>1024):=by have:s.size<=1024:=hs;omega
 refine (W7 fu (d+2) l.length (Eo l) cnt k n s).trans ?_;unfold Ka It.cells at ac;unfold Ka at dn ad;unfold It.cells at sh;by_cases k5:k=5
 ·subst k5;have hn':¬(n>512):=hn.elim (fun h=>Int.not_lt.2 h) (fun h=>absurd rfl h.1)
  simp (disch:=first|assumption|omega) only [B4,Int.reduceBEq,dn,ad,sh,ac,C7,L,t,L2,t2,bne_self_eq_false]
 have b5:(k==(5:Int))=false:=by simp [k5]
 by_cases k6:k=6
 ·subst k6;have hn':¬(n>512):=hn.elim (fun h=>Int.not_lt.2 h) (fun h=>absurd rfl h.2)
  simp (disch:=first|assumption|omega) only [B4,Int.reduceBEq,dn,ad,sh,ac,C7,L,t,L2,t2,bne_self_eq_false]
 have b6:(k==(6:Int))=false:=by simp [k6]
 simp (disch:=first|assumption|omega) only [B4,b5,b6,dn,ad,sh,ac,C7,L,t,L2,t2,bne_self_eq_false]
end
end
section
open Go.IntKind (wrap)
theorem Si (l:List It):(Ck l).length=l.length*3:=X4 It.cells_len l
structure Ama (l:List Gt) (cnt:Int) (x:It):Prop where
 hl:l.length<=100
 h0:0<=cnt
 h1:cnt<=1000
 ha:Q3 l=false
 hs:x.s.size<=1024
 hv:x.k=4->Lib.validD x.s.data.toList=true
 hd:(decide (cnt>0)&&((l.length:Int)==0))=false
 hm:Iv l cnt x.k=0
 hsh:Gg x=true
 hn:x.n<=512∨(x.k≠5∧x.k≠6)
def Pi:List Gt->Int->List It->Prop
 |l,cnt,[]=>l=[]∧cnt>0
 |l,cnt,x::r=>Ama l cnt x∧Pi (Fk l x) (cnt+1) r
section
variable {fu d:Nat}
theorem MJ (hfu:200<=fu){l:List It}(hl:l.length<=100000){a0n:Nat}{a0:List PV}:∀(r:List It)(i:Nat)(fs:List Gt)(cnt:Int)(nn:Nat),l.drop i=r->i+r.length=l.length->r.length<nn->Pi fs cnt r ->
  H1 fu (Ae C0 Tryz.prog fu (d+3)) a0n a0 nn l.length (Ck l) (l.length:Int) (i:Int) fs.length cnt (Eo fs)=some ⟨[.sc (.int .i64 0)],[]⟩:=by
 intro r
 induction r with
 |nil=>
  intro i fs cnt nn hd hi hn hg;obtain ⟨rfl,hc⟩:=hg;obtain ⟨m,rfl⟩:∃m,nn=m+1:=⟨nn-1,by omega⟩
  rw [Xy,Og] at hi;rw [O6];have dn:=SB (fu:=fu) (d:=d+2) [] cnt;have e:(decide (cnt>0)&&(((([]:List Gt).length:Nat):Int)==0))=true:=by simp [hc]
  rw [e] at dn;unfold Ka at dn;have L:=C4 [];have t:=Df [];have c:¬((i:Int)<(l.length:Int)):=by omega
  simp (disch:=first|assumption|omega) only [B4,L,t,dn,C7]
 |cons x r ih=>
  intro i fs cnt nn hd hi hn hg;obtain ⟨g,hg⟩:=hg;obtain ⟨m,rfl⟩:∃m,nn=m+1:=⟨nn-1,by omega⟩
  rw [Jj] at hi hn
  have hx:l[i]?=some x:=by
   have:=congrArg (fun q=>q[0]?) hd
   simpa using this
  have hd':l.drop (i+1)=r:=by
   have:=congrArg (List.drop 1) hd;rw [List.drop_drop] at this
   simpa using this
  have q:=ih (i+1) (Fk fs x) (cnt+1) m hd' (by omega) (by omega) hg
  have ck:=Ahv (fu:=fu) (d:=d) (l:=fs) (x:=x) (cnt:=cnt) (by have:=g.hl;omega) (by have:=g.hl;omega) g.h0 (by have:=g.h1;omega) g.ha g.hs g.hv g.hd g.hm g.hsh g.hn
  generalize Fk fs x=E at *
  have g0:(Ck l).getD (i*3) .top=.sc (.int .i64 x.k):=Ec It.cells_len hx (j:=0) (by omega)
  have g1:(Ck l).getD (i*3+1) .top=.sc (.int .u64 x.n):=Ec It.cells_len hx (j:=1) (by omega)
  have g2:(Ck l).getD (i*3+1+1) .top=.sc (.string x.s):=Ec It.cells_len hx (j:=2) (by omega)
  have L:=C4 fs;have t:=Df fs;have w:wrap .i64 ((i:Int)+1)=((i+1:Nat):Int):=by rw [Aj (by omega) (by omega)];omega
  rw [O6];unfold Ka It.cells at ck;simp (disch:=first|assumption|omega) only [B4,Gm,g0,g1,g2,L,t,ck,bne_self_eq_false,w,q]
theorem Qu (hfu:200<=fu){l:List It}(hl:l.length<=100000)(hf:l.length<fu)(hg:Pi [] 0 l):Ae C0 Tryz.prog fu (d+4) Ts [.lst false 3 l.length (Ck l)]=some ⟨[.sc (.int .i64 0)],[]⟩:=by
 rw [GT];exact MJ hfu hl l 0 [] 0 fu rfl (by omega) hf hg
end
end
section
open Go.IntKind (wrap)
section
variable {fu d:Nat}
theorem UM (hfu:1000<=fu){l:List It}(hl:l.length<=100000){a0n:Nat}{a0:List PV}:∀(r:List It)(i:Nat)(o:List Int)(nn:Nat),l.drop i=r->i+r.length=l.length->r.length<nn->(∀x∈r,x.ok)->(o++Bg r).length<=300000 ->
  Jq fu (Ae C0 Tryz.prog fu (d+2)) a0n a0 nn o.length l.length (Ck l) (l.length:Int) (i:Int) (Af .u8 o)=some ⟨[.own 1 (o++Bg r).length (Af .u8 (o++Bg r)),.sc (.int .i64 0)],[]⟩:=by
 intro r
 induction r with
 |nil=>
  intro i o nn hd hi hn hg hb;obtain ⟨m,rfl⟩:∃m,nn=m+1:=⟨nn-1,by omega⟩
  rw [Xy,Og] at hi;have e:o++Bg []=o:=by simp [Bg]
  rw [e,Q6];have L:(Af .u8 o).length=o.length:=Ak _ _;have t:List.take o.length (Af .u8 o)=Af .u8 o:=Sl (by omega)
  have c:¬((i:Int)<(l.length:Int)):=by omega
  simp (disch:=first|assumption|omega) only [B4,Cb,L,t]
 |cons x r ih=>
  intro i o nn hd hi hn hg hb;obtain ⟨m,rfl⟩:∃m,nn=m+1:=⟨nn-1,by omega⟩
  rw [Jj] at hi hn
  have hx:l[i]?=some x:=by
   have:=congrArg (fun q=>q[0]?) hd
   simpa using this
  have hd':l.drop (i+1)=r:=by
   have:=congrArg (List.drop 1) hd;rw [List.drop_drop] at this
   simpa using this
  have e:o++Bg (x::r)=(o++Br x)++Bg r:=by simp [Bg]
  rw [e] at hb ⊢
  have ho:o.length<=300000:=by
   rw [J6,J6] at hb;omega
  have q:=ih (i+1) (o++Br x) m hd' (by omega) (by omega) (fun y hy=>hg y (List.mem_cons_of_mem _ hy)) hb
  have it:=Abg (fu:=fu) (d:=d) hfu (l:=o) ho (x:=x) (hg x (by simp))
  have g0:(Ck l).getD (i*3) .top=.sc (.int .i64 x.k):=Ec It.cells_len hx (j:=0) (by omega)
  have g1:(Ck l).getD (i*3+1) .top=.sc (.int .u64 x.n):=Ec It.cells_len hx (j:=1) (by omega)
  have g2:(Ck l).getD (i*3+1+1) .top=.sc (.string x.s):=Ec It.cells_len hx (j:=2) (by omega)
  have L:(Af .u8 o).length=o.length:=Ak _ _;have t:List.take o.length (Af .u8 o)=Af .u8 o:=Sl (by omega)
  have w:wrap .i64 ((i:Int)+1)=((i+1:Nat):Int):=by rw [Aj (by omega) (by omega)];omega
  rw [Q6];unfold It.cells at it;simp (disch:=first|assumption|omega) only [B4,Gm,Cb,g0,g1,g2,L,t,it,w,q]
theorem WR (hfu:1000<=fu){l:List It}(hl:l.length<=100000)(hf:l.length<fu)(hg:Pi [] 0 l) (hk:∀x∈l,x.ok)(hb:(Bg l).length<=300000):
  Ae C0 Tryz.prog fu (d+5) Qx [.lst false 3 l.length (Ck l)]=some ⟨[.own 1 (Bg l).length (Af .u8 (Bg l)),.sc (.int .i64 0)],[]⟩:=by
 rw [MD];have v:=Qu (fu:=fu) (d:=d) (by omega) hl hf hg
 have q:=UM (fu:=fu) (d:=d+2) hfu hl (a0n:=l.length) (a0:=Ck l) l 0 [] fu rfl (by omega) hf hk (by simpa using hb)
 rw [Zzq] at q;simp only [B4,v,bne_self_eq_false];exact q
end
end
section
open Go.IntKind (wrap)
section
variable {fu d:Nat}
theorem QC (hfu:200<=fu){l:List It}(hl:l.length<=100000)(hf:l.length<fu)(hg:Pi [] 0 l):
  Ae C0 Tryz.prog fu (d+5) U8 [.own 3 l.length (Ck l)]=some ⟨[.own 3 l.length (Ck l),.sc (.int .i64 0)],[]⟩:=by
 rw [JW];have v:=Qu (fu:=fu) (d:=d) hfu hl hf hg;have L:=Si l;have t:List.take (l.length*3) (Ck l)=Ck l:=Sl (by omega)
 simp (disch:=omega) only [B4,L,t,Fa,v,bne_self_eq_false]
end
end
section
open Go.IntKind (wrap)
structure TI (x:It):Prop where
 kd:x.k=1∨x.k=2∨x.k=3∨x.k=4∨x.k=7∨x.k=8
 hs:x.s.size<=1024
 hv:x.k=4->Lib.validD x.s.data.toList=true
 hsh:Gg x=true
 n0:0<=x.n
theorem TI.ok {x:It}(h:TI x):x.ok:=by
 have:=h.kd;have:=h.hs;exact ⟨by omega,by omega,h.n0,by omega⟩
theorem TI.push {x:It}(h:TI x)(l:List Gt):PO l x=l:=by
 unfold PO;have:=h.kd;rw [A7 (by omega),A7 (by omega)]
theorem Aco {x:It}(h:TI x):Pi [] 0 [x]:=by
 have hk:=h.kd;refine ⟨⟨by simp,by omega,by omega,rfl,h.hs,h.hv,rfl,?_,h.hsh,.inr (by omega)⟩,?_,?_⟩
 ·unfold Iv;rw [A7 (by omega),A7 (by omega),A7 (by omega),A7 (by intro q;exact absurd q.1 (by decide)),A7 (by simp)]
 ·unfold Fk;rw [h.push];rfl
 ·omega
theorem KV:∀(r:List It)(cnt:Int),r≠[]->(∀x∈r,TI x)->0<cnt->cnt+r.length<=500->Pi [⟨false,r.length,[]⟩] cnt r
 |[],_,h,_,_,_=>absurd rfl h
 |x::r,cnt,_,hf,hc,hl=>by
  have h:=hf x (by simp)
  have hk:=h.kd;simp only [Jj] at hl;refine ⟨⟨by simp,by omega,by omega,rfl,h.hs,h.hv,by simp,?_,h.hsh,.inr (by omega)⟩,?_⟩
  ·unfold Iv;rw [A7 (by omega),A7 (by omega),A7 (by omega),A7 (by intro q;exact absurd q.1 (by simp [Q3])),A7 (by simp)]
  ·have w:wrap .i64 (((x::r).length:Int)-1)=(r.length:Int):=by
    rw [Aj (by simp only [Jj];omega) (by simp only [Jj];omega)]
    simp only [Jj];omega
   have e:Fk [⟨false,((x::r).length:Nat),[]⟩] x=DB [⟨false,(r.length:Nat),[]⟩]:=by
    unfold Fk;rw [h.push];have:=U9 [] ⟨false,((x::r).length:Nat),[]⟩;rw [Zzq,Zzq] at this;rw [this];simp only [w]
   rw [e];by_cases hr:r=[]
   ·subst hr;have:=NR (l:=[]) (f:=⟨false,(([]:List It).length:Nat),[]⟩) rfl;rw [Zzq] at this;rw [this];exact ⟨rfl,by omega⟩
   ·have:=LX (l:=[]) (f:=⟨false,(r.length:Nat),[]⟩) (by simp only;have:=List.length_pos_iff.2 hr;omega)
    rw [Zzq] at this;rw [this];exact KV r (cnt+1) hr (fun y hy=>hf y (List.mem_cons_of_mem _ hy)) (by omega) (by omega)
theorem Aef {r:List It}(hr:r≠[]) (hl:r.length<=400)(hf:∀x∈r,TI x):Pi [] 0 (⟨5,r.length,⟨#[]⟩⟩::r):=by
 have hp:=List.length_pos_iff.2 hr;refine ⟨⟨by simp,by omega,by omega,rfl,Nat.zero_le _,(by intro h;cases h),rfl,?_,(by rfl),.inl (by simp only;omega)⟩,?_⟩
 ·unfold Iv;rw [A7 (by omega),A7 (by simp),A7 (by simp),A7 (by intro q;exact absurd q.1 (by decide)),A7 (by simp)]
 ·have w:wrap .i64 (r.length:Int)=(r.length:Int):=Aj (by omega) (by omega)
  have e:Fk [] ⟨5,(r.length:Nat),⟨#[]⟩⟩=DB [⟨false,(r.length:Nat),[]⟩]:=by
   unfold Fk PO;rw [B7 ⟨rfl,by simp only;omega⟩]
   simp only [w];rfl
  have:=LX (l:=[]) (f:=⟨false,(r.length:Nat),[]⟩) (by simp only;omega)
  rw [Zzq] at this;rw [e,this];exact KV r _ hr hf (by omega) (by omega)
end
section
open Go.IntKind (wrap)
def Alt (v:List It):List PV:=[.lst false 3 v.length (Ck v)]
theorem Ael (v:List It):(Alt v).length=1:=rfl
def Add (l:List (List It)):List PV:=l.flatMap Alt
theorem atv {l:List (List It)} {i:Nat}{v:List It}(h:l[i]?=some v):(Add l).getD (i*1) .top=.lst false 3 v.length (Ck v):=by
 exact Ec Ael h (j:=0) (by omega)
section
variable {fu d:Nat}
theorem FB (hfu:1000<=fu){a0n:Nat}{a0:List PV}{vs:List (List It)} (hl:vs.length<=100000):∀(r:List (List It)) (i nn:Nat),vs.drop i=r->r.length<nn->(∀v∈r,Pi [] 0 v∧v.length<1000)->i<=vs.length ->
  Jo fu (Ae C0 Tryz.prog fu (d+4)) a0n a0 nn vs.length (Add vs) (vs.length:Int) (i:Int)=some ⟨[.sc (.int .i64 0)],[]⟩
 |_,_,0,_,h,_,_=>by omega
 |[],i,nn+1,h,hn,hg,hi=>by
  have:=drop_nil h;rw [R8,Dt _ _ _ (by omega)]
 |v::r,i,nn+1,h,hn,hg,hi=>by
  obtain ⟨h1,h2,h3⟩:=Cg h;simp only [Jj] at hn;have w:wrap .i64 ((i:Int)+1)=((i+1:Nat):Int):=by rw [Aj (by omega) (by omega)];omega
  have ih:=FB hfu (a0n:=a0n) (a0:=a0) hl r (i+1) nn h3 (by omega) (fun v hv=>hg v (List.mem_cons_of_mem _ hv)) (by omega)
  obtain ⟨g,gl⟩:=hg v (by simp)
  have vg:=Qu (fu:=fu) (d:=d) (by omega) (by omega) (by omega) g
  have g0:=atv h2;rw [R8];simp (disch:=omega) only [B4,Gm,g0,vg,bne_self_eq_false,w,ih]
theorem VE (hfu:1000<=fu){vs:List (List It)} (hl:vs.length<1000)(hg:∀v∈vs,Pi [] 0 v∧v.length<1000):
  Ae C0 Tryz.prog fu (d+5) Xn [.lst false 1 vs.length (Add vs)]=some ⟨[.sc (.int .i64 0)],[]⟩:=by
 rw [MR];exact FB hfu (by omega) vs 0 fu rfl (by omega) hg (by omega)
theorem UF (a b:List It):Ck (a++b)=Ck a++Ck b:=by
 unfold Ck;rw [List.flatMap_append]
theorem HT (hfu:1000<=fu){a0n:Nat}{a0:List PV}{vs:List (List It)} (hl:vs.length<=100000):∀(r:List (List It)) (i nn:Nat)(o:List It),vs.drop i=r->r.length<nn->Pi [] 0 (o++r.flatten)->(o++r.flatten).length<=500->i<=vs.length ->
  Lq fu (Ae C0 Tryz.prog fu (d+5)) a0n a0 nn o.length vs.length (Add vs) (vs.length:Int) (i:Int) (Ck o)=some ⟨[.own 3 (o++r.flatten).length (Ck (o++r.flatten)),.sc (.int .i64 0)],[]⟩
 |_,_,0,_,_,h,_,_,_=>by omega
 |[],i,nn+1,o,h,hn,hg,hb,hi=>by
  have:=drop_nil h;have e:o++([]:List (List It)).flatten=o:=by simp
  rw [e] at hg hb ⊢;have L:=Si o;have t:List.take (o.length*3) (Ck o)=Ck o:=Sl (by omega)
  have ck:=QC (fu:=fu) (d:=d) (by omega) (by omega) (by omega) hg
  rw [Tn,Dt _ _ _ (by omega)]
  simp (disch:=omega) only [B4,L,t,ck]
 |v::r,i,nn+1,o,h,hn,hg,hb,hi=>by
  obtain ⟨h1,h2,h3⟩:=Cg h;simp only [Jj] at hn;have w:wrap .i64 ((i:Int)+1)=((i+1:Nat):Int):=by rw [Aj (by omega) (by omega)];omega
  have e:o++(v::r).flatten=(o++v)++r.flatten:=by simp
  rw [e] at hg hb ⊢
  have hb':o.length+v.length<=500:=by
   rw [J6,J6] at hb;omega
  have ih:=HT hfu (a0n:=a0n) (a0:=a0) hl r (i+1) nn (o++v) h3 (by omega) hg hb (by omega)
  have g0:=atv h2;have L:=Si o;have Lv:=Si v;have t:List.take (o.length*3) (Ck o)=Ck o:=Sl (by omega)
  rw [J6,UF] at ih;rw [Tn];simp (disch:=omega) only [B4,Gm,g0,L,Lv,t,w,ih]
theorem Aaq (hfu:1000<=fu){vs:List (List It)} (hg:∀v∈vs,Pi [] 0 v∧v.length<1000) (hl:vs.length<=400)(ha:Pi [] 0 (⟨5,vs.length,⟨#[]⟩⟩::vs.flatten)) (hb:vs.flatten.length<=400):
  Ae C0 Tryz.prog fu (d+6) Tg [.lst false 1 vs.length (Add vs)]=some ⟨[.own 3 (vs.flatten.length+1) (Ck (⟨5,vs.length,⟨#[]⟩⟩::vs.flatten)),.sc (.int .i64 0)],[]⟩:=by
 rw [QD];have f:=VE (fu:=fu) (d:=d) hfu (by omega) hg
 have w:wrap .u64 (vs.length:Int)=vs.length:=Cs (by omega) (by omega)
 have q:=HT (fu:=fu) (d:=d) hfu (a0n:=vs.length) (a0:=Add vs) (by omega) vs 0 fu [⟨5,vs.length,⟨#[]⟩⟩] rfl (by omega) ha (by rw [J6,List.length_singleton];omega) (by omega)
 simp only [B4,f,bne_self_eq_false,w];exact q
end
end
section
open Go.IntKind (wrap)
def Asu (a b:List Int):Int:=Lib.compareBytes (a.map fun n=>n.toNat.toUInt8) (b.map fun n=>n.toNat.toUInt8)
def Sa (a b:List Int):Bool:=if a.length=b.length then decide (Asu a b<0) else decide (a.length<b.length)
def I0 (l:List Gt)(key:List Int):List Gt:=match l.getLast? with|some f=>l.dropLast++[⟨f.p,f.left,key⟩]|none=>l
theorem Lz (l:List Gt)(f:Gt)(key:List Int):I0 (l++[f]) key=l++[⟨f.p,f.left,key⟩]:=by
 unfold I0;simp
def HB (l:List Gt):List Int:=match l.getLast? with|some f=>f.last|none=>[]
theorem QH (l:List Gt)(f:Gt):HB (l++[f])=f.last:=by
 unfold HB;simp
def D0 (l:List Gt)(x:It):Int × List Gt:=
 if x.k=4∧UY x.s=false then (6,l)
 else if Q3 l=true then (if HB l≠[]∧Sa (HB l) (Br x)=false then (7,l) else (0,Fk (I0 l (Br x)) x))
 else (0,Fk l x)
theorem Ady (x:It):1<=(Br x).length:=by
 unfold Br;have h2:=Hc 2 x.s.size;have h3:=Hc 3 x.s.size;have h4:=Hc (x.k-1) x.n
 repeat' split
 all_goals try simp only [J6,Jj,Xy]
 all_goals omega
section
variable {fu d:Nat}
theorem ZA (a b:List Int):Ae C0 Tryz.prog fu (d+1) 133 [.lst false 1 a.length (Af .u8 a),.lst false 1 b.length (Af .u8 b)]=some ⟨[.sc (.int .i64 (Asu a b))],[]⟩:=by
 have h:Ae C0 Tryz.prog fu (d+1) 133 [.lst false 1 a.length (Af .u8 a),.lst false 1 b.length (Af .u8 b)]=Vy [.lst false 1 a.length (Af .u8 a),.lst false 1 b.length (Af .u8 b)]:=by kernel_rfl
 rw [h];unfold Vy;simp only [Ak,Nat.beq_refl,Bool.and_self,cond_true,G2];rfl
theorem Aal (a b:List Int):Ae C0 Tryz.prog fu (d+2) Uv [.lst false 1 a.length (Af .u8 a),.lst false 1 b.length (Af .u8 b)]=some ⟨[.sc (.bool (Sa a b))],[]⟩:=by
 refine (KR fu (d+1) _ _ _ _).trans ?_;have c:=ZA (fu:=fu) (d:=d) a b;unfold Sa;by_cases h:a.length=b.length
 ·have b0:((a.length:Int) != (b.length:Int))=false:=by simp [h]
  rw [B7 h];simp only [B4,b0,c]
 ·have b0:((a.length:Int) != (b.length:Int))=true:=by simp;omega
  rw [A7 h];simp only [B4,b0];simp
theorem QA {l:List Gt}{x:It}{cnt:Int}(hfu:1000<=fu)(hl:l.length<=900)(h0:0<=cnt)(h1:cnt<=1000000)(hx:x.ok)(hs:x.s.size<=100000):
  Ae C0 Tryz.prog fu (d+3) I2 [.pbox (Ka l cnt),.agg x.cells]=some ⟨[.sc (.int .i64 (D0 l x).1)],[Ka (D0 l x).2 (if (D0 l x).1=0 then cnt+1 else cnt)]⟩:=by
 cases ha:Q3 l with
 |false=>
  cases hv:(x.k==4) && !UY x.s with
  |false=>
   have e:D0 l x=(0,Fk l x):=by
    unfold D0;rw [A7,A7 (by simp [ha])]
    intro hh;simp [hh.1,hh.2] at hv
   have:=FG (fu:=fu) (d:=d+1) (l:=l) (x:=x) (cnt:=cnt) (by omega) (by omega) h0 h1 ha hs (by
    intro hk;simp [hk] at hv;exact hv)
   rw [e,this];rfl
  |true=>
   simp at hv
   have e:D0 l x=(6,l):=by
    unfold D0;rw [B7 hv]
   rw [e];obtain ⟨k,n,s⟩:=x;have va:=Po (fu:=fu) (d:=d+1) s (Nat.le_trans hs (by omega))
   simp only at hv;obtain ⟨rfl,hv⟩:=hv;rw [hv] at va;have L:=C4 l;have t:=Df l;refine (Iz fu (d+2) l.length (Eo l) cnt 4 n s).trans ?_;simp (disch:=omega) only [B4,Int.reduceBEq,va,L,t];rfl
 |true=>
  rcases Lx l with rfl|⟨l',f,rfl⟩
  ·exact absurd ha (by decide)
  have it:=Abg (fu:=fu) (d:=d) hfu (l:=[]) (by simp) hx
  rw [Zzq] at it;have hp:=Ady x;have sm:=Aal (fu:=fu) (d:=d) f.last (Br x);have ak:=JG (fu:=fu) (d:=d+1) (l:=l'++[f]) (by omega) cnt
  rw [ha] at ak;have st:=Abr (fu:=fu) (d:=d+1) (l:=I0 (l'++[f]) (Br x)) (x:=x) (cnt:=cnt) (by rw [Lz];simp at hl ⊢;omega) (by rw [Lz];simp at hl ⊢;omega) h0 h1
  have E:D0 (l'++[f]) x=(if x.k=4∧UY x.s=false then (6,l'++[f]) else if f.last≠[]∧Sa f.last (Br x)=false then (7,l'++[f]) else (0,Fk (I0 (l'++[f]) (Br x)) x)):=by
   unfold D0;rw [ha,QH];simp only [if_true]
  have hn':(l'++[f]).length=l'.length+1:=by simp
  have hx':(l'++[f])[l'.length]?=some f:=by simp
  have w:wrap .i64 (((l'++[f]).length:Int)-1)=(l'.length:Int):=by rw [Aj (by omega) (by omega)];omega
  have L:=C4 (l'++[f]);have t:=Df (l'++[f]);have g2:(Eo (l'++[f])).getD (l'.length*3+2) .top=.lst false 1 f.last.length (Af .u8 f.last):=Ec Gt.cells_len hx' (j:=2) (by omega)
  have sp:Bb (Eo (l'++[f])) [.lst false 1 (Br x).length (Af .u8 (Br x))] (l'.length*3+2)=Eo (I0 (l'++[f]) (Br x)):=by
   rw [Ey (by omega),Lz,R3,R3,Q9,Q9]
   have:=C4 l';rw [List.set_append_right _ _ (by omega)]
   have:l'.length*3+2-(Eo l').length=2:=by omega
   rw [this];rfl
  have LK:=C4 (I0 (l'++[f]) (Br x));have tK:=Df (I0 (l'++[f]) (Br x));have nK:(I0 (l'++[f]) (Br x)).length=(l'++[f]).length:=by rw [Lz];simp
  rw [nK] at LK tK;have L2:=C4 (Fk (I0 (l'++[f]) (Br x)) x);have t2:=Df (Fk (I0 (l'++[f]) (Br x)) x);have Lk:=Ak .u8 (Br x);have tk:=Kc .u8 (Br x);unfold Ka at st ak ⊢;rw [nK] at st;rw [E];generalize Fk (I0 (l'++[f]) (Br x)) x=S at *
  generalize Eo (I0 (l'++[f]) (Br x))=K at *
  have hsm:f.last.length=0->Sa f.last (Br x)=true:=by
   intro hz;unfold Sa;rw [A7 (by omega)]
   simp;omega
  have hnil:f.last≠[]↔0<f.last.length:=by rw [List.length_pos_iff]
  generalize hKe:Br x=key at *
  obtain ⟨k,n,s⟩:=x;have va:=Po (fu:=fu) (d:=d+1) s (Nat.le_trans hs (by omega))
  unfold UY at va ⊢;unfold It.cells at st it ⊢;simp only at st it hs ⊢;refine (Iz fu (d+2) (l'++[f]).length (Eo (l'++[f])) cnt k n s).trans ?_;simp only [Xy] at it;have it0:Af .u8 []=[]:=rfl;rw [it0] at it
  try unfold Aa
  repeat' first
   |((with_reducible first|apply As|apply Am|apply At|apply Aq|apply Bi|apply B3|apply Al);· first|with_reducible rfl|(simp (disch:=first|with_reducible assumption|omega) only [va,L,t,ak,w,Gm,Bw,Og,it,g2,Cb,Fa,Lk,tk,sm,sp,LK,tK,st,L2,t2]<;>with_reducible rfl))
   |((with_reducible first|apply Av|apply Au);· first|with_reducible rfl|with_reducible assumption|omega|(simp (disch:=first|with_reducible assumption|omega) only [gT,va,L,t,ak,w,Gm,Bw,Og,it,g2,Cb,Fa,Lk,tk,sm,sp,LK,tK,st,L2,t2]<;>omega))
   |(with_reducible apply Aw;· first|with_reducible rfl|with_reducible assumption|(simp (disch:=first|with_reducible assumption|omega) only [gF,va,L,t,ak,w,Gm,Bw,Og,it,g2,Cb,Fa,Lk,tk,sm,sp,LK,tK,st,L2,t2]<;>omega))
   |(with_reducible refine Agp ?_ ?_<;>intro hb<;>try simp only [decide_eq_true_eq,decide_eq_false_iff_not,beq_iff_eq,beq_eq_false_iff_ne,bne_iff_ne,bne_eq_false_iff_eq,ne_eq,Bool.not_eq_true',Bool.not_eq_false',Bool.not_eq_true,Bool.not_eq_false] at hb)
   |(with_reducible refine SS ?_ ?_)
  all_goals try simp (disch:=first|with_reducible assumption|omega) only [va,L,t,ak,w,Gm,Bw,Og,it,g2,Cb,Fa,Lk,tk,sm,sp,LK,tK,st,L2,t2]
  all_goals clear st it ak va sm L t g2 sp LK tK L2 t2 Lk tk it0 E ha hKe
  all_goals repeat' split
  all_goals first
   |rfl
   |(exfalso;simp_all;done)
   |(exfalso;simp_all;omega)
end
end
section
open Go.IntKind (wrap)
set_option maxRecDepth 100000
abbrev O8:FuncId:=113
noncomputable def Ge (fu:Nat)(call:Ai)(a0_0n:Nat)(a0_0:List PV)(a0_1:Int)(Ff:Nat)(a0_2:List PV)(a0_3:Int)(nn:Nat)(y0 y1 y2:Int)(y3:Nat)(y4:List PV)(y5 y6:Int)(y7:Nat)(y8:Int)(y9:Nat)(y10:List PV)(Jn:Int)(Oc:List PV):Option Az:=Cz CB Tryz.prog fu call 113 Tryz.f113 (Bq Tryz.f113) [.pbox [.own 3 a0_0n a0_0,.sc (.int .i64 a0_1),.lst false 1 Ff a0_2,.sc (.int .i64 a0_3)]] [.r,.r,.r,.r,.r,.r,.r,.r,.r,.r,.r,.l,.r,.l] nn ⟨lk [(0,(.ptr 240000 0)),(2,(.sc (.int .i64 y0))),(3,(.sc (.int .u64 y1))),(8,(.sc (.int .i64 y2))),(94,(.lst false 1 y3 y4)),(95,(.sc (.int .i64 y5))),(96,(.sc (.int .i64 y6)))],B5 [(240000,(.st [(.view 240120 3 0 y7),(.sc (.int .i64 y8)),(.lst false 1 y9 y10),(.sc (.int .i64 Jn))])),(240120,(.ar false Oc))]⟩
theorem Kn (fu:Nat)(call:Ai)(a0_0n:Nat)(a0_0:List PV)(a0_1:Int)(Ff:Nat)(a0_2:List PV)(a0_3:Int)(nn:Nat)(y0 y1 y2:Int)(y3:Nat)(y4:List PV)(y5 y6:Int)(y7:Nat)(y8:Int)(y9:Nat)(y10:List PV)(Jn:Int)(Oc:List PV):Ge fu call a0_0n a0_0 a0_1 Ff a0_2 a0_3 (nn+1) y0 y1 y2 y3 y4 y5 y6 y7 y8 y9 y10 Jn Oc=(Ba (decide (y6<y5)) (Ao (decide (0<=y6)&&decide (y6<(↑y3:Int)))<|Ad .u8 (List.getD y4 (Int.toNat y6*1) .top) fun Fq=>Aa (G7 .u64 y1 8) fun Fv=>Aa (wrap .u64 Fq) fun F5=>Aa (PH .u64 Fv F5) fun Id=>Aa (wrap .i64 (y6+1)) fun G6=>Ge fu call a0_0n a0_0 a0_1 Ff a0_2 a0_3 (nn) (y0) Id (y2) (y3) (y4) (y5) G6 (y7) (y8) (y9) (y10) (Jn) (Oc)) (Aa (wrap .i64 (Jn+y2)) fun H7=>Ag (call 127 [.sc (.int .u64 y1)]) fun D2 Do=>Ac Do<|Ab D2 fun Ga Ia=>Ad .i64 Ga fun E1=>Ac Ia<|Ba (decide (E1<y2)) (Ao (decide (y7*3<=Oc.length))<|some (Az.mk [.sc (.int .i64 0),.sc (.int .u64 0),.sc (.int .i64 2)] [[.own 3 y7 (List.take (y7*3) Oc),.sc (.int .i64 y8),.lst false 1 y9 y10,.sc (.int .i64 H7)]])) (Ao (decide (y7*3<=Oc.length))<|some (Az.mk [.sc (.int .i64 y0),.sc (.int .u64 y1),.sc (.int .i64 0)] [[.own 3 y7 (List.take (y7*3) Oc),.sc (.int .i64 y8),.lst false 1 y9 y10,.sc (.int .i64 H7)]])))):=by kernel_rfl
theorem Y1 (fu d a0_0n:Nat)(a0_0:List PV)(a0_1:Int)(Ff:Nat)(a0_2:List PV)(a0_3:Int):Ae C0 Tryz.prog fu (d+1) O8 [.pbox [.own 3 a0_0n a0_0,.sc (.int .i64 a0_1),.lst false 1 Ff a0_2,.sc (.int .i64 a0_3)]]=(fun (call:Ai)=>Ba (decide (a0_3>=(↑Ff:Int))) (Ao (decide (a0_0n*3<=a0_0.length))<|some (Az.mk [.sc (.int .i64 0),.sc (.int .u64 0),.sc (.int .i64 1)] [[.own 3 a0_0n (List.take (a0_0n*3) a0_0),.sc (.int .i64 a0_1),.lst false 1 Ff a0_2,.sc (.int .i64 a0_3)]])) (Ao (decide (0<=a0_3)&&decide (a0_3<(↑Ff:Int)))<|Ad .u8 (List.getD a0_2 (Int.toNat a0_3*1) .top) fun x1=>Aa (wrap .i64 (a0_3+1)) fun x2=>Ba (x1==244) (Aa (wrap .u8 (x1-244)) fun x3=>Aa (wrap .u64 x3) fun x4=>Ao (decide (a0_0n*3<=a0_0.length))<|some (Az.mk [.sc (.int .i64 7),.sc (.int .u64 x4),.sc (.int .i64 0)] [[.own 3 a0_0n (List.take (a0_0n*3) a0_0),.sc (.int .i64 a0_1),.lst false 1 Ff a0_2,.sc (.int .i64 x2)]])) (Ba (x1==245) (Aa (wrap .u8 (x1-244)) fun x5=>Aa (wrap .u64 x5) fun x6=>Ao (decide (a0_0n*3<=a0_0.length))<|some (Az.mk [.sc (.int .i64 7),.sc (.int .u64 x6),.sc (.int .i64 0)] [[.own 3 a0_0n (List.take (a0_0n*3) a0_0),.sc (.int .i64 a0_1),.lst false 1 Ff a0_2,.sc (.int .i64 x2)]])) (Ba (x1==246) (Ao (decide (a0_0n*3<=a0_0.length))<|some (Az.mk [.sc (.int .i64 8),.sc (.int .u64 0),.sc (.int .i64 0)] [[.own 3 a0_0n (List.take (a0_0n*3) a0_0),.sc (.int .i64 a0_1),.lst false 1 Ff a0_2,.sc (.int .i64 x2)]])) (Aa (D6 .u8 x1 5) fun x7=>Aa (Ru .u8 x1 31) fun x8=>Ba (decide (x7>5)) (Ao (decide (a0_0n*3<=a0_0.length))<|some (Az.mk [.sc (.int .i64 0),.sc (.int .u64 0),.sc (.int .i64 2)] [[.own 3 a0_0n (List.take (a0_0n*3) a0_0),.sc (.int .i64 a0_1),.lst false 1 Ff a0_2,.sc (.int .i64 x2)]])) (Ba (decide (x8>27)) (Ao (decide (a0_0n*3<=a0_0.length))<|some (Az.mk [.sc (.int .i64 0),.sc (.int .u64 0),.sc (.int .i64 2)] [[.own 3 a0_0n (List.take (a0_0n*3) a0_0),.sc (.int .i64 a0_1),.lst false 1 Ff a0_2,.sc (.int .i64 x2)]])) (Aa (wrap .i64 x7) fun x9=>Aa (wrap .i64 (1+x9)) fun Cr=>Ba (decide (x8<24)) (Aa (wrap .u64 x8) fun C5=>Ao (decide (a0_0n*3<=a0_0.length))<|some (Az.mk [.sc (.int .i64 Cr),.sc (.int .u64 C5),.sc (.int .i64 0)] [[.own 3 a0_0n (List.take (a0_0n*3) a0_0),.sc (.int .i64 a0_1),.lst false 1 Ff a0_2,.sc (.int .i64 x2)]])) (Aa (wrap .u8 (x8-24)) fun Dw=>Ao (decide (0<=Dw))<|Aa (G7 .i64 1 Dw) fun D5=>Aa (wrap .i64 ((↑Ff:Int)-x2)) fun Ds=>Ba (decide (Ds<D5)) (Ao (decide (a0_0n*3<=a0_0.length))<|some (Az.mk [.sc (.int .i64 0),.sc (.int .u64 0),.sc (.int .i64 1)] [[.own 3 a0_0n (List.take (a0_0n*3) a0_0),.sc (.int .i64 a0_1),.lst false 1 Ff a0_2,.sc (.int .i64 x2)]])) (Aa (wrap .i64 (x2+D5)) fun Eg=>Ao (decide (0<=x2))<|Ao (decide (0<=Eg))<|Ao (decide (Int.toNat x2<=Int.toNat Eg)&&decide (Int.toNat Eg<=Ff))<|Aa (Int.toNat Eg-Int.toNat x2) fun En=>Aa (List.take (En*1) (List.drop (Int.toNat x2*1) a0_2)) fun E9=>Ge fu call a0_0n a0_0 a0_1 Ff a0_2 a0_3 (fu) Cr 0 D5 En E9 ((↑En:Int)) 0 (a0_0n) (a0_1) (Ff) (a0_2) x2 (a0_0)))))))))) (Ae C0 Tryz.prog fu d):=by kernel_rfl
abbrev O3:FuncId:=91
theorem Y7 (fu d a0_0n:Nat)(a0_0:List PV)(a0_1:Int)(Ff:Nat)(a0_2:List PV)(a0_3:Int):Ae C0 Tryz.prog fu (d+1) O3 [.pbox [.own 3 a0_0n a0_0,.sc (.int .i64 a0_1),.lst false 1 Ff a0_2,.sc (.int .i64 a0_3)]]=(fun (call:Ai)=>Ao (decide (a0_0n*3<=a0_0.length))<|Ag (call 113 [.pbox [.own 3 a0_0n (List.take (a0_0n*3) a0_0),.sc (.int .i64 a0_1),.lst false 1 Ff a0_2,.sc (.int .i64 a0_3)]]) fun x1 x2=>Ab x1 fun x3 x4=>Ad .i64 x3 fun x5=>Ab x4 fun x6 x7=>Ad .u64 x6 fun x8=>Ab x7 fun x9 Cr=>Ad .i64 x9 fun C5=>Ac Cr<|Ab x2 fun Dw D5=>Ab Dw fun Ds Eg=>Ep 3 Ds fun En E9=>Ab Eg fun Fq Fv=>Ad .i64 Fq fun F5=>Ab Fv fun Id G6=>Fd 1 Id fun H7 D2 Do=>Ab G6 fun Ga Ia=>Ad .i64 Ga fun E1=>Ac Ia<|Ac D5<|Ba (C5 != 0) (Ao (decide (En*3<=E9.length))<|some (Az.mk [.agg [.sc (.int .i64 0),.sc (.int .u64 0),.sc (.string (ByteArray.mk #[]))],.sc (.int .i64 C5)] [[.own 3 En (List.take (En*3) E9),.sc (.int .i64 F5),.lst false 1 D2 Do,.sc (.int .i64 E1)]])) (Ao (decide (En*3<=E9.length))<|Ag (call 114 [.pbox [.own 3 En (List.take (En*3) E9),.sc (.int .i64 F5)],.sc (.int .i64 x5)]) fun Ji Mm=>Ab Ji fun J5 M1=>Ad .i64 J5 fun Ms=>Ac M1<|Ab Mm fun Of P6=>Ab Of fun Q2 Ta=>Ep 3 Q2 fun G8 J7=>Ab Ta fun Uy Zh=>Ad .i64 Uy fun Ps=>Ac Zh<|Ac P6<|Ba (Ms != 0) (Ao (decide (G8*3<=J7.length))<|some (Az.mk [.agg [.sc (.int .i64 0),.sc (.int .u64 0),.sc (.string (ByteArray.mk #[]))],.sc (.int .i64 Ms)] [[.own 3 G8 (List.take (G8*3) J7),.sc (.int .i64 Ps),.lst false 1 D2 Do,.sc (.int .i64 E1)]])) (Ba (x5==5) (Ba (decide (x8>512)) (Ao (decide (G8*3<=J7.length))<|some (Az.mk [.agg [.sc (.int .i64 0),.sc (.int .u64 0),.sc (.string (ByteArray.mk #[]))],.sc (.int .i64 8)] [[.own 3 G8 (List.take (G8*3) J7),.sc (.int .i64 Ps),.lst false 1 D2 Do,.sc (.int .i64 E1)]])) (Ao (decide (G8*3<=J7.length))<|Ag (call 115 [.pbox [.own 3 G8 (List.take (G8*3) J7),.sc (.int .i64 Ps)],.agg [.sc (.int .i64 x5),.sc (.int .u64 x8),.sc (.string (ByteArray.mk #[]))]]) fun Us Uc=>Ab Us fun Sk Tp=>Ad .i64 Sk fun Xk=>Ac Tp<|Ab Uc fun X9 Tb=>Ab X9 fun V2 Xq=>Ep 3 V2 fun Xf Pk=>Ab Xq fun Y9 CK=>Ad .i64 Y9 fun CJ=>Ac CK<|Ac Tb<|Ba (Xk != 0) (Ao (decide (Xf*3<=Pk.length))<|some (Az.mk [.agg [.sc (.int .i64 0),.sc (.int .u64 0),.sc (.string (ByteArray.mk #[]))],.sc (.int .i64 Xk)] [[.own 3 Xf (List.take (Xf*3) Pk),.sc (.int .i64 CJ),.lst false 1 D2 Do,.sc (.int .i64 E1)]])) (Ao (decide (Xf*3<=Pk.length))<|some (Az.mk [.agg [.sc (.int .i64 x5),.sc (.int .u64 x8),.sc (.string (ByteArray.mk #[]))],.sc (.int .i64 0)] [[.own 3 Xf (List.take (Xf*3) Pk),.sc (.int .i64 CJ),.lst false 1 D2 Do,.sc (.int .i64 E1)]])))) (Ba (x5==6) (Ba (decide (x8>512)) (Ao (decide (G8*3<=J7.length))<|some (Az.mk [.agg [.sc (.int .i64 0),.sc (.int .u64 0),.sc (.string (ByteArray.mk #[]))],.sc (.int .i64 8)] [[.own 3 G8 (List.take (G8*3) J7),.sc (.int .i64 Ps),.lst false 1 D2 Do,.sc (.int .i64 E1)]])) (Ao (decide (G8*3<=J7.length))<|Ag (call 115 [.pbox [.own 3 G8 (List.take (G8*3) J7),.sc (.int .i64 Ps)],.agg [.sc (.int .i64 x5),.sc (.int .u64 x8),.sc (.string (ByteArray.mk #[]))]]) fun Zj Ud=>Ab Zj fun Yn CI=>Ad .i64 Yn fun Yq=>Ac CI<|Ab Ud fun Zk Yb=>Ab Zk fun Zi BO=>Ep 3 Zi fun Va Xe=>Ab BO fun CR CD=>Ad .i64 CR fun Zo=>Ac CD<|Ac Yb<|Ba (Yq != 0) (Ao (decide (Va*3<=Xe.length))<|some (Az.mk [.agg [.sc (.int .i64 0),.sc (.int .u64 0),.sc (.string (ByteArray.mk #[]))],.sc (.int .i64 Yq)] [[.own 3 Va (List.take (Va*3) Xe),.sc (.int .i64 Zo),.lst false 1 D2 Do,.sc (.int .i64 E1)]])) (Ao (decide (Va*3<=Xe.length))<|some (Az.mk [.agg [.sc (.int .i64 x5),.sc (.int .u64 x8),.sc (.string (ByteArray.mk #[]))],.sc (.int .i64 0)] [[.own 3 Va (List.take (Va*3) Xe),.sc (.int .i64 Zo),.lst false 1 D2 Do,.sc (.int .i64 E1)]])))) (Ba (x5==3) (Ba (decide (x8>1024)) (Ao (decide (G8*3<=J7.length))<|some (Az.mk [.agg [.sc (.int .i64 0),.sc (.int .u64 0),.sc (.string (ByteArray.mk #[]))],.sc (.int .i64 8)] [[.own 3 G8 (List.take (G8*3) J7),.sc (.int .i64 Ps),.lst false 1 D2 Do,.sc (.int .i64 E1)]])) (Aa (wrap .i64 ((↑D2:Int)-E1)) fun Y4=>Aa (wrap .i64 x8) fun CF=>Ba (decide (Y4<CF)) (Ao (decide (G8*3<=J7.length))<|some (Az.mk [.agg [.sc (.int .i64 0),.sc (.int .u64 0),.sc (.string (ByteArray.mk #[]))],.sc (.int .i64 1)] [[.own 3 G8 (List.take (G8*3) J7),.sc (.int .i64 Ps),.lst false 1 D2 Do,.sc (.int .i64 E1)]])) (Aa (wrap .i64 x8) fun HH=>Aa (wrap .i64 (E1+HH)) fun AJ=>Ao (decide (0<=E1))<|Ao (decide (0<=AJ))<|Ao (decide (Int.toNat E1<=Int.toNat AJ)&&decide (Int.toNat AJ<=D2))<|Aa (Int.toNat AJ-Int.toNat E1) fun EI=>Aa (List.take (EI*1) (List.drop (Int.toNat E1*1) Do)) fun HG=>Ao (decide (HG.length=EI))<|Et (bytesOf HG) fun CL=>Aa (wrap .i64 x8) fun FS=>Aa (wrap .i64 (E1+FS)) fun JJ=>Ao (decide (G8*3<=J7.length))<|Ag (call 115 [.pbox [.own 3 G8 (List.take (G8*3) J7),.sc (.int .i64 Ps)],.agg [.sc (.int .i64 x5),.sc (.int .u64 0),.sc (.string (ByteArray.mk (List.toArray CL)))]]) fun II VJ=>Ab II fun SX QW=>Ad .i64 SX fun SP=>Ac QW<|Ab VJ fun XJ WY=>Ab XJ fun SZ QX=>Ep 3 SZ fun GR NU=>Ab QX fun QN WP=>Ad .i64 QN fun TJ=>Ac WP<|Ac WY<|Ba (SP != 0) (Ao (decide (GR*3<=NU.length))<|some (Az.mk [.agg [.sc (.int .i64 0),.sc (.int .u64 0),.sc (.string (ByteArray.mk #[]))],.sc (.int .i64 SP)] [[.own 3 GR (List.take (GR*3) NU),.sc (.int .i64 TJ),.lst false 1 D2 Do,.sc (.int .i64 JJ)]])) (Ao (decide (GR*3<=NU.length))<|some (Az.mk [.agg [.sc (.int .i64 x5),.sc (.int .u64 0),.sc (.string (ByteArray.mk (List.toArray CL)))],.sc (.int .i64 0)] [[.own 3 GR (List.take (GR*3) NU),.sc (.int .i64 TJ),.lst false 1 D2 Do,.sc (.int .i64 JJ)]]))))) (Ba (x5==4) (Ba (decide (x8>1024)) (Ao (decide (G8*3<=J7.length))<|some (Az.mk [.agg [.sc (.int .i64 0),.sc (.int .u64 0),.sc (.string (ByteArray.mk #[]))],.sc (.int .i64 8)] [[.own 3 G8 (List.take (G8*3) J7),.sc (.int .i64 Ps),.lst false 1 D2 Do,.sc (.int .i64 E1)]])) (Aa (wrap .i64 ((↑D2:Int)-E1)) fun ZS=>Aa (wrap .i64 x8) fun XN=>Ba (decide (ZS<XN)) (Ao (decide (G8*3<=J7.length))<|some (Az.mk [.agg [.sc (.int .i64 0),.sc (.int .u64 0),.sc (.string (ByteArray.mk #[]))],.sc (.int .i64 1)] [[.own 3 G8 (List.take (G8*3) J7),.sc (.int .i64 Ps),.lst false 1 D2 Do,.sc (.int .i64 E1)]])) (Aa (wrap .i64 x8) fun ZK=>Aa (wrap .i64 (E1+ZK)) fun SU=>Ao (decide (0<=E1))<|Ao (decide (0<=SU))<|Ao (decide (Int.toNat E1<=Int.toNat SU)&&decide (Int.toNat SU<=D2))<|Aa (Int.toNat SU-Int.toNat E1) fun XF=>Aa (List.take (XF*1) (List.drop (Int.toNat E1*1) Do)) fun XK=>Ao (decide (XK.length=XF))<|Et (bytesOf XK) fun Wn=>Aa (wrap .i64 x8) fun Vm=>Aa (wrap .i64 (E1+Vm)) fun Hp=>Ao (decide (G8*3<=J7.length))<|Ag (call 115 [.pbox [.own 3 G8 (List.take (G8*3) J7),.sc (.int .i64 Ps)],.agg [.sc (.int .i64 x5),.sc (.int .u64 0),.sc (.string (ByteArray.mk (List.toArray Wn)))]]) fun D4 Yy=>Ab D4 fun R5 Q5=>Ad .i64 R5 fun Kd=>Ac Q5<|Ab Yy fun AB Yp=>Ab AB fun Yd AU=>Ep 3 Yd fun Ie Jw=>Ab AU fun X8 Yt=>Ad .i64 X8 fun Zc=>Ac Yt<|Ac Yp<|Ba (Kd != 0) (Ao (decide (Ie*3<=Jw.length))<|some (Az.mk [.agg [.sc (.int .i64 0),.sc (.int .u64 0),.sc (.string (ByteArray.mk #[]))],.sc (.int .i64 Kd)] [[.own 3 Ie (List.take (Ie*3) Jw),.sc (.int .i64 Zc),.lst false 1 D2 Do,.sc (.int .i64 Hp)]])) (Ao (decide (Ie*3<=Jw.length))<|some (Az.mk [.agg [.sc (.int .i64 x5),.sc (.int .u64 0),.sc (.string (ByteArray.mk (List.toArray Wn)))],.sc (.int .i64 0)] [[.own 3 Ie (List.take (Ie*3) Jw),.sc (.int .i64 Zc),.lst false 1 D2 Do,.sc (.int .i64 Hp)]]))))) (Ao (decide (G8*3<=J7.length))<|Ag (call 115 [.pbox [.own 3 G8 (List.take (G8*3) J7),.sc (.int .i64 Ps)],.agg [.sc (.int .i64 x5),.sc (.int .u64 x8),.sc (.string (ByteArray.mk #[]))]]) fun DD S1=>Ab DD fun V5 Wy=>Ad .i64 V5 fun W5=>Ac Wy<|Ab S1 fun X1 Zr=>Ab X1 fun Rf Q0=>Ep 3 Rf fun Pr Sq=>Ab Q0 fun Ra Wt=>Ad .i64 Ra fun V4=>Ac Wt<|Ac Zr<|Ba (W5 != 0) (Ao (decide (Pr*3<=Sq.length))<|some (Az.mk [.agg [.sc (.int .i64 0),.sc (.int .u64 0),.sc (.string (ByteArray.mk #[]))],.sc (.int .i64 W5)] [[.own 3 Pr (List.take (Pr*3) Sq),.sc (.int .i64 V4),.lst false 1 D2 Do,.sc (.int .i64 E1)]])) (Ao (decide (Pr*3<=Sq.length))<|some (Az.mk [.agg [.sc (.int .i64 x5),.sc (.int .u64 x8),.sc (.string (ByteArray.mk #[]))],.sc (.int .i64 0)] [[.own 3 Pr (List.take (Pr*3) Sq),.sc (.int .i64 V4),.lst false 1 D2 Do,.sc (.int .i64 E1)]]))))))))) (Ae C0 Tryz.prog fu d):=by kernel_rfl
abbrev Xt:FuncId:=51
noncomputable def Jl (fu:Nat)(call:Ai)(a0n:Nat)(a0:List PV)(nn y0:Nat)(y1:List PV)(y2:Nat)(y3:Int)(y4:Nat)(y5:List PV)(y6:Int)(y7:List PV):Option Az:=Cz CB Tryz.prog fu call 51 Tryz.f51 (Bq Tryz.f51) [.lst false 1 a0n a0] [.r,.r,.l,.l] nn ⟨lk [(2,(.view 2 3 0 y0)),(5,(.ptr 5 0))],B5 [(2,(.ar false y1)),(5,(.st [(.view 32 3 0 y2),(.sc (.int .i64 y3)),(.lst false 1 y4 y5),(.sc (.int .i64 y6))])),(32,(.ar false y7))]⟩
theorem DH (fu:Nat)(call:Ai)(a0n:Nat)(a0:List PV)(nn y0:Nat)(y1:List PV)(y2:Nat)(y3:Int)(y4:Nat)(y5:List PV)(y6:Int)(y7:List PV):Jl fu call a0n a0 (nn+1) y0 y1 y2 y3 y4 y5 y6 y7=(Ao (decide (y2*3<=y7.length))<|Ag (call 90 [.pbox [.own 3 y2 (List.take (y2*3) y7),.sc (.int .i64 y3)]]) fun x1 x2=>Ab x1 fun x3 x4=>Bk x3 fun x5=>Ac x4<|Ab x2 fun x6 x7=>Ab x6 fun x8 x9=>Ep 3 x8 fun Cr C5=>Ab x9 fun Dw D5=>Ad .i64 Dw fun Ds=>Ac D5<|Ac x7<|Ba (!x5) (Ao (decide (Cr*3<=C5.length))<|Ag (call 91 [.pbox [.own 3 Cr (List.take (Cr*3) C5),.sc (.int .i64 Ds),.lst false 1 y4 y5,.sc (.int .i64 y6)]]) fun Eg En=>Ab Eg fun E9 Fq=>C2 E9 fun Fv=>Ab Fv fun F5 Id=>Ad .i64 F5 fun G6=>Ab Id fun H7 D2=>Ad .u64 H7 fun Do=>Ab D2 fun Ga Ia=>Cj Ga fun E1=>Ac Ia<|Ab Fq fun Ji Mm=>Ad .i64 Ji fun J5=>Ac Mm<|Ab En fun M1 Ms=>Ab M1 fun Of P6=>Ep 3 Of fun Q2 Ta=>Ab P6 fun G8 J7=>Ad .i64 G8 fun Uy=>Ab J7 fun Zh Ps=>Fd 1 Zh fun Us Uc Sk=>Ab Ps fun Tp Xk=>Ad .i64 Tp fun X9=>Ac Xk<|Ac Ms<|Ba (J5 != 0) (some (Az.mk [.own 3 0 [],.sc (.int .i64 0),.sc (.int .i64 J5)] [])) (Ao (decide (y0*3<=y1.length)&&true&&decide ((y0+1)*32<=1099511627776)&&decide (y0+1<=1099511627776))<|Aa (y0+1) fun Tb=>Aa (List.take (y0*3) y1++[.sc (.int .i64 G6),.sc (.int .u64 Do),.sc (.string E1)]) fun V2=>Jl fu call a0n a0 (nn) Tb V2 Q2 Uy Uc Sk X9 Ta)) (Ao (decide (y0*3<=y1.length))<|some (Az.mk [.own 3 y0 (List.take (y0*3) y1),.sc (.int .i64 y6),.sc (.int .i64 0)] []))):=by kernel_rfl
theorem MX (fu d a0n:Nat)(a0:List PV):Ae C0 Tryz.prog fu (d+1) Xt [.lst false 1 a0n a0]=(fun (call:Ai)=>Jl fu call a0n a0 (fu) 0 ([]) 0 0 (a0n) (a0) 0 ([])) (Ae C0 Tryz.prog fu d):=by kernel_rfl
end
section
open Go.IntKind (wrap)
structure Hd where
 k:Int
 n:Int
 e:Int
 at_:Nat
def Pd (n:Int):Int:=if n<24 then 0 else if n<256 then 1 else if n<65536 then 2 else if n<4294967296 then 4 else 8
def szE (low:Int):Nat:=if low=24 then 1 else if low=25 then 2 else if low=26 then 4 else 8
def Tt (b:List Int)(at_:Nat)(x:Int):Hd:=
 if x=244 then ⟨7,0,0,at_+1⟩ else if x=245 then ⟨7,1,0,at_+1⟩ else if x=246 then ⟨8,0,0,at_+1⟩
 else if x / 32>5 then ⟨0,0,2,at_+1⟩ else if x % 32>27 then ⟨0,0,2,at_+1⟩
 else if x % 32<24 then ⟨1+x / 32,x % 32,0,at_+1⟩
 else if b.length-(at_+1)<szE (x % 32) then ⟨0,0,1,at_+1⟩
 else if Pd (JZ ((b.drop (at_+1)).take (szE (x % 32))))<szE (x % 32) then ⟨0,0,2,at_+1+szE (x % 32)⟩
 else ⟨1+x / 32,JZ ((b.drop (at_+1)).take (szE (x % 32))),0,at_+1+szE (x % 32)⟩
def F8 (b:List Int)(at_:Nat):Hd:=match b[at_]? with|none=>⟨0,0,1,at_⟩|some x=>Tt b at_ x
theorem Avr {x:Int}(h:0<=x):D6 .u8 x 5=x / 32:=by
 unfold D6;show x.fdiv (2 ^ (min (5:Int).toNat IntKind.u8.bits))=_;have h2:(2:Int) ^ (min (5:Int).toNat IntKind.u8.bits)=32:=by decide
 rw [h2,Int.fdiv_eq_ediv_of_nonneg _ (by omega)]
theorem Asj {x:Int}(h0:0<=x)(h1:x<=255):Ru .u8 x 31=x % 32:=by
 obtain ⟨n,rfl⟩:=Int.eq_ofNat_of_zero_le h0;have hn:n<256:=by omega
 have e1:(BitVec.ofInt 8 (n:Int)).toNat=n:=by
  rw [BitVec.toNat_ofInt];omega
 have e2:(BitVec.ofInt 8 (31:Int)).toNat=2 ^ 5-1:=by decide
 unfold Ru;show wrap .u8 ((BitVec.ofInt 8 (n:Int) &&& BitVec.ofInt 8 (31:Int)).toNat:Int)=_;rw [BitVec.toNat_and,e1,e2,Nat.and_two_pow_sub_one_eq_mod,Fu (by omega) (by omega)]
 omega
abbrev Aeu (l:List Gt)(cnt:Int)(b:List Int)(at_:Nat):List PV:=[.own 3 l.length (Eo l),.sc (.int .i64 cnt),.lst false 1 b.length (Af .u8 b),.sc (.int .i64 at_)]
section
variable {fu d:Nat}
theorem Ahu (n:Int):Ae C0 Tryz.prog fu (d+1) CA [.sc (.int .u64 n)]=some ⟨[.sc (.int .i64 (Pd n))],[]⟩:=by
 rw [RI];unfold Pd
 try unfold Aa
 repeat' first
  |((with_reducible first|apply As|apply Am|apply At|apply Al);· first|with_reducible rfl|(simp (disch:=first|with_reducible assumption|omega) only [B7,A7]<;>with_reducible rfl))
  |((with_reducible first|apply Av|apply Au);· first|with_reducible rfl|with_reducible assumption|omega|(simp (disch:=first|with_reducible assumption|omega) only [gT,B7,A7]<;>omega))
  |(with_reducible apply Aw;· first|with_reducible rfl|with_reducible assumption|(simp (disch:=first|with_reducible assumption|omega) only [gF,B7,A7]<;>omega))
  |(with_reducible refine Agp ?_ ?_<;>intro hb<;>try simp only [decide_eq_true_eq,decide_eq_false_iff_not,beq_iff_eq,beq_eq_false_iff_ne,bne_iff_ne,bne_eq_false_iff_eq,ne_eq,Bool.not_eq_true',Bool.not_eq_false',Bool.not_eq_true,Bool.not_eq_false] at hb)
  |(with_reducible refine SS ?_ ?_)
 all_goals try simp (disch:=first|with_reducible assumption|omega) only [B7,A7]
theorem KK {a0n a2n:Nat}{a0 a2:List PV}{a1 a3 k cnt:Int}{l:List Gt}{b:List Int}{off sz:Nat}{q:List Int}(hq:q.length=sz)(hb:b.length<=1000000)(ho:off+sz<=b.length):∀(r:List Int)(i nn:Nat)(v:Int),q.drop i=r->r.length<nn->i<=sz ->
    Ge fu (Ae C0 Tryz.prog fu (d+1)) a0n a0 a1 a2n a2 a3 nn k v (sz:Int) sz (Af .u8 q) (sz:Int) (i:Int) l.length cnt b.length (Af .u8 b) (off:Int) (Eo l) =
      (if Pd (r.foldl Fe v)<sz then some ⟨[.sc (.int .i64 0),.sc (.int .u64 0),.sc (.int .i64 2)],[Aeu l cnt b (off+sz)]⟩
       else some ⟨[.sc (.int .i64 k),.sc (.int .u64 (r.foldl Fe v)),.sc (.int .i64 0)],[Aeu l cnt b (off+sz)]⟩)
  |_,_,0,_,_,h,_=>by omega
  |[],i,nn+1,v,hd,hn,hi=>by
    have:=drop_nil hd
    have sh:=Ahu (fu:=fu) (d:=d) v
    have L:=C4 l
    have t:=Df l
    have w:wrap .i64 ((off:Int)+(sz:Int))=((off+sz:Nat):Int):=by rw [Aj (by omega) (by omega)];omega
    rw [Kn,Dt _ _ _ (by omega),List.foldl_nil]
    by_cases hs:Pd v<sz
    · rw [B7 hs]
      simp (disch:=omega) only [B4,w,sh,L,t,Cb]
    · rw [A7 hs]
      simp (disch:=omega) only [B4,w,sh,L,t,Cb]
  |x::r,i,nn+1,v,hd,hn,hi=>by
    obtain ⟨h1,h2,h3⟩:=Cg hd
    simp only [Jj] at hn
    have g0:=Xj (k:=.u8) h2
    have w:wrap .i64 ((i:Int)+1)=((i+1:Nat):Int):=by rw [Aj (by omega) (by omega)];omega
    have ih:=KK (a0n:=a0n) (a2n:=a2n) (a0:=a0) (a2:=a2) (a1:=a1) (a3:=a3) (k:=k) (cnt:=cnt) (l:=l) hq hb ho r (i+1) nn (Fe v x) h3 (by omega) (by omega)
    rw [List.foldl_cons,←ih,Kn]
    simp (disch:=omega) only [B4,Gm,Cb,g0,w]
theorem Ait {l:List Gt}{cnt:Int}{b:List Int}{at_:Nat}(hfu:1000<=fu)(hb:J4 b)(hl:b.length<=1000000):
  Ae C0 Tryz.prog fu (d+2) O8 [.pbox (Aeu l cnt b at_)]=some ⟨[.sc (.int .i64 (F8 b at_).k),.sc (.int .u64 (F8 b at_).n),.sc (.int .i64 (F8 b at_).e)],[Aeu l cnt b (F8 b at_).at_]⟩:=by
 refine (Y1 fu (d+1) l.length (Eo l) cnt b.length (Af .u8 b) (at_:Int)).trans ?_;have L:=C4 l;have t:=Df l;have Lb:=Ak .u8 b;have tb:=Kc .u8 b;unfold F8;by_cases hlt:at_<b.length
 rotate_left
 ·have hg:b[at_]?=none:=List.getElem?_eq_none (by omega)
  rw [hg];simp (disch:=omega) only [B4,L,t,Lb,tb,Cb]
 have hg:b[at_]?=some b[at_]:=List.getElem?_eq_getElem hlt;have hB:=hb _ (List.getElem_mem hlt);rw [hg];generalize b[at_]=x at hg hB;have g0:=Xj (k:=.u8) hg;have w1:wrap .i64 ((at_:Int)+1)=((at_+1:Nat):Int):=by rw [Aj (by omega) (by omega)];omega
 have s5:=Avr hB.1;have a31:=Asj hB.1 hB.2;unfold Tt;simp only;by_cases c1:x=244
 ·subst c1;have q:wrap .u64 (wrap .u8 ((244:Int)-244))=0:=by decide
  simp (disch:=omega) only [B4,Gm,Bw,Cb,g0,Int.reduceBEq,w1,L,t,Lb,tb,q]
 rw [A7 c1];have b1:(x==(244:Int))=false:=by simp [c1]
 by_cases c2:x=245
 ·subst c2;have q:wrap .u64 (wrap .u8 ((245:Int)-244))=1:=by decide
  simp (disch:=omega) only [B4,Gm,Bw,Cb,g0,Int.reduceBEq,w1,L,t,Lb,tb,q,if_true]
 rw [A7 c2];have b2:(x==(245:Int))=false:=by simp [c2]
 by_cases c3:x=246
 ·subst c3;simp (disch:=omega) only [B4,Gm,Bw,Cb,g0,Int.reduceBEq,w1,L,t,Lb,tb,if_true]
 rw [A7 c3];have b3:(x==(246:Int))=false:=by simp [c3]
 by_cases c4:x / 32>5
 ·rw [B7 c4];simp (disch:=omega) only [B4,Gm,Bw,Cb,g0,b1,b2,b3,s5,a31,w1,L,t,Lb,tb]
 rw [A7 c4];by_cases c5:x % 32>27
 ·rw [B7 c5];simp (disch:=omega) only [B4,Gm,Bw,Cb,g0,b1,b2,b3,s5,a31,w1,L,t,Lb,tb]
 rw [A7 c5];have wk1:wrap .i64 (x / 32)=x / 32:=Aj (by omega) (by omega)
 have wk2:wrap .i64 (1+x / 32)=1+x / 32:=Aj (by omega) (by omega)
 by_cases c6:x % 32<24
 ·have wn:wrap .u64 (x % 32)=x % 32:=Cs (by omega) (by omega)
  rw [B7 c6];simp (disch:=omega) only [B4,Gm,Bw,Cb,g0,b1,b2,b3,s5,a31,w1,wk1,wk2,wn,L,t,Lb,tb]
 rw [A7 c6];have q1:wrap .u8 (x % 32-24)=x % 32-24:=Fu (by omega) (by omega)
 have q2:G7 .i64 1 (x % 32-24)=(szE (x % 32):Int):=by
  have:x % 32=24∨x % 32=25∨x % 32=26∨x % 32=27:=by omega
  rcases this with h|h|h|h<;>rw [h]<;>decide
 have q3:szE (x % 32)<=8:=by
  unfold szE
  repeat' split
  all_goals omega
 generalize szE (x % 32)=sz at q2 q3 ⊢;have q4:wrap .i64 ((b.length:Int)-((at_+1:Nat):Int))=((b.length-(at_+1):Nat):Int):=by rw [Aj (by omega) (by omega)];omega
 by_cases c7:b.length-(at_+1)<sz
 ·rw [B7 c7];simp (disch:=omega) only [B4,Gm,Bw,Cb,g0,b1,b2,b3,s5,a31,w1,wk1,wk2,q1,q2,q4,L,t,Lb,tb]
 rw [A7 c7];have q5:wrap .i64 (((at_+1:Nat):Int)+(sz:Int))=((at_+1+sz:Nat):Int):=by rw [Aj (by omega) (by omega)];omega
 have q6:at_+1+sz-(at_+1)=sz:=by omega
 have lp:=KK (fu:=fu) (d:=d) (a0n:=l.length) (a2n:=b.length) (a0:=Eo l) (a2:=Af .u8 b) (a1:=cnt) (a3:=(at_:Int)) (k:=1+x / 32) (cnt:=cnt) (l:=l) (b:=b) (off:=at_+1) (sz:=sz) (q:=(b.drop (at_+1)).take sz) (by rw [List.length_take,List.length_drop];omega) hl (by omega) _ 0 fu 0 rfl (by rw [Fa,List.length_take];omega) (by omega)
 rw [Fa] at lp;have lp':=lp;unfold JZ;by_cases c8:Pd (((b.drop (at_+1)).take sz).foldl Fe 0)<sz
 ·rw [B7 c8] at lp' ⊢;simp (disch:=omega) only [B4,Gm,Bw,Cb,g0,b1,b2,b3,s5,a31,w1,wk1,wk2,q1,q2,q4,q5,q6,H6,Ob,L,t,Lb,tb];exact lp'
 ·rw [A7 c8] at lp' ⊢;simp (disch:=omega) only [B4,Gm,Bw,Cb,g0,b1,b2,b3,s5,a31,w1,wk1,wk2,q1,q2,q4,q5,q6,H6,Ob,L,t,Lb,tb];exact lp'
end
end
section
open Go.IntKind (wrap)
structure Rd where
 x:It
 e:Int
 l:List Gt
 cnt:Int
 at_:Nat
def it0:It:=⟨0,0,⟨#[]⟩⟩
def Tu (l:List Gt)(cnt:Int)(x:It)(at_:Nat):Rd:=if (D0 l x).1=0 then ⟨x,0,(D0 l x).2,cnt+1,at_⟩ else ⟨it0,(D0 l x).1,(D0 l x).2,cnt,at_⟩
def SG (l:List Gt)(cnt:Int)(b:List Int)(h:Hd):Rd:=
 if h.e≠0 then ⟨it0,h.e,l,cnt,h.at_⟩
 else if Iv l cnt h.k≠0 then ⟨it0,Iv l cnt h.k,l,cnt,h.at_⟩
 else if h.k=5∨h.k=6 then (if h.n>512 then ⟨it0,8,l,cnt,h.at_⟩ else Tu l cnt ⟨h.k,h.n,⟨#[]⟩⟩ h.at_)
 else if h.k=3∨h.k=4 then (if h.n>1024 then ⟨it0,8,l,cnt,h.at_⟩ else if b.length-h.at_<h.n.toNat then ⟨it0,1,l,cnt,h.at_⟩
  else Tu l cnt ⟨h.k,0,Cd ((b.drop h.at_).take h.n.toNat)⟩ (h.at_+h.n.toNat))
 else Tu l cnt ⟨h.k,h.n,⟨#[]⟩⟩ h.at_
def Fh (l:List Gt)(cnt:Int)(b:List Int)(at_:Nat):Rd:=SG l cnt b (F8 b at_)
theorem EO (a b:Int):0<=Fe a b∧Fe a b<=18446744073709551615:=Gq _
theorem Uj:∀(l:List Int)(v:Int),0<=v->v<=18446744073709551615->0<=l.foldl Fe v∧l.foldl Fe v<=18446744073709551615
 |[],v,h0,h1=>⟨h0,h1⟩
 |x::l,v,h0,h1=>Uj l _ (EO v x).1 (EO v x).2
theorem OK {b:List Int}{at_:Nat}(hb:J4 b)(ha:at_<=b.length):(F8 b at_).at_<=b.length∧((F8 b at_).e=0->1<=(F8 b at_).k∧(F8 b at_).k<=8∧0<=(F8 b at_).n∧(F8 b at_).n<=18446744073709551615∧at_<(F8 b at_).at_):=by
 unfold F8;by_cases hlt:at_<b.length
 rotate_left
 ·have hg:b[at_]?=none:=List.getElem?_eq_none (by omega)
  rw [hg];exact ⟨ha,fun h=>by simp at h⟩
 have hg:b[at_]?=some b[at_]:=List.getElem?_eq_getElem hlt;have hB:=hb _ (List.getElem_mem hlt);rw [hg];generalize b[at_]=x at hB;have hd:=Uj ((b.drop (at_+1)).take (szE (x % 32))) 0 (by omega) (by omega)
 show (Tt b at_ x).at_<=b.length∧_;simp only [Tt];unfold JZ
 repeat' split
 all_goals refine ⟨by simp only;omega,fun h=>?_⟩
 all_goals first
  |(simp at h;done)
  |(simp only;omega)
section
variable {fu d:Nat}
theorem Agf {l:List Gt}{cnt:Int}{b:List Int}{at_:Nat}(hfu:1000<=fu)(hb:J4 b)(hl:b.length<=1000000)(ha:at_<=b.length)(hf:l.length<=900)(h0:0<=cnt)(h1:cnt<=1000000):
  Ae C0 Tryz.prog fu (d+4) O3 [.pbox (Aeu l cnt b at_)]=some ⟨[.agg (Fh l cnt b at_).x.cells,.sc (.int .i64 (Fh l cnt b at_).e)],[Aeu (Fh l cnt b at_).l (Fh l cnt b at_).cnt b (Fh l cnt b at_).at_]⟩:=by
 refine (Y7 fu (d+3) l.length (Eo l) cnt b.length (Af .u8 b) (at_:Int)).trans ?_;have hd:=Ait (fu:=fu) (d:=d+1) (l:=l) (cnt:=cnt) (at_:=at_) hfu hb hl;have hk:=OK hb ha;unfold Fh;generalize F8 b at_=h at hd hk ⊢;obtain ⟨k,n,e,a⟩:=h;obtain ⟨ka,hk⟩:=hk;simp only at hd ka hk;have L:=C4 l;have t:=Df l;have ad:=WM (fu:=fu) (d:=d+1) (l:=l) (by omega) cnt k
 unfold Ka at ad;unfold SG;by_cases he:e=0
 rotate_left
 ·simp only [ne_eq,he,not_false_eq_true,if_true];have he':(e != 0)=true:=by simp [he]
  try unfold Aa
  repeat first
   |((with_reducible first|apply As|apply Am|apply At|apply Bi|apply B3|apply Dh|apply Al);· first|with_reducible rfl|(simp (disch:=omega) only [hd,he',L,t]<;>with_reducible rfl))
   |((with_reducible first|apply Av|apply Au);· first|with_reducible rfl|omega|(simp (disch:=omega) only [gT,hd,he',L,t]<;>omega))
   |(with_reducible apply Aw;· first|with_reducible rfl|(simp (disch:=omega) only [gF,hd,he',L,t]<;>omega))
  try simp (disch:=omega) only [hd,he',L,t]
  all_goals rfl
 subst he;obtain ⟨k1,k8,n0,n1,_⟩:=hk rfl;obtain ⟨m,rfl⟩:=Int.eq_ofNat_of_zero_le n0;have e00:((0:Int) != 0)=false:=rfl;simp only [ne_eq,not_true_eq_false,if_false];by_cases hm:Iv l cnt k=0
 rotate_left
 ·simp only [hm,not_false_eq_true,if_true];have he':(Iv l cnt k != 0)=true:=by simp [hm]
  try unfold Aa
  repeat first
   |((with_reducible first|apply As|apply Am|apply At|apply Bi|apply B3|apply Dh|apply Al);· first|with_reducible rfl|(simp (disch:=omega) only [hd,e00,ad,he',L,t]<;>with_reducible rfl))
   |((with_reducible first|apply Av|apply Au);· first|with_reducible rfl|omega|(simp (disch:=omega) only [gT,hd,e00,ad,he',L,t]<;>omega))
   |(with_reducible apply Aw;· first|with_reducible rfl|(simp (disch:=omega) only [gF,hd,e00,ad,he',L,t]<;>omega))
  try simp (disch:=omega) only [hd,e00,ad,he',L,t]
  all_goals rfl
 rw [hm] at ad ⊢;simp only [not_true_eq_false,if_false,Gm];have ac1:=QA (fu:=fu) (d:=d) (l:=l) (x:=⟨k,m,⟨#[]⟩⟩) (cnt:=cnt) hfu (by omega) h0 h1 ⟨k1,k8,n0,Nat.zero_le _⟩ (Nat.zero_le _)
 have LA:=C4 (D0 l ⟨k,m,⟨#[]⟩⟩).2;have tA:=Df (D0 l ⟨k,m,⟨#[]⟩⟩).2;have B:=fun (hn:m<=1024)=>QA (fu:=fu) (d:=d) (l:=l) (x:=⟨k,0,Cd ((b.drop a).take m)⟩) (cnt:=cnt) hfu (by omega) h0 h1 ⟨k1,k8,by simp,by rw [Fz,List.length_take];omega⟩ (by rw [Fz,List.length_take];omega)
 have LB:=C4 (D0 l ⟨k,0,Cd ((b.drop a).take m)⟩).2;have tB:=Df (D0 l ⟨k,0,Cd ((b.drop a).take m)⟩).2;unfold Tu;generalize D0 l ⟨k,m,⟨#[]⟩⟩=A at *
 obtain ⟨A1,A2⟩:=A;have eB:ByteArray.mk (List.toArray (((b.drop a).take m).map fun n=>n.toNat.toUInt8))=Cd ((b.drop a).take m):=rfl
 have bo:=G2 ((b.drop a).take m);have tk:List.take m (List.drop a (Af .u8 b))=Af .u8 ((b.drop a).take m):=by rw [H6,Ob]
 have lq:(Af .u8 ((b.drop a).take m)).length=min m (b.length-a):=by rw [Ak,List.length_take,List.length_drop]
 have Lb:=Ak .u8 b;generalize Cd ((b.drop a).take m)=S at *
 generalize D0 l ⟨k,0,S⟩=B' at *
 obtain ⟨B1,B2⟩:=B';generalize (b.drop a).take m=q at *
 unfold Ka It.cells at ac1 B;simp only at ac1 B LA tA LB tB;have w1:wrap .i64 ((b.length:Int)-(a:Int))=((b.length-a:Nat):Int):=by rw [Aj (by omega) (by omega)];omega
 have w2:m<=1024->wrap .i64 (m:Int)=m:=fun h=>Aj (by omega) (by omega)
 have w3:m<=1024->wrap .i64 ((a:Int)+(m:Int))=((a+m:Nat):Int):=fun h=>by rw [Aj (by omega) (by omega)];omega
 have w4:a+m-a=m:=by omega
 try unfold Aa
 repeat' first
  |((with_reducible first|apply As|apply Am|apply At|apply Bi|apply B3|apply Dh|apply Al);· first|with_reducible rfl|(simp (disch:=first|with_reducible assumption|omega) only [hd,e00,ad,L,t,ac1,LA,tA,B,LB,tB,w1,w2,w3,w4,tk,bo,lq,eB,Gm,Cb,Bw]<;>with_reducible rfl))
  |((with_reducible first|apply Av|apply Au);· first|with_reducible rfl|with_reducible assumption|omega|(simp (disch:=first|with_reducible assumption|omega) only [gT,hd,e00,ad,L,t,ac1,LA,tA,B,LB,tB,w1,w2,w3,w4,tk,bo,lq,eB,Gm,Cb,Bw]<;>omega))
  |(with_reducible apply Aw;· first|with_reducible rfl|with_reducible assumption|(simp (disch:=first|with_reducible assumption|omega) only [gF,hd,e00,ad,L,t,ac1,LA,tA,B,LB,tB,w1,w2,w3,w4,tk,bo,lq,eB,Gm,Cb,Bw]<;>omega))
  |(with_reducible refine Agp ?_ ?_<;>intro hb<;>try simp only [decide_eq_true_eq,decide_eq_false_iff_not,beq_iff_eq,beq_eq_false_iff_ne,bne_iff_ne,bne_eq_false_iff_eq,ne_eq,Bool.not_eq_true',Bool.not_eq_false',Bool.not_eq_true,Bool.not_eq_false] at hb)
  |(with_reducible refine SS ?_ ?_)
 all_goals try simp (disch:=first|with_reducible assumption|omega) only [hd,e00,ad,L,t,ac1,LA,tA,B,LB,tB,w1,w2,w3,w4,tk,bo,lq,eB,Gm,Cb,Bw,B7,A7]
 all_goals rfl
end
end
section
open Go.IntKind (wrap)
def NW (l:List Gt)(cnt:Int):Bool:=decide (cnt>0)&&((l.length:Int)==0)
def I5:Nat->List Gt->Int->List Int->Nat->List It->List It × Nat × Int
 |0,_,_,_,_,_=>([],0,2)
 |m+1,l,cnt,b,at_,its=>if NW l cnt=true then (its,at_,0) else
  if (Fh l cnt b at_).e≠0 then ([],0,(Fh l cnt b at_).e) else I5 m (Fh l cnt b at_).l (Fh l cnt b at_).cnt b (Fh l cnt b at_).at_ (its++[(Fh l cnt b at_).x])
def ZZ (r:List It × Nat × Int):List PV:=[.own 3 r.1.length (Ck r.1),.sc (.int .i64 r.2.1),.sc (.int .i64 r.2.2)]
theorem Agb (l:List Gt):(DB l).length<=l.length:=by
 unfold DB;rw [List.length_reverse];have:=(List.dropWhile_sublist (l:=l.reverse) fun f=>f.left==0).length_le
 rw [List.length_reverse] at this;exact this
theorem PN (l:List Gt)(x:It):(Fk l x).length<=l.length+1:=by
 unfold Fk;refine Nat.le_trans (Agb _) ?_;have:=KI l;unfold PO
 repeat' split
 all_goals simp
 all_goals omega
theorem YR (l:List Gt)(k:List Int):(I0 l k).length=l.length:=by
 rcases Lx l with rfl|⟨l',f,rfl⟩
 ·rfl
 ·rw [Lz];simp
theorem VP (l:List Gt)(x:It):(D0 l x).2.length<=l.length+1:=by
 unfold D0;have h1:=PN l x;have h2:=PN (I0 l (Br x)) x;rw [YR] at h2
 repeat' split
 all_goals simp only
 all_goals omega
structure OkX (x:It):Prop where
 k1:1<=x.k
 k8:x.k<=8
 n0:0<=x.n
 n1:x.n<=18446744073709551615
 s1:x.s.size<=1024
theorem Ai5 {l:List Gt}{cnt k:Int}(h:Iv l cnt k=0):cnt<512∧l.length<=8:=by
 unfold Iv at h
 repeat' split at h
 all_goals first
  |(cases h;done)
  |omega
theorem JL {l:List Gt}{cnt:Int}{x:It}{at_:Nat}(hx:OkX x)(h:(Tu l cnt x at_).e=0):(Tu l cnt x at_).cnt=cnt+1∧(Tu l cnt x at_).l.length<=l.length+1∧(Tu l cnt x at_).at_=at_∧OkX (Tu l cnt x at_).x:=by
 have:=VP l x;unfold Tu at h ⊢;by_cases hz:(D0 l x).1=0
 ·rw [B7 hz];exact ⟨rfl,this,rfl,hx⟩
 ·rw [A7 hz] at h;exact absurd h hz
theorem PI {l:List Gt}{cnt:Int}{b:List Int}{at_:Nat}(hb:J4 b)(ha:at_<=b.length)(h:(Fh l cnt b at_).e=0):
  cnt<512∧(Fh l cnt b at_).cnt=cnt+1∧(Fh l cnt b at_).l.length<=9∧at_<(Fh l cnt b at_).at_∧(Fh l cnt b at_).at_<=b.length∧OkX (Fh l cnt b at_).x:=by
 have hk:=OK hb ha;unfold Fh at h ⊢;generalize F8 b at_=q at h hk ⊢;obtain ⟨k,n,e,a⟩:=q;obtain ⟨ka,hk⟩:=hk;unfold SG at h ⊢;simp only at h hk ka ⊢;by_cases he:e=0
 rotate_left
 ·rw [B7 he] at h;exact absurd h he
 subst he;obtain ⟨k1,k8,n0,n1,hlt⟩:=hk rfl;rw [A7 (by simp)] at h ⊢
 by_cases hm:Iv l cnt k=0
 rotate_left
 ·rw [B7 hm] at h;exact absurd h hm
 obtain ⟨c1,c2⟩:=Ai5 hm;rw [A7 (by simp [hm])] at h ⊢
 have z:(ByteArray.mk #[]).size<=1024:=Nat.zero_le _;by_cases h56:k=5∨k=6
 ·rw [B7 h56] at h ⊢;by_cases hn:n>512
  ·rw [B7 hn] at h;exact absurd h (by simp)
  ·rw [A7 hn] at h ⊢;obtain ⟨p1,p2,p3,p4⟩:=JL ⟨k1,k8,n0,n1,z⟩ h;exact ⟨c1,p1,by omega,by omega,by omega,p4⟩
 ·rw [A7 h56] at h ⊢;by_cases h34:k=3∨k=4
  ·rw [B7 h34] at h ⊢;by_cases hn:n>1024
   ·rw [B7 hn] at h;exact absurd h (by simp)
   ·rw [A7 hn] at h ⊢;by_cases hr:b.length-a<n.toNat
    ·rw [B7 hr] at h;exact absurd h (by simp)
    ·rw [A7 hr] at h ⊢;obtain ⟨p1,p2,p3,p4⟩:=JL ⟨k1,k8,by simp,by simp,by rw [Fz,List.length_take];omega⟩ h
     exact ⟨c1,p1,by omega,by omega,by omega,p4⟩
  ·rw [A7 h34] at h ⊢;obtain ⟨p1,p2,p3,p4⟩:=JL ⟨k1,k8,n0,n1,z⟩ h;exact ⟨c1,p1,by omega,by omega,by omega,p4⟩
theorem BT {b:List Int}(hb:J4 b):∀(m:Nat)(l:List Gt)(cnt:Int)(at_:Nat)(its:List It),at_<=b.length->(∀x∈its,OkX x)->(I5 m l cnt b at_ its).2.1<=b.length∧∀x∈(I5 m l cnt b at_ its).1,OkX x
 |0,l,cnt,at_,its,h,hi=>⟨by simp [I5],by intro x hx;simp [I5] at hx⟩
 |m+1,l,cnt,at_,its,h,hi=>by
  unfold I5;by_cases hd:NW l cnt=true
  ·rw [B7 hd];exact ⟨h,hi⟩
  ·rw [A7 hd];by_cases he:(Fh l cnt b at_).e=0
   ·rw [A7 (by simp [he])]
    obtain ⟨_,_,_,_,p,q⟩:=PI hb h he;refine BT hb m _ _ _ _ p ?_;intro x hx;rcases List.mem_append.1 hx with hx|hx
    ·exact hi x hx
    ·simp at hx;subst hx;exact q
   ·rw [B7 he];exact ⟨by simp,by intro x hx;simp at hx⟩
section
variable {fu d:Nat}
theorem VD (hfu:1000<=fu){a0n:Nat}{a0:List PV}{b:List Int}(hb:J4 b)(hl:b.length<=1000000):∀(nn:Nat)(l:List Gt)(cnt:Int)(at_:Nat)(its:List It),0<=cnt->cnt<=512->512-cnt<nn->l.length<=9->at_<=b.length->its.length=cnt.toNat ->
  Jl fu (Ae C0 Tryz.prog fu (d+4)) a0n a0 nn its.length (Ck its) l.length cnt b.length (Af .u8 b) (at_:Int) (Eo l)=some ⟨ZZ (I5 nn l cnt b at_ its),[]⟩
 |0,_,_,_,_,_,_,h,_,_,_=>by omega
 |nn+1,l,cnt,at_,its,h0,h1,hn,hf,ha,hi=>by
  have dn:=SB (fu:=fu) (d:=d+3) l cnt;have ri:=Agf (fu:=fu) (d:=d) (l:=l) (cnt:=cnt) (b:=b) (at_:=at_) hfu hb hl ha (by omega) h0 (by omega)
  have ok:=PI (l:=l) (cnt:=cnt) hb ha;have L:=C4 l;have t:=Df l;have LT:=Si its;have tT:List.take (its.length*3) (Ck its)=Ck its:=Sl (by omega)
  have ih:=VD hfu (a0n:=a0n) (a0:=a0) hb hl nn;rw [DH];unfold I5;unfold Ka at dn;change _=some (Az.mk [.sc (.bool (NW l cnt))] _) at dn;generalize Fh l cnt b at_=r at ri ok ⊢;obtain ⟨x,e,l2,cnt2,at2⟩:=r;simp only at ri ok ⊢;cases hd:NW l cnt
  ·rw [hd] at dn;rw [A7 (by simp)]
   by_cases he:e=0
   ·subst he;obtain ⟨p1,rfl,p3,p4,p5,p6⟩:=ok rfl;have q:=ih l2 (cnt+1) at2 (its++[x]) (by omega) (by omega) (by omega) p3 p5 (by simp;omega)
    rw [A7 (by simp),←q,UF,J6]
    have e1:Ck [x]=x.cells:=by simp [Ck]
    rw [e1];obtain ⟨xk,xn,xs⟩:=x;unfold It.cells at ri ⊢;have e00:((0:Int) != 0)=false:=rfl
    try unfold Aa
    repeat first
     |((with_reducible first|apply As|apply Am|apply At|apply Aq|apply A3|apply Bi|apply B3|apply Bz|apply Al);· first|with_reducible rfl|(simp (disch:=omega) only [dn,ri,e00,L,t,LT,tT]<;>with_reducible rfl))
     |((with_reducible first|apply Av|apply Au);· first|with_reducible rfl|omega|(simp (disch:=omega) only [gT,dn,ri,e00,L,t,LT,tT]<;>omega))
     |(with_reducible apply Aw;· first|with_reducible rfl|(simp (disch:=omega) only [gF,dn,ri,e00,L,t,LT,tT]<;>omega))
    try simp (disch:=omega) only [dn,ri,e00,L,t,LT,tT]
    all_goals rfl
   ·have he':(e != 0)=true:=by simp [he]
    rw [B7 he];obtain ⟨xk,xn,xs⟩:=x;unfold It.cells at ri
    try unfold Aa
    repeat first
     |((with_reducible first|apply As|apply Am|apply At|apply Aq|apply A3|apply Bi|apply B3|apply Bz|apply Al);· first|with_reducible rfl|(simp (disch:=omega) only [dn,ri,he',L,t,LT,tT]<;>with_reducible rfl))
     |((with_reducible first|apply Av|apply Au);· first|with_reducible rfl|omega|(simp (disch:=omega) only [gT,dn,ri,he',L,t,LT,tT]<;>omega))
     |(with_reducible apply Aw;· first|with_reducible rfl|(simp (disch:=omega) only [gF,dn,ri,he',L,t,LT,tT]<;>omega))
    try simp (disch:=omega) only [dn,ri,he',L,t,LT,tT]
    all_goals rfl
  ·rw [hd] at dn;rw [B7 rfl]
   try unfold Aa
   repeat first
    |((with_reducible first|apply As|apply Am|apply At|apply Aq|apply A3|apply Bi|apply B3|apply Bz|apply Al);· first|with_reducible rfl|(simp (disch:=omega) only [dn,L,t,LT,tT]<;>with_reducible rfl))
    |((with_reducible first|apply Av|apply Au);· first|with_reducible rfl|omega|(simp (disch:=omega) only [gT,dn,L,t,LT,tT]<;>omega))
    |(with_reducible apply Aw;· first|with_reducible rfl|(simp (disch:=omega) only [gF,dn,L,t,LT,tT]<;>omega))
   try simp (disch:=omega) only [dn,L,t,LT,tT]
   all_goals rfl
theorem Aep (hfu:1000<=fu){b:List Int}(hb:J4 b)(hl:b.length<=1000000):
  Ae C0 Tryz.prog fu (d+5) Xt [.lst false 1 b.length (Af .u8 b)]=some ⟨ZZ (I5 fu [] 0 b 0 []),[]⟩:=by
 rw [MX];exact VD hfu hb hl fu [] 0 0 [] (by omega) (by omega) (by omega) (by simp) (by omega) (by simp)
end
end
section
open Go.IntKind (wrap)
theorem Akj {n:Int}(h0:0<=n):(n<256->JZ (tb n 1)=n)∧(n<65536->JZ (tb n 2)=n)∧(n<4294967296->JZ (tb n 4)=n)∧(n<=18446744073709551615->JZ (tb n 8)=n):=by
 have st:∀(k:Nat) (D:Int),n<=18446744073709551615->k<8->(2:Int) ^ (56-8*k)=D->0<D->Fe (n / D / 256) (Da n k)=n / D:=by
  intro k D h1 hk hD hp;rw [PU k hk,hD];exact Amj (Int.ediv_nonneg h0 (Int.le_of_lt hp)) (Int.le_trans (Int.ediv_le_self _ h0) h1)
 refine ⟨fun h=>?_,fun h=>?_,fun h=>?_,fun h=>OZ h0 h⟩
 ·have s7:=st 7 1 (by omega) (by omega) (by decide) (by omega)
  rw [show n / 1 / 256=0 by omega,show n / 1=n by omega] at s7
  exact s7
 ·have s6:=st 6 256 (by omega) (by omega) (by decide) (by omega)
  have s7:=st 7 1 (by omega) (by omega) (by decide) (by omega)
  rw [show n / 256 / 256=0 by omega] at s6
  rw [show n / 1 / 256=n / 256 by omega,show n / 1=n by omega] at s7
  show Fe (Fe 0 (Da n 6)) (Da n 7)=n;rw [s6,s7]
 ·have s4:=st 4 16777216 (by omega) (by omega) (by decide) (by omega)
  have s5:=st 5 65536 (by omega) (by omega) (by decide) (by omega)
  have s6:=st 6 256 (by omega) (by omega) (by decide) (by omega)
  have s7:=st 7 1 (by omega) (by omega) (by decide) (by omega)
  rw [show n / 16777216 / 256=0 by omega] at s4
  rw [show n / 65536 / 256=n / 16777216 by omega] at s5
  rw [show n / 256 / 256=n / 65536 by omega] at s6
  rw [show n / 1 / 256=n / 256 by omega,show n / 1=n by omega] at s7
  show Fe (Fe (Fe (Fe 0 (Da n 4)) (Da n 5)) (Da n 6)) (Da n 7)=n;rw [s4,s5,s6,s7]
theorem Wf {b:List Int}{at_:Nat}{mj n low:Int}{k:Nat}{rest:List Int}(m0:0<=mj)(m5:mj<=5)(l0:24<=low)(l1:low<=27)(hk:szE low=k)(h:b.drop (at_+1)=tb n k++rest) (hd:JZ (tb n k)=n) (hs:¬(Pd n<(k:Int))):
  Tt b at_ (32*mj+low)=⟨1+mj,n,0,at_+1+k⟩:=by
 have e1:(32*mj+low) / 32=mj:=by omega
 have e2:(32*mj+low) % 32=low:=by omega
 have e3:(b.drop (at_+1)).take k=tb n k:=by rw [h,List.take_left' (Y8 n k)]
 have e4:k<=b.length-(at_+1):=by
  have:=congrArg List.length h;rw [List.length_drop,J6,Y8] at this;omega
 unfold Tt;rw [e1,e2,hk,e3,hd,A7 (by omega),A7 (by omega),A7 (by omega),A7 (by omega),A7 (by omega),A7 (by omega),A7 (by omega),A7 hs]
theorem Zb {b:List Int}{at_:Nat}{mj n:Int}{rest:List Int}(h:b.drop at_=C1 mj n++rest)(m0:0<=mj)(m5:mj<=5)(n0:0<=n)(n1:n<=18446744073709551615):
  F8 b at_=⟨1+mj,n,0,at_+(C1 mj n).length⟩:=by
 obtain ⟨d1,d2,d4,d8⟩:=Akj n0;unfold F8;unfold C1 at h ⊢;by_cases c1:n<24
 ·rw [B7 c1] at h ⊢;obtain ⟨_,g,_⟩:=Cg h;rw [g];show Tt b at_ (32*mj+n)=_;unfold Tt;have e1:(32*mj+n) / 32=mj:=by omega
  have e2:(32*mj+n) % 32=n:=by omega
  rw [e1,e2,A7 (by omega),A7 (by omega),A7 (by omega),A7 (by omega),A7 (by omega),B7 c1]
  rfl
 rw [A7 c1] at h ⊢;by_cases c2:n<256
 ·rw [B7 c2] at h ⊢;obtain ⟨_,g,g2⟩:=Cg h;rw [g];have:=Wf (at_:=at_) m0 m5 (low:=24) (by omega) (by omega) (k:=1) (by decide) g2 (d1 c2) (by unfold Pd;rw [A7 c1,B7 c2];omega)
  show Tt b at_ (32*mj+24)=_;rw [this,Jj,Y8]
 rw [A7 c2] at h ⊢;by_cases c3:n<65536
 ·rw [B7 c3] at h ⊢;obtain ⟨_,g,g2⟩:=Cg h;rw [g];have:=Wf (at_:=at_) m0 m5 (low:=25) (by omega) (by omega) (k:=2) (by decide) g2 (d2 c3) (by unfold Pd;rw [A7 c1,A7 c2,B7 c3];omega)
  show Tt b at_ (32*mj+25)=_;rw [this,Jj,Y8]
 rw [A7 c3] at h ⊢;by_cases c4:n<4294967296
 ·rw [B7 c4] at h ⊢;obtain ⟨_,g,g2⟩:=Cg h;rw [g];have:=Wf (at_:=at_) m0 m5 (low:=26) (by omega) (by omega) (k:=4) (by decide) g2 (d4 c4) (by unfold Pd;rw [A7 c1,A7 c2,A7 c3,B7 c4];omega)
  show Tt b at_ (32*mj+26)=_;rw [this,Jj,Y8]
 ·rw [A7 c4] at h ⊢;obtain ⟨_,g,g2⟩:=Cg h;rw [g];have:=Wf (at_:=at_) m0 m5 (low:=27) (by omega) (by omega) (k:=8) (by decide) g2 (d8 n1) (by unfold Pd;rw [A7 c1,A7 c2,A7 c3,A7 c4];omega)
  show Tt b at_ (32*mj+27)=_;rw [this,Jj,Y8]
theorem SF {s:ByteArray}(h:QP s=true):s=⟨#[]⟩:=by
 unfold QP at h;have:=eq_of_beq h;apply ByteArray.ext;exact Array.toList_inj.1 this
def nOf (x:It):Int:=if x.k=3∨x.k=4 then (x.s.size:Int) else x.n
theorem ZY {x:It}{b:List Int}{at_:Nat}{rest:List Int}(hsh:Gg x=true)(k1:1<=x.k)(k8:x.k<=8)(n0:0<=x.n)(n1:x.n<=18446744073709551615)(hs:x.s.size<=1024)(h:b.drop at_=Br x++rest):
  F8 b at_=⟨x.k,nOf x,0,at_+((Br x).length-x.s.size)⟩∧(x.k=3∨x.k=4->x.n=0∧b.drop (at_+((Br x).length-x.s.size))=Ij x.s++rest)∧(¬(x.k=3∨x.k=4)->x.s=⟨#[]⟩)∧x.s.size<=(Br x).length:=by
 obtain ⟨k,n,s⟩:=x;have z:(ByteArray.mk #[]).size=0:=rfl;simp only at k1 k8 n0 n1 hs ⊢;unfold Gg at hsh;simp only at hsh;have L:=Oy s;have E7:k=7->Br ⟨k,n,s⟩=[wrap .u8 (244+wrap .u8 n)]:=fun e=>by unfold Br;rw [B7 e]
 have E8:k=8->Br ⟨k,n,s⟩=[246]:=fun e=>by subst e;rfl
 have E3:k=3->Br ⟨k,n,s⟩=C1 2 s.size++Ij s:=fun e=>by subst e;rfl
 have E4:k=4->Br ⟨k,n,s⟩=C1 3 s.size++Ij s:=fun e=>by subst e;rfl
 have E0:k≠7->k≠8->k≠3->k≠4->Br ⟨k,n,s⟩=C1 (k-1) n:=fun a b c d=>by unfold Br;rw [A7 a,A7 b,A7 c,A7 d]
 have N34:k=3∨k=4->nOf ⟨k,n,s⟩=s.size:=fun e=>by unfold nOf;rw [B7 e]
 have N0:¬(k=3∨k=4)->nOf ⟨k,n,s⟩=n:=fun e=>by unfold nOf;rw [A7 e]
 by_cases c7:k=7
 ·subst c7;simp at hsh;obtain ⟨hn,hs⟩:=hsh;obtain rfl:=SF hs;rw [E7 rfl] at h ⊢;rw [N0 (by omega)]
  obtain ⟨_,g,_⟩:=Cg h;refine ⟨?_,fun h=>by omega,fun _=>rfl,Nat.zero_le _⟩
  have:n=0∨n=1:=by omega
  unfold F8;rw [g];rcases this with rfl|rfl
  ·rfl
  ·rfl
 by_cases c8:k=8
 ·subst c8;simp at hsh;obtain ⟨rfl,hs⟩:=hsh;obtain rfl:=SF hs;rw [E8 rfl] at h ⊢;rw [N0 (by omega)]
  obtain ⟨_,g,_⟩:=Cg h;refine ⟨?_,fun h=>by omega,fun _=>rfl,Nat.zero_le _⟩
  unfold F8;rw [g];rfl
 by_cases c3:k=3
 ·subst c3;simp at hsh;subst hsh;rw [E3 rfl] at h ⊢;rw [N34 (by omega)]
  rw [XE] at h;have q:=Zb h (by omega) (by omega) (by omega) (by omega)
  have e:(C1 2 (s.size:Int)++Ij s).length-s.size=(C1 2 (s.size:Int)).length:=by rw [J6,L];omega
  rw [e];refine ⟨q,fun _=>⟨rfl,?_⟩,fun h=>by omega,by rw [J6,L];omega⟩
  rw [←List.drop_drop,h,List.drop_left' rfl]
 by_cases c4:k=4
 ·subst c4;simp at hsh;subst hsh;rw [E4 rfl] at h ⊢;rw [N34 (by omega)]
  rw [XE] at h;have q:=Zb h (by omega) (by omega) (by omega) (by omega)
  have e:(C1 3 (s.size:Int)++Ij s).length-s.size=(C1 3 (s.size:Int)).length:=by rw [J6,L];omega
  rw [e];refine ⟨q,fun _=>⟨rfl,?_⟩,fun h=>by omega,by rw [J6,L];omega⟩
  rw [←List.drop_drop,h,List.drop_left' rfl]
 rw [A7 c3,A7 c4,A7 c8,A7 c7] at hsh;obtain rfl:=SF hsh;rw [E0 c7 c8 c3 c4] at h ⊢;rw [N0 (by omega)]
 have q:=Zb h (by omega) (by omega) n0 n1
 refine ⟨?_,fun h=>by omega,fun _=>rfl,by rw [z];omega⟩
 rw [q,z,Nat.sub_zero]
 congr 1
 omega
theorem YG {l:List Gt}{cnt:Int}{x:It}{b:List Int}{at_:Nat}{rest:List Int}(g:Ama l cnt x)(n0:0<=x.n)(n1:x.n<=18446744073709551615)(h:b.drop at_=Br x++rest):
  Fh l cnt b at_=⟨x,0,Fk l x,cnt+1,at_+(Br x).length⟩:=by
 have k18:1<=x.k∧x.k<=8:=by
  have hm:=g.hm;unfold Iv at hm
  repeat' split at hm
  all_goals first
   |(cases hm;done)
   |omega
 obtain ⟨q1,q2,q3,q4⟩:=ZY g.hsh k18.1 k18.2 n0 n1 g.hs h
 have ac:∀a:Nat,Tu l cnt x a=⟨x,0,Fk l x,cnt+1,a⟩:=by
  intro a
  have:D0 l x=(0,Fk l x):=by
   unfold D0;rw [A7,A7 (by simp [g.ha])]
   intro hh;have:=g.hv hh.1;exact absurd hh.2 (by simp [UY,this])
  unfold Tu;rw [this];rfl
 have ln:b.length-(at_+((Br x).length-x.s.size))>=x.s.size:=by
  have:=congrArg List.length h;rw [List.length_drop,J6] at this;omega
 unfold Fh;rw [q1];unfold SG;simp only;rw [A7 (by simp),g.hm,A7 (by simp)]
 have hs:=g.hs;have hn:=g.hn;obtain ⟨k,n,s⟩:=x;simp only at *
 by_cases c34:k=3∨k=4
 ·obtain ⟨rfl,q2⟩:=q2 c34;have N:nOf ⟨k,0,s⟩=s.size:=by unfold nOf;rw [B7 c34]
  rw [N,A7 (by omega),B7 c34,A7 (by omega),Gm,A7 (by omega),q2,List.take_left' (Oy s),BI,ac]
  congr 1
  omega
 ·obtain rfl:=q3 c34;have z:(ByteArray.mk #[]).size=0:=rfl;have N:nOf ⟨k,n,⟨#[]⟩⟩=n:=by unfold nOf;rw [A7 c34]
  rw [N,A7 c34,z,Nat.sub_zero];by_cases c56:k=5∨k=6
  ·rw [B7 c56,A7 (by omega),ac]
  ·rw [A7 c56,ac]
theorem PT {b:List Int}{rest:List Int}:∀(its:List It)(l:List Gt)(cnt:Int)(at_ m:Nat)(acc:List It),Pi l cnt its->(∀x∈its,0<=x.n∧x.n<=18446744073709551615)->b.drop at_=Bg its++rest->its.length<m ->
  I5 m l cnt b at_ acc=(acc++its,at_+(Bg its).length,0)
 |[],l,cnt,at_,m,acc,hg,hn,h,hm=>by
  obtain ⟨rfl,hc⟩:=hg;obtain ⟨m,rfl⟩:∃k,m=k+1:=⟨m-1,by omega⟩
  unfold I5;rw [B7 (by simp [NW,hc])]
  simp [Bg]
 |x::its,l,cnt,at_,m,acc,hg,hn,h,hm=>by
  obtain ⟨g,hg⟩:=hg;obtain ⟨m,rfl⟩:∃k,m=k+1:=⟨m-1,by simp at hm;omega⟩
  have e:Bg (x::its)=Br x++Bg its:=by simp [Bg]
  rw [e,XE] at h;have r:=YG g (hn x (by simp)).1 (hn x (by simp)).2 h
  have h':b.drop (at_+(Br x).length)=Bg its++rest:=by rw [←List.drop_drop,h,List.drop_left' rfl]
  have ih:=PT its (Fk l x) (cnt+1) (at_+(Br x).length) m (acc++[x]) hg (fun y hy=>hn y (List.mem_cons_of_mem _ hy)) h' (by simp at hm;omega)
  unfold I5;have hd:NW l cnt=false:=g.hd;rw [A7 (by simp [hd]),r]
  simp only;rw [A7 (by simp),ih,e]
  simp;omega
end
section
open Go.IntKind (wrap)
abbrev isU (x:Int):Prop:=0<=x∧x<=18446744073709551615
abbrev isW (l:List Int):Prop:=∀x∈l,isU x
theorem VN (l:List Int)(i:Nat):isU (Qs l i):=Uj _ 0 (by omega) (by omega)
theorem VA (l:List Int):isW (Fm l):=by
 intro x hx;obtain ⟨k,_,rfl⟩:=List.mem_map.1 hx;exact VN l k
theorem Tl:∀{ws:List Int}{i:Nat}{w:Int},isW ws->ws[i]?=some w->Qs (A5 ws) i=w
 |[],i,w,_,h=>by simp at h
 |a::ws,0,w,hw,h=>by
  simp at h;subst h;have e:A5 (a::ws)=Dy a++A5 ws:=rfl;unfold Qs;rw [Nat.mul_zero,Fa,e,List.take_left' (Ew a)];have:=hw a (by simp)
  exact OZ this.1 this.2
 |a::ws,i+1,w,hw,h=>by
  simp at h;have ih:=Tl (ws:=ws) (fun x hx=>hw x (List.mem_cons_of_mem _ hx)) h
  have e:A5 (a::ws)=Dy a++A5 ws:=rfl;unfold Qs at ih ⊢;rw [show 8*(i+1)=(Dy a).length+8*i by rw [Ew];omega,e,←List.drop_drop,List.drop_left' rfl]
  exact ih
theorem AR {ws:List Int}(hw:isW ws):Fm (A5 ws)=ws:=by
 have hl:(A5 ws).length / 8=ws.length:=by rw [Di];omega
 apply List.ext_getElem?;intro i;unfold Fm;rw [hl];by_cases h:i<ws.length
 ·rw [List.getElem?_map,List.getElem?_range h,List.getElem?_eq_getElem h];simp only [Option.map_some];rw [Tl hw (List.getElem?_eq_getElem h)]
 ·rw [List.getElem?_eq_none (by simp;omega),List.getElem?_eq_none (by omega)]
theorem Acw {k:Ky}(hh:Dg k.h=false)(hr:isU k.root):JP (I3 k)=some k:=by
 obtain ⟨h,r⟩:=k;have hb:=H4 hh;simp only at hb hr hh;have w:wrap .u8 h=h:=Fu (by omega) (by omega)
 have w1:A5 [r]=Dy r:=by simp [A5]
 have:=Tl (ws:=[r]) (i:=0) (w:=r) (by intro x hx;simp at hx;subst hx;exact hr) rfl
 rw [w1] at this;unfold JP I3;simp only [w,List.getD_cons_zero,List.drop_succ_cons,Fa,this,Jj,Ew,hh,and_self,if_true]
theorem Aq7 {k:Ky}:J4 (I3 k):=by
 intro x hx;rcases List.mem_cons.1 hx with rfl|hx
 ·have:∀v:Int,0<=wrap .u8 v∧wrap .u8 v<=255:=by
   intro v;simp only [wrap,IntKind.signed,IntKind.bits];simp;omega
  exact this _
 ·exact Ab1 _ x hx
theorem QZ {l:List Int}{k:Ky}(h:JP l=some k):Dg k.h=false∧isU k.root:=by
 unfold JP at h;split at h
 ·rename_i hh;cases h;exact ⟨hh.2,VN _ _⟩
 ·cases h
structure Sg.ok (s:Sg):Prop where
 ch:isW s.chains
 pa:isW s.path
theorem As4 (s:Sg):J4 (DE s):=by
 have w8:∀v:Int,0<=wrap .u8 v∧wrap .u8 v<=255:=by
  intro v;simp only [wrap,IntKind.signed,IntKind.bits];simp;omega
 intro x hx;unfold DE at hx;rcases List.mem_cons.1 hx with rfl|hx
 ·exact w8 _
 rcases List.mem_cons.1 hx with rfl|hx
 ·exact w8 _
 rcases List.mem_append.1 hx with hx|hx
 ·exact R9 _ x hx
 ·exact R9 _ x hx
theorem Aki {s:Sg}(hs:s.ok)(h1:Dg s.path.length=false)(h2:Ke s.leaf s.path.length=false)(h3:s.chains.length=18):sgD (DE s)=some s:=by
 obtain ⟨leaf,ch,pa⟩:=s;obtain ⟨hc,hp⟩:=hs;simp only at h1 h2 h3 hc hp;have hb:=H4 h1;have ho:=Aam hb.1 hb.2 h2;have h16:=Arb hb.1 hb.2;have w1:wrap .u8 leaf=leaf:=Fu (by omega) (by omega)
 have w2:wrap .u8 (pa.length:Int)=pa.length:=Fu (by omega) (by omega)
 have lc:(A5 ch).length=144:=by rw [Di];omega
 have lp:(A5 pa).length=8*pa.length:=Di pa
 have len:(DE ⟨leaf,ch,pa⟩).length=2+144+8*pa.length:=by
  unfold DE;simp only [Jj,J6,lc,lp];omega
 have g0:(DE ⟨leaf,ch,pa⟩).getD 0 0=leaf:=w1;have g1:(DE ⟨leaf,ch,pa⟩).getD 1 0=pa.length:=w2;have d2:(DE ⟨leaf,ch,pa⟩).drop 2=A5 ch++A5 pa:=rfl
 have d146:(DE ⟨leaf,ch,pa⟩).drop 146=A5 pa:=by
  rw [show 146=2+144 from rfl,←List.drop_drop,d2,List.drop_left' lc]
 unfold sgD;rw [B7 ⟨by omega,by rw [g1];exact h1,by rw [g0,g1];exact h2,by rw [g1,len];omega⟩,g0,d2,d146,List.take_left' lc,AR hc,AR hp]
theorem Aak {l:List Int}{s:Sg}(h:sgD l=some s):s.ok∧s.path.length<=4∧s.chains.length=18:=by
 unfold sgD at h;split at h
 ·rename_i hh;cases h;have hb:=H4 hh.2.1;refine ⟨⟨VA _,VA _⟩,?_,?_⟩
  ·simp only [Pn,List.length_drop];omega
  ·simp only [Pn,List.length_take,List.length_drop];omega
 ·cases h
end
section
open Go.IntKind (wrap)
set_option maxRecDepth 100000
abbrev Ov:FuncId:=35
noncomputable def E6 (fu:Nat)(call:Ai)(a0_0 a0_1:ByteArray)(a0_2 a0_3:Int)(a0_4 a0_5 a0_6:Int)(a0_7:Bool)(a0_8 a0_9 a0_10:Int)(a0_11n:Nat)(a0_11:List PV)(a0_12n:Nat)(a0_12:List PV)(nn:Nat)(y0 y1:ByteArray)(y2:Int)(y3 y4:ByteArray)(y5 y6:Int)(y7 y8 y9:Int)(y10:Bool)(Jn Oc Tr:Int)(Zl:Nat)(Zg:List PV)(Zn:Nat)(Zf:List PV):Option Az:=Cz CB Tryz.prog fu call 35 Tryz.f35 (Bq Tryz.f35) [.agg [.sc (.string a0_0),.sc (.string a0_1),.sc (.int .u64 a0_2),.sc (.int .i64 a0_3),.sc (.int .u64 a0_4),.sc (.int .i64 a0_5),.sc (.int .i64 a0_6),.sc (.bool a0_7),.sc (.int .i64 a0_8),.sc (.int .u64 a0_9),.sc (.int .i64 a0_10),.lst false 1 a0_11n a0_11,.lst false 1 a0_12n a0_12]] [.r,.l,.r,.l] nn ⟨lk [(1,(.ptr 1 0)),(13,(.agg [(.sc (.string y0)),(.sc (.string y1))])),(14,(.sc (.int .i64 y2)))],B5 [(1,(.st [(.sc (.string y3)),(.sc (.string y4)),(.sc (.int .u64 y5)),(.sc (.int .i64 y6)),(.sc (.int .u64 y7)),(.sc (.int .i64 y8)),(.sc (.int .i64 y9)),(.sc (.bool y10)),(.sc (.int .i64 Jn)),(.sc (.int .u64 Oc)),(.sc (.int .i64 Tr)),(.lst false 1 Zl Zg),(.lst false 1 Zn Zf)]))]⟩
theorem Ef (fu:Nat)(call:Ai)(a0_0 a0_1:ByteArray)(a0_2 a0_3:Int)(a0_4 a0_5 a0_6:Int)(a0_7:Bool)(a0_8 a0_9 a0_10:Int)(a0_11n:Nat)(a0_11:List PV)(a0_12n:Nat)(a0_12:List PV)(nn:Nat)(y0 y1:ByteArray)(y2:Int)(y3 y4:ByteArray)(y5 y6:Int)(y7 y8 y9:Int)(y10:Bool)(Jn Oc Tr:Int)(Zl:Nat)(Zg:List PV)(Zn:Nat)(Zf:List PV):E6 fu call a0_0 a0_1 a0_2 a0_3 a0_4 a0_5 a0_6 a0_7 a0_8 a0_9 a0_10 a0_11n a0_11 a0_12n a0_12 (nn+1) y0 y1 y2 y3 y4 y5 y6 y7 y8 y9 y10 Jn Oc Tr Zl Zg Zn Zf=(Ba (decide (y2<2)) (Ao (decide (0<=y2)&&decide (y2<2)&&true)<|Cj (List.getD [.sc (.string y0),.sc (.string y1)] (Int.toNat y2*1) .top) fun x1=>Ba (decide ((↑(ByteArray.size x1):Int)<1)) (some (Az.mk [.own 1 0 [],.sc (.int .i64 9)] [])) (Ba (decide ((↑(ByteArray.size x1):Int)>32)) (some (Az.mk [.own 1 0 [],.sc (.int .i64 9)] [])) (Aa (wrap .i64 (y2+1)) fun x2=>E6 fu call a0_0 a0_1 a0_2 a0_3 a0_4 a0_5 a0_6 a0_7 a0_8 a0_9 a0_10 a0_11n a0_11 a0_12n a0_12 (nn) (y0) (y1) x2 (y3) (y4) (y5) (y6) (y7) (y8) (y9) (y10) (Jn) (Oc) (Tr) (Zl) (Zg) (Zn) (Zf)))) (Ag (call 56 [.sc (.string y3)]) fun x3 x4=>Ac x4<|Ab x3 fun x5 x6=>Bk x5 fun x7=>Ac x6<|Ba (!x7) (some (Az.mk [.own 1 0 [],.sc (.int .i64 6)] [])) (Ag (call 56 [.sc (.string y4)]) fun x8 x9=>Ac x9<|Ab x8 fun Cr C5=>Bk Cr fun Dw=>Ac C5<|Ba (!Dw) (some (Az.mk [.own 1 0 [],.sc (.int .i64 6)] [])) (Ag (call 66 [.agg [.sc (.int .i64 y6),.sc (.int .u64 y7)]]) fun D5 Ds=>Ac Ds<|Ab D5 fun Eg En=>Ep 1 Eg fun E9 Fq=>Ab En fun Fv F5=>Ad .i64 Fv fun Id=>Ac F5<|Ba (Id != 0) (some (Az.mk [.own 1 0 [],.sc (.int .i64 Id)] [])) (Ba (decide (y8<0)) (some (Az.mk [.own 1 0 [],.sc (.int .i64 9)] [])) (Ba (decide (y8>y9)) (some (Az.mk [.own 1 0 [],.sc (.int .i64 9)] [])) (Ba (decide (y9>1099511627776)) (some (Az.mk [.own 1 0 [],.sc (.int .i64 9)] [])) (Ba (decide (Jn<0)) (some (Az.mk [.own 1 0 [],.sc (.int .i64 9)] [])) (Ba (decide (Jn>2)) (some (Az.mk [.own 1 0 [],.sc (.int .i64 9)] [])) (Ba (Jn != 0) (Ba (!y10) (some (Az.mk [.own 1 0 [],.sc (.int .i64 4)] [])) (Ag (call 68 [.sc (.string y3)]) fun G6 H7=>Ac H7<|Ab G6 fun D2 Do=>Ep 3 D2 fun Ga Ia=>Ac Do<|Ag (call 68 [.sc (.string y4)]) fun E1 Ji=>Ac Ji<|Ab E1 fun Mm J5=>Ep 3 Mm fun M1 Ms=>Ac J5<|Ag (call 69 [.sc (.int .u64 y5)]) fun Of P6=>Ac P6<|Ab Of fun Q2 Ta=>Ep 3 Q2 fun G8 J7=>Ac Ta<|Ao (decide (0+E9*1<=Fq.length))<|Ag (call 70 [.lst false 1 E9 (List.take (E9*1) (List.drop 0 Fq))]) fun Uy Zh=>Ac Zh<|Ab Uy fun Ps Us=>Ep 3 Ps fun Uc Sk=>Ac Us<|Aa (wrap .u64 y8) fun Tp=>Ag (call 69 [.sc (.int .u64 Tp)]) fun Xk X9=>Ac X9<|Ab Xk fun Tb V2=>Ep 3 Tb fun Xq Xf=>Ac V2<|Aa (wrap .u64 y9) fun Pk=>Ag (call 69 [.sc (.int .u64 Pk)]) fun Y9 CK=>Ac CK<|Ab Y9 fun CJ Zj=>Ep 3 CJ fun Ud Yn=>Ac Zj<|Ag (call 71 [.sc (.bool y10)]) fun CI Yq=>Ac Yq<|Ab CI fun Zk Yb=>Ep 3 Zk fun Zi BO=>Ac Yb<|Aa (wrap .u64 Jn) fun Va=>Ag (call 69 [.sc (.int .u64 Va)]) fun Xe CR=>Ac CR<|Ab Xe fun CD Zo=>Ep 3 CD fun Y4 CF=>Ac Zo<|Ag (call 69 [.sc (.int .u64 Oc)]) fun HH AJ=>Ac AJ<|Ab HH fun EI HG=>Ep 3 EI fun CL FS=>Ac HG<|Ao (decide (0+Ga*3<=Ia.length))<|Ao (decide (0+M1*3<=Ms.length))<|Ao (decide (0+G8*3<=J7.length))<|Ao (decide (0+Uc*3<=Sk.length))<|Ao (decide (0+Xq*3<=Xf.length))<|Ao (decide (0+Ud*3<=Yn.length))<|Ao (decide (0+Zi*3<=BO.length))<|Ao (decide (0+Y4*3<=CF.length))<|Ao (decide (0+CL*3<=FS.length))<|Ag (call 67 [.lst false 1 9 [.lst false 3 Ga (List.take (Ga*3) (List.drop 0 Ia)),.lst false 3 M1 (List.take (M1*3) (List.drop 0 Ms)),.lst false 3 G8 (List.take (G8*3) (List.drop 0 J7)),.lst false 3 Uc (List.take (Uc*3) (List.drop 0 Sk)),.lst false 3 Xq (List.take (Xq*3) (List.drop 0 Xf)),.lst false 3 Ud (List.take (Ud*3) (List.drop 0 Yn)),.lst false 3 Zi (List.take (Zi*3) (List.drop 0 BO)),.lst false 3 Y4 (List.take (Y4*3) (List.drop 0 CF)),.lst false 3 CL (List.take (CL*3) (List.drop 0 FS))]]) fun JJ II=>Ac II<|Ab JJ fun VJ SX=>Ep 3 VJ fun QW SP=>Ab SX fun XJ WY=>Ad .i64 XJ fun SZ=>Ac WY<|Ba (SZ != 0) (some (Az.mk [.own 1 0 [],.sc (.int .i64 SZ)] [])) (Ao (decide (0+QW*3<=SP.length))<|Ag (call 72 [.lst false 3 QW (List.take (QW*3) (List.drop 0 SP))]) fun QX GR=>Ac GR<|Ab QX fun NU QN=>Ep 1 NU fun WP TJ=>Ab QN fun ZS XN=>Ad .i64 ZS fun ZK=>Ac XN<|Ao (decide (WP*1<=TJ.length))<|some (Az.mk [.own 1 WP (List.take (WP*1) TJ),.sc (.int .i64 ZK)] [])))) (Ag (call 68 [.sc (.string y3)]) fun SU XF=>Ac XF<|Ab SU fun XK Wn=>Ep 3 XK fun Vm Hp=>Ac Wn<|Ag (call 68 [.sc (.string y4)]) fun D4 Yy=>Ac Yy<|Ab D4 fun R5 Q5=>Ep 3 R5 fun Kd AB=>Ac Q5<|Ag (call 69 [.sc (.int .u64 y5)]) fun Yp Yd=>Ac Yd<|Ab Yp fun AU Ie=>Ep 3 AU fun Jw X8=>Ac Ie<|Ao (decide (0+E9*1<=Fq.length))<|Ag (call 70 [.lst false 1 E9 (List.take (E9*1) (List.drop 0 Fq))]) fun Yt Zc=>Ac Zc<|Ab Yt fun DD S1=>Ep 3 DD fun V5 Wy=>Ac S1<|Aa (wrap .u64 y8) fun W5=>Ag (call 69 [.sc (.int .u64 W5)]) fun X1 Zr=>Ac Zr<|Ab X1 fun Rf Q0=>Ep 3 Rf fun Pr Sq=>Ac Q0<|Aa (wrap .u64 y9) fun Ra=>Ag (call 69 [.sc (.int .u64 Ra)]) fun Wt V4=>Ac V4<|Ab Wt fun CV X6=>Ep 3 CV fun Uz GI=>Ac X6<|Ag (call 71 [.sc (.bool y10)]) fun LD IW=>Ac IW<|Ab LD fun MT IB=>Ep 3 MT fun CW GY=>Ac IB<|Aa (wrap .u64 Jn) fun HW=>Ag (call 69 [.sc (.int .u64 HW)]) fun IM KE=>Ac KE<|Ab IM fun CM GN=>Ep 3 CM fun GU GM=>Ac GN<|Ag (call 69 [.sc (.int .u64 Oc)]) fun KN RH=>Ac RH<|Ab KN fun WO QM=>Ep 3 WO fun DP MN=>Ac QM<|Ao (decide (0+Vm*3<=Hp.length))<|Ao (decide (0+Kd*3<=AB.length))<|Ao (decide (0+Jw*3<=X8.length))<|Ao (decide (0+V5*3<=Wy.length))<|Ao (decide (0+Pr*3<=Sq.length))<|Ao (decide (0+Uz*3<=GI.length))<|Ao (decide (0+CW*3<=GY.length))<|Ao (decide (0+GU*3<=GM.length))<|Ao (decide (0+DP*3<=MN.length))<|Ag (call 67 [.lst false 1 9 [.lst false 3 Vm (List.take (Vm*3) (List.drop 0 Hp)),.lst false 3 Kd (List.take (Kd*3) (List.drop 0 AB)),.lst false 3 Jw (List.take (Jw*3) (List.drop 0 X8)),.lst false 3 V5 (List.take (V5*3) (List.drop 0 Wy)),.lst false 3 Pr (List.take (Pr*3) (List.drop 0 Sq)),.lst false 3 Uz (List.take (Uz*3) (List.drop 0 GI)),.lst false 3 CW (List.take (CW*3) (List.drop 0 GY)),.lst false 3 GU (List.take (GU*3) (List.drop 0 GM)),.lst false 3 DP (List.take (DP*3) (List.drop 0 MN))]]) fun SH Aas=>Ac Aas<|Ab SH fun ZP UO=>Ep 3 ZP fun SA VK=>Ab UO fun Aai YO=>Ad .i64 Aai fun UN=>Ac YO<|Ba (UN != 0) (some (Az.mk [.own 1 0 [],.sc (.int .i64 UN)] [])) (Ao (decide (0+SA*3<=VK.length))<|Ag (call 72 [.lst false 3 SA (List.take (SA*3) (List.drop 0 VK))]) fun YK RS=>Ac RS<|Ab YK fun XO XQ=>Ep 1 XO fun QV UR=>Ab XQ fun XR ZV=>Ad .i64 XR fun ZT=>Ac ZV<|Ao (decide (QV*1<=UR.length))<|some (Az.mk [.own 1 QV (List.take (QV*1) UR),.sc (.int .i64 ZT)] []))))))))))))):=by kernel_rfl
theorem Xz (fu d:Nat)(a0_0 a0_1:ByteArray)(a0_2 a0_3:Int)(a0_4 a0_5 a0_6:Int)(a0_7:Bool)(a0_8 a0_9 a0_10:Int)(a0_11n:Nat)(a0_11:List PV)(a0_12n:Nat)(a0_12:List PV):Ae C0 Tryz.prog fu (d+1) Ov [.agg [.sc (.string a0_0),.sc (.string a0_1),.sc (.int .u64 a0_2),.sc (.int .i64 a0_3),.sc (.int .u64 a0_4),.sc (.int .i64 a0_5),.sc (.int .i64 a0_6),.sc (.bool a0_7),.sc (.int .i64 a0_8),.sc (.int .u64 a0_9),.sc (.int .i64 a0_10),.lst false 1 a0_11n a0_11,.lst false 1 a0_12n a0_12]]=(fun (call:Ai)=>E6 fu call a0_0 a0_1 a0_2 a0_3 a0_4 a0_5 a0_6 a0_7 a0_8 a0_9 a0_10 a0_11n a0_11 a0_12n a0_12 (fu) (a0_0) (a0_1) 0 (a0_0) (a0_1) (a0_2) (a0_3) (a0_4) (a0_5) (a0_6) (a0_7) (a0_8) (a0_9) (a0_10) (a0_11n) (a0_11) (a0_12n) (a0_12)) (Ae C0 Tryz.prog fu d):=by kernel_rfl
abbrev Oz:FuncId:=36
theorem Xw (fu d:Nat)(a0_0 a0_1:ByteArray)(a0_2 a0_3:Int)(a0_4 a0_5 a0_6:Int)(a0_7:Bool)(a0_8 a0_9 a0_10:Int)(a0_11n:Nat)(a0_11:List PV)(a0_12n:Nat)(a0_12:List PV):Ae C0 Tryz.prog fu (d+1) Oz [.agg [.sc (.string a0_0),.sc (.string a0_1),.sc (.int .u64 a0_2),.sc (.int .i64 a0_3),.sc (.int .u64 a0_4),.sc (.int .i64 a0_5),.sc (.int .i64 a0_6),.sc (.bool a0_7),.sc (.int .i64 a0_8),.sc (.int .u64 a0_9),.sc (.int .i64 a0_10),.lst false 1 a0_11n a0_11,.lst false 1 a0_12n a0_12]]=(fun (call:Ai)=>Ag (call 35 [.agg [.sc (.string a0_0),.sc (.string a0_1),.sc (.int .u64 a0_2),.sc (.int .i64 a0_3),.sc (.int .u64 a0_4),.sc (.int .i64 a0_5),.sc (.int .i64 a0_6),.sc (.bool a0_7),.sc (.int .i64 a0_8),.sc (.int .u64 a0_9),.sc (.int .i64 a0_10),.lst false 1 a0_11n a0_11,.lst false 1 a0_12n a0_12]]) fun x1 x2=>Ac x2<|Ab x1 fun x3 x4=>Ep 1 x3 fun x5 x6=>Ab x4 fun x7 x8=>Ad .i64 x7 fun x9=>Ac x8<|Ba (x9 != 0) (some (Az.mk [.sc (.int .u64 0),.sc (.int .i64 x9)] [])) (Ao (decide (0+x5*1<=x6.length))<|Ag (call 73 [.sc (.int .i64 14),.lst false 1 x5 (List.take (x5*1) (List.drop 0 x6))]) fun Cr C5=>Ac C5<|Ab Cr fun Dw D5=>Ad .u64 Dw fun Ds=>Ac D5<|some (Az.mk [.sc (.int .u64 Ds),.sc (.int .i64 0)] []))) (Ae C0 Tryz.prog fu d):=by kernel_rfl
abbrev Ma:FuncId:=20
theorem Vp (fu d:Nat)(a0_0 a0_1:ByteArray)(a0_2 a0_3:Int)(a0_4 a0_5 a0_6:Int)(a0_7:Bool)(a0_8 a0_9 a0_10:Int)(a0_11n:Nat)(a0_11:List PV)(a0_12n:Nat)(a0_12:List PV)(a1_0 a1_1:Int):Ae C0 Tryz.prog fu (d+1) Ma [.agg [.sc (.string a0_0),.sc (.string a0_1),.sc (.int .u64 a0_2),.sc (.int .i64 a0_3),.sc (.int .u64 a0_4),.sc (.int .i64 a0_5),.sc (.int .i64 a0_6),.sc (.bool a0_7),.sc (.int .i64 a0_8),.sc (.int .u64 a0_9),.sc (.int .i64 a0_10),.lst false 1 a0_11n a0_11,.lst false 1 a0_12n a0_12],.agg [.sc (.int .i64 a1_0),.sc (.int .u64 a1_1)]]=(fun (call:Ai)=>Ag (call 36 [.agg [.sc (.string a0_0),.sc (.string a0_1),.sc (.int .u64 a0_2),.sc (.int .i64 a0_3),.sc (.int .u64 a0_4),.sc (.int .i64 a0_5),.sc (.int .i64 a0_6),.sc (.bool a0_7),.sc (.int .i64 a0_8),.sc (.int .u64 a0_9),.sc (.int .i64 a0_10),.lst false 1 a0_11n a0_11,.lst false 1 a0_12n a0_12]]) fun x1 x2=>Ac x2<|Ab x1 fun x3 x4=>Ad .u64 x3 fun x5=>Ab x4 fun x6 x7=>Ad .i64 x6 fun x8=>Ac x7<|Ba (x8 != 0) (some (Az.mk [.sc (.int .i64 x8)] [])) (Ag (call 41 [.agg [.sc (.int .i64 a1_0),.sc (.int .u64 a1_1)],.sc (.int .u64 x5),.agg [.sc (.int .i64 a0_10),.lst false 1 a0_11n a0_11,.lst false 1 a0_12n a0_12]]) fun x9 Cr=>Ac Cr<|Ab x9 fun C5 Dw=>Ad .i64 C5 fun D5=>Ac Dw<|some (Az.mk [.sc (.int .i64 D5)] []))) (Ae C0 Tryz.prog fu d):=by kernel_rfl
abbrev L8:FuncId:=30
theorem Um (fu d:Nat)(a0_0 a0_1:ByteArray)(a0_2 a0_3:Int)(a0_4 a0_5 a0_6:Int)(a0_7:Bool)(a0_8 a0_9 a0_10:Int)(a0_11n:Nat)(a0_11:List PV)(a0_12n:Nat)(a0_12:List PV):Ae C0 Tryz.prog fu (d+1) L8 [.agg [.sc (.string a0_0),.sc (.string a0_1),.sc (.int .u64 a0_2),.sc (.int .i64 a0_3),.sc (.int .u64 a0_4),.sc (.int .i64 a0_5),.sc (.int .i64 a0_6),.sc (.bool a0_7),.sc (.int .i64 a0_8),.sc (.int .u64 a0_9),.sc (.int .i64 a0_10),.lst false 1 a0_11n a0_11,.lst false 1 a0_12n a0_12]]=(fun (call:Ai)=>Ag (call 35 [.agg [.sc (.string a0_0),.sc (.string a0_1),.sc (.int .u64 a0_2),.sc (.int .i64 a0_3),.sc (.int .u64 a0_4),.sc (.int .i64 a0_5),.sc (.int .i64 a0_6),.sc (.bool a0_7),.sc (.int .i64 a0_8),.sc (.int .u64 a0_9),.sc (.int .i64 a0_10),.lst false 1 a0_11n a0_11,.lst false 1 a0_12n a0_12]]) fun x1 x2=>Ac x2<|Ab x1 fun x3 x4=>Ep 1 x3 fun x5 x6=>Ab x4 fun x7 x8=>Ad .i64 x7 fun x9=>Ac x8<|Ba (x9 != 0) (some (Az.mk [.own 1 0 [],.sc (.int .i64 x9)] [])) (Ag (call 50 [.agg [.sc (.int .i64 a0_10),.lst false 1 a0_11n a0_11,.lst false 1 a0_12n a0_12]]) fun Cr C5=>Ac C5<|Ab Cr fun Dw D5=>Ep 1 Dw fun Ds Eg=>Ab D5 fun En E9=>Ad .i64 En fun Fq=>Ac E9<|Ba (Fq != 0) (some (Az.mk [.own 1 0 [],.sc (.int .i64 Fq)] [])) (Ao (decide (0+Ds*1<=Eg.length))<|Ao (decide (x5*1<=x6.length)&&decide (List.length (List.take (Ds*1) (List.drop 0 Eg))=Ds*1)&&decide ((x5+Ds)*1<=1099511627776)&&decide (x5+Ds<=1099511627776))<|Aa (x5+Ds) fun Fv=>Aa (List.take (x5*1) x6++List.take (Ds*1) (List.drop 0 Eg)) fun F5=>Ao (decide (Fv*1<=F5.length))<|some (Az.mk [.own 1 Fv (List.take (Fv*1) F5),.sc (.int .i64 0)] [])))) (Ae C0 Tryz.prog fu d):=by kernel_rfl
abbrev Mq:FuncId:=52
noncomputable def Hf (fu:Nat)(call:Ai)(a0n:Nat)(a0:List PV)(nn y0:Nat)(y1:List PV):Option Az:=Cz CB Tryz.prog fu call 52 Tryz.f52 (Bq Tryz.f52) [.lst false 3 a0n a0] [] nn ⟨lk [(0,(.lst false 3 y0 y1))],B5 []⟩
noncomputable def Kh (fu:Nat)(call:Ai)(a0n:Nat)(a0:List PV)(nn y0:Nat)(y1 y2:List PV):Option Az:=Cz CB Tryz.prog fu call 52 Tryz.f52 (Bq Tryz.f52) [.lst false 3 a0n a0] [.r] nn ⟨lk [(0,(.lst false 3 y0 y1)),(3,(.ptr 3 0))],B5 [(3,(.ar false y2))]⟩
noncomputable def Ft (fu:Nat)(call:Ai)(a0n:Nat)(a0:List PV)(nn y0:Nat)(y1:List PV)(y2 y3:Int)(y4:List PV):Option Az:=Cz CB Tryz.prog fu call 52 Tryz.f52 (Bq Tryz.f52) [.lst false 3 a0n a0] [.r,.r,.r,.l,.r,.l] nn ⟨lk [(3,(.ptr 3 0)),(10,(.lst false 3 y0 y1)),(11,(.sc (.int .i64 y2))),(12,(.sc (.int .i64 y3)))],B5 [(3,(.ar false y4))]⟩
theorem Rp (fu:Nat)(call:Ai)(a0n:Nat)(a0:List PV)(nn:Nat)(hnn:0<nn)(y0:Nat)(y1:List PV):Hf fu call a0n a0 nn y0 y1=(Kh fu call a0n a0 (fu) (y0) (y1) ([.sc (.int .i64 5),.sc (.int .i64 4),.sc (.int .i64 4),.sc (.int .i64 1),.sc (.int .i64 3),.sc (.int .i64 1),.sc (.int .i64 1),.sc (.int .i64 7),.sc (.int .i64 1),.sc (.int .i64 1)])):=by cases nn with|zero=>exact absurd hnn (Nat.lt_irrefl 0)|succ nn=>kernel_rfl
theorem R1 (fu:Nat)(call:Ai)(a0n:Nat)(a0:List PV)(nn:Nat)(hnn:0<nn)(y0:Nat)(y1 y2:List PV):Kh fu call a0n a0 nn y0 y1 y2=(Ba ((↑y0:Int) != 10) (some (Az.mk [.sc (.bool false)] [])) (Ft fu call a0n a0 (fu) (y0) (y1) ((↑y0:Int)) 0 (y2))):=by cases nn with|zero=>exact absurd hnn (Nat.lt_irrefl 0)|succ nn=>kernel_rfl
theorem Jg (fu:Nat)(call:Ai)(a0n:Nat)(a0:List PV)(nn y0:Nat)(y1:List PV)(y2 y3:Int)(y4:List PV):Ft fu call a0n a0 (nn+1) y0 y1 y2 y3 y4=(Ba (decide (y3<y2)) (Ao (decide (0<=y3)&&decide (y3<(↑y0:Int)))<|Ad .i64 (List.getD y1 (Int.toNat y3*3) .top) fun x1=>Ad .u64 (List.getD y1 (Int.toNat y3*3+1) .top) fun x2=>Cj (List.getD y1 (Int.toNat y3*3+1+1) .top) fun x3=>Ao (decide (0<=y3)&&decide (y3<10))<|Ad .i64 (List.getD y4 (0+Int.toNat y3*1) .top) fun x4=>Ba (x1 != x4) (some (Az.mk [.sc (.bool false)] [])) (Aa (wrap .i64 (y3+1)) fun x5=>Ft fu call a0n a0 (nn) (y0) (y1) (y2) x5 (y4))) (some (Az.mk [.sc (.bool true)] []))):=by kernel_rfl
theorem Vk (fu d a0n:Nat)(a0:List PV):Ae C0 Tryz.prog fu (d+1) Mq [.lst false 3 a0n a0]=(fun (call:Ai)=>Hf fu call a0n a0 (fu) (a0n) (a0)) (Ae C0 Tryz.prog fu d):=by kernel_rfl
abbrev H0:FuncId:=31
theorem Vr (fu d a0n:Nat)(a0:List PV):Ae C0 Tryz.prog fu (d+1) H0 [.lst false 1 a0n a0]=(fun (call:Ai)=>Ba (decide ((↑a0n:Int)>512)) (some (Az.mk [.agg [.sc (.string (ByteArray.mk #[])),.sc (.string (ByteArray.mk #[])),.sc (.int .u64 0),.sc (.int .i64 0),.sc (.int .u64 0),.sc (.int .i64 0),.sc (.int .i64 0),.sc (.bool false),.sc (.int .i64 0),.sc (.int .u64 0),.sc (.int .i64 0),.lst false 1 0 [],.lst false 1 0 []],.sc (.int .i64 8)] [])) (Ag (call 51 [.lst false 1 a0n a0]) fun x1 x2=>Ac x2<|Ab x1 fun x3 x4=>Ep 3 x3 fun x5 x6=>Ab x4 fun x7 x8=>Ad .i64 x7 fun x9=>Ab x8 fun Cr C5=>Ad .i64 Cr fun Dw=>Ac C5<|Ba (Dw != 0) (some (Az.mk [.agg [.sc (.string (ByteArray.mk #[])),.sc (.string (ByteArray.mk #[])),.sc (.int .u64 0),.sc (.int .i64 0),.sc (.int .u64 0),.sc (.int .i64 0),.sc (.int .i64 0),.sc (.bool false),.sc (.int .i64 0),.sc (.int .u64 0),.sc (.int .i64 0),.lst false 1 0 [],.lst false 1 0 []],.sc (.int .i64 2)] [])) (Ao (decide (0+x5*3<=x6.length))<|Ag (call 52 [.lst false 3 x5 (List.take (x5*3) (List.drop 0 x6))]) fun D5 Ds=>Ac Ds<|Ab D5 fun Eg En=>Bk Eg fun E9=>Ac En<|Ba (!E9) (some (Az.mk [.agg [.sc (.string (ByteArray.mk #[])),.sc (.string (ByteArray.mk #[])),.sc (.int .u64 0),.sc (.int .i64 0),.sc (.int .u64 0),.sc (.int .i64 0),.sc (.int .i64 0),.sc (.bool false),.sc (.int .i64 0),.sc (.int .u64 0),.sc (.int .i64 0),.lst false 1 0 [],.lst false 1 0 []],.sc (.int .i64 2)] [])) (Ao (decide (4<(↑x5:Int)))<|Cj (List.getD x6 14 .top) fun Fq=>Ao (decide (ByteArray.size Fq<=1099511627776))<|Ao (decide (0+ByteArray.size Fq*1<=List.length (Dm Fq)))<|Ag (call 53 [.lst false 1 (ByteArray.size Fq) (List.take (ByteArray.size Fq*1) (List.drop 0 (Dm Fq)))]) fun Fv F5=>Ac F5<|Ab Fv fun Id G6=>C2 Id fun H7=>Ab H7 fun D2 Do=>Ad .i64 D2 fun Ga=>Ab Do fun Ia E1=>Ad .u64 Ia fun Ji=>Ac E1<|Ab G6 fun Mm J5=>Ad .i64 Mm fun M1=>Ac J5<|Ba (M1 != 0) (some (Az.mk [.agg [.sc (.string (ByteArray.mk #[])),.sc (.string (ByteArray.mk #[])),.sc (.int .u64 0),.sc (.int .i64 0),.sc (.int .u64 0),.sc (.int .i64 0),.sc (.int .i64 0),.sc (.bool false),.sc (.int .i64 0),.sc (.int .u64 0),.sc (.int .i64 0),.lst false 1 0 [],.lst false 1 0 []],.sc (.int .i64 2)] [])) (Ao (decide (0<=x9))<|Ao (decide (Int.toNat x9<=a0n)&&decide (a0n<=a0n))<|Aa (a0n-Int.toNat x9) fun Ms=>Aa (List.take (Ms*1) (List.drop (Int.toNat x9*1) a0)) fun Of=>Ag (call 54 [.lst false 1 Ms Of]) fun P6 Q2=>Ac Q2<|Ab P6 fun Ta G8=>C2 Ta fun J7=>Ab J7 fun Uy Zh=>Ad .i64 Uy fun Ps=>Ab Zh fun Us Uc=>Ep 1 Us fun Sk Tp=>Ab Uc fun Xk X9=>Ep 1 Xk fun Tb V2=>Ac X9<|Ab G8 fun Xq Xf=>Ad .i64 Xq fun Pk=>Ac Xf<|Ba (Pk != 0) (some (Az.mk [.agg [.sc (.string (ByteArray.mk #[])),.sc (.string (ByteArray.mk #[])),.sc (.int .u64 0),.sc (.int .i64 0),.sc (.int .u64 0),.sc (.int .i64 0),.sc (.int .i64 0),.sc (.bool false),.sc (.int .i64 0),.sc (.int .u64 0),.sc (.int .i64 0),.lst false 1 0 [],.lst false 1 0 []],.sc (.int .i64 2)] [])) (Ao (decide (1<(↑x5:Int)))<|Cj (List.getD x6 5 .top) fun Y9=>Ao (decide (2<(↑x5:Int)))<|Cj (List.getD x6 8 .top) fun CK=>Ao (decide (3<(↑x5:Int)))<|Ad .u64 (List.getD x6 10 .top) fun CJ=>Ao (decide (5<(↑x5:Int)))<|Ad .u64 (List.getD x6 16 .top) fun Zj=>Aa (wrap .i64 Zj) fun Ud=>Ao (decide (6<(↑x5:Int)))<|Ad .u64 (List.getD x6 19 .top) fun Yn=>Aa (wrap .i64 Yn) fun CI=>Ao (decide (7<(↑x5:Int)))<|Ad .u64 (List.getD x6 22 .top) fun Yq=>Ao (decide (8<(↑x5:Int)))<|Ad .u64 (List.getD x6 25 .top) fun Zk=>Aa (wrap .i64 Zk) fun Yb=>Ao (decide (9<(↑x5:Int)))<|Ad .u64 (List.getD x6 28 .top) fun Zi=>Ao (decide (0+Sk*1<=Tp.length))<|Ao (decide (0+Tb*1<=V2.length))<|Ag (call 30 [.agg [.sc (.string Y9),.sc (.string CK),.sc (.int .u64 CJ),.sc (.int .i64 Ga),.sc (.int .u64 Ji),.sc (.int .i64 Ud),.sc (.int .i64 CI),.sc (.bool (Yq==1)),.sc (.int .i64 Yb),.sc (.int .u64 Zi),.sc (.int .i64 Ps),.lst false 1 Sk (List.take (Sk*1) (List.drop 0 Tp)),.lst false 1 Tb (List.take (Tb*1) (List.drop 0 V2))]]) fun BO Va=>Ac Va<|Ab BO fun Xe CR=>Ep 1 Xe fun CD Zo=>Ab CR fun Y4 CF=>Ad .i64 Y4 fun HH=>Ac CF<|Ba (HH != 0) (some (Az.mk [.agg [.sc (.string (ByteArray.mk #[])),.sc (.string (ByteArray.mk #[])),.sc (.int .u64 0),.sc (.int .i64 0),.sc (.int .u64 0),.sc (.int .i64 0),.sc (.int .i64 0),.sc (.bool false),.sc (.int .i64 0),.sc (.int .u64 0),.sc (.int .i64 0),.lst false 1 0 [],.lst false 1 0 []],.sc (.int .i64 2)] [])) (Ao (decide (0+CD*1<=Zo.length))<|Ag (call 55 [.lst false 1 CD (List.take (CD*1) (List.drop 0 Zo)),.lst false 1 a0n a0]) fun AJ EI=>Ac EI<|Ab AJ fun HG CL=>Bk HG fun FS=>Ac CL<|Ba (!FS) (some (Az.mk [.agg [.sc (.string (ByteArray.mk #[])),.sc (.string (ByteArray.mk #[])),.sc (.int .u64 0),.sc (.int .i64 0),.sc (.int .u64 0),.sc (.int .i64 0),.sc (.int .i64 0),.sc (.bool false),.sc (.int .i64 0),.sc (.int .u64 0),.sc (.int .i64 0),.lst false 1 0 [],.lst false 1 0 []],.sc (.int .i64 2)] [])) (Ao (decide (0+Sk*1<=Tp.length))<|Ao (decide (0+Tb*1<=V2.length))<|some (Az.mk [.agg [.sc (.string Y9),.sc (.string CK),.sc (.int .u64 CJ),.sc (.int .i64 Ga),.sc (.int .u64 Ji),.sc (.int .i64 Ud),.sc (.int .i64 CI),.sc (.bool (Yq==1)),.sc (.int .i64 Yb),.sc (.int .u64 Zi),.sc (.int .i64 Ps),.lst false 1 Sk (List.take (Sk*1) (List.drop 0 Tp)),.lst false 1 Tb (List.take (Tb*1) (List.drop 0 V2))],.sc (.int .i64 0)] []))))))))) (Ae C0 Tryz.prog fu d):=by kernel_rfl
abbrev I8:FuncId:=47
noncomputable def Cn (fu:Nat)(call:Ai)(a0_0 a0_1:ByteArray)(a0_2 a0_3:Int)(a0_4 a0_5 a0_6:Int)(a0_7:Bool)(a0_8 a0_9 a0_10:Int)(a0_11n:Nat)(a0_11:List PV)(a0_12n:Nat)(a0_12:List PV)(a1:Int)(a2n:Nat)(a2:List PV)(a3:Int)(nn:Nat)(y0:Int)(y1:Nat)(y2:List PV)(y3 y4:Int)(y5 y6:ByteArray)(y7 y8:Int)(y9 y10 Jn:Int)(Oc:Bool)(Tr Zl Zg:Int)(Zn:Nat)(Zf:List PV)(GJ:Nat)(SY:List PV):Option Az:=Cz CB Tryz.prog fu call 47 Tryz.f47 (Bq Tryz.f47) [.agg [.sc (.string a0_0),.sc (.string a0_1),.sc (.int .u64 a0_2),.sc (.int .i64 a0_3),.sc (.int .u64 a0_4),.sc (.int .i64 a0_5),.sc (.int .i64 a0_6),.sc (.bool a0_7),.sc (.int .i64 a0_8),.sc (.int .u64 a0_9),.sc (.int .i64 a0_10),.lst false 1 a0_11n a0_11,.lst false 1 a0_12n a0_12],.sc (.int .i64 a1),.lst false 3 a2n a2,.sc (.int .i64 a3)] [.r,.r,.r,.r,.l,.r,.l] nn ⟨lk [(3,(.sc (.int .i64 y0))),(4,(.ptr 4 0)),(45,(.lst false 3 y1 y2)),(46,(.sc (.int .i64 y3))),(47,(.sc (.int .i64 y4)))],B5 [(4,(.st [(.sc (.string y5)),(.sc (.string y6)),(.sc (.int .u64 y7)),(.sc (.int .i64 y8)),(.sc (.int .u64 y9)),(.sc (.int .i64 y10)),(.sc (.int .i64 Jn)),(.sc (.bool Oc)),(.sc (.int .i64 Tr)),(.sc (.int .u64 Zl)),(.sc (.int .i64 Zg)),(.lst false 1 Zn Zf),(.lst false 1 GJ SY)]))]⟩
theorem Hu (fu:Nat)(call:Ai)(a0_0 a0_1:ByteArray)(a0_2 a0_3:Int)(a0_4 a0_5 a0_6:Int)(a0_7:Bool)(a0_8 a0_9 a0_10:Int)(a0_11n:Nat)(a0_11:List PV)(a0_12n:Nat)(a0_12:List PV)(a1:Int)(a2n:Nat)(a2:List PV)(a3:Int)(nn:Nat)(y0:Int)(y1:Nat)(y2:List PV)(y3 y4:Int)(y5 y6:ByteArray)(y7 y8:Int)(y9 y10 Jn:Int)(Oc:Bool)(Tr Zl Zg:Int)(Zn:Nat)(Zf:List PV)(GJ:Nat)(SY:List PV):Cn fu call a0_0 a0_1 a0_2 a0_3 a0_4 a0_5 a0_6 a0_7 a0_8 a0_9 a0_10 a0_11n a0_11 a0_12n a0_12 a1 a2n a2 a3 (nn+1) y0 y1 y2 y3 y4 y5 y6 y7 y8 y9 y10 Jn Oc Tr Zl Zg Zn Zf GJ SY=(Ba (decide (y4<y3)) (Ao (decide (0<=y4)&&decide (y4<(↑y1:Int)))<|Cj (List.getD y2 (Int.toNat y4*3) .top) fun C5=>Ad .u64 (List.getD y2 (Int.toNat y4*3+1) .top) fun Dw=>Ad .i64 (List.getD y2 (Int.toNat y4*3+1+1) .top) fun D5=>Ba (Array.toList (ByteArray.data C5)==Array.toList (ByteArray.data y6)) (Ba (Dw==y7) (Ba (decide (D5<=y0)) (some (Az.mk [.sc (.int .i64 39)] [])) (Aa (wrap .i64 (y4+1)) fun Ds=>Cn fu call a0_0 a0_1 a0_2 a0_3 a0_4 a0_5 a0_6 a0_7 a0_8 a0_9 a0_10 a0_11n a0_11 a0_12n a0_12 a1 a2n a2 a3 (nn) (y0) (y1) (y2) (y3) Ds (y5) (y6) (y7) (y8) (y9) (y10) (Jn) (Oc) (Tr) (Zl) (Zg) (Zn) (Zf) (GJ) (SY))) (Aa (wrap .i64 (y4+1)) fun Eg=>Cn fu call a0_0 a0_1 a0_2 a0_3 a0_4 a0_5 a0_6 a0_7 a0_8 a0_9 a0_10 a0_11n a0_11 a0_12n a0_12 a1 a2n a2 a3 (nn) (y0) (y1) (y2) (y3) Eg (y5) (y6) (y7) (y8) (y9) (y10) (Jn) (Oc) (Tr) (Zl) (Zg) (Zn) (Zf) (GJ) (SY))) (Aa (wrap .i64 (y4+1)) fun En=>Cn fu call a0_0 a0_1 a0_2 a0_3 a0_4 a0_5 a0_6 a0_7 a0_8 a0_9 a0_10 a0_11n a0_11 a0_12n a0_12 a1 a2n a2 a3 (nn) (y0) (y1) (y2) (y3) En (y5) (y6) (y7) (y8) (y9) (y10) (Jn) (Oc) (Tr) (Zl) (Zg) (Zn) (Zf) (GJ) (SY))) (some (Az.mk [.sc (.int .i64 0)] []))):=by kernel_rfl
theorem Q7 (fu d:Nat)(a0_0 a0_1:ByteArray)(a0_2 a0_3:Int)(a0_4 a0_5 a0_6:Int)(a0_7:Bool)(a0_8 a0_9 a0_10:Int)(a0_11n:Nat)(a0_11:List PV)(a0_12n:Nat)(a0_12:List PV)(a1:Int)(a2n:Nat)(a2:List PV)(a3:Int):Ae C0 Tryz.prog fu (d+1) I8 [.agg [.sc (.string a0_0),.sc (.string a0_1),.sc (.int .u64 a0_2),.sc (.int .i64 a0_3),.sc (.int .u64 a0_4),.sc (.int .i64 a0_5),.sc (.int .i64 a0_6),.sc (.bool a0_7),.sc (.int .i64 a0_8),.sc (.int .u64 a0_9),.sc (.int .i64 a0_10),.lst false 1 a0_11n a0_11,.lst false 1 a0_12n a0_12],.sc (.int .i64 a1),.lst false 3 a2n a2,.sc (.int .i64 a3)]=(fun (call:Ai)=>Ag (call 35 [.agg [.sc (.string a0_0),.sc (.string a0_1),.sc (.int .u64 a0_2),.sc (.int .i64 a0_3),.sc (.int .u64 a0_4),.sc (.int .i64 a0_5),.sc (.int .i64 a0_6),.sc (.bool a0_7),.sc (.int .i64 a0_8),.sc (.int .u64 a0_9),.sc (.int .i64 a0_10),.lst false 1 a0_11n a0_11,.lst false 1 a0_12n a0_12]]) fun x1 x2=>Ac x2<|Ab x1 fun x3 x4=>Ep 1 x3 fun x5 x6=>Ab x4 fun x7 x8=>Ad .i64 x7 fun x9=>Ac x8<|Ba (x9 != 0) (some (Az.mk [.sc (.int .i64 x9)] [])) (Ba (decide (a3<a0_5)) (some (Az.mk [.sc (.int .i64 38)] [])) (Ba (decide (a3>a0_6)) (some (Az.mk [.sc (.int .i64 38)] [])) (Ba (decide (a1>0)) (Ba (!a0_7) (some (Az.mk [.sc (.int .i64 38)] [])) (Aa (wrap .i64 (a1-1)) fun Cr=>Ba (decide (a0_8<Cr)) (some (Az.mk [.sc (.int .i64 38)] [])) (Cn fu call a0_0 a0_1 a0_2 a0_3 a0_4 a0_5 a0_6 a0_7 a0_8 a0_9 a0_10 a0_11n a0_11 a0_12n a0_12 a1 a2n a2 a3 (fu) (a3) (a2n) (a2) ((↑a2n:Int)) 0 (a0_0) (a0_1) (a0_2) (a0_3) (a0_4) (a0_5) (a0_6) (a0_7) (a0_8) (a0_9) (a0_10) (a0_11n) (a0_11) (a0_12n) (a0_12)))) (Cn fu call a0_0 a0_1 a0_2 a0_3 a0_4 a0_5 a0_6 a0_7 a0_8 a0_9 a0_10 a0_11n a0_11 a0_12n a0_12 a1 a2n a2 a3 (fu) (a3) (a2n) (a2) ((↑a2n:Int)) 0 (a0_0) (a0_1) (a0_2) (a0_3) (a0_4) (a0_5) (a0_6) (a0_7) (a0_8) (a0_9) (a0_10) (a0_11n) (a0_11) (a0_12n) (a0_12)))))) (Ae C0 Tryz.prog fu d):=by kernel_rfl
abbrev Pb:FuncId:=27
noncomputable def Gf (fu:Nat)(call:Ai)(a0n:Nat)(a0:List PV)(a1n:Nat)(a1:List PV)(a2n:Nat)(a2:List PV)(a3:Int)(nn y0:Nat)(y1:List PV)(y2:Nat)(y3:List PV)(y4:Nat)(y5:List PV)(y6:Int)(y7:Nat)(y8:List PV)(y9 y10:Int):Option Az:=Cz CB Tryz.prog fu call 27 Tryz.f27 (Bq Tryz.f27) [.lst false 13 a0n a0,.lst false 3 a1n a1,.lst false 3 a2n a2,.sc (.int .i64 a3)] [.r,.r,.r,.l,.r,.l] nn ⟨lk [(0,(.lst false 13 y0 y1)),(1,(.lst false 3 y2 y3)),(2,(.lst false 3 y4 y5)),(3,(.sc (.int .i64 y6))),(31,(.lst false 13 y7 y8)),(32,(.sc (.int .i64 y9))),(33,(.sc (.int .i64 y10)))],B5 []⟩
noncomputable def D8 (fu:Nat)(call:Ai)(a0n:Nat)(a0:List PV)(a1n:Nat)(a1:List PV)(a2n:Nat)(a2:List PV)(a3:Int)(nn y0:Nat)(y1:List PV)(y2 y3:Int)(y4 y5:ByteArray)(y6 y7:Int)(y8 y9 y10:Int)(Jn:Bool)(Oc Tr Zl:Int)(Zg:Nat)(Zn:List PV)(Zf:Nat)(GJ:List PV):Option Az:=Cz CB Tryz.prog fu call 27 Tryz.f27 (Bq Tryz.f27) [.lst false 13 a0n a0,.lst false 3 a1n a1,.lst false 3 a2n a2,.sc (.int .i64 a3)] [.r,.r,.r,.r,.r,.l,.r,.l] nn ⟨lk [(14,(.ptr 14 0)),(78,(.lst false 3 y0 y1)),(79,(.sc (.int .i64 y2))),(80,(.sc (.int .i64 y3)))],B5 [(14,(.st [(.sc (.string y4)),(.sc (.string y5)),(.sc (.int .u64 y6)),(.sc (.int .i64 y7)),(.sc (.int .u64 y8)),(.sc (.int .i64 y9)),(.sc (.int .i64 y10)),(.sc (.bool Jn)),(.sc (.int .i64 Oc)),(.sc (.int .u64 Tr)),(.sc (.int .i64 Zl)),(.lst false 1 Zg Zn),(.lst false 1 Zf GJ)]))]⟩
theorem Kt (fu:Nat)(call:Ai)(a0n:Nat)(a0:List PV)(a1n:Nat)(a1:List PV)(a2n:Nat)(a2:List PV)(a3:Int)(nn y0:Nat)(y1:List PV)(y2:Nat)(y3:List PV)(y4:Nat)(y5:List PV)(y6:Int)(y7:Nat)(y8:List PV)(y9 y10:Int):Gf fu call a0n a0 a1n a1 a2n a2 a3 (nn+1) y0 y1 y2 y3 y4 y5 y6 y7 y8 y9 y10=(Ba (decide (y10<y9)) (Ao (decide (0<=y10)&&decide (y10<(↑y7:Int)))<|Cj (List.getD y8 (Int.toNat y10*13) .top) fun x1=>Cj (List.getD y8 (Int.toNat y10*13+1) .top) fun x2=>Ad .u64 (List.getD y8 (Int.toNat y10*13+1+1) .top) fun x3=>Ad .i64 (List.getD y8 (Int.toNat y10*13+1+1+1) .top) fun x4=>Ad .u64 (List.getD y8 (Int.toNat y10*13+1+1+1+1) .top) fun x5=>Ad .i64 (List.getD y8 (Int.toNat y10*13+1+1+1+1+1) .top) fun x6=>Ad .i64 (List.getD y8 (Int.toNat y10*13+1+1+1+1+1+1) .top) fun x7=>Bk (List.getD y8 (Int.toNat y10*13+1+1+1+1+1+1+1) .top) fun x8=>Ad .i64 (List.getD y8 (Int.toNat y10*13+1+1+1+1+1+1+1+1) .top) fun x9=>Ad .u64 (List.getD y8 (Int.toNat y10*13+1+1+1+1+1+1+1+1+1) .top) fun Cr=>Ad .i64 (List.getD y8 (Int.toNat y10*13+1+1+1+1+1+1+1+1+1+1) .top) fun C5=>Fd 1 (List.getD y8 (Int.toNat y10*13+1+1+1+1+1+1+1+1+1+1+1) .top) fun Dw D5 Ds=>Fd 1 (List.getD y8 (Int.toNat y10*13+1+1+1+1+1+1+1+1+1+1+1+1) .top) fun Eg En E9=>Ag (call 47 [.agg [.sc (.string x1),.sc (.string x2),.sc (.int .u64 x3),.sc (.int .i64 x4),.sc (.int .u64 x5),.sc (.int .i64 x6),.sc (.int .i64 x7),.sc (.bool x8),.sc (.int .i64 x9),.sc (.int .u64 Cr),.sc (.int .i64 C5),.lst false 1 D5 Ds,.lst false 1 En E9],.sc (.int .i64 y10),.lst false 3 y4 y5,.sc (.int .i64 y6)]) fun Fq Fv=>Ac Fv<|Ab Fq fun F5 Id=>Ad .i64 F5 fun G6=>Ac Id<|Ba (G6 != 0) (some (Az.mk [.sc (.int .i64 0),.sc (.int .i64 G6)] [])) (Aa (wrap .i64 ((↑y0:Int)-1)) fun H7=>Ba (y10==H7) (Aa (wrap .i64 ((↑y0:Int)-1)) fun D2=>Ao (decide (0<=D2)&&decide (D2<(↑y0:Int)))<|Cj (List.getD y1 (Int.toNat D2*13) .top) fun Do=>Cj (List.getD y1 (Int.toNat D2*13+1) .top) fun Ga=>Ad .u64 (List.getD y1 (Int.toNat D2*13+1+1) .top) fun Ia=>Ad .i64 (List.getD y1 (Int.toNat D2*13+1+1+1) .top) fun E1=>Ad .u64 (List.getD y1 (Int.toNat D2*13+1+1+1+1) .top) fun Ji=>Ad .i64 (List.getD y1 (Int.toNat D2*13+1+1+1+1+1) .top) fun Mm=>Ad .i64 (List.getD y1 (Int.toNat D2*13+1+1+1+1+1+1) .top) fun J5=>Bk (List.getD y1 (Int.toNat D2*13+1+1+1+1+1+1+1) .top) fun M1=>Ad .i64 (List.getD y1 (Int.toNat D2*13+1+1+1+1+1+1+1+1) .top) fun Ms=>Ad .u64 (List.getD y1 (Int.toNat D2*13+1+1+1+1+1+1+1+1+1) .top) fun Of=>Ad .i64 (List.getD y1 (Int.toNat D2*13+1+1+1+1+1+1+1+1+1+1) .top) fun P6=>Fd 1 (List.getD y1 (Int.toNat D2*13+1+1+1+1+1+1+1+1+1+1+1) .top) fun Q2 Ta G8=>Fd 1 (List.getD y1 (Int.toNat D2*13+1+1+1+1+1+1+1+1+1+1+1+1) .top) fun J7 Uy Zh=>D8 fu call a0n a0 a1n a1 a2n a2 a3 (fu) (y2) (y3) ((↑y2:Int)) 0 Do Ga Ia E1 Ji Mm J5 M1 Ms Of P6 Ta G8 Uy Zh) (Aa (wrap .i64 (y10+1)) fun Ps=>Ao (decide (0<=Ps)&&decide (Ps<(↑y0:Int)))<|Cj (List.getD y1 (Int.toNat Ps*13+0) .top) fun Us=>Ba (!Array.toList (ByteArray.data x2)==Array.toList (ByteArray.data Us)) (some (Az.mk [.sc (.int .i64 0),.sc (.int .i64 38)] [])) (Aa (wrap .i64 (y10+1)) fun Uc=>Ao (decide (0<=Uc)&&decide (Uc<(↑y0:Int)))<|Ad .i64 (List.getD y1 (Int.toNat Uc*13+3) .top) fun Sk=>Ad .u64 (List.getD y1 (Int.toNat Uc*13+3+1) .top) fun Tp=>Ag (call 20 [.agg [.sc (.string x1),.sc (.string x2),.sc (.int .u64 x3),.sc (.int .i64 x4),.sc (.int .u64 x5),.sc (.int .i64 x6),.sc (.int .i64 x7),.sc (.bool x8),.sc (.int .i64 x9),.sc (.int .u64 Cr),.sc (.int .i64 C5),.lst false 1 D5 Ds,.lst false 1 En E9],.agg [.sc (.int .i64 Sk),.sc (.int .u64 Tp)]]) fun Xk X9=>Ac X9<|Ab Xk fun Tb V2=>Ad .i64 Tb fun Xq=>Ac V2<|Ba (Xq != 0) (some (Az.mk [.sc (.int .i64 0),.sc (.int .i64 Xq)] [])) (Aa (wrap .i64 (y10+1)) fun Xf=>Gf fu call a0n a0 a1n a1 a2n a2 a3 (nn) (y0) (y1) (y2) (y3) (y4) (y5) (y6) (y7) (y8) (y9) Xf))))) (Aa (wrap .i64 ((↑y0:Int)-1)) fun Pk=>Ao (decide (0<=Pk)&&decide (Pk<(↑y0:Int)))<|Cj (List.getD y1 (Int.toNat Pk*13) .top) fun Y9=>Cj (List.getD y1 (Int.toNat Pk*13+1) .top) fun CK=>Ad .u64 (List.getD y1 (Int.toNat Pk*13+1+1) .top) fun CJ=>Ad .i64 (List.getD y1 (Int.toNat Pk*13+1+1+1) .top) fun Zj=>Ad .u64 (List.getD y1 (Int.toNat Pk*13+1+1+1+1) .top) fun Ud=>Ad .i64 (List.getD y1 (Int.toNat Pk*13+1+1+1+1+1) .top) fun Yn=>Ad .i64 (List.getD y1 (Int.toNat Pk*13+1+1+1+1+1+1) .top) fun CI=>Bk (List.getD y1 (Int.toNat Pk*13+1+1+1+1+1+1+1) .top) fun Yq=>Ad .i64 (List.getD y1 (Int.toNat Pk*13+1+1+1+1+1+1+1+1) .top) fun Zk=>Ad .u64 (List.getD y1 (Int.toNat Pk*13+1+1+1+1+1+1+1+1+1) .top) fun Yb=>Ad .i64 (List.getD y1 (Int.toNat Pk*13+1+1+1+1+1+1+1+1+1+1) .top) fun Zi=>Fd 1 (List.getD y1 (Int.toNat Pk*13+1+1+1+1+1+1+1+1+1+1+1) .top) fun BO Va Xe=>Fd 1 (List.getD y1 (Int.toNat Pk*13+1+1+1+1+1+1+1+1+1+1+1+1) .top) fun CR CD Zo=>D8 fu call a0n a0 a1n a1 a2n a2 a3 (fu) (y2) (y3) ((↑y2:Int)) 0 Y9 CK CJ Zj Ud Yn CI Yq Zk Yb Zi Va Xe CD Zo)):=by kernel_rfl
theorem Kl (fu:Nat)(call:Ai)(a0n:Nat)(a0:List PV)(a1n:Nat)(a1:List PV)(a2n:Nat)(a2:List PV)(a3:Int)(nn y0:Nat)(y1:List PV)(y2 y3:Int)(y4 y5:ByteArray)(y6 y7:Int)(y8 y9 y10:Int)(Jn:Bool)(Oc Tr Zl:Int)(Zg:Nat)(Zn:List PV)(Zf:Nat)(GJ:List PV):D8 fu call a0n a0 a1n a1 a2n a2 a3 (nn+1) y0 y1 y2 y3 y4 y5 y6 y7 y8 y9 y10 Jn Oc Tr Zl Zg Zn Zf GJ=(Ba (decide (y3<y2)) (Ao (decide (0<=y3)&&decide (y3<(↑y0:Int)))<|Cj (List.getD y1 (Int.toNat y3*3) .top) fun Y4=>Ad .i64 (List.getD y1 (Int.toNat y3*3+1) .top) fun CF=>Ad .u64 (List.getD y1 (Int.toNat y3*3+1+1) .top) fun HH=>Ba (Array.toList (ByteArray.data Y4)==Array.toList (ByteArray.data y5)) (Ag (call 20 [.agg [.sc (.string y4),.sc (.string y5),.sc (.int .u64 y6),.sc (.int .i64 y7),.sc (.int .u64 y8),.sc (.int .i64 y9),.sc (.int .i64 y10),.sc (.bool Jn),.sc (.int .i64 Oc),.sc (.int .u64 Tr),.sc (.int .i64 Zl),.lst false 1 Zg Zn,.lst false 1 Zf GJ],.agg [.sc (.int .i64 CF),.sc (.int .u64 HH)]]) fun AJ EI=>Ac EI<|Ab AJ fun HG CL=>Ad .i64 HG fun FS=>Ac CL<|Ba (FS==0) (some (Az.mk [.sc (.int .i64 y3),.sc (.int .i64 0)] [])) (Aa (wrap .i64 (y3+1)) fun JJ=>D8 fu call a0n a0 a1n a1 a2n a2 a3 (nn) (y0) (y1) (y2) JJ (y4) (y5) (y6) (y7) (y8) (y9) (y10) (Jn) (Oc) (Tr) (Zl) (Zg) (Zn) (Zf) (GJ))) (Aa (wrap .i64 (y3+1)) fun II=>D8 fu call a0n a0 a1n a1 a2n a2 a3 (nn) (y0) (y1) (y2) II (y4) (y5) (y6) (y7) (y8) (y9) (y10) (Jn) (Oc) (Tr) (Zl) (Zg) (Zn) (Zf) (GJ))) (some (Az.mk [.sc (.int .i64 0),.sc (.int .i64 38)] []))):=by kernel_rfl
theorem X7 (fu d a0n:Nat)(a0:List PV)(a1n:Nat)(a1:List PV)(a2n:Nat)(a2:List PV)(a3:Int):Ae C0 Tryz.prog fu (d+1) Pb [.lst false 13 a0n a0,.lst false 3 a1n a1,.lst false 3 a2n a2,.sc (.int .i64 a3)]=(fun (call:Ai)=>Ba (decide (a3<0)) (some (Az.mk [.sc (.int .i64 0),.sc (.int .i64 9)] [])) (Ba (decide (a3>1099511627776)) (some (Az.mk [.sc (.int .i64 0),.sc (.int .i64 9)] [])) (Ba (decide ((↑a0n:Int)<1)) (some (Az.mk [.sc (.int .i64 0),.sc (.int .i64 38)] [])) (Ba (decide ((↑a0n:Int)>3)) (some (Az.mk [.sc (.int .i64 0),.sc (.int .i64 38)] [])) (Gf fu call a0n a0 a1n a1 a2n a2 a3 (fu) (a0n) (a0) (a1n) (a1) (a2n) (a2) (a3) (a0n) (a0) ((↑a0n:Int)) 0))))) (Ae C0 Tryz.prog fu d):=by kernel_rfl
abbrev Xp:FuncId:=55
theorem MG (fu d a0n:Nat)(a0:List PV)(a1n:Nat)(a1:List PV):Ae C0 Tryz.prog fu (d+1) Xp [.lst false 1 a0n a0,.lst false 1 a1n a1]=(fun (call:Ai)=>Ao (decide (a0.length=a0n))<|Et (bytesOf a0) fun x1=>Ao (decide (a1.length=a1n))<|Et (bytesOf a1) fun x2=>some (Az.mk [.sc (.bool (Array.toList (ByteArray.data (ByteArray.mk (List.toArray x1)))==Array.toList (ByteArray.data (ByteArray.mk (List.toArray x2)))))] [])) (Ae C0 Tryz.prog fu d):=by kernel_rfl
end
section
open Go.IntKind (wrap)
theorem TY {c:Ce}{e:Int}(h:A4 c=e)(he:e≠0):Hl c=[.own 1 0 [],.sc (.int .i64 e)]:=by
 unfold Hl;rw [h,A7 he]
theorem El {c:Ce}{e:Int}(h:A4 c=e)(he:e≠0):some (Az.mk [.own 1 0 [],.sc (.int .i64 e)] [])=some (Az.mk (Hl c) []):=by
 rw [TY h he]
def Vg (c:Ce):List It:=[⟨4,0,c.subj⟩,⟨4,0,c.iss⟩,⟨1,c.serial,Gc⟩,⟨3,0,Cd (I3 c.key)⟩,⟨1,c.fr,Gc⟩,⟨1,c.un,Gc⟩,⟨7,(if c.auth=true then 1 else 0),Gc⟩,⟨1,c.path,Gc⟩,⟨1,c.model,Gc⟩]
theorem FU {c:Ce}(hw:c.wf)(h:A4 c=0):∀x∈Vg c,TI x:=by
 unfold A4 at h;have kl:(Cd (I3 c.key)).size=9:=by rw [Fz];rfl
 have ns:Gc.size=0:=rfl;have hs:=hw.ser;have hm:=hw.mod;have es:QP Gc=true:=rfl;by_cases e1:c.subj.size<1∨32<c.subj.size
 ·rw [B7 e1] at h;cases h
 rw [A7 e1] at h;by_cases e2:c.iss.size<1∨32<c.iss.size
 ·rw [B7 e2] at h;cases h
 rw [A7 e2] at h;by_cases e3:UY c.subj=false
 ·rw [B7 e3] at h;cases h
 rw [A7 e3] at h;by_cases e4:UY c.iss=false
 ·rw [B7 e4] at h;cases h
 rw [A7 e4] at h
 repeat' (split at h;· cases h)
 rw [Bool.not_eq_false] at e3 e4;intro x hx;simp only [Vg,List.mem_cons,List.not_mem_nil,or_false] at hx;rcases hx with rfl|rfl|rfl|rfl|rfl|rfl|rfl|rfl|rfl
 ·exact ⟨by simp,by simp only;omega,fun _=>e3,by simp [Gg],by simp⟩
 ·exact ⟨by simp,by simp only;omega,fun _=>e4,by simp [Gg],by simp⟩
 ·exact ⟨by simp,by simp only [ns];omega,fun h=>by simp at h,by simp [Gg,es],hs⟩
 ·exact ⟨by simp,by simp only [kl];omega,fun h=>by simp at h,by simp [Gg],by simp⟩
 ·exact ⟨by simp,by simp only [ns];omega,fun h=>by simp at h,by simp [Gg,es],by simp only;omega⟩
 ·exact ⟨by simp,by simp only [ns];omega,fun h=>by simp at h,by simp [Gg,es],by simp only;omega⟩
 ·exact ⟨by simp,by simp only [ns];omega,fun h=>by simp at h,by simp [Gg,es];split<;>omega,by simp only;split<;>omega⟩
 ·exact ⟨by simp,by simp only [ns];omega,fun h=>by simp at h,by simp [Gg,es],by simp only;omega⟩
 ·exact ⟨by simp,by simp only [ns];omega,fun h=>by simp at h,by simp [Gg,es],hm⟩
theorem Yh {c:Ce}(hw:c.wf)(h:A4 c=0):Pi [] 0 (Bc c):=Aef (r:=Vg c) (by simp [Vg]) (by simp [Vg]) (FU hw h)
section
variable {fu d:Nat}
theorem VO (s:ByteArray):Ae C0 Tryz.prog fu (d+1) ER [.sc (.string s)]=some ⟨[.own 3 1 (Ck [⟨4,0,s⟩])],[]⟩:=by rw [VB];rfl
theorem Vh (n:Int):Ae C0 Tryz.prog fu (d+1) FP [.sc (.int .u64 n)]=some ⟨[.own 3 1 (Ck [⟨1,n,Gc⟩])],[]⟩:=by rw [VM];rfl
theorem Ai3 (b:Bool):Ae C0 Tryz.prog fu (d+1) EQ [.sc (.bool b)]=some ⟨[.own 3 1 (Ck [⟨7,(if b=true then 1 else 0),Gc⟩])],[]⟩:=by rw [TX];cases b<;>rfl
theorem Ad4 (l:List Int):Ae C0 Tryz.prog fu (d+1) Z8 [.lst false 1 l.length (Af .u8 l)]=some ⟨[.own 3 1 (Ck [⟨3,0,Cd l⟩])],[]⟩:=by
 rw [QK];have L:=Ak .u8 l;have bo:=G2 l;simp (disch:=omega) only [B4,L,bo];rfl
theorem YH (hfu:1000<=fu){c:Ce}(hw:c.wf)(hs1:c.subj.size<=9223372036854775807)(hs2:c.iss.size<=9223372036854775807)(e1:¬(c.subj.size<1∨32<c.subj.size)) (e2:¬(c.iss.size<1∨32<c.iss.size)) (nn:Nat):
  E6 fu (Ae C0 Tryz.prog fu (d+6)) c.subj c.iss c.serial c.key.h c.key.root c.fr c.un c.auth c.path c.model c.sig.leaf c.sig.chains.length (Af .u64 c.sig.chains) c.sig.path.length (Af .u64 c.sig.path) (nn+1) c.subj c.iss 2 c.subj c.iss c.serial c.key.h c.key.root c.fr c.un c.auth c.path c.model c.sig.leaf c.sig.chains.length (Af .u64 c.sig.chains) c.sig.path.length (Af .u64 c.sig.path)=some ⟨Hl c,[]⟩:=by
 have v1:=Po (fu:=fu) (d:=d+5) c.subj hs1;have v2:=Po (fu:=fu) (d:=d+5) c.iss hs2;have ek:=Aet (xs:=Ks) (fu:=fu) (d:=d+4) hfu c.key;simp only [Ky.cells] at ek;have e90:((9:Int) != 0)=true:=rfl;have e00:((0:Int) != 0)=false:=rfl;rw [Ef,Dt _ _ _ (by omega)]
 cases e3:UY c.subj
 ·have hb:A4 c=6:=by unfold A4;rw [A7 e1,A7 e2,B7 e3]
  rw [e3] at v1;rw [←El hb (by omega)]
  try unfold Aa
  repeat first
   |((with_reducible first|apply As|apply Am|apply At|apply Aq|apply A3|apply Bi|apply Dh|apply Al);· first|with_reducible rfl|(simp (disch:=omega) only [v1,C7,D1]<;>with_reducible rfl))
   |((with_reducible first|apply Av|apply Au);· first|with_reducible rfl|omega|(simp (disch:=omega) only [gT,v1,C7,D1]<;>omega))
   |(with_reducible apply Aw;· first|with_reducible rfl|(simp (disch:=omega) only [gF,v1,C7,D1]<;>omega))
  try simp (disch:=omega) only [v1,C7,D1]
 rw [e3] at v1;cases e4:UY c.iss
 ·have hb:A4 c=6:=by unfold A4;rw [A7 e1,A7 e2,A7 (by simp [e3]),B7 e4]
  rw [e4] at v2;rw [←El hb (by omega)]
  try unfold Aa
  repeat first
   |((with_reducible first|apply As|apply Am|apply At|apply Aq|apply A3|apply Bi|apply Dh|apply Al);· first|with_reducible rfl|(simp (disch:=omega) only [v1,v2,C7,D1]<;>with_reducible rfl))
   |((with_reducible first|apply Av|apply Au);· first|with_reducible rfl|omega|(simp (disch:=omega) only [gT,v1,v2,C7,D1]<;>omega))
   |(with_reducible apply Aw;· first|with_reducible rfl|(simp (disch:=omega) only [gF,v1,v2,C7,D1]<;>omega))
  try simp (disch:=omega) only [v1,v2,C7,D1]
 rw [e4] at v2;cases e5:Dg c.key.h
 rotate_left
 ·have hb:A4 c=9:=by unfold A4;rw [A7 e1,A7 e2,A7 (by simp [e3]),A7 (by simp [e4]),B7 e5]
  rw [e5,B7 rfl] at ek;rw [←El hb (by omega)]
  try unfold Aa
  repeat first
   |((with_reducible first|apply As|apply Am|apply At|apply Aq|apply A3|apply Bi|apply Dh|apply Al);· first|with_reducible rfl|(simp (disch:=omega) only [v1,v2,ek,e90,C7,D1]<;>with_reducible rfl))
   |((with_reducible first|apply Av|apply Au);· first|with_reducible rfl|omega|(simp (disch:=omega) only [gT,v1,v2,ek,e90,C7,D1]<;>omega))
   |(with_reducible apply Aw;· first|with_reducible rfl|(simp (disch:=omega) only [gF,v1,v2,ek,e90,C7,D1]<;>omega))
  try simp (disch:=omega) only [v1,v2,ek,e90,C7,D1]
 rw [e5,A7 (by simp)] at ek
 have B0:A4 c=if c.fr<0 then 9 else if c.un<c.fr then 9 else if c.un>1099511627776 then 9 else if c.path<0∨2<c.path then 9 else if c.path≠0∧c.auth=false then 4 else 0:=by
  unfold A4;rw [A7 e1,A7 e2,A7 (by simp [e3]),A7 (by simp [e4]),A7 (by simp [e5])]
 by_cases e6:c.fr<0
 ·have hb:A4 c=9:=by rw [B0,B7 e6]
  rw [←El hb (by omega)]
  try unfold Aa
  repeat first
   |((with_reducible first|apply As|apply Am|apply At|apply Aq|apply A3|apply Bi|apply Dh|apply Al);· first|with_reducible rfl|(simp (disch:=omega) only [v1,v2,ek,e00,C7,D1]<;>with_reducible rfl))
   |((with_reducible first|apply Av|apply Au);· first|with_reducible rfl|omega|(simp (disch:=omega) only [gT,v1,v2,ek,e00,C7,D1]<;>omega))
   |(with_reducible apply Aw;· first|with_reducible rfl|(simp (disch:=omega) only [gF,v1,v2,ek,e00,C7,D1]<;>omega))
  try simp (disch:=omega) only [v1,v2,ek,e00,C7,D1]
 by_cases e7:c.un<c.fr
 ·have hb:A4 c=9:=by rw [B0,A7 e6,B7 e7]
  rw [←El hb (by omega)]
  try unfold Aa
  repeat first
   |((with_reducible first|apply As|apply Am|apply At|apply Aq|apply A3|apply Bi|apply Dh|apply Al);· first|with_reducible rfl|(simp (disch:=omega) only [v1,v2,ek,e00,C7,D1]<;>with_reducible rfl))
   |((with_reducible first|apply Av|apply Au);· first|with_reducible rfl|omega|(simp (disch:=omega) only [gT,v1,v2,ek,e00,C7,D1]<;>omega))
   |(with_reducible apply Aw;· first|with_reducible rfl|(simp (disch:=omega) only [gF,v1,v2,ek,e00,C7,D1]<;>omega))
  try simp (disch:=omega) only [v1,v2,ek,e00,C7,D1]
 by_cases e8:c.un>1099511627776
 ·have hb:A4 c=9:=by rw [B0,A7 e6,A7 e7,B7 e8]
  rw [←El hb (by omega)]
  try unfold Aa
  repeat first
   |((with_reducible first|apply As|apply Am|apply At|apply Aq|apply A3|apply Bi|apply Dh|apply Al);· first|with_reducible rfl|(simp (disch:=omega) only [v1,v2,ek,e00,C7,D1]<;>with_reducible rfl))
   |((with_reducible first|apply Av|apply Au);· first|with_reducible rfl|omega|(simp (disch:=omega) only [gT,v1,v2,ek,e00,C7,D1]<;>omega))
   |(with_reducible apply Aw;· first|with_reducible rfl|(simp (disch:=omega) only [gF,v1,v2,ek,e00,C7,D1]<;>omega))
  try simp (disch:=omega) only [v1,v2,ek,e00,C7,D1]
 by_cases e9:c.path<0∨2<c.path
 ·have hb:A4 c=9:=by rw [B0,A7 e6,A7 e7,A7 e8,B7 e9]
  rw [←El hb (by omega)]
  by_cases e9':c.path<0
  ·skip
   try unfold Aa
   repeat first
    |((with_reducible first|apply As|apply Am|apply At|apply Aq|apply A3|apply Bi|apply Dh|apply Al);· first|with_reducible rfl|(simp (disch:=omega) only [v1,v2,ek,e00,C7,D1]<;>with_reducible rfl))
    |((with_reducible first|apply Av|apply Au);· first|with_reducible rfl|omega|(simp (disch:=omega) only [gT,v1,v2,ek,e00,C7,D1]<;>omega))
    |(with_reducible apply Aw;· first|with_reducible rfl|(simp (disch:=omega) only [gF,v1,v2,ek,e00,C7,D1]<;>omega))
   try simp (disch:=omega) only [v1,v2,ek,e00,C7,D1]
  ·skip
   try unfold Aa
   repeat first
    |((with_reducible first|apply As|apply Am|apply At|apply Aq|apply A3|apply Bi|apply Dh|apply Al);· first|with_reducible rfl|(simp (disch:=omega) only [v1,v2,ek,e00,C7,D1]<;>with_reducible rfl))
    |((with_reducible first|apply Av|apply Au);· first|with_reducible rfl|omega|(simp (disch:=omega) only [gT,v1,v2,ek,e00,C7,D1]<;>omega))
    |(with_reducible apply Aw;· first|with_reducible rfl|(simp (disch:=omega) only [gF,v1,v2,ek,e00,C7,D1]<;>omega))
   try simp (disch:=omega) only [v1,v2,ek,e00,C7,D1]
 by_cases e10:c.path≠0∧c.auth=false
 ·have hb:A4 c=4:=by rw [B0,A7 e6,A7 e7,A7 e8,A7 e9,B7 e10]
  have ea:=e10.2;have ep:(c.path != 0)=true:=by simp [e10.1]
  rw [←El hb (by omega)]
  try unfold Aa
  repeat first
   |((with_reducible first|apply As|apply Am|apply At|apply Aq|apply A3|apply Bi|apply Dh|apply Al);· first|with_reducible rfl|(simp (disch:=omega) only [v1,v2,ek,e00,ep,ea,C7,D1]<;>with_reducible rfl))
   |((with_reducible first|apply Av|apply Au);· first|with_reducible rfl|omega|(simp (disch:=omega) only [gT,v1,v2,ek,e00,ep,ea,C7,D1]<;>omega))
   |(with_reducible apply Aw;· first|with_reducible rfl|(simp (disch:=omega) only [gF,v1,v2,ek,e00,ep,ea,C7,D1]<;>omega))
  try simp (disch:=omega) only [v1,v2,ek,e00,ep,ea,C7,D1]
 have hz:A4 c=0:=by rw [B0,A7 e6,A7 e7,A7 e8,A7 e9,A7 e10]
 have hfl:=FU hw hz
 have ar:=Aaq (fu:=fu) (d:=d) hfu (vs:=(Vg c).map fun x=>[x]) (by
  intro v hv;obtain ⟨x,hx,rfl⟩:=List.mem_map.1 hv;exact ⟨Aco (hfl x hx),by simp⟩) (by simp [Vg]) (Yh hw hz) (by simp [Vg])
 have en:=WR (fu:=fu) (d:=d+1) hfu (l:=Bc c) (by simp [Bc]) (by simp [Bc];omega) (Yh hw hz) (fun x hx=>(Yo hw hz x hx).1) (Nat.le_trans (Mr hz) (by omega))
 have ar':Ae C0 Tryz.prog fu (d+6) Tg [.lst false 1 9 [.lst false 3 1 (Ck [⟨4,0,c.subj⟩]),.lst false 3 1 (Ck [⟨4,0,c.iss⟩]),.lst false 3 1 (Ck [⟨1,c.serial,Gc⟩]),.lst false 3 1 (Ck [⟨3,0,Cd (I3 c.key)⟩]),.lst false 3 1 (Ck [⟨1,c.fr,Gc⟩]),.lst false 3 1 (Ck [⟨1,c.un,Gc⟩]),.lst false 3 1 (Ck [⟨7,(if c.auth=true then 1 else 0),Gc⟩]),.lst false 3 1 (Ck [⟨1,c.path,Gc⟩]),.lst false 3 1 (Ck [⟨1,c.model,Gc⟩])]]=some ⟨[.own 3 10 (Ck (Bc c)),.sc (.int .i64 0)],[]⟩:=ar
 have en':Ae C0 Tryz.prog fu (d+1+5) Qx [.lst false 3 10 (Ck (Bc c))]=some ⟨[.own 1 (Bg (Bc c)).length (Af .u8 (Bg (Bc c))),.sc (.int .i64 0)],[]⟩:=en;clear ar en hfl;have t1:=VO (fu:=fu) (d:=d+5) c.subj;have t2:=VO (fu:=fu) (d:=d+5) c.iss;have u1:=Vh (fu:=fu) (d:=d+5) c.serial;have u2:=Vh (fu:=fu) (d:=d+5) c.fr;have u3:=Vh (fu:=fu) (d:=d+5) c.un;have u4:=Vh (fu:=fu) (d:=d+5) c.path;have u5:=Vh (fu:=fu) (d:=d+5) c.model;have bo:=Ai3 (fu:=fu) (d:=d+5) c.auth;have by_:=Ad4 (fu:=fu) (d:=d+5) (I3 c.key);have k9:(I3 c.key).length=9:=rfl;rw [k9] at by_;have L9:=Ak .u8 (I3 c.key);rw [k9] at L9;have tk9:List.take 9 (Af .u8 (I3 c.key))=Af .u8 (I3 c.key):=Sl (by omega)
 have wf:wrap .u64 c.fr=c.fr:=Cs (by omega) (by omega)
 have wu:wrap .u64 c.un=c.un:=Cs (by omega) (by omega)
 have wp:wrap .u64 c.path=c.path:=Cs (by omega) (by omega)
 have R:Hl c=[.own 1 (Bg (Bc c)).length (Af .u8 (Bg (Bc c))),.sc (.int .i64 0)]:=by unfold Hl;rw [hz,B7 rfl]
 have LB:=Ak .u8 (Bg (Bc c));have tB:=Kc .u8 (Bg (Bc c));rw [R];generalize Bg (Bc c)=W at en' LB tB ⊢;have LI:(Ck (Bc c)).length=30:=rfl;have tI:List.take 30 (Ck (Bc c))=Ck (Bc c):=rfl;generalize Ck (Bc c)=I at ar' en' LI tI;have K:∀x:It,List.take 3 (Ck [x])=Ck [x]:=fun _=>rfl
 have N:∀x:It,(Ck [x]).length=3:=fun _=>rfl
 have K1:=K ⟨4,0,c.subj⟩;have K2:=K ⟨4,0,c.iss⟩;have K3:=K ⟨1,c.serial,Gc⟩;have K4:=K ⟨3,0,Cd (I3 c.key)⟩;have K5:=K ⟨1,c.fr,Gc⟩;have K6:=K ⟨1,c.un,Gc⟩;have K7:=K ⟨7,(if c.auth=true then 1 else 0),Gc⟩
 have K8:=K ⟨1,c.path,Gc⟩;have K9:=K ⟨1,c.model,Gc⟩;have N1:=N ⟨4,0,c.subj⟩;have N2:=N ⟨4,0,c.iss⟩;have N3:=N ⟨1,c.serial,Gc⟩;have N4:=N ⟨3,0,Cd (I3 c.key)⟩;have N5:=N ⟨1,c.fr,Gc⟩;have N6:=N ⟨1,c.un,Gc⟩;have N7:=N ⟨7,(if c.auth=true then 1 else 0),Gc⟩
 have N8:=N ⟨1,c.path,Gc⟩;have N9:=N ⟨1,c.model,Gc⟩;generalize Ck [⟨4,0,c.subj⟩]=T1 at *
 generalize Ck [⟨4,0,c.iss⟩]=T2 at *
 generalize Ck [⟨1,c.serial,Gc⟩]=T3 at *
 generalize Ck [⟨3,0,Cd (I3 c.key)⟩]=T4 at *
 generalize Ck [⟨1,c.fr,Gc⟩]=T5 at *
 generalize Ck [⟨1,c.un,Gc⟩]=T6 at *
 generalize Ck [⟨7,(if c.auth=true then 1 else 0),Gc⟩]=T7 at *
 generalize Ck [⟨1,c.path,Gc⟩]=T8 at *
 generalize Ck [⟨1,c.model,Gc⟩]=T9 at *
 generalize Af .u8 (I3 c.key)=KB at *
 by_cases ep:c.path=0
 ·have ep':(c.path != 0)=false:=by simp [ep]
  try unfold Aa
  repeat first
   |((with_reducible first|apply As|apply Am|apply At|apply Aq|apply A3|apply Bi|apply Dh|apply Al);· first|with_reducible rfl|(simp (disch:=omega) only [v1,v2,ek,e00,ep',t1,t2,u1,u2,u3,u4,u5,bo,by_,wf,wu,wp,L9,tk9,K1,K2,K3,K4,K5,K6,K7,K8,K9,N1,N2,N3,N4,N5,N6,N7,N8,N9,Bw,Nat.one_mul,Cb,Nat.reduceMul,Fa,ar',LI,tI,en',LB,tB,C7,D1]<;>with_reducible rfl))
   |((with_reducible first|apply Av|apply Au);· first|with_reducible rfl|omega|(simp (disch:=omega) only [gT,v1,v2,ek,e00,ep',t1,t2,u1,u2,u3,u4,u5,bo,by_,wf,wu,wp,L9,tk9,K1,K2,K3,K4,K5,K6,K7,K8,K9,N1,N2,N3,N4,N5,N6,N7,N8,N9,Bw,Nat.one_mul,Cb,Nat.reduceMul,Fa,ar',LI,tI,en',LB,tB,C7,D1]<;>omega))
   |(with_reducible apply Aw;· first|with_reducible rfl|(simp (disch:=omega) only [gF,v1,v2,ek,e00,ep',t1,t2,u1,u2,u3,u4,u5,bo,by_,wf,wu,wp,L9,tk9,K1,K2,K3,K4,K5,K6,K7,K8,K9,N1,N2,N3,N4,N5,N6,N7,N8,N9,Bw,Nat.one_mul,Cb,Nat.reduceMul,Fa,ar',LI,tI,en',LB,tB,C7,D1]<;>omega))
  try simp (disch:=omega) only [v1,v2,ek,e00,ep',t1,t2,u1,u2,u3,u4,u5,bo,by_,wf,wu,wp,L9,tk9,K1,K2,K3,K4,K5,K6,K7,K8,K9,N1,N2,N3,N4,N5,N6,N7,N8,N9,Bw,Nat.one_mul,Cb,Nat.reduceMul,Fa,ar',LI,tI,en',LB,tB,C7,D1]
 ·have ea:c.auth=true:=by
   cases h:c.auth
   ·exact absurd ⟨ep,h⟩ e10
   ·rfl
  have ep':(c.path != 0)=true:=by simp [ep]
  rw [ea] at bo
  try unfold Aa
  repeat first
   |((with_reducible first|apply As|apply Am|apply At|apply Aq|apply A3|apply Bi|apply Dh|apply Al);· first|with_reducible rfl|(simp (disch:=omega) only [v1,v2,ek,e00,ep',ea,t1,t2,u1,u2,u3,u4,u5,bo,by_,wf,wu,wp,L9,tk9,K1,K2,K3,K4,K5,K6,K7,K8,K9,N1,N2,N3,N4,N5,N6,N7,N8,N9,Bw,Nat.one_mul,Cb,Nat.reduceMul,Fa,ar',LI,tI,en',LB,tB,C7,D1]<;>with_reducible rfl))
   |((with_reducible first|apply Av|apply Au);· first|with_reducible rfl|omega|(simp (disch:=omega) only [gT,v1,v2,ek,e00,ep',ea,t1,t2,u1,u2,u3,u4,u5,bo,by_,wf,wu,wp,L9,tk9,K1,K2,K3,K4,K5,K6,K7,K8,K9,N1,N2,N3,N4,N5,N6,N7,N8,N9,Bw,Nat.one_mul,Cb,Nat.reduceMul,Fa,ar',LI,tI,en',LB,tB,C7,D1]<;>omega))
   |(with_reducible apply Aw;· first|with_reducible rfl|(simp (disch:=omega) only [gF,v1,v2,ek,e00,ep',ea,t1,t2,u1,u2,u3,u4,u5,bo,by_,wf,wu,wp,L9,tk9,K1,K2,K3,K4,K5,K6,K7,K8,K9,N1,N2,N3,N4,N5,N6,N7,N8,N9,Bw,Nat.one_mul,Cb,Nat.reduceMul,Fa,ar',LI,tI,en',LB,tB,C7,D1]<;>omega))
  try simp (disch:=omega) only [v1,v2,ek,e00,ep',ea,t1,t2,u1,u2,u3,u4,u5,bo,by_,wf,wu,wp,L9,tk9,K1,K2,K3,K4,K5,K6,K7,K8,K9,N1,N2,N3,N4,N5,N6,N7,N8,N9,Bw,Nat.one_mul,Cb,Nat.reduceMul,Fa,ar',LI,tI,en',LB,tB,C7,D1]
theorem ZU (hfu:1000<=fu){c:Ce}(hw:c.wf)(hs1:c.subj.size<=9223372036854775807)(hs2:c.iss.size<=9223372036854775807)(nn:Nat)(hn:3<=nn):
  E6 fu (Ae C0 Tryz.prog fu (d+6)) c.subj c.iss c.serial c.key.h c.key.root c.fr c.un c.auth c.path c.model c.sig.leaf c.sig.chains.length (Af .u64 c.sig.chains) c.sig.path.length (Af .u64 c.sig.path) nn c.subj c.iss 0 c.subj c.iss c.serial c.key.h c.key.root c.fr c.un c.auth c.path c.model c.sig.leaf c.sig.chains.length (Af .u64 c.sig.chains) c.sig.path.length (Af .u64 c.sig.path)=some ⟨Hl c,[]⟩:=by
 obtain ⟨m,rfl⟩:∃m,nn=m+1+1+1:=⟨nn-3,by omega⟩
 have g0:List.getD [PV.sc (Value.string c.subj),PV.sc (Value.string c.iss)] (Int.toNat (0:Int)*1) PV.top=.sc (.string c.subj):=rfl;have g1:List.getD [PV.sc (Value.string c.subj),PV.sc (Value.string c.iss)] (Int.toNat (1:Int)*1) PV.top=.sc (.string c.iss):=rfl;have i1:wrap .i64 ((0:Int)+1)=1:=rfl;have i2:wrap .i64 ((1:Int)+1)=2:=rfl;by_cases e1:c.subj.size<1∨32<c.subj.size
 ·have hb:A4 c=9:=by unfold A4;rw [B7 e1]
  rw [←El hb (by omega),Ef]
  by_cases e1':c.subj.size<1
  ·skip
   try unfold Aa
   repeat first
    |((with_reducible first|apply As|apply Am|apply At|apply Aq|apply A3|apply Bi|apply Dh|apply Al);· first|with_reducible rfl|(simp (disch:=omega) only [g0]<;>with_reducible rfl))
    |((with_reducible first|apply Av|apply Au);· first|with_reducible rfl|omega|(simp (disch:=omega) only [gT,g0]<;>omega))
    |(with_reducible apply Aw;· first|with_reducible rfl|(simp (disch:=omega) only [gF,g0]<;>omega))
   try simp (disch:=omega) only [g0]
  ·skip
   try unfold Aa
   repeat first
    |((with_reducible first|apply As|apply Am|apply At|apply Aq|apply A3|apply Bi|apply Dh|apply Al);· first|with_reducible rfl|(simp (disch:=omega) only [g0]<;>with_reducible rfl))
    |((with_reducible first|apply Av|apply Au);· first|with_reducible rfl|omega|(simp (disch:=omega) only [gT,g0]<;>omega))
    |(with_reducible apply Aw;· first|with_reducible rfl|(simp (disch:=omega) only [gF,g0]<;>omega))
   try simp (disch:=omega) only [g0]
 rw [Ef];by_cases e2:c.iss.size<1∨32<c.iss.size
 ·have hb:A4 c=9:=by unfold A4;rw [A7 e1,B7 e2]
  rw [←El hb (by omega)]
  try unfold Aa
  repeat first
   |((with_reducible first|apply As|apply Am|apply At|apply Aq|apply A3|apply Bi|apply Dh|apply Al);· first|with_reducible rfl|(simp (disch:=omega) only [g0,i1]<;>with_reducible rfl))
   |((with_reducible first|apply Av|apply Au);· first|with_reducible rfl|omega|(simp (disch:=omega) only [gT,g0,i1]<;>omega))
   |(with_reducible apply Aw;· first|with_reducible rfl|(simp (disch:=omega) only [gF,g0,i1]<;>omega))
  try simp (disch:=omega) only [g0,i1]
  rw [Ef];by_cases e2':c.iss.size<1
  ·skip
   try unfold Aa
   repeat first
    |((with_reducible first|apply As|apply Am|apply At|apply Aq|apply A3|apply Bi|apply Dh|apply Al);· first|with_reducible rfl|(simp (disch:=omega) only [g1]<;>with_reducible rfl))
    |((with_reducible first|apply Av|apply Au);· first|with_reducible rfl|omega|(simp (disch:=omega) only [gT,g1]<;>omega))
    |(with_reducible apply Aw;· first|with_reducible rfl|(simp (disch:=omega) only [gF,g1]<;>omega))
   try simp (disch:=omega) only [g1]
  ·skip
   try unfold Aa
   repeat first
    |((with_reducible first|apply As|apply Am|apply At|apply Aq|apply A3|apply Bi|apply Dh|apply Al);· first|with_reducible rfl|(simp (disch:=omega) only [g1]<;>with_reducible rfl))
    |((with_reducible first|apply Av|apply Au);· first|with_reducible rfl|omega|(simp (disch:=omega) only [gT,g1]<;>omega))
    |(with_reducible apply Aw;· first|with_reducible rfl|(simp (disch:=omega) only [gF,g1]<;>omega))
   try simp (disch:=omega) only [g1]
 try unfold Aa
 repeat first
  |((with_reducible first|apply As|apply Am|apply At|apply Aq|apply A3|apply Bi|apply Dh|apply Al);· first|with_reducible rfl|(simp (disch:=omega) only [g0,i1]<;>with_reducible rfl))
  |((with_reducible first|apply Av|apply Au);· first|with_reducible rfl|omega|(simp (disch:=omega) only [gT,g0,i1]<;>omega))
  |(with_reducible apply Aw;· first|with_reducible rfl|(simp (disch:=omega) only [gF,g0,i1]<;>omega))
 try simp (disch:=omega) only [g0,i1]
 rw [Ef]
 try unfold Aa
 repeat first
  |((with_reducible first|apply As|apply Am|apply At|apply Aq|apply A3|apply Bi|apply Dh|apply Al);· first|with_reducible rfl|(simp (disch:=omega) only [g1,i2]<;>with_reducible rfl))
  |((with_reducible first|apply Av|apply Au);· first|with_reducible rfl|omega|(simp (disch:=omega) only [gT,g1,i2]<;>omega))
  |(with_reducible apply Aw;· first|with_reducible rfl|(simp (disch:=omega) only [gF,g1,i2]<;>omega))
 try simp (disch:=omega) only [g1,i2]
 exact YH hfu hw hs1 hs2 e1 e2 m
theorem IZ (hfu:1000<=fu){c:Ce}(hw:c.wf)(hs1:c.subj.size<=9223372036854775807)(hs2:c.iss.size<=9223372036854775807):Ae C0 Tryz.prog fu (d+7) Ov [.agg c.cells]=some ⟨Hl c,[]⟩:=
 (Xz fu (d+6) c.subj c.iss c.serial c.key.h c.key.root c.fr c.un c.auth c.path c.model c.sig.leaf c.sig.chains.length (Af .u64 c.sig.chains) c.sig.path.length (Af .u64 c.sig.path)).trans (ZU hfu hw hs1 hs2 fu (by omega))
end
end
section
open Go.IntKind (wrap)
def HJ (c:Ce):List PV:=if A4 c=0 then [.sc (.int .u64 (Mn c)),.sc (.int .i64 0)] else [.sc (.int .u64 0),.sc (.int .i64 (A4 c))]
section
variable {fu d:Nat} {c:Ce}
theorem WW (hfu:1000<=fu)(hw:c.wf)(hs1:c.subj.size<=9223372036854775807)(hs2:c.iss.size<=9223372036854775807):Ae C0 Tryz.prog fu (d+8) Oz [.agg c.cells]=some ⟨HJ c,[]⟩:=by
 refine (Xw fu (d+7) c.subj c.iss c.serial c.key.h c.key.root c.fr c.un c.auth c.path c.model c.sig.leaf c.sig.chains.length (Af .u64 c.sig.chains) c.sig.path.length (Af .u64 c.sig.path)).trans ?_;have bq:=IZ (fu:=fu) (d:=d) hfu hw hs1 hs2;simp only [Ce.cells] at bq;unfold Hl at bq;unfold HJ;by_cases h0:A4 c=0
 ·have lb:=Mr h0;rw [B7 h0] at bq;rw [B7 h0];have e00:((0:Int) != 0)=false:=rfl;have hh:=Abj (xs:=Ks) (fu:=fu) (d:=d+2) (CY hw h0) (by omega) (by omega) (by omega) 14
  have eW:Nf 14 (Bg (Bc c))=Mn c:=rfl;rw [eW] at hh;have L1:=Ak .u8 (Bg (Bc c));have t1:=Kc .u8 (Bg (Bc c));generalize (Bg (Bc c)).length=n1 at *
  generalize Af .u8 (Bg (Bc c))=c1 at *
  try unfold Aa
  repeat first
   |((with_reducible first|apply As|apply Am|apply At|apply Bi|apply Al);· first|with_reducible rfl|(simp (disch:=omega) only [bq,e00,Cb,Bw,Fa,L1,t1,hh]<;>with_reducible rfl))
   |((with_reducible first|apply Av|apply Au);· first|with_reducible rfl|omega|(simp (disch:=omega) only [gT,bq,e00,Cb,Bw,Fa,L1,t1,hh]<;>omega))
   |(with_reducible apply Aw;· first|with_reducible rfl|(simp (disch:=omega) only [gF,bq,e00,Cb,Bw,Fa,L1,t1,hh]<;>omega))
  try simp (disch:=omega) only [bq,e00,Cb,Bw,Fa,L1,t1,hh]
  all_goals rfl
 ·have hne:(A4 c != 0)=true:=by simp [h0]
  rw [A7 h0] at bq;rw [A7 h0]
  try unfold Aa
  repeat first
   |((with_reducible first|apply As|apply Am|apply At|apply Bi|apply Al);· first|with_reducible rfl|(simp (disch:=omega) only [bq,hne]<;>with_reducible rfl))
   |((with_reducible first|apply Av|apply Au);· first|with_reducible rfl|omega|(simp (disch:=omega) only [gT,bq,hne]<;>omega))
   |(with_reducible apply Aw;· first|with_reducible rfl|(simp (disch:=omega) only [gF,bq,hne]<;>omega))
  try simp (disch:=omega) only [bq,hne]
  all_goals rfl
theorem BA (hfu:1000<=fu)(hw:c.wf)(hs1:c.subj.size<=9223372036854775807)(hs2:c.iss.size<=9223372036854775807)(k:Ky):Ae C0 Tryz.prog fu (d+9) Ma [.agg c.cells,.agg k.cells]=some ⟨[.sc (.int .i64 (Ro c k))],[]⟩:=by
 refine (Vp fu (d+8) c.subj c.iss c.serial c.key.h c.key.root c.fr c.un c.auth c.path c.model c.sig.leaf c.sig.chains.length (Af .u64 c.sig.chains) c.sig.path.length (Af .u64 c.sig.path) k.h k.root).trans ?_;have bq:=WW (fu:=fu) (d:=d) hfu hw hs1 hs2;simp only [Ce.cells] at bq;unfold HJ at bq;unfold Ro;by_cases h0:A4 c=0
 ·rw [B7 h0] at bq;rw [B7 h0];have e00:((0:Int) != 0)=false:=rfl;have vr:=Ad7 (xs:=Ks) (fu:=fu) (d:=d) hfu k (Mn c) c.sig;simp only [Ky.cells,Sg.cells] at vr
  try unfold Aa
  repeat first
   |((with_reducible first|apply As|apply Am|apply At|apply Bi|apply Al);· first|with_reducible rfl|(simp (disch:=omega) only [bq,e00,vr]<;>with_reducible rfl))
   |((with_reducible first|apply Av|apply Au);· first|with_reducible rfl|omega|(simp (disch:=omega) only [gT,bq,e00,vr]<;>omega))
   |(with_reducible apply Aw;· first|with_reducible rfl|(simp (disch:=omega) only [gF,bq,e00,vr]<;>omega))
  try simp (disch:=omega) only [bq,e00,vr]
  all_goals rfl
 ·have hne:(A4 c != 0)=true:=by simp [h0]
  rw [A7 h0] at bq;rw [A7 h0]
  try unfold Aa
  repeat first
   |((with_reducible first|apply As|apply Am|apply At|apply Bi|apply Al);· first|with_reducible rfl|(simp (disch:=omega) only [bq,hne]<;>with_reducible rfl))
   |((with_reducible first|apply Av|apply Au);· first|with_reducible rfl|omega|(simp (disch:=omega) only [gT,bq,hne]<;>omega))
   |(with_reducible apply Aw;· first|with_reducible rfl|(simp (disch:=omega) only [gF,bq,hne]<;>omega))
  try simp (disch:=omega) only [bq,hne]
  all_goals rfl
theorem Abf (hfu:1000<=fu)(hw:c.wf)(hs1:c.subj.size<=9223372036854775807)(hs2:c.iss.size<=9223372036854775807)(hp:c.sig.path.length<=1000000000)(hf:c.sig.path.length<fu):Ae C0 Tryz.prog fu (d+8) L8 [.agg c.cells]=some ⟨RW c,[]⟩:=by
 refine (Um fu (d+7) c.subj c.iss c.serial c.key.h c.key.root c.fr c.un c.auth c.path c.model c.sig.leaf c.sig.chains.length (Af .u64 c.sig.chains) c.sig.path.length (Af .u64 c.sig.path)).trans ?_;have bq:=IZ (fu:=fu) (d:=d) hfu hw hs1 hs2;simp only [Ce.cells] at bq;have es:=Ad3 (xs:=Ks) (fu:=fu) (d:=d+5) hfu c.sig hp hf;simp only [Sg.cells] at es;unfold Hl at bq;unfold RW Ex;by_cases h0:A4 c=0
 ·have lb:=Mr h0;rw [B7 h0] at bq;rw [B7 h0];have L1:=Ak .u8 (Bg (Bc c));have t1:=Kc .u8 (Bg (Bc c));have e00:((0:Int) != 0)=false:=rfl;have e90:((9:Int) != 0)=true:=rfl;have e40:((4:Int) != 0)=true:=rfl;unfold IR;by_cases g1:Dg c.sig.path.length=true
  ·rw [B7 g1] at es;rw [B7 g1,A7 (by omega)]
   try unfold Aa
   repeat first
    |((with_reducible first|apply As|apply Am|apply At|apply Bi|apply Al);· first|with_reducible rfl|(simp (disch:=omega) only [bq,es,e00,e90]<;>with_reducible rfl))
    |((with_reducible first|apply Av|apply Au);· first|with_reducible rfl|omega|(simp (disch:=omega) only [gT,bq,es,e00,e90]<;>omega))
    |(with_reducible apply Aw;· first|with_reducible rfl|(simp (disch:=omega) only [gF,bq,es,e00,e90]<;>omega))
   try simp (disch:=omega) only [bq,es,e00,e90]
   all_goals rfl
  rw [A7 g1] at es;rw [A7 g1];by_cases g2:Ke c.sig.leaf c.sig.path.length=true
  ·rw [B7 g2] at es;rw [B7 g2,A7 (by omega)]
   try unfold Aa
   repeat first
    |((with_reducible first|apply As|apply Am|apply At|apply Bi|apply Al);· first|with_reducible rfl|(simp (disch:=omega) only [bq,es,e00,e90]<;>with_reducible rfl))
    |((with_reducible first|apply Av|apply Au);· first|with_reducible rfl|omega|(simp (disch:=omega) only [gT,bq,es,e00,e90]<;>omega))
    |(with_reducible apply Aw;· first|with_reducible rfl|(simp (disch:=omega) only [gF,bq,es,e00,e90]<;>omega))
   try simp (disch:=omega) only [bq,es,e00,e90]
   all_goals rfl
  rw [A7 g2] at es;rw [A7 g2];by_cases g3:c.sig.chains.length≠18
  ·rw [B7 g3] at es;rw [B7 g3,A7 (by omega)]
   try unfold Aa
   repeat first
    |((with_reducible first|apply As|apply Am|apply At|apply Bi|apply Al);· first|with_reducible rfl|(simp (disch:=omega) only [bq,es,e00,e40]<;>with_reducible rfl))
    |((with_reducible first|apply Av|apply Au);· first|with_reducible rfl|omega|(simp (disch:=omega) only [gT,bq,es,e00,e40]<;>omega))
    |(with_reducible apply Aw;· first|with_reducible rfl|(simp (disch:=omega) only [gF,bq,es,e00,e40]<;>omega))
   try simp (disch:=omega) only [bq,es,e00,e40]
   all_goals rfl
  rw [A7 g3] at es;rw [A7 g3,B7 rfl];have hb4:=H4 (h:=c.sig.path.length) (by simpa using g1)
  have ls:(DE c.sig).length=2+8*c.sig.chains.length+8*c.sig.path.length:=by
   unfold DE;simp only [Jj,J6,Di];omega
  have L2:=Ak .u8 (DE c.sig);have t2:=Kc .u8 (DE c.sig)
  have ea:Af .u8 (Bg (Bc c))++Af .u8 (DE c.sig)=Af .u8 (Hq c):=by
   unfold Hq;rw [Af,Af,Af,List.flatMap_append]
  have le:(Hq c).length=(Bg (Bc c)).length+(DE c.sig).length:=by unfold Hq;rw [J6]
  have L3:=Ak .u8 (Hq c);have t3:List.take ((Bg (Bc c)).length+(DE c.sig).length) (Af .u8 (Hq c))=Af .u8 (Hq c):=Sl (by omega)
  rw [le] at L3 ⊢;generalize (Bg (Bc c)).length=n1 at *
  generalize (DE c.sig).length=n2 at *
  generalize Af .u8 (Bg (Bc c))=c1 at *
  generalize Af .u8 (DE c.sig)=c2 at *
  try unfold Aa
  repeat first
   |((with_reducible first|apply As|apply Am|apply At|apply Bi|apply Al);· first|with_reducible rfl|(simp (disch:=omega) only [bq,es,e00,Cb,Bw,Fa,L1,t1,L2,t2,ea,L3,t3]<;>with_reducible rfl))
   |((with_reducible first|apply Av|apply Au);· first|with_reducible rfl|omega|(simp (disch:=omega) only [gT,bq,es,e00,Cb,Bw,Fa,L1,t1,L2,t2,ea,L3,t3]<;>omega))
   |(with_reducible apply Aw;· first|with_reducible rfl|(simp (disch:=omega) only [gF,bq,es,e00,Cb,Bw,Fa,L1,t1,L2,t2,ea,L3,t3]<;>omega))
  try simp (disch:=omega) only [bq,es,e00,Cb,Bw,Fa,L1,t1,L2,t2,ea,L3,t3]
  all_goals rfl
 ·have hne:(A4 c != 0)=true:=by simp [h0]
  rw [A7 h0] at bq;rw [A7 h0,A7 h0]
  try unfold Aa
  repeat first
   |((with_reducible first|apply As|apply Am|apply At|apply Bi|apply Al);· first|with_reducible rfl|(simp (disch:=omega) only [bq,hne]<;>with_reducible rfl))
   |((with_reducible first|apply Av|apply Au);· first|with_reducible rfl|omega|(simp (disch:=omega) only [gT,bq,hne]<;>omega))
   |(with_reducible apply Aw;· first|with_reducible rfl|(simp (disch:=omega) only [gF,bq,hne]<;>omega))
  try simp (disch:=omega) only [bq,hne]
  all_goals rfl
end
end
section
open Go.IntKind (wrap)
theorem aci {its:List It}{i:Nat}{x:It}(h:its[i]?=some x):(Ck its).getD (i*3) .top=.sc (.int .i64 x.k)∧(Ck its).getD (i*3+1) .top=.sc (.int .u64 x.n)∧(Ck its).getD (i*3+2) .top=.sc (.string x.s):=
 ⟨Ec It.cells_len h (j:=0) (by omega),Ec It.cells_len h (j:=1) (by omega),Ec It.cells_len h (j:=2) (by omega)⟩
def Mx:List Int:=[5,4,4,1,3,1,1,7,1,1]
def Th (its:List It):Bool:=its.map (·.k)==Mx
section
variable {fu d:Nat}
theorem FJ {call:Ai}{a0n:Nat}{a0:List PV}{its:List It}(h10:its.length=10):∀(r:List It)(rk:List Int)(i nn:Nat),its.drop i=r->Mx.drop i=rk->r.length<nn->i<=10 ->
  Ft fu call a0n a0 nn its.length (Ck its) (its.length:Int) (i:Int) (Af .i64 Mx)=some ⟨[.sc (.bool (r.map (·.k)==rk))],[]⟩
 |_,_,_,0,_,_,h,_=>by omega
 |[],rk,i,nn+1,h,hk,hn,hi=>by
  have:=drop_nil h;obtain rfl:i=10:=by omega
  subst hk;rw [Jg,Dt _ _ _ (by omega)]
  rfl
 |x::r,rk,i,nn+1,h,hk,hn,hi=>by
  obtain ⟨h1,h2,h3⟩:=Cg h;simp only [Jj] at hn;obtain ⟨k,hk1⟩:∃k,Mx[i]?=some k:=⟨_,List.getElem?_eq_getElem (by show i<10;omega)⟩
  have hk2:rk=k::Mx.drop (i+1):=by
   rw [←hk,List.drop_eq_getElem_cons (by show i<10;omega)]
   congr 1
   rw [List.getElem?_eq_getElem (by show i<10;omega)] at hk1
   injection hk1
  subst hk2;have w:wrap .i64 ((i:Int)+1)=((i+1:Nat):Int):=by rw [Aj (by omega) (by omega)];omega
  obtain ⟨c0,c1,c2⟩:=aci h2;have ck:=Xj (k:=.i64) hk1;have ih:=FJ (call:=call) (a0n:=a0n) (a0:=a0) h10 r _ (i+1) nn h3 rfl (by omega) (by omega)
  rw [Jg,Zzw];by_cases e:x.k=k
  ·have b0:(x.k != k)=false:=by simp [e]
   have e1:(x.k::List.map (·.k) r==k::Mx.drop (i+1))=(List.map (·.k) r==Mx.drop (i+1)):=by simp [e]
   rw [e1,←ih];simp (disch:=omega) only [B4,Gm,Cb,Bw,c0,c1,c2,ck,b0,w]
  ·have b0:(x.k != k)=true:=by simp [e]
   have e1:(x.k::List.map (·.k) r==k::Mx.drop (i+1))=false:=by simp [e]
   rw [e1];simp (disch:=omega) only [B4,Gm,Cb,Bw,c0,c1,c2,ck,b0,w]
theorem Ae5 (hfu:1000<=fu)(its:List It):Ae C0 Tryz.prog fu (d+1) Mq [.lst false 3 its.length (Ck its)]=some ⟨[.sc (.bool (Th its))],[]⟩:=by
 rw [Vk];show Hf _ _ _ _ _ _ _=_;rw [Rp (hnn:=by omega),R1 (hnn:=by omega)]
 by_cases h:its.length=10
 ·have b0:((its.length:Int) != 10)=false:=by simp;omega
  rw [b0,ZC];exact FJ (call:=Ae C0 Tryz.prog fu d) h its Mx 0 fu rfl rfl (by omega) (by omega)
 ·have b0:((its.length:Int) != 10)=true:=by simp;omega
  have e:Th its=false:=by
   unfold Th;cases q:(its.map (·.k)==Mx)
   ·rfl
   ·have:=congrArg List.length (eq_of_beq q);simp [Mx] at this;omega
  rw [b0,ZL,e]
theorem Aao {a b:List Int}(ha:J4 a)(hb:J4 b)(h:(a.map fun n=>n.toNat.toUInt8)=(b.map fun n=>n.toNat.toUInt8)):a=b:=by
 have e:Cd a=Cd b:=by unfold Cd;rw [h]
 rw [←Nt ha,←Nt hb,e]
theorem A5s {a b:List Int}(ha:J4 a)(hb:J4 b):(Array.toList (ByteArray.data (ByteArray.mk (List.toArray (a.map fun n=>n.toNat.toUInt8))))==Array.toList (ByteArray.data (ByteArray.mk (List.toArray (b.map fun n=>n.toNat.toUInt8)))))=decide (a=b):=by
 by_cases h:a=b
 ·subst h;simp
 ·have:(List.map (fun n=>n.toNat.toUInt8) a)≠(List.map (fun n=>n.toNat.toUInt8) b):=fun e=>h (Aao ha hb e)
  simp only [h,decide_false]
  simpa using this
theorem ML {a b:List Int}(ha:J4 a)(hb:J4 b):Ae C0 Tryz.prog fu (d+1) Xp [.lst false 1 a.length (Af .u8 a),.lst false 1 b.length (Af .u8 b)]=some ⟨[.sc (.bool (decide (a=b)))],[]⟩:=by
 rw [MG];have La:=Ak .u8 a;have Lb:=Ak .u8 b;have ba:=G2 a;have bb:=G2 b;have q:=A5s ha hb;simp (disch:=omega) only [B4,La,Lb,ba,bb,q]
end
structure Ce.ok (c:Ce):Prop where
 ser:isU c.serial
 mod:isU c.model
 root:isU c.key.root
 sg:c.sig.ok
theorem Ce.ok.wf {c:Ce}(h:c.ok):c.wf:=⟨h.ser.1,h.mod.1⟩
def Na (x1 x2 x3 x5 x6 x7 x8 x9:It)(k:Ky)(s:Sg):Ce:=⟨x1.s,x2.s,x3.n,k,wrap .i64 x5.n,wrap .i64 x6.n,x7.n==1,wrap .i64 x8.n,x9.n,s⟩
def OR (b:List Int):Option Ce:=
 if (I5 1000 [] 0 b 0 []).2.2≠0 then none else
 match (I5 1000 [] 0 b 0 []).1 with
 |[_,x1,x2,x3,x4,x5,x6,x7,x8,x9]=>(match JP (Ij x4.s),sgD (b.drop (I5 1000 [] 0 b 0 []).2.1) with|some k,some s=>some (Na x1 x2 x3 x5 x6 x7 x8 x9 k s)|_,_=>none)
 |_=>none
def SD (b:List Int):Ce × Int:=
 if b.length>512 then (XG,8) else match OR b with|some c=>if Ex c=0∧Hq c=b∧c.serial<=18446744073709551615∧c.model<=18446744073709551615 then (c,0) else (XG,2)|none=>(XG,2)
theorem R4 {c:Ce}(h:Ex c=0):A4 c=0∧Dg c.key.h=false∧Dg c.sig.path.length=false∧Ke c.sig.leaf c.sig.path.length=false∧c.sig.chains.length=18∧0<=c.fr∧c.fr<=c.un∧c.un<=1099511627776∧0<=c.path∧c.path<=2:=by
 unfold Ex at h;by_cases h0:A4 c=0
 rotate_left
 ·rw [A7 h0] at h;exact absurd h h0
 rw [B7 h0] at h;unfold IR at h;have hb:=h0;unfold A4 at hb
 repeat' (split at h;· cases h)
 repeat' (split at hb;· cases hb)
 refine ⟨h0,by simp_all,by simp_all,by simp_all,by omega,by omega,by omega,by omega,by omega,by omega⟩
theorem UZ {c:Ce}(hc:c.ok)(h:Ex c=0){m:Nat}(hm:10<m):I5 m [] 0 (Hq c) 0 []=(Bc c,(Bg (Bc c)).length,0):=by
 obtain ⟨h0,h1,h2,h3,h4,h5,h6,h7,h8,h9⟩:=R4 h
 have r:=PT (b:=Hq c) (rest:=DE c.sig) (Bc c) [] 0 0 m [] (Yh hc.wf h0) (by
  intro x hx;have u1:=hc.ser;have u2:=hc.mod;simp only [Bc,List.mem_cons,List.not_mem_nil,or_false] at hx;rcases hx with rfl|rfl|rfl|rfl|rfl|rfl|rfl|rfl|rfl|rfl
  all_goals simp only
  all_goals try split
  all_goals omega) rfl (by simpa [Bc] using hm)
 simpa using r
theorem LM {c:Ce}(h:Ex c=0):Na ⟨4,0,c.subj⟩ ⟨4,0,c.iss⟩ ⟨1,c.serial,Gc⟩ ⟨1,c.fr,Gc⟩ ⟨1,c.un,Gc⟩ ⟨7,(if c.auth=true then 1 else 0),Gc⟩ ⟨1,c.path,Gc⟩ ⟨1,c.model,Gc⟩ c.key c.sig=c:=by
 obtain ⟨h0,h1,h2,h3,h4,h5,h6,h7,h8,h9⟩:=R4 h;obtain ⟨subj,iss,serial,key,fr,un,auth,path,model,sig⟩:=c;simp only at *
 unfold Na;simp only;rw [Aj (by omega) (by omega),Aj (by omega) (by omega),Aj (by omega) (by omega)]
 cases auth<;>rfl
theorem LS {c:Ce}(h:Ex c=0):(Hq c).length<=400:=by
 obtain ⟨h0,h1,h2,h3,h4,h5,h6,h7,h8,h9⟩:=R4 h;have:=Mr h0;have hb:=H4 h2;unfold Hq DE;simp only [J6,Jj,Di];omega
theorem Aid {c:Ce}(hw:c.wf)(h:Ex c=0):J4 (Hq c):=by
 intro x hx;rcases List.mem_append.1 hx with hx|hx
 ·exact CY hw (R4 h).1 x hx
 ·exact As4 _ x hx
theorem Agh {c:Ce}(hc:c.ok)(h:Ex c=0):JP (Ij (Cd (I3 c.key)))=some c.key:=by
 rw [Nt Aq7];exact Acw (R4 h).2.1 hc.root
theorem Alw {c:Ce}(hc:c.ok)(h:Ex c=0):sgD ((Hq c).drop (Bg (Bc c)).length)=some c.sig:=by
 obtain ⟨h0,h1,h2,h3,h4,h5,h6,h7,h8,h9⟩:=R4 h;unfold Hq;rw [List.drop_left' rfl];exact Aki hc.sg h2 h3 h4
theorem UL {c:Ce}(hc:c.ok)(h:Ex c=0):SD (Hq c)=(c,0):=by
 have r:=UZ hc h (m:=1000) (by omega)
 have k:=Agh hc h;have s:=Alw hc h;have cs:=LM h;have l:=LS h;have u1:=hc.ser;have u2:=hc.mod
 have:OR (Hq c)=some c:=by
  unfold OR;rw [r];simp only [Bc];simp only [Bc] at s;rw [A7 (by simp),k,s]
  simp only [cs]
 unfold SD;rw [A7 (by omega),this]
 simp only;rw [B7 ⟨h,by trivial,u1.2,u2.2⟩]
theorem IC {x1 x2 x3 x5 x6 x7 x8 x9:It}{k:Ky}{s:Sg}(h3:OkX x3)(h9:OkX x9)(hk:isU k.root)(hs:s.ok):(Na x1 x2 x3 x5 x6 x7 x8 x9 k s).ok:=⟨⟨h3.n0,h3.n1⟩,⟨h9.n0,h9.n1⟩,hk,hs⟩
theorem Af4 {b:List Int}(hb:J4 b){c:Ce}(h:OR b=some c):c.ok:=by
 have ok:=(BT hb 1000 [] 0 0 [] (by omega) (by simp)).2
 unfold OR at h;split at h
 ·cases h
 ·split at h
  ·rename_i e;rw [e] at ok;split at h
   ·rename_i hk hs;cases h;exact IC (ok _ (by simp)) (ok _ (by simp)) (QZ hk).2 (Aak hs).1
   ·cases h
  ·cases h
theorem Ae7 {b:List Int}(hB:J4 b)(hl:b.length<=512)(hn:∀c:Ce,c.ok->Ex c=0->Hq c≠b):SD b=(XG,2):=by
 unfold SD;rw [A7 (by omega)]
 cases h:OR b with
 |none=>rfl
 |some c=>
  simp only;rw [A7];intro ⟨h1,h2,_⟩;exact hn c (Af4 hB h) h1 h2
end
section
open Go.IntKind (wrap)
def Adm (b:List Int)(used:Nat):List It->Ce × Int
 |[_,x1,x2,x3,x4,x5,x6,x7,x8,x9]=>(match JP (Ij x4.s),sgD (b.drop used) with
  |some k,some s=>if Ex (Na x1 x2 x3 x5 x6 x7 x8 x9 k s)=0∧Hq (Na x1 x2 x3 x5 x6 x7 x8 x9 k s)=b then (Na x1 x2 x3 x5 x6 x7 x8 x9 k s,0) else (XG,2)
  |_,_=>(XG,2))
 |_=>(XG,2)
def FF (b:List Int)(r:List It × Nat × Int):Ce × Int:=
 if b.length>512 then (XG,8) else if r.2.2≠0 then (XG,2) else if Th r.1=false then (XG,2) else Adm b r.2.1 r.1
theorem WD {its:List It}(h:Th its=true):its.length=10:=by
 have:=congrArg List.length (eq_of_beq h)
 simpa [Mx] using this
theorem Ahn {its:List It}(h:its.length=10):∃x0 x1 x2 x3 x4 x5 x6 x7 x8 x9,its=[x0,x1,x2,x3,x4,x5,x6,x7,x8,x9]:=by
 match its,h with
 |[x0,x1,x2,x3,x4,x5,x6,x7,x8,x9],_=>exact ⟨x0,x1,x2,x3,x4,x5,x6,x7,x8,x9,rfl⟩
theorem Afv {c:Ce}(hc:c.ok)(h:Ex c=0):Adm (Hq c) (Bg (Bc c)).length (Bc c)=(c,0):=by
 have k:=Agh hc h;have s:=Alw hc h;have cs:=LM h
 have e:Adm (Hq c) (Bg (Bc c)).length (Bc c)=(match JP (Ij (Cd (I3 c.key))),sgD ((Hq c).drop (Bg (Bc c)).length) with
  |some k,some s=>if Ex (Na ⟨4,0,c.subj⟩ ⟨4,0,c.iss⟩ ⟨1,c.serial,Gc⟩ ⟨1,c.fr,Gc⟩ ⟨1,c.un,Gc⟩ ⟨7,(if c.auth=true then 1 else 0),Gc⟩ ⟨1,c.path,Gc⟩ ⟨1,c.model,Gc⟩ k s)=0∧Hq (Na ⟨4,0,c.subj⟩ ⟨4,0,c.iss⟩ ⟨1,c.serial,Gc⟩ ⟨1,c.fr,Gc⟩ ⟨1,c.un,Gc⟩ ⟨7,(if c.auth=true then 1 else 0),Gc⟩ ⟨1,c.path,Gc⟩ ⟨1,c.model,Gc⟩ k s)=Hq c then (Na ⟨4,0,c.subj⟩ ⟨4,0,c.iss⟩ ⟨1,c.serial,Gc⟩ ⟨1,c.fr,Gc⟩ ⟨1,c.un,Gc⟩ ⟨7,(if c.auth=true then 1 else 0),Gc⟩ ⟨1,c.path,Gc⟩ ⟨1,c.model,Gc⟩ k s,0) else (XG,2)
  |_,_=>(XG,2)):=rfl
 rw [e,k,s];simp only [cs];rw [B7 ⟨h,by trivial⟩]
theorem Adw {b:List Int}{used:Nat}{its:List It}(hx:∀x∈its,OkX x)(hn:∀c:Ce,c.ok->Ex c=0->Hq c≠b):Adm b used its=(XG,2):=by
 unfold Adm;split
 ·split
  ·rename_i hk hs;rw [A7];intro ⟨h1,h2⟩;exact hn _ (IC (hx _ (by simp)) (hx _ (by simp)) (QZ hk).2 (Aak hs).1) h1 h2
  ·rfl
 ·rfl
theorem Acq (c:Ce):Th (Bc c)=true:=rfl
theorem Agw {b:List Int}(hb:J4 b){r:List It × Nat × Int}(hx:∀x∈r.1,OkX x)(hc:∀c:Ce,c.ok->Ex c=0->Hq c=b->r=(Bc c,(Bg (Bc c)).length,0)):FF b r=SD b:=by
 by_cases h5:b.length>512
 ·unfold FF SD;rw [B7 h5,B7 h5]
 by_cases hex:∃c:Ce,c.ok∧Ex c=0∧Hq c=b
 ·obtain ⟨c,c1,c2,c3⟩:=hex;have e:=hc c c1 c2 c3;subst c3;rw [UL c1 c2,e];unfold FF;rw [A7 h5,A7 (by simp),A7 (by simp [Acq])]
  exact Afv c1 c2
 ·have hn:∀c:Ce,c.ok->Ex c=0->Hq c≠b:=fun c h1 h2 h3=>hex ⟨c,h1,h2,h3⟩
  rw [Ae7 hb (by omega) hn]
  unfold FF;rw [A7 h5,Adw hx hn];split
  ·rfl
  ·split<;>rfl
section
variable {fu d:Nat}
theorem Acp (hfu:1000<=fu){b:List Int}(hb:J4 b)(hl:b.length<=1000000):
  Ae C0 Tryz.prog fu (d+9) H0 [.lst false 1 b.length (Af .u8 b)]=some ⟨[.agg (FF b (I5 fu [] 0 b 0 [])).1.cells,.sc (.int .i64 (FF b (I5 fu [] 0 b 0 [])).2)],[]⟩:=by
 refine (Vr fu (d+8) b.length (Af .u8 b)).trans ?_;have dec:=Aep (fu:=fu) (d:=d+3) hfu hb hl;obtain ⟨hat,hox⟩:=BT hb fu [] 0 0 [] (by omega) (by simp)
 generalize I5 fu [] 0 b 0 []=r at dec hat hox ⊢;obtain ⟨its,used,e⟩:=r;simp only at hat hox;unfold ZZ at dec;simp only at dec;unfold FF;simp only;by_cases h5:b.length>512
 ·rw [B7 h5]
  try unfold Aa
  repeat first
   |((with_reducible first|apply As|apply Am|apply At|apply Aq|apply A3|apply Bi|apply Bz|apply Al);· first|with_reducible rfl|(simp (disch:=omega) only [Cb]<;>with_reducible rfl))
   |((with_reducible first|apply Av|apply Au);· first|with_reducible rfl|omega|(simp (disch:=omega) only [gT,Cb]<;>omega))
   |(with_reducible apply Aw;· first|with_reducible rfl|(simp (disch:=omega) only [gF,Cb]<;>omega))
  try simp (disch:=omega) only [Cb]
  all_goals rfl
 rw [A7 h5];by_cases he:e=0
 rotate_left
 ·rw [B7 he];have he':(e != 0)=true:=by simp [he]
  try unfold Aa
  repeat first
   |((with_reducible first|apply As|apply Am|apply At|apply Aq|apply A3|apply Bi|apply Bz|apply Al);· first|with_reducible rfl|(simp (disch:=omega) only [dec,he']<;>with_reducible rfl))
   |((with_reducible first|apply Av|apply Au);· first|with_reducible rfl|omega|(simp (disch:=omega) only [gT,dec,he']<;>omega))
   |(with_reducible apply Aw;· first|with_reducible rfl|(simp (disch:=omega) only [gF,dec,he']<;>omega))
  try simp (disch:=omega) only [dec,he']
  all_goals rfl
 rw [A7 (by simp [he])]
 subst he;have e00:((0:Int) != 0)=false:=rfl;have e20:((2:Int) != 0)=true:=rfl;have ib:=Ae5 (fu:=fu) (d:=d+7) hfu its;have LT:=Si its;have tT:List.take (its.length*3) (Ck its)=Ck its:=Sl (by omega)
 cases hib:Th its
 ·rw [hib] at ib;rw [B7 rfl]
  try unfold Aa
  repeat first
   |((with_reducible first|apply As|apply Am|apply At|apply Aq|apply A3|apply Bi|apply Bz|apply Al);· first|with_reducible rfl|(simp (disch:=omega) only [dec,e00,Fa,Bw,LT,tT,ib,C7,D1]<;>with_reducible rfl))
   |((with_reducible first|apply Av|apply Au);· first|with_reducible rfl|omega|(simp (disch:=omega) only [gT,dec,e00,Fa,Bw,LT,tT,ib,C7,D1]<;>omega))
   |(with_reducible apply Aw;· first|with_reducible rfl|(simp (disch:=omega) only [gF,dec,e00,Fa,Bw,LT,tT,ib,C7,D1]<;>omega))
  try simp (disch:=omega) only [dec,e00,Fa,Bw,LT,tT,ib,C7,D1]
  all_goals rfl
 rw [hib] at ib;rw [A7 (by simp)]
 have h10:=WD hib;obtain ⟨x0,x1,x2,x3,x4,x5,x6,x7,x8,x9,rfl⟩:=Ahn h10;clear hib;have o1:=hox x1 (by simp)
 have o2:=hox x2 (by simp)
 have o3:=hox x3 (by simp)
 have o4:=hox x4 (by simp)
 have o9:=hox x9 (by simp)
 clear hox;have g14:List.getD (Ck [x0,x1,x2,x3,x4,x5,x6,x7,x8,x9]) 14 .top=.sc (.string x4.s):=rfl;have g5:List.getD (Ck [x0,x1,x2,x3,x4,x5,x6,x7,x8,x9]) 5 .top=.sc (.string x1.s):=rfl;have g8:List.getD (Ck [x0,x1,x2,x3,x4,x5,x6,x7,x8,x9]) 8 .top=.sc (.string x2.s):=rfl;have g10:List.getD (Ck [x0,x1,x2,x3,x4,x5,x6,x7,x8,x9]) 10 .top=.sc (.int .u64 x3.n):=rfl;have g16:List.getD (Ck [x0,x1,x2,x3,x4,x5,x6,x7,x8,x9]) 16 .top=.sc (.int .u64 x5.n):=rfl;have g19:List.getD (Ck [x0,x1,x2,x3,x4,x5,x6,x7,x8,x9]) 19 .top=.sc (.int .u64 x6.n):=rfl;have g22:List.getD (Ck [x0,x1,x2,x3,x4,x5,x6,x7,x8,x9]) 22 .top=.sc (.int .u64 x7.n):=rfl;have g25:List.getD (Ck [x0,x1,x2,x3,x4,x5,x6,x7,x8,x9]) 25 .top=.sc (.int .u64 x8.n):=rfl;have g28:List.getD (Ck [x0,x1,x2,x3,x4,x5,x6,x7,x8,x9]) 28 .top=.sc (.int .u64 x9.n):=rfl;have ln:[x0,x1,x2,x3,x4,x5,x6,x7,x8,x9].length=10:=rfl
 rw [ln] at dec ib LT tT;generalize Ck [x0,x1,x2,x3,x4,x5,x6,x7,x8,x9]=T at *
 clear h10;have hs4:=o4.s1;have L4:(Dm x4.s).length=x4.s.size:=by rw [Mg,Ak,Oy]
 have t4:List.take x4.s.size (Dm x4.s)=Af .u8 (Ij x4.s):=by rw [Mg,Sl (by rw [Ak,Oy];omega)]
 have dk:=Ad2 (xs:=Ks) (fu:=fu) (d:=d+6) hfu (YV x4.s);rw [Oy] at dk;unfold Adm;simp only;cases hk:JP (Ij x4.s) with
 |none=>
  rw [hk] at dk;simp only [XP,Ky.cells] at dk
  try unfold Aa
  repeat first
   |((with_reducible first|apply As|apply Am|apply At|apply Aq|apply A3|apply Bi|apply Bz|apply Al);· first|with_reducible rfl|(simp (disch:=omega) only [dec,e00,e20,Fa,Bw,Cb,Nat.reduceMul,LT,tT,ib,g14,L4,t4,dk,C7,D1]<;>with_reducible rfl))
   |((with_reducible first|apply Av|apply Au);· first|with_reducible rfl|omega|(simp (disch:=omega) only [gT,dec,e00,e20,Fa,Bw,Cb,Nat.reduceMul,LT,tT,ib,g14,L4,t4,dk,C7,D1]<;>omega))
   |(with_reducible apply Aw;· first|with_reducible rfl|(simp (disch:=omega) only [gF,dec,e00,e20,Fa,Bw,Cb,Nat.reduceMul,LT,tT,ib,g14,L4,t4,dk,C7,D1]<;>omega))
  try simp (disch:=omega) only [dec,e00,e20,Fa,Bw,Cb,Nat.reduceMul,LT,tT,ib,g14,L4,t4,dk,C7,D1]
  all_goals rfl
 |some k=>
  rw [hk] at dk;simp only [XP,Ky.cells] at dk;obtain ⟨k1,k2⟩:=QZ hk;have ds:=Afa (xs:=Ks) (fu:=fu) (d:=d+6) hfu (l:=b.drop used) (fun x hx=>hb x (List.mem_of_mem_drop hx))
  rw [List.length_drop] at ds;have tb:List.take (b.length-used) (List.drop used (Af .u8 b))=Af .u8 (b.drop used):=by rw [H6,Sl (by rw [Ak,List.length_drop];omega)]
  have nu:Int.toNat (used:Int)=used:=Gm used;cases hs:sgD (b.drop used) with
  |none=>
   rw [hs] at ds;simp only [Ab3,Sg.owned] at ds
   try unfold Aa
   repeat first
    |((with_reducible first|apply As|apply Am|apply At|apply Aq|apply A3|apply Bi|apply Bz|apply Al);· first|with_reducible rfl|(simp (disch:=omega) only [dec,e00,e20,Fa,Bw,Cb,Nat.reduceMul,LT,tT,ib,g14,L4,t4,dk,nu,tb,ds,C7,D1]<;>with_reducible rfl))
    |((with_reducible first|apply Av|apply Au);· first|with_reducible rfl|omega|(simp (disch:=omega) only [gT,dec,e00,e20,Fa,Bw,Cb,Nat.reduceMul,LT,tT,ib,g14,L4,t4,dk,nu,tb,ds,C7,D1]<;>omega))
    |(with_reducible apply Aw;· first|with_reducible rfl|(simp (disch:=omega) only [gF,dec,e00,e20,Fa,Bw,Cb,Nat.reduceMul,LT,tT,ib,g14,L4,t4,dk,nu,tb,ds,C7,D1]<;>omega))
   try simp (disch:=omega) only [dec,e00,e20,Fa,Bw,Cb,Nat.reduceMul,LT,tT,ib,g14,L4,t4,dk,nu,tb,ds,C7,D1]
   all_goals rfl
  |some s=>
   rw [hs] at ds;simp only [Ab3,Sg.owned] at ds;obtain ⟨s1,s2,s3⟩:=Aak hs;have cok:(Na x1 x2 x3 x5 x6 x7 x8 x9 k s).ok:=IC o3 o9 k2 s1;have en:=Abf (fu:=fu) (d:=d) (c:=Na x1 x2 x3 x5 x6 x7 x8 x9 k s) hfu cok.wf (Nat.le_trans o1.s1 (by omega)) (Nat.le_trans o2.s1 (by omega)) (Nat.le_trans s2 (by omega)) (Nat.lt_of_le_of_lt s2 (by omega))
   have ec:(Na x1 x2 x3 x5 x6 x7 x8 x9 k s).cells=[.sc (.string x1.s),.sc (.string x2.s),.sc (.int .u64 x3.n),.sc (.int .i64 k.h),.sc (.int .u64 k.root),.sc (.int .i64 (wrap .i64 x5.n)),.sc (.int .i64 (wrap .i64 x6.n)),.sc (.bool (x7.n==1)),.sc (.int .i64 (wrap .i64 x8.n)),.sc (.int .u64 x9.n),.sc (.int .i64 s.leaf),.lst false 1 s.chains.length (Af .u64 s.chains),.lst false 1 s.path.length (Af .u64 s.path)]:=rfl;have eB:=fun h=>Aid (c:=Na x1 x2 x3 x5 x6 x7 x8 x9 k s) cok.wf h
   have eL:=fun h=>LS (c:=Na x1 x2 x3 x5 x6 x7 x8 x9 k s) h
   have Lc:=Ak .u64 s.chains;have Lp:=Ak .u64 s.path;have tc:=Kc .u64 s.chains;have tp:=Kc .u64 s.path;simp only;generalize Na x1 x2 x3 x5 x6 x7 x8 x9 k s=c at *
   rw [ec] at en;unfold RW at en;by_cases hz:Ex c=0
   rotate_left
   ·have hz':(Ex c != 0)=true:=by simp [hz]
    rw [A7 hz] at en;rw [A7 (fun h=>hz h.1)]
    try unfold Aa
    repeat first
     |((with_reducible first|apply As|apply Am|apply At|apply Aq|apply A3|apply Bi|apply Bz|apply Al);· first|with_reducible rfl|(simp (disch:=omega) only [dec,e00,e20,Fa,Bw,Cb,Nat.reduceMul,LT,tT,ib,g14,L4,t4,dk,nu,tb,ds,g5,g8,g10,g16,g19,g22,g25,g28,Lc,Lp,tc,tp,en,hz',C7,D1]<;>with_reducible rfl))
     |((with_reducible first|apply Av|apply Au);· first|with_reducible rfl|omega|(simp (disch:=omega) only [gT,dec,e00,e20,Fa,Bw,Cb,Nat.reduceMul,LT,tT,ib,g14,L4,t4,dk,nu,tb,ds,g5,g8,g10,g16,g19,g22,g25,g28,Lc,Lp,tc,tp,en,hz',C7,D1]<;>omega))
     |(with_reducible apply Aw;· first|with_reducible rfl|(simp (disch:=omega) only [gF,dec,e00,e20,Fa,Bw,Cb,Nat.reduceMul,LT,tT,ib,g14,L4,t4,dk,nu,tb,ds,g5,g8,g10,g16,g19,g22,g25,g28,Lc,Lp,tc,tp,en,hz',C7,D1]<;>omega))
    try simp (disch:=omega) only [dec,e00,e20,Fa,Bw,Cb,Nat.reduceMul,LT,tT,ib,g14,L4,t4,dk,nu,tb,ds,g5,g8,g10,g16,g19,g22,g25,g28,Lc,Lp,tc,tp,en,hz',C7,D1]
    all_goals rfl
   rw [B7 hz] at en;have be:=ML (fu:=fu) (d:=d+7) (eB hz) hb;have LE:=Ak .u8 (Hq c);have tE:=Kc .u8 (Hq c);by_cases hq:Hq c=b
   ·rw [B7 ⟨hz,hq⟩];simp only [hq,decide_true] at be en LE tE;simp only [ec]
    try unfold Aa
    repeat first
     |((with_reducible first|apply As|apply Am|apply At|apply Aq|apply A3|apply Bi|apply Bz|apply Al);· first|with_reducible rfl|(simp (disch:=omega) only [dec,e00,e20,Fa,Bw,Cb,Nat.reduceMul,LT,tT,ib,g14,L4,t4,dk,nu,tb,ds,g5,g8,g10,g16,g19,g22,g25,g28,Lc,Lp,tc,tp,en,LE,tE,be,C7,D1]<;>with_reducible rfl))
     |((with_reducible first|apply Av|apply Au);· first|with_reducible rfl|omega|(simp (disch:=omega) only [gT,dec,e00,e20,Fa,Bw,Cb,Nat.reduceMul,LT,tT,ib,g14,L4,t4,dk,nu,tb,ds,g5,g8,g10,g16,g19,g22,g25,g28,Lc,Lp,tc,tp,en,LE,tE,be,C7,D1]<;>omega))
     |(with_reducible apply Aw;· first|with_reducible rfl|(simp (disch:=omega) only [gF,dec,e00,e20,Fa,Bw,Cb,Nat.reduceMul,LT,tT,ib,g14,L4,t4,dk,nu,tb,ds,g5,g8,g10,g16,g19,g22,g25,g28,Lc,Lp,tc,tp,en,LE,tE,be,C7,D1]<;>omega))
    try simp (disch:=omega) only [dec,e00,e20,Fa,Bw,Cb,Nat.reduceMul,LT,tT,ib,g14,L4,t4,dk,nu,tb,ds,g5,g8,g10,g16,g19,g22,g25,g28,Lc,Lp,tc,tp,en,LE,tE,be,C7,D1]
    all_goals rfl
   ·rw [A7 (fun h=>hq h.2)]
    simp only [hq,decide_false] at be
    try unfold Aa
    repeat first
     |((with_reducible first|apply As|apply Am|apply At|apply Aq|apply A3|apply Bi|apply Bz|apply Al);· first|with_reducible rfl|(simp (disch:=omega) only [dec,e00,e20,Fa,Bw,Cb,Nat.reduceMul,LT,tT,ib,g14,L4,t4,dk,nu,tb,ds,g5,g8,g10,g16,g19,g22,g25,g28,Lc,Lp,tc,tp,en,LE,tE,be,C7,D1]<;>with_reducible rfl))
     |((with_reducible first|apply Av|apply Au);· first|with_reducible rfl|omega|(simp (disch:=omega) only [gT,dec,e00,e20,Fa,Bw,Cb,Nat.reduceMul,LT,tT,ib,g14,L4,t4,dk,nu,tb,ds,g5,g8,g10,g16,g19,g22,g25,g28,Lc,Lp,tc,tp,en,LE,tE,be,C7,D1]<;>omega))
     |(with_reducible apply Aw;· first|with_reducible rfl|(simp (disch:=omega) only [gF,dec,e00,e20,Fa,Bw,Cb,Nat.reduceMul,LT,tT,ib,g14,L4,t4,dk,nu,tb,ds,g5,g8,g10,g16,g19,g22,g25,g28,Lc,Lp,tc,tp,en,LE,tE,be,C7,D1]<;>omega))
    try simp (disch:=omega) only [dec,e00,e20,Fa,Bw,Cb,Nat.reduceMul,LT,tT,ib,g14,L4,t4,dk,nu,tb,ds,g5,g8,g10,g16,g19,g22,g25,g28,Lc,Lp,tc,tp,en,LE,tE,be,C7,D1]
    all_goals rfl
theorem Alh (hfu:1000<=fu){b:List Int}(hb:J4 b)(hl:b.length<=1000000):
  Ae C0 Tryz.prog fu (d+9) H0 [.lst false 1 b.length (Af .u8 b)]=some ⟨[.agg (SD b).1.cells,.sc (.int .i64 (SD b).2)],[]⟩:=by
 have e:FF b (I5 fu [] 0 b 0 [])=SD b:=Agw hb (BT hb fu [] 0 0 [] (by omega) (by simp)).2 (fun c c1 c2 c3=>by subst c3;exact UZ c1 c2 (by omega))
 rw [←e];exact Acp hfu hb hl
end
end
section
open Go.IntKind (wrap)
structure An where
 name:ByteArray
 key:Ky
structure Rv where
 iss:ByteArray
 ser:Int
 at_:Int
def An.cells (a:An):List PV:=[.sc (.string a.name),.sc (.int .i64 a.key.h),.sc (.int .u64 a.key.root)]
def Rv.cells (r:Rv):List PV:=[.sc (.string r.iss),.sc (.int .u64 r.ser),.sc (.int .i64 r.at_)]
def Il (l:List An):List PV:=l.flatMap An.cells
def G3 (l:List Rv):List PV:=l.flatMap Rv.cells
def B8 (l:List Ce):List PV:=l.flatMap Ce.cells
theorem An.cells_len (a:An):a.cells.length=3:=rfl
theorem Rv.cells_len (r:Rv):r.cells.length=3:=rfl
theorem Ce.cells_len (c:Ce):c.cells.length=13:=rfl
theorem Kw (l:List Ce):(B8 l).length=l.length*13:=X4 Ce.cells_len l
abbrev YE (a b:ByteArray):Bool:=Array.toList (ByteArray.data a)==Array.toList (ByteArray.data b)
def Up (c:Ce)(now:Int)(r:Rv):Bool:=YE r.iss c.iss&&(r.ser==c.serial&&decide (r.at_<=now))
def GS (c:Ce)(now:Int)(l:List Rv):Int:=if l.any (Up c now)=true then 39 else 0
def Gz (c:Ce)(i:Int)(l:List Rv)(now:Int):Int:=
 if A4 c≠0 then A4 c else if now<c.fr then 38 else if now>c.un then 38 else if i>0 then (if c.auth=false then 38 else if c.path<i-1 then 38 else GS c now l) else GS c now l
def Mz (c:Ce):Nat->List An->Int
 |_,[]=> -1
 |i,a::r=>if YE a.name c.iss=true∧Ro c a.key=0 then (i:Int) else Mz c (i+1) r
def Ad5 (c:Ce)(l:List An):Int × Int:=if Mz c 0 l<0 then (0,38) else (Mz c 0 l,0)
def Kr (ans:List An)(vs:List Rv)(now:Int):Nat->List Ce->Int × Int
 |_,[]=>(0,0)
 |i,[c]=>if Gz c i vs now≠0 then (0,Gz c i vs now) else Ad5 c ans
 |i,c::c2::r=>if Gz c i vs now≠0 then (0,Gz c i vs now) else if YE c.iss c2.subj=false then (0,38) else if Ro c c2.key≠0 then (0,Ro c c2.key) else Kr ans vs now (i+1) (c2::r)
def P2 (cs:List Ce)(ans:List An)(vs:List Rv)(now:Int):Int × Int:=
 if now<0 then (0,9) else if now>1099511627776 then (0,9) else if cs.length<1 then (0,38) else if cs.length>3 then (0,38) else Kr ans vs now 0 cs
structure Ce.in_ (c:Ce):Prop where
 wf:c.wf
 s1:c.subj.size<=9223372036854775807
 s2:c.iss.size<=9223372036854775807
theorem cer {l:List Ce}{i:Nat}{c:Ce}(h:l[i]?=some c):
  (B8 l).getD (i*13) .top=.sc (.string c.subj)∧(B8 l).getD (i*13+1) .top=.sc (.string c.iss)∧(B8 l).getD (i*13+1+1) .top=.sc (.int .u64 c.serial) ∧
  (B8 l).getD (i*13+1+1+1) .top=.sc (.int .i64 c.key.h)∧(B8 l).getD (i*13+1+1+1+1) .top=.sc (.int .u64 c.key.root)∧(B8 l).getD (i*13+1+1+1+1+1) .top=.sc (.int .i64 c.fr) ∧
  (B8 l).getD (i*13+1+1+1+1+1+1) .top=.sc (.int .i64 c.un)∧(B8 l).getD (i*13+1+1+1+1+1+1+1) .top=.sc (.bool c.auth)∧(B8 l).getD (i*13+1+1+1+1+1+1+1+1) .top=.sc (.int .i64 c.path) ∧
  (B8 l).getD (i*13+1+1+1+1+1+1+1+1+1) .top=.sc (.int .u64 c.model)∧(B8 l).getD (i*13+1+1+1+1+1+1+1+1+1+1) .top=.sc (.int .i64 c.sig.leaf) ∧
  (B8 l).getD (i*13+1+1+1+1+1+1+1+1+1+1+1) .top=.lst false 1 c.sig.chains.length (Af .u64 c.sig.chains)∧(B8 l).getD (i*13+1+1+1+1+1+1+1+1+1+1+1+1) .top=.lst false 1 c.sig.path.length (Af .u64 c.sig.path):=
 ⟨Ec Ce.cells_len h (j:=0) (by omega),Ec Ce.cells_len h (j:=1) (by omega),Ec Ce.cells_len h (j:=2) (by omega),Ec Ce.cells_len h (j:=3) (by omega),Ec Ce.cells_len h (j:=4) (by omega),Ec Ce.cells_len h (j:=5) (by omega),Ec Ce.cells_len h (j:=6) (by omega),Ec Ce.cells_len h (j:=7) (by omega),Ec Ce.cells_len h (j:=8) (by omega),Ec Ce.cells_len h (j:=9) (by omega),Ec Ce.cells_len h (j:=10) (by omega),Ec Ce.cells_len h (j:=11) (by omega),Ec Ce.cells_len h (j:=12) (by omega)⟩
theorem rva {l:List Rv}{i:Nat}{r:Rv}(h:l[i]?=some r):(G3 l).getD (i*3) .top=.sc (.string r.iss)∧(G3 l).getD (i*3+1) .top=.sc (.int .u64 r.ser)∧(G3 l).getD (i*3+2) .top=.sc (.int .i64 r.at_):=
 ⟨Ec Rv.cells_len h (j:=0) (by omega),Ec Rv.cells_len h (j:=1) (by omega),Ec Rv.cells_len h (j:=2) (by omega)⟩
theorem ana {l:List An}{i:Nat}{a:An}(h:l[i]?=some a):(Il l).getD (i*3) .top=.sc (.string a.name)∧(Il l).getD (i*3+1) .top=.sc (.int .i64 a.key.h)∧(Il l).getD (i*3+2) .top=.sc (.int .u64 a.key.root):=
 ⟨Ec An.cells_len h (j:=0) (by omega),Ec An.cells_len h (j:=1) (by omega),Ec An.cells_len h (j:=2) (by omega)⟩
section
variable {fu d:Nat}
theorem NJ {call:Ai}{a0_0 a0_1:ByteArray}{a0_2 a0_3 a0_4 a0_5 a0_6 a0_8 a0_9 a0_10 a1 a3:Int}{a0_7:Bool}{a0_11n a0_12n a2n:Nat}{a0_11 a0_12 a2:List PV}{c:Ce}{now:Int}{vs:List Rv}(hl:vs.length<=1000000):∀(r:List Rv)(i nn:Nat),vs.drop i=r->r.length<nn->i<=vs.length ->
  Cn fu call a0_0 a0_1 a0_2 a0_3 a0_4 a0_5 a0_6 a0_7 a0_8 a0_9 a0_10 a0_11n a0_11 a0_12n a0_12 a1 a2n a2 a3 nn now vs.length (G3 vs) (vs.length:Int) (i:Int) c.subj c.iss c.serial c.key.h c.key.root c.fr c.un c.auth c.path c.model c.sig.leaf c.sig.chains.length (Af .u64 c.sig.chains) c.sig.path.length (Af .u64 c.sig.path) =
   some ⟨[.sc (.int .i64 (GS c now r))],[]⟩
 |_,_,0,_,h,_=>by omega
 |[],i,nn+1,h,hn,hi=>by
  have:=drop_nil h;rw [Hu,Dt _ _ _ (by omega)]
  rfl
 |r::rs,i,nn+1,h,hn,hi=>by
  obtain ⟨h1,h2,h3⟩:=Cg h;simp only [Jj] at hn;obtain ⟨c0,c1,c2⟩:=rva h2;have w:wrap .i64 ((i:Int)+1)=((i+1:Nat):Int):=by rw [Aj (by omega) (by omega)];omega
  have nt:Int.toNat (i:Int)=i:=Gm _;have c2':(G3 vs).getD (i*3+1+1) .top=.sc (.int .i64 r.at_):=c2;have ih:=NJ (call:=call) (a0_0:=a0_0) (a0_1:=a0_1) (a0_2:=a0_2) (a0_3:=a0_3) (a0_4:=a0_4) (a0_5:=a0_5) (a0_6:=a0_6) (a0_7:=a0_7) (a0_8:=a0_8) (a0_9:=a0_9) (a0_10:=a0_10) (a1:=a1) (a3:=a3) (a0_11n:=a0_11n) (a0_12n:=a0_12n) (a2n:=a2n) (a0_11:=a0_11) (a0_12:=a0_12) (a2:=a2) (c:=c) (now:=now) hl rs (i+1) nn h3 (by omega) (by omega)
  have er:GS c now (r::rs)=if Up c now r=true then 39 else GS c now rs:=by
   unfold GS;rw [List.any_cons];cases Up c now r<;>rfl
  rw [er,Hu];unfold Up;cases e1:YE r.iss c.iss
  ·rw [Bool.false_and,A7 (by simp),←ih]
   try unfold Aa
   repeat first
    |((with_reducible first|apply As|apply Am|apply At|apply Aq|apply A3|apply Bi|apply B3|apply Al);· first|with_reducible rfl|(simp (disch:=omega) only [nt,c0,c1,c2',e1,w]<;>with_reducible rfl))
    |((with_reducible first|apply Av|apply Au);· first|with_reducible rfl|omega|(simp (disch:=omega) only [gT,nt,c0,c1,c2',e1,w]<;>omega))
    |(with_reducible apply Aw;· first|with_reducible rfl|(simp (disch:=omega) only [gF,nt,c0,c1,c2',e1,w]<;>omega))
   try simp (disch:=omega) only [nt,c0,c1,c2',e1,w]
   all_goals rfl
  ·cases e2:(r.ser==c.serial)
   ·rw [Zzm,Bool.false_and,A7 (by simp),←ih]
    try unfold Aa
    repeat first
     |((with_reducible first|apply As|apply Am|apply At|apply Aq|apply A3|apply Bi|apply B3|apply Al);· first|with_reducible rfl|(simp (disch:=omega) only [nt,c0,c1,c2',e1,e2,w]<;>with_reducible rfl))
     |((with_reducible first|apply Av|apply Au);· first|with_reducible rfl|omega|(simp (disch:=omega) only [gT,nt,c0,c1,c2',e1,e2,w]<;>omega))
     |(with_reducible apply Aw;· first|with_reducible rfl|(simp (disch:=omega) only [gF,nt,c0,c1,c2',e1,e2,w]<;>omega))
    try simp (disch:=omega) only [nt,c0,c1,c2',e1,e2,w]
    all_goals rfl
   ·by_cases e3:r.at_<=now
    ·rw [B7 (by simp [e3])]
     try unfold Aa
     repeat first
      |((with_reducible first|apply As|apply Am|apply At|apply Aq|apply A3|apply Bi|apply B3|apply Al);· first|with_reducible rfl|(simp (disch:=omega) only [nt,c0,c1,c2',e1,e2,w]<;>with_reducible rfl))
      |((with_reducible first|apply Av|apply Au);· first|with_reducible rfl|omega|(simp (disch:=omega) only [gT,nt,c0,c1,c2',e1,e2,w]<;>omega))
      |(with_reducible apply Aw;· first|with_reducible rfl|(simp (disch:=omega) only [gF,nt,c0,c1,c2',e1,e2,w]<;>omega))
     try simp (disch:=omega) only [nt,c0,c1,c2',e1,e2,w]
     all_goals rfl
    ·rw [A7 (by simp [e3]),←ih]
     try unfold Aa
     repeat first
      |((with_reducible first|apply As|apply Am|apply At|apply Aq|apply A3|apply Bi|apply B3|apply Al);· first|with_reducible rfl|(simp (disch:=omega) only [nt,c0,c1,c2',e1,e2,w]<;>with_reducible rfl))
      |((with_reducible first|apply Av|apply Au);· first|with_reducible rfl|omega|(simp (disch:=omega) only [gT,nt,c0,c1,c2',e1,e2,w]<;>omega))
      |(with_reducible apply Aw;· first|with_reducible rfl|(simp (disch:=omega) only [gF,nt,c0,c1,c2',e1,e2,w]<;>omega))
     try simp (disch:=omega) only [nt,c0,c1,c2',e1,e2,w]
     all_goals rfl
theorem Abn (hfu:1000<=fu){c:Ce}(hc:c.in_){vs:List Rv}(hl:vs.length<=900){i:Int}(hi:0<=i)(hi':i<=1000)(now:Int):
  Ae C0 Tryz.prog fu (d+8) I8 [.agg c.cells,.sc (.int .i64 i),.lst false 3 vs.length (G3 vs),.sc (.int .i64 now)]=some ⟨[.sc (.int .i64 (Gz c i vs now))],[]⟩:=by
 refine (Q7 fu (d+7) c.subj c.iss c.serial c.key.h c.key.root c.fr c.un c.auth c.path c.model c.sig.leaf c.sig.chains.length (Af .u64 c.sig.chains) c.sig.path.length (Af .u64 c.sig.path) i vs.length (G3 vs) now).trans ?_;have bq:=IZ (fu:=fu) (d:=d) hfu hc.wf hc.s1 hc.s2;simp only [Ce.cells] at bq;unfold Hl at bq;have lp:=NJ (fu:=fu) (call:=Ae C0 Tryz.prog fu (d+7)) (a0_0:=c.subj) (a0_1:=c.iss) (a0_2:=c.serial) (a0_3:=c.key.h) (a0_4:=c.key.root) (a0_5:=c.fr) (a0_6:=c.un) (a0_7:=c.auth) (a0_8:=c.path) (a0_9:=c.model) (a0_10:=c.sig.leaf) (a1:=i) (a3:=now) (a0_11n:=c.sig.chains.length) (a0_12n:=c.sig.path.length) (a2n:=vs.length) (a0_11:=Af .u64 c.sig.chains) (a0_12:=Af .u64 c.sig.path) (a2:=G3 vs) (c:=c) (now:=now) (vs:=vs) (by omega) vs 0 fu rfl (by omega) (by omega)
 unfold Gz;by_cases h0:A4 c=0
 rotate_left
 ·have hne:(A4 c != 0)=true:=by simp [h0]
  rw [A7 h0] at bq;rw [B7 h0]
  try unfold Aa
  repeat first
   |((with_reducible first|apply As|apply Am|apply At|apply Aq|apply A3|apply Bi|apply B3|apply Al);· first|with_reducible rfl|(simp (disch:=omega) only [bq,hne]<;>with_reducible rfl))
   |((with_reducible first|apply Av|apply Au);· first|with_reducible rfl|omega|(simp (disch:=omega) only [gT,bq,hne]<;>omega))
   |(with_reducible apply Aw;· first|with_reducible rfl|(simp (disch:=omega) only [gF,bq,hne]<;>omega))
  try simp (disch:=omega) only [bq,hne]
  all_goals rfl
 rw [B7 h0] at bq;rw [A7 (by simp [h0])]
 have e00:((0:Int) != 0)=false:=rfl;have w:wrap .i64 (i-1)=i-1:=Aj (by omega) (by omega)
 by_cases h1:now<c.fr
 ·rw [B7 h1]
  try unfold Aa
  repeat first
   |((with_reducible first|apply As|apply Am|apply At|apply Aq|apply A3|apply Bi|apply B3|apply Al);· first|with_reducible rfl|(simp (disch:=omega) only [bq,e00]<;>with_reducible rfl))
   |((with_reducible first|apply Av|apply Au);· first|with_reducible rfl|omega|(simp (disch:=omega) only [gT,bq,e00]<;>omega))
   |(with_reducible apply Aw;· first|with_reducible rfl|(simp (disch:=omega) only [gF,bq,e00]<;>omega))
  try simp (disch:=omega) only [bq,e00]
  all_goals rfl
 rw [A7 h1];by_cases h2:now>c.un
 ·rw [B7 h2]
  try unfold Aa
  repeat first
   |((with_reducible first|apply As|apply Am|apply At|apply Aq|apply A3|apply Bi|apply B3|apply Al);· first|with_reducible rfl|(simp (disch:=omega) only [bq,e00]<;>with_reducible rfl))
   |((with_reducible first|apply Av|apply Au);· first|with_reducible rfl|omega|(simp (disch:=omega) only [gT,bq,e00]<;>omega))
   |(with_reducible apply Aw;· first|with_reducible rfl|(simp (disch:=omega) only [gF,bq,e00]<;>omega))
  try simp (disch:=omega) only [bq,e00]
  all_goals rfl
 rw [A7 h2];by_cases h3:i>0
 ·rw [B7 h3];cases h4:c.auth
  ·rw [B7 rfl];rw [h4] at bq
   try unfold Aa
   repeat first
    |((with_reducible first|apply As|apply Am|apply At|apply Aq|apply A3|apply Bi|apply B3|apply Al);· first|with_reducible rfl|(simp (disch:=omega) only [bq,e00,D1]<;>with_reducible rfl))
    |((with_reducible first|apply Av|apply Au);· first|with_reducible rfl|omega|(simp (disch:=omega) only [gT,bq,e00,D1]<;>omega))
    |(with_reducible apply Aw;· first|with_reducible rfl|(simp (disch:=omega) only [gF,bq,e00,D1]<;>omega))
   try simp (disch:=omega) only [bq,e00,D1]
   all_goals rfl
  ·rw [A7 (by simp)]
   rw [h4] at lp bq;by_cases h5:c.path<i-1
   ·rw [B7 h5]
    try unfold Aa
    repeat first
     |((with_reducible first|apply As|apply Am|apply At|apply Aq|apply A3|apply Bi|apply B3|apply Al);· first|with_reducible rfl|(simp (disch:=omega) only [bq,e00,h4,w,C7]<;>with_reducible rfl))
     |((with_reducible first|apply Av|apply Au);· first|with_reducible rfl|omega|(simp (disch:=omega) only [gT,bq,e00,h4,w,C7]<;>omega))
     |(with_reducible apply Aw;· first|with_reducible rfl|(simp (disch:=omega) only [gF,bq,e00,h4,w,C7]<;>omega))
    try simp (disch:=omega) only [bq,e00,h4,w,C7]
    all_goals rfl
   ·rw [A7 h5,←lp]
    try unfold Aa
    repeat first
     |((with_reducible first|apply As|apply Am|apply At|apply Aq|apply A3|apply Bi|apply B3|apply Al);· first|with_reducible rfl|(simp (disch:=omega) only [bq,e00,h4,w,C7]<;>with_reducible rfl))
     |((with_reducible first|apply Av|apply Au);· first|with_reducible rfl|omega|(simp (disch:=omega) only [gT,bq,e00,h4,w,C7]<;>omega))
     |(with_reducible apply Aw;· first|with_reducible rfl|(simp (disch:=omega) only [gF,bq,e00,h4,w,C7]<;>omega))
    try simp (disch:=omega) only [bq,e00,h4,w,C7]
    all_goals rfl
 ·rw [A7 h3,←lp]
  try unfold Aa
  repeat first
   |((with_reducible first|apply As|apply Am|apply At|apply Aq|apply A3|apply Bi|apply B3|apply Al);· first|with_reducible rfl|(simp (disch:=omega) only [bq,e00]<;>with_reducible rfl))
   |((with_reducible first|apply Av|apply Au);· first|with_reducible rfl|omega|(simp (disch:=omega) only [gT,bq,e00]<;>omega))
   |(with_reducible apply Aw;· first|with_reducible rfl|(simp (disch:=omega) only [gF,bq,e00]<;>omega))
  try simp (disch:=omega) only [bq,e00]
  all_goals rfl
theorem AN (hfu:1000<=fu){a0n a1n a2n:Nat}{a0 a1 a2:List PV}{a3:Int}{c:Ce}(hc:c.in_){ans:List An}(hl:ans.length<=1000000):∀(r:List An)(i nn:Nat),ans.drop i=r->r.length<nn->i<=ans.length ->
  D8 fu (Ae C0 Tryz.prog fu (d+9)) a0n a0 a1n a1 a2n a2 a3 nn ans.length (Il ans) (ans.length:Int) (i:Int) c.subj c.iss c.serial c.key.h c.key.root c.fr c.un c.auth c.path c.model c.sig.leaf c.sig.chains.length (Af .u64 c.sig.chains) c.sig.path.length (Af .u64 c.sig.path) =
   some ⟨(if Mz c i r<0 then [.sc (.int .i64 0),.sc (.int .i64 38)] else [.sc (.int .i64 (Mz c i r)),.sc (.int .i64 0)]),[]⟩
 |_,_,0,_,h,_=>by omega
 |[],i,nn+1,h,hn,hi=>by
  have:=drop_nil h;rw [Kl,Dt _ _ _ (by omega)]
  rfl
 |a::rs,i,nn+1,h,hn,hi=>by
  obtain ⟨h1,h2,h3⟩:=Cg h;simp only [Jj] at hn;obtain ⟨c0,c1,c2⟩:=ana h2;have w:wrap .i64 ((i:Int)+1)=((i+1:Nat):Int):=by rw [Aj (by omega) (by omega)];omega
  have nt:Int.toNat (i:Int)=i:=Gm _;have c2':(Il ans).getD (i*3+1+1) .top=.sc (.int .u64 a.key.root):=c2;have vq:=BA (fu:=fu) (d:=d) hfu hc.wf hc.s1 hc.s2 a.key;simp only [Ce.cells,Ky.cells] at vq;have ih:=AN hfu (a0n:=a0n) (a1n:=a1n) (a2n:=a2n) (a0:=a0) (a1:=a1) (a2:=a2) (a3:=a3) hc hl rs (i+1) nn h3 (by omega) (by omega)
  rw [Kl];cases e1:YE a.name c.iss
  ·have er:Mz c i (a::rs)=Mz c (i+1) rs:=by rw [Mz,A7 (by simp [e1])]
   rw [er,←ih]
   try unfold Aa
   repeat first
    |((with_reducible first|apply As|apply Am|apply At|apply Aq|apply A3|apply Bi|apply B3|apply Al);· first|with_reducible rfl|(simp (disch:=omega) only [nt,c0,c1,c2',e1,w]<;>with_reducible rfl))
    |((with_reducible first|apply Av|apply Au);· first|with_reducible rfl|omega|(simp (disch:=omega) only [gT,nt,c0,c1,c2',e1,w]<;>omega))
    |(with_reducible apply Aw;· first|with_reducible rfl|(simp (disch:=omega) only [gF,nt,c0,c1,c2',e1,w]<;>omega))
   try simp (disch:=omega) only [nt,c0,c1,c2',e1,w]
   all_goals rfl
  ·by_cases e2:Ro c a.key=0
   ·have e2':(Ro c a.key==0)=true:=by simp [e2]
    have er:Mz c i (a::rs)=(i:Int):=by rw [Mz,B7 ⟨e1,e2⟩]
    rw [er,A7 (by omega)]
    try unfold Aa
    repeat first
     |((with_reducible first|apply As|apply Am|apply At|apply Aq|apply A3|apply Bi|apply B3|apply Al);· first|with_reducible rfl|(simp (disch:=omega) only [nt,c0,c1,c2',e1,w,vq,e2']<;>with_reducible rfl))
     |((with_reducible first|apply Av|apply Au);· first|with_reducible rfl|omega|(simp (disch:=omega) only [gT,nt,c0,c1,c2',e1,w,vq,e2']<;>omega))
     |(with_reducible apply Aw;· first|with_reducible rfl|(simp (disch:=omega) only [gF,nt,c0,c1,c2',e1,w,vq,e2']<;>omega))
    try simp (disch:=omega) only [nt,c0,c1,c2',e1,w,vq,e2']
    all_goals rfl
   ·have e2':(Ro c a.key==0)=false:=by simp [e2]
    have er:Mz c i (a::rs)=Mz c (i+1) rs:=by rw [Mz,A7 (by simp [e2])]
    rw [er,←ih]
    try unfold Aa
    repeat first
     |((with_reducible first|apply As|apply Am|apply At|apply Aq|apply A3|apply Bi|apply B3|apply Al);· first|with_reducible rfl|(simp (disch:=omega) only [nt,c0,c1,c2',e1,w,vq,e2']<;>with_reducible rfl))
     |((with_reducible first|apply Av|apply Au);· first|with_reducible rfl|omega|(simp (disch:=omega) only [gT,nt,c0,c1,c2',e1,w,vq,e2']<;>omega))
     |(with_reducible apply Aw;· first|with_reducible rfl|(simp (disch:=omega) only [gF,nt,c0,c1,c2',e1,w,vq,e2']<;>omega))
    try simp (disch:=omega) only [nt,c0,c1,c2',e1,w,vq,e2']
    all_goals rfl
theorem PP (hfu:1000<=fu){a0n a1n a2n:Nat}{a0 a1 a2:List PV}{a3:Int}{cs:List Ce}(hc:∀c∈cs,c.in_)(h3:cs.length<=3){ans:List An}(hl:ans.length<=900){vs:List Rv}(hv:vs.length<=900){now:Int}:∀(r:List Ce)(i nn:Nat),r≠[]->cs.drop i=r->r.length<nn->i<=cs.length ->
  Gf fu (Ae C0 Tryz.prog fu (d+9)) a0n a0 a1n a1 a2n a2 a3 nn cs.length (B8 cs) ans.length (Il ans) vs.length (G3 vs) now cs.length (B8 cs) (cs.length:Int) (i:Int) =
   some ⟨[.sc (.int .i64 (Kr ans vs now i r).1),.sc (.int .i64 (Kr ans vs now i r).2)],[]⟩
 |_,_,0,_,_,h,_=>by omega
 |[],i,nn+1,hne,_,_,_=>absurd rfl hne
 |[c],i,nn+1,hne,h,hn,hi=>by
  obtain ⟨h1,h2,h3'⟩:=Cg h;have hlast:=drop_nil h3';have hci:=hc c (List.mem_of_getElem? h2);obtain ⟨c0,c1,c2,c3,c4,c5,c6,c7,c8,c9,c10,c11,c12⟩:=cer h2;have nt:Int.toNat (i:Int)=i:=Gm _;have lk:=Abn (fu:=fu) (d:=d+1) hfu hci hv (i:=(i:Int)) (by omega) (by omega) now
  simp only [Ce.cells] at lk;have w:wrap .i64 ((cs.length:Int)-1)=(i:Int):=by rw [Aj (by omega) (by omega)];omega
  have eb:((i:Int)==(i:Int))=true:=by simp
  rw [Kt];unfold Kr;by_cases hz:Gz c i vs now=0
  ·have pa:=AN (fu:=fu) (d:=d) hfu (a0n:=a0n) (a1n:=a1n) (a2n:=a2n) (a0:=a0) (a1:=a1) (a2:=a2) (a3:=a3) hci (ans:=ans) (by omega) ans 0 fu rfl (by omega) (by omega)
   have e0:(Gz c i vs now != 0)=false:=by simp [hz]
   have ea:(some ⟨(if Mz c 0 ans<0 then [.sc (.int .i64 0),.sc (.int .i64 38)] else [.sc (.int .i64 (Mz c 0 ans)),.sc (.int .i64 0)]),[]⟩:Option Az)=some ⟨[.sc (.int .i64 (Ad5 c ans).1),.sc (.int .i64 (Ad5 c ans).2)],[]⟩:=by
    unfold Ad5;split<;>rfl
   rw [ea] at pa;rw [A7 (by simp [hz]),←pa]
   try unfold Aa
   repeat first
    |((with_reducible first|apply As|apply Am|apply At|apply Aq|apply A3|apply Bi|apply B3|apply Al);· first|with_reducible rfl|(simp (disch:=omega) only [nt,c0,c1,c2,c3,c4,c5,c6,c7,c8,c9,c10,c11,c12,lk,e0,w,eb]<;>with_reducible rfl))
    |((with_reducible first|apply Av|apply Au);· first|with_reducible rfl|omega|(simp (disch:=omega) only [gT,nt,c0,c1,c2,c3,c4,c5,c6,c7,c8,c9,c10,c11,c12,lk,e0,w,eb]<;>omega))
    |(with_reducible apply Aw;· first|with_reducible rfl|(simp (disch:=omega) only [gF,nt,c0,c1,c2,c3,c4,c5,c6,c7,c8,c9,c10,c11,c12,lk,e0,w,eb]<;>omega))
   try simp (disch:=omega) only [nt,c0,c1,c2,c3,c4,c5,c6,c7,c8,c9,c10,c11,c12,lk,e0,w,eb]
   all_goals rfl
  ·have e0:(Gz c i vs now != 0)=true:=by simp [hz]
   rw [B7 hz]
   try unfold Aa
   repeat first
    |((with_reducible first|apply As|apply Am|apply At|apply Aq|apply A3|apply Bi|apply B3|apply Al);· first|with_reducible rfl|(simp (disch:=omega) only [nt,c0,c1,c2,c3,c4,c5,c6,c7,c8,c9,c10,c11,c12,lk,e0]<;>with_reducible rfl))
    |((with_reducible first|apply Av|apply Au);· first|with_reducible rfl|omega|(simp (disch:=omega) only [gT,nt,c0,c1,c2,c3,c4,c5,c6,c7,c8,c9,c10,c11,c12,lk,e0]<;>omega))
    |(with_reducible apply Aw;· first|with_reducible rfl|(simp (disch:=omega) only [gF,nt,c0,c1,c2,c3,c4,c5,c6,c7,c8,c9,c10,c11,c12,lk,e0]<;>omega))
   try simp (disch:=omega) only [nt,c0,c1,c2,c3,c4,c5,c6,c7,c8,c9,c10,c11,c12,lk,e0]
   all_goals rfl
 |c::e::r,i,nn+1,hne,h,hn,hi=>by
  obtain ⟨h1,h2,h3'⟩:=Cg h;obtain ⟨k1,k2,k3⟩:=Cg h3';simp only [Jj] at hn;have hci:=hc c (List.mem_of_getElem? h2);obtain ⟨c0,c1,c2,c3,c4,c5,c6,c7,c8,c9,c10,c11,c12⟩:=cer h2;obtain ⟨q0,q1,q2,q3,q4,_⟩:=cer k2;have nt:Int.toNat (i:Int)=i:=Gm _;have nt1:Int.toNat ((i+1:Nat):Int)=i+1:=Gm _;have lk:=Abn (fu:=fu) (d:=d+1) hfu hci hv (i:=(i:Int)) (by omega) (by omega) now
  simp only [Ce.cells] at lk;have w:wrap .i64 ((cs.length:Int)-1)=(cs.length:Int)-1:=Aj (by omega) (by omega)
  have w1:wrap .i64 ((i:Int)+1)=((i+1:Nat):Int):=by rw [Aj (by omega) (by omega)];omega
  have eb:((i:Int)==(cs.length:Int)-1)=false:=by simp;omega
  have q3':(B8 cs).getD ((i+1)*13+3) .top=.sc (.int .i64 e.key.h):=q3;have q4':(B8 cs).getD ((i+1)*13+3+1) .top=.sc (.int .u64 e.key.root):=q4;have vq:=BA (fu:=fu) (d:=d) hfu hci.wf hci.s1 hci.s2 e.key;simp only [Ce.cells,Ky.cells] at vq;rw [Kt];unfold Kr;by_cases hz:Gz c i vs now=0
  rotate_left
  ·have e0:(Gz c i vs now != 0)=true:=by simp [hz]
   rw [B7 hz]
   try unfold Aa
   repeat first
    |((with_reducible first|apply As|apply Am|apply At|apply Aq|apply A3|apply Bi|apply B3|apply Al);· first|with_reducible rfl|(simp (disch:=omega) only [nt,c0,c1,c2,c3,c4,c5,c6,c7,c8,c9,c10,c11,c12,lk,e0]<;>with_reducible rfl))
    |((with_reducible first|apply Av|apply Au);· first|with_reducible rfl|omega|(simp (disch:=omega) only [gT,nt,c0,c1,c2,c3,c4,c5,c6,c7,c8,c9,c10,c11,c12,lk,e0]<;>omega))
    |(with_reducible apply Aw;· first|with_reducible rfl|(simp (disch:=omega) only [gF,nt,c0,c1,c2,c3,c4,c5,c6,c7,c8,c9,c10,c11,c12,lk,e0]<;>omega))
   try simp (disch:=omega) only [nt,c0,c1,c2,c3,c4,c5,c6,c7,c8,c9,c10,c11,c12,lk,e0]
   all_goals rfl
  have e0:(Gz c i vs now != 0)=false:=by simp [hz]
  rw [A7 (by simp [hz])]
  cases es:YE c.iss e.subj
  ·rw [B7 rfl]
   try unfold Aa
   repeat first
    |((with_reducible first|apply As|apply Am|apply At|apply Aq|apply A3|apply Bi|apply B3|apply Al);· first|with_reducible rfl|(simp (disch:=omega) only [nt,nt1,Og,c0,c1,c2,c3,c4,c5,c6,c7,c8,c9,c10,c11,c12,lk,e0,w,eb,w1,q0,es,D1]<;>with_reducible rfl))
    |((with_reducible first|apply Av|apply Au);· first|with_reducible rfl|omega|(simp (disch:=omega) only [gT,nt,nt1,Og,c0,c1,c2,c3,c4,c5,c6,c7,c8,c9,c10,c11,c12,lk,e0,w,eb,w1,q0,es,D1]<;>omega))
    |(with_reducible apply Aw;· first|with_reducible rfl|(simp (disch:=omega) only [gF,nt,nt1,Og,c0,c1,c2,c3,c4,c5,c6,c7,c8,c9,c10,c11,c12,lk,e0,w,eb,w1,q0,es,D1]<;>omega))
   try simp (disch:=omega) only [nt,nt1,Og,c0,c1,c2,c3,c4,c5,c6,c7,c8,c9,c10,c11,c12,lk,e0,w,eb,w1,q0,es,D1]
   all_goals rfl
  rw [A7 (by simp)]
  by_cases hv':Ro c e.key=0
  ·have v0:(Ro c e.key != 0)=false:=by simp [hv']
   have ih:=PP hfu (a0n:=a0n) (a1n:=a1n) (a2n:=a2n) (a0:=a0) (a1:=a1) (a2:=a2) (a3:=a3) hc h3 hl hv (now:=now) (e::r) (i+1) nn (by simp) h3' (by simp only [Jj];omega) (by omega)
   rw [A7 (by simp [hv']),←ih]
   try unfold Aa
   repeat first
    |((with_reducible first|apply As|apply Am|apply At|apply Aq|apply A3|apply Bi|apply B3|apply Al);· first|with_reducible rfl|(simp (disch:=omega) only [nt,nt1,Og,c0,c1,c2,c3,c4,c5,c6,c7,c8,c9,c10,c11,c12,lk,e0,w,eb,w1,q0,es,q3',q4',vq,v0,C7]<;>with_reducible rfl))
    |((with_reducible first|apply Av|apply Au);· first|with_reducible rfl|omega|(simp (disch:=omega) only [gT,nt,nt1,Og,c0,c1,c2,c3,c4,c5,c6,c7,c8,c9,c10,c11,c12,lk,e0,w,eb,w1,q0,es,q3',q4',vq,v0,C7]<;>omega))
    |(with_reducible apply Aw;· first|with_reducible rfl|(simp (disch:=omega) only [gF,nt,nt1,Og,c0,c1,c2,c3,c4,c5,c6,c7,c8,c9,c10,c11,c12,lk,e0,w,eb,w1,q0,es,q3',q4',vq,v0,C7]<;>omega))
   try simp (disch:=omega) only [nt,nt1,Og,c0,c1,c2,c3,c4,c5,c6,c7,c8,c9,c10,c11,c12,lk,e0,w,eb,w1,q0,es,q3',q4',vq,v0,C7]
   all_goals rfl
  ·have v0:(Ro c e.key != 0)=true:=by simp [hv']
   rw [B7 hv']
   try unfold Aa
   repeat first
    |((with_reducible first|apply As|apply Am|apply At|apply Aq|apply A3|apply Bi|apply B3|apply Al);· first|with_reducible rfl|(simp (disch:=omega) only [nt,nt1,Og,c0,c1,c2,c3,c4,c5,c6,c7,c8,c9,c10,c11,c12,lk,e0,w,eb,w1,q0,es,q3',q4',vq,v0,C7]<;>with_reducible rfl))
    |((with_reducible first|apply Av|apply Au);· first|with_reducible rfl|omega|(simp (disch:=omega) only [gT,nt,nt1,Og,c0,c1,c2,c3,c4,c5,c6,c7,c8,c9,c10,c11,c12,lk,e0,w,eb,w1,q0,es,q3',q4',vq,v0,C7]<;>omega))
    |(with_reducible apply Aw;· first|with_reducible rfl|(simp (disch:=omega) only [gF,nt,nt1,Og,c0,c1,c2,c3,c4,c5,c6,c7,c8,c9,c10,c11,c12,lk,e0,w,eb,w1,q0,es,q3',q4',vq,v0,C7]<;>omega))
   try simp (disch:=omega) only [nt,nt1,Og,c0,c1,c2,c3,c4,c5,c6,c7,c8,c9,c10,c11,c12,lk,e0,w,eb,w1,q0,es,q3',q4',vq,v0,C7]
   all_goals rfl
theorem KY (hfu:1000<=fu){cs:List Ce}(hc:∀c∈cs,c.in_){ans:List An}(hl:ans.length<=900){vs:List Rv}(hv:vs.length<=900)(now:Int):
  Ae C0 Tryz.prog fu (d+10) Pb [.lst false 13 cs.length (B8 cs),.lst false 3 ans.length (Il ans),.lst false 3 vs.length (G3 vs),.sc (.int .i64 now)]=some ⟨[.sc (.int .i64 (P2 cs ans vs now).1),.sc (.int .i64 (P2 cs ans vs now).2)],[]⟩:=by
 rw [X7];unfold P2;by_cases h1:now<0
 ·rw [B7 h1]
  try unfold Aa
  repeat first
   |((with_reducible first|apply As|apply Am|apply At|apply Aq|apply A3|apply Bi|apply B3|apply Al);· first|with_reducible rfl|(simp (disch:=omega) only [Cb]<;>with_reducible rfl))
   |((with_reducible first|apply Av|apply Au);· first|with_reducible rfl|omega|(simp (disch:=omega) only [gT,Cb]<;>omega))
   |(with_reducible apply Aw;· first|with_reducible rfl|(simp (disch:=omega) only [gF,Cb]<;>omega))
  try simp (disch:=omega) only [Cb]
  all_goals rfl
 rw [A7 h1];by_cases h2:now>1099511627776
 ·rw [B7 h2]
  try unfold Aa
  repeat first
   |((with_reducible first|apply As|apply Am|apply At|apply Aq|apply A3|apply Bi|apply B3|apply Al);· first|with_reducible rfl|(simp (disch:=omega) only [Cb]<;>with_reducible rfl))
   |((with_reducible first|apply Av|apply Au);· first|with_reducible rfl|omega|(simp (disch:=omega) only [gT,Cb]<;>omega))
   |(with_reducible apply Aw;· first|with_reducible rfl|(simp (disch:=omega) only [gF,Cb]<;>omega))
  try simp (disch:=omega) only [Cb]
  all_goals rfl
 rw [A7 h2];by_cases h3:cs.length<1
 ·rw [B7 h3]
  try unfold Aa
  repeat first
   |((with_reducible first|apply As|apply Am|apply At|apply Aq|apply A3|apply Bi|apply B3|apply Al);· first|with_reducible rfl|(simp (disch:=omega) only [Cb]<;>with_reducible rfl))
   |((with_reducible first|apply Av|apply Au);· first|with_reducible rfl|omega|(simp (disch:=omega) only [gT,Cb]<;>omega))
   |(with_reducible apply Aw;· first|with_reducible rfl|(simp (disch:=omega) only [gF,Cb]<;>omega))
  try simp (disch:=omega) only [Cb]
  all_goals rfl
 rw [A7 h3];by_cases h4:cs.length>3
 ·rw [B7 h4]
  try unfold Aa
  repeat first
   |((with_reducible first|apply As|apply Am|apply At|apply Aq|apply A3|apply Bi|apply B3|apply Al);· first|with_reducible rfl|(simp (disch:=omega) only [Cb]<;>with_reducible rfl))
   |((with_reducible first|apply Av|apply Au);· first|with_reducible rfl|omega|(simp (disch:=omega) only [gT,Cb]<;>omega))
   |(with_reducible apply Aw;· first|with_reducible rfl|(simp (disch:=omega) only [gF,Cb]<;>omega))
  try simp (disch:=omega) only [Cb]
  all_goals rfl
 rw [A7 h4];have lp:=PP (fu:=fu) (d:=d) hfu (a0n:=cs.length) (a1n:=ans.length) (a2n:=vs.length) (a0:=B8 cs) (a1:=Il ans) (a2:=G3 vs) (a3:=now) hc (by omega) hl hv (now:=now) cs 0 fu (by intro h;subst h;simp at h3) rfl (by omega) (by omega)
 rw [←lp]
 try unfold Aa
 repeat first
  |((with_reducible first|apply As|apply Am|apply At|apply Aq|apply A3|apply Bi|apply B3|apply Al);· first|with_reducible rfl|(simp (disch:=omega) only [Cb]<;>with_reducible rfl))
  |((with_reducible first|apply Av|apply Au);· first|with_reducible rfl|omega|(simp (disch:=omega) only [gT,Cb]<;>omega))
  |(with_reducible apply Aw;· first|with_reducible rfl|(simp (disch:=omega) only [gF,Cb]<;>omega))
 try simp (disch:=omega) only [Cb]
 all_goals rfl
end
end
section
open Go.IntKind (wrap)
set_option maxRecDepth 100000
abbrev Pz:FuncId:=11
theorem AC (fu d a0n:Nat)(a0:List PV):Ae C0 Tryz.prog fu (d+1) Pz [.lst false 1 a0n a0]=(fun (call:Ai)=>some (Az.mk [.pbox [.lst false 1 a0n a0,.sc (.int .i64 0)]] [])) (Ae C0 Tryz.prog fu d):=by kernel_rfl
abbrev Qi:FuncId:=16
theorem Z5 (fu d:Nat)(a0 a1:Int):Ae C0 Tryz.prog fu (d+1) Qi [.sc (.int .i64 a0),.sc (.int .i64 a1)]=(fun (call:Ai)=>Aa (wrap .u64 a0) fun x1=>Aa (wrap .u64 a1) fun x2=>Ao (decide (x2≠0))<|Aa (Int.tmod x1 x2) fun x3=>Aa (wrap .i64 x3) fun x4=>some (Az.mk [.sc (.int .i64 x4)] [])) (Ae C0 Tryz.prog fu d):=by kernel_rfl
abbrev I6:FuncId:=14
theorem I9 (fu d a0_0n:Nat)(a0_0:List PV)(a0_1 a1:Int):Ae C0 Tryz.prog fu (d+1) I6 [.pbox [.lst false 1 a0_0n a0_0,.sc (.int .i64 a0_1)],.sc (.int .i64 a1)]=(fun (call:Ai)=>Ba (decide (a0_1>=(↑a0_0n:Int))) (some (Az.mk [.sc (.int .i64 0)] [[.lst false 1 a0_0n a0_0,.sc (.int .i64 a0_1)]])) (Aa (wrap .i64 (a0_1+1)) fun x1=>Aa (wrap .i64 (x1-1)) fun x2=>Ao (decide (0<=x2)&&decide (x2<(↑a0_0n:Int)))<|Ad .i64 (List.getD a0_0 (Int.toNat x2*1) .top) fun x3=>Ag (call 16 [.sc (.int .i64 x3),.sc (.int .i64 a1)]) fun x4 x5=>Ac x5<|Ab x4 fun x6 x7=>Ad .i64 x6 fun x8=>Ac x7<|some (Az.mk [.sc (.int .i64 x8)] [[.lst false 1 a0_0n a0_0,.sc (.int .i64 x1)]]))) (Ae C0 Tryz.prog fu d):=by kernel_rfl
end
section
open Go.IntKind (wrap)
abbrev dkc (l:List Int)(a:Nat):List PV:=[.lst false 1 l.length (Af .i64 l),.sc (.int .i64 (a:Int))]
theorem Am2 {fu d:Nat}{l:List Int}:Ae C0 Tryz.prog fu (d+1) Pz [.lst false 1 l.length (Af .i64 l)]=some ⟨[.pbox (dkc l 0)],[]⟩:=by
 rw [AC];rfl
theorem Af0 (v n:Int)(hn:0<n)(hm:n<=9223372036854775807):∃r,0<=r∧r<n∧∀{fu d:Nat},Ae C0 Tryz.prog fu (d+1) Qi [.sc (.int .i64 v),.sc (.int .i64 n)]=some ⟨[.sc (.int .i64 r)],[]⟩:=by
 have h1:=Gq v;have h2:wrap .u64 n=n:=Cs (by omega) (by omega)
 have h3:0<=Int.tmod (wrap .u64 v) n:=Int.tmod_nonneg _ h1.1;have h4:Int.tmod (wrap .u64 v) n<n:=Int.tmod_lt_of_pos _ hn;refine ⟨_,h3,h4,fun {fu d}=>?_⟩
 rw [Z5];simp only [G9,h2];rw [QQ _ _ (by omega),Aj (by omega) (by omega)]
theorem Hn {l:List Int}(hl:l.length<=maxLen)(a:Nat)(n:Int)(hn:0<n)(hm:n<=9223372036854775807):∃(v:Int)(a':Nat),0<=v∧v<n ∧
  ∀{fu d:Nat},Ae C0 Tryz.prog fu (d+2) I6 [.pbox (dkc l a),.sc (.int .i64 n)]=some ⟨[.sc (.int .i64 v)],[dkc l a']⟩:=by
 simp only [maxLen] at hl;by_cases h:a<l.length
 ·obtain ⟨r,h1,h2,h3⟩:=Af0 l[a] n hn hm;refine ⟨r,a+1,h1,h2,fun {fu d}=>?_⟩
  rw [I9]
  have hg:(Af .i64 l).getD (Int.toNat ((a:Int)+1-1)*1) .top=.sc (.int .i64 l[a]):=by
   have:=Xj (k:=.i64) (List.getElem?_eq_getElem h);rw [show Int.toNat ((a:Int)+1-1)*1=a by omega]
   exact this
  simp (disch:=omega) only [B4,Aj,hg,h3];rfl
 ·refine ⟨0,a,by omega,hn,fun {fu d}=>?_⟩
  rw [I9];simp (disch:=omega) only [B4]
end
section
open Go.IntKind (wrap)
set_option maxRecDepth 100000
abbrev Qg:FuncId:=29
theorem Z1 (fu d:Nat)(a0 a1:Int):Ae C0 Tryz.prog fu (d+1) Qg [.sc (.int .u64 a0),.sc (.int .i64 a1)]=(fun (call:Ai)=>Ag (call 18 [.sc (.int .u64 a0),.sc (.int .i64 a1)]) fun x1 x2=>Ac x2<|Ab x1 fun x3 x4=>C2 x3 fun x5=>Ab x5 fun x6 x7=>Ad .i64 x6 fun x8=>Ab x7 fun x9 Cr=>Ad .u64 x9 fun C5=>Ac Cr<|Ab x4 fun Dw D5=>Ad .i64 Dw fun Ds=>Ac D5<|some (Az.mk [.agg [.sc (.int .i64 x8),.sc (.int .u64 C5)]] [])) (Ae C0 Tryz.prog fu d):=by kernel_rfl
end
section
open Go.IntKind (wrap)
set_option maxRecDepth 1000000
section
variable {fu d:Nat}
theorem LU (hfu:1000<=fu)(seed h:Int):Ae C0 Tryz.prog fu (d+13) Qg [.sc (.int .u64 seed),.sc (.int .i64 h)]=some ⟨[.agg (Gs seed h).cells],[]⟩:=by
 rw [Z1];have p:=Aac (fu:=fu) (d:=d) hfu seed h;simp only [Ky.cells] at p ⊢;simp only [B4,p]
end
theorem QJ (dom:Int)(l:List Int):isU (Nf dom l):=Gq _
theorem Arf (key dom:Int)(l:List Int):isU (Ajk key dom l):=Gq _
theorem Ag7 (leaf chain:Int):∀(k:Nat)(p:Int){x:Int},isU x->isU (Qv leaf chain k p x)
 |0,_,_,h=>h
 |k+1,p,x,h=>Ag7 leaf chain k (p+1) (QJ _ _)
theorem Amo (seed leaf m:Int):isW (Io seed leaf m):=by
 intro x hx;obtain ⟨k,_,rfl⟩:=List.mem_map.1 hx;exact Ag7 _ _ _ _ (Arf _ _ _)
theorem Abv (seed:Int):∀(l:Nat)(i:Int),isU (Bx seed l i)
 |0,i=>QJ _ _
 |l+1,i=>QJ _ _
theorem Adb (seed h:Int):isU (Gs seed h).root:=by
 unfold Gs;split
 ·exact ⟨by simp,by simp⟩
 ·exact Abv _ _ _
theorem Ac6 (seed h:Int):Dg (Gs seed h).h=false:=by
 unfold Gs;cases hh:Dg h
 ·rw [A7 (by simp)]
  exact hh
 ·rw [B7 rfl];rfl
theorem Ajl {seed h leaf m:Int}(hh:Dg h=false)(ho:Ke leaf h=false):∃s,AV seed h leaf m=some s∧s.ok∧s.leaf=leaf∧s.chains.length=18∧(s.path.length:Int)=h∧WG (Gs seed h) m s=0:=by
 have hb:=H4 hh;refine ⟨⟨leaf,Io seed leaf m,(List.range h.toNat).map fun k=>Bx seed k (Fi leaf k)⟩,?_,⟨Amo _ _ _,?_⟩,rfl,by simp [Io],?_,Agi hh ho⟩
 ·unfold AV;rw [A7 (by simp [hh]),A7 (by simp [ho])]
 ·intro x hx;obtain ⟨k,_,rfl⟩:=List.mem_map.1 hx;exact Abv _ _ _
 ·simp only [List.length_map,List.length_range];omega
end
section
open Go.IntKind (wrap)
set_option maxRecDepth 100000
abbrev Oh:FuncId:=17
theorem Xx (fu d:Nat)(a0_0 a0_1:ByteArray)(a0_2 a0_3:Int)(a0_4 a0_5 a0_6:Int)(a0_7:Bool)(a0_8 a0_9 a0_10:Int)(a0_11n:Nat)(a0_11:List PV)(a0_12n:Nat)(a0_12:List PV)(a1 a2 a3:Int):Ae C0 Tryz.prog fu (d+1) Oh [.agg [.sc (.string a0_0),.sc (.string a0_1),.sc (.int .u64 a0_2),.sc (.int .i64 a0_3),.sc (.int .u64 a0_4),.sc (.int .i64 a0_5),.sc (.int .i64 a0_6),.sc (.bool a0_7),.sc (.int .i64 a0_8),.sc (.int .u64 a0_9),.sc (.int .i64 a0_10),.lst false 1 a0_11n a0_11,.lst false 1 a0_12n a0_12],.sc (.int .u64 a1),.sc (.int .i64 a2),.sc (.int .i64 a3)]=(fun (call:Ai)=>Ag (call 36 [.agg [.sc (.string a0_0),.sc (.string a0_1),.sc (.int .u64 a0_2),.sc (.int .i64 a0_3),.sc (.int .u64 a0_4),.sc (.int .i64 a0_5),.sc (.int .i64 a0_6),.sc (.bool a0_7),.sc (.int .i64 a0_8),.sc (.int .u64 a0_9),.sc (.int .i64 a0_10),.lst false 1 a0_11n a0_11,.lst false 1 a0_12n a0_12]]) fun x1 x2=>Ac x2<|Ab x1 fun x3 x4=>Ad .u64 x3 fun x5=>Ab x4 fun x6 x7=>Ad .i64 x6 fun x8=>Ac x7<|Ba (x8 != 0) (some (Az.mk [.agg [.sc (.string (ByteArray.mk #[])),.sc (.string (ByteArray.mk #[])),.sc (.int .u64 0),.sc (.int .i64 0),.sc (.int .u64 0),.sc (.int .i64 0),.sc (.int .i64 0),.sc (.bool false),.sc (.int .i64 0),.sc (.int .u64 0),.sc (.int .i64 0),.lst false 1 0 [],.lst false 1 0 []],.sc (.int .i64 x8)] [])) (Ag (call 37 [.sc (.int .u64 a1),.sc (.int .i64 a2),.sc (.int .i64 a3),.sc (.int .u64 x5)]) fun x9 Cr=>Ac Cr<|Ab x9 fun C5 Dw=>C2 C5 fun D5=>Ab D5 fun Ds Eg=>Ad .i64 Ds fun En=>Ab Eg fun E9 Fq=>Fd 1 E9 fun Fv F5 Id=>Ab Fq fun G6 H7=>Fd 1 G6 fun D2 Do Ga=>Ac H7<|Ab Dw fun Ia E1=>Ad .i64 Ia fun Ji=>Ac E1<|Ba (Ji != 0) (some (Az.mk [.agg [.sc (.string (ByteArray.mk #[])),.sc (.string (ByteArray.mk #[])),.sc (.int .u64 0),.sc (.int .i64 0),.sc (.int .u64 0),.sc (.int .i64 0),.sc (.int .i64 0),.sc (.bool false),.sc (.int .i64 0),.sc (.int .u64 0),.sc (.int .i64 0),.lst false 1 0 [],.lst false 1 0 []],.sc (.int .i64 Ji)] [])) (some (Az.mk [.agg [.sc (.string a0_0),.sc (.string a0_1),.sc (.int .u64 a0_2),.sc (.int .i64 a0_3),.sc (.int .u64 a0_4),.sc (.int .i64 a0_5),.sc (.int .i64 a0_6),.sc (.bool a0_7),.sc (.int .i64 a0_8),.sc (.int .u64 a0_9),.sc (.int .i64 En),.lst false 1 F5 Id,.lst false 1 Do Ga],.sc (.int .i64 0)] [])))) (Ae C0 Tryz.prog fu d):=by kernel_rfl
end
section
open Go.IntKind (wrap)
set_option maxRecDepth 100000
abbrev Mf:FuncId:=10
theorem Ut (fu d:Nat):Ae C0 Tryz.prog fu (d+1) Mf []=(fun (call:Ai)=>Ag (call 29 [.sc (.int .u64 5),.sc (.int .i64 1)]) fun x1 x2=>Ac x2<|Ab x1 fun x3 x4=>C2 x3 fun x5=>Ab x5 fun x6 x7=>Ad .i64 x6 fun x8=>Ab x7 fun x9 Cr=>Ad .u64 x9 fun C5=>Ac Cr<|Ac x4<|Ag (call 17 [.agg [.sc (.string (ByteArray.mk #[108,101,97,102])),.sc (.string (ByteArray.mk #[114,111,111,116])),.sc (.int .u64 9),.sc (.int .i64 x8),.sc (.int .u64 C5),.sc (.int .i64 1),.sc (.int .i64 8),.sc (.bool false),.sc (.int .i64 0),.sc (.int .u64 0),.sc (.int .i64 0),.lst false 1 0 [],.lst false 1 0 []],.sc (.int .u64 71),.sc (.int .i64 1),.sc (.int .i64 0)]) fun Dw D5=>Ac D5<|Ab Dw fun Ds Eg=>C2 Ds fun En=>Ab En fun E9 Fq=>Cj E9 fun Fv=>Ab Fq fun F5 Id=>Cj F5 fun G6=>Ab Id fun H7 D2=>Ad .u64 H7 fun Do=>Ab D2 fun Ga Ia=>Ad .i64 Ga fun E1=>Ab Ia fun Ji Mm=>Ad .u64 Ji fun J5=>Ab Mm fun M1 Ms=>Ad .i64 M1 fun Of=>Ab Ms fun P6 Q2=>Ad .i64 P6 fun Ta=>Ab Q2 fun G8 J7=>Bk G8 fun Uy=>Ab J7 fun Zh Ps=>Ad .i64 Zh fun Us=>Ab Ps fun Uc Sk=>Ad .u64 Uc fun Tp=>Ab Sk fun Xk X9=>Ad .i64 Xk fun Tb=>Ab X9 fun V2 Xq=>Fd 1 V2 fun Xf Pk Y9=>Ab Xq fun CK CJ=>Fd 1 CK fun Zj Ud Yn=>Ac CJ<|Ab Eg fun CI Yq=>Ad .i64 CI fun Zk=>Ac Yq<|Ag (call 30 [.agg [.sc (.string Fv),.sc (.string G6),.sc (.int .u64 Do),.sc (.int .i64 E1),.sc (.int .u64 J5),.sc (.int .i64 Of),.sc (.int .i64 Ta),.sc (.bool Uy),.sc (.int .i64 Us),.sc (.int .u64 Tp),.sc (.int .i64 Tb),.lst false 1 Pk Y9,.lst false 1 Ud Yn]]) fun Yb Zi=>Ac Zi<|Ab Yb fun BO Va=>Ep 1 BO fun Xe CR=>Ab Va fun CD Zo=>Ad .i64 CD fun Y4=>Ac Zo<|Ao (decide (0+Xe*1<=CR.length))<|Ag (call 31 [.lst false 1 Xe (List.take (Xe*1) (List.drop 0 CR))]) fun CF HH=>Ac HH<|Ab CF fun AJ EI=>C2 AJ fun HG=>Ab HG fun CL FS=>Cj CL fun JJ=>Ab FS fun II VJ=>Cj II fun SX=>Ab VJ fun QW SP=>Ad .u64 QW fun XJ=>Ab SP fun WY SZ=>Ad .i64 WY fun QX=>Ab SZ fun GR NU=>Ad .u64 GR fun QN=>Ab NU fun WP TJ=>Ad .i64 WP fun ZS=>Ab TJ fun XN ZK=>Ad .i64 XN fun SU=>Ab ZK fun XF XK=>Bk XF fun Wn=>Ab XK fun Vm Hp=>Ad .i64 Vm fun D4=>Ab Hp fun Yy R5=>Ad .u64 Yy fun Q5=>Ab R5 fun Kd AB=>Ad .i64 Kd fun Yp=>Ab AB fun Yd AU=>Fd 1 Yd fun Ie Jw X8=>Ab AU fun Yt Zc=>Fd 1 Yt fun DD S1 V5=>Ac Zc<|Ab EI fun Wy W5=>Ad .i64 Wy fun X1=>Ac W5<|Ag (call 29 [.sc (.int .u64 71),.sc (.int .i64 1)]) fun Zr Rf=>Ac Rf<|Ab Zr fun Q0 Pr=>C2 Q0 fun Sq=>Ab Sq fun Ra Wt=>Ad .i64 Ra fun V4=>Ab Wt fun CV X6=>Ad .u64 CV fun Uz=>Ac X6<|Ac Pr<|Ag (call 27 [.lst false 13 1 [.sc (.string Fv),.sc (.string G6),.sc (.int .u64 Do),.sc (.int .i64 E1),.sc (.int .u64 J5),.sc (.int .i64 Of),.sc (.int .i64 Ta),.sc (.bool Uy),.sc (.int .i64 Us),.sc (.int .u64 Tp),.sc (.int .i64 Tb),.lst false 1 Pk Y9,.lst false 1 Ud Yn],.lst false 3 1 [.sc (.string (ByteArray.mk #[114,111,111,116])),.sc (.int .i64 V4),.sc (.int .u64 Uz)],.lst false 3 0 [],.sc (.int .i64 8)]) fun GI LD=>Ac LD<|Ab GI fun IW MT=>Ad .i64 IW fun IB=>Ab MT fun CW GY=>Ad .i64 CW fun HW=>Ac GY<|Ag (call 27 [.lst false 13 1 [.sc (.string Fv),.sc (.string G6),.sc (.int .u64 Do),.sc (.int .i64 E1),.sc (.int .u64 J5),.sc (.int .i64 Of),.sc (.int .i64 Ta),.sc (.bool Uy),.sc (.int .i64 Us),.sc (.int .u64 Tp),.sc (.int .i64 Tb),.lst false 1 Pk Y9,.lst false 1 Ud Yn],.lst false 3 1 [.sc (.string (ByteArray.mk #[114,111,111,116])),.sc (.int .i64 V4),.sc (.int .u64 Uz)],.lst false 3 0 [],.sc (.int .i64 9)]) fun IM KE=>Ac KE<|Ab IM fun CM GN=>Ad .i64 CM fun GU=>Ab GN fun GM KN=>Ad .i64 GM fun RH=>Ac KN<|Ba (Zk==0) (Ba (Y4==0) (Ba (X1==0) (Ba (HW==0) (Ba (IB==0) (Ba (RH==38) (Ag (call 19 [.agg [.sc (.string Fv),.sc (.string G6),.sc (.int .u64 Do),.sc (.int .i64 E1),.sc (.int .u64 J5),.sc (.int .i64 Of),.sc (.int .i64 Ta),.sc (.bool Uy),.sc (.int .i64 Us),.sc (.int .u64 Tp),.sc (.int .i64 Tb),.lst false 1 Pk Y9,.lst false 1 Ud Yn],.agg [.sc (.string JJ),.sc (.string SX),.sc (.int .u64 XJ),.sc (.int .i64 QX),.sc (.int .u64 QN),.sc (.int .i64 ZS),.sc (.int .i64 SU),.sc (.bool Wn),.sc (.int .i64 D4),.sc (.int .u64 Q5),.sc (.int .i64 Yp),.lst false 1 Jw X8,.lst false 1 S1 V5]]) fun WO QM=>Ac QM<|Ab WO fun DP MN=>Bk DP fun SH=>Ac MN<|some (Az.mk [.sc (.bool SH)] [])) (some (Az.mk [.sc (.bool false)] []))) (some (Az.mk [.sc (.bool false)] []))) (some (Az.mk [.sc (.bool false)] []))) (some (Az.mk [.sc (.bool false)] []))) (some (Az.mk [.sc (.bool false)] []))) (some (Az.mk [.sc (.bool false)] []))) (Ae C0 Tryz.prog fu d):=by kernel_rfl
end
section
open Go.IntKind (wrap)
set_option maxRecDepth 1000000
section
variable {fu d:Nat} {c:Ce}
theorem Anp (seed h leaf m:Int):Ae C0 Tryz.prog fu (d+1) 37 [.sc (.int .u64 seed),.sc (.int .i64 h),.sc (.int .i64 leaf),.sc (.int .u64 m)] =
  some ⟨[.agg [.sc (.int .i64 (tkL h leaf)),.lst false 1 (tkC seed h leaf m).length (Af .u64 (tkC seed h leaf m)),.lst false 1 (tkP seed h leaf).length (Af .u64 (tkP seed h leaf))],.sc (.int .i64 (tkE h leaf))],[]⟩:=by kernel_rfl
theorem Aoo (seed h leaf m:Int):(AV seed h leaf m=none∧tkE h leaf=9)∨(AV seed h leaf m=some ⟨tkL h leaf,tkC seed h leaf m,tkP seed h leaf⟩∧tkE h leaf=0):=by
 unfold AV tkE tkL tkC tkP KO;cases Dg h
 ·cases Ke leaf h
  ·exact .inr ⟨rfl,rfl⟩
  ·exact .inl ⟨rfl,rfl⟩
 ·exact .inl ⟨rfl,rfl⟩
theorem Agl (hfu:1000<=fu)(hw:c.wf)(hs1:c.subj.size<=9223372036854775807)(hs2:c.iss.size<=9223372036854775807)(seed h leaf:Int):Ae C0 Tryz.prog fu (d+9) Oh [.agg c.cells,.sc (.int .u64 seed),.sc (.int .i64 h),.sc (.int .i64 leaf)]=some ⟨[.agg (Tz c seed h leaf).1.cells,.sc (.int .i64 (Tz c seed h leaf).2)],[]⟩:=by
 refine (Xx fu (d+8) c.subj c.iss c.serial c.key.h c.key.root c.fr c.un c.auth c.path c.model c.sig.leaf c.sig.chains.length (Af .u64 c.sig.chains) c.sig.path.length (Af .u64 c.sig.path) seed h leaf).trans ?_;have wq:=WW (fu:=fu) (d:=d) hfu hw hs1 hs2;simp only [Ce.cells] at wq;unfold HJ at wq;unfold Tz;by_cases h0:A4 c=0
 ·rw [B7 h0] at wq;rw [B7 h0];have e00:((0:Int) != 0)=false:=rfl;have e90:((9:Int) != 0)=true:=rfl;have tk:=Anp (fu:=fu) (d:=d+7) seed h leaf (Mn c);have La:=Ak .u64 (tkC seed h leaf (Mn c));have Lb:=Ak .u64 (tkP seed h leaf);have ta:=Kc .u64 (tkC seed h leaf (Mn c));have tb:=Kc .u64 (tkP seed h leaf);rcases Aoo seed h leaf (Mn c) with ⟨hs,he⟩|⟨hs,he⟩
  ·rw [hs];rw [he] at tk
   try unfold Aa
   repeat first
    |((with_reducible first|apply As|apply Am|apply At|apply B3|apply Bz|apply Al);· first|with_reducible rfl|(simp (disch:=omega) only [wq,e00,e90,Cb,Bw,Fa,tk,La,Lb,ta,tb]<;>with_reducible rfl))
    |((with_reducible first|apply Av|apply Au);· first|with_reducible rfl|omega|(simp (disch:=omega) only [gT,wq,e00,e90,Cb,Bw,Fa,tk,La,Lb,ta,tb]<;>omega))
    |(with_reducible apply Aw;· first|with_reducible rfl|(simp (disch:=omega) only [gF,wq,e00,e90,Cb,Bw,Fa,tk,La,Lb,ta,tb]<;>omega))
   try simp (disch:=omega) only [wq,e00,e90,Cb,Bw,Fa,tk,La,Lb,ta,tb]
   all_goals rfl
  ·rw [hs];rw [he] at tk
   try unfold Aa
   repeat first
    |((with_reducible first|apply As|apply Am|apply At|apply B3|apply Bz|apply Al);· first|with_reducible rfl|(simp (disch:=omega) only [wq,e00,e90,Cb,Bw,Fa,tk,La,Lb,ta,tb]<;>with_reducible rfl))
    |((with_reducible first|apply Av|apply Au);· first|with_reducible rfl|omega|(simp (disch:=omega) only [gT,wq,e00,e90,Cb,Bw,Fa,tk,La,Lb,ta,tb]<;>omega))
    |(with_reducible apply Aw;· first|with_reducible rfl|(simp (disch:=omega) only [gF,wq,e00,e90,Cb,Bw,Fa,tk,La,Lb,ta,tb]<;>omega))
   try simp (disch:=omega) only [wq,e00,e90,Cb,Bw,Fa,tk,La,Lb,ta,tb]
   all_goals rfl
 ·have hne:(A4 c != 0)=true:=by simp [h0]
  rw [A7 h0] at wq;rw [A7 h0]
  try unfold Aa
  repeat first
   |((with_reducible first|apply As|apply Am|apply At|apply B3|apply Bz|apply Al);· first|with_reducible rfl|(simp (disch:=omega) only [wq,hne]<;>with_reducible rfl))
   |((with_reducible first|apply Av|apply Au);· first|with_reducible rfl|omega|(simp (disch:=omega) only [gT,wq,hne]<;>omega))
   |(with_reducible apply Aw;· first|with_reducible rfl|(simp (disch:=omega) only [gF,wq,hne]<;>omega))
  try simp (disch:=omega) only [wq,hne]
  all_goals rfl
end
end
section
open Go.IntKind (wrap)
set_option maxRecDepth 1000000
section
variable {fu d:Nat}
theorem HZ {call:Ai}{a0n a1n:Nat}{a0 a1:List PV}{l:List Int}(hl:l.length<=1000):∀(k i nn:Nat),i+k=l.length->k<nn ->
  Em fu call a0n a0 a1n a1 nn l.length (Af .u64 l) l.length (Af .u64 l) i=some ⟨[.sc (.bool true)],[]⟩
 |_,_,0,_,h=>by omega
 |0,i,nn+1,hi,hn=>by
  have e:i=l.length:=by omega
  subst e;rw [Ht];simp (disch:=omega) only [B4]
 |k+1,i,nn+1,hi,hn=>by
  have ih:=HZ (call:=call) (a0n:=a0n) (a1n:=a1n) (a0:=a0) (a1:=a1) hl k (i+1) nn (by omega) (by omega)
  obtain ⟨x,hx⟩:∃x,l[i]?=some x:=⟨_,List.getElem?_eq_getElem (by omega)⟩
  have w:wrap .i64 ((i:Int)+1)=((i+1:Nat):Int):=by rw [Aj (by omega) (by omega)];omega
  have q:(x != x)=false:=bne_self_eq_false x;rw [Ht];simp (disch:=omega) only [B4,Gm,Cb,Bw,Xj hx,q,w];exact ih
theorem UW (hfu:2000<=fu){l:List Int}(hl:l.length<=1000):Ae C0 Tryz.prog fu (d+1) Ja [.lst false 1 l.length (Af .u64 l),.lst false 1 l.length (Af .u64 l)]=some ⟨[.sc (.bool true)],[]⟩:=by
 refine (Rc fu d l.length (Af .u64 l) l.length (Af .u64 l)).trans ?_;have q:=HZ (fu:=fu) (call:=Ae C0 Tryz.prog fu d) (a0n:=l.length) (a1n:=l.length) (a0:=Af .u64 l) (a1:=Af .u64 l) hl l.length 0 fu (by omega) (by omega)
 have b:((l.length:Int) != (l.length:Int))=false:=bne_self_eq_false _;simp only [B4,b];exact q
theorem Agq (hfu:2000<=fu){s:Sg}(h1:s.chains.length<=1000)(h2:s.path.length<=1000):Ae C0 Tryz.prog fu (d+2) Hm [.agg s.cells,.agg s.cells]=some ⟨[.sc (.bool true)],[]⟩:=by
 refine (Ny fu (d+1) s.leaf s.chains.length (Af .u64 s.chains) s.path.length (Af .u64 s.path) s.leaf s.chains.length (Af .u64 s.chains) s.path.length (Af .u64 s.path)).trans ?_;have w1:=UW (fu:=fu) (d:=d) hfu h1;have w2:=UW (fu:=fu) (d:=d) hfu h2;have q1:(s.leaf==s.leaf)=true:=beq_self_eq_true _
 try unfold Aa
 repeat first
  |((with_reducible first|apply As|apply Am|apply At|apply Aq|apply A3|apply Bi|apply B3|apply Bz|apply Al);· first|with_reducible rfl|(simp (disch:=omega) only [q1,w1,w2]<;>with_reducible rfl))
  |((with_reducible first|apply Av|apply Au);· first|with_reducible rfl|omega|(simp (disch:=omega) only [gT,q1,w1,w2]<;>omega))
  |(with_reducible apply Aw;· first|with_reducible rfl|(simp (disch:=omega) only [gF,q1,w1,w2]<;>omega))
 try simp (disch:=omega) only [q1,w1,w2]
 all_goals rfl
theorem Aiv (hfu:2000<=fu){c:Ce}(h1:c.sig.chains.length<=1000)(h2:c.sig.path.length<=1000):Ae C0 Tryz.prog fu (d+3) Gx [.agg c.cells,.agg c.cells]=some ⟨[.sc (.bool true)],[]⟩:=by
 refine (Lo fu (d+2) c.subj c.iss c.serial c.key.h c.key.root c.fr c.un c.auth c.path c.model c.sig.leaf c.sig.chains.length (Af .u64 c.sig.chains) c.sig.path.length (Af .u64 c.sig.path) c.subj c.iss c.serial c.key.h c.key.root c.fr c.un c.auth c.path c.model c.sig.leaf c.sig.chains.length (Af .u64 c.sig.chains) c.sig.path.length (Af .u64 c.sig.path)).trans ?_;have ws:=Agq (fu:=fu) (d:=d) hfu h1 h2;simp only [Sg.cells] at ws;have q0:∀l:List UInt8,(l==l)=true:=fun l=>beq_self_eq_true l
 have q1:∀l:Int,(l==l)=true:=fun l=>beq_self_eq_true l
 have q2:∀l:Bool,(l==l)=true:=fun l=>beq_self_eq_true l
 try unfold Aa
 repeat first
  |((with_reducible first|apply As|apply Am|apply At|apply Aq|apply A3|apply Bi|apply B3|apply Bz|apply Al);· first|with_reducible rfl|(simp (disch:=omega) only [q0,q1,q2,Bool.and_true,ws]<;>with_reducible rfl))
  |((with_reducible first|apply Av|apply Au);· first|with_reducible rfl|omega|(simp (disch:=omega) only [gT,q0,q1,q2,Bool.and_true,ws]<;>omega))
  |(with_reducible apply Aw;· first|with_reducible rfl|(simp (disch:=omega) only [gF,q0,q1,q2,Bool.and_true,ws]<;>omega))
 try simp (disch:=omega) only [q0,q1,q2,Bool.and_true,ws]
 all_goals rfl
end
abbrev lfS:ByteArray:=⟨#[(108:UInt8),(101:UInt8),(97:UInt8),(102:UInt8)]⟩
abbrev SV:ByteArray:=⟨#[(114:UInt8),(111:UInt8),(111:UInt8),(116:UInt8)]⟩
def VL:Ce:=⟨lfS,SV,9,Gs 5 1,1,8,false,0,0,⟨0,[],[]⟩⟩
theorem UB:A4 VL=0:=by
 unfold A4;have h1:VL.subj.size=4:=rfl;have h2:VL.iss.size=4:=rfl;have h3:UY VL.subj=true:=by decide
 have h4:UY VL.iss=true:=by decide
 have h5:Dg VL.key.h=false:=Ac6 5 1;have h6:VL.fr=1:=rfl;have h7:VL.un=8:=rfl;have h8:VL.path=0:=rfl;rw [h1,h2,h3,h4,h5,h6,h7,h8];simp
theorem Abb:∃s,AV 71 1 0 (Mn VL)=some s∧s.ok∧s.leaf=0∧s.chains.length=18∧(s.path.length:Int)=1∧WG (Gs 71 1) (Mn VL) s=0:=Ajl (by decide) (by decide)
noncomputable def UV:Sg:=Classical.choose Abb
theorem BM:AV 71 1 0 (Mn VL)=some UV∧UV.ok∧UV.leaf=0∧UV.chains.length=18∧(UV.path.length:Int)=1∧WG (Gs 71 1) (Mn VL) UV=0:=Classical.choose_spec Abb
noncomputable def cA:Ce:={ VL with sig:=UV }
theorem Aaz:cA.ok:=⟨by decide,by decide,Adb 5 1,BM.2.1⟩
theorem QE:A4 cA=0:=UB
theorem RQ:Ex cA=0:=by
 obtain ⟨_,_,h3,h4,h5,_⟩:=BM;unfold Ex;rw [QE,B7 rfl];show IR UV=0;unfold IR;rw [h5,h3,A7 (by decide),A7 (by decide),A7 (by omega)]
theorem Ack:cA.in_:=⟨Aaz.wf,by show lfS.size<=_;decide,by show SV.size<=_;decide⟩
theorem Ak0:Ro cA (Gs 71 1)=0:=by
 unfold Ro;rw [QE,B7 rfl];exact BM.2.2.2.2.2
theorem Aec:Tz VL 71 1 0=(cA,0):=by
 unfold Tz;rw [B7 UB,BM.1];rfl
theorem VR (now:Int)(h0:1<=now)(h1:now<=9):P2 [cA] [⟨SV,Gs 71 1⟩] [] now=if now<=8 then (0,0) else (0,38):=by
 unfold P2;rw [A7 (by omega),A7 (by omega),A7 (by simp),A7 (by simp)]
 unfold Kr
 have lk:Gz cA ((0:Nat):Int) [] now=if now<1 then 38 else if now>8 then 38 else GS cA now []:=by
  unfold Gz;rw [QE];rfl
 have n1:¬(now<1):=by omega
 rw [lk,A7 n1];by_cases h:now<=8
 ·have r0:GS cA now []=0:=rfl;have n8:¬(now>8):=by omega
  rw [A7 n8,B7 h,r0,A7 (by simp)]
  unfold Ad5
  have is:Mz cA 0 [⟨SV,Gs 71 1⟩]=0:=by
   rw [Mz,B7 ⟨by decide,Ak0⟩]
   rfl
  rw [is];rfl
 ·have n8:now>8:=by omega
  rw [B7 n8,A7 h,B7 (by simp)]
section
variable {d:Nat}
theorem TL:Ae C0 Tryz.prog 2000 (d+15) Mf []=some ⟨[.sc (.bool true)],[]⟩:=by
 rw [Ut];have k5:=LU (fu:=2000) (d:=d+1) (by omega) 5 1
 have k71:=LU (fu:=2000) (d:=d+1) (by omega) 71 1
 have sg:=Agl (fu:=2000) (d:=d+5) (c:=VL) (by omega) ⟨by decide,by decide⟩ (by decide) (by decide) 71 1 0
 rw [Aec] at sg;obtain ⟨_,_,h3,h4,h5,_⟩:=BM;have l1:cA.sig.chains.length=18:=h4;have l2:cA.sig.path.length=1:=by have:(cA.sig.path.length:Int)=1:=h5;omega
 have en:=Abf (fu:=2000) (d:=d+6) (c:=cA) (by omega) Aaz.wf Ack.s1 Ack.s2 (by omega) (by omega)
 unfold RW at en;rw [RQ,B7 rfl] at en;have el:=LS (c:=cA) RQ;have de:=Alh (fu:=2000) (d:=d+5) (by omega) (Aid Aaz.wf RQ) (by omega)
 rw [UL Aaz RQ] at de;have p8:=KY (fu:=2000) (d:=d+4) (by omega) (cs:=[cA]) (by intro c hc;rw [List.mem_singleton.1 hc];exact Ack) (ans:=[⟨SV,Gs 71 1⟩]) (by simp) (vs:=[]) (by simp) 8
 have p9:=KY (fu:=2000) (d:=d+4) (by omega) (cs:=[cA]) (by intro c hc;rw [List.mem_singleton.1 hc];exact Ack) (ans:=[⟨SV,Gs 71 1⟩]) (by simp) (vs:=[]) (by simp) 9
 rw [VR 8 (by omega) (by omega),B7 (by omega)] at p8
 rw [VR 9 (by omega) (by omega),A7 (by omega)] at p9
 have sm:=Aiv (fu:=2000) (d:=d+11) (c:=cA) (by omega) (by omega) (by omega)
 have L:=Ak .u8 (Hq cA);have t:=Kc .u8 (Hq cA);have c0:VL.cells=[.sc (.string lfS),.sc (.string SV),.sc (.int .u64 9),.sc (.int .i64 (Gs 5 1).h),.sc (.int .u64 (Gs 5 1).root),.sc (.int .i64 1),.sc (.int .i64 8),.sc (.bool false),.sc (.int .i64 0),.sc (.int .u64 0),.sc (.int .i64 0),.lst false 1 0 [],.lst false 1 0 []]:=rfl;rw [c0] at sg;have e0:B8 [cA]=cA.cells:=by unfold B8;simp
 have e1:Il [⟨SV,Gs 71 1⟩]=[.sc (.string SV),.sc (.int .i64 (Gs 71 1).h),.sc (.int .u64 (Gs 71 1).root)]:=rfl;have e2:G3 []=[]:=rfl;rw [e0,e1,e2] at p8 p9;simp only [Ce.cells,Ky.cells,Jj,Xy,Bw] at k5 k71 sg en de p8 p9 sm;generalize Hq cA=E at *
 generalize cA=C at *
 generalize Gs 5 1=K at *
 generalize Gs 71 1=K2 at *
 have b0:((0:Int)==0)=true:=rfl;have b38:((38:Int)==38)=true:=rfl
 try unfold Aa
 repeat first
  |((with_reducible first|apply As|apply Am|apply At|apply Aq|apply A3|apply Bi|apply B3|apply Bz|apply Al);· first|with_reducible rfl|(simp (disch:=omega) only [k5,k71,sg,en,de,p8,p9,sm,b0,b38,Fa,Bw,Cb,L,t]<;>with_reducible rfl))
  |((with_reducible first|apply Av|apply Au);· first|with_reducible rfl|omega|(simp (disch:=omega) only [gT,k5,k71,sg,en,de,p8,p9,sm,b0,b38,Fa,Bw,Cb,L,t]<;>omega))
  |(with_reducible apply Aw;· first|with_reducible rfl|(simp (disch:=omega) only [gF,k5,k71,sg,en,de,p8,p9,sm,b0,b38,Fa,Bw,Cb,L,t]<;>omega))
 try simp (disch:=omega) only [k5,k71,sg,en,de,p8,p9,sm,b0,b38,Fa,Bw,Cb,L,t]
 all_goals rfl
end
end
section
open Go.IntKind (wrap)
set_option maxRecDepth 1000000
theorem w0:isW ([]:List Int):=fun x h=>by cases h
abbrev mdS:ByteArray:=⟨#[(109:UInt8),(105:UInt8),(100:UInt8)]⟩
abbrev tpS:ByteArray:=⟨#[(116:UInt8),(111:UInt8),(112:UInt8)]⟩
abbrev otS:ByteArray:=⟨#[(111:UInt8),(116:UInt8),(104:UInt8),(101:UInt8),(114:UInt8)]⟩
end
section
open Go.IntKind (wrap)
set_option maxRecDepth 100000
abbrev Me:FuncId:=26
noncomputable def Co (fu:Nat)(call:Ai)(a0_0n:Nat)(a0_0:List PV)(a0_1:Int)(nn y0:Nat)(y1:Int)(y2:Nat)(y3:Int)(y4:Nat)(y5:List PV)(y6:Int)(y7 y8:List PV):Option Az:=Cz CB Tryz.prog fu call 26 Tryz.f26 (Bq Tryz.f26) [.pbox [.lst false 1 a0_0n a0_0,.sc (.int .i64 a0_1)]] [.r,.r,.r,.r,.l,.r,.l] nn ⟨lk [(0,(.ptr 410000 0)),(5,(.view 5 1 0 y0)),(6,(.sc (.int .i64 y1))),(7,(.view 7 13 0 y2)),(8,(.sc (.int .i64 y3)))],B5 [(410000,(.st [(.lst false 1 y4 y5),(.sc (.int .i64 y6))])),(5,(.ar false y7)),(7,(.ar false y8))]⟩
noncomputable def Cq (fu:Nat)(call:Ai)(a0_0n:Nat)(a0_0:List PV)(a0_1:Int)(nn:Nat)(y0:Int)(y1:Nat)(y2:Int)(y3:Nat)(y4:List PV)(y5:Int)(y6:List PV):Option Az:=Cz CB Tryz.prog fu call 26 Tryz.f26 (Bq Tryz.f26) [.pbox [.lst false 1 a0_0n a0_0,.sc (.int .i64 a0_1)]] [.r,.r,.r,.r,.r,.r] nn ⟨lk [(0,(.ptr 410000 0)),(6,(.sc (.int .i64 y0))),(7,(.view 7 13 0 y1)),(10,(.sc (.int .i64 y2)))],B5 [(410000,(.st [(.lst false 1 y3 y4),(.sc (.int .i64 y5))])),(7,(.ar false y6))]⟩
noncomputable def Dl (fu:Nat)(call:Ai)(a0_0n:Nat)(a0_0:List PV)(a0_1:Int)(nn:Nat)(y0:Int)(y1:Nat)(y2 y3:Int)(y4:Nat)(y5:List PV)(y6:Int)(y7:List PV):Option Az:=Cz CB Tryz.prog fu call 26 Tryz.f26 (Bq Tryz.f26) [.pbox [.lst false 1 a0_0n a0_0,.sc (.int .i64 a0_1)]] [.r,.r,.r,.r,.r,.r,.r,.l,.r,.l] nn ⟨lk [(0,(.ptr 410000 0)),(6,(.sc (.int .i64 y0))),(7,(.view 7 13 0 y1)),(10,(.sc (.int .i64 y2))),(11,(.sc (.int .i64 y3)))],B5 [(410000,(.st [(.lst false 1 y4 y5),(.sc (.int .i64 y6))])),(7,(.ar false y7))]⟩
noncomputable def Cp (fu:Nat)(call:Ai)(a0_0n:Nat)(a0_0:List PV)(a0_1:Int)(nn y0:Nat)(y1 y2 y3:Nat)(y4:Int)(y5:Nat)(y6:List PV)(y7:Int)(y8 y9 y10:List PV):Option Az:=Cz CB Tryz.prog fu call 26 Tryz.f26 (Bq Tryz.f26) [.pbox [.lst false 1 a0_0n a0_0,.sc (.int .i64 a0_1)]] [.r,.r,.r,.r,.r,.r,.r,.r,.r,.r,.r,.l,.r,.l] nn ⟨lk [(0,(.ptr 410000 0)),(7,(.view 7 13 0 y0)),(13,(.view 13 3 y1 y2)),(14,(.view 14 3 0 y3)),(15,(.sc (.int .i64 y4)))],B5 [(410000,(.st [(.lst false 1 y5 y6),(.sc (.int .i64 y7))])),(7,(.ar false y8)),(13,(.ar false y9)),(14,(.ar false y10))]⟩
theorem Bn (fu:Nat)(call:Ai)(a0_0n:Nat)(a0_0:List PV)(a0_1:Int)(nn y0:Nat)(y1:Int)(y2:Nat)(y3:Int)(y4:Nat)(y5:List PV)(y6:Int)(y7 y8:List PV):Co fu call a0_0n a0_0 a0_1 (nn+1) y0 y1 y2 y3 y4 y5 y6 y7 y8=(Ba (decide (y3<y1)) (Ao (decide (0<=y3)&&decide (y3<(↑y0:Int)))<|Cj (List.getD y7 (0+Int.toNat y3*1) .top) fun E9=>Aa (wrap .u64 y3) fun Fq=>Aa (wrap .i64 (80+y3)) fun Fv=>Aa (wrap .u64 Fv) fun F5=>Ag (call 29 [.sc (.int .u64 F5),.sc (.int .i64 1)]) fun Id G6=>Ac G6<|Ab Id fun H7 D2=>C2 H7 fun Do=>Ab Do fun Ga Ia=>Ad .i64 Ga fun E1=>Ab Ia fun Ji Mm=>Ad .u64 Ji fun J5=>Ac Mm<|Ac D2<|Ag (call 14 [.pbox [.lst false 1 y4 y5,.sc (.int .i64 y6)],.sc (.int .i64 3)]) fun M1 Ms=>Ab M1 fun Of P6=>Ad .i64 Of fun Q2=>Ac P6<|Ab Ms fun Ta G8=>Ab Ta fun J7 Uy=>Fd 1 J7 fun Zh Ps Us=>Ab Uy fun Uc Sk=>Ad .i64 Uc fun Tp=>Ac Sk<|Ac G8<|Ag (call 14 [.pbox [.lst false 1 Ps Us,.sc (.int .i64 Tp)],.sc (.int .i64 5)]) fun Xk X9=>Ab Xk fun Tb V2=>Ad .i64 Tb fun Xq=>Ac V2<|Ab X9 fun Xf Pk=>Ab Xf fun Y9 CK=>Fd 1 Y9 fun CJ Zj Ud=>Ab CK fun Yn CI=>Ad .i64 Yn fun Yq=>Ac CI<|Ac Pk<|Aa (wrap .i64 (10+Xq)) fun Zk=>Ba (decide (y3>0)) (Aa (wrap .i64 (y3-1)) fun Yb=>Ag (call 14 [.pbox [.lst false 1 Zj Ud,.sc (.int .i64 Yq)],.sc (.int .i64 2)]) fun Zi BO=>Ab Zi fun Va Xe=>Ad .i64 Va fun CR=>Ac Xe<|Ab BO fun CD Zo=>Ab CD fun Y4 CF=>Fd 1 Y4 fun HH AJ EI=>Ab CF fun HG CL=>Ad .i64 HG fun FS=>Ac CL<|Ac Zo<|Aa (wrap .i64 (Yb+CR)) fun JJ=>Aa (if 2<JJ then 2 else JJ) fun II=>Aa (wrap .i64 (y1-1)) fun VJ=>Ba (decide (y3<VJ)) (Aa (wrap .i64 (y3+1)) fun SX=>Ao (decide (0<=SX)&&decide (SX<(↑y0:Int)))<|Cj (List.getD y7 (0+Int.toNat SX*1) .top) fun QW=>Ao (decide (y2*13<=y8.length)&&true&&decide ((y2+1)*152<=1099511627776)&&decide (y2+1<=1099511627776))<|Aa (y2+1) fun SP=>Aa (List.take (y2*13) y8++[.sc (.string E9),.sc (.string QW),.sc (.int .u64 Fq),.sc (.int .i64 E1),.sc (.int .u64 J5),.sc (.int .i64 Q2),.sc (.int .i64 Zk),.sc (.bool (decide (y3>0))),.sc (.int .i64 II),.sc (.int .u64 3),.sc (.int .i64 0),.lst false 1 0 [],.lst false 1 0 []]) fun XJ=>Aa (wrap .i64 (y3+1)) fun WY=>Co fu call a0_0n a0_0 a0_1 (nn) (y0) (y1) SP WY AJ EI FS (y7) XJ) (Ao (decide (y2*13<=y8.length)&&true&&decide ((y2+1)*152<=1099511627776)&&decide (y2+1<=1099511627776))<|Aa (y2+1) fun SZ=>Aa (List.take (y2*13) y8++[.sc (.string E9),.sc (.string (ByteArray.mk #[114,111,111,116])),.sc (.int .u64 Fq),.sc (.int .i64 E1),.sc (.int .u64 J5),.sc (.int .i64 Q2),.sc (.int .i64 Zk),.sc (.bool (decide (y3>0))),.sc (.int .i64 II),.sc (.int .u64 3),.sc (.int .i64 0),.lst false 1 0 [],.lst false 1 0 []]) fun QX=>Aa (wrap .i64 (y3+1)) fun GR=>Co fu call a0_0n a0_0 a0_1 (nn) (y0) (y1) SZ GR AJ EI FS (y7) QX)) (Aa (wrap .i64 (y1-1)) fun NU=>Ba (decide (y3<NU)) (Aa (wrap .i64 (y3+1)) fun QN=>Ao (decide (0<=QN)&&decide (QN<(↑y0:Int)))<|Cj (List.getD y7 (0+Int.toNat QN*1) .top) fun WP=>Ao (decide (y2*13<=y8.length)&&true&&decide ((y2+1)*152<=1099511627776)&&decide (y2+1<=1099511627776))<|Aa (y2+1) fun TJ=>Aa (List.take (y2*13) y8++[.sc (.string E9),.sc (.string WP),.sc (.int .u64 Fq),.sc (.int .i64 E1),.sc (.int .u64 J5),.sc (.int .i64 Q2),.sc (.int .i64 Zk),.sc (.bool (decide (y3>0))),.sc (.int .i64 0),.sc (.int .u64 3),.sc (.int .i64 0),.lst false 1 0 [],.lst false 1 0 []]) fun ZS=>Aa (wrap .i64 (y3+1)) fun XN=>Co fu call a0_0n a0_0 a0_1 (nn) (y0) (y1) TJ XN Zj Ud Yq (y7) ZS) (Ao (decide (y2*13<=y8.length)&&true&&decide ((y2+1)*152<=1099511627776)&&decide (y2+1<=1099511627776))<|Aa (y2+1) fun ZK=>Aa (List.take (y2*13) y8++[.sc (.string E9),.sc (.string (ByteArray.mk #[114,111,111,116])),.sc (.int .u64 Fq),.sc (.int .i64 E1),.sc (.int .u64 J5),.sc (.int .i64 Q2),.sc (.int .i64 Zk),.sc (.bool (decide (y3>0))),.sc (.int .i64 0),.sc (.int .u64 3),.sc (.int .i64 0),.lst false 1 0 [],.lst false 1 0 []]) fun SU=>Aa (wrap .i64 (y3+1)) fun XF=>Co fu call a0_0n a0_0 a0_1 (nn) (y0) (y1) ZK XF Zj Ud Yq (y7) SU))) (Ag (call 14 [.pbox [.lst false 1 y4 y5,.sc (.int .i64 y6)],.sc (.int .i64 y1)]) fun XK Wn=>Ab XK fun Vm Hp=>Ad .i64 Vm fun D4=>Ac Hp<|Ab Wn fun Yy R5=>Ab Yy fun Q5 Kd=>Fd 1 Q5 fun AB Yp Yd=>Ab Kd fun AU Ie=>Ad .i64 AU fun Jw=>Ac Ie<|Ac R5<|Ag (call 14 [.pbox [.lst false 1 Yp Yd,.sc (.int .i64 Jw)],.sc (.int .i64 12)]) fun X8 Yt=>Ab X8 fun Zc DD=>Ad .i64 Zc fun S1=>Ac DD<|Ab Yt fun V5 Wy=>Ab V5 fun W5 X1=>Fd 1 W5 fun Zr Rf Q0=>Ab X1 fun Pr Sq=>Ad .i64 Pr fun Ra=>Ac Sq<|Ac Wy<|Ba (S1==0) (Ao (decide (0<=D4)&&decide (D4<(↑y2:Int)))<|Ao (decide (0+Int.toNat D4*13+7+1<=y8.length))<|Aa (Bb y8 [.sc (.bool false)] (0+Int.toNat D4*13+7)) fun Wt=>Ao (decide (0<=D4)&&decide (D4<(↑y2:Int)))<|Ao (decide (0+Int.toNat D4*13+8+1<=Wt.length))<|Aa (Bb Wt [.sc (.int .i64 0)] (0+Int.toNat D4*13+8)) fun V4=>Cq fu call a0_0n a0_0 a0_1 (fu) (y1) (y2) D4 Rf Q0 Ra V4) (Ba (S1==1) (Ao (decide (0<=D4)&&decide (D4<(↑y2:Int)))<|Ao (decide (0+Int.toNat D4*13+8+1<=y8.length))<|Aa (Bb y8 [.sc (.int .i64 0)] (0+Int.toNat D4*13+8)) fun CV=>Cq fu call a0_0n a0_0 a0_1 (fu) (y1) (y2) D4 Rf Q0 Ra CV) (Ba (S1==2) (Ao (decide (0<=D4)&&decide (D4<(↑y2:Int)))<|Ao (decide (0+Int.toNat D4*13+1+1<=y8.length))<|Aa (Bb y8 [.sc (.string (ByteArray.mk #[111,116,104,101,114]))] (0+Int.toNat D4*13+1)) fun X6=>Cq fu call a0_0n a0_0 a0_1 (fu) (y1) (y2) D4 Rf Q0 Ra X6) (Ba (S1==3) (Ao (decide (0<=D4)&&decide (D4<(↑y2:Int)))<|Ao (decide (0+Int.toNat D4*13+0+1<=y8.length))<|Aa (Bb y8 [.sc (.string (ByteArray.mk #[111,116,104,101,114]))] (0+Int.toNat D4*13+0)) fun Uz=>Cq fu call a0_0n a0_0 a0_1 (fu) (y1) (y2) D4 Rf Q0 Ra Uz) (Ba (S1==4) (Ao (decide (0<=D4)&&decide (D4<(↑y2:Int)))<|Ad .i64 (List.getD y8 (0+Int.toNat D4*13+5) .top) fun GI=>Ao (decide (0<=D4)&&decide (D4<(↑y2:Int)))<|Ao (decide (0+Int.toNat D4*13+6+1<=y8.length))<|Aa (Bb y8 [.sc (.int .i64 GI)] (0+Int.toNat D4*13+6)) fun LD=>Cq fu call a0_0n a0_0 a0_1 (fu) (y1) (y2) D4 Rf Q0 Ra LD) (Cq fu call a0_0n a0_0 a0_1 (fu) (y1) (y2) D4 Rf Q0 Ra (y8)))))))):=by kernel_rfl
theorem Rq (fu:Nat)(call:Ai)(a0_0n:Nat)(a0_0:List PV)(a0_1:Int)(nn:Nat)(hnn:0<nn)(y0:Int)(y1:Nat)(y2:Int)(y3:Nat)(y4:List PV)(y5:Int)(y6:List PV):Cq fu call a0_0n a0_0 a0_1 nn y0 y1 y2 y3 y4 y5 y6=(Dl fu call a0_0n a0_0 a0_1 (fu) (y0) (y1) (y2) 0 (y3) (y4) (y5) (y6)):=by cases nn with|zero=>exact absurd hnn (Nat.lt_irrefl 0)|succ nn=>kernel_rfl
theorem Dc (fu:Nat)(call:Ai)(a0_0n:Nat)(a0_0:List PV)(a0_1:Int)(nn:Nat)(y0:Int)(y1:Nat)(y2 y3:Int)(y4:Nat)(y5:List PV)(y6:Int)(y7:List PV):Dl fu call a0_0n a0_0 a0_1 (nn+1) y0 y1 y2 y3 y4 y5 y6 y7=(Ba (decide (y3<y0)) (Aa (wrap .i64 (81+y3)) fun IW=>Aa (wrap .u64 IW) fun MT=>Aa (wrap .i64 (y0-1)) fun IB=>Ba (y3==IB) (Ao (decide (0<=y3)&&decide (y3<(↑y1:Int)))<|Cj (List.getD y7 (0+Int.toNat y3*13) .top) fun CW=>Cj (List.getD y7 (0+Int.toNat y3*13+1) .top) fun GY=>Ad .u64 (List.getD y7 (0+Int.toNat y3*13+1+1) .top) fun HW=>Ad .i64 (List.getD y7 (0+Int.toNat y3*13+1+1+1) .top) fun IM=>Ad .u64 (List.getD y7 (0+Int.toNat y3*13+1+1+1+1) .top) fun KE=>Ad .i64 (List.getD y7 (0+Int.toNat y3*13+1+1+1+1+1) .top) fun CM=>Ad .i64 (List.getD y7 (0+Int.toNat y3*13+1+1+1+1+1+1) .top) fun GN=>Bk (List.getD y7 (0+Int.toNat y3*13+1+1+1+1+1+1+1) .top) fun GU=>Ad .i64 (List.getD y7 (0+Int.toNat y3*13+1+1+1+1+1+1+1+1) .top) fun GM=>Ad .u64 (List.getD y7 (0+Int.toNat y3*13+1+1+1+1+1+1+1+1+1) .top) fun KN=>Ad .i64 (List.getD y7 (0+Int.toNat y3*13+1+1+1+1+1+1+1+1+1+1) .top) fun RH=>Fd 1 (List.getD y7 (0+Int.toNat y3*13+1+1+1+1+1+1+1+1+1+1+1) .top) fun WO QM DP=>Fd 1 (List.getD y7 (0+Int.toNat y3*13+1+1+1+1+1+1+1+1+1+1+1+1) .top) fun MN SH Aas=>Ag (call 14 [.pbox [.lst false 1 y4 y5,.sc (.int .i64 y6)],.sc (.int .i64 2)]) fun ZP UO=>Ab ZP fun SA VK=>Ad .i64 SA fun Aai=>Ac VK<|Ab UO fun YO UN=>Ab YO fun YK RS=>Fd 1 YK fun XO XQ QV=>Ab RS fun UR XR=>Ad .i64 UR fun ZV=>Ac XR<|Ac UN<|Ag (call 13 [.agg [.sc (.string CW),.sc (.string GY),.sc (.int .u64 HW),.sc (.int .i64 IM),.sc (.int .u64 KE),.sc (.int .i64 CM),.sc (.int .i64 GN),.sc (.bool GU),.sc (.int .i64 GM),.sc (.int .u64 KN),.sc (.int .i64 RH),.lst false 1 QM DP,.lst false 1 SH Aas],.sc (.int .u64 71),.sc (.int .i64 1),.sc (.int .i64 Aai)]) fun ZT Ago=>Ac Ago<|Ab ZT fun Ahr Aft=>C2 Ahr fun ZQ=>Ab ZQ fun Aed Agt=>Cj Aed fun Ahh=>Ab Agt fun Aim Ams=>Cj Aim fun Aoq=>Ab Ams fun Agn Alc=>Ad .u64 Agn fun Aos=>Ab Alc fun Apj Ao4=>Ad .i64 Apj fun Aqy=>Ab Ao4 fun Apn Arg=>Ad .u64 Apn fun Aoe=>Ab Arg fun Ao1 An9=>Ad .i64 Ao1 fun Aqh=>Ab An9 fun Aoj Anq=>Ad .i64 Aoj fun Aq0=>Ab Anq fun Apx Ap9=>Bk Apx fun Arr=>Ab Ap9 fun Ane Aqu=>Ad .i64 Ane fun Aqf=>Ab Aqu fun Ap0 Am8=>Ad .u64 Ap0 fun Aph=>Ab Am8 fun Aor Aoa=>Ad .i64 Aor fun Aqn=>Ab Aoa fun Aog Ans=>Fd 1 Aog fun Ask Ano Aoc=>Ab Ans fun Aol Aoh=>Fd 1 Aol fun As5 Anj Aqi=>Ac Aoh<|Ab Aft fun Aqz Aoy=>Ad .i64 Aqz fun Asp=>Ac Aoy<|Ao (decide (0<=y3)&&decide (y3<(↑y1:Int)))<|Ao (decide (0+Int.toNat y3*13+13<=y7.length))<|Aa (Bb y7 [.sc (.string Ahh),.sc (.string Aoq),.sc (.int .u64 Aos),.sc (.int .i64 Aqy),.sc (.int .u64 Aoe),.sc (.int .i64 Aqh),.sc (.int .i64 Aq0),.sc (.bool Arr),.sc (.int .i64 Aqf),.sc (.int .u64 Aph),.sc (.int .i64 Aqn),.lst false 1 Ano Aoc,.lst false 1 Anj Aqi] (0+Int.toNat y3*13)) fun Aq6=>Aa (wrap .i64 (y3+1)) fun Aou=>Dl fu call a0_0n a0_0 a0_1 (nn) (y0) (y1) (y2) Aou XQ QV ZV Aq6) (Ao (decide (0<=y3)&&decide (y3<(↑y1:Int)))<|Cj (List.getD y7 (0+Int.toNat y3*13) .top) fun Anu=>Cj (List.getD y7 (0+Int.toNat y3*13+1) .top) fun Amu=>Ad .u64 (List.getD y7 (0+Int.toNat y3*13+1+1) .top) fun Ara=>Ad .i64 (List.getD y7 (0+Int.toNat y3*13+1+1+1) .top) fun Apg=>Ad .u64 (List.getD y7 (0+Int.toNat y3*13+1+1+1+1) .top) fun Arp=>Ad .i64 (List.getD y7 (0+Int.toNat y3*13+1+1+1+1+1) .top) fun Am4=>Ad .i64 (List.getD y7 (0+Int.toNat y3*13+1+1+1+1+1+1) .top) fun And=>Bk (List.getD y7 (0+Int.toNat y3*13+1+1+1+1+1+1+1) .top) fun Ark=>Ad .i64 (List.getD y7 (0+Int.toNat y3*13+1+1+1+1+1+1+1+1) .top) fun Apm=>Ad .u64 (List.getD y7 (0+Int.toNat y3*13+1+1+1+1+1+1+1+1+1) .top) fun Ap7=>Ad .i64 (List.getD y7 (0+Int.toNat y3*13+1+1+1+1+1+1+1+1+1+1) .top) fun Am3=>Fd 1 (List.getD y7 (0+Int.toNat y3*13+1+1+1+1+1+1+1+1+1+1+1) .top) fun Asf Apr Apa=>Fd 1 (List.getD y7 (0+Int.toNat y3*13+1+1+1+1+1+1+1+1+1+1+1+1) .top) fun As1 Aqt Apz=>Ag (call 14 [.pbox [.lst false 1 y4 y5,.sc (.int .i64 y6)],.sc (.int .i64 2)]) fun Amv An0=>Ab Amv fun Aqc Apt=>Ad .i64 Aqc fun Aqo=>Ac Apt<|Ab An0 fun Amq Ank=>Ab Amq fun Aqk Ap5=>Fd 1 Aqk fun Ar9 Amp Aov=>Ab Ap5 fun Anh Aqm=>Ad .i64 Anh fun Arj=>Ac Aqm<|Ac Ank<|Ag (call 13 [.agg [.sc (.string Anu),.sc (.string Amu),.sc (.int .u64 Ara),.sc (.int .i64 Apg),.sc (.int .u64 Arp),.sc (.int .i64 Am4),.sc (.int .i64 And),.sc (.bool Ark),.sc (.int .i64 Apm),.sc (.int .u64 Ap7),.sc (.int .i64 Am3),.lst false 1 Apr Apa,.lst false 1 Aqt Apz],.sc (.int .u64 MT),.sc (.int .i64 1),.sc (.int .i64 Aqo)]) fun Apw Anr=>Ac Anr<|Ab Apw fun An5 Aq8=>C2 An5 fun Aoi=>Ab Aoi fun Api Anv=>Cj Api fun Apb=>Ab Anv fun Arl Arq=>Cj Arl fun Am0=>Ab Arq fun Arc Anw=>Ad .u64 Arc fun Ape=>Ab Anw fun Aml Aot=>Ad .i64 Aml fun Aqr=>Ab Aot fun Apv Amy=>Ad .u64 Apv fun Aqg=>Ab Amy fun Aqb Ao2=>Ad .i64 Aqb fun Aq1=>Ab Ao2 fun Anb Ap6=>Ad .i64 Anb fun Amx=>Ab Ap6 fun An1 Aob=>Bk An1 fun Aqe=>Ab Aob fun Ant Am7=>Ad .i64 Ant fun Ap1=>Ab Am7 fun Ao9 Apo=>Ad .u64 Ao9 fun Ap3=>Ab Apo fun Apq Aok=>Ad .i64 Apq fun Amk=>Ab Aok fun Apy An8=>Fd 1 Apy fun As6 Ann An4=>Ab An8 fun An7 Amn=>Fd 1 An7 fun As3 Ap4 Aro=>Ac Amn<|Ab Aq8 fun Apk Ard=>Ad .i64 Apk fun Asw=>Ac Ard<|Ao (decide (0<=y3)&&decide (y3<(↑y1:Int)))<|Ao (decide (0+Int.toNat y3*13+13<=y7.length))<|Aa (Bb y7 [.sc (.string Apb),.sc (.string Am0),.sc (.int .u64 Ape),.sc (.int .i64 Aqr),.sc (.int .u64 Aqg),.sc (.int .i64 Aq1),.sc (.int .i64 Amx),.sc (.bool Aqe),.sc (.int .i64 Ap1),.sc (.int .u64 Ap3),.sc (.int .i64 Amk),.lst false 1 Ann An4,.lst false 1 Ap4 Aro] (0+Int.toNat y3*13)) fun Anx=>Aa (wrap .i64 (y3+1)) fun Aox=>Dl fu call a0_0n a0_0 a0_1 (nn) (y0) (y1) (y2) Aox Amp Aov Arj Anx)) (Ag (call 14 [.pbox [.lst false 1 y4 y5,.sc (.int .i64 y6)],.sc (.int .i64 12)]) fun Ari Aqw=>Ab Ari fun Anz Aqj=>Ad .i64 Anz fun Adr=>Ac Aqj<|Ab Aqw fun Ao0 Amt=>Ab Ao0 fun Ao8 Am5=>Fd 1 Ao8 fun Asz ZE YS=>Ab Am5 fun Apf Aqa=>Ad .i64 Apf fun ZB=>Ac Aqa<|Ac Amt<|Ba (Adr==0) (Ao (decide (0<=y2)&&decide (y2<(↑y1:Int)))<|Ad .u64 (List.getD y7 (0+Int.toNat y2*13+2) .top) fun Anf=>Aa (wrap .u64 (Anf+7)) fun Aq3=>Ao (decide (0<=y2)&&decide (y2<(↑y1:Int)))<|Ao (decide (0+Int.toNat y2*13+2+1<=y7.length))<|Aa (Bb y7 [.sc (.int .u64 Aq3)] (0+Int.toNat y2*13+2)) fun Apl=>Ag (call 29 [.sc (.int .u64 72),.sc (.int .i64 1)]) fun Ao7 Apd=>Ac Apd<|Ab Ao7 fun Aps Amw=>C2 Aps fun Ag8=>Ab Ag8 fun Ak8 Ayh=>Ad .i64 Ak8 fun A1n=>Ab Ayh fun Az5 A16=>Ad .u64 Az5 fun Ato=>Ac A16<|Ac Amw<|Ag (call 29 [.sc (.int .u64 71),.sc (.int .i64 1)]) fun Atw A03=>Ac A03<|Ab Atw fun Ath A0b=>C2 Ath fun Azi=>Ab Azi fun Axz A1k=>Ad .i64 Axz fun A0u=>Ab A1k fun Azh Azj=>Ad .u64 Azh fun A39=>Ac Azj<|Ac A0b<|Ag (call 29 [.sc (.int .u64 71),.sc (.int .i64 1)]) fun Avg A1l=>Ac A1l<|Ab Avg fun A44 A01=>C2 A44 fun A0o=>Ab A0o fun Awl A5a=>Ad .i64 Awl fun A26=>Ab A5a fun Az7 Auz=>Ad .u64 Az7 fun A12=>Ac Auz<|Ac A01<|Ag (call 14 [.pbox [.lst false 1 ZE YS,.sc (.int .i64 ZB)],.sc (.int .i64 2)]) fun A41 Avd=>Ab A41 fun A4s Au6=>Ad .i64 A4s fun Akh=>Ac Au6<|Ab Avd fun A11 A02=>Ab A11 fun Au4 A45=>Fd 1 Au4 fun A6c Ayu A3a=>Ab A45 fun A3s A4x=>Ad .i64 A3s fun A31=>Ac A4x<|Ac A02<|Ag (call 14 [.pbox [.lst false 1 Ayu A3a,.sc (.int .i64 A31)],.sc (.int .i64 2)]) fun Aug Az1=>Ab Aug fun Aui Atj=>Ad .i64 Aui fun Avf=>Ac Atj<|Ab Az1 fun Auq Azl=>Ab Auq fun A18 Avp=>Fd 1 A18 fun A6d Avk Azf=>Ab Avp fun A4q A2r=>Ad .i64 A4q fun At3=>Ac A2r<|Ac Azl<|Aa (wrap .i64 (2+Avf)) fun Ajp=>Ao (decide (0<=Akh))<|Ao (decide (0<=Ajp))<|Ao (decide (Int.toNat Akh<=Int.toNat Ajp)&&decide (Int.toNat Ajp<=3))<|Aa (0+Int.toNat Akh*3) fun Au0=>Aa (Int.toNat Ajp-Int.toNat Akh) fun Axq=>Ag (call 14 [.pbox [.lst false 1 Avk Azf,.sc (.int .i64 At3)],.sc (.int .i64 3)]) fun A3t Axk=>Ab A3t fun Ats Aue=>Ad .i64 Ats fun A3o=>Ac Aue<|Ab Axk fun A47 Ax1=>Ab A47 fun Ave Ay6=>Fd 1 Ave fun A6s A27 A4r=>Ab Ay6 fun A1p At4=>Ad .i64 A1p fun A24=>Ac At4<|Ac Ax1<|Cp fu call a0_0n a0_0 a0_1 (fu) (y1) Au0 Axq 0 A3o A27 A4r A24 Apl ([.sc (.string (ByteArray.mk #[114,111,111,116])),.sc (.int .i64 A1n),.sc (.int .u64 Ato),.sc (.string (ByteArray.mk #[114,111,111,116])),.sc (.int .i64 A0u),.sc (.int .u64 A39),.sc (.string (ByteArray.mk #[109,105,100])),.sc (.int .i64 A26),.sc (.int .u64 A12)]) ([])) (Ba (Adr==1) (Aa (wrap .i64 (y2+1)) fun Amm=>Ao (decide (0<=Amm))<|Ao (decide (Int.toNat Amm<=y1))<|Aa (Int.toNat Amm-0) fun A0r=>Ag (call 29 [.sc (.int .u64 72),.sc (.int .i64 1)]) fun Avj A0p=>Ac A0p<|Ab Avj fun A4t A0s=>C2 A4t fun A2b=>Ab A2b fun A4i A5f=>Ad .i64 A4i fun Azy=>Ab A5f fun Aws Ayq=>Ad .u64 Aws fun Ayg=>Ac Ayq<|Ac A0s<|Ag (call 29 [.sc (.int .u64 71),.sc (.int .i64 1)]) fun Axe A1h=>Ac A1h<|Ab Axe fun Ay2 Azg=>C2 Ay2 fun A5y=>Ab A5y fun Ayy Ay3=>Ad .i64 Ayy fun A37=>Ab Ay3 fun A4e Atk=>Ad .u64 A4e fun Ayn=>Ac Atk<|Ac Azg<|Ag (call 29 [.sc (.int .u64 71),.sc (.int .i64 1)]) fun A0n A3d=>Ac A3d<|Ab A0n fun Aw6 A1m=>C2 Aw6 fun Awd=>Ab Awd fun Awj Av6=>Ad .i64 Awj fun Att=>Ab Av6 fun A1y Ax6=>Ad .u64 A1y fun Aur=>Ac Ax6<|Ac A1m<|Ag (call 14 [.pbox [.lst false 1 ZE YS,.sc (.int .i64 ZB)],.sc (.int .i64 2)]) fun Aw0 Aud=>Ab Aw0 fun Awm A4n=>Ad .i64 Awm fun Akz=>Ac A4n<|Ab Aud fun A22 Av7=>Ab A22 fun Ax9 Azq=>Fd 1 Ax9 fun A6u Azz A3n=>Ab Azq fun Awa A0h=>Ad .i64 Awa fun Axi=>Ac A0h<|Ac Av7<|Ag (call 14 [.pbox [.lst false 1 Azz A3n,.sc (.int .i64 Axi)],.sc (.int .i64 2)]) fun Az8 Aya=>Ab Az8 fun Azk Axm=>Ad .i64 Azk fun Axf=>Ac Axm<|Ab Aya fun Atu Az0=>Ab Atu fun Aut A0a=>Fd 1 Aut fun A6e Avu A1r=>Ab A0a fun A2c A2g=>Ad .i64 A2c fun A10=>Ac A2g<|Ac Az0<|Aa (wrap .i64 (2+Axf)) fun Aky=>Ao (decide (0<=Akz))<|Ao (decide (0<=Aky))<|Ao (decide (Int.toNat Akz<=Int.toNat Aky)&&decide (Int.toNat Aky<=3))<|Aa (0+Int.toNat Akz*3) fun Ay7=>Aa (Int.toNat Aky-Int.toNat Akz) fun A5h=>Ag (call 14 [.pbox [.lst false 1 Avu A1r,.sc (.int .i64 A10)],.sc (.int .i64 3)]) fun Ayf A4b=>Ab Ayf fun A49 Auo=>Ad .i64 A49 fun A43=>Ac Auo<|Ab A4b fun A0d A30=>Ab A0d fun A2f A5r=>Fd 1 A2f fun A6m A2d A2k=>Ab A5r fun A3j Ax2=>Ad .i64 A3j fun Azp=>Ac Ax2<|Ac A30<|Cp fu call a0_0n a0_0 a0_1 (fu) A0r Ay7 A5h 0 A43 A2d A2k Azp (y7) ([.sc (.string (ByteArray.mk #[114,111,111,116])),.sc (.int .i64 Azy),.sc (.int .u64 Ayg),.sc (.string (ByteArray.mk #[114,111,111,116])),.sc (.int .i64 A37),.sc (.int .u64 Ayn),.sc (.string (ByteArray.mk #[109,105,100])),.sc (.int .i64 Att),.sc (.int .u64 Aur)]) ([])) (Ba (Adr==2) (Ao (decide (0<=y2)&&decide (y2<(↑y1:Int)))<|Cj (List.getD y7 (0+Int.toNat y2*13) .top) fun A17=>Cj (List.getD y7 (0+Int.toNat y2*13+1) .top) fun A2l=>Ad .u64 (List.getD y7 (0+Int.toNat y2*13+1+1) .top) fun At5=>Ad .i64 (List.getD y7 (0+Int.toNat y2*13+1+1+1) .top) fun A1a=>Ad .u64 (List.getD y7 (0+Int.toNat y2*13+1+1+1+1) .top) fun Azn=>Ad .i64 (List.getD y7 (0+Int.toNat y2*13+1+1+1+1+1) .top) fun Awv=>Ad .i64 (List.getD y7 (0+Int.toNat y2*13+1+1+1+1+1+1) .top) fun A0k=>Bk (List.getD y7 (0+Int.toNat y2*13+1+1+1+1+1+1+1) .top) fun A1g=>Ad .i64 (List.getD y7 (0+Int.toNat y2*13+1+1+1+1+1+1+1+1) .top) fun At9=>Ad .u64 (List.getD y7 (0+Int.toNat y2*13+1+1+1+1+1+1+1+1+1) .top) fun Avz=>Ad .i64 (List.getD y7 (0+Int.toNat y2*13+1+1+1+1+1+1+1+1+1+1) .top) fun A3y=>Fd 1 (List.getD y7 (0+Int.toNat y2*13+1+1+1+1+1+1+1+1+1+1+1) .top) fun A6f Ayc Atf=>Fd 1 (List.getD y7 (0+Int.toNat y2*13+1+1+1+1+1+1+1+1+1+1+1+1) .top) fun A59 A2o Axg=>Ao (decide (y1*13<=y7.length)&&true&&decide ((y1+1)*152<=1099511627776)&&decide (y1+1<=1099511627776))<|Aa (y1+1) fun Aun=>Aa (List.take (y1*13) y7++[.sc (.string A17),.sc (.string A2l),.sc (.int .u64 At5),.sc (.int .i64 A1a),.sc (.int .u64 Azn),.sc (.int .i64 Awv),.sc (.int .i64 A0k),.sc (.bool A1g),.sc (.int .i64 At9),.sc (.int .u64 Avz),.sc (.int .i64 A3y),.lst false 1 Ayc Atf,.lst false 1 A2o Axg]) fun A2s=>Ag (call 29 [.sc (.int .u64 72),.sc (.int .i64 1)]) fun Axw Azr=>Ac Azr<|Ab Axw fun A0g Av8=>C2 A0g fun Atv=>Ab Atv fun Axj A3w=>Ad .i64 Axj fun A06=>Ab A3w fun A15 Avh=>Ad .u64 A15 fun A4v=>Ac Avh<|Ac Av8<|Ag (call 29 [.sc (.int .u64 71),.sc (.int .i64 1)]) fun A25 A0c=>Ac A0c<|Ab A25 fun A34 A33=>C2 A34 fun Avi=>Ab Avi fun Avt Ax0=>Ad .i64 Avt fun A3e=>Ab Ax0 fun Aul Aw7=>Ad .u64 Aul fun A5j=>Ac Aw7<|Ac A33<|Ag (call 29 [.sc (.int .u64 71),.sc (.int .i64 1)]) fun Axx Aw5=>Ac Aw5<|Ab Axx fun Ay9 Aze=>C2 Ay9 fun A4m=>Ab A4m fun A3l Av0=>Ad .i64 A3l fun A1j=>Ab Av0 fun A2h Atq=>Ad .u64 A2h fun Ax7=>Ac Atq<|Ac Aze<|Ag (call 14 [.pbox [.lst false 1 ZE YS,.sc (.int .i64 ZB)],.sc (.int .i64 2)]) fun Aw8 A3z=>Ab Aw8 fun Ayt Axh=>Ad .i64 Ayt fun Aks=>Ac Axh<|Ab A3z fun A3q A2u=>Ab A3q fun A04 At7=>Fd 1 A04 fun A6k Ax8 A5e=>Ab At7 fun A38 A2x=>Ad .i64 A38 fun Ayk=>Ac A2x<|Ac A2u<|Ag (call 14 [.pbox [.lst false 1 Ax8 A5e,.sc (.int .i64 Ayk)],.sc (.int .i64 2)]) fun Aw2 A32=>Ab Aw2 fun Atg Avn=>Ad .i64 Atg fun Awe=>Ac Avn<|Ab A32 fun A4h A42=>Ab A4h fun A23 Azv=>Fd 1 A23 fun A6h A5b Avm=>Ab Azv fun Aw3 A29=>Ad .i64 Aw3 fun Ays=>Ac A29<|Ac A42<|Aa (wrap .i64 (2+Awe)) fun Aj4=>Ao (decide (0<=Aks))<|Ao (decide (0<=Aj4))<|Ao (decide (Int.toNat Aks<=Int.toNat Aj4)&&decide (Int.toNat Aj4<=3))<|Aa (0+Int.toNat Aks*3) fun Awo=>Aa (Int.toNat Aj4-Int.toNat Aks) fun Ayx=>Ag (call 14 [.pbox [.lst false 1 A5b Avm,.sc (.int .i64 Ays)],.sc (.int .i64 3)]) fun Aw1 Aus=>Ab Aw1 fun Auh A5l=>Ad .i64 Auh fun Az9=>Ac A5l<|Ab Aus fun Au3 A4c=>Ab Au3 fun Ate Axs=>Fd 1 Ate fun A6b A48 Az3=>Ab Axs fun Ayi A1e=>Ad .i64 Ayi fun Azw=>Ac A1e<|Ac A4c<|Cp fu call a0_0n a0_0 a0_1 (fu) Aun Awo Ayx 0 Az9 A48 Az3 Azw A2s ([.sc (.string (ByteArray.mk #[114,111,111,116])),.sc (.int .i64 A06),.sc (.int .u64 A4v),.sc (.string (ByteArray.mk #[114,111,111,116])),.sc (.int .i64 A3e),.sc (.int .u64 A5j),.sc (.string (ByteArray.mk #[109,105,100])),.sc (.int .i64 A1j),.sc (.int .u64 Ax7)]) ([])) (Ba (Adr==3) (Ao (decide (0<=y2)&&decide (y2<(↑y1:Int)))<|Ao (decide (0+Int.toNat y2*13+6+1<=y7.length))<|Aa (Bb y7 [.sc (.int .i64 (-1))] (0+Int.toNat y2*13+6)) fun Ayo=>Ag (call 29 [.sc (.int .u64 72),.sc (.int .i64 1)]) fun A0q A3f=>Ac A3f<|Ab A0q fun Au5 At2=>C2 Au5 fun A2p=>Ab A2p fun Ay4 A0j=>Ad .i64 Ay4 fun A4w=>Ab A0j fun A3x A1i=>Ad .u64 A3x fun A4a=>Ac A1i<|Ac At2<|Ag (call 29 [.sc (.int .u64 71),.sc (.int .i64 1)]) fun Ay0 A5m=>Ac A5m<|Ab Ay0 fun Auv A1t=>C2 Auv fun A00=>Ab A00 fun Avb Azu=>Ad .i64 Avb fun A0w=>Ab Azu fun Awq A0m=>Ad .u64 Awq fun A1w=>Ac A0m<|Ac A1t<|Ag (call 29 [.sc (.int .u64 71),.sc (.int .i64 1)]) fun Auu Awc=>Ac Awc<|Ab Auu fun A13 A35=>C2 A13 fun A5q=>Ab A5q fun A5n Au1=>Ad .i64 A5n fun Axo=>Ab Au1 fun Ayd Atz=>Ad .u64 Ayd fun Av4=>Ac Atz<|Ac A35<|Ag (call 14 [.pbox [.lst false 1 ZE YS,.sc (.int .i64 ZB)],.sc (.int .i64 2)]) fun A1d A3v=>Ab A1d fun Av2 A51=>Ad .i64 Av2 fun Akq=>Ac A51<|Ab A3v fun A4u Awr=>Ab A4u fun Aux A21=>Fd 1 Aux fun A6o A3b A3m=>Ab A21 fun Axa Avq=>Ad .i64 Axa fun Az6=>Ac Avq<|Ac Awr<|Ag (call 14 [.pbox [.lst false 1 A3b A3m,.sc (.int .i64 Az6)],.sc (.int .i64 2)]) fun A0t A1v=>Ab A0t fun Avv Aye=>Ad .i64 Avv fun Ayb=>Ac Aye<|Ab A1v fun A1x Awh=>Ab A1x fun Atp A0v=>Fd 1 Atp fun A6v A4k Au8=>Ab A0v fun Azb Azo=>Ad .i64 Azb fun A0x=>Ac Azo<|Ac Awh<|Aa (wrap .i64 (2+Ayb)) fun Akd=>Ao (decide (0<=Akq))<|Ao (decide (0<=Akd))<|Ao (decide (Int.toNat Akq<=Int.toNat Akd)&&decide (Int.toNat Akd<=3))<|Aa (0+Int.toNat Akq*3) fun A1u=>Aa (Int.toNat Akd-Int.toNat Akq) fun Aub=>Ag (call 14 [.pbox [.lst false 1 A4k Au8,.sc (.int .i64 A0x)],.sc (.int .i64 3)]) fun A2v A50=>Ab A2v fun A4o Ax4=>Ad .i64 A4o fun Aty=>Ac Ax4<|Ab A50 fun Av9 At8=>Ab Av9 fun A5w A0f=>Fd 1 A5w fun A6r Ayp A20=>Ab A0f fun A2q Auj=>Ad .i64 A2q fun A28=>Ac Auj<|Ac At8<|Cp fu call a0_0n a0_0 a0_1 (fu) (y1) A1u Aub 0 Aty Ayp A20 A28 Ayo ([.sc (.string (ByteArray.mk #[114,111,111,116])),.sc (.int .i64 A4w),.sc (.int .u64 A4a),.sc (.string (ByteArray.mk #[114,111,111,116])),.sc (.int .i64 A0w),.sc (.int .u64 A1w),.sc (.string (ByteArray.mk #[109,105,100])),.sc (.int .i64 Axo),.sc (.int .u64 Av4)]) ([])) (Ag (call 29 [.sc (.int .u64 72),.sc (.int .i64 1)]) fun Ay1 Atl=>Ac Atl<|Ab Ay1 fun Avx Axp=>C2 Avx fun A1c=>Ab A1c fun Auk A5c=>Ad .i64 Auk fun Axl=>Ab A5c fun Aup Azt=>Ad .u64 Aup fun Avy=>Ac Azt<|Ac Axp<|Ag (call 29 [.sc (.int .u64 71),.sc (.int .i64 1)]) fun Aww A5p=>Ac A5p<|Ab Aww fun A3k A08=>C2 A3k fun Av3=>Ab Av3 fun A5t A4f=>Ad .i64 A5t fun A4y=>Ab A4f fun Az2 Au2=>Ad .u64 Az2 fun Av1=>Ac Au2<|Ac A08<|Ag (call 29 [.sc (.int .u64 71),.sc (.int .i64 1)]) fun Ayw Awk=>Ac Awk<|Ab Ayw fun Aua Avw=>C2 Aua fun A36=>Ab A36 fun A5u Awz=>Ad .i64 A5u fun Avo=>Ab Awz fun Auw Atm=>Ad .u64 Auw fun A2i=>Ac Atm<|Ac Avw<|Ag (call 14 [.pbox [.lst false 1 ZE YS,.sc (.int .i64 ZB)],.sc (.int .i64 2)]) fun A4g A2m=>Ab A4g fun Aw4 Awp=>Ad .i64 Aw4 fun Akn=>Ac Awp<|Ab A2m fun Az4 A4p=>Ab Az4 fun Awt A4l=>Fd 1 Awt fun A58 A2e Ayl=>Ab A4l fun Awx A09=>Ad .i64 Awx fun A5z=>Ac A09<|Ac A4p<|Ag (call 14 [.pbox [.lst false 1 A2e Ayl,.sc (.int .i64 A5z)],.sc (.int .i64 2)]) fun Aym A46=>Ab Aym fun Av5 A1q=>Ad .i64 Av5 fun Azs=>Ac A1q<|Ab A46 fun Axy A3i=>Ab Axy fun A0l A2z=>Fd 1 A0l fun A6t Avc A4j=>Ab A2z fun A5v Aza=>Ad .i64 A5v fun Axt=>Ac Aza<|Ac A3i<|Aa (wrap .i64 (2+Azs)) fun Akv=>Ao (decide (0<=Akn))<|Ao (decide (0<=Akv))<|Ao (decide (Int.toNat Akn<=Int.toNat Akv)&&decide (Int.toNat Akv<=3))<|Aa (0+Int.toNat Akn*3) fun A3h=>Aa (Int.toNat Akv-Int.toNat Akn) fun Ayz=>Ag (call 14 [.pbox [.lst false 1 Avc A4j,.sc (.int .i64 Axt)],.sc (.int .i64 3)]) fun Awu A1b=>Ab Awu fun Ay5 Awf=>Ad .i64 Ay5 fun A1s=>Ac Awf<|Ab A1b fun Ay8 Axc=>Ab Ay8 fun Au9 Auf=>Fd 1 Au9 fun A6q Atn A1f=>Ab Auf fun Awn Awy=>Ad .i64 Awn fun Axb=>Ac Awy<|Ac Axc<|Cp fu call a0_0n a0_0 a0_1 (fu) (y1) A3h Ayz 0 A1s Atn A1f Axb (y7) ([.sc (.string (ByteArray.mk #[114,111,111,116])),.sc (.int .i64 Axl),.sc (.int .u64 Avy),.sc (.string (ByteArray.mk #[114,111,111,116])),.sc (.int .i64 A4y),.sc (.int .u64 Av1),.sc (.string (ByteArray.mk #[109,105,100])),.sc (.int .i64 Avo),.sc (.int .u64 A2i)]) ([]))))))):=by kernel_rfl
theorem Je (fu:Nat)(call:Ai)(a0_0n:Nat)(a0_0:List PV)(a0_1:Int)(nn y0:Nat)(y1 y2 y3:Nat)(y4:Int)(y5:Nat)(y6:List PV)(y7:Int)(y8 y9 y10:List PV):Cp fu call a0_0n a0_0 a0_1 (nn+1) y0 y1 y2 y3 y4 y5 y6 y7 y8 y9 y10=(Ba (decide (y4>0)) (Ag (call 14 [.pbox [.lst false 1 y5 y6,.sc (.int .i64 y7)],.sc (.int .i64 3)]) fun Azm A0i=>Ab Azm fun A3u Axv=>Ad .i64 A3u fun Am1=>Ac Axv<|Ab A0i fun Ayv Au7=>Ab Ayv fun A05 A14=>Fd 1 A05 fun A6w Awg Ayr=>Ab A14 fun A0e A2t=>Ad .i64 A0e fun A5g=>Ac A2t<|Ac Au7<|Ao (decide (0<=Am1)&&decide (Am1<3))<|Cj (List.getD [.sc (.string (ByteArray.mk #[114,111,111,116])),.sc (.string (ByteArray.mk #[109,105,100])),.sc (.string (ByteArray.mk #[116,111,112]))] (0+Int.toNat Am1*1) .top) fun A4d=>Ag (call 14 [.pbox [.lst false 1 Awg Ayr,.sc (.int .i64 A5g)],.sc (.int .i64 3)]) fun Ax5 Ati=>Ab Ax5 fun A0y A07=>Ad .i64 A0y fun Auc=>Ac A07<|Ab Ati fun Ayj A3c=>Ab Ayj fun Avs A5o=>Fd 1 Avs fun A6g Axu A2w=>Ab A5o fun Azc A2a=>Ad .i64 Azc fun A1z=>Ac A2a<|Ac A3c<|Aa (wrap .u64 Auc) fun A2n=>Ag (call 14 [.pbox [.lst false 1 Axu A2w,.sc (.int .i64 A1z)],.sc (.int .i64 14)]) fun A5d Avl=>Ab A5d fun Ava Aw9=>Ad .i64 Ava fun A0z=>Ac Aw9<|Ab Avl fun Axn A5k=>Ab Axn fun A3r Auy=>Fd 1 A3r fun A6l At6 Awb=>Ab Auy fun At0 A3p=>Ad .i64 At0 fun A1o=>Ac A3p<|Ac A5k<|Ao (decide (y3*3<=y10.length)&&true&&decide ((y3+1)*32<=1099511627776)&&decide (y3+1<=1099511627776))<|Aa (y3+1) fun A4z=>Aa (List.take (y3*3) y10++[.sc (.string A4d),.sc (.int .u64 A2n),.sc (.int .i64 A0z)]) fun Aum=>Aa (wrap .i64 (y4-1)) fun Atx=>Cp fu call a0_0n a0_0 a0_1 (nn) (y0) (y1) (y2) A4z Atx At6 Awb A1o (y8) (y9) Aum) (Ao (decide (0+y0*13<=y8.length))<|Ao (decide (y1+y2*3<=y9.length))<|Ao (decide (0+y3*3<=y10.length))<|some (Az.mk [.lst false 13 y0 (List.take (y0*13) (List.drop 0 y8)),.lst false 3 y2 (List.take (y2*3) (List.drop y1 y9)),.lst false 3 y3 (List.take (y3*3) (List.drop 0 y10))] [[.lst false 1 y5 y6,.sc (.int .i64 y7)]]))):=by kernel_rfl
theorem Vu (fu d a0_0n:Nat)(a0_0:List PV)(a0_1:Int):Ae C0 Tryz.prog fu (d+1) Me [.pbox [.lst false 1 a0_0n a0_0,.sc (.int .i64 a0_1)]]=(fun (call:Ai)=>Ag (call 14 [.pbox [.lst false 1 a0_0n a0_0,.sc (.int .i64 a0_1)],.sc (.int .i64 3)]) fun x1 x2=>Ab x1 fun x3 x4=>Ad .i64 x3 fun x5=>Ac x4<|Ab x2 fun x6 x7=>Ab x6 fun x8 x9=>Fd 1 x8 fun Cr C5 Dw=>Ab x9 fun D5 Ds=>Ad .i64 D5 fun Eg=>Ac Ds<|Ac x7<|Aa (wrap .i64 (1+x5)) fun En=>Co fu call a0_0n a0_0 a0_1 (fu) 3 En 0 0 C5 Dw Eg ([.sc (.string (ByteArray.mk #[108,101,97,102])),.sc (.string (ByteArray.mk #[109,105,100])),.sc (.string (ByteArray.mk #[116,111,112]))]) ([])) (Ae C0 Tryz.prog fu d):=by kernel_rfl
end
end Go.Proofs.YtdjihiphpgkfmaaGreatDoor.Pv
