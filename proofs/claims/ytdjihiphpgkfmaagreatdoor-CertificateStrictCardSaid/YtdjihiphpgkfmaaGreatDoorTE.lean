/-
  The proof of CertificateStrict, part 5.
-/
import Derived.Test.YtdjihiphpgkfmaaGreatDoorTD
import Derived.Test.YtdjihiphpgkfmaaGreatDoorRows
set_option linter.unusedSimpArgs false
set_option linter.unusedVariables false
namespace Go.Proofs.YtdjihiphpgkfmaaGreatDoor.Pv
section
open Go.IntKind (wrap)
def SI (s:ByteArray):Bool:=Array.toList (ByteArray.data s)==Array.toList (ByteArray.data (ByteArray.mk #[]))
def Ga (x:It):Bool:=
 if x.k=3 then x.n==0 else if x.k=4 then x.n==0 else if x.k=8 then (x.n==0)&&SI x.s else if x.k=7 then decide (x.n<=1)&&SI x.s else SI x.s
section
variable {fu d:Nat}
theorem Aef (x:It):Ae C0 Tryz.prog fu (d+1) Xc [.agg x.cells]=some ⟨[.sc (.bool (Ga x))],[]⟩:=by
 obtain ⟨k,n,s⟩:=x;refine (LZ fu d k n s).trans ?_;unfold Ga;show _=some (⟨[.sc (.bool (if k=3 then n==0 else if k=4 then n==0 else if k=8 then (n==0)&&SI s else if k=7 then decide (n<=1)&&SI s else SI s))],[]⟩:A0)
 by_cases h3:k=3
 ·subst h3;simp only [Bz,Int.reduceBEq,if_true]
 by_cases h4:k=4
 ·subst h4;simp only [Bz,Int.reduceBEq,Int.reduceEq,if_true,if_false]
 have b3:(k==(3:Int))=false:=by simp [h3]
 have b4:(k==(4:Int))=false:=by simp [h4]
 by_cases h8:k=8
 ·subst h8;cases hn:n==0<;>simp only [Bz,Int.reduceBEq,Int.reduceEq,if_true,if_false,hn,Bool.true_and,Bool.false_and]<;>rfl
 have b8:(k==(8:Int))=false:=by simp [h8]
 by_cases h7:k=7
 ·subst h7;cases hn:decide (n<=1)<;>simp only [Bz,Int.reduceBEq,Int.reduceEq,if_true,if_false,hn,Bool.true_and,Bool.false_and]<;>rfl
 have b7:(k==(7:Int))=false:=by simp [h7]
 simp only [Bz,b3,b4,b8,b7,A6 h3,A6 h4,A6 h8,A6 h7];rfl
theorem EQ {l:List Gt}{x:It}{cnt:Int}(hl:l.length<=1000)(hf:l.length+1<fu)(h0:0<=cnt)(h1:cnt<=1000000)(ha:Qo l=false)
  (hs:x.s.size<=100000)(hv:x.k=4->Lib.validD x.s.data.toList=true):
  Ae C0 Tryz.prog fu (d+2) Iz [.pbox (J5 l cnt),.agg x.cells]=some ⟨[.sc (.int .i64 0)],[J5 (Fh l x) (cnt+1)]⟩:=by
 have st:=Aao (fu:=fu) (d:=d) (l:=l) (x:=x) (cnt:=cnt) (by omega) hf h0 h1
 have ak:=JZ (fu:=fu) (d:=d) (l:=l) (by omega) cnt
 have L:=Cz l;have t:=Dc l;have L2:=Cz (Fh l x);have t2:=Dc (Fh l x);rw [ha] at ak;generalize hE:Fh l x=E at *
 obtain ⟨k,n,s⟩:=x;have va:=O7 (fu:=fu) (d:=d) s (Nat.le_trans hs (by omega))
 unfold TV at va;refine (I0 fu (d+1) l.length (En l) cnt k n s).trans ?_;unfold J5 It.cells at st;unfold J5 at ak;by_cases k4:k=4
 ·subst k4;rw [hv rfl] at va;simp (disch:=omega) only [Bz,Int.reduceBEq,va,Dd,L,t,ak,st,L2,t2]
 ·have b4:(k==(4:Int))=false:=by simp [k4]
  simp (disch:=omega) only [Bz,b4,L,t,ak,st,L2,t2]
theorem Agp {l:List Gt}{x:It}{cnt:Int}(hl:l.length<=1000)(hf:l.length+1<fu)(h0:0<=cnt)(h1:cnt<=1000000)(ha:Qo l=false)
  (hs:x.s.size<=1024)(hv:x.k=4->Lib.validD x.s.data.toList=true)(hd:(decide (cnt>0)&&((l.length:Int)==0))=false) (hm:Iw l cnt x.k=0)(hsh:Ga x=true)(hn:x.n<=512∨(x.k≠5∧x.k≠6)):
  Ae C0 Tryz.prog fu (d+3) M5 [.pbox (J5 l cnt),.agg x.cells]=some ⟨[.sc (.int .i64 0)],[J5 (Fh l x) (cnt+1)]⟩:=by
 have ac:=EQ (fu:=fu) (d:=d) (l:=l) (x:=x) (cnt:=cnt) hl hf h0 h1 ha (by omega) hv
 have dn:=QQ (fu:=fu) (d:=d+1) l cnt;have ad:=VG (fu:=fu) (d:=d) (l:=l) (by omega) cnt x.k
 have sh:=Aef (fu:=fu) (d:=d+1) x;rw [hd] at dn;rw [hm] at ad;rw [hsh] at sh;have L:=Cz l;have t:=Dc l;have L2:=Cz (Fh l x);have t2:=Dc (Fh l x);generalize hE:Fh l x=E at *
 obtain ⟨k,n,s⟩:=x;have hs':¬((s.size:Int)>1024):=by have:s.size<=1024:=hs;omega
 refine (Wn fu (d+2) l.length (En l) cnt k n s).trans ?_;unfold J5 It.cells at ac;unfold J5 at dn ad;unfold It.cells at sh;by_cases k5:k=5
 ·subst k5;have hn':¬(n>512):=hn.elim (fun h=>Int.not_lt.2 h) (fun h=>absurd rfl h.1)
  simp (disch:=first|assumption|omega) only [Bz,Int.reduceBEq,dn,ad,sh,ac,Dd,L,t,L2,t2,bne_self_eq_false]
 have b5:(k==(5:Int))=false:=by simp [k5]
 by_cases k6:k=6
 ·subst k6;have hn':¬(n>512):=hn.elim (fun h=>Int.not_lt.2 h) (fun h=>absurd rfl h.2)
  simp (disch:=first|assumption|omega) only [Bz,Int.reduceBEq,dn,ad,sh,ac,Dd,L,t,L2,t2,bne_self_eq_false]
 have b6:(k==(6:Int))=false:=by simp [k6]
 simp (disch:=first|assumption|omega) only [Bz,b5,b6,dn,ad,sh,ac,Dd,L,t,L2,t2,bne_self_eq_false]
end
end
section
open Go.IntKind (wrap)
theorem Ru (l:List It):(Cg l).length=l.length*3:=Xu It.cells_len l
structure Al8 (l:List Gt) (cnt:Int) (x:It):Prop where
 hl:l.length<=100
 h0:0<=cnt
 h1:cnt<=1000
 ha:Qo l=false
 hs:x.s.size<=1024
 hv:x.k=4->Lib.validD x.s.data.toList=true
 hd:(decide (cnt>0)&&((l.length:Int)==0))=false
 hm:Iw l cnt x.k=0
 hsh:Ga x=true
 hn:x.n<=512∨(x.k≠5∧x.k≠6)
def Od:List Gt->Int->List It->Prop
 |l,cnt,[]=>l=[]∧cnt>0
 |l,cnt,x::r=>Al8 l cnt x∧Od (Fh l x) (cnt+1) r
section
variable {fu d:Nat}
theorem MV (hfu:200<=fu){l:List It}(hl:l.length<=100000){a0n:Nat}{a0:List PV}:∀(r:List It)(i:Nat)(fs:List Gt)(cnt:Int)(nn:Nat),l.drop i=r->i+r.length=l.length->r.length<nn->Od fs cnt r ->
  Hy fu (Ae C0 Tryz.prog fu (d+3)) a0n a0 nn l.length (Cg l) (l.length:Int) (i:Int) fs.length cnt (En fs)=some ⟨[.sc (.int .i64 0)],[]⟩:=by
 intro r
 induction r with
 |nil=>
  intro i fs cnt nn hd hi hn hg;obtain ⟨rfl,hc⟩:=hg;obtain ⟨m,rfl⟩:∃m,nn=m+1:=⟨nn-1,by omega⟩
  rw [Wh,ON] at hi;rw [Om];have dn:=QQ (fu:=fu) (d:=d+2) [] cnt;have e:(decide (cnt>0)&&(((([]:List Gt).length:Nat):Int)==0))=true:=by simp [hc]
  rw [e] at dn;unfold J5 at dn;have L:=Cz [];have t:=Dc [];have c:¬((i:Int)<(l.length:Int)):=by omega
  simp (disch:=first|assumption|omega) only [Bz,L,t,dn,Dd]
 |cons x r ih=>
  intro i fs cnt nn hd hi hn hg;obtain ⟨g,hg⟩:=hg;obtain ⟨m,rfl⟩:∃m,nn=m+1:=⟨nn-1,by omega⟩
  rw [J2] at hi hn
  have hx:l[i]?=some x:=by
   have:=congrArg (fun q=>q[0]?) hd
   simpa using this
  have hd':l.drop (i+1)=r:=by
   have:=congrArg (List.drop 1) hd;rw [List.drop_drop] at this
   simpa using this
  have q:=ih (i+1) (Fh fs x) (cnt+1) m hd' (by omega) (by omega) hg
  have ck:=Agp (fu:=fu) (d:=d) (l:=fs) (x:=x) (cnt:=cnt) (by have:=g.hl;omega) (by have:=g.hl;omega) g.h0 (by have:=g.h1;omega) g.ha g.hs g.hv g.hd g.hm g.hsh g.hn
  generalize Fh fs x=E at *
  have g0:(Cg l).getD (i*3) .top=.sc (.int .i64 x.k):=Ea It.cells_len hx (j:=0) (by omega)
  have g1:(Cg l).getD (i*3+1) .top=.sc (.int .u64 x.n):=Ea It.cells_len hx (j:=1) (by omega)
  have g2:(Cg l).getD (i*3+1+1) .top=.sc (.string x.s):=Ea It.cells_len hx (j:=2) (by omega)
  have L:=Cz fs;have t:=Dc fs;have w:wrap .i64 ((i:Int)+1)=((i+1:Nat):Int):=by rw [Aj (by omega) (by omega)];omega
  rw [Om];unfold J5 It.cells at ck;simp (disch:=first|assumption|omega) only [Bz,He,g0,g1,g2,L,t,ck,bne_self_eq_false,w,q]
theorem Qu (hfu:200<=fu){l:List It}(hl:l.length<=100000)(hf:l.length<fu)(hg:Od [] 0 l):Ae C0 Tryz.prog fu (d+4) Th [.lst false 3 l.length (Cg l)]=some ⟨[.sc (.int .i64 0)],[]⟩:=by
 rw [GI];exact MV hfu hl l 0 [] 0 fu rfl (by omega) hf hg
end
end
section
open Go.IntKind (wrap)
section
variable {fu d:Nat}
theorem UQ (hfu:1000<=fu){l:List It}(hl:l.length<=100000){a0n:Nat}{a0:List PV}:∀(r:List It)(i:Nat)(o:List Int)(nn:Nat),l.drop i=r->i+r.length=l.length->r.length<nn->(∀x∈r,x.ok)->(o++Bf r).length<=300000 ->
  Jh fu (Ae C0 Tryz.prog fu (d+2)) a0n a0 nn o.length l.length (Cg l) (l.length:Int) (i:Int) (Af .u8 o)=some ⟨[.own 1 (o++Bf r).length (Af .u8 (o++Bf r)),.sc (.int .i64 0)],[]⟩:=by
 intro r
 induction r with
 |nil=>
  intro i o nn hd hi hn hg hb;obtain ⟨m,rfl⟩:∃m,nn=m+1:=⟨nn-1,by omega⟩
  rw [Wh,ON] at hi;have e:o++Bf []=o:=by simp [Bf]
  rw [e,R3];have L:(Af .u8 o).length=o.length:=Ak _ _;have t:List.take o.length (Af .u8 o)=Af .u8 o:=R9 (by omega)
  have c:¬((i:Int)<(l.length:Int)):=by omega
  simp (disch:=first|assumption|omega) only [Bz,B8,L,t]
 |cons x r ih=>
  intro i o nn hd hi hn hg hb;obtain ⟨m,rfl⟩:∃m,nn=m+1:=⟨nn-1,by omega⟩
  rw [J2] at hi hn
  have hx:l[i]?=some x:=by
   have:=congrArg (fun q=>q[0]?) hd
   simpa using this
  have hd':l.drop (i+1)=r:=by
   have:=congrArg (List.drop 1) hd;rw [List.drop_drop] at this
   simpa using this
  have e:o++Bf (x::r)=(o++Bp x)++Bf r:=by simp [Bf]
  rw [e] at hb ⊢
  have ho:o.length<=300000:=by
   rw [Jz,Jz] at hb;omega
  have q:=ih (i+1) (o++Bp x) m hd' (by omega) (by omega) (fun y hy=>hg y (List.mem_cons_of_mem _ hy)) hb
  have it:=Aa5 (fu:=fu) (d:=d) hfu (l:=o) ho (x:=x) (hg x (by simp))
  have g0:(Cg l).getD (i*3) .top=.sc (.int .i64 x.k):=Ea It.cells_len hx (j:=0) (by omega)
  have g1:(Cg l).getD (i*3+1) .top=.sc (.int .u64 x.n):=Ea It.cells_len hx (j:=1) (by omega)
  have g2:(Cg l).getD (i*3+1+1) .top=.sc (.string x.s):=Ea It.cells_len hx (j:=2) (by omega)
  have L:(Af .u8 o).length=o.length:=Ak _ _;have t:List.take o.length (Af .u8 o)=Af .u8 o:=R9 (by omega)
  have w:wrap .i64 ((i:Int)+1)=((i+1:Nat):Int):=by rw [Aj (by omega) (by omega)];omega
  rw [R3];unfold It.cells at it;simp (disch:=first|assumption|omega) only [Bz,He,B8,g0,g1,g2,L,t,it,w,q]
theorem WV (hfu:1000<=fu){l:List It}(hl:l.length<=100000)(hf:l.length<fu)(hg:Od [] 0 l) (hk:∀x∈l,x.ok)(hb:(Bf l).length<=300000):
  Ae C0 Tryz.prog fu (d+5) Ql [.lst false 3 l.length (Cg l)]=some ⟨[.own 1 (Bf l).length (Af .u8 (Bf l)),.sc (.int .i64 0)],[]⟩:=by
 rw [ML];have v:=Qu (fu:=fu) (d:=d) (by omega) hl hf hg
 have q:=UQ (fu:=fu) (d:=d+2) hfu hl (a0n:=l.length) (a0:=Cg l) l 0 [] fu rfl (by omega) hf hk (by simpa using hb)
 rw [Zzq] at q;simp only [Bz,v,bne_self_eq_false];exact q
end
end
section
open Go.IntKind (wrap)
section
variable {fu d:Nat}
theorem SP (hfu:200<=fu){l:List It}(hl:l.length<=100000)(hf:l.length<fu)(hg:Od [] 0 l):
  Ae C0 Tryz.prog fu (d+5) Uz [.own 3 l.length (Cg l)]=some ⟨[.own 3 l.length (Cg l),.sc (.int .i64 0)],[]⟩:=by
 rw [LF];have v:=Qu (fu:=fu) (d:=d) hfu hl hf hg;have L:=Ru l;have t:List.take (l.length*3) (Cg l)=Cg l:=R9 (by omega)
 simp (disch:=omega) only [Bz,L,t,E6,v,bne_self_eq_false]
end
end
section
open Go.IntKind (wrap)
structure VP (x:It):Prop where
 kd:x.k=1∨x.k=2∨x.k=3∨x.k=4∨x.k=7∨x.k=8
 hs:x.s.size<=1024
 hv:x.k=4->Lib.validD x.s.data.toList=true
 hsh:Ga x=true
 n0:0<=x.n
theorem VP.ok {x:It}(h:VP x):x.ok:=by
 have:=h.kd;have:=h.hs;exact ⟨by omega,by omega,h.n0,by omega⟩
theorem VP.push {x:It}(h:VP x)(l:List Gt):NN l x=l:=by
 unfold NN;have:=h.kd;rw [A6 (by omega),A6 (by omega)]
theorem Ac2 {x:It}(h:VP x):Od [] 0 [x]:=by
 have hk:=h.kd;refine ⟨⟨by simp,by omega,by omega,rfl,h.hs,h.hv,rfl,?_,h.hsh,.inr (by omega)⟩,?_,?_⟩
 ·unfold Iw;rw [A6 (by omega),A6 (by omega),A6 (by omega),A6 (by intro q;exact absurd q.1 (by decide)),A6 (by simp)]
 ·unfold Fh;rw [h.push];rfl
 ·omega
theorem HE:∀(r:List It)(cnt:Int),r≠[]->(∀x∈r,VP x)->0<cnt->cnt+r.length<=500->Od [⟨false,r.length,[]⟩] cnt r
 |[],_,h,_,_,_=>absurd rfl h
 |x::r,cnt,_,hf,hc,hl=>by
  have h:=hf x (by simp)
  have hk:=h.kd;simp only [J2] at hl;refine ⟨⟨by simp,by omega,by omega,rfl,h.hs,h.hv,by simp,?_,h.hsh,.inr (by omega)⟩,?_⟩
  ·unfold Iw;rw [A6 (by omega),A6 (by omega),A6 (by omega),A6 (by intro q;exact absurd q.1 (by simp [Qo])),A6 (by simp)]
  ·have w:wrap .i64 (((x::r).length:Int)-1)=(r.length:Int):=by
    rw [Aj (by simp only [J2];omega) (by simp only [J2];omega)]
    simp only [J2];omega
   have e:Fh [⟨false,((x::r).length:Nat),[]⟩] x=CL [⟨false,(r.length:Nat),[]⟩]:=by
    unfold Fh;rw [h.push];have:=U6 [] ⟨false,((x::r).length:Nat),[]⟩;rw [Zzq,Zzq] at this;rw [this];simp only [w]
   rw [e];by_cases hr:r=[]
   ·subst hr;have:=NW (l:=[]) (f:=⟨false,(([]:List It).length:Nat),[]⟩) rfl;rw [Zzq] at this;rw [this];exact ⟨rfl,by omega⟩
   ·have:=KG (l:=[]) (f:=⟨false,(r.length:Nat),[]⟩) (by simp only;have:=List.length_pos_iff.2 hr;omega)
    rw [Zzq] at this;rw [this];exact HE r (cnt+1) hr (fun y hy=>hf y (List.mem_cons_of_mem _ hy)) (by omega) (by omega)
theorem Ach {r:List It}(hr:r≠[]) (hl:r.length<=400)(hf:∀x∈r,VP x):Od [] 0 (⟨5,r.length,⟨#[]⟩⟩::r):=by
 have hp:=List.length_pos_iff.2 hr;refine ⟨⟨by simp,by omega,by omega,rfl,Nat.zero_le _,(by intro h;cases h),rfl,?_,(by rfl),.inl (by simp only;omega)⟩,?_⟩
 ·unfold Iw;rw [A6 (by omega),A6 (by simp),A6 (by simp),A6 (by intro q;exact absurd q.1 (by decide)),A6 (by simp)]
 ·have w:wrap .i64 (r.length:Int)=(r.length:Int):=Aj (by omega) (by omega)
  have e:Fh [] ⟨5,(r.length:Nat),⟨#[]⟩⟩=CL [⟨false,(r.length:Nat),[]⟩]:=by
   unfold Fh NN;rw [B4 ⟨rfl,by simp only;omega⟩]
   simp only [w];rfl
  have:=KG (l:=[]) (f:=⟨false,(r.length:Nat),[]⟩) (by simp only;omega)
  rw [Zzq] at this;rw [e,this];exact HE r _ hr hf (by omega) (by omega)
end
section
open Go.IntKind (wrap)
def Al9 (v:List It):List PV:=[.lst false 3 v.length (Cg v)]
theorem Ac0 (v:List It):(Al9 v).length=1:=rfl
def Aee (l:List (List It)):List PV:=l.flatMap Al9
theorem atv {l:List (List It)} {i:Nat}{v:List It}(h:l[i]?=some v):(Aee l).getD (i*1) .top=.lst false 3 v.length (Cg v):=by
 exact Ea Ac0 h (j:=0) (by omega)
section
variable {fu d:Nat}
theorem FC (hfu:1000<=fu){a0n:Nat}{a0:List PV}{vs:List (List It)} (hl:vs.length<=100000):∀(r:List (List It)) (i nn:Nat),vs.drop i=r->r.length<nn->(∀v∈r,Od [] 0 v∧v.length<1000)->i<=vs.length ->
  Je fu (Ae C0 Tryz.prog fu (d+4)) a0n a0 nn vs.length (Aee vs) (vs.length:Int) (i:Int)=some ⟨[.sc (.int .i64 0)],[]⟩
 |_,_,0,_,h,_,_=>by omega
 |[],i,nn+1,h,hn,hg,hi=>by
  have:=drop_nil h;rw [Re,Dr _ _ _ (by omega)]
 |v::r,i,nn+1,h,hn,hg,hi=>by
  obtain ⟨h1,h2,h3⟩:=Cs h;simp only [J2] at hn;have w:wrap .i64 ((i:Int)+1)=((i+1:Nat):Int):=by rw [Aj (by omega) (by omega)];omega
  have ih:=FC hfu (a0n:=a0n) (a0:=a0) hl r (i+1) nn h3 (by omega) (fun v hv=>hg v (List.mem_cons_of_mem _ hv)) (by omega)
  obtain ⟨g,gl⟩:=hg v (by simp)
  have vg:=Qu (fu:=fu) (d:=d) (by omega) (by omega) (by omega) g
  have g0:=atv h2;rw [Re];simp (disch:=omega) only [Bz,He,g0,vg,bne_self_eq_false,w,ih]
theorem TC (hfu:1000<=fu){vs:List (List It)} (hl:vs.length<1000)(hg:∀v∈vs,Od [] 0 v∧v.length<1000):
  Ae C0 Tryz.prog fu (d+5) W8 [.lst false 1 vs.length (Aee vs)]=some ⟨[.sc (.int .i64 0)],[]⟩:=by
 rw [LY];exact FC hfu (by omega) vs 0 fu rfl (by omega) hg (by omega)
theorem SV (a b:List It):Cg (a++b)=Cg a++Cg b:=by
 unfold Cg;rw [List.flatMap_append]
theorem IG (hfu:1000<=fu){a0n:Nat}{a0:List PV}{vs:List (List It)} (hl:vs.length<=100000):∀(r:List (List It)) (i nn:Nat)(o:List It),vs.drop i=r->r.length<nn->Od [] 0 (o++r.flatten)->(o++r.flatten).length<=500->i<=vs.length ->
  Lg fu (Ae C0 Tryz.prog fu (d+5)) a0n a0 nn o.length vs.length (Aee vs) (vs.length:Int) (i:Int) (Cg o)=some ⟨[.own 3 (o++r.flatten).length (Cg (o++r.flatten)),.sc (.int .i64 0)],[]⟩
 |_,_,0,_,_,h,_,_,_=>by omega
 |[],i,nn+1,o,h,hn,hg,hb,hi=>by
  have:=drop_nil h;have e:o++([]:List (List It)).flatten=o:=by simp
  rw [e] at hg hb ⊢;have L:=Ru o;have t:List.take (o.length*3) (Cg o)=Cg o:=R9 (by omega)
  have ck:=SP (fu:=fu) (d:=d) (by omega) (by omega) (by omega) hg
  rw [Tk,Dr _ _ _ (by omega)]
  simp (disch:=omega) only [Bz,L,t,ck]
 |v::r,i,nn+1,o,h,hn,hg,hb,hi=>by
  obtain ⟨h1,h2,h3⟩:=Cs h;simp only [J2] at hn;have w:wrap .i64 ((i:Int)+1)=((i+1:Nat):Int):=by rw [Aj (by omega) (by omega)];omega
  have e:o++(v::r).flatten=(o++v)++r.flatten:=by simp
  rw [e] at hg hb ⊢
  have hb':o.length+v.length<=500:=by
   rw [Jz,Jz] at hb;omega
  have ih:=IG hfu (a0n:=a0n) (a0:=a0) hl r (i+1) nn (o++v) h3 (by omega) hg hb (by omega)
  have g0:=atv h2;have L:=Ru o;have Lv:=Ru v;have t:List.take (o.length*3) (Cg o)=Cg o:=R9 (by omega)
  rw [Jz,SV] at ih;rw [Tk];simp (disch:=omega) only [Bz,He,g0,L,Lv,t,w,ih]
theorem XH (hfu:1000<=fu){vs:List (List It)} (hg:∀v∈vs,Od [] 0 v∧v.length<1000) (hl:vs.length<=400)(ha:Od [] 0 (⟨5,vs.length,⟨#[]⟩⟩::vs.flatten)) (hb:vs.flatten.length<=400):
  Ae C0 Tryz.prog fu (d+6) S6 [.lst false 1 vs.length (Aee vs)]=some ⟨[.own 3 (vs.flatten.length+1) (Cg (⟨5,vs.length,⟨#[]⟩⟩::vs.flatten)),.sc (.int .i64 0)],[]⟩:=by
 rw [RZ];have f:=TC (fu:=fu) (d:=d) hfu (by omega) hg
 have w:wrap .u64 (vs.length:Int)=vs.length:=Cn (by omega) (by omega)
 have q:=IG (fu:=fu) (d:=d) hfu (a0n:=vs.length) (a0:=Aee vs) (by omega) vs 0 fu [⟨5,vs.length,⟨#[]⟩⟩] rfl (by omega) ha (by rw [Jz,List.length_singleton];omega) (by omega)
 simp only [Bz,f,bne_self_eq_false,w];exact q
end
end
section
open Go.IntKind (wrap)
def Arz (a b:List Int):Int:=Lib.compareBytes (a.map fun n=>n.toNat.toUInt8) (b.map fun n=>n.toNat.toUInt8)
def Rm (a b:List Int):Bool:=if a.length=b.length then decide (Arz a b<0) else decide (a.length<b.length)
def Is (l:List Gt)(key:List Int):List Gt:=match l.getLast? with|some f=>l.dropLast++[⟨f.p,f.left,key⟩]|none=>l
theorem Mb (l:List Gt)(f:Gt)(key:List Int):Is (l++[f]) key=l++[⟨f.p,f.left,key⟩]:=by
 unfold Is;simp
def GX (l:List Gt):List Int:=match l.getLast? with|some f=>f.last|none=>[]
theorem RC (l:List Gt)(f:Gt):GX (l++[f])=f.last:=by
 unfold GX;simp
def Dx (l:List Gt)(x:It):Int × List Gt:=
 if x.k=4∧TV x.s=false then (6,l)
 else if Qo l=true then (if GX l≠[]∧Rm (GX l) (Bp x)=false then (7,l) else (0,Fh (Is l (Bp x)) x))
 else (0,Fh l x)
theorem Acp (x:It):1<=(Bp x).length:=by
 unfold Bp;have h2:=G8 2 x.s.size;have h3:=G8 3 x.s.size;have h4:=G8 (x.k-1) x.n
 repeat' split
 all_goals try simp only [Jz,J2,Wh]
 all_goals omega
section
variable {fu d:Nat}
theorem XL (a b:List Int):Ae C0 Tryz.prog fu (d+1) 133 [.lst false 1 a.length (Af .u8 a),.lst false 1 b.length (Af .u8 b)]=some ⟨[.sc (.int .i64 (Arz a b))],[]⟩:=by
 have h:Ae C0 Tryz.prog fu (d+1) 133 [.lst false 1 a.length (Af .u8 a),.lst false 1 b.length (Af .u8 b)]=U8 [.lst false 1 a.length (Af .u8 a),.lst false 1 b.length (Af .u8 b)]:=by kernel_rfl
 rw [h];unfold U8;simp only [Ak,Nat.beq_refl,Bool.and_self,cond_true,Gw];rfl
theorem Aai (a b:List Int):Ae C0 Tryz.prog fu (d+2) Uq [.lst false 1 a.length (Af .u8 a),.lst false 1 b.length (Af .u8 b)]=some ⟨[.sc (.bool (Rm a b))],[]⟩:=by
 refine (LH fu (d+1) _ _ _ _).trans ?_;have c:=XL (fu:=fu) (d:=d) a b;unfold Rm;by_cases h:a.length=b.length
 ·have b0:((a.length:Int) != (b.length:Int))=false:=by simp [h]
  rw [B4 h];simp only [Bz,b0,c]
 ·have b0:((a.length:Int) != (b.length:Int))=true:=by simp;omega
  rw [A6 h];simp only [Bz,b0];simp
theorem PE {l:List Gt}{x:It}{cnt:Int}(hfu:1000<=fu)(hl:l.length<=900)(h0:0<=cnt)(h1:cnt<=1000000)(hx:x.ok)(hs:x.s.size<=100000):
  Ae C0 Tryz.prog fu (d+3) Iz [.pbox (J5 l cnt),.agg x.cells]=some ⟨[.sc (.int .i64 (Dx l x).1)],[J5 (Dx l x).2 (if (Dx l x).1=0 then cnt+1 else cnt)]⟩:=by
 cases ha:Qo l with
 |false=>
  cases hv:(x.k==4) && !TV x.s with
  |false=>
   have e:Dx l x=(0,Fh l x):=by
    unfold Dx;rw [A6,A6 (by simp [ha])]
    intro hh;simp [hh.1,hh.2] at hv
   have:=EQ (fu:=fu) (d:=d+1) (l:=l) (x:=x) (cnt:=cnt) (by omega) (by omega) h0 h1 ha hs (by
    intro hk;simp [hk] at hv;exact hv)
   rw [e,this];rfl
  |true=>
   simp at hv
   have e:Dx l x=(6,l):=by
    unfold Dx;rw [B4 hv]
   rw [e];obtain ⟨k,n,s⟩:=x;have va:=O7 (fu:=fu) (d:=d+1) s (Nat.le_trans hs (by omega))
   simp only at hv;obtain ⟨rfl,hv⟩:=hv;rw [hv] at va;have L:=Cz l;have t:=Dc l;refine (I0 fu (d+2) l.length (En l) cnt 4 n s).trans ?_;simp (disch:=omega) only [Bz,Int.reduceBEq,va,L,t];rfl
 |true=>
  rcases Mg l with rfl|⟨l',f,rfl⟩
  ·exact absurd ha (by decide)
  have it:=Aa5 (fu:=fu) (d:=d) hfu (l:=[]) (by simp) hx
  rw [Zzq] at it;have hp:=Acp x;have sm:=Aai (fu:=fu) (d:=d) f.last (Bp x);have ak:=JZ (fu:=fu) (d:=d+1) (l:=l'++[f]) (by omega) cnt
  rw [ha] at ak;have st:=Aao (fu:=fu) (d:=d+1) (l:=Is (l'++[f]) (Bp x)) (x:=x) (cnt:=cnt) (by rw [Mb];simp at hl ⊢;omega) (by rw [Mb];simp at hl ⊢;omega) h0 h1
  have E:Dx (l'++[f]) x=(if x.k=4∧TV x.s=false then (6,l'++[f]) else if f.last≠[]∧Rm f.last (Bp x)=false then (7,l'++[f]) else (0,Fh (Is (l'++[f]) (Bp x)) x)):=by
   unfold Dx;rw [ha,RC];simp only [if_true]
  have hn':(l'++[f]).length=l'.length+1:=by simp
  have hx':(l'++[f])[l'.length]?=some f:=by simp
  have w:wrap .i64 (((l'++[f]).length:Int)-1)=(l'.length:Int):=by rw [Aj (by omega) (by omega)];omega
  have L:=Cz (l'++[f]);have t:=Dc (l'++[f]);have g2:(En (l'++[f])).getD (l'.length*3+2) .top=.lst false 1 f.last.length (Af .u8 f.last):=Ea Gt.cells_len hx' (j:=2) (by omega)
  have sp:Ba (En (l'++[f])) [.lst false 1 (Bp x).length (Af .u8 (Bp x))] (l'.length*3+2)=En (Is (l'++[f]) (Bp x)):=by
   rw [Ev (by omega),Mb,R2,R2,Rk,Rk]
   have:=Cz l';rw [List.set_append_right _ _ (by omega)]
   have:l'.length*3+2-(En l').length=2:=by omega
   rw [this];rfl
  have LK:=Cz (Is (l'++[f]) (Bp x));have tK:=Dc (Is (l'++[f]) (Bp x));have nK:(Is (l'++[f]) (Bp x)).length=(l'++[f]).length:=by rw [Mb];simp
  rw [nK] at LK tK;have L2:=Cz (Fh (Is (l'++[f]) (Bp x)) x);have t2:=Dc (Fh (Is (l'++[f]) (Bp x)) x);have Lk:=Ak .u8 (Bp x);have tk:=J3 .u8 (Bp x);unfold J5 at st ak ⊢;rw [nK] at st;rw [E];generalize Fh (Is (l'++[f]) (Bp x)) x=S at *
  generalize En (Is (l'++[f]) (Bp x))=K at *
  have hsm:f.last.length=0->Rm f.last (Bp x)=true:=by
   intro hz;unfold Rm;rw [A6 (by omega)]
   simp;omega
  have hnil:f.last≠[]↔0<f.last.length:=by rw [List.length_pos_iff]
  generalize hKe:Bp x=key at *
  obtain ⟨k,n,s⟩:=x;have va:=O7 (fu:=fu) (d:=d+1) s (Nat.le_trans hs (by omega))
  unfold TV at va ⊢;unfold It.cells at st it ⊢;simp only at st it hs ⊢;refine (I0 fu (d+2) (l'++[f]).length (En (l'++[f])) cnt k n s).trans ?_;simp only [Wh] at it;have it0:Af .u8 []=[]:=rfl;rw [it0] at it
  try unfold Aa
  repeat' first
   |((with_reducible first|apply Aw|apply Al|apply Ay|apply Ar|apply Bg|apply Cc|apply Am);· first|with_reducible rfl|(simp (disch:=first|with_reducible assumption|omega) only [va,L,t,ak,w,He,Br,ON,it,g2,B8,E6,Lk,tk,sm,sp,LK,tK,st,L2,t2]<;>with_reducible rfl))
   |((with_reducible first|apply Ax|apply Au);· first|with_reducible rfl|with_reducible assumption|omega|(simp (disch:=first|with_reducible assumption|omega) only [gT,va,L,t,ak,w,He,Br,ON,it,g2,B8,E6,Lk,tk,sm,sp,LK,tK,st,L2,t2]<;>omega))
   |(with_reducible apply Av;· first|with_reducible rfl|with_reducible assumption|(simp (disch:=first|with_reducible assumption|omega) only [gF,va,L,t,ak,w,He,Br,ON,it,g2,B8,E6,Lk,tk,sm,sp,LK,tK,st,L2,t2]<;>omega))
   |(with_reducible refine Ae9 ?_ ?_<;>intro hb<;>try simp only [decide_eq_true_eq,decide_eq_false_iff_not,beq_iff_eq,beq_eq_false_iff_ne,bne_iff_ne,bne_eq_false_iff_eq,ne_eq,Bool.not_eq_true',Bool.not_eq_false',Bool.not_eq_true,Bool.not_eq_false] at hb)
   |(with_reducible refine QD ?_ ?_)
  all_goals try simp (disch:=first|with_reducible assumption|omega) only [va,L,t,ak,w,He,Br,ON,it,g2,B8,E6,Lk,tk,sm,sp,LK,tK,st,L2,t2]
  all_goals clear st it ak va sm L t g2 sp LK tK L2 t2 Lk tk it0 E ha hKe
  all_goals repeat' split
  all_goals first
   |rfl
   |(exfalso;simp_all;done)
   |(exfalso;simp_all;omega)
end
end
section
open Go.IntKind (wrap)
set_option maxRecDepth 100000
abbrev O5:FuncId:=113
noncomputable def Ge (fu:Nat)(call:Ai)(a0_0n:Nat)(a0_0:List PV)(a0_1:Int)(Fc:Nat)(a0_2:List PV)(a0_3:Int)(nn:Nat)(y0 y1 y2:Int)(y3:Nat)(y4:List PV)(y5 y6:Int)(y7:Nat)(y8:Int)(y9:Nat)(y10:List PV)(Jj:Int)(Nv:List PV):Option A0:=C5 CB Tryz.prog fu call 113 Tryz.f113 (Bw Tryz.f113) [.pbox [.own 3 a0_0n a0_0,.sc (.int .i64 a0_1),.lst false 1 Fc a0_2,.sc (.int .i64 a0_3)]] [.r,.r,.r,.r,.r,.r,.r,.r,.r,.r,.r,.l,.r,.l] nn ⟨lk [(0,(.ptr 240000 0)),(2,(.sc (.int .i64 y0))),(3,(.sc (.int .u64 y1))),(8,(.sc (.int .i64 y2))),(94,(.lst false 1 y3 y4)),(95,(.sc (.int .i64 y5))),(96,(.sc (.int .i64 y6)))],B5 [(240000,(.st [(.view 240120 3 0 y7),(.sc (.int .i64 y8)),(.lst false 1 y9 y10),(.sc (.int .i64 Jj))])),(240120,(.ar false Nv))]⟩
theorem Kl (fu:Nat)(call:Ai)(a0_0n:Nat)(a0_0:List PV)(a0_1:Int)(Fc:Nat)(a0_2:List PV)(a0_3:Int)(nn:Nat)(y0 y1 y2:Int)(y3:Nat)(y4:List PV)(y5 y6:Int)(y7:Nat)(y8:Int)(y9:Nat)(y10:List PV)(Jj:Int)(Nv:List PV):Ge fu call a0_0n a0_0 a0_1 Fc a0_2 a0_3 (nn+1) y0 y1 y2 y3 y4 y5 y6 y7 y8 y9 y10 Jj Nv=(Bc (decide (y6<y5)) (Ap (decide (0<=y6)&&decide (y6<(↑y3:Int)))<|Ad .u8 (List.getD y4 (Int.toNat y6*1) .top) fun Fo=>Aa (G4 .u64 y1 8) fun Fg=>Aa (wrap .u64 Fo) fun Ex=>Aa (NP .u64 Fg Ex) fun H6=>Aa (wrap .i64 (y6+1)) fun Gz=>Ge fu call a0_0n a0_0 a0_1 Fc a0_2 a0_3 (nn) (y0) H6 (y2) (y3) (y4) (y5) Gz (y7) (y8) (y9) (y10) (Jj) (Nv)) (Aa (wrap .i64 (Jj+y2)) fun Hx=>Ag (call 127 [.sc (.int .u64 y1)]) fun D1 Dm=>Ac Dm<|Ab D1 fun F6 H9=>Ad .i64 F6 fun Ey=>Ac H9<|Bc (decide (Ey<y2)) (Ap (decide (y7*3<=Nv.length))<|some (A0.mk [.sc (.int .i64 0),.sc (.int .u64 0),.sc (.int .i64 2)] [[.own 3 y7 (List.take (y7*3) Nv),.sc (.int .i64 y8),.lst false 1 y9 y10,.sc (.int .i64 Hx)]])) (Ap (decide (y7*3<=Nv.length))<|some (A0.mk [.sc (.int .i64 y0),.sc (.int .u64 y1),.sc (.int .i64 0)] [[.own 3 y7 (List.take (y7*3) Nv),.sc (.int .i64 y8),.lst false 1 y9 y10,.sc (.int .i64 Hx)]])))):=by kernel_rfl
theorem Xs (fu d a0_0n:Nat)(a0_0:List PV)(a0_1:Int)(Fc:Nat)(a0_2:List PV)(a0_3:Int):Ae C0 Tryz.prog fu (d+1) O5 [.pbox [.own 3 a0_0n a0_0,.sc (.int .i64 a0_1),.lst false 1 Fc a0_2,.sc (.int .i64 a0_3)]]=(fun (call:Ai)=>Bc (decide (a0_3>=(↑Fc:Int))) (Ap (decide (a0_0n*3<=a0_0.length))<|some (A0.mk [.sc (.int .i64 0),.sc (.int .u64 0),.sc (.int .i64 1)] [[.own 3 a0_0n (List.take (a0_0n*3) a0_0),.sc (.int .i64 a0_1),.lst false 1 Fc a0_2,.sc (.int .i64 a0_3)]])) (Ap (decide (0<=a0_3)&&decide (a0_3<(↑Fc:Int)))<|Ad .u8 (List.getD a0_2 (Int.toNat a0_3*1) .top) fun x1=>Aa (wrap .i64 (a0_3+1)) fun x2=>Bc (x1==244) (Aa (wrap .u8 (x1-244)) fun x3=>Aa (wrap .u64 x3) fun x4=>Ap (decide (a0_0n*3<=a0_0.length))<|some (A0.mk [.sc (.int .i64 7),.sc (.int .u64 x4),.sc (.int .i64 0)] [[.own 3 a0_0n (List.take (a0_0n*3) a0_0),.sc (.int .i64 a0_1),.lst false 1 Fc a0_2,.sc (.int .i64 x2)]])) (Bc (x1==245) (Aa (wrap .u8 (x1-244)) fun x5=>Aa (wrap .u64 x5) fun x6=>Ap (decide (a0_0n*3<=a0_0.length))<|some (A0.mk [.sc (.int .i64 7),.sc (.int .u64 x6),.sc (.int .i64 0)] [[.own 3 a0_0n (List.take (a0_0n*3) a0_0),.sc (.int .i64 a0_1),.lst false 1 Fc a0_2,.sc (.int .i64 x2)]])) (Bc (x1==246) (Ap (decide (a0_0n*3<=a0_0.length))<|some (A0.mk [.sc (.int .i64 8),.sc (.int .u64 0),.sc (.int .i64 0)] [[.own 3 a0_0n (List.take (a0_0n*3) a0_0),.sc (.int .i64 a0_1),.lst false 1 Fc a0_2,.sc (.int .i64 x2)]])) (Aa (D3 .u8 x1 5) fun x7=>Aa (Qx .u8 x1 31) fun x8=>Bc (decide (x7>5)) (Ap (decide (a0_0n*3<=a0_0.length))<|some (A0.mk [.sc (.int .i64 0),.sc (.int .u64 0),.sc (.int .i64 2)] [[.own 3 a0_0n (List.take (a0_0n*3) a0_0),.sc (.int .i64 a0_1),.lst false 1 Fc a0_2,.sc (.int .i64 x2)]])) (Bc (decide (x8>27)) (Ap (decide (a0_0n*3<=a0_0.length))<|some (A0.mk [.sc (.int .i64 0),.sc (.int .u64 0),.sc (.int .i64 2)] [[.own 3 a0_0n (List.take (a0_0n*3) a0_0),.sc (.int .i64 a0_1),.lst false 1 Fc a0_2,.sc (.int .i64 x2)]])) (Aa (wrap .i64 x7) fun x9=>Aa (wrap .i64 (1+x9)) fun Cm=>Bc (decide (x8<24)) (Aa (wrap .u64 x8) fun C3=>Ap (decide (a0_0n*3<=a0_0.length))<|some (A0.mk [.sc (.int .i64 Cm),.sc (.int .u64 C3),.sc (.int .i64 0)] [[.own 3 a0_0n (List.take (a0_0n*3) a0_0),.sc (.int .i64 a0_1),.lst false 1 Fc a0_2,.sc (.int .i64 x2)]])) (Aa (wrap .u8 (x8-24)) fun Dt=>Ap (decide (0<=Dt))<|Aa (G4 .i64 1 Dt) fun D0=>Aa (wrap .i64 ((↑Fc:Int)-x2)) fun Dq=>Bc (decide (Dq<D0)) (Ap (decide (a0_0n*3<=a0_0.length))<|some (A0.mk [.sc (.int .i64 0),.sc (.int .u64 0),.sc (.int .i64 1)] [[.own 3 a0_0n (List.take (a0_0n*3) a0_0),.sc (.int .i64 a0_1),.lst false 1 Fc a0_2,.sc (.int .i64 x2)]])) (Aa (wrap .i64 (x2+D0)) fun Ed=>Ap (decide (0<=x2))<|Ap (decide (0<=Ed))<|Ap (decide (Int.toNat x2<=Int.toNat Ed)&&decide (Int.toNat Ed<=Fc))<|Aa (Int.toNat Ed-Int.toNat x2) fun Ek=>Aa (List.take (Ek*1) (List.drop (Int.toNat x2*1) a0_2)) fun Ez=>Ge fu call a0_0n a0_0 a0_1 Fc a0_2 a0_3 (fu) Cm 0 D0 Ek Ez ((↑Ek:Int)) 0 (a0_0n) (a0_1) (Fc) (a0_2) x2 (a0_0)))))))))) (Ae C0 Tryz.prog fu d):=by kernel_rfl
abbrev Oq:FuncId:=91
theorem X4 (fu d a0_0n:Nat)(a0_0:List PV)(a0_1:Int)(Fc:Nat)(a0_2:List PV)(a0_3:Int):Ae C0 Tryz.prog fu (d+1) Oq [.pbox [.own 3 a0_0n a0_0,.sc (.int .i64 a0_1),.lst false 1 Fc a0_2,.sc (.int .i64 a0_3)]]=(fun (call:Ai)=>Ap (decide (a0_0n*3<=a0_0.length))<|Ag (call 113 [.pbox [.own 3 a0_0n (List.take (a0_0n*3) a0_0),.sc (.int .i64 a0_1),.lst false 1 Fc a0_2,.sc (.int .i64 a0_3)]]) fun x1 x2=>Ab x1 fun x3 x4=>Ad .i64 x3 fun x5=>Ab x4 fun x6 x7=>Ad .u64 x6 fun x8=>Ab x7 fun x9 Cm=>Ad .i64 x9 fun C3=>Ac Cm<|Ab x2 fun Dt D0=>Ab Dt fun Dq Ed=>El 3 Dq fun Ek Ez=>Ab Ed fun Fo Fg=>Ad .i64 Fo fun Ex=>Ab Fg fun H6 Gz=>Fd 1 H6 fun Hx D1 Dm=>Ab Gz fun F6 H9=>Ad .i64 F6 fun Ey=>Ac H9<|Ac D0<|Bc (C3 != 0) (Ap (decide (Ek*3<=Ez.length))<|some (A0.mk [.agg [.sc (.int .i64 0),.sc (.int .u64 0),.sc (.string (ByteArray.mk #[]))],.sc (.int .i64 C3)] [[.own 3 Ek (List.take (Ek*3) Ez),.sc (.int .i64 Ex),.lst false 1 D1 Dm,.sc (.int .i64 Ey)]])) (Ap (decide (Ek*3<=Ez.length))<|Ag (call 114 [.pbox [.own 3 Ek (List.take (Ek*3) Ez),.sc (.int .i64 Ex)],.sc (.int .i64 x5)]) fun Jw Mq=>Ab Jw fun J1 Mm=>Ad .i64 J1 fun Ml=>Ac Mm<|Ab Mq fun Ny Pu=>Ab Ny fun Qp Sd=>El 3 Qp fun G2 J0=>Ab Sd fun Ur Yu=>Ad .i64 Ur fun Oo=>Ac Yu<|Ac Pu<|Bc (Ml != 0) (Ap (decide (G2*3<=J0.length))<|some (A0.mk [.agg [.sc (.int .i64 0),.sc (.int .u64 0),.sc (.string (ByteArray.mk #[]))],.sc (.int .i64 Ml)] [[.own 3 G2 (List.take (G2*3) J0),.sc (.int .i64 Oo),.lst false 1 D1 Dm,.sc (.int .i64 Ey)]])) (Bc (x5==5) (Bc (decide (x8>512)) (Ap (decide (G2*3<=J0.length))<|some (A0.mk [.agg [.sc (.int .i64 0),.sc (.int .u64 0),.sc (.string (ByteArray.mk #[]))],.sc (.int .i64 8)] [[.own 3 G2 (List.take (G2*3) J0),.sc (.int .i64 Oo),.lst false 1 D1 Dm,.sc (.int .i64 Ey)]])) (Ap (decide (G2*3<=J0.length))<|Ag (call 115 [.pbox [.own 3 G2 (List.take (G2*3) J0),.sc (.int .i64 Oo)],.agg [.sc (.int .i64 x5),.sc (.int .u64 x8),.sc (.string (ByteArray.mk #[]))]]) fun Uh Tq=>Ab Uh fun Sr Tp=>Ad .i64 Sr fun Xh=>Ac Tp<|Ab Tq fun X6 Ss=>Ab X6 fun Wm Wy=>El 3 Wm fun Xd Pi=>Ab Wy fun Yi BM=>Ad .i64 Yi fun BL=>Ac BM<|Ac Ss<|Bc (Xh != 0) (Ap (decide (Xd*3<=Pi.length))<|some (A0.mk [.agg [.sc (.int .i64 0),.sc (.int .u64 0),.sc (.string (ByteArray.mk #[]))],.sc (.int .i64 Xh)] [[.own 3 Xd (List.take (Xd*3) Pi),.sc (.int .i64 BL),.lst false 1 D1 Dm,.sc (.int .i64 Ey)]])) (Ap (decide (Xd*3<=Pi.length))<|some (A0.mk [.agg [.sc (.int .i64 x5),.sc (.int .u64 x8),.sc (.string (ByteArray.mk #[]))],.sc (.int .i64 0)] [[.own 3 Xd (List.take (Xd*3) Pi),.sc (.int .i64 BL),.lst false 1 D1 Dm,.sc (.int .i64 Ey)]])))) (Bc (x5==6) (Bc (decide (x8>512)) (Ap (decide (G2*3<=J0.length))<|some (A0.mk [.agg [.sc (.int .i64 0),.sc (.int .u64 0),.sc (.string (ByteArray.mk #[]))],.sc (.int .i64 8)] [[.own 3 G2 (List.take (G2*3) J0),.sc (.int .i64 Oo),.lst false 1 D1 Dm,.sc (.int .i64 Ey)]])) (Ap (decide (G2*3<=J0.length))<|Ag (call 115 [.pbox [.own 3 G2 (List.take (G2*3) J0),.sc (.int .i64 Oo)],.agg [.sc (.int .i64 x5),.sc (.int .u64 x8),.sc (.string (ByteArray.mk #[]))]]) fun P2 Ub=>Ab P2 fun Ym AF=>Ad .i64 Ym fun Y2=>Ac AF<|Ab Ub fun Zi CH=>Ab Zi fun AO BK=>El 3 AO fun W0 Xq=>Ab BK fun EF BQ=>Ad .i64 EF fun BI=>Ac BQ<|Ac CH<|Bc (Y2 != 0) (Ap (decide (W0*3<=Xq.length))<|some (A0.mk [.agg [.sc (.int .i64 0),.sc (.int .u64 0),.sc (.string (ByteArray.mk #[]))],.sc (.int .i64 Y2)] [[.own 3 W0 (List.take (W0*3) Xq),.sc (.int .i64 BI),.lst false 1 D1 Dm,.sc (.int .i64 Ey)]])) (Ap (decide (W0*3<=Xq.length))<|some (A0.mk [.agg [.sc (.int .i64 x5),.sc (.int .u64 x8),.sc (.string (ByteArray.mk #[]))],.sc (.int .i64 0)] [[.own 3 W0 (List.take (W0*3) Xq),.sc (.int .i64 BI),.lst false 1 D1 Dm,.sc (.int .i64 Ey)]])))) (Bc (x5==3) (Bc (decide (x8>1024)) (Ap (decide (G2*3<=J0.length))<|some (A0.mk [.agg [.sc (.int .i64 0),.sc (.int .u64 0),.sc (.string (ByteArray.mk #[]))],.sc (.int .i64 8)] [[.own 3 G2 (List.take (G2*3) J0),.sc (.int .i64 Oo),.lst false 1 D1 Dm,.sc (.int .i64 Ey)]])) (Aa (wrap .i64 ((↑D1:Int)-Ey)) fun Y1=>Aa (wrap .i64 x8) fun BN=>Bc (decide (Y1<BN)) (Ap (decide (G2*3<=J0.length))<|some (A0.mk [.agg [.sc (.int .i64 0),.sc (.int .u64 0),.sc (.string (ByteArray.mk #[]))],.sc (.int .i64 1)] [[.own 3 G2 (List.take (G2*3) J0),.sc (.int .i64 Oo),.lst false 1 D1 Dm,.sc (.int .i64 Ey)]])) (Aa (wrap .i64 x8) fun KF=>Aa (wrap .i64 (Ey+KF)) fun BJ=>Ap (decide (0<=Ey))<|Ap (decide (0<=BJ))<|Ap (decide (Int.toNat Ey<=Int.toNat BJ)&&decide (Int.toNat BJ<=D1))<|Aa (Int.toNat BJ-Int.toNat Ey) fun CU=>Aa (List.take (CU*1) (List.drop (Int.toNat Ey*1) Dm)) fun GQ=>Ap (decide (GQ.length=CU))<|Ep (bytesOf GQ) fun BP=>Aa (wrap .i64 x8) fun ET=>Aa (wrap .i64 (Ey+ET)) fun IH=>Ap (decide (G2*3<=J0.length))<|Ag (call 115 [.pbox [.own 3 G2 (List.take (G2*3) J0),.sc (.int .i64 Oo)],.agg [.sc (.int .i64 x5),.sc (.int .u64 0),.sc (.string (ByteArray.mk (List.toArray BP)))]]) fun JL TB=>Ab JL fun SE QK=>Ad .i64 SE fun OA=>Ac QK<|Ab TB fun WJ SX=>Ab WJ fun SS SN=>El 3 SS fun GN PB=>Ab SN fun RW UC=>Ad .i64 RW fun UN=>Ac UC<|Ac SX<|Bc (OA != 0) (Ap (decide (GN*3<=PB.length))<|some (A0.mk [.agg [.sc (.int .i64 0),.sc (.int .u64 0),.sc (.string (ByteArray.mk #[]))],.sc (.int .i64 OA)] [[.own 3 GN (List.take (GN*3) PB),.sc (.int .i64 UN),.lst false 1 D1 Dm,.sc (.int .i64 IH)]])) (Ap (decide (GN*3<=PB.length))<|some (A0.mk [.agg [.sc (.int .i64 x5),.sc (.int .u64 0),.sc (.string (ByteArray.mk (List.toArray BP)))],.sc (.int .i64 0)] [[.own 3 GN (List.take (GN*3) PB),.sc (.int .i64 UN),.lst false 1 D1 Dm,.sc (.int .i64 IH)]]))))) (Bc (x5==4) (Bc (decide (x8>1024)) (Ap (decide (G2*3<=J0.length))<|some (A0.mk [.agg [.sc (.int .i64 0),.sc (.int .u64 0),.sc (.string (ByteArray.mk #[]))],.sc (.int .i64 8)] [[.own 3 G2 (List.take (G2*3) J0),.sc (.int .i64 Oo),.lst false 1 D1 Dm,.sc (.int .i64 Ey)]])) (Aa (wrap .i64 ((↑D1:Int)-Ey)) fun ZL=>Aa (wrap .i64 x8) fun ZZ=>Bc (decide (ZL<ZZ)) (Ap (decide (G2*3<=J0.length))<|some (A0.mk [.agg [.sc (.int .i64 0),.sc (.int .u64 0),.sc (.string (ByteArray.mk #[]))],.sc (.int .i64 1)] [[.own 3 G2 (List.take (G2*3) J0),.sc (.int .i64 Oo),.lst false 1 D1 Dm,.sc (.int .i64 Ey)]])) (Aa (wrap .i64 x8) fun YV=>Aa (wrap .i64 (Ey+YV)) fun WZ=>Ap (decide (0<=Ey))<|Ap (decide (0<=WZ))<|Ap (decide (Int.toNat Ey<=Int.toNat WZ)&&decide (Int.toNat WZ<=D1))<|Aa (Int.toNat WZ-Int.toNat Ey) fun x98=>Aa (List.take (x98*1) (List.drop (Int.toNat Ey*1) Dm)) fun x99=>Ap (decide (x99.length=x98))<|Ep (bytesOf x99) fun Y9=>Aa (wrap .i64 x8) fun Xn=>Aa (wrap .i64 (Ey+Xn)) fun H2=>Ap (decide (G2*3<=J0.length))<|Ag (call 115 [.pbox [.own 3 G2 (List.take (G2*3) J0),.sc (.int .i64 Oo)],.agg [.sc (.int .i64 x5),.sc (.int .u64 0),.sc (.string (ByteArray.mk (List.toArray Y9)))]]) fun D2 DK=>Ab D2 fun Tv Ts=>Ad .i64 Tv fun Ln=>Ac Ts<|Ab DK fun DN DW=>Ab DN fun DR CG=>El 3 DR fun Iy Lf=>Ab CG fun BZ BV=>Ad .i64 BZ fun DV=>Ac BV<|Ac DW<|Bc (Ln != 0) (Ap (decide (Iy*3<=Lf.length))<|some (A0.mk [.agg [.sc (.int .i64 0),.sc (.int .u64 0),.sc (.string (ByteArray.mk #[]))],.sc (.int .i64 Ln)] [[.own 3 Iy (List.take (Iy*3) Lf),.sc (.int .i64 DV),.lst false 1 D1 Dm,.sc (.int .i64 H2)]])) (Ap (decide (Iy*3<=Lf.length))<|some (A0.mk [.agg [.sc (.int .i64 x5),.sc (.int .u64 0),.sc (.string (ByteArray.mk (List.toArray Y9)))],.sc (.int .i64 0)] [[.own 3 Iy (List.take (Iy*3) Lf),.sc (.int .i64 DV),.lst false 1 D1 Dm,.sc (.int .i64 H2)]]))))) (Ap (decide (G2*3<=J0.length))<|Ag (call 115 [.pbox [.own 3 G2 (List.take (G2*3) J0),.sc (.int .i64 Oo)],.agg [.sc (.int .i64 x5),.sc (.int .u64 x8),.sc (.string (ByteArray.mk #[]))]]) fun JD Vm=>Ab JD fun Xp Z1=>Ad .i64 Xp fun Zf=>Ac Z1<|Ab Vm fun CY GK=>Ab CY fun Tu Ta=>El 3 Tu fun Rn Vu=>Ab Ta fun Tx BG=>Ad .i64 Tx fun Yo=>Ac BG<|Ac GK<|Bc (Zf != 0) (Ap (decide (Rn*3<=Vu.length))<|some (A0.mk [.agg [.sc (.int .i64 0),.sc (.int .u64 0),.sc (.string (ByteArray.mk #[]))],.sc (.int .i64 Zf)] [[.own 3 Rn (List.take (Rn*3) Vu),.sc (.int .i64 Yo),.lst false 1 D1 Dm,.sc (.int .i64 Ey)]])) (Ap (decide (Rn*3<=Vu.length))<|some (A0.mk [.agg [.sc (.int .i64 x5),.sc (.int .u64 x8),.sc (.string (ByteArray.mk #[]))],.sc (.int .i64 0)] [[.own 3 Rn (List.take (Rn*3) Vu),.sc (.int .i64 Yo),.lst false 1 D1 Dm,.sc (.int .i64 Ey)]]))))))))) (Ae C0 Tryz.prog fu d):=by kernel_rfl
abbrev W7:FuncId:=51
noncomputable def Jf (fu:Nat)(call:Ai)(a0n:Nat)(a0:List PV)(nn y0:Nat)(y1:List PV)(y2:Nat)(y3:Int)(y4:Nat)(y5:List PV)(y6:Int)(y7:List PV):Option A0:=C5 CB Tryz.prog fu call 51 Tryz.f51 (Bw Tryz.f51) [.lst false 1 a0n a0] [.r,.r,.l,.l] nn ⟨lk [(2,(.view 2 3 0 y0)),(5,(.ptr 5 0))],B5 [(2,(.ar false y1)),(5,(.st [(.view 32 3 0 y2),(.sc (.int .i64 y3)),(.lst false 1 y4 y5),(.sc (.int .i64 y6))])),(32,(.ar false y7))]⟩
theorem BT (fu:Nat)(call:Ai)(a0n:Nat)(a0:List PV)(nn y0:Nat)(y1:List PV)(y2:Nat)(y3:Int)(y4:Nat)(y5:List PV)(y6:Int)(y7:List PV):Jf fu call a0n a0 (nn+1) y0 y1 y2 y3 y4 y5 y6 y7=(Ap (decide (y2*3<=y7.length))<|Ag (call 90 [.pbox [.own 3 y2 (List.take (y2*3) y7),.sc (.int .i64 y3)]]) fun x1 x2=>Ab x1 fun x3 x4=>Bl x3 fun x5=>Ac x4<|Ab x2 fun x6 x7=>Ab x6 fun x8 x9=>El 3 x8 fun Cm C3=>Ab x9 fun Dt D0=>Ad .i64 Dt fun Dq=>Ac D0<|Ac x7<|Bc (!x5) (Ap (decide (Cm*3<=C3.length))<|Ag (call 91 [.pbox [.own 3 Cm (List.take (Cm*3) C3),.sc (.int .i64 Dq),.lst false 1 y4 y5,.sc (.int .i64 y6)]]) fun Ed Ek=>Ab Ed fun Ez Fo=>Cy Ez fun Fg=>Ab Fg fun Ex H6=>Ad .i64 Ex fun Gz=>Ab H6 fun Hx D1=>Ad .u64 Hx fun Dm=>Ab D1 fun F6 H9=>Co F6 fun Ey=>Ac H9<|Ab Fo fun Jw Mq=>Ad .i64 Jw fun J1=>Ac Mq<|Ab Ek fun Mm Ml=>Ab Mm fun Ny Pu=>El 3 Ny fun Qp Sd=>Ab Pu fun G2 J0=>Ad .i64 G2 fun Ur=>Ab J0 fun Yu Oo=>Fd 1 Yu fun Uh Tq Sr=>Ab Oo fun Tp Xh=>Ad .i64 Tp fun X6=>Ac Xh<|Ac Ml<|Bc (J1 != 0) (some (A0.mk [.own 3 0 [],.sc (.int .i64 0),.sc (.int .i64 J1)] [])) (Ap (decide (y0*3<=y1.length)&&true&&decide ((y0+1)*32<=1099511627776)&&decide (y0+1<=1099511627776))<|Aa (y0+1) fun Ss=>Aa (List.take (y0*3) y1++[.sc (.int .i64 Gz),.sc (.int .u64 Dm),.sc (.string Ey)]) fun Wm=>Jf fu call a0n a0 (nn) Ss Wm Qp Ur Tq Sr X6 Sd)) (Ap (decide (y0*3<=y1.length))<|some (A0.mk [.own 3 y0 (List.take (y0*3) y1),.sc (.int .i64 y6),.sc (.int .i64 0)] []))):=by kernel_rfl
theorem MJ (fu d a0n:Nat)(a0:List PV):Ae C0 Tryz.prog fu (d+1) W7 [.lst false 1 a0n a0]=(fun (call:Ai)=>Jf fu call a0n a0 (fu) 0 ([]) 0 0 (a0n) (a0) 0 ([])) (Ae C0 Tryz.prog fu d):=by kernel_rfl
end
section
open Go.IntKind (wrap)
structure Hd where
 k:Int
 n:Int
 e:Int
 at_:Nat
def Oz (n:Int):Int:=if n<24 then 0 else if n<256 then 1 else if n<65536 then 2 else if n<4294967296 then 4 else 8
def szE (low:Int):Nat:=if low=24 then 1 else if low=25 then 2 else if low=26 then 4 else 8
def Tj (b:List Int)(at_:Nat)(x:Int):Hd:=
 if x=244 then ⟨7,0,0,at_+1⟩ else if x=245 then ⟨7,1,0,at_+1⟩ else if x=246 then ⟨8,0,0,at_+1⟩
 else if x / 32>5 then ⟨0,0,2,at_+1⟩ else if x % 32>27 then ⟨0,0,2,at_+1⟩
 else if x % 32<24 then ⟨1+x / 32,x % 32,0,at_+1⟩
 else if b.length-(at_+1)<szE (x % 32) then ⟨0,0,1,at_+1⟩
 else if Oz (IU ((b.drop (at_+1)).take (szE (x % 32))))<szE (x % 32) then ⟨0,0,2,at_+1+szE (x % 32)⟩
 else ⟨1+x / 32,IU ((b.drop (at_+1)).take (szE (x % 32))),0,at_+1+szE (x % 32)⟩
def F4 (b:List Int)(at_:Nat):Hd:=match b[at_]? with|none=>⟨0,0,1,at_⟩|some x=>Tj b at_ x
theorem Aw1 {x:Int}(h:0<=x):D3 .u8 x 5=x / 32:=by
 unfold D3;show x.fdiv (2 ^ (min (5:Int).toNat IntKind.u8.bits))=_;have h2:(2:Int) ^ (min (5:Int).toNat IntKind.u8.bits)=32:=by decide
 rw [h2,Int.fdiv_eq_ediv_of_nonneg _ (by omega)]
theorem Asj {x:Int}(h0:0<=x)(h1:x<=255):Qx .u8 x 31=x % 32:=by
 obtain ⟨n,rfl⟩:=Int.eq_ofNat_of_zero_le h0;have hn:n<256:=by omega
 have e1:(BitVec.ofInt 8 (n:Int)).toNat=n:=by
  rw [BitVec.toNat_ofInt];omega
 have e2:(BitVec.ofInt 8 (31:Int)).toNat=2 ^ 5-1:=by decide
 unfold Qx;show wrap .u8 ((BitVec.ofInt 8 (n:Int) &&& BitVec.ofInt 8 (31:Int)).toNat:Int)=_;rw [BitVec.toNat_and,e1,e2,Nat.and_two_pow_sub_one_eq_mod,Fn (by omega) (by omega)]
 omega
abbrev Ace (l:List Gt)(cnt:Int)(b:List Int)(at_:Nat):List PV:=[.own 3 l.length (En l),.sc (.int .i64 cnt),.lst false 1 b.length (Af .u8 b),.sc (.int .i64 at_)]
section
variable {fu d:Nat}
theorem Aho (n:Int):Ae C0 Tryz.prog fu (d+1) Z7 [.sc (.int .u64 n)]=some ⟨[.sc (.int .i64 (Oz n))],[]⟩:=by
 rw [QO];unfold Oz
 try unfold Aa
 repeat' first
  |((with_reducible first|apply Aw|apply Al|apply Ay|apply Am);· first|with_reducible rfl|(simp (disch:=first|with_reducible assumption|omega) only [B4,A6]<;>with_reducible rfl))
  |((with_reducible first|apply Ax|apply Au);· first|with_reducible rfl|with_reducible assumption|omega|(simp (disch:=first|with_reducible assumption|omega) only [gT,B4,A6]<;>omega))
  |(with_reducible apply Av;· first|with_reducible rfl|with_reducible assumption|(simp (disch:=first|with_reducible assumption|omega) only [gF,B4,A6]<;>omega))
  |(with_reducible refine Ae9 ?_ ?_<;>intro hb<;>try simp only [decide_eq_true_eq,decide_eq_false_iff_not,beq_iff_eq,beq_eq_false_iff_ne,bne_iff_ne,bne_eq_false_iff_eq,ne_eq,Bool.not_eq_true',Bool.not_eq_false',Bool.not_eq_true,Bool.not_eq_false] at hb)
  |(with_reducible refine QD ?_ ?_)
 all_goals try simp (disch:=first|with_reducible assumption|omega) only [B4,A6]
theorem KA {a0n a2n:Nat}{a0 a2:List PV}{a1 a3 k cnt:Int}{l:List Gt}{b:List Int}{off sz:Nat}{q:List Int}(hq:q.length=sz)(hb:b.length<=1000000)(ho:off+sz<=b.length):∀(r:List Int)(i nn:Nat)(v:Int),q.drop i=r->r.length<nn->i<=sz ->
    Ge fu (Ae C0 Tryz.prog fu (d+1)) a0n a0 a1 a2n a2 a3 nn k v (sz:Int) sz (Af .u8 q) (sz:Int) (i:Int) l.length cnt b.length (Af .u8 b) (off:Int) (En l) =
      (if Oz (r.foldl Fb v)<sz then some ⟨[.sc (.int .i64 0),.sc (.int .u64 0),.sc (.int .i64 2)],[Ace l cnt b (off+sz)]⟩
       else some ⟨[.sc (.int .i64 k),.sc (.int .u64 (r.foldl Fb v)),.sc (.int .i64 0)],[Ace l cnt b (off+sz)]⟩)
  |_,_,0,_,_,h,_=>by omega
  |[],i,nn+1,v,hd,hn,hi=>by
    have:=drop_nil hd
    have sh:=Aho (fu:=fu) (d:=d) v
    have L:=Cz l
    have t:=Dc l
    have w:wrap .i64 ((off:Int)+(sz:Int))=((off+sz:Nat):Int):=by rw [Aj (by omega) (by omega)];omega
    rw [Kl,Dr _ _ _ (by omega),List.foldl_nil]
    by_cases hs:Oz v<sz
    · rw [B4 hs]
      simp (disch:=omega) only [Bz,w,sh,L,t,B8]
    · rw [A6 hs]
      simp (disch:=omega) only [Bz,w,sh,L,t,B8]
  |x::r,i,nn+1,v,hd,hn,hi=>by
    obtain ⟨h1,h2,h3⟩:=Cs hd
    simp only [J2] at hn
    have g0:=W5 (k:=.u8) h2
    have w:wrap .i64 ((i:Int)+1)=((i+1:Nat):Int):=by rw [Aj (by omega) (by omega)];omega
    have ih:=KA (a0n:=a0n) (a2n:=a2n) (a0:=a0) (a2:=a2) (a1:=a1) (a3:=a3) (k:=k) (cnt:=cnt) (l:=l) hq hb ho r (i+1) nn (Fb v x) h3 (by omega) (by omega)
    rw [List.foldl_cons,←ih,Kl]
    simp (disch:=omega) only [Bz,He,B8,g0,w]
theorem Aii {l:List Gt}{cnt:Int}{b:List Int}{at_:Nat}(hfu:1000<=fu)(hb:Jy b)(hl:b.length<=1000000):
  Ae C0 Tryz.prog fu (d+2) O5 [.pbox (Ace l cnt b at_)]=some ⟨[.sc (.int .i64 (F4 b at_).k),.sc (.int .u64 (F4 b at_).n),.sc (.int .i64 (F4 b at_).e)],[Ace l cnt b (F4 b at_).at_]⟩:=by
 refine (Xs fu (d+1) l.length (En l) cnt b.length (Af .u8 b) (at_:Int)).trans ?_;have L:=Cz l;have t:=Dc l;have Lb:=Ak .u8 b;have tb:=J3 .u8 b;unfold F4;by_cases hlt:at_<b.length
 rotate_left
 ·have hg:b[at_]?=none:=List.getElem?_eq_none (by omega)
  rw [hg];simp (disch:=omega) only [Bz,L,t,Lb,tb,B8]
 have hg:b[at_]?=some b[at_]:=List.getElem?_eq_getElem hlt;have hB:=hb _ (List.getElem_mem hlt);rw [hg];generalize b[at_]=x at hg hB;have g0:=W5 (k:=.u8) hg;have w1:wrap .i64 ((at_:Int)+1)=((at_+1:Nat):Int):=by rw [Aj (by omega) (by omega)];omega
 have s5:=Aw1 hB.1;have a31:=Asj hB.1 hB.2;unfold Tj;simp only;by_cases c1:x=244
 ·subst c1;have q:wrap .u64 (wrap .u8 ((244:Int)-244))=0:=by decide
  simp (disch:=omega) only [Bz,He,Br,B8,g0,Int.reduceBEq,w1,L,t,Lb,tb,q]
 rw [A6 c1];have b1:(x==(244:Int))=false:=by simp [c1]
 by_cases c2:x=245
 ·subst c2;have q:wrap .u64 (wrap .u8 ((245:Int)-244))=1:=by decide
  simp (disch:=omega) only [Bz,He,Br,B8,g0,Int.reduceBEq,w1,L,t,Lb,tb,q,if_true]
 rw [A6 c2];have b2:(x==(245:Int))=false:=by simp [c2]
 by_cases c3:x=246
 ·subst c3;simp (disch:=omega) only [Bz,He,Br,B8,g0,Int.reduceBEq,w1,L,t,Lb,tb,if_true]
 rw [A6 c3];have b3:(x==(246:Int))=false:=by simp [c3]
 by_cases c4:x / 32>5
 ·rw [B4 c4];simp (disch:=omega) only [Bz,He,Br,B8,g0,b1,b2,b3,s5,a31,w1,L,t,Lb,tb]
 rw [A6 c4];by_cases c5:x % 32>27
 ·rw [B4 c5];simp (disch:=omega) only [Bz,He,Br,B8,g0,b1,b2,b3,s5,a31,w1,L,t,Lb,tb]
 rw [A6 c5];have wk1:wrap .i64 (x / 32)=x / 32:=Aj (by omega) (by omega)
 have wk2:wrap .i64 (1+x / 32)=1+x / 32:=Aj (by omega) (by omega)
 by_cases c6:x % 32<24
 ·have wn:wrap .u64 (x % 32)=x % 32:=Cn (by omega) (by omega)
  rw [B4 c6];simp (disch:=omega) only [Bz,He,Br,B8,g0,b1,b2,b3,s5,a31,w1,wk1,wk2,wn,L,t,Lb,tb]
 rw [A6 c6];have q1:wrap .u8 (x % 32-24)=x % 32-24:=Fn (by omega) (by omega)
 have q2:G4 .i64 1 (x % 32-24)=(szE (x % 32):Int):=by
  have:x % 32=24∨x % 32=25∨x % 32=26∨x % 32=27:=by omega
  rcases this with h|h|h|h<;>rw [h]<;>decide
 have q3:szE (x % 32)<=8:=by
  unfold szE
  repeat' split
  all_goals omega
 generalize szE (x % 32)=sz at q2 q3 ⊢;have q4:wrap .i64 ((b.length:Int)-((at_+1:Nat):Int))=((b.length-(at_+1):Nat):Int):=by rw [Aj (by omega) (by omega)];omega
 by_cases c7:b.length-(at_+1)<sz
 ·rw [B4 c7];simp (disch:=omega) only [Bz,He,Br,B8,g0,b1,b2,b3,s5,a31,w1,wk1,wk2,q1,q2,q4,L,t,Lb,tb]
 rw [A6 c7];have q5:wrap .i64 (((at_+1:Nat):Int)+(sz:Int))=((at_+1+sz:Nat):Int):=by rw [Aj (by omega) (by omega)];omega
 have q6:at_+1+sz-(at_+1)=sz:=by omega
 have lp:=KA (fu:=fu) (d:=d) (a0n:=l.length) (a2n:=b.length) (a0:=En l) (a2:=Af .u8 b) (a1:=cnt) (a3:=(at_:Int)) (k:=1+x / 32) (cnt:=cnt) (l:=l) (b:=b) (off:=at_+1) (sz:=sz) (q:=(b.drop (at_+1)).take sz) (by rw [List.length_take,List.length_drop];omega) hl (by omega) _ 0 fu 0 rfl (by rw [E6,List.length_take];omega) (by omega)
 rw [E6] at lp;have lp':=lp;unfold IU;by_cases c8:Oz (((b.drop (at_+1)).take sz).foldl Fb 0)<sz
 ·rw [B4 c8] at lp' ⊢;simp (disch:=omega) only [Bz,He,Br,B8,g0,b1,b2,b3,s5,a31,w1,wk1,wk2,q1,q2,q4,q5,q6,H1,Nx,L,t,Lb,tb];exact lp'
 ·rw [A6 c8] at lp' ⊢;simp (disch:=omega) only [Bz,He,Br,B8,g0,b1,b2,b3,s5,a31,w1,wk1,wk2,q1,q2,q4,q5,q6,H1,Nx,L,t,Lb,tb];exact lp'
end
end
section
open Go.IntKind (wrap)
structure Rd where
 x:It
 e:Int
 l:List Gt
 cnt:Int
 at_:Nat
def it0:It:=⟨0,0,⟨#[]⟩⟩
def Ti (l:List Gt)(cnt:Int)(x:It)(at_:Nat):Rd:=if (Dx l x).1=0 then ⟨x,0,(Dx l x).2,cnt+1,at_⟩ else ⟨it0,(Dx l x).1,(Dx l x).2,cnt,at_⟩
def PZ (l:List Gt)(cnt:Int)(b:List Int)(h:Hd):Rd:=
 if h.e≠0 then ⟨it0,h.e,l,cnt,h.at_⟩
 else if Iw l cnt h.k≠0 then ⟨it0,Iw l cnt h.k,l,cnt,h.at_⟩
 else if h.k=5∨h.k=6 then (if h.n>512 then ⟨it0,8,l,cnt,h.at_⟩ else Ti l cnt ⟨h.k,h.n,⟨#[]⟩⟩ h.at_)
 else if h.k=3∨h.k=4 then (if h.n>1024 then ⟨it0,8,l,cnt,h.at_⟩ else if b.length-h.at_<h.n.toNat then ⟨it0,1,l,cnt,h.at_⟩
  else Ti l cnt ⟨h.k,0,Ca ((b.drop h.at_).take h.n.toNat)⟩ (h.at_+h.n.toNat))
 else Ti l cnt ⟨h.k,h.n,⟨#[]⟩⟩ h.at_
def Fm (l:List Gt)(cnt:Int)(b:List Int)(at_:Nat):Rd:=PZ l cnt b (F4 b at_)
theorem EH (a b:Int):0<=Fb a b∧Fb a b<=18446744073709551615:=Gs _
theorem Ve:∀(l:List Int)(v:Int),0<=v->v<=18446744073709551615->0<=l.foldl Fb v∧l.foldl Fb v<=18446744073709551615
 |[],v,h0,h1=>⟨h0,h1⟩
 |x::l,v,h0,h1=>Ve l _ (EH v x).1 (EH v x).2
theorem OK {b:List Int}{at_:Nat}(hb:Jy b)(ha:at_<=b.length):(F4 b at_).at_<=b.length∧((F4 b at_).e=0->1<=(F4 b at_).k∧(F4 b at_).k<=8∧0<=(F4 b at_).n∧(F4 b at_).n<=18446744073709551615∧at_<(F4 b at_).at_):=by
 unfold F4;by_cases hlt:at_<b.length
 rotate_left
 ·have hg:b[at_]?=none:=List.getElem?_eq_none (by omega)
  rw [hg];exact ⟨ha,fun h=>by simp at h⟩
 have hg:b[at_]?=some b[at_]:=List.getElem?_eq_getElem hlt;have hB:=hb _ (List.getElem_mem hlt);rw [hg];generalize b[at_]=x at hB;have hd:=Ve ((b.drop (at_+1)).take (szE (x % 32))) 0 (by omega) (by omega)
 show (Tj b at_ x).at_<=b.length∧_;simp only [Tj];unfold IU
 repeat' split
 all_goals refine ⟨by simp only;omega,fun h=>?_⟩
 all_goals first
  |(simp at h;done)
  |(simp only;omega)
section
variable {fu d:Nat}
theorem Aga {l:List Gt}{cnt:Int}{b:List Int}{at_:Nat}(hfu:1000<=fu)(hb:Jy b)(hl:b.length<=1000000)(ha:at_<=b.length)(hf:l.length<=900)(h0:0<=cnt)(h1:cnt<=1000000):
  Ae C0 Tryz.prog fu (d+4) Oq [.pbox (Ace l cnt b at_)]=some ⟨[.agg (Fm l cnt b at_).x.cells,.sc (.int .i64 (Fm l cnt b at_).e)],[Ace (Fm l cnt b at_).l (Fm l cnt b at_).cnt b (Fm l cnt b at_).at_]⟩:=by
 refine (X4 fu (d+3) l.length (En l) cnt b.length (Af .u8 b) (at_:Int)).trans ?_;have hd:=Aii (fu:=fu) (d:=d+1) (l:=l) (cnt:=cnt) (at_:=at_) hfu hb hl;have hk:=OK hb ha;unfold Fm;generalize F4 b at_=h at hd hk ⊢;obtain ⟨k,n,e,a⟩:=h;obtain ⟨ka,hk⟩:=hk;simp only at hd ka hk;have L:=Cz l;have t:=Dc l;have ad:=VG (fu:=fu) (d:=d+1) (l:=l) (by omega) cnt k
 unfold J5 at ad;unfold PZ;by_cases he:e=0
 rotate_left
 ·simp only [ne_eq,he,not_false_eq_true,if_true];have he':(e != 0)=true:=by simp [he]
  try unfold Aa
  repeat first
   |((with_reducible first|apply Aw|apply Al|apply Ay|apply Bg|apply Cc|apply Dg|apply Am);· first|with_reducible rfl|(simp (disch:=omega) only [hd,he',L,t]<;>with_reducible rfl))
   |((with_reducible first|apply Ax|apply Au);· first|with_reducible rfl|omega|(simp (disch:=omega) only [gT,hd,he',L,t]<;>omega))
   |(with_reducible apply Av;· first|with_reducible rfl|(simp (disch:=omega) only [gF,hd,he',L,t]<;>omega))
  try simp (disch:=omega) only [hd,he',L,t]
  all_goals rfl
 subst he;obtain ⟨k1,k8,n0,n1,_⟩:=hk rfl;obtain ⟨m,rfl⟩:=Int.eq_ofNat_of_zero_le n0;have e00:((0:Int) != 0)=false:=rfl;simp only [ne_eq,not_true_eq_false,if_false];by_cases hm:Iw l cnt k=0
 rotate_left
 ·simp only [hm,not_false_eq_true,if_true];have he':(Iw l cnt k != 0)=true:=by simp [hm]
  try unfold Aa
  repeat first
   |((with_reducible first|apply Aw|apply Al|apply Ay|apply Bg|apply Cc|apply Dg|apply Am);· first|with_reducible rfl|(simp (disch:=omega) only [hd,e00,ad,he',L,t]<;>with_reducible rfl))
   |((with_reducible first|apply Ax|apply Au);· first|with_reducible rfl|omega|(simp (disch:=omega) only [gT,hd,e00,ad,he',L,t]<;>omega))
   |(with_reducible apply Av;· first|with_reducible rfl|(simp (disch:=omega) only [gF,hd,e00,ad,he',L,t]<;>omega))
  try simp (disch:=omega) only [hd,e00,ad,he',L,t]
  all_goals rfl
 rw [hm] at ad ⊢;simp only [not_true_eq_false,if_false,He];have ac1:=PE (fu:=fu) (d:=d) (l:=l) (x:=⟨k,m,⟨#[]⟩⟩) (cnt:=cnt) hfu (by omega) h0 h1 ⟨k1,k8,n0,Nat.zero_le _⟩ (Nat.zero_le _)
 have LA:=Cz (Dx l ⟨k,m,⟨#[]⟩⟩).2;have tA:=Dc (Dx l ⟨k,m,⟨#[]⟩⟩).2;have B:=fun (hn:m<=1024)=>PE (fu:=fu) (d:=d) (l:=l) (x:=⟨k,0,Ca ((b.drop a).take m)⟩) (cnt:=cnt) hfu (by omega) h0 h1 ⟨k1,k8,by simp,by rw [Fy,List.length_take];omega⟩ (by rw [Fy,List.length_take];omega)
 have LB:=Cz (Dx l ⟨k,0,Ca ((b.drop a).take m)⟩).2;have tB:=Dc (Dx l ⟨k,0,Ca ((b.drop a).take m)⟩).2;unfold Ti;generalize Dx l ⟨k,m,⟨#[]⟩⟩=A at *
 obtain ⟨A1,A2⟩:=A;have eB:ByteArray.mk (List.toArray (((b.drop a).take m).map fun n=>n.toNat.toUInt8))=Ca ((b.drop a).take m):=rfl
 have bo:=Gw ((b.drop a).take m);have tk:List.take m (List.drop a (Af .u8 b))=Af .u8 ((b.drop a).take m):=by rw [H1,Nx]
 have lq:(Af .u8 ((b.drop a).take m)).length=min m (b.length-a):=by rw [Ak,List.length_take,List.length_drop]
 have Lb:=Ak .u8 b;generalize Ca ((b.drop a).take m)=S at *
 generalize Dx l ⟨k,0,S⟩=B' at *
 obtain ⟨B1,B2⟩:=B';generalize (b.drop a).take m=q at *
 unfold J5 It.cells at ac1 B;simp only at ac1 B LA tA LB tB;have w1:wrap .i64 ((b.length:Int)-(a:Int))=((b.length-a:Nat):Int):=by rw [Aj (by omega) (by omega)];omega
 have w2:m<=1024->wrap .i64 (m:Int)=m:=fun h=>Aj (by omega) (by omega)
 have w3:m<=1024->wrap .i64 ((a:Int)+(m:Int))=((a+m:Nat):Int):=fun h=>by rw [Aj (by omega) (by omega)];omega
 have w4:a+m-a=m:=by omega
 try unfold Aa
 repeat' first
  |((with_reducible first|apply Aw|apply Al|apply Ay|apply Bg|apply Cc|apply Dg|apply Am);· first|with_reducible rfl|(simp (disch:=first|with_reducible assumption|omega) only [hd,e00,ad,L,t,ac1,LA,tA,B,LB,tB,w1,w2,w3,w4,tk,bo,lq,eB,He,B8,Br]<;>with_reducible rfl))
  |((with_reducible first|apply Ax|apply Au);· first|with_reducible rfl|with_reducible assumption|omega|(simp (disch:=first|with_reducible assumption|omega) only [gT,hd,e00,ad,L,t,ac1,LA,tA,B,LB,tB,w1,w2,w3,w4,tk,bo,lq,eB,He,B8,Br]<;>omega))
  |(with_reducible apply Av;· first|with_reducible rfl|with_reducible assumption|(simp (disch:=first|with_reducible assumption|omega) only [gF,hd,e00,ad,L,t,ac1,LA,tA,B,LB,tB,w1,w2,w3,w4,tk,bo,lq,eB,He,B8,Br]<;>omega))
  |(with_reducible refine Ae9 ?_ ?_<;>intro hb<;>try simp only [decide_eq_true_eq,decide_eq_false_iff_not,beq_iff_eq,beq_eq_false_iff_ne,bne_iff_ne,bne_eq_false_iff_eq,ne_eq,Bool.not_eq_true',Bool.not_eq_false',Bool.not_eq_true,Bool.not_eq_false] at hb)
  |(with_reducible refine QD ?_ ?_)
 all_goals try simp (disch:=first|with_reducible assumption|omega) only [hd,e00,ad,L,t,ac1,LA,tA,B,LB,tB,w1,w2,w3,w4,tk,bo,lq,eB,He,B8,Br,B4,A6]
 all_goals rfl
end
end
section
open Go.IntKind (wrap)
def OX (l:List Gt)(cnt:Int):Bool:=decide (cnt>0)&&((l.length:Int)==0)
def Jd:Nat->List Gt->Int->List Int->Nat->List It->List It × Nat × Int
 |0,_,_,_,_,_=>([],0,2)
 |m+1,l,cnt,b,at_,its=>if OX l cnt=true then (its,at_,0) else
  if (Fm l cnt b at_).e≠0 then ([],0,(Fm l cnt b at_).e) else Jd m (Fm l cnt b at_).l (Fm l cnt b at_).cnt b (Fm l cnt b at_).at_ (its++[(Fm l cnt b at_).x])
def XV (r:List It × Nat × Int):List PV:=[.own 3 r.1.length (Cg r.1),.sc (.int .i64 r.2.1),.sc (.int .i64 r.2.2)]
theorem Aij (l:List Gt):(CL l).length<=l.length:=by
 unfold CL;rw [List.length_reverse];have:=(List.dropWhile_sublist (l:=l.reverse) fun f=>f.left==0).length_le
 rw [List.length_reverse] at this;exact this
theorem NB (l:List Gt)(x:It):(Fh l x).length<=l.length+1:=by
 unfold Fh;refine Nat.le_trans (Aij _) ?_;have:=JS l;unfold NN
 repeat' split
 all_goals simp
 all_goals omega
theorem ZU (l:List Gt)(k:List Int):(Is l k).length=l.length:=by
 rcases Mg l with rfl|⟨l',f,rfl⟩
 ·rfl
 ·rw [Mb];simp
theorem VZ (l:List Gt)(x:It):(Dx l x).2.length<=l.length+1:=by
 unfold Dx;have h1:=NB l x;have h2:=NB (Is l (Bp x)) x;rw [ZU] at h2
 repeat' split
 all_goals simp only
 all_goals omega
structure OkX (x:It):Prop where
 k1:1<=x.k
 k8:x.k<=8
 n0:0<=x.n
 n1:x.n<=18446744073709551615
 s1:x.s.size<=1024
theorem Aiz {l:List Gt}{cnt k:Int}(h:Iw l cnt k=0):cnt<512∧l.length<=8:=by
 unfold Iw at h
 repeat' split at h
 all_goals first
  |(cases h;done)
  |omega
theorem JY {l:List Gt}{cnt:Int}{x:It}{at_:Nat}(hx:OkX x)(h:(Ti l cnt x at_).e=0):(Ti l cnt x at_).cnt=cnt+1∧(Ti l cnt x at_).l.length<=l.length+1∧(Ti l cnt x at_).at_=at_∧OkX (Ti l cnt x at_).x:=by
 have:=VZ l x;unfold Ti at h ⊢;by_cases hz:(Dx l x).1=0
 ·rw [B4 hz];exact ⟨rfl,this,rfl,hx⟩
 ·rw [A6 hz] at h;exact absurd h hz
theorem OY {l:List Gt}{cnt:Int}{b:List Int}{at_:Nat}(hb:Jy b)(ha:at_<=b.length)(h:(Fm l cnt b at_).e=0):
  cnt<512∧(Fm l cnt b at_).cnt=cnt+1∧(Fm l cnt b at_).l.length<=9∧at_<(Fm l cnt b at_).at_∧(Fm l cnt b at_).at_<=b.length∧OkX (Fm l cnt b at_).x:=by
 have hk:=OK hb ha;unfold Fm at h ⊢;generalize F4 b at_=q at h hk ⊢;obtain ⟨k,n,e,a⟩:=q;obtain ⟨ka,hk⟩:=hk;unfold PZ at h ⊢;simp only at h hk ka ⊢;by_cases he:e=0
 rotate_left
 ·rw [B4 he] at h;exact absurd h he
 subst he;obtain ⟨k1,k8,n0,n1,hlt⟩:=hk rfl;rw [A6 (by simp)] at h ⊢
 by_cases hm:Iw l cnt k=0
 rotate_left
 ·rw [B4 hm] at h;exact absurd h hm
 obtain ⟨c1,c2⟩:=Aiz hm;rw [A6 (by simp [hm])] at h ⊢
 have z:(ByteArray.mk #[]).size<=1024:=Nat.zero_le _;by_cases h56:k=5∨k=6
 ·rw [B4 h56] at h ⊢;by_cases hn:n>512
  ·rw [B4 hn] at h;exact absurd h (by simp)
  ·rw [A6 hn] at h ⊢;obtain ⟨p1,p2,p3,p4⟩:=JY ⟨k1,k8,n0,n1,z⟩ h;exact ⟨c1,p1,by omega,by omega,by omega,p4⟩
 ·rw [A6 h56] at h ⊢;by_cases h34:k=3∨k=4
  ·rw [B4 h34] at h ⊢;by_cases hn:n>1024
   ·rw [B4 hn] at h;exact absurd h (by simp)
   ·rw [A6 hn] at h ⊢;by_cases hr:b.length-a<n.toNat
    ·rw [B4 hr] at h;exact absurd h (by simp)
    ·rw [A6 hr] at h ⊢;obtain ⟨p1,p2,p3,p4⟩:=JY ⟨k1,k8,by simp,by simp,by rw [Fy,List.length_take];omega⟩ h
     exact ⟨c1,p1,by omega,by omega,by omega,p4⟩
  ·rw [A6 h34] at h ⊢;obtain ⟨p1,p2,p3,p4⟩:=JY ⟨k1,k8,n0,n1,z⟩ h;exact ⟨c1,p1,by omega,by omega,by omega,p4⟩
theorem Zs {b:List Int}(hb:Jy b):∀(m:Nat)(l:List Gt)(cnt:Int)(at_:Nat)(its:List It),at_<=b.length->(∀x∈its,OkX x)->(Jd m l cnt b at_ its).2.1<=b.length∧∀x∈(Jd m l cnt b at_ its).1,OkX x
 |0,l,cnt,at_,its,h,hi=>⟨by simp [Jd],by intro x hx;simp [Jd] at hx⟩
 |m+1,l,cnt,at_,its,h,hi=>by
  unfold Jd;by_cases hd:OX l cnt=true
  ·rw [B4 hd];exact ⟨h,hi⟩
  ·rw [A6 hd];by_cases he:(Fm l cnt b at_).e=0
   ·rw [A6 (by simp [he])]
    obtain ⟨_,_,_,_,p,q⟩:=OY hb h he;refine Zs hb m _ _ _ _ p ?_;intro x hx;rcases List.mem_append.1 hx with hx|hx
    ·exact hi x hx
    ·simp at hx;subst hx;exact q
   ·rw [B4 he];exact ⟨by simp,by intro x hx;simp at hx⟩
section
variable {fu d:Nat}
theorem TX (hfu:1000<=fu){a0n:Nat}{a0:List PV}{b:List Int}(hb:Jy b)(hl:b.length<=1000000):∀(nn:Nat)(l:List Gt)(cnt:Int)(at_:Nat)(its:List It),0<=cnt->cnt<=512->512-cnt<nn->l.length<=9->at_<=b.length->its.length=cnt.toNat ->
  Jf fu (Ae C0 Tryz.prog fu (d+4)) a0n a0 nn its.length (Cg its) l.length cnt b.length (Af .u8 b) (at_:Int) (En l)=some ⟨XV (Jd nn l cnt b at_ its),[]⟩
 |0,_,_,_,_,_,_,h,_,_,_=>by omega
 |nn+1,l,cnt,at_,its,h0,h1,hn,hf,ha,hi=>by
  have dn:=QQ (fu:=fu) (d:=d+3) l cnt;have ri:=Aga (fu:=fu) (d:=d) (l:=l) (cnt:=cnt) (b:=b) (at_:=at_) hfu hb hl ha (by omega) h0 (by omega)
  have ok:=OY (l:=l) (cnt:=cnt) hb ha;have L:=Cz l;have t:=Dc l;have LT:=Ru its;have tT:List.take (its.length*3) (Cg its)=Cg its:=R9 (by omega)
  have ih:=TX hfu (a0n:=a0n) (a0:=a0) hb hl nn;rw [BT];unfold Jd;unfold J5 at dn;change _=some (A0.mk [.sc (.bool (OX l cnt))] _) at dn;generalize Fm l cnt b at_=r at ri ok ⊢;obtain ⟨x,e,l2,cnt2,at2⟩:=r;simp only at ri ok ⊢;cases hd:OX l cnt
  ·rw [hd] at dn;rw [A6 (by simp)]
   by_cases he:e=0
   ·subst he;obtain ⟨p1,rfl,p3,p4,p5,p6⟩:=ok rfl;have q:=ih l2 (cnt+1) at2 (its++[x]) (by omega) (by omega) (by omega) p3 p5 (by simp;omega)
    rw [A6 (by simp),←q,SV,Jz]
    have e1:Cg [x]=x.cells:=by simp [Cg]
    rw [e1];obtain ⟨xk,xn,xs⟩:=x;unfold It.cells at ri ⊢;have e00:((0:Int) != 0)=false:=rfl
    try unfold Aa
    repeat first
     |((with_reducible first|apply Aw|apply Al|apply Ay|apply Ar|apply A7|apply Bg|apply Cc|apply Bx|apply Am);· first|with_reducible rfl|(simp (disch:=omega) only [dn,ri,e00,L,t,LT,tT]<;>with_reducible rfl))
     |((with_reducible first|apply Ax|apply Au);· first|with_reducible rfl|omega|(simp (disch:=omega) only [gT,dn,ri,e00,L,t,LT,tT]<;>omega))
     |(with_reducible apply Av;· first|with_reducible rfl|(simp (disch:=omega) only [gF,dn,ri,e00,L,t,LT,tT]<;>omega))
    try simp (disch:=omega) only [dn,ri,e00,L,t,LT,tT]
    all_goals rfl
   ·have he':(e != 0)=true:=by simp [he]
    rw [B4 he];obtain ⟨xk,xn,xs⟩:=x;unfold It.cells at ri
    try unfold Aa
    repeat first
     |((with_reducible first|apply Aw|apply Al|apply Ay|apply Ar|apply A7|apply Bg|apply Cc|apply Bx|apply Am);· first|with_reducible rfl|(simp (disch:=omega) only [dn,ri,he',L,t,LT,tT]<;>with_reducible rfl))
     |((with_reducible first|apply Ax|apply Au);· first|with_reducible rfl|omega|(simp (disch:=omega) only [gT,dn,ri,he',L,t,LT,tT]<;>omega))
     |(with_reducible apply Av;· first|with_reducible rfl|(simp (disch:=omega) only [gF,dn,ri,he',L,t,LT,tT]<;>omega))
    try simp (disch:=omega) only [dn,ri,he',L,t,LT,tT]
    all_goals rfl
  ·rw [hd] at dn;rw [B4 rfl]
   try unfold Aa
   repeat first
    |((with_reducible first|apply Aw|apply Al|apply Ay|apply Ar|apply A7|apply Bg|apply Cc|apply Bx|apply Am);· first|with_reducible rfl|(simp (disch:=omega) only [dn,L,t,LT,tT]<;>with_reducible rfl))
    |((with_reducible first|apply Ax|apply Au);· first|with_reducible rfl|omega|(simp (disch:=omega) only [gT,dn,L,t,LT,tT]<;>omega))
    |(with_reducible apply Av;· first|with_reducible rfl|(simp (disch:=omega) only [gF,dn,L,t,LT,tT]<;>omega))
   try simp (disch:=omega) only [dn,L,t,LT,tT]
   all_goals rfl
theorem Ado (hfu:1000<=fu){b:List Int}(hb:Jy b)(hl:b.length<=1000000):
  Ae C0 Tryz.prog fu (d+5) W7 [.lst false 1 b.length (Af .u8 b)]=some ⟨XV (Jd fu [] 0 b 0 []),[]⟩:=by
 rw [MJ];exact TX hfu hb hl fu [] 0 0 [] (by omega) (by omega) (by omega) (by simp) (by omega) (by simp)
end
end
section
open Go.IntKind (wrap)
theorem Ajh {n:Int}(h0:0<=n):(n<256->IU (tb n 1)=n)∧(n<65536->IU (tb n 2)=n)∧(n<4294967296->IU (tb n 4)=n)∧(n<=18446744073709551615->IU (tb n 8)=n):=by
 have st:∀(k:Nat) (D:Int),n<=18446744073709551615->k<8->(2:Int) ^ (56-8*k)=D->0<D->Fb (n / D / 256) (C7 n k)=n / D:=by
  intro k D h1 hk hD hp;rw [OZ k hk,hD];exact Alo (Int.ediv_nonneg h0 (Int.le_of_lt hp)) (Int.le_trans (Int.ediv_le_self _ h0) h1)
 refine ⟨fun h=>?_,fun h=>?_,fun h=>?_,fun h=>NU h0 h⟩
 ·have s7:=st 7 1 (by omega) (by omega) (by decide) (by omega)
  rw [show n / 1 / 256=0 by omega,show n / 1=n by omega] at s7
  exact s7
 ·have s6:=st 6 256 (by omega) (by omega) (by decide) (by omega)
  have s7:=st 7 1 (by omega) (by omega) (by decide) (by omega)
  rw [show n / 256 / 256=0 by omega] at s6
  rw [show n / 1 / 256=n / 256 by omega,show n / 1=n by omega] at s7
  show Fb (Fb 0 (C7 n 6)) (C7 n 7)=n;rw [s6,s7]
 ·have s4:=st 4 16777216 (by omega) (by omega) (by decide) (by omega)
  have s5:=st 5 65536 (by omega) (by omega) (by decide) (by omega)
  have s6:=st 6 256 (by omega) (by omega) (by decide) (by omega)
  have s7:=st 7 1 (by omega) (by omega) (by decide) (by omega)
  rw [show n / 16777216 / 256=0 by omega] at s4
  rw [show n / 65536 / 256=n / 16777216 by omega] at s5
  rw [show n / 256 / 256=n / 65536 by omega] at s6
  rw [show n / 1 / 256=n / 256 by omega,show n / 1=n by omega] at s7
  show Fb (Fb (Fb (Fb 0 (C7 n 4)) (C7 n 5)) (C7 n 6)) (C7 n 7)=n;rw [s4,s5,s6,s7]
theorem V0 {b:List Int}{at_:Nat}{mj n low:Int}{k:Nat}{rest:List Int}(m0:0<=mj)(m5:mj<=5)(l0:24<=low)(l1:low<=27)(hk:szE low=k)(h:b.drop (at_+1)=tb n k++rest) (hd:IU (tb n k)=n) (hs:¬(Oz n<(k:Int))):
  Tj b at_ (32*mj+low)=⟨1+mj,n,0,at_+1+k⟩:=by
 have e1:(32*mj+low) / 32=mj:=by omega
 have e2:(32*mj+low) % 32=low:=by omega
 have e3:(b.drop (at_+1)).take k=tb n k:=by rw [h,List.take_left' (Xx n k)]
 have e4:k<=b.length-(at_+1):=by
  have:=congrArg List.length h;rw [List.length_drop,Jz,Xx] at this;omega
 unfold Tj;rw [e1,e2,hk,e3,hd,A6 (by omega),A6 (by omega),A6 (by omega),A6 (by omega),A6 (by omega),A6 (by omega),A6 (by omega),A6 hs]
theorem Xv {b:List Int}{at_:Nat}{mj n:Int}{rest:List Int}(h:b.drop at_=Cx mj n++rest)(m0:0<=mj)(m5:mj<=5)(n0:0<=n)(n1:n<=18446744073709551615):
  F4 b at_=⟨1+mj,n,0,at_+(Cx mj n).length⟩:=by
 obtain ⟨d1,d2,d4,d8⟩:=Ajh n0;unfold F4;unfold Cx at h ⊢;by_cases c1:n<24
 ·rw [B4 c1] at h ⊢;obtain ⟨_,g,_⟩:=Cs h;rw [g];show Tj b at_ (32*mj+n)=_;unfold Tj;have e1:(32*mj+n) / 32=mj:=by omega
  have e2:(32*mj+n) % 32=n:=by omega
  rw [e1,e2,A6 (by omega),A6 (by omega),A6 (by omega),A6 (by omega),A6 (by omega),B4 c1]
  rfl
 rw [A6 c1] at h ⊢;by_cases c2:n<256
 ·rw [B4 c2] at h ⊢;obtain ⟨_,g,g2⟩:=Cs h;rw [g];have:=V0 (at_:=at_) m0 m5 (low:=24) (by omega) (by omega) (k:=1) (by decide) g2 (d1 c2) (by unfold Oz;rw [A6 c1,B4 c2];omega)
  show Tj b at_ (32*mj+24)=_;rw [this,J2,Xx]
 rw [A6 c2] at h ⊢;by_cases c3:n<65536
 ·rw [B4 c3] at h ⊢;obtain ⟨_,g,g2⟩:=Cs h;rw [g];have:=V0 (at_:=at_) m0 m5 (low:=25) (by omega) (by omega) (k:=2) (by decide) g2 (d2 c3) (by unfold Oz;rw [A6 c1,A6 c2,B4 c3];omega)
  show Tj b at_ (32*mj+25)=_;rw [this,J2,Xx]
 rw [A6 c3] at h ⊢;by_cases c4:n<4294967296
 ·rw [B4 c4] at h ⊢;obtain ⟨_,g,g2⟩:=Cs h;rw [g];have:=V0 (at_:=at_) m0 m5 (low:=26) (by omega) (by omega) (k:=4) (by decide) g2 (d4 c4) (by unfold Oz;rw [A6 c1,A6 c2,A6 c3,B4 c4];omega)
  show Tj b at_ (32*mj+26)=_;rw [this,J2,Xx]
 ·rw [A6 c4] at h ⊢;obtain ⟨_,g,g2⟩:=Cs h;rw [g];have:=V0 (at_:=at_) m0 m5 (low:=27) (by omega) (by omega) (k:=8) (by decide) g2 (d8 n1) (by unfold Oz;rw [A6 c1,A6 c2,A6 c3,A6 c4];omega)
  show Tj b at_ (32*mj+27)=_;rw [this,J2,Xx]
theorem QE {s:ByteArray}(h:SI s=true):s=⟨#[]⟩:=by
 unfold SI at h;have:=eq_of_beq h;apply ByteArray.ext;exact Array.toList_inj.1 this
def nOf (x:It):Int:=if x.k=3∨x.k=4 then (x.s.size:Int) else x.n
theorem XE {x:It}{b:List Int}{at_:Nat}{rest:List Int}(hsh:Ga x=true)(k1:1<=x.k)(k8:x.k<=8)(n0:0<=x.n)(n1:x.n<=18446744073709551615)(hs:x.s.size<=1024)(h:b.drop at_=Bp x++rest):
  F4 b at_=⟨x.k,nOf x,0,at_+((Bp x).length-x.s.size)⟩∧(x.k=3∨x.k=4->x.n=0∧b.drop (at_+((Bp x).length-x.s.size))=Id x.s++rest)∧(¬(x.k=3∨x.k=4)->x.s=⟨#[]⟩)∧x.s.size<=(Bp x).length:=by
 obtain ⟨k,n,s⟩:=x;have z:(ByteArray.mk #[]).size=0:=rfl;simp only at k1 k8 n0 n1 hs ⊢;unfold Ga at hsh;simp only at hsh;have L:=Oh s;have E7:k=7->Bp ⟨k,n,s⟩=[wrap .u8 (244+wrap .u8 n)]:=fun e=>by unfold Bp;rw [B4 e]
 have E8:k=8->Bp ⟨k,n,s⟩=[246]:=fun e=>by subst e;rfl
 have E3:k=3->Bp ⟨k,n,s⟩=Cx 2 s.size++Id s:=fun e=>by subst e;rfl
 have E4:k=4->Bp ⟨k,n,s⟩=Cx 3 s.size++Id s:=fun e=>by subst e;rfl
 have E0:k≠7->k≠8->k≠3->k≠4->Bp ⟨k,n,s⟩=Cx (k-1) n:=fun a b c d=>by unfold Bp;rw [A6 a,A6 b,A6 c,A6 d]
 have N34:k=3∨k=4->nOf ⟨k,n,s⟩=s.size:=fun e=>by unfold nOf;rw [B4 e]
 have N0:¬(k=3∨k=4)->nOf ⟨k,n,s⟩=n:=fun e=>by unfold nOf;rw [A6 e]
 by_cases c7:k=7
 ·subst c7;simp at hsh;obtain ⟨hn,hs⟩:=hsh;obtain rfl:=QE hs;rw [E7 rfl] at h ⊢;rw [N0 (by omega)]
  obtain ⟨_,g,_⟩:=Cs h;refine ⟨?_,fun h=>by omega,fun _=>rfl,Nat.zero_le _⟩
  have:n=0∨n=1:=by omega
  unfold F4;rw [g];rcases this with rfl|rfl
  ·rfl
  ·rfl
 by_cases c8:k=8
 ·subst c8;simp at hsh;obtain ⟨rfl,hs⟩:=hsh;obtain rfl:=QE hs;rw [E8 rfl] at h ⊢;rw [N0 (by omega)]
  obtain ⟨_,g,_⟩:=Cs h;refine ⟨?_,fun h=>by omega,fun _=>rfl,Nat.zero_le _⟩
  unfold F4;rw [g];rfl
 by_cases c3:k=3
 ·subst c3;simp at hsh;subst hsh;rw [E3 rfl] at h ⊢;rw [N34 (by omega)]
  rw [WY] at h;have q:=Xv h (by omega) (by omega) (by omega) (by omega)
  have e:(Cx 2 (s.size:Int)++Id s).length-s.size=(Cx 2 (s.size:Int)).length:=by rw [Jz,L];omega
  rw [e];refine ⟨q,fun _=>⟨rfl,?_⟩,fun h=>by omega,by rw [Jz,L];omega⟩
  rw [←List.drop_drop,h,List.drop_left' rfl]
 by_cases c4:k=4
 ·subst c4;simp at hsh;subst hsh;rw [E4 rfl] at h ⊢;rw [N34 (by omega)]
  rw [WY] at h;have q:=Xv h (by omega) (by omega) (by omega) (by omega)
  have e:(Cx 3 (s.size:Int)++Id s).length-s.size=(Cx 3 (s.size:Int)).length:=by rw [Jz,L];omega
  rw [e];refine ⟨q,fun _=>⟨rfl,?_⟩,fun h=>by omega,by rw [Jz,L];omega⟩
  rw [←List.drop_drop,h,List.drop_left' rfl]
 rw [A6 c3,A6 c4,A6 c8,A6 c7] at hsh;obtain rfl:=QE hsh;rw [E0 c7 c8 c3 c4] at h ⊢;rw [N0 (by omega)]
 have q:=Xv h (by omega) (by omega) n0 n1
 refine ⟨?_,fun h=>by omega,fun _=>rfl,by rw [z];omega⟩
 rw [q,z,Nat.sub_zero]
 congr 1
 omega
theorem ZP {l:List Gt}{cnt:Int}{x:It}{b:List Int}{at_:Nat}{rest:List Int}(g:Al8 l cnt x)(n0:0<=x.n)(n1:x.n<=18446744073709551615)(h:b.drop at_=Bp x++rest):
  Fm l cnt b at_=⟨x,0,Fh l x,cnt+1,at_+(Bp x).length⟩:=by
 have k18:1<=x.k∧x.k<=8:=by
  have hm:=g.hm;unfold Iw at hm
  repeat' split at hm
  all_goals first
   |(cases hm;done)
   |omega
 obtain ⟨q1,q2,q3,q4⟩:=XE g.hsh k18.1 k18.2 n0 n1 g.hs h
 have ac:∀a:Nat,Ti l cnt x a=⟨x,0,Fh l x,cnt+1,a⟩:=by
  intro a
  have:Dx l x=(0,Fh l x):=by
   unfold Dx;rw [A6,A6 (by simp [g.ha])]
   intro hh;have:=g.hv hh.1;exact absurd hh.2 (by simp [TV,this])
  unfold Ti;rw [this];rfl
 have ln:b.length-(at_+((Bp x).length-x.s.size))>=x.s.size:=by
  have:=congrArg List.length h;rw [List.length_drop,Jz] at this;omega
 unfold Fm;rw [q1];unfold PZ;simp only;rw [A6 (by simp),g.hm,A6 (by simp)]
 have hs:=g.hs;have hn:=g.hn;obtain ⟨k,n,s⟩:=x;simp only at *
 by_cases c34:k=3∨k=4
 ·obtain ⟨rfl,q2⟩:=q2 c34;have N:nOf ⟨k,0,s⟩=s.size:=by unfold nOf;rw [B4 c34]
  rw [N,A6 (by omega),B4 c34,A6 (by omega),He,A6 (by omega),q2,List.take_left' (Oh s),Zd,ac]
  congr 1
  omega
 ·obtain rfl:=q3 c34;have z:(ByteArray.mk #[]).size=0:=rfl;have N:nOf ⟨k,n,⟨#[]⟩⟩=n:=by unfold nOf;rw [A6 c34]
  rw [N,A6 c34,z,Nat.sub_zero];by_cases c56:k=5∨k=6
  ·rw [B4 c56,A6 (by omega),ac]
  ·rw [A6 c56,ac]
theorem NI {b:List Int}{rest:List Int}:∀(its:List It)(l:List Gt)(cnt:Int)(at_ m:Nat)(acc:List It),Od l cnt its->(∀x∈its,0<=x.n∧x.n<=18446744073709551615)->b.drop at_=Bf its++rest->its.length<m ->
  Jd m l cnt b at_ acc=(acc++its,at_+(Bf its).length,0)
 |[],l,cnt,at_,m,acc,hg,hn,h,hm=>by
  obtain ⟨rfl,hc⟩:=hg;obtain ⟨m,rfl⟩:∃k,m=k+1:=⟨m-1,by omega⟩
  unfold Jd;rw [B4 (by simp [OX,hc])]
  simp [Bf]
 |x::its,l,cnt,at_,m,acc,hg,hn,h,hm=>by
  obtain ⟨g,hg⟩:=hg;obtain ⟨m,rfl⟩:∃k,m=k+1:=⟨m-1,by simp at hm;omega⟩
  have e:Bf (x::its)=Bp x++Bf its:=by simp [Bf]
  rw [e,WY] at h;have r:=ZP g (hn x (by simp)).1 (hn x (by simp)).2 h
  have h':b.drop (at_+(Bp x).length)=Bf its++rest:=by rw [←List.drop_drop,h,List.drop_left' rfl]
  have ih:=NI its (Fh l x) (cnt+1) (at_+(Bp x).length) m (acc++[x]) hg (fun y hy=>hn y (List.mem_cons_of_mem _ hy)) h' (by simp at hm;omega)
  unfold Jd;have hd:OX l cnt=false:=g.hd;rw [A6 (by simp [hd]),r]
  simp only;rw [A6 (by simp),ih,e]
  simp;omega
end
section
open Go.IntKind (wrap)
abbrev isU (x:Int):Prop:=0<=x∧x<=18446744073709551615
abbrev isW (l:List Int):Prop:=∀x∈l,isU x
theorem WU (l:List Int)(i:Nat):isU (Qq l i):=Ve _ 0 (by omega) (by omega)
theorem WG (l:List Int):isW (Fi l):=by
 intro x hx;obtain ⟨k,_,rfl⟩:=List.mem_map.1 hx;exact WU l k
theorem S4:∀{ws:List Int}{i:Nat}{w:Int},isW ws->ws[i]?=some w->Qq (A4 ws) i=w
 |[],i,w,_,h=>by simp at h
 |a::ws,0,w,hw,h=>by
  simp at h;subst h;have e:A4 (a::ws)=Dv a++A4 ws:=rfl;unfold Qq;rw [Nat.mul_zero,E6,e,List.take_left' (Er a)];have:=hw a (by simp)
  exact NU this.1 this.2
 |a::ws,i+1,w,hw,h=>by
  simp at h;have ih:=S4 (ws:=ws) (fun x hx=>hw x (List.mem_cons_of_mem _ hx)) h
  have e:A4 (a::ws)=Dv a++A4 ws:=rfl;unfold Qq at ih ⊢;rw [show 8*(i+1)=(Dv a).length+8*i by rw [Er];omega,e,←List.drop_drop,List.drop_left' rfl]
  exact ih
theorem Z8 {ws:List Int}(hw:isW ws):Fi (A4 ws)=ws:=by
 have hl:(A4 ws).length / 8=ws.length:=by rw [Df];omega
 apply List.ext_getElem?;intro i;unfold Fi;rw [hl];by_cases h:i<ws.length
 ·rw [List.getElem?_map,List.getElem?_range h,List.getElem?_eq_getElem h];simp only [Option.map_some];rw [S4 hw (List.getElem?_eq_getElem h)]
 ·rw [List.getElem?_eq_none (by simp;omega),List.getElem?_eq_none (by omega)]
theorem Aeg {k:Ky}(hh:De k.h=false)(hr:isU k.root):JA (Io k)=some k:=by
 obtain ⟨h,r⟩:=k;have hb:=H0 hh;simp only at hb hr hh;have w:wrap .u8 h=h:=Fn (by omega) (by omega)
 have w1:A4 [r]=Dv r:=by simp [A4]
 have:=S4 (ws:=[r]) (i:=0) (w:=r) (by intro x hx;simp at hx;subst hx;exact hr) rfl
 rw [w1] at this;unfold JA Io;simp only [w,List.getD_cons_zero,List.drop_succ_cons,E6,this,J2,Er,hh,and_self,if_true]
theorem Anq {k:Ky}:Jy (Io k):=by
 intro x hx;rcases List.mem_cons.1 hx with rfl|hx
 ·have:∀v:Int,0<=wrap .u8 v∧wrap .u8 v<=255:=by
   intro v;simp only [wrap,IntKind.signed,IntKind.bits];simp;omega
  exact this _
 ·exact Abx _ x hx
theorem RQ {l:List Int}{k:Ky}(h:JA l=some k):De k.h=false∧isU k.root:=by
 unfold JA at h;split at h
 ·rename_i hh;cases h;exact ⟨hh.2,WU _ _⟩
 ·cases h
structure Sg.ok (s:Sg):Prop where
 ch:isW s.chains
 pa:isW s.path
theorem Asc (s:Sg):Jy (DD s):=by
 have w8:∀v:Int,0<=wrap .u8 v∧wrap .u8 v<=255:=by
  intro v;simp only [wrap,IntKind.signed,IntKind.bits];simp;omega
 intro x hx;unfold DD at hx;rcases List.mem_cons.1 hx with rfl|hx
 ·exact w8 _
 rcases List.mem_cons.1 hx with rfl|hx
 ·exact w8 _
 rcases List.mem_append.1 hx with hx|hx
 ·exact Q6 _ x hx
 ·exact Q6 _ x hx
theorem Ak4 {s:Sg}(hs:s.ok)(h1:De s.path.length=false)(h2:J6 s.leaf s.path.length=false)(h3:s.chains.length=18):sgD (DD s)=some s:=by
 obtain ⟨leaf,ch,pa⟩:=s;obtain ⟨hc,hp⟩:=hs;simp only at h1 h2 h3 hc hp;have hb:=H0 h1;have ho:=YQ hb.1 hb.2 h2;have h16:=Ara hb.1 hb.2;have w1:wrap .u8 leaf=leaf:=Fn (by omega) (by omega)
 have w2:wrap .u8 (pa.length:Int)=pa.length:=Fn (by omega) (by omega)
 have lc:(A4 ch).length=144:=by rw [Df];omega
 have lp:(A4 pa).length=8*pa.length:=Df pa
 have len:(DD ⟨leaf,ch,pa⟩).length=2+144+8*pa.length:=by
  unfold DD;simp only [J2,Jz,lc,lp];omega
 have g0:(DD ⟨leaf,ch,pa⟩).getD 0 0=leaf:=w1;have g1:(DD ⟨leaf,ch,pa⟩).getD 1 0=pa.length:=w2;have d2:(DD ⟨leaf,ch,pa⟩).drop 2=A4 ch++A4 pa:=rfl
 have d146:(DD ⟨leaf,ch,pa⟩).drop 146=A4 pa:=by
  rw [show 146=2+144 from rfl,←List.drop_drop,d2,List.drop_left' lc]
 unfold sgD;rw [B4 ⟨by omega,by rw [g1];exact h1,by rw [g0,g1];exact h2,by rw [g1,len];omega⟩,g0,d2,d146,List.take_left' lc,Z8 hc,Z8 hp]
theorem Aad {l:List Int}{s:Sg}(h:sgD l=some s):s.ok∧s.path.length<=4∧s.chains.length=18:=by
 unfold sgD at h;split at h
 ·rename_i hh;cases h;have hb:=H0 hh.2.1;refine ⟨⟨WG _,WG _⟩,?_,?_⟩
  ·simp only [Oi,List.length_drop];omega
  ·simp only [Oi,List.length_take,List.length_drop];omega
 ·cases h
end
section
open Go.IntKind (wrap)
set_option maxRecDepth 100000
abbrev Ox:FuncId:=35
noncomputable def E2 (fu:Nat)(call:Ai)(a0_0 a0_1:ByteArray)(a0_2 a0_3:Int)(a0_4 a0_5 a0_6:Int)(a0_7:Bool)(a0_8 a0_9 a0_10:Int)(a0_11n:Nat)(a0_11:List PV)(a0_12n:Nat)(a0_12:List PV)(nn:Nat)(y0 y1:ByteArray)(y2:Int)(y3 y4:ByteArray)(y5 y6:Int)(y7 y8 y9:Int)(y10:Bool)(Jj Nv Tm:Int)(Yz:Nat)(Yv:List PV)(Y0:Nat)(Yw:List PV):Option A0:=C5 CB Tryz.prog fu call 35 Tryz.f35 (Bw Tryz.f35) [.agg [.sc (.string a0_0),.sc (.string a0_1),.sc (.int .u64 a0_2),.sc (.int .i64 a0_3),.sc (.int .u64 a0_4),.sc (.int .i64 a0_5),.sc (.int .i64 a0_6),.sc (.bool a0_7),.sc (.int .i64 a0_8),.sc (.int .u64 a0_9),.sc (.int .i64 a0_10),.lst false 1 a0_11n a0_11,.lst false 1 a0_12n a0_12]] [.r,.l,.r,.l] nn ⟨lk [(1,(.ptr 1 0)),(13,(.agg [(.sc (.string y0)),(.sc (.string y1))])),(14,(.sc (.int .i64 y2)))],B5 [(1,(.st [(.sc (.string y3)),(.sc (.string y4)),(.sc (.int .u64 y5)),(.sc (.int .i64 y6)),(.sc (.int .u64 y7)),(.sc (.int .i64 y8)),(.sc (.int .i64 y9)),(.sc (.bool y10)),(.sc (.int .i64 Jj)),(.sc (.int .u64 Nv)),(.sc (.int .i64 Tm)),(.lst false 1 Yz Yv),(.lst false 1 Y0 Yw)]))]⟩
theorem Ec (fu:Nat)(call:Ai)(a0_0 a0_1:ByteArray)(a0_2 a0_3:Int)(a0_4 a0_5 a0_6:Int)(a0_7:Bool)(a0_8 a0_9 a0_10:Int)(a0_11n:Nat)(a0_11:List PV)(a0_12n:Nat)(a0_12:List PV)(nn:Nat)(y0 y1:ByteArray)(y2:Int)(y3 y4:ByteArray)(y5 y6:Int)(y7 y8 y9:Int)(y10:Bool)(Jj Nv Tm:Int)(Yz:Nat)(Yv:List PV)(Y0:Nat)(Yw:List PV):E2 fu call a0_0 a0_1 a0_2 a0_3 a0_4 a0_5 a0_6 a0_7 a0_8 a0_9 a0_10 a0_11n a0_11 a0_12n a0_12 (nn+1) y0 y1 y2 y3 y4 y5 y6 y7 y8 y9 y10 Jj Nv Tm Yz Yv Y0 Yw=(Bc (decide (y2<2)) (Ap (decide (0<=y2)&&decide (y2<2)&&true)<|Co (List.getD [.sc (.string y0),.sc (.string y1)] (Int.toNat y2*1) .top) fun x1=>Bc (decide ((↑(ByteArray.size x1):Int)<1)) (some (A0.mk [.own 1 0 [],.sc (.int .i64 9)] [])) (Bc (decide ((↑(ByteArray.size x1):Int)>32)) (some (A0.mk [.own 1 0 [],.sc (.int .i64 9)] [])) (Aa (wrap .i64 (y2+1)) fun x2=>E2 fu call a0_0 a0_1 a0_2 a0_3 a0_4 a0_5 a0_6 a0_7 a0_8 a0_9 a0_10 a0_11n a0_11 a0_12n a0_12 (nn) (y0) (y1) x2 (y3) (y4) (y5) (y6) (y7) (y8) (y9) (y10) (Jj) (Nv) (Tm) (Yz) (Yv) (Y0) (Yw)))) (Ag (call 56 [.sc (.string y3)]) fun x3 x4=>Ac x4<|Ab x3 fun x5 x6=>Bl x5 fun x7=>Ac x6<|Bc (!x7) (some (A0.mk [.own 1 0 [],.sc (.int .i64 6)] [])) (Ag (call 56 [.sc (.string y4)]) fun x8 x9=>Ac x9<|Ab x8 fun Cm C3=>Bl Cm fun Dt=>Ac C3<|Bc (!Dt) (some (A0.mk [.own 1 0 [],.sc (.int .i64 6)] [])) (Ag (call 66 [.agg [.sc (.int .i64 y6),.sc (.int .u64 y7)]]) fun D0 Dq=>Ac Dq<|Ab D0 fun Ed Ek=>El 1 Ed fun Ez Fo=>Ab Ek fun Fg Ex=>Ad .i64 Fg fun H6=>Ac Ex<|Bc (H6 != 0) (some (A0.mk [.own 1 0 [],.sc (.int .i64 H6)] [])) (Bc (decide (y8<0)) (some (A0.mk [.own 1 0 [],.sc (.int .i64 9)] [])) (Bc (decide (y8>y9)) (some (A0.mk [.own 1 0 [],.sc (.int .i64 9)] [])) (Bc (decide (y9>1099511627776)) (some (A0.mk [.own 1 0 [],.sc (.int .i64 9)] [])) (Bc (decide (Jj<0)) (some (A0.mk [.own 1 0 [],.sc (.int .i64 9)] [])) (Bc (decide (Jj>2)) (some (A0.mk [.own 1 0 [],.sc (.int .i64 9)] [])) (Bc (Jj != 0) (Bc (!y10) (some (A0.mk [.own 1 0 [],.sc (.int .i64 4)] [])) (Ag (call 68 [.sc (.string y3)]) fun Gz Hx=>Ac Hx<|Ab Gz fun D1 Dm=>El 3 D1 fun F6 H9=>Ac Dm<|Ag (call 68 [.sc (.string y4)]) fun Ey Jw=>Ac Jw<|Ab Ey fun Mq J1=>El 3 Mq fun Mm Ml=>Ac J1<|Ag (call 69 [.sc (.int .u64 y5)]) fun Ny Pu=>Ac Pu<|Ab Ny fun Qp Sd=>El 3 Qp fun G2 J0=>Ac Sd<|Ap (decide (0+Ez*1<=Fo.length))<|Ag (call 70 [.lst false 1 Ez (List.take (Ez*1) (List.drop 0 Fo))]) fun Ur Yu=>Ac Yu<|Ab Ur fun Oo Uh=>El 3 Oo fun Tq Sr=>Ac Uh<|Aa (wrap .u64 y8) fun Tp=>Ag (call 69 [.sc (.int .u64 Tp)]) fun Xh X6=>Ac X6<|Ab Xh fun Ss Wm=>El 3 Ss fun Wy Xd=>Ac Wm<|Aa (wrap .u64 y9) fun Pi=>Ag (call 69 [.sc (.int .u64 Pi)]) fun Yi BM=>Ac BM<|Ab Yi fun BL P2=>El 3 BL fun Ub Ym=>Ac P2<|Ag (call 71 [.sc (.bool y10)]) fun AF Y2=>Ac Y2<|Ab AF fun Zi CH=>El 3 Zi fun AO BK=>Ac CH<|Aa (wrap .u64 Jj) fun W0=>Ag (call 69 [.sc (.int .u64 W0)]) fun Xq EF=>Ac EF<|Ab Xq fun BQ BI=>El 3 BQ fun Y1 BN=>Ac BI<|Ag (call 69 [.sc (.int .u64 Nv)]) fun KF BJ=>Ac BJ<|Ab KF fun CU GQ=>El 3 CU fun BP ET=>Ac GQ<|Ap (decide (0+F6*3<=H9.length))<|Ap (decide (0+Mm*3<=Ml.length))<|Ap (decide (0+G2*3<=J0.length))<|Ap (decide (0+Tq*3<=Sr.length))<|Ap (decide (0+Wy*3<=Xd.length))<|Ap (decide (0+Ub*3<=Ym.length))<|Ap (decide (0+AO*3<=BK.length))<|Ap (decide (0+Y1*3<=BN.length))<|Ap (decide (0+BP*3<=ET.length))<|Ag (call 67 [.lst false 1 9 [.lst false 3 F6 (List.take (F6*3) (List.drop 0 H9)),.lst false 3 Mm (List.take (Mm*3) (List.drop 0 Ml)),.lst false 3 G2 (List.take (G2*3) (List.drop 0 J0)),.lst false 3 Tq (List.take (Tq*3) (List.drop 0 Sr)),.lst false 3 Wy (List.take (Wy*3) (List.drop 0 Xd)),.lst false 3 Ub (List.take (Ub*3) (List.drop 0 Ym)),.lst false 3 AO (List.take (AO*3) (List.drop 0 BK)),.lst false 3 Y1 (List.take (Y1*3) (List.drop 0 BN)),.lst false 3 BP (List.take (BP*3) (List.drop 0 ET))]]) fun IH JL=>Ac JL<|Ab IH fun TB SE=>El 3 TB fun QK OA=>Ab SE fun WJ SX=>Ad .i64 WJ fun SS=>Ac SX<|Bc (SS != 0) (some (A0.mk [.own 1 0 [],.sc (.int .i64 SS)] [])) (Ap (decide (0+QK*3<=OA.length))<|Ag (call 72 [.lst false 3 QK (List.take (QK*3) (List.drop 0 OA))]) fun SN GN=>Ac GN<|Ab SN fun PB RW=>El 1 PB fun UC UN=>Ab RW fun ZL ZZ=>Ad .i64 ZL fun YV=>Ac ZZ<|Ap (decide (UC*1<=UN.length))<|some (A0.mk [.own 1 UC (List.take (UC*1) UN),.sc (.int .i64 YV)] [])))) (Ag (call 68 [.sc (.string y3)]) fun WZ x98=>Ac x98<|Ab WZ fun x99 Y9=>El 3 x99 fun Xn H2=>Ac Y9<|Ag (call 68 [.sc (.string y4)]) fun D2 DK=>Ac DK<|Ab D2 fun Tv Ts=>El 3 Tv fun Ln DN=>Ac Ts<|Ag (call 69 [.sc (.int .u64 y5)]) fun DW DR=>Ac DR<|Ab DW fun CG Iy=>El 3 CG fun Lf BZ=>Ac Iy<|Ap (decide (0+Ez*1<=Fo.length))<|Ag (call 70 [.lst false 1 Ez (List.take (Ez*1) (List.drop 0 Fo))]) fun BV DV=>Ac DV<|Ab BV fun JD Vm=>El 3 JD fun Xp Z1=>Ac Vm<|Aa (wrap .u64 y8) fun Zf=>Ag (call 69 [.sc (.int .u64 Zf)]) fun CY GK=>Ac GK<|Ab CY fun Tu Ta=>El 3 Tu fun Rn Vu=>Ac Ta<|Aa (wrap .u64 y9) fun Tx=>Ag (call 69 [.sc (.int .u64 Tx)]) fun BG Yo=>Ac Yo<|Ab BG fun JB DU=>El 3 JB fun Ye GA=>Ac DU<|Ag (call 71 [.sc (.bool y10)]) fun IW HS=>Ac HS<|Ab IW fun LV IC=>El 3 LV fun DO GJ=>Ac IC<|Aa (wrap .u64 Jj) fun HJ=>Ag (call 69 [.sc (.int .u64 HJ)]) fun JN JX=>Ac JX<|Ab JN fun DC FX=>El 3 DC fun GL FZ=>Ac FX<|Ag (call 69 [.sc (.int .u64 Nv)]) fun HM QY=>Ac QY<|Ab HM fun TA SH=>El 3 TA fun DH MP=>Ac SH<|Ap (decide (0+Xn*3<=H2.length))<|Ap (decide (0+Ln*3<=DN.length))<|Ap (decide (0+Lf*3<=BZ.length))<|Ap (decide (0+Xp*3<=Z1.length))<|Ap (decide (0+Rn*3<=Vu.length))<|Ap (decide (0+Ye*3<=GA.length))<|Ap (decide (0+DO*3<=GJ.length))<|Ap (decide (0+GL*3<=FZ.length))<|Ap (decide (0+DH*3<=MP.length))<|Ag (call 67 [.lst false 1 9 [.lst false 3 Xn (List.take (Xn*3) (List.drop 0 H2)),.lst false 3 Ln (List.take (Ln*3) (List.drop 0 DN)),.lst false 3 Lf (List.take (Lf*3) (List.drop 0 BZ)),.lst false 3 Xp (List.take (Xp*3) (List.drop 0 Z1)),.lst false 3 Rn (List.take (Rn*3) (List.drop 0 Vu)),.lst false 3 Ye (List.take (Ye*3) (List.drop 0 GA)),.lst false 3 DO (List.take (DO*3) (List.drop 0 GJ)),.lst false 3 GL (List.take (GL*3) (List.drop 0 FZ)),.lst false 3 DH (List.take (DH*3) (List.drop 0 MP))]]) fun RB ZE=>Ac ZE<|Ab RB fun ZC VO=>El 3 ZC fun RU VE=>Ab VO fun YJ ZI=>Ad .i64 YJ fun TF=>Ac ZI<|Bc (TF != 0) (some (A0.mk [.own 1 0 [],.sc (.int .i64 TF)] [])) (Ap (decide (0+RU*3<=VE.length))<|Ag (call 72 [.lst false 3 RU (List.take (RU*3) (List.drop 0 VE))]) fun ZM QJ=>Ac QJ<|Ab ZM fun XR ZO=>El 1 XR fun QC VK=>Ab ZO fun Aan ZD=>Ad .i64 Aan fun Aah=>Ac ZD<|Ap (decide (QC*1<=VK.length))<|some (A0.mk [.own 1 QC (List.take (QC*1) VK),.sc (.int .i64 Aah)] []))))))))))))):=by kernel_rfl
theorem X1 (fu d:Nat)(a0_0 a0_1:ByteArray)(a0_2 a0_3:Int)(a0_4 a0_5 a0_6:Int)(a0_7:Bool)(a0_8 a0_9 a0_10:Int)(a0_11n:Nat)(a0_11:List PV)(a0_12n:Nat)(a0_12:List PV):Ae C0 Tryz.prog fu (d+1) Ox [.agg [.sc (.string a0_0),.sc (.string a0_1),.sc (.int .u64 a0_2),.sc (.int .i64 a0_3),.sc (.int .u64 a0_4),.sc (.int .i64 a0_5),.sc (.int .i64 a0_6),.sc (.bool a0_7),.sc (.int .i64 a0_8),.sc (.int .u64 a0_9),.sc (.int .i64 a0_10),.lst false 1 a0_11n a0_11,.lst false 1 a0_12n a0_12]]=(fun (call:Ai)=>E2 fu call a0_0 a0_1 a0_2 a0_3 a0_4 a0_5 a0_6 a0_7 a0_8 a0_9 a0_10 a0_11n a0_11 a0_12n a0_12 (fu) (a0_0) (a0_1) 0 (a0_0) (a0_1) (a0_2) (a0_3) (a0_4) (a0_5) (a0_6) (a0_7) (a0_8) (a0_9) (a0_10) (a0_11n) (a0_11) (a0_12n) (a0_12)) (Ae C0 Tryz.prog fu d):=by kernel_rfl
abbrev Ph:FuncId:=36
theorem Yr (fu d:Nat)(a0_0 a0_1:ByteArray)(a0_2 a0_3:Int)(a0_4 a0_5 a0_6:Int)(a0_7:Bool)(a0_8 a0_9 a0_10:Int)(a0_11n:Nat)(a0_11:List PV)(a0_12n:Nat)(a0_12:List PV):Ae C0 Tryz.prog fu (d+1) Ph [.agg [.sc (.string a0_0),.sc (.string a0_1),.sc (.int .u64 a0_2),.sc (.int .i64 a0_3),.sc (.int .u64 a0_4),.sc (.int .i64 a0_5),.sc (.int .i64 a0_6),.sc (.bool a0_7),.sc (.int .i64 a0_8),.sc (.int .u64 a0_9),.sc (.int .i64 a0_10),.lst false 1 a0_11n a0_11,.lst false 1 a0_12n a0_12]]=(fun (call:Ai)=>Ag (call 35 [.agg [.sc (.string a0_0),.sc (.string a0_1),.sc (.int .u64 a0_2),.sc (.int .i64 a0_3),.sc (.int .u64 a0_4),.sc (.int .i64 a0_5),.sc (.int .i64 a0_6),.sc (.bool a0_7),.sc (.int .i64 a0_8),.sc (.int .u64 a0_9),.sc (.int .i64 a0_10),.lst false 1 a0_11n a0_11,.lst false 1 a0_12n a0_12]]) fun x1 x2=>Ac x2<|Ab x1 fun x3 x4=>El 1 x3 fun x5 x6=>Ab x4 fun x7 x8=>Ad .i64 x7 fun x9=>Ac x8<|Bc (x9 != 0) (some (A0.mk [.sc (.int .u64 0),.sc (.int .i64 x9)] [])) (Ap (decide (0+x5*1<=x6.length))<|Ag (call 73 [.sc (.int .i64 14),.lst false 1 x5 (List.take (x5*1) (List.drop 0 x6))]) fun Cm C3=>Ac C3<|Ab Cm fun Dt D0=>Ad .u64 Dt fun Dq=>Ac D0<|some (A0.mk [.sc (.int .u64 Dq),.sc (.int .i64 0)] []))) (Ae C0 Tryz.prog fu d):=by kernel_rfl
abbrev Mj:FuncId:=20
theorem Uw (fu d:Nat)(a0_0 a0_1:ByteArray)(a0_2 a0_3:Int)(a0_4 a0_5 a0_6:Int)(a0_7:Bool)(a0_8 a0_9 a0_10:Int)(a0_11n:Nat)(a0_11:List PV)(a0_12n:Nat)(a0_12:List PV)(a1_0 a1_1:Int):Ae C0 Tryz.prog fu (d+1) Mj [.agg [.sc (.string a0_0),.sc (.string a0_1),.sc (.int .u64 a0_2),.sc (.int .i64 a0_3),.sc (.int .u64 a0_4),.sc (.int .i64 a0_5),.sc (.int .i64 a0_6),.sc (.bool a0_7),.sc (.int .i64 a0_8),.sc (.int .u64 a0_9),.sc (.int .i64 a0_10),.lst false 1 a0_11n a0_11,.lst false 1 a0_12n a0_12],.agg [.sc (.int .i64 a1_0),.sc (.int .u64 a1_1)]]=(fun (call:Ai)=>Ag (call 36 [.agg [.sc (.string a0_0),.sc (.string a0_1),.sc (.int .u64 a0_2),.sc (.int .i64 a0_3),.sc (.int .u64 a0_4),.sc (.int .i64 a0_5),.sc (.int .i64 a0_6),.sc (.bool a0_7),.sc (.int .i64 a0_8),.sc (.int .u64 a0_9),.sc (.int .i64 a0_10),.lst false 1 a0_11n a0_11,.lst false 1 a0_12n a0_12]]) fun x1 x2=>Ac x2<|Ab x1 fun x3 x4=>Ad .u64 x3 fun x5=>Ab x4 fun x6 x7=>Ad .i64 x6 fun x8=>Ac x7<|Bc (x8 != 0) (some (A0.mk [.sc (.int .i64 x8)] [])) (Ag (call 41 [.agg [.sc (.int .i64 a1_0),.sc (.int .u64 a1_1)],.sc (.int .u64 x5),.agg [.sc (.int .i64 a0_10),.lst false 1 a0_11n a0_11,.lst false 1 a0_12n a0_12]]) fun x9 Cm=>Ac Cm<|Ab x9 fun C3 Dt=>Ad .i64 C3 fun D0=>Ac Dt<|some (A0.mk [.sc (.int .i64 D0)] []))) (Ae C0 Tryz.prog fu d):=by kernel_rfl
abbrev Lx:FuncId:=30
theorem Un (fu d:Nat)(a0_0 a0_1:ByteArray)(a0_2 a0_3:Int)(a0_4 a0_5 a0_6:Int)(a0_7:Bool)(a0_8 a0_9 a0_10:Int)(a0_11n:Nat)(a0_11:List PV)(a0_12n:Nat)(a0_12:List PV):Ae C0 Tryz.prog fu (d+1) Lx [.agg [.sc (.string a0_0),.sc (.string a0_1),.sc (.int .u64 a0_2),.sc (.int .i64 a0_3),.sc (.int .u64 a0_4),.sc (.int .i64 a0_5),.sc (.int .i64 a0_6),.sc (.bool a0_7),.sc (.int .i64 a0_8),.sc (.int .u64 a0_9),.sc (.int .i64 a0_10),.lst false 1 a0_11n a0_11,.lst false 1 a0_12n a0_12]]=(fun (call:Ai)=>Ag (call 35 [.agg [.sc (.string a0_0),.sc (.string a0_1),.sc (.int .u64 a0_2),.sc (.int .i64 a0_3),.sc (.int .u64 a0_4),.sc (.int .i64 a0_5),.sc (.int .i64 a0_6),.sc (.bool a0_7),.sc (.int .i64 a0_8),.sc (.int .u64 a0_9),.sc (.int .i64 a0_10),.lst false 1 a0_11n a0_11,.lst false 1 a0_12n a0_12]]) fun x1 x2=>Ac x2<|Ab x1 fun x3 x4=>El 1 x3 fun x5 x6=>Ab x4 fun x7 x8=>Ad .i64 x7 fun x9=>Ac x8<|Bc (x9 != 0) (some (A0.mk [.own 1 0 [],.sc (.int .i64 x9)] [])) (Ag (call 50 [.agg [.sc (.int .i64 a0_10),.lst false 1 a0_11n a0_11,.lst false 1 a0_12n a0_12]]) fun Cm C3=>Ac C3<|Ab Cm fun Dt D0=>El 1 Dt fun Dq Ed=>Ab D0 fun Ek Ez=>Ad .i64 Ek fun Fo=>Ac Ez<|Bc (Fo != 0) (some (A0.mk [.own 1 0 [],.sc (.int .i64 Fo)] [])) (Ap (decide (0+Dq*1<=Ed.length))<|Ap (decide (x5*1<=x6.length)&&decide (List.length (List.take (Dq*1) (List.drop 0 Ed))=Dq*1)&&decide ((x5+Dq)*1<=1099511627776)&&decide (x5+Dq<=1099511627776))<|Aa (x5+Dq) fun Fg=>Aa (List.take (x5*1) x6++List.take (Dq*1) (List.drop 0 Ed)) fun Ex=>Ap (decide (Fg*1<=Ex.length))<|some (A0.mk [.own 1 Fg (List.take (Fg*1) Ex),.sc (.int .i64 0)] [])))) (Ae C0 Tryz.prog fu d):=by kernel_rfl
abbrev Lo:FuncId:=52
noncomputable def Ha (fu:Nat)(call:Ai)(a0n:Nat)(a0:List PV)(nn y0:Nat)(y1:List PV):Option A0:=C5 CB Tryz.prog fu call 52 Tryz.f52 (Bw Tryz.f52) [.lst false 3 a0n a0] [] nn ⟨lk [(0,(.lst false 3 y0 y1))],B5 []⟩
noncomputable def Kk (fu:Nat)(call:Ai)(a0n:Nat)(a0:List PV)(nn y0:Nat)(y1 y2:List PV):Option A0:=C5 CB Tryz.prog fu call 52 Tryz.f52 (Bw Tryz.f52) [.lst false 3 a0n a0] [.r] nn ⟨lk [(0,(.lst false 3 y0 y1)),(3,(.ptr 3 0))],B5 [(3,(.ar false y2))]⟩
noncomputable def Fp (fu:Nat)(call:Ai)(a0n:Nat)(a0:List PV)(nn y0:Nat)(y1:List PV)(y2 y3:Int)(y4:List PV):Option A0:=C5 CB Tryz.prog fu call 52 Tryz.f52 (Bw Tryz.f52) [.lst false 3 a0n a0] [.r,.r,.r,.l,.r,.l] nn ⟨lk [(3,(.ptr 3 0)),(10,(.lst false 3 y0 y1)),(11,(.sc (.int .i64 y2))),(12,(.sc (.int .i64 y3)))],B5 [(3,(.ar false y4))]⟩
theorem Rx (fu:Nat)(call:Ai)(a0n:Nat)(a0:List PV)(nn:Nat)(hnn:0<nn)(y0:Nat)(y1:List PV):Ha fu call a0n a0 nn y0 y1=(Kk fu call a0n a0 (fu) (y0) (y1) ([.sc (.int .i64 5),.sc (.int .i64 4),.sc (.int .i64 4),.sc (.int .i64 1),.sc (.int .i64 3),.sc (.int .i64 1),.sc (.int .i64 1),.sc (.int .i64 7),.sc (.int .i64 1),.sc (.int .i64 1)])):=by cases nn with|zero=>exact absurd hnn (Nat.lt_irrefl 0)|succ nn=>kernel_rfl
theorem Ro (fu:Nat)(call:Ai)(a0n:Nat)(a0:List PV)(nn:Nat)(hnn:0<nn)(y0:Nat)(y1 y2:List PV):Kk fu call a0n a0 nn y0 y1 y2=(Bc ((↑y0:Int) != 10) (some (A0.mk [.sc (.bool false)] [])) (Fp fu call a0n a0 (fu) (y0) (y1) ((↑y0:Int)) 0 (y2))):=by cases nn with|zero=>exact absurd hnn (Nat.lt_irrefl 0)|succ nn=>kernel_rfl
theorem I3 (fu:Nat)(call:Ai)(a0n:Nat)(a0:List PV)(nn y0:Nat)(y1:List PV)(y2 y3:Int)(y4:List PV):Fp fu call a0n a0 (nn+1) y0 y1 y2 y3 y4=(Bc (decide (y3<y2)) (Ap (decide (0<=y3)&&decide (y3<(↑y0:Int)))<|Ad .i64 (List.getD y1 (Int.toNat y3*3) .top) fun x1=>Ad .u64 (List.getD y1 (Int.toNat y3*3+1) .top) fun x2=>Co (List.getD y1 (Int.toNat y3*3+1+1) .top) fun x3=>Ap (decide (0<=y3)&&decide (y3<10))<|Ad .i64 (List.getD y4 (0+Int.toNat y3*1) .top) fun x4=>Bc (x1 != x4) (some (A0.mk [.sc (.bool false)] [])) (Aa (wrap .i64 (y3+1)) fun x5=>Fp fu call a0n a0 (nn) (y0) (y1) (y2) x5 (y4))) (some (A0.mk [.sc (.bool true)] []))):=by kernel_rfl
theorem Vo (fu d a0n:Nat)(a0:List PV):Ae C0 Tryz.prog fu (d+1) Lo [.lst false 3 a0n a0]=(fun (call:Ai)=>Ha fu call a0n a0 (fu) (a0n) (a0)) (Ae C0 Tryz.prog fu d):=by kernel_rfl
abbrev Hu:FuncId:=31
theorem Vd (fu d a0n:Nat)(a0:List PV):Ae C0 Tryz.prog fu (d+1) Hu [.lst false 1 a0n a0]=(fun (call:Ai)=>Bc (decide ((↑a0n:Int)>512)) (some (A0.mk [.agg [.sc (.string (ByteArray.mk #[])),.sc (.string (ByteArray.mk #[])),.sc (.int .u64 0),.sc (.int .i64 0),.sc (.int .u64 0),.sc (.int .i64 0),.sc (.int .i64 0),.sc (.bool false),.sc (.int .i64 0),.sc (.int .u64 0),.sc (.int .i64 0),.lst false 1 0 [],.lst false 1 0 []],.sc (.int .i64 8)] [])) (Ag (call 51 [.lst false 1 a0n a0]) fun x1 x2=>Ac x2<|Ab x1 fun x3 x4=>El 3 x3 fun x5 x6=>Ab x4 fun x7 x8=>Ad .i64 x7 fun x9=>Ab x8 fun Cm C3=>Ad .i64 Cm fun Dt=>Ac C3<|Bc (Dt != 0) (some (A0.mk [.agg [.sc (.string (ByteArray.mk #[])),.sc (.string (ByteArray.mk #[])),.sc (.int .u64 0),.sc (.int .i64 0),.sc (.int .u64 0),.sc (.int .i64 0),.sc (.int .i64 0),.sc (.bool false),.sc (.int .i64 0),.sc (.int .u64 0),.sc (.int .i64 0),.lst false 1 0 [],.lst false 1 0 []],.sc (.int .i64 2)] [])) (Ap (decide (0+x5*3<=x6.length))<|Ag (call 52 [.lst false 3 x5 (List.take (x5*3) (List.drop 0 x6))]) fun D0 Dq=>Ac Dq<|Ab D0 fun Ed Ek=>Bl Ed fun Ez=>Ac Ek<|Bc (!Ez) (some (A0.mk [.agg [.sc (.string (ByteArray.mk #[])),.sc (.string (ByteArray.mk #[])),.sc (.int .u64 0),.sc (.int .i64 0),.sc (.int .u64 0),.sc (.int .i64 0),.sc (.int .i64 0),.sc (.bool false),.sc (.int .i64 0),.sc (.int .u64 0),.sc (.int .i64 0),.lst false 1 0 [],.lst false 1 0 []],.sc (.int .i64 2)] [])) (Ap (decide (4<(↑x5:Int)))<|Co (List.getD x6 14 .top) fun Fo=>Ap (decide (ByteArray.size Fo<=1099511627776))<|Ap (decide (0+ByteArray.size Fo*1<=List.length (Dl Fo)))<|Ag (call 53 [.lst false 1 (ByteArray.size Fo) (List.take (ByteArray.size Fo*1) (List.drop 0 (Dl Fo)))]) fun Fg Ex=>Ac Ex<|Ab Fg fun H6 Gz=>Cy H6 fun Hx=>Ab Hx fun D1 Dm=>Ad .i64 D1 fun F6=>Ab Dm fun H9 Ey=>Ad .u64 H9 fun Jw=>Ac Ey<|Ab Gz fun Mq J1=>Ad .i64 Mq fun Mm=>Ac J1<|Bc (Mm != 0) (some (A0.mk [.agg [.sc (.string (ByteArray.mk #[])),.sc (.string (ByteArray.mk #[])),.sc (.int .u64 0),.sc (.int .i64 0),.sc (.int .u64 0),.sc (.int .i64 0),.sc (.int .i64 0),.sc (.bool false),.sc (.int .i64 0),.sc (.int .u64 0),.sc (.int .i64 0),.lst false 1 0 [],.lst false 1 0 []],.sc (.int .i64 2)] [])) (Ap (decide (0<=x9))<|Ap (decide (Int.toNat x9<=a0n)&&decide (a0n<=a0n))<|Aa (a0n-Int.toNat x9) fun Ml=>Aa (List.take (Ml*1) (List.drop (Int.toNat x9*1) a0)) fun Ny=>Ag (call 54 [.lst false 1 Ml Ny]) fun Pu Qp=>Ac Qp<|Ab Pu fun Sd G2=>Cy Sd fun J0=>Ab J0 fun Ur Yu=>Ad .i64 Ur fun Oo=>Ab Yu fun Uh Tq=>El 1 Uh fun Sr Tp=>Ab Tq fun Xh X6=>El 1 Xh fun Ss Wm=>Ac X6<|Ab G2 fun Wy Xd=>Ad .i64 Wy fun Pi=>Ac Xd<|Bc (Pi != 0) (some (A0.mk [.agg [.sc (.string (ByteArray.mk #[])),.sc (.string (ByteArray.mk #[])),.sc (.int .u64 0),.sc (.int .i64 0),.sc (.int .u64 0),.sc (.int .i64 0),.sc (.int .i64 0),.sc (.bool false),.sc (.int .i64 0),.sc (.int .u64 0),.sc (.int .i64 0),.lst false 1 0 [],.lst false 1 0 []],.sc (.int .i64 2)] [])) (Ap (decide (1<(↑x5:Int)))<|Co (List.getD x6 5 .top) fun Yi=>Ap (decide (2<(↑x5:Int)))<|Co (List.getD x6 8 .top) fun BM=>Ap (decide (3<(↑x5:Int)))<|Ad .u64 (List.getD x6 10 .top) fun BL=>Ap (decide (5<(↑x5:Int)))<|Ad .u64 (List.getD x6 16 .top) fun P2=>Aa (wrap .i64 P2) fun Ub=>Ap (decide (6<(↑x5:Int)))<|Ad .u64 (List.getD x6 19 .top) fun Ym=>Aa (wrap .i64 Ym) fun AF=>Ap (decide (7<(↑x5:Int)))<|Ad .u64 (List.getD x6 22 .top) fun Y2=>Ap (decide (8<(↑x5:Int)))<|Ad .u64 (List.getD x6 25 .top) fun Zi=>Aa (wrap .i64 Zi) fun CH=>Ap (decide (9<(↑x5:Int)))<|Ad .u64 (List.getD x6 28 .top) fun AO=>Ap (decide (0+Sr*1<=Tp.length))<|Ap (decide (0+Ss*1<=Wm.length))<|Ag (call 30 [.agg [.sc (.string Yi),.sc (.string BM),.sc (.int .u64 BL),.sc (.int .i64 F6),.sc (.int .u64 Jw),.sc (.int .i64 Ub),.sc (.int .i64 AF),.sc (.bool (Y2==1)),.sc (.int .i64 CH),.sc (.int .u64 AO),.sc (.int .i64 Oo),.lst false 1 Sr (List.take (Sr*1) (List.drop 0 Tp)),.lst false 1 Ss (List.take (Ss*1) (List.drop 0 Wm))]]) fun BK W0=>Ac W0<|Ab BK fun Xq EF=>El 1 Xq fun BQ BI=>Ab EF fun Y1 BN=>Ad .i64 Y1 fun KF=>Ac BN<|Bc (KF != 0) (some (A0.mk [.agg [.sc (.string (ByteArray.mk #[])),.sc (.string (ByteArray.mk #[])),.sc (.int .u64 0),.sc (.int .i64 0),.sc (.int .u64 0),.sc (.int .i64 0),.sc (.int .i64 0),.sc (.bool false),.sc (.int .i64 0),.sc (.int .u64 0),.sc (.int .i64 0),.lst false 1 0 [],.lst false 1 0 []],.sc (.int .i64 2)] [])) (Ap (decide (0+BQ*1<=BI.length))<|Ag (call 55 [.lst false 1 BQ (List.take (BQ*1) (List.drop 0 BI)),.lst false 1 a0n a0]) fun BJ CU=>Ac CU<|Ab BJ fun GQ BP=>Bl GQ fun ET=>Ac BP<|Bc (!ET) (some (A0.mk [.agg [.sc (.string (ByteArray.mk #[])),.sc (.string (ByteArray.mk #[])),.sc (.int .u64 0),.sc (.int .i64 0),.sc (.int .u64 0),.sc (.int .i64 0),.sc (.int .i64 0),.sc (.bool false),.sc (.int .i64 0),.sc (.int .u64 0),.sc (.int .i64 0),.lst false 1 0 [],.lst false 1 0 []],.sc (.int .i64 2)] [])) (Ap (decide (0+Sr*1<=Tp.length))<|Ap (decide (0+Ss*1<=Wm.length))<|some (A0.mk [.agg [.sc (.string Yi),.sc (.string BM),.sc (.int .u64 BL),.sc (.int .i64 F6),.sc (.int .u64 Jw),.sc (.int .i64 Ub),.sc (.int .i64 AF),.sc (.bool (Y2==1)),.sc (.int .i64 CH),.sc (.int .u64 AO),.sc (.int .i64 Oo),.lst false 1 Sr (List.take (Sr*1) (List.drop 0 Tp)),.lst false 1 Ss (List.take (Ss*1) (List.drop 0 Wm))],.sc (.int .i64 0)] []))))))))) (Ae C0 Tryz.prog fu d):=by kernel_rfl
abbrev Jb:FuncId:=47
noncomputable def Ci (fu:Nat)(call:Ai)(a0_0 a0_1:ByteArray)(a0_2 a0_3:Int)(a0_4 a0_5 a0_6:Int)(a0_7:Bool)(a0_8 a0_9 a0_10:Int)(a0_11n:Nat)(a0_11:List PV)(a0_12n:Nat)(a0_12:List PV)(a1:Int)(a2n:Nat)(a2:List PV)(a3:Int)(nn:Nat)(y0:Int)(y1:Nat)(y2:List PV)(y3 y4:Int)(y5 y6:ByteArray)(y7 y8:Int)(y9 y10 Jj:Int)(Nv:Bool)(Tm Yz Yv:Int)(Y0:Nat)(Yw:List PV)(GG:Nat)(SQ:List PV):Option A0:=C5 CB Tryz.prog fu call 47 Tryz.f47 (Bw Tryz.f47) [.agg [.sc (.string a0_0),.sc (.string a0_1),.sc (.int .u64 a0_2),.sc (.int .i64 a0_3),.sc (.int .u64 a0_4),.sc (.int .i64 a0_5),.sc (.int .i64 a0_6),.sc (.bool a0_7),.sc (.int .i64 a0_8),.sc (.int .u64 a0_9),.sc (.int .i64 a0_10),.lst false 1 a0_11n a0_11,.lst false 1 a0_12n a0_12],.sc (.int .i64 a1),.lst false 3 a2n a2,.sc (.int .i64 a3)] [.r,.r,.r,.r,.l,.r,.l] nn ⟨lk [(3,(.sc (.int .i64 y0))),(4,(.ptr 4 0)),(45,(.lst false 3 y1 y2)),(46,(.sc (.int .i64 y3))),(47,(.sc (.int .i64 y4)))],B5 [(4,(.st [(.sc (.string y5)),(.sc (.string y6)),(.sc (.int .u64 y7)),(.sc (.int .i64 y8)),(.sc (.int .u64 y9)),(.sc (.int .i64 y10)),(.sc (.int .i64 Jj)),(.sc (.bool Nv)),(.sc (.int .i64 Tm)),(.sc (.int .u64 Yz)),(.sc (.int .i64 Yv)),(.lst false 1 Y0 Yw),(.lst false 1 GG SQ)]))]⟩
theorem Hp (fu:Nat)(call:Ai)(a0_0 a0_1:ByteArray)(a0_2 a0_3:Int)(a0_4 a0_5 a0_6:Int)(a0_7:Bool)(a0_8 a0_9 a0_10:Int)(a0_11n:Nat)(a0_11:List PV)(a0_12n:Nat)(a0_12:List PV)(a1:Int)(a2n:Nat)(a2:List PV)(a3:Int)(nn:Nat)(y0:Int)(y1:Nat)(y2:List PV)(y3 y4:Int)(y5 y6:ByteArray)(y7 y8:Int)(y9 y10 Jj:Int)(Nv:Bool)(Tm Yz Yv:Int)(Y0:Nat)(Yw:List PV)(GG:Nat)(SQ:List PV):Ci fu call a0_0 a0_1 a0_2 a0_3 a0_4 a0_5 a0_6 a0_7 a0_8 a0_9 a0_10 a0_11n a0_11 a0_12n a0_12 a1 a2n a2 a3 (nn+1) y0 y1 y2 y3 y4 y5 y6 y7 y8 y9 y10 Jj Nv Tm Yz Yv Y0 Yw GG SQ=(Bc (decide (y4<y3)) (Ap (decide (0<=y4)&&decide (y4<(↑y1:Int)))<|Co (List.getD y2 (Int.toNat y4*3) .top) fun C3=>Ad .u64 (List.getD y2 (Int.toNat y4*3+1) .top) fun Dt=>Ad .i64 (List.getD y2 (Int.toNat y4*3+1+1) .top) fun D0=>Bc (Array.toList (ByteArray.data C3)==Array.toList (ByteArray.data y6)) (Bc (Dt==y7) (Bc (decide (D0<=y0)) (some (A0.mk [.sc (.int .i64 39)] [])) (Aa (wrap .i64 (y4+1)) fun Dq=>Ci fu call a0_0 a0_1 a0_2 a0_3 a0_4 a0_5 a0_6 a0_7 a0_8 a0_9 a0_10 a0_11n a0_11 a0_12n a0_12 a1 a2n a2 a3 (nn) (y0) (y1) (y2) (y3) Dq (y5) (y6) (y7) (y8) (y9) (y10) (Jj) (Nv) (Tm) (Yz) (Yv) (Y0) (Yw) (GG) (SQ))) (Aa (wrap .i64 (y4+1)) fun Ed=>Ci fu call a0_0 a0_1 a0_2 a0_3 a0_4 a0_5 a0_6 a0_7 a0_8 a0_9 a0_10 a0_11n a0_11 a0_12n a0_12 a1 a2n a2 a3 (nn) (y0) (y1) (y2) (y3) Ed (y5) (y6) (y7) (y8) (y9) (y10) (Jj) (Nv) (Tm) (Yz) (Yv) (Y0) (Yw) (GG) (SQ))) (Aa (wrap .i64 (y4+1)) fun Ek=>Ci fu call a0_0 a0_1 a0_2 a0_3 a0_4 a0_5 a0_6 a0_7 a0_8 a0_9 a0_10 a0_11n a0_11 a0_12n a0_12 a1 a2n a2 a3 (nn) (y0) (y1) (y2) (y3) Ek (y5) (y6) (y7) (y8) (y9) (y10) (Jj) (Nv) (Tm) (Yz) (Yv) (Y0) (Yw) (GG) (SQ))) (some (A0.mk [.sc (.int .i64 0)] []))):=by kernel_rfl
theorem R6 (fu d:Nat)(a0_0 a0_1:ByteArray)(a0_2 a0_3:Int)(a0_4 a0_5 a0_6:Int)(a0_7:Bool)(a0_8 a0_9 a0_10:Int)(a0_11n:Nat)(a0_11:List PV)(a0_12n:Nat)(a0_12:List PV)(a1:Int)(a2n:Nat)(a2:List PV)(a3:Int):Ae C0 Tryz.prog fu (d+1) Jb [.agg [.sc (.string a0_0),.sc (.string a0_1),.sc (.int .u64 a0_2),.sc (.int .i64 a0_3),.sc (.int .u64 a0_4),.sc (.int .i64 a0_5),.sc (.int .i64 a0_6),.sc (.bool a0_7),.sc (.int .i64 a0_8),.sc (.int .u64 a0_9),.sc (.int .i64 a0_10),.lst false 1 a0_11n a0_11,.lst false 1 a0_12n a0_12],.sc (.int .i64 a1),.lst false 3 a2n a2,.sc (.int .i64 a3)]=(fun (call:Ai)=>Ag (call 35 [.agg [.sc (.string a0_0),.sc (.string a0_1),.sc (.int .u64 a0_2),.sc (.int .i64 a0_3),.sc (.int .u64 a0_4),.sc (.int .i64 a0_5),.sc (.int .i64 a0_6),.sc (.bool a0_7),.sc (.int .i64 a0_8),.sc (.int .u64 a0_9),.sc (.int .i64 a0_10),.lst false 1 a0_11n a0_11,.lst false 1 a0_12n a0_12]]) fun x1 x2=>Ac x2<|Ab x1 fun x3 x4=>El 1 x3 fun x5 x6=>Ab x4 fun x7 x8=>Ad .i64 x7 fun x9=>Ac x8<|Bc (x9 != 0) (some (A0.mk [.sc (.int .i64 x9)] [])) (Bc (decide (a3<a0_5)) (some (A0.mk [.sc (.int .i64 38)] [])) (Bc (decide (a3>a0_6)) (some (A0.mk [.sc (.int .i64 38)] [])) (Bc (decide (a1>0)) (Bc (!a0_7) (some (A0.mk [.sc (.int .i64 38)] [])) (Aa (wrap .i64 (a1-1)) fun Cm=>Bc (decide (a0_8<Cm)) (some (A0.mk [.sc (.int .i64 38)] [])) (Ci fu call a0_0 a0_1 a0_2 a0_3 a0_4 a0_5 a0_6 a0_7 a0_8 a0_9 a0_10 a0_11n a0_11 a0_12n a0_12 a1 a2n a2 a3 (fu) (a3) (a2n) (a2) ((↑a2n:Int)) 0 (a0_0) (a0_1) (a0_2) (a0_3) (a0_4) (a0_5) (a0_6) (a0_7) (a0_8) (a0_9) (a0_10) (a0_11n) (a0_11) (a0_12n) (a0_12)))) (Ci fu call a0_0 a0_1 a0_2 a0_3 a0_4 a0_5 a0_6 a0_7 a0_8 a0_9 a0_10 a0_11n a0_11 a0_12n a0_12 a1 a2n a2 a3 (fu) (a3) (a2n) (a2) ((↑a2n:Int)) 0 (a0_0) (a0_1) (a0_2) (a0_3) (a0_4) (a0_5) (a0_6) (a0_7) (a0_8) (a0_9) (a0_10) (a0_11n) (a0_11) (a0_12n) (a0_12)))))) (Ae C0 Tryz.prog fu d):=by kernel_rfl
abbrev Pg:FuncId:=27
noncomputable def Gc (fu:Nat)(call:Ai)(a0n:Nat)(a0:List PV)(a1n:Nat)(a1:List PV)(a2n:Nat)(a2:List PV)(a3:Int)(nn y0:Nat)(y1:List PV)(y2:Nat)(y3:List PV)(y4:Nat)(y5:List PV)(y6:Int)(y7:Nat)(y8:List PV)(y9 y10:Int):Option A0:=C5 CB Tryz.prog fu call 27 Tryz.f27 (Bw Tryz.f27) [.lst false 13 a0n a0,.lst false 3 a1n a1,.lst false 3 a2n a2,.sc (.int .i64 a3)] [.r,.r,.r,.l,.r,.l] nn ⟨lk [(0,(.lst false 13 y0 y1)),(1,(.lst false 3 y2 y3)),(2,(.lst false 3 y4 y5)),(3,(.sc (.int .i64 y6))),(31,(.lst false 13 y7 y8)),(32,(.sc (.int .i64 y9))),(33,(.sc (.int .i64 y10)))],B5 []⟩
noncomputable def D6 (fu:Nat)(call:Ai)(a0n:Nat)(a0:List PV)(a1n:Nat)(a1:List PV)(a2n:Nat)(a2:List PV)(a3:Int)(nn y0:Nat)(y1:List PV)(y2 y3:Int)(y4 y5:ByteArray)(y6 y7:Int)(y8 y9 y10:Int)(Jj:Bool)(Nv Tm Yz:Int)(Yv:Nat)(Y0:List PV)(Yw:Nat)(GG:List PV):Option A0:=C5 CB Tryz.prog fu call 27 Tryz.f27 (Bw Tryz.f27) [.lst false 13 a0n a0,.lst false 3 a1n a1,.lst false 3 a2n a2,.sc (.int .i64 a3)] [.r,.r,.r,.r,.r,.l,.r,.l] nn ⟨lk [(14,(.ptr 14 0)),(78,(.lst false 3 y0 y1)),(79,(.sc (.int .i64 y2))),(80,(.sc (.int .i64 y3)))],B5 [(14,(.st [(.sc (.string y4)),(.sc (.string y5)),(.sc (.int .u64 y6)),(.sc (.int .i64 y7)),(.sc (.int .u64 y8)),(.sc (.int .i64 y9)),(.sc (.int .i64 y10)),(.sc (.bool Jj)),(.sc (.int .i64 Nv)),(.sc (.int .u64 Tm)),(.sc (.int .i64 Yz)),(.lst false 1 Yv Y0),(.lst false 1 Yw GG)]))]⟩
theorem Kb (fu:Nat)(call:Ai)(a0n:Nat)(a0:List PV)(a1n:Nat)(a1:List PV)(a2n:Nat)(a2:List PV)(a3:Int)(nn y0:Nat)(y1:List PV)(y2:Nat)(y3:List PV)(y4:Nat)(y5:List PV)(y6:Int)(y7:Nat)(y8:List PV)(y9 y10:Int):Gc fu call a0n a0 a1n a1 a2n a2 a3 (nn+1) y0 y1 y2 y3 y4 y5 y6 y7 y8 y9 y10=(Bc (decide (y10<y9)) (Ap (decide (0<=y10)&&decide (y10<(↑y7:Int)))<|Co (List.getD y8 (Int.toNat y10*13) .top) fun x1=>Co (List.getD y8 (Int.toNat y10*13+1) .top) fun x2=>Ad .u64 (List.getD y8 (Int.toNat y10*13+1+1) .top) fun x3=>Ad .i64 (List.getD y8 (Int.toNat y10*13+1+1+1) .top) fun x4=>Ad .u64 (List.getD y8 (Int.toNat y10*13+1+1+1+1) .top) fun x5=>Ad .i64 (List.getD y8 (Int.toNat y10*13+1+1+1+1+1) .top) fun x6=>Ad .i64 (List.getD y8 (Int.toNat y10*13+1+1+1+1+1+1) .top) fun x7=>Bl (List.getD y8 (Int.toNat y10*13+1+1+1+1+1+1+1) .top) fun x8=>Ad .i64 (List.getD y8 (Int.toNat y10*13+1+1+1+1+1+1+1+1) .top) fun x9=>Ad .u64 (List.getD y8 (Int.toNat y10*13+1+1+1+1+1+1+1+1+1) .top) fun Cm=>Ad .i64 (List.getD y8 (Int.toNat y10*13+1+1+1+1+1+1+1+1+1+1) .top) fun C3=>Fd 1 (List.getD y8 (Int.toNat y10*13+1+1+1+1+1+1+1+1+1+1+1) .top) fun Dt D0 Dq=>Fd 1 (List.getD y8 (Int.toNat y10*13+1+1+1+1+1+1+1+1+1+1+1+1) .top) fun Ed Ek Ez=>Ag (call 47 [.agg [.sc (.string x1),.sc (.string x2),.sc (.int .u64 x3),.sc (.int .i64 x4),.sc (.int .u64 x5),.sc (.int .i64 x6),.sc (.int .i64 x7),.sc (.bool x8),.sc (.int .i64 x9),.sc (.int .u64 Cm),.sc (.int .i64 C3),.lst false 1 D0 Dq,.lst false 1 Ek Ez],.sc (.int .i64 y10),.lst false 3 y4 y5,.sc (.int .i64 y6)]) fun Fo Fg=>Ac Fg<|Ab Fo fun Ex H6=>Ad .i64 Ex fun Gz=>Ac H6<|Bc (Gz != 0) (some (A0.mk [.sc (.int .i64 0),.sc (.int .i64 Gz)] [])) (Aa (wrap .i64 ((↑y0:Int)-1)) fun Hx=>Bc (y10==Hx) (Aa (wrap .i64 ((↑y0:Int)-1)) fun D1=>Ap (decide (0<=D1)&&decide (D1<(↑y0:Int)))<|Co (List.getD y1 (Int.toNat D1*13) .top) fun Dm=>Co (List.getD y1 (Int.toNat D1*13+1) .top) fun F6=>Ad .u64 (List.getD y1 (Int.toNat D1*13+1+1) .top) fun H9=>Ad .i64 (List.getD y1 (Int.toNat D1*13+1+1+1) .top) fun Ey=>Ad .u64 (List.getD y1 (Int.toNat D1*13+1+1+1+1) .top) fun Jw=>Ad .i64 (List.getD y1 (Int.toNat D1*13+1+1+1+1+1) .top) fun Mq=>Ad .i64 (List.getD y1 (Int.toNat D1*13+1+1+1+1+1+1) .top) fun J1=>Bl (List.getD y1 (Int.toNat D1*13+1+1+1+1+1+1+1) .top) fun Mm=>Ad .i64 (List.getD y1 (Int.toNat D1*13+1+1+1+1+1+1+1+1) .top) fun Ml=>Ad .u64 (List.getD y1 (Int.toNat D1*13+1+1+1+1+1+1+1+1+1) .top) fun Ny=>Ad .i64 (List.getD y1 (Int.toNat D1*13+1+1+1+1+1+1+1+1+1+1) .top) fun Pu=>Fd 1 (List.getD y1 (Int.toNat D1*13+1+1+1+1+1+1+1+1+1+1+1) .top) fun Qp Sd G2=>Fd 1 (List.getD y1 (Int.toNat D1*13+1+1+1+1+1+1+1+1+1+1+1+1) .top) fun J0 Ur Yu=>D6 fu call a0n a0 a1n a1 a2n a2 a3 (fu) (y2) (y3) ((↑y2:Int)) 0 Dm F6 H9 Ey Jw Mq J1 Mm Ml Ny Pu Sd G2 Ur Yu) (Aa (wrap .i64 (y10+1)) fun Oo=>Ap (decide (0<=Oo)&&decide (Oo<(↑y0:Int)))<|Co (List.getD y1 (Int.toNat Oo*13+0) .top) fun Uh=>Bc (!Array.toList (ByteArray.data x2)==Array.toList (ByteArray.data Uh)) (some (A0.mk [.sc (.int .i64 0),.sc (.int .i64 38)] [])) (Aa (wrap .i64 (y10+1)) fun Tq=>Ap (decide (0<=Tq)&&decide (Tq<(↑y0:Int)))<|Ad .i64 (List.getD y1 (Int.toNat Tq*13+3) .top) fun Sr=>Ad .u64 (List.getD y1 (Int.toNat Tq*13+3+1) .top) fun Tp=>Ag (call 20 [.agg [.sc (.string x1),.sc (.string x2),.sc (.int .u64 x3),.sc (.int .i64 x4),.sc (.int .u64 x5),.sc (.int .i64 x6),.sc (.int .i64 x7),.sc (.bool x8),.sc (.int .i64 x9),.sc (.int .u64 Cm),.sc (.int .i64 C3),.lst false 1 D0 Dq,.lst false 1 Ek Ez],.agg [.sc (.int .i64 Sr),.sc (.int .u64 Tp)]]) fun Xh X6=>Ac X6<|Ab Xh fun Ss Wm=>Ad .i64 Ss fun Wy=>Ac Wm<|Bc (Wy != 0) (some (A0.mk [.sc (.int .i64 0),.sc (.int .i64 Wy)] [])) (Aa (wrap .i64 (y10+1)) fun Xd=>Gc fu call a0n a0 a1n a1 a2n a2 a3 (nn) (y0) (y1) (y2) (y3) (y4) (y5) (y6) (y7) (y8) (y9) Xd))))) (Aa (wrap .i64 ((↑y0:Int)-1)) fun Pi=>Ap (decide (0<=Pi)&&decide (Pi<(↑y0:Int)))<|Co (List.getD y1 (Int.toNat Pi*13) .top) fun Yi=>Co (List.getD y1 (Int.toNat Pi*13+1) .top) fun BM=>Ad .u64 (List.getD y1 (Int.toNat Pi*13+1+1) .top) fun BL=>Ad .i64 (List.getD y1 (Int.toNat Pi*13+1+1+1) .top) fun P2=>Ad .u64 (List.getD y1 (Int.toNat Pi*13+1+1+1+1) .top) fun Ub=>Ad .i64 (List.getD y1 (Int.toNat Pi*13+1+1+1+1+1) .top) fun Ym=>Ad .i64 (List.getD y1 (Int.toNat Pi*13+1+1+1+1+1+1) .top) fun AF=>Bl (List.getD y1 (Int.toNat Pi*13+1+1+1+1+1+1+1) .top) fun Y2=>Ad .i64 (List.getD y1 (Int.toNat Pi*13+1+1+1+1+1+1+1+1) .top) fun Zi=>Ad .u64 (List.getD y1 (Int.toNat Pi*13+1+1+1+1+1+1+1+1+1) .top) fun CH=>Ad .i64 (List.getD y1 (Int.toNat Pi*13+1+1+1+1+1+1+1+1+1+1) .top) fun AO=>Fd 1 (List.getD y1 (Int.toNat Pi*13+1+1+1+1+1+1+1+1+1+1+1) .top) fun BK W0 Xq=>Fd 1 (List.getD y1 (Int.toNat Pi*13+1+1+1+1+1+1+1+1+1+1+1+1) .top) fun EF BQ BI=>D6 fu call a0n a0 a1n a1 a2n a2 a3 (fu) (y2) (y3) ((↑y2:Int)) 0 Yi BM BL P2 Ub Ym AF Y2 Zi CH AO W0 Xq BQ BI)):=by kernel_rfl
theorem Kj (fu:Nat)(call:Ai)(a0n:Nat)(a0:List PV)(a1n:Nat)(a1:List PV)(a2n:Nat)(a2:List PV)(a3:Int)(nn y0:Nat)(y1:List PV)(y2 y3:Int)(y4 y5:ByteArray)(y6 y7:Int)(y8 y9 y10:Int)(Jj:Bool)(Nv Tm Yz:Int)(Yv:Nat)(Y0:List PV)(Yw:Nat)(GG:List PV):D6 fu call a0n a0 a1n a1 a2n a2 a3 (nn+1) y0 y1 y2 y3 y4 y5 y6 y7 y8 y9 y10 Jj Nv Tm Yz Yv Y0 Yw GG=(Bc (decide (y3<y2)) (Ap (decide (0<=y3)&&decide (y3<(↑y0:Int)))<|Co (List.getD y1 (Int.toNat y3*3) .top) fun Y1=>Ad .i64 (List.getD y1 (Int.toNat y3*3+1) .top) fun BN=>Ad .u64 (List.getD y1 (Int.toNat y3*3+1+1) .top) fun KF=>Bc (Array.toList (ByteArray.data Y1)==Array.toList (ByteArray.data y5)) (Ag (call 20 [.agg [.sc (.string y4),.sc (.string y5),.sc (.int .u64 y6),.sc (.int .i64 y7),.sc (.int .u64 y8),.sc (.int .i64 y9),.sc (.int .i64 y10),.sc (.bool Jj),.sc (.int .i64 Nv),.sc (.int .u64 Tm),.sc (.int .i64 Yz),.lst false 1 Yv Y0,.lst false 1 Yw GG],.agg [.sc (.int .i64 BN),.sc (.int .u64 KF)]]) fun BJ CU=>Ac CU<|Ab BJ fun GQ BP=>Ad .i64 GQ fun ET=>Ac BP<|Bc (ET==0) (some (A0.mk [.sc (.int .i64 y3),.sc (.int .i64 0)] [])) (Aa (wrap .i64 (y3+1)) fun IH=>D6 fu call a0n a0 a1n a1 a2n a2 a3 (nn) (y0) (y1) (y2) IH (y4) (y5) (y6) (y7) (y8) (y9) (y10) (Jj) (Nv) (Tm) (Yz) (Yv) (Y0) (Yw) (GG))) (Aa (wrap .i64 (y3+1)) fun JL=>D6 fu call a0n a0 a1n a1 a2n a2 a3 (nn) (y0) (y1) (y2) JL (y4) (y5) (y6) (y7) (y8) (y9) (y10) (Jj) (Nv) (Tm) (Yz) (Yv) (Y0) (Yw) (GG))) (some (A0.mk [.sc (.int .i64 0),.sc (.int .i64 38)] []))):=by kernel_rfl
theorem Yf (fu d a0n:Nat)(a0:List PV)(a1n:Nat)(a1:List PV)(a2n:Nat)(a2:List PV)(a3:Int):Ae C0 Tryz.prog fu (d+1) Pg [.lst false 13 a0n a0,.lst false 3 a1n a1,.lst false 3 a2n a2,.sc (.int .i64 a3)]=(fun (call:Ai)=>Bc (decide (a3<0)) (some (A0.mk [.sc (.int .i64 0),.sc (.int .i64 9)] [])) (Bc (decide (a3>1099511627776)) (some (A0.mk [.sc (.int .i64 0),.sc (.int .i64 9)] [])) (Bc (decide ((↑a0n:Int)<1)) (some (A0.mk [.sc (.int .i64 0),.sc (.int .i64 38)] [])) (Bc (decide ((↑a0n:Int)>3)) (some (A0.mk [.sc (.int .i64 0),.sc (.int .i64 38)] [])) (Gc fu call a0n a0 a1n a1 a2n a2 a3 (fu) (a0n) (a0) (a1n) (a1) (a2n) (a2) (a3) (a0n) (a0) ((↑a0n:Int)) 0))))) (Ae C0 Tryz.prog fu d):=by kernel_rfl
abbrev Xj:FuncId:=55
theorem LU (fu d a0n:Nat)(a0:List PV)(a1n:Nat)(a1:List PV):Ae C0 Tryz.prog fu (d+1) Xj [.lst false 1 a0n a0,.lst false 1 a1n a1]=(fun (call:Ai)=>Ap (decide (a0.length=a0n))<|Ep (bytesOf a0) fun x1=>Ap (decide (a1.length=a1n))<|Ep (bytesOf a1) fun x2=>some (A0.mk [.sc (.bool (Array.toList (ByteArray.data (ByteArray.mk (List.toArray x1)))==Array.toList (ByteArray.data (ByteArray.mk (List.toArray x2)))))] [])) (Ae C0 Tryz.prog fu d):=by kernel_rfl
end
section
open Go.IntKind (wrap)
theorem TK {c:Ce}{e:Int}(h:A3 c=e)(he:e≠0):Hg c=[.own 1 0 [],.sc (.int .i64 e)]:=by
 unfold Hg;rw [h,A6 he]
theorem Ej {c:Ce}{e:Int}(h:A3 c=e)(he:e≠0):some (A0.mk [.own 1 0 [],.sc (.int .i64 e)] [])=some (A0.mk (Hg c) []):=by
 rw [TK h he]
def Uu (c:Ce):List It:=[⟨4,0,c.subj⟩,⟨4,0,c.iss⟩,⟨1,c.serial,F8⟩,⟨3,0,Ca (Io c.key)⟩,⟨1,c.fr,F8⟩,⟨1,c.un,F8⟩,⟨7,(if c.auth=true then 1 else 0),F8⟩,⟨1,c.path,F8⟩,⟨1,c.model,F8⟩]
theorem FT {c:Ce}(hw:c.wf)(h:A3 c=0):∀x∈Uu c,VP x:=by
 unfold A3 at h;have kl:(Ca (Io c.key)).size=9:=by rw [Fy];rfl
 have ns:F8.size=0:=rfl;have hs:=hw.ser;have hm:=hw.mod;have es:SI F8=true:=rfl;by_cases e1:c.subj.size<1∨32<c.subj.size
 ·rw [B4 e1] at h;cases h
 rw [A6 e1] at h;by_cases e2:c.iss.size<1∨32<c.iss.size
 ·rw [B4 e2] at h;cases h
 rw [A6 e2] at h;by_cases e3:TV c.subj=false
 ·rw [B4 e3] at h;cases h
 rw [A6 e3] at h;by_cases e4:TV c.iss=false
 ·rw [B4 e4] at h;cases h
 rw [A6 e4] at h
 repeat' (split at h;· cases h)
 rw [Bool.not_eq_false] at e3 e4;intro x hx;simp only [Uu,List.mem_cons,List.not_mem_nil,or_false] at hx;rcases hx with rfl|rfl|rfl|rfl|rfl|rfl|rfl|rfl|rfl
 ·exact ⟨by simp,by simp only;omega,fun _=>e3,by simp [Ga],by simp⟩
 ·exact ⟨by simp,by simp only;omega,fun _=>e4,by simp [Ga],by simp⟩
 ·exact ⟨by simp,by simp only [ns];omega,fun h=>by simp at h,by simp [Ga,es],hs⟩
 ·exact ⟨by simp,by simp only [kl];omega,fun h=>by simp at h,by simp [Ga],by simp⟩
 ·exact ⟨by simp,by simp only [ns];omega,fun h=>by simp at h,by simp [Ga,es],by simp only;omega⟩
 ·exact ⟨by simp,by simp only [ns];omega,fun h=>by simp at h,by simp [Ga,es],by simp only;omega⟩
 ·exact ⟨by simp,by simp only [ns];omega,fun h=>by simp at h,by simp [Ga,es];split<;>omega,by simp only;split<;>omega⟩
 ·exact ⟨by simp,by simp only [ns];omega,fun h=>by simp at h,by simp [Ga,es],by simp only;omega⟩
 ·exact ⟨by simp,by simp only [ns];omega,fun h=>by simp at h,by simp [Ga,es],hm⟩
theorem Yb {c:Ce}(hw:c.wf)(h:A3 c=0):Od [] 0 (Bb c):=Ach (r:=Uu c) (by simp [Uu]) (by simp [Uu]) (FT hw h)
section
variable {fu d:Nat}
theorem UF (s:ByteArray):Ae C0 Tryz.prog fu (d+1) EP [.sc (.string s)]=some ⟨[.own 3 1 (Cg [⟨4,0,s⟩])],[]⟩:=by rw [VI];rfl
theorem Um (n:Int):Ae C0 Tryz.prog fu (d+1) FB [.sc (.int .u64 n)]=some ⟨[.own 3 1 (Cg [⟨1,n,F8⟩])],[]⟩:=by rw [VQ];rfl
theorem Ahq (b:Bool):Ae C0 Tryz.prog fu (d+1) FD [.sc (.bool b)]=some ⟨[.own 3 1 (Cg [⟨7,(if b=true then 1 else 0),F8⟩])],[]⟩:=by rw [UJ];cases b<;>rfl
theorem Ac3 (l:List Int):Ae C0 Tryz.prog fu (d+1) Zw [.lst false 1 l.length (Af .u8 l)]=some ⟨[.own 3 1 (Cg [⟨3,0,Ca l⟩])],[]⟩:=by
 rw [QI];have L:=Ak .u8 l;have bo:=Gw l;simp (disch:=omega) only [Bz,L,bo];rfl
theorem YC (hfu:1000<=fu){c:Ce}(hw:c.wf)(hs1:c.subj.size<=9223372036854775807)(hs2:c.iss.size<=9223372036854775807)(e1:¬(c.subj.size<1∨32<c.subj.size)) (e2:¬(c.iss.size<1∨32<c.iss.size)) (nn:Nat):
  E2 fu (Ae C0 Tryz.prog fu (d+6)) c.subj c.iss c.serial c.key.h c.key.root c.fr c.un c.auth c.path c.model c.sig.leaf c.sig.chains.length (Af .u64 c.sig.chains) c.sig.path.length (Af .u64 c.sig.path) (nn+1) c.subj c.iss 2 c.subj c.iss c.serial c.key.h c.key.root c.fr c.un c.auth c.path c.model c.sig.leaf c.sig.chains.length (Af .u64 c.sig.chains) c.sig.path.length (Af .u64 c.sig.path)=some ⟨Hg c,[]⟩:=by
 have v1:=O7 (fu:=fu) (d:=d+5) c.subj hs1;have v2:=O7 (fu:=fu) (d:=d+5) c.iss hs2;have ek:=Adh (xs:=J9) (fu:=fu) (d:=d+4) hfu c.key;simp only [Ky.cells] at ek;have e90:((9:Int) != 0)=true:=rfl;have e00:((0:Int) != 0)=false:=rfl;rw [Ec,Dr _ _ _ (by omega)]
 cases e3:TV c.subj
 ·have hb:A3 c=6:=by unfold A3;rw [A6 e1,A6 e2,B4 e3]
  rw [e3] at v1;rw [←Ej hb (by omega)]
  try unfold Aa
  repeat first
   |((with_reducible first|apply Aw|apply Al|apply Ay|apply Ar|apply A7|apply Bg|apply Dg|apply Am);· first|with_reducible rfl|(simp (disch:=omega) only [v1,Dd,Dy]<;>with_reducible rfl))
   |((with_reducible first|apply Ax|apply Au);· first|with_reducible rfl|omega|(simp (disch:=omega) only [gT,v1,Dd,Dy]<;>omega))
   |(with_reducible apply Av;· first|with_reducible rfl|(simp (disch:=omega) only [gF,v1,Dd,Dy]<;>omega))
  try simp (disch:=omega) only [v1,Dd,Dy]
 rw [e3] at v1;cases e4:TV c.iss
 ·have hb:A3 c=6:=by unfold A3;rw [A6 e1,A6 e2,A6 (by simp [e3]),B4 e4]
  rw [e4] at v2;rw [←Ej hb (by omega)]
  try unfold Aa
  repeat first
   |((with_reducible first|apply Aw|apply Al|apply Ay|apply Ar|apply A7|apply Bg|apply Dg|apply Am);· first|with_reducible rfl|(simp (disch:=omega) only [v1,v2,Dd,Dy]<;>with_reducible rfl))
   |((with_reducible first|apply Ax|apply Au);· first|with_reducible rfl|omega|(simp (disch:=omega) only [gT,v1,v2,Dd,Dy]<;>omega))
   |(with_reducible apply Av;· first|with_reducible rfl|(simp (disch:=omega) only [gF,v1,v2,Dd,Dy]<;>omega))
  try simp (disch:=omega) only [v1,v2,Dd,Dy]
 rw [e4] at v2;cases e5:De c.key.h
 rotate_left
 ·have hb:A3 c=9:=by unfold A3;rw [A6 e1,A6 e2,A6 (by simp [e3]),A6 (by simp [e4]),B4 e5]
  rw [e5,B4 rfl] at ek;rw [←Ej hb (by omega)]
  try unfold Aa
  repeat first
   |((with_reducible first|apply Aw|apply Al|apply Ay|apply Ar|apply A7|apply Bg|apply Dg|apply Am);· first|with_reducible rfl|(simp (disch:=omega) only [v1,v2,ek,e90,Dd,Dy]<;>with_reducible rfl))
   |((with_reducible first|apply Ax|apply Au);· first|with_reducible rfl|omega|(simp (disch:=omega) only [gT,v1,v2,ek,e90,Dd,Dy]<;>omega))
   |(with_reducible apply Av;· first|with_reducible rfl|(simp (disch:=omega) only [gF,v1,v2,ek,e90,Dd,Dy]<;>omega))
  try simp (disch:=omega) only [v1,v2,ek,e90,Dd,Dy]
 rw [e5,A6 (by simp)] at ek
 have B0:A3 c=if c.fr<0 then 9 else if c.un<c.fr then 9 else if c.un>1099511627776 then 9 else if c.path<0∨2<c.path then 9 else if c.path≠0∧c.auth=false then 4 else 0:=by
  unfold A3;rw [A6 e1,A6 e2,A6 (by simp [e3]),A6 (by simp [e4]),A6 (by simp [e5])]
 by_cases e6:c.fr<0
 ·have hb:A3 c=9:=by rw [B0,B4 e6]
  rw [←Ej hb (by omega)]
  try unfold Aa
  repeat first
   |((with_reducible first|apply Aw|apply Al|apply Ay|apply Ar|apply A7|apply Bg|apply Dg|apply Am);· first|with_reducible rfl|(simp (disch:=omega) only [v1,v2,ek,e00,Dd,Dy]<;>with_reducible rfl))
   |((with_reducible first|apply Ax|apply Au);· first|with_reducible rfl|omega|(simp (disch:=omega) only [gT,v1,v2,ek,e00,Dd,Dy]<;>omega))
   |(with_reducible apply Av;· first|with_reducible rfl|(simp (disch:=omega) only [gF,v1,v2,ek,e00,Dd,Dy]<;>omega))
  try simp (disch:=omega) only [v1,v2,ek,e00,Dd,Dy]
 by_cases e7:c.un<c.fr
 ·have hb:A3 c=9:=by rw [B0,A6 e6,B4 e7]
  rw [←Ej hb (by omega)]
  try unfold Aa
  repeat first
   |((with_reducible first|apply Aw|apply Al|apply Ay|apply Ar|apply A7|apply Bg|apply Dg|apply Am);· first|with_reducible rfl|(simp (disch:=omega) only [v1,v2,ek,e00,Dd,Dy]<;>with_reducible rfl))
   |((with_reducible first|apply Ax|apply Au);· first|with_reducible rfl|omega|(simp (disch:=omega) only [gT,v1,v2,ek,e00,Dd,Dy]<;>omega))
   |(with_reducible apply Av;· first|with_reducible rfl|(simp (disch:=omega) only [gF,v1,v2,ek,e00,Dd,Dy]<;>omega))
  try simp (disch:=omega) only [v1,v2,ek,e00,Dd,Dy]
 by_cases e8:c.un>1099511627776
 ·have hb:A3 c=9:=by rw [B0,A6 e6,A6 e7,B4 e8]
  rw [←Ej hb (by omega)]
  try unfold Aa
  repeat first
   |((with_reducible first|apply Aw|apply Al|apply Ay|apply Ar|apply A7|apply Bg|apply Dg|apply Am);· first|with_reducible rfl|(simp (disch:=omega) only [v1,v2,ek,e00,Dd,Dy]<;>with_reducible rfl))
   |((with_reducible first|apply Ax|apply Au);· first|with_reducible rfl|omega|(simp (disch:=omega) only [gT,v1,v2,ek,e00,Dd,Dy]<;>omega))
   |(with_reducible apply Av;· first|with_reducible rfl|(simp (disch:=omega) only [gF,v1,v2,ek,e00,Dd,Dy]<;>omega))
  try simp (disch:=omega) only [v1,v2,ek,e00,Dd,Dy]
 by_cases e9:c.path<0∨2<c.path
 ·have hb:A3 c=9:=by rw [B0,A6 e6,A6 e7,A6 e8,B4 e9]
  rw [←Ej hb (by omega)]
  by_cases e9':c.path<0
  ·skip
   try unfold Aa
   repeat first
    |((with_reducible first|apply Aw|apply Al|apply Ay|apply Ar|apply A7|apply Bg|apply Dg|apply Am);· first|with_reducible rfl|(simp (disch:=omega) only [v1,v2,ek,e00,Dd,Dy]<;>with_reducible rfl))
    |((with_reducible first|apply Ax|apply Au);· first|with_reducible rfl|omega|(simp (disch:=omega) only [gT,v1,v2,ek,e00,Dd,Dy]<;>omega))
    |(with_reducible apply Av;· first|with_reducible rfl|(simp (disch:=omega) only [gF,v1,v2,ek,e00,Dd,Dy]<;>omega))
   try simp (disch:=omega) only [v1,v2,ek,e00,Dd,Dy]
  ·skip
   try unfold Aa
   repeat first
    |((with_reducible first|apply Aw|apply Al|apply Ay|apply Ar|apply A7|apply Bg|apply Dg|apply Am);· first|with_reducible rfl|(simp (disch:=omega) only [v1,v2,ek,e00,Dd,Dy]<;>with_reducible rfl))
    |((with_reducible first|apply Ax|apply Au);· first|with_reducible rfl|omega|(simp (disch:=omega) only [gT,v1,v2,ek,e00,Dd,Dy]<;>omega))
    |(with_reducible apply Av;· first|with_reducible rfl|(simp (disch:=omega) only [gF,v1,v2,ek,e00,Dd,Dy]<;>omega))
   try simp (disch:=omega) only [v1,v2,ek,e00,Dd,Dy]
 by_cases e10:c.path≠0∧c.auth=false
 ·have hb:A3 c=4:=by rw [B0,A6 e6,A6 e7,A6 e8,A6 e9,B4 e10]
  have ea:=e10.2;have ep:(c.path != 0)=true:=by simp [e10.1]
  rw [←Ej hb (by omega)]
  try unfold Aa
  repeat first
   |((with_reducible first|apply Aw|apply Al|apply Ay|apply Ar|apply A7|apply Bg|apply Dg|apply Am);· first|with_reducible rfl|(simp (disch:=omega) only [v1,v2,ek,e00,ep,ea,Dd,Dy]<;>with_reducible rfl))
   |((with_reducible first|apply Ax|apply Au);· first|with_reducible rfl|omega|(simp (disch:=omega) only [gT,v1,v2,ek,e00,ep,ea,Dd,Dy]<;>omega))
   |(with_reducible apply Av;· first|with_reducible rfl|(simp (disch:=omega) only [gF,v1,v2,ek,e00,ep,ea,Dd,Dy]<;>omega))
  try simp (disch:=omega) only [v1,v2,ek,e00,ep,ea,Dd,Dy]
 have hz:A3 c=0:=by rw [B0,A6 e6,A6 e7,A6 e8,A6 e9,A6 e10]
 have hfl:=FT hw hz
 have ar:=XH (fu:=fu) (d:=d) hfu (vs:=(Uu c).map fun x=>[x]) (by
  intro v hv;obtain ⟨x,hx,rfl⟩:=List.mem_map.1 hv;exact ⟨Ac2 (hfl x hx),by simp⟩) (by simp [Uu]) (Yb hw hz) (by simp [Uu])
 have en:=WV (fu:=fu) (d:=d+1) hfu (l:=Bb c) (by simp [Bb]) (by simp [Bb];omega) (Yb hw hz) (fun x hx=>(X5 hw hz x hx).1) (Nat.le_trans (Lm hz) (by omega))
 have ar':Ae C0 Tryz.prog fu (d+6) S6 [.lst false 1 9 [.lst false 3 1 (Cg [⟨4,0,c.subj⟩]),.lst false 3 1 (Cg [⟨4,0,c.iss⟩]),.lst false 3 1 (Cg [⟨1,c.serial,F8⟩]),.lst false 3 1 (Cg [⟨3,0,Ca (Io c.key)⟩]),.lst false 3 1 (Cg [⟨1,c.fr,F8⟩]),.lst false 3 1 (Cg [⟨1,c.un,F8⟩]),.lst false 3 1 (Cg [⟨7,(if c.auth=true then 1 else 0),F8⟩]),.lst false 3 1 (Cg [⟨1,c.path,F8⟩]),.lst false 3 1 (Cg [⟨1,c.model,F8⟩])]]=some ⟨[.own 3 10 (Cg (Bb c)),.sc (.int .i64 0)],[]⟩:=ar
 have en':Ae C0 Tryz.prog fu (d+1+5) Ql [.lst false 3 10 (Cg (Bb c))]=some ⟨[.own 1 (Bf (Bb c)).length (Af .u8 (Bf (Bb c))),.sc (.int .i64 0)],[]⟩:=en;clear ar en hfl;have t1:=UF (fu:=fu) (d:=d+5) c.subj;have t2:=UF (fu:=fu) (d:=d+5) c.iss;have u1:=Um (fu:=fu) (d:=d+5) c.serial;have u2:=Um (fu:=fu) (d:=d+5) c.fr;have u3:=Um (fu:=fu) (d:=d+5) c.un;have u4:=Um (fu:=fu) (d:=d+5) c.path;have u5:=Um (fu:=fu) (d:=d+5) c.model;have bo:=Ahq (fu:=fu) (d:=d+5) c.auth;have by_:=Ac3 (fu:=fu) (d:=d+5) (Io c.key);have k9:(Io c.key).length=9:=rfl;rw [k9] at by_;have L9:=Ak .u8 (Io c.key);rw [k9] at L9;have tk9:List.take 9 (Af .u8 (Io c.key))=Af .u8 (Io c.key):=R9 (by omega)
 have wf:wrap .u64 c.fr=c.fr:=Cn (by omega) (by omega)
 have wu:wrap .u64 c.un=c.un:=Cn (by omega) (by omega)
 have wp:wrap .u64 c.path=c.path:=Cn (by omega) (by omega)
 have R:Hg c=[.own 1 (Bf (Bb c)).length (Af .u8 (Bf (Bb c))),.sc (.int .i64 0)]:=by unfold Hg;rw [hz,B4 rfl]
 have LB:=Ak .u8 (Bf (Bb c));have tB:=J3 .u8 (Bf (Bb c));rw [R];generalize Bf (Bb c)=W at en' LB tB ⊢;have LI:(Cg (Bb c)).length=30:=rfl;have tI:List.take 30 (Cg (Bb c))=Cg (Bb c):=rfl;generalize Cg (Bb c)=I at ar' en' LI tI;have K:∀x:It,List.take 3 (Cg [x])=Cg [x]:=fun _=>rfl
 have N:∀x:It,(Cg [x]).length=3:=fun _=>rfl
 have K1:=K ⟨4,0,c.subj⟩;have K2:=K ⟨4,0,c.iss⟩;have K3:=K ⟨1,c.serial,F8⟩;have K4:=K ⟨3,0,Ca (Io c.key)⟩;have K5:=K ⟨1,c.fr,F8⟩;have K6:=K ⟨1,c.un,F8⟩;have K7:=K ⟨7,(if c.auth=true then 1 else 0),F8⟩
 have K8:=K ⟨1,c.path,F8⟩;have K9:=K ⟨1,c.model,F8⟩;have N1:=N ⟨4,0,c.subj⟩;have N2:=N ⟨4,0,c.iss⟩;have N3:=N ⟨1,c.serial,F8⟩;have N4:=N ⟨3,0,Ca (Io c.key)⟩;have N5:=N ⟨1,c.fr,F8⟩;have N6:=N ⟨1,c.un,F8⟩;have N7:=N ⟨7,(if c.auth=true then 1 else 0),F8⟩
 have N8:=N ⟨1,c.path,F8⟩;have N9:=N ⟨1,c.model,F8⟩;generalize Cg [⟨4,0,c.subj⟩]=T1 at *
 generalize Cg [⟨4,0,c.iss⟩]=T2 at *
 generalize Cg [⟨1,c.serial,F8⟩]=T3 at *
 generalize Cg [⟨3,0,Ca (Io c.key)⟩]=T4 at *
 generalize Cg [⟨1,c.fr,F8⟩]=T5 at *
 generalize Cg [⟨1,c.un,F8⟩]=T6 at *
 generalize Cg [⟨7,(if c.auth=true then 1 else 0),F8⟩]=T7 at *
 generalize Cg [⟨1,c.path,F8⟩]=T8 at *
 generalize Cg [⟨1,c.model,F8⟩]=T9 at *
 generalize Af .u8 (Io c.key)=KB at *
 by_cases ep:c.path=0
 ·have ep':(c.path != 0)=false:=by simp [ep]
  try unfold Aa
  repeat first
   |((with_reducible first|apply Aw|apply Al|apply Ay|apply Ar|apply A7|apply Bg|apply Dg|apply Am);· first|with_reducible rfl|(simp (disch:=omega) only [v1,v2,ek,e00,ep',t1,t2,u1,u2,u3,u4,u5,bo,by_,wf,wu,wp,L9,tk9,K1,K2,K3,K4,K5,K6,K7,K8,K9,N1,N2,N3,N4,N5,N6,N7,N8,N9,Br,Nat.one_mul,B8,Nat.reduceMul,E6,ar',LI,tI,en',LB,tB,Dd,Dy]<;>with_reducible rfl))
   |((with_reducible first|apply Ax|apply Au);· first|with_reducible rfl|omega|(simp (disch:=omega) only [gT,v1,v2,ek,e00,ep',t1,t2,u1,u2,u3,u4,u5,bo,by_,wf,wu,wp,L9,tk9,K1,K2,K3,K4,K5,K6,K7,K8,K9,N1,N2,N3,N4,N5,N6,N7,N8,N9,Br,Nat.one_mul,B8,Nat.reduceMul,E6,ar',LI,tI,en',LB,tB,Dd,Dy]<;>omega))
   |(with_reducible apply Av;· first|with_reducible rfl|(simp (disch:=omega) only [gF,v1,v2,ek,e00,ep',t1,t2,u1,u2,u3,u4,u5,bo,by_,wf,wu,wp,L9,tk9,K1,K2,K3,K4,K5,K6,K7,K8,K9,N1,N2,N3,N4,N5,N6,N7,N8,N9,Br,Nat.one_mul,B8,Nat.reduceMul,E6,ar',LI,tI,en',LB,tB,Dd,Dy]<;>omega))
  try simp (disch:=omega) only [v1,v2,ek,e00,ep',t1,t2,u1,u2,u3,u4,u5,bo,by_,wf,wu,wp,L9,tk9,K1,K2,K3,K4,K5,K6,K7,K8,K9,N1,N2,N3,N4,N5,N6,N7,N8,N9,Br,Nat.one_mul,B8,Nat.reduceMul,E6,ar',LI,tI,en',LB,tB,Dd,Dy]
 ·have ea:c.auth=true:=by
   cases h:c.auth
   ·exact absurd ⟨ep,h⟩ e10
   ·rfl
  have ep':(c.path != 0)=true:=by simp [ep]
  rw [ea] at bo
  try unfold Aa
  repeat first
   |((with_reducible first|apply Aw|apply Al|apply Ay|apply Ar|apply A7|apply Bg|apply Dg|apply Am);· first|with_reducible rfl|(simp (disch:=omega) only [v1,v2,ek,e00,ep',ea,t1,t2,u1,u2,u3,u4,u5,bo,by_,wf,wu,wp,L9,tk9,K1,K2,K3,K4,K5,K6,K7,K8,K9,N1,N2,N3,N4,N5,N6,N7,N8,N9,Br,Nat.one_mul,B8,Nat.reduceMul,E6,ar',LI,tI,en',LB,tB,Dd,Dy]<;>with_reducible rfl))
   |((with_reducible first|apply Ax|apply Au);· first|with_reducible rfl|omega|(simp (disch:=omega) only [gT,v1,v2,ek,e00,ep',ea,t1,t2,u1,u2,u3,u4,u5,bo,by_,wf,wu,wp,L9,tk9,K1,K2,K3,K4,K5,K6,K7,K8,K9,N1,N2,N3,N4,N5,N6,N7,N8,N9,Br,Nat.one_mul,B8,Nat.reduceMul,E6,ar',LI,tI,en',LB,tB,Dd,Dy]<;>omega))
   |(with_reducible apply Av;· first|with_reducible rfl|(simp (disch:=omega) only [gF,v1,v2,ek,e00,ep',ea,t1,t2,u1,u2,u3,u4,u5,bo,by_,wf,wu,wp,L9,tk9,K1,K2,K3,K4,K5,K6,K7,K8,K9,N1,N2,N3,N4,N5,N6,N7,N8,N9,Br,Nat.one_mul,B8,Nat.reduceMul,E6,ar',LI,tI,en',LB,tB,Dd,Dy]<;>omega))
  try simp (disch:=omega) only [v1,v2,ek,e00,ep',ea,t1,t2,u1,u2,u3,u4,u5,bo,by_,wf,wu,wp,L9,tk9,K1,K2,K3,K4,K5,K6,K7,K8,K9,N1,N2,N3,N4,N5,N6,N7,N8,N9,Br,Nat.one_mul,B8,Nat.reduceMul,E6,ar',LI,tI,en',LB,tB,Dd,Dy]
theorem XK (hfu:1000<=fu){c:Ce}(hw:c.wf)(hs1:c.subj.size<=9223372036854775807)(hs2:c.iss.size<=9223372036854775807)(nn:Nat)(hn:3<=nn):
  E2 fu (Ae C0 Tryz.prog fu (d+6)) c.subj c.iss c.serial c.key.h c.key.root c.fr c.un c.auth c.path c.model c.sig.leaf c.sig.chains.length (Af .u64 c.sig.chains) c.sig.path.length (Af .u64 c.sig.path) nn c.subj c.iss 0 c.subj c.iss c.serial c.key.h c.key.root c.fr c.un c.auth c.path c.model c.sig.leaf c.sig.chains.length (Af .u64 c.sig.chains) c.sig.path.length (Af .u64 c.sig.path)=some ⟨Hg c,[]⟩:=by
 obtain ⟨m,rfl⟩:∃m,nn=m+1+1+1:=⟨nn-3,by omega⟩
 have g0:List.getD [PV.sc (Value.string c.subj),PV.sc (Value.string c.iss)] (Int.toNat (0:Int)*1) PV.top=.sc (.string c.subj):=rfl;have g1:List.getD [PV.sc (Value.string c.subj),PV.sc (Value.string c.iss)] (Int.toNat (1:Int)*1) PV.top=.sc (.string c.iss):=rfl;have i1:wrap .i64 ((0:Int)+1)=1:=rfl;have i2:wrap .i64 ((1:Int)+1)=2:=rfl;by_cases e1:c.subj.size<1∨32<c.subj.size
 ·have hb:A3 c=9:=by unfold A3;rw [B4 e1]
  rw [←Ej hb (by omega),Ec]
  by_cases e1':c.subj.size<1
  ·skip
   try unfold Aa
   repeat first
    |((with_reducible first|apply Aw|apply Al|apply Ay|apply Ar|apply A7|apply Bg|apply Dg|apply Am);· first|with_reducible rfl|(simp (disch:=omega) only [g0]<;>with_reducible rfl))
    |((with_reducible first|apply Ax|apply Au);· first|with_reducible rfl|omega|(simp (disch:=omega) only [gT,g0]<;>omega))
    |(with_reducible apply Av;· first|with_reducible rfl|(simp (disch:=omega) only [gF,g0]<;>omega))
   try simp (disch:=omega) only [g0]
  ·skip
   try unfold Aa
   repeat first
    |((with_reducible first|apply Aw|apply Al|apply Ay|apply Ar|apply A7|apply Bg|apply Dg|apply Am);· first|with_reducible rfl|(simp (disch:=omega) only [g0]<;>with_reducible rfl))
    |((with_reducible first|apply Ax|apply Au);· first|with_reducible rfl|omega|(simp (disch:=omega) only [gT,g0]<;>omega))
    |(with_reducible apply Av;· first|with_reducible rfl|(simp (disch:=omega) only [gF,g0]<;>omega))
   try simp (disch:=omega) only [g0]
 rw [Ec];by_cases e2:c.iss.size<1∨32<c.iss.size
 ·have hb:A3 c=9:=by unfold A3;rw [A6 e1,B4 e2]
  rw [←Ej hb (by omega)]
  try unfold Aa
  repeat first
   |((with_reducible first|apply Aw|apply Al|apply Ay|apply Ar|apply A7|apply Bg|apply Dg|apply Am);· first|with_reducible rfl|(simp (disch:=omega) only [g0,i1]<;>with_reducible rfl))
   |((with_reducible first|apply Ax|apply Au);· first|with_reducible rfl|omega|(simp (disch:=omega) only [gT,g0,i1]<;>omega))
   |(with_reducible apply Av;· first|with_reducible rfl|(simp (disch:=omega) only [gF,g0,i1]<;>omega))
  try simp (disch:=omega) only [g0,i1]
  rw [Ec];by_cases e2':c.iss.size<1
  ·skip
   try unfold Aa
   repeat first
    |((with_reducible first|apply Aw|apply Al|apply Ay|apply Ar|apply A7|apply Bg|apply Dg|apply Am);· first|with_reducible rfl|(simp (disch:=omega) only [g1]<;>with_reducible rfl))
    |((with_reducible first|apply Ax|apply Au);· first|with_reducible rfl|omega|(simp (disch:=omega) only [gT,g1]<;>omega))
    |(with_reducible apply Av;· first|with_reducible rfl|(simp (disch:=omega) only [gF,g1]<;>omega))
   try simp (disch:=omega) only [g1]
  ·skip
   try unfold Aa
   repeat first
    |((with_reducible first|apply Aw|apply Al|apply Ay|apply Ar|apply A7|apply Bg|apply Dg|apply Am);· first|with_reducible rfl|(simp (disch:=omega) only [g1]<;>with_reducible rfl))
    |((with_reducible first|apply Ax|apply Au);· first|with_reducible rfl|omega|(simp (disch:=omega) only [gT,g1]<;>omega))
    |(with_reducible apply Av;· first|with_reducible rfl|(simp (disch:=omega) only [gF,g1]<;>omega))
   try simp (disch:=omega) only [g1]
 try unfold Aa
 repeat first
  |((with_reducible first|apply Aw|apply Al|apply Ay|apply Ar|apply A7|apply Bg|apply Dg|apply Am);· first|with_reducible rfl|(simp (disch:=omega) only [g0,i1]<;>with_reducible rfl))
  |((with_reducible first|apply Ax|apply Au);· first|with_reducible rfl|omega|(simp (disch:=omega) only [gT,g0,i1]<;>omega))
  |(with_reducible apply Av;· first|with_reducible rfl|(simp (disch:=omega) only [gF,g0,i1]<;>omega))
 try simp (disch:=omega) only [g0,i1]
 rw [Ec]
 try unfold Aa
 repeat first
  |((with_reducible first|apply Aw|apply Al|apply Ay|apply Ar|apply A7|apply Bg|apply Dg|apply Am);· first|with_reducible rfl|(simp (disch:=omega) only [g1,i2]<;>with_reducible rfl))
  |((with_reducible first|apply Ax|apply Au);· first|with_reducible rfl|omega|(simp (disch:=omega) only [gT,g1,i2]<;>omega))
  |(with_reducible apply Av;· first|with_reducible rfl|(simp (disch:=omega) only [gF,g1,i2]<;>omega))
 try simp (disch:=omega) only [g1,i2]
 exact YC hfu hw hs1 hs2 e1 e2 m
theorem JC (hfu:1000<=fu){c:Ce}(hw:c.wf)(hs1:c.subj.size<=9223372036854775807)(hs2:c.iss.size<=9223372036854775807):Ae C0 Tryz.prog fu (d+7) Ox [.agg c.cells]=some ⟨Hg c,[]⟩:=
 (X1 fu (d+6) c.subj c.iss c.serial c.key.h c.key.root c.fr c.un c.auth c.path c.model c.sig.leaf c.sig.chains.length (Af .u64 c.sig.chains) c.sig.path.length (Af .u64 c.sig.path)).trans (XK hfu hw hs1 hs2 fu (by omega))
end
end
section
open Go.IntKind (wrap)
def GR (c:Ce):List PV:=if A3 c=0 then [.sc (.int .u64 (Lq c)),.sc (.int .i64 0)] else [.sc (.int .u64 0),.sc (.int .i64 (A3 c))]
section
variable {fu d:Nat} {c:Ce}
theorem WQ (hfu:1000<=fu)(hw:c.wf)(hs1:c.subj.size<=9223372036854775807)(hs2:c.iss.size<=9223372036854775807):Ae C0 Tryz.prog fu (d+8) Ph [.agg c.cells]=some ⟨GR c,[]⟩:=by
 refine (Yr fu (d+7) c.subj c.iss c.serial c.key.h c.key.root c.fr c.un c.auth c.path c.model c.sig.leaf c.sig.chains.length (Af .u64 c.sig.chains) c.sig.path.length (Af .u64 c.sig.path)).trans ?_;have bq:=JC (fu:=fu) (d:=d) hfu hw hs1 hs2;simp only [Ce.cells] at bq;unfold Hg at bq;unfold GR;by_cases h0:A3 c=0
 ·have lb:=Lm h0;rw [B4 h0] at bq;rw [B4 h0];have e00:((0:Int) != 0)=false:=rfl;have hh:=Abb (xs:=J9) (fu:=fu) (d:=d+2) (EB hw h0) (by omega) (by omega) (by omega) 14
  have eW:Mw 14 (Bf (Bb c))=Lq c:=rfl;rw [eW] at hh;have L1:=Ak .u8 (Bf (Bb c));have t1:=J3 .u8 (Bf (Bb c));generalize (Bf (Bb c)).length=n1 at *
  generalize Af .u8 (Bf (Bb c))=c1 at *
  try unfold Aa
  repeat first
   |((with_reducible first|apply Aw|apply Al|apply Ay|apply Bg|apply Am);· first|with_reducible rfl|(simp (disch:=omega) only [bq,e00,B8,Br,E6,L1,t1,hh]<;>with_reducible rfl))
   |((with_reducible first|apply Ax|apply Au);· first|with_reducible rfl|omega|(simp (disch:=omega) only [gT,bq,e00,B8,Br,E6,L1,t1,hh]<;>omega))
   |(with_reducible apply Av;· first|with_reducible rfl|(simp (disch:=omega) only [gF,bq,e00,B8,Br,E6,L1,t1,hh]<;>omega))
  try simp (disch:=omega) only [bq,e00,B8,Br,E6,L1,t1,hh]
  all_goals rfl
 ·have hne:(A3 c != 0)=true:=by simp [h0]
  rw [A6 h0] at bq;rw [A6 h0]
  try unfold Aa
  repeat first
   |((with_reducible first|apply Aw|apply Al|apply Ay|apply Bg|apply Am);· first|with_reducible rfl|(simp (disch:=omega) only [bq,hne]<;>with_reducible rfl))
   |((with_reducible first|apply Ax|apply Au);· first|with_reducible rfl|omega|(simp (disch:=omega) only [gT,bq,hne]<;>omega))
   |(with_reducible apply Av;· first|with_reducible rfl|(simp (disch:=omega) only [gF,bq,hne]<;>omega))
  try simp (disch:=omega) only [bq,hne]
  all_goals rfl
theorem WP (hfu:1000<=fu)(hw:c.wf)(hs1:c.subj.size<=9223372036854775807)(hs2:c.iss.size<=9223372036854775807)(k:Ky):Ae C0 Tryz.prog fu (d+9) Mj [.agg c.cells,.agg k.cells]=some ⟨[.sc (.int .i64 (Uc c k))],[]⟩:=by
 refine (Uw fu (d+8) c.subj c.iss c.serial c.key.h c.key.root c.fr c.un c.auth c.path c.model c.sig.leaf c.sig.chains.length (Af .u64 c.sig.chains) c.sig.path.length (Af .u64 c.sig.path) k.h k.root).trans ?_;have bq:=WQ (fu:=fu) (d:=d) hfu hw hs1 hs2;simp only [Ce.cells] at bq;unfold GR at bq;unfold Uc;by_cases h0:A3 c=0
 ·rw [B4 h0] at bq;rw [B4 h0];have e00:((0:Int) != 0)=false:=rfl;have vr:=Ad0 (xs:=J9) (fu:=fu) (d:=d) hfu k (Lq c) c.sig;simp only [Ky.cells,Sg.cells] at vr
  try unfold Aa
  repeat first
   |((with_reducible first|apply Aw|apply Al|apply Ay|apply Bg|apply Am);· first|with_reducible rfl|(simp (disch:=omega) only [bq,e00,vr]<;>with_reducible rfl))
   |((with_reducible first|apply Ax|apply Au);· first|with_reducible rfl|omega|(simp (disch:=omega) only [gT,bq,e00,vr]<;>omega))
   |(with_reducible apply Av;· first|with_reducible rfl|(simp (disch:=omega) only [gF,bq,e00,vr]<;>omega))
  try simp (disch:=omega) only [bq,e00,vr]
  all_goals rfl
 ·have hne:(A3 c != 0)=true:=by simp [h0]
  rw [A6 h0] at bq;rw [A6 h0]
  try unfold Aa
  repeat first
   |((with_reducible first|apply Aw|apply Al|apply Ay|apply Bg|apply Am);· first|with_reducible rfl|(simp (disch:=omega) only [bq,hne]<;>with_reducible rfl))
   |((with_reducible first|apply Ax|apply Au);· first|with_reducible rfl|omega|(simp (disch:=omega) only [gT,bq,hne]<;>omega))
   |(with_reducible apply Av;· first|with_reducible rfl|(simp (disch:=omega) only [gF,bq,hne]<;>omega))
  try simp (disch:=omega) only [bq,hne]
  all_goals rfl
theorem Abe (hfu:1000<=fu)(hw:c.wf)(hs1:c.subj.size<=9223372036854775807)(hs2:c.iss.size<=9223372036854775807)(hp:c.sig.path.length<=1000000000)(hf:c.sig.path.length<fu):Ae C0 Tryz.prog fu (d+8) Lx [.agg c.cells]=some ⟨RO c,[]⟩:=by
 refine (Un fu (d+7) c.subj c.iss c.serial c.key.h c.key.root c.fr c.un c.auth c.path c.model c.sig.leaf c.sig.chains.length (Af .u64 c.sig.chains) c.sig.path.length (Af .u64 c.sig.path)).trans ?_;have bq:=JC (fu:=fu) (d:=d) hfu hw hs1 hs2;simp only [Ce.cells] at bq;have es:=Aex (xs:=J9) (fu:=fu) (d:=d+5) hfu c.sig hp hf;simp only [Sg.cells] at es;unfold Hg at bq;unfold RO Ew;by_cases h0:A3 c=0
 ·have lb:=Lm h0;rw [B4 h0] at bq;rw [B4 h0];have L1:=Ak .u8 (Bf (Bb c));have t1:=J3 .u8 (Bf (Bb c));have e00:((0:Int) != 0)=false:=rfl;have e90:((9:Int) != 0)=true:=rfl;have e40:((4:Int) != 0)=true:=rfl;unfold IY;by_cases g1:De c.sig.path.length=true
  ·rw [B4 g1] at es;rw [B4 g1,A6 (by omega)]
   try unfold Aa
   repeat first
    |((with_reducible first|apply Aw|apply Al|apply Ay|apply Bg|apply Am);· first|with_reducible rfl|(simp (disch:=omega) only [bq,es,e00,e90]<;>with_reducible rfl))
    |((with_reducible first|apply Ax|apply Au);· first|with_reducible rfl|omega|(simp (disch:=omega) only [gT,bq,es,e00,e90]<;>omega))
    |(with_reducible apply Av;· first|with_reducible rfl|(simp (disch:=omega) only [gF,bq,es,e00,e90]<;>omega))
   try simp (disch:=omega) only [bq,es,e00,e90]
   all_goals rfl
  rw [A6 g1] at es;rw [A6 g1];by_cases g2:J6 c.sig.leaf c.sig.path.length=true
  ·rw [B4 g2] at es;rw [B4 g2,A6 (by omega)]
   try unfold Aa
   repeat first
    |((with_reducible first|apply Aw|apply Al|apply Ay|apply Bg|apply Am);· first|with_reducible rfl|(simp (disch:=omega) only [bq,es,e00,e90]<;>with_reducible rfl))
    |((with_reducible first|apply Ax|apply Au);· first|with_reducible rfl|omega|(simp (disch:=omega) only [gT,bq,es,e00,e90]<;>omega))
    |(with_reducible apply Av;· first|with_reducible rfl|(simp (disch:=omega) only [gF,bq,es,e00,e90]<;>omega))
   try simp (disch:=omega) only [bq,es,e00,e90]
   all_goals rfl
  rw [A6 g2] at es;rw [A6 g2];by_cases g3:c.sig.chains.length≠18
  ·rw [B4 g3] at es;rw [B4 g3,A6 (by omega)]
   try unfold Aa
   repeat first
    |((with_reducible first|apply Aw|apply Al|apply Ay|apply Bg|apply Am);· first|with_reducible rfl|(simp (disch:=omega) only [bq,es,e00,e40]<;>with_reducible rfl))
    |((with_reducible first|apply Ax|apply Au);· first|with_reducible rfl|omega|(simp (disch:=omega) only [gT,bq,es,e00,e40]<;>omega))
    |(with_reducible apply Av;· first|with_reducible rfl|(simp (disch:=omega) only [gF,bq,es,e00,e40]<;>omega))
   try simp (disch:=omega) only [bq,es,e00,e40]
   all_goals rfl
  rw [A6 g3] at es;rw [A6 g3,B4 rfl];have hb4:=H0 (h:=c.sig.path.length) (by simpa using g1)
  have ls:(DD c.sig).length=2+8*c.sig.chains.length+8*c.sig.path.length:=by
   unfold DD;simp only [J2,Jz,Df];omega
  have L2:=Ak .u8 (DD c.sig);have t2:=J3 .u8 (DD c.sig)
  have ea:Af .u8 (Bf (Bb c))++Af .u8 (DD c.sig)=Af .u8 (Hm c):=by
   unfold Hm;rw [Af,Af,Af,List.flatMap_append]
  have le:(Hm c).length=(Bf (Bb c)).length+(DD c.sig).length:=by unfold Hm;rw [Jz]
  have L3:=Ak .u8 (Hm c);have t3:List.take ((Bf (Bb c)).length+(DD c.sig).length) (Af .u8 (Hm c))=Af .u8 (Hm c):=R9 (by omega)
  rw [le] at L3 ⊢;generalize (Bf (Bb c)).length=n1 at *
  generalize (DD c.sig).length=n2 at *
  generalize Af .u8 (Bf (Bb c))=c1 at *
  generalize Af .u8 (DD c.sig)=c2 at *
  try unfold Aa
  repeat first
   |((with_reducible first|apply Aw|apply Al|apply Ay|apply Bg|apply Am);· first|with_reducible rfl|(simp (disch:=omega) only [bq,es,e00,B8,Br,E6,L1,t1,L2,t2,ea,L3,t3]<;>with_reducible rfl))
   |((with_reducible first|apply Ax|apply Au);· first|with_reducible rfl|omega|(simp (disch:=omega) only [gT,bq,es,e00,B8,Br,E6,L1,t1,L2,t2,ea,L3,t3]<;>omega))
   |(with_reducible apply Av;· first|with_reducible rfl|(simp (disch:=omega) only [gF,bq,es,e00,B8,Br,E6,L1,t1,L2,t2,ea,L3,t3]<;>omega))
  try simp (disch:=omega) only [bq,es,e00,B8,Br,E6,L1,t1,L2,t2,ea,L3,t3]
  all_goals rfl
 ·have hne:(A3 c != 0)=true:=by simp [h0]
  rw [A6 h0] at bq;rw [A6 h0,A6 h0]
  try unfold Aa
  repeat first
   |((with_reducible first|apply Aw|apply Al|apply Ay|apply Bg|apply Am);· first|with_reducible rfl|(simp (disch:=omega) only [bq,hne]<;>with_reducible rfl))
   |((with_reducible first|apply Ax|apply Au);· first|with_reducible rfl|omega|(simp (disch:=omega) only [gT,bq,hne]<;>omega))
   |(with_reducible apply Av;· first|with_reducible rfl|(simp (disch:=omega) only [gF,bq,hne]<;>omega))
  try simp (disch:=omega) only [bq,hne]
  all_goals rfl
end
end
section
open Go.IntKind (wrap)
theorem aci {its:List It}{i:Nat}{x:It}(h:its[i]?=some x):(Cg its).getD (i*3) .top=.sc (.int .i64 x.k)∧(Cg its).getD (i*3+1) .top=.sc (.int .u64 x.n)∧(Cg its).getD (i*3+2) .top=.sc (.string x.s):=
 ⟨Ea It.cells_len h (j:=0) (by omega),Ea It.cells_len h (j:=1) (by omega),Ea It.cells_len h (j:=2) (by omega)⟩
def Mu:List Int:=[5,4,4,1,3,1,1,7,1,1]
def S9 (its:List It):Bool:=its.map (·.k)==Mu
section
variable {fu d:Nat}
theorem FF {call:Ai}{a0n:Nat}{a0:List PV}{its:List It}(h10:its.length=10):∀(r:List It)(rk:List Int)(i nn:Nat),its.drop i=r->Mu.drop i=rk->r.length<nn->i<=10 ->
  Fp fu call a0n a0 nn its.length (Cg its) (its.length:Int) (i:Int) (Af .i64 Mu)=some ⟨[.sc (.bool (r.map (·.k)==rk))],[]⟩
 |_,_,_,0,_,_,h,_=>by omega
 |[],rk,i,nn+1,h,hk,hn,hi=>by
  have:=drop_nil h;obtain rfl:i=10:=by omega
  subst hk;rw [I3,Dr _ _ _ (by omega)]
  rfl
 |x::r,rk,i,nn+1,h,hk,hn,hi=>by
  obtain ⟨h1,h2,h3⟩:=Cs h;simp only [J2] at hn;obtain ⟨k,hk1⟩:∃k,Mu[i]?=some k:=⟨_,List.getElem?_eq_getElem (by show i<10;omega)⟩
  have hk2:rk=k::Mu.drop (i+1):=by
   rw [←hk,List.drop_eq_getElem_cons (by show i<10;omega)]
   congr 1
   rw [List.getElem?_eq_getElem (by show i<10;omega)] at hk1
   injection hk1
  subst hk2;have w:wrap .i64 ((i:Int)+1)=((i+1:Nat):Int):=by rw [Aj (by omega) (by omega)];omega
  obtain ⟨c0,c1,c2⟩:=aci h2;have ck:=W5 (k:=.i64) hk1;have ih:=FF (call:=call) (a0n:=a0n) (a0:=a0) h10 r _ (i+1) nn h3 rfl (by omega) (by omega)
  rw [I3,Zzw];by_cases e:x.k=k
  ·have b0:(x.k != k)=false:=by simp [e]
   have e1:(x.k::List.map (·.k) r==k::Mu.drop (i+1))=(List.map (·.k) r==Mu.drop (i+1)):=by simp [e]
   rw [e1,←ih];simp (disch:=omega) only [Bz,He,B8,Br,c0,c1,c2,ck,b0,w]
  ·have b0:(x.k != k)=true:=by simp [e]
   have e1:(x.k::List.map (·.k) r==k::Mu.drop (i+1))=false:=by simp [e]
   rw [e1];simp (disch:=omega) only [Bz,He,B8,Br,c0,c1,c2,ck,b0,w]
theorem Ae1 (hfu:1000<=fu)(its:List It):Ae C0 Tryz.prog fu (d+1) Lo [.lst false 3 its.length (Cg its)]=some ⟨[.sc (.bool (S9 its))],[]⟩:=by
 rw [Vo];show Ha _ _ _ _ _ _ _=_;rw [Rx (hnn:=by omega),Ro (hnn:=by omega)]
 by_cases h:its.length=10
 ·have b0:((its.length:Int) != 10)=false:=by simp;omega
  rw [b0,YY];exact FF (call:=Ae C0 Tryz.prog fu d) h its Mu 0 fu rfl rfl (by omega) (by omega)
 ·have b0:((its.length:Int) != 10)=true:=by simp;omega
  have e:S9 its=false:=by
   unfold S9;cases q:(its.map (·.k)==Mu)
   ·rfl
   ·have:=congrArg List.length (eq_of_beq q);simp [Mu] at this;omega
  rw [b0,XZ,e]
theorem XQ {a b:List Int}(ha:Jy a)(hb:Jy b)(h:(a.map fun n=>n.toNat.toUInt8)=(b.map fun n=>n.toNat.toUInt8)):a=b:=by
 have e:Ca a=Ca b:=by unfold Ca;rw [h]
 rw [←Nq ha,←Nq hb,e]
theorem Azv {a b:List Int}(ha:Jy a)(hb:Jy b):(Array.toList (ByteArray.data (ByteArray.mk (List.toArray (a.map fun n=>n.toNat.toUInt8))))==Array.toList (ByteArray.data (ByteArray.mk (List.toArray (b.map fun n=>n.toNat.toUInt8)))))=decide (a=b):=by
 by_cases h:a=b
 ·subst h;simp
 ·have:(List.map (fun n=>n.toNat.toUInt8) a)≠(List.map (fun n=>n.toNat.toUInt8) b):=fun e=>h (XQ ha hb e)
  simp only [h,decide_false]
  simpa using this
theorem MA {a b:List Int}(ha:Jy a)(hb:Jy b):Ae C0 Tryz.prog fu (d+1) Xj [.lst false 1 a.length (Af .u8 a),.lst false 1 b.length (Af .u8 b)]=some ⟨[.sc (.bool (decide (a=b)))],[]⟩:=by
 rw [LU];have La:=Ak .u8 a;have Lb:=Ak .u8 b;have ba:=Gw a;have bb:=Gw b;have q:=Azv ha hb;simp (disch:=omega) only [Bz,La,Lb,ba,bb,q]
end
structure Ce.ok (c:Ce):Prop where
 ser:isU c.serial
 mod:isU c.model
 root:isU c.key.root
 sg:c.sig.ok
theorem Ce.ok.wf {c:Ce}(h:c.ok):c.wf:=⟨h.ser.1,h.mod.1⟩
def Mz (x1 x2 x3 x5 x6 x7 x8 x9:It)(k:Ky)(s:Sg):Ce:=⟨x1.s,x2.s,x3.n,k,wrap .i64 x5.n,wrap .i64 x6.n,x7.n==1,wrap .i64 x8.n,x9.n,s⟩
def NC (b:List Int):Option Ce:=
 if (Jd 1000 [] 0 b 0 []).2.2≠0 then none else
 match (Jd 1000 [] 0 b 0 []).1 with
 |[_,x1,x2,x3,x4,x5,x6,x7,x8,x9]=>(match JA (Id x4.s),sgD (b.drop (Jd 1000 [] 0 b 0 []).2.1) with|some k,some s=>some (Mz x1 x2 x3 x5 x6 x7 x8 x9 k s)|_,_=>none)
 |_=>none
def QW (b:List Int):Ce × Int:=
 if b.length>512 then (XC,8) else match NC b with|some c=>if Ew c=0∧Hm c=b∧c.serial<=18446744073709551615∧c.model<=18446744073709551615 then (c,0) else (XC,2)|none=>(XC,2)
theorem R7 {c:Ce}(h:Ew c=0):A3 c=0∧De c.key.h=false∧De c.sig.path.length=false∧J6 c.sig.leaf c.sig.path.length=false∧c.sig.chains.length=18∧0<=c.fr∧c.fr<=c.un∧c.un<=1099511627776∧0<=c.path∧c.path<=2:=by
 unfold Ew at h;by_cases h0:A3 c=0
 rotate_left
 ·rw [A6 h0] at h;exact absurd h h0
 rw [B4 h0] at h;unfold IY at h;have hb:=h0;unfold A3 at hb
 repeat' (split at h;· cases h)
 repeat' (split at hb;· cases hb)
 refine ⟨h0,by simp_all,by simp_all,by simp_all,by omega,by omega,by omega,by omega,by omega,by omega⟩
theorem UX {c:Ce}(hc:c.ok)(h:Ew c=0){m:Nat}(hm:10<m):Jd m [] 0 (Hm c) 0 []=(Bb c,(Bf (Bb c)).length,0):=by
 obtain ⟨h0,h1,h2,h3,h4,h5,h6,h7,h8,h9⟩:=R7 h
 have r:=NI (b:=Hm c) (rest:=DD c.sig) (Bb c) [] 0 0 m [] (Yb hc.wf h0) (by
  intro x hx;have u1:=hc.ser;have u2:=hc.mod;simp only [Bb,List.mem_cons,List.not_mem_nil,or_false] at hx;rcases hx with rfl|rfl|rfl|rfl|rfl|rfl|rfl|rfl|rfl|rfl
  all_goals simp only
  all_goals try split
  all_goals omega) rfl (by simpa [Bb] using hm)
 simpa using r
theorem JH {c:Ce}(h:Ew c=0):Mz ⟨4,0,c.subj⟩ ⟨4,0,c.iss⟩ ⟨1,c.serial,F8⟩ ⟨1,c.fr,F8⟩ ⟨1,c.un,F8⟩ ⟨7,(if c.auth=true then 1 else 0),F8⟩ ⟨1,c.path,F8⟩ ⟨1,c.model,F8⟩ c.key c.sig=c:=by
 obtain ⟨h0,h1,h2,h3,h4,h5,h6,h7,h8,h9⟩:=R7 h;obtain ⟨subj,iss,serial,key,fr,un,auth,path,model,sig⟩:=c;simp only at *
 unfold Mz;simp only;rw [Aj (by omega) (by omega),Aj (by omega) (by omega),Aj (by omega) (by omega)]
 cases auth<;>rfl
theorem KO {c:Ce}(h:Ew c=0):(Hm c).length<=400:=by
 obtain ⟨h0,h1,h2,h3,h4,h5,h6,h7,h8,h9⟩:=R7 h;have:=Lm h0;have hb:=H0 h2;unfold Hm DD;simp only [Jz,J2,Df];omega
theorem Afr {c:Ce}(hw:c.wf)(h:Ew c=0):Jy (Hm c):=by
 intro x hx;rcases List.mem_append.1 hx with hx|hx
 ·exact EB hw (R7 h).1 x hx
 ·exact Asc _ x hx
theorem Ahg {c:Ce}(hc:c.ok)(h:Ew c=0):JA (Id (Ca (Io c.key)))=some c.key:=by
 rw [Nq Anq];exact Aeg (R7 h).2.1 hc.root
theorem Al7 {c:Ce}(hc:c.ok)(h:Ew c=0):sgD ((Hm c).drop (Bf (Bb c)).length)=some c.sig:=by
 obtain ⟨h0,h1,h2,h3,h4,h5,h6,h7,h8,h9⟩:=R7 h;unfold Hm;rw [List.drop_left' rfl];exact Ak4 hc.sg h2 h3 h4
theorem TL {c:Ce}(hc:c.ok)(h:Ew c=0):QW (Hm c)=(c,0):=by
 have r:=UX hc h (m:=1000) (by omega)
 have k:=Ahg hc h;have s:=Al7 hc h;have cs:=JH h;have l:=KO h;have u1:=hc.ser;have u2:=hc.mod
 have:NC (Hm c)=some c:=by
  unfold NC;rw [r];simp only [Bb];simp only [Bb] at s;rw [A6 (by simp),k,s]
  simp only [cs]
 unfold QW;rw [A6 (by omega),this]
 simp only;rw [B4 ⟨h,by trivial,u1.2,u2.2⟩]
theorem HO {x1 x2 x3 x5 x6 x7 x8 x9:It}{k:Ky}{s:Sg}(h3:OkX x3)(h9:OkX x9)(hk:isU k.root)(hs:s.ok):(Mz x1 x2 x3 x5 x6 x7 x8 x9 k s).ok:=⟨⟨h3.n0,h3.n1⟩,⟨h9.n0,h9.n1⟩,hk,hs⟩
theorem Ais {b:List Int}(hb:Jy b){c:Ce}(h:NC b=some c):c.ok:=by
 have ok:=(Zs hb 1000 [] 0 0 [] (by omega) (by simp)).2
 unfold NC at h;split at h
 ·cases h
 ·split at h
  ·rename_i e;rw [e] at ok;split at h
   ·rename_i hk hs;cases h;exact HO (ok _ (by simp)) (ok _ (by simp)) (RQ hk).2 (Aad hs).1
   ·cases h
  ·cases h
theorem Adb {b:List Int}(hB:Jy b)(hl:b.length<=512)(hn:∀c:Ce,c.ok->Ew c=0->Hm c≠b):QW b=(XC,2):=by
 unfold QW;rw [A6 (by omega)]
 cases h:NC b with
 |none=>rfl
 |some c=>
  simp only;rw [A6];intro ⟨h1,h2,_⟩;exact hn c (Ais hB h) h1 h2
end
section
open Go.IntKind (wrap)
def Adm (b:List Int)(used:Nat):List It->Ce × Int
 |[_,x1,x2,x3,x4,x5,x6,x7,x8,x9]=>(match JA (Id x4.s),sgD (b.drop used) with
  |some k,some s=>if Ew (Mz x1 x2 x3 x5 x6 x7 x8 x9 k s)=0∧Hm (Mz x1 x2 x3 x5 x6 x7 x8 x9 k s)=b then (Mz x1 x2 x3 x5 x6 x7 x8 x9 k s,0) else (XC,2)
  |_,_=>(XC,2))
 |_=>(XC,2)
def EL (b:List Int)(r:List It × Nat × Int):Ce × Int:=
 if b.length>512 then (XC,8) else if r.2.2≠0 then (XC,2) else if S9 r.1=false then (XC,2) else Adm b r.2.1 r.1
theorem UV {its:List It}(h:S9 its=true):its.length=10:=by
 have:=congrArg List.length (eq_of_beq h)
 simpa [Mu] using this
theorem Aig {its:List It}(h:its.length=10):∃x0 x1 x2 x3 x4 x5 x6 x7 x8 x9,its=[x0,x1,x2,x3,x4,x5,x6,x7,x8,x9]:=by
 match its,h with
 |[x0,x1,x2,x3,x4,x5,x6,x7,x8,x9],_=>exact ⟨x0,x1,x2,x3,x4,x5,x6,x7,x8,x9,rfl⟩
theorem Af9 {c:Ce}(hc:c.ok)(h:Ew c=0):Adm (Hm c) (Bf (Bb c)).length (Bb c)=(c,0):=by
 have k:=Ahg hc h;have s:=Al7 hc h;have cs:=JH h
 have e:Adm (Hm c) (Bf (Bb c)).length (Bb c)=(match JA (Id (Ca (Io c.key))),sgD ((Hm c).drop (Bf (Bb c)).length) with
  |some k,some s=>if Ew (Mz ⟨4,0,c.subj⟩ ⟨4,0,c.iss⟩ ⟨1,c.serial,F8⟩ ⟨1,c.fr,F8⟩ ⟨1,c.un,F8⟩ ⟨7,(if c.auth=true then 1 else 0),F8⟩ ⟨1,c.path,F8⟩ ⟨1,c.model,F8⟩ k s)=0∧Hm (Mz ⟨4,0,c.subj⟩ ⟨4,0,c.iss⟩ ⟨1,c.serial,F8⟩ ⟨1,c.fr,F8⟩ ⟨1,c.un,F8⟩ ⟨7,(if c.auth=true then 1 else 0),F8⟩ ⟨1,c.path,F8⟩ ⟨1,c.model,F8⟩ k s)=Hm c then (Mz ⟨4,0,c.subj⟩ ⟨4,0,c.iss⟩ ⟨1,c.serial,F8⟩ ⟨1,c.fr,F8⟩ ⟨1,c.un,F8⟩ ⟨7,(if c.auth=true then 1 else 0),F8⟩ ⟨1,c.path,F8⟩ ⟨1,c.model,F8⟩ k s,0) else (XC,2)
  |_,_=>(XC,2)):=rfl
 rw [e,k,s];simp only [cs];rw [B4 ⟨h,by trivial⟩]
theorem Aeu {b:List Int}{used:Nat}{its:List It}(hx:∀x∈its,OkX x)(hn:∀c:Ce,c.ok->Ew c=0->Hm c≠b):Adm b used its=(XC,2):=by
 unfold Adm;split
 ·split
  ·rename_i hk hs;rw [A6];intro ⟨h1,h2⟩;exact hn _ (HO (hx _ (by simp)) (hx _ (by simp)) (RQ hk).2 (Aad hs).1) h1 h2
  ·rfl
 ·rfl
theorem Adj (c:Ce):S9 (Bb c)=true:=rfl
theorem Ai8 {b:List Int}(hb:Jy b){r:List It × Nat × Int}(hx:∀x∈r.1,OkX x)(hc:∀c:Ce,c.ok->Ew c=0->Hm c=b->r=(Bb c,(Bf (Bb c)).length,0)):EL b r=QW b:=by
 by_cases h5:b.length>512
 ·unfold EL QW;rw [B4 h5,B4 h5]
 by_cases hex:∃c:Ce,c.ok∧Ew c=0∧Hm c=b
 ·obtain ⟨c,c1,c2,c3⟩:=hex;have e:=hc c c1 c2 c3;subst c3;rw [TL c1 c2,e];unfold EL;rw [A6 h5,A6 (by simp),A6 (by simp [Adj])]
  exact Af9 c1 c2
 ·have hn:∀c:Ce,c.ok->Ew c=0->Hm c≠b:=fun c h1 h2 h3=>hex ⟨c,h1,h2,h3⟩
  rw [Adb hb (by omega) hn]
  unfold EL;rw [A6 h5,Aeu hx hn];split
  ·rfl
  ·split<;>rfl
section
variable {fu d:Nat}
theorem Acw (hfu:1000<=fu){b:List Int}(hb:Jy b)(hl:b.length<=1000000):
  Ae C0 Tryz.prog fu (d+9) Hu [.lst false 1 b.length (Af .u8 b)]=some ⟨[.agg (EL b (Jd fu [] 0 b 0 [])).1.cells,.sc (.int .i64 (EL b (Jd fu [] 0 b 0 [])).2)],[]⟩:=by
 refine (Vd fu (d+8) b.length (Af .u8 b)).trans ?_;have dec:=Ado (fu:=fu) (d:=d+3) hfu hb hl;obtain ⟨hat,hox⟩:=Zs hb fu [] 0 0 [] (by omega) (by simp)
 generalize Jd fu [] 0 b 0 []=r at dec hat hox ⊢;obtain ⟨its,used,e⟩:=r;simp only at hat hox;unfold XV at dec;simp only at dec;unfold EL;simp only;by_cases h5:b.length>512
 ·rw [B4 h5]
  try unfold Aa
  repeat first
   |((with_reducible first|apply Aw|apply Al|apply Ay|apply Ar|apply A7|apply Bg|apply Bx|apply Am);· first|with_reducible rfl|(simp (disch:=omega) only [B8]<;>with_reducible rfl))
   |((with_reducible first|apply Ax|apply Au);· first|with_reducible rfl|omega|(simp (disch:=omega) only [gT,B8]<;>omega))
   |(with_reducible apply Av;· first|with_reducible rfl|(simp (disch:=omega) only [gF,B8]<;>omega))
  try simp (disch:=omega) only [B8]
  all_goals rfl
 rw [A6 h5];by_cases he:e=0
 rotate_left
 ·rw [B4 he];have he':(e != 0)=true:=by simp [he]
  try unfold Aa
  repeat first
   |((with_reducible first|apply Aw|apply Al|apply Ay|apply Ar|apply A7|apply Bg|apply Bx|apply Am);· first|with_reducible rfl|(simp (disch:=omega) only [dec,he']<;>with_reducible rfl))
   |((with_reducible first|apply Ax|apply Au);· first|with_reducible rfl|omega|(simp (disch:=omega) only [gT,dec,he']<;>omega))
   |(with_reducible apply Av;· first|with_reducible rfl|(simp (disch:=omega) only [gF,dec,he']<;>omega))
  try simp (disch:=omega) only [dec,he']
  all_goals rfl
 rw [A6 (by simp [he])]
 subst he;have e00:((0:Int) != 0)=false:=rfl;have e20:((2:Int) != 0)=true:=rfl;have ib:=Ae1 (fu:=fu) (d:=d+7) hfu its;have LT:=Ru its;have tT:List.take (its.length*3) (Cg its)=Cg its:=R9 (by omega)
 cases hib:S9 its
 ·rw [hib] at ib;rw [B4 rfl]
  try unfold Aa
  repeat first
   |((with_reducible first|apply Aw|apply Al|apply Ay|apply Ar|apply A7|apply Bg|apply Bx|apply Am);· first|with_reducible rfl|(simp (disch:=omega) only [dec,e00,E6,Br,LT,tT,ib,Dd,Dy]<;>with_reducible rfl))
   |((with_reducible first|apply Ax|apply Au);· first|with_reducible rfl|omega|(simp (disch:=omega) only [gT,dec,e00,E6,Br,LT,tT,ib,Dd,Dy]<;>omega))
   |(with_reducible apply Av;· first|with_reducible rfl|(simp (disch:=omega) only [gF,dec,e00,E6,Br,LT,tT,ib,Dd,Dy]<;>omega))
  try simp (disch:=omega) only [dec,e00,E6,Br,LT,tT,ib,Dd,Dy]
  all_goals rfl
 rw [hib] at ib;rw [A6 (by simp)]
 have h10:=UV hib;obtain ⟨x0,x1,x2,x3,x4,x5,x6,x7,x8,x9,rfl⟩:=Aig h10;clear hib;have o1:=hox x1 (by simp)
 have o2:=hox x2 (by simp)
 have o3:=hox x3 (by simp)
 have o4:=hox x4 (by simp)
 have o9:=hox x9 (by simp)
 clear hox;have g14:List.getD (Cg [x0,x1,x2,x3,x4,x5,x6,x7,x8,x9]) 14 .top=.sc (.string x4.s):=rfl;have g5:List.getD (Cg [x0,x1,x2,x3,x4,x5,x6,x7,x8,x9]) 5 .top=.sc (.string x1.s):=rfl;have g8:List.getD (Cg [x0,x1,x2,x3,x4,x5,x6,x7,x8,x9]) 8 .top=.sc (.string x2.s):=rfl;have g10:List.getD (Cg [x0,x1,x2,x3,x4,x5,x6,x7,x8,x9]) 10 .top=.sc (.int .u64 x3.n):=rfl;have g16:List.getD (Cg [x0,x1,x2,x3,x4,x5,x6,x7,x8,x9]) 16 .top=.sc (.int .u64 x5.n):=rfl;have g19:List.getD (Cg [x0,x1,x2,x3,x4,x5,x6,x7,x8,x9]) 19 .top=.sc (.int .u64 x6.n):=rfl;have g22:List.getD (Cg [x0,x1,x2,x3,x4,x5,x6,x7,x8,x9]) 22 .top=.sc (.int .u64 x7.n):=rfl;have g25:List.getD (Cg [x0,x1,x2,x3,x4,x5,x6,x7,x8,x9]) 25 .top=.sc (.int .u64 x8.n):=rfl;have g28:List.getD (Cg [x0,x1,x2,x3,x4,x5,x6,x7,x8,x9]) 28 .top=.sc (.int .u64 x9.n):=rfl;have ln:[x0,x1,x2,x3,x4,x5,x6,x7,x8,x9].length=10:=rfl
 rw [ln] at dec ib LT tT;generalize Cg [x0,x1,x2,x3,x4,x5,x6,x7,x8,x9]=T at *
 clear h10;have hs4:=o4.s1;have L4:(Dl x4.s).length=x4.s.size:=by rw [Lt,Ak,Oh]
 have t4:List.take x4.s.size (Dl x4.s)=Af .u8 (Id x4.s):=by rw [Lt,R9 (by rw [Ak,Oh];omega)]
 have dk:=Acf (xs:=J9) (fu:=fu) (d:=d+6) hfu (YS x4.s);rw [Oh] at dk;unfold Adm;simp only;cases hk:JA (Id x4.s) with
 |none=>
  rw [hk] at dk;simp only [YM,Ky.cells] at dk
  try unfold Aa
  repeat first
   |((with_reducible first|apply Aw|apply Al|apply Ay|apply Ar|apply A7|apply Bg|apply Bx|apply Am);· first|with_reducible rfl|(simp (disch:=omega) only [dec,e00,e20,E6,Br,B8,Nat.reduceMul,LT,tT,ib,g14,L4,t4,dk,Dd,Dy]<;>with_reducible rfl))
   |((with_reducible first|apply Ax|apply Au);· first|with_reducible rfl|omega|(simp (disch:=omega) only [gT,dec,e00,e20,E6,Br,B8,Nat.reduceMul,LT,tT,ib,g14,L4,t4,dk,Dd,Dy]<;>omega))
   |(with_reducible apply Av;· first|with_reducible rfl|(simp (disch:=omega) only [gF,dec,e00,e20,E6,Br,B8,Nat.reduceMul,LT,tT,ib,g14,L4,t4,dk,Dd,Dy]<;>omega))
  try simp (disch:=omega) only [dec,e00,e20,E6,Br,B8,Nat.reduceMul,LT,tT,ib,g14,L4,t4,dk,Dd,Dy]
  all_goals rfl
 |some k=>
  rw [hk] at dk;simp only [YM,Ky.cells] at dk;obtain ⟨k1,k2⟩:=RQ hk;have ds:=Acl (xs:=J9) (fu:=fu) (d:=d+6) hfu (l:=b.drop used) (fun x hx=>hb x (List.mem_of_mem_drop hx))
  rw [List.length_drop] at ds;have tb:List.take (b.length-used) (List.drop used (Af .u8 b))=Af .u8 (b.drop used):=by rw [H1,R9 (by rw [Ak,List.length_drop];omega)]
  have nu:Int.toNat (used:Int)=used:=He used;cases hs:sgD (b.drop used) with
  |none=>
   rw [hs] at ds;simp only [Abj,Sg.owned] at ds
   try unfold Aa
   repeat first
    |((with_reducible first|apply Aw|apply Al|apply Ay|apply Ar|apply A7|apply Bg|apply Bx|apply Am);· first|with_reducible rfl|(simp (disch:=omega) only [dec,e00,e20,E6,Br,B8,Nat.reduceMul,LT,tT,ib,g14,L4,t4,dk,nu,tb,ds,Dd,Dy]<;>with_reducible rfl))
    |((with_reducible first|apply Ax|apply Au);· first|with_reducible rfl|omega|(simp (disch:=omega) only [gT,dec,e00,e20,E6,Br,B8,Nat.reduceMul,LT,tT,ib,g14,L4,t4,dk,nu,tb,ds,Dd,Dy]<;>omega))
    |(with_reducible apply Av;· first|with_reducible rfl|(simp (disch:=omega) only [gF,dec,e00,e20,E6,Br,B8,Nat.reduceMul,LT,tT,ib,g14,L4,t4,dk,nu,tb,ds,Dd,Dy]<;>omega))
   try simp (disch:=omega) only [dec,e00,e20,E6,Br,B8,Nat.reduceMul,LT,tT,ib,g14,L4,t4,dk,nu,tb,ds,Dd,Dy]
   all_goals rfl
  |some s=>
   rw [hs] at ds;simp only [Abj,Sg.owned] at ds;obtain ⟨s1,s2,s3⟩:=Aad hs;have cok:(Mz x1 x2 x3 x5 x6 x7 x8 x9 k s).ok:=HO o3 o9 k2 s1;have en:=Abe (fu:=fu) (d:=d) (c:=Mz x1 x2 x3 x5 x6 x7 x8 x9 k s) hfu cok.wf (Nat.le_trans o1.s1 (by omega)) (Nat.le_trans o2.s1 (by omega)) (Nat.le_trans s2 (by omega)) (Nat.lt_of_le_of_lt s2 (by omega))
   have ec:(Mz x1 x2 x3 x5 x6 x7 x8 x9 k s).cells=[.sc (.string x1.s),.sc (.string x2.s),.sc (.int .u64 x3.n),.sc (.int .i64 k.h),.sc (.int .u64 k.root),.sc (.int .i64 (wrap .i64 x5.n)),.sc (.int .i64 (wrap .i64 x6.n)),.sc (.bool (x7.n==1)),.sc (.int .i64 (wrap .i64 x8.n)),.sc (.int .u64 x9.n),.sc (.int .i64 s.leaf),.lst false 1 s.chains.length (Af .u64 s.chains),.lst false 1 s.path.length (Af .u64 s.path)]:=rfl;have eB:=fun h=>Afr (c:=Mz x1 x2 x3 x5 x6 x7 x8 x9 k s) cok.wf h
   have eL:=fun h=>KO (c:=Mz x1 x2 x3 x5 x6 x7 x8 x9 k s) h
   have Lc:=Ak .u64 s.chains;have Lp:=Ak .u64 s.path;have tc:=J3 .u64 s.chains;have tp:=J3 .u64 s.path;simp only;generalize Mz x1 x2 x3 x5 x6 x7 x8 x9 k s=c at *
   rw [ec] at en;unfold RO at en;by_cases hz:Ew c=0
   rotate_left
   ·have hz':(Ew c != 0)=true:=by simp [hz]
    rw [A6 hz] at en;rw [A6 (fun h=>hz h.1)]
    try unfold Aa
    repeat first
     |((with_reducible first|apply Aw|apply Al|apply Ay|apply Ar|apply A7|apply Bg|apply Bx|apply Am);· first|with_reducible rfl|(simp (disch:=omega) only [dec,e00,e20,E6,Br,B8,Nat.reduceMul,LT,tT,ib,g14,L4,t4,dk,nu,tb,ds,g5,g8,g10,g16,g19,g22,g25,g28,Lc,Lp,tc,tp,en,hz',Dd,Dy]<;>with_reducible rfl))
     |((with_reducible first|apply Ax|apply Au);· first|with_reducible rfl|omega|(simp (disch:=omega) only [gT,dec,e00,e20,E6,Br,B8,Nat.reduceMul,LT,tT,ib,g14,L4,t4,dk,nu,tb,ds,g5,g8,g10,g16,g19,g22,g25,g28,Lc,Lp,tc,tp,en,hz',Dd,Dy]<;>omega))
     |(with_reducible apply Av;· first|with_reducible rfl|(simp (disch:=omega) only [gF,dec,e00,e20,E6,Br,B8,Nat.reduceMul,LT,tT,ib,g14,L4,t4,dk,nu,tb,ds,g5,g8,g10,g16,g19,g22,g25,g28,Lc,Lp,tc,tp,en,hz',Dd,Dy]<;>omega))
    try simp (disch:=omega) only [dec,e00,e20,E6,Br,B8,Nat.reduceMul,LT,tT,ib,g14,L4,t4,dk,nu,tb,ds,g5,g8,g10,g16,g19,g22,g25,g28,Lc,Lp,tc,tp,en,hz',Dd,Dy]
    all_goals rfl
   rw [B4 hz] at en;have be:=MA (fu:=fu) (d:=d+7) (eB hz) hb;have LE:=Ak .u8 (Hm c);have tE:=J3 .u8 (Hm c);by_cases hq:Hm c=b
   ·rw [B4 ⟨hz,hq⟩];simp only [hq,decide_true] at be en LE tE;simp only [ec]
    try unfold Aa
    repeat first
     |((with_reducible first|apply Aw|apply Al|apply Ay|apply Ar|apply A7|apply Bg|apply Bx|apply Am);· first|with_reducible rfl|(simp (disch:=omega) only [dec,e00,e20,E6,Br,B8,Nat.reduceMul,LT,tT,ib,g14,L4,t4,dk,nu,tb,ds,g5,g8,g10,g16,g19,g22,g25,g28,Lc,Lp,tc,tp,en,LE,tE,be,Dd,Dy]<;>with_reducible rfl))
     |((with_reducible first|apply Ax|apply Au);· first|with_reducible rfl|omega|(simp (disch:=omega) only [gT,dec,e00,e20,E6,Br,B8,Nat.reduceMul,LT,tT,ib,g14,L4,t4,dk,nu,tb,ds,g5,g8,g10,g16,g19,g22,g25,g28,Lc,Lp,tc,tp,en,LE,tE,be,Dd,Dy]<;>omega))
     |(with_reducible apply Av;· first|with_reducible rfl|(simp (disch:=omega) only [gF,dec,e00,e20,E6,Br,B8,Nat.reduceMul,LT,tT,ib,g14,L4,t4,dk,nu,tb,ds,g5,g8,g10,g16,g19,g22,g25,g28,Lc,Lp,tc,tp,en,LE,tE,be,Dd,Dy]<;>omega))
    try simp (disch:=omega) only [dec,e00,e20,E6,Br,B8,Nat.reduceMul,LT,tT,ib,g14,L4,t4,dk,nu,tb,ds,g5,g8,g10,g16,g19,g22,g25,g28,Lc,Lp,tc,tp,en,LE,tE,be,Dd,Dy]
    all_goals rfl
   ·rw [A6 (fun h=>hq h.2)]
    simp only [hq,decide_false] at be
    try unfold Aa
    repeat first
     |((with_reducible first|apply Aw|apply Al|apply Ay|apply Ar|apply A7|apply Bg|apply Bx|apply Am);· first|with_reducible rfl|(simp (disch:=omega) only [dec,e00,e20,E6,Br,B8,Nat.reduceMul,LT,tT,ib,g14,L4,t4,dk,nu,tb,ds,g5,g8,g10,g16,g19,g22,g25,g28,Lc,Lp,tc,tp,en,LE,tE,be,Dd,Dy]<;>with_reducible rfl))
     |((with_reducible first|apply Ax|apply Au);· first|with_reducible rfl|omega|(simp (disch:=omega) only [gT,dec,e00,e20,E6,Br,B8,Nat.reduceMul,LT,tT,ib,g14,L4,t4,dk,nu,tb,ds,g5,g8,g10,g16,g19,g22,g25,g28,Lc,Lp,tc,tp,en,LE,tE,be,Dd,Dy]<;>omega))
     |(with_reducible apply Av;· first|with_reducible rfl|(simp (disch:=omega) only [gF,dec,e00,e20,E6,Br,B8,Nat.reduceMul,LT,tT,ib,g14,L4,t4,dk,nu,tb,ds,g5,g8,g10,g16,g19,g22,g25,g28,Lc,Lp,tc,tp,en,LE,tE,be,Dd,Dy]<;>omega))
    try simp (disch:=omega) only [dec,e00,e20,E6,Br,B8,Nat.reduceMul,LT,tT,ib,g14,L4,t4,dk,nu,tb,ds,g5,g8,g10,g16,g19,g22,g25,g28,Lc,Lp,tc,tp,en,LE,tE,be,Dd,Dy]
    all_goals rfl
theorem Aks (hfu:1000<=fu){b:List Int}(hb:Jy b)(hl:b.length<=1000000):
  Ae C0 Tryz.prog fu (d+9) Hu [.lst false 1 b.length (Af .u8 b)]=some ⟨[.agg (QW b).1.cells,.sc (.int .i64 (QW b).2)],[]⟩:=by
 have e:EL b (Jd fu [] 0 b 0 [])=QW b:=Ai8 hb (Zs hb fu [] 0 0 [] (by omega) (by simp)).2 (fun c c1 c2 c3=>by subst c3;exact UX c1 c2 (by omega))
 rw [←e];exact Acw hfu hb hl
end
end
section
open Go.IntKind (wrap)
structure An where
 name:ByteArray
 key:Ky
structure Rv where
 iss:ByteArray
 ser:Int
 at_:Int
def An.cells (a:An):List PV:=[.sc (.string a.name),.sc (.int .i64 a.key.h),.sc (.int .u64 a.key.root)]
def Rv.cells (r:Rv):List PV:=[.sc (.string r.iss),.sc (.int .u64 r.ser),.sc (.int .i64 r.at_)]
def Nc (l:List An):List PV:=l.flatMap An.cells
def G0 (l:List Rv):List PV:=l.flatMap Rv.cells
def Cp (l:List Ce):List PV:=l.flatMap Ce.cells
theorem An.cells_len (a:An):a.cells.length=3:=rfl
theorem Rv.cells_len (r:Rv):r.cells.length=3:=rfl
theorem Ce.cells_len (c:Ce):c.cells.length=13:=rfl
theorem Ks (l:List Ce):(Cp l).length=l.length*13:=Xu Ce.cells_len l
abbrev eqS (a b:ByteArray):Bool:=Array.toList (ByteArray.data a)==Array.toList (ByteArray.data b)
def Sa (c:Ce)(now:Int)(r:Rv):Bool:=eqS r.iss c.iss&&(r.ser==c.serial&&decide (r.at_<=now))
def Qv (c:Ce)(now:Int)(l:List Rv):Int:=if l.any (Sa c now)=true then 39 else 0
def G5 (c:Ce)(i:Int)(l:List Rv)(now:Int):Int:=
 if A3 c≠0 then A3 c else if now<c.fr then 38 else if now>c.un then 38 else if i>0 then (if c.auth=false then 38 else if c.path<i-1 then 38 else Qv c now l) else Qv c now l
def R4 (c:Ce):Nat->List An->Int
 |_,[]=> -1
 |i,a::r=>if eqS a.name c.iss=true∧Uc c a.key=0 then (i:Int) else R4 c (i+1) r
def YZ (c:Ce)(l:List An):Int × Int:=if R4 c 0 l<0 then (0,38) else (R4 c 0 l,0)
def Gv (ans:List An)(vs:List Rv)(now:Int):Nat->List Ce->Int × Int
 |_,[]=>(0,0)
 |i,[c]=>if G5 c i vs now≠0 then (0,G5 c i vs now) else YZ c ans
 |i,c::c2::r=>if G5 c i vs now≠0 then (0,G5 c i vs now) else if eqS c.iss c2.subj=false then (0,38) else if Uc c c2.key≠0 then (0,Uc c c2.key) else Gv ans vs now (i+1) (c2::r)
def Qj (cs:List Ce)(ans:List An)(vs:List Rv)(now:Int):Int × Int:=
 if now<0 then (0,9) else if now>1099511627776 then (0,9) else if cs.length<1 then (0,38) else if cs.length>3 then (0,38) else Gv ans vs now 0 cs
structure Ce.in_ (c:Ce):Prop where
 wf:c.wf
 s1:c.subj.size<=9223372036854775807
 s2:c.iss.size<=9223372036854775807
theorem cer {l:List Ce}{i:Nat}{c:Ce}(h:l[i]?=some c):
  (Cp l).getD (i*13) .top=.sc (.string c.subj)∧(Cp l).getD (i*13+1) .top=.sc (.string c.iss)∧(Cp l).getD (i*13+1+1) .top=.sc (.int .u64 c.serial) ∧
  (Cp l).getD (i*13+1+1+1) .top=.sc (.int .i64 c.key.h)∧(Cp l).getD (i*13+1+1+1+1) .top=.sc (.int .u64 c.key.root)∧(Cp l).getD (i*13+1+1+1+1+1) .top=.sc (.int .i64 c.fr) ∧
  (Cp l).getD (i*13+1+1+1+1+1+1) .top=.sc (.int .i64 c.un)∧(Cp l).getD (i*13+1+1+1+1+1+1+1) .top=.sc (.bool c.auth)∧(Cp l).getD (i*13+1+1+1+1+1+1+1+1) .top=.sc (.int .i64 c.path) ∧
  (Cp l).getD (i*13+1+1+1+1+1+1+1+1+1) .top=.sc (.int .u64 c.model)∧(Cp l).getD (i*13+1+1+1+1+1+1+1+1+1+1) .top=.sc (.int .i64 c.sig.leaf) ∧
  (Cp l).getD (i*13+1+1+1+1+1+1+1+1+1+1+1) .top=.lst false 1 c.sig.chains.length (Af .u64 c.sig.chains)∧(Cp l).getD (i*13+1+1+1+1+1+1+1+1+1+1+1+1) .top=.lst false 1 c.sig.path.length (Af .u64 c.sig.path):=
 ⟨Ea Ce.cells_len h (j:=0) (by omega),Ea Ce.cells_len h (j:=1) (by omega),Ea Ce.cells_len h (j:=2) (by omega),Ea Ce.cells_len h (j:=3) (by omega),Ea Ce.cells_len h (j:=4) (by omega),Ea Ce.cells_len h (j:=5) (by omega),Ea Ce.cells_len h (j:=6) (by omega),Ea Ce.cells_len h (j:=7) (by omega),Ea Ce.cells_len h (j:=8) (by omega),Ea Ce.cells_len h (j:=9) (by omega),Ea Ce.cells_len h (j:=10) (by omega),Ea Ce.cells_len h (j:=11) (by omega),Ea Ce.cells_len h (j:=12) (by omega)⟩
theorem rva {l:List Rv}{i:Nat}{r:Rv}(h:l[i]?=some r):(G0 l).getD (i*3) .top=.sc (.string r.iss)∧(G0 l).getD (i*3+1) .top=.sc (.int .u64 r.ser)∧(G0 l).getD (i*3+2) .top=.sc (.int .i64 r.at_):=
 ⟨Ea Rv.cells_len h (j:=0) (by omega),Ea Rv.cells_len h (j:=1) (by omega),Ea Rv.cells_len h (j:=2) (by omega)⟩
theorem ana {l:List An}{i:Nat}{a:An}(h:l[i]?=some a):(Nc l).getD (i*3) .top=.sc (.string a.name)∧(Nc l).getD (i*3+1) .top=.sc (.int .i64 a.key.h)∧(Nc l).getD (i*3+2) .top=.sc (.int .u64 a.key.root):=
 ⟨Ea An.cells_len h (j:=0) (by omega),Ea An.cells_len h (j:=1) (by omega),Ea An.cells_len h (j:=2) (by omega)⟩
section
variable {fu d:Nat}
theorem PI {call:Ai}{a0_0 a0_1:ByteArray}{a0_2 a0_3 a0_4 a0_5 a0_6 a0_8 a0_9 a0_10 a1 a3:Int}{a0_7:Bool}{a0_11n a0_12n a2n:Nat}{a0_11 a0_12 a2:List PV}{c:Ce}{now:Int}{vs:List Rv}(hl:vs.length<=1000000):∀(r:List Rv)(i nn:Nat),vs.drop i=r->r.length<nn->i<=vs.length ->
  Ci fu call a0_0 a0_1 a0_2 a0_3 a0_4 a0_5 a0_6 a0_7 a0_8 a0_9 a0_10 a0_11n a0_11 a0_12n a0_12 a1 a2n a2 a3 nn now vs.length (G0 vs) (vs.length:Int) (i:Int) c.subj c.iss c.serial c.key.h c.key.root c.fr c.un c.auth c.path c.model c.sig.leaf c.sig.chains.length (Af .u64 c.sig.chains) c.sig.path.length (Af .u64 c.sig.path) =
   some ⟨[.sc (.int .i64 (Qv c now r))],[]⟩
 |_,_,0,_,h,_=>by omega
 |[],i,nn+1,h,hn,hi=>by
  have:=drop_nil h;rw [Hp,Dr _ _ _ (by omega)]
  rfl
 |r::rs,i,nn+1,h,hn,hi=>by
  obtain ⟨h1,h2,h3⟩:=Cs h;simp only [J2] at hn;obtain ⟨c0,c1,c2⟩:=rva h2;have w:wrap .i64 ((i:Int)+1)=((i+1:Nat):Int):=by rw [Aj (by omega) (by omega)];omega
  have nt:Int.toNat (i:Int)=i:=He _;have c2':(G0 vs).getD (i*3+1+1) .top=.sc (.int .i64 r.at_):=c2;have ih:=PI (call:=call) (a0_0:=a0_0) (a0_1:=a0_1) (a0_2:=a0_2) (a0_3:=a0_3) (a0_4:=a0_4) (a0_5:=a0_5) (a0_6:=a0_6) (a0_7:=a0_7) (a0_8:=a0_8) (a0_9:=a0_9) (a0_10:=a0_10) (a1:=a1) (a3:=a3) (a0_11n:=a0_11n) (a0_12n:=a0_12n) (a2n:=a2n) (a0_11:=a0_11) (a0_12:=a0_12) (a2:=a2) (c:=c) (now:=now) hl rs (i+1) nn h3 (by omega) (by omega)
  have er:Qv c now (r::rs)=if Sa c now r=true then 39 else Qv c now rs:=by
   unfold Qv;rw [List.any_cons];cases Sa c now r<;>rfl
  rw [er,Hp];unfold Sa;cases e1:eqS r.iss c.iss
  ·rw [Bool.false_and,A6 (by simp),←ih]
   try unfold Aa
   repeat first
    |((with_reducible first|apply Aw|apply Al|apply Ay|apply Ar|apply A7|apply Bg|apply Cc|apply Am);· first|with_reducible rfl|(simp (disch:=omega) only [nt,c0,c1,c2',e1,w]<;>with_reducible rfl))
    |((with_reducible first|apply Ax|apply Au);· first|with_reducible rfl|omega|(simp (disch:=omega) only [gT,nt,c0,c1,c2',e1,w]<;>omega))
    |(with_reducible apply Av;· first|with_reducible rfl|(simp (disch:=omega) only [gF,nt,c0,c1,c2',e1,w]<;>omega))
   try simp (disch:=omega) only [nt,c0,c1,c2',e1,w]
   all_goals rfl
  ·cases e2:(r.ser==c.serial)
   ·rw [Bool.true_and,Bool.false_and,A6 (by simp),←ih]
    try unfold Aa
    repeat first
     |((with_reducible first|apply Aw|apply Al|apply Ay|apply Ar|apply A7|apply Bg|apply Cc|apply Am);· first|with_reducible rfl|(simp (disch:=omega) only [nt,c0,c1,c2',e1,e2,w]<;>with_reducible rfl))
     |((with_reducible first|apply Ax|apply Au);· first|with_reducible rfl|omega|(simp (disch:=omega) only [gT,nt,c0,c1,c2',e1,e2,w]<;>omega))
     |(with_reducible apply Av;· first|with_reducible rfl|(simp (disch:=omega) only [gF,nt,c0,c1,c2',e1,e2,w]<;>omega))
    try simp (disch:=omega) only [nt,c0,c1,c2',e1,e2,w]
    all_goals rfl
   ·by_cases e3:r.at_<=now
    ·rw [B4 (by simp [e3])]
     try unfold Aa
     repeat first
      |((with_reducible first|apply Aw|apply Al|apply Ay|apply Ar|apply A7|apply Bg|apply Cc|apply Am);· first|with_reducible rfl|(simp (disch:=omega) only [nt,c0,c1,c2',e1,e2,w]<;>with_reducible rfl))
      |((with_reducible first|apply Ax|apply Au);· first|with_reducible rfl|omega|(simp (disch:=omega) only [gT,nt,c0,c1,c2',e1,e2,w]<;>omega))
      |(with_reducible apply Av;· first|with_reducible rfl|(simp (disch:=omega) only [gF,nt,c0,c1,c2',e1,e2,w]<;>omega))
     try simp (disch:=omega) only [nt,c0,c1,c2',e1,e2,w]
     all_goals rfl
    ·rw [A6 (by simp [e3]),←ih]
     try unfold Aa
     repeat first
      |((with_reducible first|apply Aw|apply Al|apply Ay|apply Ar|apply A7|apply Bg|apply Cc|apply Am);· first|with_reducible rfl|(simp (disch:=omega) only [nt,c0,c1,c2',e1,e2,w]<;>with_reducible rfl))
      |((with_reducible first|apply Ax|apply Au);· first|with_reducible rfl|omega|(simp (disch:=omega) only [gT,nt,c0,c1,c2',e1,e2,w]<;>omega))
      |(with_reducible apply Av;· first|with_reducible rfl|(simp (disch:=omega) only [gF,nt,c0,c1,c2',e1,e2,w]<;>omega))
     try simp (disch:=omega) only [nt,c0,c1,c2',e1,e2,w]
     all_goals rfl
theorem Aaz (hfu:1000<=fu){c:Ce}(hc:c.in_){vs:List Rv}(hl:vs.length<=900){i:Int}(hi:0<=i)(hi':i<=1000)(now:Int):
  Ae C0 Tryz.prog fu (d+8) Jb [.agg c.cells,.sc (.int .i64 i),.lst false 3 vs.length (G0 vs),.sc (.int .i64 now)]=some ⟨[.sc (.int .i64 (G5 c i vs now))],[]⟩:=by
 refine (R6 fu (d+7) c.subj c.iss c.serial c.key.h c.key.root c.fr c.un c.auth c.path c.model c.sig.leaf c.sig.chains.length (Af .u64 c.sig.chains) c.sig.path.length (Af .u64 c.sig.path) i vs.length (G0 vs) now).trans ?_;have bq:=JC (fu:=fu) (d:=d) hfu hc.wf hc.s1 hc.s2;simp only [Ce.cells] at bq;unfold Hg at bq;have lp:=PI (fu:=fu) (call:=Ae C0 Tryz.prog fu (d+7)) (a0_0:=c.subj) (a0_1:=c.iss) (a0_2:=c.serial) (a0_3:=c.key.h) (a0_4:=c.key.root) (a0_5:=c.fr) (a0_6:=c.un) (a0_7:=c.auth) (a0_8:=c.path) (a0_9:=c.model) (a0_10:=c.sig.leaf) (a1:=i) (a3:=now) (a0_11n:=c.sig.chains.length) (a0_12n:=c.sig.path.length) (a2n:=vs.length) (a0_11:=Af .u64 c.sig.chains) (a0_12:=Af .u64 c.sig.path) (a2:=G0 vs) (c:=c) (now:=now) (vs:=vs) (by omega) vs 0 fu rfl (by omega) (by omega)
 unfold G5;by_cases h0:A3 c=0
 rotate_left
 ·have hne:(A3 c != 0)=true:=by simp [h0]
  rw [A6 h0] at bq;rw [B4 h0]
  try unfold Aa
  repeat first
   |((with_reducible first|apply Aw|apply Al|apply Ay|apply Ar|apply A7|apply Bg|apply Cc|apply Am);· first|with_reducible rfl|(simp (disch:=omega) only [bq,hne]<;>with_reducible rfl))
   |((with_reducible first|apply Ax|apply Au);· first|with_reducible rfl|omega|(simp (disch:=omega) only [gT,bq,hne]<;>omega))
   |(with_reducible apply Av;· first|with_reducible rfl|(simp (disch:=omega) only [gF,bq,hne]<;>omega))
  try simp (disch:=omega) only [bq,hne]
  all_goals rfl
 rw [B4 h0] at bq;rw [A6 (by simp [h0])]
 have e00:((0:Int) != 0)=false:=rfl;have w:wrap .i64 (i-1)=i-1:=Aj (by omega) (by omega)
 by_cases h1:now<c.fr
 ·rw [B4 h1]
  try unfold Aa
  repeat first
   |((with_reducible first|apply Aw|apply Al|apply Ay|apply Ar|apply A7|apply Bg|apply Cc|apply Am);· first|with_reducible rfl|(simp (disch:=omega) only [bq,e00]<;>with_reducible rfl))
   |((with_reducible first|apply Ax|apply Au);· first|with_reducible rfl|omega|(simp (disch:=omega) only [gT,bq,e00]<;>omega))
   |(with_reducible apply Av;· first|with_reducible rfl|(simp (disch:=omega) only [gF,bq,e00]<;>omega))
  try simp (disch:=omega) only [bq,e00]
  all_goals rfl
 rw [A6 h1];by_cases h2:now>c.un
 ·rw [B4 h2]
  try unfold Aa
  repeat first
   |((with_reducible first|apply Aw|apply Al|apply Ay|apply Ar|apply A7|apply Bg|apply Cc|apply Am);· first|with_reducible rfl|(simp (disch:=omega) only [bq,e00]<;>with_reducible rfl))
   |((with_reducible first|apply Ax|apply Au);· first|with_reducible rfl|omega|(simp (disch:=omega) only [gT,bq,e00]<;>omega))
   |(with_reducible apply Av;· first|with_reducible rfl|(simp (disch:=omega) only [gF,bq,e00]<;>omega))
  try simp (disch:=omega) only [bq,e00]
  all_goals rfl
 rw [A6 h2];by_cases h3:i>0
 ·rw [B4 h3];cases h4:c.auth
  ·rw [B4 rfl];rw [h4] at bq
   try unfold Aa
   repeat first
    |((with_reducible first|apply Aw|apply Al|apply Ay|apply Ar|apply A7|apply Bg|apply Cc|apply Am);· first|with_reducible rfl|(simp (disch:=omega) only [bq,e00,Dy]<;>with_reducible rfl))
    |((with_reducible first|apply Ax|apply Au);· first|with_reducible rfl|omega|(simp (disch:=omega) only [gT,bq,e00,Dy]<;>omega))
    |(with_reducible apply Av;· first|with_reducible rfl|(simp (disch:=omega) only [gF,bq,e00,Dy]<;>omega))
   try simp (disch:=omega) only [bq,e00,Dy]
   all_goals rfl
  ·rw [A6 (by simp)]
   rw [h4] at lp bq;by_cases h5:c.path<i-1
   ·rw [B4 h5]
    try unfold Aa
    repeat first
     |((with_reducible first|apply Aw|apply Al|apply Ay|apply Ar|apply A7|apply Bg|apply Cc|apply Am);· first|with_reducible rfl|(simp (disch:=omega) only [bq,e00,h4,w,Dd]<;>with_reducible rfl))
     |((with_reducible first|apply Ax|apply Au);· first|with_reducible rfl|omega|(simp (disch:=omega) only [gT,bq,e00,h4,w,Dd]<;>omega))
     |(with_reducible apply Av;· first|with_reducible rfl|(simp (disch:=omega) only [gF,bq,e00,h4,w,Dd]<;>omega))
    try simp (disch:=omega) only [bq,e00,h4,w,Dd]
    all_goals rfl
   ·rw [A6 h5,←lp]
    try unfold Aa
    repeat first
     |((with_reducible first|apply Aw|apply Al|apply Ay|apply Ar|apply A7|apply Bg|apply Cc|apply Am);· first|with_reducible rfl|(simp (disch:=omega) only [bq,e00,h4,w,Dd]<;>with_reducible rfl))
     |((with_reducible first|apply Ax|apply Au);· first|with_reducible rfl|omega|(simp (disch:=omega) only [gT,bq,e00,h4,w,Dd]<;>omega))
     |(with_reducible apply Av;· first|with_reducible rfl|(simp (disch:=omega) only [gF,bq,e00,h4,w,Dd]<;>omega))
    try simp (disch:=omega) only [bq,e00,h4,w,Dd]
    all_goals rfl
 ·rw [A6 h3,←lp]
  try unfold Aa
  repeat first
   |((with_reducible first|apply Aw|apply Al|apply Ay|apply Ar|apply A7|apply Bg|apply Cc|apply Am);· first|with_reducible rfl|(simp (disch:=omega) only [bq,e00]<;>with_reducible rfl))
   |((with_reducible first|apply Ax|apply Au);· first|with_reducible rfl|omega|(simp (disch:=omega) only [gT,bq,e00]<;>omega))
   |(with_reducible apply Av;· first|with_reducible rfl|(simp (disch:=omega) only [gF,bq,e00]<;>omega))
  try simp (disch:=omega) only [bq,e00]
  all_goals rfl
theorem Z9 (hfu:1000<=fu){a0n a1n a2n:Nat}{a0 a1 a2:List PV}{a3:Int}{c:Ce}(hc:c.in_){ans:List An}(hl:ans.length<=1000000):∀(r:List An)(i nn:Nat),ans.drop i=r->r.length<nn->i<=ans.length ->
  D6 fu (Ae C0 Tryz.prog fu (d+9)) a0n a0 a1n a1 a2n a2 a3 nn ans.length (Nc ans) (ans.length:Int) (i:Int) c.subj c.iss c.serial c.key.h c.key.root c.fr c.un c.auth c.path c.model c.sig.leaf c.sig.chains.length (Af .u64 c.sig.chains) c.sig.path.length (Af .u64 c.sig.path) =
   some ⟨(if R4 c i r<0 then [.sc (.int .i64 0),.sc (.int .i64 38)] else [.sc (.int .i64 (R4 c i r)),.sc (.int .i64 0)]),[]⟩
 |_,_,0,_,h,_=>by omega
 |[],i,nn+1,h,hn,hi=>by
  have:=drop_nil h;rw [Kj,Dr _ _ _ (by omega)]
  rfl
 |a::rs,i,nn+1,h,hn,hi=>by
  obtain ⟨h1,h2,h3⟩:=Cs h;simp only [J2] at hn;obtain ⟨c0,c1,c2⟩:=ana h2;have w:wrap .i64 ((i:Int)+1)=((i+1:Nat):Int):=by rw [Aj (by omega) (by omega)];omega
  have nt:Int.toNat (i:Int)=i:=He _;have c2':(Nc ans).getD (i*3+1+1) .top=.sc (.int .u64 a.key.root):=c2;have vq:=WP (fu:=fu) (d:=d) hfu hc.wf hc.s1 hc.s2 a.key;simp only [Ce.cells,Ky.cells] at vq;have ih:=Z9 hfu (a0n:=a0n) (a1n:=a1n) (a2n:=a2n) (a0:=a0) (a1:=a1) (a2:=a2) (a3:=a3) hc hl rs (i+1) nn h3 (by omega) (by omega)
  rw [Kj];cases e1:eqS a.name c.iss
  ·have er:R4 c i (a::rs)=R4 c (i+1) rs:=by rw [R4,A6 (by simp [e1])]
   rw [er,←ih]
   try unfold Aa
   repeat first
    |((with_reducible first|apply Aw|apply Al|apply Ay|apply Ar|apply A7|apply Bg|apply Cc|apply Am);· first|with_reducible rfl|(simp (disch:=omega) only [nt,c0,c1,c2',e1,w]<;>with_reducible rfl))
    |((with_reducible first|apply Ax|apply Au);· first|with_reducible rfl|omega|(simp (disch:=omega) only [gT,nt,c0,c1,c2',e1,w]<;>omega))
    |(with_reducible apply Av;· first|with_reducible rfl|(simp (disch:=omega) only [gF,nt,c0,c1,c2',e1,w]<;>omega))
   try simp (disch:=omega) only [nt,c0,c1,c2',e1,w]
   all_goals rfl
  ·by_cases e2:Uc c a.key=0
   ·have e2':(Uc c a.key==0)=true:=by simp [e2]
    have er:R4 c i (a::rs)=(i:Int):=by rw [R4,B4 ⟨e1,e2⟩]
    rw [er,A6 (by omega)]
    try unfold Aa
    repeat first
     |((with_reducible first|apply Aw|apply Al|apply Ay|apply Ar|apply A7|apply Bg|apply Cc|apply Am);· first|with_reducible rfl|(simp (disch:=omega) only [nt,c0,c1,c2',e1,w,vq,e2']<;>with_reducible rfl))
     |((with_reducible first|apply Ax|apply Au);· first|with_reducible rfl|omega|(simp (disch:=omega) only [gT,nt,c0,c1,c2',e1,w,vq,e2']<;>omega))
     |(with_reducible apply Av;· first|with_reducible rfl|(simp (disch:=omega) only [gF,nt,c0,c1,c2',e1,w,vq,e2']<;>omega))
    try simp (disch:=omega) only [nt,c0,c1,c2',e1,w,vq,e2']
    all_goals rfl
   ·have e2':(Uc c a.key==0)=false:=by simp [e2]
    have er:R4 c i (a::rs)=R4 c (i+1) rs:=by rw [R4,A6 (by simp [e2])]
    rw [er,←ih]
    try unfold Aa
    repeat first
     |((with_reducible first|apply Aw|apply Al|apply Ay|apply Ar|apply A7|apply Bg|apply Cc|apply Am);· first|with_reducible rfl|(simp (disch:=omega) only [nt,c0,c1,c2',e1,w,vq,e2']<;>with_reducible rfl))
     |((with_reducible first|apply Ax|apply Au);· first|with_reducible rfl|omega|(simp (disch:=omega) only [gT,nt,c0,c1,c2',e1,w,vq,e2']<;>omega))
     |(with_reducible apply Av;· first|with_reducible rfl|(simp (disch:=omega) only [gF,nt,c0,c1,c2',e1,w,vq,e2']<;>omega))
    try simp (disch:=omega) only [nt,c0,c1,c2',e1,w,vq,e2']
    all_goals rfl
theorem NS (hfu:1000<=fu){a0n a1n a2n:Nat}{a0 a1 a2:List PV}{a3:Int}{cs:List Ce}(hc:∀c∈cs,c.in_)(h3:cs.length<=3){ans:List An}(hl:ans.length<=900){vs:List Rv}(hv:vs.length<=900){now:Int}:∀(r:List Ce)(i nn:Nat),r≠[]->cs.drop i=r->r.length<nn->i<=cs.length ->
  Gc fu (Ae C0 Tryz.prog fu (d+9)) a0n a0 a1n a1 a2n a2 a3 nn cs.length (Cp cs) ans.length (Nc ans) vs.length (G0 vs) now cs.length (Cp cs) (cs.length:Int) (i:Int) =
   some ⟨[.sc (.int .i64 (Gv ans vs now i r).1),.sc (.int .i64 (Gv ans vs now i r).2)],[]⟩
 |_,_,0,_,_,h,_=>by omega
 |[],i,nn+1,hne,_,_,_=>absurd rfl hne
 |[c],i,nn+1,hne,h,hn,hi=>by
  obtain ⟨h1,h2,h3'⟩:=Cs h;have hlast:=drop_nil h3';have hci:=hc c (List.mem_of_getElem? h2);obtain ⟨c0,c1,c2,c3,c4,c5,c6,c7,c8,c9,c10,c11,c12⟩:=cer h2;have nt:Int.toNat (i:Int)=i:=He _;have lk:=Aaz (fu:=fu) (d:=d+1) hfu hci hv (i:=(i:Int)) (by omega) (by omega) now
  simp only [Ce.cells] at lk;have w:wrap .i64 ((cs.length:Int)-1)=(i:Int):=by rw [Aj (by omega) (by omega)];omega
  have eb:((i:Int)==(i:Int))=true:=by simp
  rw [Kb];unfold Gv;by_cases hz:G5 c i vs now=0
  ·have pa:=Z9 (fu:=fu) (d:=d) hfu (a0n:=a0n) (a1n:=a1n) (a2n:=a2n) (a0:=a0) (a1:=a1) (a2:=a2) (a3:=a3) hci (ans:=ans) (by omega) ans 0 fu rfl (by omega) (by omega)
   have e0:(G5 c i vs now != 0)=false:=by simp [hz]
   have ea:(some ⟨(if R4 c 0 ans<0 then [.sc (.int .i64 0),.sc (.int .i64 38)] else [.sc (.int .i64 (R4 c 0 ans)),.sc (.int .i64 0)]),[]⟩:Option A0)=some ⟨[.sc (.int .i64 (YZ c ans).1),.sc (.int .i64 (YZ c ans).2)],[]⟩:=by
    unfold YZ;split<;>rfl
   rw [ea] at pa;rw [A6 (by simp [hz]),←pa]
   try unfold Aa
   repeat first
    |((with_reducible first|apply Aw|apply Al|apply Ay|apply Ar|apply A7|apply Bg|apply Cc|apply Am);· first|with_reducible rfl|(simp (disch:=omega) only [nt,c0,c1,c2,c3,c4,c5,c6,c7,c8,c9,c10,c11,c12,lk,e0,w,eb]<;>with_reducible rfl))
    |((with_reducible first|apply Ax|apply Au);· first|with_reducible rfl|omega|(simp (disch:=omega) only [gT,nt,c0,c1,c2,c3,c4,c5,c6,c7,c8,c9,c10,c11,c12,lk,e0,w,eb]<;>omega))
    |(with_reducible apply Av;· first|with_reducible rfl|(simp (disch:=omega) only [gF,nt,c0,c1,c2,c3,c4,c5,c6,c7,c8,c9,c10,c11,c12,lk,e0,w,eb]<;>omega))
   try simp (disch:=omega) only [nt,c0,c1,c2,c3,c4,c5,c6,c7,c8,c9,c10,c11,c12,lk,e0,w,eb]
   all_goals rfl
  ·have e0:(G5 c i vs now != 0)=true:=by simp [hz]
   rw [B4 hz]
   try unfold Aa
   repeat first
    |((with_reducible first|apply Aw|apply Al|apply Ay|apply Ar|apply A7|apply Bg|apply Cc|apply Am);· first|with_reducible rfl|(simp (disch:=omega) only [nt,c0,c1,c2,c3,c4,c5,c6,c7,c8,c9,c10,c11,c12,lk,e0]<;>with_reducible rfl))
    |((with_reducible first|apply Ax|apply Au);· first|with_reducible rfl|omega|(simp (disch:=omega) only [gT,nt,c0,c1,c2,c3,c4,c5,c6,c7,c8,c9,c10,c11,c12,lk,e0]<;>omega))
    |(with_reducible apply Av;· first|with_reducible rfl|(simp (disch:=omega) only [gF,nt,c0,c1,c2,c3,c4,c5,c6,c7,c8,c9,c10,c11,c12,lk,e0]<;>omega))
   try simp (disch:=omega) only [nt,c0,c1,c2,c3,c4,c5,c6,c7,c8,c9,c10,c11,c12,lk,e0]
   all_goals rfl
 |c::e::r,i,nn+1,hne,h,hn,hi=>by
  obtain ⟨h1,h2,h3'⟩:=Cs h;obtain ⟨k1,k2,k3⟩:=Cs h3';simp only [J2] at hn;have hci:=hc c (List.mem_of_getElem? h2);obtain ⟨c0,c1,c2,c3,c4,c5,c6,c7,c8,c9,c10,c11,c12⟩:=cer h2;obtain ⟨q0,q1,q2,q3,q4,_⟩:=cer k2;have nt:Int.toNat (i:Int)=i:=He _;have nt1:Int.toNat ((i+1:Nat):Int)=i+1:=He _;have lk:=Aaz (fu:=fu) (d:=d+1) hfu hci hv (i:=(i:Int)) (by omega) (by omega) now
  simp only [Ce.cells] at lk;have w:wrap .i64 ((cs.length:Int)-1)=(cs.length:Int)-1:=Aj (by omega) (by omega)
  have w1:wrap .i64 ((i:Int)+1)=((i+1:Nat):Int):=by rw [Aj (by omega) (by omega)];omega
  have eb:((i:Int)==(cs.length:Int)-1)=false:=by simp;omega
  have q3':(Cp cs).getD ((i+1)*13+3) .top=.sc (.int .i64 e.key.h):=q3;have q4':(Cp cs).getD ((i+1)*13+3+1) .top=.sc (.int .u64 e.key.root):=q4;have vq:=WP (fu:=fu) (d:=d) hfu hci.wf hci.s1 hci.s2 e.key;simp only [Ce.cells,Ky.cells] at vq;rw [Kb];unfold Gv;by_cases hz:G5 c i vs now=0
  rotate_left
  ·have e0:(G5 c i vs now != 0)=true:=by simp [hz]
   rw [B4 hz]
   try unfold Aa
   repeat first
    |((with_reducible first|apply Aw|apply Al|apply Ay|apply Ar|apply A7|apply Bg|apply Cc|apply Am);· first|with_reducible rfl|(simp (disch:=omega) only [nt,c0,c1,c2,c3,c4,c5,c6,c7,c8,c9,c10,c11,c12,lk,e0]<;>with_reducible rfl))
    |((with_reducible first|apply Ax|apply Au);· first|with_reducible rfl|omega|(simp (disch:=omega) only [gT,nt,c0,c1,c2,c3,c4,c5,c6,c7,c8,c9,c10,c11,c12,lk,e0]<;>omega))
    |(with_reducible apply Av;· first|with_reducible rfl|(simp (disch:=omega) only [gF,nt,c0,c1,c2,c3,c4,c5,c6,c7,c8,c9,c10,c11,c12,lk,e0]<;>omega))
   try simp (disch:=omega) only [nt,c0,c1,c2,c3,c4,c5,c6,c7,c8,c9,c10,c11,c12,lk,e0]
   all_goals rfl
  have e0:(G5 c i vs now != 0)=false:=by simp [hz]
  rw [A6 (by simp [hz])]
  cases es:eqS c.iss e.subj
  ·rw [B4 rfl]
   try unfold Aa
   repeat first
    |((with_reducible first|apply Aw|apply Al|apply Ay|apply Ar|apply A7|apply Bg|apply Cc|apply Am);· first|with_reducible rfl|(simp (disch:=omega) only [nt,nt1,ON,c0,c1,c2,c3,c4,c5,c6,c7,c8,c9,c10,c11,c12,lk,e0,w,eb,w1,q0,es,Dy]<;>with_reducible rfl))
    |((with_reducible first|apply Ax|apply Au);· first|with_reducible rfl|omega|(simp (disch:=omega) only [gT,nt,nt1,ON,c0,c1,c2,c3,c4,c5,c6,c7,c8,c9,c10,c11,c12,lk,e0,w,eb,w1,q0,es,Dy]<;>omega))
    |(with_reducible apply Av;· first|with_reducible rfl|(simp (disch:=omega) only [gF,nt,nt1,ON,c0,c1,c2,c3,c4,c5,c6,c7,c8,c9,c10,c11,c12,lk,e0,w,eb,w1,q0,es,Dy]<;>omega))
   try simp (disch:=omega) only [nt,nt1,ON,c0,c1,c2,c3,c4,c5,c6,c7,c8,c9,c10,c11,c12,lk,e0,w,eb,w1,q0,es,Dy]
   all_goals rfl
  rw [A6 (by simp)]
  by_cases hv':Uc c e.key=0
  ·have v0:(Uc c e.key != 0)=false:=by simp [hv']
   have ih:=NS hfu (a0n:=a0n) (a1n:=a1n) (a2n:=a2n) (a0:=a0) (a1:=a1) (a2:=a2) (a3:=a3) hc h3 hl hv (now:=now) (e::r) (i+1) nn (by simp) h3' (by simp only [J2];omega) (by omega)
   rw [A6 (by simp [hv']),←ih]
   try unfold Aa
   repeat first
    |((with_reducible first|apply Aw|apply Al|apply Ay|apply Ar|apply A7|apply Bg|apply Cc|apply Am);· first|with_reducible rfl|(simp (disch:=omega) only [nt,nt1,ON,c0,c1,c2,c3,c4,c5,c6,c7,c8,c9,c10,c11,c12,lk,e0,w,eb,w1,q0,es,q3',q4',vq,v0,Dd]<;>with_reducible rfl))
    |((with_reducible first|apply Ax|apply Au);· first|with_reducible rfl|omega|(simp (disch:=omega) only [gT,nt,nt1,ON,c0,c1,c2,c3,c4,c5,c6,c7,c8,c9,c10,c11,c12,lk,e0,w,eb,w1,q0,es,q3',q4',vq,v0,Dd]<;>omega))
    |(with_reducible apply Av;· first|with_reducible rfl|(simp (disch:=omega) only [gF,nt,nt1,ON,c0,c1,c2,c3,c4,c5,c6,c7,c8,c9,c10,c11,c12,lk,e0,w,eb,w1,q0,es,q3',q4',vq,v0,Dd]<;>omega))
   try simp (disch:=omega) only [nt,nt1,ON,c0,c1,c2,c3,c4,c5,c6,c7,c8,c9,c10,c11,c12,lk,e0,w,eb,w1,q0,es,q3',q4',vq,v0,Dd]
   all_goals rfl
  ·have v0:(Uc c e.key != 0)=true:=by simp [hv']
   rw [B4 hv']
   try unfold Aa
   repeat first
    |((with_reducible first|apply Aw|apply Al|apply Ay|apply Ar|apply A7|apply Bg|apply Cc|apply Am);· first|with_reducible rfl|(simp (disch:=omega) only [nt,nt1,ON,c0,c1,c2,c3,c4,c5,c6,c7,c8,c9,c10,c11,c12,lk,e0,w,eb,w1,q0,es,q3',q4',vq,v0,Dd]<;>with_reducible rfl))
    |((with_reducible first|apply Ax|apply Au);· first|with_reducible rfl|omega|(simp (disch:=omega) only [gT,nt,nt1,ON,c0,c1,c2,c3,c4,c5,c6,c7,c8,c9,c10,c11,c12,lk,e0,w,eb,w1,q0,es,q3',q4',vq,v0,Dd]<;>omega))
    |(with_reducible apply Av;· first|with_reducible rfl|(simp (disch:=omega) only [gF,nt,nt1,ON,c0,c1,c2,c3,c4,c5,c6,c7,c8,c9,c10,c11,c12,lk,e0,w,eb,w1,q0,es,q3',q4',vq,v0,Dd]<;>omega))
   try simp (disch:=omega) only [nt,nt1,ON,c0,c1,c2,c3,c4,c5,c6,c7,c8,c9,c10,c11,c12,lk,e0,w,eb,w1,q0,es,q3',q4',vq,v0,Dd]
   all_goals rfl
theorem AZ (hfu:1000<=fu){cs:List Ce}(hc:∀c∈cs,c.in_){ans:List An}(hl:ans.length<=900){vs:List Rv}(hv:vs.length<=900)(now:Int):
  Ae C0 Tryz.prog fu (d+10) Pg [.lst false 13 cs.length (Cp cs),.lst false 3 ans.length (Nc ans),.lst false 3 vs.length (G0 vs),.sc (.int .i64 now)]=some ⟨[.sc (.int .i64 (Qj cs ans vs now).1),.sc (.int .i64 (Qj cs ans vs now).2)],[]⟩:=by
 rw [Yf];unfold Qj;by_cases h1:now<0
 ·rw [B4 h1]
  try unfold Aa
  repeat first
   |((with_reducible first|apply Aw|apply Al|apply Ay|apply Ar|apply A7|apply Bg|apply Cc|apply Am);· first|with_reducible rfl|(simp (disch:=omega) only [B8]<;>with_reducible rfl))
   |((with_reducible first|apply Ax|apply Au);· first|with_reducible rfl|omega|(simp (disch:=omega) only [gT,B8]<;>omega))
   |(with_reducible apply Av;· first|with_reducible rfl|(simp (disch:=omega) only [gF,B8]<;>omega))
  try simp (disch:=omega) only [B8]
  all_goals rfl
 rw [A6 h1];by_cases h2:now>1099511627776
 ·rw [B4 h2]
  try unfold Aa
  repeat first
   |((with_reducible first|apply Aw|apply Al|apply Ay|apply Ar|apply A7|apply Bg|apply Cc|apply Am);· first|with_reducible rfl|(simp (disch:=omega) only [B8]<;>with_reducible rfl))
   |((with_reducible first|apply Ax|apply Au);· first|with_reducible rfl|omega|(simp (disch:=omega) only [gT,B8]<;>omega))
   |(with_reducible apply Av;· first|with_reducible rfl|(simp (disch:=omega) only [gF,B8]<;>omega))
  try simp (disch:=omega) only [B8]
  all_goals rfl
 rw [A6 h2];by_cases h3:cs.length<1
 ·rw [B4 h3]
  try unfold Aa
  repeat first
   |((with_reducible first|apply Aw|apply Al|apply Ay|apply Ar|apply A7|apply Bg|apply Cc|apply Am);· first|with_reducible rfl|(simp (disch:=omega) only [B8]<;>with_reducible rfl))
   |((with_reducible first|apply Ax|apply Au);· first|with_reducible rfl|omega|(simp (disch:=omega) only [gT,B8]<;>omega))
   |(with_reducible apply Av;· first|with_reducible rfl|(simp (disch:=omega) only [gF,B8]<;>omega))
  try simp (disch:=omega) only [B8]
  all_goals rfl
 rw [A6 h3];by_cases h4:cs.length>3
 ·rw [B4 h4]
  try unfold Aa
  repeat first
   |((with_reducible first|apply Aw|apply Al|apply Ay|apply Ar|apply A7|apply Bg|apply Cc|apply Am);· first|with_reducible rfl|(simp (disch:=omega) only [B8]<;>with_reducible rfl))
   |((with_reducible first|apply Ax|apply Au);· first|with_reducible rfl|omega|(simp (disch:=omega) only [gT,B8]<;>omega))
   |(with_reducible apply Av;· first|with_reducible rfl|(simp (disch:=omega) only [gF,B8]<;>omega))
  try simp (disch:=omega) only [B8]
  all_goals rfl
 rw [A6 h4];have lp:=NS (fu:=fu) (d:=d) hfu (a0n:=cs.length) (a1n:=ans.length) (a2n:=vs.length) (a0:=Cp cs) (a1:=Nc ans) (a2:=G0 vs) (a3:=now) hc (by omega) hl hv (now:=now) cs 0 fu (by intro h;subst h;simp at h3) rfl (by omega) (by omega)
 rw [←lp]
 try unfold Aa
 repeat first
  |((with_reducible first|apply Aw|apply Al|apply Ay|apply Ar|apply A7|apply Bg|apply Cc|apply Am);· first|with_reducible rfl|(simp (disch:=omega) only [B8]<;>with_reducible rfl))
  |((with_reducible first|apply Ax|apply Au);· first|with_reducible rfl|omega|(simp (disch:=omega) only [gT,B8]<;>omega))
  |(with_reducible apply Av;· first|with_reducible rfl|(simp (disch:=omega) only [gF,B8]<;>omega))
 try simp (disch:=omega) only [B8]
 all_goals rfl
end
end
section
open Go.IntKind (wrap)
set_option maxRecDepth 100000
abbrev Pw:FuncId:=11
theorem Zc (fu d a0n:Nat)(a0:List PV):Ae C0 Tryz.prog fu (d+1) Pw [.lst false 1 a0n a0]=(fun (call:Ai)=>some (A0.mk [.pbox [.lst false 1 a0n a0,.sc (.int .i64 0)]] [])) (Ae C0 Tryz.prog fu d):=by kernel_rfl
abbrev P9:FuncId:=16
theorem Zx (fu d:Nat)(a0 a1:Int):Ae C0 Tryz.prog fu (d+1) P9 [.sc (.int .i64 a0),.sc (.int .i64 a1)]=(fun (call:Ai)=>Aa (wrap .u64 a0) fun x1=>Aa (wrap .u64 a1) fun x2=>Ap (decide (x2≠0))<|Aa (Int.tmod x1 x2) fun x3=>Aa (wrap .i64 x3) fun x4=>some (A0.mk [.sc (.int .i64 x4)] [])) (Ae C0 Tryz.prog fu d):=by kernel_rfl
abbrev Jc:FuncId:=14
theorem I8 (fu d a0_0n:Nat)(a0_0:List PV)(a0_1 a1:Int):Ae C0 Tryz.prog fu (d+1) Jc [.pbox [.lst false 1 a0_0n a0_0,.sc (.int .i64 a0_1)],.sc (.int .i64 a1)]=(fun (call:Ai)=>Bc (decide (a0_1>=(↑a0_0n:Int))) (some (A0.mk [.sc (.int .i64 0)] [[.lst false 1 a0_0n a0_0,.sc (.int .i64 a0_1)]])) (Aa (wrap .i64 (a0_1+1)) fun x1=>Aa (wrap .i64 (x1-1)) fun x2=>Ap (decide (0<=x2)&&decide (x2<(↑a0_0n:Int)))<|Ad .i64 (List.getD a0_0 (Int.toNat x2*1) .top) fun x3=>Ag (call 16 [.sc (.int .i64 x3),.sc (.int .i64 a1)]) fun x4 x5=>Ac x5<|Ab x4 fun x6 x7=>Ad .i64 x6 fun x8=>Ac x7<|some (A0.mk [.sc (.int .i64 x8)] [[.lst false 1 a0_0n a0_0,.sc (.int .i64 x1)]]))) (Ae C0 Tryz.prog fu d):=by kernel_rfl
end
section
open Go.IntKind (wrap)
abbrev dkc (l:List Int)(a:Nat):List PV:=[.lst false 1 l.length (Af .i64 l),.sc (.int .i64 (a:Int))]
theorem Aot {fu d:Nat}{l:List Int}:Ae C0 Tryz.prog fu (d+1) Pw [.lst false 1 l.length (Af .i64 l)]=some ⟨[.pbox (dkc l 0)],[]⟩:=by
 rw [Zc];rfl
theorem Anf (v n:Int)(hn:0<n)(hm:n<=9223372036854775807):∃r,0<=r∧r<n∧∀{fu d:Nat},Ae C0 Tryz.prog fu (d+1) P9 [.sc (.int .i64 v),.sc (.int .i64 n)]=some ⟨[.sc (.int .i64 r)],[]⟩:=by
 have h1:=Gs v;have h2:wrap .u64 n=n:=Cn (by omega) (by omega)
 have h3:0<=Int.tmod (wrap .u64 v) n:=Int.tmod_nonneg _ h1.1;have h4:Int.tmod (wrap .u64 v) n<n:=Int.tmod_lt_of_pos _ hn;refine ⟨_,h3,h4,fun {fu d}=>?_⟩
 rw [Zx];simp only [G6,h2];rw [QB _ _ (by omega),Aj (by omega) (by omega)]
theorem Hi {l:List Int}(hl:l.length<=maxLen)(a:Nat)(n:Int)(hn:0<n)(hm:n<=9223372036854775807):∃(v:Int)(a':Nat),0<=v∧v<n ∧
  ∀{fu d:Nat},Ae C0 Tryz.prog fu (d+2) Jc [.pbox (dkc l a),.sc (.int .i64 n)]=some ⟨[.sc (.int .i64 v)],[dkc l a']⟩:=by
 simp only [maxLen] at hl;by_cases h:a<l.length
 ·obtain ⟨r,h1,h2,h3⟩:=Anf l[a] n hn hm;refine ⟨r,a+1,h1,h2,fun {fu d}=>?_⟩
  rw [I8]
  have hg:(Af .i64 l).getD (Int.toNat ((a:Int)+1-1)*1) .top=.sc (.int .i64 l[a]):=by
   have:=W5 (k:=.i64) (List.getElem?_eq_getElem h);rw [show Int.toNat ((a:Int)+1-1)*1=a by omega]
   exact this
  simp (disch:=omega) only [Bz,Aj,hg,h3];rfl
 ·refine ⟨0,a,by omega,hn,fun {fu d}=>?_⟩
  rw [I8];simp (disch:=omega) only [Bz]
end
section
open Go.IntKind (wrap)
set_option maxRecDepth 100000
abbrev Qd:FuncId:=29
theorem Z6 (fu d:Nat)(a0 a1:Int):Ae C0 Tryz.prog fu (d+1) Qd [.sc (.int .u64 a0),.sc (.int .i64 a1)]=(fun (call:Ai)=>Ag (call 18 [.sc (.int .u64 a0),.sc (.int .i64 a1)]) fun x1 x2=>Ac x2<|Ab x1 fun x3 x4=>Cy x3 fun x5=>Ab x5 fun x6 x7=>Ad .i64 x6 fun x8=>Ab x7 fun x9 Cm=>Ad .u64 x9 fun C3=>Ac Cm<|Ab x4 fun Dt D0=>Ad .i64 Dt fun Dq=>Ac D0<|some (A0.mk [.agg [.sc (.int .i64 x8),.sc (.int .u64 C3)]] [])) (Ae C0 Tryz.prog fu d):=by kernel_rfl
end
section
open Go.IntKind (wrap)
set_option maxRecDepth 1000000
section
variable {fu d:Nat}
theorem JF (hfu:1000<=fu)(seed h:Int):Ae C0 Tryz.prog fu (d+13) Qd [.sc (.int .u64 seed),.sc (.int .i64 h)]=some ⟨[.agg (Gq seed h).cells],[]⟩:=by
 rw [Z6];have p:=XF (fu:=fu) (d:=d) hfu seed h;simp only [Ky.cells] at p ⊢;simp only [Bz,p]
end
theorem SA (dom:Int)(l:List Int):isU (Mw dom l):=Gs _
theorem Arg (key dom:Int)(l:List Int):isU (Akt key dom l):=Gs _
theorem Aiv (leaf chain:Int):∀(k:Nat)(p:Int){x:Int},isU x->isU (Qw leaf chain k p x)
 |0,_,_,h=>h
 |k+1,p,x,h=>Aiv leaf chain k (p+1) (SA _ _)
theorem An1 (seed leaf m:Int):isW (Ih seed leaf m):=by
 intro x hx;obtain ⟨k,_,rfl⟩:=List.mem_map.1 hx;exact Aiv _ _ _ _ (Arg _ _ _)
theorem Aau (seed:Int):∀(l:Nat)(i:Int),isU (Bv seed l i)
 |0,i=>SA _ _
 |l+1,i=>SA _ _
theorem Acg (seed h:Int):isU (Gq seed h).root:=by
 unfold Gq;split
 ·exact ⟨by simp,by simp⟩
 ·exact Aau _ _ _
theorem Acj (seed h:Int):De (Gq seed h).h=false:=by
 unfold Gq;cases hh:De h
 ·rw [A6 (by simp)]
  exact hh
 ·rw [B4 rfl];rfl
theorem Ald {seed h leaf m:Int}(hh:De h=false)(ho:J6 leaf h=false):∃s,Y5 seed h leaf m=some s∧s.ok∧s.leaf=leaf∧s.chains.length=18∧(s.path.length:Int)=h∧VD (Gq seed h) m s=0:=by
 have hb:=H0 hh;refine ⟨⟨leaf,Ih seed leaf m,(List.range h.toNat).map fun k=>Bv seed k (Fj leaf k)⟩,?_,⟨An1 _ _ _,?_⟩,rfl,by simp [Ih],?_,Ahm hh ho⟩
 ·unfold Y5;rw [A6 (by simp [hh]),A6 (by simp [ho])]
 ·intro x hx;obtain ⟨k,_,rfl⟩:=List.mem_map.1 hx;exact Aau _ _ _
 ·simp only [List.length_map,List.length_range];omega
end
section
open Go.IntKind (wrap)
set_option maxRecDepth 100000
abbrev O6:FuncId:=17
theorem Xo (fu d:Nat)(a0_0 a0_1:ByteArray)(a0_2 a0_3:Int)(a0_4 a0_5 a0_6:Int)(a0_7:Bool)(a0_8 a0_9 a0_10:Int)(a0_11n:Nat)(a0_11:List PV)(a0_12n:Nat)(a0_12:List PV)(a1 a2 a3:Int):Ae C0 Tryz.prog fu (d+1) O6 [.agg [.sc (.string a0_0),.sc (.string a0_1),.sc (.int .u64 a0_2),.sc (.int .i64 a0_3),.sc (.int .u64 a0_4),.sc (.int .i64 a0_5),.sc (.int .i64 a0_6),.sc (.bool a0_7),.sc (.int .i64 a0_8),.sc (.int .u64 a0_9),.sc (.int .i64 a0_10),.lst false 1 a0_11n a0_11,.lst false 1 a0_12n a0_12],.sc (.int .u64 a1),.sc (.int .i64 a2),.sc (.int .i64 a3)]=(fun (call:Ai)=>Ag (call 36 [.agg [.sc (.string a0_0),.sc (.string a0_1),.sc (.int .u64 a0_2),.sc (.int .i64 a0_3),.sc (.int .u64 a0_4),.sc (.int .i64 a0_5),.sc (.int .i64 a0_6),.sc (.bool a0_7),.sc (.int .i64 a0_8),.sc (.int .u64 a0_9),.sc (.int .i64 a0_10),.lst false 1 a0_11n a0_11,.lst false 1 a0_12n a0_12]]) fun x1 x2=>Ac x2<|Ab x1 fun x3 x4=>Ad .u64 x3 fun x5=>Ab x4 fun x6 x7=>Ad .i64 x6 fun x8=>Ac x7<|Bc (x8 != 0) (some (A0.mk [.agg [.sc (.string (ByteArray.mk #[])),.sc (.string (ByteArray.mk #[])),.sc (.int .u64 0),.sc (.int .i64 0),.sc (.int .u64 0),.sc (.int .i64 0),.sc (.int .i64 0),.sc (.bool false),.sc (.int .i64 0),.sc (.int .u64 0),.sc (.int .i64 0),.lst false 1 0 [],.lst false 1 0 []],.sc (.int .i64 x8)] [])) (Ag (call 37 [.sc (.int .u64 a1),.sc (.int .i64 a2),.sc (.int .i64 a3),.sc (.int .u64 x5)]) fun x9 Cm=>Ac Cm<|Ab x9 fun C3 Dt=>Cy C3 fun D0=>Ab D0 fun Dq Ed=>Ad .i64 Dq fun Ek=>Ab Ed fun Ez Fo=>Fd 1 Ez fun Fg Ex H6=>Ab Fo fun Gz Hx=>Fd 1 Gz fun D1 Dm F6=>Ac Hx<|Ab Dt fun H9 Ey=>Ad .i64 H9 fun Jw=>Ac Ey<|Bc (Jw != 0) (some (A0.mk [.agg [.sc (.string (ByteArray.mk #[])),.sc (.string (ByteArray.mk #[])),.sc (.int .u64 0),.sc (.int .i64 0),.sc (.int .u64 0),.sc (.int .i64 0),.sc (.int .i64 0),.sc (.bool false),.sc (.int .i64 0),.sc (.int .u64 0),.sc (.int .i64 0),.lst false 1 0 [],.lst false 1 0 []],.sc (.int .i64 Jw)] [])) (some (A0.mk [.agg [.sc (.string a0_0),.sc (.string a0_1),.sc (.int .u64 a0_2),.sc (.int .i64 a0_3),.sc (.int .u64 a0_4),.sc (.int .i64 a0_5),.sc (.int .i64 a0_6),.sc (.bool a0_7),.sc (.int .i64 a0_8),.sc (.int .u64 a0_9),.sc (.int .i64 Ek),.lst false 1 Ex H6,.lst false 1 Dm F6],.sc (.int .i64 0)] [])))) (Ae C0 Tryz.prog fu d):=by kernel_rfl
end
section
open Go.IntKind (wrap)
set_option maxRecDepth 100000
abbrev L7:FuncId:=10
theorem Uk (fu d:Nat):Ae C0 Tryz.prog fu (d+1) L7 []=(fun (call:Ai)=>Ag (call 29 [.sc (.int .u64 5),.sc (.int .i64 1)]) fun x1 x2=>Ac x2<|Ab x1 fun x3 x4=>Cy x3 fun x5=>Ab x5 fun x6 x7=>Ad .i64 x6 fun x8=>Ab x7 fun x9 Cm=>Ad .u64 x9 fun C3=>Ac Cm<|Ac x4<|Ag (call 17 [.agg [.sc (.string (ByteArray.mk #[108,101,97,102])),.sc (.string (ByteArray.mk #[114,111,111,116])),.sc (.int .u64 9),.sc (.int .i64 x8),.sc (.int .u64 C3),.sc (.int .i64 1),.sc (.int .i64 8),.sc (.bool false),.sc (.int .i64 0),.sc (.int .u64 0),.sc (.int .i64 0),.lst false 1 0 [],.lst false 1 0 []],.sc (.int .u64 71),.sc (.int .i64 1),.sc (.int .i64 0)]) fun Dt D0=>Ac D0<|Ab Dt fun Dq Ed=>Cy Dq fun Ek=>Ab Ek fun Ez Fo=>Co Ez fun Fg=>Ab Fo fun Ex H6=>Co Ex fun Gz=>Ab H6 fun Hx D1=>Ad .u64 Hx fun Dm=>Ab D1 fun F6 H9=>Ad .i64 F6 fun Ey=>Ab H9 fun Jw Mq=>Ad .u64 Jw fun J1=>Ab Mq fun Mm Ml=>Ad .i64 Mm fun Ny=>Ab Ml fun Pu Qp=>Ad .i64 Pu fun Sd=>Ab Qp fun G2 J0=>Bl G2 fun Ur=>Ab J0 fun Yu Oo=>Ad .i64 Yu fun Uh=>Ab Oo fun Tq Sr=>Ad .u64 Tq fun Tp=>Ab Sr fun Xh X6=>Ad .i64 Xh fun Ss=>Ab X6 fun Wm Wy=>Fd 1 Wm fun Xd Pi Yi=>Ab Wy fun BM BL=>Fd 1 BM fun P2 Ub Ym=>Ac BL<|Ab Ed fun AF Y2=>Ad .i64 AF fun Zi=>Ac Y2<|Ag (call 30 [.agg [.sc (.string Fg),.sc (.string Gz),.sc (.int .u64 Dm),.sc (.int .i64 Ey),.sc (.int .u64 J1),.sc (.int .i64 Ny),.sc (.int .i64 Sd),.sc (.bool Ur),.sc (.int .i64 Uh),.sc (.int .u64 Tp),.sc (.int .i64 Ss),.lst false 1 Pi Yi,.lst false 1 Ub Ym]]) fun CH AO=>Ac AO<|Ab CH fun BK W0=>El 1 BK fun Xq EF=>Ab W0 fun BQ BI=>Ad .i64 BQ fun Y1=>Ac BI<|Ap (decide (0+Xq*1<=EF.length))<|Ag (call 31 [.lst false 1 Xq (List.take (Xq*1) (List.drop 0 EF))]) fun BN KF=>Ac KF<|Ab BN fun BJ CU=>Cy BJ fun GQ=>Ab GQ fun BP ET=>Co BP fun IH=>Ab ET fun JL TB=>Co JL fun SE=>Ab TB fun QK OA=>Ad .u64 QK fun WJ=>Ab OA fun SX SS=>Ad .i64 SX fun SN=>Ab SS fun GN PB=>Ad .u64 GN fun RW=>Ab PB fun UC UN=>Ad .i64 UC fun ZL=>Ab UN fun ZZ YV=>Ad .i64 ZZ fun WZ=>Ab YV fun x98 x99=>Bl x98 fun Y9=>Ab x99 fun Xn H2=>Ad .i64 Xn fun D2=>Ab H2 fun DK Tv=>Ad .u64 DK fun Ts=>Ab Tv fun Ln DN=>Ad .i64 Ln fun DW=>Ab DN fun DR CG=>Fd 1 DR fun Iy Lf BZ=>Ab CG fun BV DV=>Fd 1 BV fun JD Vm Xp=>Ac DV<|Ab CU fun Z1 Zf=>Ad .i64 Z1 fun CY=>Ac Zf<|Ag (call 29 [.sc (.int .u64 71),.sc (.int .i64 1)]) fun GK Tu=>Ac Tu<|Ab GK fun Ta Rn=>Cy Ta fun Vu=>Ab Vu fun Tx BG=>Ad .i64 Tx fun Yo=>Ab BG fun JB DU=>Ad .u64 JB fun Ye=>Ac DU<|Ac Rn<|Ag (call 27 [.lst false 13 1 [.sc (.string Fg),.sc (.string Gz),.sc (.int .u64 Dm),.sc (.int .i64 Ey),.sc (.int .u64 J1),.sc (.int .i64 Ny),.sc (.int .i64 Sd),.sc (.bool Ur),.sc (.int .i64 Uh),.sc (.int .u64 Tp),.sc (.int .i64 Ss),.lst false 1 Pi Yi,.lst false 1 Ub Ym],.lst false 3 1 [.sc (.string (ByteArray.mk #[114,111,111,116])),.sc (.int .i64 Yo),.sc (.int .u64 Ye)],.lst false 3 0 [],.sc (.int .i64 8)]) fun GA IW=>Ac IW<|Ab GA fun HS LV=>Ad .i64 HS fun IC=>Ab LV fun DO GJ=>Ad .i64 DO fun HJ=>Ac GJ<|Ag (call 27 [.lst false 13 1 [.sc (.string Fg),.sc (.string Gz),.sc (.int .u64 Dm),.sc (.int .i64 Ey),.sc (.int .u64 J1),.sc (.int .i64 Ny),.sc (.int .i64 Sd),.sc (.bool Ur),.sc (.int .i64 Uh),.sc (.int .u64 Tp),.sc (.int .i64 Ss),.lst false 1 Pi Yi,.lst false 1 Ub Ym],.lst false 3 1 [.sc (.string (ByteArray.mk #[114,111,111,116])),.sc (.int .i64 Yo),.sc (.int .u64 Ye)],.lst false 3 0 [],.sc (.int .i64 9)]) fun JN JX=>Ac JX<|Ab JN fun DC FX=>Ad .i64 DC fun GL=>Ab FX fun FZ HM=>Ad .i64 FZ fun QY=>Ac HM<|Bc (Zi==0) (Bc (Y1==0) (Bc (CY==0) (Bc (HJ==0) (Bc (IC==0) (Bc (QY==38) (Ag (call 19 [.agg [.sc (.string Fg),.sc (.string Gz),.sc (.int .u64 Dm),.sc (.int .i64 Ey),.sc (.int .u64 J1),.sc (.int .i64 Ny),.sc (.int .i64 Sd),.sc (.bool Ur),.sc (.int .i64 Uh),.sc (.int .u64 Tp),.sc (.int .i64 Ss),.lst false 1 Pi Yi,.lst false 1 Ub Ym],.agg [.sc (.string IH),.sc (.string SE),.sc (.int .u64 WJ),.sc (.int .i64 SN),.sc (.int .u64 RW),.sc (.int .i64 ZL),.sc (.int .i64 WZ),.sc (.bool Y9),.sc (.int .i64 D2),.sc (.int .u64 Ts),.sc (.int .i64 DW),.lst false 1 Lf BZ,.lst false 1 Vm Xp]]) fun TA SH=>Ac SH<|Ab TA fun DH MP=>Bl DH fun RB=>Ac MP<|some (A0.mk [.sc (.bool RB)] [])) (some (A0.mk [.sc (.bool false)] []))) (some (A0.mk [.sc (.bool false)] []))) (some (A0.mk [.sc (.bool false)] []))) (some (A0.mk [.sc (.bool false)] []))) (some (A0.mk [.sc (.bool false)] []))) (some (A0.mk [.sc (.bool false)] []))) (Ae C0 Tryz.prog fu d):=by kernel_rfl
end
section
open Go.IntKind (wrap)
set_option maxRecDepth 1000000
section
variable {fu d:Nat} {c:Ce}
theorem Amx (seed h leaf m:Int):Ae C0 Tryz.prog fu (d+1) 37 [.sc (.int .u64 seed),.sc (.int .i64 h),.sc (.int .i64 leaf),.sc (.int .u64 m)] =
  some ⟨[.agg [.sc (.int .i64 (tkL h leaf)),.lst false 1 (tkC seed h leaf m).length (Af .u64 (tkC seed h leaf m)),.lst false 1 (tkP seed h leaf).length (Af .u64 (tkP seed h leaf))],.sc (.int .i64 (tkE h leaf))],[]⟩:=by kernel_rfl
theorem Ao1 (seed h leaf m:Int):(Y5 seed h leaf m=none∧tkE h leaf=9)∨(Y5 seed h leaf m=some ⟨tkL h leaf,tkC seed h leaf m,tkP seed h leaf⟩∧tkE h leaf=0):=by
 unfold Y5 tkE tkL tkC tkP LG;cases De h
 ·cases J6 leaf h
  ·exact .inr ⟨rfl,rfl⟩
  ·exact .inl ⟨rfl,rfl⟩
 ·exact .inl ⟨rfl,rfl⟩
theorem Ahv (hfu:1000<=fu)(hw:c.wf)(hs1:c.subj.size<=9223372036854775807)(hs2:c.iss.size<=9223372036854775807)(seed h leaf:Int):Ae C0 Tryz.prog fu (d+9) O6 [.agg c.cells,.sc (.int .u64 seed),.sc (.int .i64 h),.sc (.int .i64 leaf)]=some ⟨[.agg (Tg c seed h leaf).1.cells,.sc (.int .i64 (Tg c seed h leaf).2)],[]⟩:=by
 refine (Xo fu (d+8) c.subj c.iss c.serial c.key.h c.key.root c.fr c.un c.auth c.path c.model c.sig.leaf c.sig.chains.length (Af .u64 c.sig.chains) c.sig.path.length (Af .u64 c.sig.path) seed h leaf).trans ?_;have wq:=WQ (fu:=fu) (d:=d) hfu hw hs1 hs2;simp only [Ce.cells] at wq;unfold GR at wq;unfold Tg;by_cases h0:A3 c=0
 ·rw [B4 h0] at wq;rw [B4 h0];have e00:((0:Int) != 0)=false:=rfl;have e90:((9:Int) != 0)=true:=rfl;have tk:=Amx (fu:=fu) (d:=d+7) seed h leaf (Lq c);have La:=Ak .u64 (tkC seed h leaf (Lq c));have Lb:=Ak .u64 (tkP seed h leaf);have ta:=J3 .u64 (tkC seed h leaf (Lq c));have tb:=J3 .u64 (tkP seed h leaf);rcases Ao1 seed h leaf (Lq c) with ⟨hs,he⟩|⟨hs,he⟩
  ·rw [hs];rw [he] at tk
   try unfold Aa
   repeat first
    |((with_reducible first|apply Aw|apply Al|apply Ay|apply Cc|apply Bx|apply Am);· first|with_reducible rfl|(simp (disch:=omega) only [wq,e00,e90,B8,Br,E6,tk,La,Lb,ta,tb]<;>with_reducible rfl))
    |((with_reducible first|apply Ax|apply Au);· first|with_reducible rfl|omega|(simp (disch:=omega) only [gT,wq,e00,e90,B8,Br,E6,tk,La,Lb,ta,tb]<;>omega))
    |(with_reducible apply Av;· first|with_reducible rfl|(simp (disch:=omega) only [gF,wq,e00,e90,B8,Br,E6,tk,La,Lb,ta,tb]<;>omega))
   try simp (disch:=omega) only [wq,e00,e90,B8,Br,E6,tk,La,Lb,ta,tb]
   all_goals rfl
  ·rw [hs];rw [he] at tk
   try unfold Aa
   repeat first
    |((with_reducible first|apply Aw|apply Al|apply Ay|apply Cc|apply Bx|apply Am);· first|with_reducible rfl|(simp (disch:=omega) only [wq,e00,e90,B8,Br,E6,tk,La,Lb,ta,tb]<;>with_reducible rfl))
    |((with_reducible first|apply Ax|apply Au);· first|with_reducible rfl|omega|(simp (disch:=omega) only [gT,wq,e00,e90,B8,Br,E6,tk,La,Lb,ta,tb]<;>omega))
    |(with_reducible apply Av;· first|with_reducible rfl|(simp (disch:=omega) only [gF,wq,e00,e90,B8,Br,E6,tk,La,Lb,ta,tb]<;>omega))
   try simp (disch:=omega) only [wq,e00,e90,B8,Br,E6,tk,La,Lb,ta,tb]
   all_goals rfl
 ·have hne:(A3 c != 0)=true:=by simp [h0]
  rw [A6 h0] at wq;rw [A6 h0]
  try unfold Aa
  repeat first
   |((with_reducible first|apply Aw|apply Al|apply Ay|apply Cc|apply Bx|apply Am);· first|with_reducible rfl|(simp (disch:=omega) only [wq,hne]<;>with_reducible rfl))
   |((with_reducible first|apply Ax|apply Au);· first|with_reducible rfl|omega|(simp (disch:=omega) only [gT,wq,hne]<;>omega))
   |(with_reducible apply Av;· first|with_reducible rfl|(simp (disch:=omega) only [gF,wq,hne]<;>omega))
  try simp (disch:=omega) only [wq,hne]
  all_goals rfl
end
end
section
open Go.IntKind (wrap)
set_option maxRecDepth 1000000
section
variable {fu d:Nat}
theorem IZ {call:Ai}{a0n a1n:Nat}{a0 a1:List PV}{l:List Int}(hl:l.length<=1000):∀(k i nn:Nat),i+k=l.length->k<nn ->
  Eh fu call a0n a0 a1n a1 nn l.length (Af .u64 l) l.length (Af .u64 l) i=some ⟨[.sc (.bool true)],[]⟩
 |_,_,0,_,h=>by omega
 |0,i,nn+1,hi,hn=>by
  have e:i=l.length:=by omega
  subst e;rw [Hq];simp (disch:=omega) only [Bz]
 |k+1,i,nn+1,hi,hn=>by
  have ih:=IZ (call:=call) (a0n:=a0n) (a1n:=a1n) (a0:=a0) (a1:=a1) hl k (i+1) nn (by omega) (by omega)
  obtain ⟨x,hx⟩:∃x,l[i]?=some x:=⟨_,List.getElem?_eq_getElem (by omega)⟩
  have w:wrap .i64 ((i:Int)+1)=((i+1:Nat):Int):=by rw [Aj (by omega) (by omega)];omega
  have q:(x != x)=false:=bne_self_eq_false x;rw [Hq];simp (disch:=omega) only [Bz,He,B8,Br,W5 hx,q,w];exact ih
theorem UK (hfu:2000<=fu){l:List Int}(hl:l.length<=1000):Ae C0 Tryz.prog fu (d+1) I6 [.lst false 1 l.length (Af .u64 l),.lst false 1 l.length (Af .u64 l)]=some ⟨[.sc (.bool true)],[]⟩:=by
 refine (Rh fu d l.length (Af .u64 l) l.length (Af .u64 l)).trans ?_;have q:=IZ (fu:=fu) (call:=Ae C0 Tryz.prog fu d) (a0n:=l.length) (a1n:=l.length) (a0:=Af .u64 l) (a1:=Af .u64 l) hl l.length 0 fu (by omega) (by omega)
 have b:((l.length:Int) != (l.length:Int))=false:=bne_self_eq_false _;simp only [Bz,b];exact q
theorem Afl (hfu:2000<=fu){s:Sg}(h1:s.chains.length<=1000)(h2:s.path.length<=1000):Ae C0 Tryz.prog fu (d+2) Hk [.agg s.cells,.agg s.cells]=some ⟨[.sc (.bool true)],[]⟩:=by
 refine (Ns fu (d+1) s.leaf s.chains.length (Af .u64 s.chains) s.path.length (Af .u64 s.path) s.leaf s.chains.length (Af .u64 s.chains) s.path.length (Af .u64 s.path)).trans ?_;have w1:=UK (fu:=fu) (d:=d) hfu h1;have w2:=UK (fu:=fu) (d:=d) hfu h2;have q1:(s.leaf==s.leaf)=true:=beq_self_eq_true _
 try unfold Aa
 repeat first
  |((with_reducible first|apply Aw|apply Al|apply Ay|apply Ar|apply A7|apply Bg|apply Cc|apply Bx|apply Am);· first|with_reducible rfl|(simp (disch:=omega) only [q1,w1,w2]<;>with_reducible rfl))
  |((with_reducible first|apply Ax|apply Au);· first|with_reducible rfl|omega|(simp (disch:=omega) only [gT,q1,w1,w2]<;>omega))
  |(with_reducible apply Av;· first|with_reducible rfl|(simp (disch:=omega) only [gF,q1,w1,w2]<;>omega))
 try simp (disch:=omega) only [q1,w1,w2]
 all_goals rfl
theorem Aff (hfu:2000<=fu){c:Ce}(h1:c.sig.chains.length<=1000)(h2:c.sig.path.length<=1000):Ae C0 Tryz.prog fu (d+3) Gn [.agg c.cells,.agg c.cells]=some ⟨[.sc (.bool true)],[]⟩:=by
 refine (Ld fu (d+2) c.subj c.iss c.serial c.key.h c.key.root c.fr c.un c.auth c.path c.model c.sig.leaf c.sig.chains.length (Af .u64 c.sig.chains) c.sig.path.length (Af .u64 c.sig.path) c.subj c.iss c.serial c.key.h c.key.root c.fr c.un c.auth c.path c.model c.sig.leaf c.sig.chains.length (Af .u64 c.sig.chains) c.sig.path.length (Af .u64 c.sig.path)).trans ?_;have ws:=Afl (fu:=fu) (d:=d) hfu h1 h2;simp only [Sg.cells] at ws;have q0:∀l:List UInt8,(l==l)=true:=fun l=>beq_self_eq_true l
 have q1:∀l:Int,(l==l)=true:=fun l=>beq_self_eq_true l
 have q2:∀l:Bool,(l==l)=true:=fun l=>beq_self_eq_true l
 try unfold Aa
 repeat first
  |((with_reducible first|apply Aw|apply Al|apply Ay|apply Ar|apply A7|apply Bg|apply Cc|apply Bx|apply Am);· first|with_reducible rfl|(simp (disch:=omega) only [q0,q1,q2,Bool.and_true,ws]<;>with_reducible rfl))
  |((with_reducible first|apply Ax|apply Au);· first|with_reducible rfl|omega|(simp (disch:=omega) only [gT,q0,q1,q2,Bool.and_true,ws]<;>omega))
  |(with_reducible apply Av;· first|with_reducible rfl|(simp (disch:=omega) only [gF,q0,q1,q2,Bool.and_true,ws]<;>omega))
 try simp (disch:=omega) only [q0,q1,q2,Bool.and_true,ws]
 all_goals rfl
end
abbrev lfS:ByteArray:=⟨#[(108:UInt8),(101:UInt8),(97:UInt8),(102:UInt8)]⟩
abbrev SR:ByteArray:=⟨#[(114:UInt8),(111:UInt8),(111:UInt8),(116:UInt8)]⟩
def VT:Ce:=⟨lfS,SR,9,Gq 5 1,1,8,false,0,0,⟨0,[],[]⟩⟩
theorem WE:A3 VT=0:=by
 unfold A3;have h1:VT.subj.size=4:=rfl;have h2:VT.iss.size=4:=rfl;have h3:TV VT.subj=true:=by decide
 have h4:TV VT.iss=true:=by decide
 have h5:De VT.key.h=false:=Acj 5 1;have h6:VT.fr=1:=rfl;have h7:VT.un=8:=rfl;have h8:VT.path=0:=rfl;rw [h1,h2,h3,h4,h5,h6,h7,h8];simp
theorem Abu:∃s,Y5 71 1 0 (Lq VT)=some s∧s.ok∧s.leaf=0∧s.chains.length=18∧(s.path.length:Int)=1∧VD (Gq 71 1) (Lq VT) s=0:=Ald (by decide) (by decide)
noncomputable def TN:Sg:=Classical.choose Abu
theorem Z4:Y5 71 1 0 (Lq VT)=some TN∧TN.ok∧TN.leaf=0∧TN.chains.length=18∧(TN.path.length:Int)=1∧VD (Gq 71 1) (Lq VT) TN=0:=Classical.choose_spec Abu
noncomputable def cA:Ce:={ VT with sig:=TN }
theorem Aba:cA.ok:=⟨by decide,by decide,Acg 5 1,Z4.2.1⟩
theorem PW:A3 cA=0:=WE
theorem QF:Ew cA=0:=by
 obtain ⟨_,_,h3,h4,h5,_⟩:=Z4;unfold Ew;rw [PW,B4 rfl];show IY TN=0;unfold IY;rw [h5,h3,A6 (by decide),A6 (by decide),A6 (by omega)]
theorem Acb:cA.in_:=⟨Aba.wf,by show lfS.size<=_;decide,by show SR.size<=_;decide⟩
theorem Akc:Uc cA (Gq 71 1)=0:=by
 unfold Uc;rw [PW,B4 rfl];exact Z4.2.2.2.2.2
theorem Adx:Tg VT 71 1 0=(cA,0):=by
 unfold Tg;rw [B4 WE,Z4.1];rfl
theorem UW (now:Int)(h0:1<=now)(h1:now<=9):Qj [cA] [⟨SR,Gq 71 1⟩] [] now=if now<=8 then (0,0) else (0,38):=by
 unfold Qj;rw [A6 (by omega),A6 (by omega),A6 (by simp),A6 (by simp)]
 unfold Gv
 have lk:G5 cA ((0:Nat):Int) [] now=if now<1 then 38 else if now>8 then 38 else Qv cA now []:=by
  unfold G5;rw [PW];rfl
 have n1:¬(now<1):=by omega
 rw [lk,A6 n1];by_cases h:now<=8
 ·have r0:Qv cA now []=0:=rfl;have n8:¬(now>8):=by omega
  rw [A6 n8,B4 h,r0,A6 (by simp)]
  unfold YZ
  have is:R4 cA 0 [⟨SR,Gq 71 1⟩]=0:=by
   rw [R4,B4 ⟨by decide,Akc⟩]
   rfl
  rw [is];rfl
 ·have n8:now>8:=by omega
  rw [B4 n8,A6 h,B4 (by simp)]
section
variable {d:Nat}
theorem Af0:Ae C0 Tryz.prog 2000 (d+15) L7 []=some ⟨[.sc (.bool true)],[]⟩:=by
 rw [Uk];have k5:=JF (fu:=2000) (d:=d+1) (by omega) 5 1
 have k71:=JF (fu:=2000) (d:=d+1) (by omega) 71 1
 have sg:=Ahv (fu:=2000) (d:=d+5) (c:=VT) (by omega) ⟨by decide,by decide⟩ (by decide) (by decide) 71 1 0
 rw [Adx] at sg;obtain ⟨_,_,h3,h4,h5,_⟩:=Z4;have l1:cA.sig.chains.length=18:=h4;have l2:cA.sig.path.length=1:=by have:(cA.sig.path.length:Int)=1:=h5;omega
 have en:=Abe (fu:=2000) (d:=d+6) (c:=cA) (by omega) Aba.wf Acb.s1 Acb.s2 (by omega) (by omega)
 unfold RO at en;rw [QF,B4 rfl] at en;have el:=KO (c:=cA) QF;have de:=Aks (fu:=2000) (d:=d+5) (by omega) (Afr Aba.wf QF) (by omega)
 rw [TL Aba QF] at de;have p8:=AZ (fu:=2000) (d:=d+4) (by omega) (cs:=[cA]) (by intro c hc;rw [List.mem_singleton.1 hc];exact Acb) (ans:=[⟨SR,Gq 71 1⟩]) (by simp) (vs:=[]) (by simp) 8
 have p9:=AZ (fu:=2000) (d:=d+4) (by omega) (cs:=[cA]) (by intro c hc;rw [List.mem_singleton.1 hc];exact Acb) (ans:=[⟨SR,Gq 71 1⟩]) (by simp) (vs:=[]) (by simp) 9
 rw [UW 8 (by omega) (by omega),B4 (by omega)] at p8
 rw [UW 9 (by omega) (by omega),A6 (by omega)] at p9
 have sm:=Aff (fu:=2000) (d:=d+11) (c:=cA) (by omega) (by omega) (by omega)
 have L:=Ak .u8 (Hm cA);have t:=J3 .u8 (Hm cA);have c0:VT.cells=[.sc (.string lfS),.sc (.string SR),.sc (.int .u64 9),.sc (.int .i64 (Gq 5 1).h),.sc (.int .u64 (Gq 5 1).root),.sc (.int .i64 1),.sc (.int .i64 8),.sc (.bool false),.sc (.int .i64 0),.sc (.int .u64 0),.sc (.int .i64 0),.lst false 1 0 [],.lst false 1 0 []]:=rfl;rw [c0] at sg;have e0:Cp [cA]=cA.cells:=by unfold Cp;simp
 have e1:Nc [⟨SR,Gq 71 1⟩]=[.sc (.string SR),.sc (.int .i64 (Gq 71 1).h),.sc (.int .u64 (Gq 71 1).root)]:=rfl;have e2:G0 []=[]:=rfl;rw [e0,e1,e2] at p8 p9;simp only [Ce.cells,Ky.cells,J2,Wh,Br] at k5 k71 sg en de p8 p9 sm;generalize Hm cA=E at *
 generalize cA=C at *
 generalize Gq 5 1=K at *
 generalize Gq 71 1=K2 at *
 have b0:((0:Int)==0)=true:=rfl;have b38:((38:Int)==38)=true:=rfl
 try unfold Aa
 repeat first
  |((with_reducible first|apply Aw|apply Al|apply Ay|apply Ar|apply A7|apply Bg|apply Cc|apply Bx|apply Am);· first|with_reducible rfl|(simp (disch:=omega) only [k5,k71,sg,en,de,p8,p9,sm,b0,b38,E6,Br,B8,L,t]<;>with_reducible rfl))
  |((with_reducible first|apply Ax|apply Au);· first|with_reducible rfl|omega|(simp (disch:=omega) only [gT,k5,k71,sg,en,de,p8,p9,sm,b0,b38,E6,Br,B8,L,t]<;>omega))
  |(with_reducible apply Av;· first|with_reducible rfl|(simp (disch:=omega) only [gF,k5,k71,sg,en,de,p8,p9,sm,b0,b38,E6,Br,B8,L,t]<;>omega))
 try simp (disch:=omega) only [k5,k71,sg,en,de,p8,p9,sm,b0,b38,E6,Br,B8,L,t]
 all_goals rfl
end
end
section
open Go.IntKind (wrap)
set_option maxRecDepth 1000000
theorem w0:isW ([]:List Int):=fun x h=>by cases h
abbrev mdS:ByteArray:=⟨#[(109:UInt8),(105:UInt8),(100:UInt8)]⟩
abbrev tpS:ByteArray:=⟨#[(116:UInt8),(111:UInt8),(112:UInt8)]⟩
abbrev otS:ByteArray:=⟨#[(111:UInt8),(116:UInt8),(104:UInt8),(101:UInt8),(114:UInt8)]⟩
end
section
open Go.IntKind (wrap)
set_option maxRecDepth 100000
abbrev Lw:FuncId:=26
noncomputable def Cj (fu:Nat)(call:Ai)(a0_0n:Nat)(a0_0:List PV)(a0_1:Int)(nn y0:Nat)(y1:Int)(y2:Nat)(y3:Int)(y4:Nat)(y5:List PV)(y6:Int)(y7 y8:List PV):Option A0:=C5 CB Tryz.prog fu call 26 Tryz.f26 (Bw Tryz.f26) [.pbox [.lst false 1 a0_0n a0_0,.sc (.int .i64 a0_1)]] [.r,.r,.r,.r,.l,.r,.l] nn ⟨lk [(0,(.ptr 410000 0)),(5,(.view 5 1 0 y0)),(6,(.sc (.int .i64 y1))),(7,(.view 7 13 0 y2)),(8,(.sc (.int .i64 y3)))],B5 [(410000,(.st [(.lst false 1 y4 y5),(.sc (.int .i64 y6))])),(5,(.ar false y7)),(7,(.ar false y8))]⟩
noncomputable def Ck (fu:Nat)(call:Ai)(a0_0n:Nat)(a0_0:List PV)(a0_1:Int)(nn:Nat)(y0:Int)(y1:Nat)(y2:Int)(y3:Nat)(y4:List PV)(y5:Int)(y6:List PV):Option A0:=C5 CB Tryz.prog fu call 26 Tryz.f26 (Bw Tryz.f26) [.pbox [.lst false 1 a0_0n a0_0,.sc (.int .i64 a0_1)]] [.r,.r,.r,.r,.r,.r] nn ⟨lk [(0,(.ptr 410000 0)),(6,(.sc (.int .i64 y0))),(7,(.view 7 13 0 y1)),(10,(.sc (.int .i64 y2)))],B5 [(410000,(.st [(.lst false 1 y3 y4),(.sc (.int .i64 y5))])),(7,(.ar false y6))]⟩
noncomputable def Dj (fu:Nat)(call:Ai)(a0_0n:Nat)(a0_0:List PV)(a0_1:Int)(nn:Nat)(y0:Int)(y1:Nat)(y2 y3:Int)(y4:Nat)(y5:List PV)(y6:Int)(y7:List PV):Option A0:=C5 CB Tryz.prog fu call 26 Tryz.f26 (Bw Tryz.f26) [.pbox [.lst false 1 a0_0n a0_0,.sc (.int .i64 a0_1)]] [.r,.r,.r,.r,.r,.r,.r,.l,.r,.l] nn ⟨lk [(0,(.ptr 410000 0)),(6,(.sc (.int .i64 y0))),(7,(.view 7 13 0 y1)),(10,(.sc (.int .i64 y2))),(11,(.sc (.int .i64 y3)))],B5 [(410000,(.st [(.lst false 1 y4 y5),(.sc (.int .i64 y6))])),(7,(.ar false y7))]⟩
noncomputable def Cl (fu:Nat)(call:Ai)(a0_0n:Nat)(a0_0:List PV)(a0_1:Int)(nn y0:Nat)(y1 y2 y3:Nat)(y4:Int)(y5:Nat)(y6:List PV)(y7:Int)(y8 y9 y10:List PV):Option A0:=C5 CB Tryz.prog fu call 26 Tryz.f26 (Bw Tryz.f26) [.pbox [.lst false 1 a0_0n a0_0,.sc (.int .i64 a0_1)]] [.r,.r,.r,.r,.r,.r,.r,.r,.r,.r,.r,.l,.r,.l] nn ⟨lk [(0,(.ptr 410000 0)),(7,(.view 7 13 0 y0)),(13,(.view 13 3 y1 y2)),(14,(.view 14 3 0 y3)),(15,(.sc (.int .i64 y4)))],B5 [(410000,(.st [(.lst false 1 y5 y6),(.sc (.int .i64 y7))])),(7,(.ar false y8)),(13,(.ar false y9)),(14,(.ar false y10))]⟩
theorem Bm (fu:Nat)(call:Ai)(a0_0n:Nat)(a0_0:List PV)(a0_1:Int)(nn y0:Nat)(y1:Int)(y2:Nat)(y3:Int)(y4:Nat)(y5:List PV)(y6:Int)(y7 y8:List PV):Cj fu call a0_0n a0_0 a0_1 (nn+1) y0 y1 y2 y3 y4 y5 y6 y7 y8=(Bc (decide (y3<y1)) (Ap (decide (0<=y3)&&decide (y3<(↑y0:Int)))<|Co (List.getD y7 (0+Int.toNat y3*1) .top) fun Ez=>Aa (wrap .u64 y3) fun Fo=>Aa (wrap .i64 (80+y3)) fun Fg=>Aa (wrap .u64 Fg) fun Ex=>Ag (call 29 [.sc (.int .u64 Ex),.sc (.int .i64 1)]) fun H6 Gz=>Ac Gz<|Ab H6 fun Hx D1=>Cy Hx fun Dm=>Ab Dm fun F6 H9=>Ad .i64 F6 fun Ey=>Ab H9 fun Jw Mq=>Ad .u64 Jw fun J1=>Ac Mq<|Ac D1<|Ag (call 14 [.pbox [.lst false 1 y4 y5,.sc (.int .i64 y6)],.sc (.int .i64 3)]) fun Mm Ml=>Ab Mm fun Ny Pu=>Ad .i64 Ny fun Qp=>Ac Pu<|Ab Ml fun Sd G2=>Ab Sd fun J0 Ur=>Fd 1 J0 fun Yu Oo Uh=>Ab Ur fun Tq Sr=>Ad .i64 Tq fun Tp=>Ac Sr<|Ac G2<|Ag (call 14 [.pbox [.lst false 1 Oo Uh,.sc (.int .i64 Tp)],.sc (.int .i64 5)]) fun Xh X6=>Ab Xh fun Ss Wm=>Ad .i64 Ss fun Wy=>Ac Wm<|Ab X6 fun Xd Pi=>Ab Xd fun Yi BM=>Fd 1 Yi fun BL P2 Ub=>Ab BM fun Ym AF=>Ad .i64 Ym fun Y2=>Ac AF<|Ac Pi<|Aa (wrap .i64 (10+Wy)) fun Zi=>Bc (decide (y3>0)) (Aa (wrap .i64 (y3-1)) fun CH=>Ag (call 14 [.pbox [.lst false 1 P2 Ub,.sc (.int .i64 Y2)],.sc (.int .i64 2)]) fun AO BK=>Ab AO fun W0 Xq=>Ad .i64 W0 fun EF=>Ac Xq<|Ab BK fun BQ BI=>Ab BQ fun Y1 BN=>Fd 1 Y1 fun KF BJ CU=>Ab BN fun GQ BP=>Ad .i64 GQ fun ET=>Ac BP<|Ac BI<|Aa (wrap .i64 (CH+EF)) fun IH=>Aa (if 2<IH then 2 else IH) fun JL=>Aa (wrap .i64 (y1-1)) fun TB=>Bc (decide (y3<TB)) (Aa (wrap .i64 (y3+1)) fun SE=>Ap (decide (0<=SE)&&decide (SE<(↑y0:Int)))<|Co (List.getD y7 (0+Int.toNat SE*1) .top) fun QK=>Ap (decide (y2*13<=y8.length)&&true&&decide ((y2+1)*152<=1099511627776)&&decide (y2+1<=1099511627776))<|Aa (y2+1) fun OA=>Aa (List.take (y2*13) y8++[.sc (.string Ez),.sc (.string QK),.sc (.int .u64 Fo),.sc (.int .i64 Ey),.sc (.int .u64 J1),.sc (.int .i64 Qp),.sc (.int .i64 Zi),.sc (.bool (decide (y3>0))),.sc (.int .i64 JL),.sc (.int .u64 3),.sc (.int .i64 0),.lst false 1 0 [],.lst false 1 0 []]) fun WJ=>Aa (wrap .i64 (y3+1)) fun SX=>Cj fu call a0_0n a0_0 a0_1 (nn) (y0) (y1) OA SX BJ CU ET (y7) WJ) (Ap (decide (y2*13<=y8.length)&&true&&decide ((y2+1)*152<=1099511627776)&&decide (y2+1<=1099511627776))<|Aa (y2+1) fun SS=>Aa (List.take (y2*13) y8++[.sc (.string Ez),.sc (.string (ByteArray.mk #[114,111,111,116])),.sc (.int .u64 Fo),.sc (.int .i64 Ey),.sc (.int .u64 J1),.sc (.int .i64 Qp),.sc (.int .i64 Zi),.sc (.bool (decide (y3>0))),.sc (.int .i64 JL),.sc (.int .u64 3),.sc (.int .i64 0),.lst false 1 0 [],.lst false 1 0 []]) fun SN=>Aa (wrap .i64 (y3+1)) fun GN=>Cj fu call a0_0n a0_0 a0_1 (nn) (y0) (y1) SS GN BJ CU ET (y7) SN)) (Aa (wrap .i64 (y1-1)) fun PB=>Bc (decide (y3<PB)) (Aa (wrap .i64 (y3+1)) fun RW=>Ap (decide (0<=RW)&&decide (RW<(↑y0:Int)))<|Co (List.getD y7 (0+Int.toNat RW*1) .top) fun UC=>Ap (decide (y2*13<=y8.length)&&true&&decide ((y2+1)*152<=1099511627776)&&decide (y2+1<=1099511627776))<|Aa (y2+1) fun UN=>Aa (List.take (y2*13) y8++[.sc (.string Ez),.sc (.string UC),.sc (.int .u64 Fo),.sc (.int .i64 Ey),.sc (.int .u64 J1),.sc (.int .i64 Qp),.sc (.int .i64 Zi),.sc (.bool (decide (y3>0))),.sc (.int .i64 0),.sc (.int .u64 3),.sc (.int .i64 0),.lst false 1 0 [],.lst false 1 0 []]) fun ZL=>Aa (wrap .i64 (y3+1)) fun ZZ=>Cj fu call a0_0n a0_0 a0_1 (nn) (y0) (y1) UN ZZ P2 Ub Y2 (y7) ZL) (Ap (decide (y2*13<=y8.length)&&true&&decide ((y2+1)*152<=1099511627776)&&decide (y2+1<=1099511627776))<|Aa (y2+1) fun YV=>Aa (List.take (y2*13) y8++[.sc (.string Ez),.sc (.string (ByteArray.mk #[114,111,111,116])),.sc (.int .u64 Fo),.sc (.int .i64 Ey),.sc (.int .u64 J1),.sc (.int .i64 Qp),.sc (.int .i64 Zi),.sc (.bool (decide (y3>0))),.sc (.int .i64 0),.sc (.int .u64 3),.sc (.int .i64 0),.lst false 1 0 [],.lst false 1 0 []]) fun WZ=>Aa (wrap .i64 (y3+1)) fun x98=>Cj fu call a0_0n a0_0 a0_1 (nn) (y0) (y1) YV x98 P2 Ub Y2 (y7) WZ))) (Ag (call 14 [.pbox [.lst false 1 y4 y5,.sc (.int .i64 y6)],.sc (.int .i64 y1)]) fun x99 Y9=>Ab x99 fun Xn H2=>Ad .i64 Xn fun D2=>Ac H2<|Ab Y9 fun DK Tv=>Ab DK fun Ts Ln=>Fd 1 Ts fun DN DW DR=>Ab Ln fun CG Iy=>Ad .i64 CG fun Lf=>Ac Iy<|Ac Tv<|Ag (call 14 [.pbox [.lst false 1 DW DR,.sc (.int .i64 Lf)],.sc (.int .i64 12)]) fun BZ BV=>Ab BZ fun DV JD=>Ad .i64 DV fun Vm=>Ac JD<|Ab BV fun Xp Z1=>Ab Xp fun Zf CY=>Fd 1 Zf fun GK Tu Ta=>Ab CY fun Rn Vu=>Ad .i64 Rn fun Tx=>Ac Vu<|Ac Z1<|Bc (Vm==0) (Ap (decide (0<=D2)&&decide (D2<(↑y2:Int)))<|Ap (decide (0+Int.toNat D2*13+7+1<=y8.length))<|Aa (Ba y8 [.sc (.bool false)] (0+Int.toNat D2*13+7)) fun BG=>Ap (decide (0<=D2)&&decide (D2<(↑y2:Int)))<|Ap (decide (0+Int.toNat D2*13+8+1<=BG.length))<|Aa (Ba BG [.sc (.int .i64 0)] (0+Int.toNat D2*13+8)) fun Yo=>Ck fu call a0_0n a0_0 a0_1 (fu) (y1) (y2) D2 Tu Ta Tx Yo) (Bc (Vm==1) (Ap (decide (0<=D2)&&decide (D2<(↑y2:Int)))<|Ap (decide (0+Int.toNat D2*13+8+1<=y8.length))<|Aa (Ba y8 [.sc (.int .i64 0)] (0+Int.toNat D2*13+8)) fun JB=>Ck fu call a0_0n a0_0 a0_1 (fu) (y1) (y2) D2 Tu Ta Tx JB) (Bc (Vm==2) (Ap (decide (0<=D2)&&decide (D2<(↑y2:Int)))<|Ap (decide (0+Int.toNat D2*13+1+1<=y8.length))<|Aa (Ba y8 [.sc (.string (ByteArray.mk #[111,116,104,101,114]))] (0+Int.toNat D2*13+1)) fun DU=>Ck fu call a0_0n a0_0 a0_1 (fu) (y1) (y2) D2 Tu Ta Tx DU) (Bc (Vm==3) (Ap (decide (0<=D2)&&decide (D2<(↑y2:Int)))<|Ap (decide (0+Int.toNat D2*13+0+1<=y8.length))<|Aa (Ba y8 [.sc (.string (ByteArray.mk #[111,116,104,101,114]))] (0+Int.toNat D2*13+0)) fun Ye=>Ck fu call a0_0n a0_0 a0_1 (fu) (y1) (y2) D2 Tu Ta Tx Ye) (Bc (Vm==4) (Ap (decide (0<=D2)&&decide (D2<(↑y2:Int)))<|Ad .i64 (List.getD y8 (0+Int.toNat D2*13+5) .top) fun GA=>Ap (decide (0<=D2)&&decide (D2<(↑y2:Int)))<|Ap (decide (0+Int.toNat D2*13+6+1<=y8.length))<|Aa (Ba y8 [.sc (.int .i64 GA)] (0+Int.toNat D2*13+6)) fun IW=>Ck fu call a0_0n a0_0 a0_1 (fu) (y1) (y2) D2 Tu Ta Tx IW) (Ck fu call a0_0n a0_0 a0_1 (fu) (y1) (y2) D2 Tu Ta Tx (y8)))))))):=by kernel_rfl
theorem Rf (fu:Nat)(call:Ai)(a0_0n:Nat)(a0_0:List PV)(a0_1:Int)(nn:Nat)(hnn:0<nn)(y0:Int)(y1:Nat)(y2:Int)(y3:Nat)(y4:List PV)(y5:Int)(y6:List PV):Ck fu call a0_0n a0_0 a0_1 nn y0 y1 y2 y3 y4 y5 y6=(Dj fu call a0_0n a0_0 a0_1 (fu) (y0) (y1) (y2) 0 (y3) (y4) (y5) (y6)):=by cases nn with|zero=>exact absurd hnn (Nat.lt_irrefl 0)|succ nn=>kernel_rfl
theorem C9 (fu:Nat)(call:Ai)(a0_0n:Nat)(a0_0:List PV)(a0_1:Int)(nn:Nat)(y0:Int)(y1:Nat)(y2 y3:Int)(y4:Nat)(y5:List PV)(y6:Int)(y7:List PV):Dj fu call a0_0n a0_0 a0_1 (nn+1) y0 y1 y2 y3 y4 y5 y6 y7=(Bc (decide (y3<y0)) (Aa (wrap .i64 (81+y3)) fun HS=>Aa (wrap .u64 HS) fun LV=>Aa (wrap .i64 (y0-1)) fun IC=>Bc (y3==IC) (Ap (decide (0<=y3)&&decide (y3<(↑y1:Int)))<|Co (List.getD y7 (0+Int.toNat y3*13) .top) fun DO=>Co (List.getD y7 (0+Int.toNat y3*13+1) .top) fun GJ=>Ad .u64 (List.getD y7 (0+Int.toNat y3*13+1+1) .top) fun HJ=>Ad .i64 (List.getD y7 (0+Int.toNat y3*13+1+1+1) .top) fun JN=>Ad .u64 (List.getD y7 (0+Int.toNat y3*13+1+1+1+1) .top) fun JX=>Ad .i64 (List.getD y7 (0+Int.toNat y3*13+1+1+1+1+1) .top) fun DC=>Ad .i64 (List.getD y7 (0+Int.toNat y3*13+1+1+1+1+1+1) .top) fun FX=>Bl (List.getD y7 (0+Int.toNat y3*13+1+1+1+1+1+1+1) .top) fun GL=>Ad .i64 (List.getD y7 (0+Int.toNat y3*13+1+1+1+1+1+1+1+1) .top) fun FZ=>Ad .u64 (List.getD y7 (0+Int.toNat y3*13+1+1+1+1+1+1+1+1+1) .top) fun HM=>Ad .i64 (List.getD y7 (0+Int.toNat y3*13+1+1+1+1+1+1+1+1+1+1) .top) fun QY=>Fd 1 (List.getD y7 (0+Int.toNat y3*13+1+1+1+1+1+1+1+1+1+1+1) .top) fun TA SH DH=>Fd 1 (List.getD y7 (0+Int.toNat y3*13+1+1+1+1+1+1+1+1+1+1+1+1) .top) fun MP RB ZE=>Ag (call 14 [.pbox [.lst false 1 y4 y5,.sc (.int .i64 y6)],.sc (.int .i64 2)]) fun ZC VO=>Ab ZC fun RU VE=>Ad .i64 RU fun YJ=>Ac VE<|Ab VO fun ZI TF=>Ab ZI fun ZM QJ=>Fd 1 ZM fun XR ZO QC=>Ab QJ fun VK Aan=>Ad .i64 VK fun ZD=>Ac Aan<|Ac TF<|Ag (call 13 [.agg [.sc (.string DO),.sc (.string GJ),.sc (.int .u64 HJ),.sc (.int .i64 JN),.sc (.int .u64 JX),.sc (.int .i64 DC),.sc (.int .i64 FX),.sc (.bool GL),.sc (.int .i64 FZ),.sc (.int .u64 HM),.sc (.int .i64 QY),.lst false 1 SH DH,.lst false 1 RB ZE],.sc (.int .u64 71),.sc (.int .i64 1),.sc (.int .i64 YJ)]) fun Aah Af4=>Ac Af4<|Ab Aah fun Agg Ah8=>Cy Agg fun Aag=>Ab Aag fun Add Aht=>Co Add fun Agm=>Ab Aht fun Ahy An5=>Co Ahy fun Aor=>Ab An5 fun Afe Ajt=>Ad .u64 Afe fun Amm=>Ab Ajt fun Aq5 Ap3=>Ad .i64 Aq5 fun Aoi=>Ab Ap3 fun Aou Amz=>Ad .u64 Aou fun Ark=>Ab Amz fun App Anc=>Ad .i64 App fun Anz=>Ab Anc fun Aqu Ao7=>Ad .i64 Aqu fun Anx=>Ab Ao7 fun Ank Aqa=>Bl Ank fun Apw=>Ab Aqa fun Aod And=>Ad .i64 Aod fun Aqd=>Ab And fun Aqq Arb=>Ad .u64 Aqq fun Aq2=>Ab Arb fun Amn Aqk=>Ad .i64 Amn fun An8=>Ab Aqk fun Apv Anr=>Fd 1 Apv fun Asf Anp An3=>Ab Anr fun Aml Amo=>Fd 1 Aml fun Asx Arc Aql=>Ac Amo<|Ab Ah8 fun Aps An9=>Ad .i64 Aps fun As0=>Ac An9<|Ap (decide (0<=y3)&&decide (y3<(↑y1:Int)))<|Ap (decide (0+Int.toNat y3*13+13<=y7.length))<|Aa (Ba y7 [.sc (.string Agm),.sc (.string Aor),.sc (.int .u64 Amm),.sc (.int .i64 Aoi),.sc (.int .u64 Ark),.sc (.int .i64 Anz),.sc (.int .i64 Anx),.sc (.bool Apw),.sc (.int .i64 Aqd),.sc (.int .u64 Aq2),.sc (.int .i64 An8),.lst false 1 Anp An3,.lst false 1 Arc Aql] (0+Int.toNat y3*13)) fun Amq=>Aa (wrap .i64 (y3+1)) fun Anv=>Dj fu call a0_0n a0_0 a0_1 (nn) (y0) (y1) (y2) Anv ZO QC ZD Amq) (Ap (decide (0<=y3)&&decide (y3<(↑y1:Int)))<|Co (List.getD y7 (0+Int.toNat y3*13) .top) fun Am0=>Co (List.getD y7 (0+Int.toNat y3*13+1) .top) fun Apn=>Ad .u64 (List.getD y7 (0+Int.toNat y3*13+1+1) .top) fun Aqp=>Ad .i64 (List.getD y7 (0+Int.toNat y3*13+1+1+1) .top) fun Aom=>Ad .u64 (List.getD y7 (0+Int.toNat y3*13+1+1+1+1) .top) fun Amc=>Ad .i64 (List.getD y7 (0+Int.toNat y3*13+1+1+1+1+1) .top) fun Aq1=>Ad .i64 (List.getD y7 (0+Int.toNat y3*13+1+1+1+1+1+1) .top) fun Am3=>Bl (List.getD y7 (0+Int.toNat y3*13+1+1+1+1+1+1+1) .top) fun Ape=>Ad .i64 (List.getD y7 (0+Int.toNat y3*13+1+1+1+1+1+1+1+1) .top) fun Ap4=>Ad .u64 (List.getD y7 (0+Int.toNat y3*13+1+1+1+1+1+1+1+1+1) .top) fun Apj=>Ad .i64 (List.getD y7 (0+Int.toNat y3*13+1+1+1+1+1+1+1+1+1+1) .top) fun Aq6=>Fd 1 (List.getD y7 (0+Int.toNat y3*13+1+1+1+1+1+1+1+1+1+1+1) .top) fun Asi Aoq Apa=>Fd 1 (List.getD y7 (0+Int.toNat y3*13+1+1+1+1+1+1+1+1+1+1+1+1) .top) fun Asu Amt Am5=>Ag (call 14 [.pbox [.lst false 1 y4 y5,.sc (.int .i64 y6)],.sc (.int .i64 2)]) fun Ap9 Aol=>Ab Ap9 fun Aqe Apf=>Ad .i64 Aqe fun Aqf=>Ac Apf<|Ab Aol fun Apb Aog=>Ab Apb fun Aqy Apl=>Fd 1 Aqy fun Ase Arj Ao9=>Ab Apl fun Ani Am2=>Ad .i64 Ani fun Ap6=>Ac Am2<|Ac Aog<|Ag (call 13 [.agg [.sc (.string Am0),.sc (.string Apn),.sc (.int .u64 Aqp),.sc (.int .i64 Aom),.sc (.int .u64 Amc),.sc (.int .i64 Aq1),.sc (.int .i64 Am3),.sc (.bool Ape),.sc (.int .i64 Ap4),.sc (.int .u64 Apj),.sc (.int .i64 Aq6),.lst false 1 Aoq Apa,.lst false 1 Amt Am5],.sc (.int .u64 LV),.sc (.int .i64 1),.sc (.int .i64 Aqf)]) fun Ap0 Aok=>Ac Aok<|Ab Ap0 fun Amd Ans=>Cy Amd fun Aob=>Ab Aob fun Arf Am9=>Co Arf fun Aq4=>Ab Am9 fun Arn Aqo=>Co Arn fun Ame=>Ab Aqo fun Anj Anu=>Ad .u64 Anj fun Aqi=>Ab Anu fun Arh Am1=>Ad .i64 Arh fun Ams=>Ab Am1 fun Am8 Amw=>Ad .u64 Am8 fun Aqm=>Ab Amw fun Aox Aon=>Ad .i64 Aox fun Arm=>Ab Aon fun Ana Apz=>Ad .i64 Ana fun Anm=>Ab Apz fun Amu Amv=>Bl Amu fun Aoj=>Ab Amv fun Aow Aq0=>Ad .i64 Aow fun Anh=>Ab Aq0 fun Ann Aqb=>Ad .u64 Ann fun Aq8=>Ab Aqb fun Ao3 Am6=>Ad .i64 Ao3 fun Apy=>Ab Am6 fun Apr Aqr=>Fd 1 Apr fun Ass Aoc Apo=>Ab Aqr fun Aoa Apg=>Fd 1 Aoa fun Ar1 Aqw Aqn=>Ac Apg<|Ab Ans fun Am7 Apc=>Ad .i64 Am7 fun Ar8=>Ac Apc<|Ap (decide (0<=y3)&&decide (y3<(↑y1:Int)))<|Ap (decide (0+Int.toNat y3*13+13<=y7.length))<|Aa (Ba y7 [.sc (.string Aq4),.sc (.string Ame),.sc (.int .u64 Aqi),.sc (.int .i64 Ams),.sc (.int .u64 Aqm),.sc (.int .i64 Arm),.sc (.int .i64 Anm),.sc (.bool Aoj),.sc (.int .i64 Anh),.sc (.int .u64 Aq8),.sc (.int .i64 Apy),.lst false 1 Aoc Apo,.lst false 1 Aqw Aqn] (0+Int.toNat y3*13)) fun Aoh=>Aa (wrap .i64 (y3+1)) fun Ap7=>Dj fu call a0_0n a0_0 a0_1 (nn) (y0) (y1) (y2) Ap7 Arj Ao9 Ap6 Aoh)) (Ag (call 14 [.pbox [.lst false 1 y4 y5,.sc (.int .i64 y6)],.sc (.int .i64 12)]) fun Amy Am4=>Ab Amy fun Ano Ap5=>Ad .i64 Ano fun Acs=>Ac Ap5<|Ab Am4 fun Apm An6=>Ab Apm fun Aq3 Api=>Fd 1 Aq3 fun Asy ZW Aal=>Ab Api fun Apu Aqt=>Ad .i64 Apu fun XO=>Ac Aqt<|Ac An6<|Bc (Acs==0) (Ap (decide (0<=y2)&&decide (y2<(↑y1:Int)))<|Ad .u64 (List.getD y7 (0+Int.toNat y2*13+2) .top) fun Aoy=>Aa (wrap .u64 (Aoy+7)) fun Aov=>Ap (decide (0<=y2)&&decide (y2<(↑y1:Int)))<|Ap (decide (0+Int.toNat y2*13+2+1<=y7.length))<|Aa (Ba y7 [.sc (.int .u64 Aov)] (0+Int.toNat y2*13+2)) fun Aqx=>Ag (call 29 [.sc (.int .u64 72),.sc (.int .i64 1)]) fun Arl Ami=>Ac Ami<|Ab Arl fun Amp Apd=>Cy Amp fun Afk=>Ab Afk fun Aka Auo=>Ad .i64 Aka fun A5f=>Ab Auo fun Avq A2r=>Ad .u64 Avq fun At5=>Ac A2r<|Ac Apd<|Ag (call 29 [.sc (.int .u64 71),.sc (.int .i64 1)]) fun Au4 A1v=>Ac A1v<|Ab Au4 fun A4k Aym=>Cy A4k fun Aty=>Ab Aty fun Avb A33=>Ad .i64 Avb fun Avm=>Ab A33 fun Awl A4h=>Ad .u64 Awl fun A3t=>Ac A4h<|Ac Aym<|Ag (call 29 [.sc (.int .u64 71),.sc (.int .i64 1)]) fun A1c A4p=>Ac A4p<|Ab A1c fun Avf Awy=>Cy Avf fun A43=>Ab A43 fun Awn Awq=>Ad .i64 Awn fun Ax2=>Ab Awq fun A3j As9=>Ad .u64 A3j fun A0u=>Ac As9<|Ac Awy<|Ag (call 14 [.pbox [.lst false 1 ZW Aal,.sc (.int .i64 XO)],.sc (.int .i64 2)]) fun A2h Ayx=>Ab A2h fun A2f A0f=>Ad .i64 A2f fun Aj1=>Ac A0f<|Ab Ayx fun A2p Ayt=>Ab A2p fun A5k At0=>Fd 1 A5k fun A6a A3u A5j=>Ab At0 fun Aun Aws=>Ad .i64 Aun fun Ayk=>Ac Aws<|Ac Ayt<|Ag (call 14 [.pbox [.lst false 1 A3u A5j,.sc (.int .i64 Ayk)],.sc (.int .i64 2)]) fun A48 Azt=>Ab A48 fun Avj A2g=>Ad .i64 Avj fun A3l=>Ac A2g<|Ab Azt fun Ayl A5l=>Ab Ayl fun Ax1 Az3=>Fd 1 Ax1 fun A6g Awc Atl=>Ab Az3 fun A3r A20=>Ad .i64 A3r fun Azj=>Ac A20<|Ac A5l<|Aa (wrap .i64 (2+A3l)) fun Aj8=>Ap (decide (0<=Aj1))<|Ap (decide (0<=Aj8))<|Ap (decide (Int.toNat Aj1<=Int.toNat Aj8)&&decide (Int.toNat Aj8<=3))<|Aa (0+Int.toNat Aj1*3) fun A3n=>Aa (Int.toNat Aj8-Int.toNat Aj1) fun Axq=>Ag (call 14 [.pbox [.lst false 1 Awc Atl,.sc (.int .i64 Azj)],.sc (.int .i64 3)]) fun Awj Azq=>Ab Awj fun A0s Ath=>Ad .i64 A0s fun Ayz=>Ac Ath<|Ab Azq fun A2k Awi=>Ab A2k fun A2j Az1=>Fd 1 A2j fun A6b A0t Ayr=>Ab Az1 fun A28 Aw4=>Ad .i64 A28 fun Atr=>Ac Aw4<|Ac Awi<|Cl fu call a0_0n a0_0 a0_1 (fu) (y1) A3n Axq 0 Ayz A0t Ayr Atr Aqx ([.sc (.string (ByteArray.mk #[114,111,111,116])),.sc (.int .i64 A5f),.sc (.int .u64 At5),.sc (.string (ByteArray.mk #[114,111,111,116])),.sc (.int .i64 Avm),.sc (.int .u64 A3t),.sc (.string (ByteArray.mk #[109,105,100])),.sc (.int .i64 Ax2),.sc (.int .u64 A0u)]) ([])) (Bc (Acs==1) (Aa (wrap .i64 (y2+1)) fun Ang=>Ap (decide (0<=Ang))<|Ap (decide (Int.toNat Ang<=y1))<|Aa (Int.toNat Ang-0) fun Az6=>Ag (call 29 [.sc (.int .u64 72),.sc (.int .i64 1)]) fun Awf Axr=>Ac Axr<|Ab Awf fun Avz A3f=>Cy Avz fun A0o=>Ab A0o fun Au3 A1g=>Ad .i64 Au3 fun A47=>Ab A1g fun Axj A06=>Ad .u64 Axj fun Axd=>Ac A06<|Ac A3f<|Ag (call 29 [.sc (.int .u64 71),.sc (.int .i64 1)]) fun A4o A4v=>Ac A4v<|Ab A4o fun Aw6 Atx=>Cy Aw6 fun A0l=>Ab A0l fun A19 A2w=>Ad .i64 A19 fun Axn=>Ab A2w fun Aua A3h=>Ad .u64 Aua fun Ayc=>Ac A3h<|Ac Atx<|Ag (call 29 [.sc (.int .u64 71),.sc (.int .i64 1)]) fun Avr Av2=>Ac Av2<|Ab Avr fun A4r A10=>Cy A4r fun A0w=>Ab A0w fun A5s Av0=>Ad .i64 A5s fun Azz=>Ab Av0 fun Azl Axs=>Ad .u64 Azl fun Axy=>Ac Axs<|Ac A10<|Ag (call 14 [.pbox [.lst false 1 ZW Aal,.sc (.int .i64 XO)],.sc (.int .i64 2)]) fun A2m Azr=>Ab A2m fun A0r A2s=>Ad .i64 A0r fun Ajw=>Ac A2s<|Ab Azr fun At8 Ax0=>Ab At8 fun Axx A2a=>Fd 1 Axx fun A58 Auz A1e=>Ab A2a fun Ayg Awt=>Ad .i64 Ayg fun A17=>Ac Awt<|Ac Ax0<|Ag (call 14 [.pbox [.lst false 1 Auz A1e,.sc (.int .i64 A17)],.sc (.int .i64 2)]) fun Avo Av6=>Ab Avo fun A3p Awk=>Ad .i64 A3p fun Aul=>Ac Awk<|Ab Av6 fun A5b Axf=>Ab A5b fun A3b Atj=>Fd 1 A3b fun A6q Atc Au8=>Ab Atj fun Atd Au7=>Ad .i64 Atd fun Axo=>Ac Au7<|Ac Axf<|Aa (wrap .i64 (2+Aul)) fun Akv=>Ap (decide (0<=Ajw))<|Ap (decide (0<=Akv))<|Ap (decide (Int.toNat Ajw<=Int.toNat Akv)&&decide (Int.toNat Akv<=3))<|Aa (0+Int.toNat Ajw*3) fun A5q=>Aa (Int.toNat Akv-Int.toNat Ajw) fun Azn=>Ag (call 14 [.pbox [.lst false 1 Atc Au8,.sc (.int .i64 Axo)],.sc (.int .i64 3)]) fun A2d A4g=>Ab A2d fun Aug A16=>Ad .i64 Aug fun A0d=>Ac A16<|Ab A4g fun A0n A0b=>Ab A0n fun Atv A2n=>Fd 1 Atv fun A6f A2l A1m=>Ab A2n fun A5t A5r=>Ad .i64 A5t fun Ave=>Ac A5r<|Ac A0b<|Cl fu call a0_0n a0_0 a0_1 (fu) Az6 A5q Azn 0 A0d A2l A1m Ave (y7) ([.sc (.string (ByteArray.mk #[114,111,111,116])),.sc (.int .i64 A47),.sc (.int .u64 Axd),.sc (.string (ByteArray.mk #[114,111,111,116])),.sc (.int .i64 Axn),.sc (.int .u64 Ayc),.sc (.string (ByteArray.mk #[109,105,100])),.sc (.int .i64 Azz),.sc (.int .u64 Axy)]) ([])) (Bc (Acs==2) (Ap (decide (0<=y2)&&decide (y2<(↑y1:Int)))<|Co (List.getD y7 (0+Int.toNat y2*13) .top) fun Aus=>Co (List.getD y7 (0+Int.toNat y2*13+1) .top) fun A02=>Ad .u64 (List.getD y7 (0+Int.toNat y2*13+1+1) .top) fun Ay3=>Ad .i64 (List.getD y7 (0+Int.toNat y2*13+1+1+1) .top) fun A3q=>Ad .u64 (List.getD y7 (0+Int.toNat y2*13+1+1+1+1) .top) fun A0i=>Ad .i64 (List.getD y7 (0+Int.toNat y2*13+1+1+1+1+1) .top) fun Az5=>Ad .i64 (List.getD y7 (0+Int.toNat y2*13+1+1+1+1+1+1) .top) fun Aza=>Bl (List.getD y7 (0+Int.toNat y2*13+1+1+1+1+1+1+1) .top) fun Aum=>Ad .i64 (List.getD y7 (0+Int.toNat y2*13+1+1+1+1+1+1+1+1) .top) fun A3g=>Ad .u64 (List.getD y7 (0+Int.toNat y2*13+1+1+1+1+1+1+1+1+1) .top) fun Aw3=>Ad .i64 (List.getD y7 (0+Int.toNat y2*13+1+1+1+1+1+1+1+1+1+1) .top) fun A4c=>Fd 1 (List.getD y7 (0+Int.toNat y2*13+1+1+1+1+1+1+1+1+1+1+1) .top) fun A6k Ayv A2c=>Fd 1 (List.getD y7 (0+Int.toNat y2*13+1+1+1+1+1+1+1+1+1+1+1+1) .top) fun A52 A21 A37=>Ap (decide (y1*13<=y7.length)&&true&&decide ((y1+1)*152<=1099511627776)&&decide (y1+1<=1099511627776))<|Aa (y1+1) fun Av1=>Aa (List.take (y1*13) y7++[.sc (.string Aus),.sc (.string A02),.sc (.int .u64 Ay3),.sc (.int .i64 A3q),.sc (.int .u64 A0i),.sc (.int .i64 Az5),.sc (.int .i64 Aza),.sc (.bool Aum),.sc (.int .i64 A3g),.sc (.int .u64 Aw3),.sc (.int .i64 A4c),.lst false 1 Ayv A2c,.lst false 1 A21 A37]) fun Ayi=>Ag (call 29 [.sc (.int .u64 72),.sc (.int .i64 1)]) fun Aw0 A13=>Ac A13<|Ab Aw0 fun Azm Avp=>Cy Azm fun Awu=>Ab Awu fun Atb A1a=>Ad .i64 Atb fun Ay6=>Ab A1a fun Avs Axz=>Ad .u64 Avs fun A2u=>Ac Axz<|Ac Avp<|Ag (call 29 [.sc (.int .u64 71),.sc (.int .i64 1)]) fun A3i A4a=>Ac A4a<|Ab A3i fun A22 Ax3=>Cy A22 fun Ayn=>Ab Ayn fun A1l A32=>Ad .i64 A1l fun A1n=>Ab A32 fun A4l A42=>Ad .u64 A4l fun A30=>Ac A42<|Ac Ax3<|Ag (call 29 [.sc (.int .u64 71),.sc (.int .i64 1)]) fun Awg A5a=>Ac A5a<|Ab Awg fun A46 Avu=>Cy A46 fun A4e=>Ab A4e fun Ay5 A0y=>Ad .i64 Ay5 fun Aw5=>Ab A0y fun A5o A0q=>Ad .u64 A5o fun Atq=>Ac A0q<|Ac Avu<|Ag (call 14 [.pbox [.lst false 1 ZW Aal,.sc (.int .i64 XO)],.sc (.int .i64 2)]) fun A4f A40=>Ab A4f fun Atw Awx=>Ad .i64 Atw fun Akn=>Ac Awx<|Ab A40 fun A5u A4j=>Ab A5u fun Ayj Avh=>Fd 1 Ayj fun A54 A3m Av5=>Ab Avh fun A2o Ax6=>Ad .i64 A2o fun Azu=>Ac Ax6<|Ac A4j<|Ag (call 14 [.pbox [.lst false 1 A3m Av5,.sc (.int .i64 Azu)],.sc (.int .i64 2)]) fun A4m Ay8=>Ab A4m fun A0h A44=>Ad .i64 A0h fun Ay7=>Ac A44<|Ab Ay8 fun Ay1 A1u=>Ab Ay1 fun Azb Avn=>Fd 1 Azb fun A57 A4d A09=>Ab Avn fun Auu Azs=>Ad .i64 Auu fun Az0=>Ac Azs<|Ac A1u<|Aa (wrap .i64 (2+Ay7)) fun Ako=>Ap (decide (0<=Akn))<|Ap (decide (0<=Ako))<|Ap (decide (Int.toNat Akn<=Int.toNat Ako)&&decide (Int.toNat Ako<=3))<|Aa (0+Int.toNat Akn*3) fun A25=>Aa (Int.toNat Ako-Int.toNat Akn) fun A1q=>Ag (call 14 [.pbox [.lst false 1 A4d A09,.sc (.int .i64 Az0)],.sc (.int .i64 3)]) fun Aux A3y=>Ab Aux fun Au5 Atn=>Ad .i64 Au5 fun Ayh=>Ac Atn<|Ab A3y fun Aw2 A49=>Ab Aw2 fun A1s Azi=>Fd 1 A1s fun A6j Au9 Aze=>Ab Azi fun Ay2 A0g=>Ad .i64 Ay2 fun A1j=>Ac A0g<|Ac A49<|Cl fu call a0_0n a0_0 a0_1 (fu) Av1 A25 A1q 0 Ayh Au9 Aze A1j Ayi ([.sc (.string (ByteArray.mk #[114,111,111,116])),.sc (.int .i64 Ay6),.sc (.int .u64 A2u),.sc (.string (ByteArray.mk #[114,111,111,116])),.sc (.int .i64 A1n),.sc (.int .u64 A30),.sc (.string (ByteArray.mk #[109,105,100])),.sc (.int .i64 Aw5),.sc (.int .u64 Atq)]) ([])) (Bc (Acs==3) (Ap (decide (0<=y2)&&decide (y2<(↑y1:Int)))<|Ap (decide (0+Int.toNat y2*13+6+1<=y7.length))<|Aa (Ba y7 [.sc (.int .i64 (-1))] (0+Int.toNat y2*13+6)) fun A5m=>Ag (call 29 [.sc (.int .u64 72),.sc (.int .i64 1)]) fun A34 A4t=>Ac A4t<|Ab A34 fun Az2 A1w=>Cy Az2 fun Ay4=>Ab Ay4 fun A4i Ays=>Ad .i64 A4i fun Ava=>Ab Ays fun A00 Av7=>Ad .u64 A00 fun A1z=>Ac Av7<|Ac A1w<|Ag (call 29 [.sc (.int .u64 71),.sc (.int .i64 1)]) fun A45 Ay0=>Ac Ay0<|Ab A45 fun Aww A2e=>Cy Aww fun Az9=>Ab Az9 fun A23 A1f=>Ad .i64 A23 fun Aut=>Ab A1f fun Awe A0z=>Ad .u64 Awe fun Ax9=>Ac A0z<|Ac A2e<|Ag (call 29 [.sc (.int .u64 71),.sc (.int .i64 1)]) fun Awz Avl=>Ac Avl<|Ab Awz fun Ay9 A11=>Cy Ay9 fun Ayq=>Ab Ayq fun Awd A0a=>Ad .i64 Awd fun Aui=>Ab A0a fun A5e Auc=>Ad .u64 A5e fun Ata=>Ac Auc<|Ac A11<|Ag (call 14 [.pbox [.lst false 1 ZW Aal,.sc (.int .i64 XO)],.sc (.int .i64 2)]) fun Az4 Aub=>Ab Az4 fun Atk Aw7=>Ad .i64 Atk fun Aj4=>Ac Aw7<|Ab Aub fun A0e A2x=>Ab A0e fun A1h A5d=>Fd 1 A1h fun A59 A1o A1x=>Ab A5d fun A3k At3=>Ad .i64 A3k fun A4x=>Ac At3<|Ac A2x<|Ag (call 14 [.pbox [.lst false 1 A1o A1x,.sc (.int .i64 A4x)],.sc (.int .i64 2)]) fun A01 Aw9=>Ab A01 fun Azo Azd=>Ad .i64 Azo fun Ax4=>Ac Azd<|Ab Aw9 fun A1d Avc=>Ab A1d fun Avw Awm=>Fd 1 Avw fun A6m Auh Au2=>Ab Awm fun A5c Av4=>Ad .i64 A5c fun A0x=>Ac Av4<|Ac Avc<|Aa (wrap .i64 (2+Ax4)) fun Ajp=>Ap (decide (0<=Aj4))<|Ap (decide (0<=Ajp))<|Ap (decide (Int.toNat Aj4<=Int.toNat Ajp)&&decide (Int.toNat Ajp<=3))<|Aa (0+Int.toNat Aj4*3) fun Auv=>Aa (Int.toNat Ajp-Int.toNat Aj4) fun A5p=>Ag (call 14 [.pbox [.lst false 1 Auh Au2,.sc (.int .i64 A0x)],.sc (.int .i64 3)]) fun A3w Ayf=>Ab A3w fun A15 A39=>Ad .i64 A15 fun Ati=>Ac A39<|Ab Ayf fun At9 A0p=>Ab At9 fun A4s Avv=>Fd 1 A4s fun A56 A4u A4q=>Ab Avv fun Ax7 A3x=>Ad .i64 Ax7 fun Atg=>Ac A3x<|Ac A0p<|Cl fu call a0_0n a0_0 a0_1 (fu) (y1) Auv A5p 0 Ati A4u A4q Atg A5m ([.sc (.string (ByteArray.mk #[114,111,111,116])),.sc (.int .i64 Ava),.sc (.int .u64 A1z),.sc (.string (ByteArray.mk #[114,111,111,116])),.sc (.int .i64 Aut),.sc (.int .u64 Ax9),.sc (.string (ByteArray.mk #[109,105,100])),.sc (.int .i64 Aui),.sc (.int .u64 Ata)]) ([])) (Ag (call 29 [.sc (.int .u64 72),.sc (.int .i64 1)]) fun Awh A24=>Ac A24<|Ab Awh fun A12 Auf=>Cy A12 fun A4n=>Ab A4n fun Atp Ayd=>Ad .i64 Atp fun Azg=>Ab Ayd fun Aue Awv=>Ad .u64 Aue fun At4=>Ac Awv<|Ac Auf<|Ag (call 29 [.sc (.int .u64 71),.sc (.int .i64 1)]) fun Azw Axh=>Ac Axh<|Ab Azw fun Axp Aur=>Cy Axp fun A38=>Ab A38 fun At2 Avk=>Ad .i64 At2 fun Azy=>Ab Avk fun Aup Awa=>Ad .u64 Aup fun A2b=>Ac Awa<|Ac Aur<|Ag (call 29 [.sc (.int .u64 71),.sc (.int .i64 1)]) fun A26 A1r=>Ac A1r<|Ab A26 fun Au1 A3d=>Cy Au1 fun A2q=>Ab A2q fun A0c Axc=>Ad .i64 A0c fun Avg=>Ab Axc fun Atu A2z=>Ad .u64 Atu fun Axv=>Ac A2z<|Ac A3d<|Ag (call 14 [.pbox [.lst false 1 ZW Aal,.sc (.int .i64 XO)],.sc (.int .i64 2)]) fun Atf A0m=>Ab Atf fun Au6 A4y=>Ad .i64 Au6 fun Aj2=>Ac A4y<|Ab A0m fun A3a Att=>Ab A3a fun Axi Auy=>Fd 1 Axi fun A53 At1 Axe=>Ab Auy fun A5g A1b=>Ad .i64 A5g fun A27=>Ac A1b<|Ac Att<|Ag (call 14 [.pbox [.lst false 1 At1 Axe,.sc (.int .i64 A27)],.sc (.int .i64 2)]) fun Aya A29=>Ab Aya fun Ayy A2y=>Ad .i64 Ayy fun A4w=>Ac A2y<|Ab A29 fun Auq A1k=>Ab Auq fun Au0 A4z=>Fd 1 Au0 fun A6d Ayb A1t=>Ab A4z fun Azc Awr=>Ad .i64 Azc fun A04=>Ac Awr<|Ac A1k<|Aa (wrap .i64 (2+A4w)) fun Ajd=>Ap (decide (0<=Aj2))<|Ap (decide (0<=Ajd))<|Ap (decide (Int.toNat Aj2<=Int.toNat Ajd)&&decide (Int.toNat Ajd<=3))<|Aa (0+Int.toNat Aj2*3) fun Ate=>Aa (Int.toNat Ajd-Int.toNat Aj2) fun A08=>Ag (call 14 [.pbox [.lst false 1 Ayb A1t,.sc (.int .i64 A04)],.sc (.int .i64 3)]) fun Axt A1p=>Ab Axt fun A0k A1i=>Ad .i64 A0k fun A03=>Ac A1i<|Ab A1p fun Axg Avi=>Ab Axg fun Aud A2t=>Fd 1 Aud fun A55 Axk A2v=>Ab A2t fun Av9 Axl=>Ad .i64 Av9 fun As8=>Ac Axl<|Ac Avi<|Cl fu call a0_0n a0_0 a0_1 (fu) (y1) Ate A08 0 A03 Axk A2v As8 (y7) ([.sc (.string (ByteArray.mk #[114,111,111,116])),.sc (.int .i64 Azg),.sc (.int .u64 At4),.sc (.string (ByteArray.mk #[114,111,111,116])),.sc (.int .i64 Azy),.sc (.int .u64 A2b),.sc (.string (ByteArray.mk #[109,105,100])),.sc (.int .i64 Avg),.sc (.int .u64 Axv)]) ([]))))))):=by kernel_rfl
theorem I7 (fu:Nat)(call:Ai)(a0_0n:Nat)(a0_0:List PV)(a0_1:Int)(nn y0:Nat)(y1 y2 y3:Nat)(y4:Int)(y5:Nat)(y6:List PV)(y7:Int)(y8 y9 y10:List PV):Cl fu call a0_0n a0_0 a0_1 (nn+1) y0 y1 y2 y3 y4 y5 y6 y7 y8 y9 y10=(Bc (decide (y4>0)) (Ag (call 14 [.pbox [.lst false 1 y5 y6,.sc (.int .i64 y7)],.sc (.int .i64 3)]) fun Azh Ax5=>Ab Azh fun Azf Axm=>Ad .i64 Azf fun Amh=>Ac Axm<|Ab Ax5 fun A3c A3o=>Ab A3c fun A5n Avy=>Fd 1 A5n fun A6e Axw Ayp=>Ab Avy fun At6 Azk=>Ad .i64 At6 fun Av3=>Ac Azk<|Ac A3o<|Ap (decide (0<=Amh)&&decide (Amh<3))<|Co (List.getD [.sc (.string (ByteArray.mk #[114,111,111,116])),.sc (.string (ByteArray.mk #[109,105,100])),.sc (.string (ByteArray.mk #[116,111,112]))] (0+Int.toNat Amh*1) .top) fun Ayo=>Ag (call 14 [.pbox [.lst false 1 Axw Ayp,.sc (.int .i64 Av3)],.sc (.int .i64 3)]) fun Aw8 A07=>Ab Aw8 fun Az8 Auw=>Ad .i64 Az8 fun A2i=>Ac Auw<|Ab A07 fun A14 Avt=>Ab A14 fun Avx A5i=>Fd 1 Avx fun A6n Ato Axb=>Ab A5i fun Ats Atm=>Ad .i64 Ats fun A0j=>Ac Atm<|Ac Avt<|Aa (wrap .u64 A2i) fun A3s=>Ag (call 14 [.pbox [.lst false 1 Ato Axb,.sc (.int .i64 A0j)],.sc (.int .i64 14)]) fun A18 Ayu=>Ab A18 fun A0v Auj=>Ad .i64 A0v fun Awp=>Ac Auj<|Ab Ayu fun Awb Aye=>Ab Awb fun A36 A35=>Fd 1 A36 fun A6h Auk A3e=>Ab A35 fun A31 Azx=>Ad .i64 A31 fun Atz=>Ac Azx<|Ac Aye<|Ap (decide (y3*3<=y10.length)&&true&&decide ((y3+1)*32<=1099511627776)&&decide (y3+1<=1099511627776))<|Aa (y3+1) fun Av8=>Aa (List.take (y3*3) y10++[.sc (.string Ayo),.sc (.int .u64 A3s),.sc (.int .i64 Awp)]) fun Azp=>Aa (wrap .i64 (y4-1)) fun Ax8=>Cl fu call a0_0n a0_0 a0_1 (nn) (y0) (y1) (y2) Av8 Ax8 Auk A3e Atz (y8) (y9) Azp) (Ap (decide (0+y0*13<=y8.length))<|Ap (decide (y1+y2*3<=y9.length))<|Ap (decide (0+y3*3<=y10.length))<|some (A0.mk [.lst false 13 y0 (List.take (y0*13) (List.drop 0 y8)),.lst false 3 y2 (List.take (y2*3) (List.drop y1 y9)),.lst false 3 y3 (List.take (y3*3) (List.drop 0 y10))] [[.lst false 1 y5 y6,.sc (.int .i64 y7)]]))):=by kernel_rfl
theorem Vv (fu d a0_0n:Nat)(a0_0:List PV)(a0_1:Int):Ae C0 Tryz.prog fu (d+1) Lw [.pbox [.lst false 1 a0_0n a0_0,.sc (.int .i64 a0_1)]]=(fun (call:Ai)=>Ag (call 14 [.pbox [.lst false 1 a0_0n a0_0,.sc (.int .i64 a0_1)],.sc (.int .i64 3)]) fun x1 x2=>Ab x1 fun x3 x4=>Ad .i64 x3 fun x5=>Ac x4<|Ab x2 fun x6 x7=>Ab x6 fun x8 x9=>Fd 1 x8 fun Cm C3 Dt=>Ab x9 fun D0 Dq=>Ad .i64 D0 fun Ed=>Ac Dq<|Ac x7<|Aa (wrap .i64 (1+x5)) fun Ek=>Cj fu call a0_0n a0_0 a0_1 (fu) 3 Ek 0 0 C3 Dt Ed ([.sc (.string (ByteArray.mk #[108,101,97,102])),.sc (.string (ByteArray.mk #[109,105,100])),.sc (.string (ByteArray.mk #[116,111,112]))]) ([])) (Ae C0 Tryz.prog fu d):=by kernel_rfl
end
end Go.Proofs.YtdjihiphpgkfmaaGreatDoor.Pv
