/-
  The proof of MetadataBodies, part 5.
-/
import Derived.Test.YtpogefhpiaaliaaGreatDoorBD
import Derived.Test.YtpogefhpiaaliaaGreatDoorRows
set_option linter.unusedSimpArgs false
set_option linter.unusedVariables false
namespace Go.Proofs.YtpogefhpiaaliaaGreatDoor.Pv
section
open Go.Proofs.Tryz (prog)
open Go.IntKind (wrap)
theorem K7 (l:List H8):l=[]∨∃l' f,l=l'++[f]:=by
 rcases List.eq_nil_or_concat l with h|⟨a,b,h⟩
 ·exact .inl h
 ·exact .inr ⟨a,b,by simpa using h⟩
def KH (l:List H8):List H8:=(l.reverse.dropWhile fun f=>f.left==0).reverse
theorem Aat {l:List H8}{f:H8}(h:f.left=0):KH (l++[f])=KH l:=by
 unfold KH;rw[List.reverse_append,List.reverse_singleton,List.singleton_append,List.dropWhile_cons_of_pos (by simp[h])]
theorem WE {l:List H8}{f:H8}(h:f.left≠0):KH (l++[f])=l++[f]:=by
 unfold KH;rw[List.reverse_append,List.reverse_singleton,List.singleton_append,List.dropWhile_cons_of_neg (by simp[h])]
 simp
def Yr (l:List H8):List H8:=match l.getLast? with|some f=>l.dropLast++[⟨f.p,wrap .i64 (f.left-1),f.last⟩]|none=>[]
def WC (l:List H8)(x:It):List H8:=
 if x.k=5∧x.n>0 then l++[⟨false,wrap .i64 x.n,[]⟩] else if x.k=6∧x.n>0 then l++[⟨true,wrap .i64 (2*wrap .i64 x.n),[]⟩] else l
def Hn (l:List H8)(x:It):List H8:=KH (WC (Yr l) x)
theorem Uq (l:List H8)(f:H8):Yr (l++[f])=l++[⟨f.p,wrap .i64 (f.left-1),f.last⟩]:=by
 unfold Yr;simp
theorem GV (l:List H8):(Yr l).length=l.length:=by
 rcases K7 l with rfl|⟨l',f,rfl⟩
 ·rfl
 ·rw[Uq];simp
theorem Xv (a b:List H8):Gx (a++b)=Gx a++Gx b:=by
 unfold Gx;rw[List.flatMap_append]
theorem Wj (f:H8):Gx [f]=f.cells:=by
 unfold Gx;simp
section
variable {fu d:Nat}
theorem Abd {call:Ah}{Al:Nat}{Ag:List PV}{Ai Cr Cs:Int}{C1:ByteArray}{c:Int}:∀(n:Nat)(l:List H8)(r:List PV)(nn:Nat),l.length=n->n<nn->n<=1000000 ->
  Bl fu call Al Ag Ai Cr Cs C1 nn (l.length:Int) l.length c (Gx l++r)=some ⟨[],[Ox (KH l) c]⟩:=by
 intro n
 induction n with
 |zero=>
  intro l r nn hl hn _;obtain rfl:l=[]:=List.eq_nil_of_length_eq_zero hl;obtain⟨m,rfl⟩:∃m,nn=m+1:=⟨nn-1,by omega⟩
  have e0:¬(((([]:List H8).length:Nat):Int)>0):=by simp
  have e1:([]:List H8).length*3<=(Gx []++r).length:=by simp
  rw[Ro];simp (disch:=first|assumption|omega) only[Cd];rfl
 |succ n ih=>
  intro l r nn hl hn hm;obtain⟨m,rfl⟩:∃m,nn=m+1:=⟨nn-1,by omega⟩
  rcases K7 l with rfl|⟨l',f,rfl⟩
  ·simp at hl
  have hn':(l'++[f]).length=l'.length+1:=by simp
  have hx:(l'++[f])[l'.length]?=some f:=by simp
  have w:wrap .i64 (((l'++[f]).length:Int)-1)=(l'.length:Int):=by rw[Ap (by omega) (by omega)];omega
  have L:=D3 (l'++[f]);have L2:(Gx (l'++[f])++r).length=(l'++[f]).length*3+r.length:=by rw[Hi,L]
  have t:List.take ((l'++[f]).length*3) (Gx (l'++[f])++r)=Gx (l'++[f]):=by rw[←L,List.take_left'];rfl
  have g1:(Gx (l'++[f])++r).getD (l'.length*3+1) .top=.sc (.int .i64 f.left):=by
   have:=Io (f:=H8.cells) H8.cells_len hx (j:=1) (by omega)
   rw[List.getD_eq_getElem?_getD,List.getElem?_append_left (by rw[L];omega),←List.getD_eq_getElem?_getD]
   exact this
  rw[Ro];by_cases hz:f.left=0
  ·have e:Gx (l'++[f])++r=Gx l'++(f.cells++r):=by rw[Xv,Wj,QV]
   have q:=ih l' (f.cells++r) m (by omega) (by omega) (by omega)
   rw[←e] at q;rw[Aat hz];have hb:(f.left==(0:Int))=true:=by simp[hz]
   simp (disch:=omega) only[Cd,w,Je,Cv,Nat.sub_zero,g1,hb,q]
  ·rw[WE hz];have hb:(f.left==(0:Int))=false:=by simp[hz]
   simp (disch:=omega) only[Cd,w,Je,Cv,g1,hb,L2,t]
theorem Alt {l:List H8}{x:It}{cnt:Int}(hl:l.length<=100000)(hf:l.length+1<fu)(h0:0<=cnt)(h1:cnt<=1000000):
  Ad C0 prog fu (d+1) Xs [.pbox (Ox l cnt),.agg x.cells]=some ⟨[],[Ox (Hn l x) (cnt+1)]⟩:=by
 obtain⟨k,v,s⟩:=x;refine (NO fu d l.length (Gx l) cnt k v s).trans ?_;have w1:wrap .i64 (cnt+1)=cnt+1:=Ap (by omega) (by omega)
 unfold Hn WC;have DL:=GV l;generalize hD:Yr l=l1 at DL ⊢;have L1:(Gx l1).length=l.length*3:=by rw[D3,DL]
 have t1:List.take (l.length*3) (Gx l1)=Gx l1:=Jq (by omega)
 have p5:∀b u,Gx l1++[.sc (.bool b),.sc (.int .i64 u),.lst false 1 0 []]=Gx (l1++[⟨b,u,[]⟩]):=by
  intro b u;rw[Xv,Wj];rfl
 have lp0:∀call,Bl fu call l.length (Gx l) cnt k v s fu (l.length:Int) l.length (cnt+1) (Gx l1)=some ⟨[],[Ox (KH l1) (cnt+1)]⟩:=by
  intro call;have:=Abd (fu:=fu) (call:=call) (Al:=l.length) (Ag:=Gx l) (Ai:=cnt) (Cr:=k) (Cs:=v) (C1:=s) (c:=cnt+1) _ l1 [] fu rfl (by omega) (by omega)
  rw[List.append_nil,DL] at this;exact this
 have lp1:∀call f,Bl fu call l.length (Gx l) cnt k v s fu ((l.length+1:Nat):Int) (l.length+1) (cnt+1) (Gx (l1++[f]))=some ⟨[],[Ox (KH (l1++[f])) (cnt+1)]⟩:=by
  intro call f;have ll:(l1++[f]).length=l.length+1:=by simp[DL]
  have:=Abd (fu:=fu) (call:=call) (Al:=l.length) (Ag:=Gx l) (Ai:=cnt) (Cr:=k) (Cs:=v) (C1:=s) (c:=cnt+1) _ (l1++[f]) [] fu rfl (by omega) (by omega)
  rw[List.append_nil,ll] at this;exact this
 rcases K7 l with rfl|⟨l',f,rfl⟩
 ·have e0:¬(((([]:List H8).length:Nat):Int)>0):=by simp
  obtain rfl:l1=[]:=by rw[←hD];rfl
  by_cases k5:k=5
  ·subst k5;by_cases hv:v>0
   ·rw[Co ⟨rfl,hv⟩];simp (disch:=first|assumption|omega) only[Cd,w1,L1,t1,p5,lp1,Int.reduceBEq]
   ·rw[Bp (fun h=>hv h.2),Bp (fun h=>hv h.2)]
    simp (disch:=first|assumption|omega) only[Cd,w1,L1,t1,p5,lp0,Int.reduceBEq]
  ·have b5:(k==(5:Int))=false:=by simp[k5]
   rw[Bp (fun h=>k5 h.1)]
   by_cases k6:k=6
   ·subst k6;by_cases hv:v>0
    ·rw[Co ⟨rfl,hv⟩];simp (disch:=first|assumption|omega) only[Cd,w1,L1,t1,p5,lp1,Int.reduceBEq]
    ·rw[Bp (fun h=>hv h.2)]
     simp (disch:=first|assumption|omega) only[Cd,w1,L1,t1,p5,lp0,Int.reduceBEq]
   ·have b6:(k==(6:Int))=false:=by simp[k6]
    rw[Bp (fun h=>k6 h.1)]
    simp (disch:=first|assumption|omega) only[Cd,w1,L1,t1,p5,lp0,b5,b6]
 ·have hn':(l'++[f]).length=l'.length+1:=by simp
  have hx:(l'++[f])[l'.length]?=some f:=by simp
  have w:wrap .i64 (((l'++[f]).length:Int)-1)=(l'.length:Int):=by rw[Ap (by omega) (by omega)];omega
  have L:=D3 (l'++[f]);have g1:(Gx (l'++[f])).getD (l'.length*3+1) .top=.sc (.int .i64 f.left):=Io H8.cells_len hx (j:=1) (by omega)
  have sp:B4 (Gx (l'++[f])) [.sc (.int .i64 (wrap .i64 (f.left-1)))] (l'.length*3+1)=Gx l1:=by
   rw[Hv (by omega),←hD,Uq,Xv,Xv,Wj,Wj]
   have:=D3 l';rw[List.set_append_right _ _ (by omega)]
   have:l'.length*3+1-(Gx l').length=1:=by omega
   rw[this];rfl
  by_cases k5:k=5
  ·subst k5;by_cases hv:v>0
   ·rw[Co ⟨rfl,hv⟩];simp (disch:=first|assumption|omega) only[Cd,w,w1,Je,Cv,g1,sp,L1,t1,p5,lp1,Int.reduceBEq]
   ·rw[Bp (fun h=>hv h.2),Bp (fun h=>hv h.2)]
    simp (disch:=first|assumption|omega) only[Cd,w,w1,Je,Cv,g1,sp,L1,t1,p5,lp0,Int.reduceBEq]
  ·have b5:(k==(5:Int))=false:=by simp[k5]
   rw[Bp (fun h=>k5 h.1)]
   by_cases k6:k=6
   ·subst k6;by_cases hv:v>0
    ·rw[Co ⟨rfl,hv⟩];simp (disch:=first|assumption|omega) only[Cd,w,w1,Je,Cv,g1,sp,L1,t1,p5,lp1,Int.reduceBEq]
    ·rw[Bp (fun h=>hv h.2)]
     simp (disch:=first|assumption|omega) only[Cd,w,w1,Je,Cv,g1,sp,L1,t1,p5,lp0,Int.reduceBEq]
   ·have b6:(k==(6:Int))=false:=by simp[k6]
    rw[Bp (fun h=>k6 h.1)]
    simp (disch:=first|assumption|omega) only[Cd,w,w1,Je,Cv,g1,sp,L1,t1,p5,lp0,b5,b6]
end
end
section
open Go.Proofs.Tryz (prog)
open Go.IntKind (wrap)
def Ahs (s:ByteArray):Bool:=Array.toList (ByteArray.data s)==Array.toList (ByteArray.data (ByteArray.mk #[]))
def Mq (x:It):Bool:=
 if x.k=3 then x.n==0 else if x.k=4 then x.n==0 else if x.k=8 then (x.n==0)&&Ahs x.s else if x.k=7 then decide (x.n<=1)&&Ahs x.s else Ahs x.s
section
variable {fu d:Nat}
theorem Am6 (x:It):Ad C0 prog fu (d+1) FR [.agg x.cells]=some ⟨[.sc (.bool (Mq x))],[]⟩:=by
 obtain⟨k,n,s⟩:=x;refine (YH fu d k n s).trans ?_;unfold Mq;show _=some (⟨[.sc (.bool (if k=3 then n==0 else if k=4 then n==0 else if k=8 then (n==0)&&Ahs s else if k=7 then decide (n<=1)&&Ahs s else Ahs s))],[]⟩:A4)
 by_cases h3:k=3
 ·subst h3;simp only[Cd,Int.reduceBEq,if_true]
 by_cases h4:k=4
 ·subst h4;simp only[Cd,Int.reduceBEq,Int.reduceEq,if_true,if_false]
 have b3:(k==(3:Int))=false:=by simp[h3]
 have b4:(k==(4:Int))=false:=by simp[h4]
 by_cases h8:k=8
 ·subst h8;cases hn:n==0<;>simp only[Cd,Int.reduceBEq,Int.reduceEq,if_true,if_false,hn,Bool.true_and,Bool.false_and]<;>rfl
 have b8:(k==(8:Int))=false:=by simp[h8]
 by_cases h7:k=7
 ·subst h7;cases hn:decide (n<=1)<;>simp only[Cd,Int.reduceBEq,Int.reduceEq,if_true,if_false,hn,Bool.true_and,Bool.false_and]<;>rfl
 have b7:(k==(7:Int))=false:=by simp[h7]
 simp only[Cd,b3,b4,b8,b7,Bp h3,Bp h4,Bp h8,Bp h7];rfl
theorem OT {l:List H8}{x:It}{cnt:Int}(hl:l.length<=1000)(hf:l.length+1<fu)(h0:0<=cnt)(h1:cnt<=1000000)(ha:Tc l=false)
  (hs:x.s.size<=100000)(hv:x.k=4->Lib.validD x.s.data.toList=true):
  Ad C0 prog fu (d+2) M0 [.pbox (Ox l cnt),.agg x.cells]=some ⟨[.sc (.int .i64 0)],[Ox (Hn l x) (cnt+1)]⟩:=by
 have st:=Alt (fu:=fu) (d:=d) (l:=l) (x:=x) (cnt:=cnt) (by omega) hf h0 h1
 have ak:=TP (fu:=fu) (d:=d) (l:=l) (by omega) cnt
 have L:=D3 l;have t:=Ek l;have L2:=D3 (Hn l x);have t2:=Ek (Hn l x);rw[ha] at ak;generalize hE:Hn l x=E at *
 obtain⟨k,n,s⟩:=x;have va:=CY (fu:=fu) (d:=d) s (Nat.le_trans hs (by omega))
 unfold okS at va;refine (M1 fu (d+1) l.length (Gx l) cnt k n s).trans ?_;unfold Ox It.cells at st;unfold Ox at ak;by_cases k4:k=4
 ·subst k4;rw[hv rfl] at va;simp (disch:=omega) only[Cd,Int.reduceBEq,va,Dc,L,t,ak,st,L2,t2]
 ·have b4:(k==(4:Int))=false:=by simp[k4]
  simp (disch:=omega) only[Cd,b4,L,t,ak,st,L2,t2]
theorem Avd {l:List H8}{x:It}{cnt:Int}(hl:l.length<=1000)(hf:l.length+1<fu)(h0:0<=cnt)(h1:cnt<=1000000)(ha:Tc l=false)
  (hs:x.s.size<=1024)(hv:x.k=4->Lib.validD x.s.data.toList=true)(hd:(decide (cnt>0)&&((l.length:Int)==0))=false) (hm:On l cnt x.k=0)(hsh:Mq x=true)(hn:x.n<=512∨(x.k≠5∧x.k≠6)):
  Ad C0 prog fu (d+3) Rq [.pbox (Ox l cnt),.agg x.cells]=some ⟨[.sc (.int .i64 0)],[Ox (Hn l x) (cnt+1)]⟩:=by
 have ac:=OT (fu:=fu) (d:=d) (l:=l) (x:=x) (cnt:=cnt) hl hf h0 h1 ha (by omega) hv
 have dn:=Adr (fu:=fu) (d:=d+1) l cnt;have ad:=Ahn (fu:=fu) (d:=d) (l:=l) (by omega) cnt x.k
 have sh:=Am6 (fu:=fu) (d:=d+1) x;rw[hd] at dn;rw[hm] at ad;rw[hsh] at sh;have L:=D3 l;have t:=Ek l;have L2:=D3 (Hn l x);have t2:=Ek (Hn l x);generalize hE:Hn l x=E at *
 obtain⟨k,n,s⟩:=x;have hs':¬((s.size:Int)>1024):=by have:s.size<=1024:=hs;omega
 refine (EC fu (d+2) l.length (Gx l) cnt k n s).trans ?_;unfold Ox It.cells at ac;unfold Ox at dn ad;unfold It.cells at sh;by_cases k5:k=5
 ·subst k5;have hn':¬(n>512):=hn.elim (fun h=>Int.not_lt.2 h) (fun h=>absurd rfl h.1)
  simp (disch:=first|assumption|omega) only[Cd,Int.reduceBEq,dn,ad,sh,ac,Dc,L,t,L2,t2,bne_self_eq_false]
 have b5:(k==(5:Int))=false:=by simp[k5]
 by_cases k6:k=6
 ·subst k6;have hn':¬(n>512):=hn.elim (fun h=>Int.not_lt.2 h) (fun h=>absurd rfl h.2)
  simp (disch:=first|assumption|omega) only[Cd,Int.reduceBEq,dn,ad,sh,ac,Dc,L,t,L2,t2,bne_self_eq_false]
 have b6:(k==(6:Int))=false:=by simp[k6]
 simp (disch:=first|assumption|omega) only[Cd,b5,b6,dn,ad,sh,ac,Dc,L,t,L2,t2,bne_self_eq_false]
end
end
section
open Go.Proofs.Tryz (prog)
open Go.IntKind (wrap)
theorem Fj (l:List It):(Bd l).length=l.length*3:=V7 It.cells_len l
structure Az9 (l:List H8) (cnt:Int) (x:It):Prop where
 hl:l.length<=100
 h0:0<=cnt
 h1:cnt<=1000
 ha:Tc l=false
 hs:x.s.size<=1024
 hv:x.k=4->Lib.validD x.s.data.toList=true
 hd:(decide (cnt>0)&&((l.length:Int)==0))=false
 hm:On l cnt x.k=0
 hsh:Mq x=true
 hn:x.n<=512∨(x.k≠5∧x.k≠6)
def R0:List H8->Int->List It->Prop
 |l,cnt,[]=>l=[]∧cnt>0
 |l,cnt,x::r=>Az9 l cnt x∧R0 (Hn l x) (cnt+1) r
section
variable {fu d:Nat}
theorem XX (B5:200<=fu){l:List It}(hl:l.length<=100000){Bq:Nat}{a0:List PV}:∀(r:List It)(i:Nat)(fs:List H8)(cnt:Int)(nn:Nat),l.drop i=r->i+r.length=l.length->r.length<nn->R0 fs cnt r ->
  Lh fu (Ad C0 prog fu (d+3)) Bq a0 nn l.length (Bd l) (l.length:Int) (i:Int) fs.length cnt (Gx fs)=some ⟨[.sc (.int .i64 0)],[]⟩:=by
 intro r
 induction r with
 |nil=>
  intro i fs cnt nn hd hi hn hg;obtain⟨rfl,hc⟩:=hg;obtain⟨m,rfl⟩:∃m,nn=m+1:=⟨nn-1,by omega⟩
  rw[Ye,Zzr] at hi;rw[Uc];have dn:=Adr (fu:=fu) (d:=d+2) [] cnt;have e:(decide (cnt>0)&&(((([]:List H8).length:Nat):Int)==0))=true:=by simp[hc]
  rw[e] at dn;unfold Ox at dn;have L:=D3 [];have t:=Ek [];have c:¬((i:Int)<(l.length:Int)):=by omega
  simp (disch:=first|assumption|omega) only[Cd,L,t,dn,Dc]
 |cons x r ih=>
  intro i fs cnt nn hd hi hn hg;obtain⟨g,hg⟩:=hg;obtain⟨m,rfl⟩:∃m,nn=m+1:=⟨nn-1,by omega⟩
  rw[H5] at hi hn
  have hx:l[i]?=some x:=by
   have:=congrArg (fun q=>q[0]?) hd
   simpa using this
  have hd':l.drop (i+1)=r:=by
   have:=congrArg (List.drop 1) hd;rw[List.drop_drop] at this
   simpa using this
  have q:=ih (i+1) (Hn fs x) (cnt+1) m hd' (by omega) (by omega) hg
  have ck:=Avd (fu:=fu) (d:=d) (l:=fs) (x:=x) (cnt:=cnt) (by have:=g.hl;omega) (by have:=g.hl;omega) g.h0 (by have:=g.h1;omega) g.ha g.hs g.hv g.hd g.hm g.hsh g.hn
  generalize Hn fs x=E at *
  have g0:(Bd l).getD (i*3) .top=.sc (.int .i64 x.k):=Io It.cells_len hx (j:=0) (by omega)
  have g1:(Bd l).getD (i*3+1) .top=.sc (.int .u64 x.n):=Io It.cells_len hx (j:=1) (by omega)
  have g2:(Bd l).getD (i*3+1+1) .top=.sc (.string x.s):=Io It.cells_len hx (j:=2) (by omega)
  have L:=D3 fs;have t:=Ek fs;have w:wrap .i64 ((i:Int)+1)=((i+1:Nat):Int):=by rw[Ap (by omega) (by omega)];omega
  rw[Uc];unfold Ox It.cells at ck;simp (disch:=first|assumption|omega) only[Cd,Je,g0,g1,g2,L,t,ck,bne_self_eq_false,w,q]
theorem Vq (B5:200<=fu){l:List It}(hl:l.length<=100000)(hf:l.length<fu)(hg:R0 [] 0 l):Ad C0 prog fu (d+4) Zh [.lst false 3 l.length (Bd l)]=some ⟨[.sc (.int .i64 0)],[]⟩:=by
 rw[QP];exact XX B5 hl l 0 [] 0 fu rfl (by omega) hf hg
end
end
section
open Go.Proofs.Tryz (prog)
open Go.IntKind (wrap)
section
variable {fu d:Nat}
theorem Ahb (B5:1000<=fu){l:List It}(hl:l.length<=100000){Bq:Nat}{a0:List PV}:∀(r:List It)(i:Nat)(o:List Int)(nn:Nat),l.drop i=r->i+r.length=l.length->r.length<nn->(∀x∈r,x.ok)->(o++Bx r).length<=300000 ->
  Nx fu (Ad C0 prog fu (d+2)) Bq a0 nn o.length l.length (Bd l) (l.length:Int) (i:Int) (Af .u8 o)=some ⟨[.own 1 (o++Bx r).length (Af .u8 (o++Bx r)),.sc (.int .i64 0)],[]⟩:=by
 intro r
 induction r with
 |nil=>
  intro i o nn hd hi hn hg hb;obtain⟨m,rfl⟩:∃m,nn=m+1:=⟨nn-1,by omega⟩
  rw[Ye,Zzr] at hi;have e:o++Bx []=o:=by simp[Bx]
  rw[e,Wk];have L:(Af .u8 o).length=o.length:=Aq _ _;have t:List.take o.length (Af .u8 o)=Af .u8 o:=Jq (by omega)
  have c:¬((i:Int)<(l.length:Int)):=by omega
  simp (disch:=first|assumption|omega) only[Cd,Dr,L,t]
 |cons x r ih=>
  intro i o nn hd hi hn hg hb;obtain⟨m,rfl⟩:∃m,nn=m+1:=⟨nn-1,by omega⟩
  rw[H5] at hi hn
  have hx:l[i]?=some x:=by
   have:=congrArg (fun q=>q[0]?) hd
   simpa using this
  have hd':l.drop (i+1)=r:=by
   have:=congrArg (List.drop 1) hd;rw[List.drop_drop] at this
   simpa using this
  have e:o++Bx (x::r)=(o++C7 x)++Bx r:=by simp[Bx]
  rw[e] at hb ⊢
  have ho:o.length<=300000:=by
   rw[Hi,Hi] at hb;omega
  have q:=ih (i+1) (o++C7 x) m hd' (by omega) (by omega) (fun y hy=>hg y (List.mem_cons_of_mem _ hy)) hb
  have it:=Ak4 (fu:=fu) (d:=d) B5 (l:=o) ho (x:=x) (hg x (by simp))
  have g0:(Bd l).getD (i*3) .top=.sc (.int .i64 x.k):=Io It.cells_len hx (j:=0) (by omega)
  have g1:(Bd l).getD (i*3+1) .top=.sc (.int .u64 x.n):=Io It.cells_len hx (j:=1) (by omega)
  have g2:(Bd l).getD (i*3+1+1) .top=.sc (.string x.s):=Io It.cells_len hx (j:=2) (by omega)
  have L:(Af .u8 o).length=o.length:=Aq _ _;have t:List.take o.length (Af .u8 o)=Af .u8 o:=Jq (by omega)
  have w:wrap .i64 ((i:Int)+1)=((i+1:Nat):Int):=by rw[Ap (by omega) (by omega)];omega
  rw[Wk];unfold It.cells at it;simp (disch:=first|assumption|omega) only[Cd,Je,Dr,g0,g1,g2,L,t,it,w,q]
theorem Aek (B5:1000<=fu){l:List It}(hl:l.length<=100000)(hf:l.length<fu)(hg:R0 [] 0 l) (hk:∀x∈l,x.ok)(hb:(Bx l).length<=300000):
  Ad C0 prog fu (d+5) FL [.lst false 3 l.length (Bd l)]=some ⟨[.own 1 (Bx l).length (Af .u8 (Bx l)),.sc (.int .i64 0)],[]⟩:=by
 rw[YP];have v:=Vq (fu:=fu) (d:=d) (by omega) hl hf hg
 have q:=Ahb (fu:=fu) (d:=d+2) B5 hl (Bq:=l.length) (a0:=Bd l) l 0 [] fu rfl (by omega) hf hk (by simpa using hb)
 rw[ZG] at q;simp only[Cd,v,bne_self_eq_false];exact q
end
end
section
open Go.Proofs.Tryz (prog)
open Go.IntKind (wrap)
section
variable {fu d:Nat}
theorem Ac0 (B5:200<=fu){l:List It}(hl:l.length<=100000)(hf:l.length<fu)(hg:R0 [] 0 l):
  Ad C0 prog fu (d+5) AW [.own 3 l.length (Bd l)]=some ⟨[.own 3 l.length (Bd l),.sc (.int .i64 0)],[]⟩:=by
 rw[UJ];have v:=Vq (fu:=fu) (d:=d) B5 hl hf hg;have L:=Fj l;have t:List.take (l.length*3) (Bd l)=Bd l:=Jq (by omega)
 simp (disch:=omega) only[Cd,L,t,Dt,v,bne_self_eq_false]
end
end
section
open Go.IntKind (wrap)
structure YN (x:It):Prop where
 kd:x.k=1∨x.k=2∨x.k=3∨x.k=4∨x.k=7∨x.k=8
 hs:x.s.size<=1024
 hv:x.k=4->Lib.validD x.s.data.toList=true
 hsh:Mq x=true
 n0:0<=x.n
theorem YN.ok {x:It}(h:YN x):x.ok:=by
 have:=h.kd;have:=h.hs;exact⟨by omega,by omega,h.n0,by omega⟩
theorem YN.push {x:It}(h:YN x)(l:List H8):WC l x=l:=by
 unfold WC;have:=h.kd;rw[Bp (by omega),Bp (by omega)]
end
section
open Go.Proofs.Tryz (prog)
open Go.IntKind (wrap)
def A0f (v:List It):List PV:=[.lst false 3 v.length (Bd v)]
theorem Aa4 (v:List It):(A0f v).length=1:=rfl
def Gq (l:List (List It)):List PV:=l.flatMap A0f
theorem atv {l:List (List It)} {i:Nat}{v:List It}(h:l[i]?=some v):(Gq l).getD (i*1) .top=.lst false 3 v.length (Bd v):=by
 exact Io Aa4 h (j:=0) (by omega)
section
variable {fu d:Nat}
theorem PL (B5:1000<=fu){Bq:Nat}{a0:List PV}{vs:List (List It)} (hl:vs.length<=100000):∀(r:List (List It)) (i nn:Nat),vs.drop i=r->r.length<nn->(∀v∈r,R0 [] 0 v∧v.length<1000)->i<=vs.length ->
  N9 fu (Ad C0 prog fu (d+4)) Bq a0 nn vs.length (Gq vs) (vs.length:Int) (i:Int)=some ⟨[.sc (.int .i64 0)],[]⟩
 |_,_,0,_,h,_,_=>by omega
 |[],i,nn+1,h,hn,hg,hi=>by
  have:=drop_nil h;rw[Wl,Eh _ _ _ (by omega)]
 |v::r,i,nn+1,h,hn,hg,hi=>by
  obtain⟨h1,h2,h3⟩:=Dk h;simp only[H5] at hn;have w:wrap .i64 ((i:Int)+1)=((i+1:Nat):Int):=by rw[Ap (by omega) (by omega)];omega
  have ih:=PL B5 (Bq:=Bq) (a0:=a0) hl r (i+1) nn h3 (by omega) (fun v hv=>hg v (List.mem_cons_of_mem _ hv)) (by omega)
  obtain⟨g,gl⟩:=hg v (by simp)
  have vg:=Vq (fu:=fu) (d:=d) (by omega) (by omega) (by omega) g
  have g0:=atv h2;rw[Wl];simp (disch:=omega) only[Cd,Je,g0,vg,bne_self_eq_false,w,ih]
theorem Afo (B5:1000<=fu){vs:List (List It)} (hl:vs.length<1000)(hg:∀v∈vs,R0 [] 0 v∧v.length<1000):
  Ad C0 prog fu (d+5) FK [.lst false 1 vs.length (Gq vs)]=some ⟨[.sc (.int .i64 0)],[]⟩:=by
 rw[YK];exact PL B5 (by omega) vs 0 fu rfl (by omega) hg (by omega)
theorem AZ (a b:List It):Bd (a++b)=Bd a++Bd b:=by
 unfold Bd;rw[List.flatMap_append]
theorem SM (B5:1000<=fu){Bq:Nat}{a0:List PV}{vs:List (List It)} (hl:vs.length<=100000):∀(r:List (List It)) (i nn:Nat)(o:List It),vs.drop i=r->r.length<nn->R0 [] 0 (o++r.flatten)->(o++r.flatten).length<=500->i<=vs.length ->
  Qc fu (Ad C0 prog fu (d+5)) Bq a0 nn o.length vs.length (Gq vs) (vs.length:Int) (i:Int) (Bd o)=some ⟨[.own 3 (o++r.flatten).length (Bd (o++r.flatten)),.sc (.int .i64 0)],[]⟩
 |_,_,0,_,_,h,_,_,_=>by omega
 |[],i,nn+1,o,h,hn,hg,hb,hi=>by
  have:=drop_nil h;have e:o++([]:List (List It)).flatten=o:=by simp
  rw[e] at hg hb ⊢;have L:=Fj o;have t:List.take (o.length*3) (Bd o)=Bd o:=Jq (by omega)
  have ck:=Ac0 (fu:=fu) (d:=d) (by omega) (by omega) (by omega) hg
  rw[Zl,Eh _ _ _ (by omega)]
  simp (disch:=omega) only[Cd,L,t,ck]
 |v::r,i,nn+1,o,h,hn,hg,hb,hi=>by
  obtain⟨h1,h2,h3⟩:=Dk h;simp only[H5] at hn;have w:wrap .i64 ((i:Int)+1)=((i+1:Nat):Int):=by rw[Ap (by omega) (by omega)];omega
  have e:o++(v::r).flatten=(o++v)++r.flatten:=by simp
  rw[e] at hg hb ⊢
  have J0:o.length+v.length<=500:=by
   rw[Hi,Hi] at hb;omega
  have ih:=SM B5 (Bq:=Bq) (a0:=a0) hl r (i+1) nn (o++v) h3 (by omega) hg hb (by omega)
  have g0:=atv h2;have L:=Fj o;have Lv:=Fj v;have t:List.take (o.length*3) (Bd o)=Bd o:=Jq (by omega)
  rw[Hi,AZ] at ih;rw[Zl];simp (disch:=omega) only[Cd,Je,g0,L,Lv,t,w,ih]
theorem Ajq (B5:1000<=fu){vs:List (List It)} (hg:∀v∈vs,R0 [] 0 v∧v.length<1000) (hl:vs.length<=400)(ha:R0 [] 0 (⟨5,vs.length,⟨#[]⟩⟩::vs.flatten)) (hb:vs.flatten.length<=499):
  Ad C0 prog fu (d+6) Ju [.lst false 1 vs.length (Gq vs)]=some ⟨[.own 3 (vs.flatten.length+1) (Bd (⟨5,vs.length,⟨#[]⟩⟩::vs.flatten)),.sc (.int .i64 0)],[]⟩:=by
 rw[Ab2];have f:=Afo (fu:=fu) (d:=d) B5 (by omega) hg
 have w:wrap .u64 (vs.length:Int)=vs.length:=C3 (by omega) (by omega)
 have q:=SM (fu:=fu) (d:=d) B5 (Bq:=vs.length) (a0:=Gq vs) (by omega) vs 0 fu [⟨5,vs.length,⟨#[]⟩⟩] rfl (by omega) ha (by rw[Hi,List.length_singleton];omega) (by omega)
 simp only[Cd,f,bne_self_eq_false,w];exact q
end
end
section
open Go.Proofs.Tryz (prog)
open Go.IntKind (wrap)
def A7t (a b:List Int):Int:=Lib.compareBytes (a.map fun n=>n.toNat.toUInt8) (b.map fun n=>n.toNat.toUInt8)
def W8 (a b:List Int):Bool:=if a.length=b.length then decide (A7t a b<0) else decide (a.length<b.length)
def My (l:List H8)(key:List Int):List H8:=match l.getLast? with|some f=>l.dropLast++[⟨f.p,f.left,key⟩]|none=>l
theorem Qw (l:List H8)(f:H8)(key:List Int):My (l++[f]) key=l++[⟨f.p,f.left,key⟩]:=by
 unfold My;simp
def RV (l:List H8):List Int:=match l.getLast? with|some f=>f.last|none=>[]
theorem Ab4 (l:List H8)(f:H8):RV (l++[f])=f.last:=by
 unfold RV;simp
def Fm (l:List H8)(x:It):Int × List H8:=
 if x.k=4∧okS x.s=false then (6,l)
 else if Tc l=true then (if RV l≠[]∧W8 (RV l) (C7 x)=false then (7,l) else (0,Hn (My l (C7 x)) x))
 else (0,Hn l x)
theorem Anz (x:It):1<=(C7 x).length:=by
 unfold C7;have h2:=J7 2 x.s.size;have h3:=J7 3 x.s.size;have h4:=J7 (x.k-1) x.n
 repeat' split
 all_goals try simp only[Hi,H5,Ye]
 all_goals omega
section
variable {fu d:Nat}
theorem Akt (a b:List Int):Ad C0 prog fu (d+1) 148 [.lst false 1 a.length (Af .u8 a),.lst false 1 b.length (Af .u8 b)]=some ⟨[.sc (.int .i64 (A7t a b))],[]⟩:=by
 have h:Ad C0 prog fu (d+1) 148 [.lst false 1 a.length (Af .u8 a),.lst false 1 b.length (Af .u8 b)]=CI [.lst false 1 a.length (Af .u8 a),.lst false 1 b.length (Af .u8 b)]:=by kernel_rfl
 rw[h];unfold CI;simp only[Aq,Nat.beq_refl,Bool.and_self,cond_true,Hk];rfl
theorem Aip (a b:List Int):Ad C0 prog fu (d+2) AY [.lst false 1 a.length (Af .u8 a),.lst false 1 b.length (Af .u8 b)]=some ⟨[.sc (.bool (W8 a b))],[]⟩:=by
 refine (WS fu (d+1) _ _ _ _).trans ?_;have c:=Akt (fu:=fu) (d:=d) a b;unfold W8;by_cases h:a.length=b.length
 ·have b0:((a.length:Int) != (b.length:Int))=false:=by simp[h]
  rw[Co h];simp only[Cd,b0,c]
 ·have b0:((a.length:Int) != (b.length:Int))=true:=by simp;omega
  rw[Bp h];simp only[Cd,b0];simp
theorem ZF {l:List H8}{x:It}{cnt:Int}(B5:1000<=fu)(hl:l.length<=900)(h0:0<=cnt)(h1:cnt<=1000000)(hx:x.ok)(hs:x.s.size<=100000):
  Ad C0 prog fu (d+3) M0 [.pbox (Ox l cnt),.agg x.cells]=some ⟨[.sc (.int .i64 (Fm l x).1)],[Ox (Fm l x).2 (if (Fm l x).1=0 then cnt+1 else cnt)]⟩:=by
 cases ha:Tc l with
 |false=>
  cases hv:(x.k==4) && !okS x.s with
  |false=>
   have e:Fm l x=(0,Hn l x):=by
    unfold Fm;rw[Bp,Bp (by simp[ha])]
    intro hh;simp[hh.1,hh.2] at hv
   have:=OT (fu:=fu) (d:=d+1) (l:=l) (x:=x) (cnt:=cnt) (by omega) (by omega) h0 h1 ha hs (by
    intro hk;simp[hk] at hv;exact hv)
   rw[e,this];rfl
  |true=>
   simp at hv
   have e:Fm l x=(6,l):=by
    unfold Fm;rw[Co hv]
   rw[e];obtain⟨k,n,s⟩:=x;have va:=CY (fu:=fu) (d:=d+1) s (Nat.le_trans hs (by omega))
   simp only at hv;obtain⟨rfl,hv⟩:=hv;rw[hv] at va;have L:=D3 l;have t:=Ek l;refine (M1 fu (d+2) l.length (Gx l) cnt 4 n s).trans ?_;simp (disch:=omega) only[Cd,Int.reduceBEq,va,L,t];rfl
 |true=>
  rcases K7 l with rfl|⟨l',f,rfl⟩
  ·exact absurd ha (by decide)
  have it:=Ak4 (fu:=fu) (d:=d) B5 (l:=[]) (by simp) hx
  rw[ZG] at it;have hp:=Anz x;have sm:=Aip (fu:=fu) (d:=d) f.last (C7 x);have ak:=TP (fu:=fu) (d:=d+1) (l:=l'++[f]) (by omega) cnt
  rw[ha] at ak;have st:=Alt (fu:=fu) (d:=d+1) (l:=My (l'++[f]) (C7 x)) (x:=x) (cnt:=cnt) (by rw[Qw];simp at hl ⊢;omega) (by rw[Qw];simp at hl ⊢;omega) h0 h1
  have E:Fm (l'++[f]) x=(if x.k=4∧okS x.s=false then (6,l'++[f]) else if f.last≠[]∧W8 f.last (C7 x)=false then (7,l'++[f]) else (0,Hn (My (l'++[f]) (C7 x)) x)):=by
   unfold Fm;rw[ha,Ab4];simp only[if_true]
  have hn':(l'++[f]).length=l'.length+1:=by simp
  have FI:(l'++[f])[l'.length]?=some f:=by simp
  have w:wrap .i64 (((l'++[f]).length:Int)-1)=(l'.length:Int):=by rw[Ap (by omega) (by omega)];omega
  have L:=D3 (l'++[f]);have t:=Ek (l'++[f]);have g2:(Gx (l'++[f])).getD (l'.length*3+2) .top=.lst false 1 f.last.length (Af .u8 f.last):=Io H8.cells_len FI (j:=2) (by omega)
  have sp:B4 (Gx (l'++[f])) [.lst false 1 (C7 x).length (Af .u8 (C7 x))] (l'.length*3+2)=Gx (My (l'++[f]) (C7 x)):=by
   rw[Hv (by omega),Qw,Xv,Xv,Wj,Wj]
   have:=D3 l';rw[List.set_append_right _ _ (by omega)]
   have:l'.length*3+2-(Gx l').length=2:=by omega
   rw[this];rfl
  have LK:=D3 (My (l'++[f]) (C7 x));have tK:=Ek (My (l'++[f]) (C7 x));have nK:(My (l'++[f]) (C7 x)).length=(l'++[f]).length:=by rw[Qw];simp
  rw[nK] at LK tK;have L2:=D3 (Hn (My (l'++[f]) (C7 x)) x);have t2:=Ek (Hn (My (l'++[f]) (C7 x)) x);have Lk:=Aq .u8 (C7 x);have tk:=Nv .u8 (C7 x);unfold Ox at st ak ⊢;rw[nK] at st;rw[E];generalize Hn (My (l'++[f]) (C7 x)) x=S at *
  generalize Gx (My (l'++[f]) (C7 x))=K at *
  have hsm:f.last.length=0->W8 f.last (C7 x)=true:=by
   intro hz;unfold W8;rw[Bp (by omega)]
   simp;omega
  have RF:f.last≠[]↔0<f.last.length:=by rw[List.length_pos_iff]
  generalize hKe:C7 x=key at *
  obtain⟨k,n,s⟩:=x;have va:=CY (fu:=fu) (d:=d+1) s (Nat.le_trans hs (by omega))
  unfold okS at va ⊢;unfold It.cells at st it ⊢;simp only at st it hs ⊢;refine (M1 fu (d+2) (l'++[f]).length (Gx (l'++[f])) cnt k n s).trans ?_;simp only[Ye] at it;have it0:Af .u8 []=[]:=rfl;rw[it0] at it
  try unfold Aa
  repeat' first
   |((with_reducible first|apply As|apply Ao|apply Ar|apply Az|apply Bo|apply Bg|apply Am);· first|with_reducible rfl|(simp (disch:=first|with_reducible assumption|omega) only[va,L,t,ak,w,Je,Cv,Zzr,it,g2,Dr,Dt,Lk,tk,sm,sp,LK,tK,st,L2,t2]<;>with_reducible rfl))
   |((with_reducible first|apply Au|apply At);· first|with_reducible rfl|with_reducible assumption|omega|(simp (disch:=first|with_reducible assumption|omega) only[gT,va,L,t,ak,w,Je,Cv,Zzr,it,g2,Dr,Dt,Lk,tk,sm,sp,LK,tK,st,L2,t2]<;>omega))
   |(with_reducible apply Av;· first|with_reducible rfl|with_reducible assumption|(simp (disch:=first|with_reducible assumption|omega) only[gF,va,L,t,ak,w,Je,Cv,Zzr,it,g2,Dr,Dt,Lk,tk,sm,sp,LK,tK,st,L2,t2]<;>omega))
   |(with_reducible refine Aqz ?_ ?_<;>intro hb<;>try simp only[decide_eq_true_eq,decide_eq_false_iff_not,beq_iff_eq,beq_eq_false_iff_ne,bne_iff_ne,bne_eq_false_iff_eq,ne_eq,Bool.not_eq_true',Bool.not_eq_false',Bool.not_eq_true,Bool.not_eq_false] at hb)
   |(with_reducible refine Ad5 ?_ ?_)
  all_goals try simp (disch:=first|with_reducible assumption|omega) only[va,L,t,ak,w,Je,Cv,Zzr,it,g2,Dr,Dt,Lk,tk,sm,sp,LK,tK,st,L2,t2]
  all_goals clear st it ak va sm L t g2 sp LK tK L2 t2 Lk tk it0 E ha hKe
  all_goals repeat' split
  all_goals first
   |rfl
   |(exfalso;simp_all;done)
   |(exfalso;simp_all;omega)
end
end
section
open Go.Proofs.Tryz (prog)
open Go.IntKind (wrap)
set_option maxRecDepth 100000
abbrev Tx:FuncId:=121
noncomputable def I3 (fu:Nat)(call:Ah)(Al:Nat)(Ag:List PV)(Ai:Int)(Bf:Nat)(Ay:List PV)(Bv:Int)(nn:Nat)(y0 y1 y2:Int)(y3:Nat)(y4:List PV)(y5 y6:Int)(y7:Nat)(y8:Int)(y9:Nat)(y10:List PV)(Er:Int)(F1:List PV):Option A4:=Dd CB prog fu call 121 Tryz.f121 (B9 Tryz.f121) [.pbox [.own 3 Al Ag,.sc (.int .i64 Ai),.lst false 1 Bf Ay,.sc (.int .i64 Bv)]] [.r,.r,.r,.r,.r,.r,.r,.r,.r,.r,.r,.l,.r,.l] nn ⟨lk [(0,(.ptr 240000 0)),(2,(.sc (.int .i64 y0))),(3,(.sc (.int .u64 y1))),(8,(.sc (.int .i64 y2))),(94,(.lst false 1 y3 y4)),(95,(.sc (.int .i64 y5))),(96,(.sc (.int .i64 y6)))],B7 [(240000,(.st [(.view 240120 3 0 y7),(.sc (.int .i64 y8)),(.lst false 1 y9 y10),(.sc (.int .i64 Er))])),(240120,(.ar false F1))]⟩
theorem O7 (fu:Nat)(call:Ah)(Al:Nat)(Ag:List PV)(Ai:Int)(Bf:Nat)(Ay:List PV)(Bv:Int)(nn:Nat)(y0 y1 y2:Int)(y3:Nat)(y4:List PV)(y5 y6:Int)(y7:Nat)(y8:Int)(y9:Nat)(y10:List PV)(Er:Int)(F1:List PV):I3 fu call Al Ag Ai Bf Ay Bv (nn+1) y0 y1 y2 y3 y4 y5 y6 y7 y8 y9 y10 Er F1=(Bm (decide (y6<y5)) (Aw (decide (0<=y6)&&decide (y6<(↑y3:Int)))<|Ae .u8 (List.getD y4 (Int.toNat y6*1) .top) fun F9=>Aa (Jf .u64 y1 8) fun Fp=>Aa (wrap .u64 F9) fun F2=>Aa (ior .u64 Fp F2) fun Iw=>Aa (wrap .i64 (y6+1)) fun Hl=>I3 fu call Al Ag Ai Bf Ay Bv (nn) (y0) Iw (y2) (y3) (y4) (y5) Hl (y7) (y8) (y9) (y10) (Er) (F1)) (Aa (wrap .i64 (Er+y2)) fun H3=>Aj (call 141 [.sc (.int .u64 y1)]) fun E5 Ep=>Ac Ep<|Ab E5 fun G2 I1=>Ae .i64 G2 fun Gs=>Ac I1<|Bm (decide (Gs<y2)) (Aw (decide (y7*3<=F1.length))<|some (A4.mk [.sc (.int .i64 0),.sc (.int .u64 0),.sc (.int .i64 2)] [[.own 3 y7 (List.take (y7*3) F1),.sc (.int .i64 y8),.lst false 1 y9 y10,.sc (.int .i64 H3)]])) (Aw (decide (y7*3<=F1.length))<|some (A4.mk [.sc (.int .i64 y0),.sc (.int .u64 y1),.sc (.int .i64 0)] [[.own 3 y7 (List.take (y7*3) F1),.sc (.int .i64 y8),.lst false 1 y9 y10,.sc (.int .i64 H3)]])))):=by kernel_rfl
theorem GD (fu d Al:Nat)(Ag:List PV)(Ai:Int)(Bf:Nat)(Ay:List PV)(Bv:Int):Ad C0 prog fu (d+1) Tx [.pbox [.own 3 Al Ag,.sc (.int .i64 Ai),.lst false 1 Bf Ay,.sc (.int .i64 Bv)]]=(fun (call:Ah)=>Bm (decide (Bv>=(↑Bf:Int))) (Aw (decide (Al*3<=Ag.length))<|some (A4.mk [.sc (.int .i64 0),.sc (.int .u64 0),.sc (.int .i64 1)] [[.own 3 Al (List.take (Al*3) Ag),.sc (.int .i64 Ai),.lst false 1 Bf Ay,.sc (.int .i64 Bv)]])) (Aw (decide (0<=Bv)&&decide (Bv<(↑Bf:Int)))<|Ae .u8 (List.getD Ay (Int.toNat Bv*1) .top) fun x1=>Aa (wrap .i64 (Bv+1)) fun x2=>Bm (x1==244) (Aa (wrap .u8 (x1-244)) fun x3=>Aa (wrap .u64 x3) fun x4=>Aw (decide (Al*3<=Ag.length))<|some (A4.mk [.sc (.int .i64 7),.sc (.int .u64 x4),.sc (.int .i64 0)] [[.own 3 Al (List.take (Al*3) Ag),.sc (.int .i64 Ai),.lst false 1 Bf Ay,.sc (.int .i64 x2)]])) (Bm (x1==245) (Aa (wrap .u8 (x1-244)) fun x5=>Aa (wrap .u64 x5) fun x6=>Aw (decide (Al*3<=Ag.length))<|some (A4.mk [.sc (.int .i64 7),.sc (.int .u64 x6),.sc (.int .i64 0)] [[.own 3 Al (List.take (Al*3) Ag),.sc (.int .i64 Ai),.lst false 1 Bf Ay,.sc (.int .i64 x2)]])) (Bm (x1==246) (Aw (decide (Al*3<=Ag.length))<|some (A4.mk [.sc (.int .i64 8),.sc (.int .u64 0),.sc (.int .i64 0)] [[.own 3 Al (List.take (Al*3) Ag),.sc (.int .i64 Ai),.lst false 1 Bf Ay,.sc (.int .i64 x2)]])) (Aa (Ft .u8 x1 5) fun x7=>Aa (Wo .u8 x1 31) fun x8=>Bm (decide (x7>5)) (Aw (decide (Al*3<=Ag.length))<|some (A4.mk [.sc (.int .i64 0),.sc (.int .u64 0),.sc (.int .i64 2)] [[.own 3 Al (List.take (Al*3) Ag),.sc (.int .i64 Ai),.lst false 1 Bf Ay,.sc (.int .i64 x2)]])) (Bm (decide (x8>27)) (Aw (decide (Al*3<=Ag.length))<|some (A4.mk [.sc (.int .i64 0),.sc (.int .u64 0),.sc (.int .i64 2)] [[.own 3 Al (List.take (Al*3) Ag),.sc (.int .i64 Ai),.lst false 1 Bf Ay,.sc (.int .i64 x2)]])) (Aa (wrap .i64 x7) fun x9=>Aa (wrap .i64 (1+x9)) fun Cy=>Bm (decide (x8<24)) (Aa (wrap .u64 x8) fun C4=>Aw (decide (Al*3<=Ag.length))<|some (A4.mk [.sc (.int .i64 Cy),.sc (.int .u64 C4),.sc (.int .i64 0)] [[.own 3 Al (List.take (Al*3) Ag),.sc (.int .i64 Ai),.lst false 1 Bf Ay,.sc (.int .i64 x2)]])) (Aa (wrap .u8 (x8-24)) fun D1=>Aw (decide (0<=D1))<|Aa (Jf .i64 1 D1) fun Ed=>Aa (wrap .i64 ((↑Bf:Int)-x2)) fun Dn=>Bm (decide (Dn<Ed)) (Aw (decide (Al*3<=Ag.length))<|some (A4.mk [.sc (.int .i64 0),.sc (.int .u64 0),.sc (.int .i64 1)] [[.own 3 Al (List.take (Al*3) Ag),.sc (.int .i64 Ai),.lst false 1 Bf Ay,.sc (.int .i64 x2)]])) (Aa (wrap .i64 (x2+Ed)) fun Eg=>Aw (decide (0<=x2))<|Aw (decide (0<=Eg))<|Aw (decide (Int.toNat x2<=Int.toNat Eg)&&decide (Int.toNat Eg<=Bf))<|Aa (Int.toNat Eg-Int.toNat x2) fun Ez=>Aa (List.take (Ez*1) (List.drop (Int.toNat x2*1) Ay)) fun Fq=>I3 fu call Al Ag Ai Bf Ay Bv (fu) Cy 0 Ed Ez Fq ((↑Ez:Int)) 0 (Al) (Ai) (Bf) (Ay) x2 (Ag)))))))))) (Ad C0 prog fu d):=by kernel_rfl
abbrev Tv:FuncId:=88
theorem GF (fu d Al:Nat)(Ag:List PV)(Ai:Int)(Bf:Nat)(Ay:List PV)(Bv:Int):Ad C0 prog fu (d+1) Tv [.pbox [.own 3 Al Ag,.sc (.int .i64 Ai),.lst false 1 Bf Ay,.sc (.int .i64 Bv)]]=(fun (call:Ah)=>Aw (decide (Al*3<=Ag.length))<|Aj (call 121 [.pbox [.own 3 Al (List.take (Al*3) Ag),.sc (.int .i64 Ai),.lst false 1 Bf Ay,.sc (.int .i64 Bv)]]) fun x1 x2=>Ab x1 fun x3 x4=>Ae .i64 x3 fun x5=>Ab x4 fun x6 x7=>Ae .u64 x6 fun x8=>Ab x7 fun x9 Cy=>Ae .i64 x9 fun C4=>Ac Cy<|Ab x2 fun D1 Ed=>Ab D1 fun Dn Eg=>F5 3 Dn fun Ez Fq=>Ab Eg fun F9 Fp=>Ae .i64 F9 fun F2=>Ab Fp fun Iw Hl=>Fa 1 Iw fun H3 E5 Ep=>Ab Hl fun G2 I1=>Ae .i64 G2 fun Gs=>Ac I1<|Ac Ed<|Bm (C4 != 0) (Aw (decide (Ez*3<=Fq.length))<|some (A4.mk [.agg [.sc (.int .i64 0),.sc (.int .u64 0),.sc (.string (ByteArray.mk #[]))],.sc (.int .i64 C4)] [[.own 3 Ez (List.take (Ez*3) Fq),.sc (.int .i64 F2),.lst false 1 E5 Ep,.sc (.int .i64 Gs)]])) (Aw (decide (Ez*3<=Fq.length))<|Aj (call 122 [.pbox [.own 3 Ez (List.take (Ez*3) Fq),.sc (.int .i64 F2)],.sc (.int .i64 x5)]) fun Ml L5=>Ab Ml fun J6 Le=>Ae .i64 J6 fun Mc=>Ac Le<|Ab L5 fun Nh Nw=>Ab Nh fun Qa Sb=>F5 3 Qa fun Ip Lf=>Ab Sb fun Rj V9=>Ae .i64 Rj fun Rb=>Ac V9<|Ac Nw<|Bm (Mc != 0) (Aw (decide (Ip*3<=Lf.length))<|some (A4.mk [.agg [.sc (.int .i64 0),.sc (.int .u64 0),.sc (.string (ByteArray.mk #[]))],.sc (.int .i64 Mc)] [[.own 3 Ip (List.take (Ip*3) Lf),.sc (.int .i64 Rb),.lst false 1 E5 Ep,.sc (.int .i64 Gs)]])) (Bm (x5==5) (Bm (decide (x8>512)) (Aw (decide (Ip*3<=Lf.length))<|some (A4.mk [.agg [.sc (.int .i64 0),.sc (.int .u64 0),.sc (.string (ByteArray.mk #[]))],.sc (.int .i64 8)] [[.own 3 Ip (List.take (Ip*3) Lf),.sc (.int .i64 Rb),.lst false 1 E5 Ep,.sc (.int .i64 Gs)]])) (Aw (decide (Ip*3<=Lf.length))<|Aj (call 123 [.pbox [.own 3 Ip (List.take (Ip*3) Lf),.sc (.int .i64 Rb)],.agg [.sc (.int .i64 x5),.sc (.int .u64 x8),.sc (.string (ByteArray.mk #[]))]]) fun Zb Za=>Ab Zb fun Wc Wa=>Ae .i64 Wc fun Wt=>Ac Wa<|Ab Za fun Xr Xi=>Ab Xr fun Ze Y8=>F5 3 Ze fun Xz AN=>Ab Y8 fun AG Yd=>Ae .i64 AG fun Zq=>Ac Yd<|Ac Xi<|Bm (Wt != 0) (Aw (decide (Xz*3<=AN.length))<|some (A4.mk [.agg [.sc (.int .i64 0),.sc (.int .u64 0),.sc (.string (ByteArray.mk #[]))],.sc (.int .i64 Wt)] [[.own 3 Xz (List.take (Xz*3) AN),.sc (.int .i64 Zq),.lst false 1 E5 Ep,.sc (.int .i64 Gs)]])) (Aw (decide (Xz*3<=AN.length))<|some (A4.mk [.agg [.sc (.int .i64 x5),.sc (.int .u64 x8),.sc (.string (ByteArray.mk #[]))],.sc (.int .i64 0)] [[.own 3 Xz (List.take (Xz*3) AN),.sc (.int .i64 Zq),.lst false 1 E5 Ep,.sc (.int .i64 Gs)]])))) (Bm (x5==6) (Bm (decide (x8>512)) (Aw (decide (Ip*3<=Lf.length))<|some (A4.mk [.agg [.sc (.int .i64 0),.sc (.int .u64 0),.sc (.string (ByteArray.mk #[]))],.sc (.int .i64 8)] [[.own 3 Ip (List.take (Ip*3) Lf),.sc (.int .i64 Rb),.lst false 1 E5 Ep,.sc (.int .i64 Gs)]])) (Aw (decide (Ip*3<=Lf.length))<|Aj (call 123 [.pbox [.own 3 Ip (List.take (Ip*3) Lf),.sc (.int .i64 Rb)],.agg [.sc (.int .i64 x5),.sc (.int .u64 x8),.sc (.string (ByteArray.mk #[]))]]) fun AJ Yz=>Ab AJ fun CJ AB=>Ae .i64 CJ fun AF=>Ac AB<|Ab Yz fun DT AC=>Ab DT fun Zn Y5=>F5 3 Zn fun Wd AM=>Ab Y5 fun DF AD=>Ae .i64 DF fun CW=>Ac AD<|Ac AC<|Bm (AF != 0) (Aw (decide (Wd*3<=AM.length))<|some (A4.mk [.agg [.sc (.int .i64 0),.sc (.int .u64 0),.sc (.string (ByteArray.mk #[]))],.sc (.int .i64 AF)] [[.own 3 Wd (List.take (Wd*3) AM),.sc (.int .i64 CW),.lst false 1 E5 Ep,.sc (.int .i64 Gs)]])) (Aw (decide (Wd*3<=AM.length))<|some (A4.mk [.agg [.sc (.int .i64 x5),.sc (.int .u64 x8),.sc (.string (ByteArray.mk #[]))],.sc (.int .i64 0)] [[.own 3 Wd (List.take (Wd*3) AM),.sc (.int .i64 CW),.lst false 1 E5 Ep,.sc (.int .i64 Gs)]])))) (Bm (x5==3) (Bm (decide (x8>1024)) (Aw (decide (Ip*3<=Lf.length))<|some (A4.mk [.agg [.sc (.int .i64 0),.sc (.int .u64 0),.sc (.string (ByteArray.mk #[]))],.sc (.int .i64 8)] [[.own 3 Ip (List.take (Ip*3) Lf),.sc (.int .i64 Rb),.lst false 1 E5 Ep,.sc (.int .i64 Gs)]])) (Aa (wrap .i64 ((↑E5:Int)-Gs)) fun AL=>Aa (wrap .i64 x8) fun CF=>Bm (decide (AL<CF)) (Aw (decide (Ip*3<=Lf.length))<|some (A4.mk [.agg [.sc (.int .i64 0),.sc (.int .u64 0),.sc (.string (ByteArray.mk #[]))],.sc (.int .i64 1)] [[.own 3 Ip (List.take (Ip*3) Lf),.sc (.int .i64 Rb),.lst false 1 E5 Ep,.sc (.int .i64 Gs)]])) (Aa (wrap .i64 x8) fun ET=>Aa (wrap .i64 (Gs+ET)) fun Zu=>Aw (decide (0<=Gs))<|Aw (decide (0<=Zu))<|Aw (decide (Int.toNat Gs<=Int.toNat Zu)&&decide (Int.toNat Zu<=E5))<|Aa (Int.toNat Zu-Int.toNat Gs) fun EQ=>Aa (List.take (EQ*1) (List.drop (Int.toNat Gs*1) Ep)) fun IH=>Aw (decide (IH.length=EQ))<|F6 (bytesOf IH) fun AH=>Aa (wrap .i64 x8) fun GO=>Aa (wrap .i64 (Gs+GO)) fun JJ=>Aw (decide (Ip*3<=Lf.length))<|Aj (call 123 [.pbox [.own 3 Ip (List.take (Ip*3) Lf),.sc (.int .i64 Rb)],.agg [.sc (.int .i64 x5),.sc (.int .u64 0),.sc (.string (ByteArray.mk (List.toArray AH)))]]) fun GB JS=>Ab GB fun PD XF=>Ae .i64 PD fun OV=>Ac XF<|Ab JS fun UA SF=>Ab UA fun RC QT=>F5 3 RC fun IG RP=>Ab QT fun QY YW=>Ae .i64 QY fun LX=>Ac YW<|Ac SF<|Bm (OV != 0) (Aw (decide (IG*3<=RP.length))<|some (A4.mk [.agg [.sc (.int .i64 0),.sc (.int .u64 0),.sc (.string (ByteArray.mk #[]))],.sc (.int .i64 OV)] [[.own 3 IG (List.take (IG*3) RP),.sc (.int .i64 LX),.lst false 1 E5 Ep,.sc (.int .i64 JJ)]])) (Aw (decide (IG*3<=RP.length))<|some (A4.mk [.agg [.sc (.int .i64 x5),.sc (.int .u64 0),.sc (.string (ByteArray.mk (List.toArray AH)))],.sc (.int .i64 0)] [[.own 3 IG (List.take (IG*3) RP),.sc (.int .i64 LX),.lst false 1 E5 Ep,.sc (.int .i64 JJ)]]))))) (Bm (x5==4) (Bm (decide (x8>1024)) (Aw (decide (Ip*3<=Lf.length))<|some (A4.mk [.agg [.sc (.int .i64 0),.sc (.int .u64 0),.sc (.string (ByteArray.mk #[]))],.sc (.int .i64 8)] [[.own 3 Ip (List.take (Ip*3) Lf),.sc (.int .i64 Rb),.lst false 1 E5 Ep,.sc (.int .i64 Gs)]])) (Aa (wrap .i64 ((↑E5:Int)-Gs)) fun XG=>Aa (wrap .i64 x8) fun x95=>Bm (decide (XG<x95)) (Aw (decide (Ip*3<=Lf.length))<|some (A4.mk [.agg [.sc (.int .i64 0),.sc (.int .u64 0),.sc (.string (ByteArray.mk #[]))],.sc (.int .i64 1)] [[.own 3 Ip (List.take (Ip*3) Lf),.sc (.int .i64 Rb),.lst false 1 E5 Ep,.sc (.int .i64 Gs)]])) (Aa (wrap .i64 x8) fun YG=>Aa (wrap .i64 (Gs+YG)) fun ND=>Aw (decide (0<=Gs))<|Aw (decide (0<=ND))<|Aw (decide (Int.toNat Gs<=Int.toNat ND)&&decide (Int.toNat ND<=E5))<|Aa (Int.toNat ND-Int.toNat Gs) fun LU=>Aa (List.take (LU*1) (List.drop (Int.toNat Gs*1) Ep)) fun XD=>Aw (decide (XD.length=LU))<|F6 (bytesOf XD) fun Vs=>Aa (wrap .i64 x8) fun Vt=>Aa (wrap .i64 (Gs+Vt)) fun Jg=>Aw (decide (Ip*3<=Lf.length))<|Aj (call 123 [.pbox [.own 3 Ip (List.take (Ip*3) Lf),.sc (.int .i64 Rb)],.agg [.sc (.int .i64 x5),.sc (.int .u64 0),.sc (.string (ByteArray.mk (List.toArray Vs)))]]) fun Lm Uk=>Ab Lm fun Tb Sh=>Ae .i64 Tb fun Nt=>Ac Sh<|Ab Uk fun X7 Z8=>Ab X7 fun DB CV=>F5 3 DB fun I8 Mt=>Ab CV fun EP EO=>Ae .i64 EP fun Yj=>Ac EO<|Ac Z8<|Bm (Nt != 0) (Aw (decide (I8*3<=Mt.length))<|some (A4.mk [.agg [.sc (.int .i64 0),.sc (.int .u64 0),.sc (.string (ByteArray.mk #[]))],.sc (.int .i64 Nt)] [[.own 3 I8 (List.take (I8*3) Mt),.sc (.int .i64 Yj),.lst false 1 E5 Ep,.sc (.int .i64 Jg)]])) (Aw (decide (I8*3<=Mt.length))<|some (A4.mk [.agg [.sc (.int .i64 x5),.sc (.int .u64 0),.sc (.string (ByteArray.mk (List.toArray Vs)))],.sc (.int .i64 0)] [[.own 3 I8 (List.take (I8*3) Mt),.sc (.int .i64 Yj),.lst false 1 E5 Ep,.sc (.int .i64 Jg)]]))))) (Aw (decide (Ip*3<=Lf.length))<|Aj (call 123 [.pbox [.own 3 Ip (List.take (Ip*3) Lf),.sc (.int .i64 Rb)],.agg [.sc (.int .i64 x5),.sc (.int .u64 x8),.sc (.string (ByteArray.mk #[]))]]) fun EJ FH=>Ab EJ fun BQ EK=>Ae .i64 BQ fun ES=>Ac EK<|Ab FH fun AO BV=>Ab AO fun CZ FD=>F5 3 CZ fun CL HR=>Ab FD fun RH MH=>Ae .i64 RH fun EN=>Ac MH<|Ac BV<|Bm (ES != 0) (Aw (decide (CL*3<=HR.length))<|some (A4.mk [.agg [.sc (.int .i64 0),.sc (.int .u64 0),.sc (.string (ByteArray.mk #[]))],.sc (.int .i64 ES)] [[.own 3 CL (List.take (CL*3) HR),.sc (.int .i64 EN),.lst false 1 E5 Ep,.sc (.int .i64 Gs)]])) (Aw (decide (CL*3<=HR.length))<|some (A4.mk [.agg [.sc (.int .i64 x5),.sc (.int .u64 x8),.sc (.string (ByteArray.mk #[]))],.sc (.int .i64 0)] [[.own 3 CL (List.take (CL*3) HR),.sc (.int .i64 EN),.lst false 1 E5 Ep,.sc (.int .i64 Gs)]]))))))))) (Ad C0 prog fu d):=by kernel_rfl
abbrev FT:FuncId:=47
noncomputable def Ol (fu:Nat)(call:Ah)(Bq:Nat)(a0:List PV)(nn y0:Nat)(y1:List PV)(y2:Nat)(y3:Int)(y4:Nat)(y5:List PV)(y6:Int)(y7:List PV):Option A4:=Dd CB prog fu call 47 Tryz.f47 (B9 Tryz.f47) [.lst false 1 Bq a0] [.r,.r,.l,.l] nn ⟨lk [(2,(.view 2 3 0 y0)),(5,(.ptr 5 0))],B7 [(2,(.ar false y1)),(5,(.st [(.view 32 3 0 y2),(.sc (.int .i64 y3)),(.lst false 1 y4 y5),(.sc (.int .i64 y6))])),(32,(.ar false y7))]⟩
theorem NH (fu:Nat)(call:Ah)(Bq:Nat)(a0:List PV)(nn y0:Nat)(y1:List PV)(y2:Nat)(y3:Int)(y4:Nat)(y5:List PV)(y6:Int)(y7:List PV):Ol fu call Bq a0 (nn+1) y0 y1 y2 y3 y4 y5 y6 y7=(Aw (decide (y2*3<=y7.length))<|Aj (call 87 [.pbox [.own 3 y2 (List.take (y2*3) y7),.sc (.int .i64 y3)]]) fun x1 x2=>Ab x1 fun x3 x4=>B3 x3 fun x5=>Ac x4<|Ab x2 fun x6 x7=>Ab x6 fun x8 x9=>F5 3 x8 fun Cy C4=>Ab x9 fun D1 Ed=>Ae .i64 D1 fun Dn=>Ac Ed<|Ac x7<|Bm (!x5) (Aw (decide (Cy*3<=C4.length))<|Aj (call 88 [.pbox [.own 3 Cy (List.take (Cy*3) C4),.sc (.int .i64 Dn),.lst false 1 y4 y5,.sc (.int .i64 y6)]]) fun Eg Ez=>Ab Eg fun Fq F9=>Ef Fq fun Fp=>Ab Fp fun F2 Iw=>Ae .i64 F2 fun Hl=>Ab Iw fun H3 E5=>Ae .u64 H3 fun Ep=>Ab E5 fun G2 I1=>Fk G2 fun Gs=>Ac I1<|Ab F9 fun Ml L5=>Ae .i64 Ml fun J6=>Ac L5<|Ab Ez fun Le Mc=>Ab Le fun Nh Nw=>F5 3 Nh fun Qa Sb=>Ab Nw fun Ip Lf=>Ae .i64 Ip fun Rj=>Ab Lf fun V9 Rb=>Fa 1 V9 fun Zb Za Wc=>Ab Rb fun Wa Wt=>Ae .i64 Wa fun Xr=>Ac Wt<|Ac Mc<|Bm (J6 != 0) (some (A4.mk [.own 3 0 [],.sc (.int .i64 0),.sc (.int .i64 J6)] [])) (Aw (decide (y0*3<=y1.length)&&true&&decide ((y0+1)*32<=1099511627776)&&decide (y0+1<=1099511627776))<|Aa (y0+1) fun Xi=>Aa (List.take (y0*3) y1++[.sc (.int .i64 Hl),.sc (.int .u64 Ep),.sc (.string Gs)]) fun Ze=>Ol fu call Bq a0 (nn) Xi Ze Qa Rj Za Wc Xr Sb)) (Aw (decide (y0*3<=y1.length))<|some (A4.mk [.own 3 y0 (List.take (y0*3) y1),.sc (.int .i64 y6),.sc (.int .i64 0)] []))):=by kernel_rfl
theorem YJ (fu d Bq:Nat)(a0:List PV):Ad C0 prog fu (d+1) FT [.lst false 1 Bq a0]=(fun (call:Ah)=>Ol fu call Bq a0 (fu) 0 ([]) 0 0 (Bq) (a0) 0 ([])) (Ad C0 prog fu d):=by kernel_rfl
end
section
open Go.Proofs.Tryz (prog)
open Go.IntKind (wrap)
structure Hd where
 k:Int
 n:Int
 e:Int
 at_:Nat
def Tg (n:Int):Int:=if n<24 then 0 else if n<256 then 1 else if n<65536 then 2 else if n<4294967296 then 4 else 8
def szE (low:Int):Nat:=if low=24 then 1 else if low=25 then 2 else if low=26 then 4 else 8
def Zv (b:List Int)(at_:Nat)(x:Int):Hd:=
 if x=244 then ⟨7,0,0,at_+1⟩ else if x=245 then ⟨7,1,0,at_+1⟩ else if x=246 then ⟨8,0,0,at_+1⟩
 else if x / 32>5 then ⟨0,0,2,at_+1⟩ else if x % 32>27 then ⟨0,0,2,at_+1⟩
 else if x % 32<24 then ⟨1+x / 32,x % 32,0,at_+1⟩
 else if b.length-(at_+1)<szE (x % 32) then ⟨0,0,1,at_+1⟩
 else if Tg (UV ((b.drop (at_+1)).take (szE (x % 32))))<szE (x % 32) then ⟨0,0,2,at_+1+szE (x % 32)⟩
 else ⟨1+x / 32,UV ((b.drop (at_+1)).take (szE (x % 32))),0,at_+1+szE (x % 32)⟩
def Is (b:List Int)(at_:Nat):Hd:=match b[at_]? with|none=>⟨0,0,1,at_⟩|some x=>Zv b at_ x
theorem Bab {x:Int}(h:0<=x):Ft .u8 x 5=x / 32:=by
 unfold Ft;show x.fdiv (2 ^ (min (5:Int).toNat IntKind.u8.bits))=_;have h2:(2:Int) ^ (min (5:Int).toNat IntKind.u8.bits)=32:=by decide
 rw[h2,Int.fdiv_eq_ediv_of_nonneg _ (by omega)]
theorem A6l {x:Int}(h0:0<=x)(h1:x<=255):Wo .u8 x 31=x % 32:=by
 obtain⟨n,rfl⟩:=Int.eq_ofNat_of_zero_le h0;have hn:n<256:=by omega
 have e1:(BitVec.ofInt 8 (n:Int)).toNat=n:=by
  rw[BitVec.toNat_ofInt];omega
 have e2:(BitVec.ofInt 8 (31:Int)).toNat=2 ^ 5-1:=by decide
 unfold Wo;show wrap .u8 ((BitVec.ofInt 8 (n:Int) &&& BitVec.ofInt 8 (31:Int)).toNat:Int)=_;rw[BitVec.toNat_and,e1,e2,Nat.and_two_pow_sub_one_eq_mod,Hx (by omega) (by omega)]
 omega
abbrev Aot (l:List H8)(cnt:Int)(b:List Int)(at_:Nat):List PV:=[.own 3 l.length (Gx l),.sc (.int .i64 cnt),.lst false 1 b.length (Af .u8 b),.sc (.int .i64 at_)]
section
variable {fu d:Nat}
theorem Ar3 (n:Int):Ad C0 prog fu (d+1) KY [.sc (.int .u64 n)]=some ⟨[.sc (.int .i64 (Tg n))],[]⟩:=by
 rw[Ac8];unfold Tg
 try unfold Aa
 repeat' first
  |((with_reducible first|apply As|apply Ao|apply Ar|apply Am);· first|with_reducible rfl|(simp (disch:=first|with_reducible assumption|omega) only[Co,Bp]<;>with_reducible rfl))
  |((with_reducible first|apply Au|apply At);· first|with_reducible rfl|with_reducible assumption|omega|(simp (disch:=first|with_reducible assumption|omega) only[gT,Co,Bp]<;>omega))
  |(with_reducible apply Av;· first|with_reducible rfl|with_reducible assumption|(simp (disch:=first|with_reducible assumption|omega) only[gF,Co,Bp]<;>omega))
  |(with_reducible refine Aqz ?_ ?_<;>intro hb<;>try simp only[decide_eq_true_eq,decide_eq_false_iff_not,beq_iff_eq,beq_eq_false_iff_ne,bne_iff_ne,bne_eq_false_iff_eq,ne_eq,Bool.not_eq_true',Bool.not_eq_false',Bool.not_eq_true,Bool.not_eq_false] at hb)
  |(with_reducible refine Ad5 ?_ ?_)
 all_goals try simp (disch:=first|with_reducible assumption|omega) only[Co,Bp]
theorem US {Bq Mf:Nat}{a0 a2:List PV}{a1 a3 k cnt:Int}{l:List H8}{b:List Int}{off sz:Nat}{q:List Int}(hq:q.length=sz)(hb:b.length<=1000000)(ho:off+sz<=b.length):∀(r:List Int)(i nn:Nat)(v:Int),q.drop i=r->r.length<nn->i<=sz ->
    I3 fu (Ad C0 prog fu (d+1)) Bq a0 a1 Mf a2 a3 nn k v (sz:Int) sz (Af .u8 q) (sz:Int) (i:Int) l.length cnt b.length (Af .u8 b) (off:Int) (Gx l) =
      (if Tg (r.foldl Hj v)<sz then some ⟨[.sc (.int .i64 0),.sc (.int .u64 0),.sc (.int .i64 2)],[Aot l cnt b (off+sz)]⟩
       else some ⟨[.sc (.int .i64 k),.sc (.int .u64 (r.foldl Hj v)),.sc (.int .i64 0)],[Aot l cnt b (off+sz)]⟩)
  |_,_,0,_,_,h,_=>by omega
  |[],i,nn+1,v,hd,hn,hi=>by
    have:=drop_nil hd
    have sh:=Ar3 (fu:=fu) (d:=d) v
    have L:=D3 l
    have t:=Ek l
    have w:wrap .i64 ((off:Int)+(sz:Int))=((off+sz:Nat):Int):=by rw[Ap (by omega) (by omega)];omega
    rw[O7,Eh _ _ _ (by omega),List.foldl_nil]
    by_cases hs:Tg v<sz
    · rw[Co hs]
      simp (disch:=omega) only[Cd,w,sh,L,t,Dr]
    · rw[Bp hs]
      simp (disch:=omega) only[Cd,w,sh,L,t,Dr]
  |x::r,i,nn+1,v,hd,hn,hi=>by
    obtain⟨h1,h2,h3⟩:=Dk hd
    simp only[H5] at hn
    have g0:=HL (k:=.u8) h2
    have w:wrap .i64 ((i:Int)+1)=((i+1:Nat):Int):=by rw[Ap (by omega) (by omega)];omega
    have ih:=US (Bq:=Bq) (Mf:=Mf) (a0:=a0) (a2:=a2) (a1:=a1) (a3:=a3) (k:=k) (cnt:=cnt) (l:=l) hq hb ho r (i+1) nn (Hj v x) h3 (by omega) (by omega)
    rw[List.foldl_cons,←ih,O7]
    simp (disch:=omega) only[Cd,Je,Dr,g0,w]
theorem Au2 {l:List H8}{cnt:Int}{b:List Int}{at_:Nat}(B5:1000<=fu)(hb:M3 b)(hl:b.length<=1000000):
  Ad C0 prog fu (d+2) Tx [.pbox (Aot l cnt b at_)]=some ⟨[.sc (.int .i64 (Is b at_).k),.sc (.int .u64 (Is b at_).n),.sc (.int .i64 (Is b at_).e)],[Aot l cnt b (Is b at_).at_]⟩:=by
 refine (GD fu (d+1) l.length (Gx l) cnt b.length (Af .u8 b) (at_:Int)).trans ?_;have L:=D3 l;have t:=Ek l;have Lb:=Aq .u8 b;have tb:=Nv .u8 b;unfold Is;by_cases Cq:at_<b.length
 rotate_left
 ·have hg:b[at_]?=none:=List.getElem?_eq_none (by omega)
  rw[hg];simp (disch:=omega) only[Cd,L,t,Lb,tb,Dr]
 have hg:b[at_]?=some b[at_]:=List.getElem?_eq_getElem Cq;have hB:=hb _ (List.getElem_mem Cq);rw[hg];generalize b[at_]=x at hg hB;have g0:=HL (k:=.u8) hg;have w1:wrap .i64 ((at_:Int)+1)=((at_+1:Nat):Int):=by rw[Ap (by omega) (by omega)];omega
 have s5:=Bab hB.1;have a31:=A6l hB.1 hB.2;unfold Zv;simp only;by_cases c1:x=244
 ·subst c1;have q:wrap .u64 (wrap .u8 ((244:Int)-244))=0:=by decide
  simp (disch:=omega) only[Cd,Je,Cv,Dr,g0,Int.reduceBEq,w1,L,t,Lb,tb,q]
 rw[Bp c1];have b1:(x==(244:Int))=false:=by simp[c1]
 by_cases c2:x=245
 ·subst c2;have q:wrap .u64 (wrap .u8 ((245:Int)-244))=1:=by decide
  simp (disch:=omega) only[Cd,Je,Cv,Dr,g0,Int.reduceBEq,w1,L,t,Lb,tb,q,if_true]
 rw[Bp c2];have b2:(x==(245:Int))=false:=by simp[c2]
 by_cases c3:x=246
 ·subst c3;simp (disch:=omega) only[Cd,Je,Cv,Dr,g0,Int.reduceBEq,w1,L,t,Lb,tb,if_true]
 rw[Bp c3];have b3:(x==(246:Int))=false:=by simp[c3]
 by_cases c4:x / 32>5
 ·rw[Co c4];simp (disch:=omega) only[Cd,Je,Cv,Dr,g0,b1,b2,b3,s5,a31,w1,L,t,Lb,tb]
 rw[Bp c4];by_cases c5:x % 32>27
 ·rw[Co c5];simp (disch:=omega) only[Cd,Je,Cv,Dr,g0,b1,b2,b3,s5,a31,w1,L,t,Lb,tb]
 rw[Bp c5];have wk1:wrap .i64 (x / 32)=x / 32:=Ap (by omega) (by omega)
 have wk2:wrap .i64 (1+x / 32)=1+x / 32:=Ap (by omega) (by omega)
 by_cases c6:x % 32<24
 ·have wn:wrap .u64 (x % 32)=x % 32:=C3 (by omega) (by omega)
  rw[Co c6];simp (disch:=omega) only[Cd,Je,Cv,Dr,g0,b1,b2,b3,s5,a31,w1,wk1,wk2,wn,L,t,Lb,tb]
 rw[Bp c6];have q1:wrap .u8 (x % 32-24)=x % 32-24:=Hx (by omega) (by omega)
 have q2:Jf .i64 1 (x % 32-24)=(szE (x % 32):Int):=by
  have:x % 32=24∨x % 32=25∨x % 32=26∨x % 32=27:=by omega
  rcases this with h|h|h|h<;>rw[h]<;>decide
 have q3:szE (x % 32)<=8:=by
  unfold szE
  repeat' split
  all_goals omega
 generalize szE (x % 32)=sz at q2 q3 ⊢;have q4:wrap .i64 ((b.length:Int)-((at_+1:Nat):Int))=((b.length-(at_+1):Nat):Int):=by rw[Ap (by omega) (by omega)];omega
 by_cases c7:b.length-(at_+1)<sz
 ·rw[Co c7];simp (disch:=omega) only[Cd,Je,Cv,Dr,g0,b1,b2,b3,s5,a31,w1,wk1,wk2,q1,q2,q4,L,t,Lb,tb]
 rw[Bp c7];have q5:wrap .i64 (((at_+1:Nat):Int)+(sz:Int))=((at_+1+sz:Nat):Int):=by rw[Ap (by omega) (by omega)];omega
 have q6:at_+1+sz-(at_+1)=sz:=by omega
 have lp:=US (fu:=fu) (d:=d) (Bq:=l.length) (Mf:=b.length) (a0:=Gx l) (a2:=Af .u8 b) (a1:=cnt) (a3:=(at_:Int)) (k:=1+x / 32) (cnt:=cnt) (l:=l) (b:=b) (off:=at_+1) (sz:=sz) (q:=(b.drop (at_+1)).take sz) (by rw[List.length_take,List.length_drop];omega) hl (by omega) _ 0 fu 0 rfl (by rw[Dt,List.length_take];omega) (by omega)
 rw[Dt] at lp;have lp':=lp;unfold UV;by_cases c8:Tg (((b.drop (at_+1)).take sz).foldl Hj 0)<sz
 ·rw[Co c8] at lp' ⊢;simp (disch:=omega) only[Cd,Je,Cv,Dr,g0,b1,b2,b3,s5,a31,w1,wk1,wk2,q1,q2,q4,q5,q6,Lg,Sv,L,t,Lb,tb];exact lp'
 ·rw[Bp c8] at lp' ⊢;simp (disch:=omega) only[Cd,Je,Cv,Dr,g0,b1,b2,b3,s5,a31,w1,wk1,wk2,q1,q2,q4,q5,q6,Lg,Sv,L,t,Lb,tb];exact lp'
end
end
section
open Go.Proofs.Tryz (prog)
open Go.IntKind (wrap)
structure Rd where
 x:It
 e:Int
 l:List H8
 cnt:Int
 at_:Nat
def it0:It:=⟨0,0,⟨#[]⟩⟩
def Zs (l:List H8)(cnt:Int)(x:It)(at_:Nat):Rd:=if (Fm l x).1=0 then ⟨x,0,(Fm l x).2,cnt+1,at_⟩ else ⟨it0,(Fm l x).1,(Fm l x).2,cnt,at_⟩
def Acq (l:List H8)(cnt:Int)(b:List Int)(h:Hd):Rd:=
 if h.e≠0 then ⟨it0,h.e,l,cnt,h.at_⟩
 else if On l cnt h.k≠0 then ⟨it0,On l cnt h.k,l,cnt,h.at_⟩
 else if h.k=5∨h.k=6 then (if h.n>512 then ⟨it0,8,l,cnt,h.at_⟩ else Zs l cnt ⟨h.k,h.n,⟨#[]⟩⟩ h.at_)
 else if h.k=3∨h.k=4 then (if h.n>1024 then ⟨it0,8,l,cnt,h.at_⟩ else if b.length-h.at_<h.n.toNat then ⟨it0,1,l,cnt,h.at_⟩
  else Zs l cnt ⟨h.k,0,Cp ((b.drop h.at_).take h.n.toNat)⟩ (h.at_+h.n.toNat))
 else Zs l cnt ⟨h.k,h.n,⟨#[]⟩⟩ h.at_
def Hc (l:List H8)(cnt:Int)(b:List Int)(at_:Nat):Rd:=Acq l cnt b (Is b at_)
theorem PQ (a b:Int):0<=Hj a b∧Hj a b<=18446744073709551615:=Kv _
theorem AR:∀(l:List Int)(v:Int),0<=v->v<=18446744073709551615->0<=l.foldl Hj v∧l.foldl Hj v<=18446744073709551615
 |[],v,h0,h1=>⟨h0,h1⟩
 |x::l,v,h0,h1=>AR l _ (PQ v x).1 (PQ v x).2
theorem Aak {b:List Int}{at_:Nat}(hb:M3 b)(ha:at_<=b.length):(Is b at_).at_<=b.length∧((Is b at_).e=0->1<=(Is b at_).k∧(Is b at_).k<=8∧0<=(Is b at_).n∧(Is b at_).n<=18446744073709551615∧at_<(Is b at_).at_):=by
 unfold Is;by_cases Cq:at_<b.length
 rotate_left
 ·have hg:b[at_]?=none:=List.getElem?_eq_none (by omega)
  rw[hg];exact⟨ha,fun h=>by simp at h⟩
 have hg:b[at_]?=some b[at_]:=List.getElem?_eq_getElem Cq;have hB:=hb _ (List.getElem_mem Cq);rw[hg];generalize b[at_]=x at hB;have hd:=AR ((b.drop (at_+1)).take (szE (x % 32))) 0 (by omega) (by omega)
 show (Zv b at_ x).at_<=b.length∧_;simp only[Zv];unfold UV
 repeat' split
 all_goals refine⟨by simp only;omega,fun h=>?_⟩
 all_goals first
  |(simp at h;done)
  |(simp only;omega)
section
variable {fu d:Nat}
theorem Asu {l:List H8}{cnt:Int}{b:List Int}{at_:Nat}(B5:1000<=fu)(hb:M3 b)(hl:b.length<=1000000)(ha:at_<=b.length)(hf:l.length<=900)(h0:0<=cnt)(h1:cnt<=1000000):
  Ad C0 prog fu (d+4) Tv [.pbox (Aot l cnt b at_)]=some ⟨[.agg (Hc l cnt b at_).x.cells,.sc (.int .i64 (Hc l cnt b at_).e)],[Aot (Hc l cnt b at_).l (Hc l cnt b at_).cnt b (Hc l cnt b at_).at_]⟩:=by
 refine (GF fu (d+3) l.length (Gx l) cnt b.length (Af .u8 b) (at_:Int)).trans ?_;have hd:=Au2 (fu:=fu) (d:=d+1) (l:=l) (cnt:=cnt) (at_:=at_) B5 hb hl;have hk:=Aak hb ha;unfold Hc;generalize Is b at_=h at hd hk ⊢;obtain⟨k,n,e,a⟩:=h;obtain⟨ka,hk⟩:=hk;simp only at hd ka hk;have L:=D3 l;have t:=Ek l;have ad:=Ahn (fu:=fu) (d:=d+1) (l:=l) (by omega) cnt k
 unfold Ox at ad;unfold Acq;by_cases he:e=0
 rotate_left
 ·simp only[ne_eq,he,not_false_eq_true,if_true];have he':(e != 0)=true:=by simp[he]
  try unfold Aa
  repeat first
   |((with_reducible first|apply As|apply Ao|apply Ar|apply Bo|apply Bg|apply NE|apply Am|apply Au|apply At);· first|with_reducible rfl|(simp (disch:=omega) only[gT,hd,he',L,t]<;>first|with_reducible rfl|omega)|omega)
   |(with_reducible apply Av;· first|with_reducible rfl|(simp (disch:=omega) only[gF,hd,he',L,t]<;>omega))
  try simp (disch:=omega) only[hd,he',L,t]
  all_goals rfl
 subst he;obtain⟨k1,k8,n0,n1,_⟩:=hk rfl;obtain⟨m,rfl⟩:=Int.eq_ofNat_of_zero_le n0;have e00:((0:Int) != 0)=false:=rfl;simp only[ne_eq,not_true_eq_false,if_false];by_cases hm:On l cnt k=0
 rotate_left
 ·simp only[hm,not_false_eq_true,if_true];have he':(On l cnt k != 0)=true:=by simp[hm]
  try unfold Aa
  repeat first
   |((with_reducible first|apply As|apply Ao|apply Ar|apply Bo|apply Bg|apply NE|apply Am|apply Au|apply At);· first|with_reducible rfl|(simp (disch:=omega) only[gT,hd,e00,ad,he',L,t]<;>first|with_reducible rfl|omega)|omega)
   |(with_reducible apply Av;· first|with_reducible rfl|(simp (disch:=omega) only[gF,hd,e00,ad,he',L,t]<;>omega))
  try simp (disch:=omega) only[hd,e00,ad,he',L,t]
  all_goals rfl
 rw[hm] at ad ⊢;simp only[not_true_eq_false,if_false,Je];have ac1:=ZF (fu:=fu) (d:=d) (l:=l) (x:=⟨k,m,⟨#[]⟩⟩) (cnt:=cnt) B5 (by omega) h0 h1 ⟨k1,k8,n0,Nat.zero_le _⟩ (Nat.zero_le _)
 have LA:=D3 (Fm l ⟨k,m,⟨#[]⟩⟩).2;have tA:=Ek (Fm l ⟨k,m,⟨#[]⟩⟩).2;have B:=fun (hn:m<=1024)=>ZF (fu:=fu) (d:=d) (l:=l) (x:=⟨k,0,Cp ((b.drop a).take m)⟩) (cnt:=cnt) B5 (by omega) h0 h1 ⟨k1,k8,by simp,by rw[Lj,List.length_take];omega⟩ (by rw[Lj,List.length_take];omega)
 have LB:=D3 (Fm l ⟨k,0,Cp ((b.drop a).take m)⟩).2;have tB:=Ek (Fm l ⟨k,0,Cp ((b.drop a).take m)⟩).2;unfold Zs;generalize Fm l ⟨k,m,⟨#[]⟩⟩=A at *
 obtain⟨A1,A2⟩:=A;have eB:ByteArray.mk (List.toArray (((b.drop a).take m).map fun n=>n.toNat.toUInt8))=Cp ((b.drop a).take m):=rfl
 have bo:=Hk ((b.drop a).take m);have tk:List.take m (List.drop a (Af .u8 b))=Af .u8 ((b.drop a).take m):=by rw[Lg,Sv]
 have lq:(Af .u8 ((b.drop a).take m)).length=min m (b.length-a):=by rw[Aq,List.length_take,List.length_drop]
 have Lb:=Aq .u8 b;generalize Cp ((b.drop a).take m)=S at *
 generalize Fm l ⟨k,0,S⟩=B' at *
 obtain⟨B1,B2⟩:=B';generalize (b.drop a).take m=q at *
 unfold Ox It.cells at ac1 B;simp only at ac1 B LA tA LB tB;have w1:wrap .i64 ((b.length:Int)-(a:Int))=((b.length-a:Nat):Int):=by rw[Ap (by omega) (by omega)];omega
 have w2:m<=1024->wrap .i64 (m:Int)=m:=fun h=>Ap (by omega) (by omega)
 have w3:m<=1024->wrap .i64 ((a:Int)+(m:Int))=((a+m:Nat):Int):=fun h=>by rw[Ap (by omega) (by omega)];omega
 have w4:a+m-a=m:=by omega
 try unfold Aa
 repeat' first
  |((with_reducible first|apply As|apply Ao|apply Ar|apply Bo|apply Bg|apply NE|apply Am);· first|with_reducible rfl|(simp (disch:=first|with_reducible assumption|omega) only[hd,e00,ad,L,t,ac1,LA,tA,B,LB,tB,w1,w2,w3,w4,tk,bo,lq,eB,Je,Dr,Cv]<;>with_reducible rfl))
  |((with_reducible first|apply Au|apply At);· first|with_reducible rfl|with_reducible assumption|omega|(simp (disch:=first|with_reducible assumption|omega) only[gT,hd,e00,ad,L,t,ac1,LA,tA,B,LB,tB,w1,w2,w3,w4,tk,bo,lq,eB,Je,Dr,Cv]<;>omega))
  |(with_reducible apply Av;· first|with_reducible rfl|with_reducible assumption|(simp (disch:=first|with_reducible assumption|omega) only[gF,hd,e00,ad,L,t,ac1,LA,tA,B,LB,tB,w1,w2,w3,w4,tk,bo,lq,eB,Je,Dr,Cv]<;>omega))
  |(with_reducible refine Aqz ?_ ?_<;>intro hb<;>try simp only[decide_eq_true_eq,decide_eq_false_iff_not,beq_iff_eq,beq_eq_false_iff_ne,bne_iff_ne,bne_eq_false_iff_eq,ne_eq,Bool.not_eq_true',Bool.not_eq_false',Bool.not_eq_true,Bool.not_eq_false] at hb)
  |(with_reducible refine Ad5 ?_ ?_)
 all_goals try simp (disch:=first|with_reducible assumption|omega) only[hd,e00,ad,L,t,ac1,LA,tA,B,LB,tB,w1,w2,w3,w4,tk,bo,lq,eB,Je,Dr,Cv,Co,Bp]
 all_goals rfl
end
end
section
open Go.Proofs.Tryz (prog)
open Go.IntKind (wrap)
def UZ (l:List H8)(cnt:Int):Bool:=decide (cnt>0)&&((l.length:Int)==0)
def Kj:Nat->List H8->Int->List Int->Nat->List It->List It × Nat × Int
 |0,_,_,_,_,_=>([],0,2)
 |m+1,l,cnt,b,at_,its=>if UZ l cnt=true then (its,at_,0) else
  if (Hc l cnt b at_).e≠0 then ([],0,(Hc l cnt b at_).e) else Kj m (Hc l cnt b at_).l (Hc l cnt b at_).cnt b (Hc l cnt b at_).at_ (its++[(Hc l cnt b at_).x])
def Aim (r:List It × Nat × Int):List PV:=[.own 3 r.1.length (Bd r.1),.sc (.int .i64 r.2.1),.sc (.int .i64 r.2.2)]
theorem Asw (l:List H8):(KH l).length<=l.length:=by
 unfold KH;rw[List.length_reverse];have:=(List.dropWhile_sublist (l:=l.reverse) fun f=>f.left==0).length_le
 rw[List.length_reverse] at this;exact this
theorem Aa0 (l:List H8)(x:It):(Hn l x).length<=l.length+1:=by
 unfold Hn;refine Nat.le_trans (Asw _) ?_;have:=GV l;unfold WC
 repeat' split
 all_goals simp
 all_goals omega
theorem Ah6 (l:List H8)(k:List Int):(My l k).length=l.length:=by
 rcases K7 l with rfl|⟨l',f,rfl⟩
 ·rfl
 ·rw[Qw];simp
theorem Afb (l:List H8)(x:It):(Fm l x).2.length<=l.length+1:=by
 unfold Fm;have h1:=Aa0 l x;have h2:=Aa0 (My l (C7 x)) x;rw[Ah6] at h2
 repeat' split
 all_goals simp only
 all_goals omega
structure OkX (x:It):Prop where
 k1:1<=x.k
 k8:x.k<=8
 n0:0<=x.n
 n1:x.n<=18446744073709551615
 s1:x.s.size<=1024
theorem Aqn {l:List H8}{cnt k:Int}(h:On l cnt k=0):cnt<512∧l.length<=8:=by
 unfold On at h
 repeat' split at h
 all_goals first
  |(cases h;done)
  |omega
theorem UC {l:List H8}{cnt:Int}{x:It}{at_:Nat}(hx:OkX x)(h:(Zs l cnt x at_).e=0):(Zs l cnt x at_).cnt=cnt+1∧(Zs l cnt x at_).l.length<=l.length+1∧(Zs l cnt x at_).at_=at_∧OkX (Zs l cnt x at_).x:=by
 have:=Afb l x;unfold Zs at h ⊢;by_cases hz:(Fm l x).1=0
 ·rw[Co hz];exact⟨rfl,this,rfl,hx⟩
 ·rw[Bp hz] at h;exact absurd h hz
theorem NP {l:List H8}{cnt:Int}{b:List Int}{at_:Nat}(hb:M3 b)(ha:at_<=b.length)(h:(Hc l cnt b at_).e=0):
  cnt<512∧(Hc l cnt b at_).cnt=cnt+1∧(Hc l cnt b at_).l.length<=9∧at_<(Hc l cnt b at_).at_∧(Hc l cnt b at_).at_<=b.length∧OkX (Hc l cnt b at_).x:=by
 have hk:=Aak hb ha;unfold Hc at h ⊢;generalize Is b at_=q at h hk ⊢;obtain⟨k,n,e,a⟩:=q;obtain⟨ka,hk⟩:=hk;unfold Acq at h ⊢;simp only at h hk ka ⊢;by_cases he:e=0
 rotate_left
 ·rw[Co he] at h;exact absurd h he
 subst he;obtain⟨k1,k8,n0,n1,Cq⟩:=hk rfl;rw[Bp (by simp)] at h ⊢
 by_cases hm:On l cnt k=0
 rotate_left
 ·rw[Co hm] at h;exact absurd h hm
 obtain⟨c1,c2⟩:=Aqn hm;rw[Bp (by simp[hm])] at h ⊢
 have z:(ByteArray.mk #[]).size<=1024:=Nat.zero_le _;by_cases h56:k=5∨k=6
 ·rw[Co h56] at h ⊢;by_cases hn:n>512
  ·rw[Co hn] at h;exact absurd h (by simp)
  ·rw[Bp hn] at h ⊢;obtain⟨p1,p2,p3,p4⟩:=UC ⟨k1,k8,n0,n1,z⟩ h;exact⟨c1,p1,by omega,by omega,by omega,p4⟩
 ·rw[Bp h56] at h ⊢;by_cases h34:k=3∨k=4
  ·rw[Co h34] at h ⊢;by_cases hn:n>1024
   ·rw[Co hn] at h;exact absurd h (by simp)
   ·rw[Bp hn] at h ⊢;by_cases hr:b.length-a<n.toNat
    ·rw[Co hr] at h;exact absurd h (by simp)
    ·rw[Bp hr] at h ⊢;obtain⟨p1,p2,p3,p4⟩:=UC ⟨k1,k8,by simp,by simp,by rw[Lj,List.length_take];omega⟩ h
     exact⟨c1,p1,by omega,by omega,by omega,p4⟩
  ·rw[Bp h34] at h ⊢;obtain⟨p1,p2,p3,p4⟩:=UC ⟨k1,k8,n0,n1,z⟩ h;exact⟨c1,p1,by omega,by omega,by omega,p4⟩
theorem Ahq {b:List Int}(hb:M3 b):∀(m:Nat)(l:List H8)(cnt:Int)(at_:Nat)(its:List It),at_<=b.length->(∀x∈its,OkX x)->(Kj m l cnt b at_ its).2.1<=b.length∧∀x∈(Kj m l cnt b at_ its).1,OkX x
 |0,l,cnt,at_,its,h,hi=>⟨by simp[Kj],by intro x hx;simp[Kj] at hx⟩
 |m+1,l,cnt,at_,its,h,hi=>by
  unfold Kj;by_cases hd:UZ l cnt=true
  ·rw[Co hd];exact⟨h,hi⟩
  ·rw[Bp hd];by_cases he:(Hc l cnt b at_).e=0
   ·rw[Bp (by simp[he])]
    obtain⟨_,_,_,_,p,q⟩:=NP hb h he;refine Ahq hb m _ _ _ _ p ?_;intro x hx;rcases List.mem_append.1 hx with hx|hx
    ·exact hi x hx
    ·simp at hx;subst hx;exact q
   ·rw[Co he];exact⟨by simp,by intro x hx;simp at hx⟩
section
variable {fu d:Nat}
theorem Afw (B5:1000<=fu){Bq:Nat}{a0:List PV}{b:List Int}(hb:M3 b)(hl:b.length<=1000000):∀(nn:Nat)(l:List H8)(cnt:Int)(at_:Nat)(its:List It),0<=cnt->cnt<=512->512-cnt<nn->l.length<=9->at_<=b.length->its.length=cnt.toNat ->
  Ol fu (Ad C0 prog fu (d+4)) Bq a0 nn its.length (Bd its) l.length cnt b.length (Af .u8 b) (at_:Int) (Gx l)=some ⟨Aim (Kj nn l cnt b at_ its),[]⟩
 |0,_,_,_,_,_,_,h,_,_,_=>by omega
 |nn+1,l,cnt,at_,its,h0,h1,hn,hf,ha,hi=>by
  have dn:=Adr (fu:=fu) (d:=d+3) l cnt;have ri:=Asu (fu:=fu) (d:=d) (l:=l) (cnt:=cnt) (b:=b) (at_:=at_) B5 hb hl ha (by omega) h0 (by omega)
  have ok:=NP (l:=l) (cnt:=cnt) hb ha;have L:=D3 l;have t:=Ek l;have LT:=Fj its;have tT:List.take (its.length*3) (Bd its)=Bd its:=Jq (by omega)
  have ih:=Afw B5 (Bq:=Bq) (a0:=a0) hb hl nn;rw[NH];unfold Kj;unfold Ox at dn;change _=some (A4.mk [.sc (.bool (UZ l cnt))] _) at dn;generalize Hc l cnt b at_=r at ri ok ⊢;obtain⟨x,e,l2,cnt2,at2⟩:=r;simp only at ri ok ⊢;cases hd:UZ l cnt
  ·rw[hd] at dn;rw[Bp (by simp)]
   by_cases he:e=0
   ·subst he;obtain⟨p1,rfl,p3,p4,p5,p6⟩:=ok rfl;have q:=ih l2 (cnt+1) at2 (its++[x]) (by omega) (by omega) (by omega) p3 p5 (by simp;omega)
    rw[Bp (by simp),←q,AZ,Hi]
    have e1:Bd [x]=x.cells:=by simp[Bd]
    rw[e1];obtain⟨xk,xn,xs⟩:=x;unfold It.cells at ri ⊢;have e00:((0:Int) != 0)=false:=rfl
    try unfold Aa
    repeat first
     |((with_reducible first|apply As|apply Ao|apply Ar|apply Az|apply Be|apply Bo|apply Bg|apply A9|apply Am|apply Au|apply At);· first|with_reducible rfl|(simp (disch:=omega) only[gT,dn,ri,e00,L,t,LT,tT]<;>first|with_reducible rfl|omega)|omega)
     |(with_reducible apply Av;· first|with_reducible rfl|(simp (disch:=omega) only[gF,dn,ri,e00,L,t,LT,tT]<;>omega))
    try simp (disch:=omega) only[dn,ri,e00,L,t,LT,tT]
    all_goals rfl
   ·have he':(e != 0)=true:=by simp[he]
    rw[Co he];obtain⟨xk,xn,xs⟩:=x;unfold It.cells at ri
    try unfold Aa
    repeat first
     |((with_reducible first|apply As|apply Ao|apply Ar|apply Az|apply Be|apply Bo|apply Bg|apply A9|apply Am|apply Au|apply At);· first|with_reducible rfl|(simp (disch:=omega) only[gT,dn,ri,he',L,t,LT,tT]<;>first|with_reducible rfl|omega)|omega)
     |(with_reducible apply Av;· first|with_reducible rfl|(simp (disch:=omega) only[gF,dn,ri,he',L,t,LT,tT]<;>omega))
    try simp (disch:=omega) only[dn,ri,he',L,t,LT,tT]
    all_goals rfl
  ·rw[hd] at dn;rw[Co rfl]
   try unfold Aa
   repeat first
    |((with_reducible first|apply As|apply Ao|apply Ar|apply Az|apply Be|apply Bo|apply Bg|apply A9|apply Am|apply Au|apply At);· first|with_reducible rfl|(simp (disch:=omega) only[gT,dn,L,t,LT,tT]<;>first|with_reducible rfl|omega)|omega)
    |(with_reducible apply Av;· first|with_reducible rfl|(simp (disch:=omega) only[gF,dn,L,t,LT,tT]<;>omega))
   try simp (disch:=omega) only[dn,L,t,LT,tT]
   all_goals rfl
theorem Aon (B5:1000<=fu){b:List Int}(hb:M3 b)(hl:b.length<=1000000):
  Ad C0 prog fu (d+5) FT [.lst false 1 b.length (Af .u8 b)]=some ⟨Aim (Kj fu [] 0 b 0 []),[]⟩:=by
 rw[YJ];exact Afw B5 hb hl fu [] 0 0 [] (by omega) (by omega) (by omega) (by simp) (by omega) (by simp)
end
end
section
open Go.IntKind (wrap)
theorem Ay8 {n:Int}(h0:0<=n):(n<256->UV (tb n 1)=n)∧(n<65536->UV (tb n 2)=n)∧(n<4294967296->UV (tb n 4)=n)∧(n<=18446744073709551615->UV (tb n 8)=n):=by
 have st:∀(k:Nat) (D:Int),n<=18446744073709551615->k<8->(2:Int) ^ (56-8*k)=D->0<D->Hj (n / D / 256) (Eb n k)=n / D:=by
  intro k D h1 hk hD hp;rw[Aac k hk,hD];exact A0t (Int.ediv_nonneg h0 (Int.le_of_lt hp)) (Int.le_trans (Int.ediv_le_self _ h0) h1)
 refine⟨fun h=>?_,fun h=>?_,fun h=>?_,fun h=>ZE h0 h⟩
 ·have s7:=st 7 1 (by omega) (by omega) (by decide) (by omega)
  rw[show n / 1 / 256=0 by omega,show n / 1=n by omega] at s7
  exact s7
 ·have s6:=st 6 256 (by omega) (by omega) (by decide) (by omega)
  have s7:=st 7 1 (by omega) (by omega) (by decide) (by omega)
  rw[show n / 256 / 256=0 by omega] at s6
  rw[show n / 1 / 256=n / 256 by omega,show n / 1=n by omega] at s7
  show Hj (Hj 0 (Eb n 6)) (Eb n 7)=n;rw[s6,s7]
 ·have s4:=st 4 16777216 (by omega) (by omega) (by decide) (by omega)
  have s5:=st 5 65536 (by omega) (by omega) (by decide) (by omega)
  have s6:=st 6 256 (by omega) (by omega) (by decide) (by omega)
  have s7:=st 7 1 (by omega) (by omega) (by decide) (by omega)
  rw[show n / 16777216 / 256=0 by omega] at s4
  rw[show n / 65536 / 256=n / 16777216 by omega] at s5
  rw[show n / 256 / 256=n / 65536 by omega] at s6
  rw[show n / 1 / 256=n / 256 by omega,show n / 1=n by omega] at s7
  show Hj (Hj (Hj (Hj 0 (Eb n 4)) (Eb n 5)) (Eb n 6)) (Eb n 7)=n;rw[s4,s5,s6,s7]
theorem DX {b:List Int}{at_:Nat}{mj n low:Int}{k:Nat}{rest:List Int}(m0:0<=mj)(m5:mj<=5)(l0:24<=low)(l1:low<=27)(hk:szE low=k)(h:b.drop (at_+1)=tb n k++rest) (hd:UV (tb n k)=n) (hs:¬(Tg n<(k:Int))):
  Zv b at_ (32*mj+low)=⟨1+mj,n,0,at_+1+k⟩:=by
 have e1:(32*mj+low) / 32=mj:=by omega
 have e2:(32*mj+low) % 32=low:=by omega
 have e3:(b.drop (at_+1)).take k=tb n k:=by rw[h,List.take_left' (GE n k)]
 have e4:k<=b.length-(at_+1):=by
  have:=congrArg List.length h;rw[List.length_drop,Hi,GE] at this;omega
 unfold Zv;rw[e1,e2,hk,e3,hd,Bp (by omega),Bp (by omega),Bp (by omega),Bp (by omega),Bp (by omega),Bp (by omega),Bp (by omega),Bp hs]
theorem HS {b:List Int}{at_:Nat}{mj n:Int}{rest:List Int}(h:b.drop at_=Dz mj n++rest)(m0:0<=mj)(m5:mj<=5)(n0:0<=n)(n1:n<=18446744073709551615):
  Is b at_=⟨1+mj,n,0,at_+(Dz mj n).length⟩:=by
 obtain⟨d1,d2,d4,d8⟩:=Ay8 n0;unfold Is;unfold Dz at h ⊢;by_cases c1:n<24
 ·rw[Co c1] at h ⊢;obtain⟨_,g,_⟩:=Dk h;rw[g];show Zv b at_ (32*mj+n)=_;unfold Zv;have e1:(32*mj+n) / 32=mj:=by omega
  have e2:(32*mj+n) % 32=n:=by omega
  rw[e1,e2,Bp (by omega),Bp (by omega),Bp (by omega),Bp (by omega),Bp (by omega),Co c1]
  rfl
 rw[Bp c1] at h ⊢;by_cases c2:n<256
 ·rw[Co c2] at h ⊢;obtain⟨_,g,g2⟩:=Dk h;rw[g];have:=DX (at_:=at_) m0 m5 (low:=24) (by omega) (by omega) (k:=1) (by decide) g2 (d1 c2) (by unfold Tg;rw[Bp c1,Co c2];omega)
  show Zv b at_ (32*mj+24)=_;rw[this,H5,GE]
 rw[Bp c2] at h ⊢;by_cases c3:n<65536
 ·rw[Co c3] at h ⊢;obtain⟨_,g,g2⟩:=Dk h;rw[g];have:=DX (at_:=at_) m0 m5 (low:=25) (by omega) (by omega) (k:=2) (by decide) g2 (d2 c3) (by unfold Tg;rw[Bp c1,Bp c2,Co c3];omega)
  show Zv b at_ (32*mj+25)=_;rw[this,H5,GE]
 rw[Bp c3] at h ⊢;by_cases c4:n<4294967296
 ·rw[Co c4] at h ⊢;obtain⟨_,g,g2⟩:=Dk h;rw[g];have:=DX (at_:=at_) m0 m5 (low:=26) (by omega) (by omega) (k:=4) (by decide) g2 (d4 c4) (by unfold Tg;rw[Bp c1,Bp c2,Bp c3,Co c4];omega)
  show Zv b at_ (32*mj+26)=_;rw[this,H5,GE]
 ·rw[Bp c4] at h ⊢;obtain⟨_,g,g2⟩:=Dk h;rw[g];have:=DX (at_:=at_) m0 m5 (low:=27) (by omega) (by omega) (k:=8) (by decide) g2 (d8 n1) (by unfold Tg;rw[Bp c1,Bp c2,Bp c3,Bp c4];omega)
  show Zv b at_ (32*mj+27)=_;rw[this,H5,GE]
theorem Adt {s:ByteArray}(h:Ahs s=true):s=⟨#[]⟩:=by
 unfold Ahs at h;have:=eq_of_beq h;apply ByteArray.ext;exact Array.toList_inj.1 this
def nOf (x:It):Int:=if x.k=3∨x.k=4 then (x.s.size:Int) else x.n
theorem Aig {x:It}{b:List Int}{at_:Nat}{rest:List Int}(hsh:Mq x=true)(k1:1<=x.k)(k8:x.k<=8)(n0:0<=x.n)(n1:x.n<=18446744073709551615)(hs:x.s.size<=1024)(h:b.drop at_=C7 x++rest):
  Is b at_=⟨x.k,nOf x,0,at_+((C7 x).length-x.s.size)⟩∧(x.k=3∨x.k=4->x.n=0∧b.drop (at_+((C7 x).length-x.s.size))=Mx x.s++rest)∧(¬(x.k=3∨x.k=4)->x.s=⟨#[]⟩)∧x.s.size<=(C7 x).length:=by
 obtain⟨k,n,s⟩:=x;have z:(ByteArray.mk #[]).size=0:=rfl;simp only at k1 k8 n0 n1 hs ⊢;unfold Mq at hsh;simp only at hsh;have L:=Ti s;have E7:k=7->C7 ⟨k,n,s⟩=[wrap .u8 (244+wrap .u8 n)]:=fun e=>by unfold C7;rw[Co e]
 have E8:k=8->C7 ⟨k,n,s⟩=[246]:=fun e=>by subst e;rfl
 have E3:k=3->C7 ⟨k,n,s⟩=Dz 2 s.size++Mx s:=fun e=>by subst e;rfl
 have E4:k=4->C7 ⟨k,n,s⟩=Dz 3 s.size++Mx s:=fun e=>by subst e;rfl
 have E0:k≠7->k≠8->k≠3->k≠4->C7 ⟨k,n,s⟩=Dz (k-1) n:=fun a b c d=>by unfold C7;rw[Bp a,Bp b,Bp c,Bp d]
 have N34:k=3∨k=4->nOf ⟨k,n,s⟩=s.size:=fun e=>by unfold nOf;rw[Co e]
 have N0:¬(k=3∨k=4)->nOf ⟨k,n,s⟩=n:=fun e=>by unfold nOf;rw[Bp e]
 by_cases c7:k=7
 ·subst c7;simp at hsh;obtain⟨hn,hs⟩:=hsh;obtain rfl:=Adt hs;rw[E7 rfl] at h ⊢;rw[N0 (by omega)]
  obtain⟨_,g,_⟩:=Dk h;refine⟨?_,fun h=>by omega,fun _=>rfl,Nat.zero_le _⟩
  have:n=0∨n=1:=by omega
  unfold Is;rw[g];rcases this with rfl|rfl
  ·rfl
  ·rfl
 by_cases c8:k=8
 ·subst c8;simp at hsh;obtain⟨rfl,hs⟩:=hsh;obtain rfl:=Adt hs;rw[E8 rfl] at h ⊢;rw[N0 (by omega)]
  obtain⟨_,g,_⟩:=Dk h;refine⟨?_,fun h=>by omega,fun _=>rfl,Nat.zero_le _⟩
  unfold Is;rw[g];rfl
 by_cases c3:k=3
 ·subst c3;simp at hsh;subst hsh;rw[E3 rfl] at h ⊢;rw[N34 (by omega)]
  rw[QV] at h;have q:=HS h (by omega) (by omega) (by omega) (by omega)
  have e:(Dz 2 (s.size:Int)++Mx s).length-s.size=(Dz 2 (s.size:Int)).length:=by rw[Hi,L];omega
  rw[e];refine⟨q,fun _=>⟨rfl,?_⟩,fun h=>by omega,by rw[Hi,L];omega⟩
  rw[←List.drop_drop,h,List.drop_left' rfl]
 by_cases c4:k=4
 ·subst c4;simp at hsh;subst hsh;rw[E4 rfl] at h ⊢;rw[N34 (by omega)]
  rw[QV] at h;have q:=HS h (by omega) (by omega) (by omega) (by omega)
  have e:(Dz 3 (s.size:Int)++Mx s).length-s.size=(Dz 3 (s.size:Int)).length:=by rw[Hi,L];omega
  rw[e];refine⟨q,fun _=>⟨rfl,?_⟩,fun h=>by omega,by rw[Hi,L];omega⟩
  rw[←List.drop_drop,h,List.drop_left' rfl]
 rw[Bp c3,Bp c4,Bp c8,Bp c7] at hsh;obtain rfl:=Adt hsh;rw[E0 c7 c8 c3 c4] at h ⊢;rw[N0 (by omega)]
 have q:=HS h (by omega) (by omega) n0 n1
 refine⟨?_,fun h=>by omega,fun _=>rfl,by rw[z];omega⟩
 rw[q,z,Nat.sub_zero]
 congr 1
 omega
theorem Ajb {l:List H8}{cnt:Int}{x:It}{b:List Int}{at_:Nat}{rest:List Int}(g:Az9 l cnt x)(n0:0<=x.n)(n1:x.n<=18446744073709551615)(h:b.drop at_=C7 x++rest):
  Hc l cnt b at_=⟨x,0,Hn l x,cnt+1,at_+(C7 x).length⟩:=by
 have k18:1<=x.k∧x.k<=8:=by
  have hm:=g.hm;unfold On at hm
  repeat' split at hm
  all_goals first
   |(cases hm;done)
   |omega
 obtain⟨q1,q2,q3,q4⟩:=Aig g.hsh k18.1 k18.2 n0 n1 g.hs h
 have ac:∀a:Nat,Zs l cnt x a=⟨x,0,Hn l x,cnt+1,a⟩:=by
  intro a
  have:Fm l x=(0,Hn l x):=by
   unfold Fm;rw[Bp,Bp (by simp[g.ha])]
   intro hh;have:=g.hv hh.1;exact absurd hh.2 (by simp[okS,this])
  unfold Zs;rw[this];rfl
 have ln:b.length-(at_+((C7 x).length-x.s.size))>=x.s.size:=by
  have:=congrArg List.length h;rw[List.length_drop,Hi] at this;omega
 unfold Hc;rw[q1];unfold Acq;simp only;rw[Bp (by simp),g.hm,Bp (by simp)]
 have hs:=g.hs;have hn:=g.hn;obtain⟨k,n,s⟩:=x;simp only at *
 by_cases c34:k=3∨k=4
 ·obtain⟨rfl,q2⟩:=q2 c34;have N:nOf ⟨k,0,s⟩=s.size:=by unfold nOf;rw[Co c34]
  rw[N,Bp (by omega),Co c34,Bp (by omega),Je,Bp (by omega),q2,List.take_left' (Ti s),KX,ac]
  congr 1
  omega
 ·obtain rfl:=q3 c34;have z:(ByteArray.mk #[]).size=0:=rfl;have N:nOf ⟨k,n,⟨#[]⟩⟩=n:=by unfold nOf;rw[Bp c34]
  rw[N,Bp c34,z,Nat.sub_zero];by_cases c56:k=5∨k=6
  ·rw[Co c56,Bp (by omega),ac]
  ·rw[Bp c56,ac]
theorem Abg {b:List Int}{rest:List Int}:∀(its:List It)(l:List H8)(cnt:Int)(at_ m:Nat)(acc:List It),R0 l cnt its->(∀x∈its,0<=x.n∧x.n<=18446744073709551615)->b.drop at_=Bx its++rest->its.length<m ->
  Kj m l cnt b at_ acc=(acc++its,at_+(Bx its).length,0)
 |[],l,cnt,at_,m,acc,hg,hn,h,hm=>by
  obtain⟨rfl,hc⟩:=hg;obtain⟨m,rfl⟩:∃k,m=k+1:=⟨m-1,by omega⟩
  unfold Kj;rw[Co (by simp[UZ,hc])]
  simp[Bx]
 |x::its,l,cnt,at_,m,acc,hg,hn,h,hm=>by
  obtain⟨g,hg⟩:=hg;obtain⟨m,rfl⟩:∃k,m=k+1:=⟨m-1,by simp at hm;omega⟩
  have e:Bx (x::its)=C7 x++Bx its:=by simp[Bx]
  rw[e,QV] at h;have r:=Ajb g (hn x (by simp)).1 (hn x (by simp)).2 h
  have h':b.drop (at_+(C7 x).length)=Bx its++rest:=by rw[←List.drop_drop,h,List.drop_left' rfl]
  have ih:=Abg its (Hn l x) (cnt+1) (at_+(C7 x).length) m (acc++[x]) hg (fun y hy=>hn y (List.mem_cons_of_mem _ hy)) h' (by simp at hm;omega)
  unfold Kj;have hd:UZ l cnt=false:=g.hd;rw[Bp (by simp[hd]),r]
  simp only;rw[Bp (by simp),ih,e]
  simp;omega
end
section
open Go.IntKind (wrap)
abbrev Vd (x:Int):Prop:=0<=x∧x<=18446744073709551615
abbrev isW (l:List Int):Prop:=∀x∈l,Vd x
theorem Afu (l:List Int)(i:Nat):Vd (Vv l i):=AR _ 0 (by omega) (by omega)
theorem Ag1 (l:List Int):isW (Hr l):=by
 intro x hx;obtain⟨k,_,rfl⟩:=List.mem_map.1 hx;exact Afu l k
theorem Yi:∀{ws:List Int}{i:Nat}{w:Int},isW ws->ws[i]?=some w->Vv (A6 ws) i=w
 |[],i,w,_,h=>by simp at h
 |a::ws,0,w,hw,h=>by
  simp at h;subst h;have e:A6 (a::ws)=Fh a++A6 ws:=rfl;unfold Vv;rw[Nat.mul_zero,Dt,e,List.take_left' (G3 a)];have:=hw a (by simp)
  exact ZE this.1 this.2
 |a::ws,i+1,w,hw,h=>by
  simp at h;have ih:=Yi (ws:=ws) (fun x hx=>hw x (List.mem_cons_of_mem _ hx)) h
  have e:A6 (a::ws)=Fh a++A6 ws:=rfl;unfold Vv at ih ⊢;rw[show 8*(i+1)=(Fh a).length+8*i by rw[G3];omega,e,←List.drop_drop,List.drop_left' rfl]
  exact ih
theorem KO {ws:List Int}(hw:isW ws):Hr (A6 ws)=ws:=by
 have hl:(A6 ws).length / 8=ws.length:=by rw[Dq];omega
 apply List.ext_getElem?;intro i;unfold Hr;rw[hl];by_cases h:i<ws.length
 ·rw[List.getElem?_map,List.getElem?_range h,List.getElem?_eq_getElem h];simp only[Option.map_some];rw[Yi hw (List.getElem?_eq_getElem h)]
 ·rw[List.getElem?_eq_none (by simp;omega),List.getElem?_eq_none (by omega)]
theorem Am7 {k:Ky}(hh:D8 k.h=false)(hr:Vd k.root):WB (Jt k)=some k:=by
 obtain⟨h,r⟩:=k;have hb:=Jo hh;simp only at hb hr hh;have w:wrap .u8 h=h:=Hx (by omega) (by omega)
 have w1:A6 [r]=Fh r:=by simp[A6]
 have:=Yi (ws:=[r]) (i:=0) (w:=r) (by intro x hx;simp at hx;subst hx;exact hr) rfl
 rw[w1] at this;unfold WB Jt;simp only[w,List.getD_cons_zero,List.drop_succ_cons,Dt,this,H5,G3,hh,and_self,if_true]
theorem A3v {k:Ky}:M3 (Jt k):=by
 intro x hx;rcases List.mem_cons.1 hx with rfl|hx
 ·have:∀v:Int,0<=wrap .u8 v∧wrap .u8 v<=255:=by
   intro v;simp only[wrap,IntKind.signed,IntKind.bits];simp;omega
  exact this _
 ·exact Al0 _ x hx
theorem Ax9 {l:List Int}{k:Ky}(h:WB l=some k):D8 k.h=false∧Vd k.root:=by
 unfold WB at h;split at h
 ·rename_i hh;cases h;exact⟨hh.2,Afu _ _⟩
 ·cases h
structure Sg.ok (s:Sg):Prop where
 ch:isW s.chains
 pa:isW s.path
theorem A04 (s:Sg):M3 (To s):=by
 have w8:∀v:Int,0<=wrap .u8 v∧wrap .u8 v<=255:=by
  intro v;simp only[wrap,IntKind.signed,IntKind.bits];simp;omega
 intro x hx;unfold To at hx;rcases List.mem_cons.1 hx with rfl|hx
 ·exact w8 _
 rcases List.mem_cons.1 hx with rfl|hx
 ·exact w8 _
 rcases List.mem_append.1 hx with hx|hx
 ·exact Xo _ x hx
 ·exact Xo _ x hx
theorem Aw2 {s:Sg}(hs:s.ok)(h1:D8 s.path.length=false)(h2:J1 s.leaf s.path.length=false)(h3:s.chains.length=18):sgD (To s)=some s:=by
 obtain⟨leaf,ch,pa⟩:=s;obtain⟨hc,hp⟩:=hs;simp only at h1 h2 h3 hc hp;have hb:=Jo h1;have ho:=Aid hb.1 hb.2 h2;have h16:=A2d hb.1 hb.2;have w1:wrap .u8 leaf=leaf:=Hx (by omega) (by omega)
 have w2:wrap .u8 (pa.length:Int)=pa.length:=Hx (by omega) (by omega)
 have lc:(A6 ch).length=144:=by rw[Dq];omega
 have lp:(A6 pa).length=8*pa.length:=Dq pa
 have len:(To ⟨leaf,ch,pa⟩).length=2+144+8*pa.length:=by
  unfold To;simp only[H5,Hi,lc,lp];omega
 have g0:(To ⟨leaf,ch,pa⟩).getD 0 0=leaf:=w1;have g1:(To ⟨leaf,ch,pa⟩).getD 1 0=pa.length:=w2;have d2:(To ⟨leaf,ch,pa⟩).drop 2=A6 ch++A6 pa:=rfl
 have d146:(To ⟨leaf,ch,pa⟩).drop 146=A6 pa:=by
  rw[show 146=2+144 from rfl,←List.drop_drop,d2,List.drop_left' lc]
 unfold sgD;rw[Co ⟨by omega,by rw[g1];exact h1,by rw[g0,g1];exact h2,by rw[g1,len];omega⟩,g0,d2,d146,List.take_left' lc,KO hc,KO hp]
theorem Aq0 {l:List Int}{s:Sg}(h:sgD l=some s):s.ok∧s.path.length<=4∧s.chains.length=18:=by
 unfold sgD at h;split at h
 ·rename_i hh;cases h;have hb:=Jo hh.2.1;refine⟨⟨Ag1 _,Ag1 _⟩,?_,?_⟩
  ·simp only[Te,List.length_drop];omega
  ·simp only[Te,List.length_take,List.length_drop];omega
 ·cases h
end
section
open Go.Proofs.Tryz (prog)
open Go.IntKind (wrap)
set_option maxRecDepth 100000
abbrev FN:FuncId:=50
theorem YV (fu d Bq:Nat)(a0:List PV)(Q9:Nat)(a1:List PV):Ad C0 prog fu (d+1) FN [.lst false 1 Bq a0,.lst false 1 Q9 a1]=(fun (call:Ah)=>Aw (decide (a0.length=Bq))<|F6 (bytesOf a0) fun x1=>Aw (decide (a1.length=Q9))<|F6 (bytesOf a1) fun x2=>some (A4.mk [.sc (.bool (Array.toList (ByteArray.data (ByteArray.mk (List.toArray x1)))==Array.toList (ByteArray.data (ByteArray.mk (List.toArray x2)))))] [])) (Ad C0 prog fu d):=by kernel_rfl
end
section
open Go.Proofs.Tryz (prog)
open Go.IntKind (wrap)
section
variable {fu d:Nat}
theorem Auz (s:ByteArray):Ad C0 prog fu (d+1) OD [.sc (.string s)]=some ⟨[.own 3 1 (Bd [⟨4,0,s⟩])],[]⟩:=by rw[Ag8];rfl
theorem Xy (n:Int):Ad C0 prog fu (d+1) PY [.sc (.int .u64 n)]=some ⟨[.own 3 1 (Bd [⟨1,n,Ob⟩])],[]⟩:=by rw[Ag0];rfl
theorem Ang (l:List Int):Ad C0 prog fu (d+1) KF [.lst false 1 l.length (Af .u8 l)]=some ⟨[.own 3 1 (Bd [⟨3,0,Cp l⟩])],[]⟩:=by
 rw[Ado];have L:=Aq .u8 l;have bo:=Hk l;simp (disch:=omega) only[Cd,L,bo];rfl
end
end
section
open Go.Proofs.Tryz (prog)
open Go.IntKind (wrap)
section
variable {fu d:Nat}
theorem Ai9 {a b:List Int}(ha:M3 a)(hb:M3 b)(h:(a.map fun n=>n.toNat.toUInt8)=(b.map fun n=>n.toNat.toUInt8)):a=b:=by
 have e:Cp a=Cp b:=by unfold Cp;rw[h]
 rw[←Sk ha,←Sk hb,e]
theorem Bdi {a b:List Int}(ha:M3 a)(hb:M3 b):(Array.toList (ByteArray.data (ByteArray.mk (List.toArray (a.map fun n=>n.toNat.toUInt8))))==Array.toList (ByteArray.data (ByteArray.mk (List.toArray (b.map fun n=>n.toNat.toUInt8)))))=decide (a=b):=by
 by_cases h:a=b
 ·subst h;simp
 ·have:(List.map (fun n=>n.toNat.toUInt8) a)≠(List.map (fun n=>n.toNat.toUInt8) b):=fun e=>h (Ai9 ha hb e)
  simp only[h,decide_false]
  simpa using this
theorem XS {a b:List Int}(ha:M3 a)(hb:M3 b):Ad C0 prog fu (d+1) FN [.lst false 1 a.length (Af .u8 a),.lst false 1 b.length (Af .u8 b)]=some ⟨[.sc (.bool (decide (a=b)))],[]⟩:=by
 rw[YV];have La:=Aq .u8 a;have Lb:=Aq .u8 b;have ba:=Hk a;have bb:=Hk b;have q:=Bdi ha hb;simp (disch:=omega) only[Cd,La,Lb,ba,bb,q]
end
structure Ce.ok (c:Ce):Prop where
 ser:Vd c.serial
 mod:Vd c.model
 root:Vd c.key.root
 sg:c.sig.ok
theorem Ce.ok.wf {c:Ce}(h:c.ok):c.wf:=⟨h.ser.1,h.mod.1⟩
end
section
open Go.Proofs.Tryz (prog)
open Go.IntKind (wrap)
set_option maxRecDepth 100000
abbrev U0:FuncId:=10
theorem IX (fu d Bq:Nat)(a0:List PV):Ad C0 prog fu (d+1) U0 [.lst false 1 Bq a0]=(fun (call:Ah)=>some (A4.mk [.pbox [.lst false 1 Bq a0,.sc (.int .i64 0)]] [])) (Ad C0 prog fu d):=by kernel_rfl
abbrev Uw:FuncId:=14
theorem KR (fu d:Nat)(a0 a1:Int):Ad C0 prog fu (d+1) Uw [.sc (.int .i64 a0),.sc (.int .i64 a1)]=(fun (call:Ah)=>Aa (wrap .u64 a0) fun x1=>Aa (wrap .u64 a1) fun x2=>Aw (decide (x2≠0))<|Aa (Int.tmod x1 x2) fun x3=>Aa (wrap .i64 x3) fun x4=>some (A4.mk [.sc (.int .i64 x4)] [])) (Ad C0 prog fu d):=by kernel_rfl
abbrev M9:FuncId:=15
theorem M5 (fu d Al:Nat)(Ag:List PV)(Ai a1:Int):Ad C0 prog fu (d+1) M9 [.pbox [.lst false 1 Al Ag,.sc (.int .i64 Ai)],.sc (.int .i64 a1)]=(fun (call:Ah)=>Bm (decide (Ai>=(↑Al:Int))) (some (A4.mk [.sc (.int .i64 0)] [[.lst false 1 Al Ag,.sc (.int .i64 Ai)]])) (Aa (wrap .i64 (Ai+1)) fun x1=>Aa (wrap .i64 (x1-1)) fun x2=>Aw (decide (0<=x2)&&decide (x2<(↑Al:Int)))<|Ae .i64 (List.getD Ag (Int.toNat x2*1) .top) fun x3=>Aj (call 14 [.sc (.int .i64 x3),.sc (.int .i64 a1)]) fun x4 x5=>Ac x5<|Ab x4 fun x6 x7=>Ae .i64 x6 fun x8=>Ac x7<|some (A4.mk [.sc (.int .i64 x8)] [[.lst false 1 Al Ag,.sc (.int .i64 x1)]]))) (Ad C0 prog fu d):=by kernel_rfl
end
section
open Go.Proofs.Tryz (prog)
open Go.IntKind (wrap)
abbrev dkc (l:List Int)(a:Nat):List PV:=[.lst false 1 l.length (Af .i64 l),.sc (.int .i64 (a:Int))]
theorem A3j {fu d:Nat}{l:List Int}:Ad C0 prog fu (d+1) U0 [.lst false 1 l.length (Af .i64 l)]=some ⟨[.pbox (dkc l 0)],[]⟩:=by
 rw[IX];rfl
theorem A4x (v n:Int)(hn:0<n)(hm:n<=9223372036854775807):∃r,0<=r∧r<n∧∀{fu d:Nat},Ad C0 prog fu (d+1) Uw [.sc (.int .i64 v),.sc (.int .i64 n)]=some ⟨[.sc (.int .i64 r)],[]⟩:=by
 have h1:=Kv v;have h2:wrap .u64 n=n:=C3 (by omega) (by omega)
 have h3:0<=Int.tmod (wrap .u64 v) n:=Int.tmod_nonneg _ h1.1;have h4:Int.tmod (wrap .u64 v) n<n:=Int.tmod_lt_of_pos _ hn;refine⟨_,h3,h4,fun {fu d}=>?_⟩
 rw[KR];simp only[Jy,h2];rw[Acg _ _ (by omega),Ap (by omega) (by omega)]
theorem Jm {l:List Int}(hl:l.length<=maxLen)(a:Nat)(n:Int)(hn:0<n)(hm:n<=9223372036854775807):∃(v:Int)(a':Nat),0<=v∧v<n ∧
  ∀{fu d:Nat},Ad C0 prog fu (d+2) M9 [.pbox (dkc l a),.sc (.int .i64 n)]=some ⟨[.sc (.int .i64 v)],[dkc l a']⟩:=by
 simp only[maxLen] at hl;by_cases h:a<l.length
 ·obtain⟨r,h1,h2,h3⟩:=A4x l[a] n hn hm;refine⟨r,a+1,h1,h2,fun {fu d}=>?_⟩
  rw[M5]
  have hg:(Af .i64 l).getD (Int.toNat ((a:Int)+1-1)*1) .top=.sc (.int .i64 l[a]):=by
   have:=HL (k:=.i64) (List.getElem?_eq_getElem h);rw[show Int.toNat ((a:Int)+1-1)*1=a by omega]
   exact this
  simp (disch:=omega) only[Cd,Ap,hg,h3];rfl
 ·refine⟨0,a,by omega,hn,fun {fu d}=>?_⟩
  rw[M5];simp (disch:=omega) only[Cd]
end
section
open Go.Proofs.Tryz (prog)
open Go.IntKind (wrap)
set_option maxRecDepth 100000
abbrev Va:FuncId:=17
theorem LD (fu d:Nat)(a0 a1:Int):Ad C0 prog fu (d+1) Va [.sc (.int .u64 a0),.sc (.int .i64 a1)]=(fun (call:Ah)=>Aj (call 30 [.sc (.int .u64 a0),.sc (.int .i64 a1)]) fun x1 x2=>Ac x2<|Ab x1 fun x3 x4=>Ef x3 fun x5=>Ab x5 fun x6 x7=>Ae .i64 x6 fun x8=>Ab x7 fun x9 Cy=>Ae .u64 x9 fun C4=>Ac Cy<|Ab x4 fun D1 Ed=>Ae .i64 D1 fun Dn=>Ac Ed<|some (A4.mk [.agg [.sc (.int .i64 x8),.sc (.int .u64 C4)]] [])) (Ad C0 prog fu d):=by kernel_rfl
end
section
open Go.IntKind (wrap)
structure An where
 name:ByteArray
 key:Ky
def An.cells (a:An):List PV:=[.sc (.string a.name),.sc (.int .i64 a.key.h),.sc (.int .u64 a.key.root)]
def Dh (l:List An):List PV:=l.flatMap An.cells
theorem An.cells_len (a:An):a.cells.length=3:=rfl
theorem ana {l:List An}{i:Nat}{a:An}(h:l[i]?=some a):(Dh l).getD (i*3) .top=.sc (.string a.name)∧(Dh l).getD (i*3+1) .top=.sc (.int .i64 a.key.h)∧(Dh l).getD (i*3+2) .top=.sc (.int .u64 a.key.root):=
 ⟨Io An.cells_len h (j:=0) (by omega),Io An.cells_len h (j:=1) (by omega),Io An.cells_len h (j:=2) (by omega)⟩
end
section
open Go.IntKind (wrap)
def Af4 (l:List H8):Prop:=∀f∈l,f.p=false
theorem Af4.key {l:List H8}(h:Af4 l):Tc l=false:=by
 rcases K7 l with rfl|⟨l',f,rfl⟩
 ·rfl
 ·unfold Tc;simp[h f (by simp)]
theorem Af4.dec {l:List H8}(h:Af4 l):Af4 (Yr l):=by
 rcases K7 l with rfl|⟨l',f,rfl⟩
 ·exact h
 ·rw[Uq];intro g hg;rcases List.mem_append.1 hg with hg|hg
  ·exact h g (by simp[hg])
  ·rw[List.mem_singleton.1 hg];exact h f (by simp)
def Val (k:Nat)(v:List It):Prop:=∀(l:List H8)(cnt:Int)(rest:List It),l.length+k<=6->0<=cnt->cnt+v.length<=505->(cnt=0∨l≠[])->Af4 l ->
 R0 (KH (Yr l)) (cnt+v.length) rest->R0 l cnt (v++rest)
theorem TK {l:List H8}{cnt k:Int}(ha:Af4 l)(hl:l.length<=6)(hc:cnt<=505)(k1:1<=k)(k8:k<=8):On l cnt k=0:=by
 unfold On;rw[Bp (by omega),Bp (by omega),Bp (by omega),Bp (by intro q;rw[ha.key] at q;exact absurd q.1 (by simp)),Bp (by omega)]
theorem G9 {x:It}(h:YN x)(k:Nat):Val k [x]:=by
 intro l cnt rest hl h0 h1 hd ha hg;simp only[List.length_singleton] at h1 hg;have hk:=h.kd;refine⟨⟨by omega,h0,by omega,ha.key,h.hs,h.hv,?_,TK ha (by omega) (by omega) (by omega) (by omega),h.hsh,.inr (by omega)⟩,?_⟩
 ·rcases hd with rfl|hd
  ·rfl
  ·have:l.length≠0:=fun e=>hd (List.eq_nil_of_length_eq_zero e)
   have h2:((l.length:Int)==0)=false:=by simp;exact hd
   rw[h2,Bool.and_false]
 ·unfold Hn;rw[h.push];exact hg
theorem Afp {k:Nat}{l:List H8}(hl:l.length+1+k<=6)(ha:Af4 l){rest:List It}:∀(vs:List (List It)) (cnt:Int),vs≠[]->vs.length<=100000->(∀v∈vs,Val k v)->0<=cnt->cnt+vs.flatten.length<=505->R0 (KH l) (cnt+vs.flatten.length) rest ->
  R0 (l++[⟨false,vs.length,[]⟩]) cnt (vs.flatten++rest)
 |[],_,h,_,_,_,_,_=>absurd rfl h
 |v::vs,cnt,_,hn,hv,h0,h1,hg=>by
  rw[List.flatten_cons,Hi] at h1 hg;rw[List.flatten_cons,QV];simp only[H5] at hn;refine hv v (by simp) _ cnt _ (by rw[Hi,List.length_singleton];omega) h0 (by omega) (.inr (by simp)) ?_ ?_
  ·intro g hg';rcases List.mem_append.1 hg' with hg'|hg'
   ·exact ha g hg'
   ·rw[List.mem_singleton.1 hg']
  rw[Uq]
  have w:wrap .i64 (((v::vs).length:Int)-1)=(vs.length:Int):=by
   rw[Ap (by simp only[H5];omega) (by simp only[H5];omega)]
   simp only[H5];omega
  simp only[w];by_cases V4:vs=[]
  ·subst V4;rw[Aat rfl]
   simpa using hg
  ·rw[WE (by simp only;have:=List.length_pos_iff.2 V4;omega)]
   exact Afp hl ha vs (cnt+v.length) V4 (by omega) (fun x hx=>hv x (by simp[hx])) (by omega) (by omega) (by rw[Int.add_assoc,←Int.natCast_add];exact hg)
theorem Uv {k:Nat}{vs:List (List It)} (hv:∀v∈vs,Val k v)(hn:vs.length<=500):Val (k+1) (⟨5,vs.length,⟨#[]⟩⟩::vs.flatten):=by
 intro l cnt rest hl h0 h1 hd ha hg;simp only[H5] at h1 hg;refine⟨⟨by omega,h0,by omega,ha.key,Nat.zero_le _,(by intro h;cases h),?_,TK ha (by omega) (by omega) (by simp) (by simp),(by rfl),.inl (by simp only;omega)⟩,?_⟩
 ·rcases hd with rfl|hd
  ·rfl
  ·have h2:((l.length:Int)==0)=false:=by simp;exact hd
   rw[h2,Bool.and_false]
 ·by_cases V4:vs=[]
  ·subst V4
   have e:Hn l ⟨5,(([]:List (List It)).length:Nat),⟨#[]⟩⟩=KH (Yr l):=by
    unfold Hn WC;rw[Bp (by simp),Bp (by simp)]
   rw[e]
   simpa using hg
  ·have hp:=List.length_pos_iff.2 V4;have w:wrap .i64 (vs.length:Int)=(vs.length:Int):=Ap (by omega) (by omega)
   have e:Hn l ⟨5,(vs.length:Nat),⟨#[]⟩⟩=Yr l++[⟨false,(vs.length:Nat),[]⟩]:=by
    unfold Hn WC;rw[Co ⟨rfl,by simp only;omega⟩]
    simp only[w];exact WE (by simp only;omega)
   rw[e]
   exact Afp (by rw[GV];omega) ha.dec vs (cnt+1) V4 (by omega) hv (by omega) (by omega) (by
    have e1:cnt+1+(vs.flatten.length:Int)=cnt+((vs.flatten.length+1:Nat):Int):=by omega
    rw[e1];exact hg)
theorem Val.goods {k:Nat}(hk:k<=6){v:List It}(h:Val k v)(hn:v≠[]) (hl:v.length<=505):R0 [] 0 v:=by
 have:=h [] 0 [] (by simp;exact hk) (by omega) (by omega) (.inl rfl) (by intro f hf;cases hf) ⟨rfl,by have:=List.length_pos_iff.2 hn;omega⟩
 rw[List.append_nil] at this;exact this
end
section
open Go.IntKind (wrap)
structure Sa where
 kd:Int
 at_:Int
structure Me where
 model:Int
 ans:List An
 sts:List Sa
structure Md where
 ver:Int
 iss:Int
 nxt:Int
 ents:List Me
 sig:Sg
def Sa.cells (s:Sa):List PV:=[.sc (.int .i64 s.kd),.sc (.int .i64 s.at_)]
def Dw (l:List Sa):List PV:=l.flatMap Sa.cells
theorem Sa.cells_len (s:Sa):s.cells.length=2:=rfl
def Me.cells (x:Me):List PV:=[.sc (.int .u64 x.model),.lst false 3 x.ans.length (Dh x.ans),.lst false 2 x.sts.length (Dw x.sts)]
def Ca (l:List Me):List PV:=l.flatMap Me.cells
theorem Me.cells_len (x:Me):x.cells.length=3:=rfl
def Md.cells (m:Md):List PV:=[.sc (.int .i64 m.ver),.sc (.int .i64 m.iss),.sc (.int .i64 m.nxt),.lst false 3 m.ents.length (Ca m.ents),.sc (.int .i64 m.sig.leaf),.lst false 1 m.sig.chains.length (Af .u64 m.sig.chains),.lst false 1 m.sig.path.length (Af .u64 m.sig.path)]
theorem Sq (l:List An):(Dh l).length=l.length*3:=V7 An.cells_len l
theorem DV (l:List Sa):(Dw l).length=l.length*2:=V7 Sa.cells_len l
theorem Pi (l:List Me):(Ca l).length=l.length*3:=V7 Me.cells_len l
theorem saa {l:List Sa}{i:Nat}{s:Sa}(h:l[i]?=some s):(Dw l).getD (i*2) .top=.sc (.int .i64 s.kd)∧(Dw l).getD (i*2+1) .top=.sc (.int .i64 s.at_):=
 ⟨Io Sa.cells_len h (j:=0) (by omega),Io Sa.cells_len h (j:=1) (by omega)⟩
theorem mea {l:List Me}{i:Nat}{x:Me}(h:l[i]?=some x):(Ca l).getD (i*3) .top=.sc (.int .u64 x.model)∧(Ca l).getD (i*3+1) .top=.lst false 3 x.ans.length (Dh x.ans)∧(Ca l).getD (i*3+2) .top=.lst false 2 x.sts.length (Dw x.sts):=
 ⟨Io Me.cells_len h (j:=0) (by omega),Io Me.cells_len h (j:=1) (by omega),Io Me.cells_len h (j:=2) (by omega)⟩
def Gd (a:An):Int:=if a.name.size<1∨32<a.name.size then 9 else if okS a.name=false then 6 else if D8 a.key.h=true then 9 else 0
def Dm:List An->Int
 |[]=>0
 |a::r=>if Gd a≠0 then Gd a else Dm r
def Gz (p:Option Int)(s:Sa):Int:=if s.kd<1∨4<s.kd∨s.at_<0∨1099511627776<s.at_ then 9 else match p with|some q=>if s.at_<=q then 7 else 0|none=>0
def Ee:Option Int->List Sa->Int
 |_,[]=>0
 |p,s::r=>if Gz p s≠0 then Gz p s else Ee (some s.at_) r
def Db (x:Me):Int:=if 4<x.ans.length∨4<x.sts.length then 8 else if Dm x.ans≠0 then Dm x.ans else Ee none x.sts
def Js (p:Option Int)(x:Me):Int:=match p with|some q=>if x.model<=q then 7 else 0|none=>0
def Dg:Option Int->List Me->Int
 |_,[]=>0
 |p,x::r=>if Js p x≠0 then Js p x else if Db x≠0 then Db x else Dg (some x.model) r
def B0 (m:Md):Int:=if m.ver<1∨16<m.ver then 9 else if m.iss<0∨m.nxt<m.iss∨1099511627776<m.nxt then 9 else if 16<m.ents.length then 8 else Dg none m.ents
def E6 (n:Int):It:=⟨5,n,Ob⟩
def Fc (n:Int):It:=⟨1,n,Ob⟩
def Adn (a:An):List (List It):=[[⟨4,0,a.name⟩],[⟨3,0,Cp (Jt a.key)⟩]]
def C9 (a:An):List It:=E6 2::(Adn a).flatten
def Afe (s:Sa):List (List It):=[[Fc s.kd],[Fc s.at_]]
def Da (s:Sa):List It:=E6 2::(Afe s).flatten
def Do (vs:List (List It)):List It:=E6 vs.length::vs.flatten
def Zw (x:Me):List (List It):=[[Fc x.model],Do (x.ans.map C9),Do (x.sts.map Da)]
def Bb (x:Me):List It:=E6 3::(Zw x).flatten
def Ri (m:Md):List (List It):=[[Fc m.ver],[Fc m.iss],[Fc m.nxt],Do (m.ents.map Bb)]
def Ba (m:Md):List It:=E6 4::(Ri m).flatten
theorem Akm (k:Ky):(Cp (Jt k)).size=9:=by rw[Lj];rfl
theorem CU:Ob.size=0:=rfl
def Fs (l:List It):Prop:=∀x∈l,x.ok∧x.dat∧x.s.size<=32
theorem Fs.app {a b:List It}(ha:Fs a)(hb:Fs b):Fs (a++b):=fun x hx=>(List.mem_append.1 hx).elim (ha x) (hb x)
theorem Fs.cons {x:It}{l:List It}(h:x.ok∧x.dat∧x.s.size<=32)(hl:Fs l):Fs (x::l):=fun y hy=>by
 rcases List.mem_cons.1 hy with rfl|hy
 ·exact h
 ·exact hl y hy
theorem Fs.flat {α:Type}{f:α->List It}{l:List α}(h:∀x∈l,Fs (f x)):Fs (l.map f).flatten:=fun y hy=>by
 obtain⟨v,hv,hy⟩:=List.mem_flatten.1 hy;obtain⟨x,hx,rfl⟩:=List.mem_map.1 hv;exact h x hx y hy
theorem Xf {n:Int}(h:0<=n):(Fc n).ok∧(Fc n).dat∧(Fc n).s.size<=32:=⟨⟨by show (1:Int)<=1;omega,by show (1:Int)<=8;omega,h,by show Ob.size<=_;rw[CU];omega⟩,.inr (.inr rfl),by show Ob.size<=32;rw[CU];omega⟩
theorem Sy {n:Int}(h:0<=n):(E6 n).ok∧(E6 n).dat∧(E6 n).s.size<=32:=⟨⟨by show (1:Int)<=5;omega,by show (5:Int)<=8;omega,h,by show Ob.size<=_;rw[CU];omega⟩,.inr (.inr rfl),by show Ob.size<=32;rw[CU];omega⟩
theorem Jw {n:Int}(h:0<=n):YN (Fc n):=⟨.inl rfl,by show Ob.size<=_;rw[CU];omega,(fun e=>by cases e),(by unfold Mq Fc;rfl),h⟩
theorem Alm {a:An}(h:Gd a=0):1<=a.name.size∧a.name.size<=32∧okS a.name=true∧D8 a.key.h=false:=by
 unfold Gd at h;split at h
 ·cases h
 ·split at h
  ·cases h
  ·split at h
   ·cases h
   ·rename_i h1 h2 h3;exact⟨by omega,by omega,by simpa using h2,by simpa using h3⟩
theorem Ajt {a:An}(h:Gd a=0):Val 1 (C9 a)∧Fs (C9 a):=by
 obtain⟨h1,h2,h3,_⟩:=Alm h;have f1:YN ⟨4,0,a.name⟩:=⟨.inr (.inr (.inr (.inl rfl))),by simp only;omega,fun _=>h3,by unfold Mq;rfl,by simp⟩
 have f2:YN ⟨3,0,Cp (Jt a.key)⟩:=⟨.inr (.inr (.inl rfl)),by simp only[Akm];omega,(fun e=>by cases e),by unfold Mq;rfl,by simp⟩
 refine⟨Uv (k:=0) (vs:=Adn a) (fun v hv=>?_) (by simp[Adn]),fun x hx=>?_⟩
 ·simp only[Adn,List.mem_cons,List.not_mem_nil,or_false] at hv;rcases hv with rfl|rfl
  ·exact G9 f1 0
  ·exact G9 f2 0
 ·simp only[C9,Adn,List.flatten_cons,List.flatten_nil,List.append_nil,List.mem_cons,List.singleton_append,List.not_mem_nil,or_false] at hx;rcases hx with rfl|rfl|rfl
  ·exact Sy (by omega)
  ·exact⟨f1.ok,.inr (.inl rfl),h2⟩
  ·exact⟨f2.ok,.inl rfl,by simp only[Akm];omega⟩
theorem AV:∀{l:List An},Dm l=0->∀a∈l,Gd a=0
 |[],_,a,ha=>by cases ha
 |b::r,h,a,ha=>by
  unfold Dm at h;by_cases h0:Gd b=0
  ·rw[Bp (by simp[h0])] at h
   rcases List.mem_cons.1 ha with rfl|ha
   ·exact h0
   ·exact AV h a ha
  ·rw[Co h0] at h;exact absurd h h0
theorem Axm {p:Option Int}{s:Sa}(h:Gz p s=0):1<=s.kd∧s.kd<=4∧0<=s.at_∧s.at_<=1099511627776:=by
 unfold Gz at h;split at h
 ·cases h
 ·omega
theorem LJ:∀{p:Option Int}{l:List Sa},Ee p l=0->∀s∈l,1<=s.kd∧s.kd<=4∧0<=s.at_∧s.at_<=1099511627776
 |_,[],_,a,ha=>by cases ha
 |p,b::r,h,a,ha=>by
  unfold Ee at h;by_cases h0:Gz p b=0
  ·rw[Bp (by simp[h0])] at h
   rcases List.mem_cons.1 ha with rfl|ha
   ·exact Axm h0
   ·exact LJ h a ha
  ·rw[Co h0] at h;exact absurd h h0
theorem Aj9 {s:Sa}(h0:0<=s.kd)(h1:0<=s.at_):Val 1 (Da s)∧Fs (Da s):=by
 refine⟨Uv (k:=0) (vs:=Afe s) (fun v hv=>?_) (by simp[Afe]),?_⟩
 ·simp only[Afe,List.mem_cons,List.not_mem_nil,or_false] at hv;rcases hv with rfl|rfl
  ·exact G9 (Jw h0) 0
  ·exact G9 (Jw h1) 0
 ·exact Fs.cons (Sy (by omega)) (Fs.cons (Xf h0) (Fs.cons (Xf h1) (fun x hx=>by cases hx)))
theorem Pm (a:An):(C9 a).length=3:=rfl
theorem Wu (s:Sa):(Da s).length=3:=rfl
theorem H9 {α:Type}{f:α->List It}{k:Nat}(hf:∀x,(f x).length=k):∀l:List α,(l.map f).flatten.length=l.length*k
 |[]=>by simp
 |x::l=>by rw[VR,List.flatten_cons,Hi,hf x,H9 hf l,H5,Nat.succ_mul];omega
theorem W0 {x:Me}(h:Db x=0):x.ans.length<=4∧x.sts.length<=4∧Dm x.ans=0∧Ee none x.sts=0:=by
 unfold Db at h;by_cases h0:4<x.ans.length∨4<x.sts.length
 ·rw[Co h0] at h;cases h
 rw[Bp h0] at h;by_cases h1:Dm x.ans=0
 ·rw[Bp (by simp[h1])] at h
  exact⟨by omega,by omega,h1,h⟩
 ·rw[Co h1] at h;exact absurd h h1
theorem Aco {l:List An}(hl:l.length<=4)(h:∀a∈l,Gd a=0):Val 2 (Do (l.map C9))∧Fs (Do (l.map C9)):=by
 refine⟨Uv (k:=1) (fun v hv=>?_) (by rw[List.length_map];omega),Fs.cons (Sy (by omega)) (Fs.flat fun a ha=>(Ajt (h a ha)).2)⟩
 obtain⟨a,ha,rfl⟩:=List.mem_map.1 hv;exact (Ajt (h a ha)).1
theorem Alp {l:List Sa}(hl:l.length<=4)(h:∀s∈l,0<=s.kd∧0<=s.at_):Val 2 (Do (l.map Da))∧Fs (Do (l.map Da)):=by
 refine⟨Uv (k:=1) (fun v hv=>?_) (by rw[List.length_map];omega),Fs.cons (Sy (by omega)) (Fs.flat fun s hs=>(Aj9 (h s hs).1 (h s hs).2).2)⟩
 obtain⟨s,hs,rfl⟩:=List.mem_map.1 hv;exact (Aj9 (h s hs).1 (h s hs).2).1
theorem Up {x:Me}(hm:0<=x.model)(h:Db x=0):Val 3 (Bb x)∧Fs (Bb x)∧(Bb x).length<=28:=by
 obtain⟨h1,h2,h3,h4⟩:=W0 h;have va:=Aco h1 (AV h3);have vs:=Alp h2 (fun s hs=>by have:=LJ h4 s hs;exact⟨by omega,by omega⟩)
 refine⟨Uv (k:=2) (vs:=Zw x) (fun v hv=>?_) (by simp[Zw]),?_,?_⟩
 ·simp only[Zw,List.mem_cons,List.not_mem_nil,or_false] at hv;rcases hv with rfl|rfl|rfl
  ·exact G9 (Jw hm) 2
  ·exact va.1
  ·exact vs.1
 ·refine Fs.cons (Sy (by omega)) ?_
  simp only[Zw,List.flatten_cons,List.flatten_nil,List.append_nil];exact Fs.app (Fs.cons (Xf hm) (fun x hx=>by cases hx)) (Fs.app va.2 vs.2)
 ·simp only[Bb,Zw,Do,List.flatten_cons,List.flatten_nil,List.append_nil,H5,Hi,List.length_singleton,Ye,H9 Pm,H9 Wu];omega
theorem Su:∀{p:Option Int}{l:List Me},Dg p l=0->∀x∈l,Db x=0
 |_,[],_,a,ha=>by cases ha
 |p,b::r,h,a,ha=>by
  unfold Dg at h;by_cases h0:Js p b=0
  rotate_left
  ·rw[Co h0] at h;exact absurd h h0
  rw[Bp (by simp[h0])] at h
  by_cases h1:Db b=0
  ·rw[Bp (by simp[h1])] at h
   rcases List.mem_cons.1 ha with rfl|ha
   ·exact h1
   ·exact Su h a ha
  ·rw[Co h1] at h;exact absurd h h1
theorem P2 {m:Md}(h:B0 m=0):1<=m.ver∧m.ver<=16∧0<=m.iss∧m.iss<=m.nxt∧m.nxt<=1099511627776∧m.ents.length<=16∧Dg none m.ents=0:=by
 unfold B0 at h;split at h
 ·cases h
 ·split at h
  ·cases h
  ·split at h
   ·cases h
   ·exact⟨by omega,by omega,by omega,by omega,by omega,by omega,h⟩
theorem HV {α:Type}{f:α->List It}{k:Nat}:∀{l:List α},(∀x∈l,(f x).length<=k)->(l.map f).flatten.length<=l.length*k
 |[],_=>by simp
 |x::l,h=>by
  have h1:=h x (by simp)
  have h2:=HV (l:=l) (fun y hy=>h y (by simp[hy]))
  rw[VR,List.flatten_cons,Hi,H5,Nat.succ_mul];omega
theorem Ahe {l:List Me}(hl:l.length<=16)(h:∀x∈l,0<=x.model∧Db x=0):Val 4 (Do (l.map Bb))∧Fs (Do (l.map Bb))∧(Do (l.map Bb)).length<=449:=by
 refine⟨Uv (k:=3) (fun v hv=>?_) (by rw[List.length_map];omega),Fs.cons (Sy (by omega)) (Fs.flat fun x hx=>(Up (h x hx).1 (h x hx).2).2.1),?_⟩
 ·obtain⟨x,hx,rfl⟩:=List.mem_map.1 hv;exact (Up (h x hx).1 (h x hx).2).1
 ·have:=HV (f:=Bb) (k:=28) (l:=l) (fun x hx=>(Up (h x hx).1 (h x hx).2).2.2)
  unfold Do;rw[H5];omega
structure Md.wf (m:Md):Prop where
 mod:∀x∈m.ents,0<=x.model
theorem W6 {m:Md}(hw:m.wf)(h:B0 m=0):Val 5 (Ba m)∧Fs (Ba m)∧(Ba m).length<=453:=by
 obtain⟨h1,h2,h3,h4,h5,h6,h7⟩:=P2 h;obtain⟨v1,v2,v3⟩:=Ahe h6 (fun x hx=>⟨hw.mod x hx,Su h7 x hx⟩)
 refine⟨Uv (k:=4) (vs:=Ri m) (fun v hv=>?_) (by simp[Ri]),?_,?_⟩
 ·simp only[Ri,List.mem_cons,List.not_mem_nil,or_false] at hv;rcases hv with rfl|rfl|rfl|rfl
  ·exact G9 (Jw (by omega)) 4
  ·exact G9 (Jw (by omega)) 4
  ·exact G9 (Jw (by omega)) 4
  ·exact v1
 ·refine Fs.cons (Sy (by omega)) ?_
  simp only[Ri,List.flatten_cons,List.flatten_nil,List.append_nil];exact Fs.app (Fs.cons (Xf (by omega)) (fun x hx=>by cases hx)) (Fs.app (Fs.cons (Xf (by omega)) (fun x hx=>by cases hx)) (Fs.app (Fs.cons (Xf (by omega)) (fun x hx=>by cases hx)) v2))
 ·simp only[Ba,Ri,List.flatten_cons,List.flatten_nil,List.append_nil,H5,Hi,List.length_singleton,Ye];omega
end
section
open Go.IntKind (wrap)
abbrev RS:=List It × Bool
def Bu (k:Int)(s:RS):It × RS:=if s.2=true then (it0,(s.1,true)) else match s.1 with|[]=>(it0,([],true))|x::r=>if x.k=k then (x,(r,false)) else (it0,(x::r,true))
def At7 (l:List Int):Ky:=(WB l).getD ⟨0,0⟩
def RZ (s:RS):An × RS:=
 (⟨(Bu 4 (Bu 5 s).2).1.s,At7 (Mx (Bu 3 (Bu 4 (Bu 5 s).2).2).1.s)⟩,((Bu 3 (Bu 4 (Bu 5 s).2).2).2.1,(Bu 3 (Bu 4 (Bu 5 s).2).2).2.2||(WB (Mx (Bu 3 (Bu 4 (Bu 5 s).2).2).1.s)).isNone))
def Ns:Nat->Int->RS->List An × RS
 |0,_,s=>([],s)
 |f+1,n,s=>if n>0∧s.2=false then ((RZ s).1::(Ns f (n-1) (RZ s).2).1,(Ns f (n-1) (RZ s).2).2) else ([],s)
def XL (s:RS):Sa × RS:=(⟨wrap .i64 (Bu 1 (Bu 5 s).2).1.n,wrap .i64 (Bu 1 (Bu 1 (Bu 5 s).2).2).1.n⟩,(Bu 1 (Bu 1 (Bu 5 s).2).2).2)
def Q6:Nat->Int->RS->List Sa × RS
 |0,_,s=>([],s)
 |f+1,n,s=>if n>0∧s.2=false then ((XL s).1::(Q6 f (n-1) (XL s).2).1,(Q6 f (n-1) (XL s).2).2) else ([],s)
def GU (s:RS):It × RS:=Bu 5 (Bu 1 (Bu 5 s).2).2
def EZ (s:RS):List An × RS:=Ns (s.1.length+2) (GU s).1.n (GU s).2
def ED (s:RS):It × RS:=Bu 5 (EZ s).2
def Ahm (s:RS):List Sa × RS:=Q6 (s.1.length+2) (ED s).1.n (ED s).2
def Oc (s:RS):Me × RS:=(⟨(Bu 1 (Bu 5 s).2).1.n,(EZ s).1,(Ahm s).1⟩,(Ahm s).2)
def Iy:Nat->Int->RS->List Me × RS
 |0,_,s=>([],s)
 |f+1,n,s=>if n>0∧s.2=false then ((Oc s).1::(Iy f (n-1) (Oc s).2).1,(Iy f (n-1) (Oc s).2).2) else ([],s)
def HP (l:List It):It × RS:=Bu 1 (Bu 5 (l,false)).2
def HE (l:List It):It × RS:=Bu 1 (HP l).2
def GC (l:List It):It × RS:=Bu 1 (HE l).2
def Zx (l:List It):It × RS:=Bu 5 (GC l).2
def Aia (l:List It):List Me × RS:=Iy (l.length+2) (Zx l).1.n (Zx l).2
def sg0:Sg:=⟨0,[],[]⟩
def KK (l:List It):Md × Bool:=(⟨wrap .i64 (HP l).1.n,wrap .i64 (HE l).1.n,wrap .i64 (GC l).1.n,(Aia l).1,sg0⟩,!(Aia l).2.2&&(((Aia l).2.1.length:Int)==0))
theorem Gk {k:Int}{x:It}{r:List It}(h:x.k=k):Bu k (x::r,false)=(x,(r,false)):=by
 unfold Bu;rw[Bp (by simp)]
 simp only[h,if_true]
theorem Ay1 {a:An}(h:Gd a=0)(hr:Vd a.key.root):WB (Mx (Cp (Jt a.key)))=some a.key:=by
 rw[Sk A3v];exact Am7 (Alm h).2.2.2 hr
theorem Ayh {a:An}{r:List It}(h:Gd a=0)(hr:Vd a.key.root):RZ (C9 a++r,false)=(a,(r,false)):=by
 have e1:Bu 5 (C9 a++r,false)=(E6 2,((⟨4,0,a.name⟩:It)::⟨3,0,Cp (Jt a.key)⟩::r,false)):=Gk rfl;have e2:Bu 4 ((⟨4,0,a.name⟩:It)::⟨3,0,Cp (Jt a.key)⟩::r,false)=(⟨4,0,a.name⟩,(⟨3,0,Cp (Jt a.key)⟩::r,false)):=Gk rfl;have e3:Bu 3 ((⟨3,0,Cp (Jt a.key)⟩:It)::r,false)=(⟨3,0,Cp (Jt a.key)⟩,(r,false)):=Gk rfl;unfold RZ At7;rw[e1];simp only[e2,e3,Ay1 h hr];rfl
theorem Aff {rest:List It}:∀(l:List An)(f:Nat),l.length<f->(∀a∈l,Gd a=0∧Vd a.key.root)->Ns f l.length ((l.map C9).flatten++rest,false)=(l,(rest,false))
 |_,0,h,_=>by omega
 |[],f+1,_,_=>by
  unfold Ns;rw[Bp (by simp)]
  rfl
 |a::l,f+1,h,hk=>by
  simp only[H5] at h;have ih:=Aff (rest:=rest) l f (by omega) (fun x hx=>hk x (by simp[hx]))
  have e:=Ayh (a:=a) (r:=(l.map C9).flatten++rest) (hk a (by simp)).1 (hk a (by simp)).2
  rw[VR,List.flatten_cons,QV];unfold Ns;rw[Co ⟨by simp only[H5];omega,rfl⟩,e]
  have el:(((a::l).length:Nat):Int)-1=(l.length:Int):=by simp only[H5];omega
  rw[el];simp only[ih]
theorem Axo {s:Sa}{r:List It}(h:1<=s.kd∧s.kd<=4∧0<=s.at_∧s.at_<=1099511627776):XL (Da s++r,false)=(s,(r,false)):=by
 have e1:Bu 5 (Da s++r,false)=(E6 2,(Fc s.kd::Fc s.at_::r,false)):=Gk rfl;have e2:Bu 1 (Fc s.kd::Fc s.at_::r,false)=(Fc s.kd,(Fc s.at_::r,false)):=Gk rfl;have e3:Bu 1 (Fc s.at_::r,false)=(Fc s.at_,(r,false)):=Gk rfl;have n1:(Fc s.kd).n=s.kd:=rfl;have n2:(Fc s.at_).n=s.at_:=rfl;unfold XL;rw[e1];simp only[e2,e3,n1,n2];rw[Ap (by omega) (by omega),Ap (by omega) (by omega)]
theorem Aft {rest:List It}:∀(l:List Sa)(f:Nat),l.length<f->(∀s∈l,1<=s.kd∧s.kd<=4∧0<=s.at_∧s.at_<=1099511627776)->Q6 f l.length ((l.map Da).flatten++rest,false)=(l,(rest,false))
 |_,0,h,_=>by omega
 |[],f+1,_,_=>by
  unfold Q6;rw[Bp (by simp)]
  rfl
 |a::l,f+1,h,hk=>by
  simp only[H5] at h;have ih:=Aft (rest:=rest) l f (by omega) (fun x hx=>hk x (by simp[hx]))
  have e:=Axo (s:=a) (r:=(l.map Da).flatten++rest) (hk a (by simp))
  rw[VR,List.flatten_cons,QV];unfold Q6;rw[Co ⟨by simp only[H5];omega,rfl⟩,e]
  have el:(((a::l).length:Nat):Int)-1=(l.length:Int):=by simp only[H5];omega
  rw[el];simp only[ih]
def Me.rts (x:Me):Prop:=∀a∈x.ans,Vd a.key.root
theorem NC (x:Me)(r:List It):Bb x++r=E6 3::Fc x.model::E6 x.ans.length::((x.ans.map C9).flatten++(E6 x.sts.length::((x.sts.map Da).flatten++r))):=by
 unfold Bb Zw Do;simp only[List.flatten_cons,List.flatten_nil,List.append_nil,Zzp,ZG,QV,List.length_map]
theorem Avl {x:Me}{r:List It}(h:Db x=0)(hr:x.rts):Oc (Bb x++r,false)=(x,(r,false)):=by
 obtain⟨h1,h2,h3,h4⟩:=W0 h;have e1:Bu 5 (Bb x++r,false)=(E6 3,(Fc x.model::E6 x.ans.length::((x.ans.map C9).flatten++(E6 x.sts.length::((x.sts.map Da).flatten++r))),false)):=by rw[NC];exact Gk rfl
 have e2:Bu 1 (Fc x.model::E6 x.ans.length::((x.ans.map C9).flatten++(E6 x.sts.length::((x.sts.map Da).flatten++r))),false)=(Fc x.model,(E6 x.ans.length::((x.ans.map C9).flatten++(E6 x.sts.length::((x.sts.map Da).flatten++r))),false)):=Gk rfl
 have eA:GU (Bb x++r,false)=(E6 x.ans.length,((x.ans.map C9).flatten++(E6 x.sts.length::((x.sts.map Da).flatten++r)),false)):=by
  unfold GU;rw[e1];simp only[e2];exact Gk rfl
 have len:x.ans.length<(Bb x++r).length+2∧x.sts.length<(Bb x++r).length+2:=by
  rw[NC];simp only[H5,Hi,H9 Pm,H9 Wu];omega
 have eB:EZ (Bb x++r,false)=(x.ans,(E6 x.sts.length::((x.sts.map Da).flatten++r),false)):=by
  unfold EZ;rw[eA];exact Aff x.ans _ len.1 (fun a ha=>⟨AV h3 a ha,hr a ha⟩)
 have eC:ED (Bb x++r,false)=(E6 x.sts.length,((x.sts.map Da).flatten++r,false)):=by
  unfold ED;rw[eB];exact Gk rfl
 have eD:Ahm (Bb x++r,false)=(x.sts,(r,false)):=by
  unfold Ahm;rw[eC];exact Aft x.sts _ len.2 (LJ h4)
 unfold Oc;rw[eB,eD,e1];simp only[e2];rfl
theorem Aaz {rest:List It}:∀(l:List Me)(f:Nat),l.length<f->(∀x∈l,Db x=0∧x.rts)->Iy f l.length ((l.map Bb).flatten++rest,false)=(l,(rest,false))
 |_,0,h,_=>by omega
 |[],f+1,_,_=>by
  unfold Iy;rw[Bp (by simp)]
  rfl
 |a::l,f+1,h,hk=>by
  simp only[H5] at h;have ih:=Aaz (rest:=rest) l f (by omega) (fun x hx=>hk x (by simp[hx]))
  have e:=Avl (x:=a) (r:=(l.map Bb).flatten++rest) (hk a (by simp)).1 (hk a (by simp)).2
  rw[VR,List.flatten_cons,QV];unfold Iy;rw[Co ⟨by simp only[H5];omega,rfl⟩,e]
  have el:(((a::l).length:Nat):Int)-1=(l.length:Int):=by simp only[H5];omega
  rw[el];simp only[ih]
theorem GQ (m:Md):Ba m=E6 4::Fc m.ver::Fc m.iss::Fc m.nxt::E6 m.ents.length::(m.ents.map Bb).flatten:=by
 unfold Ba Ri Do;simp only[List.flatten_cons,List.flatten_nil,List.append_nil,Zzp,ZG,List.length_map]
theorem Ars {l:List Me}:l.length<=(l.map Bb).flatten.length:=by
 induction l with
 |nil=>simp
 |cons x l ih=>
  rw[VR,List.flatten_cons,Hi,H5];have:1<=(Bb x).length:=by unfold Bb;simp
  omega
theorem Aqx {m:Md}(h:B0 m=0)(hr:∀x∈m.ents,x.rts):KK (Ba m)=({ m with sig:=sg0 },true):=by
 obtain⟨h1,h2,h3,h4,h5,h6,h7⟩:=P2 h;have e1:Bu 5 (Ba m,false)=(E6 4,(Fc m.ver::Fc m.iss::Fc m.nxt::E6 m.ents.length::(m.ents.map Bb).flatten,false)):=by rw[GQ];exact Gk rfl
 have eA:HP (Ba m)=(Fc m.ver,(Fc m.iss::Fc m.nxt::E6 m.ents.length::(m.ents.map Bb).flatten,false)):=by unfold HP;rw[e1];exact Gk rfl
 have eB:HE (Ba m)=(Fc m.iss,(Fc m.nxt::E6 m.ents.length::(m.ents.map Bb).flatten,false)):=by unfold HE;rw[eA];exact Gk rfl
 have eC:GC (Ba m)=(Fc m.nxt,(E6 m.ents.length::(m.ents.map Bb).flatten,false)):=by unfold GC;rw[eB];exact Gk rfl
 have eD:Zx (Ba m)=(E6 m.ents.length,((m.ents.map Bb).flatten,false)):=by unfold Zx;rw[eC];exact Gk rfl
 have eE:Aia (Ba m)=(m.ents,([],false)):=by
  unfold Aia;rw[eD];have:=Aaz (rest:=[]) m.ents ((Ba m).length+2) (by rw[GQ];simp only[H5];have:=Ars (l:=m.ents);omega) (fun x hx=>⟨Su h7 x hx,hr x hx⟩)
  rw[List.append_nil] at this;exact this
 have n1:(Fc m.ver).n=m.ver:=rfl;have n2:(Fc m.iss).n=m.iss:=rfl;have n3:(Fc m.nxt).n=m.nxt:=rfl;unfold KK;rw[eA,eB,eC,eE];simp only[n1,n2,n3];rw[Ap (by omega) (by omega),Ap (by omega) (by omega),Ap (by omega) (by omega)]
 rfl
end
section
open Go.IntKind (wrap)
def okA (a:An):Prop:=Vd a.key.root∧a.name.size<=1024
def okM (x:Me):Prop:=Vd x.model∧(∀a∈x.ans,okA a)∧x.ans.length<=1010∧x.sts.length<=1010
def LG (l:List It):Prop:=∀x∈l,OkX x
theorem Asd:Vd it0.n:=⟨by decide,by decide⟩
theorem As2:it0.s.size<=1024:=by decide
theorem Dp {k:Int}{s:RS}(h:LG s.1):Vd (Bu k s).1.n∧(Bu k s).1.s.size<=1024∧LG (Bu k s).2.1∧(Bu k s).2.1.length<=s.1.length∧((Bu k s).2.2=false->s.2=false∧(Bu k s).2.1.length<s.1.length):=by
 obtain⟨l,b⟩:=s;unfold Bu;cases b
 ·rw[Bp (by simp)]
  cases l with
  |nil=>exact⟨Asd,As2,h,Nat.le_refl _,fun e=>(by cases e)⟩
  |cons x r=>
   simp only;by_cases hk:x.k=k
   ·simp only[hk,if_true];have hx:=h x (by simp)
    exact⟨⟨hx.n0,hx.n1⟩,hx.s1,fun y hy=>h y (by simp[hy]),by simp,fun _=>⟨by trivial,by simp⟩⟩
   ·simp only[hk,if_false];exact⟨Asd,As2,h,Nat.le_refl _,fun e=>(by cases e)⟩
 ·rw[Co rfl];exact⟨Asd,As2,h,Nat.le_refl _,fun e=>(by cases e)⟩
theorem Ayt (l:List Int):Vd (At7 l).root:=by
 unfold At7;cases h:WB l with
 |none=>exact⟨by simp,by simp⟩
 |some k=>exact (Ax9 h).2
theorem Aql {s:RS}(h:LG s.1):okA (RZ s).1∧LG (RZ s).2.1∧(RZ s).2.1.length<=s.1.length∧((RZ s).2.2=false->(RZ s).2.1.length<s.1.length):=by
 obtain⟨_,_,a3,a4,a5⟩:=Dp (k:=5) h;obtain⟨_,b2,b3,b4,b5⟩:=Dp (k:=4) a3;obtain⟨_,_,c3,c4,c5⟩:=Dp (k:=3) b3;unfold RZ;refine⟨⟨Ayt _,b2⟩,c3,by simp only;omega,fun e=>?_⟩
 simp only[Bool.or_eq_false_iff] at e;have:=c5 e.1;simp only;omega
theorem Adj:∀{f:Nat}{n:Int}{s:RS},LG s.1->(∀a∈(Ns f n s).1,okA a)∧(Ns f n s).1.length<=f∧LG (Ns f n s).2.1∧(Ns f n s).2.1.length<=s.1.length
 |0,n,s,h=>⟨fun a ha=>(by cases ha),Nat.le_refl _,h,Nat.le_refl _⟩
 |f+1,n,s,h=>by
  obtain⟨a1,a2,a3,_⟩:=Aql h;obtain⟨b1,b2,b3,b4⟩:=Adj (f:=f) (n:=n-1) a2;unfold Ns;split
  ·refine⟨fun a ha=>?_,by simp only[H5];omega,b3,by simp only;omega⟩
   rcases List.mem_cons.1 ha with rfl|ha
   ·exact a1
   ·exact b1 a ha
  ·exact⟨fun a ha=>(by cases ha),Nat.zero_le _,h,Nat.le_refl _⟩
theorem Ara {s:RS}(h:LG s.1):LG (XL s).2.1∧(XL s).2.1.length<=s.1.length∧((XL s).2.2=false->(XL s).2.1.length<s.1.length):=by
 obtain⟨_,_,a3,a4,a5⟩:=Dp (k:=5) h;obtain⟨_,_,b3,b4,b5⟩:=Dp (k:=1) a3;obtain⟨_,_,c3,c4,c5⟩:=Dp (k:=1) b3;unfold XL;refine⟨c3,by simp only;omega,fun e=>?_⟩
 have:=c5 e;simp only;omega
theorem Ami:∀{f:Nat}{n:Int}{s:RS},LG s.1->(Q6 f n s).1.length<=f∧LG (Q6 f n s).2.1∧(Q6 f n s).2.1.length<=s.1.length
 |0,n,s,h=>⟨Nat.le_refl _,h,Nat.le_refl _⟩
 |f+1,n,s,h=>by
  obtain⟨a2,a3,_⟩:=Ara h;obtain⟨b2,b3,b4⟩:=Ami (f:=f) (n:=n-1) a2;unfold Q6;split
  ·exact⟨by simp only[H5];omega,b3,by simp only;omega⟩
  ·exact⟨Nat.zero_le _,h,Nat.le_refl _⟩
theorem Acy {s:RS}(h:LG s.1)(hl:s.1.length<=1000):okM (Oc s).1∧LG (Oc s).2.1∧(Oc s).2.1.length<=s.1.length∧((Bu 5 s).2.2=false->(Oc s).2.1.length<s.1.length):=by
 obtain⟨_,_,a3,a4,a5⟩:=Dp (k:=5) h;obtain⟨b1,_,b3,b4,b5⟩:=Dp (k:=1) a3;have hA:=Dp (k:=5) b3;have hB:=Adj (f:=s.1.length+2) (n:=(GU s).1.n) (s:=(GU s).2) hA.2.2.1;have hC:=Dp (k:=5) (s:=(EZ s).2) hB.2.2.1;have hD:=Ami (f:=s.1.length+2) (n:=(ED s).1.n) (s:=(ED s).2) hC.2.2.1;have l1:(GU s).2.1.length<=(Bu 5 s).2.1.length:=Nat.le_trans hA.2.2.2.1 b4;have l2:(EZ s).2.1.length<=(GU s).2.1.length:=hB.2.2.2;have l3:(ED s).2.1.length<=(EZ s).2.1.length:=hC.2.2.2.1;have l4:(Ahm s).2.1.length<=(ED s).2.1.length:=hD.2.2;have m1:(EZ s).1.length<=s.1.length+2:=hB.2.1;have m2:(Ahm s).1.length<=s.1.length+2:=hD.1;unfold Oc;refine⟨⟨b1,hB.1,by simp only;omega,by simp only;omega⟩,hD.2.1,by simp only;omega,fun e=>?_⟩
 have:=(a5 e).2;simp only;omega
theorem Atw {s:RS}(h:LG s.1)(hl:s.1.length<=1000):(Oc s).2.2=false->(Oc s).2.1.length<s.1.length:=by
 intro e;by_cases hf:(Bu 5 s).2.2=false
 ·exact (Acy h hl).2.2.2 hf
 ·exfalso;have hf:(Bu 5 s).2.2=true:=by simpa using hf
  have st:∀{k:Int} {q:RS},q.2=true->(Bu k q).2.2=true:=fun {k q} hq=>by unfold Bu;rw[Co hq]
  have h1:(GU s).2.2=true:=st (st hf)
  have h2:(EZ s).2.2=true:=by
   unfold EZ Ns;rw[Bp (by simp[h1])]
   exact h1
  have h3:(ED s).2.2=true:=st h2
  have h4:(Ahm s).2.2=true:=by
   unfold Ahm Q6;rw[Bp (by simp[h3])]
   exact h3
  have:(Oc s).2.2=true:=h4;rw[this] at e;cases e
theorem Aha:∀{f:Nat}{n:Int}{s:RS},LG s.1->s.1.length<=1000->(∀x∈(Iy f n s).1,okM x)∧(Iy f n s).1.length<=f∧LG (Iy f n s).2.1∧(Iy f n s).2.1.length<=s.1.length
 |0,n,s,h,_=>⟨fun a ha=>(by cases ha),Nat.le_refl _,h,Nat.le_refl _⟩
 |f+1,n,s,h,hl=>by
  obtain⟨a1,a2,a3,_⟩:=Acy h hl;obtain⟨b1,b2,b3,b4⟩:=Aha (f:=f) (n:=n-1) a2 (by omega)
  unfold Iy;split
  ·refine⟨fun a ha=>?_,by simp only[H5];omega,b3,by simp only;omega⟩
   rcases List.mem_cons.1 ha with rfl|ha
   ·exact a1
   ·exact b1 a ha
  ·exact⟨fun a ha=>(by cases ha),Nat.zero_le _,h,Nat.le_refl _⟩
theorem Acp {l:List It}(h:LG l)(hl:l.length<=1000):(∀x∈(KK l).1.ents,okM x)∧(KK l).1.ents.length<=1010∧LG (HP l).2.1∧(HP l).2.1.length<=1000∧LG (HE l).2.1∧(HE l).2.1.length<=1000∧LG (GC l).2.1∧(GC l).2.1.length<=1000∧LG (Zx l).2.1∧(Zx l).2.1.length<=l.length:=by
 have h0:=Dp (k:=5) (s:=(l,false)) h;have hA:=Dp (k:=1) h0.2.2.1;have hB:=Dp (k:=1) (s:=(HP l).2) hA.2.2.1;have hC:=Dp (k:=1) (s:=(HE l).2) hB.2.2.1;have hD:=Dp (k:=5) (s:=(GC l).2) hC.2.2.1;have l0:(Bu 5 ((l,false):RS)).2.1.length<=l.length:=h0.2.2.2.1;have l1:(HP l).2.1.length<=(Bu 5 ((l,false):RS)).2.1.length:=hA.2.2.2.1;have l2:(HE l).2.1.length<=(HP l).2.1.length:=hB.2.2.2.1;have l3:(GC l).2.1.length<=(HE l).2.1.length:=hC.2.2.2.1;have l4:(Zx l).2.1.length<=(GC l).2.1.length:=hD.2.2.2.1;have hE:=Aha (f:=l.length+2) (n:=(Zx l).1.n) (s:=(Zx l).2) hD.2.2.1 (by omega)
 exact⟨hE.1,by have:(Aia l).1.length<=l.length+2:=hE.2.1;show (Aia l).1.length<=_;omega,hA.2.2.1,by omega,hB.2.2.1,by omega,hC.2.2.1,by omega,hD.2.2.1,by omega⟩
end
section
open Go.Proofs.Tryz (prog)
open Go.IntKind (wrap)
set_option maxRecDepth 100000
abbrev Oi:FuncId:=104
theorem Yy (fu d:Nat)(Ag:ByteArray)(Ai Ay:Int):Ad C0 prog fu (d+1) Oi [.agg [.sc (.string Ag),.sc (.int .i64 Ai),.sc (.int .u64 Ay)]]=(fun (call:Ah)=>Bm (decide ((↑(ByteArray.size Ag):Int)<1)) (some (A4.mk [.own 3 0 [],.sc (.int .i64 9)] [])) (Bm (decide ((↑(ByteArray.size Ag):Int)>32)) (some (A4.mk [.own 3 0 [],.sc (.int .i64 9)] [])) (Aj (call 126 [.sc (.string Ag)]) fun x1 x2=>Ac x2<|Ab x1 fun x3 x4=>B3 x3 fun x5=>Ac x4<|Bm (!x5) (some (A4.mk [.own 3 0 [],.sc (.int .i64 6)] [])) (Aj (call 129 [.agg [.sc (.int .i64 Ai),.sc (.int .u64 Ay)]]) fun x6 x7=>Ac x7<|Ab x6 fun x8 x9=>F5 1 x8 fun Cy C4=>Ab x9 fun D1 Ed=>Ae .i64 D1 fun Dn=>Ac Ed<|Bm (Dn != 0) (some (A4.mk [.own 3 0 [],.sc (.int .i64 Dn)] [])) (Aj (call 130 [.sc (.string Ag)]) fun Eg Ez=>Ac Ez<|Ab Eg fun Fq F9=>F5 3 Fq fun Fp F2=>Ac F9<|Aw (decide (0+Cy*1<=C4.length))<|Aj (call 131 [.lst false 1 Cy (List.take (Cy*1) (List.drop 0 C4))]) fun Iw Hl=>Ac Hl<|Ab Iw fun H3 E5=>F5 3 H3 fun Ep G2=>Ac E5<|Aw (decide (0+Fp*3<=F2.length))<|Aw (decide (0+Ep*3<=G2.length))<|Aj (call 63 [.lst false 1 2 [.lst false 3 Fp (List.take (Fp*3) (List.drop 0 F2)),.lst false 3 Ep (List.take (Ep*3) (List.drop 0 G2))]]) fun I1 Gs=>Ac Gs<|Ab I1 fun Ml L5=>F5 3 Ml fun J6 Le=>Ab L5 fun Mc Nh=>Ae .i64 Mc fun Nw=>Ac Nh<|Aw (decide (J6*3<=Le.length))<|some (A4.mk [.own 3 J6 (List.take (J6*3) Le),.sc (.int .i64 Nw)] [])))))) (Ad C0 prog fu d):=by kernel_rfl
abbrev O4:FuncId:=62
noncomputable def He (fu:Nat)(call:Ah)(Ag:Int)(Br:Nat)(Ai:List PV)(Bf:Nat)(Ay:List PV)(nn y0 y1:Nat)(y2:List PV)(y3 y4 y5:Int)(y6:Nat)(y7:List PV)(y8:Nat)(y9 y10:List PV):Option A4:=Dd CB prog fu call 62 Tryz.f62 (B9 Tryz.f62) [.agg [.sc (.int .u64 Ag),.lst false 3 Br Ai,.lst false 2 Bf Ay]] [.r,.r,.r,.l,.r,.l] nn ⟨lk [(1,(.ptr 1 0)),(4,(.view 4 1 0 y0)),(27,(.lst false 3 y1 y2)),(28,(.sc (.int .i64 y3))),(29,(.sc (.int .i64 y4)))],B7 [(1,(.st [(.sc (.int .u64 y5)),(.lst false 3 y6 y7),(.lst false 2 y8 y9)])),(4,(.ar false y10))]⟩
noncomputable def Fw (fu:Nat)(call:Ah)(Ag:Int)(Br:Nat)(Ai:List PV)(Bf:Nat)(Ay:List PV)(nn y0:Nat)(y1 y2:Nat)(y3:List PV)(y4 y5 y6:Int)(y7:Nat)(y8:List PV)(y9:Nat)(y10 Er F1:List PV):Option A4:=Dd CB prog fu call 62 Tryz.f62 (B9 Tryz.f62) [.agg [.sc (.int .u64 Ag),.lst false 3 Br Ai,.lst false 2 Bf Ay]] [.r,.r,.r,.r,.r,.r,.r,.l,.r,.l] nn ⟨lk [(1,(.ptr 1 0)),(4,(.view 4 1 0 y0)),(9,(.view 9 3 0 y1)),(55,(.lst false 2 y2 y3)),(56,(.sc (.int .i64 y4))),(57,(.sc (.int .i64 y5)))],B7 [(1,(.st [(.sc (.int .u64 y6)),(.lst false 3 y7 y8),(.lst false 2 y9 y10)])),(4,(.ar false Er)),(9,(.ar false F1))]⟩
noncomputable def N7 (fu:Nat)(call:Ah)(Ag:Int)(Br:Nat)(Ai:List PV)(Bf:Nat)(Ay:List PV)(m0 nn:Nat)(y0 y1:Nat)(y2:Int)(y3:Nat)(y4:List PV)(y5 y6 y7:Int)(y8:Nat)(y9:List PV)(y10:Nat)(Er F1 H1:List PV)(Lr Ks:Int):Option A4:=Dd CB prog fu call 62 Tryz.f62 (B9 Tryz.f62) [.agg [.sc (.int .u64 Ag),.lst false 3 Br Ai,.lst false 2 Bf Ay]] [.r,.r,.r,.r,.r,.r,.r,.l,.r,.l,.i m0,.r,.r,.l,.l,.r] nn ⟨lk [(1,(.ptr 1 0)),(4,(.view 4 1 0 y0)),(9,(.view 9 3 0 y1)),(11,(.sc (.int .i64 y2))),(12,(.ptr 12 0)),(55,(.lst false 2 y3 y4)),(56,(.sc (.int .i64 y5))),(57,(.sc (.int .i64 y6)))],B7 [(1,(.st [(.sc (.int .u64 y7)),(.lst false 3 y8 y9),(.lst false 2 y10 Er)])),(4,(.ar false F1)),(9,(.ar false H1)),(12,(.st [(.sc (.int .i64 Lr)),(.sc (.int .i64 Ks))]))]⟩
theorem Iq (fu:Nat)(call:Ah)(Ag:Int)(Br:Nat)(Ai:List PV)(Bf:Nat)(Ay:List PV)(nn y0 y1:Nat)(y2:List PV)(y3 y4 y5:Int)(y6:Nat)(y7:List PV)(y8:Nat)(y9 y10:List PV):He fu call Ag Br Ai Bf Ay (nn+1) y0 y1 y2 y3 y4 y5 y6 y7 y8 y9 y10=(Bm (decide (y4<y3)) (Aw (decide (0<=y4)&&decide (y4<(↑y1:Int)))<|Fk (List.getD y2 (Int.toNat y4*3) .top) fun x1=>Ae .i64 (List.getD y2 (Int.toNat y4*3+1) .top) fun x2=>Ae .u64 (List.getD y2 (Int.toNat y4*3+1+1) .top) fun x3=>Aj (call 104 [.agg [.sc (.string x1),.sc (.int .i64 x2),.sc (.int .u64 x3)]]) fun x4 x5=>Ac x5<|Ab x4 fun x6 x7=>F5 3 x6 fun x8 x9=>Ab x7 fun Cy C4=>Ae .i64 Cy fun D1=>Ac C4<|Bm (D1 != 0) (some (A4.mk [.own 3 0 [],.sc (.int .i64 D1)] [])) (Aw (decide (0+x8*3<=x9.length))<|Aw (decide (y0*1<=y10.length)&&true&&decide ((y0+1)*24<=1099511627776)&&decide (y0+1<=1099511627776))<|Aa (y0+1) fun Ed=>Aa (List.take (y0*1) y10++[.lst false 3 x8 (List.take (x8*3) (List.drop 0 x9))]) fun Dn=>Aa (wrap .i64 (y4+1)) fun Eg=>He fu call Ag Br Ai Bf Ay (nn) Ed (y1) (y2) (y3) Eg (y5) (y6) (y7) (y8) (y9) Dn)) (Aw (decide (0+y0*1<=y10.length))<|Aj (call 63 [.lst false 1 y0 (List.take (y0*1) (List.drop 0 y10))]) fun Ez Fq=>Ac Fq<|Ab Ez fun F9 Fp=>F5 3 F9 fun F2 Iw=>Ab Fp fun Hl H3=>Ae .i64 Hl fun E5=>Ac H3<|Bm (E5 != 0) (some (A4.mk [.own 3 0 [],.sc (.int .i64 E5)] [])) (Fw fu call Ag Br Ai Bf Ay (fu) 0 F2 (y8) (y9) ((↑y8:Int)) 0 (y5) (y6) (y7) (y8) (y9) ([]) Iw))):=by kernel_rfl
theorem D9 (fu:Nat)(call:Ah)(Ag:Int)(Br:Nat)(Ai:List PV)(Bf:Nat)(Ay:List PV)(nn y0:Nat)(y1 y2:Nat)(y3:List PV)(y4 y5 y6:Int)(y7:Nat)(y8:List PV)(y9:Nat)(y10 Er F1:List PV):Fw fu call Ag Br Ai Bf Ay (nn+1) y0 y1 y2 y3 y4 y5 y6 y7 y8 y9 y10 Er F1=(Bm (decide (y5<y4)) (Aw (decide (0<=y5)&&decide (y5<(↑y2:Int)))<|Ae .i64 (List.getD y3 (Int.toNat y5*2) .top) fun Ep=>Ae .i64 (List.getD y3 (Int.toNat y5*2+1) .top) fun G2=>Bm (decide (Ep<1)) (some (A4.mk [.own 3 0 [],.sc (.int .i64 9)] [])) (Bm (decide (Ep>4)) (some (A4.mk [.own 3 0 [],.sc (.int .i64 9)] [])) (Bm (decide (G2<0)) (some (A4.mk [.own 3 0 [],.sc (.int .i64 9)] [])) (Bm (decide (G2>1099511627776)) (some (A4.mk [.own 3 0 [],.sc (.int .i64 9)] [])) (N7 fu call Ag Br Ai Bf Ay nn (fu) (y0) (y1) (y5) (y2) (y3) (y4) (y5) (y6) (y7) (y8) (y9) (y10) (Er) (F1) Ep G2))))) (Aw (decide (0+y0*1<=Er.length))<|Aj (call 63 [.lst false 1 y0 (List.take (y0*1) (List.drop 0 Er))]) fun I1 Gs=>Ac Gs<|Ab I1 fun Ml L5=>F5 3 Ml fun J6 Le=>Ab L5 fun Mc Nh=>Ae .i64 Mc fun Nw=>Ac Nh<|Bm (Nw != 0) (some (A4.mk [.own 3 0 [],.sc (.int .i64 Nw)] [])) (Aj (call 64 [.sc (.int .u64 y6)]) fun Qa Sb=>Ac Sb<|Ab Qa fun Ip Lf=>F5 3 Ip fun Rj V9=>Ac Lf<|Aw (decide (0+Rj*3<=V9.length))<|Aw (decide (0+y1*3<=F1.length))<|Aw (decide (0+J6*3<=Le.length))<|Aj (call 63 [.lst false 1 3 [.lst false 3 Rj (List.take (Rj*3) (List.drop 0 V9)),.lst false 3 y1 (List.take (y1*3) (List.drop 0 F1)),.lst false 3 J6 (List.take (J6*3) (List.drop 0 Le))]]) fun Rb Zb=>Ac Zb<|Ab Rb fun Za Wc=>F5 3 Za fun Wa Wt=>Ab Wc fun Xr Xi=>Ae .i64 Xr fun Ze=>Ac Xi<|Aw (decide (Wa*3<=Wt.length))<|some (A4.mk [.own 3 Wa (List.take (Wa*3) Wt),.sc (.int .i64 Ze)] [])))):=by kernel_rfl
theorem Iu (fu:Nat)(call:Ah)(Ag:Int)(Br:Nat)(Ai:List PV)(Bf:Nat)(Ay:List PV)(m0 nn:Nat)(O6:0<nn)(y0 y1:Nat)(y2:Int)(y3:Nat)(y4:List PV)(y5 y6 y7:Int)(y8:Nat)(y9:List PV)(y10:Nat)(Er F1 H1:List PV)(Lr Ks:Int):N7 fu call Ag Br Ai Bf Ay m0 nn y0 y1 y2 y3 y4 y5 y6 y7 y8 y9 y10 Er F1 H1 Lr Ks=(Bm (decide (y2>0)) (Aa (wrap .i64 (y2-1)) fun Y8=>Aw (decide (0<=Y8)&&decide (Y8<(↑y10:Int)))<|Ae .i64 (List.getD Er (Int.toNat Y8*2+1) .top) fun Xz=>Bm (decide (Ks<=Xz)) (some (A4.mk [.own 3 0 [],.sc (.int .i64 7)] [])) (Aa (wrap .u64 Lr) fun AN=>Aj (call 64 [.sc (.int .u64 AN)]) fun AG Yd=>Ac Yd<|Ab AG fun Zq AJ=>F5 3 Zq fun Yz CJ=>Ac AJ<|Aa (wrap .u64 Ks) fun AB=>Aj (call 64 [.sc (.int .u64 AB)]) fun AF DT=>Ac DT<|Ab AF fun AC Zn=>F5 3 AC fun Y5 Wd=>Ac Zn<|Aw (decide (0+Yz*3<=CJ.length))<|Aw (decide (0+Y5*3<=Wd.length))<|Aj (call 63 [.lst false 1 2 [.lst false 3 Yz (List.take (Yz*3) (List.drop 0 CJ)),.lst false 3 Y5 (List.take (Y5*3) (List.drop 0 Wd))]]) fun AM DF=>Ac DF<|Ab AM fun AD CW=>F5 3 AD fun AL CF=>Ab CW fun ET Zu=>Ae .i64 ET fun EQ=>Ac Zu<|Bm (EQ != 0) (some (A4.mk [.own 3 0 [],.sc (.int .i64 EQ)] [])) (Aw (decide (0+AL*3<=CF.length))<|Aw (decide (y0*1<=F1.length)&&true&&decide ((y0+1)*24<=1099511627776)&&decide (y0+1<=1099511627776))<|Aa (y0+1) fun IH=>Aa (List.take (y0*1) F1++[.lst false 3 AL (List.take (AL*3) (List.drop 0 CF))]) fun AH=>Aa (wrap .i64 (y6+1)) fun GO=>Fw fu call Ag Br Ai Bf Ay (m0) IH (y1) (y3) (y4) (y5) GO (y7) (y8) (y9) (y10) (Er) AH (H1)))) (Aa (wrap .u64 Lr) fun JJ=>Aj (call 64 [.sc (.int .u64 JJ)]) fun GB JS=>Ac JS<|Ab GB fun PD XF=>F5 3 PD fun OV UA=>Ac XF<|Aa (wrap .u64 Ks) fun SF=>Aj (call 64 [.sc (.int .u64 SF)]) fun RC QT=>Ac QT<|Ab RC fun IG RP=>F5 3 IG fun QY YW=>Ac RP<|Aw (decide (0+OV*3<=UA.length))<|Aw (decide (0+QY*3<=YW.length))<|Aj (call 63 [.lst false 1 2 [.lst false 3 OV (List.take (OV*3) (List.drop 0 UA)),.lst false 3 QY (List.take (QY*3) (List.drop 0 YW))]]) fun LX XG=>Ac XG<|Ab LX fun x95 YG=>F5 3 x95 fun ND LU=>Ab YG fun XD Vs=>Ae .i64 XD fun Vt=>Ac Vs<|Bm (Vt != 0) (some (A4.mk [.own 3 0 [],.sc (.int .i64 Vt)] [])) (Aw (decide (0+ND*3<=LU.length))<|Aw (decide (y0*1<=F1.length)&&true&&decide ((y0+1)*24<=1099511627776)&&decide (y0+1<=1099511627776))<|Aa (y0+1) fun Jg=>Aa (List.take (y0*1) F1++[.lst false 3 ND (List.take (ND*3) (List.drop 0 LU))]) fun Lm=>Aa (wrap .i64 (y6+1)) fun Uk=>Fw fu call Ag Br Ai Bf Ay (m0) Jg (y1) (y3) (y4) (y5) Uk (y7) (y8) (y9) (y10) (Er) Lm (H1)))):=by cases nn with|zero=>exact absurd O6 (Nat.lt_irrefl 0)|succ nn=>kernel_rfl
theorem Zz (fu d:Nat)(Ag:Int)(Br:Nat)(Ai:List PV)(Bf:Nat)(Ay:List PV):Ad C0 prog fu (d+1) O4 [.agg [.sc (.int .u64 Ag),.lst false 3 Br Ai,.lst false 2 Bf Ay]]=(fun (call:Ah)=>Bm (decide ((↑Br:Int)>4)) (some (A4.mk [.own 3 0 [],.sc (.int .i64 8)] [])) (Bm (decide ((↑Bf:Int)>4)) (some (A4.mk [.own 3 0 [],.sc (.int .i64 8)] [])) (He fu call Ag Br Ai Bf Ay (fu) 0 (Br) (Ai) ((↑Br:Int)) 0 (Ag) (Br) (Ai) (Bf) (Ay) ([])))) (Ad C0 prog fu d):=by kernel_rfl
abbrev Zm:FuncId:=34
noncomputable def Jb (fu:Nat)(call:Ah)(Ag Ai Ay:Int)(Bi:Nat)(Bv:List PV)(Cf:Int)(Bk:Nat)(Cj:List PV)(Bn:Nat)(Ci:List PV)(nn y0 y1:Nat)(y2:List PV)(y3 y4:Int)(y5 y6 y7:Int)(y8:Nat)(y9:List PV)(y10:Int)(Er:Nat)(F1:List PV)(H1:Nat)(Lr Ks:List PV):Option A4:=Dd CB prog fu call 34 Tryz.f34 (B9 Tryz.f34) [.agg [.sc (.int .i64 Ag),.sc (.int .i64 Ai),.sc (.int .i64 Ay),.lst false 3 Bi Bv,.sc (.int .i64 Cf),.lst false 1 Bk Cj,.lst false 1 Bn Ci]] [.r,.r,.r,.r,.r,.l,.r,.l] nn ⟨lk [(1,(.ptr 1 0)),(4,(.view 4 1 0 y0)),(40,(.lst false 3 y1 y2)),(41,(.sc (.int .i64 y3))),(42,(.sc (.int .i64 y4)))],B7 [(1,(.st [(.sc (.int .i64 y5)),(.sc (.int .i64 y6)),(.sc (.int .i64 y7)),(.lst false 3 y8 y9),(.sc (.int .i64 y10)),(.lst false 1 Er F1),(.lst false 1 H1 Lr)])),(4,(.ar false Ks))]⟩
theorem S4 (fu:Nat)(call:Ah)(Ag Ai Ay:Int)(Bi:Nat)(Bv:List PV)(Cf:Int)(Bk:Nat)(Cj:List PV)(Bn:Nat)(Ci:List PV)(nn y0 y1:Nat)(y2:List PV)(y3 y4:Int)(y5 y6 y7:Int)(y8:Nat)(y9:List PV)(y10:Int)(Er:Nat)(F1:List PV)(H1:Nat)(Lr Ks:List PV):Jb fu call Ag Ai Ay Bi Bv Cf Bk Cj Bn Ci (nn+1) y0 y1 y2 y3 y4 y5 y6 y7 y8 y9 y10 Er F1 H1 Lr Ks=(Bm (decide (y4<y3)) (Aw (decide (0<=y4)&&decide (y4<(↑y1:Int)))<|Ae .u64 (List.getD y2 (Int.toNat y4*3) .top) fun x1=>Fa 3 (List.getD y2 (Int.toNat y4*3+1) .top) fun x2 x3 x4=>Fa 2 (List.getD y2 (Int.toNat y4*3+1+1) .top) fun x5 x6 x7=>Bm (decide (y4>0)) (Aa (wrap .i64 (y4-1)) fun x8=>Aw (decide (0<=x8)&&decide (x8<(↑y8:Int)))<|Ae .u64 (List.getD y9 (Int.toNat x8*3+0) .top) fun x9=>Bm (decide (x1<=x9)) (some (A4.mk [.own 1 0 [],.sc (.int .i64 7)] [])) (Aj (call 62 [.agg [.sc (.int .u64 x1),.lst false 3 x3 x4,.lst false 2 x6 x7]]) fun Cy C4=>Ac C4<|Ab Cy fun D1 Ed=>F5 3 D1 fun Dn Eg=>Ab Ed fun Ez Fq=>Ae .i64 Ez fun F9=>Ac Fq<|Bm (F9 != 0) (some (A4.mk [.own 1 0 [],.sc (.int .i64 F9)] [])) (Aw (decide (0+Dn*3<=Eg.length))<|Aw (decide (y0*1<=Ks.length)&&true&&decide ((y0+1)*24<=1099511627776)&&decide (y0+1<=1099511627776))<|Aa (y0+1) fun Fp=>Aa (List.take (y0*1) Ks++[.lst false 3 Dn (List.take (Dn*3) (List.drop 0 Eg))]) fun F2=>Aa (wrap .i64 (y4+1)) fun Iw=>Jb fu call Ag Ai Ay Bi Bv Cf Bk Cj Bn Ci (nn) Fp (y1) (y2) (y3) Iw (y5) (y6) (y7) (y8) (y9) (y10) (Er) (F1) (H1) (Lr) F2))) (Aj (call 62 [.agg [.sc (.int .u64 x1),.lst false 3 x3 x4,.lst false 2 x6 x7]]) fun Hl H3=>Ac H3<|Ab Hl fun E5 Ep=>F5 3 E5 fun G2 I1=>Ab Ep fun Gs Ml=>Ae .i64 Gs fun L5=>Ac Ml<|Bm (L5 != 0) (some (A4.mk [.own 1 0 [],.sc (.int .i64 L5)] [])) (Aw (decide (0+G2*3<=I1.length))<|Aw (decide (y0*1<=Ks.length)&&true&&decide ((y0+1)*24<=1099511627776)&&decide (y0+1<=1099511627776))<|Aa (y0+1) fun J6=>Aa (List.take (y0*1) Ks++[.lst false 3 G2 (List.take (G2*3) (List.drop 0 I1))]) fun Le=>Aa (wrap .i64 (y4+1)) fun Mc=>Jb fu call Ag Ai Ay Bi Bv Cf Bk Cj Bn Ci (nn) J6 (y1) (y2) (y3) Mc (y5) (y6) (y7) (y8) (y9) (y10) (Er) (F1) (H1) (Lr) Le))) (Aw (decide (0+y0*1<=Ks.length))<|Aj (call 63 [.lst false 1 y0 (List.take (y0*1) (List.drop 0 Ks))]) fun Nh Nw=>Ac Nw<|Ab Nh fun Qa Sb=>F5 3 Qa fun Ip Lf=>Ab Sb fun Rj V9=>Ae .i64 Rj fun Rb=>Ac V9<|Bm (Rb != 0) (some (A4.mk [.own 1 0 [],.sc (.int .i64 Rb)] [])) (Aa (wrap .u64 y5) fun Zb=>Aj (call 64 [.sc (.int .u64 Zb)]) fun Za Wc=>Ac Wc<|Ab Za fun Wa Wt=>F5 3 Wa fun Xr Xi=>Ac Wt<|Aa (wrap .u64 y6) fun Ze=>Aj (call 64 [.sc (.int .u64 Ze)]) fun Y8 Xz=>Ac Xz<|Ab Y8 fun AN AG=>F5 3 AN fun Yd Zq=>Ac AG<|Aa (wrap .u64 y7) fun AJ=>Aj (call 64 [.sc (.int .u64 AJ)]) fun Yz CJ=>Ac CJ<|Ab Yz fun AB AF=>F5 3 AB fun DT AC=>Ac AF<|Aw (decide (0+Xr*3<=Xi.length))<|Aw (decide (0+Yd*3<=Zq.length))<|Aw (decide (0+DT*3<=AC.length))<|Aw (decide (0+Ip*3<=Lf.length))<|Aj (call 63 [.lst false 1 4 [.lst false 3 Xr (List.take (Xr*3) (List.drop 0 Xi)),.lst false 3 Yd (List.take (Yd*3) (List.drop 0 Zq)),.lst false 3 DT (List.take (DT*3) (List.drop 0 AC)),.lst false 3 Ip (List.take (Ip*3) (List.drop 0 Lf))]]) fun Zn Y5=>Ac Y5<|Ab Zn fun Wd AM=>F5 3 Wd fun DF AD=>Ab AM fun CW AL=>Ae .i64 CW fun CF=>Ac AL<|Bm (CF != 0) (some (A4.mk [.own 1 0 [],.sc (.int .i64 CF)] [])) (Aw (decide (0+DF*3<=AD.length))<|Aj (call 65 [.lst false 3 DF (List.take (DF*3) (List.drop 0 AD))]) fun ET Zu=>Ac Zu<|Ab ET fun EQ IH=>F5 1 EQ fun AH GO=>Ab IH fun JJ GB=>Ae .i64 JJ fun JS=>Ac GB<|Aw (decide (AH*1<=GO.length))<|some (A4.mk [.own 1 AH (List.take (AH*1) GO),.sc (.int .i64 JS)] []))))):=by kernel_rfl
theorem QW (fu d:Nat)(Ag Ai Ay:Int)(Bi:Nat)(Bv:List PV)(Cf:Int)(Bk:Nat)(Cj:List PV)(Bn:Nat)(Ci:List PV):Ad C0 prog fu (d+1) Zm [.agg [.sc (.int .i64 Ag),.sc (.int .i64 Ai),.sc (.int .i64 Ay),.lst false 3 Bi Bv,.sc (.int .i64 Cf),.lst false 1 Bk Cj,.lst false 1 Bn Ci]]=(fun (call:Ah)=>Bm (decide (Ag<1)) (some (A4.mk [.own 1 0 [],.sc (.int .i64 9)] [])) (Bm (decide (Ag>16)) (some (A4.mk [.own 1 0 [],.sc (.int .i64 9)] [])) (Bm (decide (Ai<0)) (some (A4.mk [.own 1 0 [],.sc (.int .i64 9)] [])) (Bm (decide (Ai>Ay)) (some (A4.mk [.own 1 0 [],.sc (.int .i64 9)] [])) (Bm (decide (Ay>1099511627776)) (some (A4.mk [.own 1 0 [],.sc (.int .i64 9)] [])) (Bm (decide ((↑Bi:Int)>16)) (some (A4.mk [.own 1 0 [],.sc (.int .i64 8)] [])) (Jb fu call Ag Ai Ay Bi Bv Cf Bk Cj Bn Ci (fu) 0 (Bi) (Bv) ((↑Bi:Int)) 0 (Ag) (Ai) (Ay) (Bi) (Bv) (Cf) (Bk) (Cj) (Bn) (Ci) ([])))))))) (Ad C0 prog fu d):=by kernel_rfl
abbrev Zk:FuncId:=35
theorem QK (fu d:Nat)(Ag Ai Ay:Int)(Bi:Nat)(Bv:List PV)(Cf:Int)(Bk:Nat)(Cj:List PV)(Bn:Nat)(Ci:List PV):Ad C0 prog fu (d+1) Zk [.agg [.sc (.int .i64 Ag),.sc (.int .i64 Ai),.sc (.int .i64 Ay),.lst false 3 Bi Bv,.sc (.int .i64 Cf),.lst false 1 Bk Cj,.lst false 1 Bn Ci]]=(fun (call:Ah)=>Aj (call 34 [.agg [.sc (.int .i64 Ag),.sc (.int .i64 Ai),.sc (.int .i64 Ay),.lst false 3 Bi Bv,.sc (.int .i64 Cf),.lst false 1 Bk Cj,.lst false 1 Bn Ci]]) fun x1 x2=>Ac x2<|Ab x1 fun x3 x4=>F5 1 x3 fun x5 x6=>Ab x4 fun x7 x8=>Ae .i64 x7 fun x9=>Ac x8<|Bm (x9 != 0) (some (A4.mk [.sc (.int .u64 0),.sc (.int .i64 x9)] [])) (Aw (decide (0+x5*1<=x6.length))<|Aj (call 66 [.sc (.int .i64 15),.lst false 1 x5 (List.take (x5*1) (List.drop 0 x6))]) fun Cy C4=>Ac C4<|Ab Cy fun D1 Ed=>Ae .u64 D1 fun Dn=>Ac Ed<|some (A4.mk [.sc (.int .u64 Dn),.sc (.int .i64 0)] []))) (Ad C0 prog fu d):=by kernel_rfl
abbrev Uz:FuncId:=19
theorem KD (fu d:Nat)(Ag Ai Ay:Int)(Bi:Nat)(Bv:List PV)(Cf:Int)(Bk:Nat)(Cj:List PV)(Bn:Nat)(Ci:List PV)(Cr Cs:Int):Ad C0 prog fu (d+1) Uz [.agg [.sc (.int .i64 Ag),.sc (.int .i64 Ai),.sc (.int .i64 Ay),.lst false 3 Bi Bv,.sc (.int .i64 Cf),.lst false 1 Bk Cj,.lst false 1 Bn Ci],.agg [.sc (.int .i64 Cr),.sc (.int .u64 Cs)]]=(fun (call:Ah)=>Aj (call 35 [.agg [.sc (.int .i64 Ag),.sc (.int .i64 Ai),.sc (.int .i64 Ay),.lst false 3 Bi Bv,.sc (.int .i64 Cf),.lst false 1 Bk Cj,.lst false 1 Bn Ci]]) fun x1 x2=>Ac x2<|Ab x1 fun x3 x4=>Ae .u64 x3 fun x5=>Ab x4 fun x6 x7=>Ae .i64 x6 fun x8=>Ac x7<|Bm (x8 != 0) (some (A4.mk [.sc (.int .i64 x8)] [])) (Aa (wrap .i64 (Ag-1)) fun x9=>Bm (Cf != x9) (some (A4.mk [.sc (.int .i64 33)] [])) (Aj (call 40 [.agg [.sc (.int .i64 Cr),.sc (.int .u64 Cs)],.sc (.int .u64 x5),.agg [.sc (.int .i64 Cf),.lst false 1 Bk Cj,.lst false 1 Bn Ci]]) fun Cy C4=>Ac C4<|Ab Cy fun D1 Ed=>Ae .i64 D1 fun Dn=>Ac Ed<|some (A4.mk [.sc (.int .i64 Dn)] [])))) (Ad C0 prog fu d):=by kernel_rfl
abbrev Ux:FuncId:=25
theorem JW (fu d:Nat)(Ag Ai Ay:Int)(Bi:Nat)(Bv:List PV)(Cf:Int)(Bk:Nat)(Cj:List PV)(Bn:Nat)(Ci:List PV):Ad C0 prog fu (d+1) Ux [.agg [.sc (.int .i64 Ag),.sc (.int .i64 Ai),.sc (.int .i64 Ay),.lst false 3 Bi Bv,.sc (.int .i64 Cf),.lst false 1 Bk Cj,.lst false 1 Bn Ci]]=(fun (call:Ah)=>Aj (call 34 [.agg [.sc (.int .i64 Ag),.sc (.int .i64 Ai),.sc (.int .i64 Ay),.lst false 3 Bi Bv,.sc (.int .i64 Cf),.lst false 1 Bk Cj,.lst false 1 Bn Ci]]) fun x1 x2=>Ac x2<|Ab x1 fun x3 x4=>F5 1 x3 fun x5 x6=>Ab x4 fun x7 x8=>Ae .i64 x7 fun x9=>Ac x8<|Bm (x9 != 0) (some (A4.mk [.own 1 0 [],.sc (.int .i64 x9)] [])) (Aj (call 46 [.agg [.sc (.int .i64 Cf),.lst false 1 Bk Cj,.lst false 1 Bn Ci]]) fun Cy C4=>Ac C4<|Ab Cy fun D1 Ed=>F5 1 D1 fun Dn Eg=>Ab Ed fun Ez Fq=>Ae .i64 Ez fun F9=>Ac Fq<|Bm (F9 != 0) (some (A4.mk [.own 1 0 [],.sc (.int .i64 F9)] [])) (Aw (decide (0+Dn*1<=Eg.length))<|Aw (decide (x5*1<=x6.length)&&decide (List.length (List.take (Dn*1) (List.drop 0 Eg))=Dn*1)&&decide ((x5+Dn)*1<=1099511627776)&&decide (x5+Dn<=1099511627776))<|Aa (x5+Dn) fun Fp=>Aa (List.take (x5*1) x6++List.take (Dn*1) (List.drop 0 Eg)) fun F2=>Aw (decide (Fp*1<=F2.length))<|some (A4.mk [.own 1 Fp (List.take (Fp*1) F2),.sc (.int .i64 0)] [])))) (Ad C0 prog fu d):=by kernel_rfl
abbrev Rg:FuncId:=16
noncomputable def Lt (fu:Nat)(call:Ah)(Ag Ai Ay:Int)(Bi:Nat)(Bv:List PV)(Cf:Int)(Bk:Nat)(Cj:List PV)(Bn:Nat)(Ci:List PV)(a1 a2:Int)(nn y0 y1:Nat)(y2:List PV)(y3 y4:Int)(y5 y6 y7:Int)(y8:Nat)(y9:List PV)(y10:Int)(Er:Nat)(F1:List PV)(H1:Nat)(Lr:List PV)(Ks Nq Lu:Int)(M7:Nat)(Ma:Int)(Kc J5:Nat)(Oy DA y24:List PV)(y25:Int)(WL:Nat)(RY:List PV)(y28:Nat)(y29 y30:List PV):Option A4:=Dd CB prog fu call 16 Tryz.f16 (B9 Tryz.f16) [.agg [.sc (.int .i64 Ag),.sc (.int .i64 Ai),.sc (.int .i64 Ay),.lst false 3 Bi Bv,.sc (.int .i64 Cf),.lst false 1 Bk Cj,.lst false 1 Bn Ci],.sc (.int .u64 a1),.sc (.int .i64 a2)] [.r,.r,.r,.r,.r,.r,.l,.r,.l] nn ⟨lk [(3,(.ptr 3 0)),(6,(.ptr 6 0)),(10,(.ptr 10 0)),(11,(.view 11 3 0 y0)),(42,(.lst false 3 y1 y2)),(43,(.sc (.int .i64 y3))),(44,(.sc (.int .i64 y4)))],B7 [(3,(.st [(.sc (.int .i64 y5)),(.sc (.int .i64 y6)),(.sc (.int .i64 y7)),(.lst false 3 y8 y9),(.sc (.int .i64 y10)),(.lst false 1 Er F1),(.lst false 1 H1 Lr)])),(6,(.st [(.sc (.int .i64 Ks)),(.sc (.int .i64 Nq)),(.sc (.int .i64 Lu)),(.view 242 3 0 M7),(.sc (.int .i64 Ma)),(.view 360 1 0 Kc),(.view 419 1 0 J5)])),(242,(.ar false Oy)),(360,(.ar false DA)),(419,(.ar false y24)),(10,(.st [(.sc (.int .i64 y25)),(.lst false 1 WL RY),(.lst false 1 y28 y29)])),(11,(.ar false y30))]⟩
theorem Th (fu:Nat)(call:Ah)(Ag Ai Ay:Int)(Bi:Nat)(Bv:List PV)(Cf:Int)(Bk:Nat)(Cj:List PV)(Bn:Nat)(Ci:List PV)(a1 a2:Int)(nn y0 y1:Nat)(y2:List PV)(y3 y4:Int)(y5 y6 y7:Int)(y8:Nat)(y9:List PV)(y10:Int)(Er:Nat)(F1:List PV)(H1:Nat)(Lr:List PV)(Ks Nq Lu:Int)(M7:Nat)(Ma:Int)(Kc J5:Nat)(Oy DA y24:List PV)(y25:Int)(WL:Nat)(RY:List PV)(y28:Nat)(y29 y30:List PV):Lt fu call Ag Ai Ay Bi Bv Cf Bk Cj Bn Ci a1 a2 (nn+1) y0 y1 y2 y3 y4 y5 y6 y7 y8 y9 y10 Er F1 H1 Lr Ks Nq Lu M7 Ma Kc J5 Oy DA y24 y25 WL RY y28 y29 y30=(Bm (decide (y4<y3)) (Aw (decide (0<=y4)&&decide (y4<(↑y1:Int)))<|Ae .u64 (List.getD y2 (Int.toNat y4*3) .top) fun J6=>Fa 3 (List.getD y2 (Int.toNat y4*3+1) .top) fun Le Mc Nh=>Fa 2 (List.getD y2 (Int.toNat y4*3+1+1) .top) fun Nw Qa Sb=>Aj (call 37 [.agg [.sc (.int .u64 J6),.lst false 3 Mc Nh,.lst false 2 Qa Sb]]) fun Ip Lf=>Ac Lf<|Ab Ip fun Rj V9=>Ef Rj fun Rb=>Ab Rb fun Zb Za=>Ae .u64 Zb fun Wc=>Ab Za fun Wa Wt=>Fa 3 Wa fun Xr Xi Ze=>Ab Wt fun Y8 Xz=>Fa 2 Y8 fun AN AG Yd=>Ac Xz<|Ac V9<|Aw (decide (y0*3<=y30.length)&&true&&decide ((y0+1)*56<=1099511627776)&&decide (y0+1<=1099511627776))<|Aa (y0+1) fun Zq=>Aa (List.take (y0*3) y30++[.sc (.int .u64 Wc),.lst false 3 Xi Ze,.lst false 2 AG Yd]) fun AJ=>Aa (wrap .i64 (y4+1)) fun Yz=>Lt fu call Ag Ai Ay Bi Bv Cf Bk Cj Bn Ci a1 a2 (nn) Zq (y1) (y2) (y3) Yz (y5) (y6) (y7) (y8) (y9) (y10) (Er) (F1) (H1) (Lr) (Ks) (Nq) (Lu) (M7) (Ma) (Kc) (J5) (Oy) (DA) (y24) (y25) (WL) (RY) (y28) (y29) AJ) (Aw (decide (0+y0*3<=y30.length))<|some (A4.mk [.agg [.sc (.int .i64 y5),.sc (.int .i64 y6),.sc (.int .i64 y7),.lst false 3 y0 (List.take (y0*3) (List.drop 0 y30)),.sc (.int .i64 y25),.lst false 1 WL RY,.lst false 1 y28 y29],.sc (.int .i64 0)] []))):=by kernel_rfl
theorem RB (fu d:Nat)(Ag Ai Ay:Int)(Bi:Nat)(Bv:List PV)(Cf:Int)(Bk:Nat)(Cj:List PV)(Bn:Nat)(Ci:List PV)(a1 a2:Int):Ad C0 prog fu (d+1) Rg [.agg [.sc (.int .i64 Ag),.sc (.int .i64 Ai),.sc (.int .i64 Ay),.lst false 3 Bi Bv,.sc (.int .i64 Cf),.lst false 1 Bk Cj,.lst false 1 Bn Ci],.sc (.int .u64 a1),.sc (.int .i64 a2)]=(fun (call:Ah)=>Aj (call 35 [.agg [.sc (.int .i64 Ag),.sc (.int .i64 Ai),.sc (.int .i64 Ay),.lst false 3 Bi Bv,.sc (.int .i64 Cf),.lst false 1 Bk Cj,.lst false 1 Bn Ci]]) fun x1 x2=>Ac x2<|Ab x1 fun x3 x4=>Ae .u64 x3 fun x5=>Ab x4 fun x6 x7=>Ae .i64 x6 fun x8=>Ac x7<|Bm (x8 != 0) (some (A4.mk [.agg [.sc (.int .i64 0),.sc (.int .i64 0),.sc (.int .i64 0),.lst false 3 0 [],.sc (.int .i64 0),.lst false 1 0 [],.lst false 1 0 []],.sc (.int .i64 x8)] [])) (Aa (wrap .i64 (Ag-1)) fun x9=>Aj (call 36 [.sc (.int .u64 a1),.sc (.int .i64 a2),.sc (.int .i64 x9),.sc (.int .u64 x5)]) fun Cy C4=>Ac C4<|Ab Cy fun D1 Ed=>Ef D1 fun Dn=>Ab Dn fun Eg Ez=>Ae .i64 Eg fun Fq=>Ab Ez fun F9 Fp=>Fa 1 F9 fun F2 Iw Hl=>Ab Fp fun H3 E5=>Fa 1 H3 fun Ep G2 I1=>Ac E5<|Ab Ed fun Gs Ml=>Ae .i64 Gs fun L5=>Ac Ml<|Bm (L5 != 0) (some (A4.mk [.agg [.sc (.int .i64 0),.sc (.int .i64 0),.sc (.int .i64 0),.lst false 3 0 [],.sc (.int .i64 0),.lst false 1 0 [],.lst false 1 0 []],.sc (.int .i64 L5)] [])) (Aw (decide ((↑Bi:Int)*56<=1099511627776)&&decide ((↑Bi:Int)<=1099511627776))<|Lt fu call Ag Ai Ay Bi Bv Cf Bk Cj Bn Ci a1 a2 (fu) 0 (Bi) (Bv) ((↑Bi:Int)) 0 (Ag) (Ai) (Ay) (Bi) (Bv) (Cf) (Bk) (Cj) (Bn) (Ci) 0 0 0 0 0 0 0 ([]) ([]) ([]) Fq Iw Hl G2 I1 ([])))) (Ad C0 prog fu d):=by kernel_rfl
abbrev Ou:FuncId:=124
theorem X6 (fu d Al:Nat)(Ag:List PV)(Ai:Bool)(a1:Int):Ad C0 prog fu (d+1) Ou [.pbox [.lst false 3 Al Ag,.sc (.bool Ai)],.sc (.int .i64 a1)]=(fun (call:Ah)=>Bm (Ai) (some (A4.mk [.agg [.sc (.int .i64 0),.sc (.int .u64 0),.sc (.string (ByteArray.mk #[]))]] [[.lst false 3 Al Ag,.sc (.bool true)]])) (Bm ((↑Al:Int)==0) (some (A4.mk [.agg [.sc (.int .i64 0),.sc (.int .u64 0),.sc (.string (ByteArray.mk #[]))]] [[.lst false 3 Al Ag,.sc (.bool true)]])) (Aw (decide (0<(↑Al:Int)))<|Ae .i64 (List.getD Ag 0 .top) fun x1=>Bm (x1 != a1) (some (A4.mk [.agg [.sc (.int .i64 0),.sc (.int .u64 0),.sc (.string (ByteArray.mk #[]))]] [[.lst false 3 Al Ag,.sc (.bool true)]])) (Aw (decide (0<(↑Al:Int)))<|Ae .i64 (List.getD Ag 0 .top) fun x2=>Ae .u64 (List.getD Ag 1 .top) fun x3=>Fk (List.getD Ag 2 .top) fun x4=>Aw (decide (1<=Al)&&decide (Al<=Al))<|Aa (Al-1) fun x5=>Aa (List.take (x5*3) (List.drop 3 Ag)) fun x6=>some (A4.mk [.agg [.sc (.int .i64 x2),.sc (.int .u64 x3),.sc (.string x4)]] [[.lst false 3 x5 x6,.sc (.bool Ai)]]))))) (Ad C0 prog fu d):=by kernel_rfl
abbrev Mm:FuncId:=90
theorem V3 (fu d Al:Nat)(Ag:List PV)(Ai:Bool):Ad C0 prog fu (d+1) Mm [.pbox [.lst false 3 Al Ag,.sc (.bool Ai)]]=(fun (call:Ah)=>Aj (call 124 [.pbox [.lst false 3 Al Ag,.sc (.bool Ai)],.sc (.int .i64 1)]) fun x1 x2=>Ab x1 fun x3 x4=>Ef x3 fun x5=>Ab x5 fun x6 x7=>Ae .i64 x6 fun x8=>Ab x7 fun x9 Cy=>Ae .u64 x9 fun C4=>Ab Cy fun D1 Ed=>Fk D1 fun Dn=>Ac Ed<|Ac x4<|Ab x2 fun Eg Ez=>Ab Eg fun Fq F9=>Fa 3 Fq fun Fp F2 Iw=>Ab F9 fun Hl H3=>B3 Hl fun E5=>Ac H3<|Ac Ez<|some (A4.mk [.sc (.int .u64 C4)] [[.lst false 3 F2 Iw,.sc (.bool E5)]])) (Ad C0 prog fu d):=by kernel_rfl
abbrev N5:FuncId:=89
theorem Ys (fu d Al:Nat)(Ag:List PV)(Ai:Bool):Ad C0 prog fu (d+1) N5 [.pbox [.lst false 3 Al Ag,.sc (.bool Ai)]]=(fun (call:Ah)=>Aj (call 124 [.pbox [.lst false 3 Al Ag,.sc (.bool Ai)],.sc (.int .i64 5)]) fun x1 x2=>Ab x1 fun x3 x4=>Ef x3 fun x5=>Ab x5 fun x6 x7=>Ae .i64 x6 fun x8=>Ab x7 fun x9 Cy=>Ae .u64 x9 fun C4=>Ab Cy fun D1 Ed=>Fk D1 fun Dn=>Ac Ed<|Ac x4<|Ab x2 fun Eg Ez=>Ab Eg fun Fq F9=>Fa 3 Fq fun Fp F2 Iw=>Ab F9 fun Hl H3=>B3 Hl fun E5=>Ac H3<|Ac Ez<|some (A4.mk [.sc (.int .u64 C4)] [[.lst false 3 F2 Iw,.sc (.bool E5)]])) (Ad C0 prog fu d):=by kernel_rfl
abbrev Km:FuncId:=91
noncomputable def D6 (fu:Nat)(call:Ah)(Al:Nat)(Ag:List PV)(Ai:Bool)(nn:Nat)(y0:Int)(y1:Nat)(y2:List PV)(y3:Bool)(y4:Int)(y5 y6:Nat)(y7 y8:List PV)(y9:Int)(y10 Er:Nat)(F1 H1:List PV):Option A4:=Dd CB prog fu call 91 Tryz.f91 (B9 Tryz.f91) [.pbox [.lst false 3 Al Ag,.sc (.bool Ai)]] [.r,.r,.r,.l,.r,.l] nn ⟨lk [(0,(.ptr 162000 0)),(2,(.ptr 2 0)),(3,(.ptr 3 0)),(4,(.sc (.int .u64 y0)))],B7 [(162000,(.st [(.lst false 3 y1 y2),(.sc (.bool y3))])),(2,(.st [(.sc (.int .u64 y4)),(.view 164 3 0 y5),(.view 245 2 0 y6)])),(164,(.ar false y7)),(245,(.ar false y8)),(3,(.st [(.sc (.int .u64 y9)),(.view 165 3 0 y10),(.view 246 2 0 Er)])),(165,(.ar false F1)),(246,(.ar false H1))]⟩
noncomputable def Df (fu:Nat)(call:Ah)(Al:Nat)(Ag:List PV)(Ai:Bool)(nn:Nat)(y0:Int)(y1:Nat)(y2:List PV)(y3:Bool)(y4:Int)(y5 y6:Nat)(y7 y8:List PV)(y9:Int)(y10 Er:Nat)(F1 H1:List PV):Option A4:=Dd CB prog fu call 91 Tryz.f91 (B9 Tryz.f91) [.pbox [.lst false 3 Al Ag,.sc (.bool Ai)]] [.r,.r,.r,.r,.l,.r,.l] nn ⟨lk [(0,(.ptr 162000 0)),(2,(.ptr 2 0)),(3,(.ptr 3 0)),(8,(.sc (.int .u64 y0)))],B7 [(162000,(.st [(.lst false 3 y1 y2),(.sc (.bool y3))])),(2,(.st [(.sc (.int .u64 y4)),(.view 164 3 0 y5),(.view 245 2 0 y6)])),(164,(.ar false y7)),(245,(.ar false y8)),(3,(.st [(.sc (.int .u64 y9)),(.view 165 3 0 y10),(.view 246 2 0 Er)])),(165,(.ar false F1)),(246,(.ar false H1))]⟩
theorem Pk (fu:Nat)(call:Ah)(Al:Nat)(Ag:List PV)(Ai:Bool)(nn:Nat)(y0:Int)(y1:Nat)(y2:List PV)(y3:Bool)(y4:Int)(y5 y6:Nat)(y7 y8:List PV)(y9:Int)(y10 Er:Nat)(F1 H1:List PV):D6 fu call Al Ag Ai (nn+1) y0 y1 y2 y3 y4 y5 y6 y7 y8 y9 y10 Er F1 H1=(Bm (decide (y0>0)) (Bm (!y3) (Aj (call 89 [.pbox [.lst false 3 y1 y2,.sc (.bool y3)]]) fun Wa Wt=>Ab Wa fun Xr Xi=>Ae .u64 Xr fun Ze=>Ac Xi<|Ab Wt fun Y8 Xz=>Ab Y8 fun AN AG=>Fa 3 AN fun Yd Zq AJ=>Ab AG fun Yz CJ=>B3 Yz fun AB=>Ac CJ<|Ac Xz<|Aj (call 124 [.pbox [.lst false 3 Zq AJ,.sc (.bool AB)],.sc (.int .i64 4)]) fun AF DT=>Ab AF fun AC Zn=>Ef AC fun Y5=>Ab Y5 fun Wd AM=>Ae .i64 Wd fun DF=>Ab AM fun AD CW=>Ae .u64 AD fun AL=>Ab CW fun CF ET=>Fk CF fun Zu=>Ac ET<|Ac Zn<|Ab DT fun EQ IH=>Ab EQ fun AH GO=>Fa 3 AH fun JJ GB JS=>Ab GO fun PD XF=>B3 PD fun OV=>Ac XF<|Ac IH<|Aj (call 124 [.pbox [.lst false 3 GB JS,.sc (.bool OV)],.sc (.int .i64 3)]) fun UA SF=>Ab UA fun RC QT=>Ef RC fun IG=>Ab IG fun RP QY=>Ae .i64 RP fun YW=>Ab QY fun LX XG=>Ae .u64 LX fun x95=>Ab XG fun YG ND=>Fk YG fun LU=>Ac ND<|Ac QT<|Ab SF fun XD Vs=>Ab XD fun Vt Jg=>Fa 3 Vt fun Lm Uk Tb=>Ab Jg fun Sh Nt=>B3 Sh fun X7=>Ac Nt<|Ac Vs<|Aw (decide (ByteArray.size LU<=1099511627776))<|Aw (decide (0+ByteArray.size LU*1<=List.length (Ew LU)))<|Aj (call 125 [.lst false 1 (ByteArray.size LU) (List.take (ByteArray.size LU*1) (List.drop 0 (Ew LU)))]) fun Z8 DB=>Ac DB<|Ab Z8 fun CV I8=>Ef CV fun Mt=>Ab Mt fun EP EO=>Ae .i64 EP fun Yj=>Ab EO fun EJ FH=>Ae .u64 EJ fun BQ=>Ac FH<|Ab I8 fun EK ES=>Ae .i64 EK fun AO=>Ac ES<|Bm (AO != 0) (Aw (decide (y10*3<=F1.length)&&true&&decide ((y10+1)*32<=1099511627776)&&decide (y10+1<=1099511627776))<|Aa (y10+1) fun BV=>Aa (List.take (y10*3) F1++[.sc (.string Zu),.sc (.int .i64 Yj),.sc (.int .u64 BQ)]) fun CZ=>Aa (wrap .u64 (y0-1)) fun FD=>D6 fu call Al Ag Ai (nn) FD Uk Tb (true) (y4) (y5) (y6) (y7) (y8) (y9) BV (Er) CZ (H1)) (Aw (decide (y10*3<=F1.length)&&true&&decide ((y10+1)*32<=1099511627776)&&decide (y10+1<=1099511627776))<|Aa (y10+1) fun CL=>Aa (List.take (y10*3) F1++[.sc (.string Zu),.sc (.int .i64 Yj),.sc (.int .u64 BQ)]) fun HR=>Aa (wrap .u64 (y0-1)) fun RH=>D6 fu call Al Ag Ai (nn) RH Uk Tb X7 (y4) (y5) (y6) (y7) (y8) (y9) CL (Er) HR (H1))) (Aj (call 89 [.pbox [.lst false 3 y1 y2,.sc (.bool y3)]]) fun MH EN=>Ab MH fun ZC QS=>Ae .u64 ZC fun TZ=>Ac QS<|Ab EN fun NM YA=>Ab NM fun WV YZ=>Fa 3 WV fun ZD UP UE=>Ab YZ fun UI WA=>B3 UI fun TY=>Ac WA<|Ac YA<|Df fu call Al Ag Ai (fu) TZ UP UE TY (y4) (y5) (y6) (y7) (y8) (y9) (y10) (Er) (F1) (H1))) (Aj (call 89 [.pbox [.lst false 3 y1 y2,.sc (.bool y3)]]) fun MT QJ=>Ab MT fun VE TQ=>Ae .u64 VE fun WX=>Ac TQ<|Ab QJ fun Ac5 Adm=>Ab Ac5 fun Acu Ac3=>Fa 3 Acu fun Ajj Aoc Ajc=>Ab Ac3 fun Ajo Aei=>B3 Ajo fun Ah7=>Ac Aei<|Ac Adm<|Df fu call Al Ag Ai (fu) WX Aoc Ajc Ah7 (y4) (y5) (y6) (y7) (y8) (y9) (y10) (Er) (F1) (H1))):=by kernel_rfl
theorem Pq (fu:Nat)(call:Ah)(Al:Nat)(Ag:List PV)(Ai:Bool)(nn:Nat)(y0:Int)(y1:Nat)(y2:List PV)(y3:Bool)(y4:Int)(y5 y6:Nat)(y7 y8:List PV)(y9:Int)(y10 Er:Nat)(F1 H1:List PV):Df fu call Al Ag Ai (nn+1) y0 y1 y2 y3 y4 y5 y6 y7 y8 y9 y10 Er F1 H1=(Bm (decide (y0>0)) (Bm (!y3) (Aj (call 89 [.pbox [.lst false 3 y1 y2,.sc (.bool y3)]]) fun Ah8 Aka=>Ab Ah8 fun Akp Aji=>Ae .u64 Akp fun Apa=>Ac Aji<|Ab Aka fun TB Agb=>Ab TB fun Ai1 Aj0=>Fa 3 Ai1 fun Am5 Aos XW=>Ab Aj0 fun YL Ajp=>B3 YL fun Aii=>Ac Ajp<|Ac Agb<|Aj (call 90 [.pbox [.lst false 3 Aos XW,.sc (.bool Aii)]]) fun YM Adi=>Ab YM fun Aht Aiy=>Ae .u64 Aht fun Ajx=>Ac Aiy<|Ab Adi fun Ab1 Atm=>Ab Ab1 fun Auv Avy=>Fa 3 Auv fun Axr Ax0 Aqu=>Ab Avy fun Atf Ato=>B3 Atf fun Asb=>Ac Ato<|Ac Atm<|Aa (wrap .i64 Ajx) fun Arm=>Aj (call 90 [.pbox [.lst false 3 Ax0 Aqu,.sc (.bool Asb)]]) fun Aqf Ati=>Ab Aqf fun Asz Aux=>Ae .u64 Asz fun Aqw=>Ac Aux<|Ab Ati fun Ast Aut=>Ab Ast fun Auf Asm=>Fa 3 Auf fun Awn Aso Awp=>Ab Asm fun At2 Aqs=>B3 At2 fun Atq=>Ac Aqs<|Ac Aut<|Aa (wrap .i64 Aqw) fun Avk=>Aw (decide (Er*2<=H1.length)&&true&&decide ((Er+1)*16<=1099511627776)&&decide (Er+1<=1099511627776))<|Aa (Er+1) fun Avw=>Aa (List.take (Er*2) H1++[.sc (.int .i64 Arm),.sc (.int .i64 Avk)]) fun Ave=>Aa (wrap .u64 (y0-1)) fun Avp=>Df fu call Al Ag Ai (nn) Avp Aso Awp Atq (y4) (y5) (y6) (y7) (y8) (y9) (y10) Avw (F1) Ave) (Aw (decide (0+y10*3<=F1.length))<|Aw (decide (0+Er*2<=H1.length))<|some (A4.mk [.agg [.sc (.int .u64 y9),.lst false 3 y10 (List.take (y10*3) (List.drop 0 F1)),.lst false 2 Er (List.take (Er*2) (List.drop 0 H1))]] [[.lst false 3 y1 y2,.sc (.bool y3)]]))) (Aw (decide (0+y10*3<=F1.length))<|Aw (decide (0+Er*2<=H1.length))<|some (A4.mk [.agg [.sc (.int .u64 y9),.lst false 3 y10 (List.take (y10*3) (List.drop 0 F1)),.lst false 2 Er (List.take (Er*2) (List.drop 0 H1))]] [[.lst false 3 y1 y2,.sc (.bool y3)]]))):=by kernel_rfl
theorem Sf (fu d Al:Nat)(Ag:List PV)(Ai:Bool):Ad C0 prog fu (d+1) Km [.pbox [.lst false 3 Al Ag,.sc (.bool Ai)]]=(fun (call:Ah)=>Aj (call 89 [.pbox [.lst false 3 Al Ag,.sc (.bool Ai)]]) fun x1 x2=>Ab x1 fun x3 x4=>Ae .u64 x3 fun x5=>Ac x4<|Ab x2 fun x6 x7=>Ab x6 fun x8 x9=>Fa 3 x8 fun Cy C4 D1=>Ab x9 fun Ed Dn=>B3 Ed fun Eg=>Ac Dn<|Ac x7<|Aj (call 90 [.pbox [.lst false 3 C4 D1,.sc (.bool Eg)]]) fun Ez Fq=>Ab Ez fun F9 Fp=>Ae .u64 F9 fun F2=>Ac Fp<|Ab Fq fun Iw Hl=>Ab Iw fun H3 E5=>Fa 3 H3 fun Ep G2 I1=>Ab E5 fun Gs Ml=>B3 Gs fun L5=>Ac Ml<|Ac Hl<|Aj (call 89 [.pbox [.lst false 3 G2 I1,.sc (.bool L5)]]) fun J6 Le=>Ab J6 fun Mc Nh=>Ae .u64 Mc fun Nw=>Ac Nh<|Ab Le fun Qa Sb=>Ab Qa fun Ip Lf=>Fa 3 Ip fun Rj V9 Rb=>Ab Lf fun Zb Za=>B3 Zb fun Wc=>Ac Za<|Ac Sb<|D6 fu call Al Ag Ai (fu) Nw V9 Rb Wc 0 0 0 ([]) ([]) F2 0 0 ([]) ([])) (Ad C0 prog fu d):=by kernel_rfl
abbrev Rl:FuncId:=48
noncomputable def Id (fu:Nat)(call:Ah)(Bq:Nat)(a0:List PV)(nn:Nat)(y0 y1:Int)(y2 y3:Int)(y4:Nat)(y5:Int)(y6 y7:Nat)(y8 y9 y10:List PV)(Er:Nat)(F1:List PV)(H1:Bool)(Lr Ks Nq:Int)(Lu:Nat)(M7:Int)(Ma Kc:Nat)(J5 Oy DA:List PV):Option A4:=Dd CB prog fu call 48 Tryz.f48 (B9 Tryz.f48) [.lst false 3 Bq a0] [.r,.r,.r,.r,.l,.r,.l] nn ⟨lk [(2,(.ptr 2 0)),(4,(.ptr 4 0)),(5,(.ptr 5 0)),(6,(.sc (.int .u64 y0)))],B7 [(2,(.st [(.sc (.int .i64 y1)),(.sc (.int .i64 y2)),(.sc (.int .i64 y3)),(.view 226 3 0 y4),(.sc (.int .i64 y5)),(.view 338 1 0 y6),(.view 394 1 0 y7)])),(226,(.ar false y8)),(338,(.ar false y9)),(394,(.ar false y10)),(4,(.st [(.lst false 3 Er F1),(.sc (.bool H1))])),(5,(.st [(.sc (.int .i64 Lr)),(.sc (.int .i64 Ks)),(.sc (.int .i64 Nq)),(.view 229 3 0 Lu),(.sc (.int .i64 M7)),(.view 341 1 0 Ma),(.view 397 1 0 Kc)])),(229,(.ar false J5)),(341,(.ar false Oy)),(397,(.ar false DA))]⟩
theorem Yg (fu:Nat)(call:Ah)(Bq:Nat)(a0:List PV)(nn:Nat)(y0 y1:Int)(y2 y3:Int)(y4:Nat)(y5:Int)(y6 y7:Nat)(y8 y9 y10:List PV)(Er:Nat)(F1:List PV)(H1:Bool)(Lr Ks Nq:Int)(Lu:Nat)(M7:Int)(Ma Kc:Nat)(J5 Oy DA:List PV):Id fu call Bq a0 (nn+1) y0 y1 y2 y3 y4 y5 y6 y7 y8 y9 y10 Er F1 H1 Lr Ks Nq Lu M7 Ma Kc J5 Oy DA=(Bm (decide (y0>0)) (Bm (!H1) (Aj (call 91 [.pbox [.lst false 3 Er F1,.sc (.bool H1)]]) fun JJ GB=>Ab JJ fun JS PD=>Ef JS fun XF=>Ab XF fun OV UA=>Ae .u64 OV fun SF=>Ab UA fun RC QT=>Fa 3 RC fun IG RP QY=>Ab QT fun YW LX=>Fa 2 YW fun XG x95 YG=>Ac LX<|Ac PD<|Ab GB fun ND LU=>Ab ND fun XD Vs=>Fa 3 XD fun Vt Jg Lm=>Ab Vs fun Uk Tb=>B3 Uk fun Sh=>Ac Tb<|Ac LU<|Aw (decide (Lu*3<=J5.length)&&true&&decide ((Lu+1)*56<=1099511627776)&&decide (Lu+1<=1099511627776))<|Aa (Lu+1) fun Nt=>Aa (List.take (Lu*3) J5++[.sc (.int .u64 SF),.lst false 3 RP QY,.lst false 2 x95 YG]) fun X7=>Aa (wrap .u64 (y0-1)) fun Z8=>Id fu call Bq a0 (nn) Z8 (y1) (y2) (y3) (y4) (y5) (y6) (y7) (y8) (y9) (y10) Jg Lm Sh (Lr) (Ks) (Nq) Nt (M7) (Ma) (Kc) X7 (Oy) (DA)) (Bm (!H1) (Aw (decide (0+Lu*3<=J5.length))<|Aw (decide (0+Ma*1<=Oy.length))<|Aw (decide (0+Kc*1<=DA.length))<|some (A4.mk [.agg [.sc (.int .i64 Lr),.sc (.int .i64 Ks),.sc (.int .i64 Nq),.lst false 3 Lu (List.take (Lu*3) (List.drop 0 J5)),.sc (.int .i64 M7),.lst false 1 Ma (List.take (Ma*1) (List.drop 0 Oy)),.lst false 1 Kc (List.take (Kc*1) (List.drop 0 DA))],.sc (.bool ((↑Er:Int)==0))] [])) (Aw (decide (0+Lu*3<=J5.length))<|Aw (decide (0+Ma*1<=Oy.length))<|Aw (decide (0+Kc*1<=DA.length))<|some (A4.mk [.agg [.sc (.int .i64 Lr),.sc (.int .i64 Ks),.sc (.int .i64 Nq),.lst false 3 Lu (List.take (Lu*3) (List.drop 0 J5)),.sc (.int .i64 M7),.lst false 1 Ma (List.take (Ma*1) (List.drop 0 Oy)),.lst false 1 Kc (List.take (Kc*1) (List.drop 0 DA))],.sc (.bool false)] [])))) (Bm (!H1) (Aw (decide (0+Lu*3<=J5.length))<|Aw (decide (0+Ma*1<=Oy.length))<|Aw (decide (0+Kc*1<=DA.length))<|some (A4.mk [.agg [.sc (.int .i64 Lr),.sc (.int .i64 Ks),.sc (.int .i64 Nq),.lst false 3 Lu (List.take (Lu*3) (List.drop 0 J5)),.sc (.int .i64 M7),.lst false 1 Ma (List.take (Ma*1) (List.drop 0 Oy)),.lst false 1 Kc (List.take (Kc*1) (List.drop 0 DA))],.sc (.bool ((↑Er:Int)==0))] [])) (Aw (decide (0+Lu*3<=J5.length))<|Aw (decide (0+Ma*1<=Oy.length))<|Aw (decide (0+Kc*1<=DA.length))<|some (A4.mk [.agg [.sc (.int .i64 Lr),.sc (.int .i64 Ks),.sc (.int .i64 Nq),.lst false 3 Lu (List.take (Lu*3) (List.drop 0 J5)),.sc (.int .i64 M7),.lst false 1 Ma (List.take (Ma*1) (List.drop 0 Oy)),.lst false 1 Kc (List.take (Kc*1) (List.drop 0 DA))],.sc (.bool false)] [])))):=by kernel_rfl
theorem EY (fu d Bq:Nat)(a0:List PV):Ad C0 prog fu (d+1) Rl [.lst false 3 Bq a0]=(fun (call:Ah)=>Aj (call 89 [.pbox [.lst false 3 Bq a0,.sc (.bool false)]]) fun x1 x2=>Ab x1 fun x3 x4=>Ae .u64 x3 fun x5=>Ac x4<|Ab x2 fun x6 x7=>Ab x6 fun x8 x9=>Fa 3 x8 fun Cy C4 D1=>Ab x9 fun Ed Dn=>B3 Ed fun Eg=>Ac Dn<|Ac x7<|Aj (call 90 [.pbox [.lst false 3 C4 D1,.sc (.bool Eg)]]) fun Ez Fq=>Ab Ez fun F9 Fp=>Ae .u64 F9 fun F2=>Ac Fp<|Ab Fq fun Iw Hl=>Ab Iw fun H3 E5=>Fa 3 H3 fun Ep G2 I1=>Ab E5 fun Gs Ml=>B3 Gs fun L5=>Ac Ml<|Ac Hl<|Aa (wrap .i64 F2) fun J6=>Aj (call 90 [.pbox [.lst false 3 G2 I1,.sc (.bool L5)]]) fun Le Mc=>Ab Le fun Nh Nw=>Ae .u64 Nh fun Qa=>Ac Nw<|Ab Mc fun Sb Ip=>Ab Sb fun Lf Rj=>Fa 3 Lf fun V9 Rb Zb=>Ab Rj fun Za Wc=>B3 Za fun Wa=>Ac Wc<|Ac Ip<|Aa (wrap .i64 Qa) fun Wt=>Aj (call 90 [.pbox [.lst false 3 Rb Zb,.sc (.bool Wa)]]) fun Xr Xi=>Ab Xr fun Ze Y8=>Ae .u64 Ze fun Xz=>Ac Y8<|Ab Xi fun AN AG=>Ab AN fun Yd Zq=>Fa 3 Yd fun AJ Yz CJ=>Ab Zq fun AB AF=>B3 AB fun DT=>Ac AF<|Ac AG<|Aa (wrap .i64 Xz) fun AC=>Aj (call 89 [.pbox [.lst false 3 Yz CJ,.sc (.bool DT)]]) fun Zn Y5=>Ab Zn fun Wd AM=>Ae .u64 Wd fun DF=>Ac AM<|Ab Y5 fun AD CW=>Ab AD fun AL CF=>Fa 3 AL fun ET Zu EQ=>Ab CF fun IH AH=>B3 IH fun GO=>Ac AH<|Ac CW<|Id fu call Bq a0 (fu) DF 0 0 0 0 0 0 0 ([]) ([]) ([]) Zu EQ GO J6 Wt AC 0 0 0 0 ([]) ([]) ([])) (Ad C0 prog fu d):=by kernel_rfl
abbrev Of:FuncId:=26
theorem IK (fu d Bq:Nat)(a0:List PV):Ad C0 prog fu (d+1) Of [.lst false 1 Bq a0]=(fun (call:Ah)=>Bm (decide ((↑Bq:Int)>4096)) (some (A4.mk [.agg [.sc (.int .i64 0),.sc (.int .i64 0),.sc (.int .i64 0),.lst false 3 0 [],.sc (.int .i64 0),.lst false 1 0 [],.lst false 1 0 []],.sc (.int .i64 8)] [])) (Aj (call 47 [.lst false 1 Bq a0]) fun x1 x2=>Ac x2<|Ab x1 fun x3 x4=>F5 3 x3 fun x5 x6=>Ab x4 fun x7 x8=>Ae .i64 x7 fun x9=>Ab x8 fun Cy C4=>Ae .i64 Cy fun D1=>Ac C4<|Bm (D1 != 0) (some (A4.mk [.agg [.sc (.int .i64 0),.sc (.int .i64 0),.sc (.int .i64 0),.lst false 3 0 [],.sc (.int .i64 0),.lst false 1 0 [],.lst false 1 0 []],.sc (.int .i64 2)] [])) (Aw (decide (0+x5*3<=x6.length))<|Aj (call 48 [.lst false 3 x5 (List.take (x5*3) (List.drop 0 x6))]) fun Ed Dn=>Ac Dn<|Ab Ed fun Eg Ez=>Ef Eg fun Fq=>Ab Fq fun F9 Fp=>Ae .i64 F9 fun F2=>Ab Fp fun Iw Hl=>Ae .i64 Iw fun H3=>Ab Hl fun E5 Ep=>Ae .i64 E5 fun G2=>Ab Ep fun I1 Gs=>Fa 3 I1 fun Ml L5 J6=>Ab Gs fun Le Mc=>Ae .i64 Le fun Nh=>Ab Mc fun Nw Qa=>Fa 1 Nw fun Sb Ip Lf=>Ab Qa fun Rj V9=>Fa 1 Rj fun Rb Zb Za=>Ac V9<|Ab Ez fun Wc Wa=>B3 Wc fun Wt=>Ac Wa<|Bm (!Wt) (some (A4.mk [.agg [.sc (.int .i64 0),.sc (.int .i64 0),.sc (.int .i64 0),.lst false 3 0 [],.sc (.int .i64 0),.lst false 1 0 [],.lst false 1 0 []],.sc (.int .i64 2)] [])) (Aw (decide (0<=x9))<|Aw (decide (Int.toNat x9<=Bq)&&decide (Bq<=Bq))<|Aa (Bq-Int.toNat x9) fun Xr=>Aa (List.take (Xr*1) (List.drop (Int.toNat x9*1) a0)) fun Xi=>Aj (call 49 [.lst false 1 Xr Xi]) fun Ze Y8=>Ac Y8<|Ab Ze fun Xz AN=>Ef Xz fun AG=>Ab AG fun Yd Zq=>Ae .i64 Yd fun AJ=>Ab Zq fun Yz CJ=>F5 1 Yz fun AB AF=>Ab CJ fun DT AC=>F5 1 DT fun Zn Y5=>Ac AC<|Ab AN fun Wd AM=>Ae .i64 Wd fun DF=>Ac AM<|Bm (DF != 0) (some (A4.mk [.agg [.sc (.int .i64 0),.sc (.int .i64 0),.sc (.int .i64 0),.lst false 3 0 [],.sc (.int .i64 0),.lst false 1 0 [],.lst false 1 0 []],.sc (.int .i64 2)] [])) (Aw (decide (0+AB*1<=AF.length))<|Aw (decide (0+Zn*1<=Y5.length))<|Aj (call 25 [.agg [.sc (.int .i64 F2),.sc (.int .i64 H3),.sc (.int .i64 G2),.lst false 3 L5 J6,.sc (.int .i64 AJ),.lst false 1 AB (List.take (AB*1) (List.drop 0 AF)),.lst false 1 Zn (List.take (Zn*1) (List.drop 0 Y5))]]) fun AD CW=>Ac CW<|Ab AD fun AL CF=>F5 1 AL fun ET Zu=>Ab CF fun EQ IH=>Ae .i64 EQ fun AH=>Ac IH<|Bm (AH != 0) (some (A4.mk [.agg [.sc (.int .i64 0),.sc (.int .i64 0),.sc (.int .i64 0),.lst false 3 0 [],.sc (.int .i64 0),.lst false 1 0 [],.lst false 1 0 []],.sc (.int .i64 2)] [])) (Aw (decide (0+ET*1<=Zu.length))<|Aj (call 50 [.lst false 1 ET (List.take (ET*1) (List.drop 0 Zu)),.lst false 1 Bq a0]) fun GO JJ=>Ac JJ<|Ab GO fun GB JS=>B3 GB fun PD=>Ac JS<|Bm (!PD) (some (A4.mk [.agg [.sc (.int .i64 0),.sc (.int .i64 0),.sc (.int .i64 0),.lst false 3 0 [],.sc (.int .i64 0),.lst false 1 0 [],.lst false 1 0 []],.sc (.int .i64 2)] [])) (Aw (decide (0+AB*1<=AF.length))<|Aw (decide (0+Zn*1<=Y5.length))<|some (A4.mk [.agg [.sc (.int .i64 F2),.sc (.int .i64 H3),.sc (.int .i64 G2),.lst false 3 L5 J6,.sc (.int .i64 AJ),.lst false 1 AB (List.take (AB*1) (List.drop 0 AF)),.lst false 1 Zn (List.take (Zn*1) (List.drop 0 Y5))],.sc (.int .i64 0)] [])))))))) (Ad C0 prog fu d):=by kernel_rfl
abbrev Kl:FuncId:=27
theorem IL (fu d:Nat)(Ag Ai Ay:Int)(Bi:Nat)(Bv:List PV)(Cf:Int)(Bk:Nat)(Cj:List PV)(Bn:Nat)(Ci:List PV)(Q9:Nat)(a1:List PV)(JH ML a3:Int):Ad C0 prog fu (d+1) Kl [.agg [.sc (.int .i64 Ag),.sc (.int .i64 Ai),.sc (.int .i64 Ay),.lst false 3 Bi Bv,.sc (.int .i64 Cf),.lst false 1 Bk Cj,.lst false 1 Bn Ci],.lst false 1 Q9 a1,.agg [.sc (.int .i64 JH),.sc (.int .u64 ML)],.sc (.int .i64 a3)]=(fun (call:Ah)=>Bm (decide (a3<0)) (some (A4.mk [.agg [.sc (.int .i64 0),.sc (.int .i64 0),.sc (.int .i64 0),.lst false 3 0 [],.sc (.int .i64 0),.lst false 1 0 [],.lst false 1 0 []],.sc (.int .i64 9)] [])) (Bm (decide (a3>1099511627776)) (some (A4.mk [.agg [.sc (.int .i64 0),.sc (.int .i64 0),.sc (.int .i64 0),.lst false 3 0 [],.sc (.int .i64 0),.lst false 1 0 [],.lst false 1 0 []],.sc (.int .i64 9)] [])) (Aj (call 26 [.lst false 1 Q9 a1]) fun x1 x2=>Ac x2<|Ab x1 fun x3 x4=>Ef x3 fun x5=>Ab x5 fun x6 x7=>Ae .i64 x6 fun x8=>Ab x7 fun x9 Cy=>Ae .i64 x9 fun C4=>Ab Cy fun D1 Ed=>Ae .i64 D1 fun Dn=>Ab Ed fun Eg Ez=>Fa 3 Eg fun Fq F9 Fp=>Ab Ez fun F2 Iw=>Ae .i64 F2 fun Hl=>Ab Iw fun H3 E5=>Fa 1 H3 fun Ep G2 I1=>Ab E5 fun Gs Ml=>Fa 1 Gs fun L5 J6 Le=>Ac Ml<|Ab x4 fun Mc Nh=>Ae .i64 Mc fun Nw=>Ac Nh<|Bm (Nw != 0) (some (A4.mk [.agg [.sc (.int .i64 0),.sc (.int .i64 0),.sc (.int .i64 0),.lst false 3 0 [],.sc (.int .i64 0),.lst false 1 0 [],.lst false 1 0 []],.sc (.int .i64 Nw)] [])) (Bm (decide (x8<=Ag)) (some (A4.mk [.agg [.sc (.int .i64 0),.sc (.int .i64 0),.sc (.int .i64 0),.lst false 3 0 [],.sc (.int .i64 0),.lst false 1 0 [],.lst false 1 0 []],.sc (.int .i64 7)] [])) (Aj (call 19 [.agg [.sc (.int .i64 x8),.sc (.int .i64 C4),.sc (.int .i64 Dn),.lst false 3 F9 Fp,.sc (.int .i64 Hl),.lst false 1 G2 I1,.lst false 1 J6 Le],.agg [.sc (.int .i64 JH),.sc (.int .u64 ML)]]) fun Qa Sb=>Ac Sb<|Ab Qa fun Ip Lf=>Ae .i64 Ip fun Rj=>Ac Lf<|Bm (Rj != 0) (some (A4.mk [.agg [.sc (.int .i64 0),.sc (.int .i64 0),.sc (.int .i64 0),.lst false 3 0 [],.sc (.int .i64 0),.lst false 1 0 [],.lst false 1 0 []],.sc (.int .i64 Rj)] [])) (Bm (decide (a3<C4)) (some (A4.mk [.agg [.sc (.int .i64 0),.sc (.int .i64 0),.sc (.int .i64 0),.lst false 3 0 [],.sc (.int .i64 0),.lst false 1 0 [],.lst false 1 0 []],.sc (.int .i64 19)] [])) (Bm (decide (a3>Dn)) (some (A4.mk [.agg [.sc (.int .i64 0),.sc (.int .i64 0),.sc (.int .i64 0),.lst false 3 0 [],.sc (.int .i64 0),.lst false 1 0 [],.lst false 1 0 []],.sc (.int .i64 19)] [])) (some (A4.mk [.agg [.sc (.int .i64 x8),.sc (.int .i64 C4),.sc (.int .i64 Dn),.lst false 3 F9 Fp,.sc (.int .i64 Hl),.lst false 1 G2 I1,.lst false 1 J6 Le],.sc (.int .i64 0)] []))))))))) (Ad C0 prog fu d):=by kernel_rfl
end
section
open Go.Proofs.Tryz (prog)
open Go.IntKind (wrap)
set_option maxRecDepth 1000000
section
variable {fu d:Nat}
theorem GR (B5:1000<=fu){k:Nat}(hk:k<=5){vs:List (List It)} (hv:∀v∈vs,Val k v∧v≠[]∧v.length<=499) (hn:vs.length<=400)(hb:vs.flatten.length<=499):
  Ad C0 prog fu (d+6) Ju [.lst false 1 vs.length (Gq vs)]=some ⟨[.own 3 (Do vs).length (Bd (Do vs)),.sc (.int .i64 0)],[]⟩:=
 Ajq B5 (fun v h=>⟨(hv v h).1.goods (by omega) (hv v h).2.1 (by have:=(hv v h).2.2;omega),by have:=(hv v h).2.2;omega⟩) hn ((Uv (fun v h=>(hv v h).1) (by omega)).goods (by omega) (by simp) (by simp only[H5];omega)) hb
def Aad (a:An):List PV:=if Gd a=0 then [.own 3 (C9 a).length (Bd (C9 a)),.sc (.int .i64 0)] else [.own 3 0 [],.sc (.int .i64 (Gd a))]
theorem Ask (B5:1000<=fu)(a:An):Ad C0 prog fu (d+7) Oi [.agg a.cells]=some ⟨Aad a,[]⟩:=by
 refine (Yy fu (d+6) a.name a.key.h a.key.root).trans ?_;have bad:∀{e:Int},Gd a=e->e≠0->some (A4.mk [.own 3 0 [],.sc (.int .i64 e)] [])=some (A4.mk (Aad a) []):=fun h he=>by unfold Aad;rw[h,Bp he]
 by_cases e1:a.name.size<1
 ·have hb:Gd a=9:=by unfold Gd;rw[Co (.inl e1)]
  rw[←bad hb (by omega)]
  try unfold Aa
  repeat first
   |((with_reducible first|apply As|apply Ao|apply Ar|apply Az|apply Be|apply Bo|apply Am|apply Au|apply At);· first|with_reducible rfl|(simp (disch:=omega) only[gT,Dc]<;>first|with_reducible rfl|omega)|omega)
   |(with_reducible apply Av;· first|with_reducible rfl|(simp (disch:=omega) only[gF,Dc]<;>omega))
  try simp (disch:=omega) only[Dc]
 by_cases e2:32<a.name.size
 ·have hb:Gd a=9:=by unfold Gd;rw[Co (.inr e2)]
  rw[←bad hb (by omega)]
  try unfold Aa
  repeat first
   |((with_reducible first|apply As|apply Ao|apply Ar|apply Az|apply Be|apply Bo|apply Am|apply Au|apply At);· first|with_reducible rfl|(simp (disch:=omega) only[gT,Dc]<;>first|with_reducible rfl|omega)|omega)
   |(with_reducible apply Av;· first|with_reducible rfl|(simp (disch:=omega) only[gF,Dc]<;>omega))
  try simp (disch:=omega) only[Dc]
 have v1:=CY (fu:=fu) (d:=d+5) a.name (by omega)
 have e12:¬(a.name.size<1∨32<a.name.size):=by omega
 cases e3:okS a.name
 ·have hb:Gd a=6:=by unfold Gd;rw[Bp e12,Co e3]
  rw[e3] at v1;rw[←bad hb (by omega)]
  try unfold Aa
  repeat first
   |((with_reducible first|apply As|apply Ao|apply Ar|apply Az|apply Be|apply Bo|apply Am|apply Au|apply At);· first|with_reducible rfl|(simp (disch:=omega) only[gT,v1,Dc,Hg]<;>first|with_reducible rfl|omega)|omega)
   |(with_reducible apply Av;· first|with_reducible rfl|(simp (disch:=omega) only[gF,v1,Dc,Hg]<;>omega))
  try simp (disch:=omega) only[v1,Dc,Hg]
 rw[e3] at v1;have ek:=Apx (xs:=Ni) (fu:=fu) (d:=d+4) B5 a.key;simp only[Ky.cells] at ek;have e90:((9:Int) != 0)=true:=rfl;have e00:((0:Int) != 0)=false:=rfl;cases e5:D8 a.key.h
 rotate_left
 ·have hb:Gd a=9:=by unfold Gd;rw[Bp e12,Bp (by simp[e3]),Co e5]
  rw[e5,Co rfl] at ek;rw[←bad hb (by omega)]
  try unfold Aa
  repeat first
   |((with_reducible first|apply As|apply Ao|apply Ar|apply Az|apply Be|apply Bo|apply Am|apply Au|apply At);· first|with_reducible rfl|(simp (disch:=omega) only[gT,v1,ek,e90,Dc,Hg]<;>first|with_reducible rfl|omega)|omega)
   |(with_reducible apply Av;· first|with_reducible rfl|(simp (disch:=omega) only[gF,v1,ek,e90,Dc,Hg]<;>omega))
  try simp (disch:=omega) only[v1,ek,e90,Dc,Hg]
 rw[e5,Bp (by simp)] at ek
 have hz:Gd a=0:=by unfold Gd;rw[Bp e12,Bp (by simp[e3]),Bp (by simp[e5])]
 have f1:YN ⟨4,0,a.name⟩:=⟨.inr (.inr (.inr (.inl rfl))),by simp only;omega,fun _=>e3,by unfold Mq;rfl,by simp⟩
 have f2:YN ⟨3,0,Cp (Jt a.key)⟩:=⟨.inr (.inr (.inl rfl)),by simp only[Akm];omega,(fun e=>by cases e),by unfold Mq;rfl,by simp⟩
 have ar:Ad C0 prog fu (d+6) Ju [.lst false 1 2 [.lst false 3 1 (Bd [⟨4,0,a.name⟩]),.lst false 3 1 (Bd [⟨3,0,Cp (Jt a.key)⟩])]]=some ⟨[.own 3 3 (Bd (C9 a)),.sc (.int .i64 0)],[]⟩:=GR (fu:=fu) (d:=d) B5 (k:=0) (by omega) (vs:=Adn a) (fun v hv=>by
  simp only[Adn,List.mem_cons,List.not_mem_nil,or_false] at hv;rcases hv with rfl|rfl
  ·exact⟨G9 f1 0,by simp,by simp⟩
  ·exact⟨G9 f2 0,by simp,by simp⟩) (by simp[Adn]) (by simp[Adn])
 have t1:=Auz (fu:=fu) (d:=d+5) a.name;have by_:=Ang (fu:=fu) (d:=d+5) (Jt a.key);have k9:(Jt a.key).length=9:=rfl;rw[k9] at by_;have L9:=Aq .u8 (Jt a.key);rw[k9] at L9;have tk9:List.take 9 (Af .u8 (Jt a.key))=Af .u8 (Jt a.key):=Jq (by omega)
 have R:Aad a=[.own 3 3 (Bd (C9 a)),.sc (.int .i64 0)]:=by unfold Aad;rw[Co hz,Pm]
 rw[R];have LI:(Bd (C9 a)).length=9:=rfl;have tI:List.take 9 (Bd (C9 a))=Bd (C9 a):=rfl;generalize Bd (C9 a)=I at ar LI tI ⊢;have K1:List.take 3 (Bd [⟨4,0,a.name⟩])=Bd [⟨4,0,a.name⟩]:=rfl;have K2:List.take 3 (Bd [⟨3,0,Cp (Jt a.key)⟩])=Bd [⟨3,0,Cp (Jt a.key)⟩]:=rfl;have N1:(Bd [⟨4,0,a.name⟩]).length=3:=rfl;have N2:(Bd [⟨3,0,Cp (Jt a.key)⟩]).length=3:=rfl;generalize Bd [⟨4,0,a.name⟩]=T1 at *
 generalize Bd [⟨3,0,Cp (Jt a.key)⟩]=T2 at *
 generalize Af .u8 (Jt a.key)=KB at *
 try unfold Aa
 repeat first
  |((with_reducible first|apply As|apply Ao|apply Ar|apply Az|apply Be|apply Bo|apply Am|apply Au|apply At);· first|with_reducible rfl|(simp (disch:=omega) only[gT,v1,ek,e00,t1,by_,L9,tk9,K1,K2,N1,N2,Cv,Nat.one_mul,Dr,Nat.reduceMul,Dt,ar,LI,tI,Dc,Hg]<;>first|with_reducible rfl|omega)|omega)
  |(with_reducible apply Av;· first|with_reducible rfl|(simp (disch:=omega) only[gF,v1,ek,e00,t1,by_,L9,tk9,K1,K2,N1,N2,Cv,Nat.one_mul,Dr,Nat.reduceMul,Dt,ar,LI,tI,Dc,Hg]<;>omega))
 try simp (disch:=omega) only[v1,ek,e00,t1,by_,L9,tk9,K1,K2,N1,N2,Cv,Nat.one_mul,Dr,Nat.reduceMul,Dt,ar,LI,tI,Dc,Hg]
def Aqi (x:Me):List PV:=if Db x=0 then [.own 3 (Bb x).length (Bd (Bb x)),.sc (.int .i64 0)] else [.own 3 0 [],.sc (.int .i64 (Db x))]
theorem WP (a:List (List It)) (v:List It):Gq a++[.lst false 3 v.length (Bd v)]=Gq (a++[v]):=by
 unfold Gq;rw[List.flatMap_append,List.flatMap_cons,List.flatMap_nil,List.append_nil];rfl
theorem W5 (a:List (List It)):(Gq a).length=a.length:=by
 unfold Gq;rw[V7 Aa4];omega
theorem A0r (B5:1000<=fu){Ag:Int}{Br Bf:Nat}{Ai Ay:List PV}{x:Me}(hm:0<=x.model)(h1:x.ans.length<=4)(h2:x.sts.length<=4)(h3:Dm x.ans=0):∀(r:List Sa)(i nn:Nat)(p:Option Int),x.sts.drop i=r->r.length<nn->i<=x.sts.length ->
  ((i=0∧p=none)∨∃s',0<i∧x.sts[i-1]?=some s'∧p=some s'.at_)->(∀s∈x.sts.take i,1<=s.kd∧s.kd<=4∧0<=s.at_∧s.at_<=1099511627776) ->
  Fw fu (Ad C0 prog fu (d+7)) Ag Br Ai Bf Ay nn i (Do (x.ans.map C9)).length x.sts.length (Dw x.sts) (x.sts.length:Int) (i:Int) x.model x.ans.length (Dh x.ans) x.sts.length (Dw x.sts) (Gq ((x.sts.take i).map Da)) (Bd (Do (x.ans.map C9))) =
   some ⟨(if Ee p r=0 then [.own 3 (Bb x).length (Bd (Bb x)),.sc (.int .i64 0)] else [.own 3 0 [],.sc (.int .i64 (Ee p r))]),[]⟩
 |_,_,0,_,_,h,_,_,_=>by omega
 |[],i,nn+1,p,hd,hn,hi,hp,hk=>by
  have hl:=drop_nil hd;have ei:i=x.sts.length:=by omega
  have eall:x.sts.take i=x.sts:=Jq (by omega)
  rw[eall] at hk ⊢;have vs:=Alp h2 (fun s hs=>by have:=hk s hs;exact⟨by omega,by omega⟩)
  have va:=Aco h1 (AV h3);have G0:Ee p []=0:=by unfold Ee;rfl
  rw[Co G0]
  have ar:=GR (fu:=fu) (d:=d+1) B5 (k:=1) (by omega) (vs:=x.sts.map Da) (fun v hv=>by
   obtain⟨s,hs,rfl⟩:=List.mem_map.1 hv;have:=hk s hs;exact⟨(Aj9 (by omega) (by omega)).1,by simp[Da],by rw[Wu];omega⟩) (by rw[List.length_map];omega) (by rw[H9 Wu];omega)
  rw[List.length_map] at ar;have u:=Xy (fu:=fu) (d:=d+6) x.model;have la:(Do (x.ans.map C9)).length<=20:=by unfold Do;rw[H5,H9 Pm];omega
  have ls:(Do (x.sts.map Da)).length<=20:=by unfold Do;rw[H5,H9 Wu];omega
  have ar3:Ad C0 prog fu (d+7) Ju [.lst false 1 3 [.lst false 3 1 (Bd [⟨1,x.model,Ob⟩]),.lst false 3 (Do (x.ans.map C9)).length (Bd (Do (x.ans.map C9))),.lst false 3 (Do (x.sts.map Da)).length (Bd (Do (x.sts.map Da)))]]=some ⟨[.own 3 (Bb x).length (Bd (Bb x)),.sc (.int .i64 0)],[]⟩:=GR (fu:=fu) (d:=d+1) B5 (k:=2) (by omega) (vs:=Zw x) (fun v hv=>by
   simp only[Zw,List.mem_cons,List.not_mem_nil,or_false] at hv;rcases hv with rfl|rfl|rfl
   ·exact⟨G9 (Jw hm) 2,by simp,by simp⟩
   ·exact⟨va.1,by simp[Do],by omega⟩
   ·exact⟨vs.1,by simp[Do],by omega⟩) (by simp[Zw]) (by simp only[Zw,List.flatten_cons,List.flatten_nil,List.append_nil,Hi,List.length_singleton];omega)
  have e00:((0:Int) != 0)=false:=rfl;have LV:(Gq (x.sts.map Da)).length=x.sts.length:=by rw[W5,List.length_map]
  have tV:List.take x.sts.length (Gq (x.sts.map Da))=Gq (x.sts.map Da):=Jq (by omega)
  have LA:=Fj (Do (x.ans.map C9));have LS:=Fj (Do (x.sts.map Da));have LE:=Fj (Bb x);have tA:List.take ((Do (x.ans.map C9)).length*3) (Bd (Do (x.ans.map C9)))=Bd (Do (x.ans.map C9)):=Jq (by omega)
  have tS:List.take ((Do (x.sts.map Da)).length*3) (Bd (Do (x.sts.map Da)))=Bd (Do (x.sts.map Da)):=Jq (by omega)
  have tE:List.take ((Bb x).length*3) (Bd (Bb x))=Bd (Bb x):=Jq (by omega)
  have K1:List.take 3 (Bd [⟨1,x.model,Ob⟩])=Bd [⟨1,x.model,Ob⟩]:=rfl;have N1:(Bd [⟨1,x.model,Ob⟩]).length=3:=rfl;subst ei;rw[D9];generalize Bd [⟨1,x.model,Ob⟩]=T1 at *
  generalize Bd (Bb x)=TE at *
  generalize (Bb x).length=nE at *
  generalize Bd (Do (x.sts.map Da))=TS at *
  generalize Bd (Do (x.ans.map C9))=TA at *
  generalize (Do (x.sts.map Da)).length=nS at *
  generalize (Do (x.ans.map C9)).length=nA at *
  generalize Gq (x.sts.map Da)=TV at *
  try unfold Aa
  repeat first
   |((with_reducible first|apply As|apply Ao|apply Ar|apply Az|apply Be|apply Bo|apply Am|apply Au|apply At);· first|with_reducible rfl|(simp (disch:=omega) only[gT,LV,tV,ar,e00,u,K1,N1,LA,LS,tA,tS,ar3,LE,tE,Cv,Nat.one_mul,Dr,Dt,Dc,Hg]<;>first|with_reducible rfl|omega)|omega)
   |(with_reducible apply Av;· first|with_reducible rfl|(simp (disch:=omega) only[gF,LV,tV,ar,e00,u,K1,N1,LA,LS,tA,tS,ar3,LE,tE,Cv,Nat.one_mul,Dr,Dt,Dc,Hg]<;>omega))
  try simp (disch:=omega) only[LV,tV,ar,e00,u,K1,N1,LA,LS,tA,tS,ar3,LE,tE,Cv,Nat.one_mul,Dr,Dt,Dc,Hg]
  all_goals rfl
 |s::rs,i,nn+1,p,hd,hn,hi,hp,hk=>by
  obtain⟨q1,q2,q3⟩:=Dk hd;simp only[H5] at hn;obtain⟨c0,c1⟩:=saa q2;have nt:Int.toNat (i:Int)=i:=Je _
  have bad:∀{e:Int},Gz p s=e->e≠0->some (A4.mk [.own 3 0 [],.sc (.int .i64 e)] [])=some (A4.mk (if Ee p (s::rs)=0 then [.own 3 (Bb x).length (Bd (Bb x)),.sc (.int .i64 0)] else [.own 3 0 [],.sc (.int .i64 (Ee p (s::rs)))]) []):=fun {e} h he=>by
   have:Ee p (s::rs)=e:=by rw[Ee,Co (by rw[h];exact he),h]
   rw[this,Bp he]
  by_cases g1:s.kd<1
  ·have hb:Gz p s=9:=by unfold Gz;rw[Co (.inl g1)]
   rw[←bad hb (by omega),D9]
   try unfold Aa
   repeat first
    |((with_reducible first|apply As|apply Ao|apply Ar|apply Az|apply Be|apply Bo|apply Am|apply Au|apply At);· first|with_reducible rfl|(simp (disch:=omega) only[gT,nt,c0,c1]<;>first|with_reducible rfl|omega)|omega)
    |(with_reducible apply Av;· first|with_reducible rfl|(simp (disch:=omega) only[gF,nt,c0,c1]<;>omega))
   try simp (disch:=omega) only[nt,c0,c1]
   all_goals rfl
  by_cases g2:4<s.kd
  ·have hb:Gz p s=9:=by unfold Gz;rw[Co (.inr (.inl g2))]
   rw[←bad hb (by omega),D9]
   try unfold Aa
   repeat first
    |((with_reducible first|apply As|apply Ao|apply Ar|apply Az|apply Be|apply Bo|apply Am|apply Au|apply At);· first|with_reducible rfl|(simp (disch:=omega) only[gT,nt,c0,c1]<;>first|with_reducible rfl|omega)|omega)
    |(with_reducible apply Av;· first|with_reducible rfl|(simp (disch:=omega) only[gF,nt,c0,c1]<;>omega))
   try simp (disch:=omega) only[nt,c0,c1]
   all_goals rfl
  by_cases g3:s.at_<0
  ·have hb:Gz p s=9:=by unfold Gz;rw[Co (.inr (.inr (.inl g3)))]
   rw[←bad hb (by omega),D9]
   try unfold Aa
   repeat first
    |((with_reducible first|apply As|apply Ao|apply Ar|apply Az|apply Be|apply Bo|apply Am|apply Au|apply At);· first|with_reducible rfl|(simp (disch:=omega) only[gT,nt,c0,c1]<;>first|with_reducible rfl|omega)|omega)
    |(with_reducible apply Av;· first|with_reducible rfl|(simp (disch:=omega) only[gF,nt,c0,c1]<;>omega))
   try simp (disch:=omega) only[nt,c0,c1]
   all_goals rfl
  by_cases g4:1099511627776<s.at_
  ·have hb:Gz p s=9:=by unfold Gz;rw[Co (.inr (.inr (.inr g4)))]
   rw[←bad hb (by omega),D9]
   try unfold Aa
   repeat first
    |((with_reducible first|apply As|apply Ao|apply Ar|apply Az|apply Be|apply Bo|apply Am|apply Au|apply At);· first|with_reducible rfl|(simp (disch:=omega) only[gT,nt,c0,c1]<;>first|with_reducible rfl|omega)|omega)
    |(with_reducible apply Av;· first|with_reducible rfl|(simp (disch:=omega) only[gF,nt,c0,c1]<;>omega))
   try simp (disch:=omega) only[nt,c0,c1]
   all_goals rfl
  have S1:Gz none s=0:=by unfold Gz;rw[Bp (by omega)]
  have S0:∀q:Int,Gz (some q) s=if s.at_<=q then 7 else 0:=fun q=>by unfold Gz;rw[Bp (by omega)]
  have wk:wrap .u64 s.kd=s.kd:=C3 (by omega) (by omega)
  have wa:wrap .u64 s.at_=s.at_:=C3 (by omega) (by omega)
  have u1:=Xy (fu:=fu) (d:=d+6) s.kd;have u2:=Xy (fu:=fu) (d:=d+6) s.at_
  have ar:Ad C0 prog fu (d+7) Ju [.lst false 1 2 [.lst false 3 1 (Bd [⟨1,s.kd,Ob⟩]),.lst false 3 1 (Bd [⟨1,s.at_,Ob⟩])]]=some ⟨[.own 3 3 (Bd (Da s)),.sc (.int .i64 0)],[]⟩:=GR (fu:=fu) (d:=d+1) B5 (k:=0) (by omega) (vs:=Afe s) (fun v hv=>by
   simp only[Afe,List.mem_cons,List.not_mem_nil,or_false] at hv;rcases hv with rfl|rfl
   ·exact⟨G9 (Jw (by omega)) 0,by simp,by simp⟩
   ·exact⟨G9 (Jw (by omega)) 0,by simp,by simp⟩) (by simp[Afe]) (by simp[Afe])
  have e00:((0:Int) != 0)=false:=rfl;have LI:(Bd (Da s)).length=9:=rfl;have tI:List.take 9 (Bd (Da s))=Bd (Da s):=rfl;have K1:List.take 3 (Bd [⟨1,s.kd,Ob⟩])=Bd [⟨1,s.kd,Ob⟩]:=rfl;have K2:List.take 3 (Bd [⟨1,s.at_,Ob⟩])=Bd [⟨1,s.at_,Ob⟩]:=rfl;have N1:(Bd [⟨1,s.kd,Ob⟩]).length=3:=rfl;have N2:(Bd [⟨1,s.at_,Ob⟩]).length=3:=rfl;have LV:(Gq ((x.sts.take i).map Da)).length=i:=by rw[W5,List.length_map,List.length_take];omega
  have tV:List.take i (Gq ((x.sts.take i).map Da))=Gq ((x.sts.take i).map Da):=Jq (by omega)
  have w:wrap .i64 ((i:Int)+1)=((i+1:Nat):Int):=by rw[Ap (by omega) (by omega)];omega
  have et:x.sts.take (i+1)=x.sts.take i++[s]:=by rw[List.take_add_one,q2];rfl
  have ea:Gq ((x.sts.take i).map Da)++[.lst false 3 3 (Bd (Da s))]=Gq ((x.sts.take (i+1)).map Da):=by
   rw[et,List.map_append,List.map_singleton];exact WP _ (Da s)
  have hz:∀{v:Int},Gz p s=0->Ee p (s::rs)=Ee (some s.at_) rs:=fun {v} h=>by rw[Ee,Bp (by simp[h])]
  have ih:=A0r B5 (Ag:=Ag) (Br:=Br) (Bf:=Bf) (Ai:=Ai) (Ay:=Ay) hm h1 h2 h3 rs (i+1) nn (some s.at_) q3 (by omega) (by omega) (.inr ⟨s,by omega,by rw[Nat.add_sub_cancel];exact q2,rfl⟩) (fun y hy=>by
   rw[et] at hy;rcases List.mem_append.1 hy with hy|hy
   ·exact hk y hy
   ·rw[List.mem_singleton.1 hy];omega)
  rw[D9];rcases hp with⟨rfl,rfl⟩|⟨s',h0,h5,rfl⟩
  ·have hs:Gz none s=0:=S1;rw[hz (v:=0) hs,←ih];generalize Bd (Da s)=TI at *
   generalize Bd [⟨1,s.kd,Ob⟩]=T1 at *
   generalize Bd [⟨1,s.at_,Ob⟩]=T2 at *
   generalize Gq ((x.sts.take 0).map Da)=TV at *
   generalize Gq ((x.sts.take (0+1)).map Da)=TV' at *
   try unfold Aa
   repeat first
    |((with_reducible first|apply As|apply Ao|apply Ar|apply Az|apply Be|apply Bo|apply Am|apply Au|apply At);· first|with_reducible rfl|(simp (disch:=omega) only[gT,nt,c0,c1]<;>first|with_reducible rfl|omega)|omega)
    |(with_reducible apply Av;· first|with_reducible rfl|(simp (disch:=omega) only[gF,nt,c0,c1]<;>omega))
   try simp (disch:=omega) only[nt,c0,c1]
   rw[Iu (O6:=by omega)]
   try unfold Aa
   repeat first
    |((with_reducible first|apply As|apply Ao|apply Ar|apply Az|apply Be|apply Bo|apply Am|apply Au|apply At);· first|with_reducible rfl|(simp (disch:=omega) only[gT,wk,wa,u1,u2,K1,K2,N1,N2,ar,e00,LI,tI,LV,tV,ea,w,Cv,Nat.one_mul,Dr,Nat.reduceMul,Dt,Dc]<;>first|with_reducible rfl|omega)|omega)
    |(with_reducible apply Av;· first|with_reducible rfl|(simp (disch:=omega) only[gF,wk,wa,u1,u2,K1,K2,N1,N2,ar,e00,LI,tI,LV,tV,ea,w,Cv,Nat.one_mul,Dr,Nat.reduceMul,Dt,Dc]<;>omega))
   try simp (disch:=omega) only[wk,wa,u1,u2,K1,K2,N1,N2,ar,e00,LI,tI,LV,tV,ea,w,Cv,Nat.one_mul,Dr,Nat.reduceMul,Dt,Dc]
   all_goals rfl
  ·obtain⟨b0,b1⟩:=saa h5;have wi:wrap .i64 ((i:Int)-1)=((i-1:Nat):Int):=by rw[Ap (by omega) (by omega)];omega
   have nt1:Int.toNat ((i-1:Nat):Int)=i-1:=Je _;by_cases g5:s.at_<=s'.at_
   ·have hb:Gz (some s'.at_) s=7:=by rw[S0,Co g5]
    rw[←bad hb (by omega)]
    try unfold Aa
    repeat first
     |((with_reducible first|apply As|apply Ao|apply Ar|apply Az|apply Be|apply Bo|apply Am|apply Au|apply At);· first|with_reducible rfl|(simp (disch:=omega) only[gT,nt,c0,c1]<;>first|with_reducible rfl|omega)|omega)
     |(with_reducible apply Av;· first|with_reducible rfl|(simp (disch:=omega) only[gF,nt,c0,c1]<;>omega))
    try simp (disch:=omega) only[nt,c0,c1]
    rw[Iu (O6:=by omega)]
    try unfold Aa
    repeat first
     |((with_reducible first|apply As|apply Ao|apply Ar|apply Az|apply Be|apply Bo|apply Am|apply Au|apply At);· first|with_reducible rfl|(simp (disch:=omega) only[gT,wi,nt1,b1]<;>first|with_reducible rfl|omega)|omega)
     |(with_reducible apply Av;· first|with_reducible rfl|(simp (disch:=omega) only[gF,wi,nt1,b1]<;>omega))
    try simp (disch:=omega) only[wi,nt1,b1]
    all_goals rfl
   ·have hs:Gz (some s'.at_) s=0:=by rw[S0,Bp g5]
    rw[hz (v:=0) hs,←ih];generalize Bd (Da s)=TI at *
    generalize Bd [⟨1,s.kd,Ob⟩]=T1 at *
    generalize Bd [⟨1,s.at_,Ob⟩]=T2 at *
    generalize Gq ((x.sts.take i).map Da)=TV at *
    generalize Gq ((x.sts.take (i+1)).map Da)=TV' at *
    try unfold Aa
    repeat first
     |((with_reducible first|apply As|apply Ao|apply Ar|apply Az|apply Be|apply Bo|apply Am|apply Au|apply At);· first|with_reducible rfl|(simp (disch:=omega) only[gT,nt,c0,c1]<;>first|with_reducible rfl|omega)|omega)
     |(with_reducible apply Av;· first|with_reducible rfl|(simp (disch:=omega) only[gF,nt,c0,c1]<;>omega))
    try simp (disch:=omega) only[nt,c0,c1]
    rw[Iu (O6:=by omega)]
    try unfold Aa
    repeat first
     |((with_reducible first|apply As|apply Ao|apply Ar|apply Az|apply Be|apply Bo|apply Am|apply Au|apply At);· first|with_reducible rfl|(simp (disch:=omega) only[gT,wi,nt1,b1,wk,wa,u1,u2,K1,K2,N1,N2,ar,e00,LI,tI,LV,tV,ea,w,Cv,Nat.one_mul,Dr,Nat.reduceMul,Dt,Dc]<;>first|with_reducible rfl|omega)|omega)
     |(with_reducible apply Av;· first|with_reducible rfl|(simp (disch:=omega) only[gF,wi,nt1,b1,wk,wa,u1,u2,K1,K2,N1,N2,ar,e00,LI,tI,LV,tV,ea,w,Cv,Nat.one_mul,Dr,Nat.reduceMul,Dt,Dc]<;>omega))
    try simp (disch:=omega) only[wi,nt1,b1,wk,wa,u1,u2,K1,K2,N1,N2,ar,e00,LI,tI,LV,tV,ea,w,Cv,Nat.one_mul,Dr,Nat.reduceMul,Dt,Dc]
    all_goals rfl
theorem A0p (B5:1000<=fu){Ag:Int}{Br Bf:Nat}{Ai Ay:List PV}{x:Me}(hm:0<=x.model)(h1:x.ans.length<=4)(h2:x.sts.length<=4):∀(r:List An)(i nn:Nat),x.ans.drop i=r->r.length<nn->i<=x.ans.length->(Dm r=0->Dm x.ans=0)->(∀a∈x.ans.take i,Gd a=0) ->
  He fu (Ad C0 prog fu (d+7)) Ag Br Ai Bf Ay nn i x.ans.length (Dh x.ans) (x.ans.length:Int) (i:Int) x.model x.ans.length (Dh x.ans) x.sts.length (Dw x.sts) (Gq ((x.ans.take i).map C9)) =
   some ⟨(if Dm r=0 then (if Ee none x.sts=0 then [.own 3 (Bb x).length (Bd (Bb x)),.sc (.int .i64 0)] else [.own 3 0 [],.sc (.int .i64 (Ee none x.sts))]) else [.own 3 0 [],.sc (.int .i64 (Dm r))]),[]⟩
 |_,_,0,_,h,_,_,_=>by omega
 |[],i,nn+1,hd,hn,hi,hz,hk=>by
  have hl:=drop_nil hd;have ei:i=x.ans.length:=by omega
  have eall:x.ans.take i=x.ans:=Jq (by omega)
  rw[eall] at hk ⊢;have h3:=hz rfl;have va:=Aco h1 (AV h3);have G0:Dm []=0:=by unfold Dm;rfl
  rw[Co G0]
  have ar:=GR (fu:=fu) (d:=d+1) B5 (k:=1) (by omega) (vs:=x.ans.map C9) (fun v hv=>by
   obtain⟨a,ha,rfl⟩:=List.mem_map.1 hv;exact⟨(Ajt (hk a ha)).1,by simp[C9],by rw[Pm];omega⟩) (by rw[List.length_map];omega) (by rw[H9 Pm];omega)
  rw[List.length_map] at ar;have e00:((0:Int) != 0)=false:=rfl;have LV:(Gq (x.ans.map C9)).length=x.ans.length:=by rw[W5,List.length_map]
  have tV:List.take x.ans.length (Gq (x.ans.map C9))=Gq (x.ans.map C9):=Jq (by omega)
  have l1:=A0r (fu:=fu) (d:=d) B5 (Ag:=Ag) (Br:=Br) (Bf:=Bf) (Ai:=Ai) (Ay:=Ay) hm h1 h2 h3 x.sts 0 fu none rfl (by omega) (by omega) (.inl ⟨rfl,rfl⟩) (fun s hs=>by cases hs)
  have ev:Gq ((x.sts.take 0).map Da)=[]:=rfl;have z0:((0:Nat):Int)=0:=rfl;rw[ev,z0] at l1;subst ei;rw[Iq,←l1]
  try unfold Aa
  repeat first
   |((with_reducible first|apply As|apply Ao|apply Ar|apply Az|apply Be|apply Bo|apply Am|apply Au|apply At);· first|with_reducible rfl|(simp (disch:=omega) only[gT,LV,tV,ar,e00,Cv,Nat.one_mul,Dr,Dt,Dc,Hg]<;>first|with_reducible rfl|omega)|omega)
   |(with_reducible apply Av;· first|with_reducible rfl|(simp (disch:=omega) only[gF,LV,tV,ar,e00,Cv,Nat.one_mul,Dr,Dt,Dc,Hg]<;>omega))
  try simp (disch:=omega) only[LV,tV,ar,e00,Cv,Nat.one_mul,Dr,Dt,Dc,Hg]
  all_goals rfl
 |a::rs,i,nn+1,hd,hn,hi,hz,hk=>by
  obtain⟨q1,q2,q3⟩:=Dk hd;simp only[H5] at hn;obtain⟨c0,c1,c2⟩:=ana q2;have c2':(Dh x.ans).getD (i*3+1+1) .top=.sc (.int .u64 a.key.root):=c2;have nt:Int.toNat (i:Int)=i:=Je _;have an:=Ask (fu:=fu) (d:=d) B5 a;unfold Aad at an;simp only[An.cells] at an;by_cases h0:Gd a=0
  ·rw[Co h0,Pm] at an;have e00:((0:Int) != 0)=false:=rfl;have LI:(Bd (C9 a)).length=9:=rfl;have tI:List.take 9 (Bd (C9 a))=Bd (C9 a):=rfl;have LV:(Gq ((x.ans.take i).map C9)).length=i:=by rw[W5,List.length_map,List.length_take];omega
   have tV:List.take i (Gq ((x.ans.take i).map C9))=Gq ((x.ans.take i).map C9):=Jq (by omega)
   have w:wrap .i64 ((i:Int)+1)=((i+1:Nat):Int):=by rw[Ap (by omega) (by omega)];omega
   have et:x.ans.take (i+1)=x.ans.take i++[a]:=by rw[List.take_add_one,q2];rfl
   have ea:Gq ((x.ans.take i).map C9)++[.lst false 3 3 (Bd (C9 a))]=Gq ((x.ans.take (i+1)).map C9):=by
    rw[et,List.map_append,List.map_singleton];exact WP _ (C9 a)
   have he:Dm (a::rs)=Dm rs:=by rw[Dm,Bp (by simp[h0])]
   have ih:=A0p B5 (Ag:=Ag) (Br:=Br) (Bf:=Bf) (Ai:=Ai) (Ay:=Ay) hm h1 h2 rs (i+1) nn q3 (by omega) (by omega) (fun h=>hz (by rw[he];exact h)) (fun y hy=>by
    rw[et] at hy;rcases List.mem_append.1 hy with hy|hy
    ·exact hk y hy
    ·rw[List.mem_singleton.1 hy];exact h0)
   rw[he,←ih,Iq];generalize Bd (C9 a)=TI at *
   generalize Gq ((x.ans.take i).map C9)=TV at *
   generalize Gq ((x.ans.take (i+1)).map C9)=TV' at *
   try unfold Aa
   repeat first
    |((with_reducible first|apply As|apply Ao|apply Ar|apply Az|apply Be|apply Bo|apply Am|apply Au|apply At);· first|with_reducible rfl|(simp (disch:=omega) only[gT,nt,c0,c1,c2',an,e00,LI,tI,LV,tV,ea,w,Cv,Nat.one_mul,Dr,Nat.reduceMul,Dt,Dc]<;>first|with_reducible rfl|omega)|omega)
    |(with_reducible apply Av;· first|with_reducible rfl|(simp (disch:=omega) only[gF,nt,c0,c1,c2',an,e00,LI,tI,LV,tV,ea,w,Cv,Nat.one_mul,Dr,Nat.reduceMul,Dt,Dc]<;>omega))
   try simp (disch:=omega) only[nt,c0,c1,c2',an,e00,LI,tI,LV,tV,ea,w,Cv,Nat.one_mul,Dr,Nat.reduceMul,Dt,Dc]
   all_goals rfl
  ·rw[Bp h0] at an;have he:Dm (a::rs)=Gd a:=by rw[Dm,Co h0]
   have Fu:(Gd a != 0)=true:=by simp[h0]
   rw[he,Bp h0,Iq]
   try unfold Aa
   repeat first
    |((with_reducible first|apply As|apply Ao|apply Ar|apply Az|apply Be|apply Bo|apply Am|apply Au|apply At);· first|with_reducible rfl|(simp (disch:=omega) only[gT,nt,c0,c1,c2',an,Fu]<;>first|with_reducible rfl|omega)|omega)
    |(with_reducible apply Av;· first|with_reducible rfl|(simp (disch:=omega) only[gF,nt,c0,c1,c2',an,Fu]<;>omega))
   try simp (disch:=omega) only[nt,c0,c1,c2',an,Fu]
   all_goals rfl
theorem Asr (B5:1000<=fu){x:Me}(hm:0<=x.model):Ad C0 prog fu (d+8) O4 [.agg x.cells]=some ⟨Aqi x,[]⟩:=by
 refine (Zz fu (d+7) x.model x.ans.length (Dh x.ans) x.sts.length (Dw x.sts)).trans ?_;unfold Aqi;by_cases e1:4<x.ans.length
 ·have hb:Db x=8:=by unfold Db;rw[Co (.inl e1)]
  rw[hb,Bp (by omega)]
  try unfold Aa
  repeat first
   |((with_reducible first|apply As|apply Ao|apply Ar|apply Az|apply Be|apply Bo|apply Am|apply Au|apply At);· first|with_reducible rfl|(simp (disch:=omega) only[gT,Dc]<;>first|with_reducible rfl|omega)|omega)
   |(with_reducible apply Av;· first|with_reducible rfl|(simp (disch:=omega) only[gF,Dc]<;>omega))
  try simp (disch:=omega) only[Dc]
  all_goals rfl
 by_cases e2:4<x.sts.length
 ·have hb:Db x=8:=by unfold Db;rw[Co (.inr e2)]
  rw[hb,Bp (by omega)]
  try unfold Aa
  repeat first
   |((with_reducible first|apply As|apply Ao|apply Ar|apply Az|apply Be|apply Bo|apply Am|apply Au|apply At);· first|with_reducible rfl|(simp (disch:=omega) only[gT,Dc]<;>first|with_reducible rfl|omega)|omega)
   |(with_reducible apply Av;· first|with_reducible rfl|(simp (disch:=omega) only[gF,Dc]<;>omega))
  try simp (disch:=omega) only[Dc]
  all_goals rfl
 have l0:=A0p (fu:=fu) (d:=d) B5 (Ag:=x.model) (Br:=x.ans.length) (Ai:=Dh x.ans) (Bf:=x.sts.length) (Ay:=Dw x.sts) hm (by omega) (by omega) x.ans 0 fu rfl (by omega) (by omega) (fun h=>h) (fun a ha=>by cases ha)
 have ev:Gq ((x.ans.take 0).map C9)=[]:=rfl;have z0:((0:Nat):Int)=0:=rfl;have hb:Db x=if Dm x.ans≠0 then Dm x.ans else Ee none x.sts:=by unfold Db;rw[Bp (by omega)]
 have R:(if Db x=0 then [PV.own 3 (Bb x).length (Bd (Bb x)),.sc (.int .i64 0)] else [.own 3 0 [],.sc (.int .i64 (Db x))])=(if Dm x.ans=0 then (if Ee none x.sts=0 then [PV.own 3 (Bb x).length (Bd (Bb x)),.sc (.int .i64 0)] else [.own 3 0 [],.sc (.int .i64 (Ee none x.sts))]) else [.own 3 0 [],.sc (.int .i64 (Dm x.ans))]):=by
  rw[hb];by_cases h:Dm x.ans=0
  ·have e:(if Dm x.ans≠0 then Dm x.ans else Ee none x.sts)=Ee none x.sts:=Bp (by simp[h])
   rw[e,Co h]
  ·have e:(if Dm x.ans≠0 then Dm x.ans else Ee none x.sts)=Dm x.ans:=Co h
   rw[e,Bp h,Bp h]
 rw[R,←l0,ev,z0]
 try unfold Aa
 repeat first
  |((with_reducible first|apply As|apply Ao|apply Ar|apply Az|apply Be|apply Bo|apply Am|apply Au|apply At);· first|with_reducible rfl|(simp (disch:=omega) only[gT,Dc]<;>first|with_reducible rfl|omega)|omega)
  |(with_reducible apply Av;· first|with_reducible rfl|(simp (disch:=omega) only[gF,Dc]<;>omega))
 try simp (disch:=omega) only[Dc]
 all_goals rfl
end
end
section
open Go.Proofs.Tryz (prog)
open Go.IntKind (wrap)
set_option maxRecDepth 1000000
theorem Fs.len:∀{l:List It},Fs l->(Bx l).length<=41*l.length
 |[],_=>by simp[Bx]
 |x::l,h=>by
  have h1:=Aaf x;have h2:=(h x (by simp)).2.2
  have ih:=Fs.len (l:=l) (fun y hy=>h y (by simp[hy]))
  have e:Bx (x::l)=C7 x++Bx l:=rfl;rw[e,Hi,H5];omega
def Ia (m:Md):List PV:=if B0 m=0 then [.own 1 (Bx (Ba m)).length (Af .u8 (Bx (Ba m))),.sc (.int .i64 0)] else [.own 1 0 [],.sc (.int .i64 (B0 m))]
section
variable {fu d:Nat}
theorem A1s (B5:1000<=fu){Ag Ai Ay Cf:Int}{Bi Bk Bn:Nat}{Bv Cj Ci:List PV}{m:Md}(hw:m.wf)(h1:¬(m.ver<1∨16<m.ver)) (h2:¬(m.iss<0∨m.nxt<m.iss∨1099511627776<m.nxt)) (h3:m.ents.length<=16):∀(r:List Me)(i nn:Nat)(p:Option Int),m.ents.drop i=r->r.length<nn->i<=m.ents.length ->
  ((i=0∧p=none)∨∃x',0<i∧m.ents[i-1]?=some x'∧p=some x'.model)->(Dg p r=0->Dg none m.ents=0)->(∀x∈m.ents.take i,Db x=0) ->
  Jb fu (Ad C0 prog fu (d+8)) Ag Ai Ay Bi Bv Cf Bk Cj Bn Ci nn i m.ents.length (Ca m.ents) (m.ents.length:Int) (i:Int) m.ver m.iss m.nxt m.ents.length (Ca m.ents) m.sig.leaf m.sig.chains.length (Af .u64 m.sig.chains) m.sig.path.length (Af .u64 m.sig.path) (Gq ((m.ents.take i).map Bb)) =
   some ⟨(if Dg p r=0 then [.own 1 (Bx (Ba m)).length (Af .u8 (Bx (Ba m))),.sc (.int .i64 0)] else [.own 1 0 [],.sc (.int .i64 (Dg p r))]),[]⟩
 |_,_,0,_,_,h,_,_,_,_=>by omega
 |[],i,nn+1,p,hd,hn,hi,hp,hz,hk=>by
  have hl:=drop_nil hd;have ei:i=m.ents.length:=by omega
  have eall:m.ents.take i=m.ents:=Jq (by omega)
  rw[eall] at hk ⊢;have G0:Dg p []=0:=by unfold Dg;rfl
  have h0:=hz G0;have hm0:B0 m=0:=by unfold B0;rw[Bp h1,Bp h2,Bp (by omega),h0]
  rw[Co G0];obtain⟨ve,fe,le⟩:=Ahe h3 (fun x hx=>⟨hw.mod x hx,hk x hx⟩)
  obtain⟨vm,fm,lm⟩:=W6 hw hm0;have fl:=HV (f:=Bb) (k:=28) (l:=m.ents) (fun x hx=>(Up (hw.mod x hx) (hk x hx)).2.2)
  have ar:=GR (fu:=fu) (d:=d+2) B5 (k:=3) (by omega) (vs:=m.ents.map Bb) (fun v hv=>by
   obtain⟨x,hx,rfl⟩:=List.mem_map.1 hv;have:=Up (hw.mod x hx) (hk x hx);exact⟨this.1,by simp[Bb],by have:=this.2.2;omega⟩) (by rw[List.length_map];omega) (by omega)
  rw[List.length_map] at ar
  have ar4:Ad C0 prog fu (d+8) Ju [.lst false 1 4 [.lst false 3 1 (Bd [⟨1,m.ver,Ob⟩]),.lst false 3 1 (Bd [⟨1,m.iss,Ob⟩]),.lst false 3 1 (Bd [⟨1,m.nxt,Ob⟩]),.lst false 3 (Do (m.ents.map Bb)).length (Bd (Do (m.ents.map Bb)))]]=some ⟨[.own 3 (Ba m).length (Bd (Ba m)),.sc (.int .i64 0)],[]⟩:=GR (fu:=fu) (d:=d+2) B5 (k:=4) (by omega) (vs:=Ri m) (fun v hv=>by
   simp only[Ri,List.mem_cons,List.not_mem_nil,or_false] at hv;rcases hv with rfl|rfl|rfl|rfl
   ·exact⟨G9 (Jw (by omega)) 4,by simp,by simp⟩
   ·exact⟨G9 (Jw (by omega)) 4,by simp,by simp⟩
   ·exact⟨G9 (Jw (by omega)) 4,by simp,by simp⟩
   ·exact⟨ve,by simp[Do],by omega⟩) (by simp[Ri]) (by simp only[Ri,List.flatten_cons,List.flatten_nil,List.append_nil,Hi,List.length_singleton];omega)
  have en:=Aek (fu:=fu) (d:=d+3) B5 (l:=Ba m) (by omega) (by omega) (vm.goods (by omega) (by simp[Ba]) (by omega)) (fun x hx=>(fm x hx).1) (by have:=fm.len;omega)
  have u1:=Xy (fu:=fu) (d:=d+7) m.ver;have u2:=Xy (fu:=fu) (d:=d+7) m.iss;have u3:=Xy (fu:=fu) (d:=d+7) m.nxt;have w1:wrap .u64 m.ver=m.ver:=C3 (by omega) (by omega)
  have w2:wrap .u64 m.iss=m.iss:=C3 (by omega) (by omega)
  have w3:wrap .u64 m.nxt=m.nxt:=C3 (by omega) (by omega)
  have e00:((0:Int) != 0)=false:=rfl;have LV:(Gq (m.ents.map Bb)).length=m.ents.length:=by rw[W5,List.length_map]
  have tV:List.take m.ents.length (Gq (m.ents.map Bb))=Gq (m.ents.map Bb):=Jq (by omega)
  have LA:=Fj (Do (m.ents.map Bb));have LM:=Fj (Ba m);have tA:List.take ((Do (m.ents.map Bb)).length*3) (Bd (Do (m.ents.map Bb)))=Bd (Do (m.ents.map Bb)):=Jq (by omega)
  have tM:List.take ((Ba m).length*3) (Bd (Ba m))=Bd (Ba m):=Jq (by omega)
  have LB:=Aq .u8 (Bx (Ba m));have tB:=Nv .u8 (Bx (Ba m));have K1:List.take 3 (Bd [⟨1,m.ver,Ob⟩])=Bd [⟨1,m.ver,Ob⟩]:=rfl;have K2:List.take 3 (Bd [⟨1,m.iss,Ob⟩])=Bd [⟨1,m.iss,Ob⟩]:=rfl;have K3:List.take 3 (Bd [⟨1,m.nxt,Ob⟩])=Bd [⟨1,m.nxt,Ob⟩]:=rfl;have N1:(Bd [⟨1,m.ver,Ob⟩]).length=3:=rfl;have N2:(Bd [⟨1,m.iss,Ob⟩]).length=3:=rfl;have N3:(Bd [⟨1,m.nxt,Ob⟩]).length=3:=rfl;subst ei;rw[S4];generalize Bd [⟨1,m.ver,Ob⟩]=T1 at *
  generalize Bd [⟨1,m.iss,Ob⟩]=T2 at *
  generalize Bd [⟨1,m.nxt,Ob⟩]=T3 at *
  generalize Bx (Ba m)=B at *
  generalize Bd (Ba m)=TM at *
  generalize (Ba m).length=nM at *
  generalize Bd (Do (m.ents.map Bb))=TA at *
  generalize (Do (m.ents.map Bb)).length=nA at *
  generalize Gq (m.ents.map Bb)=TV at *
  try unfold Aa
  repeat first
   |((with_reducible first|apply As|apply Ao|apply Ar|apply Bo|apply Bg|apply Am|apply Au|apply At);· first|with_reducible rfl|(simp (disch:=omega) only[gT,LV,tV,ar,e00,u1,u2,u3,w1,w2,w3,K1,K2,K3,N1,N2,N3,LA,tA,ar4,LM,tM,en,LB,tB,Cv,Nat.one_mul,Dr,Dt,Dc,Hg]<;>first|with_reducible rfl|omega)|omega)
   |(with_reducible apply Av;· first|with_reducible rfl|(simp (disch:=omega) only[gF,LV,tV,ar,e00,u1,u2,u3,w1,w2,w3,K1,K2,K3,N1,N2,N3,LA,tA,ar4,LM,tM,en,LB,tB,Cv,Nat.one_mul,Dr,Dt,Dc,Hg]<;>omega))
  try simp (disch:=omega) only[LV,tV,ar,e00,u1,u2,u3,w1,w2,w3,K1,K2,K3,N1,N2,N3,LA,tA,ar4,LM,tM,en,LB,tB,Cv,Nat.one_mul,Dr,Dt,Dc,Hg]
  all_goals rfl
 |x::rs,i,nn+1,p,hd,hn,hi,hp,hz,hk=>by
  obtain⟨q1,q2,q3⟩:=Dk hd;simp only[H5] at hn;obtain⟨c0,c1,c2⟩:=mea q2;have c2':(Ca m.ents).getD (i*3+1+1) .top=.lst false 2 x.sts.length (Dw x.sts):=c2;have nt:Int.toNat (i:Int)=i:=Je _;have hxm:=hw.mod x (List.mem_of_getElem? q2);have en:=Asr (fu:=fu) (d:=d) B5 hxm;unfold Aqi at en;simp only[Me.cells] at en;have w:wrap .i64 ((i:Int)+1)=((i+1:Nat):Int):=by rw[Ap (by omega) (by omega)];omega
  have et:m.ents.take (i+1)=m.ents.take i++[x]:=by rw[List.take_add_one,q2];rfl
  have O1:Js none x=0:=rfl;have O0:∀q:Int,Js (some q) x=if x.model<=q then 7 else 0:=fun q=>rfl
  have LV:(Gq ((m.ents.take i).map Bb)).length=i:=by rw[W5,List.length_map,List.length_take];omega
  have tV:List.take i (Gq ((m.ents.take i).map Bb))=Gq ((m.ents.take i).map Bb):=Jq (by omega)
  have ea:Gq ((m.ents.take i).map Bb)++[.lst false 3 (Bb x).length (Bd (Bb x))]=Gq ((m.ents.take (i+1)).map Bb):=by
   rw[et,List.map_append,List.map_singleton];exact WP _ (Bb x)
  have LE:=Fj (Bb x);have tE:List.take ((Bb x).length*3) (Bd (Bb x))=Bd (Bb x):=Jq (by omega)
  have e00:((0:Int) != 0)=false:=rfl;have hgo:Js p x=0->Db x=0->Dg p (x::rs)=Dg (some x.model) rs:=fun h h'=>by rw[Dg,Bp (by simp[h]),Bp (by simp[h'])]
  have Ael:Js p x=0->Db x≠0->Dg p (x::rs)=Db x:=fun h h'=>by rw[Dg,Bp (by simp[h]),Co h']
  have A44:Js p x=7->Dg p (x::rs)=7:=fun h=>by rw[Dg,Co (by rw[h];omega),h]
  have ih:=fun (h:Js p x=0) (h':Db x=0)=>A1s B5 (Ag:=Ag) (Ai:=Ai) (Ay:=Ay) (Cf:=Cf) (Bi:=Bi) (Bk:=Bk) (Bn:=Bn) (Bv:=Bv) (Cj:=Cj) (Ci:=Ci) hw h1 h2 h3 rs (i+1) nn (some x.model) q3 (by omega) (by omega) (.inr ⟨x,by omega,by rw[Nat.add_sub_cancel];exact q2,rfl⟩) (fun e=>hz (by rw[hgo h h'];exact e)) (fun y hy=>by
   rw[et] at hy;rcases List.mem_append.1 hy with hy|hy
   ·exact hk y hy
   ·rw[List.mem_singleton.1 hy];exact h')
  rw[S4];rcases hp with⟨rfl,rfl⟩|⟨x',h0,h5,rfl⟩
  ·by_cases he:Db x=0
   ·rw[Co he] at en;have ih:=ih O1 he;rw[hgo O1 he,←ih];generalize Bd (Bb x)=TE at *
    generalize (Bb x).length=nE at *
    generalize Gq ((m.ents.take 0).map Bb)=TV at *
    generalize Gq ((m.ents.take (0+1)).map Bb)=TV' at *
    try unfold Aa
    repeat first
     |((with_reducible first|apply As|apply Ao|apply Ar|apply Bo|apply Bg|apply Am|apply Au|apply At);· first|with_reducible rfl|(simp (disch:=omega) only[gT,nt,c0,c1,c2',en,e00,LE,tE,LV,tV,ea,w,Cv,Dr,Dt]<;>first|with_reducible rfl|omega)|omega)
     |(with_reducible apply Av;· first|with_reducible rfl|(simp (disch:=omega) only[gF,nt,c0,c1,c2',en,e00,LE,tE,LV,tV,ea,w,Cv,Dr,Dt]<;>omega))
    try simp (disch:=omega) only[nt,c0,c1,c2',en,e00,LE,tE,LV,tV,ea,w,Cv,Dr,Dt]
    all_goals rfl
   ·rw[Bp he] at en;have Fu:(Db x != 0)=true:=by simp[he]
    rw[Ael O1 he,Bp he]
    try unfold Aa
    repeat first
     |((with_reducible first|apply As|apply Ao|apply Ar|apply Bo|apply Bg|apply Am|apply Au|apply At);· first|with_reducible rfl|(simp (disch:=omega) only[gT,nt,c0,c1,c2',en,Fu]<;>first|with_reducible rfl|omega)|omega)
     |(with_reducible apply Av;· first|with_reducible rfl|(simp (disch:=omega) only[gF,nt,c0,c1,c2',en,Fu]<;>omega))
    try simp (disch:=omega) only[nt,c0,c1,c2',en,Fu]
    all_goals rfl
  ·obtain⟨b0,b1,b2⟩:=mea h5;have b0':(Ca m.ents).getD ((i-1)*3+0) .top=.sc (.int .u64 x'.model):=b0;have wi:wrap .i64 ((i:Int)-1)=((i-1:Nat):Int):=by rw[Ap (by omega) (by omega)];omega
   have nt1:Int.toNat ((i-1:Nat):Int)=i-1:=Je _;by_cases ho:x.model<=x'.model
   ·have h7:Js (some x'.model) x=7:=by rw[O0,Co ho]
    rw[A44 h7,Bp (by omega)]
    try unfold Aa
    repeat first
     |((with_reducible first|apply As|apply Ao|apply Ar|apply Bo|apply Bg|apply Am|apply Au|apply At);· first|with_reducible rfl|(simp (disch:=omega) only[gT,nt,c0,c1,c2',wi,nt1,b0']<;>first|with_reducible rfl|omega)|omega)
     |(with_reducible apply Av;· first|with_reducible rfl|(simp (disch:=omega) only[gF,nt,c0,c1,c2',wi,nt1,b0']<;>omega))
    try simp (disch:=omega) only[nt,c0,c1,c2',wi,nt1,b0']
    all_goals rfl
   ·have h7:Js (some x'.model) x=0:=by rw[O0,Bp ho]
    by_cases he:Db x=0
    ·rw[Co he] at en;have ih:=ih h7 he;rw[hgo h7 he,←ih];generalize Bd (Bb x)=TE at *
     generalize (Bb x).length=nE at *
     generalize Gq ((m.ents.take i).map Bb)=TV at *
     generalize Gq ((m.ents.take (i+1)).map Bb)=TV' at *
     try unfold Aa
     repeat first
      |((with_reducible first|apply As|apply Ao|apply Ar|apply Bo|apply Bg|apply Am|apply Au|apply At);· first|with_reducible rfl|(simp (disch:=omega) only[gT,nt,c0,c1,c2',wi,nt1,b0',en,e00,LE,tE,LV,tV,ea,w,Cv,Dr,Dt]<;>first|with_reducible rfl|omega)|omega)
      |(with_reducible apply Av;· first|with_reducible rfl|(simp (disch:=omega) only[gF,nt,c0,c1,c2',wi,nt1,b0',en,e00,LE,tE,LV,tV,ea,w,Cv,Dr,Dt]<;>omega))
     try simp (disch:=omega) only[nt,c0,c1,c2',wi,nt1,b0',en,e00,LE,tE,LV,tV,ea,w,Cv,Dr,Dt]
     all_goals rfl
    ·rw[Bp he] at en;have Fu:(Db x != 0)=true:=by simp[he]
     rw[Ael h7 he,Bp he]
     try unfold Aa
     repeat first
      |((with_reducible first|apply As|apply Ao|apply Ar|apply Bo|apply Bg|apply Am|apply Au|apply At);· first|with_reducible rfl|(simp (disch:=omega) only[gT,nt,c0,c1,c2',wi,nt1,b0',en,Fu]<;>first|with_reducible rfl|omega)|omega)
      |(with_reducible apply Av;· first|with_reducible rfl|(simp (disch:=omega) only[gF,nt,c0,c1,c2',wi,nt1,b0',en,Fu]<;>omega))
     try simp (disch:=omega) only[nt,c0,c1,c2',wi,nt1,b0',en,Fu]
     all_goals rfl
theorem VV (B5:1000<=fu){m:Md}(hw:m.wf):Ad C0 prog fu (d+9) Zm [.agg m.cells]=some ⟨Ia m,[]⟩:=by
 refine (QW fu (d+8) m.ver m.iss m.nxt m.ents.length (Ca m.ents) m.sig.leaf m.sig.chains.length (Af .u64 m.sig.chains) m.sig.path.length (Af .u64 m.sig.path)).trans ?_;have bad:∀{e:Int},B0 m=e->e≠0->some (A4.mk [.own 1 0 [],.sc (.int .i64 e)] [])=some (A4.mk (Ia m) []):=fun {e} h he=>by unfold Ia;rw[h,Bp he]
 by_cases h1:m.ver<1∨16<m.ver
 ·have hb:B0 m=9:=by unfold B0;rw[Co h1]
  rw[←bad hb (by omega)]
  by_cases ZM:m.ver<1
  ·skip
   try unfold Aa
   repeat first
    |((with_reducible first|apply As|apply Ao|apply Ar|apply Bo|apply Bg|apply Am|apply Au|apply At);· first|with_reducible rfl|(simp (disch:=omega) only[gT,Dc]<;>first|with_reducible rfl|omega)|omega)
    |(with_reducible apply Av;· first|with_reducible rfl|(simp (disch:=omega) only[gF,Dc]<;>omega))
   try simp (disch:=omega) only[Dc]
   all_goals rfl
  ·skip
   try unfold Aa
   repeat first
    |((with_reducible first|apply As|apply Ao|apply Ar|apply Bo|apply Bg|apply Am|apply Au|apply At);· first|with_reducible rfl|(simp (disch:=omega) only[gT,Dc]<;>first|with_reducible rfl|omega)|omega)
    |(with_reducible apply Av;· first|with_reducible rfl|(simp (disch:=omega) only[gF,Dc]<;>omega))
   try simp (disch:=omega) only[Dc]
   all_goals rfl
 by_cases h2:m.iss<0∨m.nxt<m.iss∨1099511627776<m.nxt
 ·have hb:B0 m=9:=by unfold B0;rw[Bp h1,Co h2]
  rw[←bad hb (by omega)]
  by_cases h2':m.iss<0
  ·skip
   try unfold Aa
   repeat first
    |((with_reducible first|apply As|apply Ao|apply Ar|apply Bo|apply Bg|apply Am|apply Au|apply At);· first|with_reducible rfl|(simp (disch:=omega) only[gT,Dc]<;>first|with_reducible rfl|omega)|omega)
    |(with_reducible apply Av;· first|with_reducible rfl|(simp (disch:=omega) only[gF,Dc]<;>omega))
   try simp (disch:=omega) only[Dc]
   all_goals rfl
  by_cases Bc3:m.nxt<m.iss
  ·skip
   try unfold Aa
   repeat first
    |((with_reducible first|apply As|apply Ao|apply Ar|apply Bo|apply Bg|apply Am|apply Au|apply At);· first|with_reducible rfl|(simp (disch:=omega) only[gT,Dc]<;>first|with_reducible rfl|omega)|omega)
    |(with_reducible apply Av;· first|with_reducible rfl|(simp (disch:=omega) only[gF,Dc]<;>omega))
   try simp (disch:=omega) only[Dc]
   all_goals rfl
  ·skip
   try unfold Aa
   repeat first
    |((with_reducible first|apply As|apply Ao|apply Ar|apply Bo|apply Bg|apply Am|apply Au|apply At);· first|with_reducible rfl|(simp (disch:=omega) only[gT,Dc]<;>first|with_reducible rfl|omega)|omega)
    |(with_reducible apply Av;· first|with_reducible rfl|(simp (disch:=omega) only[gF,Dc]<;>omega))
   try simp (disch:=omega) only[Dc]
   all_goals rfl
 by_cases h3:16<m.ents.length
 ·have hb:B0 m=8:=by unfold B0;rw[Bp h1,Bp h2,Co h3]
  rw[←bad hb (by omega)]
  try unfold Aa
  repeat first
   |((with_reducible first|apply As|apply Ao|apply Ar|apply Bo|apply Bg|apply Am|apply Au|apply At);· first|with_reducible rfl|(simp (disch:=omega) only[gT,Dc]<;>first|with_reducible rfl|omega)|omega)
   |(with_reducible apply Av;· first|with_reducible rfl|(simp (disch:=omega) only[gF,Dc]<;>omega))
  try simp (disch:=omega) only[Dc]
  all_goals rfl
 have hb:B0 m=Dg none m.ents:=by unfold B0;rw[Bp h1,Bp h2,Bp h3]
 have l0:=A1s (fu:=fu) (d:=d) B5 (Ag:=m.ver) (Ai:=m.iss) (Ay:=m.nxt) (Bi:=m.ents.length) (Bv:=Ca m.ents) (Cf:=m.sig.leaf) (Bk:=m.sig.chains.length) (Cj:=Af .u64 m.sig.chains) (Bn:=m.sig.path.length) (Ci:=Af .u64 m.sig.path) hw h1 h2 (by omega) m.ents 0 fu none rfl (by omega) (by omega) (.inl ⟨rfl,rfl⟩) (fun h=>h) (fun x hx=>by cases hx)
 have ev:Gq ((m.ents.take 0).map Bb)=[]:=rfl;have z0:((0:Nat):Int)=0:=rfl;rw[ev,z0] at l0;unfold Ia;rw[hb,←l0]
 try unfold Aa
 repeat first
  |((with_reducible first|apply As|apply Ao|apply Ar|apply Bo|apply Bg|apply Am|apply Au|apply At);· first|with_reducible rfl|(simp (disch:=omega) only[gT,Dc]<;>first|with_reducible rfl|omega)|omega)
  |(with_reducible apply Av;· first|with_reducible rfl|(simp (disch:=omega) only[gF,Dc]<;>omega))
 try simp (disch:=omega) only[Dc]
 all_goals rfl
end
end
section
open Go.Proofs.Tryz (prog)
open Go.IntKind (wrap)
set_option maxRecDepth 1000000
def Tw (m:Md):Int:=Rm 15 (Bx (Ba m))
def Afn (m:Md)(k:Ky):Int:=if B0 m=0 then (if m.sig.leaf≠m.ver-1 then 33 else Anw k (Tw m) m.sig) else B0 m
def Ej (m:Md):Int:=if B0 m=0 then NN m.sig else B0 m
def Gy (m:Md):List Int:=Bx (Ba m)++To m.sig
def Vf (m:Md):List PV:=if Ej m=0 then [.own 1 (Gy m).length (Af .u8 (Gy m)),.sc (.int .i64 0)] else [.own 1 0 [],.sc (.int .i64 (Ej m))]
def KZ (m:Md):List PV:=if B0 m=0 then [.sc (.int .u64 (Tw m)),.sc (.int .i64 0)] else [.sc (.int .u64 0),.sc (.int .i64 (B0 m))]
def NG:Md:=⟨0,0,0,[],⟨0,[],[]⟩⟩
def Pe (m:Md)(seed h:Int):Md × Int:=
 if B0 m=0 then (match JY seed h (m.ver-1) (Tw m) with|some s=>({ m with sig:=s },0)|none=>(NG,9)) else (NG,B0 m)
theorem We {m:Md}(hw:m.wf)(h:B0 m=0):(Bx (Ba m)).length<=18573:=by
 obtain⟨_,f,l⟩:=W6 hw h;have:=f.len;omega
theorem SC {m:Md}(hw:m.wf)(h:B0 m=0):M3 (Bx (Ba m)):=by
 obtain⟨_,f,_⟩:=W6 hw h;intro y hy;obtain⟨x,hx,hy⟩:=List.mem_flatMap.1 hy;have:=(f x hx).1;exact Alc this.k1 this.k8 this.n0 y hy
section
variable {fu d:Nat} {m:Md}
theorem Ahu (B5:20000<=fu)(hw:m.wf):Ad C0 prog fu (d+10) Zk [.agg m.cells]=some ⟨KZ m,[]⟩:=by
 refine (QK fu (d+9) m.ver m.iss m.nxt m.ents.length (Ca m.ents) m.sig.leaf m.sig.chains.length (Af .u64 m.sig.chains) m.sig.path.length (Af .u64 m.sig.path)).trans ?_;have bq:=VV (fu:=fu) (d:=d) (by omega) hw
 simp only[Md.cells] at bq;unfold Ia at bq;unfold KZ;by_cases h0:B0 m=0
 ·have lb:=We hw h0;rw[Co h0] at bq;rw[Co h0];have e00:((0:Int) != 0)=false:=rfl;have hh:=Amt (xs:=Ni) (fu:=fu) (d:=d+4) (SC hw h0) (by omega) (by omega) (by omega) 15
  have eW:Rm 15 (Bx (Ba m))=Tw m:=rfl;rw[eW] at hh;have L1:=Aq .u8 (Bx (Ba m));have t1:=Nv .u8 (Bx (Ba m));generalize (Bx (Ba m)).length=n1 at *
  generalize Af .u8 (Bx (Ba m))=c1 at *
  try unfold Aa
  repeat first
   |((with_reducible first|apply As|apply Ao|apply Ar|apply Bo|apply Bg|apply A9|apply Am|apply Au|apply At);· first|with_reducible rfl|(simp (disch:=omega) only[gT,bq,e00,Dr,Cv,Dt,L1,t1,hh]<;>first|with_reducible rfl|omega)|omega)
   |(with_reducible apply Av;· first|with_reducible rfl|(simp (disch:=omega) only[gF,bq,e00,Dr,Cv,Dt,L1,t1,hh]<;>omega))
  try simp (disch:=omega) only[bq,e00,Dr,Cv,Dt,L1,t1,hh]
  all_goals rfl
 ·have Fu:(B0 m != 0)=true:=by simp[h0]
  rw[Bp h0] at bq;rw[Bp h0]
  try unfold Aa
  repeat first
   |((with_reducible first|apply As|apply Ao|apply Ar|apply Bo|apply Bg|apply A9|apply Am|apply Au|apply At);· first|with_reducible rfl|(simp (disch:=omega) only[gT,bq,Fu]<;>first|with_reducible rfl|omega)|omega)
   |(with_reducible apply Av;· first|with_reducible rfl|(simp (disch:=omega) only[gF,bq,Fu]<;>omega))
  try simp (disch:=omega) only[bq,Fu]
  all_goals rfl
theorem Ayu (B5:20000<=fu)(hw:m.wf)(k:Ky):Ad C0 prog fu (d+11) Uz [.agg m.cells,.agg k.cells]=some ⟨[.sc (.int .i64 (Afn m k))],[]⟩:=by
 refine (KD fu (d+10) m.ver m.iss m.nxt m.ents.length (Ca m.ents) m.sig.leaf m.sig.chains.length (Af .u64 m.sig.chains) m.sig.path.length (Af .u64 m.sig.path) k.h k.root).trans ?_;have bq:=Ahu (fu:=fu) (d:=d) B5 hw;simp only[Md.cells] at bq;unfold KZ at bq;unfold Afn;by_cases h0:B0 m=0
 ·rw[Co h0] at bq;rw[Co h0];have hv:=P2 h0;have e00:((0:Int) != 0)=false:=rfl;have w:wrap .i64 (m.ver-1)=m.ver-1:=Ap (by omega) (by omega)
  by_cases h1:m.sig.leaf≠m.ver-1
  ·have hn:(m.sig.leaf != m.ver-1)=true:=by simp[h1]
   rw[Co h1]
   try unfold Aa
   repeat first
    |((with_reducible first|apply As|apply Ao|apply Ar|apply Bo|apply Bg|apply A9|apply Am|apply Au|apply At);· first|with_reducible rfl|(simp (disch:=omega) only[gT,bq,e00,w,hn]<;>first|with_reducible rfl|omega)|omega)
    |(with_reducible apply Av;· first|with_reducible rfl|(simp (disch:=omega) only[gF,bq,e00,w,hn]<;>omega))
   try simp (disch:=omega) only[bq,e00,w,hn]
   all_goals rfl
  ·have hn:(m.sig.leaf != m.ver-1)=false:=by simp only[ne_eq,Decidable.not_not] at h1;simp[h1]
   rw[Bp h1];have vr:=Ant (xs:=Ni) (fu:=fu) (d:=d+2) (by omega) k (Tw m) m.sig
   simp only[Ky.cells,Sg.cells] at vr
   try unfold Aa
   repeat first
    |((with_reducible first|apply As|apply Ao|apply Ar|apply Bo|apply Bg|apply A9|apply Am|apply Au|apply At);· first|with_reducible rfl|(simp (disch:=omega) only[gT,bq,e00,w,hn,vr]<;>first|with_reducible rfl|omega)|omega)
    |(with_reducible apply Av;· first|with_reducible rfl|(simp (disch:=omega) only[gF,bq,e00,w,hn,vr]<;>omega))
   try simp (disch:=omega) only[bq,e00,w,hn,vr]
   all_goals rfl
 ·have Fu:(B0 m != 0)=true:=by simp[h0]
  rw[Bp h0] at bq;rw[Bp h0]
  try unfold Aa
  repeat first
   |((with_reducible first|apply As|apply Ao|apply Ar|apply Bo|apply Bg|apply A9|apply Am|apply Au|apply At);· first|with_reducible rfl|(simp (disch:=omega) only[gT,bq,Fu]<;>first|with_reducible rfl|omega)|omega)
   |(with_reducible apply Av;· first|with_reducible rfl|(simp (disch:=omega) only[gF,bq,Fu]<;>omega))
  try simp (disch:=omega) only[bq,Fu]
  all_goals rfl
theorem Adc (B5:20000<=fu)(hw:m.wf)(hp:m.sig.path.length<=1000000000)(hf:m.sig.path.length<fu):Ad C0 prog fu (d+10) Ux [.agg m.cells]=some ⟨Vf m,[]⟩:=by
 refine (JW fu (d+9) m.ver m.iss m.nxt m.ents.length (Ca m.ents) m.sig.leaf m.sig.chains.length (Af .u64 m.sig.chains) m.sig.path.length (Af .u64 m.sig.path)).trans ?_;have bq:=VV (fu:=fu) (d:=d) (by omega) hw
 simp only[Md.cells] at bq;have es:=Api (xs:=Ni) (fu:=fu) (d:=d+7) (by omega) m.sig hp hf
 simp only[Sg.cells] at es;unfold Ia at bq;unfold Vf Ej;by_cases h0:B0 m=0
 ·have lb:=We hw h0;rw[Co h0] at bq;rw[Co h0];have L1:=Aq .u8 (Bx (Ba m));have t1:=Nv .u8 (Bx (Ba m));have e00:((0:Int) != 0)=false:=rfl;have e90:((9:Int) != 0)=true:=rfl;have e40:((4:Int) != 0)=true:=rfl;unfold NN;by_cases g1:D8 m.sig.path.length=true
  ·rw[Co g1] at es;rw[Co g1,Bp (by omega)]
   try unfold Aa
   repeat first
    |((with_reducible first|apply As|apply Ao|apply Ar|apply Bo|apply Bg|apply A9|apply Am|apply Au|apply At);· first|with_reducible rfl|(simp (disch:=omega) only[gT,bq,es,e00,e90]<;>first|with_reducible rfl|omega)|omega)
    |(with_reducible apply Av;· first|with_reducible rfl|(simp (disch:=omega) only[gF,bq,es,e00,e90]<;>omega))
   try simp (disch:=omega) only[bq,es,e00,e90]
   all_goals rfl
  rw[Bp g1] at es;rw[Bp g1];by_cases g2:J1 m.sig.leaf m.sig.path.length=true
  ·rw[Co g2] at es;rw[Co g2,Bp (by omega)]
   try unfold Aa
   repeat first
    |((with_reducible first|apply As|apply Ao|apply Ar|apply Bo|apply Bg|apply A9|apply Am|apply Au|apply At);· first|with_reducible rfl|(simp (disch:=omega) only[gT,bq,es,e00,e90]<;>first|with_reducible rfl|omega)|omega)
    |(with_reducible apply Av;· first|with_reducible rfl|(simp (disch:=omega) only[gF,bq,es,e00,e90]<;>omega))
   try simp (disch:=omega) only[bq,es,e00,e90]
   all_goals rfl
  rw[Bp g2] at es;rw[Bp g2];by_cases g3:m.sig.chains.length≠18
  ·rw[Co g3] at es;rw[Co g3,Bp (by omega)]
   try unfold Aa
   repeat first
    |((with_reducible first|apply As|apply Ao|apply Ar|apply Bo|apply Bg|apply A9|apply Am|apply Au|apply At);· first|with_reducible rfl|(simp (disch:=omega) only[gT,bq,es,e00,e40]<;>first|with_reducible rfl|omega)|omega)
    |(with_reducible apply Av;· first|with_reducible rfl|(simp (disch:=omega) only[gF,bq,es,e00,e40]<;>omega))
   try simp (disch:=omega) only[bq,es,e00,e40]
   all_goals rfl
  rw[Bp g3] at es;rw[Bp g3,Co rfl];have hb4:=Jo (h:=m.sig.path.length) (by simpa using g1)
  have ls:(To m.sig).length=2+8*m.sig.chains.length+8*m.sig.path.length:=by
   unfold To;simp only[H5,Hi,Dq];omega
  have L2:=Aq .u8 (To m.sig);have t2:=Nv .u8 (To m.sig)
  have ea:Af .u8 (Bx (Ba m))++Af .u8 (To m.sig)=Af .u8 (Gy m):=by
   unfold Gy;rw[Af,Af,Af,List.flatMap_append]
  have le:(Gy m).length=(Bx (Ba m)).length+(To m.sig).length:=by unfold Gy;rw[Hi]
  have L3:=Aq .u8 (Gy m);have t3:List.take ((Bx (Ba m)).length+(To m.sig).length) (Af .u8 (Gy m))=Af .u8 (Gy m):=Jq (by omega)
  rw[le] at L3 ⊢;generalize (Bx (Ba m)).length=n1 at *
  generalize (To m.sig).length=n2 at *
  generalize Af .u8 (Bx (Ba m))=c1 at *
  generalize Af .u8 (To m.sig)=c2 at *
  try unfold Aa
  repeat first
   |((with_reducible first|apply As|apply Ao|apply Ar|apply Bo|apply Bg|apply A9|apply Am|apply Au|apply At);· first|with_reducible rfl|(simp (disch:=omega) only[gT,bq,es,e00,Dr,Cv,Dt,L1,t1,L2,t2,ea,L3,t3]<;>first|with_reducible rfl|omega)|omega)
   |(with_reducible apply Av;· first|with_reducible rfl|(simp (disch:=omega) only[gF,bq,es,e00,Dr,Cv,Dt,L1,t1,L2,t2,ea,L3,t3]<;>omega))
  try simp (disch:=omega) only[bq,es,e00,Dr,Cv,Dt,L1,t1,L2,t2,ea,L3,t3]
  all_goals rfl
 ·have Fu:(B0 m != 0)=true:=by simp[h0]
  rw[Bp h0] at bq;rw[Bp h0,Bp h0]
  try unfold Aa
  repeat first
   |((with_reducible first|apply As|apply Ao|apply Ar|apply Bo|apply Bg|apply A9|apply Am|apply Au|apply At);· first|with_reducible rfl|(simp (disch:=omega) only[gT,bq,Fu]<;>first|with_reducible rfl|omega)|omega)
   |(with_reducible apply Av;· first|with_reducible rfl|(simp (disch:=omega) only[gF,bq,Fu]<;>omega))
  try simp (disch:=omega) only[bq,Fu]
  all_goals rfl
theorem Ao1 {l:List An}(hl:l.length<=1000000):Ad C0 prog fu (d+1) Kd [.lst false 3 l.length (Dh l)]=some ⟨[.lst false 3 l.length (Dh l)],[]⟩:=by
 refine (O5 fu d l.length (Dh l)).trans ?_;have L:=Sq l;have t:List.take (l.length*3) (Dh l)=Dh l:=Jq (by omega)
 by_cases h:0<l.length
 ·skip
  try unfold Aa
  repeat first
   |((with_reducible first|apply As|apply Ao|apply Ar|apply Bo|apply Bg|apply A9|apply Am|apply Au|apply At);· first|with_reducible rfl|(simp (disch:=omega) only[gT,L,t,ZG,Cv,Dt]<;>first|with_reducible rfl|omega)|omega)
   |(with_reducible apply Av;· first|with_reducible rfl|(simp (disch:=omega) only[gF,L,t,ZG,Cv,Dt]<;>omega))
  try simp (disch:=omega) only[L,t,ZG,Cv,Dt]
  all_goals rfl
 ·have h0:l=[]:=List.eq_nil_of_length_eq_zero (by omega)
  subst h0;rw[Eh _ _ _ (by simp)]
  exact RW _
theorem Aod {l:List Sa}(hl:l.length<=1000000):Ad C0 prog fu (d+1) Ke [.lst false 2 l.length (Dw l)]=some ⟨[.lst false 2 l.length (Dw l)],[]⟩:=by
 refine (Ph fu d l.length (Dw l)).trans ?_;have L:=DV l;have t:List.take (l.length*2) (Dw l)=Dw l:=Jq (by omega)
 by_cases h:0<l.length
 ·skip
  try unfold Aa
  repeat first
   |((with_reducible first|apply As|apply Ao|apply Ar|apply Bo|apply Bg|apply A9|apply Am|apply Au|apply At);· first|with_reducible rfl|(simp (disch:=omega) only[gT,L,t,ZG,Cv,Dt]<;>first|with_reducible rfl|omega)|omega)
   |(with_reducible apply Av;· first|with_reducible rfl|(simp (disch:=omega) only[gF,L,t,ZG,Cv,Dt]<;>omega))
  try simp (disch:=omega) only[L,t,ZG,Cv,Dt]
  all_goals rfl
 ·have h0:l=[]:=List.eq_nil_of_length_eq_zero (by omega)
  subst h0;rw[Eh _ _ _ (by simp)]
  exact RW _
theorem Atl {x:Me}(h1:x.ans.length<=1000000)(h2:x.sts.length<=1000000):Ad C0 prog fu (d+2) Kx [.agg x.cells]=some ⟨[.agg x.cells],[]⟩:=by
 refine (Qn fu (d+1) x.model x.ans.length (Dh x.ans) x.sts.length (Dw x.sts)).trans ?_;have c1:=Ao1 (fu:=fu) (d:=d) h1;have c2:=Aod (fu:=fu) (d:=d) h2
 try unfold Aa
 repeat first
  |((with_reducible first|apply As|apply Ao|apply Ar|apply Bo|apply Bg|apply A9|apply Am|apply Au|apply At);· first|with_reducible rfl|(simp (disch:=omega) only[gT,c1,c2]<;>first|with_reducible rfl|omega)|omega)
  |(with_reducible apply Av;· first|with_reducible rfl|(simp (disch:=omega) only[gF,c1,c2]<;>omega))
 try simp (disch:=omega) only[c1,c2]
 all_goals rfl
theorem DP (a:List Me)(x:Me):Ca a++[.sc (.int .u64 x.model),.lst false 3 x.ans.length (Dh x.ans),.lst false 2 x.sts.length (Dw x.sts)]=Ca (a++[x]):=by
 unfold Ca;rw[List.flatMap_append,List.flatMap_cons,List.flatMap_nil,List.append_nil];rfl
theorem Amk {Ag Ai Ay Cf a1 a2:Int}{Bi Bk Bn:Nat}{Bv Cj Ci:List PV}{s:Sg}(h3:m.ents.length<=16)(h4:∀x∈m.ents,x.ans.length<=4∧x.sts.length<=4):∀(r:List Me)(i nn:Nat),m.ents.drop i=r->r.length<nn->i<=m.ents.length ->
  Lt fu (Ad C0 prog fu (d+2)) Ag Ai Ay Bi Bv Cf Bk Cj Bn Ci a1 a2 nn i m.ents.length (Ca m.ents) (m.ents.length:Int) (i:Int) m.ver m.iss m.nxt m.ents.length (Ca m.ents) m.sig.leaf m.sig.chains.length (Af .u64 m.sig.chains) m.sig.path.length (Af .u64 m.sig.path) 0 0 0 0 0 0 0 [] [] [] s.leaf s.chains.length (Af .u64 s.chains) s.path.length (Af .u64 s.path) (Ca (m.ents.take i)) =
   some ⟨[.agg ({ m with sig:=s }:Md).cells,.sc (.int .i64 0)],[]⟩
 |_,_,0,_,h,_=>by omega
 |[],i,nn+1,hd,hn,hi=>by
  have hl:=drop_nil hd;have ei:i=m.ents.length:=by omega
  have eall:m.ents.take i=m.ents:=Jq (by omega)
  rw[eall];subst ei;have L:=Pi m.ents;have t:List.take (m.ents.length*3) (Ca m.ents)=Ca m.ents:=Jq (by omega)
  rw[Th]
  try unfold Aa
  repeat first
   |((with_reducible first|apply As|apply Ao|apply Ar|apply Bo|apply Bg|apply A9|apply Am|apply Au|apply At);· first|with_reducible rfl|(simp (disch:=omega) only[gT,L,t,Cv,Dt]<;>first|with_reducible rfl|omega)|omega)
   |(with_reducible apply Av;· first|with_reducible rfl|(simp (disch:=omega) only[gF,L,t,Cv,Dt]<;>omega))
  try simp (disch:=omega) only[L,t,Cv,Dt]
  all_goals rfl
 |x::rs,i,nn+1,hd,hn,hi=>by
  obtain⟨q1,q2,q3⟩:=Dk hd;simp only[H5] at hn;obtain⟨c0,c1,c2⟩:=mea q2;have c2':(Ca m.ents).getD (i*3+1+1) .top=.lst false 2 x.sts.length (Dw x.sts):=c2;have hx:=h4 x (List.mem_of_getElem? q2);have nt:Int.toNat (i:Int)=i:=Je _;have w:wrap .i64 ((i:Int)+1)=((i+1:Nat):Int):=by rw[Ap (by omega) (by omega)];omega
  have et:m.ents.take (i+1)=m.ents.take i++[x]:=by rw[List.take_add_one,q2];rfl
  have cp:=Atl (fu:=fu) (d:=d) (x:=x) (by omega) (by omega)
  simp only[Me.cells] at cp;have lt:(m.ents.take i).length=i:=by rw[List.length_take];omega
  have L:(Ca (m.ents.take i)).length=i*3:=by rw[Pi,lt]
  have t:List.take (i*3) (Ca (m.ents.take i))=Ca (m.ents.take i):=Jq (by omega)
  have ea:=DP (m.ents.take i) x;rw[←et] at ea;have ih:=Amk (Ag:=Ag) (Ai:=Ai) (Ay:=Ay) (Cf:=Cf) (a1:=a1) (a2:=a2) (Bi:=Bi) (Bk:=Bk) (Bn:=Bn) (Bv:=Bv) (Cj:=Cj) (Ci:=Ci) (s:=s) h3 h4 rs (i+1) nn q3 (by omega) (by omega)
  rw[←ih,Th];generalize Ca (m.ents.take i)=E1 at *
  generalize Ca (m.ents.take (i+1))=E2 at *
  try unfold Aa
  repeat first
   |((with_reducible first|apply As|apply Ao|apply Ar|apply Bo|apply Bg|apply A9|apply Am|apply Au|apply At);· first|with_reducible rfl|(simp (disch:=omega) only[gT,nt,c0,c1,c2',cp,L,t,ea,w]<;>first|with_reducible rfl|omega)|omega)
   |(with_reducible apply Av;· first|with_reducible rfl|(simp (disch:=omega) only[gF,nt,c0,c1,c2',cp,L,t,ea,w]<;>omega))
  try simp (disch:=omega) only[nt,c0,c1,c2',cp,L,t,ea,w]
  all_goals rfl
theorem Axy (seed h leaf w:Int):Ad C0 prog fu (d+1) 36 [.sc (.int .u64 seed),.sc (.int .i64 h),.sc (.int .i64 leaf),.sc (.int .u64 w)] =
  some ⟨[.agg [.sc (.int .i64 (tkL h leaf)),.lst false 1 (tkC seed h leaf w).length (Af .u64 (tkC seed h leaf w)),.lst false 1 (tkP seed h leaf).length (Af .u64 (tkP seed h leaf))],.sc (.int .i64 (tkE h leaf))],[]⟩:=by kernel_rfl
theorem Ayk (seed h leaf w:Int):(JY seed h leaf w=none∧tkE h leaf=9)∨(JY seed h leaf w=some ⟨tkL h leaf,tkC seed h leaf w,tkP seed h leaf⟩∧tkE h leaf=0):=by
 unfold JY tkE tkL tkC tkP WZ;cases D8 h
 ·cases J1 leaf h
  ·exact .inr ⟨rfl,rfl⟩
  ·exact .inl ⟨rfl,rfl⟩
 ·exact .inl ⟨rfl,rfl⟩
theorem Ae7 {p:Option Int}:∀{l:List Me},(∀x∈l,Db x=0)->∀x∈l,x.ans.length<=4∧x.sts.length<=4:=fun h x hx=>⟨(W0 (h x hx)).1,(W0 (h x hx)).2.1⟩
theorem Ar8 (B5:20000<=fu)(hw:m.wf)(seed h:Int):Ad C0 prog fu (d+11) Rg [.agg m.cells,.sc (.int .u64 seed),.sc (.int .i64 h)]=some ⟨[.agg (Pe m seed h).1.cells,.sc (.int .i64 (Pe m seed h).2)],[]⟩:=by
 refine (RB fu (d+10) m.ver m.iss m.nxt m.ents.length (Ca m.ents) m.sig.leaf m.sig.chains.length (Af .u64 m.sig.chains) m.sig.path.length (Af .u64 m.sig.path) seed h).trans ?_;have bq:=Ahu (fu:=fu) (d:=d) B5 hw;simp only[Md.cells] at bq;unfold KZ at bq;unfold Pe;by_cases h0:B0 m=0
 ·rw[Co h0] at bq;rw[Co h0];have hv:=P2 h0;have e00:((0:Int) != 0)=false:=rfl;have e90:((9:Int) != 0)=true:=rfl;have w:wrap .i64 (m.ver-1)=m.ver-1:=Ap (by omega) (by omega)
  have tk:=Axy (fu:=fu) (d:=d+9) seed h (m.ver-1) (Tw m);have La:=Aq .u64 (tkC seed h (m.ver-1) (Tw m));have Lb:=Aq .u64 (tkP seed h (m.ver-1));rcases Ayk seed h (m.ver-1) (Tw m) with⟨hs,he⟩|⟨hs,he⟩
  ·rw[hs];rw[he] at tk
   try unfold Aa
   repeat first
    |((with_reducible first|apply As|apply Ao|apply Ar|apply Bo|apply Bg|apply A9|apply Am|apply Au|apply At);· first|with_reducible rfl|(simp (disch:=omega) only[gT,bq,e00,e90,w,tk]<;>first|with_reducible rfl|omega)|omega)
    |(with_reducible apply Av;· first|with_reducible rfl|(simp (disch:=omega) only[gF,bq,e00,e90,w,tk]<;>omega))
   try simp (disch:=omega) only[bq,e00,e90,w,tk]
   all_goals rfl
  ·rw[hs];rw[he] at tk;have sl:=Amk (fu:=fu) (d:=d+8) (m:=m) (Ag:=m.ver) (Ai:=m.iss) (Ay:=m.nxt) (Cf:=m.sig.leaf) (a1:=seed) (a2:=h) (Bi:=m.ents.length) (Bk:=m.sig.chains.length) (Bn:=m.sig.path.length) (Bv:=Ca m.ents) (Cj:=Af .u64 m.sig.chains) (Ci:=Af .u64 m.sig.path) (s:=⟨tkL h (m.ver-1),tkC seed h (m.ver-1) (Tw m),tkP seed h (m.ver-1)⟩) (by omega) (Ae7 (p:=none) (Su hv.2.2.2.2.2.2)) m.ents 0 fu rfl (by omega) (by omega)
   have ev:Ca (m.ents.take 0)=[]:=rfl;have z0:((0:Nat):Int)=0:=rfl;rw[ev,z0] at sl;simp only;rw[←sl]
   try unfold Aa
   repeat first
    |((with_reducible first|apply As|apply Ao|apply Ar|apply Bo|apply Bg|apply A9|apply Am|apply Au|apply At);· first|with_reducible rfl|(simp (disch:=omega) only[gT,bq,e00,e90,w,tk]<;>first|with_reducible rfl|omega)|omega)
    |(with_reducible apply Av;· first|with_reducible rfl|(simp (disch:=omega) only[gF,bq,e00,e90,w,tk]<;>omega))
   try simp (disch:=omega) only[bq,e00,e90,w,tk]
   all_goals rfl
 ·have Fu:(B0 m != 0)=true:=by simp[h0]
  rw[Bp h0] at bq;rw[Bp h0]
  try unfold Aa
  repeat first
   |((with_reducible first|apply As|apply Ao|apply Ar|apply Bo|apply Bg|apply A9|apply Am|apply Au|apply At);· first|with_reducible rfl|(simp (disch:=omega) only[gT,bq,Fu]<;>first|with_reducible rfl|omega)|omega)
   |(with_reducible apply Av;· first|with_reducible rfl|(simp (disch:=omega) only[gF,bq,Fu]<;>omega))
  try simp (disch:=omega) only[bq,Fu]
  all_goals rfl
end
end
section
open Go.Proofs.Tryz (prog)
open Go.IntKind (wrap)
set_option maxRecDepth 100000
abbrev Qo:FuncId:=95
theorem BH (fu d:Nat)(a0:ByteArray):Ad C0 prog fu (d+1) Qo [.sc (.string a0)]=(fun (call:Ah)=>Bm (decide ((↑(ByteArray.size a0):Int)<1)) (some (A4.mk [.sc (.int .i64 9)] [])) (Bm (decide ((↑(ByteArray.size a0):Int)>32)) (some (A4.mk [.sc (.int .i64 9)] [])) (Aj (call 126 [.sc (.string a0)]) fun x1 x2=>Ac x2<|Ab x1 fun x3 x4=>B3 x3 fun x5=>Ac x4<|Bm (!x5) (some (A4.mk [.sc (.int .i64 6)] [])) (some (A4.mk [.sc (.int .i64 0)] []))))) (Ad C0 prog fu d):=by kernel_rfl
abbrev Qe:FuncId:=58
noncomputable def Hz (fu:Nat)(call:Ah)(Ag:Int)(Br:Nat)(Ai:List PV)(Bf:Nat)(Ay:List PV)(nn y0:Nat)(y1 y2:Int)(y3:Nat)(y4:List PV)(y5:Nat)(y6 y7:List PV):Option A4:=Dd CB prog fu call 58 Tryz.f58 (B9 Tryz.f58) [.agg [.sc (.int .u64 Ag),.lst false 3 Br Ai,.lst false 2 Bf Ay]] [.r,.r,.r,.l,.r,.l] nn ⟨lk [(1,(.ptr 1 0)),(4,(.view 4 3 0 y0)),(5,(.sc (.int .i64 y1)))],B7 [(1,(.st [(.sc (.int .u64 y2)),(.lst false 3 y3 y4),(.lst false 2 y5 y6)])),(4,(.ar false y7))]⟩
noncomputable def Gc (fu:Nat)(call:Ah)(Ag:Int)(Br:Nat)(Ai:List PV)(Bf:Nat)(Ay:List PV)(nn y0:Nat)(y1 y2:Int)(y3:Nat)(y4:List PV)(y5:Nat)(y6 y7:List PV):Option A4:=Dd CB prog fu call 58 Tryz.f58 (B9 Tryz.f58) [.agg [.sc (.int .u64 Ag),.lst false 3 Br Ai,.lst false 2 Bf Ay]] [.r,.r,.r,.r,.r,.l,.r,.l] nn ⟨lk [(1,(.ptr 1 0)),(4,(.view 4 3 0 y0)),(9,(.sc (.int .i64 y1)))],B7 [(1,(.st [(.sc (.int .u64 y2)),(.lst false 3 y3 y4),(.lst false 2 y5 y6)])),(4,(.ar false y7))]⟩
theorem Fe (fu:Nat)(call:Ah)(Ag:Int)(Br:Nat)(Ai:List PV)(Bf:Nat)(Ay:List PV)(nn y0:Nat)(y1 y2:Int)(y3:Nat)(y4:List PV)(y5:Nat)(y6 y7:List PV):Hz fu call Ag Br Ai Bf Ay (nn+1) y0 y1 y2 y3 y4 y5 y6 y7=(Bm (decide (y1<(↑y3:Int))) (Aw (decide (0<=y1)&&decide (y1<(↑y3:Int)))<|Fk (List.getD y4 (Int.toNat y1*3+0) .top) fun Zb=>Aj (call 95 [.sc (.string Zb)]) fun Za Wc=>Ac Wc<|Ab Za fun Wa Wt=>Ae .i64 Wa fun Xr=>Ac Wt<|Bm (Xr != 0) (some (A4.mk [.own 3 0 [],.sc (.int .i64 Xr)] [])) (Aw (decide (0<=y1)&&decide (y1<(↑y3:Int)))<|Ae .i64 (List.getD y4 (Int.toNat y1*3+1) .top) fun Xi=>Ae .u64 (List.getD y4 (Int.toNat y1*3+1+1) .top) fun Ze=>Aj (call 96 [.agg [.sc (.int .i64 Xi),.sc (.int .u64 Ze)]]) fun Y8 Xz=>Ac Xz<|Ab Y8 fun AN AG=>F5 1 AN fun Yd Zq=>Ab AG fun AJ Yz=>Ae .i64 AJ fun CJ=>Ac Yz<|Bm (CJ != 0) (some (A4.mk [.own 3 0 [],.sc (.int .i64 CJ)] [])) (Aj (call 56 [.sc (.int .i64 2)]) fun AB AF=>Ac AF<|Ab AB fun DT AC=>Ef DT fun Zn=>Ab Zn fun Y5 Wd=>Ae .i64 Y5 fun AM=>Ab Wd fun DF AD=>Ae .u64 DF fun CW=>Ab AD fun AL CF=>Fk AL fun ET=>Ac CF<|Ac AC<|Aw (decide (0<=y1)&&decide (y1<(↑y3:Int)))<|Fk (List.getD y4 (Int.toNat y1*3+0) .top) fun Zu=>Aj (call 97 [.sc (.string Zu)]) fun EQ IH=>Ac IH<|Ab EQ fun AH GO=>Ef AH fun JJ=>Ab JJ fun GB JS=>Ae .i64 GB fun PD=>Ab JS fun XF OV=>Ae .u64 XF fun UA=>Ab OV fun SF RC=>Fk SF fun QT=>Ac RC<|Ac GO<|Aw (decide (0+Yd*1<=Zq.length))<|Aj (call 98 [.lst false 1 Yd (List.take (Yd*1) (List.drop 0 Zq))]) fun IG RP=>Ac RP<|Ab IG fun QY YW=>Ef QY fun LX=>Ab LX fun XG x95=>Ae .i64 XG fun YG=>Ab x95 fun ND LU=>Ae .u64 ND fun XD=>Ab LU fun Vs Vt=>Fk Vs fun Jg=>Ac Vt<|Ac YW<|Aw (decide (y0*3<=y7.length)&&true&&decide ((y0+3)*32<=1099511627776)&&decide (y0+3<=1099511627776))<|Aa (y0+3) fun Lm=>Aa (List.take (y0*3) y7++[.sc (.int .i64 AM),.sc (.int .u64 CW),.sc (.string ET),.sc (.int .i64 PD),.sc (.int .u64 UA),.sc (.string QT),.sc (.int .i64 YG),.sc (.int .u64 XD),.sc (.string Jg)]) fun Uk=>Aa (wrap .i64 (y1+1)) fun Tb=>Hz fu call Ag Br Ai Bf Ay (nn) Lm Tb (y2) (y3) (y4) (y5) (y6) Uk))) (Aj (call 56 [.sc (.int .i64 (↑y5:Int))]) fun Sh Nt=>Ac Nt<|Ab Sh fun X7 Z8=>Ef X7 fun DB=>Ab DB fun CV I8=>Ae .i64 CV fun Mt=>Ab I8 fun EP EO=>Ae .u64 EP fun Yj=>Ab EO fun EJ FH=>Fk EJ fun BQ=>Ac FH<|Ac Z8<|Aw (decide (y0*3<=y7.length)&&true&&decide ((y0+1)*32<=1099511627776)&&decide (y0+1<=1099511627776))<|Aa (y0+1) fun EK=>Aa (List.take (y0*3) y7++[.sc (.int .i64 Mt),.sc (.int .u64 Yj),.sc (.string BQ)]) fun ES=>Gc fu call Ag Br Ai Bf Ay (fu) EK 0 (y2) (y3) (y4) (y5) (y6) ES)):=by kernel_rfl
theorem G5 (fu:Nat)(call:Ah)(Ag:Int)(Br:Nat)(Ai:List PV)(Bf:Nat)(Ay:List PV)(nn y0:Nat)(y1 y2:Int)(y3:Nat)(y4:List PV)(y5:Nat)(y6 y7:List PV):Gc fu call Ag Br Ai Bf Ay (nn+1) y0 y1 y2 y3 y4 y5 y6 y7=(Bm (decide (y1<(↑y5:Int))) (Aw (decide (0<=y1)&&decide (y1<(↑y5:Int)))<|Ae .i64 (List.getD y6 (Int.toNat y1*2) .top) fun AO=>Ae .i64 (List.getD y6 (Int.toNat y1*2+1) .top) fun BV=>Aj (call 51 [.sc (.int .i64 AO),.sc (.int .i64 1),.sc (.int .i64 4)]) fun CZ FD=>Ac FD<|Ab CZ fun CL HR=>B3 CL fun RH=>Ac HR<|Bm (!RH) (some (A4.mk [.own 3 0 [],.sc (.int .i64 9)] [])) (Aj (call 51 [.sc (.int .i64 BV),.sc (.int .i64 0),.sc (.int .i64 1099511627776)]) fun MH EN=>Ac EN<|Ab MH fun ZC QS=>B3 ZC fun TZ=>Ac QS<|Bm (!TZ) (some (A4.mk [.own 3 0 [],.sc (.int .i64 9)] [])) (Bm (decide (y1>0)) (Aa (wrap .i64 (y1-1)) fun NM=>Aw (decide (0<=NM)&&decide (NM<(↑y5:Int)))<|Ae .i64 (List.getD y6 (Int.toNat NM*2+1) .top) fun YA=>Bm (decide (BV<=YA)) (some (A4.mk [.own 3 0 [],.sc (.int .i64 7)] [])) (Aj (call 56 [.sc (.int .i64 2)]) fun WV YZ=>Ac YZ<|Ab WV fun ZD UP=>Ef ZD fun UE=>Ab UE fun UI WA=>Ae .i64 UI fun TY=>Ab WA fun MT QJ=>Ae .u64 MT fun VE=>Ab QJ fun TQ WX=>Fk TQ fun Ac5=>Ac WX<|Ac UP<|Aa (wrap .u64 AO) fun Adm=>Aj (call 57 [.sc (.int .u64 Adm)]) fun Acu Ac3=>Ac Ac3<|Ab Acu fun Ajj Aoc=>Ef Ajj fun Ajc=>Ab Ajc fun Ajo Aei=>Ae .i64 Ajo fun Ah7=>Ab Aei fun Ah8 Aka=>Ae .u64 Ah8 fun Akp=>Ab Aka fun Aji Apa=>Fk Aji fun TB=>Ac Apa<|Ac Aoc<|Aa (wrap .u64 BV) fun Agb=>Aj (call 57 [.sc (.int .u64 Agb)]) fun Ai1 Aj0=>Ac Aj0<|Ab Ai1 fun Am5 Aos=>Ef Am5 fun XW=>Ab XW fun YL Ajp=>Ae .i64 YL fun Aii=>Ab Ajp fun YM Adi=>Ae .u64 YM fun Aht=>Ab Adi fun Aiy Ajx=>Fk Aiy fun Ab1=>Ac Ajx<|Ac Aos<|Aw (decide (y0*3<=y7.length)&&true&&decide ((y0+3)*32<=1099511627776)&&decide (y0+3<=1099511627776))<|Aa (y0+3) fun Atm=>Aa (List.take (y0*3) y7++[.sc (.int .i64 TY),.sc (.int .u64 VE),.sc (.string Ac5),.sc (.int .i64 Ah7),.sc (.int .u64 Akp),.sc (.string TB),.sc (.int .i64 Aii),.sc (.int .u64 Aht),.sc (.string Ab1)]) fun Auv=>Aa (wrap .i64 (y1+1)) fun Avy=>Gc fu call Ag Br Ai Bf Ay (nn) Atm Avy (y2) (y3) (y4) (y5) (y6) Auv)) (Aj (call 56 [.sc (.int .i64 2)]) fun Axr Ax0=>Ac Ax0<|Ab Axr fun Aqu Atf=>Ef Aqu fun Ato=>Ab Ato fun Asb Arm=>Ae .i64 Asb fun Aqf=>Ab Arm fun Ati Asz=>Ae .u64 Ati fun Aux=>Ab Asz fun Aqw Ast=>Fk Aqw fun Aut=>Ac Ast<|Ac Atf<|Aa (wrap .u64 AO) fun Auf=>Aj (call 57 [.sc (.int .u64 Auf)]) fun Asm Awn=>Ac Awn<|Ab Asm fun Aso Awp=>Ef Aso fun At2=>Ab At2 fun Aqs Atq=>Ae .i64 Aqs fun Avk=>Ab Atq fun Avw Ave=>Ae .u64 Avw fun Avp=>Ab Ave fun A32 A4u=>Fk A32 fun A4e=>Ac A4u<|Ac Awp<|Aa (wrap .u64 BV) fun A4c=>Aj (call 57 [.sc (.int .u64 A4c)]) fun A2n A4f=>Ac A4f<|Ab A2n fun A3q A6f=>Ef A3q fun A4b=>Ab A4b fun A3k A2e=>Ae .i64 A3k fun A3i=>Ab A2e fun A21 A3l=>Ae .u64 A21 fun A29=>Ab A3l fun A2f A3w=>Fk A2f fun A4h=>Ac A3w<|Ac A6f<|Aw (decide (y0*3<=y7.length)&&true&&decide ((y0+3)*32<=1099511627776)&&decide (y0+3<=1099511627776))<|Aa (y0+3) fun A4t=>Aa (List.take (y0*3) y7++[.sc (.int .i64 Aqf),.sc (.int .u64 Aux),.sc (.string Aut),.sc (.int .i64 Avk),.sc (.int .u64 Avp),.sc (.string A4e),.sc (.int .i64 A3i),.sc (.int .u64 A29),.sc (.string A4h)]) fun A2y=>Aa (wrap .i64 (y1+1)) fun A18=>Gc fu call Ag Br Ai Bf Ay (nn) A4t A18 (y2) (y3) (y4) (y5) (y6) A2y)))) (Aw (decide (y0*3<=y7.length))<|some (A4.mk [.own 3 y0 (List.take (y0*3) y7),.sc (.int .i64 0)] []))):=by kernel_rfl
theorem BI (fu d:Nat)(Ag:Int)(Br:Nat)(Ai:List PV)(Bf:Nat)(Ay:List PV):Ad C0 prog fu (d+1) Qe [.agg [.sc (.int .u64 Ag),.lst false 3 Br Ai,.lst false 2 Bf Ay]]=(fun (call:Ah)=>Bm (decide ((↑Br:Int)>4)) (some (A4.mk [.own 3 0 [],.sc (.int .i64 8)] [])) (Bm (decide ((↑Bf:Int)>4)) (some (A4.mk [.own 3 0 [],.sc (.int .i64 8)] [])) (Aj (call 56 [.sc (.int .i64 3)]) fun x1 x2=>Ac x2<|Ab x1 fun x3 x4=>Ef x3 fun x5=>Ab x5 fun x6 x7=>Ae .i64 x6 fun x8=>Ab x7 fun x9 Cy=>Ae .u64 x9 fun C4=>Ab Cy fun D1 Ed=>Fk D1 fun Dn=>Ac Ed<|Ac x4<|Aj (call 57 [.sc (.int .u64 Ag)]) fun Eg Ez=>Ac Ez<|Ab Eg fun Fq F9=>Ef Fq fun Fp=>Ab Fp fun F2 Iw=>Ae .i64 F2 fun Hl=>Ab Iw fun H3 E5=>Ae .u64 H3 fun Ep=>Ab E5 fun G2 I1=>Fk G2 fun Gs=>Ac I1<|Ac F9<|Aj (call 56 [.sc (.int .i64 (↑Br:Int))]) fun Ml L5=>Ac L5<|Ab Ml fun J6 Le=>Ef J6 fun Mc=>Ab Mc fun Nh Nw=>Ae .i64 Nh fun Qa=>Ab Nw fun Sb Ip=>Ae .u64 Sb fun Lf=>Ab Ip fun Rj V9=>Fk Rj fun Rb=>Ac V9<|Ac Le<|Hz fu call Ag Br Ai Bf Ay (fu) 3 0 (Ag) (Br) (Ai) (Bf) (Ay) ([.sc (.int .i64 x8),.sc (.int .u64 C4),.sc (.string Dn),.sc (.int .i64 Hl),.sc (.int .u64 Ep),.sc (.string Gs),.sc (.int .i64 Qa),.sc (.int .u64 Lf),.sc (.string Rb)])))) (Ad C0 prog fu d):=by kernel_rfl
abbrev Nf:FuncId:=31
noncomputable def Ev (fu:Nat)(call:Ah)(Ag Ai Ay:Int)(Bi:Nat)(Bv:List PV)(Cf:Int)(Bk:Nat)(Cj:List PV)(Bn:Nat)(Ci:List PV)(nn y0:Nat)(y1 y2:Int)(y3 y4:Int)(y5:Nat)(y6:List PV)(y7:Int)(y8:Nat)(y9:List PV)(y10:Nat)(Er F1:List PV):Option A4:=Dd CB prog fu call 31 Tryz.f31 (B9 Tryz.f31) [.agg [.sc (.int .i64 Ag),.sc (.int .i64 Ai),.sc (.int .i64 Ay),.lst false 3 Bi Bv,.sc (.int .i64 Cf),.lst false 1 Bk Cj,.lst false 1 Bn Ci]] [.r,.r,.r,.l,.r,.l] nn ⟨lk [(1,(.ptr 1 0)),(4,(.view 4 3 0 y0)),(5,(.sc (.int .i64 y1)))],B7 [(1,(.st [(.sc (.int .i64 y2)),(.sc (.int .i64 y3)),(.sc (.int .i64 y4)),(.lst false 3 y5 y6),(.sc (.int .i64 y7)),(.lst false 1 y8 y9),(.lst false 1 y10 Er)])),(4,(.ar false F1))]⟩
theorem Kt (fu:Nat)(call:Ah)(Ag Ai Ay:Int)(Bi:Nat)(Bv:List PV)(Cf:Int)(Bk:Nat)(Cj:List PV)(Bn:Nat)(Ci:List PV)(nn y0:Nat)(y1 y2:Int)(y3 y4:Int)(y5:Nat)(y6:List PV)(y7:Int)(y8:Nat)(y9:List PV)(y10:Nat)(Er F1:List PV):Ev fu call Ag Ai Ay Bi Bv Cf Bk Cj Bn Ci (nn+1) y0 y1 y2 y3 y4 y5 y6 y7 y8 y9 y10 Er F1=(Bm (decide (y1<(↑y5:Int))) (Bm (decide (y1>0)) (Aw (decide (0<=y1)&&decide (y1<(↑y5:Int)))<|Ae .u64 (List.getD y6 (Int.toNat y1*3+0) .top) fun JJ=>Aa (wrap .i64 (y1-1)) fun GB=>Aw (decide (0<=GB)&&decide (GB<(↑y5:Int)))<|Ae .u64 (List.getD y6 (Int.toNat GB*3+0) .top) fun JS=>Bm (decide (JJ<=JS)) (some (A4.mk [.own 1 0 [],.sc (.int .i64 7)] [])) (Aw (decide (0<=y1)&&decide (y1<(↑y5:Int)))<|Ae .u64 (List.getD y6 (Int.toNat y1*3) .top) fun PD=>Fa 3 (List.getD y6 (Int.toNat y1*3+1) .top) fun XF OV UA=>Fa 2 (List.getD y6 (Int.toNat y1*3+1+1) .top) fun SF RC QT=>Aj (call 58 [.agg [.sc (.int .u64 PD),.lst false 3 OV UA,.lst false 2 RC QT]]) fun IG RP=>Ac RP<|Ab IG fun QY YW=>F5 3 QY fun LX XG=>Ab YW fun x95 YG=>Ae .i64 x95 fun ND=>Ac YG<|Bm (ND != 0) (some (A4.mk [.own 1 0 [],.sc (.int .i64 ND)] [])) (Aw (decide (0+LX*3<=XG.length))<|Aw (decide (y0*3<=F1.length)&&decide (List.length (List.take (LX*3) (List.drop 0 XG))=LX*3)&&decide ((y0+LX)*32<=1099511627776)&&decide (y0+LX<=1099511627776))<|Aa (y0+LX) fun LU=>Aa (List.take (y0*3) F1++List.take (LX*3) (List.drop 0 XG)) fun XD=>Aa (wrap .i64 (y1+1)) fun Vs=>Ev fu call Ag Ai Ay Bi Bv Cf Bk Cj Bn Ci (nn) LU Vs (y2) (y3) (y4) (y5) (y6) (y7) (y8) (y9) (y10) (Er) XD))) (Aw (decide (0<=y1)&&decide (y1<(↑y5:Int)))<|Ae .u64 (List.getD y6 (Int.toNat y1*3) .top) fun Vt=>Fa 3 (List.getD y6 (Int.toNat y1*3+1) .top) fun Jg Lm Uk=>Fa 2 (List.getD y6 (Int.toNat y1*3+1+1) .top) fun Tb Sh Nt=>Aj (call 58 [.agg [.sc (.int .u64 Vt),.lst false 3 Lm Uk,.lst false 2 Sh Nt]]) fun X7 Z8=>Ac Z8<|Ab X7 fun DB CV=>F5 3 DB fun I8 Mt=>Ab CV fun EP EO=>Ae .i64 EP fun Yj=>Ac EO<|Bm (Yj != 0) (some (A4.mk [.own 1 0 [],.sc (.int .i64 Yj)] [])) (Aw (decide (0+I8*3<=Mt.length))<|Aw (decide (y0*3<=F1.length)&&decide (List.length (List.take (I8*3) (List.drop 0 Mt))=I8*3)&&decide ((y0+I8)*32<=1099511627776)&&decide (y0+I8<=1099511627776))<|Aa (y0+I8) fun EJ=>Aa (List.take (y0*3) F1++List.take (I8*3) (List.drop 0 Mt)) fun FH=>Aa (wrap .i64 (y1+1)) fun BQ=>Ev fu call Ag Ai Ay Bi Bv Cf Bk Cj Bn Ci (nn) EJ BQ (y2) (y3) (y4) (y5) (y6) (y7) (y8) (y9) (y10) (Er) FH))) (Aw (decide (0+y0*3<=F1.length))<|Aj (call 59 [.lst false 3 y0 (List.take (y0*3) (List.drop 0 F1))]) fun EK ES=>Ac ES<|Ab EK fun AO BV=>F5 1 AO fun CZ FD=>Ac BV<|Aw (decide (CZ*1<=FD.length))<|some (A4.mk [.own 1 CZ (List.take (CZ*1) FD),.sc (.int .i64 0)] []))):=by kernel_rfl
theorem W9 (fu d:Nat)(Ag Ai Ay:Int)(Bi:Nat)(Bv:List PV)(Cf:Int)(Bk:Nat)(Cj:List PV)(Bn:Nat)(Ci:List PV):Ad C0 prog fu (d+1) Nf [.agg [.sc (.int .i64 Ag),.sc (.int .i64 Ai),.sc (.int .i64 Ay),.lst false 3 Bi Bv,.sc (.int .i64 Cf),.lst false 1 Bk Cj,.lst false 1 Bn Ci]]=(fun (call:Ah)=>Aj (call 51 [.sc (.int .i64 Ag),.sc (.int .i64 1),.sc (.int .i64 16)]) fun x1 x2=>Ac x2<|Ab x1 fun x3 x4=>B3 x3 fun x5=>Ac x4<|Bm (!x5) (some (A4.mk [.own 1 0 [],.sc (.int .i64 9)] [])) (Bm (decide (Ai<0)) (some (A4.mk [.own 1 0 [],.sc (.int .i64 9)] [])) (Bm (decide (Ay<Ai)) (some (A4.mk [.own 1 0 [],.sc (.int .i64 9)] [])) (Bm (decide (Ay>1099511627776)) (some (A4.mk [.own 1 0 [],.sc (.int .i64 9)] [])) (Bm (decide ((↑Bi:Int)>16)) (some (A4.mk [.own 1 0 [],.sc (.int .i64 8)] [])) (Aj (call 56 [.sc (.int .i64 4)]) fun x6 x7=>Ac x7<|Ab x6 fun x8 x9=>Ef x8 fun Cy=>Ab Cy fun C4 D1=>Ae .i64 C4 fun Ed=>Ab D1 fun Dn Eg=>Ae .u64 Dn fun Ez=>Ab Eg fun Fq F9=>Fk Fq fun Fp=>Ac F9<|Ac x9<|Aa (wrap .u64 Ag) fun F2=>Aj (call 57 [.sc (.int .u64 F2)]) fun Iw Hl=>Ac Hl<|Ab Iw fun H3 E5=>Ef H3 fun Ep=>Ab Ep fun G2 I1=>Ae .i64 G2 fun Gs=>Ab I1 fun Ml L5=>Ae .u64 Ml fun J6=>Ab L5 fun Le Mc=>Fk Le fun Nh=>Ac Mc<|Ac E5<|Aa (wrap .u64 Ai) fun Nw=>Aj (call 57 [.sc (.int .u64 Nw)]) fun Qa Sb=>Ac Sb<|Ab Qa fun Ip Lf=>Ef Ip fun Rj=>Ab Rj fun V9 Rb=>Ae .i64 V9 fun Zb=>Ab Rb fun Za Wc=>Ae .u64 Za fun Wa=>Ab Wc fun Wt Xr=>Fk Wt fun Xi=>Ac Xr<|Ac Lf<|Aa (wrap .u64 Ay) fun Ze=>Aj (call 57 [.sc (.int .u64 Ze)]) fun Y8 Xz=>Ac Xz<|Ab Y8 fun AN AG=>Ef AN fun Yd=>Ab Yd fun Zq AJ=>Ae .i64 Zq fun Yz=>Ab AJ fun CJ AB=>Ae .u64 CJ fun AF=>Ab AB fun DT AC=>Fk DT fun Zn=>Ac AC<|Ac AG<|Aj (call 56 [.sc (.int .i64 (↑Bi:Int))]) fun Y5 Wd=>Ac Wd<|Ab Y5 fun AM DF=>Ef AM fun AD=>Ab AD fun CW AL=>Ae .i64 CW fun CF=>Ab AL fun ET Zu=>Ae .u64 ET fun EQ=>Ab Zu fun IH AH=>Fk IH fun GO=>Ac AH<|Ac DF<|Ev fu call Ag Ai Ay Bi Bv Cf Bk Cj Bn Ci (fu) 5 0 (Ag) (Ai) (Ay) (Bi) (Bv) (Cf) (Bk) (Cj) (Bn) (Ci) ([.sc (.int .i64 Ed),.sc (.int .u64 Ez),.sc (.string Fp),.sc (.int .i64 Gs),.sc (.int .u64 J6),.sc (.string Nh),.sc (.int .i64 Zb),.sc (.int .u64 Wa),.sc (.string Xi),.sc (.int .i64 Yz),.sc (.int .u64 AF),.sc (.string Zn),.sc (.int .i64 CF),.sc (.int .u64 EQ),.sc (.string GO)]))))))) (Ad C0 prog fu d):=by kernel_rfl
abbrev Nj:FuncId:=12
theorem Xt (fu d:Nat)(Ag Ai Ay:Int)(Bi:Nat)(Bv:List PV)(Cf:Int)(Bk:Nat)(Cj:List PV)(Bn:Nat)(Ci:List PV)(a1 a2:Int):Ad C0 prog fu (d+1) Nj [.agg [.sc (.int .i64 Ag),.sc (.int .i64 Ai),.sc (.int .i64 Ay),.lst false 3 Bi Bv,.sc (.int .i64 Cf),.lst false 1 Bk Cj,.lst false 1 Bn Ci],.sc (.int .u64 a1),.sc (.int .i64 a2)]=(fun (call:Ah)=>Aj (call 31 [.agg [.sc (.int .i64 Ag),.sc (.int .i64 Ai),.sc (.int .i64 Ay),.lst false 3 Bi Bv,.sc (.int .i64 Cf),.lst false 1 Bk Cj,.lst false 1 Bn Ci]]) fun x1 x2=>Ac x2<|Ab x1 fun x3 x4=>F5 1 x3 fun x5 x6=>Ab x4 fun x7 x8=>Ae .i64 x7 fun x9=>Ac x8<|Bm (x9 != 0) (some (A4.mk [.agg [.sc (.int .i64 0),.sc (.int .i64 0),.sc (.int .i64 0),.lst false 3 0 [],.sc (.int .i64 0),.lst false 1 0 [],.lst false 1 0 []],.sc (.int .i64 x9)] [])) (Aa (wrap .i64 (Ag-1)) fun Cy=>Aw (decide (0+x5*1<=x6.length))<|Aj (call 33 [.sc (.int .i64 15),.lst false 1 x5 (List.take (x5*1) (List.drop 0 x6))]) fun C4 D1=>Ac D1<|Ab C4 fun Ed Dn=>Ae .u64 Ed fun Eg=>Ac Dn<|Aj (call 32 [.sc (.int .u64 a1),.sc (.int .i64 a2),.sc (.int .i64 Cy),.sc (.int .u64 Eg)]) fun Ez Fq=>Ac Fq<|Ab Ez fun F9 Fp=>Ef F9 fun F2=>Ab F2 fun Iw Hl=>Ae .i64 Iw fun H3=>Ab Hl fun E5 Ep=>F5 1 E5 fun G2 I1=>Ab Ep fun Gs Ml=>F5 1 Gs fun L5 J6=>Ac Ml<|Ab Fp fun Le Mc=>Ae .i64 Le fun Nh=>Ac Mc<|Bm (Nh != 0) (some (A4.mk [.agg [.sc (.int .i64 0),.sc (.int .i64 0),.sc (.int .i64 0),.lst false 3 0 [],.sc (.int .i64 0),.lst false 1 0 [],.lst false 1 0 []],.sc (.int .i64 Nh)] [])) (Aw (decide (0+G2*1<=I1.length))<|Aw (decide (0+L5*1<=J6.length))<|some (A4.mk [.agg [.sc (.int .i64 Ag),.sc (.int .i64 Ai),.sc (.int .i64 Ay),.lst false 3 Bi Bv,.sc (.int .i64 H3),.lst false 1 G2 (List.take (G2*1) (List.drop 0 I1)),.lst false 1 L5 (List.take (L5*1) (List.drop 0 J6))],.sc (.int .i64 0)] [])))) (Ad C0 prog fu d):=by kernel_rfl
abbrev Lx:FuncId:=21
theorem Uj (fu d:Nat)(Ag Ai Ay:Int)(Bi:Nat)(Bv:List PV)(Cf:Int)(Bk:Nat)(Cj:List PV)(Bn:Nat)(Ci:List PV):Ad C0 prog fu (d+1) Lx [.agg [.sc (.int .i64 Ag),.sc (.int .i64 Ai),.sc (.int .i64 Ay),.lst false 3 Bi Bv,.sc (.int .i64 Cf),.lst false 1 Bk Cj,.lst false 1 Bn Ci]]=(fun (call:Ah)=>Aj (call 31 [.agg [.sc (.int .i64 Ag),.sc (.int .i64 Ai),.sc (.int .i64 Ay),.lst false 3 Bi Bv,.sc (.int .i64 Cf),.lst false 1 Bk Cj,.lst false 1 Bn Ci]]) fun x1 x2=>Ac x2<|Ab x1 fun x3 x4=>F5 1 x3 fun x5 x6=>Ab x4 fun x7 x8=>Ae .i64 x7 fun x9=>Ac x8<|Bm (x9 != 0) (some (A4.mk [.own 1 0 [],.sc (.int .i64 x9)] [])) (Aj (call 42 [.agg [.sc (.int .i64 Cf),.lst false 1 Bk Cj,.lst false 1 Bn Ci]]) fun Cy C4=>Ac C4<|Ab Cy fun D1 Ed=>F5 1 D1 fun Dn Eg=>Ab Ed fun Ez Fq=>Ae .i64 Ez fun F9=>Ac Fq<|Bm (F9 != 0) (some (A4.mk [.own 1 0 [],.sc (.int .i64 F9)] [])) (Aw (decide (0+Dn*1<=Eg.length))<|Aw (decide (x5*1<=x6.length)&&decide (List.length (List.take (Dn*1) (List.drop 0 Eg))=Dn*1)&&decide ((x5+Dn)*1<=1099511627776)&&decide (x5+Dn<=1099511627776))<|Aa (x5+Dn) fun Fp=>Aa (List.take (x5*1) x6++List.take (Dn*1) (List.drop 0 Eg)) fun F2=>Aw (decide (Fp*1<=F2.length))<|some (A4.mk [.own 1 Fp (List.take (Fp*1) F2),.sc (.int .i64 0)] [])))) (Ad C0 prog fu d):=by kernel_rfl
abbrev Mb:FuncId:=73
noncomputable def Ga (fu:Nat)(call:Ah)(Ag:Int)(Br:Nat)(Ai:List PV)(Bf:Nat)(Ay:List PV)(Cr:Int)(Il:Nat)(Cs:List PV)(Ie:Nat)(C1:List PV)(nn:Nat)(y0 y1:Int)(y2:Nat)(y3:List PV)(y4:Nat)(y5:List PV)(y6:Int)(y7:Nat)(y8:List PV)(y9:Nat)(y10:List PV):Option A4:=Dd CB prog fu call 73 Tryz.f73 (B9 Tryz.f73) [.agg [.sc (.int .u64 Ag),.lst false 3 Br Ai,.lst false 2 Bf Ay],.agg [.sc (.int .u64 Cr),.lst false 3 Il Cs,.lst false 2 Ie C1]] [.r,.r,.l,.r,.l] nn ⟨lk [(2,(.ptr 2 0)),(3,(.ptr 3 0)),(5,(.sc (.int .i64 y0)))],B7 [(2,(.st [(.sc (.int .u64 y1)),(.lst false 3 y2 y3),(.lst false 2 y4 y5)])),(3,(.st [(.sc (.int .u64 y6)),(.lst false 3 y7 y8),(.lst false 2 y9 y10)]))]⟩
noncomputable def Gb (fu:Nat)(call:Ah)(Ag:Int)(Br:Nat)(Ai:List PV)(Bf:Nat)(Ay:List PV)(Cr:Int)(Il:Nat)(Cs:List PV)(Ie:Nat)(C1:List PV)(nn:Nat)(y0 y1:Int)(y2:Nat)(y3:List PV)(y4:Nat)(y5:List PV)(y6:Int)(y7:Nat)(y8:List PV)(y9:Nat)(y10:List PV):Option A4:=Dd CB prog fu call 73 Tryz.f73 (B9 Tryz.f73) [.agg [.sc (.int .u64 Ag),.lst false 3 Br Ai,.lst false 2 Bf Ay],.agg [.sc (.int .u64 Cr),.lst false 3 Il Cs,.lst false 2 Ie C1]] [.r,.r,.r,.l,.r,.l] nn ⟨lk [(2,(.ptr 2 0)),(3,(.ptr 3 0)),(6,(.sc (.int .i64 y0)))],B7 [(2,(.st [(.sc (.int .u64 y1)),(.lst false 3 y2 y3),(.lst false 2 y4 y5)])),(3,(.st [(.sc (.int .u64 y6)),(.lst false 3 y7 y8),(.lst false 2 y9 y10)]))]⟩
theorem Kn (fu:Nat)(call:Ah)(Ag:Int)(Br:Nat)(Ai:List PV)(Bf:Nat)(Ay:List PV)(Cr:Int)(Il:Nat)(Cs:List PV)(Ie:Nat)(C1:List PV)(nn:Nat)(y0 y1:Int)(y2:Nat)(y3:List PV)(y4:Nat)(y5:List PV)(y6:Int)(y7:Nat)(y8:List PV)(y9:Nat)(y10:List PV):Ga fu call Ag Br Ai Bf Ay Cr Il Cs Ie C1 (nn+1) y0 y1 y2 y3 y4 y5 y6 y7 y8 y9 y10=(Bm (decide (y0<(↑y2:Int))) (Aw (decide (0<=y0)&&decide (y0<(↑y2:Int)))<|Fk (List.getD y3 (Int.toNat y0*3) .top) fun x1=>Ae .i64 (List.getD y3 (Int.toNat y0*3+1) .top) fun x2=>Ae .u64 (List.getD y3 (Int.toNat y0*3+1+1) .top) fun x3=>Aw (decide (0<=y0)&&decide (y0<(↑y7:Int)))<|Fk (List.getD y8 (Int.toNat y0*3) .top) fun x4=>Ae .i64 (List.getD y8 (Int.toNat y0*3+1) .top) fun x5=>Ae .u64 (List.getD y8 (Int.toNat y0*3+1+1) .top) fun x6=>Bm (!(x1==x4&&(x2==x5&&(x3==x6&&true)))) (some (A4.mk [.sc (.bool false)] [])) (Aa (wrap .i64 (y0+1)) fun x7=>Ga fu call Ag Br Ai Bf Ay Cr Il Cs Ie C1 (nn) x7 (y1) (y2) (y3) (y4) (y5) (y6) (y7) (y8) (y9) (y10))) (Gb fu call Ag Br Ai Bf Ay Cr Il Cs Ie C1 (fu) 0 (y1) (y2) (y3) (y4) (y5) (y6) (y7) (y8) (y9) (y10))):=by kernel_rfl
theorem Ko (fu:Nat)(call:Ah)(Ag:Int)(Br:Nat)(Ai:List PV)(Bf:Nat)(Ay:List PV)(Cr:Int)(Il:Nat)(Cs:List PV)(Ie:Nat)(C1:List PV)(nn:Nat)(y0 y1:Int)(y2:Nat)(y3:List PV)(y4:Nat)(y5:List PV)(y6:Int)(y7:Nat)(y8:List PV)(y9:Nat)(y10:List PV):Gb fu call Ag Br Ai Bf Ay Cr Il Cs Ie C1 (nn+1) y0 y1 y2 y3 y4 y5 y6 y7 y8 y9 y10=(Bm (decide (y0<(↑y4:Int))) (Aw (decide (0<=y0)&&decide (y0<(↑y4:Int)))<|Ae .i64 (List.getD y5 (Int.toNat y0*2) .top) fun x8=>Ae .i64 (List.getD y5 (Int.toNat y0*2+1) .top) fun x9=>Aw (decide (0<=y0)&&decide (y0<(↑y9:Int)))<|Ae .i64 (List.getD y10 (Int.toNat y0*2) .top) fun Cy=>Ae .i64 (List.getD y10 (Int.toNat y0*2+1) .top) fun C4=>Bm (!(x8==Cy&&(x9==C4&&true))) (some (A4.mk [.sc (.bool false)] [])) (Aa (wrap .i64 (y0+1)) fun D1=>Gb fu call Ag Br Ai Bf Ay Cr Il Cs Ie C1 (nn) D1 (y1) (y2) (y3) (y4) (y5) (y6) (y7) (y8) (y9) (y10))) (some (A4.mk [.sc (.bool true)] []))):=by kernel_rfl
theorem Vx (fu d:Nat)(Ag:Int)(Br:Nat)(Ai:List PV)(Bf:Nat)(Ay:List PV)(Cr:Int)(Il:Nat)(Cs:List PV)(Ie:Nat)(C1:List PV):Ad C0 prog fu (d+1) Mb [.agg [.sc (.int .u64 Ag),.lst false 3 Br Ai,.lst false 2 Bf Ay],.agg [.sc (.int .u64 Cr),.lst false 3 Il Cs,.lst false 2 Ie C1]]=(fun (call:Ah)=>Bm (Ag != Cr) (some (A4.mk [.sc (.bool false)] [])) (Bm ((↑Br:Int) != (↑Il:Int)) (some (A4.mk [.sc (.bool false)] [])) (Bm ((↑Bf:Int) != (↑Ie:Int)) (some (A4.mk [.sc (.bool false)] [])) (Ga fu call Ag Br Ai Bf Ay Cr Il Cs Ie C1 (fu) 0 (Ag) (Br) (Ai) (Bf) (Ay) (Cr) (Il) (Cs) (Ie) (C1))))) (Ad C0 prog fu d):=by kernel_rfl
abbrev K9:FuncId:=38
noncomputable def Fl (fu:Nat)(call:Ah)(Bq:Nat)(a0:List PV)(Q9:Nat)(a1:List PV)(nn y0:Nat)(y1:List PV)(y2:Nat)(y3:List PV)(y4:Int):Option A4:=Dd CB prog fu call 38 Tryz.f38 (B9 Tryz.f38) [.lst false 3 Bq a0,.lst false 3 Q9 a1] [.r,.r,.l,.r,.l] nn ⟨lk [(0,(.lst false 3 y0 y1)),(1,(.lst false 3 y2 y3)),(5,(.sc (.int .i64 y4)))],B7 []⟩
theorem Jj (fu:Nat)(call:Ah)(Bq:Nat)(a0:List PV)(Q9:Nat)(a1:List PV)(nn y0:Nat)(y1:List PV)(y2:Nat)(y3:List PV)(y4:Int):Fl fu call Bq a0 Q9 a1 (nn+1) y0 y1 y2 y3 y4=(Bm (decide (y4<(↑y0:Int))) (Aw (decide (0<=y4)&&decide (y4<(↑y0:Int)))<|Ae .u64 (List.getD y1 (Int.toNat y4*3) .top) fun x1=>Fa 3 (List.getD y1 (Int.toNat y4*3+1) .top) fun x2 x3 x4=>Fa 2 (List.getD y1 (Int.toNat y4*3+1+1) .top) fun x5 x6 x7=>Aw (decide (0<=y4)&&decide (y4<(↑y2:Int)))<|Ae .u64 (List.getD y3 (Int.toNat y4*3) .top) fun x8=>Fa 3 (List.getD y3 (Int.toNat y4*3+1) .top) fun x9 Cy C4=>Fa 2 (List.getD y3 (Int.toNat y4*3+1+1) .top) fun D1 Ed Dn=>Aj (call 73 [.agg [.sc (.int .u64 x1),.lst false 3 x3 x4,.lst false 2 x6 x7],.agg [.sc (.int .u64 x8),.lst false 3 Cy C4,.lst false 2 Ed Dn]]) fun Eg Ez=>Ac Ez<|Ab Eg fun Fq F9=>B3 Fq fun Fp=>Ac F9<|Bm (!Fp) (some (A4.mk [.sc (.bool false)] [])) (Aa (wrap .i64 (y4+1)) fun F2=>Fl fu call Bq a0 Q9 a1 (nn) (y0) (y1) (y2) (y3) F2)) (some (A4.mk [.sc (.bool true)] []))):=by kernel_rfl
theorem Tj (fu d Bq:Nat)(a0:List PV)(Q9:Nat)(a1:List PV):Ad C0 prog fu (d+1) K9 [.lst false 3 Bq a0,.lst false 3 Q9 a1]=(fun (call:Ah)=>Bm ((↑Bq:Int) != (↑Q9:Int)) (some (A4.mk [.sc (.bool false)] [])) (Fl fu call Bq a0 Q9 a1 (fu) (Bq) (a0) (Q9) (a1) 0)) (Ad C0 prog fu d):=by kernel_rfl
abbrev Nr:FuncId:=18
theorem Xe (fu d:Nat)(Ag Ai Ay:Int)(Bi:Nat)(Bv:List PV)(Cf:Int)(Bk:Nat)(Cj:List PV)(Bn:Nat)(Ci:List PV)(Cr Cs C1:Int)(A1i:Nat)(Aq5:List PV)(Au5:Int)(A0n:Nat)(Atg:List PV)(Az6:Nat)(Asn:List PV):Ad C0 prog fu (d+1) Nr [.agg [.sc (.int .i64 Ag),.sc (.int .i64 Ai),.sc (.int .i64 Ay),.lst false 3 Bi Bv,.sc (.int .i64 Cf),.lst false 1 Bk Cj,.lst false 1 Bn Ci],.agg [.sc (.int .i64 Cr),.sc (.int .i64 Cs),.sc (.int .i64 C1),.lst false 3 A1i Aq5,.sc (.int .i64 Au5),.lst false 1 A0n Atg,.lst false 1 Az6 Asn]]=(fun (call:Ah)=>Bm (Ag==Cr) (Bm (Ai==Cs) (Bm (Ay==C1) (Aj (call 38 [.lst false 3 Bi Bv,.lst false 3 A1i Aq5]) fun x1 x2=>Ac x2<|Ab x1 fun x3 x4=>B3 x3 fun x5=>Ac x4<|Bm x5 (Aj (call 39 [.agg [.sc (.int .i64 Cf),.lst false 1 Bk Cj,.lst false 1 Bn Ci],.agg [.sc (.int .i64 Au5),.lst false 1 A0n Atg,.lst false 1 Az6 Asn]]) fun x6 x7=>Ac x7<|Ab x6 fun x8 x9=>B3 x8 fun Cy=>Ac x9<|some (A4.mk [.sc (.bool Cy)] [])) (some (A4.mk [.sc (.bool false)] []))) (some (A4.mk [.sc (.bool false)] []))) (some (A4.mk [.sc (.bool false)] []))) (some (A4.mk [.sc (.bool false)] []))) (Ad C0 prog fu d):=by kernel_rfl
end
end Go.Proofs.YtpogefhpiaaliaaGreatDoor.Pv
