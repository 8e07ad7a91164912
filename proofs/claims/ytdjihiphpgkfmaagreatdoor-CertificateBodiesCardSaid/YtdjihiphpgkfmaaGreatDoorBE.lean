/-
  The proof of CertificateBodies, part 5.
-/
import Derived.Test.YtdjihiphpgkfmaaGreatDoorBD
import Derived.Test.YtdjihiphpgkfmaaGreatDoorRows
set_option linter.unusedSimpArgs false
set_option linter.unusedVariables false
namespace Go.Proofs.YtdjihiphpgkfmaaGreatDoor.Pv
section
open Go.IntKind (wrap)
structure Gi where
 p:Bool
 left:Int
 last:List Int
def Gi.cells (f:Gi):List PV:=[.sc (.bool f.p),.sc (.int .i64 f.left),.lst false 1 f.last.length (Af .u8 f.last)]
def Eh (l:List Gi):List PV:=l.flatMap Gi.cells
theorem Gi.cells_len (f:Gi):f.cells.length=3:=rfl
theorem Cs (l:List Gi):(Eh l).length=l.length*3:=RX Gi.cells_len l
theorem Da (l:List Gi):List.take (l.length*3) (Eh l)=Eh l:=R6 (by rw [Cs];omega)
def Ql (l:List Gi):Bool:=match l.getLast? with|some f=>f.p&&(Int.tmod f.left 2==0)|none=>false
def Ij (l:List Gi)(cnt k:Int):Int:=
 if cnt>=512 then 8 else if k<1 then 3 else if k>8 then 3 else if Ql l=true∧k≠1∧k≠2∧k≠4 then 3 else if (l.length:Int)>8 then 5 else 0
abbrev Jy (l:List Gi)(cnt:Int):List PV:=[.own 3 l.length (Eh l),.sc (.int .i64 cnt)]
section
variable {fu d:Nat}
theorem QR (l:List Gi)(cnt:Int):Ad C0 Tryz.prog fu (d+1) Q3 [.pbox (Jy l cnt)]=some ⟨[.sc (.bool (decide (cnt>0)&&((l.length:Int)==0)))],[Jy l cnt]⟩:=by
 rw [EC];have L:=Cs l;have t:=Da l;by_cases h:cnt>0
 ·simp (disch:=omega) only [Bv,h,decide_true,Bool.true_and,L,t]
 ·simp (disch:=omega) only [Bv,h,decide_false,Bool.false_and,L,t]
theorem HZ {l:List Gi}(hl:l.length<=1000000)(cnt:Int):Ad C0 Tryz.prog fu (d+1) P8 [.pbox (Jy l cnt)]=some ⟨[.sc (.bool (Ql l))],[Jy l cnt]⟩:=by
 rw [Z8];have L:=Cs l;have t:=Da l;unfold Ql;rcases List.eq_nil_or_concat l with rfl|⟨l',f,rfl⟩
 ·have e0:¬(((([]:List Gi).length:Nat):Int)>0):=by simp
  simp (disch:=first|assumption|omega) only [Bv,L,t]
  first|done|rfl
 ·have hn:(l'.concat f).length=l'.length+1:=by simp
  have hx:(l'.concat f)[l'.length]?=some f:=by simp
  have gl:(l'.concat f).getLast?=some f:=by simp
  have w:wrap .i64 (((l'.concat f).length:Int)-1)=(l'.length:Int):=by rw [Ak (by omega) (by omega)];omega
  have g0:(Eh (l'.concat f)).getD (l'.length*3) .top=.sc (.bool f.p):=D1 Gi.cells_len hx (j:=0) (by omega)
  have g1:(Eh (l'.concat f)).getD (l'.length*3+1) .top=.sc (.int .i64 f.left):=D1 Gi.cells_len hx (j:=1) (by omega)
  rw [gl];cases hp:f.p
  ·rw [hp] at g0;simp (disch:=omega) only [Bv,w,H3,C3,PU,g0,L,t,hp,Bool.false_and]
  ·rw [hp] at g0;simp (disch:=omega) only [Bv,w,H3,C3,PU,g0,g1,L,t,hp,Bool.true_and]
theorem WP {l:List Gi}(hl:l.length<=1000000)(cnt k:Int):Ad C0 Tryz.prog fu (d+2) Qg [.pbox (Jy l cnt),.sc (.int .i64 k)]=some ⟨[.sc (.int .i64 (Ij l cnt k))],[Jy l cnt]⟩:=by
 refine (BL fu (d+1) l.length (Eh l) cnt k).trans ?_;have L:=Cs l;have t:=Da l;have ak:=HZ (fu:=fu) (d:=d) hl cnt;unfold Jy at ak;unfold Ij;by_cases c1:cnt>=512
 ·rw [B4 c1];simp (disch:=omega) only [Bv,L,t]
 rw [A5 c1];by_cases c2:k<1
 ·rw [B4 c2];simp (disch:=omega) only [Bv,L,t]
 rw [A5 c2];by_cases c3:k>8
 ·rw [B4 c3];simp (disch:=omega) only [Bv,L,t]
 rw [A5 c3];cases ha:Ql l
 ·rw [ha] at ak;rw [A5 (by simp)]
  by_cases c5:(l.length:Int)>8
  ·rw [B4 c5];simp (disch:=omega) only [Bv,L,t,ak]
  ·rw [A5 c5];simp (disch:=omega) only [Bv,L,t,ak]
 ·rw [ha] at ak;by_cases c4:k≠1∧k≠2∧k≠4
  ·rw [B4 ⟨rfl,c4⟩];simp (disch:=omega) only [Bv,L,t,ak,Ep];rw [A5 c4.1,A5 c4.2.1,A5 c4.2.2]
  ·rw [A5 (fun h=>c4 h.2)]
   have hk:k=1∨k=2∨k=4:=by omega
   by_cases c5:(l.length:Int)>8
   ·rw [B4 c5];rcases hk with rfl|rfl|rfl<;>simp (disch:=omega) only [Bv,L,t,ak,Ep,Int.reduceEq,if_true,if_false]
   ·rw [A5 c5];rcases hk with rfl|rfl|rfl<;>simp (disch:=omega) only [Bv,L,t,ak,Ep,Int.reduceEq,if_true,if_false]
end
end
section
open Go.IntKind (wrap)
theorem Lt (l:List Gi):l=[]∨∃l' f,l=l'++[f]:=by
 rcases List.eq_nil_or_concat l with h|⟨a,b,h⟩
 ·exact .inl h
 ·exact .inr ⟨a,b,by simpa using h⟩
def DS (l:List Gi):List Gi:=(l.reverse.dropWhile fun f=>f.left==0).reverse
theorem OC {l:List Gi}{f:Gi}(h:f.left=0):DS (l++[f])=DS l:=by
 unfold DS;rw [List.reverse_append,List.reverse_singleton,List.singleton_append,List.dropWhile_cons_of_pos (by simp [h])]
theorem IQ {l:List Gi}{f:Gi}(h:f.left≠0):DS (l++[f])=l++[f]:=by
 unfold DS;rw [List.reverse_append,List.reverse_singleton,List.singleton_append,List.dropWhile_cons_of_neg (by simp [h])]
 simp
def HV (l:List Gi):List Gi:=match l.getLast? with|some f=>l.dropLast++[⟨f.p,wrap .i64 (f.left-1),f.last⟩]|none=>[]
def NQ (l:List Gi)(x:It):List Gi:=
 if x.k=5∧x.n>0 then l++[⟨false,wrap .i64 x.n,[]⟩] else if x.k=6∧x.n>0 then l++[⟨true,wrap .i64 (2*wrap .i64 x.n),[]⟩] else l
def Fg (l:List Gi)(x:It):List Gi:=DS (NQ (HV l) x)
theorem Us (l:List Gi)(f:Gi):HV (l++[f])=l++[⟨f.p,wrap .i64 (f.left-1),f.last⟩]:=by
 unfold HV;simp
theorem KS (l:List Gi):(HV l).length=l.length:=by
 rcases Lt l with rfl|⟨l',f,rfl⟩
 ·rfl
 ·rw [Us];simp
theorem Rk (a b:List Gi):Eh (a++b)=Eh a++Eh b:=by
 unfold Eh;rw [List.flatMap_append]
theorem Q1 (f:Gi):Eh [f]=f.cells:=by
 unfold Eh;simp
section
variable {fu d:Nat}
theorem PL {call:Ai}{a0_0n:Nat}{a0_0:List PV}{a0_1 a1_0 a1_1:Int}{a1_2:ByteArray}{c:Int}:∀(n:Nat)(l:List Gi)(r:List PV)(nn:Nat),l.length=n->n<nn->n<=1000000 ->
  A8 fu call a0_0n a0_0 a0_1 a1_0 a1_1 a1_2 nn (l.length:Int) l.length c (Eh l++r)=some ⟨[],[Jy (DS l) c]⟩:=by
 intro n
 induction n with
 |zero=>
  intro l r nn hl hn _;obtain rfl:l=[]:=List.eq_nil_of_length_eq_zero hl;obtain ⟨m,rfl⟩:∃m,nn=m+1:=⟨nn-1,by omega⟩
  have e0:¬(((([]:List Gi).length:Nat):Int)>0):=by simp
  have e1:([]:List Gi).length*3<=(Eh []++r).length:=by simp
  rw [My];simp (disch:=first|assumption|omega) only [Bv];rfl
 |succ n ih=>
  intro l r nn hl hn hm;obtain ⟨m,rfl⟩:∃m,nn=m+1:=⟨nn-1,by omega⟩
  rcases Lt l with rfl|⟨l',f,rfl⟩
  ·simp at hl
  have hn':(l'++[f]).length=l'.length+1:=by simp
  have hx:(l'++[f])[l'.length]?=some f:=by simp
  have w:wrap .i64 (((l'++[f]).length:Int)-1)=(l'.length:Int):=by rw [Ak (by omega) (by omega)];omega
  have L:=Cs (l'++[f]);have L2:(Eh (l'++[f])++r).length=(l'++[f]).length*3+r.length:=by rw [I9,L]
  have t:List.take ((l'++[f]).length*3) (Eh (l'++[f])++r)=Eh (l'++[f]):=by rw [←L,List.take_left'];rfl
  have g1:(Eh (l'++[f])++r).getD (l'.length*3+1) .top=.sc (.int .i64 f.left):=by
   have:=D1 (f:=Gi.cells) Gi.cells_len hx (j:=1) (by omega)
   rw [List.getD_eq_getElem?_getD,List.getElem?_append_left (by rw [L];omega),←List.getD_eq_getElem?_getD]
   exact this
  rw [My];by_cases hz:f.left=0
  ·have e:Eh (l'++[f])++r=Eh l'++(f.cells++r):=by rw [Rk,Q1,YM]
   have q:=ih l' (f.cells++r) m (by omega) (by omega) (by omega)
   rw [←e] at q;rw [OC hz];have hb:(f.left==(0:Int))=true:=by simp [hz]
   simp (disch:=omega) only [Bv,w,H3,C3,Nat.sub_zero,g1,hb,q]
  ·rw [IQ hz];have hb:(f.left==(0:Int))=false:=by simp [hz]
   simp (disch:=omega) only [Bv,w,H3,C3,g1,hb,L2,t]
theorem Aca {l:List Gi}{x:It}{cnt:Int}(hl:l.length<=100000)(hf:l.length+1<fu)(h0:0<=cnt)(h1:cnt<=1000000):
  Ad C0 Tryz.prog fu (d+1) Qw [.pbox (Jy l cnt),.agg x.cells]=some ⟨[],[Jy (Fg l x) (cnt+1)]⟩:=by
 obtain ⟨k,v,s⟩:=x;refine (DY fu d l.length (Eh l) cnt k v s).trans ?_;have w1:wrap .i64 (cnt+1)=cnt+1:=Ak (by omega) (by omega)
 unfold Fg NQ;have DL:=KS l;generalize hD:HV l=l1 at DL ⊢;have L1:(Eh l1).length=l.length*3:=by rw [Cs,DL]
 have t1:List.take (l.length*3) (Eh l1)=Eh l1:=R6 (by omega)
 have p5:∀b u,Eh l1++[.sc (.bool b),.sc (.int .i64 u),.lst false 1 0 []]=Eh (l1++[⟨b,u,[]⟩]):=by
  intro b u;rw [Rk,Q1];rfl
 have lp0:∀call,A8 fu call l.length (Eh l) cnt k v s fu (l.length:Int) l.length (cnt+1) (Eh l1)=some ⟨[],[Jy (DS l1) (cnt+1)]⟩:=by
  intro call;have:=PL (fu:=fu) (call:=call) (a0_0n:=l.length) (a0_0:=Eh l) (a0_1:=cnt) (a1_0:=k) (a1_1:=v) (a1_2:=s) (c:=cnt+1) _ l1 [] fu rfl (by omega) (by omega)
  rw [List.append_nil,DL] at this;exact this
 have lp1:∀call f,A8 fu call l.length (Eh l) cnt k v s fu ((l.length+1:Nat):Int) (l.length+1) (cnt+1) (Eh (l1++[f]))=some ⟨[],[Jy (DS (l1++[f])) (cnt+1)]⟩:=by
  intro call f;have ll:(l1++[f]).length=l.length+1:=by simp [DL]
  have:=PL (fu:=fu) (call:=call) (a0_0n:=l.length) (a0_0:=Eh l) (a0_1:=cnt) (a1_0:=k) (a1_1:=v) (a1_2:=s) (c:=cnt+1) _ (l1++[f]) [] fu rfl (by omega) (by omega)
  rw [List.append_nil,ll] at this;exact this
 rcases Lt l with rfl|⟨l',f,rfl⟩
 ·have e0:¬(((([]:List Gi).length:Nat):Int)>0):=by simp
  obtain rfl:l1=[]:=by rw [←hD];rfl
  by_cases k5:k=5
  ·subst k5;by_cases hv:v>0
   ·rw [B4 ⟨rfl,hv⟩];simp (disch:=first|assumption|omega) only [Bv,w1,L1,t1,p5,lp1,Int.reduceBEq]
   ·rw [A5 (fun h=>hv h.2),A5 (fun h=>hv h.2)]
    simp (disch:=first|assumption|omega) only [Bv,w1,L1,t1,p5,lp0,Int.reduceBEq]
  ·have b5:(k==(5:Int))=false:=by simp [k5]
   rw [A5 (fun h=>k5 h.1)]
   by_cases k6:k=6
   ·subst k6;by_cases hv:v>0
    ·rw [B4 ⟨rfl,hv⟩];simp (disch:=first|assumption|omega) only [Bv,w1,L1,t1,p5,lp1,Int.reduceBEq]
    ·rw [A5 (fun h=>hv h.2)]
     simp (disch:=first|assumption|omega) only [Bv,w1,L1,t1,p5,lp0,Int.reduceBEq]
   ·have b6:(k==(6:Int))=false:=by simp [k6]
    rw [A5 (fun h=>k6 h.1)]
    simp (disch:=first|assumption|omega) only [Bv,w1,L1,t1,p5,lp0,b5,b6]
 ·have hn':(l'++[f]).length=l'.length+1:=by simp
  have hx:(l'++[f])[l'.length]?=some f:=by simp
  have w:wrap .i64 (((l'++[f]).length:Int)-1)=(l'.length:Int):=by rw [Ak (by omega) (by omega)];omega
  have L:=Cs (l'++[f]);have g1:(Eh (l'++[f])).getD (l'.length*3+1) .top=.sc (.int .i64 f.left):=D1 Gi.cells_len hx (j:=1) (by omega)
  have sp:Bg (Eh (l'++[f])) [.sc (.int .i64 (wrap .i64 (f.left-1)))] (l'.length*3+1)=Eh l1:=by
   rw [E6 (by omega),←hD,Us,Rk,Rk,Q1,Q1]
   have:=Cs l';rw [List.set_append_right _ _ (by omega)]
   have:l'.length*3+1-(Eh l').length=1:=by omega
   rw [this];rfl
  by_cases k5:k=5
  ·subst k5;by_cases hv:v>0
   ·rw [B4 ⟨rfl,hv⟩];simp (disch:=first|assumption|omega) only [Bv,w,w1,H3,C3,g1,sp,L1,t1,p5,lp1,Int.reduceBEq]
   ·rw [A5 (fun h=>hv h.2),A5 (fun h=>hv h.2)]
    simp (disch:=first|assumption|omega) only [Bv,w,w1,H3,C3,g1,sp,L1,t1,p5,lp0,Int.reduceBEq]
  ·have b5:(k==(5:Int))=false:=by simp [k5]
   rw [A5 (fun h=>k5 h.1)]
   by_cases k6:k=6
   ·subst k6;by_cases hv:v>0
    ·rw [B4 ⟨rfl,hv⟩];simp (disch:=first|assumption|omega) only [Bv,w,w1,H3,C3,g1,sp,L1,t1,p5,lp1,Int.reduceBEq]
    ·rw [A5 (fun h=>hv h.2)]
     simp (disch:=first|assumption|omega) only [Bv,w,w1,H3,C3,g1,sp,L1,t1,p5,lp0,Int.reduceBEq]
   ·have b6:(k==(6:Int))=false:=by simp [k6]
    rw [A5 (fun h=>k6 h.1)]
    simp (disch:=first|assumption|omega) only [Bv,w,w1,H3,C3,g1,sp,L1,t1,p5,lp0,b5,b6]
end
end
section
open Go.IntKind (wrap)
def SY (s:ByteArray):Bool:=Array.toList (ByteArray.data s)==Array.toList (ByteArray.data (ByteArray.mk #[]))
def F7 (x:It):Bool:=
 if x.k=3 then x.n==0 else if x.k=4 then x.n==0 else if x.k=8 then (x.n==0)&&SY x.s else if x.k=7 then decide (x.n<=1)&&SY x.s else SY x.s
section
variable {fu d:Nat}
theorem Adx (x:It):Ad C0 Tryz.prog fu (d+1) Xi [.agg x.cells]=some ⟨[.sc (.bool (F7 x))],[]⟩:=by
 obtain ⟨k,n,s⟩:=x;refine (MK fu d k n s).trans ?_;unfold F7;show _=some (⟨[.sc (.bool (if k=3 then n==0 else if k=4 then n==0 else if k=8 then (n==0)&&SY s else if k=7 then decide (n<=1)&&SY s else SY s))],[]⟩:Au)
 by_cases h3:k=3
 ·subst h3;simp only [Bv,Int.reduceBEq,if_true]
 by_cases h4:k=4
 ·subst h4;simp only [Bv,Int.reduceBEq,Int.reduceEq,if_true,if_false]
 have b3:(k==(3:Int))=false:=by simp [h3]
 have b4:(k==(4:Int))=false:=by simp [h4]
 by_cases h8:k=8
 ·subst h8;cases hn:n==0<;>simp only [Bv,Int.reduceBEq,Int.reduceEq,if_true,if_false,hn,Bool.true_and,Bool.false_and]<;>rfl
 have b8:(k==(8:Int))=false:=by simp [h8]
 by_cases h7:k=7
 ·subst h7;cases hn:decide (n<=1)<;>simp only [Bv,Int.reduceBEq,Int.reduceEq,if_true,if_false,hn,Bool.true_and,Bool.false_and]<;>rfl
 have b7:(k==(7:Int))=false:=by simp [h7]
 simp only [Bv,b3,b4,b8,b7,A5 h3,A5 h4,A5 h8,A5 h7];rfl
theorem FR {l:List Gi}{x:It}{cnt:Int}(hl:l.length<=1000)(hf:l.length+1<fu)(h0:0<=cnt)(h1:cnt<=1000000)(ha:Ql l=false)
  (hs:x.s.size<=100000)(hv:x.k=4->Lib.validD x.s.data.toList=true):
  Ad C0 Tryz.prog fu (d+2) Ih [.pbox (Jy l cnt),.agg x.cells]=some ⟨[.sc (.int .i64 0)],[Jy (Fg l x) (cnt+1)]⟩:=by
 have st:=Aca (fu:=fu) (d:=d) (l:=l) (x:=x) (cnt:=cnt) (by omega) hf h0 h1
 have ak:=HZ (fu:=fu) (d:=d) (l:=l) (by omega) cnt
 have L:=Cs l;have t:=Da l;have L2:=Cs (Fg l x);have t2:=Da (Fg l x);rw [ha] at ak;generalize hE:Fg l x=E at *
 obtain ⟨k,n,s⟩:=x;have va:=Oe (fu:=fu) (d:=d) s (Nat.le_trans hs (by omega))
 unfold VJ at va;refine (Il fu (d+1) l.length (Eh l) cnt k n s).trans ?_;unfold Jy It.cells at st;unfold Jy at ak;by_cases k4:k=4
 ·subst k4;rw [hv rfl] at va;simp (disch:=omega) only [Bv,Int.reduceBEq,va,C8,L,t,ak,st,L2,t2]
 ·have b4:(k==(4:Int))=false:=by simp [k4]
  simp (disch:=omega) only [Bv,b4,L,t,ak,st,L2,t2]
theorem Ahi {l:List Gi}{x:It}{cnt:Int}(hl:l.length<=1000)(hf:l.length+1<fu)(h0:0<=cnt)(h1:cnt<=1000000)(ha:Ql l=false)
  (hs:x.s.size<=1024)(hv:x.k=4->Lib.validD x.s.data.toList=true)(hd:(decide (cnt>0)&&((l.length:Int)==0))=false) (hm:Ij l cnt x.k=0)(hsh:F7 x=true)(hn:x.n<=512∨(x.k≠5∧x.k≠6)):
  Ad C0 Tryz.prog fu (d+3) M4 [.pbox (Jy l cnt),.agg x.cells]=some ⟨[.sc (.int .i64 0)],[Jy (Fg l x) (cnt+1)]⟩:=by
 have ac:=FR (fu:=fu) (d:=d) (l:=l) (x:=x) (cnt:=cnt) hl hf h0 h1 ha (by omega) hv
 have dn:=QR (fu:=fu) (d:=d+1) l cnt;have ad:=WP (fu:=fu) (d:=d) (l:=l) (by omega) cnt x.k
 have sh:=Adx (fu:=fu) (d:=d+1) x;rw [hd] at dn;rw [hm] at ad;rw [hsh] at sh;have L:=Cs l;have t:=Da l;have L2:=Cs (Fg l x);have t2:=Da (Fg l x);generalize hE:Fg l x=E at *
 obtain ⟨k,n,s⟩:=x;have hs':¬((s.size:Int)>1024):=by have:s.size<=1024:=hs;omega
 refine (Ww fu (d+2) l.length (Eh l) cnt k n s).trans ?_;unfold Jy It.cells at ac;unfold Jy at dn ad;unfold It.cells at sh;by_cases k5:k=5
 ·subst k5;have hn':¬(n>512):=hn.elim (fun h=>Int.not_lt.2 h) (fun h=>absurd rfl h.1)
  simp (disch:=first|assumption|omega) only [Bv,Int.reduceBEq,dn,ad,sh,ac,C8,L,t,L2,t2,bne_self_eq_false]
 have b5:(k==(5:Int))=false:=by simp [k5]
 by_cases k6:k=6
 ·subst k6;have hn':¬(n>512):=hn.elim (fun h=>Int.not_lt.2 h) (fun h=>absurd rfl h.2)
  simp (disch:=first|assumption|omega) only [Bv,Int.reduceBEq,dn,ad,sh,ac,C8,L,t,L2,t2,bne_self_eq_false]
 have b6:(k==(6:Int))=false:=by simp [k6]
 simp (disch:=first|assumption|omega) only [Bv,b5,b6,dn,ad,sh,ac,C8,L,t,L2,t2,bne_self_eq_false]
end
end
section
open Go.IntKind (wrap)
theorem Qz (l:List It):(Cd l).length=l.length*3:=RX It.cells_len l
structure Ak8 (l:List Gi) (cnt:Int) (x:It):Prop where
 hl:l.length<=100
 h0:0<=cnt
 h1:cnt<=1000
 ha:Ql l=false
 hs:x.s.size<=1024
 hv:x.k=4->Lib.validD x.s.data.toList=true
 hd:(decide (cnt>0)&&((l.length:Int)==0))=false
 hm:Ij l cnt x.k=0
 hsh:F7 x=true
 hn:x.n<=512∨(x.k≠5∧x.k≠6)
def Pe:List Gi->Int->List It->Prop
 |l,cnt,[]=>l=[]∧cnt>0
 |l,cnt,x::r=>Ak8 l cnt x∧Pe (Fg l x) (cnt+1) r
section
variable {fu d:Nat}
theorem MX (hfu:200<=fu){l:List It}(hl:l.length<=100000){a0n:Nat}{a0:List PV}:∀(r:List It)(i:Nat)(fs:List Gi)(cnt:Int)(nn:Nat),l.drop i=r->i+r.length=l.length->r.length<nn->Pe fs cnt r ->
  Ht fu (Ad C0 Tryz.prog fu (d+3)) a0n a0 nn l.length (Cd l) (l.length:Int) (i:Int) fs.length cnt (Eh fs)=some ⟨[.sc (.int .i64 0)],[]⟩:=by
 intro r
 induction r with
 |nil=>
  intro i fs cnt nn hd hi hn hg;obtain ⟨rfl,hc⟩:=hg;obtain ⟨m,rfl⟩:∃m,nn=m+1:=⟨nn-1,by omega⟩
  rw [AA,PU] at hi;rw [Ov];have dn:=QR (fu:=fu) (d:=d+2) [] cnt;have e:(decide (cnt>0)&&(((([]:List Gi).length:Nat):Int)==0))=true:=by simp [hc]
  rw [e] at dn;unfold Jy at dn;have L:=Cs [];have t:=Da [];have c:¬((i:Int)<(l.length:Int)):=by omega
  simp (disch:=first|assumption|omega) only [Bv,L,t,dn,C8]
 |cons x r ih=>
  intro i fs cnt nn hd hi hn hg;obtain ⟨g,hg⟩:=hg;obtain ⟨m,rfl⟩:∃m,nn=m+1:=⟨nn-1,by omega⟩
  rw [Jz] at hi hn
  have hx:l[i]?=some x:=by
   have:=congrArg (fun q=>q[0]?) hd
   simpa using this
  have hd':l.drop (i+1)=r:=by
   have:=congrArg (List.drop 1) hd;rw [List.drop_drop] at this
   simpa using this
  have q:=ih (i+1) (Fg fs x) (cnt+1) m hd' (by omega) (by omega) hg
  have ck:=Ahi (fu:=fu) (d:=d) (l:=fs) (x:=x) (cnt:=cnt) (by have:=g.hl;omega) (by have:=g.hl;omega) g.h0 (by have:=g.h1;omega) g.ha g.hs g.hv g.hd g.hm g.hsh g.hn
  generalize Fg fs x=E at *
  have g0:(Cd l).getD (i*3) .top=.sc (.int .i64 x.k):=D1 It.cells_len hx (j:=0) (by omega)
  have g1:(Cd l).getD (i*3+1) .top=.sc (.int .u64 x.n):=D1 It.cells_len hx (j:=1) (by omega)
  have g2:(Cd l).getD (i*3+1+1) .top=.sc (.string x.s):=D1 It.cells_len hx (j:=2) (by omega)
  have L:=Cs fs;have t:=Da fs;have w:wrap .i64 ((i:Int)+1)=((i+1:Nat):Int):=by rw [Ak (by omega) (by omega)];omega
  rw [Ov];unfold Jy It.cells at ck;simp (disch:=first|assumption|omega) only [Bv,H3,g0,g1,g2,L,t,ck,bne_self_eq_false,w,q]
theorem Qq (hfu:200<=fu){l:List It}(hl:l.length<=100000)(hf:l.length<fu)(hg:Pe [] 0 l):Ad C0 Tryz.prog fu (d+4) Th [.lst false 3 l.length (Cd l)]=some ⟨[.sc (.int .i64 0)],[]⟩:=by
 rw [GN];exact MX hfu hl l 0 [] 0 fu rfl (by omega) hf hg
end
end
section
open Go.IntKind (wrap)
section
variable {fu d:Nat}
theorem WX (hfu:1000<=fu){l:List It}(hl:l.length<=100000){a0n:Nat}{a0:List PV}:∀(r:List It)(i:Nat)(o:List Int)(nn:Nat),l.drop i=r->i+r.length=l.length->r.length<nn->(∀x∈r,x.ok)->(o++Be r).length<=300000 ->
  Ja fu (Ad C0 Tryz.prog fu (d+2)) a0n a0 nn o.length l.length (Cd l) (l.length:Int) (i:Int) (Af .u8 o)=some ⟨[.own 1 (o++Be r).length (Af .u8 (o++Be r)),.sc (.int .i64 0)],[]⟩:=by
 intro r
 induction r with
 |nil=>
  intro i o nn hd hi hn hg hb;obtain ⟨m,rfl⟩:∃m,nn=m+1:=⟨nn-1,by omega⟩
  rw [AA,PU] at hi;have e:o++Be []=o:=by simp [Be]
  rw [e,R3];have L:(Af .u8 o).length=o.length:=Aj _ _;have t:List.take o.length (Af .u8 o)=Af .u8 o:=R6 (by omega)
  have c:¬((i:Int)<(l.length:Int)):=by omega
  simp (disch:=first|assumption|omega) only [Bv,Cb,L,t]
 |cons x r ih=>
  intro i o nn hd hi hn hg hb;obtain ⟨m,rfl⟩:∃m,nn=m+1:=⟨nn-1,by omega⟩
  rw [Jz] at hi hn
  have hx:l[i]?=some x:=by
   have:=congrArg (fun q=>q[0]?) hd
   simpa using this
  have hd':l.drop (i+1)=r:=by
   have:=congrArg (List.drop 1) hd;rw [List.drop_drop] at this
   simpa using this
  have e:o++Be (x::r)=(o++Bp x)++Be r:=by simp [Be]
  rw [e] at hb ⊢
  have ho:o.length<=300000:=by
   rw [I9,I9] at hb;omega
  have q:=ih (i+1) (o++Bp x) m hd' (by omega) (by omega) (fun y hy=>hg y (List.mem_cons_of_mem _ hy)) hb
  have it:=Aa3 (fu:=fu) (d:=d) hfu (l:=o) ho (x:=x) (hg x (by simp))
  have g0:(Cd l).getD (i*3) .top=.sc (.int .i64 x.k):=D1 It.cells_len hx (j:=0) (by omega)
  have g1:(Cd l).getD (i*3+1) .top=.sc (.int .u64 x.n):=D1 It.cells_len hx (j:=1) (by omega)
  have g2:(Cd l).getD (i*3+1+1) .top=.sc (.string x.s):=D1 It.cells_len hx (j:=2) (by omega)
  have L:(Af .u8 o).length=o.length:=Aj _ _;have t:List.take o.length (Af .u8 o)=Af .u8 o:=R6 (by omega)
  have w:wrap .i64 ((i:Int)+1)=((i+1:Nat):Int):=by rw [Ak (by omega) (by omega)];omega
  rw [R3];unfold It.cells at it;simp (disch:=first|assumption|omega) only [Bv,H3,Cb,g0,g1,g2,L,t,it,w,q]
theorem VY (hfu:1000<=fu){l:List It}(hl:l.length<=100000)(hf:l.length<fu)(hg:Pe [] 0 l) (hk:∀x∈l,x.ok)(hb:(Be l).length<=300000):
  Ad C0 Tryz.prog fu (d+5) Qp [.lst false 3 l.length (Cd l)]=some ⟨[.own 1 (Be l).length (Af .u8 (Be l)),.sc (.int .i64 0)],[]⟩:=by
 rw [MM];have v:=Qq (fu:=fu) (d:=d) (by omega) hl hf hg
 have q:=WX (fu:=fu) (d:=d+2) hfu hl (a0n:=l.length) (a0:=Cd l) l 0 [] fu rfl (by omega) hf hk (by simpa using hb)
 rw [Zzq] at q;simp only [Bv,v,bne_self_eq_false];exact q
end
end
section
open Go.IntKind (wrap)
section
variable {fu d:Nat}
theorem RB (hfu:200<=fu){l:List It}(hl:l.length<=100000)(hf:l.length<fu)(hg:Pe [] 0 l):
  Ad C0 Tryz.prog fu (d+5) Ua [.own 3 l.length (Cd l)]=some ⟨[.own 3 l.length (Cd l),.sc (.int .i64 0)],[]⟩:=by
 rw [HR];have v:=Qq (fu:=fu) (d:=d) hfu hl hf hg;have L:=Qz l;have t:List.take (l.length*3) (Cd l)=Cd l:=R6 (by omega)
 simp (disch:=omega) only [Bv,L,t,El,v,bne_self_eq_false]
end
end
section
open Go.IntKind (wrap)
structure TW (x:It):Prop where
 kd:x.k=1∨x.k=2∨x.k=3∨x.k=4∨x.k=7∨x.k=8
 hs:x.s.size<=1024
 hv:x.k=4->Lib.validD x.s.data.toList=true
 hsh:F7 x=true
 n0:0<=x.n
theorem TW.ok {x:It}(h:TW x):x.ok:=by
 have:=h.kd;have:=h.hs;exact ⟨by omega,by omega,h.n0,by omega⟩
theorem TW.push {x:It}(h:TW x)(l:List Gi):NQ l x=l:=by
 unfold NQ;have:=h.kd;rw [A5 (by omega),A5 (by omega)]
theorem Ac5 {x:It}(h:TW x):Pe [] 0 [x]:=by
 have hk:=h.kd;refine ⟨⟨by simp,by omega,by omega,rfl,h.hs,h.hv,rfl,?_,h.hsh,.inr (by omega)⟩,?_,?_⟩
 ·unfold Ij;rw [A5 (by omega),A5 (by omega),A5 (by omega),A5 (by intro q;exact absurd q.1 (by decide)),A5 (by simp)]
 ·unfold Fg;rw [h.push];rfl
 ·omega
theorem KY:∀(r:List It)(cnt:Int),r≠[]->(∀x∈r,TW x)->0<cnt->cnt+r.length<=500->Pe [⟨false,r.length,[]⟩] cnt r
 |[],_,h,_,_,_=>absurd rfl h
 |x::r,cnt,_,hf,hc,hl=>by
  have h:=hf x (by simp)
  have hk:=h.kd;simp only [Jz] at hl;refine ⟨⟨by simp,by omega,by omega,rfl,h.hs,h.hv,by simp,?_,h.hsh,.inr (by omega)⟩,?_⟩
  ·unfold Ij;rw [A5 (by omega),A5 (by omega),A5 (by omega),A5 (by intro q;exact absurd q.1 (by simp [Ql])),A5 (by simp)]
  ·have w:wrap .i64 (((x::r).length:Int)-1)=(r.length:Int):=by
    rw [Ak (by simp only [Jz];omega) (by simp only [Jz];omega)]
    simp only [Jz];omega
   have e:Fg [⟨false,((x::r).length:Nat),[]⟩] x=DS [⟨false,(r.length:Nat),[]⟩]:=by
    unfold Fg;rw [h.push];have:=Us [] ⟨false,((x::r).length:Nat),[]⟩;rw [Zzq,Zzq] at this;rw [this];simp only [w]
   rw [e];by_cases hr:r=[]
   ·subst hr;have:=OC (l:=[]) (f:=⟨false,(([]:List It).length:Nat),[]⟩) rfl;rw [Zzq] at this;rw [this];exact ⟨rfl,by omega⟩
   ·have:=IQ (l:=[]) (f:=⟨false,(r.length:Nat),[]⟩) (by simp only;have:=List.length_pos_iff.2 hr;omega)
    rw [Zzq] at this;rw [this];exact KY r (cnt+1) hr (fun y hy=>hf y (List.mem_cons_of_mem _ hy)) (by omega) (by omega)
theorem Acm {r:List It}(hr:r≠[]) (hl:r.length<=400)(hf:∀x∈r,TW x):Pe [] 0 (⟨5,r.length,⟨#[]⟩⟩::r):=by
 have hp:=List.length_pos_iff.2 hr;refine ⟨⟨by simp,by omega,by omega,rfl,Nat.zero_le _,(by intro h;cases h),rfl,?_,(by rfl),.inl (by simp only;omega)⟩,?_⟩
 ·unfold Ij;rw [A5 (by omega),A5 (by simp),A5 (by simp),A5 (by intro q;exact absurd q.1 (by decide)),A5 (by simp)]
 ·have w:wrap .i64 (r.length:Int)=(r.length:Int):=Ak (by omega) (by omega)
  have e:Fg [] ⟨5,(r.length:Nat),⟨#[]⟩⟩=DS [⟨false,(r.length:Nat),[]⟩]:=by
   unfold Fg NQ;rw [B4 ⟨rfl,by simp only;omega⟩]
   simp only [w];rfl
  have:=IQ (l:=[]) (f:=⟨false,(r.length:Nat),[]⟩) (by simp only;omega)
  rw [Zzq] at this;rw [e,this];exact KY r _ hr hf (by omega) (by omega)
end
section
open Go.IntKind (wrap)
def Alb (v:List It):List PV:=[.lst false 3 v.length (Cd v)]
theorem Ac6 (v:List It):(Alb v).length=1:=rfl
def Ado (l:List (List It)):List PV:=l.flatMap Alb
theorem atv {l:List (List It)} {i:Nat}{v:List It}(h:l[i]?=some v):(Ado l).getD (i*1) .top=.lst false 3 v.length (Cd v):=by
 exact D1 Ac6 h (j:=0) (by omega)
section
variable {fu d:Nat}
theorem FX (hfu:1000<=fu){a0n:Nat}{a0:List PV}{vs:List (List It)} (hl:vs.length<=100000):∀(r:List (List It)) (i nn:Nat),vs.drop i=r->r.length<nn->(∀v∈r,Pe [] 0 v∧v.length<1000)->i<=vs.length ->
  Jc fu (Ad C0 Tryz.prog fu (d+4)) a0n a0 nn vs.length (Ado vs) (vs.length:Int) (i:Int)=some ⟨[.sc (.int .i64 0)],[]⟩
 |_,_,0,_,h,_,_=>by omega
 |[],i,nn+1,h,hn,hg,hi=>by
  have:=drop_nil h;rw [Ry,Do _ _ _ (by omega)]
 |v::r,i,nn+1,h,hn,hg,hi=>by
  obtain ⟨h1,h2,h3⟩:=Cm h;simp only [Jz] at hn;have w:wrap .i64 ((i:Int)+1)=((i+1:Nat):Int):=by rw [Ak (by omega) (by omega)];omega
  have ih:=FX hfu (a0n:=a0n) (a0:=a0) hl r (i+1) nn h3 (by omega) (fun v hv=>hg v (List.mem_cons_of_mem _ hv)) (by omega)
  obtain ⟨g,gl⟩:=hg v (by simp)
  have vg:=Qq (fu:=fu) (d:=d) (by omega) (by omega) (by omega) g
  have g0:=atv h2;rw [Ry];simp (disch:=omega) only [Bv,H3,g0,vg,bne_self_eq_false,w,ih]
theorem VV (hfu:1000<=fu){vs:List (List It)} (hl:vs.length<1000)(hg:∀v∈vs,Pe [] 0 v∧v.length<1000):
  Ad C0 Tryz.prog fu (d+5) W7 [.lst false 1 vs.length (Ado vs)]=some ⟨[.sc (.int .i64 0)],[]⟩:=by
 rw [MS];exact FX hfu (by omega) vs 0 fu rfl (by omega) hg (by omega)
theorem UC (a b:List It):Cd (a++b)=Cd a++Cd b:=by
 unfold Cd;rw [List.flatMap_append]
theorem JI (hfu:1000<=fu){a0n:Nat}{a0:List PV}{vs:List (List It)} (hl:vs.length<=100000):∀(r:List (List It)) (i nn:Nat)(o:List It),vs.drop i=r->r.length<nn->Pe [] 0 (o++r.flatten)->(o++r.flatten).length<=500->i<=vs.length ->
  Lm fu (Ad C0 Tryz.prog fu (d+5)) a0n a0 nn o.length vs.length (Ado vs) (vs.length:Int) (i:Int) (Cd o)=some ⟨[.own 3 (o++r.flatten).length (Cd (o++r.flatten)),.sc (.int .i64 0)],[]⟩
 |_,_,0,_,_,h,_,_,_=>by omega
 |[],i,nn+1,o,h,hn,hg,hb,hi=>by
  have:=drop_nil h;have e:o++([]:List (List It)).flatten=o:=by simp
  rw [e] at hg hb ⊢;have L:=Qz o;have t:List.take (o.length*3) (Cd o)=Cd o:=R6 (by omega)
  have ck:=RB (fu:=fu) (d:=d) (by omega) (by omega) (by omega) hg
  rw [S8,Do _ _ _ (by omega)]
  simp (disch:=omega) only [Bv,L,t,ck]
 |v::r,i,nn+1,o,h,hn,hg,hb,hi=>by
  obtain ⟨h1,h2,h3⟩:=Cm h;simp only [Jz] at hn;have w:wrap .i64 ((i:Int)+1)=((i+1:Nat):Int):=by rw [Ak (by omega) (by omega)];omega
  have e:o++(v::r).flatten=(o++v)++r.flatten:=by simp
  rw [e] at hg hb ⊢
  have hb':o.length+v.length<=500:=by
   rw [I9,I9] at hb;omega
  have ih:=JI hfu (a0n:=a0n) (a0:=a0) hl r (i+1) nn (o++v) h3 (by omega) hg hb (by omega)
  have g0:=atv h2;have L:=Qz o;have Lv:=Qz v;have t:List.take (o.length*3) (Cd o)=Cd o:=R6 (by omega)
  rw [I9,UC] at ih;rw [S8];simp (disch:=omega) only [Bv,H3,g0,L,Lv,t,w,ih]
theorem YV (hfu:1000<=fu){vs:List (List It)} (hg:∀v∈vs,Pe [] 0 v∧v.length<1000) (hl:vs.length<=400)(ha:Pe [] 0 (⟨5,vs.length,⟨#[]⟩⟩::vs.flatten)) (hb:vs.flatten.length<=400):
  Ad C0 Tryz.prog fu (d+6) Sd [.lst false 1 vs.length (Ado vs)]=some ⟨[.own 3 (vs.flatten.length+1) (Cd (⟨5,vs.length,⟨#[]⟩⟩::vs.flatten)),.sc (.int .i64 0)],[]⟩:=by
 rw [QZ];have f:=VV (fu:=fu) (d:=d) hfu (by omega) hg
 have w:wrap .u64 (vs.length:Int)=vs.length:=Ci (by omega) (by omega)
 have q:=JI (fu:=fu) (d:=d) hfu (a0n:=vs.length) (a0:=Ado vs) (by omega) vs 0 fu [⟨5,vs.length,⟨#[]⟩⟩] rfl (by omega) ha (by rw [I9,List.length_singleton];omega) (by omega)
 simp only [Bv,f,bne_self_eq_false,w];exact q
end
end
section
open Go.IntKind (wrap)
def An6 (a b:List Int):Int:=Lib.compareBytes (a.map fun n=>n.toNat.toUInt8) (b.map fun n=>n.toNat.toUInt8)
def Rt (a b:List Int):Bool:=if a.length=b.length then decide (An6 a b<0) else decide (a.length<b.length)
def Ig (l:List Gi)(key:List Int):List Gi:=match l.getLast? with|some f=>l.dropLast++[⟨f.p,f.left,key⟩]|none=>l
theorem Lr (l:List Gi)(f:Gi)(key:List Int):Ig (l++[f]) key=l++[⟨f.p,f.left,key⟩]:=by
 unfold Ig;simp
def HD (l:List Gi):List Int:=match l.getLast? with|some f=>f.last|none=>[]
theorem QN (l:List Gi)(f:Gi):HD (l++[f])=f.last:=by
 unfold HD;simp
def Dt (l:List Gi)(x:It):Int × List Gi:=
 if x.k=4∧VJ x.s=false then (6,l)
 else if Ql l=true then (if HD l≠[]∧Rt (HD l) (Bp x)=false then (7,l) else (0,Fg (Ig l (Bp x)) x))
 else (0,Fg l x)
theorem Adh (x:It):1<=(Bp x).length:=by
 unfold Bp;have h2:=Gy 2 x.s.size;have h3:=Gy 3 x.s.size;have h4:=Gy (x.k-1) x.n
 repeat' split
 all_goals try simp only [I9,Jz,AA]
 all_goals omega
section
variable {fu d:Nat}
theorem ZB (a b:List Int):Ad C0 Tryz.prog fu (d+1) 133 [.lst false 1 a.length (Af .u8 a),.lst false 1 b.length (Af .u8 b)]=some ⟨[.sc (.int .i64 (An6 a b))],[]⟩:=by
 have h:Ad C0 Tryz.prog fu (d+1) 133 [.lst false 1 a.length (Af .u8 a),.lst false 1 b.length (Af .u8 b)]=Vp [.lst false 1 a.length (Af .u8 a),.lst false 1 b.length (Af .u8 b)]:=by kernel_rfl
 rw [h];unfold Vp;simp only [Aj,Nat.beq_refl,Bool.and_self,cond_true,E1];rfl
theorem Aao (a b:List Int):Ad C0 Tryz.prog fu (d+2) Vr [.lst false 1 a.length (Af .u8 a),.lst false 1 b.length (Af .u8 b)]=some ⟨[.sc (.bool (Rt a b))],[]⟩:=by
 refine (LY fu (d+1) _ _ _ _).trans ?_;have c:=ZB (fu:=fu) (d:=d) a b;unfold Rt;by_cases h:a.length=b.length
 ·have b0:((a.length:Int) != (b.length:Int))=false:=by simp [h]
  rw [B4 h];simp only [Bv,b0,c]
 ·have b0:((a.length:Int) != (b.length:Int))=true:=by simp;omega
  rw [A5 h];simp only [Bv,b0];simp
theorem QD {l:List Gi}{x:It}{cnt:Int}(hfu:1000<=fu)(hl:l.length<=900)(h0:0<=cnt)(h1:cnt<=1000000)(hx:x.ok)(hs:x.s.size<=100000):
  Ad C0 Tryz.prog fu (d+3) Ih [.pbox (Jy l cnt),.agg x.cells]=some ⟨[.sc (.int .i64 (Dt l x).1)],[Jy (Dt l x).2 (if (Dt l x).1=0 then cnt+1 else cnt)]⟩:=by
 cases ha:Ql l with
 |false=>
  cases hv:(x.k==4) && !VJ x.s with
  |false=>
   have e:Dt l x=(0,Fg l x):=by
    unfold Dt;rw [A5,A5 (by simp [ha])]
    intro hh;simp [hh.1,hh.2] at hv
   have:=FR (fu:=fu) (d:=d+1) (l:=l) (x:=x) (cnt:=cnt) (by omega) (by omega) h0 h1 ha hs (by
    intro hk;simp [hk] at hv;exact hv)
   rw [e,this];rfl
  |true=>
   simp at hv
   have e:Dt l x=(6,l):=by
    unfold Dt;rw [B4 hv]
   rw [e];obtain ⟨k,n,s⟩:=x;have va:=Oe (fu:=fu) (d:=d+1) s (Nat.le_trans hs (by omega))
   simp only at hv;obtain ⟨rfl,hv⟩:=hv;rw [hv] at va;have L:=Cs l;have t:=Da l;refine (Il fu (d+2) l.length (Eh l) cnt 4 n s).trans ?_;simp (disch:=omega) only [Bv,Int.reduceBEq,va,L,t];rfl
 |true=>
  rcases Lt l with rfl|⟨l',f,rfl⟩
  ·exact absurd ha (by decide)
  have it:=Aa3 (fu:=fu) (d:=d) hfu (l:=[]) (by simp) hx
  rw [Zzq] at it;have hp:=Adh x;have sm:=Aao (fu:=fu) (d:=d) f.last (Bp x);have ak:=HZ (fu:=fu) (d:=d+1) (l:=l'++[f]) (by omega) cnt
  rw [ha] at ak;have st:=Aca (fu:=fu) (d:=d+1) (l:=Ig (l'++[f]) (Bp x)) (x:=x) (cnt:=cnt) (by rw [Lr];simp at hl ⊢;omega) (by rw [Lr];simp at hl ⊢;omega) h0 h1
  have E:Dt (l'++[f]) x=(if x.k=4∧VJ x.s=false then (6,l'++[f]) else if f.last≠[]∧Rt f.last (Bp x)=false then (7,l'++[f]) else (0,Fg (Ig (l'++[f]) (Bp x)) x)):=by
   unfold Dt;rw [ha,QN];simp only [if_true]
  have hn':(l'++[f]).length=l'.length+1:=by simp
  have hx':(l'++[f])[l'.length]?=some f:=by simp
  have w:wrap .i64 (((l'++[f]).length:Int)-1)=(l'.length:Int):=by rw [Ak (by omega) (by omega)];omega
  have L:=Cs (l'++[f]);have t:=Da (l'++[f]);have g2:(Eh (l'++[f])).getD (l'.length*3+2) .top=.lst false 1 f.last.length (Af .u8 f.last):=D1 Gi.cells_len hx' (j:=2) (by omega)
  have sp:Bg (Eh (l'++[f])) [.lst false 1 (Bp x).length (Af .u8 (Bp x))] (l'.length*3+2)=Eh (Ig (l'++[f]) (Bp x)):=by
   rw [E6 (by omega),Lr,Rk,Rk,Q1,Q1]
   have:=Cs l';rw [List.set_append_right _ _ (by omega)]
   have:l'.length*3+2-(Eh l').length=2:=by omega
   rw [this];rfl
  have LK:=Cs (Ig (l'++[f]) (Bp x));have tK:=Da (Ig (l'++[f]) (Bp x));have nK:(Ig (l'++[f]) (Bp x)).length=(l'++[f]).length:=by rw [Lr];simp
  rw [nK] at LK tK;have L2:=Cs (Fg (Ig (l'++[f]) (Bp x)) x);have t2:=Da (Fg (Ig (l'++[f]) (Bp x)) x);have Lk:=Aj .u8 (Bp x);have tk:=I1 .u8 (Bp x);unfold Jy at st ak ⊢;rw [nK] at st;rw [E];generalize Fg (Ig (l'++[f]) (Bp x)) x=S at *
  generalize Eh (Ig (l'++[f]) (Bp x))=K at *
  have hsm:f.last.length=0->Rt f.last (Bp x)=true:=by
   intro hz;unfold Rt;rw [A5 (by omega)]
   simp;omega
  have hnil:f.last≠[]↔0<f.last.length:=by rw [List.length_pos_iff]
  generalize hKe:Bp x=key at *
  obtain ⟨k,n,s⟩:=x;have va:=Oe (fu:=fu) (d:=d+1) s (Nat.le_trans hs (by omega))
  unfold VJ at va ⊢;unfold It.cells at st it ⊢;simp only at st it hs ⊢;refine (Il fu (d+2) (l'++[f]).length (Eh (l'++[f])) cnt k n s).trans ?_;simp only [AA] at it;have it0:Af .u8 []=[]:=rfl;rw [it0] at it
  try unfold Aa
  repeat' first
   |((with_reducible first|apply Ay|apply Ao|apply Az|apply A6|apply Bf|apply Cv|apply Am);· first|with_reducible rfl|(simp (disch:=first|with_reducible assumption|omega) only [va,L,t,ak,w,H3,C3,PU,it,g2,Cb,El,Lk,tk,sm,sp,LK,tK,st,L2,t2]<;>with_reducible rfl))
   |((with_reducible first|apply Aw|apply Av);· first|with_reducible rfl|with_reducible assumption|omega|(simp (disch:=first|with_reducible assumption|omega) only [gT,va,L,t,ak,w,H3,C3,PU,it,g2,Cb,El,Lk,tk,sm,sp,LK,tK,st,L2,t2]<;>omega))
   |(with_reducible apply Ax;· first|with_reducible rfl|with_reducible assumption|(simp (disch:=first|with_reducible assumption|omega) only [gF,va,L,t,ak,w,H3,C3,PU,it,g2,Cb,El,Lk,tk,sm,sp,LK,tK,st,L2,t2]<;>omega))
   |(with_reducible refine Afk ?_ ?_<;>intro hb<;>try simp only [decide_eq_true_eq,decide_eq_false_iff_not,beq_iff_eq,beq_eq_false_iff_ne,bne_iff_ne,bne_eq_false_iff_eq,ne_eq,Bool.not_eq_true',Bool.not_eq_false',Bool.not_eq_true,Bool.not_eq_false] at hb)
   |(with_reducible refine RW ?_ ?_)
  all_goals try simp (disch:=first|with_reducible assumption|omega) only [va,L,t,ak,w,H3,C3,PU,it,g2,Cb,El,Lk,tk,sm,sp,LK,tK,st,L2,t2]
  all_goals clear st it ak va sm L t g2 sp LK tK L2 t2 Lk tk it0 E ha hKe
  all_goals repeat' split
  all_goals first
   |rfl
   |(exfalso;simp_all;done)
   |(exfalso;simp_all;omega)
end
end
section
open Go.IntKind (wrap)
set_option maxRecDepth 100000
abbrev O4:FuncId:=113
noncomputable def F8 (fu:Nat)(call:Ai)(a0_0n:Nat)(a0_0:List PV)(a0_1:Int)(D5:Nat)(a0_2:List PV)(a0_3:Int)(nn:Nat)(y0 y1 y2:Int)(y3:Nat)(y4:List PV)(y5 y6:Int)(y7:Nat)(y8:Int)(y9:Nat)(y10:List PV)(Jj:Int)(Nv:List PV):Option Au:=C9 CB Tryz.prog fu call 113 Tryz.f113 (B5 Tryz.f113) [.pbox [.own 3 a0_0n a0_0,.sc (.int .i64 a0_1),.lst false 1 D5 a0_2,.sc (.int .i64 a0_3)]] [.r,.r,.r,.r,.r,.r,.r,.r,.r,.r,.r,.l,.r,.l] nn ⟨lk [(0,(.ptr 240000 0)),(2,(.sc (.int .i64 y0))),(3,(.sc (.int .u64 y1))),(8,(.sc (.int .i64 y2))),(94,(.lst false 1 y3 y4)),(95,(.sc (.int .i64 y5))),(96,(.sc (.int .i64 y6)))],B3 [(240000,(.st [(.view 240120 3 0 y7),(.sc (.int .i64 y8)),(.lst false 1 y9 y10),(.sc (.int .i64 Jj))])),(240120,(.ar false Nv))]⟩
theorem J6 (fu:Nat)(call:Ai)(a0_0n:Nat)(a0_0:List PV)(a0_1:Int)(D5:Nat)(a0_2:List PV)(a0_3:Int)(nn:Nat)(y0 y1 y2:Int)(y3:Nat)(y4:List PV)(y5 y6:Int)(y7:Nat)(y8:Int)(y9:Nat)(y10:List PV)(Jj:Int)(Nv:List PV):F8 fu call a0_0n a0_0 a0_1 D5 a0_2 a0_3 (nn+1) y0 y1 y2 y3 y4 y5 y6 y7 y8 y9 y10 Jj Nv=(Bb (decide (y6<y5)) (Ap (decide (0<=y6)&&decide (y6<(↑y3:Int)))<|Ae .u8 (List.getD y4 (Int.toNat y6*1) .top) fun Ex=>Aa (Gm .u64 y1 8) fun Eu=>Aa (wrap .u64 Ex) fun E5=>Aa (OH .u64 Eu E5) fun Hq=>Aa (wrap .i64 (y6+1)) fun Gn=>F8 fu call a0_0n a0_0 a0_1 D5 a0_2 a0_3 (nn) (y0) Hq (y2) (y3) (y4) (y5) Gn (y7) (y8) (y9) (y10) (Jj) (Nv)) (Aa (wrap .i64 (Jj+y2)) fun G3=>Ag (call 127 [.sc (.int .u64 y1)]) fun Ds De=>Ac De<|Ab Ds fun Fx Hp=>Ae .i64 Fx fun Es=>Ac Hp<|Bb (decide (Es<y2)) (Ap (decide (y7*3<=Nv.length))<|some (Au.mk [.sc (.int .i64 0),.sc (.int .u64 0),.sc (.int .i64 2)] [[.own 3 y7 (List.take (y7*3) Nv),.sc (.int .i64 y8),.lst false 1 y9 y10,.sc (.int .i64 G3)]])) (Ap (decide (y7*3<=Nv.length))<|some (Au.mk [.sc (.int .i64 y0),.sc (.int .u64 y1),.sc (.int .i64 0)] [[.own 3 y7 (List.take (y7*3) Nv),.sc (.int .i64 y8),.lst false 1 y9 y10,.sc (.int .i64 G3)]])))):=by kernel_rfl
theorem Yi (fu d a0_0n:Nat)(a0_0:List PV)(a0_1:Int)(D5:Nat)(a0_2:List PV)(a0_3:Int):Ad C0 Tryz.prog fu (d+1) O4 [.pbox [.own 3 a0_0n a0_0,.sc (.int .i64 a0_1),.lst false 1 D5 a0_2,.sc (.int .i64 a0_3)]]=(fun (call:Ai)=>Bb (decide (a0_3>=(↑D5:Int))) (Ap (decide (a0_0n*3<=a0_0.length))<|some (Au.mk [.sc (.int .i64 0),.sc (.int .u64 0),.sc (.int .i64 1)] [[.own 3 a0_0n (List.take (a0_0n*3) a0_0),.sc (.int .i64 a0_1),.lst false 1 D5 a0_2,.sc (.int .i64 a0_3)]])) (Ap (decide (0<=a0_3)&&decide (a0_3<(↑D5:Int)))<|Ae .u8 (List.getD a0_2 (Int.toNat a0_3*1) .top) fun x1=>Aa (wrap .i64 (a0_3+1)) fun x2=>Bb (x1==244) (Aa (wrap .u8 (x1-244)) fun x3=>Aa (wrap .u64 x3) fun x4=>Ap (decide (a0_0n*3<=a0_0.length))<|some (Au.mk [.sc (.int .i64 7),.sc (.int .u64 x4),.sc (.int .i64 0)] [[.own 3 a0_0n (List.take (a0_0n*3) a0_0),.sc (.int .i64 a0_1),.lst false 1 D5 a0_2,.sc (.int .i64 x2)]])) (Bb (x1==245) (Aa (wrap .u8 (x1-244)) fun x5=>Aa (wrap .u64 x5) fun x6=>Ap (decide (a0_0n*3<=a0_0.length))<|some (Au.mk [.sc (.int .i64 7),.sc (.int .u64 x6),.sc (.int .i64 0)] [[.own 3 a0_0n (List.take (a0_0n*3) a0_0),.sc (.int .i64 a0_1),.lst false 1 D5 a0_2,.sc (.int .i64 x2)]])) (Bb (x1==246) (Ap (decide (a0_0n*3<=a0_0.length))<|some (Au.mk [.sc (.int .i64 8),.sc (.int .u64 0),.sc (.int .i64 0)] [[.own 3 a0_0n (List.take (a0_0n*3) a0_0),.sc (.int .i64 a0_1),.lst false 1 D5 a0_2,.sc (.int .i64 x2)]])) (Aa (Dw .u8 x1 5) fun x7=>Aa (Rw .u8 x1 31) fun x8=>Bb (decide (x7>5)) (Ap (decide (a0_0n*3<=a0_0.length))<|some (Au.mk [.sc (.int .i64 0),.sc (.int .u64 0),.sc (.int .i64 2)] [[.own 3 a0_0n (List.take (a0_0n*3) a0_0),.sc (.int .i64 a0_1),.lst false 1 D5 a0_2,.sc (.int .i64 x2)]])) (Bb (decide (x8>27)) (Ap (decide (a0_0n*3<=a0_0.length))<|some (Au.mk [.sc (.int .i64 0),.sc (.int .u64 0),.sc (.int .i64 2)] [[.own 3 a0_0n (List.take (a0_0n*3) a0_0),.sc (.int .i64 a0_1),.lst false 1 D5 a0_2,.sc (.int .i64 x2)]])) (Aa (wrap .i64 x7) fun x9=>Aa (wrap .i64 (1+x9)) fun Cg=>Bb (decide (x8<24)) (Aa (wrap .u64 x8) fun Cj=>Ap (decide (a0_0n*3<=a0_0.length))<|some (Au.mk [.sc (.int .i64 Cg),.sc (.int .u64 Cj),.sc (.int .i64 0)] [[.own 3 a0_0n (List.take (a0_0n*3) a0_0),.sc (.int .i64 a0_1),.lst false 1 D5 a0_2,.sc (.int .i64 x2)]])) (Aa (wrap .u8 (x8-24)) fun Dd=>Ap (decide (0<=Dd))<|Aa (Gm .i64 1 Dd) fun Dk=>Aa (wrap .i64 ((↑D5:Int)-x2)) fun C6=>Bb (decide (C6<Dk)) (Ap (decide (a0_0n*3<=a0_0.length))<|some (Au.mk [.sc (.int .i64 0),.sc (.int .u64 0),.sc (.int .i64 1)] [[.own 3 a0_0n (List.take (a0_0n*3) a0_0),.sc (.int .i64 a0_1),.lst false 1 D5 a0_2,.sc (.int .i64 x2)]])) (Aa (wrap .i64 (x2+Dk)) fun Du=>Ap (decide (0<=x2))<|Ap (decide (0<=Du))<|Ap (decide (Int.toNat x2<=Int.toNat Du)&&decide (Int.toNat Du<=D5))<|Aa (Int.toNat Du-Int.toNat x2) fun D7=>Aa (List.take (D7*1) (List.drop (Int.toNat x2*1) a0_2)) fun Ed=>F8 fu call a0_0n a0_0 a0_1 D5 a0_2 a0_3 (fu) Cg 0 Dk D7 Ed ((↑D7:Int)) 0 (a0_0n) (a0_1) (D5) (a0_2) x2 (a0_0)))))))))) (Ad C0 Tryz.prog fu d):=by kernel_rfl
abbrev Ow:FuncId:=91
theorem Y4 (fu d a0_0n:Nat)(a0_0:List PV)(a0_1:Int)(D5:Nat)(a0_2:List PV)(a0_3:Int):Ad C0 Tryz.prog fu (d+1) Ow [.pbox [.own 3 a0_0n a0_0,.sc (.int .i64 a0_1),.lst false 1 D5 a0_2,.sc (.int .i64 a0_3)]]=(fun (call:Ai)=>Ap (decide (a0_0n*3<=a0_0.length))<|Ag (call 113 [.pbox [.own 3 a0_0n (List.take (a0_0n*3) a0_0),.sc (.int .i64 a0_1),.lst false 1 D5 a0_2,.sc (.int .i64 a0_3)]]) fun x1 x2=>Ab x1 fun x3 x4=>Ae .i64 x3 fun x5=>Ab x4 fun x6 x7=>Ae .u64 x6 fun x8=>Ab x7 fun x9 Cg=>Ae .i64 x9 fun Cj=>Ac Cg<|Ab x2 fun Dd Dk=>Ab Dd fun C6 Du=>D0 3 C6 fun D7 Ed=>Ab Du fun Ex Eu=>Ae .i64 Ex fun E5=>Ab Eu fun Hq Gn=>Ho 1 Hq fun G3 Ds De=>Ab Gn fun Fx Hp=>Ae .i64 Fx fun Es=>Ac Hp<|Ac Dk<|Bb (Cj != 0) (Ap (decide (D7*3<=Ed.length))<|some (Au.mk [.agg [.sc (.int .i64 0),.sc (.int .u64 0),.sc (.string (ByteArray.mk #[]))],.sc (.int .i64 Cj)] [[.own 3 D7 (List.take (D7*3) Ed),.sc (.int .i64 E5),.lst false 1 Ds De,.sc (.int .i64 Es)]])) (Ap (decide (D7*3<=Ed.length))<|Ag (call 114 [.pbox [.own 3 D7 (List.take (D7*3) Ed),.sc (.int .i64 E5)],.sc (.int .i64 x5)]) fun I8 Lg=>Ab I8 fun Jw J4=>Ae .i64 Jw fun Ka=>Ac J4<|Ab Lg fun Mo O9=>Ab Mo fun Qs Qj=>D0 3 Qs fun Gs H0=>Ab Qj fun Sn Y2=>Ae .i64 Sn fun Lh=>Ac Y2<|Ac O9<|Bb (Ka != 0) (Ap (decide (Gs*3<=H0.length))<|some (Au.mk [.agg [.sc (.int .i64 0),.sc (.int .u64 0),.sc (.string (ByteArray.mk #[]))],.sc (.int .i64 Ka)] [[.own 3 Gs (List.take (Gs*3) H0),.sc (.int .i64 Lh),.lst false 1 Ds De,.sc (.int .i64 Es)]])) (Bb (x5==5) (Bb (decide (x8>512)) (Ap (decide (Gs*3<=H0.length))<|some (Au.mk [.agg [.sc (.int .i64 0),.sc (.int .u64 0),.sc (.string (ByteArray.mk #[]))],.sc (.int .i64 8)] [[.own 3 Gs (List.take (Gs*3) H0),.sc (.int .i64 Lh),.lst false 1 Ds De,.sc (.int .i64 Es)]])) (Ap (decide (Gs*3<=H0.length))<|Ag (call 115 [.pbox [.own 3 Gs (List.take (Gs*3) H0),.sc (.int .i64 Lh)],.agg [.sc (.int .i64 x5),.sc (.int .u64 x8),.sc (.string (ByteArray.mk #[]))]]) fun Tv Tr=>Ab Tv fun Tk Sj=>Ae .i64 Tk fun Xn=>Ac Sj<|Ab Tr fun X3 R4=>Ab X3 fun Vw Xk=>D0 3 Vw fun Wt Om=>Ab Xk fun Xr CG=>Ae .i64 Xr fun BC=>Ac CG<|Ac R4<|Bb (Xn != 0) (Ap (decide (Wt*3<=Om.length))<|some (Au.mk [.agg [.sc (.int .i64 0),.sc (.int .u64 0),.sc (.string (ByteArray.mk #[]))],.sc (.int .i64 Xn)] [[.own 3 Wt (List.take (Wt*3) Om),.sc (.int .i64 BC),.lst false 1 Ds De,.sc (.int .i64 Es)]])) (Ap (decide (Wt*3<=Om.length))<|some (Au.mk [.agg [.sc (.int .i64 x5),.sc (.int .u64 x8),.sc (.string (ByteArray.mk #[]))],.sc (.int .i64 0)] [[.own 3 Wt (List.take (Wt*3) Om),.sc (.int .i64 BC),.lst false 1 Ds De,.sc (.int .i64 Es)]])))) (Bb (x5==6) (Bb (decide (x8>512)) (Ap (decide (Gs*3<=H0.length))<|some (Au.mk [.agg [.sc (.int .i64 0),.sc (.int .u64 0),.sc (.string (ByteArray.mk #[]))],.sc (.int .i64 8)] [[.own 3 Gs (List.take (Gs*3) H0),.sc (.int .i64 Lh),.lst false 1 Ds De,.sc (.int .i64 Es)]])) (Ap (decide (Gs*3<=H0.length))<|Ag (call 115 [.pbox [.own 3 Gs (List.take (Gs*3) H0),.sc (.int .i64 Lh)],.agg [.sc (.int .i64 x5),.sc (.int .u64 x8),.sc (.string (ByteArray.mk #[]))]]) fun CI Tw=>Ab CI fun Yo CF=>Ae .i64 Yo fun Xe=>Ac CF<|Ab Tw fun Tx CD=>Ab Tx fun Uv Xd=>D0 3 Uv fun Wl V6=>Ab Xd fun Xc Xh=>Ae .i64 Xc fun Ze=>Ac Xh<|Ac CD<|Bb (Xe != 0) (Ap (decide (Wl*3<=V6.length))<|some (Au.mk [.agg [.sc (.int .i64 0),.sc (.int .u64 0),.sc (.string (ByteArray.mk #[]))],.sc (.int .i64 Xe)] [[.own 3 Wl (List.take (Wl*3) V6),.sc (.int .i64 Ze),.lst false 1 Ds De,.sc (.int .i64 Es)]])) (Ap (decide (Wl*3<=V6.length))<|some (Au.mk [.agg [.sc (.int .i64 x5),.sc (.int .u64 x8),.sc (.string (ByteArray.mk #[]))],.sc (.int .i64 0)] [[.own 3 Wl (List.take (Wl*3) V6),.sc (.int .i64 Ze),.lst false 1 Ds De,.sc (.int .i64 Es)]])))) (Bb (x5==3) (Bb (decide (x8>1024)) (Ap (decide (Gs*3<=H0.length))<|some (Au.mk [.agg [.sc (.int .i64 0),.sc (.int .u64 0),.sc (.string (ByteArray.mk #[]))],.sc (.int .i64 8)] [[.own 3 Gs (List.take (Gs*3) H0),.sc (.int .i64 Lh),.lst false 1 Ds De,.sc (.int .i64 Es)]])) (Aa (wrap .i64 ((↑Ds:Int)-Es)) fun Yy=>Aa (wrap .i64 x8) fun CE=>Bb (decide (Yy<CE)) (Ap (decide (Gs*3<=H0.length))<|some (Au.mk [.agg [.sc (.int .i64 0),.sc (.int .u64 0),.sc (.string (ByteArray.mk #[]))],.sc (.int .i64 1)] [[.own 3 Gs (List.take (Gs*3) H0),.sc (.int .i64 Lh),.lst false 1 Ds De,.sc (.int .i64 Es)]])) (Aa (wrap .i64 x8) fun GW=>Aa (wrap .i64 (Es+GW)) fun DQ=>Ap (decide (0<=Es))<|Ap (decide (0<=DQ))<|Ap (decide (Int.toNat Es<=Int.toNat DQ)&&decide (Int.toNat DQ<=Ds))<|Aa (Int.toNat DQ-Int.toNat Es) fun ES=>Aa (List.take (ES*1) (List.drop (Int.toNat Es*1) De)) fun HE=>Ap (decide (HE.length=ES))<|D8 (bytesOf HE) fun CH=>Aa (wrap .i64 x8) fun V4=>Aa (wrap .i64 (Es+V4)) fun MB=>Ap (decide (Gs*3<=H0.length))<|Ag (call 115 [.pbox [.own 3 Gs (List.take (Gs*3) H0),.sc (.int .i64 Lh)],.agg [.sc (.int .i64 x5),.sc (.int .u64 0),.sc (.string (ByteArray.mk (List.toArray CH)))]]) fun MD XP=>Ab MD fun WR TB=>Ae .i64 WR fun TC=>Ac TB<|Ab XP fun TN TL=>Ab TN fun TJ TK=>D0 3 TJ fun HA ON=>Ab TK fun UD VL=>Ae .i64 UD fun XO=>Ac VL<|Ac TL<|Bb (TC != 0) (Ap (decide (HA*3<=ON.length))<|some (Au.mk [.agg [.sc (.int .i64 0),.sc (.int .u64 0),.sc (.string (ByteArray.mk #[]))],.sc (.int .i64 TC)] [[.own 3 HA (List.take (HA*3) ON),.sc (.int .i64 XO),.lst false 1 Ds De,.sc (.int .i64 MB)]])) (Ap (decide (HA*3<=ON.length))<|some (Au.mk [.agg [.sc (.int .i64 x5),.sc (.int .u64 0),.sc (.string (ByteArray.mk (List.toArray CH)))],.sc (.int .i64 0)] [[.own 3 HA (List.take (HA*3) ON),.sc (.int .i64 XO),.lst false 1 Ds De,.sc (.int .i64 MB)]]))))) (Bb (x5==4) (Bb (decide (x8>1024)) (Ap (decide (Gs*3<=H0.length))<|some (Au.mk [.agg [.sc (.int .i64 0),.sc (.int .u64 0),.sc (.string (ByteArray.mk #[]))],.sc (.int .i64 8)] [[.own 3 Gs (List.take (Gs*3) H0),.sc (.int .i64 Lh),.lst false 1 Ds De,.sc (.int .i64 Es)]])) (Aa (wrap .i64 ((↑Ds:Int)-Es)) fun HL=>Aa (wrap .i64 x8) fun x95=>Bb (decide (HL<x95)) (Ap (decide (Gs*3<=H0.length))<|some (Au.mk [.agg [.sc (.int .i64 0),.sc (.int .u64 0),.sc (.string (ByteArray.mk #[]))],.sc (.int .i64 1)] [[.own 3 Gs (List.take (Gs*3) H0),.sc (.int .i64 Lh),.lst false 1 Ds De,.sc (.int .i64 Es)]])) (Aa (wrap .i64 x8) fun ZY=>Aa (wrap .i64 (Es+ZY)) fun TI=>Ap (decide (0<=Es))<|Ap (decide (0<=TI))<|Ap (decide (Int.toNat Es<=Int.toNat TI)&&decide (Int.toNat TI<=Ds))<|Aa (Int.toNat TI-Int.toNat Es) fun XQ=>Aa (List.take (XQ*1) (List.drop (Int.toNat Es*1) De)) fun EI=>Ap (decide (EI.length=XQ))<|D8 (bytesOf EI) fun Wm=>Aa (wrap .i64 x8) fun Va=>Aa (wrap .i64 (Es+Va)) fun Hc=>Ap (decide (Gs*3<=H0.length))<|Ag (call 115 [.pbox [.own 3 Gs (List.take (Gs*3) H0),.sc (.int .i64 Lh)],.agg [.sc (.int .i64 x5),.sc (.int .u64 0),.sc (.string (ByteArray.mk (List.toArray Wm)))]]) fun Jd Zw=>Ab Jd fun Sf Ru=>Ae .i64 Sf fun J0=>Ac Ru<|Ab Zw fun Wi Yf=>Ab Wi fun Yq Zb=>D0 3 Yq fun H1 Js=>Ab Zb fun Xy Ya=>Ae .i64 Xy fun Ye=>Ac Ya<|Ac Yf<|Bb (J0 != 0) (Ap (decide (H1*3<=Js.length))<|some (Au.mk [.agg [.sc (.int .i64 0),.sc (.int .u64 0),.sc (.string (ByteArray.mk #[]))],.sc (.int .i64 J0)] [[.own 3 H1 (List.take (H1*3) Js),.sc (.int .i64 Ye),.lst false 1 Ds De,.sc (.int .i64 Hc)]])) (Ap (decide (H1*3<=Js.length))<|some (Au.mk [.agg [.sc (.int .i64 x5),.sc (.int .u64 0),.sc (.string (ByteArray.mk (List.toArray Wm)))],.sc (.int .i64 0)] [[.own 3 H1 (List.take (H1*3) Js),.sc (.int .i64 Ye),.lst false 1 Ds De,.sc (.int .i64 Hc)]]))))) (Ap (decide (Gs*3<=H0.length))<|Ag (call 115 [.pbox [.own 3 Gs (List.take (Gs*3) H0),.sc (.int .i64 Lh)],.agg [.sc (.int .i64 x5),.sc (.int .u64 x8),.sc (.string (ByteArray.mk #[]))]]) fun EK Yg=>Ab EK fun Wk Yu=>Ae .i64 Wk fun Yv=>Ac Yu<|Ab Yg fun BU Za=>Ab BU fun Ys Pj=>D0 3 Ys fun Pm Sx=>Ab Pj fun Yh X4=>Ae .i64 Yh fun Lf=>Ac X4<|Ac Za<|Bb (Yv != 0) (Ap (decide (Pm*3<=Sx.length))<|some (Au.mk [.agg [.sc (.int .i64 0),.sc (.int .u64 0),.sc (.string (ByteArray.mk #[]))],.sc (.int .i64 Yv)] [[.own 3 Pm (List.take (Pm*3) Sx),.sc (.int .i64 Lf),.lst false 1 Ds De,.sc (.int .i64 Es)]])) (Ap (decide (Pm*3<=Sx.length))<|some (Au.mk [.agg [.sc (.int .i64 x5),.sc (.int .u64 x8),.sc (.string (ByteArray.mk #[]))],.sc (.int .i64 0)] [[.own 3 Pm (List.take (Pm*3) Sx),.sc (.int .i64 Lf),.lst false 1 Ds De,.sc (.int .i64 Es)]]))))))))) (Ad C0 Tryz.prog fu d):=by kernel_rfl
abbrev Xb:FuncId:=51
noncomputable def Ju (fu:Nat)(call:Ai)(a0n:Nat)(a0:List PV)(nn y0:Nat)(y1:List PV)(y2:Nat)(y3:Int)(y4:Nat)(y5:List PV)(y6:Int)(y7:List PV):Option Au:=C9 CB Tryz.prog fu call 51 Tryz.f51 (B5 Tryz.f51) [.lst false 1 a0n a0] [.r,.r,.l,.l] nn ⟨lk [(2,(.view 2 3 0 y0)),(5,(.ptr 5 0))],B3 [(2,(.ar false y1)),(5,(.st [(.view 32 3 0 y2),(.sc (.int .i64 y3)),(.lst false 1 y4 y5),(.sc (.int .i64 y6))])),(32,(.ar false y7))]⟩
theorem EP (fu:Nat)(call:Ai)(a0n:Nat)(a0:List PV)(nn y0:Nat)(y1:List PV)(y2:Nat)(y3:Int)(y4:Nat)(y5:List PV)(y6:Int)(y7:List PV):Ju fu call a0n a0 (nn+1) y0 y1 y2 y3 y4 y5 y6 y7=(Ap (decide (y2*3<=y7.length))<|Ag (call 90 [.pbox [.own 3 y2 (List.take (y2*3) y7),.sc (.int .i64 y3)]]) fun x1 x2=>Ab x1 fun x3 x4=>Bm x3 fun x5=>Ac x4<|Ab x2 fun x6 x7=>Ab x6 fun x8 x9=>D0 3 x8 fun Cg Cj=>Ab x9 fun Dd Dk=>Ae .i64 Dd fun C6=>Ac Dk<|Ac x7<|Bb (!x5) (Ap (decide (Cg*3<=Cj.length))<|Ag (call 91 [.pbox [.own 3 Cg (List.take (Cg*3) Cj),.sc (.int .i64 C6),.lst false 1 y4 y5,.sc (.int .i64 y6)]]) fun Du D7=>Ab Du fun Ed Ex=>Dm Ed fun Eu=>Ab Eu fun E5 Hq=>Ae .i64 E5 fun Gn=>Ab Hq fun G3 Ds=>Ae .u64 G3 fun De=>Ab Ds fun Fx Hp=>C4 Fx fun Es=>Ac Hp<|Ab Ex fun I8 Lg=>Ae .i64 I8 fun Jw=>Ac Lg<|Ab D7 fun J4 Ka=>Ab J4 fun Mo O9=>D0 3 Mo fun Qs Qj=>Ab O9 fun Gs H0=>Ae .i64 Gs fun Sn=>Ab H0 fun Y2 Lh=>Ho 1 Y2 fun Tv Tr Tk=>Ab Lh fun Sj Xn=>Ae .i64 Sj fun X3=>Ac Xn<|Ac Ka<|Bb (Jw != 0) (some (Au.mk [.own 3 0 [],.sc (.int .i64 0),.sc (.int .i64 Jw)] [])) (Ap (decide (y0*3<=y1.length)&&true&&decide ((y0+1)*32<=1099511627776)&&decide (y0+1<=1099511627776))<|Aa (y0+1) fun R4=>Aa (List.take (y0*3) y1++[.sc (.int .i64 Gn),.sc (.int .u64 De),.sc (.string Es)]) fun Vw=>Ju fu call a0n a0 (nn) R4 Vw Qs Sn Tr Tk X3 Qj)) (Ap (decide (y0*3<=y1.length))<|some (Au.mk [.own 3 y0 (List.take (y0*3) y1),.sc (.int .i64 y6),.sc (.int .i64 0)] []))):=by kernel_rfl
theorem MN (fu d a0n:Nat)(a0:List PV):Ad C0 Tryz.prog fu (d+1) Xb [.lst false 1 a0n a0]=(fun (call:Ai)=>Ju fu call a0n a0 (fu) 0 ([]) 0 0 (a0n) (a0) 0 ([])) (Ad C0 Tryz.prog fu d):=by kernel_rfl
end
section
open Go.IntKind (wrap)
structure Hd where
 k:Int
 n:Int
 e:Int
 at_:Nat
def O3 (n:Int):Int:=if n<24 then 0 else if n<256 then 1 else if n<65536 then 2 else if n<4294967296 then 4 else 8
def szE (low:Int):Nat:=if low=24 then 1 else if low=25 then 2 else if low=26 then 4 else 8
def Ti (b:List Int)(at_:Nat)(x:Int):Hd:=
 if x=244 then ⟨7,0,0,at_+1⟩ else if x=245 then ⟨7,1,0,at_+1⟩ else if x=246 then ⟨8,0,0,at_+1⟩
 else if x / 32>5 then ⟨0,0,2,at_+1⟩ else if x % 32>27 then ⟨0,0,2,at_+1⟩
 else if x % 32<24 then ⟨1+x / 32,x % 32,0,at_+1⟩
 else if b.length-(at_+1)<szE (x % 32) then ⟨0,0,1,at_+1⟩
 else if O3 (KH ((b.drop (at_+1)).take (szE (x % 32))))<szE (x % 32) then ⟨0,0,2,at_+1+szE (x % 32)⟩
 else ⟨1+x / 32,KH ((b.drop (at_+1)).take (szE (x % 32))),0,at_+1+szE (x % 32)⟩
def Fy (b:List Int)(at_:Nat):Hd:=match b[at_]? with|none=>⟨0,0,1,at_⟩|some x=>Ti b at_ x
theorem Asn {x:Int}(h:0<=x):Dw .u8 x 5=x / 32:=by
 unfold Dw;show x.fdiv (2 ^ (min (5:Int).toNat IntKind.u8.bits))=_;have h2:(2:Int) ^ (min (5:Int).toNat IntKind.u8.bits)=32:=by decide
 rw [h2,Int.fdiv_eq_ediv_of_nonneg _ (by omega)]
theorem An2 {x:Int}(h0:0<=x)(h1:x<=255):Rw .u8 x 31=x % 32:=by
 obtain ⟨n,rfl⟩:=Int.eq_ofNat_of_zero_le h0;have hn:n<256:=by omega
 have e1:(BitVec.ofInt 8 (n:Int)).toNat=n:=by
  rw [BitVec.toNat_ofInt];omega
 have e2:(BitVec.ofInt 8 (31:Int)).toNat=2 ^ 5-1:=by decide
 unfold Rw;show wrap .u8 ((BitVec.ofInt 8 (n:Int) &&& BitVec.ofInt 8 (31:Int)).toNat:Int)=_;rw [BitVec.toNat_and,e1,e2,Nat.and_two_pow_sub_one_eq_mod,Fh (by omega) (by omega)]
 omega
abbrev Add (l:List Gi)(cnt:Int)(b:List Int)(at_:Nat):List PV:=[.own 3 l.length (Eh l),.sc (.int .i64 cnt),.lst false 1 b.length (Af .u8 b),.sc (.int .i64 at_)]
section
variable {fu d:Nat}
theorem Ahz (n:Int):Ad C0 Tryz.prog fu (d+1) BG [.sc (.int .u64 n)]=some ⟨[.sc (.int .i64 (O3 n))],[]⟩:=by
 rw [QW];unfold O3
 try unfold Aa
 repeat' first
  |((with_reducible first|apply Ay|apply Ao|apply Az|apply Am);· first|with_reducible rfl|(simp (disch:=first|with_reducible assumption|omega) only [B4,A5]<;>with_reducible rfl))
  |((with_reducible first|apply Aw|apply Av);· first|with_reducible rfl|with_reducible assumption|omega|(simp (disch:=first|with_reducible assumption|omega) only [gT,B4,A5]<;>omega))
  |(with_reducible apply Ax;· first|with_reducible rfl|with_reducible assumption|(simp (disch:=first|with_reducible assumption|omega) only [gF,B4,A5]<;>omega))
  |(with_reducible refine Afk ?_ ?_<;>intro hb<;>try simp only [decide_eq_true_eq,decide_eq_false_iff_not,beq_iff_eq,beq_eq_false_iff_ne,bne_iff_ne,bne_eq_false_iff_eq,ne_eq,Bool.not_eq_true',Bool.not_eq_false',Bool.not_eq_true,Bool.not_eq_false] at hb)
  |(with_reducible refine RW ?_ ?_)
 all_goals try simp (disch:=first|with_reducible assumption|omega) only [B4,A5]
theorem JR {a0n a2n:Nat}{a0 a2:List PV}{a1 a3 k cnt:Int}{l:List Gi}{b:List Int}{off sz:Nat}{q:List Int}(hq:q.length=sz)(hb:b.length<=1000000)(ho:off+sz<=b.length):∀(r:List Int)(i nn:Nat)(v:Int),q.drop i=r->r.length<nn->i<=sz ->
    F8 fu (Ad C0 Tryz.prog fu (d+1)) a0n a0 a1 a2n a2 a3 nn k v (sz:Int) sz (Af .u8 q) (sz:Int) (i:Int) l.length cnt b.length (Af .u8 b) (off:Int) (Eh l) =
      (if O3 (r.foldl E2 v)<sz then some ⟨[.sc (.int .i64 0),.sc (.int .u64 0),.sc (.int .i64 2)],[Add l cnt b (off+sz)]⟩
       else some ⟨[.sc (.int .i64 k),.sc (.int .u64 (r.foldl E2 v)),.sc (.int .i64 0)],[Add l cnt b (off+sz)]⟩)
  |_,_,0,_,_,h,_=>by omega
  |[],i,nn+1,v,hd,hn,hi=>by
    have:=drop_nil hd
    have sh:=Ahz (fu:=fu) (d:=d) v
    have L:=Cs l
    have t:=Da l
    have w:wrap .i64 ((off:Int)+(sz:Int))=((off+sz:Nat):Int):=by rw [Ak (by omega) (by omega)];omega
    rw [J6,Do _ _ _ (by omega),List.foldl_nil]
    by_cases hs:O3 v<sz
    · rw [B4 hs]
      simp (disch:=omega) only [Bv,w,sh,L,t,Cb]
    · rw [A5 hs]
      simp (disch:=omega) only [Bv,w,sh,L,t,Cb]
  |x::r,i,nn+1,v,hd,hn,hi=>by
    obtain ⟨h1,h2,h3⟩:=Cm hd
    simp only [Jz] at hn
    have g0:=W5 (k:=.u8) h2
    have w:wrap .i64 ((i:Int)+1)=((i+1:Nat):Int):=by rw [Ak (by omega) (by omega)];omega
    have ih:=JR (a0n:=a0n) (a2n:=a2n) (a0:=a0) (a2:=a2) (a1:=a1) (a3:=a3) (k:=k) (cnt:=cnt) (l:=l) hq hb ho r (i+1) nn (E2 v x) h3 (by omega) (by omega)
    rw [List.foldl_cons,←ih,J6]
    simp (disch:=omega) only [Bv,H3,Cb,g0,w]
theorem Aie {l:List Gi}{cnt:Int}{b:List Int}{at_:Nat}(hfu:1000<=fu)(hb:Jv b)(hl:b.length<=1000000):
  Ad C0 Tryz.prog fu (d+2) O4 [.pbox (Add l cnt b at_)]=some ⟨[.sc (.int .i64 (Fy b at_).k),.sc (.int .u64 (Fy b at_).n),.sc (.int .i64 (Fy b at_).e)],[Add l cnt b (Fy b at_).at_]⟩:=by
 refine (Yi fu (d+1) l.length (Eh l) cnt b.length (Af .u8 b) (at_:Int)).trans ?_;have L:=Cs l;have t:=Da l;have Lb:=Aj .u8 b;have tb:=I1 .u8 b;unfold Fy;by_cases hlt:at_<b.length
 rotate_left
 ·have hg:b[at_]?=none:=List.getElem?_eq_none (by omega)
  rw [hg];simp (disch:=omega) only [Bv,L,t,Lb,tb,Cb]
 have hg:b[at_]?=some b[at_]:=List.getElem?_eq_getElem hlt;have hB:=hb _ (List.getElem_mem hlt);rw [hg];generalize b[at_]=x at hg hB;have g0:=W5 (k:=.u8) hg;have w1:wrap .i64 ((at_:Int)+1)=((at_+1:Nat):Int):=by rw [Ak (by omega) (by omega)];omega
 have s5:=Asn hB.1;have a31:=An2 hB.1 hB.2;unfold Ti;simp only;by_cases c1:x=244
 ·subst c1;have q:wrap .u64 (wrap .u8 ((244:Int)-244))=0:=by decide
  simp (disch:=omega) only [Bv,H3,C3,Cb,g0,Int.reduceBEq,w1,L,t,Lb,tb,q]
 rw [A5 c1];have b1:(x==(244:Int))=false:=by simp [c1]
 by_cases c2:x=245
 ·subst c2;have q:wrap .u64 (wrap .u8 ((245:Int)-244))=1:=by decide
  simp (disch:=omega) only [Bv,H3,C3,Cb,g0,Int.reduceBEq,w1,L,t,Lb,tb,q,if_true]
 rw [A5 c2];have b2:(x==(245:Int))=false:=by simp [c2]
 by_cases c3:x=246
 ·subst c3;simp (disch:=omega) only [Bv,H3,C3,Cb,g0,Int.reduceBEq,w1,L,t,Lb,tb,if_true]
 rw [A5 c3];have b3:(x==(246:Int))=false:=by simp [c3]
 by_cases c4:x / 32>5
 ·rw [B4 c4];simp (disch:=omega) only [Bv,H3,C3,Cb,g0,b1,b2,b3,s5,a31,w1,L,t,Lb,tb]
 rw [A5 c4];by_cases c5:x % 32>27
 ·rw [B4 c5];simp (disch:=omega) only [Bv,H3,C3,Cb,g0,b1,b2,b3,s5,a31,w1,L,t,Lb,tb]
 rw [A5 c5];have wk1:wrap .i64 (x / 32)=x / 32:=Ak (by omega) (by omega)
 have wk2:wrap .i64 (1+x / 32)=1+x / 32:=Ak (by omega) (by omega)
 by_cases c6:x % 32<24
 ·have wn:wrap .u64 (x % 32)=x % 32:=Ci (by omega) (by omega)
  rw [B4 c6];simp (disch:=omega) only [Bv,H3,C3,Cb,g0,b1,b2,b3,s5,a31,w1,wk1,wk2,wn,L,t,Lb,tb]
 rw [A5 c6];have q1:wrap .u8 (x % 32-24)=x % 32-24:=Fh (by omega) (by omega)
 have q2:Gm .i64 1 (x % 32-24)=(szE (x % 32):Int):=by
  have:x % 32=24∨x % 32=25∨x % 32=26∨x % 32=27:=by omega
  rcases this with h|h|h|h<;>rw [h]<;>decide
 have q3:szE (x % 32)<=8:=by
  unfold szE
  repeat' split
  all_goals omega
 generalize szE (x % 32)=sz at q2 q3 ⊢;have q4:wrap .i64 ((b.length:Int)-((at_+1:Nat):Int))=((b.length-(at_+1):Nat):Int):=by rw [Ak (by omega) (by omega)];omega
 by_cases c7:b.length-(at_+1)<sz
 ·rw [B4 c7];simp (disch:=omega) only [Bv,H3,C3,Cb,g0,b1,b2,b3,s5,a31,w1,wk1,wk2,q1,q2,q4,L,t,Lb,tb]
 rw [A5 c7];have q5:wrap .i64 (((at_+1:Nat):Int)+(sz:Int))=((at_+1+sz:Nat):Int):=by rw [Ak (by omega) (by omega)];omega
 have q6:at_+1+sz-(at_+1)=sz:=by omega
 have lp:=JR (fu:=fu) (d:=d) (a0n:=l.length) (a2n:=b.length) (a0:=Eh l) (a2:=Af .u8 b) (a1:=cnt) (a3:=(at_:Int)) (k:=1+x / 32) (cnt:=cnt) (l:=l) (b:=b) (off:=at_+1) (sz:=sz) (q:=(b.drop (at_+1)).take sz) (by rw [List.length_take,List.length_drop];omega) hl (by omega) _ 0 fu 0 rfl (by rw [El,List.length_take];omega) (by omega)
 rw [El] at lp;have lp':=lp;unfold KH;by_cases c8:O3 (((b.drop (at_+1)).take sz).foldl E2 0)<sz
 ·rw [B4 c8] at lp' ⊢;simp (disch:=omega) only [Bv,H3,C3,Cb,g0,b1,b2,b3,s5,a31,w1,wk1,wk2,q1,q2,q4,q5,q6,Hs,Nw,L,t,Lb,tb];exact lp'
 ·rw [A5 c8] at lp' ⊢;simp (disch:=omega) only [Bv,H3,C3,Cb,g0,b1,b2,b3,s5,a31,w1,wk1,wk2,q1,q2,q4,q5,q6,Hs,Nw,L,t,Lb,tb];exact lp'
end
end
section
open Go.IntKind (wrap)
structure Rd where
 x:It
 e:Int
 l:List Gi
 cnt:Int
 at_:Nat
def it0:It:=⟨0,0,⟨#[]⟩⟩
def Tb (l:List Gi)(cnt:Int)(x:It)(at_:Nat):Rd:=if (Dt l x).1=0 then ⟨x,0,(Dt l x).2,cnt+1,at_⟩ else ⟨it0,(Dt l x).1,(Dt l x).2,cnt,at_⟩
def ST (l:List Gi)(cnt:Int)(b:List Int)(h:Hd):Rd:=
 if h.e≠0 then ⟨it0,h.e,l,cnt,h.at_⟩
 else if Ij l cnt h.k≠0 then ⟨it0,Ij l cnt h.k,l,cnt,h.at_⟩
 else if h.k=5∨h.k=6 then (if h.n>512 then ⟨it0,8,l,cnt,h.at_⟩ else Tb l cnt ⟨h.k,h.n,⟨#[]⟩⟩ h.at_)
 else if h.k=3∨h.k=4 then (if h.n>1024 then ⟨it0,8,l,cnt,h.at_⟩ else if b.length-h.at_<h.n.toNat then ⟨it0,1,l,cnt,h.at_⟩
  else Tb l cnt ⟨h.k,0,B8 ((b.drop h.at_).take h.n.toNat)⟩ (h.at_+h.n.toNat))
 else Tb l cnt ⟨h.k,h.n,⟨#[]⟩⟩ h.at_
def Ff (l:List Gi)(cnt:Int)(b:List Int)(at_:Nat):Rd:=ST l cnt b (Fy b at_)
theorem FA (a b:Int):0<=E2 a b∧E2 a b<=18446744073709551615:=Bd _
theorem Uj:∀(l:List Int)(v:Int),0<=v->v<=18446744073709551615->0<=l.foldl E2 v∧l.foldl E2 v<=18446744073709551615
 |[],v,h0,h1=>⟨h0,h1⟩
 |x::l,v,h0,h1=>Uj l _ (FA v x).1 (FA v x).2
theorem PX {b:List Int}{at_:Nat}(hb:Jv b)(ha:at_<=b.length):(Fy b at_).at_<=b.length∧((Fy b at_).e=0->1<=(Fy b at_).k∧(Fy b at_).k<=8∧0<=(Fy b at_).n∧(Fy b at_).n<=18446744073709551615∧at_<(Fy b at_).at_):=by
 unfold Fy;by_cases hlt:at_<b.length
 rotate_left
 ·have hg:b[at_]?=none:=List.getElem?_eq_none (by omega)
  rw [hg];exact ⟨ha,fun h=>by simp at h⟩
 have hg:b[at_]?=some b[at_]:=List.getElem?_eq_getElem hlt;have hB:=hb _ (List.getElem_mem hlt);rw [hg];generalize b[at_]=x at hB;have hd:=Uj ((b.drop (at_+1)).take (szE (x % 32))) 0 (by omega) (by omega)
 show (Ti b at_ x).at_<=b.length∧_;simp only [Ti];unfold KH
 repeat' split
 all_goals refine ⟨by simp only;omega,fun h=>?_⟩
 all_goals first
  |(simp at h;done)
  |(simp only;omega)
section
variable {fu d:Nat}
theorem Ahc {l:List Gi}{cnt:Int}{b:List Int}{at_:Nat}(hfu:1000<=fu)(hb:Jv b)(hl:b.length<=1000000)(ha:at_<=b.length)(hf:l.length<=900)(h0:0<=cnt)(h1:cnt<=1000000):
  Ad C0 Tryz.prog fu (d+4) Ow [.pbox (Add l cnt b at_)]=some ⟨[.agg (Ff l cnt b at_).x.cells,.sc (.int .i64 (Ff l cnt b at_).e)],[Add (Ff l cnt b at_).l (Ff l cnt b at_).cnt b (Ff l cnt b at_).at_]⟩:=by
 refine (Y4 fu (d+3) l.length (Eh l) cnt b.length (Af .u8 b) (at_:Int)).trans ?_;have hd:=Aie (fu:=fu) (d:=d+1) (l:=l) (cnt:=cnt) (at_:=at_) hfu hb hl;have hk:=PX hb ha;unfold Ff;generalize Fy b at_=h at hd hk ⊢;obtain ⟨k,n,e,a⟩:=h;obtain ⟨ka,hk⟩:=hk;simp only at hd ka hk;have L:=Cs l;have t:=Da l;have ad:=WP (fu:=fu) (d:=d+1) (l:=l) (by omega) cnt k
 unfold Jy at ad;unfold ST;by_cases he:e=0
 rotate_left
 ·simp only [ne_eq,he,not_false_eq_true,if_true];have he':(e != 0)=true:=by simp [he]
  try unfold Aa
  repeat first
   |((with_reducible first|apply Ay|apply Ao|apply Az|apply Bf|apply Cv|apply Cz|apply Am);· first|with_reducible rfl|(simp (disch:=omega) only [hd,he',L,t]<;>with_reducible rfl))
   |((with_reducible first|apply Aw|apply Av);· first|with_reducible rfl|omega|(simp (disch:=omega) only [gT,hd,he',L,t]<;>omega))
   |(with_reducible apply Ax;· first|with_reducible rfl|(simp (disch:=omega) only [gF,hd,he',L,t]<;>omega))
  try simp (disch:=omega) only [hd,he',L,t]
  all_goals rfl
 subst he;obtain ⟨k1,k8,n0,n1,_⟩:=hk rfl;obtain ⟨m,rfl⟩:=Int.eq_ofNat_of_zero_le n0;have e00:((0:Int) != 0)=false:=rfl;simp only [ne_eq,not_true_eq_false,if_false];by_cases hm:Ij l cnt k=0
 rotate_left
 ·simp only [hm,not_false_eq_true,if_true];have he':(Ij l cnt k != 0)=true:=by simp [hm]
  try unfold Aa
  repeat first
   |((with_reducible first|apply Ay|apply Ao|apply Az|apply Bf|apply Cv|apply Cz|apply Am);· first|with_reducible rfl|(simp (disch:=omega) only [hd,e00,ad,he',L,t]<;>with_reducible rfl))
   |((with_reducible first|apply Aw|apply Av);· first|with_reducible rfl|omega|(simp (disch:=omega) only [gT,hd,e00,ad,he',L,t]<;>omega))
   |(with_reducible apply Ax;· first|with_reducible rfl|(simp (disch:=omega) only [gF,hd,e00,ad,he',L,t]<;>omega))
  try simp (disch:=omega) only [hd,e00,ad,he',L,t]
  all_goals rfl
 rw [hm] at ad ⊢;simp only [not_true_eq_false,if_false,H3];have ac1:=QD (fu:=fu) (d:=d) (l:=l) (x:=⟨k,m,⟨#[]⟩⟩) (cnt:=cnt) hfu (by omega) h0 h1 ⟨k1,k8,n0,Nat.zero_le _⟩ (Nat.zero_le _)
 have LA:=Cs (Dt l ⟨k,m,⟨#[]⟩⟩).2;have tA:=Da (Dt l ⟨k,m,⟨#[]⟩⟩).2;have B:=fun (hn:m<=1024)=>QD (fu:=fu) (d:=d) (l:=l) (x:=⟨k,0,B8 ((b.drop a).take m)⟩) (cnt:=cnt) hfu (by omega) h0 h1 ⟨k1,k8,by simp,by rw [Ft,List.length_take];omega⟩ (by rw [Ft,List.length_take];omega)
 have LB:=Cs (Dt l ⟨k,0,B8 ((b.drop a).take m)⟩).2;have tB:=Da (Dt l ⟨k,0,B8 ((b.drop a).take m)⟩).2;unfold Tb;generalize Dt l ⟨k,m,⟨#[]⟩⟩=A at *
 obtain ⟨A1,A2⟩:=A;have eB:ByteArray.mk (List.toArray (((b.drop a).take m).map fun n=>n.toNat.toUInt8))=B8 ((b.drop a).take m):=rfl
 have bo:=E1 ((b.drop a).take m);have tk:List.take m (List.drop a (Af .u8 b))=Af .u8 ((b.drop a).take m):=by rw [Hs,Nw]
 have lq:(Af .u8 ((b.drop a).take m)).length=min m (b.length-a):=by rw [Aj,List.length_take,List.length_drop]
 have Lb:=Aj .u8 b;generalize B8 ((b.drop a).take m)=S at *
 generalize Dt l ⟨k,0,S⟩=B' at *
 obtain ⟨B1,B2⟩:=B';generalize (b.drop a).take m=q at *
 unfold Jy It.cells at ac1 B;simp only at ac1 B LA tA LB tB;have w1:wrap .i64 ((b.length:Int)-(a:Int))=((b.length-a:Nat):Int):=by rw [Ak (by omega) (by omega)];omega
 have w2:m<=1024->wrap .i64 (m:Int)=m:=fun h=>Ak (by omega) (by omega)
 have w3:m<=1024->wrap .i64 ((a:Int)+(m:Int))=((a+m:Nat):Int):=fun h=>by rw [Ak (by omega) (by omega)];omega
 have w4:a+m-a=m:=by omega
 try unfold Aa
 repeat' first
  |((with_reducible first|apply Ay|apply Ao|apply Az|apply Bf|apply Cv|apply Cz|apply Am);· first|with_reducible rfl|(simp (disch:=first|with_reducible assumption|omega) only [hd,e00,ad,L,t,ac1,LA,tA,B,LB,tB,w1,w2,w3,w4,tk,bo,lq,eB,H3,Cb,C3]<;>with_reducible rfl))
  |((with_reducible first|apply Aw|apply Av);· first|with_reducible rfl|with_reducible assumption|omega|(simp (disch:=first|with_reducible assumption|omega) only [gT,hd,e00,ad,L,t,ac1,LA,tA,B,LB,tB,w1,w2,w3,w4,tk,bo,lq,eB,H3,Cb,C3]<;>omega))
  |(with_reducible apply Ax;· first|with_reducible rfl|with_reducible assumption|(simp (disch:=first|with_reducible assumption|omega) only [gF,hd,e00,ad,L,t,ac1,LA,tA,B,LB,tB,w1,w2,w3,w4,tk,bo,lq,eB,H3,Cb,C3]<;>omega))
  |(with_reducible refine Afk ?_ ?_<;>intro hb<;>try simp only [decide_eq_true_eq,decide_eq_false_iff_not,beq_iff_eq,beq_eq_false_iff_ne,bne_iff_ne,bne_eq_false_iff_eq,ne_eq,Bool.not_eq_true',Bool.not_eq_false',Bool.not_eq_true,Bool.not_eq_false] at hb)
  |(with_reducible refine RW ?_ ?_)
 all_goals try simp (disch:=first|with_reducible assumption|omega) only [hd,e00,ad,L,t,ac1,LA,tA,B,LB,tB,w1,w2,w3,w4,tk,bo,lq,eB,H3,Cb,C3,B4,A5]
 all_goals rfl
end
end
section
open Go.IntKind (wrap)
def PI (l:List Gi)(cnt:Int):Bool:=decide (cnt>0)&&((l.length:Int)==0)
def I6:Nat->List Gi->Int->List Int->Nat->List It->List It × Nat × Int
 |0,_,_,_,_,_=>([],0,2)
 |m+1,l,cnt,b,at_,its=>if PI l cnt=true then (its,at_,0) else
  if (Ff l cnt b at_).e≠0 then ([],0,(Ff l cnt b at_).e) else I6 m (Ff l cnt b at_).l (Ff l cnt b at_).cnt b (Ff l cnt b at_).at_ (its++[(Ff l cnt b at_).x])
def ZE (r:List It × Nat × Int):List PV:=[.own 3 r.1.length (Cd r.1),.sc (.int .i64 r.2.1),.sc (.int .i64 r.2.2)]
theorem Ag3 (l:List Gi):(DS l).length<=l.length:=by
 unfold DS;rw [List.length_reverse];have:=(List.dropWhile_sublist (l:=l.reverse) fun f=>f.left==0).length_le
 rw [List.length_reverse] at this;exact this
theorem NP (l:List Gi)(x:It):(Fg l x).length<=l.length+1:=by
 unfold Fg;refine Nat.le_trans (Ag3 _) ?_;have:=KS l;unfold NQ
 repeat' split
 all_goals simp
 all_goals omega
theorem YY (l:List Gi)(k:List Int):(Ig l k).length=l.length:=by
 rcases Lt l with rfl|⟨l',f,rfl⟩
 ·rfl
 ·rw [Lr];simp
theorem XN (l:List Gi)(x:It):(Dt l x).2.length<=l.length+1:=by
 unfold Dt;have h1:=NP l x;have h2:=NP (Ig l (Bp x)) x;rw [YY] at h2
 repeat' split
 all_goals simp only
 all_goals omega
structure OkX (x:It):Prop where
 k1:1<=x.k
 k8:x.k<=8
 n0:0<=x.n
 n1:x.n<=18446744073709551615
 s1:x.s.size<=1024
theorem Ago {l:List Gi}{cnt k:Int}(h:Ij l cnt k=0):cnt<512∧l.length<=8:=by
 unfold Ij at h
 repeat' split at h
 all_goals first
  |(cases h;done)
  |omega
theorem LG {l:List Gi}{cnt:Int}{x:It}{at_:Nat}(hx:OkX x)(h:(Tb l cnt x at_).e=0):(Tb l cnt x at_).cnt=cnt+1∧(Tb l cnt x at_).l.length<=l.length+1∧(Tb l cnt x at_).at_=at_∧OkX (Tb l cnt x at_).x:=by
 have:=XN l x;unfold Tb at h ⊢;by_cases hz:(Dt l x).1=0
 ·rw [B4 hz];exact ⟨rfl,this,rfl,hx⟩
 ·rw [A5 hz] at h;exact absurd h hz
theorem OP {l:List Gi}{cnt:Int}{b:List Int}{at_:Nat}(hb:Jv b)(ha:at_<=b.length)(h:(Ff l cnt b at_).e=0):
  cnt<512∧(Ff l cnt b at_).cnt=cnt+1∧(Ff l cnt b at_).l.length<=9∧at_<(Ff l cnt b at_).at_∧(Ff l cnt b at_).at_<=b.length∧OkX (Ff l cnt b at_).x:=by
 have hk:=PX hb ha;unfold Ff at h ⊢;generalize Fy b at_=q at h hk ⊢;obtain ⟨k,n,e,a⟩:=q;obtain ⟨ka,hk⟩:=hk;unfold ST at h ⊢;simp only at h hk ka ⊢;by_cases he:e=0
 rotate_left
 ·rw [B4 he] at h;exact absurd h he
 subst he;obtain ⟨k1,k8,n0,n1,hlt⟩:=hk rfl;rw [A5 (by simp)] at h ⊢
 by_cases hm:Ij l cnt k=0
 rotate_left
 ·rw [B4 hm] at h;exact absurd h hm
 obtain ⟨c1,c2⟩:=Ago hm;rw [A5 (by simp [hm])] at h ⊢
 have z:(ByteArray.mk #[]).size<=1024:=Nat.zero_le _;by_cases h56:k=5∨k=6
 ·rw [B4 h56] at h ⊢;by_cases hn:n>512
  ·rw [B4 hn] at h;exact absurd h (by simp)
  ·rw [A5 hn] at h ⊢;obtain ⟨p1,p2,p3,p4⟩:=LG ⟨k1,k8,n0,n1,z⟩ h;exact ⟨c1,p1,by omega,by omega,by omega,p4⟩
 ·rw [A5 h56] at h ⊢;by_cases h34:k=3∨k=4
  ·rw [B4 h34] at h ⊢;by_cases hn:n>1024
   ·rw [B4 hn] at h;exact absurd h (by simp)
   ·rw [A5 hn] at h ⊢;by_cases hr:b.length-a<n.toNat
    ·rw [B4 hr] at h;exact absurd h (by simp)
    ·rw [A5 hr] at h ⊢;obtain ⟨p1,p2,p3,p4⟩:=LG ⟨k1,k8,by simp,by simp,by rw [Ft,List.length_take];omega⟩ h
     exact ⟨c1,p1,by omega,by omega,by omega,p4⟩
  ·rw [A5 h34] at h ⊢;obtain ⟨p1,p2,p3,p4⟩:=LG ⟨k1,k8,n0,n1,z⟩ h;exact ⟨c1,p1,by omega,by omega,by omega,p4⟩
theorem BM {b:List Int}(hb:Jv b):∀(m:Nat)(l:List Gi)(cnt:Int)(at_:Nat)(its:List It),at_<=b.length->(∀x∈its,OkX x)->(I6 m l cnt b at_ its).2.1<=b.length∧∀x∈(I6 m l cnt b at_ its).1,OkX x
 |0,l,cnt,at_,its,h,hi=>⟨by simp [I6],by intro x hx;simp [I6] at hx⟩
 |m+1,l,cnt,at_,its,h,hi=>by
  unfold I6;by_cases hd:PI l cnt=true
  ·rw [B4 hd];exact ⟨h,hi⟩
  ·rw [A5 hd];by_cases he:(Ff l cnt b at_).e=0
   ·rw [A5 (by simp [he])]
    obtain ⟨_,_,_,_,p,q⟩:=OP hb h he;refine BM hb m _ _ _ _ p ?_;intro x hx;rcases List.mem_append.1 hx with hx|hx
    ·exact hi x hx
    ·simp at hx;subst hx;exact q
   ·rw [B4 he];exact ⟨by simp,by intro x hx;simp at hx⟩
section
variable {fu d:Nat}
theorem UO (hfu:1000<=fu){a0n:Nat}{a0:List PV}{b:List Int}(hb:Jv b)(hl:b.length<=1000000):∀(nn:Nat)(l:List Gi)(cnt:Int)(at_:Nat)(its:List It),0<=cnt->cnt<=512->512-cnt<nn->l.length<=9->at_<=b.length->its.length=cnt.toNat ->
  Ju fu (Ad C0 Tryz.prog fu (d+4)) a0n a0 nn its.length (Cd its) l.length cnt b.length (Af .u8 b) (at_:Int) (Eh l)=some ⟨ZE (I6 nn l cnt b at_ its),[]⟩
 |0,_,_,_,_,_,_,h,_,_,_=>by omega
 |nn+1,l,cnt,at_,its,h0,h1,hn,hf,ha,hi=>by
  have dn:=QR (fu:=fu) (d:=d+3) l cnt;have ri:=Ahc (fu:=fu) (d:=d) (l:=l) (cnt:=cnt) (b:=b) (at_:=at_) hfu hb hl ha (by omega) h0 (by omega)
  have ok:=OP (l:=l) (cnt:=cnt) hb ha;have L:=Cs l;have t:=Da l;have LT:=Qz its;have tT:List.take (its.length*3) (Cd its)=Cd its:=R6 (by omega)
  have ih:=UO hfu (a0n:=a0n) (a0:=a0) hb hl nn;rw [EP];unfold I6;unfold Jy at dn;change _=some (Au.mk [.sc (.bool (PI l cnt))] _) at dn;generalize Ff l cnt b at_=r at ri ok ⊢;obtain ⟨x,e,l2,cnt2,at2⟩:=r;simp only at ri ok ⊢;cases hd:PI l cnt
  ·rw [hd] at dn;rw [A5 (by simp)]
   by_cases he:e=0
   ·subst he;obtain ⟨p1,rfl,p3,p4,p5,p6⟩:=ok rfl;have q:=ih l2 (cnt+1) at2 (its++[x]) (by omega) (by omega) (by omega) p3 p5 (by simp;omega)
    rw [A5 (by simp),←q,UC,I9]
    have e1:Cd [x]=x.cells:=by simp [Cd]
    rw [e1];obtain ⟨xk,xn,xs⟩:=x;unfold It.cells at ri ⊢;have e00:((0:Int) != 0)=false:=rfl
    try unfold Aa
    repeat first
     |((with_reducible first|apply Ay|apply Ao|apply Az|apply A6|apply Ba|apply Bf|apply Cv|apply Bx|apply Am);· first|with_reducible rfl|(simp (disch:=omega) only [dn,ri,e00,L,t,LT,tT]<;>with_reducible rfl))
     |((with_reducible first|apply Aw|apply Av);· first|with_reducible rfl|omega|(simp (disch:=omega) only [gT,dn,ri,e00,L,t,LT,tT]<;>omega))
     |(with_reducible apply Ax;· first|with_reducible rfl|(simp (disch:=omega) only [gF,dn,ri,e00,L,t,LT,tT]<;>omega))
    try simp (disch:=omega) only [dn,ri,e00,L,t,LT,tT]
    all_goals rfl
   ·have he':(e != 0)=true:=by simp [he]
    rw [B4 he];obtain ⟨xk,xn,xs⟩:=x;unfold It.cells at ri
    try unfold Aa
    repeat first
     |((with_reducible first|apply Ay|apply Ao|apply Az|apply A6|apply Ba|apply Bf|apply Cv|apply Bx|apply Am);· first|with_reducible rfl|(simp (disch:=omega) only [dn,ri,he',L,t,LT,tT]<;>with_reducible rfl))
     |((with_reducible first|apply Aw|apply Av);· first|with_reducible rfl|omega|(simp (disch:=omega) only [gT,dn,ri,he',L,t,LT,tT]<;>omega))
     |(with_reducible apply Ax;· first|with_reducible rfl|(simp (disch:=omega) only [gF,dn,ri,he',L,t,LT,tT]<;>omega))
    try simp (disch:=omega) only [dn,ri,he',L,t,LT,tT]
    all_goals rfl
  ·rw [hd] at dn;rw [B4 rfl]
   try unfold Aa
   repeat first
    |((with_reducible first|apply Ay|apply Ao|apply Az|apply A6|apply Ba|apply Bf|apply Cv|apply Bx|apply Am);· first|with_reducible rfl|(simp (disch:=omega) only [dn,L,t,LT,tT]<;>with_reducible rfl))
    |((with_reducible first|apply Aw|apply Av);· first|with_reducible rfl|omega|(simp (disch:=omega) only [gT,dn,L,t,LT,tT]<;>omega))
    |(with_reducible apply Ax;· first|with_reducible rfl|(simp (disch:=omega) only [gF,dn,L,t,LT,tT]<;>omega))
   try simp (disch:=omega) only [dn,L,t,LT,tT]
   all_goals rfl
theorem Adz (hfu:1000<=fu){b:List Int}(hb:Jv b)(hl:b.length<=1000000):
  Ad C0 Tryz.prog fu (d+5) Xb [.lst false 1 b.length (Af .u8 b)]=some ⟨ZE (I6 fu [] 0 b 0 []),[]⟩:=by
 rw [MN];exact UO hfu hb hl fu [] 0 0 [] (by omega) (by omega) (by omega) (by simp) (by omega) (by simp)
end
end
section
open Go.IntKind (wrap)
theorem Akb {n:Int}(h0:0<=n):(n<256->KH (tb n 1)=n)∧(n<65536->KH (tb n 2)=n)∧(n<4294967296->KH (tb n 4)=n)∧(n<=18446744073709551615->KH (tb n 8)=n):=by
 have st:∀(k:Nat) (D:Int),n<=18446744073709551615->k<8->(2:Int) ^ (56-8*k)=D->0<D->E2 (n / D / 256) (C1 n k)=n / D:=by
  intro k D h1 hk hD hp;rw [OB k hk,hD];exact Alf (Int.ediv_nonneg h0 (Int.le_of_lt hp)) (Int.le_trans (Int.ediv_le_self _ h0) h1)
 refine ⟨fun h=>?_,fun h=>?_,fun h=>?_,fun h=>PD h0 h⟩
 ·have s7:=st 7 1 (by omega) (by omega) (by decide) (by omega)
  rw [show n / 1 / 256=0 by omega,show n / 1=n by omega] at s7
  exact s7
 ·have s6:=st 6 256 (by omega) (by omega) (by decide) (by omega)
  have s7:=st 7 1 (by omega) (by omega) (by decide) (by omega)
  rw [show n / 256 / 256=0 by omega] at s6
  rw [show n / 1 / 256=n / 256 by omega,show n / 1=n by omega] at s7
  show E2 (E2 0 (C1 n 6)) (C1 n 7)=n;rw [s6,s7]
 ·have s4:=st 4 16777216 (by omega) (by omega) (by decide) (by omega)
  have s5:=st 5 65536 (by omega) (by omega) (by decide) (by omega)
  have s6:=st 6 256 (by omega) (by omega) (by decide) (by omega)
  have s7:=st 7 1 (by omega) (by omega) (by decide) (by omega)
  rw [show n / 16777216 / 256=0 by omega] at s4
  rw [show n / 65536 / 256=n / 16777216 by omega] at s5
  rw [show n / 256 / 256=n / 65536 by omega] at s6
  rw [show n / 1 / 256=n / 256 by omega,show n / 1=n by omega] at s7
  show E2 (E2 (E2 (E2 0 (C1 n 4)) (C1 n 5)) (C1 n 6)) (C1 n 7)=n;rw [s4,s5,s6,s7]
theorem V5 {b:List Int}{at_:Nat}{mj n low:Int}{k:Nat}{rest:List Int}(m0:0<=mj)(m5:mj<=5)(l0:24<=low)(l1:low<=27)(hk:szE low=k)(h:b.drop (at_+1)=tb n k++rest) (hd:KH (tb n k)=n) (hs:¬(O3 n<(k:Int))):
  Ti b at_ (32*mj+low)=⟨1+mj,n,0,at_+1+k⟩:=by
 have e1:(32*mj+low) / 32=mj:=by omega
 have e2:(32*mj+low) % 32=low:=by omega
 have e3:(b.drop (at_+1)).take k=tb n k:=by rw [h,List.take_left' (Xt n k)]
 have e4:k<=b.length-(at_+1):=by
  have:=congrArg List.length h;rw [List.length_drop,I9,Xt] at this;omega
 unfold Ti;rw [e1,e2,hk,e3,hd,A5 (by omega),A5 (by omega),A5 (by omega),A5 (by omega),A5 (by omega),A5 (by omega),A5 (by omega),A5 hs]
theorem Xq {b:List Int}{at_:Nat}{mj n:Int}{rest:List Int}(h:b.drop at_=Cr mj n++rest)(m0:0<=mj)(m5:mj<=5)(n0:0<=n)(n1:n<=18446744073709551615):
  Fy b at_=⟨1+mj,n,0,at_+(Cr mj n).length⟩:=by
 obtain ⟨d1,d2,d4,d8⟩:=Akb n0;unfold Fy;unfold Cr at h ⊢;by_cases c1:n<24
 ·rw [B4 c1] at h ⊢;obtain ⟨_,g,_⟩:=Cm h;rw [g];show Ti b at_ (32*mj+n)=_;unfold Ti;have e1:(32*mj+n) / 32=mj:=by omega
  have e2:(32*mj+n) % 32=n:=by omega
  rw [e1,e2,A5 (by omega),A5 (by omega),A5 (by omega),A5 (by omega),A5 (by omega),B4 c1]
  rfl
 rw [A5 c1] at h ⊢;by_cases c2:n<256
 ·rw [B4 c2] at h ⊢;obtain ⟨_,g,g2⟩:=Cm h;rw [g];have:=V5 (at_:=at_) m0 m5 (low:=24) (by omega) (by omega) (k:=1) (by decide) g2 (d1 c2) (by unfold O3;rw [A5 c1,B4 c2];omega)
  show Ti b at_ (32*mj+24)=_;rw [this,Jz,Xt]
 rw [A5 c2] at h ⊢;by_cases c3:n<65536
 ·rw [B4 c3] at h ⊢;obtain ⟨_,g,g2⟩:=Cm h;rw [g];have:=V5 (at_:=at_) m0 m5 (low:=25) (by omega) (by omega) (k:=2) (by decide) g2 (d2 c3) (by unfold O3;rw [A5 c1,A5 c2,B4 c3];omega)
  show Ti b at_ (32*mj+25)=_;rw [this,Jz,Xt]
 rw [A5 c3] at h ⊢;by_cases c4:n<4294967296
 ·rw [B4 c4] at h ⊢;obtain ⟨_,g,g2⟩:=Cm h;rw [g];have:=V5 (at_:=at_) m0 m5 (low:=26) (by omega) (by omega) (k:=4) (by decide) g2 (d4 c4) (by unfold O3;rw [A5 c1,A5 c2,A5 c3,B4 c4];omega)
  show Ti b at_ (32*mj+26)=_;rw [this,Jz,Xt]
 ·rw [A5 c4] at h ⊢;obtain ⟨_,g,g2⟩:=Cm h;rw [g];have:=V5 (at_:=at_) m0 m5 (low:=27) (by omega) (by omega) (k:=8) (by decide) g2 (d8 n1) (by unfold O3;rw [A5 c1,A5 c2,A5 c3,A5 c4];omega)
  show Ti b at_ (32*mj+27)=_;rw [this,Jz,Xt]
theorem SL {s:ByteArray}(h:SY s=true):s=⟨#[]⟩:=by
 unfold SY at h;have:=eq_of_beq h;apply ByteArray.ext;exact Array.toList_inj.1 this
def nOf (x:It):Int:=if x.k=3∨x.k=4 then (x.s.size:Int) else x.n
theorem YC {x:It}{b:List Int}{at_:Nat}{rest:List Int}(hsh:F7 x=true)(k1:1<=x.k)(k8:x.k<=8)(n0:0<=x.n)(n1:x.n<=18446744073709551615)(hs:x.s.size<=1024)(h:b.drop at_=Bp x++rest):
  Fy b at_=⟨x.k,nOf x,0,at_+((Bp x).length-x.s.size)⟩∧(x.k=3∨x.k=4->x.n=0∧b.drop (at_+((Bp x).length-x.s.size))=H9 x.s++rest)∧(¬(x.k=3∨x.k=4)->x.s=⟨#[]⟩)∧x.s.size<=(Bp x).length:=by
 obtain ⟨k,n,s⟩:=x;have z:(ByteArray.mk #[]).size=0:=rfl;simp only at k1 k8 n0 n1 hs ⊢;unfold F7 at hsh;simp only at hsh;have L:=Oj s;have E7:k=7->Bp ⟨k,n,s⟩=[wrap .u8 (244+wrap .u8 n)]:=fun e=>by unfold Bp;rw [B4 e]
 have E8:k=8->Bp ⟨k,n,s⟩=[246]:=fun e=>by subst e;rfl
 have E3:k=3->Bp ⟨k,n,s⟩=Cr 2 s.size++H9 s:=fun e=>by subst e;rfl
 have E4:k=4->Bp ⟨k,n,s⟩=Cr 3 s.size++H9 s:=fun e=>by subst e;rfl
 have E0:k≠7->k≠8->k≠3->k≠4->Bp ⟨k,n,s⟩=Cr (k-1) n:=fun a b c d=>by unfold Bp;rw [A5 a,A5 b,A5 c,A5 d]
 have N34:k=3∨k=4->nOf ⟨k,n,s⟩=s.size:=fun e=>by unfold nOf;rw [B4 e]
 have N0:¬(k=3∨k=4)->nOf ⟨k,n,s⟩=n:=fun e=>by unfold nOf;rw [A5 e]
 by_cases c7:k=7
 ·subst c7;simp at hsh;obtain ⟨hn,hs⟩:=hsh;obtain rfl:=SL hs;rw [E7 rfl] at h ⊢;rw [N0 (by omega)]
  obtain ⟨_,g,_⟩:=Cm h;refine ⟨?_,fun h=>by omega,fun _=>rfl,Nat.zero_le _⟩
  have:n=0∨n=1:=by omega
  unfold Fy;rw [g];rcases this with rfl|rfl
  ·rfl
  ·rfl
 by_cases c8:k=8
 ·subst c8;simp at hsh;obtain ⟨rfl,hs⟩:=hsh;obtain rfl:=SL hs;rw [E8 rfl] at h ⊢;rw [N0 (by omega)]
  obtain ⟨_,g,_⟩:=Cm h;refine ⟨?_,fun h=>by omega,fun _=>rfl,Nat.zero_le _⟩
  unfold Fy;rw [g];rfl
 by_cases c3:k=3
 ·subst c3;simp at hsh;subst hsh;rw [E3 rfl] at h ⊢;rw [N34 (by omega)]
  rw [YM] at h;have q:=Xq h (by omega) (by omega) (by omega) (by omega)
  have e:(Cr 2 (s.size:Int)++H9 s).length-s.size=(Cr 2 (s.size:Int)).length:=by rw [I9,L];omega
  rw [e];refine ⟨q,fun _=>⟨rfl,?_⟩,fun h=>by omega,by rw [I9,L];omega⟩
  rw [←List.drop_drop,h,List.drop_left' rfl]
 by_cases c4:k=4
 ·subst c4;simp at hsh;subst hsh;rw [E4 rfl] at h ⊢;rw [N34 (by omega)]
  rw [YM] at h;have q:=Xq h (by omega) (by omega) (by omega) (by omega)
  have e:(Cr 3 (s.size:Int)++H9 s).length-s.size=(Cr 3 (s.size:Int)).length:=by rw [I9,L];omega
  rw [e];refine ⟨q,fun _=>⟨rfl,?_⟩,fun h=>by omega,by rw [I9,L];omega⟩
  rw [←List.drop_drop,h,List.drop_left' rfl]
 rw [A5 c3,A5 c4,A5 c8,A5 c7] at hsh;obtain rfl:=SL hsh;rw [E0 c7 c8 c3 c4] at h ⊢;rw [N0 (by omega)]
 have q:=Xq h (by omega) (by omega) n0 n1
 refine ⟨?_,fun h=>by omega,fun _=>rfl,by rw [z];omega⟩
 rw [q,z,Nat.sub_zero]
 congr 1
 omega
theorem ZF {l:List Gi}{cnt:Int}{x:It}{b:List Int}{at_:Nat}{rest:List Int}(g:Ak8 l cnt x)(n0:0<=x.n)(n1:x.n<=18446744073709551615)(h:b.drop at_=Bp x++rest):
  Ff l cnt b at_=⟨x,0,Fg l x,cnt+1,at_+(Bp x).length⟩:=by
 have k18:1<=x.k∧x.k<=8:=by
  have hm:=g.hm;unfold Ij at hm
  repeat' split at hm
  all_goals first
   |(cases hm;done)
   |omega
 obtain ⟨q1,q2,q3,q4⟩:=YC g.hsh k18.1 k18.2 n0 n1 g.hs h
 have ac:∀a:Nat,Tb l cnt x a=⟨x,0,Fg l x,cnt+1,a⟩:=by
  intro a
  have:Dt l x=(0,Fg l x):=by
   unfold Dt;rw [A5,A5 (by simp [g.ha])]
   intro hh;have:=g.hv hh.1;exact absurd hh.2 (by simp [VJ,this])
  unfold Tb;rw [this];rfl
 have ln:b.length-(at_+((Bp x).length-x.s.size))>=x.s.size:=by
  have:=congrArg List.length h;rw [List.length_drop,I9] at this;omega
 unfold Ff;rw [q1];unfold ST;simp only;rw [A5 (by simp),g.hm,A5 (by simp)]
 have hs:=g.hs;have hn:=g.hn;obtain ⟨k,n,s⟩:=x;simp only at *
 by_cases c34:k=3∨k=4
 ·obtain ⟨rfl,q2⟩:=q2 c34;have N:nOf ⟨k,0,s⟩=s.size:=by unfold nOf;rw [B4 c34]
  rw [N,A5 (by omega),B4 c34,A5 (by omega),H3,A5 (by omega),q2,List.take_left' (Oj s),BA,ac]
  congr 1
  omega
 ·obtain rfl:=q3 c34;have z:(ByteArray.mk #[]).size=0:=rfl;have N:nOf ⟨k,n,⟨#[]⟩⟩=n:=by unfold nOf;rw [A5 c34]
  rw [N,A5 c34,z,Nat.sub_zero];by_cases c56:k=5∨k=6
  ·rw [B4 c56,A5 (by omega),ac]
  ·rw [A5 c56,ac]
theorem PY {b:List Int}{rest:List Int}:∀(its:List It)(l:List Gi)(cnt:Int)(at_ m:Nat)(acc:List It),Pe l cnt its->(∀x∈its,0<=x.n∧x.n<=18446744073709551615)->b.drop at_=Be its++rest->its.length<m ->
  I6 m l cnt b at_ acc=(acc++its,at_+(Be its).length,0)
 |[],l,cnt,at_,m,acc,hg,hn,h,hm=>by
  obtain ⟨rfl,hc⟩:=hg;obtain ⟨m,rfl⟩:∃k,m=k+1:=⟨m-1,by omega⟩
  unfold I6;rw [B4 (by simp [PI,hc])]
  simp [Be]
 |x::its,l,cnt,at_,m,acc,hg,hn,h,hm=>by
  obtain ⟨g,hg⟩:=hg;obtain ⟨m,rfl⟩:∃k,m=k+1:=⟨m-1,by simp at hm;omega⟩
  have e:Be (x::its)=Bp x++Be its:=by simp [Be]
  rw [e,YM] at h;have r:=ZF g (hn x (by simp)).1 (hn x (by simp)).2 h
  have h':b.drop (at_+(Bp x).length)=Be its++rest:=by rw [←List.drop_drop,h,List.drop_left' rfl]
  have ih:=PY its (Fg l x) (cnt+1) (at_+(Bp x).length) m (acc++[x]) hg (fun y hy=>hn y (List.mem_cons_of_mem _ hy)) h' (by simp at hm;omega)
  unfold I6;have hd:PI l cnt=false:=g.hd;rw [A5 (by simp [hd]),r]
  simp only;rw [A5 (by simp),ih,e]
  simp;omega
end
section
open Go.IntKind (wrap)
abbrev isU (x:Int):Prop:=0<=x∧x<=18446744073709551615
abbrev isW (l:List Int):Prop:=∀x∈l,isU x
theorem WO (l:List Int)(i:Nat):isU (Qk l i):=Uj _ 0 (by omega) (by omega)
theorem TX (l:List Int):isW (Fa l):=by
 intro x hx;obtain ⟨k,_,rfl⟩:=List.mem_map.1 hx;exact WO l k
theorem S2:∀{ws:List Int}{i:Nat}{w:Int},isW ws->ws[i]?=some w->Qk (Ar ws) i=w
 |[],i,w,_,h=>by simp at h
 |a::ws,0,w,hw,h=>by
  simp at h;subst h;have e:Ar (a::ws)=Dp a++Ar ws:=rfl;unfold Qk;rw [Nat.mul_zero,El,e,List.take_left' (Em a)];have:=hw a (by simp)
  exact PD this.1 this.2
 |a::ws,i+1,w,hw,h=>by
  simp at h;have ih:=S2 (ws:=ws) (fun x hx=>hw x (List.mem_cons_of_mem _ hx)) h
  have e:Ar (a::ws)=Dp a++Ar ws:=rfl;unfold Qk at ih ⊢;rw [show 8*(i+1)=(Dp a).length+8*i by rw [Em];omega,e,←List.drop_drop,List.drop_left' rfl]
  exact ih
theorem CA {ws:List Int}(hw:isW ws):Fa (Ar ws)=ws:=by
 have hl:(Ar ws).length / 8=ws.length:=by rw [Cq];omega
 apply List.ext_getElem?;intro i;unfold Fa;rw [hl];by_cases h:i<ws.length
 ·rw [List.getElem?_map,List.getElem?_range h,List.getElem?_eq_getElem h];simp only [Option.map_some];rw [S2 hw (List.getElem?_eq_getElem h)]
 ·rw [List.getElem?_eq_none (by simp;omega),List.getElem?_eq_none (by omega)]
theorem Aea {k:Ky}(hh:Cx k.h=false)(hr:isU k.root):LW (Ie k)=some k:=by
 obtain ⟨h,r⟩:=k;have hb:=G8 hh;simp only at hb hr hh;have w:wrap .u8 h=h:=Fh (by omega) (by omega)
 have w1:Ar [r]=Dp r:=by simp [Ar]
 have:=S2 (ws:=[r]) (i:=0) (w:=r) (by intro x hx;simp at hx;subst hx;exact hr) rfl
 rw [w1] at this;unfold LW Ie;simp only [w,List.getD_cons_zero,List.drop_succ_cons,El,this,Jz,Em,hh,and_self,if_true]
theorem Aml {k:Ky}:Jv (Ie k):=by
 intro x hx;rcases List.mem_cons.1 hx with rfl|hx
 ·have:∀v:Int,0<=wrap .u8 v∧wrap .u8 v<=255:=by
   intro v;simp only [wrap,IntKind.signed,IntKind.bits];simp;omega
  exact this _
 ·exact Aay _ x hx
theorem QO {l:List Int}{k:Ky}(h:LW l=some k):Cx k.h=false∧isU k.root:=by
 unfold LW at h;split at h
 ·rename_i hh;cases h;exact ⟨hh.2,WO _ _⟩
 ·cases h
structure Sg.ok (s:Sg):Prop where
 ch:isW s.chains
 pa:isW s.path
theorem Aom (s:Sg):Jv (Qv s):=by
 have w8:∀v:Int,0<=wrap .u8 v∧wrap .u8 v<=255:=by
  intro v;simp only [wrap,IntKind.signed,IntKind.bits];simp;omega
 intro x hx;unfold Qv at hx;rcases List.mem_cons.1 hx with rfl|hx
 ·exact w8 _
 rcases List.mem_cons.1 hx with rfl|hx
 ·exact w8 _
 rcases List.mem_append.1 hx with hx|hx
 ·exact Rs _ x hx
 ·exact Rs _ x hx
theorem Ajs {s:Sg}(hs:s.ok)(h1:Cx s.path.length=false)(h2:Hb s.leaf s.path.length=false)(h3:s.chains.length=18):sgD (Qv s)=some s:=by
 obtain ⟨leaf,ch,pa⟩:=s;obtain ⟨hc,hp⟩:=hs;simp only at h1 h2 h3 hc hp;have hb:=G8 h1;have ho:=YD hb.1 hb.2 h2;have h16:=Amf hb.1 hb.2;have w1:wrap .u8 leaf=leaf:=Fh (by omega) (by omega)
 have w2:wrap .u8 (pa.length:Int)=pa.length:=Fh (by omega) (by omega)
 have lc:(Ar ch).length=144:=by rw [Cq];omega
 have lp:(Ar pa).length=8*pa.length:=Cq pa
 have len:(Qv ⟨leaf,ch,pa⟩).length=2+144+8*pa.length:=by
  unfold Qv;simp only [Jz,I9,lc,lp];omega
 have g0:(Qv ⟨leaf,ch,pa⟩).getD 0 0=leaf:=w1;have g1:(Qv ⟨leaf,ch,pa⟩).getD 1 0=pa.length:=w2;have d2:(Qv ⟨leaf,ch,pa⟩).drop 2=Ar ch++Ar pa:=rfl
 have d146:(Qv ⟨leaf,ch,pa⟩).drop 146=Ar pa:=by
  rw [show 146=2+144 from rfl,←List.drop_drop,d2,List.drop_left' lc]
 unfold sgD;rw [B4 ⟨by omega,by rw [g1];exact h1,by rw [g0,g1];exact h2,by rw [g1,len];omega⟩,g0,d2,d146,List.take_left' lc,CA hc,CA hp]
theorem YR {l:List Int}{s:Sg}(h:sgD l=some s):s.ok∧s.path.length<=4∧s.chains.length=18:=by
 unfold sgD at h;split at h
 ·rename_i hh;cases h;have hb:=G8 hh.2.1;refine ⟨⟨TX _,TX _⟩,?_,?_⟩
  ·simp only [Pa,List.length_drop];omega
  ·simp only [Pa,List.length_take,List.length_drop];omega
 ·cases h
end
section
open Go.IntKind (wrap)
set_option maxRecDepth 100000
abbrev Ol:FuncId:=35
noncomputable def Ev (fu:Nat)(call:Ai)(a0_0 a0_1:ByteArray)(a0_2 a0_3:Int)(a0_4 a0_5 a0_6:Int)(a0_7:Bool)(a0_8 a0_9 a0_10:Int)(a0_11n:Nat)(a0_11:List PV)(a0_12n:Nat)(a0_12:List PV)(nn:Nat)(y0 y1:ByteArray)(y2:Int)(y3 y4:ByteArray)(y5 y6:Int)(y7 y8 y9:Int)(y10:Bool)(Jj Nv Tf:Int)(Zh:Nat)(Zi:List PV)(Zg:Nat)(Zf:List PV):Option Au:=C9 CB Tryz.prog fu call 35 Tryz.f35 (B5 Tryz.f35) [.agg [.sc (.string a0_0),.sc (.string a0_1),.sc (.int .u64 a0_2),.sc (.int .i64 a0_3),.sc (.int .u64 a0_4),.sc (.int .i64 a0_5),.sc (.int .i64 a0_6),.sc (.bool a0_7),.sc (.int .i64 a0_8),.sc (.int .u64 a0_9),.sc (.int .i64 a0_10),.lst false 1 a0_11n a0_11,.lst false 1 a0_12n a0_12]] [.r,.l,.r,.l] nn ⟨lk [(1,(.ptr 1 0)),(13,(.agg [(.sc (.string y0)),(.sc (.string y1))])),(14,(.sc (.int .i64 y2)))],B3 [(1,(.st [(.sc (.string y3)),(.sc (.string y4)),(.sc (.int .u64 y5)),(.sc (.int .i64 y6)),(.sc (.int .u64 y7)),(.sc (.int .i64 y8)),(.sc (.int .i64 y9)),(.sc (.bool y10)),(.sc (.int .i64 Jj)),(.sc (.int .u64 Nv)),(.sc (.int .i64 Tf)),(.lst false 1 Zh Zi),(.lst false 1 Zg Zf)]))]⟩
theorem D9 (fu:Nat)(call:Ai)(a0_0 a0_1:ByteArray)(a0_2 a0_3:Int)(a0_4 a0_5 a0_6:Int)(a0_7:Bool)(a0_8 a0_9 a0_10:Int)(a0_11n:Nat)(a0_11:List PV)(a0_12n:Nat)(a0_12:List PV)(nn:Nat)(y0 y1:ByteArray)(y2:Int)(y3 y4:ByteArray)(y5 y6:Int)(y7 y8 y9:Int)(y10:Bool)(Jj Nv Tf:Int)(Zh:Nat)(Zi:List PV)(Zg:Nat)(Zf:List PV):Ev fu call a0_0 a0_1 a0_2 a0_3 a0_4 a0_5 a0_6 a0_7 a0_8 a0_9 a0_10 a0_11n a0_11 a0_12n a0_12 (nn+1) y0 y1 y2 y3 y4 y5 y6 y7 y8 y9 y10 Jj Nv Tf Zh Zi Zg Zf=(Bb (decide (y2<2)) (Ap (decide (0<=y2)&&decide (y2<2)&&true)<|C4 (List.getD [.sc (.string y0),.sc (.string y1)] (Int.toNat y2*1) .top) fun x1=>Bb (decide ((↑(ByteArray.size x1):Int)<1)) (some (Au.mk [.own 1 0 [],.sc (.int .i64 9)] [])) (Bb (decide ((↑(ByteArray.size x1):Int)>32)) (some (Au.mk [.own 1 0 [],.sc (.int .i64 9)] [])) (Aa (wrap .i64 (y2+1)) fun x2=>Ev fu call a0_0 a0_1 a0_2 a0_3 a0_4 a0_5 a0_6 a0_7 a0_8 a0_9 a0_10 a0_11n a0_11 a0_12n a0_12 (nn) (y0) (y1) x2 (y3) (y4) (y5) (y6) (y7) (y8) (y9) (y10) (Jj) (Nv) (Tf) (Zh) (Zi) (Zg) (Zf)))) (Ag (call 56 [.sc (.string y3)]) fun x3 x4=>Ac x4<|Ab x3 fun x5 x6=>Bm x5 fun x7=>Ac x6<|Bb (!x7) (some (Au.mk [.own 1 0 [],.sc (.int .i64 6)] [])) (Ag (call 56 [.sc (.string y4)]) fun x8 x9=>Ac x9<|Ab x8 fun Cg Cj=>Bm Cg fun Dd=>Ac Cj<|Bb (!Dd) (some (Au.mk [.own 1 0 [],.sc (.int .i64 6)] [])) (Ag (call 66 [.agg [.sc (.int .i64 y6),.sc (.int .u64 y7)]]) fun Dk C6=>Ac C6<|Ab Dk fun Du D7=>D0 1 Du fun Ed Ex=>Ab D7 fun Eu E5=>Ae .i64 Eu fun Hq=>Ac E5<|Bb (Hq != 0) (some (Au.mk [.own 1 0 [],.sc (.int .i64 Hq)] [])) (Bb (decide (y8<0)) (some (Au.mk [.own 1 0 [],.sc (.int .i64 9)] [])) (Bb (decide (y8>y9)) (some (Au.mk [.own 1 0 [],.sc (.int .i64 9)] [])) (Bb (decide (y9>1099511627776)) (some (Au.mk [.own 1 0 [],.sc (.int .i64 9)] [])) (Bb (decide (Jj<0)) (some (Au.mk [.own 1 0 [],.sc (.int .i64 9)] [])) (Bb (decide (Jj>2)) (some (Au.mk [.own 1 0 [],.sc (.int .i64 9)] [])) (Bb (Jj != 0) (Bb (!y10) (some (Au.mk [.own 1 0 [],.sc (.int .i64 4)] [])) (Ag (call 68 [.sc (.string y3)]) fun Gn G3=>Ac G3<|Ab Gn fun Ds De=>D0 3 Ds fun Fx Hp=>Ac De<|Ag (call 68 [.sc (.string y4)]) fun Es I8=>Ac I8<|Ab Es fun Lg Jw=>D0 3 Lg fun J4 Ka=>Ac Jw<|Ag (call 69 [.sc (.int .u64 y5)]) fun Mo O9=>Ac O9<|Ab Mo fun Qs Qj=>D0 3 Qs fun Gs H0=>Ac Qj<|Ap (decide (0+Ed*1<=Ex.length))<|Ag (call 70 [.lst false 1 Ed (List.take (Ed*1) (List.drop 0 Ex))]) fun Sn Y2=>Ac Y2<|Ab Sn fun Lh Tv=>D0 3 Lh fun Tr Tk=>Ac Tv<|Aa (wrap .u64 y8) fun Sj=>Ag (call 69 [.sc (.int .u64 Sj)]) fun Xn X3=>Ac X3<|Ab Xn fun R4 Vw=>D0 3 R4 fun Xk Wt=>Ac Vw<|Aa (wrap .u64 y9) fun Om=>Ag (call 69 [.sc (.int .u64 Om)]) fun Xr CG=>Ac CG<|Ab Xr fun BC CI=>D0 3 BC fun Tw Yo=>Ac CI<|Ag (call 71 [.sc (.bool y10)]) fun CF Xe=>Ac Xe<|Ab CF fun Tx CD=>D0 3 Tx fun Uv Xd=>Ac CD<|Aa (wrap .u64 Jj) fun Wl=>Ag (call 69 [.sc (.int .u64 Wl)]) fun V6 Xc=>Ac Xc<|Ab V6 fun Xh Ze=>D0 3 Xh fun Yy CE=>Ac Ze<|Ag (call 69 [.sc (.int .u64 Nv)]) fun GW DQ=>Ac DQ<|Ab GW fun ES HE=>D0 3 ES fun CH V4=>Ac HE<|Ap (decide (0+Fx*3<=Hp.length))<|Ap (decide (0+J4*3<=Ka.length))<|Ap (decide (0+Gs*3<=H0.length))<|Ap (decide (0+Tr*3<=Tk.length))<|Ap (decide (0+Xk*3<=Wt.length))<|Ap (decide (0+Tw*3<=Yo.length))<|Ap (decide (0+Uv*3<=Xd.length))<|Ap (decide (0+Yy*3<=CE.length))<|Ap (decide (0+CH*3<=V4.length))<|Ag (call 67 [.lst false 1 9 [.lst false 3 Fx (List.take (Fx*3) (List.drop 0 Hp)),.lst false 3 J4 (List.take (J4*3) (List.drop 0 Ka)),.lst false 3 Gs (List.take (Gs*3) (List.drop 0 H0)),.lst false 3 Tr (List.take (Tr*3) (List.drop 0 Tk)),.lst false 3 Xk (List.take (Xk*3) (List.drop 0 Wt)),.lst false 3 Tw (List.take (Tw*3) (List.drop 0 Yo)),.lst false 3 Uv (List.take (Uv*3) (List.drop 0 Xd)),.lst false 3 Yy (List.take (Yy*3) (List.drop 0 CE)),.lst false 3 CH (List.take (CH*3) (List.drop 0 V4))]]) fun MB MD=>Ac MD<|Ab MB fun XP WR=>D0 3 XP fun TB TC=>Ab WR fun TN TL=>Ae .i64 TN fun TJ=>Ac TL<|Bb (TJ != 0) (some (Au.mk [.own 1 0 [],.sc (.int .i64 TJ)] [])) (Ap (decide (0+TB*3<=TC.length))<|Ag (call 72 [.lst false 3 TB (List.take (TB*3) (List.drop 0 TC))]) fun TK HA=>Ac HA<|Ab TK fun ON UD=>D0 1 ON fun VL XO=>Ab UD fun HL x95=>Ae .i64 HL fun ZY=>Ac x95<|Ap (decide (VL*1<=XO.length))<|some (Au.mk [.own 1 VL (List.take (VL*1) XO),.sc (.int .i64 ZY)] [])))) (Ag (call 68 [.sc (.string y3)]) fun TI XQ=>Ac XQ<|Ab TI fun EI Wm=>D0 3 EI fun Va Hc=>Ac Wm<|Ag (call 68 [.sc (.string y4)]) fun Jd Zw=>Ac Zw<|Ab Jd fun Sf Ru=>D0 3 Sf fun J0 Wi=>Ac Ru<|Ag (call 69 [.sc (.int .u64 y5)]) fun Yf Yq=>Ac Yq<|Ab Yf fun Zb H1=>D0 3 Zb fun Js Xy=>Ac H1<|Ap (decide (0+Ed*1<=Ex.length))<|Ag (call 70 [.lst false 1 Ed (List.take (Ed*1) (List.drop 0 Ex))]) fun Ya Ye=>Ac Ye<|Ab Ya fun EK Yg=>D0 3 EK fun Wk Yu=>Ac Yg<|Aa (wrap .u64 y8) fun Yv=>Ag (call 69 [.sc (.int .u64 Yv)]) fun BU Za=>Ac Za<|Ab BU fun Ys Pj=>D0 3 Ys fun Pm Sx=>Ac Pj<|Aa (wrap .u64 y9) fun Yh=>Ag (call 69 [.sc (.int .u64 Yh)]) fun X4 Lf=>Ac Lf<|Ab X4 fun EQ Yr=>D0 3 EQ fun Ut BW=>Ac Yr<|Ag (call 71 [.sc (.bool y10)]) fun GT CL=>Ac CL<|Ab GT fun GM DB=>D0 3 GM fun Yp AK=>Ac DB<|Aa (wrap .u64 Jj) fun ED=>Ag (call 69 [.sc (.int .u64 ED)]) fun DE EE=>Ac EE<|Ab DE fun Xu Zz=>D0 3 Xu fun Zp Z6=>Ac Zz<|Ag (call 69 [.sc (.int .u64 Nv)]) fun DH JO=>Ac JO<|Ab DH fun MG GH=>D0 3 MG fun Wf EB=>Ac GH<|Ap (decide (0+Va*3<=Hc.length))<|Ap (decide (0+J0*3<=Wi.length))<|Ap (decide (0+Js*3<=Xy.length))<|Ap (decide (0+Wk*3<=Yu.length))<|Ap (decide (0+Pm*3<=Sx.length))<|Ap (decide (0+Ut*3<=BW.length))<|Ap (decide (0+Yp*3<=AK.length))<|Ap (decide (0+Zp*3<=Z6.length))<|Ap (decide (0+Wf*3<=EB.length))<|Ag (call 67 [.lst false 1 9 [.lst false 3 Va (List.take (Va*3) (List.drop 0 Hc)),.lst false 3 J0 (List.take (J0*3) (List.drop 0 Wi)),.lst false 3 Js (List.take (Js*3) (List.drop 0 Xy)),.lst false 3 Wk (List.take (Wk*3) (List.drop 0 Yu)),.lst false 3 Pm (List.take (Pm*3) (List.drop 0 Sx)),.lst false 3 Ut (List.take (Ut*3) (List.drop 0 BW)),.lst false 3 Yp (List.take (Yp*3) (List.drop 0 AK)),.lst false 3 Zp (List.take (Zp*3) (List.drop 0 Z6)),.lst false 3 Wf (List.take (Wf*3) (List.drop 0 EB))]]) fun KC NH=>Ac NH<|Ab KC fun Tt NB=>D0 3 Tt fun JY MV=>Ab NB fun SM HQ=>Ae .i64 SM fun NC=>Ac HQ<|Bb (NC != 0) (some (Au.mk [.own 1 0 [],.sc (.int .i64 NC)] [])) (Ap (decide (0+JY*3<=MV.length))<|Ag (call 72 [.lst false 3 JY (List.take (JY*3) (List.drop 0 MV))]) fun RA KD=>Ac KD<|Ab RA fun MJ ZD=>D0 1 MJ fun IY MH=>Ab ZD fun SG QX=>Ae .i64 SG fun UB=>Ac QX<|Ap (decide (IY*1<=MH.length))<|some (Au.mk [.own 1 IY (List.take (IY*1) MH),.sc (.int .i64 UB)] []))))))))))))):=by kernel_rfl
theorem Xp (fu d:Nat)(a0_0 a0_1:ByteArray)(a0_2 a0_3:Int)(a0_4 a0_5 a0_6:Int)(a0_7:Bool)(a0_8 a0_9 a0_10:Int)(a0_11n:Nat)(a0_11:List PV)(a0_12n:Nat)(a0_12:List PV):Ad C0 Tryz.prog fu (d+1) Ol [.agg [.sc (.string a0_0),.sc (.string a0_1),.sc (.int .u64 a0_2),.sc (.int .i64 a0_3),.sc (.int .u64 a0_4),.sc (.int .i64 a0_5),.sc (.int .i64 a0_6),.sc (.bool a0_7),.sc (.int .i64 a0_8),.sc (.int .u64 a0_9),.sc (.int .i64 a0_10),.lst false 1 a0_11n a0_11,.lst false 1 a0_12n a0_12]]=(fun (call:Ai)=>Ev fu call a0_0 a0_1 a0_2 a0_3 a0_4 a0_5 a0_6 a0_7 a0_8 a0_9 a0_10 a0_11n a0_11 a0_12n a0_12 (fu) (a0_0) (a0_1) 0 (a0_0) (a0_1) (a0_2) (a0_3) (a0_4) (a0_5) (a0_6) (a0_7) (a0_8) (a0_9) (a0_10) (a0_11n) (a0_11) (a0_12n) (a0_12)) (Ad C0 Tryz.prog fu d):=by kernel_rfl
abbrev Ot:FuncId:=36
theorem X1 (fu d:Nat)(a0_0 a0_1:ByteArray)(a0_2 a0_3:Int)(a0_4 a0_5 a0_6:Int)(a0_7:Bool)(a0_8 a0_9 a0_10:Int)(a0_11n:Nat)(a0_11:List PV)(a0_12n:Nat)(a0_12:List PV):Ad C0 Tryz.prog fu (d+1) Ot [.agg [.sc (.string a0_0),.sc (.string a0_1),.sc (.int .u64 a0_2),.sc (.int .i64 a0_3),.sc (.int .u64 a0_4),.sc (.int .i64 a0_5),.sc (.int .i64 a0_6),.sc (.bool a0_7),.sc (.int .i64 a0_8),.sc (.int .u64 a0_9),.sc (.int .i64 a0_10),.lst false 1 a0_11n a0_11,.lst false 1 a0_12n a0_12]]=(fun (call:Ai)=>Ag (call 35 [.agg [.sc (.string a0_0),.sc (.string a0_1),.sc (.int .u64 a0_2),.sc (.int .i64 a0_3),.sc (.int .u64 a0_4),.sc (.int .i64 a0_5),.sc (.int .i64 a0_6),.sc (.bool a0_7),.sc (.int .i64 a0_8),.sc (.int .u64 a0_9),.sc (.int .i64 a0_10),.lst false 1 a0_11n a0_11,.lst false 1 a0_12n a0_12]]) fun x1 x2=>Ac x2<|Ab x1 fun x3 x4=>D0 1 x3 fun x5 x6=>Ab x4 fun x7 x8=>Ae .i64 x7 fun x9=>Ac x8<|Bb (x9 != 0) (some (Au.mk [.sc (.int .u64 0),.sc (.int .i64 x9)] [])) (Ap (decide (0+x5*1<=x6.length))<|Ag (call 73 [.sc (.int .i64 14),.lst false 1 x5 (List.take (x5*1) (List.drop 0 x6))]) fun Cg Cj=>Ac Cj<|Ab Cg fun Dd Dk=>Ae .u64 Dd fun C6=>Ac Dk<|some (Au.mk [.sc (.int .u64 C6),.sc (.int .i64 0)] []))) (Ad C0 Tryz.prog fu d):=by kernel_rfl
abbrev L5:FuncId:=20
theorem Vk (fu d:Nat)(a0_0 a0_1:ByteArray)(a0_2 a0_3:Int)(a0_4 a0_5 a0_6:Int)(a0_7:Bool)(a0_8 a0_9 a0_10:Int)(a0_11n:Nat)(a0_11:List PV)(a0_12n:Nat)(a0_12:List PV)(a1_0 a1_1:Int):Ad C0 Tryz.prog fu (d+1) L5 [.agg [.sc (.string a0_0),.sc (.string a0_1),.sc (.int .u64 a0_2),.sc (.int .i64 a0_3),.sc (.int .u64 a0_4),.sc (.int .i64 a0_5),.sc (.int .i64 a0_6),.sc (.bool a0_7),.sc (.int .i64 a0_8),.sc (.int .u64 a0_9),.sc (.int .i64 a0_10),.lst false 1 a0_11n a0_11,.lst false 1 a0_12n a0_12],.agg [.sc (.int .i64 a1_0),.sc (.int .u64 a1_1)]]=(fun (call:Ai)=>Ag (call 36 [.agg [.sc (.string a0_0),.sc (.string a0_1),.sc (.int .u64 a0_2),.sc (.int .i64 a0_3),.sc (.int .u64 a0_4),.sc (.int .i64 a0_5),.sc (.int .i64 a0_6),.sc (.bool a0_7),.sc (.int .i64 a0_8),.sc (.int .u64 a0_9),.sc (.int .i64 a0_10),.lst false 1 a0_11n a0_11,.lst false 1 a0_12n a0_12]]) fun x1 x2=>Ac x2<|Ab x1 fun x3 x4=>Ae .u64 x3 fun x5=>Ab x4 fun x6 x7=>Ae .i64 x6 fun x8=>Ac x7<|Bb (x8 != 0) (some (Au.mk [.sc (.int .i64 x8)] [])) (Ag (call 41 [.agg [.sc (.int .i64 a1_0),.sc (.int .u64 a1_1)],.sc (.int .u64 x5),.agg [.sc (.int .i64 a0_10),.lst false 1 a0_11n a0_11,.lst false 1 a0_12n a0_12]]) fun x9 Cg=>Ac Cg<|Ab x9 fun Cj Dd=>Ae .i64 Cj fun Dk=>Ac Dd<|some (Au.mk [.sc (.int .i64 Dk)] []))) (Ad C0 Tryz.prog fu d):=by kernel_rfl
abbrev Lx:FuncId:=30
theorem Ug (fu d:Nat)(a0_0 a0_1:ByteArray)(a0_2 a0_3:Int)(a0_4 a0_5 a0_6:Int)(a0_7:Bool)(a0_8 a0_9 a0_10:Int)(a0_11n:Nat)(a0_11:List PV)(a0_12n:Nat)(a0_12:List PV):Ad C0 Tryz.prog fu (d+1) Lx [.agg [.sc (.string a0_0),.sc (.string a0_1),.sc (.int .u64 a0_2),.sc (.int .i64 a0_3),.sc (.int .u64 a0_4),.sc (.int .i64 a0_5),.sc (.int .i64 a0_6),.sc (.bool a0_7),.sc (.int .i64 a0_8),.sc (.int .u64 a0_9),.sc (.int .i64 a0_10),.lst false 1 a0_11n a0_11,.lst false 1 a0_12n a0_12]]=(fun (call:Ai)=>Ag (call 35 [.agg [.sc (.string a0_0),.sc (.string a0_1),.sc (.int .u64 a0_2),.sc (.int .i64 a0_3),.sc (.int .u64 a0_4),.sc (.int .i64 a0_5),.sc (.int .i64 a0_6),.sc (.bool a0_7),.sc (.int .i64 a0_8),.sc (.int .u64 a0_9),.sc (.int .i64 a0_10),.lst false 1 a0_11n a0_11,.lst false 1 a0_12n a0_12]]) fun x1 x2=>Ac x2<|Ab x1 fun x3 x4=>D0 1 x3 fun x5 x6=>Ab x4 fun x7 x8=>Ae .i64 x7 fun x9=>Ac x8<|Bb (x9 != 0) (some (Au.mk [.own 1 0 [],.sc (.int .i64 x9)] [])) (Ag (call 50 [.agg [.sc (.int .i64 a0_10),.lst false 1 a0_11n a0_11,.lst false 1 a0_12n a0_12]]) fun Cg Cj=>Ac Cj<|Ab Cg fun Dd Dk=>D0 1 Dd fun C6 Du=>Ab Dk fun D7 Ed=>Ae .i64 D7 fun Ex=>Ac Ed<|Bb (Ex != 0) (some (Au.mk [.own 1 0 [],.sc (.int .i64 Ex)] [])) (Ap (decide (0+C6*1<=Du.length))<|Ap (decide (x5*1<=x6.length)&&decide (List.length (List.take (C6*1) (List.drop 0 Du))=C6*1)&&decide ((x5+C6)*1<=1099511627776)&&decide (x5+C6<=1099511627776))<|Aa (x5+C6) fun Eu=>Aa (List.take (x5*1) x6++List.take (C6*1) (List.drop 0 Du)) fun E5=>Ap (decide (Eu*1<=E5.length))<|some (Au.mk [.own 1 Eu (List.take (Eu*1) E5),.sc (.int .i64 0)] [])))) (Ad C0 Tryz.prog fu d):=by kernel_rfl
abbrev L6:FuncId:=52
noncomputable def G2 (fu:Nat)(call:Ai)(a0n:Nat)(a0:List PV)(nn y0:Nat)(y1:List PV):Option Au:=C9 CB Tryz.prog fu call 52 Tryz.f52 (B5 Tryz.f52) [.lst false 3 a0n a0] [] nn ⟨lk [(0,(.lst false 3 y0 y1))],B3 []⟩
noncomputable def J9 (fu:Nat)(call:Ai)(a0n:Nat)(a0:List PV)(nn y0:Nat)(y1 y2:List PV):Option Au:=C9 CB Tryz.prog fu call 52 Tryz.f52 (B5 Tryz.f52) [.lst false 3 a0n a0] [.r] nn ⟨lk [(0,(.lst false 3 y0 y1)),(3,(.ptr 3 0))],B3 [(3,(.ar false y2))]⟩
noncomputable def Fi (fu:Nat)(call:Ai)(a0n:Nat)(a0:List PV)(nn y0:Nat)(y1:List PV)(y2 y3:Int)(y4:List PV):Option Au:=C9 CB Tryz.prog fu call 52 Tryz.f52 (B5 Tryz.f52) [.lst false 3 a0n a0] [.r,.r,.r,.l,.r,.l] nn ⟨lk [(3,(.ptr 3 0)),(10,(.lst false 3 y0 y1)),(11,(.sc (.int .i64 y2))),(12,(.sc (.int .i64 y3)))],B3 [(3,(.ar false y4))]⟩
theorem Q9 (fu:Nat)(call:Ai)(a0n:Nat)(a0:List PV)(nn:Nat)(hnn:0<nn)(y0:Nat)(y1:List PV):G2 fu call a0n a0 nn y0 y1=(J9 fu call a0n a0 (fu) (y0) (y1) ([.sc (.int .i64 5),.sc (.int .i64 4),.sc (.int .i64 4),.sc (.int .i64 1),.sc (.int .i64 3),.sc (.int .i64 1),.sc (.int .i64 1),.sc (.int .i64 7),.sc (.int .i64 1),.sc (.int .i64 1)])):=by cases nn with|zero=>exact absurd hnn (Nat.lt_irrefl 0)|succ nn=>kernel_rfl
theorem Rq (fu:Nat)(call:Ai)(a0n:Nat)(a0:List PV)(nn:Nat)(hnn:0<nn)(y0:Nat)(y1 y2:List PV):J9 fu call a0n a0 nn y0 y1 y2=(Bb ((↑y0:Int) != 10) (some (Au.mk [.sc (.bool false)] [])) (Fi fu call a0n a0 (fu) (y0) (y1) ((↑y0:Int)) 0 (y2))):=by cases nn with|zero=>exact absurd hnn (Nat.lt_irrefl 0)|succ nn=>kernel_rfl
theorem Iw (fu:Nat)(call:Ai)(a0n:Nat)(a0:List PV)(nn y0:Nat)(y1:List PV)(y2 y3:Int)(y4:List PV):Fi fu call a0n a0 (nn+1) y0 y1 y2 y3 y4=(Bb (decide (y3<y2)) (Ap (decide (0<=y3)&&decide (y3<(↑y0:Int)))<|Ae .i64 (List.getD y1 (Int.toNat y3*3) .top) fun x1=>Ae .u64 (List.getD y1 (Int.toNat y3*3+1) .top) fun x2=>C4 (List.getD y1 (Int.toNat y3*3+1+1) .top) fun x3=>Ap (decide (0<=y3)&&decide (y3<10))<|Ae .i64 (List.getD y4 (0+Int.toNat y3*1) .top) fun x4=>Bb (x1 != x4) (some (Au.mk [.sc (.bool false)] [])) (Aa (wrap .i64 (y3+1)) fun x5=>Fi fu call a0n a0 (nn) (y0) (y1) (y2) x5 (y4))) (some (Au.mk [.sc (.bool true)] []))):=by kernel_rfl
theorem Uw (fu d a0n:Nat)(a0:List PV):Ad C0 Tryz.prog fu (d+1) L6 [.lst false 3 a0n a0]=(fun (call:Ai)=>G2 fu call a0n a0 (fu) (a0n) (a0)) (Ad C0 Tryz.prog fu d):=by kernel_rfl
abbrev Hj:FuncId:=31
theorem Uq (fu d a0n:Nat)(a0:List PV):Ad C0 Tryz.prog fu (d+1) Hj [.lst false 1 a0n a0]=(fun (call:Ai)=>Bb (decide ((↑a0n:Int)>512)) (some (Au.mk [.agg [.sc (.string (ByteArray.mk #[])),.sc (.string (ByteArray.mk #[])),.sc (.int .u64 0),.sc (.int .i64 0),.sc (.int .u64 0),.sc (.int .i64 0),.sc (.int .i64 0),.sc (.bool false),.sc (.int .i64 0),.sc (.int .u64 0),.sc (.int .i64 0),.lst false 1 0 [],.lst false 1 0 []],.sc (.int .i64 8)] [])) (Ag (call 51 [.lst false 1 a0n a0]) fun x1 x2=>Ac x2<|Ab x1 fun x3 x4=>D0 3 x3 fun x5 x6=>Ab x4 fun x7 x8=>Ae .i64 x7 fun x9=>Ab x8 fun Cg Cj=>Ae .i64 Cg fun Dd=>Ac Cj<|Bb (Dd != 0) (some (Au.mk [.agg [.sc (.string (ByteArray.mk #[])),.sc (.string (ByteArray.mk #[])),.sc (.int .u64 0),.sc (.int .i64 0),.sc (.int .u64 0),.sc (.int .i64 0),.sc (.int .i64 0),.sc (.bool false),.sc (.int .i64 0),.sc (.int .u64 0),.sc (.int .i64 0),.lst false 1 0 [],.lst false 1 0 []],.sc (.int .i64 2)] [])) (Ap (decide (0+x5*3<=x6.length))<|Ag (call 52 [.lst false 3 x5 (List.take (x5*3) (List.drop 0 x6))]) fun Dk C6=>Ac C6<|Ab Dk fun Du D7=>Bm Du fun Ed=>Ac D7<|Bb (!Ed) (some (Au.mk [.agg [.sc (.string (ByteArray.mk #[])),.sc (.string (ByteArray.mk #[])),.sc (.int .u64 0),.sc (.int .i64 0),.sc (.int .u64 0),.sc (.int .i64 0),.sc (.int .i64 0),.sc (.bool false),.sc (.int .i64 0),.sc (.int .u64 0),.sc (.int .i64 0),.lst false 1 0 [],.lst false 1 0 []],.sc (.int .i64 2)] [])) (Ap (decide (4<(↑x5:Int)))<|C4 (List.getD x6 14 .top) fun Ex=>Ap (decide (ByteArray.size Ex<=1099511627776))<|Ap (decide (0+ByteArray.size Ex*1<=List.length (Dh Ex)))<|Ag (call 53 [.lst false 1 (ByteArray.size Ex) (List.take (ByteArray.size Ex*1) (List.drop 0 (Dh Ex)))]) fun Eu E5=>Ac E5<|Ab Eu fun Hq Gn=>Dm Hq fun G3=>Ab G3 fun Ds De=>Ae .i64 Ds fun Fx=>Ab De fun Hp Es=>Ae .u64 Hp fun I8=>Ac Es<|Ab Gn fun Lg Jw=>Ae .i64 Lg fun J4=>Ac Jw<|Bb (J4 != 0) (some (Au.mk [.agg [.sc (.string (ByteArray.mk #[])),.sc (.string (ByteArray.mk #[])),.sc (.int .u64 0),.sc (.int .i64 0),.sc (.int .u64 0),.sc (.int .i64 0),.sc (.int .i64 0),.sc (.bool false),.sc (.int .i64 0),.sc (.int .u64 0),.sc (.int .i64 0),.lst false 1 0 [],.lst false 1 0 []],.sc (.int .i64 2)] [])) (Ap (decide (0<=x9))<|Ap (decide (Int.toNat x9<=a0n)&&decide (a0n<=a0n))<|Aa (a0n-Int.toNat x9) fun Ka=>Aa (List.take (Ka*1) (List.drop (Int.toNat x9*1) a0)) fun Mo=>Ag (call 54 [.lst false 1 Ka Mo]) fun O9 Qs=>Ac Qs<|Ab O9 fun Qj Gs=>Dm Qj fun H0=>Ab H0 fun Sn Y2=>Ae .i64 Sn fun Lh=>Ab Y2 fun Tv Tr=>D0 1 Tv fun Tk Sj=>Ab Tr fun Xn X3=>D0 1 Xn fun R4 Vw=>Ac X3<|Ab Gs fun Xk Wt=>Ae .i64 Xk fun Om=>Ac Wt<|Bb (Om != 0) (some (Au.mk [.agg [.sc (.string (ByteArray.mk #[])),.sc (.string (ByteArray.mk #[])),.sc (.int .u64 0),.sc (.int .i64 0),.sc (.int .u64 0),.sc (.int .i64 0),.sc (.int .i64 0),.sc (.bool false),.sc (.int .i64 0),.sc (.int .u64 0),.sc (.int .i64 0),.lst false 1 0 [],.lst false 1 0 []],.sc (.int .i64 2)] [])) (Ap (decide (1<(↑x5:Int)))<|C4 (List.getD x6 5 .top) fun Xr=>Ap (decide (2<(↑x5:Int)))<|C4 (List.getD x6 8 .top) fun CG=>Ap (decide (3<(↑x5:Int)))<|Ae .u64 (List.getD x6 10 .top) fun BC=>Ap (decide (5<(↑x5:Int)))<|Ae .u64 (List.getD x6 16 .top) fun CI=>Aa (wrap .i64 CI) fun Tw=>Ap (decide (6<(↑x5:Int)))<|Ae .u64 (List.getD x6 19 .top) fun Yo=>Aa (wrap .i64 Yo) fun CF=>Ap (decide (7<(↑x5:Int)))<|Ae .u64 (List.getD x6 22 .top) fun Xe=>Ap (decide (8<(↑x5:Int)))<|Ae .u64 (List.getD x6 25 .top) fun Tx=>Aa (wrap .i64 Tx) fun CD=>Ap (decide (9<(↑x5:Int)))<|Ae .u64 (List.getD x6 28 .top) fun Uv=>Ap (decide (0+Tk*1<=Sj.length))<|Ap (decide (0+R4*1<=Vw.length))<|Ag (call 30 [.agg [.sc (.string Xr),.sc (.string CG),.sc (.int .u64 BC),.sc (.int .i64 Fx),.sc (.int .u64 I8),.sc (.int .i64 Tw),.sc (.int .i64 CF),.sc (.bool (Xe==1)),.sc (.int .i64 CD),.sc (.int .u64 Uv),.sc (.int .i64 Lh),.lst false 1 Tk (List.take (Tk*1) (List.drop 0 Sj)),.lst false 1 R4 (List.take (R4*1) (List.drop 0 Vw))]]) fun Xd Wl=>Ac Wl<|Ab Xd fun V6 Xc=>D0 1 V6 fun Xh Ze=>Ab Xc fun Yy CE=>Ae .i64 Yy fun GW=>Ac CE<|Bb (GW != 0) (some (Au.mk [.agg [.sc (.string (ByteArray.mk #[])),.sc (.string (ByteArray.mk #[])),.sc (.int .u64 0),.sc (.int .i64 0),.sc (.int .u64 0),.sc (.int .i64 0),.sc (.int .i64 0),.sc (.bool false),.sc (.int .i64 0),.sc (.int .u64 0),.sc (.int .i64 0),.lst false 1 0 [],.lst false 1 0 []],.sc (.int .i64 2)] [])) (Ap (decide (0+Xh*1<=Ze.length))<|Ag (call 55 [.lst false 1 Xh (List.take (Xh*1) (List.drop 0 Ze)),.lst false 1 a0n a0]) fun DQ ES=>Ac ES<|Ab DQ fun HE CH=>Bm HE fun V4=>Ac CH<|Bb (!V4) (some (Au.mk [.agg [.sc (.string (ByteArray.mk #[])),.sc (.string (ByteArray.mk #[])),.sc (.int .u64 0),.sc (.int .i64 0),.sc (.int .u64 0),.sc (.int .i64 0),.sc (.int .i64 0),.sc (.bool false),.sc (.int .i64 0),.sc (.int .u64 0),.sc (.int .i64 0),.lst false 1 0 [],.lst false 1 0 []],.sc (.int .i64 2)] [])) (Ap (decide (0+Tk*1<=Sj.length))<|Ap (decide (0+R4*1<=Vw.length))<|some (Au.mk [.agg [.sc (.string Xr),.sc (.string CG),.sc (.int .u64 BC),.sc (.int .i64 Fx),.sc (.int .u64 I8),.sc (.int .i64 Tw),.sc (.int .i64 CF),.sc (.bool (Xe==1)),.sc (.int .i64 CD),.sc (.int .u64 Uv),.sc (.int .i64 Lh),.lst false 1 Tk (List.take (Tk*1) (List.drop 0 Sj)),.lst false 1 R4 (List.take (R4*1) (List.drop 0 Vw))],.sc (.int .i64 0)] []))))))))) (Ad C0 Tryz.prog fu d):=by kernel_rfl
abbrev Iz:FuncId:=47
noncomputable def Ch (fu:Nat)(call:Ai)(a0_0 a0_1:ByteArray)(a0_2 a0_3:Int)(a0_4 a0_5 a0_6:Int)(a0_7:Bool)(a0_8 a0_9 a0_10:Int)(a0_11n:Nat)(a0_11:List PV)(a0_12n:Nat)(a0_12:List PV)(a1:Int)(a2n:Nat)(a2:List PV)(a3:Int)(nn:Nat)(y0:Int)(y1:Nat)(y2:List PV)(y3 y4:Int)(y5 y6:ByteArray)(y7 y8:Int)(y9 y10 Jj:Int)(Nv:Bool)(Tf Zh Zi:Int)(Zg:Nat)(Zf:List PV)(GQ:Nat)(TH:List PV):Option Au:=C9 CB Tryz.prog fu call 47 Tryz.f47 (B5 Tryz.f47) [.agg [.sc (.string a0_0),.sc (.string a0_1),.sc (.int .u64 a0_2),.sc (.int .i64 a0_3),.sc (.int .u64 a0_4),.sc (.int .i64 a0_5),.sc (.int .i64 a0_6),.sc (.bool a0_7),.sc (.int .i64 a0_8),.sc (.int .u64 a0_9),.sc (.int .i64 a0_10),.lst false 1 a0_11n a0_11,.lst false 1 a0_12n a0_12],.sc (.int .i64 a1),.lst false 3 a2n a2,.sc (.int .i64 a3)] [.r,.r,.r,.r,.l,.r,.l] nn ⟨lk [(3,(.sc (.int .i64 y0))),(4,(.ptr 4 0)),(45,(.lst false 3 y1 y2)),(46,(.sc (.int .i64 y3))),(47,(.sc (.int .i64 y4)))],B3 [(4,(.st [(.sc (.string y5)),(.sc (.string y6)),(.sc (.int .u64 y7)),(.sc (.int .i64 y8)),(.sc (.int .u64 y9)),(.sc (.int .i64 y10)),(.sc (.int .i64 Jj)),(.sc (.bool Nv)),(.sc (.int .i64 Tf)),(.sc (.int .u64 Zh)),(.sc (.int .i64 Zi)),(.lst false 1 Zg Zf),(.lst false 1 GQ TH)]))]⟩
theorem He (fu:Nat)(call:Ai)(a0_0 a0_1:ByteArray)(a0_2 a0_3:Int)(a0_4 a0_5 a0_6:Int)(a0_7:Bool)(a0_8 a0_9 a0_10:Int)(a0_11n:Nat)(a0_11:List PV)(a0_12n:Nat)(a0_12:List PV)(a1:Int)(a2n:Nat)(a2:List PV)(a3:Int)(nn:Nat)(y0:Int)(y1:Nat)(y2:List PV)(y3 y4:Int)(y5 y6:ByteArray)(y7 y8:Int)(y9 y10 Jj:Int)(Nv:Bool)(Tf Zh Zi:Int)(Zg:Nat)(Zf:List PV)(GQ:Nat)(TH:List PV):Ch fu call a0_0 a0_1 a0_2 a0_3 a0_4 a0_5 a0_6 a0_7 a0_8 a0_9 a0_10 a0_11n a0_11 a0_12n a0_12 a1 a2n a2 a3 (nn+1) y0 y1 y2 y3 y4 y5 y6 y7 y8 y9 y10 Jj Nv Tf Zh Zi Zg Zf GQ TH=(Bb (decide (y4<y3)) (Ap (decide (0<=y4)&&decide (y4<(↑y1:Int)))<|C4 (List.getD y2 (Int.toNat y4*3) .top) fun Cj=>Ae .u64 (List.getD y2 (Int.toNat y4*3+1) .top) fun Dd=>Ae .i64 (List.getD y2 (Int.toNat y4*3+1+1) .top) fun Dk=>Bb (Array.toList (ByteArray.data Cj)==Array.toList (ByteArray.data y6)) (Bb (Dd==y7) (Bb (decide (Dk<=y0)) (some (Au.mk [.sc (.int .i64 39)] [])) (Aa (wrap .i64 (y4+1)) fun C6=>Ch fu call a0_0 a0_1 a0_2 a0_3 a0_4 a0_5 a0_6 a0_7 a0_8 a0_9 a0_10 a0_11n a0_11 a0_12n a0_12 a1 a2n a2 a3 (nn) (y0) (y1) (y2) (y3) C6 (y5) (y6) (y7) (y8) (y9) (y10) (Jj) (Nv) (Tf) (Zh) (Zi) (Zg) (Zf) (GQ) (TH))) (Aa (wrap .i64 (y4+1)) fun Du=>Ch fu call a0_0 a0_1 a0_2 a0_3 a0_4 a0_5 a0_6 a0_7 a0_8 a0_9 a0_10 a0_11n a0_11 a0_12n a0_12 a1 a2n a2 a3 (nn) (y0) (y1) (y2) (y3) Du (y5) (y6) (y7) (y8) (y9) (y10) (Jj) (Nv) (Tf) (Zh) (Zi) (Zg) (Zf) (GQ) (TH))) (Aa (wrap .i64 (y4+1)) fun D7=>Ch fu call a0_0 a0_1 a0_2 a0_3 a0_4 a0_5 a0_6 a0_7 a0_8 a0_9 a0_10 a0_11n a0_11 a0_12n a0_12 a1 a2n a2 a3 (nn) (y0) (y1) (y2) (y3) D7 (y5) (y6) (y7) (y8) (y9) (y10) (Jj) (Nv) (Tf) (Zh) (Zi) (Zg) (Zf) (GQ) (TH))) (some (Au.mk [.sc (.int .i64 0)] []))):=by kernel_rfl
theorem Rm (fu d:Nat)(a0_0 a0_1:ByteArray)(a0_2 a0_3:Int)(a0_4 a0_5 a0_6:Int)(a0_7:Bool)(a0_8 a0_9 a0_10:Int)(a0_11n:Nat)(a0_11:List PV)(a0_12n:Nat)(a0_12:List PV)(a1:Int)(a2n:Nat)(a2:List PV)(a3:Int):Ad C0 Tryz.prog fu (d+1) Iz [.agg [.sc (.string a0_0),.sc (.string a0_1),.sc (.int .u64 a0_2),.sc (.int .i64 a0_3),.sc (.int .u64 a0_4),.sc (.int .i64 a0_5),.sc (.int .i64 a0_6),.sc (.bool a0_7),.sc (.int .i64 a0_8),.sc (.int .u64 a0_9),.sc (.int .i64 a0_10),.lst false 1 a0_11n a0_11,.lst false 1 a0_12n a0_12],.sc (.int .i64 a1),.lst false 3 a2n a2,.sc (.int .i64 a3)]=(fun (call:Ai)=>Ag (call 35 [.agg [.sc (.string a0_0),.sc (.string a0_1),.sc (.int .u64 a0_2),.sc (.int .i64 a0_3),.sc (.int .u64 a0_4),.sc (.int .i64 a0_5),.sc (.int .i64 a0_6),.sc (.bool a0_7),.sc (.int .i64 a0_8),.sc (.int .u64 a0_9),.sc (.int .i64 a0_10),.lst false 1 a0_11n a0_11,.lst false 1 a0_12n a0_12]]) fun x1 x2=>Ac x2<|Ab x1 fun x3 x4=>D0 1 x3 fun x5 x6=>Ab x4 fun x7 x8=>Ae .i64 x7 fun x9=>Ac x8<|Bb (x9 != 0) (some (Au.mk [.sc (.int .i64 x9)] [])) (Bb (decide (a3<a0_5)) (some (Au.mk [.sc (.int .i64 38)] [])) (Bb (decide (a3>a0_6)) (some (Au.mk [.sc (.int .i64 38)] [])) (Bb (decide (a1>0)) (Bb (!a0_7) (some (Au.mk [.sc (.int .i64 38)] [])) (Aa (wrap .i64 (a1-1)) fun Cg=>Bb (decide (a0_8<Cg)) (some (Au.mk [.sc (.int .i64 38)] [])) (Ch fu call a0_0 a0_1 a0_2 a0_3 a0_4 a0_5 a0_6 a0_7 a0_8 a0_9 a0_10 a0_11n a0_11 a0_12n a0_12 a1 a2n a2 a3 (fu) (a3) (a2n) (a2) ((↑a2n:Int)) 0 (a0_0) (a0_1) (a0_2) (a0_3) (a0_4) (a0_5) (a0_6) (a0_7) (a0_8) (a0_9) (a0_10) (a0_11n) (a0_11) (a0_12n) (a0_12)))) (Ch fu call a0_0 a0_1 a0_2 a0_3 a0_4 a0_5 a0_6 a0_7 a0_8 a0_9 a0_10 a0_11n a0_11 a0_12n a0_12 a1 a2n a2 a3 (fu) (a3) (a2n) (a2) ((↑a2n:Int)) 0 (a0_0) (a0_1) (a0_2) (a0_3) (a0_4) (a0_5) (a0_6) (a0_7) (a0_8) (a0_9) (a0_10) (a0_11n) (a0_11) (a0_12n) (a0_12)))))) (Ad C0 Tryz.prog fu d):=by kernel_rfl
abbrev Oi:FuncId:=27
noncomputable def Ga (fu:Nat)(call:Ai)(a0n:Nat)(a0:List PV)(a1n:Nat)(a1:List PV)(a2n:Nat)(a2:List PV)(a3:Int)(nn y0:Nat)(y1:List PV)(y2:Nat)(y3:List PV)(y4:Nat)(y5:List PV)(y6:Int)(y7:Nat)(y8:List PV)(y9 y10:Int):Option Au:=C9 CB Tryz.prog fu call 27 Tryz.f27 (B5 Tryz.f27) [.lst false 13 a0n a0,.lst false 3 a1n a1,.lst false 3 a2n a2,.sc (.int .i64 a3)] [.r,.r,.r,.l,.r,.l] nn ⟨lk [(0,(.lst false 13 y0 y1)),(1,(.lst false 3 y2 y3)),(2,(.lst false 3 y4 y5)),(3,(.sc (.int .i64 y6))),(31,(.lst false 13 y7 y8)),(32,(.sc (.int .i64 y9))),(33,(.sc (.int .i64 y10)))],B3 []⟩
noncomputable def Dz (fu:Nat)(call:Ai)(a0n:Nat)(a0:List PV)(a1n:Nat)(a1:List PV)(a2n:Nat)(a2:List PV)(a3:Int)(nn y0:Nat)(y1:List PV)(y2 y3:Int)(y4 y5:ByteArray)(y6 y7:Int)(y8 y9 y10:Int)(Jj:Bool)(Nv Tf Zh:Int)(Zi:Nat)(Zg:List PV)(Zf:Nat)(GQ:List PV):Option Au:=C9 CB Tryz.prog fu call 27 Tryz.f27 (B5 Tryz.f27) [.lst false 13 a0n a0,.lst false 3 a1n a1,.lst false 3 a2n a2,.sc (.int .i64 a3)] [.r,.r,.r,.r,.r,.l,.r,.l] nn ⟨lk [(14,(.ptr 14 0)),(78,(.lst false 3 y0 y1)),(79,(.sc (.int .i64 y2))),(80,(.sc (.int .i64 y3)))],B3 [(14,(.st [(.sc (.string y4)),(.sc (.string y5)),(.sc (.int .u64 y6)),(.sc (.int .i64 y7)),(.sc (.int .u64 y8)),(.sc (.int .i64 y9)),(.sc (.int .i64 y10)),(.sc (.bool Jj)),(.sc (.int .i64 Nv)),(.sc (.int .u64 Tf)),(.sc (.int .i64 Zh)),(.lst false 1 Zi Zg),(.lst false 1 Zf GQ)]))]⟩
theorem J8 (fu:Nat)(call:Ai)(a0n:Nat)(a0:List PV)(a1n:Nat)(a1:List PV)(a2n:Nat)(a2:List PV)(a3:Int)(nn y0:Nat)(y1:List PV)(y2:Nat)(y3:List PV)(y4:Nat)(y5:List PV)(y6:Int)(y7:Nat)(y8:List PV)(y9 y10:Int):Ga fu call a0n a0 a1n a1 a2n a2 a3 (nn+1) y0 y1 y2 y3 y4 y5 y6 y7 y8 y9 y10=(Bb (decide (y10<y9)) (Ap (decide (0<=y10)&&decide (y10<(↑y7:Int)))<|C4 (List.getD y8 (Int.toNat y10*13) .top) fun x1=>C4 (List.getD y8 (Int.toNat y10*13+1) .top) fun x2=>Ae .u64 (List.getD y8 (Int.toNat y10*13+1+1) .top) fun x3=>Ae .i64 (List.getD y8 (Int.toNat y10*13+1+1+1) .top) fun x4=>Ae .u64 (List.getD y8 (Int.toNat y10*13+1+1+1+1) .top) fun x5=>Ae .i64 (List.getD y8 (Int.toNat y10*13+1+1+1+1+1) .top) fun x6=>Ae .i64 (List.getD y8 (Int.toNat y10*13+1+1+1+1+1+1) .top) fun x7=>Bm (List.getD y8 (Int.toNat y10*13+1+1+1+1+1+1+1) .top) fun x8=>Ae .i64 (List.getD y8 (Int.toNat y10*13+1+1+1+1+1+1+1+1) .top) fun x9=>Ae .u64 (List.getD y8 (Int.toNat y10*13+1+1+1+1+1+1+1+1+1) .top) fun Cg=>Ae .i64 (List.getD y8 (Int.toNat y10*13+1+1+1+1+1+1+1+1+1+1) .top) fun Cj=>Ho 1 (List.getD y8 (Int.toNat y10*13+1+1+1+1+1+1+1+1+1+1+1) .top) fun Dd Dk C6=>Ho 1 (List.getD y8 (Int.toNat y10*13+1+1+1+1+1+1+1+1+1+1+1+1) .top) fun Du D7 Ed=>Ag (call 47 [.agg [.sc (.string x1),.sc (.string x2),.sc (.int .u64 x3),.sc (.int .i64 x4),.sc (.int .u64 x5),.sc (.int .i64 x6),.sc (.int .i64 x7),.sc (.bool x8),.sc (.int .i64 x9),.sc (.int .u64 Cg),.sc (.int .i64 Cj),.lst false 1 Dk C6,.lst false 1 D7 Ed],.sc (.int .i64 y10),.lst false 3 y4 y5,.sc (.int .i64 y6)]) fun Ex Eu=>Ac Eu<|Ab Ex fun E5 Hq=>Ae .i64 E5 fun Gn=>Ac Hq<|Bb (Gn != 0) (some (Au.mk [.sc (.int .i64 0),.sc (.int .i64 Gn)] [])) (Aa (wrap .i64 ((↑y0:Int)-1)) fun G3=>Bb (y10==G3) (Aa (wrap .i64 ((↑y0:Int)-1)) fun Ds=>Ap (decide (0<=Ds)&&decide (Ds<(↑y0:Int)))<|C4 (List.getD y1 (Int.toNat Ds*13) .top) fun De=>C4 (List.getD y1 (Int.toNat Ds*13+1) .top) fun Fx=>Ae .u64 (List.getD y1 (Int.toNat Ds*13+1+1) .top) fun Hp=>Ae .i64 (List.getD y1 (Int.toNat Ds*13+1+1+1) .top) fun Es=>Ae .u64 (List.getD y1 (Int.toNat Ds*13+1+1+1+1) .top) fun I8=>Ae .i64 (List.getD y1 (Int.toNat Ds*13+1+1+1+1+1) .top) fun Lg=>Ae .i64 (List.getD y1 (Int.toNat Ds*13+1+1+1+1+1+1) .top) fun Jw=>Bm (List.getD y1 (Int.toNat Ds*13+1+1+1+1+1+1+1) .top) fun J4=>Ae .i64 (List.getD y1 (Int.toNat Ds*13+1+1+1+1+1+1+1+1) .top) fun Ka=>Ae .u64 (List.getD y1 (Int.toNat Ds*13+1+1+1+1+1+1+1+1+1) .top) fun Mo=>Ae .i64 (List.getD y1 (Int.toNat Ds*13+1+1+1+1+1+1+1+1+1+1) .top) fun O9=>Ho 1 (List.getD y1 (Int.toNat Ds*13+1+1+1+1+1+1+1+1+1+1+1) .top) fun Qs Qj Gs=>Ho 1 (List.getD y1 (Int.toNat Ds*13+1+1+1+1+1+1+1+1+1+1+1+1) .top) fun H0 Sn Y2=>Dz fu call a0n a0 a1n a1 a2n a2 a3 (fu) (y2) (y3) ((↑y2:Int)) 0 De Fx Hp Es I8 Lg Jw J4 Ka Mo O9 Qj Gs Sn Y2) (Aa (wrap .i64 (y10+1)) fun Lh=>Ap (decide (0<=Lh)&&decide (Lh<(↑y0:Int)))<|C4 (List.getD y1 (Int.toNat Lh*13+0) .top) fun Tv=>Bb (!Array.toList (ByteArray.data x2)==Array.toList (ByteArray.data Tv)) (some (Au.mk [.sc (.int .i64 0),.sc (.int .i64 38)] [])) (Aa (wrap .i64 (y10+1)) fun Tr=>Ap (decide (0<=Tr)&&decide (Tr<(↑y0:Int)))<|Ae .i64 (List.getD y1 (Int.toNat Tr*13+3) .top) fun Tk=>Ae .u64 (List.getD y1 (Int.toNat Tr*13+3+1) .top) fun Sj=>Ag (call 20 [.agg [.sc (.string x1),.sc (.string x2),.sc (.int .u64 x3),.sc (.int .i64 x4),.sc (.int .u64 x5),.sc (.int .i64 x6),.sc (.int .i64 x7),.sc (.bool x8),.sc (.int .i64 x9),.sc (.int .u64 Cg),.sc (.int .i64 Cj),.lst false 1 Dk C6,.lst false 1 D7 Ed],.agg [.sc (.int .i64 Tk),.sc (.int .u64 Sj)]]) fun Xn X3=>Ac X3<|Ab Xn fun R4 Vw=>Ae .i64 R4 fun Xk=>Ac Vw<|Bb (Xk != 0) (some (Au.mk [.sc (.int .i64 0),.sc (.int .i64 Xk)] [])) (Aa (wrap .i64 (y10+1)) fun Wt=>Ga fu call a0n a0 a1n a1 a2n a2 a3 (nn) (y0) (y1) (y2) (y3) (y4) (y5) (y6) (y7) (y8) (y9) Wt))))) (Aa (wrap .i64 ((↑y0:Int)-1)) fun Om=>Ap (decide (0<=Om)&&decide (Om<(↑y0:Int)))<|C4 (List.getD y1 (Int.toNat Om*13) .top) fun Xr=>C4 (List.getD y1 (Int.toNat Om*13+1) .top) fun CG=>Ae .u64 (List.getD y1 (Int.toNat Om*13+1+1) .top) fun BC=>Ae .i64 (List.getD y1 (Int.toNat Om*13+1+1+1) .top) fun CI=>Ae .u64 (List.getD y1 (Int.toNat Om*13+1+1+1+1) .top) fun Tw=>Ae .i64 (List.getD y1 (Int.toNat Om*13+1+1+1+1+1) .top) fun Yo=>Ae .i64 (List.getD y1 (Int.toNat Om*13+1+1+1+1+1+1) .top) fun CF=>Bm (List.getD y1 (Int.toNat Om*13+1+1+1+1+1+1+1) .top) fun Xe=>Ae .i64 (List.getD y1 (Int.toNat Om*13+1+1+1+1+1+1+1+1) .top) fun Tx=>Ae .u64 (List.getD y1 (Int.toNat Om*13+1+1+1+1+1+1+1+1+1) .top) fun CD=>Ae .i64 (List.getD y1 (Int.toNat Om*13+1+1+1+1+1+1+1+1+1+1) .top) fun Uv=>Ho 1 (List.getD y1 (Int.toNat Om*13+1+1+1+1+1+1+1+1+1+1+1) .top) fun Xd Wl V6=>Ho 1 (List.getD y1 (Int.toNat Om*13+1+1+1+1+1+1+1+1+1+1+1+1) .top) fun Xc Xh Ze=>Dz fu call a0n a0 a1n a1 a2n a2 a3 (fu) (y2) (y3) ((↑y2:Int)) 0 Xr CG BC CI Tw Yo CF Xe Tx CD Uv Wl V6 Xh Ze)):=by kernel_rfl
theorem Kb (fu:Nat)(call:Ai)(a0n:Nat)(a0:List PV)(a1n:Nat)(a1:List PV)(a2n:Nat)(a2:List PV)(a3:Int)(nn y0:Nat)(y1:List PV)(y2 y3:Int)(y4 y5:ByteArray)(y6 y7:Int)(y8 y9 y10:Int)(Jj:Bool)(Nv Tf Zh:Int)(Zi:Nat)(Zg:List PV)(Zf:Nat)(GQ:List PV):Dz fu call a0n a0 a1n a1 a2n a2 a3 (nn+1) y0 y1 y2 y3 y4 y5 y6 y7 y8 y9 y10 Jj Nv Tf Zh Zi Zg Zf GQ=(Bb (decide (y3<y2)) (Ap (decide (0<=y3)&&decide (y3<(↑y0:Int)))<|C4 (List.getD y1 (Int.toNat y3*3) .top) fun Yy=>Ae .i64 (List.getD y1 (Int.toNat y3*3+1) .top) fun CE=>Ae .u64 (List.getD y1 (Int.toNat y3*3+1+1) .top) fun GW=>Bb (Array.toList (ByteArray.data Yy)==Array.toList (ByteArray.data y5)) (Ag (call 20 [.agg [.sc (.string y4),.sc (.string y5),.sc (.int .u64 y6),.sc (.int .i64 y7),.sc (.int .u64 y8),.sc (.int .i64 y9),.sc (.int .i64 y10),.sc (.bool Jj),.sc (.int .i64 Nv),.sc (.int .u64 Tf),.sc (.int .i64 Zh),.lst false 1 Zi Zg,.lst false 1 Zf GQ],.agg [.sc (.int .i64 CE),.sc (.int .u64 GW)]]) fun DQ ES=>Ac ES<|Ab DQ fun HE CH=>Ae .i64 HE fun V4=>Ac CH<|Bb (V4==0) (some (Au.mk [.sc (.int .i64 y3),.sc (.int .i64 0)] [])) (Aa (wrap .i64 (y3+1)) fun MB=>Dz fu call a0n a0 a1n a1 a2n a2 a3 (nn) (y0) (y1) (y2) MB (y4) (y5) (y6) (y7) (y8) (y9) (y10) (Jj) (Nv) (Tf) (Zh) (Zi) (Zg) (Zf) (GQ))) (Aa (wrap .i64 (y3+1)) fun MD=>Dz fu call a0n a0 a1n a1 a2n a2 a3 (nn) (y0) (y1) (y2) MD (y4) (y5) (y6) (y7) (y8) (y9) (y10) (Jj) (Nv) (Tf) (Zh) (Zi) (Zg) (Zf) (GQ))) (some (Au.mk [.sc (.int .i64 0),.sc (.int .i64 38)] []))):=by kernel_rfl
theorem Yk (fu d a0n:Nat)(a0:List PV)(a1n:Nat)(a1:List PV)(a2n:Nat)(a2:List PV)(a3:Int):Ad C0 Tryz.prog fu (d+1) Oi [.lst false 13 a0n a0,.lst false 3 a1n a1,.lst false 3 a2n a2,.sc (.int .i64 a3)]=(fun (call:Ai)=>Bb (decide (a3<0)) (some (Au.mk [.sc (.int .i64 0),.sc (.int .i64 9)] [])) (Bb (decide (a3>1099511627776)) (some (Au.mk [.sc (.int .i64 0),.sc (.int .i64 9)] [])) (Bb (decide ((↑a0n:Int)<1)) (some (Au.mk [.sc (.int .i64 0),.sc (.int .i64 38)] [])) (Bb (decide ((↑a0n:Int)>3)) (some (Au.mk [.sc (.int .i64 0),.sc (.int .i64 38)] [])) (Ga fu call a0n a0 a1n a1 a2n a2 a3 (fu) (a0n) (a0) (a1n) (a1) (a2n) (a2) (a3) (a0n) (a0) ((↑a0n:Int)) 0))))) (Ad C0 Tryz.prog fu d):=by kernel_rfl
abbrev Xa:FuncId:=55
theorem NJ (fu d a0n:Nat)(a0:List PV)(a1n:Nat)(a1:List PV):Ad C0 Tryz.prog fu (d+1) Xa [.lst false 1 a0n a0,.lst false 1 a1n a1]=(fun (call:Ai)=>Ap (decide (a0.length=a0n))<|D8 (bytesOf a0) fun x1=>Ap (decide (a1.length=a1n))<|D8 (bytesOf a1) fun x2=>some (Au.mk [.sc (.bool (Array.toList (ByteArray.data (ByteArray.mk (List.toArray x1)))==Array.toList (ByteArray.data (ByteArray.mk (List.toArray x2)))))] [])) (Ad C0 Tryz.prog fu d):=by kernel_rfl
end
section
open Go.IntKind (wrap)
theorem XM {c:Ce}{e:Int}(h:A3 c=e)(he:e≠0):Fo c=[.own 1 0 [],.sc (.int .i64 e)]:=by
 unfold Fo;rw [h,A5 he]
theorem Ef {c:Ce}{e:Int}(h:A3 c=e)(he:e≠0):some (Au.mk [.own 1 0 [],.sc (.int .i64 e)] [])=some (Au.mk (Fo c) []):=by
 rw [XM h he]
def Vd (c:Ce):List It:=[⟨4,0,c.subj⟩,⟨4,0,c.iss⟩,⟨1,c.serial,F2⟩,⟨3,0,B8 (Ie c.key)⟩,⟨1,c.fr,F2⟩,⟨1,c.un,F2⟩,⟨7,(if c.auth=true then 1 else 0),F2⟩,⟨1,c.path,F2⟩,⟨1,c.model,F2⟩]
theorem FJ {c:Ce}(hw:c.wf)(h:A3 c=0):∀x∈Vd c,TW x:=by
 unfold A3 at h;have kl:(B8 (Ie c.key)).size=9:=by rw [Ft];rfl
 have ns:F2.size=0:=rfl;have hs:=hw.ser;have hm:=hw.mod;have es:SY F2=true:=rfl;by_cases e1:c.subj.size<1∨32<c.subj.size
 ·rw [B4 e1] at h;cases h
 rw [A5 e1] at h;by_cases e2:c.iss.size<1∨32<c.iss.size
 ·rw [B4 e2] at h;cases h
 rw [A5 e2] at h;by_cases e3:VJ c.subj=false
 ·rw [B4 e3] at h;cases h
 rw [A5 e3] at h;by_cases e4:VJ c.iss=false
 ·rw [B4 e4] at h;cases h
 rw [A5 e4] at h
 repeat' (split at h;· cases h)
 rw [Bool.not_eq_false] at e3 e4;intro x hx;simp only [Vd,List.mem_cons,List.not_mem_nil,or_false] at hx;rcases hx with rfl|rfl|rfl|rfl|rfl|rfl|rfl|rfl|rfl
 ·exact ⟨by simp,by simp only;omega,fun _=>e3,by simp [F7],by simp⟩
 ·exact ⟨by simp,by simp only;omega,fun _=>e4,by simp [F7],by simp⟩
 ·exact ⟨by simp,by simp only [ns];omega,fun h=>by simp at h,by simp [F7,es],hs⟩
 ·exact ⟨by simp,by simp only [kl];omega,fun h=>by simp at h,by simp [F7],by simp⟩
 ·exact ⟨by simp,by simp only [ns];omega,fun h=>by simp at h,by simp [F7,es],by simp only;omega⟩
 ·exact ⟨by simp,by simp only [ns];omega,fun h=>by simp at h,by simp [F7,es],by simp only;omega⟩
 ·exact ⟨by simp,by simp only [ns];omega,fun h=>by simp at h,by simp [F7,es];split<;>omega,by simp only;split<;>omega⟩
 ·exact ⟨by simp,by simp only [ns];omega,fun h=>by simp at h,by simp [F7,es],by simp only;omega⟩
 ·exact ⟨by simp,by simp only [ns];omega,fun h=>by simp at h,by simp [F7,es],hm⟩
theorem Xs {c:Ce}(hw:c.wf)(h:A3 c=0):Pe [] 0 (A7 c):=Acm (r:=Vd c) (by simp [Vd]) (by simp [Vd]) (FJ hw h)
section
variable {fu d:Nat}
theorem UI (s:ByteArray):Ad C0 Tryz.prog fu (d+1) FS [.sc (.string s)]=some ⟨[.own 3 1 (Cd [⟨4,0,s⟩])],[]⟩:=by rw [UL];rfl
theorem Vi (n:Int):Ad C0 Tryz.prog fu (d+1) FN [.sc (.int .u64 n)]=some ⟨[.own 3 1 (Cd [⟨1,n,F2⟩])],[]⟩:=by rw [VK];rfl
theorem Afb (b:Bool):Ad C0 Tryz.prog fu (d+1) FC [.sc (.bool b)]=some ⟨[.own 3 1 (Cd [⟨7,(if b=true then 1 else 0),F2⟩])],[]⟩:=by rw [UF];cases b<;>rfl
theorem Ac9 (l:List Int):Ad C0 Tryz.prog fu (d+1) Z7 [.lst false 1 l.length (Af .u8 l)]=some ⟨[.own 3 1 (Cd [⟨3,0,B8 l⟩])],[]⟩:=by
 rw [SQ];have L:=Aj .u8 l;have bo:=E1 l;simp (disch:=omega) only [Bv,L,bo];rfl
theorem XZ (hfu:1000<=fu){c:Ce}(hw:c.wf)(hs1:c.subj.size<=9223372036854775807)(hs2:c.iss.size<=9223372036854775807)(e1:¬(c.subj.size<1∨32<c.subj.size)) (e2:¬(c.iss.size<1∨32<c.iss.size)) (nn:Nat):
  Ev fu (Ad C0 Tryz.prog fu (d+6)) c.subj c.iss c.serial c.key.h c.key.root c.fr c.un c.auth c.path c.model c.sig.leaf c.sig.chains.length (Af .u64 c.sig.chains) c.sig.path.length (Af .u64 c.sig.path) (nn+1) c.subj c.iss 2 c.subj c.iss c.serial c.key.h c.key.root c.fr c.un c.auth c.path c.model c.sig.leaf c.sig.chains.length (Af .u64 c.sig.chains) c.sig.path.length (Af .u64 c.sig.path)=some ⟨Fo c,[]⟩:=by
 have v1:=Oe (fu:=fu) (d:=d+5) c.subj hs1;have v2:=Oe (fu:=fu) (d:=d+5) c.iss hs2;have ek:=Ad2 (xs:=Is) (fu:=fu) (d:=d+4) hfu c.key;simp only [Ky.cells] at ek;have e90:((9:Int) != 0)=true:=rfl;have e00:((0:Int) != 0)=false:=rfl;rw [D9,Do _ _ _ (by omega)]
 cases e3:VJ c.subj
 ·have hb:A3 c=6:=by unfold A3;rw [A5 e1,A5 e2,B4 e3]
  rw [e3] at v1;rw [←Ef hb (by omega)]
  try unfold Aa
  repeat first
   |((with_reducible first|apply Ay|apply Ao|apply Az|apply A6|apply Ba|apply Bf|apply Cz|apply Am);· first|with_reducible rfl|(simp (disch:=omega) only [v1,C8,Dl]<;>with_reducible rfl))
   |((with_reducible first|apply Aw|apply Av);· first|with_reducible rfl|omega|(simp (disch:=omega) only [gT,v1,C8,Dl]<;>omega))
   |(with_reducible apply Ax;· first|with_reducible rfl|(simp (disch:=omega) only [gF,v1,C8,Dl]<;>omega))
  try simp (disch:=omega) only [v1,C8,Dl]
 rw [e3] at v1;cases e4:VJ c.iss
 ·have hb:A3 c=6:=by unfold A3;rw [A5 e1,A5 e2,A5 (by simp [e3]),B4 e4]
  rw [e4] at v2;rw [←Ef hb (by omega)]
  try unfold Aa
  repeat first
   |((with_reducible first|apply Ay|apply Ao|apply Az|apply A6|apply Ba|apply Bf|apply Cz|apply Am);· first|with_reducible rfl|(simp (disch:=omega) only [v1,v2,C8,Dl]<;>with_reducible rfl))
   |((with_reducible first|apply Aw|apply Av);· first|with_reducible rfl|omega|(simp (disch:=omega) only [gT,v1,v2,C8,Dl]<;>omega))
   |(with_reducible apply Ax;· first|with_reducible rfl|(simp (disch:=omega) only [gF,v1,v2,C8,Dl]<;>omega))
  try simp (disch:=omega) only [v1,v2,C8,Dl]
 rw [e4] at v2;cases e5:Cx c.key.h
 rotate_left
 ·have hb:A3 c=9:=by unfold A3;rw [A5 e1,A5 e2,A5 (by simp [e3]),A5 (by simp [e4]),B4 e5]
  rw [e5,B4 rfl] at ek;rw [←Ef hb (by omega)]
  try unfold Aa
  repeat first
   |((with_reducible first|apply Ay|apply Ao|apply Az|apply A6|apply Ba|apply Bf|apply Cz|apply Am);· first|with_reducible rfl|(simp (disch:=omega) only [v1,v2,ek,e90,C8,Dl]<;>with_reducible rfl))
   |((with_reducible first|apply Aw|apply Av);· first|with_reducible rfl|omega|(simp (disch:=omega) only [gT,v1,v2,ek,e90,C8,Dl]<;>omega))
   |(with_reducible apply Ax;· first|with_reducible rfl|(simp (disch:=omega) only [gF,v1,v2,ek,e90,C8,Dl]<;>omega))
  try simp (disch:=omega) only [v1,v2,ek,e90,C8,Dl]
 rw [e5,A5 (by simp)] at ek
 have B0:A3 c=if c.fr<0 then 9 else if c.un<c.fr then 9 else if c.un>1099511627776 then 9 else if c.path<0∨2<c.path then 9 else if c.path≠0∧c.auth=false then 4 else 0:=by
  unfold A3;rw [A5 e1,A5 e2,A5 (by simp [e3]),A5 (by simp [e4]),A5 (by simp [e5])]
 by_cases e6:c.fr<0
 ·have hb:A3 c=9:=by rw [B0,B4 e6]
  rw [←Ef hb (by omega)]
  try unfold Aa
  repeat first
   |((with_reducible first|apply Ay|apply Ao|apply Az|apply A6|apply Ba|apply Bf|apply Cz|apply Am);· first|with_reducible rfl|(simp (disch:=omega) only [v1,v2,ek,e00,C8,Dl]<;>with_reducible rfl))
   |((with_reducible first|apply Aw|apply Av);· first|with_reducible rfl|omega|(simp (disch:=omega) only [gT,v1,v2,ek,e00,C8,Dl]<;>omega))
   |(with_reducible apply Ax;· first|with_reducible rfl|(simp (disch:=omega) only [gF,v1,v2,ek,e00,C8,Dl]<;>omega))
  try simp (disch:=omega) only [v1,v2,ek,e00,C8,Dl]
 by_cases e7:c.un<c.fr
 ·have hb:A3 c=9:=by rw [B0,A5 e6,B4 e7]
  rw [←Ef hb (by omega)]
  try unfold Aa
  repeat first
   |((with_reducible first|apply Ay|apply Ao|apply Az|apply A6|apply Ba|apply Bf|apply Cz|apply Am);· first|with_reducible rfl|(simp (disch:=omega) only [v1,v2,ek,e00,C8,Dl]<;>with_reducible rfl))
   |((with_reducible first|apply Aw|apply Av);· first|with_reducible rfl|omega|(simp (disch:=omega) only [gT,v1,v2,ek,e00,C8,Dl]<;>omega))
   |(with_reducible apply Ax;· first|with_reducible rfl|(simp (disch:=omega) only [gF,v1,v2,ek,e00,C8,Dl]<;>omega))
  try simp (disch:=omega) only [v1,v2,ek,e00,C8,Dl]
 by_cases e8:c.un>1099511627776
 ·have hb:A3 c=9:=by rw [B0,A5 e6,A5 e7,B4 e8]
  rw [←Ef hb (by omega)]
  try unfold Aa
  repeat first
   |((with_reducible first|apply Ay|apply Ao|apply Az|apply A6|apply Ba|apply Bf|apply Cz|apply Am);· first|with_reducible rfl|(simp (disch:=omega) only [v1,v2,ek,e00,C8,Dl]<;>with_reducible rfl))
   |((with_reducible first|apply Aw|apply Av);· first|with_reducible rfl|omega|(simp (disch:=omega) only [gT,v1,v2,ek,e00,C8,Dl]<;>omega))
   |(with_reducible apply Ax;· first|with_reducible rfl|(simp (disch:=omega) only [gF,v1,v2,ek,e00,C8,Dl]<;>omega))
  try simp (disch:=omega) only [v1,v2,ek,e00,C8,Dl]
 by_cases e9:c.path<0∨2<c.path
 ·have hb:A3 c=9:=by rw [B0,A5 e6,A5 e7,A5 e8,B4 e9]
  rw [←Ef hb (by omega)]
  by_cases e9':c.path<0
  ·skip
   try unfold Aa
   repeat first
    |((with_reducible first|apply Ay|apply Ao|apply Az|apply A6|apply Ba|apply Bf|apply Cz|apply Am);· first|with_reducible rfl|(simp (disch:=omega) only [v1,v2,ek,e00,C8,Dl]<;>with_reducible rfl))
    |((with_reducible first|apply Aw|apply Av);· first|with_reducible rfl|omega|(simp (disch:=omega) only [gT,v1,v2,ek,e00,C8,Dl]<;>omega))
    |(with_reducible apply Ax;· first|with_reducible rfl|(simp (disch:=omega) only [gF,v1,v2,ek,e00,C8,Dl]<;>omega))
   try simp (disch:=omega) only [v1,v2,ek,e00,C8,Dl]
  ·skip
   try unfold Aa
   repeat first
    |((with_reducible first|apply Ay|apply Ao|apply Az|apply A6|apply Ba|apply Bf|apply Cz|apply Am);· first|with_reducible rfl|(simp (disch:=omega) only [v1,v2,ek,e00,C8,Dl]<;>with_reducible rfl))
    |((with_reducible first|apply Aw|apply Av);· first|with_reducible rfl|omega|(simp (disch:=omega) only [gT,v1,v2,ek,e00,C8,Dl]<;>omega))
    |(with_reducible apply Ax;· first|with_reducible rfl|(simp (disch:=omega) only [gF,v1,v2,ek,e00,C8,Dl]<;>omega))
   try simp (disch:=omega) only [v1,v2,ek,e00,C8,Dl]
 by_cases e10:c.path≠0∧c.auth=false
 ·have hb:A3 c=4:=by rw [B0,A5 e6,A5 e7,A5 e8,A5 e9,B4 e10]
  have ea:=e10.2;have ep:(c.path != 0)=true:=by simp [e10.1]
  rw [←Ef hb (by omega)]
  try unfold Aa
  repeat first
   |((with_reducible first|apply Ay|apply Ao|apply Az|apply A6|apply Ba|apply Bf|apply Cz|apply Am);· first|with_reducible rfl|(simp (disch:=omega) only [v1,v2,ek,e00,ep,ea,C8,Dl]<;>with_reducible rfl))
   |((with_reducible first|apply Aw|apply Av);· first|with_reducible rfl|omega|(simp (disch:=omega) only [gT,v1,v2,ek,e00,ep,ea,C8,Dl]<;>omega))
   |(with_reducible apply Ax;· first|with_reducible rfl|(simp (disch:=omega) only [gF,v1,v2,ek,e00,ep,ea,C8,Dl]<;>omega))
  try simp (disch:=omega) only [v1,v2,ek,e00,ep,ea,C8,Dl]
 have hz:A3 c=0:=by rw [B0,A5 e6,A5 e7,A5 e8,A5 e9,A5 e10]
 have hfl:=FJ hw hz
 have ar:=YV (fu:=fu) (d:=d) hfu (vs:=(Vd c).map fun x=>[x]) (by
  intro v hv;obtain ⟨x,hx,rfl⟩:=List.mem_map.1 hv;exact ⟨Ac5 (hfl x hx),by simp⟩) (by simp [Vd]) (Xs hw hz) (by simp [Vd])
 have en:=VY (fu:=fu) (d:=d+1) hfu (l:=A7 c) (by simp [A7]) (by simp [A7];omega) (Xs hw hz) (fun x hx=>(Zd hw hz x hx).1) (Nat.le_trans (I0 hz) (by omega))
 have ar':Ad C0 Tryz.prog fu (d+6) Sd [.lst false 1 9 [.lst false 3 1 (Cd [⟨4,0,c.subj⟩]),.lst false 3 1 (Cd [⟨4,0,c.iss⟩]),.lst false 3 1 (Cd [⟨1,c.serial,F2⟩]),.lst false 3 1 (Cd [⟨3,0,B8 (Ie c.key)⟩]),.lst false 3 1 (Cd [⟨1,c.fr,F2⟩]),.lst false 3 1 (Cd [⟨1,c.un,F2⟩]),.lst false 3 1 (Cd [⟨7,(if c.auth=true then 1 else 0),F2⟩]),.lst false 3 1 (Cd [⟨1,c.path,F2⟩]),.lst false 3 1 (Cd [⟨1,c.model,F2⟩])]]=some ⟨[.own 3 10 (Cd (A7 c)),.sc (.int .i64 0)],[]⟩:=ar
 have en':Ad C0 Tryz.prog fu (d+1+5) Qp [.lst false 3 10 (Cd (A7 c))]=some ⟨[.own 1 (Be (A7 c)).length (Af .u8 (Be (A7 c))),.sc (.int .i64 0)],[]⟩:=en;clear ar en hfl;have t1:=UI (fu:=fu) (d:=d+5) c.subj;have t2:=UI (fu:=fu) (d:=d+5) c.iss;have u1:=Vi (fu:=fu) (d:=d+5) c.serial;have u2:=Vi (fu:=fu) (d:=d+5) c.fr;have u3:=Vi (fu:=fu) (d:=d+5) c.un;have u4:=Vi (fu:=fu) (d:=d+5) c.path;have u5:=Vi (fu:=fu) (d:=d+5) c.model;have bo:=Afb (fu:=fu) (d:=d+5) c.auth;have by_:=Ac9 (fu:=fu) (d:=d+5) (Ie c.key);have k9:(Ie c.key).length=9:=rfl;rw [k9] at by_;have L9:=Aj .u8 (Ie c.key);rw [k9] at L9;have tk9:List.take 9 (Af .u8 (Ie c.key))=Af .u8 (Ie c.key):=R6 (by omega)
 have wf:wrap .u64 c.fr=c.fr:=Ci (by omega) (by omega)
 have wu:wrap .u64 c.un=c.un:=Ci (by omega) (by omega)
 have wp:wrap .u64 c.path=c.path:=Ci (by omega) (by omega)
 have R:Fo c=[.own 1 (Be (A7 c)).length (Af .u8 (Be (A7 c))),.sc (.int .i64 0)]:=by unfold Fo;rw [hz,B4 rfl]
 have LB:=Aj .u8 (Be (A7 c));have tB:=I1 .u8 (Be (A7 c));rw [R];generalize Be (A7 c)=W at en' LB tB ⊢;have LI:(Cd (A7 c)).length=30:=rfl;have tI:List.take 30 (Cd (A7 c))=Cd (A7 c):=rfl;generalize Cd (A7 c)=I at ar' en' LI tI;have K:∀x:It,List.take 3 (Cd [x])=Cd [x]:=fun _=>rfl
 have N:∀x:It,(Cd [x]).length=3:=fun _=>rfl
 have K1:=K ⟨4,0,c.subj⟩;have K2:=K ⟨4,0,c.iss⟩;have K3:=K ⟨1,c.serial,F2⟩;have K4:=K ⟨3,0,B8 (Ie c.key)⟩;have K5:=K ⟨1,c.fr,F2⟩;have K6:=K ⟨1,c.un,F2⟩;have K7:=K ⟨7,(if c.auth=true then 1 else 0),F2⟩
 have K8:=K ⟨1,c.path,F2⟩;have K9:=K ⟨1,c.model,F2⟩;have N1:=N ⟨4,0,c.subj⟩;have N2:=N ⟨4,0,c.iss⟩;have N3:=N ⟨1,c.serial,F2⟩;have N4:=N ⟨3,0,B8 (Ie c.key)⟩;have N5:=N ⟨1,c.fr,F2⟩;have N6:=N ⟨1,c.un,F2⟩;have N7:=N ⟨7,(if c.auth=true then 1 else 0),F2⟩
 have N8:=N ⟨1,c.path,F2⟩;have N9:=N ⟨1,c.model,F2⟩;generalize Cd [⟨4,0,c.subj⟩]=T1 at *
 generalize Cd [⟨4,0,c.iss⟩]=T2 at *
 generalize Cd [⟨1,c.serial,F2⟩]=T3 at *
 generalize Cd [⟨3,0,B8 (Ie c.key)⟩]=T4 at *
 generalize Cd [⟨1,c.fr,F2⟩]=T5 at *
 generalize Cd [⟨1,c.un,F2⟩]=T6 at *
 generalize Cd [⟨7,(if c.auth=true then 1 else 0),F2⟩]=T7 at *
 generalize Cd [⟨1,c.path,F2⟩]=T8 at *
 generalize Cd [⟨1,c.model,F2⟩]=T9 at *
 generalize Af .u8 (Ie c.key)=KB at *
 by_cases ep:c.path=0
 ·have ep':(c.path != 0)=false:=by simp [ep]
  try unfold Aa
  repeat first
   |((with_reducible first|apply Ay|apply Ao|apply Az|apply A6|apply Ba|apply Bf|apply Cz|apply Am);· first|with_reducible rfl|(simp (disch:=omega) only [v1,v2,ek,e00,ep',t1,t2,u1,u2,u3,u4,u5,bo,by_,wf,wu,wp,L9,tk9,K1,K2,K3,K4,K5,K6,K7,K8,K9,N1,N2,N3,N4,N5,N6,N7,N8,N9,C3,Nat.one_mul,Cb,Nat.reduceMul,El,ar',LI,tI,en',LB,tB,C8,Dl]<;>with_reducible rfl))
   |((with_reducible first|apply Aw|apply Av);· first|with_reducible rfl|omega|(simp (disch:=omega) only [gT,v1,v2,ek,e00,ep',t1,t2,u1,u2,u3,u4,u5,bo,by_,wf,wu,wp,L9,tk9,K1,K2,K3,K4,K5,K6,K7,K8,K9,N1,N2,N3,N4,N5,N6,N7,N8,N9,C3,Nat.one_mul,Cb,Nat.reduceMul,El,ar',LI,tI,en',LB,tB,C8,Dl]<;>omega))
   |(with_reducible apply Ax;· first|with_reducible rfl|(simp (disch:=omega) only [gF,v1,v2,ek,e00,ep',t1,t2,u1,u2,u3,u4,u5,bo,by_,wf,wu,wp,L9,tk9,K1,K2,K3,K4,K5,K6,K7,K8,K9,N1,N2,N3,N4,N5,N6,N7,N8,N9,C3,Nat.one_mul,Cb,Nat.reduceMul,El,ar',LI,tI,en',LB,tB,C8,Dl]<;>omega))
  try simp (disch:=omega) only [v1,v2,ek,e00,ep',t1,t2,u1,u2,u3,u4,u5,bo,by_,wf,wu,wp,L9,tk9,K1,K2,K3,K4,K5,K6,K7,K8,K9,N1,N2,N3,N4,N5,N6,N7,N8,N9,C3,Nat.one_mul,Cb,Nat.reduceMul,El,ar',LI,tI,en',LB,tB,C8,Dl]
 ·have ea:c.auth=true:=by
   cases h:c.auth
   ·exact absurd ⟨ep,h⟩ e10
   ·rfl
  have ep':(c.path != 0)=true:=by simp [ep]
  rw [ea] at bo
  try unfold Aa
  repeat first
   |((with_reducible first|apply Ay|apply Ao|apply Az|apply A6|apply Ba|apply Bf|apply Cz|apply Am);· first|with_reducible rfl|(simp (disch:=omega) only [v1,v2,ek,e00,ep',ea,t1,t2,u1,u2,u3,u4,u5,bo,by_,wf,wu,wp,L9,tk9,K1,K2,K3,K4,K5,K6,K7,K8,K9,N1,N2,N3,N4,N5,N6,N7,N8,N9,C3,Nat.one_mul,Cb,Nat.reduceMul,El,ar',LI,tI,en',LB,tB,C8,Dl]<;>with_reducible rfl))
   |((with_reducible first|apply Aw|apply Av);· first|with_reducible rfl|omega|(simp (disch:=omega) only [gT,v1,v2,ek,e00,ep',ea,t1,t2,u1,u2,u3,u4,u5,bo,by_,wf,wu,wp,L9,tk9,K1,K2,K3,K4,K5,K6,K7,K8,K9,N1,N2,N3,N4,N5,N6,N7,N8,N9,C3,Nat.one_mul,Cb,Nat.reduceMul,El,ar',LI,tI,en',LB,tB,C8,Dl]<;>omega))
   |(with_reducible apply Ax;· first|with_reducible rfl|(simp (disch:=omega) only [gF,v1,v2,ek,e00,ep',ea,t1,t2,u1,u2,u3,u4,u5,bo,by_,wf,wu,wp,L9,tk9,K1,K2,K3,K4,K5,K6,K7,K8,K9,N1,N2,N3,N4,N5,N6,N7,N8,N9,C3,Nat.one_mul,Cb,Nat.reduceMul,El,ar',LI,tI,en',LB,tB,C8,Dl]<;>omega))
  try simp (disch:=omega) only [v1,v2,ek,e00,ep',ea,t1,t2,u1,u2,u3,u4,u5,bo,by_,wf,wu,wp,L9,tk9,K1,K2,K3,K4,K5,K6,K7,K8,K9,N1,N2,N3,N4,N5,N6,N7,N8,N9,C3,Nat.one_mul,Cb,Nat.reduceMul,El,ar',LI,tI,en',LB,tB,C8,Dl]
theorem Aat (hfu:1000<=fu){c:Ce}(hw:c.wf)(hs1:c.subj.size<=9223372036854775807)(hs2:c.iss.size<=9223372036854775807)(nn:Nat)(hn:3<=nn):
  Ev fu (Ad C0 Tryz.prog fu (d+6)) c.subj c.iss c.serial c.key.h c.key.root c.fr c.un c.auth c.path c.model c.sig.leaf c.sig.chains.length (Af .u64 c.sig.chains) c.sig.path.length (Af .u64 c.sig.path) nn c.subj c.iss 0 c.subj c.iss c.serial c.key.h c.key.root c.fr c.un c.auth c.path c.model c.sig.leaf c.sig.chains.length (Af .u64 c.sig.chains) c.sig.path.length (Af .u64 c.sig.path)=some ⟨Fo c,[]⟩:=by
 obtain ⟨m,rfl⟩:∃m,nn=m+1+1+1:=⟨nn-3,by omega⟩
 have g0:List.getD [PV.sc (Value.string c.subj),PV.sc (Value.string c.iss)] (Int.toNat (0:Int)*1) PV.top=.sc (.string c.subj):=rfl;have g1:List.getD [PV.sc (Value.string c.subj),PV.sc (Value.string c.iss)] (Int.toNat (1:Int)*1) PV.top=.sc (.string c.iss):=rfl;have i1:wrap .i64 ((0:Int)+1)=1:=rfl;have i2:wrap .i64 ((1:Int)+1)=2:=rfl;by_cases e1:c.subj.size<1∨32<c.subj.size
 ·have hb:A3 c=9:=by unfold A3;rw [B4 e1]
  rw [←Ef hb (by omega),D9]
  by_cases e1':c.subj.size<1
  ·skip
   try unfold Aa
   repeat first
    |((with_reducible first|apply Ay|apply Ao|apply Az|apply A6|apply Ba|apply Bf|apply Cz|apply Am);· first|with_reducible rfl|(simp (disch:=omega) only [g0]<;>with_reducible rfl))
    |((with_reducible first|apply Aw|apply Av);· first|with_reducible rfl|omega|(simp (disch:=omega) only [gT,g0]<;>omega))
    |(with_reducible apply Ax;· first|with_reducible rfl|(simp (disch:=omega) only [gF,g0]<;>omega))
   try simp (disch:=omega) only [g0]
  ·skip
   try unfold Aa
   repeat first
    |((with_reducible first|apply Ay|apply Ao|apply Az|apply A6|apply Ba|apply Bf|apply Cz|apply Am);· first|with_reducible rfl|(simp (disch:=omega) only [g0]<;>with_reducible rfl))
    |((with_reducible first|apply Aw|apply Av);· first|with_reducible rfl|omega|(simp (disch:=omega) only [gT,g0]<;>omega))
    |(with_reducible apply Ax;· first|with_reducible rfl|(simp (disch:=omega) only [gF,g0]<;>omega))
   try simp (disch:=omega) only [g0]
 rw [D9];by_cases e2:c.iss.size<1∨32<c.iss.size
 ·have hb:A3 c=9:=by unfold A3;rw [A5 e1,B4 e2]
  rw [←Ef hb (by omega)]
  try unfold Aa
  repeat first
   |((with_reducible first|apply Ay|apply Ao|apply Az|apply A6|apply Ba|apply Bf|apply Cz|apply Am);· first|with_reducible rfl|(simp (disch:=omega) only [g0,i1]<;>with_reducible rfl))
   |((with_reducible first|apply Aw|apply Av);· first|with_reducible rfl|omega|(simp (disch:=omega) only [gT,g0,i1]<;>omega))
   |(with_reducible apply Ax;· first|with_reducible rfl|(simp (disch:=omega) only [gF,g0,i1]<;>omega))
  try simp (disch:=omega) only [g0,i1]
  rw [D9];by_cases e2':c.iss.size<1
  ·skip
   try unfold Aa
   repeat first
    |((with_reducible first|apply Ay|apply Ao|apply Az|apply A6|apply Ba|apply Bf|apply Cz|apply Am);· first|with_reducible rfl|(simp (disch:=omega) only [g1]<;>with_reducible rfl))
    |((with_reducible first|apply Aw|apply Av);· first|with_reducible rfl|omega|(simp (disch:=omega) only [gT,g1]<;>omega))
    |(with_reducible apply Ax;· first|with_reducible rfl|(simp (disch:=omega) only [gF,g1]<;>omega))
   try simp (disch:=omega) only [g1]
  ·skip
   try unfold Aa
   repeat first
    |((with_reducible first|apply Ay|apply Ao|apply Az|apply A6|apply Ba|apply Bf|apply Cz|apply Am);· first|with_reducible rfl|(simp (disch:=omega) only [g1]<;>with_reducible rfl))
    |((with_reducible first|apply Aw|apply Av);· first|with_reducible rfl|omega|(simp (disch:=omega) only [gT,g1]<;>omega))
    |(with_reducible apply Ax;· first|with_reducible rfl|(simp (disch:=omega) only [gF,g1]<;>omega))
   try simp (disch:=omega) only [g1]
 try unfold Aa
 repeat first
  |((with_reducible first|apply Ay|apply Ao|apply Az|apply A6|apply Ba|apply Bf|apply Cz|apply Am);· first|with_reducible rfl|(simp (disch:=omega) only [g0,i1]<;>with_reducible rfl))
  |((with_reducible first|apply Aw|apply Av);· first|with_reducible rfl|omega|(simp (disch:=omega) only [gT,g0,i1]<;>omega))
  |(with_reducible apply Ax;· first|with_reducible rfl|(simp (disch:=omega) only [gF,g0,i1]<;>omega))
 try simp (disch:=omega) only [g0,i1]
 rw [D9]
 try unfold Aa
 repeat first
  |((with_reducible first|apply Ay|apply Ao|apply Az|apply A6|apply Ba|apply Bf|apply Cz|apply Am);· first|with_reducible rfl|(simp (disch:=omega) only [g1,i2]<;>with_reducible rfl))
  |((with_reducible first|apply Aw|apply Av);· first|with_reducible rfl|omega|(simp (disch:=omega) only [gT,g1,i2]<;>omega))
  |(with_reducible apply Ax;· first|with_reducible rfl|(simp (disch:=omega) only [gF,g1,i2]<;>omega))
 try simp (disch:=omega) only [g1,i2]
 exact XZ hfu hw hs1 hs2 e1 e2 m
theorem Z9 (hfu:1000<=fu){c:Ce}(hw:c.wf)(hs1:c.subj.size<=9223372036854775807)(hs2:c.iss.size<=9223372036854775807):Ad C0 Tryz.prog fu (d+7) Ol [.agg c.cells]=some ⟨Fo c,[]⟩:=
 (Xp fu (d+6) c.subj c.iss c.serial c.key.h c.key.root c.fr c.un c.auth c.path c.model c.sig.leaf c.sig.chains.length (Af .u64 c.sig.chains) c.sig.path.length (Af .u64 c.sig.path)).trans (Aat hfu hw hs1 hs2 fu (by omega))
end
end
section
open Go.IntKind (wrap)
def GZ (c:Ce):List PV:=if A3 c=0 then [.sc (.int .u64 (Lu c)),.sc (.int .i64 0)] else [.sc (.int .u64 0),.sc (.int .i64 (A3 c))]
section
variable {fu d:Nat} {c:Ce}
theorem UQ (hfu:1000<=fu)(hw:c.wf)(hs1:c.subj.size<=9223372036854775807)(hs2:c.iss.size<=9223372036854775807):Ad C0 Tryz.prog fu (d+8) Ot [.agg c.cells]=some ⟨GZ c,[]⟩:=by
 refine (X1 fu (d+7) c.subj c.iss c.serial c.key.h c.key.root c.fr c.un c.auth c.path c.model c.sig.leaf c.sig.chains.length (Af .u64 c.sig.chains) c.sig.path.length (Af .u64 c.sig.path)).trans ?_;have bq:=Z9 (fu:=fu) (d:=d) hfu hw hs1 hs2;simp only [Ce.cells] at bq;unfold Fo at bq;unfold GZ;by_cases h0:A3 c=0
 ·have lb:=I0 h0;rw [B4 h0] at bq;rw [B4 h0];have e00:((0:Int) != 0)=false:=rfl;have hh:=Abx (xs:=Is) (fu:=fu) (d:=d+2) (CK hw h0) (by omega) (by omega) (by omega) 14
  have eW:M1 14 (Be (A7 c))=Lu c:=rfl;rw [eW] at hh;have L1:=Aj .u8 (Be (A7 c));have t1:=I1 .u8 (Be (A7 c));generalize (Be (A7 c)).length=n1 at *
  generalize Af .u8 (Be (A7 c))=c1 at *
  try unfold Aa
  repeat first
   |((with_reducible first|apply Ay|apply Ao|apply Az|apply Bf|apply Am);· first|with_reducible rfl|(simp (disch:=omega) only [bq,e00,Cb,C3,El,L1,t1,hh]<;>with_reducible rfl))
   |((with_reducible first|apply Aw|apply Av);· first|with_reducible rfl|omega|(simp (disch:=omega) only [gT,bq,e00,Cb,C3,El,L1,t1,hh]<;>omega))
   |(with_reducible apply Ax;· first|with_reducible rfl|(simp (disch:=omega) only [gF,bq,e00,Cb,C3,El,L1,t1,hh]<;>omega))
  try simp (disch:=omega) only [bq,e00,Cb,C3,El,L1,t1,hh]
  all_goals rfl
 ·have hne:(A3 c != 0)=true:=by simp [h0]
  rw [A5 h0] at bq;rw [A5 h0]
  try unfold Aa
  repeat first
   |((with_reducible first|apply Ay|apply Ao|apply Az|apply Bf|apply Am);· first|with_reducible rfl|(simp (disch:=omega) only [bq,hne]<;>with_reducible rfl))
   |((with_reducible first|apply Aw|apply Av);· first|with_reducible rfl|omega|(simp (disch:=omega) only [gT,bq,hne]<;>omega))
   |(with_reducible apply Ax;· first|with_reducible rfl|(simp (disch:=omega) only [gF,bq,hne]<;>omega))
  try simp (disch:=omega) only [bq,hne]
  all_goals rfl
theorem VI (hfu:1000<=fu)(hw:c.wf)(hs1:c.subj.size<=9223372036854775807)(hs2:c.iss.size<=9223372036854775807)(k:Ky):Ad C0 Tryz.prog fu (d+9) L5 [.agg c.cells,.agg k.cells]=some ⟨[.sc (.int .i64 (DJ c k))],[]⟩:=by
 refine (Vk fu (d+8) c.subj c.iss c.serial c.key.h c.key.root c.fr c.un c.auth c.path c.model c.sig.leaf c.sig.chains.length (Af .u64 c.sig.chains) c.sig.path.length (Af .u64 c.sig.path) k.h k.root).trans ?_;have bq:=UQ (fu:=fu) (d:=d) hfu hw hs1 hs2;simp only [Ce.cells] at bq;unfold GZ at bq;unfold DJ;by_cases h0:A3 c=0
 ·rw [B4 h0] at bq;rw [B4 h0];have e00:((0:Int) != 0)=false:=rfl;have vr:=Aep (xs:=Is) (fu:=fu) (d:=d) hfu k (Lu c) c.sig;simp only [Ky.cells,Sg.cells] at vr
  try unfold Aa
  repeat first
   |((with_reducible first|apply Ay|apply Ao|apply Az|apply Bf|apply Am);· first|with_reducible rfl|(simp (disch:=omega) only [bq,e00,vr]<;>with_reducible rfl))
   |((with_reducible first|apply Aw|apply Av);· first|with_reducible rfl|omega|(simp (disch:=omega) only [gT,bq,e00,vr]<;>omega))
   |(with_reducible apply Ax;· first|with_reducible rfl|(simp (disch:=omega) only [gF,bq,e00,vr]<;>omega))
  try simp (disch:=omega) only [bq,e00,vr]
  all_goals rfl
 ·have hne:(A3 c != 0)=true:=by simp [h0]
  rw [A5 h0] at bq;rw [A5 h0]
  try unfold Aa
  repeat first
   |((with_reducible first|apply Ay|apply Ao|apply Az|apply Bf|apply Am);· first|with_reducible rfl|(simp (disch:=omega) only [bq,hne]<;>with_reducible rfl))
   |((with_reducible first|apply Aw|apply Av);· first|with_reducible rfl|omega|(simp (disch:=omega) only [gT,bq,hne]<;>omega))
   |(with_reducible apply Ax;· first|with_reducible rfl|(simp (disch:=omega) only [gF,bq,hne]<;>omega))
  try simp (disch:=omega) only [bq,hne]
  all_goals rfl
theorem SI (hfu:1000<=fu)(hw:c.wf)(hs1:c.subj.size<=9223372036854775807)(hs2:c.iss.size<=9223372036854775807)(hp:c.sig.path.length<=1000000000)(hf:c.sig.path.length<fu):Ad C0 Tryz.prog fu (d+8) Lx [.agg c.cells]=some ⟨U7 c,[]⟩:=by
 refine (Ug fu (d+7) c.subj c.iss c.serial c.key.h c.key.root c.fr c.un c.auth c.path c.model c.sig.leaf c.sig.chains.length (Af .u64 c.sig.chains) c.sig.path.length (Af .u64 c.sig.path)).trans ?_;have bq:=Z9 (fu:=fu) (d:=d) hfu hw hs1 hs2;simp only [Ce.cells] at bq;have es:=Acq (xs:=Is) (fu:=fu) (d:=d+5) hfu c.sig hp hf;simp only [Sg.cells] at es;unfold Fo at bq;unfold U7 Ek;by_cases h0:A3 c=0
 ·have lb:=I0 h0;rw [B4 h0] at bq;rw [B4 h0];have L1:=Aj .u8 (Be (A7 c));have t1:=I1 .u8 (Be (A7 c));have e00:((0:Int) != 0)=false:=rfl;have e90:((9:Int) != 0)=true:=rfl;have e40:((4:Int) != 0)=true:=rfl;unfold EH;by_cases g1:Cx c.sig.path.length=true
  ·rw [B4 g1] at es;rw [B4 g1,A5 (by omega)]
   try unfold Aa
   repeat first
    |((with_reducible first|apply Ay|apply Ao|apply Az|apply Bf|apply Am);· first|with_reducible rfl|(simp (disch:=omega) only [bq,es,e00,e90]<;>with_reducible rfl))
    |((with_reducible first|apply Aw|apply Av);· first|with_reducible rfl|omega|(simp (disch:=omega) only [gT,bq,es,e00,e90]<;>omega))
    |(with_reducible apply Ax;· first|with_reducible rfl|(simp (disch:=omega) only [gF,bq,es,e00,e90]<;>omega))
   try simp (disch:=omega) only [bq,es,e00,e90]
   all_goals rfl
  rw [A5 g1] at es;rw [A5 g1];by_cases g2:Hb c.sig.leaf c.sig.path.length=true
  ·rw [B4 g2] at es;rw [B4 g2,A5 (by omega)]
   try unfold Aa
   repeat first
    |((with_reducible first|apply Ay|apply Ao|apply Az|apply Bf|apply Am);· first|with_reducible rfl|(simp (disch:=omega) only [bq,es,e00,e90]<;>with_reducible rfl))
    |((with_reducible first|apply Aw|apply Av);· first|with_reducible rfl|omega|(simp (disch:=omega) only [gT,bq,es,e00,e90]<;>omega))
    |(with_reducible apply Ax;· first|with_reducible rfl|(simp (disch:=omega) only [gF,bq,es,e00,e90]<;>omega))
   try simp (disch:=omega) only [bq,es,e00,e90]
   all_goals rfl
  rw [A5 g2] at es;rw [A5 g2];by_cases g3:c.sig.chains.length≠18
  ·rw [B4 g3] at es;rw [B4 g3,A5 (by omega)]
   try unfold Aa
   repeat first
    |((with_reducible first|apply Ay|apply Ao|apply Az|apply Bf|apply Am);· first|with_reducible rfl|(simp (disch:=omega) only [bq,es,e00,e40]<;>with_reducible rfl))
    |((with_reducible first|apply Aw|apply Av);· first|with_reducible rfl|omega|(simp (disch:=omega) only [gT,bq,es,e00,e40]<;>omega))
    |(with_reducible apply Ax;· first|with_reducible rfl|(simp (disch:=omega) only [gF,bq,es,e00,e40]<;>omega))
   try simp (disch:=omega) only [bq,es,e00,e40]
   all_goals rfl
  rw [A5 g3] at es;rw [A5 g3,B4 rfl];have hb4:=G8 (h:=c.sig.path.length) (by simpa using g1)
  have ls:(Qv c.sig).length=2+8*c.sig.chains.length+8*c.sig.path.length:=by
   unfold Qv;simp only [Jz,I9,Cq];omega
  have L2:=Aj .u8 (Qv c.sig);have t2:=I1 .u8 (Qv c.sig)
  have ea:Af .u8 (Be (A7 c))++Af .u8 (Qv c.sig)=Af .u8 (Fz c):=by
   unfold Fz;rw [Af,Af,Af,List.flatMap_append]
  have le:(Fz c).length=(Be (A7 c)).length+(Qv c.sig).length:=by unfold Fz;rw [I9]
  have L3:=Aj .u8 (Fz c);have t3:List.take ((Be (A7 c)).length+(Qv c.sig).length) (Af .u8 (Fz c))=Af .u8 (Fz c):=R6 (by omega)
  rw [le] at L3 ⊢;generalize (Be (A7 c)).length=n1 at *
  generalize (Qv c.sig).length=n2 at *
  generalize Af .u8 (Be (A7 c))=c1 at *
  generalize Af .u8 (Qv c.sig)=c2 at *
  try unfold Aa
  repeat first
   |((with_reducible first|apply Ay|apply Ao|apply Az|apply Bf|apply Am);· first|with_reducible rfl|(simp (disch:=omega) only [bq,es,e00,Cb,C3,El,L1,t1,L2,t2,ea,L3,t3]<;>with_reducible rfl))
   |((with_reducible first|apply Aw|apply Av);· first|with_reducible rfl|omega|(simp (disch:=omega) only [gT,bq,es,e00,Cb,C3,El,L1,t1,L2,t2,ea,L3,t3]<;>omega))
   |(with_reducible apply Ax;· first|with_reducible rfl|(simp (disch:=omega) only [gF,bq,es,e00,Cb,C3,El,L1,t1,L2,t2,ea,L3,t3]<;>omega))
  try simp (disch:=omega) only [bq,es,e00,Cb,C3,El,L1,t1,L2,t2,ea,L3,t3]
  all_goals rfl
 ·have hne:(A3 c != 0)=true:=by simp [h0]
  rw [A5 h0] at bq;rw [A5 h0,A5 h0]
  try unfold Aa
  repeat first
   |((with_reducible first|apply Ay|apply Ao|apply Az|apply Bf|apply Am);· first|with_reducible rfl|(simp (disch:=omega) only [bq,hne]<;>with_reducible rfl))
   |((with_reducible first|apply Aw|apply Av);· first|with_reducible rfl|omega|(simp (disch:=omega) only [gT,bq,hne]<;>omega))
   |(with_reducible apply Ax;· first|with_reducible rfl|(simp (disch:=omega) only [gF,bq,hne]<;>omega))
  try simp (disch:=omega) only [bq,hne]
  all_goals rfl
end
end
section
open Go.IntKind (wrap)
theorem aci {its:List It}{i:Nat}{x:It}(h:its[i]?=some x):(Cd its).getD (i*3) .top=.sc (.int .i64 x.k)∧(Cd its).getD (i*3+1) .top=.sc (.int .u64 x.n)∧(Cd its).getD (i*3+2) .top=.sc (.string x.s):=
 ⟨D1 It.cells_len h (j:=0) (by omega),D1 It.cells_len h (j:=1) (by omega),D1 It.cells_len h (j:=2) (by omega)⟩
def Mr:List Int:=[5,4,4,1,3,1,1,7,1,1]
def Sh (its:List It):Bool:=its.map (·.k)==Mr
section
variable {fu d:Nat}
theorem EX {call:Ai}{a0n:Nat}{a0:List PV}{its:List It}(h10:its.length=10):∀(r:List It)(rk:List Int)(i nn:Nat),its.drop i=r->Mr.drop i=rk->r.length<nn->i<=10 ->
  Fi fu call a0n a0 nn its.length (Cd its) (its.length:Int) (i:Int) (Af .i64 Mr)=some ⟨[.sc (.bool (r.map (·.k)==rk))],[]⟩
 |_,_,_,0,_,_,h,_=>by omega
 |[],rk,i,nn+1,h,hk,hn,hi=>by
  have:=drop_nil h;obtain rfl:i=10:=by omega
  subst hk;rw [Iw,Do _ _ _ (by omega)]
  rfl
 |x::r,rk,i,nn+1,h,hk,hn,hi=>by
  obtain ⟨h1,h2,h3⟩:=Cm h;simp only [Jz] at hn;obtain ⟨k,hk1⟩:∃k,Mr[i]?=some k:=⟨_,List.getElem?_eq_getElem (by show i<10;omega)⟩
  have hk2:rk=k::Mr.drop (i+1):=by
   rw [←hk,List.drop_eq_getElem_cons (by show i<10;omega)]
   congr 1
   rw [List.getElem?_eq_getElem (by show i<10;omega)] at hk1
   injection hk1
  subst hk2;have w:wrap .i64 ((i:Int)+1)=((i+1:Nat):Int):=by rw [Ak (by omega) (by omega)];omega
  obtain ⟨c0,c1,c2⟩:=aci h2;have ck:=W5 (k:=.i64) hk1;have ih:=EX (call:=call) (a0n:=a0n) (a0:=a0) h10 r _ (i+1) nn h3 rfl (by omega) (by omega)
  rw [Iw,Zzw];by_cases e:x.k=k
  ·have b0:(x.k != k)=false:=by simp [e]
   have e1:(x.k::List.map (·.k) r==k::Mr.drop (i+1))=(List.map (·.k) r==Mr.drop (i+1)):=by simp [e]
   rw [e1,←ih];simp (disch:=omega) only [Bv,H3,Cb,C3,c0,c1,c2,ck,b0,w]
  ·have b0:(x.k != k)=true:=by simp [e]
   have e1:(x.k::List.map (·.k) r==k::Mr.drop (i+1))=false:=by simp [e]
   rw [e1];simp (disch:=omega) only [Bv,H3,Cb,C3,c0,c1,c2,ck,b0,w]
theorem Adg (hfu:1000<=fu)(its:List It):Ad C0 Tryz.prog fu (d+1) L6 [.lst false 3 its.length (Cd its)]=some ⟨[.sc (.bool (Sh its))],[]⟩:=by
 rw [Uw];show G2 _ _ _ _ _ _ _=_;rw [Q9 (hnn:=by omega),Rq (hnn:=by omega)]
 by_cases h:its.length=10
 ·have b0:((its.length:Int) != 10)=false:=by simp;omega
  rw [b0,YK];exact EX (call:=Ad C0 Tryz.prog fu d) h its Mr 0 fu rfl rfl (by omega) (by omega)
 ·have b0:((its.length:Int) != 10)=true:=by simp;omega
  have e:Sh its=false:=by
   unfold Sh;cases q:(its.map (·.k)==Mr)
   ·rfl
   ·have:=congrArg List.length (eq_of_beq q);simp [Mr] at this;omega
  rw [b0,ZM,e]
theorem XT {a b:List Int}(ha:Jv a)(hb:Jv b)(h:(a.map fun n=>n.toNat.toUInt8)=(b.map fun n=>n.toNat.toUInt8)):a=b:=by
 have e:B8 a=B8 b:=by unfold B8;rw [h]
 rw [←Nk ha,←Nk hb,e]
theorem Arv {a b:List Int}(ha:Jv a)(hb:Jv b):(Array.toList (ByteArray.data (ByteArray.mk (List.toArray (a.map fun n=>n.toNat.toUInt8))))==Array.toList (ByteArray.data (ByteArray.mk (List.toArray (b.map fun n=>n.toNat.toUInt8)))))=decide (a=b):=by
 by_cases h:a=b
 ·subst h;simp
 ·have:(List.map (fun n=>n.toNat.toUInt8) a)≠(List.map (fun n=>n.toNat.toUInt8) b):=fun e=>h (XT ha hb e)
  simp only [h,decide_false]
  simpa using this
theorem NG {a b:List Int}(ha:Jv a)(hb:Jv b):Ad C0 Tryz.prog fu (d+1) Xa [.lst false 1 a.length (Af .u8 a),.lst false 1 b.length (Af .u8 b)]=some ⟨[.sc (.bool (decide (a=b)))],[]⟩:=by
 rw [NJ];have La:=Aj .u8 a;have Lb:=Aj .u8 b;have ba:=E1 a;have bb:=E1 b;have q:=Arv ha hb;simp (disch:=omega) only [Bv,La,Lb,ba,bb,q]
end
structure Ce.ok (c:Ce):Prop where
 ser:isU c.serial
 mod:isU c.model
 root:isU c.key.root
 sg:c.sig.ok
theorem Ce.ok.wf {c:Ce}(h:c.ok):c.wf:=⟨h.ser.1,h.mod.1⟩
def Mz (x1 x2 x3 x5 x6 x7 x8 x9:It)(k:Ky)(s:Sg):Ce:=⟨x1.s,x2.s,x3.n,k,wrap .i64 x5.n,wrap .i64 x6.n,x7.n==1,wrap .i64 x8.n,x9.n,s⟩
def NR (b:List Int):Option Ce:=
 if (I6 1000 [] 0 b 0 []).2.2≠0 then none else
 match (I6 1000 [] 0 b 0 []).1 with
 |[_,x1,x2,x3,x4,x5,x6,x7,x8,x9]=>(match LW (H9 x4.s),sgD (b.drop (I6 1000 [] 0 b 0 []).2.1) with|some k,some s=>some (Mz x1 x2 x3 x5 x6 x7 x8 x9 k s)|_,_=>none)
 |_=>none
def RP (b:List Int):Ce × Int:=
 if b.length>512 then (RT,8) else match NR b with|some c=>if Ek c=0∧Fz c=b∧c.serial<=18446744073709551615∧c.model<=18446744073709551615 then (c,0) else (RT,2)|none=>(RT,2)
theorem R2 {c:Ce}(h:Ek c=0):A3 c=0∧Cx c.key.h=false∧Cx c.sig.path.length=false∧Hb c.sig.leaf c.sig.path.length=false∧c.sig.chains.length=18∧0<=c.fr∧c.fr<=c.un∧c.un<=1099511627776∧0<=c.path∧c.path<=2:=by
 unfold Ek at h;by_cases h0:A3 c=0
 rotate_left
 ·rw [A5 h0] at h;exact absurd h h0
 rw [B4 h0] at h;unfold EH at h;have hb:=h0;unfold A3 at hb
 repeat' (split at h;· cases h)
 repeat' (split at hb;· cases hb)
 refine ⟨h0,by simp_all,by simp_all,by simp_all,by omega,by omega,by omega,by omega,by omega,by omega⟩
theorem XE {c:Ce}(hc:c.ok)(h:Ek c=0){m:Nat}(hm:10<m):I6 m [] 0 (Fz c) 0 []=(A7 c,(Be (A7 c)).length,0):=by
 obtain ⟨h0,h1,h2,h3,h4,h5,h6,h7,h8,h9⟩:=R2 h
 have r:=PY (b:=Fz c) (rest:=Qv c.sig) (A7 c) [] 0 0 m [] (Xs hc.wf h0) (by
  intro x hx;have u1:=hc.ser;have u2:=hc.mod;simp only [A7,List.mem_cons,List.not_mem_nil,or_false] at hx;rcases hx with rfl|rfl|rfl|rfl|rfl|rfl|rfl|rfl|rfl|rfl
  all_goals simp only
  all_goals try split
  all_goals omega) rfl (by simpa [A7] using hm)
 simpa using r
theorem LP {c:Ce}(h:Ek c=0):Mz ⟨4,0,c.subj⟩ ⟨4,0,c.iss⟩ ⟨1,c.serial,F2⟩ ⟨1,c.fr,F2⟩ ⟨1,c.un,F2⟩ ⟨7,(if c.auth=true then 1 else 0),F2⟩ ⟨1,c.path,F2⟩ ⟨1,c.model,F2⟩ c.key c.sig=c:=by
 obtain ⟨h0,h1,h2,h3,h4,h5,h6,h7,h8,h9⟩:=R2 h;obtain ⟨subj,iss,serial,key,fr,un,auth,path,model,sig⟩:=c;simp only at *
 unfold Mz;simp only;rw [Ak (by omega) (by omega),Ak (by omega) (by omega),Ak (by omega) (by omega)]
 cases auth<;>rfl
theorem HT {c:Ce}(h:Ek c=0):(Fz c).length<=400:=by
 obtain ⟨h0,h1,h2,h3,h4,h5,h6,h7,h8,h9⟩:=R2 h;have:=I0 h0;have hb:=G8 h2;unfold Fz Qv;simp only [I9,Jz,Cq];omega
theorem Afq {c:Ce}(hw:c.wf)(h:Ek c=0):Jv (Fz c):=by
 intro x hx;rcases List.mem_append.1 hx with hx|hx
 ·exact CK hw (R2 h).1 x hx
 ·exact Aom _ x hx
theorem Af6 {c:Ce}(hc:c.ok)(h:Ek c=0):LW (H9 (B8 (Ie c.key)))=some c.key:=by
 rw [Nk Aml];exact Aea (R2 h).2.1 hc.root
theorem Ala {c:Ce}(hc:c.ok)(h:Ek c=0):sgD ((Fz c).drop (Be (A7 c)).length)=some c.sig:=by
 obtain ⟨h0,h1,h2,h3,h4,h5,h6,h7,h8,h9⟩:=R2 h;unfold Fz;rw [List.drop_left' rfl];exact Ajs hc.sg h2 h3 h4
theorem VQ {c:Ce}(hc:c.ok)(h:Ek c=0):RP (Fz c)=(c,0):=by
 have r:=XE hc h (m:=1000) (by omega)
 have k:=Af6 hc h;have s:=Ala hc h;have cs:=LP h;have l:=HT h;have u1:=hc.ser;have u2:=hc.mod
 have:NR (Fz c)=some c:=by
  unfold NR;rw [r];simp only [A7];simp only [A7] at s;rw [A5 (by simp),k,s]
  simp only [cs]
 unfold RP;rw [A5 (by omega),this]
 simp only;rw [B4 ⟨h,by trivial,u1.2,u2.2⟩]
theorem JE {x1 x2 x3 x5 x6 x7 x8 x9:It}{k:Ky}{s:Sg}(h3:OkX x3)(h9:OkX x9)(hk:isU k.root)(hs:s.ok):(Mz x1 x2 x3 x5 x6 x7 x8 x9 k s).ok:=⟨⟨h3.n0,h3.n1⟩,⟨h9.n0,h9.n1⟩,hk,hs⟩
theorem Agq {b:List Int}(hb:Jv b){c:Ce}(h:NR b=some c):c.ok:=by
 have ok:=(BM hb 1000 [] 0 0 [] (by omega) (by simp)).2
 unfold NR at h;split at h
 ·cases h
 ·split at h
  ·rename_i e;rw [e] at ok;split at h
   ·rename_i hk hs;cases h;exact JE (ok _ (by simp)) (ok _ (by simp)) (QO hk).2 (YR hs).1
   ·cases h
  ·cases h
theorem Aeg {b:List Int}(hB:Jv b)(hl:b.length<=512)(hn:∀c:Ce,c.ok->Ek c=0->Fz c≠b):RP b=(RT,2):=by
 unfold RP;rw [A5 (by omega)]
 cases h:NR b with
 |none=>rfl
 |some c=>
  simp only;rw [A5];intro ⟨h1,h2,_⟩;exact hn c (Agq hB h) h1 h2
end
section
open Go.IntKind (wrap)
def Aei (b:List Int)(used:Nat):List It->Ce × Int
 |[_,x1,x2,x3,x4,x5,x6,x7,x8,x9]=>(match LW (H9 x4.s),sgD (b.drop used) with
  |some k,some s=>if Ek (Mz x1 x2 x3 x5 x6 x7 x8 x9 k s)=0∧Fz (Mz x1 x2 x3 x5 x6 x7 x8 x9 k s)=b then (Mz x1 x2 x3 x5 x6 x7 x8 x9 k s,0) else (RT,2)
  |_,_=>(RT,2))
 |_=>(RT,2)
def FG (b:List Int)(r:List It × Nat × Int):Ce × Int:=
 if b.length>512 then (RT,8) else if r.2.2≠0 then (RT,2) else if Sh r.1=false then (RT,2) else Aei b r.2.1 r.1
theorem UW {its:List It}(h:Sh its=true):its.length=10:=by
 have:=congrArg List.length (eq_of_beq h)
 simpa [Mr] using this
theorem Afo {its:List It}(h:its.length=10):∃x0 x1 x2 x3 x4 x5 x6 x7 x8 x9,its=[x0,x1,x2,x3,x4,x5,x6,x7,x8,x9]:=by
 match its,h with
 |[x0,x1,x2,x3,x4,x5,x6,x7,x8,x9],_=>exact ⟨x0,x1,x2,x3,x4,x5,x6,x7,x8,x9,rfl⟩
theorem Afz {c:Ce}(hc:c.ok)(h:Ek c=0):Aei (Fz c) (Be (A7 c)).length (A7 c)=(c,0):=by
 have k:=Af6 hc h;have s:=Ala hc h;have cs:=LP h
 have e:Aei (Fz c) (Be (A7 c)).length (A7 c)=(match LW (H9 (B8 (Ie c.key))),sgD ((Fz c).drop (Be (A7 c)).length) with
  |some k,some s=>if Ek (Mz ⟨4,0,c.subj⟩ ⟨4,0,c.iss⟩ ⟨1,c.serial,F2⟩ ⟨1,c.fr,F2⟩ ⟨1,c.un,F2⟩ ⟨7,(if c.auth=true then 1 else 0),F2⟩ ⟨1,c.path,F2⟩ ⟨1,c.model,F2⟩ k s)=0∧Fz (Mz ⟨4,0,c.subj⟩ ⟨4,0,c.iss⟩ ⟨1,c.serial,F2⟩ ⟨1,c.fr,F2⟩ ⟨1,c.un,F2⟩ ⟨7,(if c.auth=true then 1 else 0),F2⟩ ⟨1,c.path,F2⟩ ⟨1,c.model,F2⟩ k s)=Fz c then (Mz ⟨4,0,c.subj⟩ ⟨4,0,c.iss⟩ ⟨1,c.serial,F2⟩ ⟨1,c.fr,F2⟩ ⟨1,c.un,F2⟩ ⟨7,(if c.auth=true then 1 else 0),F2⟩ ⟨1,c.path,F2⟩ ⟨1,c.model,F2⟩ k s,0) else (RT,2)
  |_,_=>(RT,2)):=rfl
 rw [e,k,s];simp only [cs];rw [B4 ⟨h,by trivial⟩]
theorem Ac8 {b:List Int}{used:Nat}{its:List It}(hx:∀x∈its,OkX x)(hn:∀c:Ce,c.ok->Ek c=0->Fz c≠b):Aei b used its=(RT,2):=by
 unfold Aei;split
 ·split
  ·rename_i hk hs;rw [A5];intro ⟨h1,h2⟩;exact hn _ (JE (hx _ (by simp)) (hx _ (by simp)) (QO hk).2 (YR hs).1) h1 h2
  ·rfl
 ·rfl
theorem Ad4 (c:Ce):Sh (A7 c)=true:=rfl
theorem Aiq {b:List Int}(hb:Jv b){r:List It × Nat × Int}(hx:∀x∈r.1,OkX x)(hc:∀c:Ce,c.ok->Ek c=0->Fz c=b->r=(A7 c,(Be (A7 c)).length,0)):FG b r=RP b:=by
 by_cases h5:b.length>512
 ·unfold FG RP;rw [B4 h5,B4 h5]
 by_cases hex:∃c:Ce,c.ok∧Ek c=0∧Fz c=b
 ·obtain ⟨c,c1,c2,c3⟩:=hex;have e:=hc c c1 c2 c3;subst c3;rw [VQ c1 c2,e];unfold FG;rw [A5 h5,A5 (by simp),A5 (by simp [Ad4])]
  exact Afz c1 c2
 ·have hn:∀c:Ce,c.ok->Ek c=0->Fz c≠b:=fun c h1 h2 h3=>hex ⟨c,h1,h2,h3⟩
  rw [Aeg hb (by omega) hn]
  unfold FG;rw [A5 h5,Ac8 hx hn];split
  ·rfl
  ·split<;>rfl
section
variable {fu d:Nat}
theorem Adw (hfu:1000<=fu){b:List Int}(hb:Jv b)(hl:b.length<=1000000):
  Ad C0 Tryz.prog fu (d+9) Hj [.lst false 1 b.length (Af .u8 b)]=some ⟨[.agg (FG b (I6 fu [] 0 b 0 [])).1.cells,.sc (.int .i64 (FG b (I6 fu [] 0 b 0 [])).2)],[]⟩:=by
 refine (Uq fu (d+8) b.length (Af .u8 b)).trans ?_;have dec:=Adz (fu:=fu) (d:=d+3) hfu hb hl;obtain ⟨hat,hox⟩:=BM hb fu [] 0 0 [] (by omega) (by simp)
 generalize I6 fu [] 0 b 0 []=r at dec hat hox ⊢;obtain ⟨its,used,e⟩:=r;simp only at hat hox;unfold ZE at dec;simp only at dec;unfold FG;simp only;by_cases h5:b.length>512
 ·rw [B4 h5]
  try unfold Aa
  repeat first
   |((with_reducible first|apply Ay|apply Ao|apply Az|apply A6|apply Ba|apply Bf|apply Bx|apply Am);· first|with_reducible rfl|(simp (disch:=omega) only [Cb]<;>with_reducible rfl))
   |((with_reducible first|apply Aw|apply Av);· first|with_reducible rfl|omega|(simp (disch:=omega) only [gT,Cb]<;>omega))
   |(with_reducible apply Ax;· first|with_reducible rfl|(simp (disch:=omega) only [gF,Cb]<;>omega))
  try simp (disch:=omega) only [Cb]
  all_goals rfl
 rw [A5 h5];by_cases he:e=0
 rotate_left
 ·rw [B4 he];have he':(e != 0)=true:=by simp [he]
  try unfold Aa
  repeat first
   |((with_reducible first|apply Ay|apply Ao|apply Az|apply A6|apply Ba|apply Bf|apply Bx|apply Am);· first|with_reducible rfl|(simp (disch:=omega) only [dec,he']<;>with_reducible rfl))
   |((with_reducible first|apply Aw|apply Av);· first|with_reducible rfl|omega|(simp (disch:=omega) only [gT,dec,he']<;>omega))
   |(with_reducible apply Ax;· first|with_reducible rfl|(simp (disch:=omega) only [gF,dec,he']<;>omega))
  try simp (disch:=omega) only [dec,he']
  all_goals rfl
 rw [A5 (by simp [he])]
 subst he;have e00:((0:Int) != 0)=false:=rfl;have e20:((2:Int) != 0)=true:=rfl;have ib:=Adg (fu:=fu) (d:=d+7) hfu its;have LT:=Qz its;have tT:List.take (its.length*3) (Cd its)=Cd its:=R6 (by omega)
 cases hib:Sh its
 ·rw [hib] at ib;rw [B4 rfl]
  try unfold Aa
  repeat first
   |((with_reducible first|apply Ay|apply Ao|apply Az|apply A6|apply Ba|apply Bf|apply Bx|apply Am);· first|with_reducible rfl|(simp (disch:=omega) only [dec,e00,El,C3,LT,tT,ib,C8,Dl]<;>with_reducible rfl))
   |((with_reducible first|apply Aw|apply Av);· first|with_reducible rfl|omega|(simp (disch:=omega) only [gT,dec,e00,El,C3,LT,tT,ib,C8,Dl]<;>omega))
   |(with_reducible apply Ax;· first|with_reducible rfl|(simp (disch:=omega) only [gF,dec,e00,El,C3,LT,tT,ib,C8,Dl]<;>omega))
  try simp (disch:=omega) only [dec,e00,El,C3,LT,tT,ib,C8,Dl]
  all_goals rfl
 rw [hib] at ib;rw [A5 (by simp)]
 have h10:=UW hib;obtain ⟨x0,x1,x2,x3,x4,x5,x6,x7,x8,x9,rfl⟩:=Afo h10;clear hib;have o1:=hox x1 (by simp)
 have o2:=hox x2 (by simp)
 have o3:=hox x3 (by simp)
 have o4:=hox x4 (by simp)
 have o9:=hox x9 (by simp)
 clear hox;have g14:List.getD (Cd [x0,x1,x2,x3,x4,x5,x6,x7,x8,x9]) 14 .top=.sc (.string x4.s):=rfl;have g5:List.getD (Cd [x0,x1,x2,x3,x4,x5,x6,x7,x8,x9]) 5 .top=.sc (.string x1.s):=rfl;have g8:List.getD (Cd [x0,x1,x2,x3,x4,x5,x6,x7,x8,x9]) 8 .top=.sc (.string x2.s):=rfl;have g10:List.getD (Cd [x0,x1,x2,x3,x4,x5,x6,x7,x8,x9]) 10 .top=.sc (.int .u64 x3.n):=rfl;have g16:List.getD (Cd [x0,x1,x2,x3,x4,x5,x6,x7,x8,x9]) 16 .top=.sc (.int .u64 x5.n):=rfl;have g19:List.getD (Cd [x0,x1,x2,x3,x4,x5,x6,x7,x8,x9]) 19 .top=.sc (.int .u64 x6.n):=rfl;have g22:List.getD (Cd [x0,x1,x2,x3,x4,x5,x6,x7,x8,x9]) 22 .top=.sc (.int .u64 x7.n):=rfl;have g25:List.getD (Cd [x0,x1,x2,x3,x4,x5,x6,x7,x8,x9]) 25 .top=.sc (.int .u64 x8.n):=rfl;have g28:List.getD (Cd [x0,x1,x2,x3,x4,x5,x6,x7,x8,x9]) 28 .top=.sc (.int .u64 x9.n):=rfl;have ln:[x0,x1,x2,x3,x4,x5,x6,x7,x8,x9].length=10:=rfl
 rw [ln] at dec ib LT tT;generalize Cd [x0,x1,x2,x3,x4,x5,x6,x7,x8,x9]=T at *
 clear h10;have hs4:=o4.s1;have L4:(Dh x4.s).length=x4.s.size:=by rw [Mf,Aj,Oj]
 have t4:List.take x4.s.size (Dh x4.s)=Af .u8 (H9 x4.s):=by rw [Mf,R6 (by rw [Aj,Oj];omega)]
 have dk:=Ad3 (xs:=Is) (fu:=fu) (d:=d+6) hfu (YX x4.s);rw [Oj] at dk;unfold Aei;simp only;cases hk:LW (H9 x4.s) with
 |none=>
  rw [hk] at dk;simp only [ZQ,Ky.cells] at dk
  try unfold Aa
  repeat first
   |((with_reducible first|apply Ay|apply Ao|apply Az|apply A6|apply Ba|apply Bf|apply Bx|apply Am);· first|with_reducible rfl|(simp (disch:=omega) only [dec,e00,e20,El,C3,Cb,Nat.reduceMul,LT,tT,ib,g14,L4,t4,dk,C8,Dl]<;>with_reducible rfl))
   |((with_reducible first|apply Aw|apply Av);· first|with_reducible rfl|omega|(simp (disch:=omega) only [gT,dec,e00,e20,El,C3,Cb,Nat.reduceMul,LT,tT,ib,g14,L4,t4,dk,C8,Dl]<;>omega))
   |(with_reducible apply Ax;· first|with_reducible rfl|(simp (disch:=omega) only [gF,dec,e00,e20,El,C3,Cb,Nat.reduceMul,LT,tT,ib,g14,L4,t4,dk,C8,Dl]<;>omega))
  try simp (disch:=omega) only [dec,e00,e20,El,C3,Cb,Nat.reduceMul,LT,tT,ib,g14,L4,t4,dk,C8,Dl]
  all_goals rfl
 |some k=>
  rw [hk] at dk;simp only [ZQ,Ky.cells] at dk;obtain ⟨k1,k2⟩:=QO hk;have ds:=Aez (xs:=Is) (fu:=fu) (d:=d+6) hfu (l:=b.drop used) (fun x hx=>hb x (List.mem_of_mem_drop hx))
  rw [List.length_drop] at ds;have tb:List.take (b.length-used) (List.drop used (Af .u8 b))=Af .u8 (b.drop used):=by rw [Hs,R6 (by rw [Aj,List.length_drop];omega)]
  have nu:Int.toNat (used:Int)=used:=H3 used;cases hs:sgD (b.drop used) with
  |none=>
   rw [hs] at ds;simp only [Aa7,Sg.owned] at ds
   try unfold Aa
   repeat first
    |((with_reducible first|apply Ay|apply Ao|apply Az|apply A6|apply Ba|apply Bf|apply Bx|apply Am);· first|with_reducible rfl|(simp (disch:=omega) only [dec,e00,e20,El,C3,Cb,Nat.reduceMul,LT,tT,ib,g14,L4,t4,dk,nu,tb,ds,C8,Dl]<;>with_reducible rfl))
    |((with_reducible first|apply Aw|apply Av);· first|with_reducible rfl|omega|(simp (disch:=omega) only [gT,dec,e00,e20,El,C3,Cb,Nat.reduceMul,LT,tT,ib,g14,L4,t4,dk,nu,tb,ds,C8,Dl]<;>omega))
    |(with_reducible apply Ax;· first|with_reducible rfl|(simp (disch:=omega) only [gF,dec,e00,e20,El,C3,Cb,Nat.reduceMul,LT,tT,ib,g14,L4,t4,dk,nu,tb,ds,C8,Dl]<;>omega))
   try simp (disch:=omega) only [dec,e00,e20,El,C3,Cb,Nat.reduceMul,LT,tT,ib,g14,L4,t4,dk,nu,tb,ds,C8,Dl]
   all_goals rfl
  |some s=>
   rw [hs] at ds;simp only [Aa7,Sg.owned] at ds;obtain ⟨s1,s2,s3⟩:=YR hs;have cok:(Mz x1 x2 x3 x5 x6 x7 x8 x9 k s).ok:=JE o3 o9 k2 s1;have en:=SI (fu:=fu) (d:=d) (c:=Mz x1 x2 x3 x5 x6 x7 x8 x9 k s) hfu cok.wf (Nat.le_trans o1.s1 (by omega)) (Nat.le_trans o2.s1 (by omega)) (Nat.le_trans s2 (by omega)) (Nat.lt_of_le_of_lt s2 (by omega))
   have ec:(Mz x1 x2 x3 x5 x6 x7 x8 x9 k s).cells=[.sc (.string x1.s),.sc (.string x2.s),.sc (.int .u64 x3.n),.sc (.int .i64 k.h),.sc (.int .u64 k.root),.sc (.int .i64 (wrap .i64 x5.n)),.sc (.int .i64 (wrap .i64 x6.n)),.sc (.bool (x7.n==1)),.sc (.int .i64 (wrap .i64 x8.n)),.sc (.int .u64 x9.n),.sc (.int .i64 s.leaf),.lst false 1 s.chains.length (Af .u64 s.chains),.lst false 1 s.path.length (Af .u64 s.path)]:=rfl;have eB:=fun h=>Afq (c:=Mz x1 x2 x3 x5 x6 x7 x8 x9 k s) cok.wf h
   have eL:=fun h=>HT (c:=Mz x1 x2 x3 x5 x6 x7 x8 x9 k s) h
   have Lc:=Aj .u64 s.chains;have Lp:=Aj .u64 s.path;have tc:=I1 .u64 s.chains;have tp:=I1 .u64 s.path;simp only;generalize Mz x1 x2 x3 x5 x6 x7 x8 x9 k s=c at *
   rw [ec] at en;unfold U7 at en;by_cases hz:Ek c=0
   rotate_left
   ·have hz':(Ek c != 0)=true:=by simp [hz]
    rw [A5 hz] at en;rw [A5 (fun h=>hz h.1)]
    try unfold Aa
    repeat first
     |((with_reducible first|apply Ay|apply Ao|apply Az|apply A6|apply Ba|apply Bf|apply Bx|apply Am);· first|with_reducible rfl|(simp (disch:=omega) only [dec,e00,e20,El,C3,Cb,Nat.reduceMul,LT,tT,ib,g14,L4,t4,dk,nu,tb,ds,g5,g8,g10,g16,g19,g22,g25,g28,Lc,Lp,tc,tp,en,hz',C8,Dl]<;>with_reducible rfl))
     |((with_reducible first|apply Aw|apply Av);· first|with_reducible rfl|omega|(simp (disch:=omega) only [gT,dec,e00,e20,El,C3,Cb,Nat.reduceMul,LT,tT,ib,g14,L4,t4,dk,nu,tb,ds,g5,g8,g10,g16,g19,g22,g25,g28,Lc,Lp,tc,tp,en,hz',C8,Dl]<;>omega))
     |(with_reducible apply Ax;· first|with_reducible rfl|(simp (disch:=omega) only [gF,dec,e00,e20,El,C3,Cb,Nat.reduceMul,LT,tT,ib,g14,L4,t4,dk,nu,tb,ds,g5,g8,g10,g16,g19,g22,g25,g28,Lc,Lp,tc,tp,en,hz',C8,Dl]<;>omega))
    try simp (disch:=omega) only [dec,e00,e20,El,C3,Cb,Nat.reduceMul,LT,tT,ib,g14,L4,t4,dk,nu,tb,ds,g5,g8,g10,g16,g19,g22,g25,g28,Lc,Lp,tc,tp,en,hz',C8,Dl]
    all_goals rfl
   rw [B4 hz] at en;have be:=NG (fu:=fu) (d:=d+7) (eB hz) hb;have LE:=Aj .u8 (Fz c);have tE:=I1 .u8 (Fz c);by_cases hq:Fz c=b
   ·rw [B4 ⟨hz,hq⟩];simp only [hq,decide_true] at be en LE tE;simp only [ec]
    try unfold Aa
    repeat first
     |((with_reducible first|apply Ay|apply Ao|apply Az|apply A6|apply Ba|apply Bf|apply Bx|apply Am);· first|with_reducible rfl|(simp (disch:=omega) only [dec,e00,e20,El,C3,Cb,Nat.reduceMul,LT,tT,ib,g14,L4,t4,dk,nu,tb,ds,g5,g8,g10,g16,g19,g22,g25,g28,Lc,Lp,tc,tp,en,LE,tE,be,C8,Dl]<;>with_reducible rfl))
     |((with_reducible first|apply Aw|apply Av);· first|with_reducible rfl|omega|(simp (disch:=omega) only [gT,dec,e00,e20,El,C3,Cb,Nat.reduceMul,LT,tT,ib,g14,L4,t4,dk,nu,tb,ds,g5,g8,g10,g16,g19,g22,g25,g28,Lc,Lp,tc,tp,en,LE,tE,be,C8,Dl]<;>omega))
     |(with_reducible apply Ax;· first|with_reducible rfl|(simp (disch:=omega) only [gF,dec,e00,e20,El,C3,Cb,Nat.reduceMul,LT,tT,ib,g14,L4,t4,dk,nu,tb,ds,g5,g8,g10,g16,g19,g22,g25,g28,Lc,Lp,tc,tp,en,LE,tE,be,C8,Dl]<;>omega))
    try simp (disch:=omega) only [dec,e00,e20,El,C3,Cb,Nat.reduceMul,LT,tT,ib,g14,L4,t4,dk,nu,tb,ds,g5,g8,g10,g16,g19,g22,g25,g28,Lc,Lp,tc,tp,en,LE,tE,be,C8,Dl]
    all_goals rfl
   ·rw [A5 (fun h=>hq h.2)]
    simp only [hq,decide_false] at be
    try unfold Aa
    repeat first
     |((with_reducible first|apply Ay|apply Ao|apply Az|apply A6|apply Ba|apply Bf|apply Bx|apply Am);· first|with_reducible rfl|(simp (disch:=omega) only [dec,e00,e20,El,C3,Cb,Nat.reduceMul,LT,tT,ib,g14,L4,t4,dk,nu,tb,ds,g5,g8,g10,g16,g19,g22,g25,g28,Lc,Lp,tc,tp,en,LE,tE,be,C8,Dl]<;>with_reducible rfl))
     |((with_reducible first|apply Aw|apply Av);· first|with_reducible rfl|omega|(simp (disch:=omega) only [gT,dec,e00,e20,El,C3,Cb,Nat.reduceMul,LT,tT,ib,g14,L4,t4,dk,nu,tb,ds,g5,g8,g10,g16,g19,g22,g25,g28,Lc,Lp,tc,tp,en,LE,tE,be,C8,Dl]<;>omega))
     |(with_reducible apply Ax;· first|with_reducible rfl|(simp (disch:=omega) only [gF,dec,e00,e20,El,C3,Cb,Nat.reduceMul,LT,tT,ib,g14,L4,t4,dk,nu,tb,ds,g5,g8,g10,g16,g19,g22,g25,g28,Lc,Lp,tc,tp,en,LE,tE,be,C8,Dl]<;>omega))
    try simp (disch:=omega) only [dec,e00,e20,El,C3,Cb,Nat.reduceMul,LT,tT,ib,g14,L4,t4,dk,nu,tb,ds,g5,g8,g10,g16,g19,g22,g25,g28,Lc,Lp,tc,tp,en,LE,tE,be,C8,Dl]
    all_goals rfl
theorem Ak5 (hfu:1000<=fu){b:List Int}(hb:Jv b)(hl:b.length<=1000000):
  Ad C0 Tryz.prog fu (d+9) Hj [.lst false 1 b.length (Af .u8 b)]=some ⟨[.agg (RP b).1.cells,.sc (.int .i64 (RP b).2)],[]⟩:=by
 have e:FG b (I6 fu [] 0 b 0 [])=RP b:=Aiq hb (BM hb fu [] 0 0 [] (by omega) (by simp)).2 (fun c c1 c2 c3=>by subst c3;exact XE c1 c2 (by omega))
 rw [←e];exact Adw hfu hb hl
end
end
section
open Go.IntKind (wrap)
structure An where
 name:ByteArray
 key:Ky
structure Rv where
 iss:ByteArray
 ser:Int
 at_:Int
def An.cells (a:An):List PV:=[.sc (.string a.name),.sc (.int .i64 a.key.h),.sc (.int .u64 a.key.root)]
def Rv.cells (r:Rv):List PV:=[.sc (.string r.iss),.sc (.int .u64 r.ser),.sc (.int .i64 r.at_)]
def BT (l:List An):List PV:=l.flatMap An.cells
def Tg (l:List Rv):List PV:=l.flatMap Rv.cells
def H5 (l:List Ce):List PV:=l.flatMap Ce.cells
theorem An.cells_len (a:An):a.cells.length=3:=rfl
theorem Rv.cells_len (r:Rv):r.cells.length=3:=rfl
theorem Ce.cells_len (c:Ce):c.cells.length=13:=rfl
abbrev eqS (a b:ByteArray):Bool:=Array.toList (ByteArray.data a)==Array.toList (ByteArray.data b)
def SF (c:Ce)(now:Int)(r:Rv):Bool:=eqS r.iss c.iss&&(r.ser==c.serial&&decide (r.at_<=now))
def TU (c:Ce)(now:Int)(l:List Rv):Int:=if l.any (SF c now)=true then 39 else 0
def P9 (c:Ce)(i:Int)(l:List Rv)(now:Int):Int:=
 if A3 c≠0 then A3 c else if now<c.fr then 38 else if now>c.un then 38 else if i>0 then (if c.auth=false then 38 else if c.path<i-1 then 38 else TU c now l) else TU c now l
def U5 (c:Ce):Nat->List An->Int
 |_,[]=> -1
 |i,a::r=>if eqS a.name c.iss=true∧DJ c a.key=0 then (i:Int) else U5 c (i+1) r
def Ai2 (c:Ce)(l:List An):Int × Int:=if U5 c 0 l<0 then (0,38) else (U5 c 0 l,0)
def IG (ans:List An)(vs:List Rv)(now:Int):Nat->List Ce->Int × Int
 |_,[]=>(0,0)
 |i,[c]=>if P9 c i vs now≠0 then (0,P9 c i vs now) else Ai2 c ans
 |i,c::c2::r=>if P9 c i vs now≠0 then (0,P9 c i vs now) else if eqS c.iss c2.subj=false then (0,38) else if DJ c c2.key≠0 then (0,DJ c c2.key) else IG ans vs now (i+1) (c2::r)
def XA (cs:List Ce)(ans:List An)(vs:List Rv)(now:Int):Int × Int:=
 if now<0 then (0,9) else if now>1099511627776 then (0,9) else if cs.length<1 then (0,38) else if cs.length>3 then (0,38) else IG ans vs now 0 cs
structure Ce.in_ (c:Ce):Prop where
 wf:c.wf
 s1:c.subj.size<=9223372036854775807
 s2:c.iss.size<=9223372036854775807
theorem cer {l:List Ce}{i:Nat}{c:Ce}(h:l[i]?=some c):
  (H5 l).getD (i*13) .top=.sc (.string c.subj)∧(H5 l).getD (i*13+1) .top=.sc (.string c.iss)∧(H5 l).getD (i*13+1+1) .top=.sc (.int .u64 c.serial) ∧
  (H5 l).getD (i*13+1+1+1) .top=.sc (.int .i64 c.key.h)∧(H5 l).getD (i*13+1+1+1+1) .top=.sc (.int .u64 c.key.root)∧(H5 l).getD (i*13+1+1+1+1+1) .top=.sc (.int .i64 c.fr) ∧
  (H5 l).getD (i*13+1+1+1+1+1+1) .top=.sc (.int .i64 c.un)∧(H5 l).getD (i*13+1+1+1+1+1+1+1) .top=.sc (.bool c.auth)∧(H5 l).getD (i*13+1+1+1+1+1+1+1+1) .top=.sc (.int .i64 c.path) ∧
  (H5 l).getD (i*13+1+1+1+1+1+1+1+1+1) .top=.sc (.int .u64 c.model)∧(H5 l).getD (i*13+1+1+1+1+1+1+1+1+1+1) .top=.sc (.int .i64 c.sig.leaf) ∧
  (H5 l).getD (i*13+1+1+1+1+1+1+1+1+1+1+1) .top=.lst false 1 c.sig.chains.length (Af .u64 c.sig.chains)∧(H5 l).getD (i*13+1+1+1+1+1+1+1+1+1+1+1+1) .top=.lst false 1 c.sig.path.length (Af .u64 c.sig.path):=
 ⟨D1 Ce.cells_len h (j:=0) (by omega),D1 Ce.cells_len h (j:=1) (by omega),D1 Ce.cells_len h (j:=2) (by omega),D1 Ce.cells_len h (j:=3) (by omega),D1 Ce.cells_len h (j:=4) (by omega),D1 Ce.cells_len h (j:=5) (by omega),D1 Ce.cells_len h (j:=6) (by omega),D1 Ce.cells_len h (j:=7) (by omega),D1 Ce.cells_len h (j:=8) (by omega),D1 Ce.cells_len h (j:=9) (by omega),D1 Ce.cells_len h (j:=10) (by omega),D1 Ce.cells_len h (j:=11) (by omega),D1 Ce.cells_len h (j:=12) (by omega)⟩
theorem rva {l:List Rv}{i:Nat}{r:Rv}(h:l[i]?=some r):(Tg l).getD (i*3) .top=.sc (.string r.iss)∧(Tg l).getD (i*3+1) .top=.sc (.int .u64 r.ser)∧(Tg l).getD (i*3+2) .top=.sc (.int .i64 r.at_):=
 ⟨D1 Rv.cells_len h (j:=0) (by omega),D1 Rv.cells_len h (j:=1) (by omega),D1 Rv.cells_len h (j:=2) (by omega)⟩
theorem ana {l:List An}{i:Nat}{a:An}(h:l[i]?=some a):(BT l).getD (i*3) .top=.sc (.string a.name)∧(BT l).getD (i*3+1) .top=.sc (.int .i64 a.key.h)∧(BT l).getD (i*3+2) .top=.sc (.int .u64 a.key.root):=
 ⟨D1 An.cells_len h (j:=0) (by omega),D1 An.cells_len h (j:=1) (by omega),D1 An.cells_len h (j:=2) (by omega)⟩
section
variable {fu d:Nat}
theorem NW {call:Ai}{a0_0 a0_1:ByteArray}{a0_2 a0_3 a0_4 a0_5 a0_6 a0_8 a0_9 a0_10 a1 a3:Int}{a0_7:Bool}{a0_11n a0_12n a2n:Nat}{a0_11 a0_12 a2:List PV}{c:Ce}{now:Int}{vs:List Rv}(hl:vs.length<=1000000):∀(r:List Rv)(i nn:Nat),vs.drop i=r->r.length<nn->i<=vs.length ->
  Ch fu call a0_0 a0_1 a0_2 a0_3 a0_4 a0_5 a0_6 a0_7 a0_8 a0_9 a0_10 a0_11n a0_11 a0_12n a0_12 a1 a2n a2 a3 nn now vs.length (Tg vs) (vs.length:Int) (i:Int) c.subj c.iss c.serial c.key.h c.key.root c.fr c.un c.auth c.path c.model c.sig.leaf c.sig.chains.length (Af .u64 c.sig.chains) c.sig.path.length (Af .u64 c.sig.path) =
   some ⟨[.sc (.int .i64 (TU c now r))],[]⟩
 |_,_,0,_,h,_=>by omega
 |[],i,nn+1,h,hn,hi=>by
  have:=drop_nil h;rw [He,Do _ _ _ (by omega)]
  rfl
 |r::rs,i,nn+1,h,hn,hi=>by
  obtain ⟨h1,h2,h3⟩:=Cm h;simp only [Jz] at hn;obtain ⟨c0,c1,c2⟩:=rva h2;have w:wrap .i64 ((i:Int)+1)=((i+1:Nat):Int):=by rw [Ak (by omega) (by omega)];omega
  have nt:Int.toNat (i:Int)=i:=H3 _;have c2':(Tg vs).getD (i*3+1+1) .top=.sc (.int .i64 r.at_):=c2;have ih:=NW (call:=call) (a0_0:=a0_0) (a0_1:=a0_1) (a0_2:=a0_2) (a0_3:=a0_3) (a0_4:=a0_4) (a0_5:=a0_5) (a0_6:=a0_6) (a0_7:=a0_7) (a0_8:=a0_8) (a0_9:=a0_9) (a0_10:=a0_10) (a1:=a1) (a3:=a3) (a0_11n:=a0_11n) (a0_12n:=a0_12n) (a2n:=a2n) (a0_11:=a0_11) (a0_12:=a0_12) (a2:=a2) (c:=c) (now:=now) hl rs (i+1) nn h3 (by omega) (by omega)
  have er:TU c now (r::rs)=if SF c now r=true then 39 else TU c now rs:=by
   unfold TU;rw [List.any_cons];cases SF c now r<;>rfl
  rw [er,He];unfold SF;cases e1:eqS r.iss c.iss
  ·rw [Bool.false_and,A5 (by simp),←ih]
   try unfold Aa
   repeat first
    |((with_reducible first|apply Ay|apply Ao|apply Az|apply A6|apply Ba|apply Bf|apply Cv|apply Am);· first|with_reducible rfl|(simp (disch:=omega) only [nt,c0,c1,c2',e1,w]<;>with_reducible rfl))
    |((with_reducible first|apply Aw|apply Av);· first|with_reducible rfl|omega|(simp (disch:=omega) only [gT,nt,c0,c1,c2',e1,w]<;>omega))
    |(with_reducible apply Ax;· first|with_reducible rfl|(simp (disch:=omega) only [gF,nt,c0,c1,c2',e1,w]<;>omega))
   try simp (disch:=omega) only [nt,c0,c1,c2',e1,w]
   all_goals rfl
  ·cases e2:(r.ser==c.serial)
   ·rw [Bool.true_and,Bool.false_and,A5 (by simp),←ih]
    try unfold Aa
    repeat first
     |((with_reducible first|apply Ay|apply Ao|apply Az|apply A6|apply Ba|apply Bf|apply Cv|apply Am);· first|with_reducible rfl|(simp (disch:=omega) only [nt,c0,c1,c2',e1,e2,w]<;>with_reducible rfl))
     |((with_reducible first|apply Aw|apply Av);· first|with_reducible rfl|omega|(simp (disch:=omega) only [gT,nt,c0,c1,c2',e1,e2,w]<;>omega))
     |(with_reducible apply Ax;· first|with_reducible rfl|(simp (disch:=omega) only [gF,nt,c0,c1,c2',e1,e2,w]<;>omega))
    try simp (disch:=omega) only [nt,c0,c1,c2',e1,e2,w]
    all_goals rfl
   ·by_cases e3:r.at_<=now
    ·rw [B4 (by simp [e3])]
     try unfold Aa
     repeat first
      |((with_reducible first|apply Ay|apply Ao|apply Az|apply A6|apply Ba|apply Bf|apply Cv|apply Am);· first|with_reducible rfl|(simp (disch:=omega) only [nt,c0,c1,c2',e1,e2,w]<;>with_reducible rfl))
      |((with_reducible first|apply Aw|apply Av);· first|with_reducible rfl|omega|(simp (disch:=omega) only [gT,nt,c0,c1,c2',e1,e2,w]<;>omega))
      |(with_reducible apply Ax;· first|with_reducible rfl|(simp (disch:=omega) only [gF,nt,c0,c1,c2',e1,e2,w]<;>omega))
     try simp (disch:=omega) only [nt,c0,c1,c2',e1,e2,w]
     all_goals rfl
    ·rw [A5 (by simp [e3]),←ih]
     try unfold Aa
     repeat first
      |((with_reducible first|apply Ay|apply Ao|apply Az|apply A6|apply Ba|apply Bf|apply Cv|apply Am);· first|with_reducible rfl|(simp (disch:=omega) only [nt,c0,c1,c2',e1,e2,w]<;>with_reducible rfl))
      |((with_reducible first|apply Aw|apply Av);· first|with_reducible rfl|omega|(simp (disch:=omega) only [gT,nt,c0,c1,c2',e1,e2,w]<;>omega))
      |(with_reducible apply Ax;· first|with_reducible rfl|(simp (disch:=omega) only [gF,nt,c0,c1,c2',e1,e2,w]<;>omega))
     try simp (disch:=omega) only [nt,c0,c1,c2',e1,e2,w]
     all_goals rfl
theorem Abb (hfu:1000<=fu){c:Ce}(hc:c.in_){vs:List Rv}(hl:vs.length<=900){i:Int}(hi:0<=i)(hi':i<=1000)(now:Int):
  Ad C0 Tryz.prog fu (d+8) Iz [.agg c.cells,.sc (.int .i64 i),.lst false 3 vs.length (Tg vs),.sc (.int .i64 now)]=some ⟨[.sc (.int .i64 (P9 c i vs now))],[]⟩:=by
 refine (Rm fu (d+7) c.subj c.iss c.serial c.key.h c.key.root c.fr c.un c.auth c.path c.model c.sig.leaf c.sig.chains.length (Af .u64 c.sig.chains) c.sig.path.length (Af .u64 c.sig.path) i vs.length (Tg vs) now).trans ?_;have bq:=Z9 (fu:=fu) (d:=d) hfu hc.wf hc.s1 hc.s2;simp only [Ce.cells] at bq;unfold Fo at bq;have lp:=NW (fu:=fu) (call:=Ad C0 Tryz.prog fu (d+7)) (a0_0:=c.subj) (a0_1:=c.iss) (a0_2:=c.serial) (a0_3:=c.key.h) (a0_4:=c.key.root) (a0_5:=c.fr) (a0_6:=c.un) (a0_7:=c.auth) (a0_8:=c.path) (a0_9:=c.model) (a0_10:=c.sig.leaf) (a1:=i) (a3:=now) (a0_11n:=c.sig.chains.length) (a0_12n:=c.sig.path.length) (a2n:=vs.length) (a0_11:=Af .u64 c.sig.chains) (a0_12:=Af .u64 c.sig.path) (a2:=Tg vs) (c:=c) (now:=now) (vs:=vs) (by omega) vs 0 fu rfl (by omega) (by omega)
 unfold P9;by_cases h0:A3 c=0
 rotate_left
 ·have hne:(A3 c != 0)=true:=by simp [h0]
  rw [A5 h0] at bq;rw [B4 h0]
  try unfold Aa
  repeat first
   |((with_reducible first|apply Ay|apply Ao|apply Az|apply A6|apply Ba|apply Bf|apply Cv|apply Am);· first|with_reducible rfl|(simp (disch:=omega) only [bq,hne]<;>with_reducible rfl))
   |((with_reducible first|apply Aw|apply Av);· first|with_reducible rfl|omega|(simp (disch:=omega) only [gT,bq,hne]<;>omega))
   |(with_reducible apply Ax;· first|with_reducible rfl|(simp (disch:=omega) only [gF,bq,hne]<;>omega))
  try simp (disch:=omega) only [bq,hne]
  all_goals rfl
 rw [B4 h0] at bq;rw [A5 (by simp [h0])]
 have e00:((0:Int) != 0)=false:=rfl;have w:wrap .i64 (i-1)=i-1:=Ak (by omega) (by omega)
 by_cases h1:now<c.fr
 ·rw [B4 h1]
  try unfold Aa
  repeat first
   |((with_reducible first|apply Ay|apply Ao|apply Az|apply A6|apply Ba|apply Bf|apply Cv|apply Am);· first|with_reducible rfl|(simp (disch:=omega) only [bq,e00]<;>with_reducible rfl))
   |((with_reducible first|apply Aw|apply Av);· first|with_reducible rfl|omega|(simp (disch:=omega) only [gT,bq,e00]<;>omega))
   |(with_reducible apply Ax;· first|with_reducible rfl|(simp (disch:=omega) only [gF,bq,e00]<;>omega))
  try simp (disch:=omega) only [bq,e00]
  all_goals rfl
 rw [A5 h1];by_cases h2:now>c.un
 ·rw [B4 h2]
  try unfold Aa
  repeat first
   |((with_reducible first|apply Ay|apply Ao|apply Az|apply A6|apply Ba|apply Bf|apply Cv|apply Am);· first|with_reducible rfl|(simp (disch:=omega) only [bq,e00]<;>with_reducible rfl))
   |((with_reducible first|apply Aw|apply Av);· first|with_reducible rfl|omega|(simp (disch:=omega) only [gT,bq,e00]<;>omega))
   |(with_reducible apply Ax;· first|with_reducible rfl|(simp (disch:=omega) only [gF,bq,e00]<;>omega))
  try simp (disch:=omega) only [bq,e00]
  all_goals rfl
 rw [A5 h2];by_cases h3:i>0
 ·rw [B4 h3];cases h4:c.auth
  ·rw [B4 rfl];rw [h4] at bq
   try unfold Aa
   repeat first
    |((with_reducible first|apply Ay|apply Ao|apply Az|apply A6|apply Ba|apply Bf|apply Cv|apply Am);· first|with_reducible rfl|(simp (disch:=omega) only [bq,e00,Dl]<;>with_reducible rfl))
    |((with_reducible first|apply Aw|apply Av);· first|with_reducible rfl|omega|(simp (disch:=omega) only [gT,bq,e00,Dl]<;>omega))
    |(with_reducible apply Ax;· first|with_reducible rfl|(simp (disch:=omega) only [gF,bq,e00,Dl]<;>omega))
   try simp (disch:=omega) only [bq,e00,Dl]
   all_goals rfl
  ·rw [A5 (by simp)]
   rw [h4] at lp bq;by_cases h5:c.path<i-1
   ·rw [B4 h5]
    try unfold Aa
    repeat first
     |((with_reducible first|apply Ay|apply Ao|apply Az|apply A6|apply Ba|apply Bf|apply Cv|apply Am);· first|with_reducible rfl|(simp (disch:=omega) only [bq,e00,h4,w,C8]<;>with_reducible rfl))
     |((with_reducible first|apply Aw|apply Av);· first|with_reducible rfl|omega|(simp (disch:=omega) only [gT,bq,e00,h4,w,C8]<;>omega))
     |(with_reducible apply Ax;· first|with_reducible rfl|(simp (disch:=omega) only [gF,bq,e00,h4,w,C8]<;>omega))
    try simp (disch:=omega) only [bq,e00,h4,w,C8]
    all_goals rfl
   ·rw [A5 h5,←lp]
    try unfold Aa
    repeat first
     |((with_reducible first|apply Ay|apply Ao|apply Az|apply A6|apply Ba|apply Bf|apply Cv|apply Am);· first|with_reducible rfl|(simp (disch:=omega) only [bq,e00,h4,w,C8]<;>with_reducible rfl))
     |((with_reducible first|apply Aw|apply Av);· first|with_reducible rfl|omega|(simp (disch:=omega) only [gT,bq,e00,h4,w,C8]<;>omega))
     |(with_reducible apply Ax;· first|with_reducible rfl|(simp (disch:=omega) only [gF,bq,e00,h4,w,C8]<;>omega))
    try simp (disch:=omega) only [bq,e00,h4,w,C8]
    all_goals rfl
 ·rw [A5 h3,←lp]
  try unfold Aa
  repeat first
   |((with_reducible first|apply Ay|apply Ao|apply Az|apply A6|apply Ba|apply Bf|apply Cv|apply Am);· first|with_reducible rfl|(simp (disch:=omega) only [bq,e00]<;>with_reducible rfl))
   |((with_reducible first|apply Aw|apply Av);· first|with_reducible rfl|omega|(simp (disch:=omega) only [gT,bq,e00]<;>omega))
   |(with_reducible apply Ax;· first|with_reducible rfl|(simp (disch:=omega) only [gF,bq,e00]<;>omega))
  try simp (disch:=omega) only [bq,e00]
  all_goals rfl
theorem Zq (hfu:1000<=fu){a0n a1n a2n:Nat}{a0 a1 a2:List PV}{a3:Int}{c:Ce}(hc:c.in_){ans:List An}(hl:ans.length<=1000000):∀(r:List An)(i nn:Nat),ans.drop i=r->r.length<nn->i<=ans.length ->
  Dz fu (Ad C0 Tryz.prog fu (d+9)) a0n a0 a1n a1 a2n a2 a3 nn ans.length (BT ans) (ans.length:Int) (i:Int) c.subj c.iss c.serial c.key.h c.key.root c.fr c.un c.auth c.path c.model c.sig.leaf c.sig.chains.length (Af .u64 c.sig.chains) c.sig.path.length (Af .u64 c.sig.path) =
   some ⟨(if U5 c i r<0 then [.sc (.int .i64 0),.sc (.int .i64 38)] else [.sc (.int .i64 (U5 c i r)),.sc (.int .i64 0)]),[]⟩
 |_,_,0,_,h,_=>by omega
 |[],i,nn+1,h,hn,hi=>by
  have:=drop_nil h;rw [Kb,Do _ _ _ (by omega)]
  rfl
 |a::rs,i,nn+1,h,hn,hi=>by
  obtain ⟨h1,h2,h3⟩:=Cm h;simp only [Jz] at hn;obtain ⟨c0,c1,c2⟩:=ana h2;have w:wrap .i64 ((i:Int)+1)=((i+1:Nat):Int):=by rw [Ak (by omega) (by omega)];omega
  have nt:Int.toNat (i:Int)=i:=H3 _;have c2':(BT ans).getD (i*3+1+1) .top=.sc (.int .u64 a.key.root):=c2;have vq:=VI (fu:=fu) (d:=d) hfu hc.wf hc.s1 hc.s2 a.key;simp only [Ce.cells,Ky.cells] at vq;have ih:=Zq hfu (a0n:=a0n) (a1n:=a1n) (a2n:=a2n) (a0:=a0) (a1:=a1) (a2:=a2) (a3:=a3) hc hl rs (i+1) nn h3 (by omega) (by omega)
  rw [Kb];cases e1:eqS a.name c.iss
  ·have er:U5 c i (a::rs)=U5 c (i+1) rs:=by rw [U5,A5 (by simp [e1])]
   rw [er,←ih]
   try unfold Aa
   repeat first
    |((with_reducible first|apply Ay|apply Ao|apply Az|apply A6|apply Ba|apply Bf|apply Cv|apply Am);· first|with_reducible rfl|(simp (disch:=omega) only [nt,c0,c1,c2',e1,w]<;>with_reducible rfl))
    |((with_reducible first|apply Aw|apply Av);· first|with_reducible rfl|omega|(simp (disch:=omega) only [gT,nt,c0,c1,c2',e1,w]<;>omega))
    |(with_reducible apply Ax;· first|with_reducible rfl|(simp (disch:=omega) only [gF,nt,c0,c1,c2',e1,w]<;>omega))
   try simp (disch:=omega) only [nt,c0,c1,c2',e1,w]
   all_goals rfl
  ·by_cases e2:DJ c a.key=0
   ·have e2':(DJ c a.key==0)=true:=by simp [e2]
    have er:U5 c i (a::rs)=(i:Int):=by rw [U5,B4 ⟨e1,e2⟩]
    rw [er,A5 (by omega)]
    try unfold Aa
    repeat first
     |((with_reducible first|apply Ay|apply Ao|apply Az|apply A6|apply Ba|apply Bf|apply Cv|apply Am);· first|with_reducible rfl|(simp (disch:=omega) only [nt,c0,c1,c2',e1,w,vq,e2']<;>with_reducible rfl))
     |((with_reducible first|apply Aw|apply Av);· first|with_reducible rfl|omega|(simp (disch:=omega) only [gT,nt,c0,c1,c2',e1,w,vq,e2']<;>omega))
     |(with_reducible apply Ax;· first|with_reducible rfl|(simp (disch:=omega) only [gF,nt,c0,c1,c2',e1,w,vq,e2']<;>omega))
    try simp (disch:=omega) only [nt,c0,c1,c2',e1,w,vq,e2']
    all_goals rfl
   ·have e2':(DJ c a.key==0)=false:=by simp [e2]
    have er:U5 c i (a::rs)=U5 c (i+1) rs:=by rw [U5,A5 (by simp [e2])]
    rw [er,←ih]
    try unfold Aa
    repeat first
     |((with_reducible first|apply Ay|apply Ao|apply Az|apply A6|apply Ba|apply Bf|apply Cv|apply Am);· first|with_reducible rfl|(simp (disch:=omega) only [nt,c0,c1,c2',e1,w,vq,e2']<;>with_reducible rfl))
     |((with_reducible first|apply Aw|apply Av);· first|with_reducible rfl|omega|(simp (disch:=omega) only [gT,nt,c0,c1,c2',e1,w,vq,e2']<;>omega))
     |(with_reducible apply Ax;· first|with_reducible rfl|(simp (disch:=omega) only [gF,nt,c0,c1,c2',e1,w,vq,e2']<;>omega))
    try simp (disch:=omega) only [nt,c0,c1,c2',e1,w,vq,e2']
    all_goals rfl
theorem OD (hfu:1000<=fu){a0n a1n a2n:Nat}{a0 a1 a2:List PV}{a3:Int}{cs:List Ce}(hc:∀c∈cs,c.in_)(h3:cs.length<=3){ans:List An}(hl:ans.length<=900){vs:List Rv}(hv:vs.length<=900){now:Int}:∀(r:List Ce)(i nn:Nat),r≠[]->cs.drop i=r->r.length<nn->i<=cs.length ->
  Ga fu (Ad C0 Tryz.prog fu (d+9)) a0n a0 a1n a1 a2n a2 a3 nn cs.length (H5 cs) ans.length (BT ans) vs.length (Tg vs) now cs.length (H5 cs) (cs.length:Int) (i:Int) =
   some ⟨[.sc (.int .i64 (IG ans vs now i r).1),.sc (.int .i64 (IG ans vs now i r).2)],[]⟩
 |_,_,0,_,_,h,_=>by omega
 |[],i,nn+1,hne,_,_,_=>absurd rfl hne
 |[c],i,nn+1,hne,h,hn,hi=>by
  obtain ⟨h1,h2,h3'⟩:=Cm h;have hlast:=drop_nil h3';have hci:=hc c (List.mem_of_getElem? h2);obtain ⟨c0,c1,c2,c3,c4,c5,c6,c7,c8,c9,c10,c11,c12⟩:=cer h2;have nt:Int.toNat (i:Int)=i:=H3 _;have lk:=Abb (fu:=fu) (d:=d+1) hfu hci hv (i:=(i:Int)) (by omega) (by omega) now
  simp only [Ce.cells] at lk;have w:wrap .i64 ((cs.length:Int)-1)=(i:Int):=by rw [Ak (by omega) (by omega)];omega
  have eb:((i:Int)==(i:Int))=true:=by simp
  rw [J8];unfold IG;by_cases hz:P9 c i vs now=0
  ·have pa:=Zq (fu:=fu) (d:=d) hfu (a0n:=a0n) (a1n:=a1n) (a2n:=a2n) (a0:=a0) (a1:=a1) (a2:=a2) (a3:=a3) hci (ans:=ans) (by omega) ans 0 fu rfl (by omega) (by omega)
   have e0:(P9 c i vs now != 0)=false:=by simp [hz]
   have ea:(some ⟨(if U5 c 0 ans<0 then [.sc (.int .i64 0),.sc (.int .i64 38)] else [.sc (.int .i64 (U5 c 0 ans)),.sc (.int .i64 0)]),[]⟩:Option Au)=some ⟨[.sc (.int .i64 (Ai2 c ans).1),.sc (.int .i64 (Ai2 c ans).2)],[]⟩:=by
    unfold Ai2;split<;>rfl
   rw [ea] at pa;rw [A5 (by simp [hz]),←pa]
   try unfold Aa
   repeat first
    |((with_reducible first|apply Ay|apply Ao|apply Az|apply A6|apply Ba|apply Bf|apply Cv|apply Am);· first|with_reducible rfl|(simp (disch:=omega) only [nt,c0,c1,c2,c3,c4,c5,c6,c7,c8,c9,c10,c11,c12,lk,e0,w,eb]<;>with_reducible rfl))
    |((with_reducible first|apply Aw|apply Av);· first|with_reducible rfl|omega|(simp (disch:=omega) only [gT,nt,c0,c1,c2,c3,c4,c5,c6,c7,c8,c9,c10,c11,c12,lk,e0,w,eb]<;>omega))
    |(with_reducible apply Ax;· first|with_reducible rfl|(simp (disch:=omega) only [gF,nt,c0,c1,c2,c3,c4,c5,c6,c7,c8,c9,c10,c11,c12,lk,e0,w,eb]<;>omega))
   try simp (disch:=omega) only [nt,c0,c1,c2,c3,c4,c5,c6,c7,c8,c9,c10,c11,c12,lk,e0,w,eb]
   all_goals rfl
  ·have e0:(P9 c i vs now != 0)=true:=by simp [hz]
   rw [B4 hz]
   try unfold Aa
   repeat first
    |((with_reducible first|apply Ay|apply Ao|apply Az|apply A6|apply Ba|apply Bf|apply Cv|apply Am);· first|with_reducible rfl|(simp (disch:=omega) only [nt,c0,c1,c2,c3,c4,c5,c6,c7,c8,c9,c10,c11,c12,lk,e0]<;>with_reducible rfl))
    |((with_reducible first|apply Aw|apply Av);· first|with_reducible rfl|omega|(simp (disch:=omega) only [gT,nt,c0,c1,c2,c3,c4,c5,c6,c7,c8,c9,c10,c11,c12,lk,e0]<;>omega))
    |(with_reducible apply Ax;· first|with_reducible rfl|(simp (disch:=omega) only [gF,nt,c0,c1,c2,c3,c4,c5,c6,c7,c8,c9,c10,c11,c12,lk,e0]<;>omega))
   try simp (disch:=omega) only [nt,c0,c1,c2,c3,c4,c5,c6,c7,c8,c9,c10,c11,c12,lk,e0]
   all_goals rfl
 |c::e::r,i,nn+1,hne,h,hn,hi=>by
  obtain ⟨h1,h2,h3'⟩:=Cm h;obtain ⟨k1,k2,k3⟩:=Cm h3';simp only [Jz] at hn;have hci:=hc c (List.mem_of_getElem? h2);obtain ⟨c0,c1,c2,c3,c4,c5,c6,c7,c8,c9,c10,c11,c12⟩:=cer h2;obtain ⟨q0,q1,q2,q3,q4,_⟩:=cer k2;have nt:Int.toNat (i:Int)=i:=H3 _;have nt1:Int.toNat ((i+1:Nat):Int)=i+1:=H3 _;have lk:=Abb (fu:=fu) (d:=d+1) hfu hci hv (i:=(i:Int)) (by omega) (by omega) now
  simp only [Ce.cells] at lk;have w:wrap .i64 ((cs.length:Int)-1)=(cs.length:Int)-1:=Ak (by omega) (by omega)
  have w1:wrap .i64 ((i:Int)+1)=((i+1:Nat):Int):=by rw [Ak (by omega) (by omega)];omega
  have eb:((i:Int)==(cs.length:Int)-1)=false:=by simp;omega
  have q3':(H5 cs).getD ((i+1)*13+3) .top=.sc (.int .i64 e.key.h):=q3;have q4':(H5 cs).getD ((i+1)*13+3+1) .top=.sc (.int .u64 e.key.root):=q4;have vq:=VI (fu:=fu) (d:=d) hfu hci.wf hci.s1 hci.s2 e.key;simp only [Ce.cells,Ky.cells] at vq;rw [J8];unfold IG;by_cases hz:P9 c i vs now=0
  rotate_left
  ·have e0:(P9 c i vs now != 0)=true:=by simp [hz]
   rw [B4 hz]
   try unfold Aa
   repeat first
    |((with_reducible first|apply Ay|apply Ao|apply Az|apply A6|apply Ba|apply Bf|apply Cv|apply Am);· first|with_reducible rfl|(simp (disch:=omega) only [nt,c0,c1,c2,c3,c4,c5,c6,c7,c8,c9,c10,c11,c12,lk,e0]<;>with_reducible rfl))
    |((with_reducible first|apply Aw|apply Av);· first|with_reducible rfl|omega|(simp (disch:=omega) only [gT,nt,c0,c1,c2,c3,c4,c5,c6,c7,c8,c9,c10,c11,c12,lk,e0]<;>omega))
    |(with_reducible apply Ax;· first|with_reducible rfl|(simp (disch:=omega) only [gF,nt,c0,c1,c2,c3,c4,c5,c6,c7,c8,c9,c10,c11,c12,lk,e0]<;>omega))
   try simp (disch:=omega) only [nt,c0,c1,c2,c3,c4,c5,c6,c7,c8,c9,c10,c11,c12,lk,e0]
   all_goals rfl
  have e0:(P9 c i vs now != 0)=false:=by simp [hz]
  rw [A5 (by simp [hz])]
  cases es:eqS c.iss e.subj
  ·rw [B4 rfl]
   try unfold Aa
   repeat first
    |((with_reducible first|apply Ay|apply Ao|apply Az|apply A6|apply Ba|apply Bf|apply Cv|apply Am);· first|with_reducible rfl|(simp (disch:=omega) only [nt,nt1,PU,c0,c1,c2,c3,c4,c5,c6,c7,c8,c9,c10,c11,c12,lk,e0,w,eb,w1,q0,es,Dl]<;>with_reducible rfl))
    |((with_reducible first|apply Aw|apply Av);· first|with_reducible rfl|omega|(simp (disch:=omega) only [gT,nt,nt1,PU,c0,c1,c2,c3,c4,c5,c6,c7,c8,c9,c10,c11,c12,lk,e0,w,eb,w1,q0,es,Dl]<;>omega))
    |(with_reducible apply Ax;· first|with_reducible rfl|(simp (disch:=omega) only [gF,nt,nt1,PU,c0,c1,c2,c3,c4,c5,c6,c7,c8,c9,c10,c11,c12,lk,e0,w,eb,w1,q0,es,Dl]<;>omega))
   try simp (disch:=omega) only [nt,nt1,PU,c0,c1,c2,c3,c4,c5,c6,c7,c8,c9,c10,c11,c12,lk,e0,w,eb,w1,q0,es,Dl]
   all_goals rfl
  rw [A5 (by simp)]
  by_cases hv':DJ c e.key=0
  ·have v0:(DJ c e.key != 0)=false:=by simp [hv']
   have ih:=OD hfu (a0n:=a0n) (a1n:=a1n) (a2n:=a2n) (a0:=a0) (a1:=a1) (a2:=a2) (a3:=a3) hc h3 hl hv (now:=now) (e::r) (i+1) nn (by simp) h3' (by simp only [Jz];omega) (by omega)
   rw [A5 (by simp [hv']),←ih]
   try unfold Aa
   repeat first
    |((with_reducible first|apply Ay|apply Ao|apply Az|apply A6|apply Ba|apply Bf|apply Cv|apply Am);· first|with_reducible rfl|(simp (disch:=omega) only [nt,nt1,PU,c0,c1,c2,c3,c4,c5,c6,c7,c8,c9,c10,c11,c12,lk,e0,w,eb,w1,q0,es,q3',q4',vq,v0,C8]<;>with_reducible rfl))
    |((with_reducible first|apply Aw|apply Av);· first|with_reducible rfl|omega|(simp (disch:=omega) only [gT,nt,nt1,PU,c0,c1,c2,c3,c4,c5,c6,c7,c8,c9,c10,c11,c12,lk,e0,w,eb,w1,q0,es,q3',q4',vq,v0,C8]<;>omega))
    |(with_reducible apply Ax;· first|with_reducible rfl|(simp (disch:=omega) only [gF,nt,nt1,PU,c0,c1,c2,c3,c4,c5,c6,c7,c8,c9,c10,c11,c12,lk,e0,w,eb,w1,q0,es,q3',q4',vq,v0,C8]<;>omega))
   try simp (disch:=omega) only [nt,nt1,PU,c0,c1,c2,c3,c4,c5,c6,c7,c8,c9,c10,c11,c12,lk,e0,w,eb,w1,q0,es,q3',q4',vq,v0,C8]
   all_goals rfl
  ·have v0:(DJ c e.key != 0)=true:=by simp [hv']
   rw [B4 hv']
   try unfold Aa
   repeat first
    |((with_reducible first|apply Ay|apply Ao|apply Az|apply A6|apply Ba|apply Bf|apply Cv|apply Am);· first|with_reducible rfl|(simp (disch:=omega) only [nt,nt1,PU,c0,c1,c2,c3,c4,c5,c6,c7,c8,c9,c10,c11,c12,lk,e0,w,eb,w1,q0,es,q3',q4',vq,v0,C8]<;>with_reducible rfl))
    |((with_reducible first|apply Aw|apply Av);· first|with_reducible rfl|omega|(simp (disch:=omega) only [gT,nt,nt1,PU,c0,c1,c2,c3,c4,c5,c6,c7,c8,c9,c10,c11,c12,lk,e0,w,eb,w1,q0,es,q3',q4',vq,v0,C8]<;>omega))
    |(with_reducible apply Ax;· first|with_reducible rfl|(simp (disch:=omega) only [gF,nt,nt1,PU,c0,c1,c2,c3,c4,c5,c6,c7,c8,c9,c10,c11,c12,lk,e0,w,eb,w1,q0,es,q3',q4',vq,v0,C8]<;>omega))
   try simp (disch:=omega) only [nt,nt1,PU,c0,c1,c2,c3,c4,c5,c6,c7,c8,c9,c10,c11,c12,lk,e0,w,eb,w1,q0,es,q3',q4',vq,v0,C8]
   all_goals rfl
theorem WU (hfu:1000<=fu){cs:List Ce}(hc:∀c∈cs,c.in_){ans:List An}(hl:ans.length<=900){vs:List Rv}(hv:vs.length<=900)(now:Int):
  Ad C0 Tryz.prog fu (d+10) Oi [.lst false 13 cs.length (H5 cs),.lst false 3 ans.length (BT ans),.lst false 3 vs.length (Tg vs),.sc (.int .i64 now)]=some ⟨[.sc (.int .i64 (XA cs ans vs now).1),.sc (.int .i64 (XA cs ans vs now).2)],[]⟩:=by
 rw [Yk];unfold XA;by_cases h1:now<0
 ·rw [B4 h1]
  try unfold Aa
  repeat first
   |((with_reducible first|apply Ay|apply Ao|apply Az|apply A6|apply Ba|apply Bf|apply Cv|apply Am);· first|with_reducible rfl|(simp (disch:=omega) only [Cb]<;>with_reducible rfl))
   |((with_reducible first|apply Aw|apply Av);· first|with_reducible rfl|omega|(simp (disch:=omega) only [gT,Cb]<;>omega))
   |(with_reducible apply Ax;· first|with_reducible rfl|(simp (disch:=omega) only [gF,Cb]<;>omega))
  try simp (disch:=omega) only [Cb]
  all_goals rfl
 rw [A5 h1];by_cases h2:now>1099511627776
 ·rw [B4 h2]
  try unfold Aa
  repeat first
   |((with_reducible first|apply Ay|apply Ao|apply Az|apply A6|apply Ba|apply Bf|apply Cv|apply Am);· first|with_reducible rfl|(simp (disch:=omega) only [Cb]<;>with_reducible rfl))
   |((with_reducible first|apply Aw|apply Av);· first|with_reducible rfl|omega|(simp (disch:=omega) only [gT,Cb]<;>omega))
   |(with_reducible apply Ax;· first|with_reducible rfl|(simp (disch:=omega) only [gF,Cb]<;>omega))
  try simp (disch:=omega) only [Cb]
  all_goals rfl
 rw [A5 h2];by_cases h3:cs.length<1
 ·rw [B4 h3]
  try unfold Aa
  repeat first
   |((with_reducible first|apply Ay|apply Ao|apply Az|apply A6|apply Ba|apply Bf|apply Cv|apply Am);· first|with_reducible rfl|(simp (disch:=omega) only [Cb]<;>with_reducible rfl))
   |((with_reducible first|apply Aw|apply Av);· first|with_reducible rfl|omega|(simp (disch:=omega) only [gT,Cb]<;>omega))
   |(with_reducible apply Ax;· first|with_reducible rfl|(simp (disch:=omega) only [gF,Cb]<;>omega))
  try simp (disch:=omega) only [Cb]
  all_goals rfl
 rw [A5 h3];by_cases h4:cs.length>3
 ·rw [B4 h4]
  try unfold Aa
  repeat first
   |((with_reducible first|apply Ay|apply Ao|apply Az|apply A6|apply Ba|apply Bf|apply Cv|apply Am);· first|with_reducible rfl|(simp (disch:=omega) only [Cb]<;>with_reducible rfl))
   |((with_reducible first|apply Aw|apply Av);· first|with_reducible rfl|omega|(simp (disch:=omega) only [gT,Cb]<;>omega))
   |(with_reducible apply Ax;· first|with_reducible rfl|(simp (disch:=omega) only [gF,Cb]<;>omega))
  try simp (disch:=omega) only [Cb]
  all_goals rfl
 rw [A5 h4];have lp:=OD (fu:=fu) (d:=d) hfu (a0n:=cs.length) (a1n:=ans.length) (a2n:=vs.length) (a0:=H5 cs) (a1:=BT ans) (a2:=Tg vs) (a3:=now) hc (by omega) hl hv (now:=now) cs 0 fu (by intro h;subst h;simp at h3) rfl (by omega) (by omega)
 rw [←lp]
 try unfold Aa
 repeat first
  |((with_reducible first|apply Ay|apply Ao|apply Az|apply A6|apply Ba|apply Bf|apply Cv|apply Am);· first|with_reducible rfl|(simp (disch:=omega) only [Cb]<;>with_reducible rfl))
  |((with_reducible first|apply Aw|apply Av);· first|with_reducible rfl|omega|(simp (disch:=omega) only [gT,Cb]<;>omega))
  |(with_reducible apply Ax;· first|with_reducible rfl|(simp (disch:=omega) only [gF,Cb]<;>omega))
 try simp (disch:=omega) only [Cb]
 all_goals rfl
end
end
section
open Go.IntKind (wrap)
set_option maxRecDepth 100000
abbrev Pz:FuncId:=11
theorem AP (fu d a0n:Nat)(a0:List PV):Ad C0 Tryz.prog fu (d+1) Pz [.lst false 1 a0n a0]=(fun (call:Ai)=>some (Au.mk [.pbox [.lst false 1 a0n a0,.sc (.int .i64 0)]] [])) (Ad C0 Tryz.prog fu d):=by kernel_rfl
abbrev P7:FuncId:=16
theorem AQ (fu d:Nat)(a0 a1:Int):Ad C0 Tryz.prog fu (d+1) P7 [.sc (.int .i64 a0),.sc (.int .i64 a1)]=(fun (call:Ai)=>Aa (wrap .u64 a0) fun x1=>Aa (wrap .u64 a1) fun x2=>Ap (decide (x2≠0))<|Aa (Int.tmod x1 x2) fun x3=>Aa (wrap .i64 x3) fun x4=>some (Au.mk [.sc (.int .i64 x4)] [])) (Ad C0 Tryz.prog fu d):=by kernel_rfl
abbrev Iu:FuncId:=14
theorem Iq (fu d a0_0n:Nat)(a0_0:List PV)(a0_1 a1:Int):Ad C0 Tryz.prog fu (d+1) Iu [.pbox [.lst false 1 a0_0n a0_0,.sc (.int .i64 a0_1)],.sc (.int .i64 a1)]=(fun (call:Ai)=>Bb (decide (a0_1>=(↑a0_0n:Int))) (some (Au.mk [.sc (.int .i64 0)] [[.lst false 1 a0_0n a0_0,.sc (.int .i64 a0_1)]])) (Aa (wrap .i64 (a0_1+1)) fun x1=>Aa (wrap .i64 (x1-1)) fun x2=>Ap (decide (0<=x2)&&decide (x2<(↑a0_0n:Int)))<|Ae .i64 (List.getD a0_0 (Int.toNat x2*1) .top) fun x3=>Ag (call 16 [.sc (.int .i64 x3),.sc (.int .i64 a1)]) fun x4 x5=>Ac x5<|Ab x4 fun x6 x7=>Ae .i64 x6 fun x8=>Ac x7<|some (Au.mk [.sc (.int .i64 x8)] [[.lst false 1 a0_0n a0_0,.sc (.int .i64 x1)]]))) (Ad C0 Tryz.prog fu d):=by kernel_rfl
end
section
open Go.IntKind (wrap)
abbrev dkc (l:List Int)(a:Nat):List PV:=[.lst false 1 l.length (Af .i64 l),.sc (.int .i64 (a:Int))]
theorem Alw {fu d:Nat}{l:List Int}:Ad C0 Tryz.prog fu (d+1) Pz [.lst false 1 l.length (Af .i64 l)]=some ⟨[.pbox (dkc l 0)],[]⟩:=by
 rw [AP];rfl
theorem Am4 (v n:Int)(hn:0<n)(hm:n<=9223372036854775807):∃r,0<=r∧r<n∧∀{fu d:Nat},Ad C0 Tryz.prog fu (d+1) P7 [.sc (.int .i64 v),.sc (.int .i64 n)]=some ⟨[.sc (.int .i64 r)],[]⟩:=by
 have h1:=Bd v;have h2:wrap .u64 n=n:=Ci (by omega) (by omega)
 have h3:0<=Int.tmod (wrap .u64 v) n:=Int.tmod_nonneg _ h1.1;have h4:Int.tmod (wrap .u64 v) n<n:=Int.tmod_lt_of_pos _ hn;refine ⟨_,h3,h4,fun {fu d}=>?_⟩
 rw [AQ];simp only [Gw,h2];rw [RY _ _ (by omega),Ak (by omega) (by omega)]
theorem Gu {l:List Int}(hl:l.length<=maxLen)(a:Nat)(n:Int)(hn:0<n)(hm:n<=9223372036854775807):∃(v:Int)(a':Nat),0<=v∧v<n ∧
  ∀{fu d:Nat},Ad C0 Tryz.prog fu (d+2) Iu [.pbox (dkc l a),.sc (.int .i64 n)]=some ⟨[.sc (.int .i64 v)],[dkc l a']⟩:=by
 simp only [maxLen] at hl;by_cases h:a<l.length
 ·obtain ⟨r,h1,h2,h3⟩:=Am4 l[a] n hn hm;refine ⟨r,a+1,h1,h2,fun {fu d}=>?_⟩
  rw [Iq]
  have hg:(Af .i64 l).getD (Int.toNat ((a:Int)+1-1)*1) .top=.sc (.int .i64 l[a]):=by
   have:=W5 (k:=.i64) (List.getElem?_eq_getElem h);rw [show Int.toNat ((a:Int)+1-1)*1=a by omega]
   exact this
  simp (disch:=omega) only [Bv,Ak,hg,h3];rfl
 ·refine ⟨0,a,by omega,hn,fun {fu d}=>?_⟩
  rw [Iq];simp (disch:=omega) only [Bv]
end
section
open Go.IntKind (wrap)
set_option maxRecDepth 100000
abbrev Qf:FuncId:=29
theorem Zs (fu d:Nat)(a0 a1:Int):Ad C0 Tryz.prog fu (d+1) Qf [.sc (.int .u64 a0),.sc (.int .i64 a1)]=(fun (call:Ai)=>Ag (call 18 [.sc (.int .u64 a0),.sc (.int .i64 a1)]) fun x1 x2=>Ac x2<|Ab x1 fun x3 x4=>Dm x3 fun x5=>Ab x5 fun x6 x7=>Ae .i64 x6 fun x8=>Ab x7 fun x9 Cg=>Ae .u64 x9 fun Cj=>Ac Cg<|Ab x4 fun Dd Dk=>Ae .i64 Dd fun C6=>Ac Dk<|some (Au.mk [.agg [.sc (.int .i64 x8),.sc (.int .u64 Cj)]] [])) (Ad C0 Tryz.prog fu d):=by kernel_rfl
end
section
open Go.IntKind (wrap)
set_option maxRecDepth 1000000
section
variable {fu d:Nat}
theorem Aix (hfu:1000<=fu)(seed h:Int):Ad C0 Tryz.prog fu (d+13) Qf [.sc (.int .u64 seed),.sc (.int .i64 h)]=some ⟨[.agg (K0 seed h).cells],[]⟩:=by
 rw [Zs];have p:=LQ (fu:=fu) (d:=d) hfu seed h;simp only [Ky.cells] at p ⊢;simp only [Bv,p]
end
theorem SR (dom:Int)(l:List Int):isU (M1 dom l):=Bd _
theorem Amg (key dom:Int)(l:List Int):isU (Akr key dom l):=Bd _
theorem Agi (leaf chain:Int):∀(k:Nat)(p:Int){x:Int},isU x->isU (Qo leaf chain k p x)
 |0,_,_,h=>h
 |k+1,p,x,h=>Agi leaf chain k (p+1) (SR _ _)
theorem Amx (seed leaf m:Int):isW (H4 seed leaf m):=by
 intro x hx;obtain ⟨k,_,rfl⟩:=List.mem_map.1 hx;exact Agi _ _ _ _ (Amg _ _ _)
theorem Ab1 (seed:Int):∀(l:Nat)(i:Int),isU (Bu seed l i)
 |0,i=>SR _ _
 |l+1,i=>SR _ _
theorem QA (seed h:Int):isU (K0 seed h).root:=by
 unfold K0;split
 ·exact ⟨by simp,by simp⟩
 ·exact Ab1 _ _ _
theorem Ads (seed h:Int):Cx (K0 seed h).h=false:=by
 unfold K0;cases hh:Cx h
 ·rw [A5 (by simp)]
  exact hh
 ·rw [B4 rfl];rfl
theorem Aj3 {seed h leaf m:Int}(hh:Cx h=false)(ho:Hb leaf h=false):∃s,AV seed h leaf m=some s∧s.ok∧s.leaf=leaf∧s.chains.length=18∧(s.path.length:Int)=h∧WA (K0 seed h) m s=0:=by
 have hb:=G8 hh;refine ⟨⟨leaf,H4 seed leaf m,(List.range h.toNat).map fun k=>Bu seed k (Fe leaf k)⟩,?_,⟨Amx _ _ _,?_⟩,rfl,by simp [H4],?_,Aih hh ho⟩
 ·unfold AV;rw [A5 (by simp [hh]),A5 (by simp [ho])]
 ·intro x hx;obtain ⟨k,_,rfl⟩:=List.mem_map.1 hx;exact Ab1 _ _ _
 ·simp only [List.length_map,List.length_range];omega
end
section
open Go.IntKind (wrap)
set_option maxRecDepth 100000
abbrev Nz:FuncId:=17
theorem Yt (fu d:Nat)(a0_0 a0_1:ByteArray)(a0_2 a0_3:Int)(a0_4 a0_5 a0_6:Int)(a0_7:Bool)(a0_8 a0_9 a0_10:Int)(a0_11n:Nat)(a0_11:List PV)(a0_12n:Nat)(a0_12:List PV)(a1 a2 a3:Int):Ad C0 Tryz.prog fu (d+1) Nz [.agg [.sc (.string a0_0),.sc (.string a0_1),.sc (.int .u64 a0_2),.sc (.int .i64 a0_3),.sc (.int .u64 a0_4),.sc (.int .i64 a0_5),.sc (.int .i64 a0_6),.sc (.bool a0_7),.sc (.int .i64 a0_8),.sc (.int .u64 a0_9),.sc (.int .i64 a0_10),.lst false 1 a0_11n a0_11,.lst false 1 a0_12n a0_12],.sc (.int .u64 a1),.sc (.int .i64 a2),.sc (.int .i64 a3)]=(fun (call:Ai)=>Ag (call 36 [.agg [.sc (.string a0_0),.sc (.string a0_1),.sc (.int .u64 a0_2),.sc (.int .i64 a0_3),.sc (.int .u64 a0_4),.sc (.int .i64 a0_5),.sc (.int .i64 a0_6),.sc (.bool a0_7),.sc (.int .i64 a0_8),.sc (.int .u64 a0_9),.sc (.int .i64 a0_10),.lst false 1 a0_11n a0_11,.lst false 1 a0_12n a0_12]]) fun x1 x2=>Ac x2<|Ab x1 fun x3 x4=>Ae .u64 x3 fun x5=>Ab x4 fun x6 x7=>Ae .i64 x6 fun x8=>Ac x7<|Bb (x8 != 0) (some (Au.mk [.agg [.sc (.string (ByteArray.mk #[])),.sc (.string (ByteArray.mk #[])),.sc (.int .u64 0),.sc (.int .i64 0),.sc (.int .u64 0),.sc (.int .i64 0),.sc (.int .i64 0),.sc (.bool false),.sc (.int .i64 0),.sc (.int .u64 0),.sc (.int .i64 0),.lst false 1 0 [],.lst false 1 0 []],.sc (.int .i64 x8)] [])) (Ag (call 37 [.sc (.int .u64 a1),.sc (.int .i64 a2),.sc (.int .i64 a3),.sc (.int .u64 x5)]) fun x9 Cg=>Ac Cg<|Ab x9 fun Cj Dd=>Dm Cj fun Dk=>Ab Dk fun C6 Du=>Ae .i64 C6 fun D7=>Ab Du fun Ed Ex=>Ho 1 Ed fun Eu E5 Hq=>Ab Ex fun Gn G3=>Ho 1 Gn fun Ds De Fx=>Ac G3<|Ab Dd fun Hp Es=>Ae .i64 Hp fun I8=>Ac Es<|Bb (I8 != 0) (some (Au.mk [.agg [.sc (.string (ByteArray.mk #[])),.sc (.string (ByteArray.mk #[])),.sc (.int .u64 0),.sc (.int .i64 0),.sc (.int .u64 0),.sc (.int .i64 0),.sc (.int .i64 0),.sc (.bool false),.sc (.int .i64 0),.sc (.int .u64 0),.sc (.int .i64 0),.lst false 1 0 [],.lst false 1 0 []],.sc (.int .i64 I8)] [])) (some (Au.mk [.agg [.sc (.string a0_0),.sc (.string a0_1),.sc (.int .u64 a0_2),.sc (.int .i64 a0_3),.sc (.int .u64 a0_4),.sc (.int .i64 a0_5),.sc (.int .i64 a0_6),.sc (.bool a0_7),.sc (.int .i64 a0_8),.sc (.int .u64 a0_9),.sc (.int .i64 D7),.lst false 1 E5 Hq,.lst false 1 De Fx],.sc (.int .i64 0)] [])))) (Ad C0 Tryz.prog fu d):=by kernel_rfl
end
section
open Go.IntKind (wrap)
set_option maxRecDepth 100000
abbrev Gj:FuncId:=12
theorem Kn (fu d a0_0n:Nat)(a0_0:List PV)(a0_1:Int):Ad C0 Tryz.prog fu (d+1) Gj [.pbox [.lst false 1 a0_0n a0_0,.sc (.int .i64 a0_1)]]=(fun (call:Ai)=>Ag (call 14 [.pbox [.lst false 1 a0_0n a0_0,.sc (.int .i64 a0_1)],.sc (.int .i64 5)]) fun x1 x2=>Ab x1 fun x3 x4=>Ae .i64 x3 fun x5=>Ac x4<|Ab x2 fun x6 x7=>Ab x6 fun x8 x9=>Ho 1 x8 fun Cg Cj Dd=>Ab x9 fun Dk C6=>Ae .i64 Dk fun Du=>Ac C6<|Ac x7<|Aa (wrap .u64 x5) fun D7=>Ag (call 14 [.pbox [.lst false 1 Cj Dd,.sc (.int .i64 Du)],.sc (.int .i64 3)]) fun Ed Ex=>Ab Ed fun Eu E5=>Ae .i64 Eu fun Hq=>Ac E5<|Ab Ex fun Gn G3=>Ab Gn fun Ds De=>Ho 1 Ds fun Fx Hp Es=>Ab De fun I8 Lg=>Ae .i64 I8 fun Jw=>Ac Lg<|Ac G3<|Ag (call 18 [.sc (.int .u64 D7),.sc (.int .i64 Hq)]) fun J4 Ka=>Ac Ka<|Ab J4 fun Mo O9=>Dm Mo fun Qs=>Ab Qs fun Qj Gs=>Ae .i64 Qj fun H0=>Ab Gs fun Sn Y2=>Ae .u64 Sn fun Lh=>Ac Y2<|Ab O9 fun Tv Tr=>Ae .i64 Tv fun Tk=>Ac Tr<|Ag (call 14 [.pbox [.lst false 1 Hp Es,.sc (.int .i64 Jw)],.sc (.int .i64 9)]) fun Sj Xn=>Ab Sj fun X3 R4=>Ae .i64 X3 fun Vw=>Ac R4<|Ab Xn fun Xk Wt=>Ab Xk fun Om Xr=>Ho 1 Om fun CG BC CI=>Ab Xr fun Tw Yo=>Ae .i64 Tw fun CF=>Ac Yo<|Ac Wt<|Aa (if 4<Vw then 4 else Vw) fun Xe=>Ap (decide (0<=Xe)&&decide (Xe<5))<|C4 (List.getD [.sc (.string (ByteArray.mk #[108,101,97,102])),.sc (.string (ByteArray.mk #[109,105,100])),.sc (.string (ByteArray.mk #[116,111,112])),.sc (.string (ByteArray.mk #[])),.sc (.string (ByteArray.mk #[255]))] (0+Int.toNat Xe*1) .top) fun Tx=>Ag (call 14 [.pbox [.lst false 1 BC CI,.sc (.int .i64 CF)],.sc (.int .i64 4)]) fun CD Uv=>Ab CD fun Xd Wl=>Ae .i64 Xd fun V6=>Ac Wl<|Ab Uv fun Xc Xh=>Ab Xc fun Ze Yy=>Ho 1 Ze fun CE GW DQ=>Ab Yy fun ES HE=>Ae .i64 ES fun CH=>Ac HE<|Ac Xh<|Ap (decide (0<=V6)&&decide (V6<4))<|C4 (List.getD [.sc (.string (ByteArray.mk #[114,111,111,116])),.sc (.string (ByteArray.mk #[109,105,100])),.sc (.string (ByteArray.mk #[116,111,112])),.sc (.string (ByteArray.mk #[111,116,104,101,114]))] (0+Int.toNat V6*1) .top) fun V4=>Ag (call 14 [.pbox [.lst false 1 GW DQ,.sc (.int .i64 CH)],.sc (.int .i64 4)]) fun MB MD=>Ab MB fun XP WR=>Ae .i64 XP fun TB=>Ac WR<|Ab MD fun TC TN=>Ab TC fun TL TJ=>Ho 1 TL fun TK HA ON=>Ab TJ fun UD VL=>Ae .i64 UD fun XO=>Ac VL<|Ac TN<|Aa (wrap .u64 TB) fun HL=>Ag (call 14 [.pbox [.lst false 1 HA ON,.sc (.int .i64 XO)],.sc (.int .i64 20)]) fun x95 ZY=>Ab x95 fun TI XQ=>Ae .i64 TI fun EI=>Ac XQ<|Ab ZY fun Wm Va=>Ab Wm fun Hc Jd=>Ho 1 Hc fun Zw Sf Ru=>Ab Jd fun J0 Wi=>Ae .i64 J0 fun Yf=>Ac Wi<|Ac Va<|Ag (call 14 [.pbox [.lst false 1 Sf Ru,.sc (.int .i64 Yf)],.sc (.int .i64 60)]) fun Yq Zb=>Ab Yq fun H1 Js=>Ae .i64 H1 fun Xy=>Ac Js<|Ab Zb fun Ya Ye=>Ab Ya fun EK Yg=>Ho 1 EK fun Wk Yu Yv=>Ab Yg fun BU Za=>Ae .i64 BU fun Ys=>Ac Za<|Ac Ye<|Aa (wrap .i64 (20+Xy)) fun Pj=>Ag (call 14 [.pbox [.lst false 1 Yu Yv,.sc (.int .i64 Ys)],.sc (.int .i64 2)]) fun Pm Sx=>Ab Pm fun Yh X4=>Ae .i64 Yh fun Lf=>Ac X4<|Ab Sx fun EQ Yr=>Ab EQ fun Ut BW=>Ho 1 Ut fun GT CL GM=>Ab BW fun DB Yp=>Ae .i64 DB fun AK=>Ac Yp<|Ac Yr<|Ag (call 14 [.pbox [.lst false 1 CL GM,.sc (.int .i64 AK)],.sc (.int .i64 3)]) fun ED DE=>Ab ED fun EE Xu=>Ae .i64 EE fun Zz=>Ac Xu<|Ab DE fun Zp Z6=>Ab Zp fun DH JO=>Ho 1 DH fun MG GH Wf=>Ab JO fun EB KC=>Ae .i64 EB fun NH=>Ac KC<|Ac Z6<|Aa (wrap .u64 Zz) fun Tt=>Bb (Lf==1) (Ag (call 14 [.pbox [.lst false 1 GH Wf,.sc (.int .i64 NH)],.sc (.int .i64 3)]) fun NB JY=>Ab NB fun MV SM=>Ae .i64 MV fun HQ=>Ac SM<|Ab JY fun NC RA=>Ab NC fun KD MJ=>Ho 1 KD fun ZD IY MH=>Ab MJ fun SG QX=>Ae .i64 SG fun UB=>Ac QX<|Ac RA<|Ag (call 14 [.pbox [.lst false 1 IY MH,.sc (.int .i64 UB)],.sc (.int .i64 14)]) fun YI YF=>Ab YI fun ZT SK=>Ae .i64 ZT fun MP=>Ac SK<|Ab YF fun ZW Aam=>Ab ZW fun Aau Afd=>Ho 1 Aau fun Akv JM MZ=>Ab Afd fun Aga Ag5=>Ae .i64 Aga fun RG=>Ac Ag5<|Ac Aam<|Bb (MP==13) (Aa (wrap .i64 (EI-1)) fun Agj=>some (Au.mk [.agg [.sc (.string Tx),.sc (.string V4),.sc (.int .u64 HL),.sc (.int .i64 H0),.sc (.int .u64 Lh),.sc (.int .i64 EI),.sc (.int .i64 Agj),.sc (.bool (Lf==1)),.sc (.int .i64 HQ),.sc (.int .u64 Tt),.sc (.int .i64 0),.own 1 0 [],.own 1 0 []]] [[.lst false 1 JM MZ,.sc (.int .i64 RG)]])) (Bb (MP==12) (some (Au.mk [.agg [.sc (.string Tx),.sc (.string V4),.sc (.int .u64 HL),.sc (.int .i64 H0),.sc (.int .u64 Lh),.sc (.int .i64 EI),.sc (.int .i64 Pj),.sc (.bool (Lf==1)),.sc (.int .i64 3),.sc (.int .u64 Tt),.sc (.int .i64 0),.own 1 0 [],.own 1 0 []]] [[.lst false 1 JM MZ,.sc (.int .i64 RG)]])) (Bb (MP==11) (some (Au.mk [.agg [.sc (.string Tx),.sc (.string V4),.sc (.int .u64 HL),.sc (.int .i64 5),.sc (.int .u64 Lh),.sc (.int .i64 EI),.sc (.int .i64 Pj),.sc (.bool (Lf==1)),.sc (.int .i64 HQ),.sc (.int .u64 Tt),.sc (.int .i64 0),.own 1 0 [],.own 1 0 []]] [[.lst false 1 JM MZ,.sc (.int .i64 RG)]])) (Bb (MP==10) (some (Au.mk [.agg [.sc (.string Tx),.sc (.string V4),.sc (.int .u64 HL),.sc (.int .i64 H0),.sc (.int .u64 Lh),.sc (.int .i64 EI),.sc (.int .i64 Pj),.sc (.bool (Lf==1)),.sc (.int .i64 1),.sc (.int .u64 Tt),.sc (.int .i64 0),.own 1 0 [],.own 1 0 []]] [[.lst false 1 JM MZ,.sc (.int .i64 RG)]])) (some (Au.mk [.agg [.sc (.string Tx),.sc (.string V4),.sc (.int .u64 HL),.sc (.int .i64 H0),.sc (.int .u64 Lh),.sc (.int .i64 EI),.sc (.int .i64 Pj),.sc (.bool (Lf==1)),.sc (.int .i64 HQ),.sc (.int .u64 Tt),.sc (.int .i64 0),.own 1 0 [],.own 1 0 []]] [[.lst false 1 JM MZ,.sc (.int .i64 RG)]])))))) (Ag (call 14 [.pbox [.lst false 1 GH Wf,.sc (.int .i64 NH)],.sc (.int .i64 14)]) fun Ahj Agu=>Ab Ahj fun Ahl Aif=>Ae .i64 Ahl fun UU=>Ac Aif<|Ab Agu fun Af0 Afr=>Ab Af0 fun Agf Agy=>Ho 1 Agf fun Aoq XW Aan=>Ab Agy fun Alx Al2=>Ae .i64 Alx fun YE=>Ac Al2<|Ac Afr<|Bb (UU==13) (Aa (wrap .i64 (EI-1)) fun Amr=>some (Au.mk [.agg [.sc (.string Tx),.sc (.string V4),.sc (.int .u64 HL),.sc (.int .i64 H0),.sc (.int .u64 Lh),.sc (.int .i64 EI),.sc (.int .i64 Amr),.sc (.bool (Lf==1)),.sc (.int .i64 0),.sc (.int .u64 Tt),.sc (.int .i64 0),.own 1 0 [],.own 1 0 []]] [[.lst false 1 XW Aan,.sc (.int .i64 YE)]])) (Bb (UU==12) (some (Au.mk [.agg [.sc (.string Tx),.sc (.string V4),.sc (.int .u64 HL),.sc (.int .i64 H0),.sc (.int .u64 Lh),.sc (.int .i64 EI),.sc (.int .i64 Pj),.sc (.bool (Lf==1)),.sc (.int .i64 3),.sc (.int .u64 Tt),.sc (.int .i64 0),.own 1 0 [],.own 1 0 []]] [[.lst false 1 XW Aan,.sc (.int .i64 YE)]])) (Bb (UU==11) (some (Au.mk [.agg [.sc (.string Tx),.sc (.string V4),.sc (.int .u64 HL),.sc (.int .i64 5),.sc (.int .u64 Lh),.sc (.int .i64 EI),.sc (.int .i64 Pj),.sc (.bool (Lf==1)),.sc (.int .i64 0),.sc (.int .u64 Tt),.sc (.int .i64 0),.own 1 0 [],.own 1 0 []]] [[.lst false 1 XW Aan,.sc (.int .i64 YE)]])) (Bb (UU==10) (some (Au.mk [.agg [.sc (.string Tx),.sc (.string V4),.sc (.int .u64 HL),.sc (.int .i64 H0),.sc (.int .u64 Lh),.sc (.int .i64 EI),.sc (.int .i64 Pj),.sc (.bool (Lf==1)),.sc (.int .i64 1),.sc (.int .u64 Tt),.sc (.int .i64 0),.own 1 0 [],.own 1 0 []]] [[.lst false 1 XW Aan,.sc (.int .i64 YE)]])) (some (Au.mk [.agg [.sc (.string Tx),.sc (.string V4),.sc (.int .u64 HL),.sc (.int .i64 H0),.sc (.int .u64 Lh),.sc (.int .i64 EI),.sc (.int .i64 Pj),.sc (.bool (Lf==1)),.sc (.int .i64 0),.sc (.int .u64 Tt),.sc (.int .i64 0),.own 1 0 [],.own 1 0 []]] [[.lst false 1 XW Aan,.sc (.int .i64 YE)]]))))))) (Ad C0 Tryz.prog fu d):=by kernel_rfl
abbrev Lq:FuncId:=9
theorem Vc (fu d:Nat)(a0_0 a0_1:ByteArray)(a0_2 a0_3:Int)(a0_4 a0_5 a0_6:Int)(a0_7:Bool)(a0_8 a0_9 a0_10:Int)(a0_11n:Nat)(a0_11:List PV)(a0_12n:Nat)(a0_12:List PV):Ad C0 Tryz.prog fu (d+1) Lq [.agg [.sc (.string a0_0),.sc (.string a0_1),.sc (.int .u64 a0_2),.sc (.int .i64 a0_3),.sc (.int .u64 a0_4),.sc (.int .i64 a0_5),.sc (.int .i64 a0_6),.sc (.bool a0_7),.sc (.int .i64 a0_8),.sc (.int .u64 a0_9),.sc (.int .i64 a0_10),.lst false 1 a0_11n a0_11,.lst false 1 a0_12n a0_12]]=(fun (call:Ai)=>Bb (decide ((↑(ByteArray.size a0_0):Int)<100)) (Bb (decide ((↑(ByteArray.size a0_1):Int)<100)) (Bb (decide ((↑a0_11n:Int)<40)) (some (Au.mk [.sc (.bool (decide ((↑a0_12n:Int)<10)))] [])) (some (Au.mk [.sc (.bool false)] []))) (some (Au.mk [.sc (.bool false)] []))) (some (Au.mk [.sc (.bool false)] []))) (Ad C0 Tryz.prog fu d):=by kernel_rfl
abbrev J5:FuncId:=15
theorem To (fu d:Nat)(a0_0 a0_1:ByteArray)(a0_2 a0_3:Int)(a0_4 a0_5 a0_6:Int)(a0_7:Bool)(a0_8 a0_9 a0_10:Int)(a0_11n:Nat)(a0_11:List PV)(a0_12n:Nat)(a0_12:List PV):Ad C0 Tryz.prog fu (d+1) J5 [.agg [.sc (.string a0_0),.sc (.string a0_1),.sc (.int .u64 a0_2),.sc (.int .i64 a0_3),.sc (.int .u64 a0_4),.sc (.int .i64 a0_5),.sc (.int .i64 a0_6),.sc (.bool a0_7),.sc (.int .i64 a0_8),.sc (.int .u64 a0_9),.sc (.int .i64 a0_10),.lst false 1 a0_11n a0_11,.lst false 1 a0_12n a0_12]]=(fun (call:Ai)=>Ag (call 35 [.agg [.sc (.string a0_0),.sc (.string a0_1),.sc (.int .u64 a0_2),.sc (.int .i64 a0_3),.sc (.int .u64 a0_4),.sc (.int .i64 a0_5),.sc (.int .i64 a0_6),.sc (.bool a0_7),.sc (.int .i64 a0_8),.sc (.int .u64 a0_9),.sc (.int .i64 a0_10),.lst false 1 a0_11n a0_11,.lst false 1 a0_12n a0_12]]) fun x1 x2=>Ac x2<|Ab x1 fun x3 x4=>D0 1 x3 fun x5 x6=>Ab x4 fun x7 x8=>Ae .i64 x7 fun x9=>Ac x8<|Ag (call 32 [.agg [.sc (.string a0_0),.sc (.string a0_1),.sc (.int .u64 a0_2),.sc (.int .i64 a0_3),.sc (.int .u64 a0_4),.sc (.int .i64 a0_5),.sc (.int .i64 a0_6),.sc (.bool a0_7),.sc (.int .i64 a0_8),.sc (.int .u64 a0_9),.sc (.int .i64 a0_10),.lst false 1 a0_11n a0_11,.lst false 1 a0_12n a0_12]]) fun Cg Cj=>Ac Cj<|Ab Cg fun Dd Dk=>D0 1 Dd fun C6 Du=>Ab Dk fun D7 Ed=>Ae .i64 D7 fun Ex=>Ac Ed<|Ag (call 30 [.agg [.sc (.string a0_0),.sc (.string a0_1),.sc (.int .u64 a0_2),.sc (.int .i64 a0_3),.sc (.int .u64 a0_4),.sc (.int .i64 a0_5),.sc (.int .i64 a0_6),.sc (.bool a0_7),.sc (.int .i64 a0_8),.sc (.int .u64 a0_9),.sc (.int .i64 a0_10),.lst false 1 a0_11n a0_11,.lst false 1 a0_12n a0_12]]) fun Eu E5=>Ac E5<|Ab Eu fun Hq Gn=>D0 1 Hq fun G3 Ds=>Ab Gn fun De Fx=>Ae .i64 De fun Hp=>Ac Fx<|Ag (call 22 [.agg [.sc (.string a0_0),.sc (.string a0_1),.sc (.int .u64 a0_2),.sc (.int .i64 a0_3),.sc (.int .u64 a0_4),.sc (.int .i64 a0_5),.sc (.int .i64 a0_6),.sc (.bool a0_7),.sc (.int .i64 a0_8),.sc (.int .u64 a0_9),.sc (.int .i64 a0_10),.lst false 1 a0_11n a0_11,.lst false 1 a0_12n a0_12]]) fun Es I8=>Ac I8<|Ab Es fun Lg Jw=>D0 1 Lg fun J4 Ka=>Ab Jw fun Mo O9=>Ae .i64 Mo fun Qs=>Ac O9<|Ap (decide (0+x5*1<=x6.length))<|Ap (decide (List.length (List.take (x5*1) (List.drop 0 x6))=x5))<|D8 (bytesOf (List.take (x5*1) (List.drop 0 x6))) fun Qj=>Ap (decide (0+C6*1<=Du.length))<|Ap (decide (List.length (List.take (C6*1) (List.drop 0 Du))=C6))<|D8 (bytesOf (List.take (C6*1) (List.drop 0 Du))) fun Gs=>Bb (Array.toList (ByteArray.data (ByteArray.mk (List.toArray Qj)))==Array.toList (ByteArray.data (ByteArray.mk (List.toArray Gs)))) (Bb (x9==Ex) (Ap (decide (0+G3*1<=Ds.length))<|Ap (decide (List.length (List.take (G3*1) (List.drop 0 Ds))=G3))<|D8 (bytesOf (List.take (G3*1) (List.drop 0 Ds))) fun H0=>Ap (decide (0+J4*1<=Ka.length))<|Ap (decide (List.length (List.take (J4*1) (List.drop 0 Ka))=J4))<|D8 (bytesOf (List.take (J4*1) (List.drop 0 Ka))) fun Sn=>Bb (Array.toList (ByteArray.data (ByteArray.mk (List.toArray H0)))==Array.toList (ByteArray.data (ByteArray.mk (List.toArray Sn)))) (some (Au.mk [.sc (.bool (Hp==Qs))] [])) (some (Au.mk [.sc (.bool false)] []))) (some (Au.mk [.sc (.bool false)] []))) (some (Au.mk [.sc (.bool false)] []))) (Ad C0 Tryz.prog fu d):=by kernel_rfl
abbrev Ln:FuncId:=10
theorem Uk (fu d:Nat):Ad C0 Tryz.prog fu (d+1) Ln []=(fun (call:Ai)=>Ag (call 29 [.sc (.int .u64 5),.sc (.int .i64 1)]) fun x1 x2=>Ac x2<|Ab x1 fun x3 x4=>Dm x3 fun x5=>Ab x5 fun x6 x7=>Ae .i64 x6 fun x8=>Ab x7 fun x9 Cg=>Ae .u64 x9 fun Cj=>Ac Cg<|Ac x4<|Ag (call 17 [.agg [.sc (.string (ByteArray.mk #[108,101,97,102])),.sc (.string (ByteArray.mk #[114,111,111,116])),.sc (.int .u64 9),.sc (.int .i64 x8),.sc (.int .u64 Cj),.sc (.int .i64 1),.sc (.int .i64 8),.sc (.bool false),.sc (.int .i64 0),.sc (.int .u64 0),.sc (.int .i64 0),.lst false 1 0 [],.lst false 1 0 []],.sc (.int .u64 71),.sc (.int .i64 1),.sc (.int .i64 0)]) fun Dd Dk=>Ac Dk<|Ab Dd fun C6 Du=>Dm C6 fun D7=>Ab D7 fun Ed Ex=>C4 Ed fun Eu=>Ab Ex fun E5 Hq=>C4 E5 fun Gn=>Ab Hq fun G3 Ds=>Ae .u64 G3 fun De=>Ab Ds fun Fx Hp=>Ae .i64 Fx fun Es=>Ab Hp fun I8 Lg=>Ae .u64 I8 fun Jw=>Ab Lg fun J4 Ka=>Ae .i64 J4 fun Mo=>Ab Ka fun O9 Qs=>Ae .i64 O9 fun Qj=>Ab Qs fun Gs H0=>Bm Gs fun Sn=>Ab H0 fun Y2 Lh=>Ae .i64 Y2 fun Tv=>Ab Lh fun Tr Tk=>Ae .u64 Tr fun Sj=>Ab Tk fun Xn X3=>Ae .i64 Xn fun R4=>Ab X3 fun Vw Xk=>Ho 1 Vw fun Wt Om Xr=>Ab Xk fun CG BC=>Ho 1 CG fun CI Tw Yo=>Ac BC<|Ab Du fun CF Xe=>Ae .i64 CF fun Tx=>Ac Xe<|Ag (call 30 [.agg [.sc (.string Eu),.sc (.string Gn),.sc (.int .u64 De),.sc (.int .i64 Es),.sc (.int .u64 Jw),.sc (.int .i64 Mo),.sc (.int .i64 Qj),.sc (.bool Sn),.sc (.int .i64 Tv),.sc (.int .u64 Sj),.sc (.int .i64 R4),.lst false 1 Om Xr,.lst false 1 Tw Yo]]) fun CD Uv=>Ac Uv<|Ab CD fun Xd Wl=>D0 1 Xd fun V6 Xc=>Ab Wl fun Xh Ze=>Ae .i64 Xh fun Yy=>Ac Ze<|Ap (decide (0+V6*1<=Xc.length))<|Ag (call 31 [.lst false 1 V6 (List.take (V6*1) (List.drop 0 Xc))]) fun CE GW=>Ac GW<|Ab CE fun DQ ES=>Dm DQ fun HE=>Ab HE fun CH V4=>C4 CH fun MB=>Ab V4 fun MD XP=>C4 MD fun WR=>Ab XP fun TB TC=>Ae .u64 TB fun TN=>Ab TC fun TL TJ=>Ae .i64 TL fun TK=>Ab TJ fun HA ON=>Ae .u64 HA fun UD=>Ab ON fun VL XO=>Ae .i64 VL fun HL=>Ab XO fun x95 ZY=>Ae .i64 x95 fun TI=>Ab ZY fun XQ EI=>Bm XQ fun Wm=>Ab EI fun Va Hc=>Ae .i64 Va fun Jd=>Ab Hc fun Zw Sf=>Ae .u64 Zw fun Ru=>Ab Sf fun J0 Wi=>Ae .i64 J0 fun Yf=>Ab Wi fun Yq Zb=>Ho 1 Yq fun H1 Js Xy=>Ab Zb fun Ya Ye=>Ho 1 Ya fun EK Yg Wk=>Ac Ye<|Ab ES fun Yu Yv=>Ae .i64 Yu fun BU=>Ac Yv<|Ag (call 29 [.sc (.int .u64 71),.sc (.int .i64 1)]) fun Za Ys=>Ac Ys<|Ab Za fun Pj Pm=>Dm Pj fun Sx=>Ab Sx fun Yh X4=>Ae .i64 Yh fun Lf=>Ab X4 fun EQ Yr=>Ae .u64 EQ fun Ut=>Ac Yr<|Ac Pm<|Ag (call 27 [.lst false 13 1 [.sc (.string Eu),.sc (.string Gn),.sc (.int .u64 De),.sc (.int .i64 Es),.sc (.int .u64 Jw),.sc (.int .i64 Mo),.sc (.int .i64 Qj),.sc (.bool Sn),.sc (.int .i64 Tv),.sc (.int .u64 Sj),.sc (.int .i64 R4),.lst false 1 Om Xr,.lst false 1 Tw Yo],.lst false 3 1 [.sc (.string (ByteArray.mk #[114,111,111,116])),.sc (.int .i64 Lf),.sc (.int .u64 Ut)],.lst false 3 0 [],.sc (.int .i64 8)]) fun BW GT=>Ac GT<|Ab BW fun CL GM=>Ae .i64 CL fun DB=>Ab GM fun Yp AK=>Ae .i64 Yp fun ED=>Ac AK<|Ag (call 27 [.lst false 13 1 [.sc (.string Eu),.sc (.string Gn),.sc (.int .u64 De),.sc (.int .i64 Es),.sc (.int .u64 Jw),.sc (.int .i64 Mo),.sc (.int .i64 Qj),.sc (.bool Sn),.sc (.int .i64 Tv),.sc (.int .u64 Sj),.sc (.int .i64 R4),.lst false 1 Om Xr,.lst false 1 Tw Yo],.lst false 3 1 [.sc (.string (ByteArray.mk #[114,111,111,116])),.sc (.int .i64 Lf),.sc (.int .u64 Ut)],.lst false 3 0 [],.sc (.int .i64 9)]) fun DE EE=>Ac EE<|Ab DE fun Xu Zz=>Ae .i64 Xu fun Zp=>Ab Zz fun Z6 DH=>Ae .i64 Z6 fun JO=>Ac DH<|Bb (Tx==0) (Bb (Yy==0) (Bb (BU==0) (Bb (ED==0) (Bb (DB==0) (Bb (JO==38) (Ag (call 19 [.agg [.sc (.string Eu),.sc (.string Gn),.sc (.int .u64 De),.sc (.int .i64 Es),.sc (.int .u64 Jw),.sc (.int .i64 Mo),.sc (.int .i64 Qj),.sc (.bool Sn),.sc (.int .i64 Tv),.sc (.int .u64 Sj),.sc (.int .i64 R4),.lst false 1 Om Xr,.lst false 1 Tw Yo],.agg [.sc (.string MB),.sc (.string WR),.sc (.int .u64 TN),.sc (.int .i64 TK),.sc (.int .u64 UD),.sc (.int .i64 HL),.sc (.int .i64 TI),.sc (.bool Wm),.sc (.int .i64 Jd),.sc (.int .u64 Ru),.sc (.int .i64 Yf),.lst false 1 Js Xy,.lst false 1 Yg Wk]]) fun MG GH=>Ac GH<|Ab MG fun Wf EB=>Bm Wf fun KC=>Ac EB<|some (Au.mk [.sc (.bool KC)] [])) (some (Au.mk [.sc (.bool false)] []))) (some (Au.mk [.sc (.bool false)] []))) (some (Au.mk [.sc (.bool false)] []))) (some (Au.mk [.sc (.bool false)] []))) (some (Au.mk [.sc (.bool false)] []))) (some (Au.mk [.sc (.bool false)] []))) (Ad C0 Tryz.prog fu d):=by kernel_rfl
end
section
open Go.IntKind (wrap)
set_option maxRecDepth 1000000
section
variable {fu d:Nat} {c:Ce}
theorem Ame (seed h leaf m:Int):Ad C0 Tryz.prog fu (d+1) 37 [.sc (.int .u64 seed),.sc (.int .i64 h),.sc (.int .i64 leaf),.sc (.int .u64 m)] =
  some ⟨[.agg [.sc (.int .i64 (tkL h leaf)),.lst false 1 (tkC seed h leaf m).length (Af .u64 (tkC seed h leaf m)),.lst false 1 (tkP seed h leaf).length (Af .u64 (tkP seed h leaf))],.sc (.int .i64 (tkE h leaf))],[]⟩:=by kernel_rfl
theorem And (seed h leaf m:Int):(AV seed h leaf m=none∧tkE h leaf=9)∨(AV seed h leaf m=some ⟨tkL h leaf,tkC seed h leaf m,tkP seed h leaf⟩∧tkE h leaf=0):=by
 unfold AV tkE tkL tkC tkP LD;cases Cx h
 ·cases Hb leaf h
  ·exact .inr ⟨rfl,rfl⟩
  ·exact .inl ⟨rfl,rfl⟩
 ·exact .inl ⟨rfl,rfl⟩
theorem Agv (hfu:1000<=fu)(hw:c.wf)(hs1:c.subj.size<=9223372036854775807)(hs2:c.iss.size<=9223372036854775807)(seed h leaf:Int):Ad C0 Tryz.prog fu (d+9) Nz [.agg c.cells,.sc (.int .u64 seed),.sc (.int .i64 h),.sc (.int .i64 leaf)]=some ⟨[.agg (Mw c seed h leaf).1.cells,.sc (.int .i64 (Mw c seed h leaf).2)],[]⟩:=by
 refine (Yt fu (d+8) c.subj c.iss c.serial c.key.h c.key.root c.fr c.un c.auth c.path c.model c.sig.leaf c.sig.chains.length (Af .u64 c.sig.chains) c.sig.path.length (Af .u64 c.sig.path) seed h leaf).trans ?_;have wq:=UQ (fu:=fu) (d:=d) hfu hw hs1 hs2;simp only [Ce.cells] at wq;unfold GZ at wq;unfold Mw;by_cases h0:A3 c=0
 ·rw [B4 h0] at wq;rw [B4 h0];have e00:((0:Int) != 0)=false:=rfl;have e90:((9:Int) != 0)=true:=rfl;have tk:=Ame (fu:=fu) (d:=d+7) seed h leaf (Lu c);have La:=Aj .u64 (tkC seed h leaf (Lu c));have Lb:=Aj .u64 (tkP seed h leaf);have ta:=I1 .u64 (tkC seed h leaf (Lu c));have tb:=I1 .u64 (tkP seed h leaf);rcases And seed h leaf (Lu c) with ⟨hs,he⟩|⟨hs,he⟩
  ·rw [hs];rw [he] at tk
   try unfold Aa
   repeat first
    |((with_reducible first|apply Ay|apply Ao|apply Az|apply Bf|apply Cv|apply Bx|apply Cz|apply Am);· first|with_reducible rfl|(simp (disch:=omega) only [wq,e00,e90,Cb,C3,El,tk,La,Lb,ta,tb]<;>with_reducible rfl))
    |((with_reducible first|apply Aw|apply Av);· first|with_reducible rfl|omega|(simp (disch:=omega) only [gT,wq,e00,e90,Cb,C3,El,tk,La,Lb,ta,tb]<;>omega))
    |(with_reducible apply Ax;· first|with_reducible rfl|(simp (disch:=omega) only [gF,wq,e00,e90,Cb,C3,El,tk,La,Lb,ta,tb]<;>omega))
   try simp (disch:=omega) only [wq,e00,e90,Cb,C3,El,tk,La,Lb,ta,tb]
   all_goals rfl
  ·rw [hs];rw [he] at tk
   try unfold Aa
   repeat first
    |((with_reducible first|apply Ay|apply Ao|apply Az|apply Bf|apply Cv|apply Bx|apply Cz|apply Am);· first|with_reducible rfl|(simp (disch:=omega) only [wq,e00,e90,Cb,C3,El,tk,La,Lb,ta,tb]<;>with_reducible rfl))
    |((with_reducible first|apply Aw|apply Av);· first|with_reducible rfl|omega|(simp (disch:=omega) only [gT,wq,e00,e90,Cb,C3,El,tk,La,Lb,ta,tb]<;>omega))
    |(with_reducible apply Ax;· first|with_reducible rfl|(simp (disch:=omega) only [gF,wq,e00,e90,Cb,C3,El,tk,La,Lb,ta,tb]<;>omega))
   try simp (disch:=omega) only [wq,e00,e90,Cb,C3,El,tk,La,Lb,ta,tb]
   all_goals rfl
 ·have hne:(A3 c != 0)=true:=by simp [h0]
  rw [A5 h0] at wq;rw [A5 h0]
  try unfold Aa
  repeat first
   |((with_reducible first|apply Ay|apply Ao|apply Az|apply Bf|apply Cv|apply Bx|apply Cz|apply Am);· first|with_reducible rfl|(simp (disch:=omega) only [wq,hne]<;>with_reducible rfl))
   |((with_reducible first|apply Aw|apply Av);· first|with_reducible rfl|omega|(simp (disch:=omega) only [gT,wq,hne]<;>omega))
   |(with_reducible apply Ax;· first|with_reducible rfl|(simp (disch:=omega) only [gF,wq,hne]<;>omega))
  try simp (disch:=omega) only [wq,hne]
  all_goals rfl
theorem CY (hfu:1000<=fu)(hw:c.wf)(hs1:c.subj.size<=9223372036854775807)(hs2:c.iss.size<=9223372036854775807)(hp:c.sig.path.length<=900):Ad C0 Tryz.prog fu (d+9) J5 [.agg c.cells]=some ⟨[.sc (.bool true)],[]⟩:=by
 refine (To fu (d+8) c.subj c.iss c.serial c.key.h c.key.root c.fr c.un c.auth c.path c.model c.sig.leaf c.sig.chains.length (Af .u64 c.sig.chains) c.sig.path.length (Af .u64 c.sig.path)).trans ?_;have b1:=Z9 (fu:=fu) (d:=d+1) hfu hw hs1 hs2;have b2:=KP (fu:=fu) (d:=d+3) hfu hw hs1 hs2;have b3:=SI (fu:=fu) (d:=d) hfu hw hs1 hs2 (by omega) (by omega)
 have b4:=Ake (fu:=fu) (d:=d+2) hfu hw hs1 hs2 (by omega)
 obtain ⟨x,e,hx⟩:∃(x:List Int) (e:Int),Fo c=[.own 1 x.length (Af .u8 x),.sc (.int .i64 e)]:=by
  unfold Fo;split
  ·exact ⟨_,_,rfl⟩
  ·exact ⟨[],_,rfl⟩
 obtain ⟨y,f,hy⟩:∃(y:List Int) (f:Int),U7 c=[.own 1 y.length (Af .u8 y),.sc (.int .i64 f)]:=by
  unfold U7;split
  ·exact ⟨_,_,rfl⟩
  ·exact ⟨[],_,rfl⟩
 rw [hx] at b1 b2;rw [hy] at b3 b4;simp only [Ce.cells] at b1 b2 b3 b4;have L1:=Aj .u8 x;have L2:=Aj .u8 y;have t1:=I1 .u8 x;have t2:=I1 .u8 y;have y1:=E1 x;have y2:=E1 y;have q0:∀l:List UInt8,(l==l)=true:=fun l=>beq_self_eq_true l
 have q1:∀l:Int,(l==l)=true:=fun l=>beq_self_eq_true l
 generalize Af .u8 x=cx at *
 generalize Af .u8 y=cy at *
 try unfold Aa
 repeat first
  |((with_reducible first|apply Ay|apply Ao|apply Az|apply Bf|apply Cv|apply Bx|apply Cz|apply Am);· first|with_reducible rfl|(simp (disch:=omega) only [b1,b2,b3,b4,Cb,C3,El,L1,L2,t1,t2,y1,y2,q0,q1]<;>with_reducible rfl))
  |((with_reducible first|apply Aw|apply Av);· first|with_reducible rfl|omega|(simp (disch:=omega) only [gT,b1,b2,b3,b4,Cb,C3,El,L1,L2,t1,t2,y1,y2,q0,q1]<;>omega))
  |(with_reducible apply Ax;· first|with_reducible rfl|(simp (disch:=omega) only [gF,b1,b2,b3,b4,Cb,C3,El,L1,L2,t1,t2,y1,y2,q0,q1]<;>omega))
 try simp (disch:=omega) only [b1,b2,b3,b4,Cb,C3,El,L1,L2,t1,t2,y1,y2,q0,q1]
 all_goals rfl
theorem Af2:Ad C0 Tryz.prog fu (d+1) Lq [.agg c.cells]=some ⟨[.sc (.bool (decide ((c.subj.size:Int)<100)&&decide ((c.iss.size:Int)<100)&&decide ((c.sig.chains.length:Int)<40)&&decide ((c.sig.path.length:Int)<10)))],[]⟩:=by
 refine (Vc fu d c.subj c.iss c.serial c.key.h c.key.root c.fr c.un c.auth c.path c.model c.sig.leaf c.sig.chains.length (Af .u64 c.sig.chains) c.sig.path.length (Af .u64 c.sig.path)).trans ?_;cases decide ((c.subj.size:Int)<100)<;>cases decide ((c.iss.size:Int)<100)<;>cases decide ((c.sig.chains.length:Int)<40)<;>rfl
end
end
section
open Go.IntKind (wrap)
set_option maxRecDepth 1000000
section
variable {fu d:Nat}
theorem ID {call:Ai}{a0n a1n:Nat}{a0 a1:List PV}{l:List Int}(hl:l.length<=1000):∀(k i nn:Nat),i+k=l.length->k<nn ->
  Ee fu call a0n a0 a1n a1 nn l.length (Af .u64 l) l.length (Af .u64 l) i=some ⟨[.sc (.bool true)],[]⟩
 |_,_,0,_,h=>by omega
 |0,i,nn+1,hi,hn=>by
  have e:i=l.length:=by omega
  subst e;rw [Hh];simp (disch:=omega) only [Bv]
 |k+1,i,nn+1,hi,hn=>by
  have ih:=ID (call:=call) (a0n:=a0n) (a1n:=a1n) (a0:=a0) (a1:=a1) hl k (i+1) nn (by omega) (by omega)
  obtain ⟨x,hx⟩:∃x,l[i]?=some x:=⟨_,List.getElem?_eq_getElem (by omega)⟩
  have w:wrap .i64 ((i:Int)+1)=((i+1:Nat):Int):=by rw [Ak (by omega) (by omega)];omega
  have q:(x != x)=false:=bne_self_eq_false x;rw [Hh];simp (disch:=omega) only [Bv,H3,Cb,C3,W5 hx,q,w];exact ih
theorem XD (hfu:2000<=fu){l:List Int}(hl:l.length<=1000):Ad C0 Tryz.prog fu (d+1) I7 [.lst false 1 l.length (Af .u64 l),.lst false 1 l.length (Af .u64 l)]=some ⟨[.sc (.bool true)],[]⟩:=by
 refine (Rj fu d l.length (Af .u64 l) l.length (Af .u64 l)).trans ?_;have q:=ID (fu:=fu) (call:=Ad C0 Tryz.prog fu d) (a0n:=l.length) (a1n:=l.length) (a0:=Af .u64 l) (a1:=Af .u64 l) hl l.length 0 fu (by omega) (by omega)
 have b:((l.length:Int) != (l.length:Int))=false:=bne_self_eq_false _;simp only [Bv,b];exact q
theorem Af8 (hfu:2000<=fu){s:Sg}(h1:s.chains.length<=1000)(h2:s.path.length<=1000):Ad C0 Tryz.prog fu (d+2) G9 [.agg s.cells,.agg s.cells]=some ⟨[.sc (.bool true)],[]⟩:=by
 refine (Nr fu (d+1) s.leaf s.chains.length (Af .u64 s.chains) s.path.length (Af .u64 s.path) s.leaf s.chains.length (Af .u64 s.chains) s.path.length (Af .u64 s.path)).trans ?_;have w1:=XD (fu:=fu) (d:=d) hfu h1;have w2:=XD (fu:=fu) (d:=d) hfu h2;have q1:(s.leaf==s.leaf)=true:=beq_self_eq_true _
 try unfold Aa
 repeat first
  |((with_reducible first|apply Ay|apply Ao|apply Az|apply A6|apply Ba|apply Bf|apply Cv|apply Bx|apply Am);· first|with_reducible rfl|(simp (disch:=omega) only [q1,w1,w2]<;>with_reducible rfl))
  |((with_reducible first|apply Aw|apply Av);· first|with_reducible rfl|omega|(simp (disch:=omega) only [gT,q1,w1,w2]<;>omega))
  |(with_reducible apply Ax;· first|with_reducible rfl|(simp (disch:=omega) only [gF,q1,w1,w2]<;>omega))
 try simp (disch:=omega) only [q1,w1,w2]
 all_goals rfl
theorem Ae7 (hfu:2000<=fu){c:Ce}(h1:c.sig.chains.length<=1000)(h2:c.sig.path.length<=1000):Ad C0 Tryz.prog fu (d+3) Gh [.agg c.cells,.agg c.cells]=some ⟨[.sc (.bool true)],[]⟩:=by
 refine (Le fu (d+2) c.subj c.iss c.serial c.key.h c.key.root c.fr c.un c.auth c.path c.model c.sig.leaf c.sig.chains.length (Af .u64 c.sig.chains) c.sig.path.length (Af .u64 c.sig.path) c.subj c.iss c.serial c.key.h c.key.root c.fr c.un c.auth c.path c.model c.sig.leaf c.sig.chains.length (Af .u64 c.sig.chains) c.sig.path.length (Af .u64 c.sig.path)).trans ?_;have ws:=Af8 (fu:=fu) (d:=d) hfu h1 h2;simp only [Sg.cells] at ws;have q0:∀l:List UInt8,(l==l)=true:=fun l=>beq_self_eq_true l
 have q1:∀l:Int,(l==l)=true:=fun l=>beq_self_eq_true l
 have q2:∀l:Bool,(l==l)=true:=fun l=>beq_self_eq_true l
 try unfold Aa
 repeat first
  |((with_reducible first|apply Ay|apply Ao|apply Az|apply A6|apply Ba|apply Bf|apply Cv|apply Bx|apply Am);· first|with_reducible rfl|(simp (disch:=omega) only [q0,q1,q2,Bool.and_true,ws]<;>with_reducible rfl))
  |((with_reducible first|apply Aw|apply Av);· first|with_reducible rfl|omega|(simp (disch:=omega) only [gT,q0,q1,q2,Bool.and_true,ws]<;>omega))
  |(with_reducible apply Ax;· first|with_reducible rfl|(simp (disch:=omega) only [gF,q0,q1,q2,Bool.and_true,ws]<;>omega))
 try simp (disch:=omega) only [q0,q1,q2,Bool.and_true,ws]
 all_goals rfl
end
abbrev lfS:ByteArray:=⟨#[(108:UInt8),(101:UInt8),(97:UInt8),(102:UInt8)]⟩
abbrev rtS:ByteArray:=⟨#[(114:UInt8),(111:UInt8),(111:UInt8),(116:UInt8)]⟩
def XL:Ce:=⟨lfS,rtS,9,K0 5 1,1,8,false,0,0,⟨0,[],[]⟩⟩
theorem WV:A3 XL=0:=by
 unfold A3;have h1:XL.subj.size=4:=rfl;have h2:XL.iss.size=4:=rfl;have h3:VJ XL.subj=true:=by decide
 have h4:VJ XL.iss=true:=by decide
 have h5:Cx XL.key.h=false:=Ads 5 1;have h6:XL.fr=1:=rfl;have h7:XL.un=8:=rfl;have h8:XL.path=0:=rfl;rw [h1,h2,h3,h4,h5,h6,h7,h8];simp
theorem Aa1:∃s,AV 71 1 0 (Lu XL)=some s∧s.ok∧s.leaf=0∧s.chains.length=18∧(s.path.length:Int)=1∧WA (K0 71 1) (Lu XL) s=0:=Aj3 (by decide) (by decide)
noncomputable def UH:Sg:=Classical.choose Aa1
theorem AE:AV 71 1 0 (Lu XL)=some UH∧UH.ok∧UH.leaf=0∧UH.chains.length=18∧(UH.path.length:Int)=1∧WA (K0 71 1) (Lu XL) UH=0:=Classical.choose_spec Aa1
noncomputable def cA:Ce:={ XL with sig:=UH }
theorem Ab6:cA.ok:=⟨by decide,by decide,QA 5 1,AE.2.1⟩
theorem RR:A3 cA=0:=WV
theorem SJ:Ek cA=0:=by
 obtain ⟨_,_,h3,h4,h5,_⟩:=AE;unfold Ek;rw [RR,B4 rfl];show EH UH=0;unfold EH;rw [h5,h3,A5 (by decide),A5 (by decide),A5 (by omega)]
theorem Aba:cA.in_:=⟨Ab6.wf,by show lfS.size<=_;decide,by show rtS.size<=_;decide⟩
theorem Akq:DJ cA (K0 71 1)=0:=by
 unfold DJ;rw [RR,B4 rfl];exact AE.2.2.2.2.2
theorem Ae0:Mw XL 71 1 0=(cA,0):=by
 unfold Mw;rw [B4 WV,AE.1];rfl
theorem UV (now:Int)(h0:1<=now)(h1:now<=9):XA [cA] [⟨rtS,K0 71 1⟩] [] now=if now<=8 then (0,0) else (0,38):=by
 unfold XA;rw [A5 (by omega),A5 (by omega),A5 (by simp),A5 (by simp)]
 unfold IG
 have lk:P9 cA ((0:Nat):Int) [] now=if now<1 then 38 else if now>8 then 38 else TU cA now []:=by
  unfold P9;rw [RR];rfl
 have n1:¬(now<1):=by omega
 rw [lk,A5 n1];by_cases h:now<=8
 ·have r0:TU cA now []=0:=rfl;have n8:¬(now>8):=by omega
  rw [A5 n8,B4 h,r0,A5 (by simp)]
  unfold Ai2
  have is:U5 cA 0 [⟨rtS,K0 71 1⟩]=0:=by
   rw [U5,B4 ⟨by decide,Akq⟩]
   rfl
  rw [is];rfl
 ·have n8:now>8:=by omega
  rw [B4 n8,A5 h,B4 (by simp)]
section
variable {d:Nat}
theorem Afj:Ad C0 Tryz.prog 2000 (d+15) Ln []=some ⟨[.sc (.bool true)],[]⟩:=by
 rw [Uk];have k5:=Aix (fu:=2000) (d:=d+1) (by omega) 5 1
 have k71:=Aix (fu:=2000) (d:=d+1) (by omega) 71 1
 have sg:=Agv (fu:=2000) (d:=d+5) (c:=XL) (by omega) ⟨by decide,by decide⟩ (by decide) (by decide) 71 1 0
 rw [Ae0] at sg;obtain ⟨_,_,h3,h4,h5,_⟩:=AE;have l1:cA.sig.chains.length=18:=h4;have l2:cA.sig.path.length=1:=by have:(cA.sig.path.length:Int)=1:=h5;omega
 have en:=SI (fu:=2000) (d:=d+6) (c:=cA) (by omega) Ab6.wf Aba.s1 Aba.s2 (by omega) (by omega)
 unfold U7 at en;rw [SJ,B4 rfl] at en;have el:=HT (c:=cA) SJ;have de:=Ak5 (fu:=2000) (d:=d+5) (by omega) (Afq Ab6.wf SJ) (by omega)
 rw [VQ Ab6 SJ] at de;have p8:=WU (fu:=2000) (d:=d+4) (by omega) (cs:=[cA]) (by intro c hc;rw [List.mem_singleton.1 hc];exact Aba) (ans:=[⟨rtS,K0 71 1⟩]) (by simp) (vs:=[]) (by simp) 8
 have p9:=WU (fu:=2000) (d:=d+4) (by omega) (cs:=[cA]) (by intro c hc;rw [List.mem_singleton.1 hc];exact Aba) (ans:=[⟨rtS,K0 71 1⟩]) (by simp) (vs:=[]) (by simp) 9
 rw [UV 8 (by omega) (by omega),B4 (by omega)] at p8
 rw [UV 9 (by omega) (by omega),A5 (by omega)] at p9
 have sm:=Ae7 (fu:=2000) (d:=d+11) (c:=cA) (by omega) (by omega) (by omega)
 have L:=Aj .u8 (Fz cA);have t:=I1 .u8 (Fz cA);have c0:XL.cells=[.sc (.string lfS),.sc (.string rtS),.sc (.int .u64 9),.sc (.int .i64 (K0 5 1).h),.sc (.int .u64 (K0 5 1).root),.sc (.int .i64 1),.sc (.int .i64 8),.sc (.bool false),.sc (.int .i64 0),.sc (.int .u64 0),.sc (.int .i64 0),.lst false 1 0 [],.lst false 1 0 []]:=rfl;rw [c0] at sg;have e0:H5 [cA]=cA.cells:=by unfold H5;simp
 have e1:BT [⟨rtS,K0 71 1⟩]=[.sc (.string rtS),.sc (.int .i64 (K0 71 1).h),.sc (.int .u64 (K0 71 1).root)]:=rfl;have e2:Tg []=[]:=rfl;rw [e0,e1,e2] at p8 p9;simp only [Ce.cells,Ky.cells,Jz,AA,C3] at k5 k71 sg en de p8 p9 sm;generalize Fz cA=E at *
 generalize cA=C at *
 generalize K0 5 1=K at *
 generalize K0 71 1=K2 at *
 have b0:((0:Int)==0)=true:=rfl;have b38:((38:Int)==38)=true:=rfl
 try unfold Aa
 repeat first
  |((with_reducible first|apply Ay|apply Ao|apply Az|apply A6|apply Ba|apply Bf|apply Cv|apply Bx|apply Am);· first|with_reducible rfl|(simp (disch:=omega) only [k5,k71,sg,en,de,p8,p9,sm,b0,b38,El,C3,Cb,L,t]<;>with_reducible rfl))
  |((with_reducible first|apply Aw|apply Av);· first|with_reducible rfl|omega|(simp (disch:=omega) only [gT,k5,k71,sg,en,de,p8,p9,sm,b0,b38,El,C3,Cb,L,t]<;>omega))
  |(with_reducible apply Ax;· first|with_reducible rfl|(simp (disch:=omega) only [gF,k5,k71,sg,en,de,p8,p9,sm,b0,b38,El,C3,Cb,L,t]<;>omega))
 try simp (disch:=omega) only [k5,k71,sg,en,de,p8,p9,sm,b0,b38,El,C3,Cb,L,t]
 all_goals rfl
end
end
section
open Go.IntKind (wrap)
theorem DA {d:Nat}{ps:List PV}(h:WT Tryz.prog d 24 ps):∃(v0:Int)(v1:Int),ps=[(.sc (.int .i64 v0)),(.sc (.int .u64 v1))]∧(Lit.int .i64 v0).wf=true∧(Lit.int .u64 v1).wf=true:=by
 obtain ⟨rs,rfl,h1⟩:=Ag2 (ts:=[3,22]) (by kernel_rfl) h
 obtain ⟨r0,_,rfl,g0,h1⟩:=h1.cons_inv;obtain ⟨r1,_,rfl,g1,h1⟩:=h1.cons_inv;obtain rfl:=h1.nil_inv;obtain ⟨v0,rfl,w0_0⟩:=Sl (k:=.i64) (by kernel_rfl) g0
 obtain ⟨v1,rfl,w1_0⟩:=Sl (k:=.u64) (by kernel_rfl) g1
 exact ⟨v0,v1,rfl,w0_0,w1_0⟩
theorem CM {d:Nat}{ps:List PV}(h:WT Tryz.prog d 27 ps):∃(v0:Int)(v1:List Int)(v2:List Int),ps=[(.sc (.int .i64 v0)),(.lst false 1 v1.length (Af .u64 v1)),(.lst false 1 v2.length (Af .u64 v2))]∧(Lit.int .i64 v0).wf=true∧v1.length<=maxLen∧(∀n∈v1,(Lit.int .u64 n).wf=true)∧v2.length<=maxLen∧(∀n∈v2,(Lit.int .u64 n).wf=true):=by
 obtain ⟨rs,rfl,h1⟩:=Ag2 (ts:=[3,25,25]) (by kernel_rfl) h
 obtain ⟨r0,_,rfl,g0,h1⟩:=h1.cons_inv;obtain ⟨r1,_,rfl,g1,h1⟩:=h1.cons_inv;obtain ⟨r2,_,rfl,g2,h1⟩:=h1.cons_inv;obtain rfl:=h1.nil_inv;obtain ⟨v0,rfl,w0_0⟩:=Sl (k:=.i64) (by kernel_rfl) g0
 obtain ⟨v1,rfl,w1_0,w1_1⟩:=RF (k:=.u64) (e:=22) (by kernel_rfl) (by kernel_rfl) (by kernel_rfl) g1
 obtain ⟨v2,rfl,w2_0,w2_1⟩:=RF (k:=.u64) (e:=22) (by kernel_rfl) (by kernel_rfl) (by kernel_rfl) g2
 exact ⟨v0,v1,v2,rfl,w0_0,w1_0,w1_1,w2_0,w2_1⟩
theorem Xw {d:Nat}{ps:List PV}(h:WT Tryz.prog d 29 ps):∃(v0:ByteArray)(v1:ByteArray)(v2:Int)(v3v0:Int)(v3v1:Int)(v4:Int)(v5:Int)(v6:Bool)(v7:Int)(v8:Int)(v9v0:Int)(v9v1:List Int)(v9v2:List Int),ps=[(.sc (.string v0)),(.sc (.string v1)),(.sc (.int .u64 v2)),(.sc (.int .i64 v3v0)),(.sc (.int .u64 v3v1)),(.sc (.int .i64 v4)),(.sc (.int .i64 v5)),(.sc (.bool v6)),(.sc (.int .i64 v7)),(.sc (.int .u64 v8)),(.sc (.int .i64 v9v0)),(.lst false 1 v9v1.length (Af .u64 v9v1)),(.lst false 1 v9v2.length (Af .u64 v9v2))]∧v0.size<=maxLen∧v1.size<=maxLen∧(Lit.int .u64 v2).wf=true∧(Lit.int .i64 v3v0).wf=true∧(Lit.int .u64 v3v1).wf=true∧(Lit.int .i64 v4).wf=true∧(Lit.int .i64 v5).wf=true∧(Lit.int .i64 v7).wf=true∧(Lit.int .u64 v8).wf=true∧(Lit.int .i64 v9v0).wf=true∧v9v1.length<=maxLen∧(∀n∈v9v1,(Lit.int .u64 n).wf=true)∧v9v2.length<=maxLen∧(∀n∈v9v2,(Lit.int .u64 n).wf=true):=by
 obtain ⟨rs,rfl,h1⟩:=Ag2 (ts:=[9,9,22,24,3,3,4,3,22,27]) (by kernel_rfl) h
 obtain ⟨r0,_,rfl,g0,h1⟩:=h1.cons_inv;obtain ⟨r1,_,rfl,g1,h1⟩:=h1.cons_inv;obtain ⟨r2,_,rfl,g2,h1⟩:=h1.cons_inv;obtain ⟨r3,_,rfl,g3,h1⟩:=h1.cons_inv;obtain ⟨r4,_,rfl,g4,h1⟩:=h1.cons_inv;obtain ⟨r5,_,rfl,g5,h1⟩:=h1.cons_inv;obtain ⟨r6,_,rfl,g6,h1⟩:=h1.cons_inv;obtain ⟨r7,_,rfl,g7,h1⟩:=h1.cons_inv;obtain ⟨r8,_,rfl,g8,h1⟩:=h1.cons_inv;obtain ⟨r9,_,rfl,g9,h1⟩:=h1.cons_inv;obtain rfl:=h1.nil_inv;obtain ⟨v0,rfl,w0_0⟩:=Aiw (by kernel_rfl) g0
 obtain ⟨v1,rfl,w1_0⟩:=Aiw (by kernel_rfl) g1
 obtain ⟨v2,rfl,w2_0⟩:=Sl (k:=.u64) (by kernel_rfl) g2
 obtain ⟨v3v0,v3v1,rfl,w3_0,w3_1⟩:=DA g3;obtain ⟨v4,rfl,w4_0⟩:=Sl (k:=.i64) (by kernel_rfl) g4
 obtain ⟨v5,rfl,w5_0⟩:=Sl (k:=.i64) (by kernel_rfl) g5
 obtain ⟨v6,rfl⟩:=Aj5 (by kernel_rfl) g6
 obtain ⟨v7,rfl,w7_0⟩:=Sl (k:=.i64) (by kernel_rfl) g7
 obtain ⟨v8,rfl,w8_0⟩:=Sl (k:=.u64) (by kernel_rfl) g8
 obtain ⟨v9v0,v9v1,v9v2,rfl,w9_0,w9_1,w9_2,w9_3,w9_4⟩:=CM g9;exact ⟨v0,v1,v2,v3v0,v3v1,v4,v5,v6,v7,v8,v9v0,v9v1,v9v2,rfl,w0_0,w1_0,w2_0,w3_0,w3_1,w4_0,w5_0,w7_0,w8_0,w9_0,w9_1,w9_2,w9_3,w9_4⟩
end
end Go.Proofs.YtdjihiphpgkfmaaGreatDoor.Pv
