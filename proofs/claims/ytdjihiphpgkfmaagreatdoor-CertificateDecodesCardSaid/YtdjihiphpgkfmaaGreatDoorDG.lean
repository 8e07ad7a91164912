/-
  The proof of CertificateDecodes, part 7.
-/
import Derived.Test.YtdjihiphpgkfmaaGreatDoorDF
import Derived.Shelf.Abstract
import Derived.WalkKit
import Derived.OwnWalkIn
import Derived.TacticsInMore
import Derived.Test.YtdjihiphpgkfmaaGreatDoorRows
import Derived.Lib.BytesEntry
import Derived.Lib.Bytealg
import Derived.Lib.Walk
import Derived.WalkMore
import Derived.Shelf.Unicode.ValidAny
import Derived.Lib.LaidU8T
set_option linter.unusedSimpArgs false
set_option linter.unusedVariables false
namespace Go.Proofs.YtdjihiphpgkfmaaGreatDoor.Pv
section
open Go.IntKind (wrap)
set_option maxRecDepth 20000
open Go Go.RowKit
theorem Cd.make {N:Nat}{W:World}{Y:Nat->Prop}{β:Bt}(l:List (Nat × PV)) (bl:List (Nat × B7)) (a:Act)(pn:Nat->Prop)(p8:∀i,pn i->i<8)(hd:a.defers=[]) (hsz:a.tmps.size=N)(hlt:∀q∈l,q.1<N)
  (hv:∀q∈l,D9 W (Da (Cj bl) β Y) β q.2 (a.tmps.getD q.1 undef)) (hb:∀id bx,Cj bl id=some bx->S0 W (Da (Cj bl) β Y) β id bx)
  (inj:∀id id' b o o',Ct (Cj bl id)->Ct (Cj bl id')->β id=some (b,o)->β id'=some (b,o')->id=id') (blt:∀id b o,Cj bl id≠none->β id=some (b,o)->b<W.heap.size)
  (wfT:∀q∈l,∀id∈Cc q.2,Cj bl id≠none)(wfB:∀id cells,Cj bl id=some (.st cells)->∀c∈cells,∀i∈A4 c,Cj bl i≠none) (hpin:∀i,pn i->Cj bl (De N i)≠none)
  (stp:∀id c,Cj bl id=some (.st c)->∃i,id=De N i∧pn i) (Yx:∀b,Y b->¬GD (Cj bl) β b) (Ylt:∀b,Y b->b<W.heap.size):
  Cd N W { X:=GD (Cj bl) β,L:=fun b _=>GD (Cj bl) β b,pn:=pn,pt:=fun i=>β (De N i),p8:=p8 } Y β ⟨lk l,Cj bl⟩ a W:=by
 refine ⟨hd,hsz,fun i hi=>?_,fun i hi=>?_,hb,inj,blt,fun i hi id hid=>?_,wfB,fun b hb=>.inl hb,fun id bx b o h1 h2 h3 _ j _=>⟨id,o,by rw [show Cj bl id=some bx from h1];exact h2,h3⟩,fun i hi=>⟨hpin i hi,rfl⟩,
  fun id c b o h1 _ _=>stp id c h1,Yx,Ylt,⟨rfl,rfl,rfl,⟨Nat.le_refl _,fun _ _ _=>rfl,fun _ _=>Nat.le_refl _⟩,fun _ _ _ _=>⟨rfl,rfl⟩⟩⟩
 ·rcases Pf l i with e|⟨q,hq,h1,h2⟩
  ·exact e
  ·have:=hlt q hq;omega
 ·show D9 W _ β (lk l i) _;rcases Pf l i with e|⟨q,hq,h1,h2⟩
  ·rw [e];exact Be.top _
  ·rw [h2,←h1];exact hv q hq
 ·rcases Pf l i with e|⟨q,hq,h1,h2⟩
  ·rw [show (St.mk (lk l) (Cj bl)).tm i=lk l i from rfl,e] at hid;simp [Cc,Cs,A4] at hid
  ·rw [show (St.mk (lk l) (Cj bl)).tm i=lk l i from rfl,h2] at hid;exact wfT q hq id hid
def As4 (lo e0:Nat)(A:World)(pv:Value)(l:List Int):Prop:=
 (l=[]∧pv=.slice none 0 0)∨∃pb po cap,pv=.slice (some ⟨pb,po,none⟩) l.length cap∧l.length<=cap∧po+cap<=bsz A pb∧pb<A.heap.size∧(lo<=pb∨pb=e0)∧(∀(j:Nat) x,l[j]?=some x->A.cell? ⟨pb,po+j,none⟩=some (.int .u64 x))∧∀j,po<=j->j<bsz A pb->A.frozen? ⟨pb,j,none⟩=false
theorem frozen?_of_block {A B:World}{b j:Nat}(h:B.heap[b]?=A.heap[b]?):B.frozen? ⟨b,j,none⟩=A.frozen? ⟨b,j,none⟩:=by
 unfold World.frozen?;simp only [h]
structure HX (wS:World) (D:Nat) (seed leaf:Int) (h b10 o10 e0:Nat) (chv:Value) (Z:Nat->Prop) (pre:List Nat) (A:World):Prop where
 os:A.os=wS.os
 tape:A.tape=wS.tape
 output:A.output=wS.output
 size:D+2<=A.heap.size
 zlo:∀b,b<wS.heap.size->Z b
 zlt:∀b,Z b->b<A.heap.size
 keep:∀b,b<wS.heap.size->b≠b10->b≠e0->A.heap[b]?=wS.heap[b]?
 bs:bsz wS b10<=bsz A b10
 c0:A.cell? ⟨b10,o10,none⟩=some (.int .i64 leaf)
 c1:A.cell? ⟨b10,o10+1,none⟩=some chv
 fz:∀k,k<3->A.frozen? ⟨b10,o10+k,none⟩=false
 lt:∀x∈pre,x<h
 path:∃pv,A.cell? ⟨b10,o10+2,none⟩=some pv∧As4 (D+2) e0 A pv (pre.map fun k=>Cf seed k (Fy leaf k))∧∀pb po n cap,pv=.slice (some ⟨pb,po,none⟩) n cap->Z pb
noncomputable abbrev Ab5:Code:=sF (sB (sR (sL (sR (sR (sR PJ))))))
abbrev As2 (h leaf:Int)(x:Nat)(n:Nat)(c:List PV):List (Nat × PV):=[(5,.iptr [.sc (.int .i64 h)] 0),(6,.iptr [.sc (.int .i64 leaf)] 0),(10,.ptr 96000 0),(11,.sc (.int .i64 x)),(12,.lst false 1 n c)]
abbrev QL (leaf:Int)(ch:Value)(m:Nat)(d:List PV):List (Nat × B7):=[(96000,.st [.sc (.int .i64 leaf),.sc ch,.view 20 1 0 m]),(20,.ar false d)]
structure Asy (wS:World) (b5 o5 b6 o6 b10 o10:Nat) (args:Array Value) (a:Act):Prop where
 dfr:a.defers=[]
 size:a.tmps.size=48
 t5:a.tmps.getD 5 undef=.pointer (some ⟨b5,o5,none⟩)
 t6:a.tmps.getD 6 undef=.pointer (some ⟨b6,o6,none⟩)
 t10:a.tmps.getD 10 undef=.pointer (some ⟨b10,o10,none⟩)
 t11:a.tmps.getD 11 undef=args.getD 0 undef
 t12:a.tmps.getD 12 undef=args.getD 1 undef
theorem Ajl {wS:World}{D:Nat}{seed leaf:Int}{h b5 o5 b6 o6 b10 o10 e0:Nat}{chv:Value}{Z:Nat->Prop}{pre:List Nat}{A:World}(hI:HX wS D seed leaf h b10 o10 e0 chv Z pre A){x:Nat}{args:Array Value}(hM:lvM seed h pre x args Z A){a:Act}(ha:Asy wS b5 o5 b6 o6 b10 o10 args a)
  (h5:wS.cell? ⟨b5,o5,none⟩=some (.int .i64 h)) (h6:wS.cell? ⟨b6,o6,none⟩=some (.int .i64 leaf)) (l5:b5<wS.heap.size)(l6:b6<wS.heap.size)(l10:b10<wS.heap.size)(n5:b5≠b10)(n6:b6≠b10)(m5:b5≠e0)(m6:b6≠e0)(m10:b10≠e0)(hD:wS.heap.size<=D):
  ∃β X0,X0.pt 0=some (b10,o10)∧X0.pn 0∧(∀b,X0.X b->Z b∧(b=b10∨D+2<=b∨b=e0)) ∧
   Cd 48 A X0 (fun _=>False) β ⟨lk (As2 h leaf x (2 ^ (h-x)) (Af .u64 (Ez seed (2 ^ (h-x)) x))),Cj (QL leaf chv pre.length (Af .u64 (pre.map fun k=>Cf seed k (Fy leaf k))))⟩ a A:=by
 obtain ⟨hx,_,b,o,cap,hargs,hcap,hbl,hbz,hcell⟩:=hM;obtain ⟨pv,hpv,hown,hpz⟩:=hI.path
 obtain ⟨q,hq⟩:∃q:Option (Nat × Nat),(q=none∧pre=[]∧pv=.slice none 0 0)∨∃pb po cap,q=some (pb,po)∧pv=.slice (some ⟨pb,po,none⟩) pre.length cap∧pre.length<=cap∧po+cap<=bsz A pb∧pb<A.heap.size∧(D+2<=pb∨pb=e0)∧Z pb∧(∀(j:Nat) y,(pre.map fun k=>Cf seed k (Fy leaf k))[j]?=some y->A.cell? ⟨pb,po+j,none⟩=some (.int .u64 y))∧∀j,po<=j->j<bsz A pb->A.frozen? ⟨pb,j,none⟩=false:=by
  rcases hown with ⟨h1,h2⟩|⟨pb,po,cap,h1,h2,h3,h4,h5,h6,h7⟩
  ·exact ⟨none,.inl ⟨rfl,by simpa using h1,h2⟩⟩
  ·rw [List.length_map] at h1 h2;exact ⟨some (pb,po),.inr ⟨pb,po,cap,rfl,h1,h2,h3,h4,h5,hpz _ _ _ _ h1,h6,h7⟩⟩
 obtain ⟨β,hβ⟩:∃β:Bt,β=fun id=>if id=96000 then some (b10,o10) else if id=20 then q else none:=⟨_,rfl⟩
 have e1:β 96000=some (b10,o10):=by rw [hβ];rfl
 have e2:β 20=q:=by rw [hβ];rfl
 obtain ⟨d,hd⟩:∃d,Af .u64 (pre.map fun k=>Cf seed k (Fy leaf k))=d:=⟨_,rfl⟩
 have hdl:d.length=pre.length:=by rw [←hd,Al,List.length_map]
 rw [hd]
 have hl0:∀id bx,Cj (QL leaf chv pre.length d) id=some bx->(id=96000∧bx=.st [.sc (.int .i64 leaf),.sc chv,.view 20 1 0 pre.length])∨(id=20∧bx=.ar false d):=by
  intro id bx e;rcases S5 (QL leaf chv pre.length d) id with h1|⟨p,hp,h1,h2⟩
  ·rw [h1] at e;cases e
  ·rw [h2] at e;cases e;simp only [List.mem_cons,List.not_mem_nil,or_false] at hp;rcases hp with rfl|rfl
   ·exact .inl ⟨h1.symm,rfl⟩
   ·exact .inr ⟨h1.symm,rfl⟩
 have hX:∀b,GD (Cj (QL leaf chv pre.length d)) β b->b=b10∨∃po,q=some (b,po):=by
  rintro b' ⟨id,o',hl,hb⟩
  cases hh:Cj (QL leaf chv pre.length d) id with
  |none=>rw [hh] at hl;exact hl.elim
  |some bx=>
   rcases hl0 id bx hh with ⟨rfl,_⟩|⟨rfl,_⟩
   ·rw [e1] at hb;cases hb;exact .inl rfl
   ·rw [e2] at hb;exact .inr ⟨o',hb⟩
 have hqz:∀b' po,q=some (b',po)->Z b'∧(D+2<=b'∨b'=e0)∧b'<A.heap.size:=by
  intro b' po e;rcases hq with ⟨h1,_⟩|⟨pb,po',cap',h1,h2,h3,h4,h5,h6,h7,h8,h9⟩
  ·rw [h1] at e;cases e
  ·rw [h1] at e;cases e;exact ⟨h7,h6,h5⟩
 have hAlo:∀b',b'<wS.heap.size->b'≠b10->b'≠e0->¬Da (Cj (QL leaf chv pre.length d)) β (fun _=>False) b':=by
  rintro b' hb hne hne0 (hx|hf)
  ·rcases hX b' hx with h1|⟨po,h1⟩
   ·exact hne h1
   ·rcases (hqz _ _ h1).2.1 with h2|h2
    ·omega
    ·exact hne0 h2
  ·exact hf
 have hsz:wS.heap.size<A.heap.size:=by have:=hI.size;omega
 refine ⟨β,_,e1,rfl,?_,Cd.make (As2 h leaf x (2 ^ (h-x)) (Af .u64 (Ez seed (2 ^ (h-x)) x))) (QL leaf chv pre.length d) a (fun i=>i=0) (fun i hi=>by omega) ha.dfr ha.size ?_ ?_ ?_ ?_ ?_ ?_ ?_ ?_ ?_ (fun _ h=>h.elim) (fun _ h=>h.elim)⟩
 ·intro b' hb;rcases hX b' hb with rfl|⟨po,h1⟩
  ·exact ⟨hI.zlo _ l10,.inl rfl⟩
  ·exact ⟨(hqz _ _ h1).1,.inr (hqz _ _ h1).2.1⟩
 ·intro p hp;simp only [List.mem_cons,List.not_mem_nil,or_false] at hp;rcases hp with rfl|rfl|rfl|rfl|rfl<;>simp
 ·intro p hp;simp only [List.mem_cons,List.not_mem_nil,or_false] at hp;rcases hp with rfl|rfl|rfl|rfl|rfl
  ·refine ⟨⟨b5,o5,none⟩,ha.t5,rfl,by show b5<_;omega,hAlo b5 l5 n5 m5,fun j c hj=>?_⟩
   match j,hj with
   |0,hj=>cases hj;exact ⟨_,(World.cell?_of_block (a:=⟨b5,o5,none⟩) (hI.keep b5 l5 n5 m5)).trans h5,rfl,Be.sc _⟩
  ·refine ⟨⟨b6,o6,none⟩,ha.t6,rfl,by show b6<_;omega,hAlo b6 l6 n6 m6,fun j c hj=>?_⟩
   match j,hj with
   |0,hj=>cases hj;exact ⟨_,(World.cell?_of_block (a:=⟨b6,o6,none⟩) (hI.keep b6 l6 n6 m6)).trans h6,rfl,Be.sc _⟩
  ·exact ⟨b10,o10,e1,ha.t10⟩
  ·show D9 _ _ _ (.sc (.int .i64 x)) (a.tmps.getD 11 undef);rw [ha.t11,hargs];exact Be.sc _
  ·show D9 _ _ _ (.lst false 1 _ _) (a.tmps.getD 12 undef);rw [ha.t12,hargs];refine Be.lst 1 _ _ ⟨b,o,none⟩ cap (fun j=>.int .u64 (Cf seed x j)) rfl hbl ?_ hcap ?_ (fun _ _ _=>rfl) ?_
   ·rintro (hx'|hf)
    ·rcases hX b hx' with h1|⟨po,h1⟩
     ·exact hbz (h1 ▸ hI.zlo _ l10)
     ·exact hbz (hqz _ _ h1).1
    ·exact hf
   ·intro j c hj;rw [Eh];have hlt:j<(Af .u64 (Ez seed (2 ^ (h-x)) x)).length:=(List.getElem?_eq_some_iff.1 hj).1;rw [Al,OH] at hlt;exact hcell j hlt
   ·intro j c hj;have hlt:j<(Af .u64 (Ez seed (2 ^ (h-x)) x)).length:=(List.getElem?_eq_some_iff.1 hj).1;rw [Al,OH] at hlt;rw [Mr (S6 seed hlt)] at hj;cases hj;exact Be.sc _
 ·intro id bx e;rcases hl0 id bx e with ⟨rfl,rfl⟩|⟨rfl,rfl⟩
  ·refine ⟨b10,o10,e1,fun j c hj=>?_,fun j hj=>hI.fz j hj⟩
   match j,hj with
   |0,hj=>cases hj;exact ⟨_,hI.c0,Be.sc _⟩
   |1,hj=>cases hj;exact ⟨_,hI.c1,Be.sc _⟩
   |2,hj=>
    cases hj;refine ⟨_,hpv,?_⟩;rcases hq with ⟨h1,h2,h3⟩|⟨pb,po,cap',h1,h2,h3,h4,h5,h6,h7,h8,h9⟩
    ·exact .inl ⟨e2.trans h1,rfl,by rw [h2];rfl,h3⟩
    ·exact .inr ⟨pb,po,po,cap',e2.trans h1,h2,.inl rfl,h3,by omega,h5⟩
  ·rcases hq with ⟨h1,h2,h3⟩|⟨pb,po,cap',h1,h2,h3,h4,h5,h6,h7,h8,h9⟩
   ·exact .inl ⟨e2.trans h1,by rw [←hd,h2];rfl⟩
   ·refine .inr ⟨pb,po,e2.trans h1,fun j c hj=>?_,fun _=>h9,fun h=>by cases h⟩
    have hlt:j<d.length:=(List.getElem?_eq_some_iff.1 hj).1;have hlt':j<(pre.map fun k=>Cf seed k (Fy leaf k)).length:=by rw [List.length_map];omega
    rw [←hd,Mr (List.getElem?_eq_getElem hlt')] at hj;cases hj;rw [Eh];exact ⟨_,h8 j _ (List.getElem?_eq_getElem hlt'),rfl,Be.sc _⟩
 ·intro id id' b1 o1 o2 g1 g2 g3 g4
  have hid:∀i,Ct (Cj (QL leaf chv pre.length d) i)->i=96000∨i=20:=by
   intro i hi;cases hh:Cj (QL leaf chv pre.length d) i with
   |none=>rw [hh] at hi;exact hi.elim
   |some bx=>exact (hl0 i bx hh).imp (·.1) (·.1)
  have hne:∀po po',β 96000=some (b1,po)->β 20=some (b1,po')->False:=by
   intro po po' f1 f2;rw [e1] at f1;rw [e2] at f2;cases f1;rcases (hqz _ _ f2).2.1 with h2|h2
   ·omega
   ·exact m10 h2
  rcases hid id g1 with rfl|rfl<;>rcases hid id' g2 with rfl|rfl
  ·rfl
  ·exact (hne _ _ g3 g4).elim
  ·exact (hne _ _ g4 g3).elim
  ·rfl
 ·intro id b1 o1 g1 g2;cases hh:Cj (QL leaf chv pre.length d) id with
  |none=>exact absurd hh g1
  |some bx=>
   rcases hl0 id bx hh with ⟨rfl,_⟩|⟨rfl,_⟩
   ·rw [e1] at g2;cases g2;omega
   ·rw [e2] at g2;exact (hqz _ _ g2).2.2
 ·intro p hp id hid;simp only [List.mem_cons,List.not_mem_nil,or_false] at hp;rcases hp with rfl|rfl|rfl|rfl|rfl<;>simp [Cc,Cs,A4] at hid
  subst hid;simp [Cj]
 ·intro id cells e c hc i hi;rcases hl0 id _ e with ⟨rfl,e'⟩|⟨rfl,e'⟩
  ·cases e';simp only [List.mem_cons,List.not_mem_nil,or_false] at hc;rcases hc with rfl|rfl|rfl<;>simp [A4] at hi
   subst hi;exact fun h0:some (B7.ar false d)=none=>by cases h0
  ·cases e'
 ·intro i hi;subst hi;simp [Cj,De]
 ·intro id c e;rcases hl0 id _ e with ⟨rfl,e'⟩|⟨rfl,e'⟩
  ·exact ⟨0,rfl,rfl⟩
  ·cases e'
end
section
open Go.IntKind (wrap)
set_option maxRecDepth 20000
open Go Go.RowKit
theorem Agb:∀h:Nat,h<5->∀k:Nat,k<h->∀n:Nat,n<16->n<2 ^ h->0<=Fy (n:Int) k∧Fy (n:Int) k<((2 ^ (h-k):Nat):Int):=by decide +kernel
theorem Aej {wS:World}{D:Nat}{seed leaf:Int}{h b10 o10 e0:Nat}{chv:Value}{Z:Nat->Prop}{pre pre':List Nat}{A w':World}(hI:HX wS D seed leaf h b10 o10 e0 chv Z pre A){β':Bt}{X0:Fm}{a':Act}{m:Nat}{d:List PV}
  (hx1:X0.pt 0=some (b10,o10)) (hx2:X0.pn 0)(hX:∀b,X0.X b->Z b∧(b=b10∨D+2<=b∨b=e0)) (nD:D≠e0)(nD1:D+1≠e0)(l10:b10<wS.heap.size)(hD:wS.heap.size<=D)
  (hs:Cd 48 A X0 (fun _=>False) β' ⟨lk [(10,.ptr 96000 0)],Cj [(96000,.st [.sc (.int .i64 leaf),.sc chv,.view 96144 1 0 m]),(96144,.ar false d)]⟩ a' w')
  (hm:m=pre'.length)(hd:d=Af .u64 (pre'.map fun k=>Cf seed k (Fy leaf k))) (hlt:∀x∈pre',x<h)(hZD:Z D)(hZD1:Z (D+1)):
  QD Z (fun b=>Z b∨(A.heap.size<=b∧b<w'.heap.size)) A w'∧w'.heap[D]?=A.heap[D]?∧w'.heap[D+1]?=A.heap[D+1]?∧HX wS D seed leaf h b10 o10 e0 chv (fun b=>Z b∨(A.heap.size<=b∧b<w'.heap.size)) pre' w':=by
 have hsz:=hI.size;have hst:=hs.fr.step
 have same:∀b,b<A.heap.size->b≠b10->b≠e0->b<D+2->w'.heap[b]?=A.heap[b]?:=fun b hb hn hn0 hl=>hst.keep b hb fun hx=>by
  rcases (hX b hx).2 with h1|h1|h1
  ·exact hn h1
  ·omega
  ·exact hn0 h1
 have hp:β' 96000=some (b10,o10):=(hs.pin 0 hx2).2.trans hx1;obtain ⟨b,o,g1,g2,g3⟩:=(show ∃b o,β' 96000=some (b,o)∧_∧_ from hs.box 96000 _ (rfl:_=some (B7.st [.sc (.int .i64 leaf),.sc chv,.view 96144 1 0 m])))
 rw [hp] at g1;cases g1;obtain ⟨v0,q0,r0⟩:=g2 0 _ rfl;obtain ⟨v1,q1,r1⟩:=g2 1 _ rfl;obtain ⟨v2,q2,r2⟩:=g2 2 _ rfl;have r0:=Be.val r0;have r1:=Be.val r1;subst r0 r1;have hb2:=hs.box 96144 _ (rfl:_=some (B7.ar false d))
 have hne:∀pb po,β' 96144=some (pb,po)->pb≠b10∧(Z pb∨(A.heap.size<=pb∧pb<w'.heap.size))∧(D+2<=pb∨pb=e0)∧pb<w'.heap.size:=by
  intro pb po e;have hlt:pb<w'.heap.size:=hs.blt 96144 pb po (fun h0:some (B7.ar false d)=none=>by cases h0) e
  have hn:pb≠b10:=by
   intro e';subst e';have:=hs.inj 96000 96144 pb o10 po trivial trivial hp e;cases this
  rcases hs.ownd pb ⟨96144,po,trivial,e⟩ with h1|h1
  ·have h2:=hX pb h1;rcases h2.2 with h3|h3
   ·exact absurd h3 hn
   ·exact ⟨hn,.inl h2.1,h3,hlt⟩
  ·exact ⟨hn,.inr ⟨h1,hlt⟩,.inl (by omega),hlt⟩
 refine ⟨⟨hs.fr.os,hs.fr.tape,hs.fr.output,hst.size,fun b hb hn=>hst.keep b hb fun hx=>hn (hX b hx).1,fun b hb=>.inl hb,fun b hb=>hb.imp (fun x=>x) (·.1),fun b hb=>hb.elim (fun h1=>Nat.lt_of_lt_of_le (hI.zlt b h1) hst.size) (·.2),hst.bs⟩,
  same D (hI.zlt D hZD) (by omega) nD (by omega),same (D+1) (hI.zlt _ hZD1) (by omega) nD1 (by omega),?_⟩
 refine ⟨hs.fr.os.trans hI.os,hs.fr.tape.trans hI.tape,hs.fr.output.trans hI.output,by have:=hst.size;omega,fun b hb=>.inl (hI.zlo b hb),fun b hb=>hb.elim (fun h1=>Nat.lt_of_lt_of_le (hI.zlt b h1) hst.size) (·.2),fun b hb hn hn0=>(same b (by omega) hn hn0 (by omega)).trans (hI.keep b hb hn hn0),Nat.le_trans hI.bs (hst.bs b10 (by omega)),q0,q1,fun k hk=>g3 k hk,hlt,v2,q2,?_,?_⟩
 ·rcases r2 with ⟨f1,_,f3,f4⟩|⟨pb,po,xx,cap,f1,f2,f3,f4,f5,f6⟩
  ·have:pre'=[]:=List.length_eq_zero_iff.1 (by omega)
   exact .inl ⟨by rw [this];rfl,f4⟩
  ·rcases hb2 with ⟨e1,_⟩|⟨pb',po',e1,e2,e3,_⟩
   ·rw [f1] at e1;cases e1
   ·rw [f1] at e1;cases e1;have hxx:xx=po:=by omega
    subst hxx;refine .inr ⟨pb,xx,cap,by rw [f2,List.length_map,hm],by rw [List.length_map];omega,by omega,f6,(hne pb xx f1).2.2.1,fun j y hj=>?_,fun j hj hjb=>e3 rfl j hj hjb⟩
    obtain ⟨v,h1,_,h3⟩:=e2 j (.sc (.int .u64 y)) (by rw [hd];exact Mr hj)
    rw [Eh] at h1;rw [h1,Be.val h3]
 ·intro pb po n cap e;rcases r2 with ⟨f1,_,f3,f4⟩|⟨pb',po',xx,cap',f1,f2,f3,f4,f5,f6⟩
  ·rw [f4] at e;cases e
  ·rw [f2] at e;cases e;exact (hne pb po' f1).2.1
def Aqr (wS:World)(D:Nat)(seed leaf:Int)(h b10 o10 e0:Nat)(chv:Value)(c:Code)(Z:Nat->Prop)(xs:List Nat)(B:World):Prop:=c=.exit 0∧∃pre,xs=pre++[h]∧HX wS D seed leaf h b10 o10 e0 chv Z pre B
theorem Amd {wS:World}{D:Nat}{seed leaf:Int}{h b5 o5 b6 o6 b10 o10 e0:Nat}{chv:Value}{Z:Nat->Prop}{pre:List Nat}{A:World}(hh:h<=4)(hl0:0<=leaf)(hl1:leaf<((2 ^ h:Nat):Int)) (hI:HX wS D seed leaf h b10 o10 e0 chv Z pre A){x:Nat}{args:Array Value}(hM:lvM seed h pre x args Z A){a:Act}(ha:Asy wS b5 o5 b6 o6 b10 o10 args a)
  (h5:wS.cell? ⟨b5,o5,none⟩=some (.int .i64 h)) (h6:wS.cell? ⟨b6,o6,none⟩=some (.int .i64 leaf)) (l5:b5<wS.heap.size)(l6:b6<wS.heap.size)(l10:b10<wS.heap.size)(n5:b5≠b10)(n6:b6≠b10)(m5:b5≠e0)(m6:b6≠e0)(m10:b10≠e0)(nD:D≠e0)(nD1:D+1≠e0)(hD:wS.heap.size<=D)(hZD:Z D)(hZD1:Z (D+1)):
  Ab5.wpIn (WF (some (D+1))) 0 Tryz.prog (Adx D (HX wS D seed leaf h b10 o10 e0 chv) (Aqr wS D seed leaf h b10 o10 e0 chv) Z (pre++[x]) A) a A:=by
 obtain ⟨β,X0,hx1,hx2,hX,hs⟩:=Ajl hI hM ha h5 h6 l5 l6 l10 n5 n6 m5 m6 m10 hD;have hx:=hM.1;have hpl:pre.length<=1000:=by rw [hM.2.1,List.length_range];omega
 have hQo:∀a w,¬Adx D (HX wS D seed leaf h b10 o10 e0 chv) (Aqr wS D seed leaf h b10 o10 e0 chv) Z (pre++[x]) A .outgrown a w:=fun a w ⟨_,_,_,_,hf⟩=>hf
 by_cases hxh:x=h
 ·subst hxh;refine NX (Rf _ _) TV Dr (by kernel_rfl) hQo hs (t:=1) (L:=1024) (s1:=⟨lk [(10,.ptr 96000 0)],Cj [(96000,.st [.sc (.int .i64 leaf),.sc chv,.view 96144 1 0 pre.length]),(96144,.ar false (Af .u64 (pre.map fun k=>Cf seed k (Fy leaf k))))]⟩) ?_ ?_
  ·refine (Ajj cl x leaf x chv _ _ _ _).trans ?_;rw [show ((x:Int)==(x:Int))=true from beq_self_eq_true _]
   rfl
  ·intro a' w' β' hs';obtain ⟨k1,k2,k3,k4⟩:=Aej hI hx1 hx2 hX nD nD1 l10 hD hs' rfl rfl hI.lt hZD hZD1;exact ⟨_,k1,k2,k3,rfl,pre,rfl,k4⟩
 ·have hlt:x<h:=by omega
  obtain ⟨n,rfl⟩:∃n:Nat,leaf=n:=⟨leaf.toNat,by omega⟩
  have h16:2 ^ h<=16:=by
   have:2 ^ h<=2 ^ 4:=Nat.pow_le_pow_right (by omega) hh
   omega
  have sb:=Agb h (by omega) x hlt n (by omega) (by omega)
  have es:D7 .i64 (Ei .i64 (n:Int) (x:Int)) 1=Fy n x:=rfl;obtain ⟨y,hy⟩:∃y:Nat,Fy n x=y:=⟨(Fy n x).toNat,by omega⟩
  have at1:(Af .u64 (Ez seed (2 ^ (h-x)) x)).getD y .top=.sc (.int .u64 (Cf seed x (Fy n x))):=by
   rw [hy] at sb ⊢;exact Po (S6 seed (by omega))
  have L:(Af .u64 (pre.map fun k=>Cf seed k (Fy n k))).length=pre.length:=by rw [Al,List.length_map]
  have T:List.take pre.length (Af .u64 (pre.map fun k=>Cf seed k (Fy n k)))=Af .u64 (pre.map fun k=>Cf seed k (Fy n k)):=Jv (by omega)
  have bq:((x:Int)==(h:Int))=false:=by
   rw [beq_eq_false_iff_ne];omega
  refine NX (Rf _ _) TV Dr (by kernel_rfl) hQo hs (t:=0) (L:=1024) (s1:=⟨lk [(10,.ptr 96000 0)],Cj [(96000,.st [.sc (.int .i64 n),.sc chv,.view 96144 1 0 (pre.length+1)]),(96144,.ar false (Af .u64 (pre.map fun k=>Cf seed k (Fy n k))++[.sc (.int .u64 (Cf seed x (Fy n x)))]))]⟩) ?_ ?_
  ·refine (Ajj cl h n x chv _ _ _ _).trans ?_;rw [bq];have t0:(0:Int)<=x:=by omega
   have t1:(0:Int)<=y:=by omega
   have t2:(y:Int)<((2 ^ (h-x):Nat):Int):=by omega
   have hn0:((pre.length+1)*8<=1099511627776):=by omega
   generalize 2 ^ (h-x)=nn at *
   simp (disch:=omega) only [Bx,es,hy,at1,L,T,Hi,Bz]
  ·intro a' w' β' hs'
   obtain ⟨k1,k2,k3,k4⟩:=Aej (pre':=pre++[x]) hI hx1 hx2 hX nD nD1 l10 hD hs' (by simp) (by simp) (by
    intro z hz;rcases List.mem_append.1 hz with h1|h1
    ·exact hI.lt z h1
    ·rw [List.mem_singleton.1 h1];exact hlt) hZD hZD1
   exact ⟨_,k1,k2,k3,k4⟩
end
section
open Go.IntKind (wrap)
set_option maxRecDepth 20000
open Go Go.RowKit Go.Shelf
set_option maxHeartbeats 2000000 in
theorem Aok (seed h:Int)(n:Nat)(w:World):CallsIn Fence.wide n Tryz.prog 77 #[.int .u64 seed,.int .i64 h] w fun e w'=>
  e=.returned (.func (.func 107) #[] #[.pointer (some ⟨w.heap.size+1,0,none⟩),.pointer (some ⟨w.heap.size,0,none⟩)])∧w'=(w.alloc (.cells #[.int .u64 seed] 22)).alloc (.cells #[.int .i64 h] 3):=by
 refine callsIn_of_wp Tryz.func77 rfl trivial ?_ rfl;simp only [Tryz.ntmps77,List.size_toArray,Kb,ED,Nat.reduceAdd,Nat.reduceSub,Array.replicate_succ,Array.replicate_zero,List.push_toArray,List.append_toArray,Zzq,List.cons_append]
 gi_wp2
 go_ret
 exact ⟨rfl,rfl⟩
end
section
open Go.IntKind (wrap)
set_option maxRecDepth 20000
open Go Go.RowKit
theorem Are {G:Wo}{P:Program}{f:FuncId}{v0 v1 v2 v3:Value}{vals:List PV}(hf:∃fn,P.funcs[f]?=some fn∧fn.body.isSome=true)
  (h:∀(w:World)(Y:Nat->Prop),(∀b,Y b->b<w.heap.size)->Calls P f #[v0,v1,v2,v3] w fun e w'=>∃vs own,e=.returned (Mk vs)∧Out w w' Y QK [.sc v0,.sc v1,.sc v2,.sc v3] own ⟨vals,[]⟩ vs):Dk G P f [.sc v0,.sc v1,.sc v2,.sc v3] ⟨vals,[]⟩:=by
 refine ⟨hf,fun w Y bt us hin _ _=>?_⟩
 have hus:us=[v0,v1,v2,v3]:=by
  have ha:=hin.args
  match us,ha with
  |[u0,u1,u2,u3],⟨h0,h1,h2,h3,_⟩=>
   rw [Be.val h0.2,Be.val h1.2,Be.val h2.2,Be.val h3.2]
 subst hus
 have hl:∀i q,bt i 0≠some q:=by
  intro i q e;obtain ⟨p,h1,h2⟩:=hin.l0 i q e
  match i,h1 with
  |0,h1=>cases h1;cases h2
  |1,h1=>cases h1;cases h2
  |2,h1=>cases h1;cases h2
  |3,h1=>cases h1;cases h2
 refine (h w Y hin.Ylt).mono ?_
 rintro e w' ⟨vs,own,rfl,ho⟩
 have hA:UZ bt own Y=UZ QK own Y:=by
  funext b
  apply propext;constructor
  ·rintro (h1|⟨i,o,h1⟩|h1)
   ·exact .inl h1
   ·exact absurd h1 (hl i _)
   ·exact .inr (.inr h1)
  ·rintro (h1|⟨i,o,h1⟩|h1)
   ·exact .inl h1
   ·cases h1
   ·exact .inr (.inr h1)
 refine ⟨vs,own,rfl,ho.os,ho.tape,ho.output,ho.ext.weaken (fun b _ hb=>absurd hb (Xk b)),fun b j hb _=>ho.rng b j hb ?_,by rw [hA];exact ho.vals,rfl,fun j b o hj=>⟨(ho.fresh j b o hj).1,fun hlt=>?_⟩,ho.inj⟩
 ·rintro ⟨i,p,_,⟨k,o,h1,_⟩|⟨o,ps,h1,_⟩⟩
  ·cases h1
  ·cases h1
 ·obtain ⟨⟨i,k,o',h1⟩,_⟩:=(ho.fresh j b o hj).2 hlt;cases h1
theorem Cd.unbase {N:Nat}{we B w':World}{X XB:Fm}{Y YB:Nat->Prop}{β:Bt}{s:St}{a:Act}(h:Cd N B XB YB β s a w')(hY:∀b,Y b->YB b)(hYlt:∀b,Y b->b<we.heap.size)(hown:∀b,XB.X b->we.heap.size<=b)(hpn:∀i,¬X.pn i)
  (hos:B.os=we.os)(ht:B.tape=we.tape)(hou:B.output=we.output)(hsz:we.heap.size<=B.heap.size)(hk:∀b,b<we.heap.size->B.heap[b]?=we.heap[b]?):Cd N we X Y β s a w':=by
 have hX:∀b,GD s.hp β b->we.heap.size<=b:=fun b hb=>(h.ownd b hb).elim (hown b) (fun h1=>Nat.le_trans hsz h1)
 have hA:∀b,Da s.hp β Y b->Da s.hp β YB b:=fun b hb=>hb.imp (fun x=>x) (hY b)
 have hst:Co (Da s.hp β YB) w' w':=⟨Nat.le_refl _,fun _ _ _=>rfl,fun _ _=>Nat.le_refl _⟩
 have hkw:∀b,b<we.heap.size->w'.heap[b]?=we.heap[b]?:=fun b hb=>(h.fr.step.keep b (by omega) fun hx=>by have:=hown b hx;omega).trans (hk b hb)
 refine ⟨h.dfr,h.tsz,h.tmo,fun i hi=>(h.tms i hi).step hst (fun b _=>hA b) fun _ _=>rfl,fun id bx e=>(h.box id bx e).step' hA,h.inj,h.blt,h.wfT,h.wfB,fun b hb=>.inr (hX b hb),fun id bx b o h1 h2 h3 h4=>?_,fun i hi=>absurd hi (hpn i),fun id c b o h1 h2 h3=>?_,fun b hy=>h.Yx b (hY b hy),hYlt,
  ⟨h.fr.os.trans hos,h.fr.tape.trans ht,h.fr.output.trans hou,⟨Nat.le_trans hsz h.fr.step.size,fun b hb _=>hkw b hb,fun b hb=>by unfold bsz;rw [hkw b hb];exact Nat.le_refl _⟩,fun b j hb _=>⟨World.cell?_of_block (hkw b hb),frozen?_of_block (hkw b hb)⟩⟩⟩
 ·have:=hX b ⟨id,o,by rw [h1];exact h2,h3⟩
  omega
 ·have:=hX b ⟨id,o,by rw [h1];trivial,h2⟩
  omega
theorem HX.stay {wS:World}{D:Nat}{seed leaf:Int}{h b10 o10 e0:Nat}{chv:Value}{Z:Nat->Prop}{pre:List Nat}{A B:World}(hI:HX wS D seed leaf h b10 o10 e0 chv Z pre A)(l10:b10<wS.heap.size)(nD:D≠e0)(nD1:D+1≠e0)(hD:wS.heap.size<=D)(hs:Z4 (fun b=>Z b∧b≠D∧b≠D+1) A B):HX wS D seed leaf h b10 o10 e0 chv Z pre B:=by
 have e:∀b,b<wS.heap.size->B.heap[b]?=A.heap[b]?:=fun b hb=>hs.same b ⟨hI.zlo b hb,by omega,by omega⟩
 have hb:bsz B b10=bsz A b10:=by unfold bsz;rw [e b10 l10]
 have hc:∀j,B.cell? ⟨b10,j,none⟩=A.cell? ⟨b10,j,none⟩:=fun j=>World.cell?_of_block (e b10 l10)
 obtain ⟨pv,p1,p2,p3⟩:=hI.path;refine ⟨hs.os.trans hI.os,hs.tape.trans hI.tape,hs.output.trans hI.output,Nat.le_trans hI.size hs.size,hI.zlo,fun b hz=>Nat.lt_of_lt_of_le (hI.zlt b hz) hs.size,fun b hb hn hn0=>(e b hb).trans (hI.keep b hb hn hn0),by rw [hb];exact hI.bs,(hc _).trans hI.c0,(hc _).trans hI.c1,fun k hk=>by rw [frozen?_of_block (e b10 l10)];exact hI.fz k hk,hI.lt,pv,(hc _).trans p1,?_,p3⟩
 rcases p2 with p2|⟨pb,po,cap,h1,h2,h3,h4,h5,h6,h7⟩
 ·exact .inl p2
 ·have hh:B.heap[pb]?=A.heap[pb]?:=hs.same pb ⟨p3 _ _ _ _ h1,by omega,by omega⟩
  have hbb:bsz B pb=bsz A pb:=by unfold bsz;rw [hh]
  exact .inr ⟨pb,po,cap,h1,h2,by rw [hbb];exact h3,Nat.lt_of_lt_of_le h4 hs.size,h5,fun j x hj=>(World.cell?_of_block (a:=⟨pb,po+j,none⟩) hh).trans (h6 j x hj),fun j hj hjb=>by rw [frozen?_of_block hh];exact h7 j hj (by rw [←hbb];exact hjb)⟩
end
section
open Go.IntKind (wrap)
set_option maxRecDepth 20000
open Go Go.RowKit
abbrev sgE (leaf:Int)(n1 n2:Nat)(c1 c2:List PV):List (Nat × PV):=[(8,.ptr 96000 0),(9,.sc (.int .i64 0)),(10,.iptr [.sc (.int .i64 leaf),.lst false 1 n1 c1,.lst false 1 n2 c2] 0)]
theorem Ark {wS:World}{D:Nat}{seed leaf:Int}{h b8 o8 b10 o10 e0:Nat}{chv:Value}{Z:Nat->Prop}{pre:List Nat}{B:World}{Y:Nat->Prop}{a:Act}{n1:Nat}{c1:List PV}(hB:HX wS D seed leaf h b10 o10 e0 chv Z pre B)
  (hd:a.defers=[]) (hsz:a.tmps.size=48)(t8:a.tmps.getD 8 undef=.pointer (some ⟨b8,o8,none⟩)) (t9:a.tmps.getD 9 undef=.int .i64 0)(t10:a.tmps.getD 10 undef=.pointer (some ⟨b10,o10,none⟩))
  (c8:∀j,j<3->∃v,B.cell? ⟨b8,o8+j,none⟩=some v)(f8:∀j,j<3->B.frozen? ⟨b8,o8+j,none⟩=false)(l8:b8<B.heap.size)(l10:b10<B.heap.size)(n8:b8≠b10)(y8:¬Y b8)(y10:¬Y b10)
  (hch:Be B (fun b=>b=b8∨Y b) (.lst false 1 n1 c1) chv) (hch1:chv.oneCell'=true)(hp:∀pb,(D+2<=pb∨pb=e0)->pb≠b8∧¬Y pb) (hY:∀b,Y b->b<B.heap.size):
  ∃X0 β,(∀b,X0.X b->b=b8)∧Cd 48 B X0 Y β ⟨lk (sgE leaf n1 pre.length c1 (Af .u64 (pre.map fun k=>Cf seed k (Fy leaf k)))),Cj [(96000,.st [.top,.top,.top])]⟩ a B:=by
 obtain ⟨pv,hpv,hown,hpz⟩:=hB.path;obtain ⟨β,hβ⟩:∃β:Bt,β=fun id=>if id=96000 then some (b8,o8) else none:=⟨_,rfl⟩
 have e1:β 96000=some (b8,o8):=by rw [hβ];rfl
 have hl0:∀id bx,Cj [(96000,B7.st [.top,.top,.top])] id=some bx->id=96000∧bx=.st [.top,.top,.top]:=by
  intro id bx e;rcases S5 [(96000,B7.st [.top,.top,.top])] id with h1|⟨p,hp,h1,h2⟩
  ·rw [h1] at e;cases e
  ·rw [h2] at e;cases e;simp only [List.mem_cons,List.not_mem_nil,or_false] at hp;subst hp;exact ⟨h1.symm,rfl⟩
 have hX:∀b,GD (Cj [(96000,B7.st [.top,.top,.top])]) β b->b=b8:=by
  rintro b' ⟨id,o',hl,hb⟩
  cases hh:Cj [(96000,B7.st [.top,.top,.top])] id with
  |none=>rw [hh] at hl;exact hl.elim
  |some bx=>
   obtain ⟨rfl,_⟩:=hl0 id bx hh;rw [e1] at hb;cases hb;rfl
 have hA:∀b,Da (Cj [(96000,B7.st [.top,.top,.top])]) β Y b->b=b8∨Y b:=fun b hb=>hb.imp (hX b) (fun x=>x)
 have hst:Co (fun b=>b=b8∨Y b) B B:=⟨Nat.le_refl _,fun _ _ _=>rfl,fun _ _=>Nat.le_refl _⟩
 have one:pv.oneCell'=true:=by
  rcases hown with ⟨_,h2⟩|⟨pb,po,cap,h1,_⟩
  ·rw [h2];rfl
  ·rw [h1];rfl
 refine ⟨_,β,?_,Cd.make (sgE leaf n1 pre.length c1 (Af .u64 (pre.map fun k=>Cf seed k (Fy leaf k)))) [(96000,.st [.top,.top,.top])] a (fun i=>i=0) (fun i hi=>by omega) hd hsz ?_ ?_ ?_ ?_ ?_ ?_ ?_ ?_ ?_ ?_ hY⟩
 ·exact hX
 ·intro p hp';simp only [List.mem_cons,List.not_mem_nil,or_false] at hp';rcases hp' with rfl|rfl|rfl<;>simp
 ·intro p hp';simp only [List.mem_cons,List.not_mem_nil,or_false] at hp';rcases hp' with rfl|rfl|rfl
  ·exact ⟨b8,o8,e1,t8⟩
  ·show D9 _ _ _ (.sc (.int .i64 0)) (a.tmps.getD 9 undef);rw [t9];exact Be.sc _
  ·refine ⟨⟨b10,o10,none⟩,t10,rfl,l10,fun hb=>?_,fun j c hj=>?_⟩
   ·rcases hA _ hb with h1|h1
    ·exact n8 h1.symm
    ·exact y10 h1
   ·match j,hj with
    |0,hj=>cases hj;exact ⟨_,hB.c0,rfl,Be.sc _⟩
    |1,hj=>cases hj;exact ⟨_,hB.c1,hch1,hch.step hst fun b _=>hA b⟩
    |2,hj=>
     cases hj;refine ⟨_,hpv,one,?_⟩;rcases hown with ⟨h1,h2⟩|⟨pb,po,cap,h1,h2,h3,h4,h5,h6,h7⟩
     ·rw [h2];have:pre=[]:=by simpa using h1
      subst this;exact Be.lnil _ _
     ·rw [h1,List.length_map];rw [List.length_map] at h2;refine Be.lst 1 _ _ ⟨pb,po,none⟩ cap (fun j=>.int .u64 ((pre.map fun k=>Cf seed k (Fy leaf k)).getD j 0)) rfl h4 (fun hb=>?_) h2 ?_ (fun _ _ _=>rfl) ?_
      ·have hh:=hp pb h5;rcases hA _ hb with h8|h8
       ·exact hh.1 h8
       ·exact hh.2 h8
      ·intro j c hj;have hlt:j<(Af .u64 (pre.map fun k=>Cf seed k (Fy leaf k))).length:=(List.getElem?_eq_some_iff.1 hj).1
       rw [Al] at hlt;rw [Eh,h6 j _ (List.getElem?_eq_getElem hlt),List.getD_eq_getElem?_getD,List.getElem?_eq_getElem hlt];rfl
      ·intro j c hj;have hlt:j<(Af .u64 (pre.map fun k=>Cf seed k (Fy leaf k))).length:=(List.getElem?_eq_some_iff.1 hj).1
       rw [Al] at hlt;rw [Mr (List.getElem?_eq_getElem hlt)] at hj;cases hj;rw [List.getD_eq_getElem?_getD,List.getElem?_eq_getElem hlt];exact Be.sc _
 ·intro id bx e;obtain ⟨rfl,rfl⟩:=hl0 id bx e;refine ⟨b8,o8,e1,fun j c hj=>?_,fun j hj=>f8 j hj⟩
  have hlt:j<3:=(List.getElem?_eq_some_iff.1 hj).1;obtain ⟨v,hv⟩:=c8 j hlt
  match j,hj with
  |0,hj=>cases hj;exact ⟨v,hv,Be.top _⟩
  |1,hj=>cases hj;exact ⟨v,hv,Be.top _⟩
  |2,hj=>cases hj;exact ⟨v,hv,Be.top _⟩
 ·intro id id' b1 o1 o2 g1 g2 g3 g4
  have hid:∀i,Ct (Cj [(96000,B7.st [.top,.top,.top])] i)->i=96000:=by
   intro i hi;cases hh:Cj [(96000,B7.st [.top,.top,.top])] i with
   |none=>rw [hh] at hi;exact hi.elim
   |some bx=>exact (hl0 i bx hh).1
  rw [hid id g1,hid id' g2]
 ·intro id b1 o1 g1 g2;cases hh:Cj [(96000,B7.st [.top,.top,.top])] id with
  |none=>exact absurd hh g1
  |some bx=>
   obtain ⟨rfl,_⟩:=hl0 id bx hh;rw [e1] at g2;cases g2;exact l8
 ·intro p hp' id hid;simp only [List.mem_cons,List.not_mem_nil,or_false] at hp';rcases hp' with rfl|rfl|rfl<;>simp [Cc,Cs,A4] at hid
  subst hid;simp [Cj]
 ·intro id cells e c hc i hi;obtain ⟨rfl,e'⟩:=hl0 id _ e;cases e';simp only [List.mem_cons,List.not_mem_nil,or_false] at hc;rcases hc with rfl|rfl|rfl<;>simp [A4] at hi
 ·intro i hi;subst hi;simp [Cj,De]
 ·intro id c e;obtain ⟨rfl,_⟩:=hl0 id _ e;exact ⟨0,rfl,rfl⟩
 ·intro b hy hx;rw [hX b hx] at hy;exact y8 hy
end
section
open Go.IntKind (wrap)
set_option maxRecDepth 20000
open Go Go.RowKit
abbrev Ah6 (seed h leaf m:Int)(n:Nat)(c:List PV):St:=
  ⟨lk [(0,.sc (.int .u64 seed)),(3,.sc (.int .u64 m)),(5,.ptr 5 0),(6,.ptr 6 0),(8,.ptr 8 0),(9,.sc (.int .i64 0)),(10,.ptr 10 0),(27,.sc (.int .u64 seed)),(28,.sc (.int .i64 h))],
   Cj [(5,.st [.sc (.int .i64 h)]),(6,.st [.sc (.int .i64 leaf)]),(8,.st [.sc (.int .i64 0),.view 104 1 0 0,.view 152 1 0 0]),(104,.ar false []),(152,.ar false []),(10,.st [.sc (.int .i64 leaf),.view 106 1 0 n,.view 154 1 0 0]),(106,.ar false c),(154,.ar false [])]⟩
theorem Cd.var {N:Nat}{w0:World}{X0:Fm}{Y:Nat->Prop}{β:Bt}{s:St}{a:Act}{w:World}(h:Cd N w0 X0 Y β s a w){i id:Nat}{cells:List PV}(hi:i<N)(ht:s.tm i=.ptr id 0)(hb:s.hp id=some (.st cells)):
  ∃b o,β id=some (b,o)∧a.tmps.getD i undef=.pointer (some ⟨b,o,none⟩)∧b<w.heap.size∧(∀j c,cells[j]?=some c->∃v,w.cell? ⟨b,o+j,none⟩=some v∧Cq w (Da s.hp β Y) β c v)∧∀j,j<cells.length->w.frozen? ⟨b,o+j,none⟩=false:=by
 have h1:=h.tms i hi;rw [ht] at h1;obtain ⟨b,o,e1,e2⟩:=(show ∃b o,β id=some (b,o)∧a.tmps.getD i undef=.pointer (some ⟨b,o+0,none⟩) from h1)
 obtain ⟨b',o',e3,e4,e5⟩:=(show ∃b o,β id=some (b,o)∧_∧_ from h.box id _ hb)
 rw [e1] at e3;cases e3;exact ⟨b,o,e1,e2,h.blt id b o (by rw [hb];simp) e1,e4,e5⟩
structure Asg (w w4:World) (Y:Nat->Prop) (seed h leaf:Int) (c:List PV) (n:Nat) (a4:Act) (b5 o5 b6 o6 b8 o8 b10 o10 e0:Nat) (chv:Value):Prop where
 t5:a4.tmps.getD 5 undef=.pointer (some ⟨b5,o5,none⟩)
 t6:a4.tmps.getD 6 undef=.pointer (some ⟨b6,o6,none⟩)
 t8:a4.tmps.getD 8 undef=.pointer (some ⟨b8,o8,none⟩)
 t9:a4.tmps.getD 9 undef=.int .i64 0
 t10:a4.tmps.getD 10 undef=.pointer (some ⟨b10,o10,none⟩)
 t27:a4.tmps.getD 27 undef=.int .u64 seed
 t28:a4.tmps.getD 28 undef=.int .i64 h
 c5:w4.cell? ⟨b5,o5,none⟩=some (.int .i64 h)
 c6:w4.cell? ⟨b6,o6,none⟩=some (.int .i64 leaf)
 c8:∀j,j<3->∃v,w4.cell? ⟨b8,o8+j,none⟩=some v
 f8:∀j,j<3->w4.frozen? ⟨b8,o8+j,none⟩=false
 c10:w4.cell? ⟨b10,o10,none⟩=some (.int .i64 leaf)
 c11:w4.cell? ⟨b10,o10+1,none⟩=some chv
 f10:∀j,j<3->w4.frozen? ⟨b10,o10+j,none⟩=false
 l5:b5<w4.heap.size
 l6:b6<w4.heap.size
 l8:b8<w4.heap.size
 l10:b10<w4.heap.size
 le:e0<=w4.heap.size
 n5:b5≠b10
 n6:b6≠b10
 m5:b5≠e0
 m6:b6≠e0
 m10:b10≠e0
 n8:b8≠b10
 m8:b8≠e0
 y8:¬Y b8
 y10:¬Y b10
 ye:¬Y e0
 g10:w.heap.size<=b10
 ge:w.heap.size<=e0
 g8:w.heap.size<=b8
 one:chv.oneCell'=true
 ch:∀B:World,w4.heap.size<=B.heap.size->(∀b,b<w4.heap.size->b≠b10->b≠e0->B.heap[b]?=w4.heap[b]?)->Be B (fun b=>b=b8∨Y b) (.lst false 1 n c) chv
 p0:∃v2,w4.cell? ⟨b10,o10+2,none⟩=some v2∧(v2=.slice none 0 0∨∃x cap,v2=.slice (some ⟨e0,x,none⟩) 0 cap∧x+cap<=bsz w4 e0∧e0<w4.heap.size∧∀j,x<=j->j<bsz w4 e0->w4.frozen? ⟨e0,j,none⟩=false)
theorem Amf {w w4:World}{Y:Nat->Prop}{seed h leaf m:Int}{l:List Int}{n:Nat}{a4:Act}{X0:Fm}{β4:Bt}(hn:0<n)(hl:l.length=n)(hX:∀b,¬X0.X b)(hs:Cd 48 w X0 Y β4 (Ah6 seed h leaf m n (Af .u64 l)) a4 w4):
  ∃b5 o5 b6 o6 b8 o8 b10 o10 e0 chv,Asg w w4 Y seed h leaf (Af .u64 l) n a4 b5 o5 b6 o6 b8 o8 b10 o10 e0 chv:=by
 obtain ⟨b5,o5,e5,t5,l5,k5,f5⟩:=hs.var (i:=5) (id:=5) (by decide) rfl rfl
 obtain ⟨b6,o6,e6,t6,l6,k6,f6⟩:=hs.var (i:=6) (id:=6) (by decide) rfl rfl
 obtain ⟨b8,o8,e8,t8,l8,k8,f8⟩:=hs.var (i:=8) (id:=8) (by decide) rfl rfl
 obtain ⟨b10,o10,e10,t10,l10,k10,f10⟩:=hs.var (i:=10) (id:=10) (by decide) rfl rfl
 obtain ⟨v5,q5,r5⟩:=k5 0 _ rfl;obtain ⟨v6,q6,r6⟩:=k6 0 _ rfl;obtain ⟨v80,q80,_⟩:=k8 0 _ rfl;obtain ⟨v81,q81,_⟩:=k8 1 _ rfl;obtain ⟨v82,q82,_⟩:=k8 2 _ rfl;obtain ⟨v0,q0,r0⟩:=k10 0 _ rfl;obtain ⟨v1,q1,r1⟩:=k10 1 _ rfl;obtain ⟨v2,q2,r2⟩:=k10 2 _ rfl;have r5:=Be.val r5;have r6:=Be.val r6;have r0:=Be.val r0;subst r5 r6 r0;have hb1:=hs.box 106 _ (rfl:_=some (B7.ar false (Af .u64 l)));have hb2:=hs.box 154 _ (rfl:_=some (B7.ar false []));have own:∀id b o,Ct ((Ah6 seed h leaf m n (Af .u64 l)).hp id)->β4 id=some (b,o)->w.heap.size<=b∧¬Y b:=fun id b o h1 h2=>⟨(hs.ownd b ⟨id,o,h1,h2⟩).elim (fun x=>absurd x (hX b)) (fun x=>x),fun hy=>hs.Yx b hy ⟨id,o,h1,h2⟩⟩
 have dif:∀id id' b b' o o',id≠id'->Ct ((Ah6 seed h leaf m n (Af .u64 l)).hp id)->Ct ((Ah6 seed h leaf m n (Af .u64 l)).hp id')->β4 id=some (b,o)->β4 id'=some (b',o')->b≠b':=fun id id' b b' o o' hne h1 h2 h3 h4 e=>by
  subst e;exact hne (hs.inj id id' b o o' h1 h2 h3 h4)
 obtain ⟨e0,he1,he2⟩:∃e0,(∀b o,β4 154=some (b,o)->e0=b)∧((∃o,β4 154=some (e0,o))∨e0=w4.heap.size):=by
  cases hq:β4 154 with
  |none=>exact ⟨w4.heap.size,fun b o h=>by (cases h),.inr rfl⟩
  |some q=>exact ⟨q.1,fun b o h=>by (cases h;rfl),.inl ⟨q.2,rfl⟩⟩
 have hlt4:w.heap.size<=w4.heap.size:=hs.fr.step.size
 have de:∀id b o,id≠154->Ct ((Ah6 seed h leaf m n (Af .u64 l)).hp id)->β4 id=some (b,o)->b<w4.heap.size->b≠e0:=fun id b o hne h1 h2 hlt e=>by
  rcases he2 with ⟨o',h3⟩|h3
  ·exact dif id 154 b e0 o o' hne h1 trivial h2 h3 e
  ·omega
 have ge:w.heap.size<=e0∧¬Y e0∧e0<=w4.heap.size:=by
  rcases he2 with ⟨o',h3⟩|h3
  ·have:=own 154 e0 o' trivial h3;exact ⟨this.1,this.2,Nat.le_of_lt (hs.blt 154 e0 o' (fun h0:some (B7.ar false [])=none=>by cases h0) h3)⟩
  ·exact ⟨by omega,fun hy=>by have:=hs.Ylt e0 hy;omega,by omega⟩
 rcases r1 with ⟨_,_,h3,_⟩|⟨cb,co,x,cap,g1,g2,g3,g4,g5,g6⟩
 ·omega
 rcases hb1 with ⟨h7,_⟩|⟨cb',co',h7,h8,h9,_⟩
 ·rw [g1] at h7;cases h7
 rw [g1] at h7;cases h7;have hx:x=co:=by omega
 subst hx
 refine ⟨b5,o5,b6,o6,b8,o8,b10,o10,e0,v1,⟨t5,t6,t8,Qi (hs.tms 9 (by decide)),t10,Qi (hs.tms 27 (by decide)),Qi (hs.tms 28 (by decide)),q5,q6,fun j hj=>?_,fun j hj=>f8 j hj,q0,q1,fun j hj=>f10 j hj,l5,l6,l8,l10,ge.2.2,
  dif 5 10 _ _ _ _ (by decide) trivial trivial e5 e10,dif 6 10 _ _ _ _ (by decide) trivial trivial e6 e10,de 5 _ _ (by decide) trivial e5 l5,de 6 _ _ (by decide) trivial e6 l6,de 10 _ _ (by decide) trivial e10 l10,dif 8 10 _ _ _ _ (by decide) trivial trivial e8 e10,de 8 _ _ (by decide) trivial e8 l8,
  (own 8 _ _ trivial e8).2,(own 10 _ _ trivial e10).2,ge.2.1,(own 10 _ _ trivial e10).1,ge.1,(own 8 _ _ trivial e8).1,by rw [g2];rfl,fun B hB hk=>?_,v2,q2,?_⟩⟩
 ·match j,hj with
  |0,_=>exact ⟨v80,q80⟩
  |1,_=>exact ⟨v81,q81⟩
  |2,_=>exact ⟨v82,q82⟩
 ·have hsame:=hk cb g6 (dif 106 10 _ _ _ _ (by decide) trivial trivial g1 e10) (de 106 _ _ (by decide) trivial g1 g6)
  rw [g2];refine Be.lst 1 _ _ ⟨cb,x,none⟩ cap (fun j=>.int .u64 (l.getD j 0)) rfl (by show cb<_;omega) (fun hb=>?_) g4 (fun j c hj=>?_) (fun _ _ _=>rfl) (fun j c hj=>?_)
  ·rcases hb with hb|hb
   ·exact dif 106 8 _ _ _ _ (by decide) trivial trivial g1 e8 hb
   ·exact (own 106 _ _ trivial g1).2 hb
  ·have hlt:j<(Af .u64 l).length:=(List.getElem?_eq_some_iff.1 hj).1;rw [Al] at hlt;obtain ⟨v,k1,_,k3⟩:=h8 j _ (Mr (List.getElem?_eq_getElem hlt));rw [Eh] at k1 ⊢;rw [World.cell?_of_block (a:=⟨cb,x+j,none⟩) hsame,k1,Be.val k3,List.getD_eq_getElem?_getD,List.getElem?_eq_getElem hlt];rfl
  ·have hlt:j<(Af .u64 l).length:=(List.getElem?_eq_some_iff.1 hj).1;rw [Al] at hlt;rw [Mr (List.getElem?_eq_getElem hlt)] at hj;cases hj;rw [List.getD_eq_getElem?_getD,List.getElem?_eq_getElem hlt];exact Be.sc _
 ·rcases r2 with ⟨_,_,_,h4⟩|⟨pb,po,x',cap',k1,k2,k3,k4,k5',k6'⟩
  ·exact .inl h4
  ·have he:=he1 pb po k1;subst he;rcases hb2 with ⟨h7,_⟩|⟨pb',po',h7,_,h9',_⟩
   ·rw [k1] at h7;cases h7
   ·rw [k1] at h7;cases h7;have hxx:x'=po:=by omega
    subst hxx;exact .inr ⟨x',cap',k2,by omega,k6',fun j hj hjb=>h9' rfl j hj hjb⟩
end
section
open Go.IntKind (wrap)
set_option maxRecDepth 20000
open Go Go.RowKit
noncomputable abbrev Ajm:Code:=sA (sB (sR (sL (sR (sR (sR PJ))))))
theorem Akf:∃o1 o2:Oper,Ajm=.seq (.region 5 #[o1] false) (.region 6 #[o2] false)∧(o1.op=.assign (.tmp 30)∧o1.dst=some 11∧o1.guard=none)∧(o2.op=.assign (.tmp 31)∧o2.dst=some 12∧o2.guard=none):=
 ⟨_,_,rfl,⟨rfl,rfl,rfl⟩,⟨rfl,rfl,rfl⟩⟩
theorem Af4 {F:Fence}{n:Nat}{P:Program}{o:Oper}{x:Operand}{a:Act}{w:World}{next:Act->World->Prop}{Q:Exit->Act->World->Prop}(hF:∀f,F.fn f)(ho:o.op=.assign x)(h:next (a.put o.dst (a.eval x)) w):o.wpIn F n P a w next Q:=by
 refine ⟨fun f _=>hF f,?_⟩
 have e:o.semAt F.round a.eval=execOp a.eval o:=Oper.semAt_eq _ _ _ (by intro c hc;rw [ho] at hc;cases hc)
 rw [e]
 have r:(execOp a.eval o).run P w=.ok (.value (a.eval x)) w:=by
  unfold execOp;rw [ho];simp
 rw [r];exact h
theorem Afn {F:Fence}{n:Nat}{P:Program}{o:Oper}{x:Operand}{id:Nat}{a:Act}{w:World}{Q:Exit->Act->World->Prop}(hF:∀f,F.fn f)(ho:o.op=.assign x)(hg:o.guard=none)(h:Q .normal (a.put o.dst (a.eval x)) w):(Code.region id #[o] false).wpIn F n P Q a w:=by
 refine wpIn_region ?_;show wpOpsIn F n P #[o] Q [0] a w;unfold wpOpsIn;simp only [List.getElem?_toArray,List.getElem?_cons_zero,Region.wanted,hg,if_true];exact Af4 hF ho h
theorem Gi {a:Act}{i j:Nat}{v:Value}(h:i≠j):(a.put (some i) v).tmps.getD j undef=a.tmps.getD j undef:=by
 show (a.tmps.setIfInBounds i v).getD j undef=_;simp [Array.getD_eq_getD_getElem?,Array.getElem?_setIfInBounds_ne h]
theorem PN {a:Act}{i:Nat}{v:Value}(h:i<a.tmps.size):(a.put (some i) v).tmps.getD i undef=v:=by
 show (a.tmps.setIfInBounds i v).getD i undef=_;simp [Array.getD_eq_getD_getElem?,h]
def sgA (a:Act)(args:Array Value):Act:=
 let r:Act:={ tmps:=((#[30,31]:Array Tmp).zip args).foldl (fun t (p,v)=>t.setIfInBounds p v) a.tmps,defers:=[] }
 let r1:=r.put (some 11) (r.eval (.tmp 30))
 r1.put (some 12) (r1.eval (.tmp 31))
theorem Amb {a:Act}{x y:Value}(hs:a.tmps.size=48):(sgA a #[x,y]).defers=[]∧(sgA a #[x,y]).tmps.size=48∧(sgA a #[x,y]).tmps.getD 5 undef=a.tmps.getD 5 undef∧(sgA a #[x,y]).tmps.getD 6 undef=a.tmps.getD 6 undef∧(sgA a #[x,y]).tmps.getD 10 undef=a.tmps.getD 10 undef ∧
  (sgA a #[x,y]).tmps.getD 11 undef=x∧(sgA a #[x,y]).tmps.getD 12 undef=y:=by
 obtain ⟨b,hb⟩:∃b:Act,({ tmps:=a.tmps,defers:=[] }:Act)=b:=⟨_,rfl⟩;have hbs:b.tmps.size=48:=by rw [←hb];exact hs
 have e:sgA a #[x,y]=(((b.put (some 30) x).put (some 31) y).put (some 11) (((b.put (some 30) x).put (some 31) y).eval (.tmp 30))).put (some 12) ((((b.put (some 30) x).put (some 31) y).put (some 11) (((b.put (some 30) x).put (some 31) y).eval (.tmp 30))).eval (.tmp 31)):=by
  rw [←hb];have z:((#[30,31]:Array Tmp).zip #[x,y]) = #[(30,x),(31,y)]:=by simp
  unfold sgA;rw [z];simp [Act.put]
 have ev:∀(c:Act) (t:Nat),c.eval (.tmp t)=c.tmps.getD t undef:=fun c t=>rfl
 have e30:((b.put (some 30) x).put (some 31) y).eval (.tmp 30)=x:=by rw [ev,Gi (by decide),PN (by omega)]
 rw [e,e30];have e31:(((b.put (some 30) x).put (some 31) y).put (some 11) x).eval (.tmp 31)=y:=by rw [ev,Gi (by decide),PN (by rw [I5];omega)]
 rw [e31];have hd:b.defers=[]:=by rw [←hb]
 have ht:b.tmps=a.tmps:=by rw [←hb]
 refine ⟨by simp only [Ml,hd],by simp only [I5,hbs],?_,?_,?_,?_,?_⟩
 ·rw [Gi (by decide),Gi (by decide),Gi (by decide),Gi (by decide),ht]
 ·rw [Gi (by decide),Gi (by decide),Gi (by decide),Gi (by decide),ht]
 ·rw [Gi (by decide),Gi (by decide),Gi (by decide),Gi (by decide),ht]
 ·rw [Gi (by decide),PN (by simp only [I5];omega)]
 ·rw [PN (by simp only [I5];omega)]
theorem Ano {w w4 w5:World}{Y:Nat->Prop}{seed leaf:Int}{h:Nat}{c:List PV}{n:Nat}{a4 a5:Act}{b5 o5 b6 o6 b8 o8 b10 o10 e0:Nat}{chv:Value}(hh:h<=4)(hl0:0<=leaf)(hl1:leaf<((2 ^ h:Nat):Int)) (hp:Asg w w4 Y seed h leaf c n a4 b5 o5 b6 o6 b8 o8 b10 o10 e0 chv)
  (hsz:a4.tmps.size=48)(hw5:w5=(w4.alloc (.cells #[.int .u64 seed] 22)).alloc (.cells #[.int .i64 h] 3))
  (ha5:a5=a4.put (some 29) (.func (.func 107) #[] #[.pointer (some ⟨w4.heap.size+1,0,none⟩),.pointer (some ⟨w4.heap.size,0,none⟩)])) {K:Act->World->Prop}{Q:Exit->Act->World->Prop}
  (hK:∀Z B,HX w4 (w4.heap.size+2) seed leaf h b10 o10 e0 chv Z (List.range h) B->B.heap[w4.heap.size+2]?=some (.deferred (some []))->K { a5 with defers:={ target:=.collected (w4.heap.size+2),args:= #[] }::a5.defers } B):
  (Code.block 0 (.rangeFunc (.tmp 29) #[30,31] Ajm Ab5)).wpIn Fence.wide 0 Tryz.prog (Exit.then K Q) a5 w5:=by
 have hs5:w5.heap.size=w4.heap.size+2:=by rw [hw5,World.size_alloc,World.size_alloc]
 have hold:∀b,b<w4.heap.size->w5.heap[b]?=w4.heap[b]?:=fun b hb=>by
  rw [hw5];exact (Below.heap_alloc _ _ _ (by simp;omega)).trans (Below.heap_alloc _ _ _ hb)
 have hB1:w5.heap[w4.heap.size+1]?=some (.cells #[.int .i64 h] 3):=by
  rw [hw5];have:=World.alloc_heap_new (w4.alloc (.cells #[.int .u64 seed] 22)) (.cells #[.int .i64 h] 3);rwa [World.size_alloc] at this
 have hB0:w5.heap[w4.heap.size]?=some (.cells #[.int .u64 seed] 22):=by
  rw [hw5];exact (Below.heap_alloc _ _ _ (by simp)).trans (World.alloc_heap_new w4 _)
 have hs5':a5.tmps.size=48:=by rw [ha5,I5];exact hsz
 have g5:a5.tmps.getD 5 undef=.pointer (some ⟨b5,o5,none⟩):=by rw [ha5,Gi (by decide)];exact hp.t5
 have g6:a5.tmps.getD 6 undef=.pointer (some ⟨b6,o6,none⟩):=by rw [ha5,Gi (by decide)];exact hp.t6
 have g10:a5.tmps.getD 10 undef=.pointer (some ⟨b10,o10,none⟩):=by rw [ha5,Gi (by decide)];exact hp.t10
 have g29:a5.eval (.tmp 29)=.func (.func 107) #[] #[.pointer (some ⟨w4.heap.size+1,0,none⟩),.pointer (some ⟨w4.heap.size,0,none⟩)]:=by
  show a5.tmps.getD 29 undef=_;rw [ha5,PN (by omega)]
 have nD:w4.heap.size+2≠e0:=by have:=hp.le;omega
 have nD1:w4.heap.size+2+1≠e0:=by have:=hp.le;omega
 have Aav:=Ang (seed:=seed) (h:=h) (Bh:=w4.heap.size+1) (Bs:=w4.heap.size) hh
 refine wpIn_block (Afx (Z0:=fun b=>b<w4.heap.size) g29 (enters_of Tryz.func107 (by kernel_rfl) rfl) Aav (fun b hb=>by omega) (fun W hW hk=>?_) (fun pre x args Z A B hm h1 h2=>Akk hm h1 h2) (fun pre x args Z A hm=>Ajq hm)
  (HX w4 (w4.heap.size+2) seed leaf h b10 o10 e0 chv) (Aqr w4 (w4.heap.size+2) seed leaf h b10 o10 e0 chv) ?_ ?_ ?_ (sgA a5) ?_ ?_ ?_ ?_)
 ·have k1:=hk (w4.heap.size+1) (by omega)
  have k0:=hk w4.heap.size (by omega)
  refine ⟨(World.cell?_of_block (a:=⟨w4.heap.size+1,0,none⟩) k1).trans ?_,(World.cell?_of_block (a:=⟨w4.heap.size,0,none⟩) k0).trans ?_,by omega,by omega,?_,?_⟩
  ·unfold World.cell?;rw [hB1];rfl
  ·unfold World.cell?;rw [hB0];rfl
  ·rintro (h1|h1|h1)<;>omega
  ·rintro (h1|h1|h1)<;>omega
 ·intro Z pre A B hI hs;rw [hs5] at hs;exact hI.stay hp.l10 nD nD1 (by omega) hs
 ·rintro c' Z pre A B ⟨h1,pre',h2,hI⟩ hs
  rw [hs5] at hs;exact ⟨h1,pre',h2,hI.stay hp.l10 nD nD1 (by omega) hs⟩
 ·intro W hW hst;have e:∀b,b<w4.heap.size->W.heap[b]?=w4.heap[b]?:=fun b hb=>(hst.same b (by omega)).trans (hold b hb)
  have o5:w5.os=w4.os∧w5.tape=w4.tape∧w5.output=w4.output:=by rw [hw5];exact ⟨rfl,rfl,rfl⟩
  obtain ⟨v2,p1,p2⟩:=hp.p0;refine ⟨hst.os.trans o5.1,hst.tape.trans o5.2.1,hst.output.trans o5.2.2,by omega,fun b hb=>.inl hb,fun b hb=>by rcases hb with hb|hb|hb<;>omega,fun b hb _ _=>e b hb,by unfold bsz;rw [e b10 hp.l10];exact Nat.le_refl _,(World.cell?_of_block (e b10 hp.l10)).trans hp.c10,(World.cell?_of_block (e b10 hp.l10)).trans hp.c11,fun k hk=>by rw [frozen?_of_block (e b10 hp.l10)];exact hp.f10 k hk,(fun x hx=>by cases hx),v2,(World.cell?_of_block (e b10 hp.l10)).trans p1,?_,?_⟩
  ·rcases p2 with p2|⟨x,cap,q1,q2,q3,q4⟩
   ·exact .inl ⟨rfl,p2⟩
   ·have hb:bsz W e0=bsz w4 e0:=by unfold bsz;rw [e e0 q3]
    exact .inr ⟨e0,x,cap,q1,Nat.zero_le _,by rw [hb];exact q2,by omega,.inr rfl,fun j y hj=>(by cases hj),fun j hj hjb=>by rw [frozen?_of_block (e e0 q3)];exact q4 j hj (by rw [←hb];exact hjb)⟩
  ·intro pb po k cap' hv;rcases p2 with p2|⟨x,cap,q1,q2,q3,q4⟩
   ·rw [p2] at hv;cases hv
   ·rw [q1] at hv;cases hv;exact .inl q3
 ·intro pre x args Z A K' hm hk;obtain ⟨o1,o2,e,⟨a1,a2,a3⟩,⟨c1,c2,c3⟩⟩:=Akf;refine EG e (wpIn_seq (Afn (fun _=>trivial) a1 a3 ?_))
  show (Code.region 6 #[o2] false).wpIn _ _ _ _ _ _;refine Afn (fun _=>trivial) c1 c3 ?_
  rw [a2,c2];exact hk
 ·intro Z pre x args A hZ1 hZ2 hI hm;rw [hs5] at hZ1 hZ2 ⊢;obtain ⟨hx,_,bb,oo,cc,hargs,_⟩:=id hm;have sp:=Amb (a:=a5) (x:=.int .i64 x) (y:=.slice (some ⟨bb,oo,none⟩) (2 ^ (h-x):Nat) cc) hs5';rw [←hargs] at sp;refine Amd hh hl0 hl1 hI hm ⟨sp.1,sp.2.1,sp.2.2.1.trans g5,sp.2.2.2.1.trans g6,sp.2.2.2.2.1.trans g10,?_,?_⟩ hp.c5 hp.c6 hp.l5 hp.l6 hp.l10 hp.n5 hp.n6 hp.m5 hp.m6 hp.m10 nD nD1 (by omega) hZ1 hZ2
  ·rw [sp.2.2.2.2.2.1,hargs];rfl
  ·rw [sp.2.2.2.2.2.2,hargs];rfl
 ·intro Z xs B hS hI _;subst hS;have:=hI.lt h (by simp)
  omega
 ·rintro c' Z xs B ⟨k,hk⟩ ⟨rfl,pre,hpre,hI⟩ hdf
  have hrg:pre=List.range h:=by
   rw [hpre,List.range_succ] at hk;have:=List.append_inj' hk rfl;have h2:h=k:=by simpa using this.2
   rw [this.1,h2]
  subst hrg;rw [hs5] at hdf ⊢;refine wpIn_exit ?_;simp only [Exit.inBlock,if_true];exact hK Z B hI hdf
end
section
open Go.IntKind (wrap)
set_option maxRecDepth 20000
open Go Go.RowKit
theorem Ap4:PJ=.seq (sL PJ) (.seq (sL (sR PJ)) (.seq (sL (sR (sR PJ))) (.seq (.seq (.region 4 (Nb (sL (sL (sR (sR (sR PJ)))))) false) (.block 0 (.rangeFunc (.tmp 29) #[30,31] Ajm Ab5))) (.seq (.region 9 (Nb (sL (sR (sR (sR (sR PJ)))))) false) .ret)))):=by kernel_rfl
theorem Atf:∃ty pos aft x,(Nb (sL (sL (sR (sR (sR PJ))))))[2]?=some { dst:=some 29,op:=.call { callee:=.value (.func 77),args:= #[.tmp 27,.tmp 28],argTypes:=x },type:=ty,pos:=pos,after:=aft,guard:=none }:=
 ⟨_,_,_,_,rfl⟩
theorem YM {P:Program}{ops:Array Oper}{Q Q':Exit->Act->World->Prop}{n id:Nat}{ds:List Deferred}{a:Act}{w:World}(h:wpOpsIn (WF none) n P ops Q' (List.range ops.size) a w) (hq:∀e a w,TD ds Q' e a w->Q e a w):(Code.region id ops false).wpIn Fence.wide n P Q (Vh ds a) w:=
 wpIn_mono (wpIn_region (F:=Fence.wide) (Vg _ h)) hq
abbrev Avp (seed h leaf m:Int):St:=
  ⟨lk [(0,.sc (.int .u64 seed)),(3,.sc (.int .u64 m)),(5,.ptr 5 0),(6,.ptr 6 0),(8,.ptr 8 0),(9,.sc (.int .i64 0))],
   Cj [(5,.st [.sc (.int .i64 h)]),(6,.st [.sc (.int .i64 leaf)]),(8,.st [.sc (.int .i64 0),.view 104 1 0 0,.view 152 1 0 0]),(104,.ar false []),(152,.ar false [])]⟩
abbrev Au5 (seed h leaf m:Int)(n:Nat)(c:List PV):St:=
  ⟨lk [(0,.sc (.int .u64 seed)),(3,.sc (.int .u64 m)),(5,.ptr 5 0),(6,.ptr 6 0),(8,.ptr 8 0),(9,.sc (.int .i64 0)),(10,.ptr 10 0)],
   Cj [(5,.st [.sc (.int .i64 h)]),(6,.st [.sc (.int .i64 leaf)]),(8,.st [.sc (.int .i64 0),.view 104 1 0 0,.view 152 1 0 0]),(104,.ar false []),(152,.ar false []),(10,.st [.sc (.int .i64 leaf),.view 106 1 0 n,.view 154 1 0 0]),(106,.ar false c),(154,.ar false [])]⟩
abbrev Ap7 (leaf:Int)(n1 n2:Nat)(c1 c2:List PV):St:=⟨lk [(8,.ptr 96000 0),(9,.sc (.int .i64 0))],Cj [(96000,.st [.sc (.int .i64 leaf),.lst false 1 n1 c1,.lst false 1 n2 c2])]⟩
theorem Adt {h leaf:Int}(hb:NY h leaf=false):C4 h=false∧Hp leaf h=false∧∃H:Nat,h=H∧H<=4∧0<=leaf∧leaf<((2 ^ H:Nat):Int):=by
 unfold NY at hb;rw [Bool.or_eq_false_iff] at hb;refine ⟨hb.1,hb.2,h.toNat,?_⟩;have h1:=hb.1;have h2:=hb.2;unfold C4 at h1;unfold Hp at h2;rw [Bool.or_eq_false_iff,decide_eq_false_iff_not,decide_eq_false_iff_not] at h1 h2;have h3:h=(h.toNat:Int):=by omega
 have h4:=Ao8 (h:=h.toNat) (by omega)
 rw [←h3] at h4;rw [h4] at h2;exact ⟨h3,by omega,by omega,by omega⟩
theorem Aoa {G:Wo}{seed h leaf m:Int}(hb:NY h leaf=false):Dk G Tryz.prog 37 [.sc (.int .u64 seed),.sc (.int .i64 h),.sc (.int .i64 leaf),.sc (.int .u64 m)]
  ⟨[.agg [.sc (.int .i64 leaf),.lst false 1 18 (Af .u64 (Jc seed leaf m)),.lst false 1 h.toNat (Af .u64 ((List.range h.toNat).map fun k=>Cf seed k (Fy leaf k)))],.sc (.int .i64 0)],[]⟩:=by
 obtain ⟨hhi,hou,H,rfl,hh,hl0,hl1⟩:=Adt hb;refine Are ⟨_,Tryz.func37,rfl⟩ fun w Y hY=>?_
 have hk0:Agl Tryz.prog 48 0 Tryz.f37.params.toList [.sc (.int .u64 seed),.sc (.int .i64 H),.sc (.int .i64 leaf),.sc (.int .u64 m)] (fun tms bs=>some (tms,bs))=some ([(0,.sc (.int .u64 seed)),(1,.sc (.int .i64 H)),(2,.sc (.int .i64 leaf)),(3,.sc (.int .u64 m))],[]):=by kernel_rfl
 have hin:Ins w Y QK [.sc (.int .u64 seed),.sc (.int .i64 H),.sc (.int .i64 leaf),.sc (.int .u64 m)] [.int .u64 seed,.int .i64 H,.int .i64 leaf,.int .u64 m]:=
  ⟨hY,fun b _=>Xk b,fun b x=>(Xk b x).elim,fun _ _ _ _ _ _ _ x=>(by cases x),fun _ _ x=>(by cases x),⟨.inl trivial,Be.sc _⟩,⟨.inl trivial,Be.sc _⟩,⟨.inl trivial,Be.sc _⟩,⟨.inl trivial,Be.sc _⟩,trivial⟩
 obtain ⟨tms,bs,hk1,hst⟩:=TP hin hk0;cases hk1;obtain ⟨h8,β0,hs0⟩:=hst rfl (by simp)
 refine callsIn_wide.1 (callsIn_of_wp_marks (F:=Fence.wide) (n:=0) Tryz.func37 rfl trivial ?_ rfl);have t1:({ tmps:= #[Value.int .u64 seed,.int .i64 H,.int .i64 leaf,.int .u64 m]++Array.replicate (Tryz.f37.ntmps-(#[Value.int .u64 seed,.int .i64 H,.int .i64 leaf,.int .u64 m]).size) undef,defers:=[] }:Act)={ tmps:=[Value.int .u64 seed,.int .i64 H,.int .i64 leaf,.int .u64 m].toArray++Array.replicate (48-[Value.int .u64 seed,.int .i64 H,.int .i64 leaf,.int .u64 m].toArray.size) undef,defers:=[] }:=by kernel_rfl
 rw [t1];show PJ.wpIn _ _ _ _ _ _;generalize ({ tmps:=[Value.int .u64 seed,.int .i64 H,.int .i64 leaf,.int .u64 m].toArray++Array.replicate (48-[Value.int .u64 seed,.int .i64 H,.int .i64 leaf,.int .u64 m].toArray.size) undef,defers:=[] }:Act)=a0 at hs0 ⊢;have hXn:∀b,¬(NV QK [.sc (.int .u64 seed),.sc (.int .i64 H),.sc (.int .i64 leaf),.sc (.int .u64 m)] h8).X b:=Xk;refine EG Ap4 (wpIn_seq (wpIn_wide.2 (Em (Rf _ _) TV Dr hs0 (Aqo cl seed H leaf m) ?_)));intro a1 w1 β1 hs1;have eh:cl K0 [.sc (.int .i64 H)]=_:=Vd (xs:=noX) (fu:=2000) (d:=7) (H:Int);have eo:cl H4 [.sc (.int .i64 leaf),.sc (.int .i64 H)]=_:=P8 (xs:=noX) (fu:=2000) (d:=7) leaf H (by omega)
 have es:cl Qn [.sc (.int .u64 seed),.sc (.int .i64 leaf),.sc (.int .u64 m)]=_:=Aox (xs:=noX) (fu:=2000) (d:=1) (by omega) seed leaf m
 refine wpIn_seq (wpIn_wide.2 (Em (Rf _ _) TV Dr hs1 (L:=873) (t:=0) (s1:=Avp seed H leaf m) ?_ ?_))
 ·refine (Aqf cl seed H leaf m).trans ?_;simp only [Bx,eh,eo,hhi,hou]
 intro a2 w2 β2 hs2;refine wpIn_seq (wpIn_wide.2 (Em (Rf _ _) TV Dr hs2 (L:=1897) (t:=0) (s1:=Au5 seed H leaf m 18 (Af .u64 (Jc seed leaf m))) ?_ ?_))
 ·refine (Aqt cl seed H leaf m).trans ?_;simp only [Bx,es]
 intro a3 w3 β3 hs3;refine wpIn_seq (wpIn_seq (wpIn_region ?_));have hl:List.range (Nb (sL (sL (sR (sR (sR PJ)))))).size=[0,1]++[2]:=by kernel_rfl
 rw [hl];refine M5 (ro:=none) (C:=CB) (call:=cl) (r:=((0:Nat),Ah6 seed H leaf m 18 (Af .u64 (Jc seed leaf m)))) (Rf _ _) Dr ?_ [0,1] (List.take 2 (Nb (sL (sL (sR (sR (sR PJ)))))).toList) (by kernel_rfl) ?_ (by kernel_rfl) hs3 (Arl cl seed H leaf m 18 _)
 rotate_left
 ·intro j i hj
  match j,hj with
  |0,hj=>cases hj;rfl
  |1,hj=>cases hj;rfl
 intro s' a4 w4 β4 hk4 hs4;obtain ⟨β5,s5,hk5,hs5⟩:=Dz hs4 hk4;cases hk5;obtain ⟨b5,o5,b6,o6,b8,o8,b10,o10,e0,chv,hp⟩:=Amf (l:=Jc seed leaf m) (n:=18) (by omega) (by simp [Jc]) hXn hs5
 obtain ⟨ty,pos,aft,x,ho⟩:=Atf;rw [wpOpsIn_cons];unfold wpOpIn;rw [ho];simp only [Region.wanted,if_true];refine ⟨fun _ _=>trivial,?_⟩
 rw [show Oper.semAt (WF none).round a4.eval { dst:=some 29,op:=.call { callee:=.value (.func 77),args:= #[.tmp 27,.tmp 28],argTypes:=x },type:=ty,pos:=pos,after:=aft,guard:=none }=execOp a4.eval { dst:=some 29,op:=.call { callee:=.value (.func 77),args:= #[.tmp 27,.tmp 28],argTypes:=x },type:=ty,pos:=pos,after:=aft,guard:=none } from rfl,
  OB (o:={ dst:=some 29,op:=.call { callee:=.value (.func 77),args:= #[.tmp 27,.tmp 28],argTypes:=x },type:=ty,pos:=pos,after:=aft,guard:=none }) rfl rfl ngT Tryz.func77 rfl]
 have e27:a4.eval (.tmp 27)=.int .u64 seed:=hp.t27;have e28:a4.eval (.tmp 28)=.int .i64 H:=hp.t28;simp only [List.map_toArray,Zzw,List.map_nil,e27,e28];refine ⟨(fun h=>by cases h),(Aok seed H _ w4).mono ?_⟩
 rintro e w5 ⟨rfl,hw5⟩
 refine Ano (w:=w) (Y:=Y) hh hl0 hl1 hp hs5.tsz hw5 rfl ?_;intro Z B hRI hdf;obtain ⟨a5,ha5⟩:∃a5,a4.put (some 29) (.func (.func 107) #[] #[.pointer (some ⟨w4.heap.size+1,0,none⟩),.pointer (some ⟨w4.heap.size,0,none⟩)])=a5:=⟨_,rfl⟩;rw [ha5];have hd5:a5.defers=[]:=by rw [←ha5,Ml];exact hs5.dfr
 have hz5:a5.tmps.size=48:=by rw [←ha5,I5];exact hs5.tsz
 have ea:({ a5 with defers:={ target:=.collected (w4.heap.size+2),args:= #[] }::a5.defers }:Act)=Vh [{ target:=.collected (w4.heap.size+2),args:= #[] }] a5:=by unfold Vh;rw [hd5];rfl
 rw [ea];have hsB:w4.heap.size<=B.heap.size:=by have:=hRI.size;omega
 have hkB:∀b,b<w4.heap.size->b≠b10->b≠e0->B.heap[b]?=w4.heap[b]?:=hRI.keep;have h8B:=hkB b8 hp.l8 hp.n8 hp.m8
 obtain ⟨XB,βB,hXB,hB⟩:=Ark (Y:=Y) (a:=a5) (b8:=b8) (o8:=o8) (n1:=18) (c1:=Af .u64 (Jc seed leaf m)) hRI hd5 hz5 (by rw [←ha5,Gi (by decide)];exact hp.t8) (by rw [←ha5,Gi (by decide)];exact hp.t9) (by rw [←ha5,Gi (by decide)];exact hp.t10)
  (fun j hj=>by rw [World.cell?_of_block (a:=⟨b8,o8+j,none⟩) h8B];exact hp.c8 j hj) (fun j hj=>by rw [frozen?_of_block h8B];exact hp.f8 j hj) (Nat.lt_of_lt_of_le hp.l8 hsB) (Nat.lt_of_lt_of_le hp.l10 hsB) hp.n8 hp.y8 hp.y10 (hp.ch B hsB hkB) hp.one
  (fun pb hpb=>by
   rcases hpb with hpb|hpb
   ·have:=hp.l8;exact ⟨by omega,fun hy=>by have:=hY pb hy;have:=hs5.fr.step.size;omega⟩
   ·rw [hpb];exact ⟨fun e=>hp.m8 e.symm,hp.ye⟩)
  (fun b hb=>by have:=hY b hb;have:=hs5.fr.step.size;omega)
 rw [List.length_range] at hB;refine wpIn_seq (YM (Q':=fun e a' w'=>e=.normal∧∃β',Cd 48 B XB Y β' (Ap7 leaf 18 H (Af .u64 (Jc seed leaf m)) (Af .u64 ((List.range H).map fun k=>Cf seed k (Fy leaf k)))) a' w') ?_ ?_)
 ·have hl9:List.range (Nb (sL (sR (sR (sR (sR PJ)))))).size=[0,1,2]++[]:=by kernel_rfl
  rw [hl9];refine M5 (ro:=none) (C:=CB) (call:=cl) (r:=((0:Nat),Ap7 leaf 18 H (Af .u64 (Jc seed leaf m)) (Af .u64 ((List.range H).map fun k=>Cf seed k (Fy leaf k))))) (Rf _ _) Dr ?_ [0,1,2] (Nb (sL (sR (sR (sR (sR PJ)))))).toList (by kernel_rfl) ?_ (by kernel_rfl) hB (Arn cl leaf 18 H _ _)
  rotate_left
  ·intro j i hj
   match j,hj with
   |0,hj=>cases hj;rfl
   |1,hj=>cases hj;rfl
   |2,hj=>cases hj;rfl
  intro s6 a6 w6 β6 hk6 hs6;obtain ⟨β7,s7,hk7,hs7⟩:=Dz hs6 hk6;cases hk7;exact ⟨rfl,β7,hs7⟩
 ·rintro e a7 w7 ⟨a6,rfl,rfl,β6,hz⟩
  refine wpIn_ret ?_
  have hD':w7.heap[w4.heap.size+2]?=some (.deferred (some [])):=by
   have hlt:=hRI.size;have hl8:=hp.l8;rw [hz.fr.step.keep (w4.heap.size+2) (by omega) fun hx=>by have:=hXB _ hx;omega]
   exact hdf
  show LeavesInM _ _ _ _ _ _ (a6.defers++[{ target:=.collected (w4.heap.size+2),args:= #[] }]) .returning w7;rw [hz.dfr];refine ⟨by simp,.inl ⟨_,_,rfl,run_takeDeferred hD',?_⟩⟩
  have hfr:=hs5.fr
  have hu:Cd 48 w (NV QK [.sc (.int .u64 seed),.sc (.int .i64 H),.sc (.int .i64 leaf),.sc (.int .u64 m)] h8) Y β6 (Ap7 leaf 18 H (Af .u64 (Jc seed leaf m)) (Af .u64 ((List.range H).map fun k=>Cf seed k (Fy leaf k)))) a6 w7:=
   hz.unbase (fun _ h=>h) hY (fun b hx=>by rw [hXB b hx];exact hp.g8) (fun i ⟨p,h1,h2⟩=>by
    match i,h1 with
    |0,h1=>cases h1;cases h2
    |1,h1=>cases h1;cases h2
    |2,h1=>cases h1;cases h2
    |3,h1=>cases h1;cases h2) (hRI.os.trans hfr.os) (hRI.tape.trans hfr.tape) (hRI.output.trans hfr.output) (Nat.le_trans hfr.step.size hsB) (fun b hb=>by
    have h1:=hp.g10;have h2:=hp.ge;have h3:=hfr.step.size;exact (hkB b (by omega) (by omega) (by omega)).trans (hfr.step.keep b hb (hXn b)))
  have hv:=hu.same (ZW (y:=none) hD') fun b hb=>World.putObj_heap_other (by have:=hfr.step.size;omega)
  obtain ⟨_,v,r1,vs,own,r2,r3⟩:=HE (C:=CS) (f:=37) (fn:=Tryz.f37) hin (res:=⟨[.agg [.sc (.int .i64 leaf),.lst false 1 18 (Af .u64 (Jc seed leaf m)),.lst false 1 H (Af .u64 ((List.range H).map fun k=>Cf seed k (Fy leaf k)))],.sc (.int .i64 0)],[]⟩) (Aq6 seed H leaf m leaf 18 H _ _) hv
  exact ⟨v,r1,vs,own,r2,r3⟩
end
section
open Go.IntKind (wrap)
set_option maxRecDepth 20000
open Go Go.RowKit
theorem Dk.any {G:Wo}{P:Program}{f:FuncId}{args:List PV}{r:Aw}(h:Dk G1 P f args r):Dk G P f args r:=
 ⟨h.1,fun w Y bt us hin _ _=>h.2 w Y bt us hin trivial fun _ hb=>hb.elim⟩
theorem Arw {G:Wo}{seed h leaf m:Int}(hb:NY h leaf=true):Dk G Tryz.prog 37 [.sc (.int .u64 seed),.sc (.int .i64 h),.sc (.int .i64 leaf),.sc (.int .u64 m)]
  ⟨[.agg [.sc (.int .i64 0),.lst false 1 0 [],.lst false 1 0 []],.sc (.int .i64 9)],[]⟩:=by
 refine Dk.any (NG ngT TV Dr Tryz.func37 rfl ((Aqh cl seed h leaf m).trans ?_));have eh:cl K0 [.sc (.int .i64 h)]=_:=Vd (xs:=noX) (fu:=2000) (d:=7) h;unfold NY at hb;cases hhi:C4 h
 ·rw [hhi,Bool.false_or] at hb
  have h0:0<=h:=by
   unfold C4 at hhi;rw [Bool.or_eq_false_iff,decide_eq_false_iff_not] at hhi;omega
  have eo:cl H4 [.sc (.int .i64 leaf),.sc (.int .i64 h)]=_:=P8 (xs:=noX) (fu:=2000) (d:=7) leaf h h0;simp only [Bx,eh,eo,hhi,hb]
 ·simp only [Bx,eh,hhi]
theorem Afu {G:Wo}{args:List PV}{r:Aw}(h:Arh args=some r):Dk G Tryz.prog 37 args r:=by
 unfold Arh at h;split at h
 ·rename_i seed hh leaf m;cases h;cases hb:NY hh leaf
  ·have l18:(Jc seed leaf m).length=18:=by simp [Jc]
   have:=Aoa (G:=G) (seed:=seed) (m:=m) hb;unfold tkL tkC tkP tkE;rw [hb];simp only [Bool.false_eq_true,if_false,l18,List.length_map,List.length_range];exact this
  ·have:=Arw (G:=G) (seed:=seed) (m:=m) hb;unfold tkL tkC tkP tkE;rw [hb];exact this
 ·cases h
end
section
open Go.IntKind (wrap)
open Go.RowKit
theorem TE {w w':World}{Y:Nat->Prop}{bt:LU}{args:List PV}{v:Value}(hb:Below w.heap.size w w')(ho:EZ w' (UZ bt (fun _=>none) Y) (fun _=>none) bt (Ss [.sc v]) 0 args []):
  Out w w' Y bt args (fun _=>none) ⟨[.sc v],[]⟩ [v] where
 os:=hb.os
 tape:=hb.tape
 output:=hb.output
 ext:=⟨hb.size,fun b h _=>hb.block b h,fun b h=>by unfold bsz;rw [hb.block b h];exact Nat.le_refl _⟩
 rng:=fun b j h _=>⟨by unfold World.cell?;simp only [hb.block b h],by unfold World.frozen?;simp only [hb.block b h]⟩
 vals:=⟨Be.sc v,trivial⟩
 outs:=ho
 fresh:=fun j b o h=>by cases h
 inj:=fun j j' b o o' h=>by cases h
theorem JA {P:Program}{w:World}{A:Nat->Prop}{bt:Bt}{z:Bool}{n:Nat}{c:List PV}{u:Value}{l:List UInt8}(h:Aau w A bt (.lst z 1 n c) u) (hl:bytesOf c=some l)(hn:c.length=n):
  (Extern.Bytes.bytesOf u).run P w=.ok ⟨l.toArray⟩ w:=by
 obtain ⟨ns,rfl,rfl⟩:=Xq hl;have ht:Be w A (.lst z 1 n (ns.map fun n=>.sc (.int .u8 n))) u:=h.2
 generalize hc:(ns.map fun n=>PV.sc (.int .u8 n))=c at ht
 cases ht with
 |lnil=>
  have:ns=[]:=by simpa using hc
  subst this;rfl
 |lemp=>
  have:ns=[]:=by simpa using hc
  subst this;rfl
 |lst _ _ _ a cap f hs hb hA hn' hcell h1 hr=>
  subst hc;rw [List.length_map] at hn;subst hn;show (Extern.Bytes.loadBytes a ns.length .empty).run P w=_;rw [Lib.run_loadBytesX w ns a .empty fun j x hj=>?_]
  ·simp [Lib.bytesOf,Nat.toUInt8]
  ·have e:(ns.map fun n=>PV.sc (.int .u8 n))[j]?=some (.sc (.int .u8 x)):=by rw [List.getElem?_map,hj];rfl
   rw [hcell j _ e,(hr j _ e).val]
set_option maxRecDepth 1000000 in
theorem VY (u1 u2:Value)(a b:List UInt8)(w:World)(h1:(Extern.Bytes.bytesOf u1).run Tryz.prog w=.ok ⟨a.toArray⟩ w) (h2:(Extern.Bytes.bytesOf u2).run Tryz.prog w=.ok ⟨b.toArray⟩ w):
  Calls Tryz.prog 133 #[u1,u2] w fun e w'=>e=.returned (.int .i64 (Lib.compareBytes a b))∧w'=w:=by
 have hr:(Extern.BytealgCompare.compare #[u1,u2]).run Tryz.prog w=.ok (.int .i64 (Lib.compareBytes a b)) w:=by
  change Sem.run Tryz.prog (do pure (goInt (Extern.BytealgCompare.cmp (←Extern.Bytes.bytesOf u1) (←Extern.Bytes.bytesOf u2)))) w=_
  simp only [Sem.run_bind,Sem.run_pure,Result.andThen,h1,h2];rw [Lib.cmp_eq];rfl
 go_enter Tryz.func133,Tryz.ntmps133
 go_wp2
 rw [run_callFunc_extern Tryz.func134 (by kernel_rfl) (by kernel_rfl) (by kernel_rfl) (e:=Extern.BytealgCompare.compare) (by kernel_rfl),hr]
 simp only [Result.andThen];rw [Oper.upon_value]
 go_wp2
 go_ret
 exact ⟨rfl,rfl⟩
theorem RJ (G:Wo)(args:List PV)(res:Aw)(h:Wp args=some res):Dk G Tryz.prog 133 args res:=by
 refine ⟨⟨_,Tryz.func133,by kernel_rfl⟩,fun w Y bt us hi _ _=>?_⟩
 unfold Wp at h;split at h
 rotate_left
 ·cases h
 rename_i z n c z' m c';cases hq:(Nat.beq c.length n&&Nat.beq c'.length m)
 ·rw [hq] at h;cases h
 rw [hq] at h;simp only [Bool.and_eq_true] at hq;have hn:=Nat.eq_of_beq_eq_true hq.1;have hm:=Nat.eq_of_beq_eq_true hq.2;simp only [cond_true] at h;split at h
 rotate_left
 ·cases h
 rename_i a b ha hb;cases h;have ps:=hi.args
 match us,ps with
 |[u1,u2],ps=>
  refine (VY u1 u2 a b w (JA ps.1 ha hn) (JA ps.2.1 hb hm)).mono ?_
  rintro e w' ⟨rfl,rfl⟩
  exact ⟨[.int .i64 (Lib.compareBytes a b)],fun _=>none,rfl,TE (Below.refl _ _) rfl⟩
 |[],ps=>exact ps.elim
 |[_],ps=>exact ps.2.elim
 |_::_::_::_,ps=>exact ps.2.2.elim
end
section
open Go.IntKind (wrap)
set_option maxRecDepth 1000000
open Go.Shelf Go.RowKit Go.Lib
def Aso:Go.Shelf.Ren:=⟨fun|196=>56|259=>93|n=>n,fun|0=>0|3=>3|4=>4|5=>5|9=>9|12=>12|46=>76|53=>22|119=>136|138=>138|139=>139|n=>n,fun|3=>0|4=>1|n=>n⟩
theorem laysVS:Lays.n196 Tryz.prog Aso:={
 mixed:=by kernel_rfl
 f196:=Tryz.func56.trans (congrArg some (by kernel_rfl))
 f259:=Tryz.func93.trans (congrArg some (by kernel_rfl))
 t0:=Tryz.underlying0
 a0:=Tryz.isAgg0
 z0:=Tryz.sizeOf0
 v0:=Tryz.zeroValue0
 t3:=Tryz.underlying3
 a3:=Tryz.isAgg3
 z3:=Tryz.sizeOf3
 v3:=Tryz.zeroValue3
 t4:=Tryz.underlying4
 a4:=Tryz.isAgg4
 z4:=Tryz.sizeOf4
 v4:=Tryz.zeroValue4
 t5:=Tryz.underlying5
 a5:=Tryz.isAgg5
 z5:=Tryz.sizeOf5
 v5:=Tryz.zeroValue5
 t9:=Tryz.underlying9
 a9:=Tryz.isAgg9
 z9:=Tryz.sizeOf9
 v9:=Tryz.zeroValue9
 t12:=Tryz.underlying12
 a12:=Tryz.isAgg12
 z12:=Tryz.sizeOf12
 v12:=Tryz.zeroValue12
 t46:=Tryz.underlying76
 a46:=Tryz.isAgg76
 z46:=Tryz.sizeOf76
 v46:=Tryz.zeroValue76
 t53:=Tryz.underlying22
 a53:=Tryz.isAgg22
 z53:=Tryz.sizeOf22
 v53:=Tryz.zeroValue22
 t119:=Tryz.underlying136
 a119:=Tryz.isAgg136
 z119:=Tryz.sizeOf136
 t138:=Tryz.underlying138
 a138:=Tryz.isAgg138
 z138:=Tryz.sizeOf138
 v138:=Tryz.zeroValue138
 t139:=Tryz.underlying139
 a139:=Tryz.isAgg139
 z139:=Tryz.sizeOf139
 v139:=Tryz.zeroValue139
 g3:=by kernel_rfl
 g4:=by kernel_rfl }
def gU:Wo:=⟨fun b=>b=0∨b=1,fun w=>0<w.heap.size∧1<w.heap.size∧Lib.Utf8Tabs 0 1 w,fun w w' h ⟨s1,s2,h1,h2⟩=>by
 have e1:=h _ (.inl rfl) s1;have e2:=h _ (.inr rfl) s2
 have hs:∀b,b<w.heap.size->w'.heap[b]?=w.heap[b]?->b<w'.heap.size:=by
  intro b hb he;rw [Array.getElem?_eq_getElem hb] at he;rcases Nat.lt_or_ge b w'.heap.size with q|q
  ·exact q
  ·rw [Array.getElem?_eq_none q] at he;cases he
 refine ⟨hs _ s1 e1,hs _ s2 e2,fun c hc=>?_,fun i hi=>?_⟩
 ·have:=h1 c hc;unfold World.cell? at this ⊢;simp only [e1] at this ⊢;exact this
 ·obtain ⟨a,b⟩:=h2 i hi;unfold World.cell? at a b ⊢;simp only [e2] at a b ⊢;exact ⟨a,b⟩⟩
theorem YQ (args:List PV)(res:Aw)(h:MK args=some res):Dk gU Tryz.prog 56 args res:=by
 refine ⟨⟨_,Tryz.func56,by kernel_rfl⟩,fun w Y bt us hi hok _=>?_⟩
 unfold MK at h;split at h
 rotate_left
 ·cases h
 rename_i s;cases hq:decide (s.size<=9223372036854775807)
 ·rw [hq] at h;cases h
 rw [hq] at h;cases h;have hs:=of_decide_eq_true hq;have ps:=hi.args
 match us,ps with
 |[u],ps=>
  have hu:u=.string s:=by
   have:Be w _ (.sc (.string s)) u:=ps.1.2;exact this.val
  subst hu;refine (Any.utf8_ValidString laysVS s w hs hok.2.2).mono ?_
  rintro e w' ⟨rfl,hb⟩
  exact ⟨[.bool (Lib.validD s.data.toList)],fun _=>none,rfl,TE hb rfl⟩
 |[],ps=>exact ps.elim
 |_::_::_,ps=>exact ps.2.elim
theorem extU:Ae6 gU Tryz.prog C0:=by
 intro f g args res hx hg;have hx0:(bif DN.any (Nat.beq f) then none else Is f)=some g:=hx;cases hb:DN.any (Nat.beq f)
 rotate_left
 ·rw [hb,cond_true] at hx0;cases hx0
 rw [hb,cond_false] at hx0;have hx':Is f=some g:=hx0;unfold Is at hx';cases h1:Nat.beq f 56
 rotate_left
 ·rw [h1,cond_true] at hx';cases hx';rw [Nat.eq_of_beq_eq_true h1];exact YQ args res hg
 rw [h1,cond_false] at hx';cases h2:Nat.beq f 133
 rotate_left
 ·rw [h2,cond_true] at hx';cases hx';rw [Nat.eq_of_beq_eq_true h2];exact RJ gU args res hg
 rw [h2,cond_false] at hx';cases h4:Nat.beq f 37
 rotate_left
 ·rw [h4,cond_true] at hx';cases hx';rw [Nat.eq_of_beq_eq_true h4];exact Afu hg
 rw [h4,cond_false] at hx';cases h3:Nat.beq f 1000000
 ·rw [h3,cond_false] at hx';cases hx'
 ·rw [h3,cond_true] at hx';cases hx';cases hg
end
end Go.Proofs.YtdjihiphpgkfmaaGreatDoor.Pv
