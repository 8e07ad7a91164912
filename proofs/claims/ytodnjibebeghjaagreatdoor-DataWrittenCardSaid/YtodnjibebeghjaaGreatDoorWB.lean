/-
  The proof of DataWritten, part 2.
-/
import Derived.Test.YtodnjibebeghjaaGreatDoorWA
import Derived.Laws.Append
import Derived.IntWalk
import Derived.Laws.AppendOwn
import Derived.Laws.IdiomCopy
set_option linter.unusedSimpArgs false
set_option linter.unusedVariables false
namespace Go.Proofs.YtodnjibebeghjaaGreatDoor.Pv
section
open Go.RowKit
def Gd (w:World)(A:Nat->Prop)(own:Option (Nat × Nat)) (p:PV)(u:Value):Prop:=
 match p with
 |.own es n c=>(own=none∧n=0∧c=[]∧∃ad,u=.slice ad 0 0) ∨
   ∃b o cap,own=some (b,o)∧u=.slice (some ⟨b,o,none⟩) n cap∧n<=cap∧Fit w es b (o+cap*es)∧b<w.heap.size∧WY w A ⟨b,o,none⟩ c∧∀j,o<=j->j<bsz w b->w.frozen? ⟨b,j,none⟩=false
 |p=>Ay w A p u
def Ex (w:World)(A:Nat->Prop)(own:Bt):Nat->List PV->List Value->Prop
 |_,[],[]=>True
 |j,p::ps,u::us=>Gd w A (own j) p u∧Ex w A own (j+1) ps us
 |_,_,_=>False
def Aio (w:World)(A:Nat->Prop)(own:Bt)(j b o:Nat)(cs:List PV):Prop:=
 ∃vs,Ex w A own j cs vs∧(∀(k:Nat) v,vs[k]?=some v->w.cell? ⟨b,o+k,none⟩=some v)∧∀k,k<cs.length->w.frozen? ⟨b,o+k,none⟩=false
def Aot (w:World)(A:Nat->Prop)(own:Bt)(z j:Nat)(p:PV)(u:Value):Prop:=
 match p with
 |.agg cs=>∃vs,u=.agg ⟨vs⟩∧Ex w A own j cs vs
 |.pbox cs=>∃b o,own j=some (b,o)∧z<=b∧u=.pointer (some ⟨b,o,none⟩)∧Aio w A own (j+1) b o cs
 |p=>Gd w A (own j) p u
def plc:PV->Nat
 |.pbox cs=>1+cs.length
 |p=>(cellsOf p).length
def LH (w:World)(A:Nat->Prop)(own:Bt)(z:Nat):Nat->List PV->List Value->Prop
 |_,[],[]=>True
 |j,p::ps,u::us=>Aot w A own z j p u∧LH w A own z (j+plc p) ps us
 |_,_,_=>False
abbrev Zn:=Nat->Nat->Option (Nat × Nat)
def BtX (bt:Zn)(b:Nat):Prop:=∃i j o,bt i j=some (b,o)
def isA (p:PV):Prop:=Vr p∨∃es n c,p=.own es n c
def Zp (p:PV):Bool:=
 match p with
 |.pbox _=>true
 |.tup _=>true
 |_=>false
theorem Aok {p:PV}(h:isA p):Zp p=false:=by
 rcases h with h|⟨_,_,_,rfl⟩
 ·cases p<;>first|rfl|exact h.elim
 ·rfl
def SX (w:World)(A:Nat->Prop)(bt:Bt)(p:PV)(u:Value):Prop:=
 match p with
 |.pbox ps=>∃b o,bt 0=some (b,o)∧u=.pointer (some ⟨b,o,none⟩)∧(∀p∈ps,isA p)∧Aio w A bt 1 b o ps
 |.tup ps=>∃es n c,ps=[.own es n c]∧Gd w A (bt 0) (.own es n c) u
 |.agg cs=>∃vs,u=.agg ⟨vs⟩∧(∀p∈cs,isA p)∧Ex w A bt 1 cs vs
 |p=>isA p∧Gd w A (bt 1) p u
def K0 (w:World)(A:Nat->Prop)(bt:Zn):Nat->List PV->List Value->Prop
 |_,[],[]=>True
 |i,p::ps,u::us=>SX w A (bt i) p u∧K0 w A bt (i+1) ps us
 |_,_,_=>False
def Awn (bt:Bt)(p:PV)(b j:Nat):Prop:=
 (∃k o,bt (k+1)=some (b,o)∧o<=j)∨∃o ps,bt 0=some (b,o)∧o<=j∧((p=.pbox ps∧j<o+ps.length)∨p=.tup ps)
def ES (bt:Zn)(args:List PV)(b j:Nat):Prop:=∃i p,args[i]?=some p∧Awn (bt i) p b j
def Vk (w:World)(A:Nat->Prop)(own:Bt)(bt:Zn):Nat->Nat->List PV->List (List PV)->Prop
 |_,_,[],r=>r=[]
 |j,i,p::zs,r=>
  match p with
  |.pbox ps=>
   match r with
   |[]=>False
   |cs::r=>(∃b o,bt i 0=some (b,o)∧cs.length=ps.length∧Aio w A own j b o cs)∧Vk w A own bt (j+cs.length) (i+1) zs r
  |.tup _=>
   match r with
   |[]=>False
   |cs::r=>((bt i 0=none∧cs=[])∨∃b o,bt i 0=some (b,o)∧WY w A ⟨b,o,none⟩ cs∧∀k,o<=k->k<bsz w b->w.frozen? ⟨b,k,none⟩=false)∧Vk w A own bt j (i+1) zs r
  |_=>Vk w A own bt j (i+1) zs r
def GQ (bt:Zn)(own:Bt)(Y:Nat->Prop)(b:Nat):Prop:=(∃j o,own j=some (b,o))∨(∃i o,bt i 0=some (b,o))∨Y b
def Ls (vals:List PV):Nat:=(vals.map plc).sum
structure Out (w w':World) (Y:Nat->Prop) (bt:Zn) (args:List PV) (own:Bt) (r:Ap) (vs:List Value):Prop where
 os:w'.os=w.os
 tape:w'.tape=w.tape
 output:w'.output=w.output
 ext:Cc (BtX bt) w w'
 rng:∀b j,b<w.heap.size->¬ES bt args b j->w'.cell? ⟨b,j,none⟩=w.cell? ⟨b,j,none⟩∧w'.frozen? ⟨b,j,none⟩=w.frozen? ⟨b,j,none⟩
 vals:LH w' (GQ bt own Y) own w.heap.size 0 r.vals vs
 outs:Vk w' (GQ bt own Y) own bt (Ls r.vals) 0 args r.outs
 fresh:∀j b o,own j=some (b,o)->b<w'.heap.size∧(b<w.heap.size->(∃i k o',bt i (k+1)=some (b,o'))∧∀x,o<=x->ES bt args b x)
 inj:∀j j' b o o',own j=some (b,o)->own j'=some (b,o')->j=j'
def H1 (us:List Value):Value:=match us with|[u]=>u|us=>.tuple ⟨us⟩
def Q0 (w:World)(Y:Nat->Prop)(p:PV)(u:Value):Prop:=
 match p with
 |.agg cs=>∃vs,u=.agg ⟨vs⟩∧Bh (fun c v=>Vr c∧Ay w Y c v) cs vs
 |p=>Vr p∧Ay w Y p u
structure Ins (w:World) (Y:Nat->Prop) (bt:Zn) (args:List PV) (us:List Value):Prop where
 Ylt:∀b,Y b->b<w.heap.size
 Yx:∀b,Y b->¬BtX bt b
 lt:∀b,BtX bt b->b<w.heap.size
 inj:∀i j i' j' b o o',bt i j=some (b,o)->bt i' j'=some (b,o')->i=i'∧j=j'
 l0:∀i q,bt i 0=some q->∃p,args[i]?=some p∧Zp p=true
 args:K0 w (fun b=>BtX bt b∨Y b) bt 0 args us
structure Xg where
 bl:Nat->Prop
 ok:World->Prop
 stable:∀w w':World,(∀b,bl b->b<w.heap.size->w'.heap[b]?=w.heap[b]?)->ok w->ok w'
def Dh (G:Xg)(P:Program)(f:FuncId)(args:List PV)(r:Ap):Prop:=
 (∃fn,P.funcs[f]?=some fn∧fn.body.isSome=true)∧∀(w:World)(Y:Nat->Prop)(bt:Zn)(us:List Value),Ins w Y bt args us->G.ok w->(∀b,G.bl b->b<w.heap.size∧¬BtX bt b) ->
  Calls P f us.toArray w fun e w'=>∃vs own,e=.returned (H1 vs)∧Out w w' Y bt args own r vs
def VZ:Zn:=fun _ _=>none
theorem Qe (b:Nat):¬BtX VZ b:=by rintro⟨_,_,_,h⟩;cases h
theorem Kh {w:World}{A:Nat->Prop}{q:Option (Nat × Nat)} {p:PV}{u:Value}(hp:Vr p)(h:Ay w A p u):Gd w A q p u:=by
 cases p<;>first|exact h|exact hp.elim
theorem CG {w:World}{A:Nat->Prop}{own:Bt}:∀{cs:List PV}{vs:List Value}{j:Nat},Bh (fun c v=>Vr c∧Ay w A c v) cs vs->Ex w A own j cs vs
 |[],[],_,_=>trivial
 |_::_,_::_,_,h=>⟨Kh h.1.1 h.1.2,CG h.2⟩
 |[],_::_,_,h=>h.elim
 |_::_,[],_,h=>h.elim
theorem Ae7 {w:World}{A:Nat->Prop}{bt:Bt}{p:PV}{u:Value}(h:Q0 w A p u):SX w A bt p u:=by
 cases p with
 |agg cs=>
  obtain⟨vs,h1,h2⟩:=h;refine⟨vs,h1,fun p hp=>.inl ?_,CG h2⟩
  obtain⟨j,hj⟩:=List.mem_iff_getElem?.1 hp;obtain⟨v,_,hv⟩:=h2.get hj;exact hv.1
 |sc v=>exact⟨.inl trivial,h.2⟩
 |lst z es n c=>exact⟨.inl trivial,h.2⟩
 |_=>exact h.1.elim
theorem IF {w:World}{A:Nat->Prop}{bt:Zn}:∀{ps:List PV}{us:List Value}{i:Nat},Bh (Q0 w A) ps us->K0 w A bt i ps us
 |[],[],_,_=>trivial
 |_::_,_::_,_,h=>⟨Ae7 h.1,IF h.2⟩
 |[],_::_,_,h=>h.elim
 |_::_,[],_,h=>h.elim
theorem Agg {w:World}{A A':Nat->Prop}(hA:∀b,b<w.heap.size->A' b->A b){p:PV}{v:Value}(h:Q0 w A p v):Q0 w A' p v:=by
 cases p with
 |agg cs=>
  obtain⟨vs,rfl,h2⟩:=h;exact⟨vs,rfl,h2.mono fun c v hc=>⟨hc.1,hc.2.step (Cc.refl _ _) hA⟩⟩
 |sc v=>exact⟨h.1,h.2.step (Cc.refl _ _) hA⟩
 |lst z es n c=>exact⟨h.1,h.2.step (Cc.refl _ _) hA⟩
 |_=>exact h.1.elim
theorem VY {w:World}{Y:Nat->Prop}{args:List PV}{us:List Value}(hY:∀b,Y b->b<w.heap.size)(h:Bh (Q0 w Y) args us):Ins w Y VZ args us:=
 ⟨hY,fun b _=>Qe b,fun b h=>absurd h (Qe b),(fun _ _ _ _ _ _ _ h=>by cases h),(fun _ _ h=>by cases h),IF (h.mono fun _ _ hx=>Agg (fun b _ hb=>hb.elim (fun q=>absurd q (Qe b)) id) hx)⟩
def NoNG (P:Program):Prop:=∀(f:FuncId) (fn:Func),P.funcs[f]?=some fn->(fn.name == "runtime.NumGoroutine")=false
structure RV (P:Program) (G:Xg) (w0:World) (X0:H0):Prop where
 ng:NoNG P
 fr:∀w,Fr X0 w0 w->G.ok w
 y:∀b,G.bl b->b<w0.heap.size∧¬X0.X b
section
variable {R:Type} {r:R} {P:Program} {N:Nat} {w0:World} {X0:H0} {Y:Nat->Prop} {β β':Bt} {s:St} {a:Act} {w w':World} {o:Oper} {A:Nat->Prop}
def HJ (P:Program)(a:Act)(w:World)(o:Oper)(Y:Nat->Prop)(β:Bt)(s:St)(v:PV)(fz:List Nat)(nw:List (Nat × Bs)):Prop:=
 (∀id∈fz,∃f c,s.hp id=some (.ar f c))∧∀(next:Act->World->Prop)(Q:Exit->Act->World->Prop),
  (∀val w',(Bw s.hp nw=true->∃β',LZ Y β ⟨s.tm,Ag s.hp fz⟩ w v nw val w' β')->next (a.put o.dst val) w')->o.wp P a w next Q
theorem FD {v:PV}{fz:List Nat}{nw:List (Nat × Bs)} (h:Eg P a w o Y β s v fz nw):HJ P a w o Y β s v fz nw:=by
 obtain⟨h1,val,w',hr,hs⟩:=h;refine⟨h1,fun next Q hn=>?_⟩
 unfold Oper.wp;rw[hr];exact hn val w' hs
theorem Ajs (h:Cw N w0 X0 Y β s a w){t:TypeId}{x:PV}{u:Value}(hx:El w (Db s.hp β Y) β x u) {K:PV->List Nat->Option R}(hk:YM P (Jp s.hp) t x K=some r):
  ∃p m,K p m=some r∧(∀id∈m,∃f cc,s.hp id=some (.ar f cc))∧(cellsOf p).length=(H7 P t).length∧∀fz:List Nat,(∀id∈m,id∈fz)->(∀id∈fz,∃f cc,s.hp id=some (.ar f cc))->Q0 w (Db (Ag s.hp fz) β Y) p u:=by
 unfold YM at hk;cases F0:B9 P t
 ·rw[F0] at hk;obtain⟨cs,m,hk,hl,Ke,hT,hF,hm,hv⟩:=Qn h (show Ni _ _ _ _=some r from hk)
  obtain⟨c,t',rfl,hk⟩:=Bb hk;obtain⟨rfl,hk⟩:=Dr hk;have hcT:=hT c (by simp)
  refine⟨c,m,hk,hm,?_,fun fz h1 h2=>?_⟩
  ·have:cellsOf c=[c]:=by cases c<;>first|rfl|exact hcT.elim
   rw[this];exact hl
  have hF':=hF _ (List.mem_singleton_self _)
  have hc:B2 w (Db s.hp β Y) β x u:=by
   cases x<;>first|exact hx|exact hF'.elim
  have h3:=(hv fz h1 h2 [u] ⟨hc,trivial⟩).1.1;cases c<;>first|exact⟨trivial,h3⟩|exact hcT.elim
 ·rw[F0] at hk;obtain⟨ps,hp,hk⟩:=G2 (show F7 _ _=some r from hk)
  rw[hp] at hx;obtain⟨cs,m,hk,hl,Ke,hT,hF,hm,hv⟩:=Qn h hk;obtain⟨vs,De,h2⟩:=hx;refine⟨.agg cs,m,hk,hm,hl,fun fz h1 h3=>⟨vs,De,?_⟩⟩
  exact (hv fz h1 h3 vs h2).1.mono_mem fun c hc v CZ=>⟨hT c hc,CZ⟩
theorem Ah7 (h:Cw N w0 X0 Y β s a w){t:TypeId}{x:Operand}{K:PV->List Nat->Option R}(hk:YM P (Jp s.hp) t (B3 s.tm x) K=some r):
  ∃p m,K p m=some r∧(∀id∈m,∃f cc,s.hp id=some (.ar f cc))∧∀fz:List Nat,(∀id∈m,id∈fz)->(∀id∈fz,∃f cc,s.hp id=some (.ar f cc))->Q0 w (Db (Ag s.hp fz) β Y) p (a.eval x):=by
 obtain⟨p,m,h1,h2,_,h3⟩:=Ajs h (C4 h x) hk;exact⟨p,m,h1,h2,h3⟩
theorem MP (h:Cw N w0 X0 Y β s a w):∀{ts:List TypeId}{xs:List Operand}{K:List PV->List Nat->Option R},HI P (Jp s.hp) ts (xs.map (B3 s.tm)) K=some r ->
  ∃ps m,K ps m=some r∧(∀id∈m,∃f cc,s.hp id=some (.ar f cc))∧∀fz:List Nat,(∀id∈m,id∈fz)->(∀id∈fz,∃f cc,s.hp id=some (.ar f cc))->Bh (Q0 w (Db (Ag s.hp fz) β Y)) ps (xs.map a.eval)
 |[],[],K,hk=>⟨[],[],hk,by simp,fun _ _ _=>trivial⟩
 |[],_::_,K,hk=>by cases hk
 |_::_,[],K,hk=>by cases hk
 |t::ts,x::xs,K,hk=>by
  simp only[List.map_cons] at hk;unfold HI at hk;obtain⟨p,m,hk,hm,hv⟩:=Ah7 h hk;obtain⟨ps,ms,hk,GP,Rz⟩:=MP h hk;refine⟨p::ps,m++ms,hk,?_,fun fz h1 h2=>⟨hv fz (fun i hi=>h1 i (by simp[hi])) h2,Rz fz (fun i hi=>h1 i (by simp[hi])) h2⟩⟩
  intro i hi;rcases List.mem_append.1 hi with hi|hi
  ·exact hm i hi
  ·exact GP i hi
theorem Q0.weaken {A':Nat->Prop}(hA:∀b,b<w.heap.size->A' b->A b){p:PV}{v:Value}(h:Q0 w A p v):Q0 w A' p v:=by
 have one:Vr p->Vr p∧Ay w A p v->Q0 w A' p v:=by
  intro hp h;cases p<;>first|exact⟨h.1,h.2.step (Cc.refl _ _) hA⟩|exact hp.elim
 cases p with
 |agg cs=>
  obtain⟨vs,rfl,h2⟩:=h;exact⟨vs,rfl,h2.mono fun c v hc=>⟨hc.1,hc.2.step (Cc.refl _ _) hA⟩⟩
 |_=>exact one h.1 h
theorem Ag8 {t:CT}{p:PV}{K:PV->Option R}(h:BG t p K=some r):
  ∃c,K c=some r∧Vr c∧Vr p∧(∀(w:World) (A:Nat->Prop) (β:Nat->Option (Nat × Nat)) (v:Value),B2 w A β p v->Ay w A c v∧v.oneCell'=true)∧((∀es,t ≠ .sl es)->∃v,c=.sc v):=by
 obtain⟨c,hk,hT,GL,hv⟩:=Mp h;cases t with
 |sl es=>exact⟨c,hk,hT,GL,hv,fun E2=>absurd rfl (E2 es)⟩
 |int k=>obtain⟨n,rfl,h2⟩:=En h;exact⟨_,h2,trivial,trivial,fun w A β v hv=>⟨hv,by have:=Ay.val (w:=w) (A:=A) hv;subst this;rfl⟩,fun _=>⟨_,rfl⟩⟩
 |bool=>obtain⟨n,rfl,h2⟩:=Dv h;exact⟨_,h2,trivial,trivial,fun w A β v hv=>⟨hv,by have:=Ay.val (w:=w) (A:=A) hv;subst this;rfl⟩,fun _=>⟨_,rfl⟩⟩
 |str=>obtain⟨n,rfl,h2⟩:=Dq h;exact⟨_,h2,trivial,trivial,fun w A β v hv=>⟨hv,by have:=Ay.val (w:=w) (A:=A) hv;subst this;rfl⟩,fun _=>⟨_,rfl⟩⟩
 |any=>
  obtain⟨u,rfl,h1,h2⟩:=Ac5 (show fnK p (fun v=>K (.sc v))=some r from h)
  exact⟨_,h2,trivial,trivial,fun w A β v hv=>⟨hv,by have:=Ay.val (w:=w) (A:=A) hv;subst this;exact h1⟩,fun _=>⟨_,rfl⟩⟩
theorem Ty (shr:Bool)(N:Nat):∀{ts:List CT}{ps:List PV}{id:Nat}{K:List PV->List (Nat × Bs)->Option R},Qa shr N id ts ps K=some r ->
  ∃cs bs,K cs bs=some r∧ps.length=ts.length∧(∀p∈ps,∀x,p ≠ .agg x∧p ≠ .pbox x)∧(∀c∈cs,JM c)∧((∀es,CT.sl es ∉ ts)->bs=[]∧∀c∈cs,∃v,c=.sc v) ∧
   (∀i bx,(i,bx)∈bs->∃j es n c,ps[j]?=some (.own es n c)∧i=id+N*j∧bx=.ar false c) ∧
   (∀c∈cs,∀i∈As c,∃bx,(i,bx)∈bs) ∧
   ∀(w:World) (A:Nat->Prop) (own β':Bt) (j0:Nat) (us:List Value),(∀j,(∃bx,(id+N*j,bx)∈bs)->β' (id+N*j)=own (j0+j))->Ex w A own j0 ps us->Bh (B2 w A β') cs us
 |[],ps,id,K,hk=>by
  obtain⟨rfl,hk⟩:=Dr hk;refine⟨[],[],hk,rfl,by simp,by simp,by simp,by simp,by simp,fun w A own β' j0 us _ h=>?_⟩
  cases us with
  |nil=>trivial
  |cons u us=>exact h.elim
 |t::ts,ps,id,K,hk=>by
  unfold Qa at hk;obtain⟨p,ps',DC,Ea⟩:=Bb hk;subst DC;clear hk
  have main:∃c b,(Qa shr N (id+N) ts ps' fun cs bs=>K (c::cs) (b++bs))=some r∧(∀x,p ≠ .agg x∧p ≠ .pbox x)∧JM c∧((∀es,t≠CT.sl es)->b=[]∧∃v,c=.sc v)∧(∀i bx,(i,bx)∈b->∃es n cc,p=.own es n cc∧i=id∧bx=.ar false cc)∧(∀i∈As c,∃bx,(i,bx)∈b) ∧
    ∀(w:World) (A:Nat->Prop) (own:Option (Nat × Nat)) (β':Bt) (u:Value),((∃bx,(id,bx)∈b)->β' id=own)->Gd w A own p u->B2 w A β' c u:=by
   have tree:∀t',t'=t->(BG t' p fun c=>Qa shr N (id+N) ts ps' fun cs bs=>K (c::cs) ([]++bs))=some r->∃c b,(Qa shr N (id+N) ts ps' fun cs bs=>K (c::cs) (b++bs))=some r∧(∀x,p ≠ .agg x∧p ≠ .pbox x)∧JM c∧((∀es,t≠CT.sl es)->b=[]∧∃v,c=.sc v)∧(∀i bx,(i,bx)∈b->∃es n cc,p=.own es n cc∧i=id∧bx=.ar false cc)∧(∀i∈As c,∃bx,(i,bx)∈b) ∧
     ∀(w:World) (A:Nat->Prop) (own:Option (Nat × Nat)) (β':Bt) (u:Value),((∃bx,(id,bx)∈b)->β' id=own)->Gd w A own p u->B2 w A β' c u:=by
    intro t' ht' hk;have WQ:=Ag8 hk;obtain⟨c,hk,hT,GL,hv,WQ⟩:=WQ;refine⟨c,[],hk,fun x=>⟨Ym GL x,by rintro rfl;exact GL⟩,Rl hT,fun E2=>⟨rfl,WQ (fun es e=>E2 es (ht'.symm.trans e))⟩,by simp,by rw[Hs hT];simp,fun w A own β' u _ hc=>?_⟩
    have Q6:B2 w A β' p u:=by cases p<;>first|exact hc|exact GL.elim
    exact (Ks hT).2 (hv w A β' u Q6).1
   unfold Ahz at Ea;cases t with
   |sl es=>
    dsimp only at Ea;cases shr
    ·unfold IU at Ea;simp only[cond_false] at Ea;split at Ea
     ·rename_i es' n c;cases hb:Nat.beq es' es
      ·rw[hb] at Ea;cases Ea
      ·rw[hb] at Ea;have:=Nat.eq_of_beq_eq_true hb;subst this;refine⟨_,_,Ea,by simp,trivial,fun E2=>absurd rfl (E2 _),?_,?_,fun w A own β' u hβ hc=>?_⟩
       ·intro i bx hm;simp at hm;exact⟨_,_,_,rfl,hm.1,hm.2⟩
       ·intro i hi;simp[As] at hi;subst hi;exact⟨.ar false c,by simp⟩
       ·have hβ':=hβ ⟨.ar false c,by simp⟩
        clear hβ;rcases hc with⟨h1,rfl,rfl,h4⟩|⟨b,ob,cap,h1,h2,h3,h4,h5,_⟩
        ·exact .inl ⟨hβ'.trans h1,rfl,rfl,h4⟩
        ·exact .inr ⟨b,ob,ob,cap,hβ'.trans h1,h2,.inl rfl,h3,h4,h5⟩
     ·cases Ea
    ·obtain⟨c,hk,hT,GL,hv,_⟩:=Ag8 (t:=.sl es) (p:=p) (K:=fun c=>Qa true N (id+N) ts ps' fun cs bs=>K (OG c::cs) ([]++bs)) Ea
     have hU:Vr (OG c):=by cases c<;>exact hT
     refine⟨OG c,[],hk,fun x=>⟨Ym GL x,by rintro rfl;exact GL⟩,Rl hU,fun E2=>absurd rfl (E2 _),by simp,by rw[Hs hU];simp,fun w A own β' u _ hc=>?_⟩
     have Q6:B2 w A β' p u:=by cases p<;>first|exact hc|exact GL.elim
     refine (Ks hU).2 ?_;have:=(hv w A β' u Q6).1;cases c with
     |lst z es n c=>exact Ay.unz this
     |_=>exact this
   |int k=>exact tree (.int k) rfl Ea
   |bool=>exact tree .bool rfl Ea
   |str=>exact tree .str rfl Ea
   |any=>exact tree .any rfl Ea
  obtain⟨c,b,hk,hpa,hF,EM,E7,H8,CZ⟩:=main;obtain⟨cs,bs,hk,hl,A7q,hFs,Avp,A8r,A97,Bbl⟩:=Ty shr N hk;refine⟨c::cs,b++bs,hk,by simp[hl],?_,?_,?_,?_,?_,fun w A own β' j0 us hβ hoc=>?_⟩
  ·intro x hx;rcases List.mem_cons.1 hx with rfl|hx
   ·exact hpa
   ·exact A7q x hx
  ·intro x hx;rcases List.mem_cons.1 hx with rfl|hx
   ·exact hF
   ·exact hFs x hx
  ·intro E2;obtain⟨h1,v,h2⟩:=EM (fun es e=>E2 es (by rw[e];simp))
   obtain⟨h3,h4⟩:=Avp (fun es hm=>E2 es (by simp[hm]))
   refine⟨by rw[h1,h3];rfl,fun x hx=>?_⟩
   rcases List.mem_cons.1 hx with rfl|hx
   ·exact⟨v,h2⟩
   ·exact h4 x hx
  ·intro i bx hm;rcases List.mem_append.1 hm with hm|hm
   ·obtain⟨es,n,cc,rfl,rfl,rfl⟩:=E7 i bx hm;exact⟨0,es,n,cc,rfl,by simp,rfl⟩
   ·obtain⟨j,es,n,cc,h1,rfl,h3⟩:=A8r i bx hm;exact⟨j+1,es,n,cc,by simpa using h1,by rw[Nat.mul_add];omega,h3⟩
  ·intro x hx i hi;rcases List.mem_cons.1 hx with rfl|hx
   ·obtain⟨bx,hm⟩:=H8 i hi;exact⟨bx,by simp[hm]⟩
   ·obtain⟨bx,hm⟩:=A97 x hx i hi;exact⟨bx,by simp[hm]⟩
  ·cases us with
   |nil=>exact hoc.elim
   |cons u us=>
    refine⟨CZ w A (own j0) β' u (fun ⟨bx,hm⟩=>by have:=hβ 0 ⟨bx,by simp[hm]⟩;simpa using this) hoc.1,?_⟩
    refine Bbl w A own β' (j0+1) us (fun j ⟨bx,hm⟩=>?_) hoc.2
    have e:id+N+N*j=id+N*(j+1):=by rw[Nat.mul_add];omega
    have:=hβ (j+1) ⟨bx,by rw[←e];simp[hm]⟩
    rw[e,this]
    congr 1
    omega
end
open Go.RowKit
section
variable {R:Type} {r:R} {P:Program} {N:Nat} {w0:World} {X0:H0} {Y:Nat->Prop} {β β':Bt} {s:St} {a:Act} {w w':World} {o:Oper} {A:Nat->Prop}
theorem Ex.len:∀{j:Nat}{own:Bt}{ps:List PV}{us:List Value},Ex w A own j ps us->ps.length=us.length
 |_,_,[],[],_=>rfl
 |_,_,_::_,_::_,h=>by simp[Ex.len h.2]
 |_,_,[],_::_,h=>h.elim
 |_,_,_::_,[],h=>h.elim
theorem Ex.at_:∀{j:Nat}{own:Bt}{ps:List PV}{us:List Value},Ex w A own j ps us->∀{i:Nat} {p},ps[i]?=some p->∃u,us[i]?=some u∧Gd w A (own (j+i)) p u
 |_,_,[],[],_,i,p,h=>by simp at h
 |j,own,_::_,u::_,h,0,p,hp=>by simp at hp;subst hp;exact⟨u,rfl,h.1⟩
 |j,own,_::_,_::_,h,i+1,p,hp=>by
  simp at hp;obtain⟨u,hu,hc⟩:=Ex.at_ h.2 hp;exact⟨u,by simpa using hu,by rw[show j+(i+1)=j+1+i from by omega];exact hc⟩
 |_,_,[],_::_,h,_,_,_=>h.elim
 |_,_,_::_,[],h,_,_,_=>h.elim
def Ak3 (N id:Nat)(β':Bt)(w:World)(A:Nat->Prop)(z n:Nat)(bs:List (Nat × Bs)):Prop:=
 ∀i bx,(i,bx)∈bs->(∃j,i=id+N*j∧j<n)∧Dd (some bx)∧Q4 w A β' i bx∧∀cs,bx=.st cs->∀b o,β' i=some (b,o)->z<=b
def AG (bs:List (Nat × Bs)):Prop:=∀i cells,(i,.st cells)∈bs->∀c∈cells,∀i'∈As c,∃bx,(i',bx)∈bs
theorem Xr {q:Option (Nat × Nat)} {es n i:Nat}{c:List PV}{u:Value}(h:Gd w A q (.own es n c) u) (hβ:β' i=q):Q4 w A β' i (.ar false c):=by
 rcases h with⟨h1,_,h2,_⟩|⟨b,o,cap,h1,_,_,_,_,h6,h7⟩
 ·exact .inl ⟨hβ.trans h1,h2⟩
 ·exact .inr ⟨b,o,hβ.trans h1,h6,fun _=>h7,(fun x=>by cases x)⟩
theorem AN {t:TypeId}(h:Jk P [t]=false):Zk P t=none∧∀es,CT.sl es ∉ H7 P t:=by
 simp only[Jk,List.any_cons,List.any_nil,Bool.or_false,Bool.or_eq_false_iff] at h;refine⟨by simpa using h.1,fun es hm=>?_⟩
 have:=List.any_eq_false.1 h.2 _ hm;simp at this
theorem Ain (shr:Bool)(N:Nat){t:TypeId}{p:PV}{id:Nat}{K:PV->List (Nat × Bs)->Option R} (hk:Aez P shr N id t p K=some r):
  ∃v bs,K v bs=some r∧plc p=UC P t∧(∀x,v ≠ .tup x)∧(Jk P [t]=false->bs=[]∧∀c∈cellsOf v,∃u,c=.sc u)∧(∀i∈Cf v,∃bx,(i,bx)∈bs)∧AG bs ∧
   ∀(w:World) (A:Nat->Prop) (own β':Bt) (z j0:Nat) (u:Value),(∀j,(∃bx,(id+N*j,bx)∈bs)->β' (id+N*j)=own (j0+j))->Aot w A own z j0 p u->Hy w A β' v u∧Ak3 N id β' w A z (plc p) bs:=by
 have boxes:∀{bs:List (Nat × Bs)} {ps:List PV} {id:Nat},(∀i bx,(i,bx)∈bs->∃j es n c,ps[j]?=some (.own es n c)∧i=id+N*j∧bx=.ar false c) ->
   AG bs∧∀(w:World) (A:Nat->Prop) (own β':Bt) (j0:Nat) (us:List Value),(∀j,(∃bx,(id+N*j,bx)∈bs)->β' (id+N*j)=own (j0+j))->Ex w A own j0 ps us->∀z,Ak3 N id β' w A z ps.length bs:=by
  intro bs ps id E7;refine⟨fun i cells hm=>?_,fun w A own β' j0 us hβ ho z i bx hm=>?_⟩
  ·obtain⟨_,_,_,_,_,_,h3⟩:=E7 i _ hm;cases h3
  ·obtain⟨j,es,n,cc,h1,h2,h3⟩:=E7 i bx hm;obtain⟨u,hu,hoc⟩:=ho.at_ h1;subst h3;refine⟨⟨j,h2,?_⟩,trivial,Xr hoc ?_,fun _ e=>by cases e⟩
   ·rcases Nat.lt_or_ge j ps.length with h|h
    ·exact h
    ·rw[List.getElem?_eq_none h] at h1;cases h1
   ·rw[h2];exact hβ j ⟨_,h2 ▸ hm⟩
 unfold Aez at hk;split at hk
 ·rename_i e he;obtain⟨ps,rfl,hk⟩:=LJ hk;obtain⟨cs,bs,hk,hl,Aqi,hF,EM,E7,H8,CZ⟩:=Ty shr N hk;obtain⟨XX,Lj⟩:=boxes E7;refine⟨.ptr id 0,_,hk,by simp only[plc,UC,he,hl],by simp,fun h=>?_,fun i hi=>?_,fun i cells hm c hc i' WZ=>?_,fun w A own β' z j0 u hβ ho=>?_⟩
  ·have:=(AN h).1;rw[he] at this;cases this
  ·simp only[Cf,As,List.mem_singleton] at hi;subst hi;exact⟨_,List.mem_cons_self⟩
  ·rcases List.mem_cons.1 hm with e|hm
   ·cases e;obtain⟨bx,hb⟩:=H8 c hc i' WZ;exact⟨bx,List.mem_cons_of_mem _ hb⟩
   ·obtain⟨bx,hb⟩:=XX i cells hm c hc i' WZ;exact⟨bx,List.mem_cons_of_mem _ hb⟩
  ·obtain⟨b,o,h1,hz,rfl,vs,h3,h4,h5⟩:=ho;have h0:=hβ 0 ⟨_,by rw[Nat.mul_zero,Nat.add_zero];exact List.mem_cons_self⟩
   rw[Nat.mul_zero,Nat.add_zero,Nat.add_zero,h1] at h0;have Bm:∀j,id+N+N*j=id+N*(j+1):=fun j=>by rw[Nat.mul_add];omega
   have hβ1:∀j,(∃bx,(id+N+N*j,bx)∈bs)->β' (id+N+N*j)=own (j0+1+j):=fun j ⟨bx,hm⟩=>by
    rw[Bm,hβ (j+1) ⟨bx,by rw[←Bm];exact List.mem_cons_of_mem _ hm⟩]
    congr 1;omega
   have hc2:=CZ w A own β' (j0+1) vs hβ1 h3;have Wg:=Lj w A own β' (j0+1) vs hβ1 h3 z;have C6:cs.length=ps.length:=by rw[hc2.len,←h3.len]
   refine⟨⟨b,o,h0,by simp⟩,fun i bx hm=>?_⟩
   rcases List.mem_cons.1 hm with e|hm
   ·cases e;refine⟨⟨0,by simp,by simp only[plc];omega⟩,trivial,⟨b,o,h0,fun k c hk=>?_,fun k hk=>h5 k (by omega)⟩,fun _ _ b' o' H5=>?_⟩
    ·obtain⟨v,hv,NB⟩:=hc2.get hk;exact⟨v,h4 k v hv,NB⟩
    ·rw[h0] at H5;cases H5;exact hz
   ·obtain⟨⟨j,hj,hjn⟩,h6,h7⟩:=Wg i bx hm;exact⟨⟨j+1,by rw[hj,Bm],by simp only[plc];omega⟩,h6,h7⟩
 ·rename_i hnp;have Qu:UC P t=(H7 P t).length:=by simp only[UC,hnp]
  cases F0:B9 P t
  ·rw[F0] at hk;obtain⟨cs,bs,hk,hl,Aqi,hF,EM,E7,H8,CZ⟩:=Ty shr N (show Qa _ _ _ _ _ _=some r from hk)
   obtain⟨c,t',rfl,hk⟩:=Bb hk;obtain⟨rfl,hk⟩:=Dr hk;have hFc:=hF c (by simp)
   have A3h:∀x,p ≠ .pbox x:=fun x=>(Aqi p (by simp) x).2
   have Ava:∀x,c ≠ .agg x:=by rintro x rfl;exact hFc
   have A7d:∀x,c ≠ .tup x:=by rintro x rfl;exact hFc
   have IQ:Cf c=As c:=by cases c<;>first|rfl|exact absurd rfl (Ava _)
   have hpa:∀x,p ≠ .agg x:=fun x=>(Aqi p (by simp) x).1
   obtain⟨XX,Lj⟩:=boxes E7;have C3:cellsOf p=[p]:=by cases p<;>first|rfl|exact absurd rfl (hpa _)
   have A3n:plc p=1:=by cases p<;>first|rfl|exact absurd rfl (hpa _)|exact absurd rfl (A3h _)
   have hcc:cellsOf c=[c]:=by cases c<;>first|rfl|exact absurd rfl (Ava _)
   refine⟨c,bs,hk,by rw[A3n,Qu];exact hl,A7d,fun E2=>by rw[hcc];exact EM (AN E2).2,fun i hi=>H8 c (by simp) i (by rw[←IQ];exact hi),XX,fun w A own β' z j0 u hβ ho=>?_⟩
   have VX:Gd w A (own j0) p u:=by cases p<;>first|exact ho|exact absurd rfl (hpa _)|exact absurd rfl (A3h _)
   exact⟨(Zm Ava).2 (CZ w A own β' j0 [u] hβ ⟨VX,trivial⟩).1,by rw[A3n];exact Lj w A own β' j0 [u] hβ ⟨VX,trivial⟩ z⟩
  ·rw[F0] at hk;obtain⟨ps,rfl,hk⟩:=G2 (show F7 _ _=some r from hk)
   obtain⟨cs,bs,hk,hl,Aqi,hF,EM,E7,H8,CZ⟩:=Ty shr N hk;obtain⟨XX,Lj⟩:=boxes E7;refine⟨.agg cs,bs,hk,by rw[Qu];exact hl,by simp,fun E2=>EM (AN E2).2,fun i hi=>?_,XX,fun w A own β' z j0 u hβ ho=>?_⟩
   ·obtain⟨c,hc,hi⟩:=List.mem_flatMap.1 (show i∈cs.flatMap As from hi)
    exact H8 c hc i hi
   ·obtain⟨vs,rfl,ho⟩:=ho;exact⟨⟨vs,rfl,CZ w A own β' j0 vs hβ ho⟩,Lj w A own β' j0 vs hβ ho z⟩
theorem BF (shr:Bool)(N:Nat):∀{ts:List TypeId}{ps:List PV}{id:Nat}{K:List PV->List (Nat × Bs)->Option R},BN P shr N id ts ps K=some r ->
  ∃vs bs,K vs bs=some r∧vs.length=ps.length∧(∀v∈vs,∀x,v ≠ .tup x)∧(Jk P ts=false->bs=[]∧∀v∈vs,∀c∈cellsOf v,∃u,c=.sc u)∧(∀v∈vs,∀i∈Cf v,∃bx,(i,bx)∈bs)∧AG bs ∧
   ∀(w:World) (A:Nat->Prop) (own β':Bt) (z j0:Nat) (us:List Value),(∀j,(∃bx,(id+N*j,bx)∈bs)->β' (id+N*j)=own (j0+j))->LH w A own z j0 ps us->Bh (Hy w A β') vs us∧Ak3 N id β' w A z (Ls ps) bs
 |[],ps,id,K,hk=>by
  obtain⟨rfl,hk⟩:=Dr hk;refine⟨[],[],hk,rfl,by simp,by simp,by simp,(by intro i cells hm;cases hm),fun w A own β' z j0 us _ h=>?_⟩
  cases us with
  |nil=>exact⟨trivial,by intro i bx hm;cases hm⟩
  |cons u us=>exact h.elim
 |t::ts,ps,id,K,hk=>by
  unfold BN at hk;obtain⟨p,ps',DC,Ea⟩:=Bb hk;subst DC;clear hk;obtain⟨v,bs,hk,hl,hnt,EM,IQ,XX,hv⟩:=Ain shr N Ea;obtain⟨vs,bs',hk,hvl,Ba1,Avp,hrs,A79,Rz⟩:=BF shr N hk;refine⟨v::vs,bs++bs',hk,by simp[hvl],?_,?_,?_,?_,fun w A own β' z j0 us hβ ho=>?_⟩
  ·intro x hx;rcases List.mem_cons.1 hx with rfl|hx
   ·exact hnt
   ·exact Ba1 x hx
  ·intro E2;simp only[Jk,List.any_cons,Bool.or_eq_false_iff] at E2;obtain⟨h1,h2⟩:=EM (by simp only[Jk,List.any_cons,List.any_nil,Bool.or_false,Bool.or_eq_false_iff];exact E2.1)
   obtain⟨h3,h4⟩:=Avp (by simp only[Jk];exact E2.2)
   refine⟨by rw[h1,h3];rfl,fun x hx=>?_⟩
   rcases List.mem_cons.1 hx with rfl|hx
   ·exact h2
   ·exact h4 x hx
  ·intro x hx i hi;rcases List.mem_cons.1 hx with rfl|hx
   ·obtain⟨bx,hm⟩:=IQ i hi;exact⟨bx,by simp[hm]⟩
   ·obtain⟨bx,hm⟩:=hrs x hx i hi;exact⟨bx,by simp[hm]⟩
  ·intro i cells hm c hc i' WZ;rcases List.mem_append.1 hm with hm|hm
   ·obtain⟨bx,hb⟩:=XX i cells hm c hc i' WZ;exact⟨bx,by simp[hb]⟩
   ·obtain⟨bx,hb⟩:=A79 i cells hm c hc i' WZ;exact⟨bx,by simp[hb]⟩
  ·cases us with
   |nil=>exact ho.elim
   |cons u us=>
    obtain⟨h1,E7⟩:=hv w A own β' z j0 u (fun j ⟨bx,hm⟩=>hβ j ⟨bx,by simp[hm]⟩) ho.1
    have Bm:∀j,id+N*UC P t+N*j=id+N*(UC P t+j):=fun j=>by rw[Nat.mul_add];omega
    obtain⟨h2,H8⟩:=Rz w A own β' z (j0+plc p) us (fun j ⟨bx,hm⟩=>by rw[Bm,hβ _ ⟨bx,by rw[←Bm];simp[hm]⟩,hl];congr 1;omega) ho.2
    refine⟨⟨h1,h2⟩,fun i bx hm=>?_⟩
    rcases List.mem_append.1 hm with hm|hm
    ·obtain⟨⟨j,hj,hjn⟩,h4,h5⟩:=E7 i bx hm;exact⟨⟨j,hj,by simp only[Ls,List.map_cons,List.sum_cons];omega⟩,h4,h5⟩
    ·obtain⟨⟨j,hj,hjn⟩,h4,h5⟩:=H8 i bx hm;refine⟨⟨_,by rw[hj,Bm],?_⟩,h4,h5⟩
     simp only[Ls,List.map_cons,List.sum_cons] at hjn ⊢;omega
def DP (N d:Nat)(bs:List (Nat × Bs)) (own β:Bt):Bt:=fun i=>if (bs.any fun q=>Nat.beq q.1 i)=true then own ((i-d) / N) else β i
theorem NW {bs:List (Nat × Bs)} {i:Nat}:(bs.any fun q=>Nat.beq q.1 i)=true↔∃bx,(i,bx)∈bs:=by
 rw[List.any_eq_true];constructor
 ·rintro⟨⟨j,bx⟩,hm,e⟩
  have:=Nat.eq_of_beq_eq_true e;subst this;exact⟨bx,hm⟩
 ·rintro⟨bx,hm⟩
  exact⟨_,hm,Nat.beq_refl i⟩
theorem Abj {N d j:Nat}(hN:0<N){bs:List (Nat × Bs)} {own β:Bt}(h:∃bx,(d+N*j,bx)∈bs):DP N d bs own β (d+N*j)=own j:=by
 unfold DP;rw[if_pos (NW.2 h),Nat.add_sub_cancel_left,Nat.mul_div_cancel_left _ hN]
theorem SH {c:Call}{f:FuncId}(ho:o.op=.call c)(hc:c.callee=.value (.func f)) (Ko:NoNG P){fn:Func}(hf:P.funcs[f]?=some fn) (hb:fn.body.isSome=true):
  (execOp a.eval o).run P w=.ok (.enter f (c.args.map a.eval)) w:=by
 unfold execOp;rw[ho]
 have hn:¬fn.body=none:=by
  intro h;rw[h] at hb;cases hb
 have E2:¬fn.name = "runtime.NumGoroutine" :=by simpa using Ko f fn hf
 simp[resolve,hc,Act.eval,Deferred.ofValue,invoke,callFunc,hf,E2,hn]
theorem Aft {c:Call}{t:Nat}{f:FuncId}(ho:o.op=.call c)(hc:c.callee=.value (.tmp t)) (ht:a.eval (.tmp t)=.func (.func f) #[] #[]) (Ko:NoNG P){fn:Func}(hf:P.funcs[f]?=some fn) (hb:fn.body.isSome=true):
  (execOp a.eval o).run P w=.ok (.enter f (c.args.map a.eval)) w:=by
 unfold execOp;rw[ho]
 have hn:¬fn.body=none:=by
  intro h;rw[h] at hb;cases hb
 have E2:¬fn.name = "runtime.NumGoroutine" :=by simpa using Ko f fn hf
 simp[resolve,hc,ht,Deferred.ofValue,invoke,callFunc,hf,E2,hn]
theorem CF {A':Nat->Prop}(k:Bool):∀{xs:List Operand}{ps:List PV},Bh (Q0 w A') ps (xs.map a.eval)->Bh (Q0 w A') (Ji k xs ps) (xs.map a.eval)
 |[],[],h=>h
 |[],_::_,h=>h
 |_::_,[],h=>h
 |x::xs,p::ps,h=>by
  simp only[List.map_cons] at h ⊢;refine⟨?_,CF k h.2⟩;split
  ·exact⟨trivial,Ay.lnil _ _⟩
  ·exact h.1
theorem GM (h : Cw N w0 X0 Y β s a w) {G : Xg} (Ko : RV P G w0 X0) {C : G1} {call : Am} (Dz : ∀ f args res, call f args = some res -> Dh G P f args res) {c : Call} {f : FuncId} (Cr : ∀ {fn : Func}, P.funcs[f]? = some fn -> fn.body.isSome = true -> (execOp a.eval o).run P w = .ok (.enter f (c.args.map a.eval)) w)
    {K : PV -> List Nat -> List (Nat × Bs) -> Option R}
    (hk : (HI P (Jp s.hp) (HB P f c) (c.args.toList.map (B3 s.tm)) fun vs m =>
          Ah (call f (Ji (C.kz f) c.args.toList vs)) fun rv ro => Ad ro (A2 (Nat.blt 0 N) <| BN P (C.shr f) N (o.dst.getD 0) (Nx P o.type) rv fun ws bs =>
            A2 (bif O3 P o.type then !Nat.beq ws.length 1 else Nat.beq ws.length 1) <| K (Nb ws (O3 P o.type)) (bif Jk P (Nx P o.type) then m else []) bs)) = some r) : ∃ v fz nw, K v fz nw = some r ∧ HJ P a w o Y β s v fz nw := by
  obtain⟨ps, m, hk, hm, E3⟩ := MP h hk
  replace E3 := fun fz h1 h2 => CF (a := a) (C.kz f) (E3 fz h1 h2)
  generalize Ji (C.kz f) c.args.toList ps = ps at hk E3
  obtain⟨rv, ro, I7, hk⟩ := KS hk
  obtain⟨rfl, hk⟩ := Dr hk
  obtain⟨hN, hk⟩ := Al hk
  have hN : 0 < N := Nat.lt_of_succ_le (Nat.le_of_ble_eq_true hN)
  obtain⟨ws, bs, hk, hwl, hnt, EM, hrs, XX, hws⟩ := BF (C.shr f) N hk
  obtain⟨Qi, hk⟩ := Al hk
  obtain⟨⟨fn, hfn, hfb⟩, EN⟩ := Dz f ps _ I7
  obtain⟨fz, AB, hfm⟩ : ∃ fz : List Nat, fz = (bif Jk P (Nx P o.type) then m else []) ∧ ∀ id ∈ fz, ∃ f c, s.hp id = some (.ar f c) := by
    refine⟨_, rfl, fun id Bm => ?_⟩
    cases hh : Jk P (Nx P o.type) <;> rw[hh] at Bm
    · cases Bm
    · exact hm id Bm
  rw[← AB] at hk
  refine⟨_, _, _, hk, hfm, fun next Q hn => ?_⟩
  have hf := h.freeze hfm
  have hYc : ∃ Yc : Nat -> Prop, (∀ b, Yc b -> b < w.heap.size) ∧ Bh (Q0 w Yc) ps (c.args.toList.map a.eval) ∧ ((∀ b, Db (Ag s.hp fz) β Y b -> Yc b) ∨ Jk P (Nx P o.type) = false) := by
    have N3 := E3 m (fun _ hi => hi) hm
    cases hh : Jk P (Nx P o.type)
    · exact⟨fun _ => False, fun _ x => x.elim, N3.mono fun _ _ hx => hx.weaken (fun _ _ x => x.elim), .inr rfl⟩
    · rw[hh] at AB
      have AB : fz = m := AB
      subst AB
      refine⟨Db (Ag s.hp fz) β Y, fun b hb => ?_, N3, .inl fun _ x => x⟩
      rcases hb with⟨id, ob, hl, hβ⟩ | hY
      · exact hf.blt id b ob (Cz hl) hβ
      · exact Nat.lt_of_lt_of_le (h.Ylt b hY) h.fr.step.size
  obtain⟨Yc, A73, hYargs, hYA⟩ := hYc
  unfold Oper.wp
  rw[Cr hfn hfb]
  show Calls P f _ w _
  have hca : c.args.map a.eval = (c.args.toList.map a.eval).toArray := by rw[← List.map_toArray, Array.toArray_toList]
  rw[hca]
  refine (EN w Yc VZ _ (VY A73 hYargs) (Ko.fr w h.fr) (fun b x => ⟨Nat.lt_of_lt_of_le (Ko.y b x).1 h.fr.step.size, Qe b⟩)).mono ?_
  rintro e w' ⟨vs, own, rfl, Wq⟩
  refine hn (H1 vs) w' fun Pc => ⟨DP N (o.dst.getD 0) bs own β, ?_⟩
  obtain⟨ha1, Kl⟩ := Bn Pc
  have Amc : ∀ i bx, (i, bx) ∈ bs -> Ag s.hp fz i = none := fun i bx hm => D7.2 (ha1 i bx hm)
  obtain⟨hg1, hg2⟩ := Ei (hp := Ag s.hp fz) Kl
  have hold : ∀ i, Ag s.hp fz i ≠ none -> DP N (o.dst.getD 0) bs own β i = β i := by
    intro i hi
    unfold DP
    rw[if_neg]
    intro hx
    obtain⟨bx, hm⟩ := NW.1 hx
    exact hi (Amc i bx hm)
  obtain⟨Rz, hba⟩ := hws w' _ own (DP N (o.dst.getD 0) bs own β) w.heap.size 0 vs (fun j hj => by rw[Abj hN hj, Nat.zero_add]) Wq.vals
  have Wc : ∀ i bx, (i, bx) ∈ bs -> ∃ j, i = o.dst.getD 0 + N * j ∧ DP N (o.dst.getD 0) bs own β i = own j := by
    intro i bx hm
    obtain⟨⟨j, rfl, _⟩, _, _⟩ := hba i bx hm
    exact⟨j, rfl, Abj hN ⟨bx, hm⟩⟩
  have hAA : Jk P (Nx P o.type) = false ∨ ∀ b, Db (At (Ag s.hp fz) bs) (DP N (o.dst.getD 0) bs own β) Y b -> GQ VZ own Yc b := by
    rcases hYA with hYA | hYA
    · refine .inr fun b hb => ?_
      rcases hb with⟨i, ob, hl, hβ⟩ | hY
      · by_cases hi : ∃ bx, (i, bx) ∈ bs
        · obtain⟨bx, hm⟩ := hi
          obtain⟨j, _, h3⟩ := Wc i bx hm
          rw[h3] at hβ
          exact .inl ⟨j, ob, hβ⟩
        · rw[hg2 i (fun bx hm => hi ⟨bx, hm⟩)] at hl
          rw[hold i (Cz hl)] at hβ
          exact .inr (.inr (hYA b (.inl ⟨i, ob, hl, hβ⟩)))
      · exact .inr (.inr (hYA b (.inr hY)))
    · exact .inl hYA
  have hval : El w' (Db (At (Ag s.hp fz) bs) (DP N (o.dst.getD 0) bs own β) Y) (DP N (o.dst.getD 0) bs own β) (Nb ws (O3 P o.type)) (H1 vs) := by
    have N3 : Bh (Hy w' (Db (At (Ag s.hp fz) bs) (DP N (o.dst.getD 0) bs own β) Y) (DP N (o.dst.getD 0) bs own β)) ws vs := by
      rcases hAA with Y2 | hAA
      · obtain⟨_, WQ⟩ := EM Y2
        refine Rz.mono_mem fun v hv u hvu => ?_
        have WQ := WQ v hv
        cases v with
        | agg cs =>
          obtain⟨xs, rfl, IY⟩ := hvu
          refine⟨xs, rfl, IY.mono_mem fun cc hcc x hx => ?_⟩
          obtain⟨y, rfl⟩ := WQ cc hcc
          have := Ay.val (w := w') hx
          subst this
          exact Ay.sc _
        | sc y =>
          have := Ay.val (w := w') hvu
          subst this
          exact Ay.sc _
        | lst z es n cc => obtain⟨y, hy⟩ := WQ _ (List.mem_singleton_self _); cases hy
        | own es n cc => obtain⟨y, hy⟩ := WQ _ (List.mem_singleton_self _); cases hy
        | view i es n cc => obtain⟨y, hy⟩ := WQ _ (List.mem_singleton_self _); cases hy
        | ptr i cc => obtain⟨y, hy⟩ := WQ _ (List.mem_singleton_self _); cases hy
        | iptr i cc => obtain⟨y, hy⟩ := WQ _ (List.mem_singleton_self _); cases hy
        | pbox cc => obtain⟨y, hy⟩ := WQ _ (List.mem_singleton_self _); cases hy
        | tup cc => obtain⟨y, hy⟩ := WQ _ (List.mem_singleton_self _); cases hy
        | top => obtain⟨y, hy⟩ := WQ _ (List.mem_singleton_self _); cases hy
        | ub => obtain⟨y, hy⟩ := WQ _ (List.mem_singleton_self _); cases hy
      · exact Rz.mono fun v u hvu => hvu.step (Cc.refl _ _) (fun b _ => hAA b) (fun _ _ => rfl)
    have C6 := N3.len
    cases hT : O3 P o.type
    · rw[hT] at Qi
      have h1 : ws.length = 1 := Nat.eq_of_beq_eq_true Qi
      match ws, vs, h1, C6 with
      | [v], [u], _, _ =>
        exact (Ok (hnt v (by simp))).2 N3.1
    · rw[hT] at Qi
      have h1 : ¬ ws.length = 1 := by
        intro e
        rw[e] at Qi
        cases Qi
      have hr : H1 vs = .tuple ⟨vs⟩ := by
        unfold H1
        split
        · simp at C6; omega
        · rfl
      rw[hr]
      exact⟨vs, rfl, N3⟩
  refine⟨Wq.os, Wq.tape, Wq.output, Wq.ext.weaken (fun b _ hb => Qe b hb), hold, ?_, ?_, ?_, ?_, ?_, hval, ?_⟩
  · intro i bx hm
    exact (hba i bx hm).2.1
  · intro i bx hm
    rcases hAA with Y2 | hAA
    · rw[(EM Y2).1] at hm; cases hm
    · exact (hba i bx hm).2.2.1.step' hAA
  · intro i bx b ob hm hβ
    obtain⟨j, _, h3⟩ := Wc i bx hm
    rw[h3] at hβ
    obtain⟨h4, h5⟩ := Wq.fresh j b ob hβ
    refine⟨?_, h4⟩
    rcases Nat.lt_or_ge b w.heap.size with h | h
    · obtain⟨⟨_, _, _, h6⟩, _⟩ := h5 h
      cases h6
    · exact h
  · intro i bx i' bx' b ob ob' hm J1 hβ hβ'
    obtain⟨j, h1, h3⟩ := Wc i bx hm
    obtain⟨j', PB, h3'⟩ := Wc i' bx' J1
    rw[h3] at hβ
    rw[h3'] at hβ'
    rw[h1, PB, Wq.inj j j' b ob ob' hβ hβ']
  · intro i cells hm c hc i' WZ
    exact .inr (XX i cells hm c hc i' WZ)
  · intro i hi
    right
    cases hT : O3 P o.type
    · rw[hT] at Qi hi
      have h1 : ws.length = 1 := Nat.eq_of_beq_eq_true Qi
      match ws, h1 with
      | [v], _ =>
        refine hrs v (by simp) i ?_
        have : Bx v = Cf v := by
          have hn := hnt v (by simp)
          cases v <;> first | rfl | exact absurd rfl (hn _)
        rw[← this]
        exact hi
    · rw[hT] at hi
      obtain⟨v, hv, hi⟩ := List.mem_flatMap.1 (show i ∈ ws.flatMap Cf from hi)
      exact hrs v hv i hi
end
open Go.RowKit
section
variable {R:Type} {r:R} {P:Program} {N:Nat} {w0:World} {X0:H0} {Y:Nat->Prop} {β β':Bt} {s:St} {a:Act} {w w':World} {o:Oper} {A:Nat->Prop}
theorem Cw.move (h:Cw N w0 X0 Y β s a w){id d:Nat}{c cells:List PV}{bo:Option (Nat × Nat)} {v:PV}{val:Value}(h0:s.hp id=some (.ar false c)) (hd:s.hp d=none)(hdN:d<N)
  (hos:w'.os=w.os)(htp:w'.tape=w.tape)(Wq:w'.output=w.output)(VW:w.heap.size<=w'.heap.size)
  (Lg:∀k,k<w.heap.size->(∀x,β id≠some (k,x))->w'.heap[k]?=w.heap[k]?) (KC:∀k,k<w.heap.size->Hh w w' k)
  (PD:∀k x,bo=some (k,x)->k<w'.heap.size∧(w.heap.size<=k∨∃y,β id=some (k,y)))
  (RD:∀k x,bo=some (k,x)->k<w.heap.size->β id=some (k,x))
  (hO:∀k y,β id=some (k,y)->k<w.heap.size->∀j,j<y->w'.cell? ⟨k,j,none⟩=w.cell? ⟨k,j,none⟩∧w'.frozen? ⟨k,j,none⟩=w.frozen? ⟨k,j,none⟩)
  (Lj:Q4 w' (Db (Cs (Cs s.hp id (some .mv)) d (some (.ar false cells))) (Cs β d bo) Y) (Cs β d bo) d (.ar false cells))
  (hv:El w' (Db (Cs (Cs s.hp id (some .mv)) d (some (.ar false cells))) (Cs β d bo) Y) (Cs β d bo) v val) (hr:∀i∈Bx v,i=d):
  Cw N w0 X0 Y (Cs β d bo) ⟨Cs s.tm d v,Cs (Cs s.hp id (some .mv)) d (some (.ar false cells))⟩ (a.put (some d) val) w':=by
 have E2:id≠d:=by rintro rfl;rw[h0] at hd;cases hd
 have VC:∀i,i≠id->i≠d->Cs (Cs s.hp id (some Bs.mv)) d (some (.ar false cells)) i=s.hp i:=fun i h1 h2=>by rw[Ak _ _ h2,Ak _ _ h1]
 have Ari:Cs (Cs s.hp id (some Bs.mv)) d (some (.ar false cells)) id=some .mv:=by rw[Ak _ _ E2,An]
 have hgd:Cs (Cs s.hp id (some Bs.mv)) d (some (.ar false cells)) d=some (.ar false cells):=An _ _ _
 have N7:∀i,s.hp i≠none->Cs (Cs s.hp id (some Bs.mv)) d (some (.ar false cells)) i≠none:=by
  intro i hi;by_cases e:i=id
  ·subst e;rw[Ari];simp
  ·by_cases e':i=d
   ·subst e';rw[hgd];simp
   ·rw[VC i e e'];exact hi
 have hβo:∀i,s.hp i≠none->Cs β d bo i=β i:=fun i hi=>Ak _ _ (by rintro rfl;exact hi hd)
 have VK:Dd (s.hp id):=by rw[h0];trivial
 have Gj:∀i,Dd (Cs (Cs s.hp id (some Bs.mv)) d (some (.ar false cells)) i)->i=d∨(i≠id∧i≠d∧Dd (s.hp i)):=by
  intro i hi;by_cases e':i=d
  ·exact .inl e'
  ·by_cases e:i=id
   ·subst e;rw[Ari] at hi;exact hi.elim
   ·rw[VC i e e'] at hi;exact .inr ⟨e,e',hi⟩
 have hX:∀k,k<w.heap.size->NZ (Cs (Cs s.hp id (some .mv)) d (some (.ar false cells))) (Cs β d bo) k->NZ s.hp β k:=by
  rintro k hk ⟨i,x,hl,hβ⟩
  rcases Gj i hl with rfl|⟨e,e',hl⟩
  ·rw[An] at hβ;rcases (PD k x hβ).2 with Ll|⟨y,hy⟩
   ·omega
   ·exact⟨id,y,VK,hy⟩
  ·rw[Ak _ _ e'] at hβ;exact⟨i,x,hl,hβ⟩
 have hAo:∀k,k<w.heap.size->Db (Cs (Cs s.hp id (some .mv)) d (some (.ar false cells))) (Cs β d bo) Y k->Db s.hp β Y k:=fun k hk hx=>hx.imp (hX k hk) (fun y=>y)
 have F8:Cc (Db s.hp β Y) w w':=⟨VW,fun k hk hn=>Lg k hk fun x hx=>hn (.inl ⟨id,x,VK,hx⟩),KC⟩
 have Ahc:∀i k x,i≠id->i≠d->(∃b,s.hp i=some b∧b ≠ .mv)->β i=some (k,x)->k<w.heap.size∧w'.heap[k]?=w.heap[k]?:=by
  rintro i k x e e' ⟨b,hb,hmv⟩ hβ
  have hk:=h.blt i k x (by rw[hb];simp) hβ
  refine⟨hk,Lg k hk fun y hy=>?_⟩
  have Adp:=h.box i b hb;cases b with
  |st cc=>exact e (h.inj i id k x y (by rw[hb];trivial) VK hβ hy)
  |ar fz cc=>
   cases fz with
   |false=>exact e (h.inj i id k x y (by rw[hb];trivial) VK hβ hy)
   |true=>
    rcases Adp with⟨h1,_⟩|⟨k',x',h1,_,_,h4⟩
    ·rw[hβ] at h1;cases h1
    ·rw[hβ] at h1;simp at h1;obtain⟨rfl,rfl⟩:=h1
     exact h4 rfl (.inl ⟨id,y,VK,hy⟩)
  |mv=>exact absurd rfl hmv
 refine⟨by rw[Ro];exact h.dfr,by rw[Ya];exact h.tsz,?_,?_,?_,?_,?_,?_,?_,?_,?_,?_,?_,?_,h.Ylt,?_⟩
 ·intro i hi;show Cs s.tm d v i=_;rw[Ak _ _ (by omega)]
  exact h.tmo i hi
 ·refine Oz (d:=some d) (Q:=fun _ p u=>El w' (Db (Cs (Cs s.hp id (some .mv)) d (some (.ar false cells))) (Cs β d bo) Y) (Cs β d bo) p u) h.tsz (by simp[Gb,Nat.blt];omega) (fun i hi=>?_) (fun _=>hv)
  exact (h.tms i hi).step F8 hAo fun j hj=>hβo j (h.wfT i hi j hj)
 ·intro i bi hb;simp only at hb;by_cases e':i=d
  ·subst e';rw[hgd] at hb;cases hb;exact Lj
  ·by_cases e:i=id
   ·subst e;rw[Ari] at hb;cases hb;trivial
   ·rw[VC i e e'] at hb;have hβi:=hβo i (by rw[hb];simp)
    have DF:=h.box i bi hb;cases bi with
    |st cc=>
     obtain⟨k,x,h1,h2,h3⟩:=DF;obtain⟨hk,Qt⟩:=Ahc i k x e e' ⟨_,hb,by simp⟩ h1
     refine⟨k,x,by rw[hβi];exact h1,fun j p hj=>?_,fun j hj=>?_⟩
     ·obtain⟨u,hu,hc⟩:=h2 j p hj;exact⟨u,by rw[World.cell?_of_block (w:=w) Qt];exact hu,hc.step F8 hAo fun q hq=>hβo q (h.wfB i cc hb p (List.mem_of_getElem? hj) q hq)⟩
     ·rw[World.frozen?_of_block (w:=w) Qt];exact h3 j hj
    |ar fz cc=>
     rcases DF with⟨h1,h2⟩|⟨k,x,h1,h2,h3,h4⟩
     ·exact .inl ⟨by rw[hβi];exact h1,h2⟩
     ·obtain⟨hk,Qt⟩:=Ahc i k x e e' ⟨_,hb,by simp⟩ h1
      refine .inr ⟨k,x,by rw[hβi];exact h1,fun j p hj=>?_,fun ef j hj Sd=>?_,fun ef hx=>h4 ef (hAo k hk hx)⟩
      ·obtain⟨u,hu,h5,hc⟩:=h2 j p hj;exact⟨u,by rw[World.cell?_of_block (w:=w) (by rw[E1];exact Qt)];exact hu,h5,hc.step F8 hAo⟩
      ·rw[World.frozen?_of_block (w:=w) Qt];refine h3 ef j hj ?_;unfold bsz at Sd ⊢;rw[Qt] at Sd;exact Sd
    |mv=>trivial
 ·intro i i' k x y hl Ke hb H5;simp only at hl Ke
  have key:∀j z,j≠id->j≠d->Dd (s.hp j)->β j=some (k,z)->bo=some (k,y)∨bo=some (k,x)->False:=by
   intro j z e e' hlj hβj hbk;have hk:=h.blt j k z (Cz hlj) hβj;have:∃t,bo=some (k,t):=by rcases hbk with q|q<;>exact⟨_,q⟩
   obtain⟨t,ht⟩:=this;rcases (PD k t ht).2 with Ll|⟨q,hq⟩
   ·omega
   ·exact e (h.inj j id k z q hlj VK hβj hq)
  rcases Gj i hl with rfl|⟨e,e',hl0⟩
  ·rcases Gj i' Ke with rfl|⟨e2,e2',Aug⟩
   ·rfl
   ·rw[An] at hb;rw[Ak _ _ e2'] at H5;exact (key i' y e2 e2' Aug H5 (.inr hb)).elim
  ·rcases Gj i' Ke with rfl|⟨e2,e2',Aug⟩
   ·rw[An] at H5;rw[Ak _ _ e'] at hb;exact (key i x e e' hl0 hb (.inl H5)).elim
   ·rw[Ak _ _ e'] at hb;rw[Ak _ _ e2'] at H5;exact h.inj i i' k x y hl0 Aug hb H5
 ·intro i k x hi hb;simp only at hi;by_cases e':i=d
  ·subst e';rw[An] at hb;exact (PD k x hb).1
  ·rw[Ak _ _ e'] at hb
   have WZ:s.hp i≠none:=by
    by_cases e:i=id
    ·subst e;rw[h0];simp
    ·rw[VC i e e'] at hi;exact hi
   exact Nat.lt_of_lt_of_le (h.blt i k x WZ hb) VW
 ·have:=Oz (d:=some d) (Q:=fun _ p _=>∀j∈Bx p,Cs (Cs s.hp id (some Bs.mv)) d (some (.ar false cells)) j≠none) (val:=val) (v:=v) h.tsz (by simp[Gb,Nat.blt];omega) (fun i hi j hj=>N7 j (h.wfT i hi j hj)) (fun _ j hj=>by
   rw[hr j hj,hgd];simp)
  exact this
 ·intro i cc hc p hp j hj;simp only at hc;by_cases e':i=d
  ·subst e';rw[hgd] at hc;cases hc
  ·by_cases e:i=id
   ·subst e;rw[Ari] at hc;cases hc
   ·rw[VC i e e'] at hc;exact N7 j (h.wfB i cc hc p hp j hj)
 ·rintro k ⟨i,x,hl,hβ⟩
  rcases Gj i hl with rfl|⟨e,e',hl⟩
  ·rw[An] at hβ;rcases (PD k x hβ).2 with Ll|⟨y,hy⟩
   ·exact .inr (Nat.le_trans h.fr.step.size Ll)
   ·exact h.ownd k ⟨id,y,VK,hy⟩
  ·rw[Ak _ _ e'] at hβ;exact h.ownd k ⟨i,x,hl,hβ⟩
 ·intro i bi k x DF hli hβ Cb j hj;simp only at DF;rcases Gj i (by rw[DF];exact hli) with rfl|⟨e,e',hl⟩
  ·rw[An] at hβ;rw[hgd] at DF;cases DF;have:=RD k x hβ (Nat.lt_of_lt_of_le Cb h.fr.step.size);exact h.rngB id (.ar false c) k x h0 trivial this Cb j hj
  ·rw[VC i e e'] at DF;rw[Ak _ _ e'] at hβ;exact h.rngB i bi k x DF hli hβ Cb j hj
 ·intro i hi;exact⟨N7 _ (h.pin i hi).1,by rw[hβo _ (h.pin i hi).1];exact (h.pin i hi).2⟩
 ·intro i cc k x DF hβ Cb;simp only at DF;rcases Gj i (by rw[DF];trivial) with rfl|⟨e,e',hl⟩
  ·rw[hgd] at DF;cases DF
  ·rw[VC i e e'] at DF;rw[Ak _ _ e'] at hβ;exact h.stp i cc k x DF hβ Cb
 ·intro k hY hx;exact h.Yx k hY (hX k (Nat.lt_of_lt_of_le (h.Ylt k hY) h.fr.step.size) hx)
 ·refine⟨hos.trans h.fr.os,htp.trans h.fr.tape,Wq.trans h.fr.output,⟨Nat.le_trans h.fr.step.size VW,fun k hk hnk=>?_,fun k hk=>(h.fr.step.bs k hk).trans (KC k (Nat.lt_of_lt_of_le hk h.fr.step.size))⟩,fun k j hk hL=>?_⟩
  ·rw[Lg k (Nat.lt_of_lt_of_le hk h.fr.step.size) ?_]
   ·exact h.fr.step.keep k hk hnk
   ·intro x hx;rcases h.ownd k ⟨id,x,VK,hx⟩ with hq|hq
    ·exact hnk hq
    ·omega
  ·have hkw:=Nat.lt_of_lt_of_le hk h.fr.step.size
   have BT:w'.cell? ⟨k,j,none⟩=w.cell? ⟨k,j,none⟩∧w'.frozen? ⟨k,j,none⟩=w.frozen? ⟨k,j,none⟩:=by
    by_cases e:∃y,β id=some (k,y)
    ·obtain⟨y,hy⟩:=e;refine hO k y hy hkw j ?_;rcases Nat.lt_or_ge j y with q|q
     ·exact q
     ·exact absurd (h.rngB id (.ar false c) k y h0 trivial hy hk j q) hL
    ·have Qt:=Lg k hkw (fun x hx=>e ⟨x,hx⟩)
     exact⟨World.cell?_of_block (w:=w) Qt,World.frozen?_of_block (w:=w) Qt⟩
   rw[BT.1,BT.2];exact h.fr.rng k j hk hL
end
open Go.RowKit
section
variable {R:Type} {r:R} {P:Program} {N:Nat} {w0:World} {X0:H0} {Y:Nat->Prop} {β β':Bt} {s:St} {a:Act} {w w':World} {o:Oper} {A:Nat->Prop}
structure Src (P:Program) (w:World) (A:Nat->Prop) (size:Nat) (xv:Value) (m:Nat) (new:List PV) (news:List Value):Prop where
 len:∀w':World,(Builtin.lenOf xv).run P w'=.ok m w'
 cells:∀w':World,(∀b,b<w.heap.size->w'.heap[b]?=w.heap[b]?)->(Builtin.firstCells size m xv).run P w'=.ok news.toArray w'
 part:∀k,k<=m->(Builtin.firstCells size k xv).run P w=.ok (news.take (k*size)).toArray w
 one:∀u∈news,u.oneCell'=true
 rep:Bh (Ay w A) new news
theorem IE (h:Cw N w0 X0 Y β s a w){e tx:TypeId}{x:Operand}{K:Nat->List PV->Option R}(hk:ZJ P s (Bc P e) tx (B3 s.tm x) K=some r)
  (h1c:∀m new,K m new=some r->new.length=m*Bc P e):
  (∃d,P.underlying tx=some d∧(∀k,d ≠ .int k))∧∃m new news,K m new=some r∧Src P w (Db s.hp β Y) (Bc P e) (a.eval x) m new news:=by
 unfold ZJ ZW at hk;split at hk
 ·rename_i hu;obtain⟨Vf,hk⟩:=Al hk;have Vf:=Nat.eq_of_beq_eq_true Vf;obtain⟨b,hx,hk⟩:=Dq hk;have De:=B8 h hx;refine⟨⟨_,hu,by simp⟩,b.size,P5 b,b.data.toList.map (fun y=>Value.int .u8 y.toNat),hk,?_,?_,?_,?_,?_⟩
  ·intro w';rw[De];rfl
  ·intro w' _;rw[De]
   have hx:b.data.extract 0 b.size=b.data:=by
    have:b.size=b.data.size:=rfl;rw[this,Array.extract_size]
   have hd:(b.extract 0 b.size).data=b.data:=by
    rw[ByteArray.extract_zero_size]
   simp only[Builtin.firstCells,hd];rw[←Array.toList_map,Array.toArray_toList];rfl
  ·intro k Ll;rw[De,Vf,Nat.mul_one];have hd:(b.extract 0 k).data=b.data.extract 0 k:=ByteArray.data_extract
   have e1:(b.data.extract 0 k).map (fun y=>Value.int .u8 y.toNat)=((b.data.toList.map fun y=>Value.int .u8 y.toNat).take k).toArray:=by
    apply Array.toList_inj.1;simp[List.map_take]
   simp only[Builtin.firstCells,hd];rw[e1];rfl
  ·intro u hu;simp at hu;obtain⟨y,_,rfl⟩:=hu;rfl
  ·unfold P5;generalize b.data.toList=l
   induction l with
   |nil=>trivial
   |cons y l ih=>exact⟨Ay.sc _,ih⟩
 ·rename_i e' hu;refine⟨⟨_,hu,by simp⟩,?_⟩
  obtain⟨m,new,hk,hc⟩:=GC h hk;have C6:=h1c m new hk;rcases hc with⟨⟨ad,De⟩,rfl,rfl⟩|⟨ad,cap,De,hn,Cb,hrd⟩
  ·have f0:∀w':World,(Builtin.firstCells (Bc P e) 0 (.slice ad 0 0)).run P w'=.ok #[] w':=fun w'=>by
    cases ad with
    |none=>rfl
    |some p=>exact run_firstCells_some (P:=P) w' (Bc P e) 0 p 0 0 [] (by simp) (fun j v hj=>by simp at hj)
   exact⟨0,[],[],hk,fun w'=>by rw[De];rfl,fun w' _=>by rw[De];exact f0 w',fun k Ll=>by rw[De,Nat.le_zero.1 Ll,List.take_nil];exact f0 w,by simp,trivial⟩
  ·refine⟨m,new,new.mapIdx (fun j _=>(w.cell? (ad.add j)).getD undef),hk,fun w'=>by rw[De];rfl,fun w' hw=>?_,fun k Ll=>?_,?_,?_⟩
   ·rw[De];refine run_firstCells_some (P:=P) w' (Bc P e) m ad m cap _ (by simp[C6]) fun j v hj=>?_
    rw[List.getElem?_mapIdx] at hj;cases hc:new[j]? with
    |none=>rw[hc] at hj;cases hj
    |some c=>
     rw[hc] at hj;simp at hj;obtain⟨u,hu,_⟩:=hrd j c hc;rw[hu] at hj;simp at hj;subst hj;have Cb:ad.block<w.heap.size:=by rcases Cb with rfl|Cb<;>first|exact Cb|simp at hc
     rw[World.cell?_of_block (w:=w) (by rw[E1];exact hw _ Cb)]
     exact hu
   ·rw[De];have hkm:k*Bc P e<=m*Bc P e:=Nat.mul_le_mul_right _ Ll;refine run_firstCells_some (P:=P) w (Bc P e) k ad m cap _ (by rw[List.length_take,List.length_mapIdx,C6];omega) fun j v hj=>?_
    rw[List.getElem?_take] at hj;split at hj
    ·rw[List.getElem?_mapIdx] at hj;cases hc:new[j]? with
     |none=>rw[hc] at hj;cases hj
     |some c=>
      rw[hc] at hj;simp at hj;obtain⟨u,hu,_⟩:=hrd j c hc;rw[hu] at hj;simp at hj;subst hj;exact hu
    ·cases hj
   ·intro u hu;obtain⟨j,hj⟩:=List.mem_iff_getElem?.1 hu;rw[List.getElem?_mapIdx] at hj;cases hc:new[j]? with
    |none=>rw[hc] at hj;cases hj
    |some c=>
     rw[hc] at hj;simp at hj;obtain⟨v,hv,h2,ht⟩:=hrd j c hc;rw[hv] at hj;simp at hj;subst hj;exact h2
   ·refine Bh.of_at (by simp) fun j c v hc hj=>?_
    rw[List.getElem?_mapIdx,hc] at hj;simp at hj;obtain⟨u,hu,_,ht⟩:=hrd j c hc;rw[hu] at hj;simp at hj;subst hj;exact ht
 ·cases hk
theorem FW {e:TypeId}(h:PH P e=true):∃i z,P.info? e=some i∧i.zero=some z∧z.cells.size=i.size∧Bc P e=i.size:=by
 unfold PH at h;split at h
 ·rename_i i hi;split at h
  ·rename_i z hz;exact⟨i,z,hi,hz,Nat.eq_of_beq_eq_true h,by simp[Bc,hi]⟩
  ·cases h
 ·cases h
theorem DI {es n cap:Nat}{ad:Option Addr}{olds:List Value}(h:(ad=none∧olds=[])∨∃p,ad=some p∧olds.length=n*es∧∀(j:Nat) v,olds[j]?=some v->w.cell? (p.add j)=some v):
  (Builtin.firstCells es n (.slice ad n cap)).run P w=.ok olds.toArray w:=by
 rcases h with⟨rfl,rfl⟩|⟨p,rfl,hl,hc⟩
 ·rfl
 ·exact run_firstCells_some (P:=P) w es n p n cap olds hl hc
theorem Lp {t tx ty e:TypeId}{i:TypeInfo}{z:Value}{d:TypeDesc}{ts:List TypeId}(ht:P.underlying t=some (.slice e)) (htx:P.underlying tx=some d)(hd:∀k,d ≠ .int k)(hi:P.info? e=some i)(hz:i.zero=some z)
  {ad:Option Addr} {n cap m:Nat} {xv:Value} {olds news:List Value} {A:Nat->Prop} {new:List PV} (hs:Src P w A i.size xv m new news)
  (hold:(ad=none∧olds=[])∨∃p,ad=some p∧olds.length=n*i.size∧∀(j:Nat) v,olds[j]?=some v->w.cell? (p.add j)=some v)
  (hg:cap<n+m)(hb:(n+m)*i.bytes<=1099511627776) (h63:n+m<=1099511627776):
  (Builtin.append_ (t::tx::ts).toArray ty #[.slice ad n cap,xv]).run P w =
   .ok (.slice (some ⟨w.heap.size,0,none⟩) (n+m) (grownCap w (n+m) cap e)) (w.drew.alloc (.cells (olds.toArray++news.toArray++Builtin.zeroCells z.cells (grownCap w (n+m) cap e-(n+m))) e)):=by
 have h1:=hs.len w;have h2:(Builtin.firstCells i.size m xv).run P w.drew=.ok news.toArray w.drew:=hs.cells w.drew (fun _ _=>rfl)
 have h3:(Builtin.firstCells i.size n (.slice ad n cap)).run P w.drew=.ok olds.toArray w.drew:=DI (w:=w.drew) (by
  rcases hold with hh|⟨p,hp,hl,hc⟩
  ·exact .inl hh
  ·exact .inr ⟨p,hp,hl,fun j v hj=>hc j v hj⟩)
 have A39:=growslice_fits (need:=n+m) (old:=cap) (bytes:=i.bytes) hg (by omega)
 have hn:¬(n+m<=cap):=by omega
 have Anb:¬(9223372036854775807<((n:Int)+(m:Int))):=by omega
 have Apz:¬(281474976710656<Builtin.nextslicecap (n+m) cap*i.bytes):=by omega
 have HQ:(match d with | .int _=>true|_=>false)=false:=by cases d<;>first|rfl|exact absurd rfl (hd _)
 simp[Builtin.append_,run_underlying ht,run_underlying htx,HQ,sizeOf,typeInfo,zeroValue,hi,hz,h1,hn,Anb,Apz,Question.forced,h2,h3,newRow,grownCap]
 congr 2
 apply Array.ext';simp[List.append_assoc]
theorem DU {t tx ty e:TypeId}{i:TypeInfo}{d:TypeDesc}{ts:List TypeId}(ht:P.underlying t=some (.slice e)) (htx:P.underlying tx=some d)(hd:∀k,d ≠ .int k)(hi:P.info? e=some i)
  {b ob n cap m:Nat} {xv:Value} {news:List Value} {A:Nat->Prop} {new:List PV} (hs:Src P w A i.size xv m new news) (hl:news.length=m*i.size)
  (C3:∀k,k<news.length->(w.cell? ⟨b,ob+n*i.size+k,none⟩).isSome=true) (hfr:∀k,k<news.length->w.frozen? ⟨b,ob+n*i.size+k,none⟩=false)(hg:n+m<=cap):
  (Builtin.append_ (t::tx::ts).toArray ty #[.slice (some ⟨b,ob,none⟩) n cap,xv]).run P w=.ok (.slice (some ⟨b,ob,none⟩) (n+m) cap) (w.setCells b (ob+n*i.size) news):=by
 have h1:=hs.len w;have h2:(Builtin.firstCells i.size m xv).run P w=.ok news.toArray w:=hs.cells w (fun _ _=>rfl)
 have h3:=run_storeCells_cells (P:=P) b (ob+n*i.size) news 0 w (fun k hk=>by simpa using C3 k hk) (fun k hk=>by simpa using hfr k hk) hs.one
 have HQ:(match d with | .int _=>true|_=>false)=false:=by cases d<;>first|rfl|exact absurd rfl (hd _)
 have _:=hl;simp[Builtin.append_,run_underlying ht,run_underlying htx,HQ,sizeOf,typeInfo,hi,h1,hg,h2,Er];rw[h3];simp
theorem SU {t ty e:TypeId}{i:TypeInfo}{ts:List TypeId}(ht:P.underlying t=some (.slice e)) (hi:P.info? e=some i)
  {ad:Option Addr} {n cap m:Nat} {xv:Value} {news:List Value} {A:Nat->Prop} {new:List PV} (hs:Src P w A i.size xv m new news)
  {w1:World} (F8:(match ad with|some p=>storeCells p (news.take (min m n*i.size)) 0|none=>pure ()).run P w=.ok () w1):
  (Builtin.copy_ (t::ts).toArray ty #[.slice ad n cap,xv]).run P w=.ok (goInt ((min m n:Nat):Int)) w1:=by
 have h1:=hs.len w;have h2:=hs.part (min m n) (Nat.min_le_left _ _);have e:Nat.min m n=min m n:=rfl;generalize min m n=k at *
 cases ad with
 |none=>
  simp only at F8;simp[Builtin.copy_,run_underlying ht,sizeOf,typeInfo,hi,h1,h2,e]
  simpa using F8
 |some p=>
  simp only at F8;simp[Builtin.copy_,run_underlying ht,sizeOf,typeInfo,hi,h1,h2,e,F8]
theorem Zq {t tx ty e:TypeId}{i:TypeInfo}{k kx:IntKind}{ts:List TypeId}(ht:P.underlying t=some (.slice e)) (htx:P.underlying tx=some (.int k)) (hi:P.info? e=some i):
  (Builtin.append_ (t::tx::ts).toArray ty #[.slice none 0 0,.int kx 0]).run P w=.ok (.slice none 0 0) w:=by
 have hw:IntKind.i64.wrap 0=0:=by decide
 simp[Builtin.append_,run_underlying ht,run_underlying htx,sizeOf,typeInfo,hi,asInt,asIntOf,hw]
theorem DB {t tx ty e:TypeId}{i:TypeInfo}{z:Value}{k kx:IntKind}{ts:List TypeId}(ht:P.underlying t=some (.slice e)) (htx:P.underlying tx=some (.int k)) (hi:P.info? e=some i)(hz:i.zero=some z)
  {n:Int} (h0:0<n) (hb:n.toNat*i.bytes<=1099511627776) (hn:n<=1099511627776):
  (Builtin.append_ (t::tx::ts).toArray ty #[.slice none 0 0,.int kx n]).run P w =
   .ok (.slice (some ⟨w.heap.size,0,none⟩) n.toNat (grownCap w n.toNat 0 e)) (w.drew.alloc (.cells ((if n.toNat*i.size=0 then #[] else Builtin.zeroCells z.cells n.toNat)++Builtin.zeroCells z.cells (grownCap w n.toNat 0 e-n.toNat)) e)):=by
 have hw:IntKind.i64.wrap n=n:=IntWalk.i64_in n (by omega)
 have A39:=growslice_fits (need:=n.toNat) (old:=0) (bytes:=i.bytes) (by omega) (by omega)
 have Zo:¬n<0:=by omega
 have N7:¬(281474976710656<n*(i.bytes:Int)):=by
  have:n*(i.bytes:Int)=((n.toNat*i.bytes:Nat):Int):=by
   rw[Int.natCast_mul,Int.toNat_of_nonneg (by omega)]
  omega
 have Gx:¬(n.toNat=0):=by omega
 have Anb:¬(9223372036854775807<(n.toNat:Int)):=by omega
 have Apz:¬(281474976710656<Builtin.nextslicecap n.toNat 0*i.bytes):=by omega
 have CJ:¬n<=0:=by omega
 have hmx:¬(9223372036854775807<max n 0):=by omega
 by_cases hs:n.toNat*i.size=0
 ·simp[Builtin.append_,run_underlying ht,run_underlying htx,sizeOf,typeInfo,zeroValue,hi,hz,asInt,asIntOf,hw,Zo,N7,Gx,CJ,hmx,Anb,Apz,Question.forced,hs,newRow,grownCap,Builtin.firstCells]
 ·simp[Builtin.append_,run_underlying ht,run_underlying htx,sizeOf,typeInfo,zeroValue,hi,hz,asInt,asIntOf,hw,Zo,N7,Gx,CJ,hmx,Anb,Apz,Question.forced,hs,newRow,grownCap,Builtin.firstCells]
theorem Lm {t tx ty e:TypeId}{i:TypeInfo}{d:TypeDesc}{ts:List TypeId}(ht:P.underlying t=some (.slice e)) (htx:P.underlying tx=some d)(hd:∀k,d ≠ .int k)(hi:P.info? e=some i)
  {ad:Option Addr} {xv:Value} {news:List Value} {A:Nat->Prop} {new:List PV} (hs:Src P w A i.size xv 0 new news) (h0:news=[]):
  (Builtin.append_ (t::tx::ts).toArray ty #[.slice ad 0 0,xv]).run P w=.ok (.slice ad 0 0) w:=by
 subst h0;have h1:=hs.len w;have h2:(Builtin.firstCells i.size 0 xv).run P w=.ok ([]:List Value).toArray w:=hs.cells w (fun _ _=>rfl)
 have HQ:(match d with | .int _=>true|_=>false)=false:=by cases d<;>first|rfl|exact absurd rfl (hd _)
 cases ad<;>simp[Builtin.append_,run_underlying ht,run_underlying htx,HQ,sizeOf,typeInfo,hi,h1,h2,storeCells]
end
open Go.RowKit
section
variable {R:Type} {r:R} {P:Program} {N:Nat} {w0:World} {X0:H0} {Y:Nat->Prop} {β β':Bt} {s:St} {a:Act} {w w':World} {o:Oper} {A:Nat->Prop}
theorem Amo {b j:Nat}(h:j<bsz w b):(w.cell? ⟨b,j,none⟩).isSome=true:=by
 unfold bsz at h;unfold World.cell?;split at h
 ·rename_i c e fz hb;simp[hb,h]
 ·omega
theorem ZC {id d:Nat}{c cells:List PV}{bo:Option (Nat × Nat)} (h0:s.hp id=some (.ar false c)) (hd:s.hp d=none)
  (PD:∀k x,bo=some (k,x)->w.heap.size<=k∨∃y,β id=some (k,y)):
  ∀k,k<w.heap.size->Db (Cs (Cs s.hp id (some .mv)) d (some (.ar false cells))) (Cs β d bo) Y k->Db s.hp β Y k:=by
 rintro k hk (⟨i,x,hl,hβ⟩|hY)
 ·by_cases e':i=d
  ·subst e';rw[An] at hβ;rcases PD k x hβ with h|⟨y,hy⟩
   ·omega
   ·exact .inl ⟨id,y,by rw[h0];trivial,hy⟩
  ·rw[Ak _ _ e'] at hl hβ;by_cases e:i=id
   ·subst e;rw[An] at hl;exact hl.elim
   ·rw[Ak _ _ e] at hl;exact .inl ⟨i,x,hl,hβ⟩
 ·exact .inr hY
theorem FI {pre new:List PV}{olds news:List Value}{zs:Array Value}{e:TypeId}{A':Nat->Prop}(hg:Gf w w' (olds.toArray++news.toArray++zs) e) (hA:∀b,b<w.heap.size->A' b->A b)
  (h1:Bh (Ay w A) pre olds) (h2:Bh (Ay w A) new news) (ho:∀u∈olds,u.oneCell'=true)(hn:∀u∈news,u.oneCell'=true):WY w' A' ⟨w.heap.size,0,none⟩ (pre++new):=by
 refine Ace hg hA fun j p hj=>?_
 obtain⟨v,hv,ht⟩:=(h1.app h2).get hj;refine⟨v,?_,?_,ht⟩
 ·have Cb:j<(olds++news).length:=by
   rcases Nat.lt_or_ge j (olds++news).length with h|h
   ·exact h
   ·rw[List.getElem?_eq_none h] at hv;cases hv
  rw[Array.getElem?_append_left (by simpa using Cb)]
  simpa using hv
 ·rcases List.mem_append.1 (List.mem_of_getElem? hv) with hm|hm
  ·exact ho v hm
  ·exact hn v hm
theorem PZ (h:Cw N w0 X0 Y β s a w){c:Call}(ho:o.op=.call c)(hc:c.callee=.builtin .append)(hnb:Zl c=true){d:Nat}(Ad4:o.dst=some d){b x:Operand}(E3:c.args.toList=[b,x]) {t tx:TypeId}{ts:List TypeId}(DK:c.argTypes.toList=t::tx::ts)
  {K:PV->List (Nat × Bs)->Option R} (hk:Ul P (Jp s.hp) d t tx (B3 s.tm x) K=some r):∃v nw,K v nw=some r∧Eg P a w o Y β s v [] nw:=by
 have hb:b=.const (.slice none 0 0):=by
  unfold Zl at hnb;rw[E3] at hnb;split at hnb
  ·rename_i e;injection e
  ·cases hnb
 have FP:c.args = #[b,x]:=by
  have:c.args=([b,x]:List Operand).toArray:=by rw[←E3]
  exact this
 have SA:c.argTypes=(t::tx::ts).toArray:=by rw[←DK]
 have Pc:a.eval b=.slice none 0 0:=by rw[hb];rfl
 have run:∀{v:Value} {w1:World},(Builtin.append_ (t::tx::ts).toArray o.type #[a.eval b,a.eval x]).run P w=.ok v w1->(execOp a.eval o).run P w=.ok (.value v) w1:=by
  intro v w1 hr;unfold execOp;rw[ho];simp only[resolve,hc,invoke,builtin,Sem.run_bind,Sem.run_pure,Result.andThen_ok,FP,SA];have:(#[b,x]:Array Operand).map a.eval = #[a.eval b,a.eval x]:=by simp
  rw[this,hr];rfl
 unfold Ul at hk;split at hk
 ·rename_i e hu;obtain⟨hzi,hk⟩:=Al hk;obtain⟨i,z,hi,hz,hzs,My⟩:=FW hzi;have Sw:((P.info? e).map (·.bytes)).getD 0=i.bytes:=by rw[hi];rfl
  obtain⟨⟨dx,hdx,TO⟩,m,new,news,hk,hs⟩:=IE (s:=s) h hk (fun m new Ll=>by
   obtain⟨hb,_⟩:=Al Ll;simp only[Bool.and_eq_true,decide_eq_true_eq] at hb;exact hb.1.1)
  obtain⟨H5,hk⟩:=Al hk;simp only[Bool.and_eq_true,decide_eq_true_eq] at H5;obtain⟨⟨Acq,hby⟩,JI⟩:=H5;have hnl:new.length=news.length:=hs.rep.len;rw[My] at Acq hk hs;rw[Sw] at hby;have CM:news.length=m*i.size:=by omega
  refine⟨_,_,hk,by simp,?_⟩
  by_cases hm0:m=0
  ·subst hm0;have hr:=Lm (P:=P) (w:=w) (t:=t) (tx:=tx) (ty:=o.type) (ts:=ts) (ad:=none) hu hdx TO hi hs (List.eq_nil_of_length_eq_zero (by omega))
   rw[←Pc] at hr;have TM:new=[]:=List.eq_nil_of_length_eq_zero (by omega)
   subst TM;refine⟨_,_,run hr,fun Aij=>⟨Cs β d none,?_⟩⟩
   have U7:s.hp d=none:=(Bn Aij).1 d _ (List.mem_singleton_self _);rw[Pc];refine⟨rfl,rfl,rfl,Cc.refl _ _,fun j hj=>Ak _ _ (by rintro rfl;exact hj U7),?_,?_,?_,?_,?_,.inl ⟨An _ _ _,rfl,rfl,none,rfl⟩,?_⟩
   ·intro j bx hm;simp at hm;rw[hm.2];trivial
   ·intro j bx hm;simp at hm;obtain⟨rfl,rfl⟩:=hm;exact .inl ⟨An _ _ _,rfl⟩
   ·intro j bx k q hm hq;simp at hm;obtain⟨rfl,rfl⟩:=hm;rw[An] at hq;cases hq
   ·intro j bx j' bx' k q q' hm J1 _ _;simp at hm J1;rw[hm.1,J1.1]
   ·intro j cells hm;simp at hm
   ·intro j hj;simp[Bx,Cf,As] at hj;subst hj;exact .inr ⟨.ar false [],by simp⟩
  ·have hr:=Lp (P:=P) (w:=w) (t:=t) (tx:=tx) (ty:=o.type) (ts:=ts) (ad:=none) (n:=0) (cap:=0) (olds:=[]) hu hdx TO hi hz hs (.inl ⟨rfl,rfl⟩) (by omega) (by rw[Nat.zero_add];exact hby) (by omega)
   rw[←Pc] at hr;refine⟨_,_,run hr,fun Aij=>⟨Cs β d (some (w.heap.size,0)),?_⟩⟩
   have U7:s.hp d=none:=(Bn Aij).1 d _ (List.mem_singleton_self _);have hge:0+m<=grownCap w (0+m) 0 e:=grownCap_ge w (0+m) 0 e
   have Wn:Gf w (w.drew.alloc (.cells (([]:List Value).toArray++news.toArray++Builtin.zeroCells z.cells (grownCap w (0+m) 0 e-(0+m))) e)) (([]:List Value).toArray++news.toArray++Builtin.zeroCells z.cells (grownCap w (0+m) 0 e-(0+m))) e:=
    ⟨rfl,rfl,rfl,fun k hk=>Below.heap_alloc w.drew _ k hk,by show (w.heap.push _).size=_;simp,(0,0),by show (w.heap.push _)[w.heap.size]?=_;simp,.inl rfl⟩
   have ZE:(([]:List Value).toArray++news.toArray++Builtin.zeroCells z.cells (grownCap w (0+m) 0 e-(0+m))).size=grownCap w (0+m) 0 e*i.size:=by
    simp only[Array.size_append,List.size_toArray,size_zeroCells,hzs,CM,List.length_nil,←Nat.add_mul];rw[Nat.zero_add (m*i.size),←Nat.add_mul]
    congr 1
    omega
   refine P9 (s:=⟨s.tm,Ag s.hp []⟩) Wn U7 trivial ?_ (fun cells hx=>by cases hx) ?_ (by intro j hj;simp[Bx,Cf,As] at hj;exact .inr hj)
   ·refine .inr ⟨w.heap.size,0,An _ _ _,?_,fun _ j _ hj=>?_,(fun q=>by cases q)⟩
    ·exact FI (pre:=[]) Wn (Acy (s:=⟨s.tm,Ag s.hp []⟩) U7) trivial hs.rep (by simp) hs.one
    ·rw[Wn.bsz] at hj;exact Wn.frozen hj
   ·refine .inr ⟨w.heap.size,0,0,grownCap w (0+m) 0 e,An _ _ _,by rw[Nat.zero_add],.inl rfl,by omega,?_,by rw[Wn.size];omega⟩
    exact⟨by rw[Wn.bsz,ZE];omega,.inr (Kg w.drew _ e)⟩
 ·cases hk
theorem TE {lo hi:Option Operand}{y3:Operand}{k3:IntKind}{len cap l u m:Nat}(hl:(lo=none∧l=0)∨∃y k,lo=some y∧a.eval y=.int k (l:Int))
  (hu:∃y k,hi=some y∧a.eval y=.int k (u:Int)) (hm:a.eval y3=.int k3 (m:Int)) (h1:l<=u)(h2:u<=m)(h3:m<=cap):
  (Instr.sliceBounds true len cap (lo.map a.eval) (hi.map a.eval) (some (a.eval y3))).run P w=.ok (l,u,m) w:=by
 obtain⟨y,k,rfl,hy⟩:=hu;rcases hl with⟨rfl,rfl⟩|⟨y',k',rfl,hy'⟩
 ·simp[Instr.sliceBounds,Instr.sliceBound,asIntOf,hy,hm,h2,h3]
 ·simp[Instr.sliceBounds,Instr.sliceBound,asIntOf,hy,hy',hm,h1,h2,h3]
theorem OV (h:Cw N w0 X0 Y β s a w){t:TypeId}{x m:Operand}{lo hi:Option Operand}(ho:o.op=.slice t x lo hi (some m)) {d:Nat}{K:PV->List (Nat × Bs)->Option R}
  (hk:Ua P d t (B3 s.tm x) (lo.map (B3 s.tm)) (hi.map (B3 s.tm)) (some (B3 s.tm m)) K=some r):∃v nw,K v nw=some r∧Eg P a w o Y β s v [] nw:=by
 have hx:=C4 h x;unfold Ua at hk;split at hk
 ·rename_i e hu;obtain⟨hb,hk⟩:=Al hk;simp only[Bool.and_eq_true] at hb;obtain⟨Pg,hhi⟩:=hb
  obtain⟨yh,rfl⟩:∃y,hi=some y:=by
   cases hi with
   |none=>simp at hhi
   |some y=>exact⟨y,rfl⟩
  have fin:∀{ad:Option Addr} {n cap l u q:Nat},a.eval x=.slice ad n cap->n<=cap->((lo=none∧l=0)∨∃y k,lo=some y∧a.eval y=.int k (l:Int))->((some yh=none∧u=n)∨∃y k,some yh=some y∧a.eval y=.int k (u:Int))->(((some m:Option Operand)=none∧q=n)∨∃y k,(some m:Option Operand)=some y∧a.eval y=.int k (q:Int)) ->
    (Nat.beq l q&&Nat.beq u q&&decide (q<=n))=true->Eg P a w o Y β s (.view d (Bc P e) 0 0) [] [(d,.ar false [])]:=by
   intro ad n cap l u q De hn hl I3 hq hb;simp only[Bool.and_eq_true,decide_eq_true_eq] at hb;obtain⟨⟨b1,b2⟩,b3⟩:=hb;have b1:=Nat.eq_of_beq_eq_true b1;have b2:=Nat.eq_of_beq_eq_true b2;subst b1 b2
   have hu2:∃y k,(some yh:Option Operand)=some y∧a.eval y=.int k (u:Int):=by
    rcases I3 with⟨e,_⟩|e
    ·cases e
    ·exact e
   obtain⟨k3,hm3⟩:∃k,a.eval m=.int k (u:Int):=by
    rcases hq with⟨e,_⟩|⟨y,k,e,q⟩
    ·cases e
    ·cases e;exact⟨k,q⟩
   have RD:=TE (P:=P) (w:=w) (len:=n) (cap:=cap) hl hu2 hm3 (Nat.le_refl _) (Nat.le_refl _) (by omega)
   have Cr:∃ad',(execOp a.eval o).run P w=.ok (.value (.slice ad' 0 0)) w:=by
    unfold execOp;rw[ho];cases ad with
    |none=>exact⟨none,by simp[Instr.sliceAt,Instr.slice,run_underlying hu,De,RD,Cv Pg] at RD ⊢⟩
    |some p=>exact⟨some p,by simp[Instr.sliceAt,Instr.slice,run_underlying hu,De,RD,Cv Pg] at RD ⊢⟩
   obtain⟨ad',Cr⟩:=Cr;refine⟨by simp,_,_,Cr,fun Aij=>⟨Cs β d none,?_⟩⟩
   have U7:s.hp d=none:=(Bn Aij).1 d _ (List.mem_singleton_self _);refine⟨rfl,rfl,rfl,Cc.refl _ _,fun j hj=>Ak _ _ (by rintro rfl;exact hj U7),?_,?_,?_,?_,?_,.inl ⟨An _ _ _,rfl,rfl,ad',rfl⟩,?_⟩
   ·intro j bx hm;simp at hm;rw[hm.2];trivial
   ·intro j bx hm;simp at hm;obtain⟨rfl,rfl⟩:=hm;exact .inl ⟨An _ _ _,rfl⟩
   ·intro j bx k q hm hq;simp at hm;obtain⟨rfl,rfl⟩:=hm;rw[An] at hq;cases hq
   ·intro j bx j' bx' k q q' hm J1 _ _;simp at hm J1;rw[hm.1,J1.1]
   ·intro j cells hm;simp at hm
   ·intro j hj;simp[Bx,Cf,As] at hj;subst hj;exact .inr ⟨.ar false [],by simp⟩
  split at hk
  ·rename_i id es off n e';rw[e'] at hx;obtain⟨Vf,hk⟩:=Al hk;obtain⟨l,hk,hl⟩:=D5 h hk;obtain⟨u,hk,I3⟩:=D5 h hk;obtain⟨q,hk,hq⟩:=D5 (x:=some m) h hk;obtain⟨hb,hk⟩:=Al hk;refine⟨_,_,hk,?_⟩;rcases hx with⟨hβ,_,rfl,ad,De⟩|⟨b,ob,y,cap,hβ,De,hy,hn,Wx,Cb⟩
   ·exact fin De (Nat.le_refl _) hl I3 hq hb
   ·exact fin De hn hl I3 hq hb
  ·obtain⟨z,n,c,hk,hp⟩:=Fk hk;obtain⟨l,hk,hl⟩:=D5 h hk;obtain⟨u,hk,I3⟩:=D5 h hk;obtain⟨q,hk,hq⟩:=D5 (x:=some m) h hk;obtain⟨hb,hk⟩:=Al hk;refine⟨_,_,hk,?_⟩;rcases Gh hp hx with⟨De,rfl,rfl⟩|⟨ad,cap,De,_,hn,_⟩|⟨ad,cap,De,_,rfl,rfl⟩
   ·exact fin De (Nat.le_refl _) hl I3 hq hb
   ·exact fin De hn hl I3 hq hb
   ·exact fin De (Nat.zero_le _) hl I3 hq hb
 ·cases hk
end
open Go.RowKit
section
variable {R:Type} {r:R} {P:Program} {N:Nat} {w0:World} {X0:H0} {Y:Nat->Prop} {β β':Bt} {s:St} {a:Act} {w w':World} {o:Oper} {A:Nat->Prop}
theorem Ai2 (h:Cw N w0 X0 Y β s a w){G:Xg}(Ko:RV P G w0 X0){C:G1}{call:Am}(Dz:∀f args res,call f args=some res->Dh G P f args res){K:PV->List Nat->List (Nat × Bs)->Option R}
  (hk:HT C P N call s.tm (rd s.hp) (Jp s.hp) o K=some r):∃v fz nw,K v fz nw=some r∧HJ P a w o Y β s v fz nw:=by
 have one:∀{K':PV->Option R},(∀v,K' v=some r->K v [] []=some r)->(∃v,K' v=some r∧Eg P a w o Y β s v [] [])->∃v fz nw,K v fz nw=some r∧HJ P a w o Y β s v fz nw:=
  fun hK ⟨v,h1,h2⟩=>⟨v,[],[],hK v h1,FD h2⟩
 have many:(∃v fz nw,K v fz nw=some r∧Eg P a w o Y β s v fz nw)->∃v fz nw,K v fz nw=some r∧HJ P a w o Y β s v fz nw:=
  fun ⟨v,fz,nw,h1,h2⟩=>⟨v,fz,nw,h1,FD h2⟩
 unfold HT at hk;split at hk
 ·rename_i x ho;exact one (fun _ h=>h) (Yl (K:=fun p=>K p [] []) h (Afg ho) hk)
 ·rename_i x ho;exact one (fun _ h=>h) (Yl (K:=fun p=>K p [] []) h (VN ho) hk)
 ·rename_i c x y ho;exact one (fun _ h=>h) (YZ (K:=fun p=>K p [] []) h ho hk)
 ·rename_i t ho;obtain⟨d,hd,hk⟩:=Ce hk;exact many (UB ho hk)
 ·rename_i t x ho;obtain⟨d,hd,hk⟩:=Ce hk;exact many (Adh h ho hk)
 ·rename_i t ps ho;exact one (fun _ h=>h) (TD (K:=fun p=>K p [] []) h ho hk)
 ·rename_i t n ps ho;obtain⟨d,hd,hk⟩:=Ce hk;exact many (Zx h ho hk)
 ·rename_i t x ho;exact one (fun _ h=>h) (Aat (K:=fun p=>K p [] []) h ho hk)
 ·rename_i x ho;exact one (fun _ h=>h) (GJ (K:=fun p=>K p [] []) h ho hk)
 ·rename_i op t x y ty ho;exact one (fun _ h=>h) (RL (K:=fun p=>K p [] []) h ho hk)
 ·rename_i op t x ho;exact one (fun _ h=>h) (ZG (K:=fun p=>K p [] []) h ho hk)
 ·rename_i src dst x ho;obtain⟨v,nw,hk,hg⟩:=Aal h ho hk;obtain⟨d,hd,hk⟩:=Ce hk;exact⟨v,[],nw,hk,FD hg⟩
 ·rename_i t x y ho;obtain⟨d,hd,hk⟩:=Ce hk;exact many (YQ h ho hk)
 ·rename_i t x lo hi mx ho;split at hk
  ·exact one (fun _ h=>h) (RN (K:=fun p=>K p [] []) h ho hk)
  ·obtain⟨d,hd,hk⟩:=Ce hk;obtain⟨v,nw,h1,h2⟩:=OV h ho hk;exact⟨v,[],nw,h1,FD h2⟩
 ·rename_i t x f ho;exact one (fun _ h=>h) (DV (K:=fun p=>K p [] []) h ho hk)
 ·rename_i t x f ho;exact one (fun _ h=>h) (VS (K:=fun p=>K p [] []) h ho hk)
 ·rename_i t x i ho;exact one (fun _ h=>h) (DQ (K:=fun p=>K p [] []) h ho hk)
 ·rename_i t x i ho;exact one (fun _ h=>h) (SE (K:=fun p=>K p [] []) h ho hk)
 ·rename_i t x k ok ho;exact one (fun _ h=>h) (PO (K:=fun p=>K p [] []) h ho hk)
 ·rename_i x i ho;exact one (fun _ h=>h) (JP (K:=fun p=>K p [] []) h ho hk)
 ·rename_i c ho;split at hk
  ·rename_i hc;exact one (fun _ h=>h) (Afd (K:=fun p=>K p [] []) h ho hc hk)
  ·rename_i hc;exact one (fun _ h=>h) (Agp (K:=fun p=>K p [] []) h ho hc hk)
  ·rename_i hc;exact one (fun _ h=>h) (Af1 (K:=fun p=>K p [] []) h ho hc hk)
  ·rename_i hc;exact one (fun _ h=>h) (Aer (K:=fun p=>K p [] []) h ho hc hk)
  ·rename_i hc;obtain⟨hnb,hk⟩:=Al hk;obtain⟨d,hd,Ea⟩:=Ce hk;obtain⟨b,xs,IY,Ep⟩:=Bb Ea;obtain⟨x,ys,hys,Lk⟩:=Bb Ep;obtain⟨BH,Uj⟩:=Dr Lk;obtain⟨t,us,hus,hk5⟩:=Bb Uj;obtain⟨tx,vs,Rz,hk6⟩:=Bb hk5;rw[hys,BH] at IY;rw[Rz] at hus;obtain⟨v,nw,h1,h2⟩:=PZ h ho hc hnb hd IY hus hk6;exact⟨v,[],nw,h1,FD h2⟩
  ·rename_i f hc;exact GM h Ko Dz (fun hf hb=>SH ho hc Ko.ng hf hb) hk
  ·rename_i t hc;obtain⟨f,hf0,Ea⟩:=Ao9 hk;have ht:a.eval (.tmp t)=.func (.func f) #[] #[]:=B8 h (x:=.tmp t) hf0;exact GM h Ko Dz (fun hf hb=>Aft ho hc ht Ko.ng hf hb) Ea
  ·cases hk
 ·cases hk
theorem Aaa (h:Cw N w0 X0 Y β s a w){G:Xg}(Ko:RV P G w0 X0){C:G1}{call:Am}(Dz:∀f args res,call f args=some res->Dh G P f args res){K:St->Option R}
  (hk:(HT C P N call s.tm (rd s.hp) (Jp s.hp) o fun v fz nw=>Z3 N s o.dst v fz nw K)=some r):
  ∃s',K s'=some r∧∀(next:Act->World->Prop) (Q:Exit->Act->World->Prop),(∀a' w' β',Cw N w0 X0 Y β' s' a' w'->next a' w')->o.wp P a w next Q:=by
 obtain⟨v,fz,nw,hk,AB,hg⟩:=Ai2 h Ko Dz hk;unfold Z3 at hk;obtain⟨hb,hk⟩:=Al hk;simp only[Bool.and_eq_true] at hb;refine⟨_,hk,fun next Q hn=>hg next Q fun val w' F8=>?_⟩
 obtain⟨β',st⟩:=F8 hb.2
 have Pc:Bw (Ag s.hp fz) nw=true:=by
  have:∀nw,Bw s.hp nw=true->Bw (Ag s.hp fz) nw=true:=by
   intro nw
   induction nw with
   |nil=>intro _;rfl
   |cons q nw ih=>
    obtain⟨i,b⟩:=q;intro hq;simp only[Bw,Bool.and_eq_true,Option.isNone_iff_eq_none] at hq ⊢;exact⟨⟨D7.2 hq.1.1,hq.1.2⟩,ih hq.2⟩
  exact this nw hb.2
 exact hn _ _ β' ((h.freeze AB).stepR hb.1 Pc st)
end
open Go.RowKit
section
variable {R:Type} {r:R} {P:Program} {N:Nat} {w0:World} {X0:H0} {Y:Nat->Prop} {β β':Bt} {s:St} {a:Act} {w w':World} {o:Oper} {A:Nat->Prop}
structure Dx (b:Nat) (w w':World):Prop where
 os:w'.os=w.os
 tape:w'.tape=w.tape
 output:w'.output=w.output
 size:w'.heap.size=w.heap.size
 other:∀k,k≠b->w'.heap[k]?=w.heap[k]?
 bs:bsz w' b=bsz w b
 frz:∀j,w'.frozen? ⟨b,j,none⟩=w.frozen? ⟨b,j,none⟩
theorem Dx.grow {b:Nat}(h:Dx b w w')(k:Nat):Hh w w' k:=by
 by_cases e:k=b
 ·subst e;refine⟨by rw[h.bs];exact Nat.le_refl _,fun q=>?_⟩
  unfold TY at q ⊢;rw[h.bs,h.frz];exact q
 ·exact Hh.same (h.other k e)
theorem Dx.refl (b:Nat)(w:World):Dx b w w:=⟨rfl,rfl,rfl,rfl,fun _ _=>rfl,rfl,fun _=>rfl⟩
theorem Dx.setCell (b j:Nat)(v:Value)(w:World):Dx b w (w.setCell ⟨b,j,none⟩ v):=by
 refine⟨rfl,rfl,rfl,by simp[World.setCell],fun k hk=>Below.heap_setCell w ⟨b,j,none⟩ v k hk,?_,fun i=>?_⟩
 ·simp only[bsz,World.setCell,Array.getElem?_modify];simp only[if_true];cases h:w.heap[b]? with
  |none=>simp
  |some x=>cases x<;>simp
 ·simp only[World.frozen?,World.setCell,Array.getElem?_modify,if_true];cases h:w.heap[b]? with
  |none=>simp
  |some x=>cases x<;>simp
theorem Dx.trans {b:Nat}{w'':World}(h:Dx b w w')(h':Dx b w' w''):Dx b w w'':=
 ⟨h'.os.trans h.os,h'.tape.trans h.tape,h'.output.trans h.output,h'.size.trans h.size,fun k hk=>(h'.other k hk).trans (h.other k hk),h'.bs.trans h.bs,fun j=>(h'.frz j).trans (h.frz j)⟩
theorem Dx.setCells (b:Nat):∀(vs:List Value)(j:Nat)(w:World),Dx b w (w.setCells b j vs)
 |[],_,w=>Dx.refl b w
 |v::vs,j,w=>(Dx.setCell b j v w).trans (Dx.setCells b vs (j+1) _)
theorem A2w {hp:Nat->Option Bs}{id:Nat}{bx bx':Bs}(h0:hp id=some bx)(hl:Dd (some bx)) (Ke:Dd (some bx')) (b:Nat):NZ (Cs hp id (some bx')) β b↔NZ hp β b:=by
 constructor
 ·rintro⟨i,o,h1,h2⟩
  by_cases e:i=id
  ·subst e;exact⟨i,o,by rw[h0];exact hl,h2⟩
  ·rw[Ak _ _ e] at h1;exact⟨i,o,h1,h2⟩
 ·rintro⟨i,o,h1,h2⟩
  by_cases e:i=id
  ·subst e;exact⟨i,o,by rw[An];exact Ke,h2⟩
  ·exact⟨i,o,by rw[Ak _ _ e];exact h1,h2⟩
theorem Cw.write (h:Cw N w0 X0 Y β s a w){id b ob:Nat}{bx bx':Bs}(h0:s.hp id=some bx)(hl:Dd (some bx)) (Ke:Dd (some bx')) (hβ:β id=some (b,ob)) (hw:Dx b w w')
  (Lj:Q4 w' (Db s.hp β Y) β id bx') (hr:∀cells,bx'=.st cells->∀c∈cells,∀i∈As c,s.hp i≠none)
  (hK:∀c',bx'=.st c'->∃c,bx=.st c)(hR:∀j,BR bx' ob j->BR bx ob j)(hO:∀j,¬BR bx ob j->w'.cell? ⟨b,j,none⟩=w.cell? ⟨b,j,none⟩):Cw N w0 X0 Y β ⟨s.tm,Cs s.hp id (some bx')⟩ a w':=by
 have hX:=A2w (β:=β) h0 hl Ke;have hA:∀k,Db (Cs s.hp id (some bx')) β Y k↔Db s.hp β Y k:=fun k=>⟨fun x=>x.imp (hX k).1 (fun y=>y),fun x=>x.imp (hX k).2 (fun y=>y)⟩
 have hAb:Db s.hp β Y b:=.inl ⟨id,ob,by rw[h0];exact hl,hβ⟩
 have F8:Cc (Db s.hp β Y) w w':=⟨by rw[hw.size];exact Nat.le_refl _,fun k _ hk=>hw.other k (fun e=>hk (e ▸ hAb)),fun k _=>hw.grow k⟩
 have N7:∀i,Cs s.hp id (some bx') i≠none↔s.hp i≠none:=by
  intro i;by_cases e:i=id
  ·subst e;rw[An,h0];simp
  ·rw[Ak _ _ e]
 have hAe:Db (Cs s.hp id (some bx')) β Y=Db s.hp β Y:=funext fun k=>propext (hA k)
 have Xu:∀i,Dd (Cs s.hp id (some bx') i)->Dd (s.hp i):=by
  intro i hi;by_cases e:i=id
  ·subst e;rw[h0];exact hl
  ·rw[Ak _ _ e] at hi;exact hi
 refine⟨h.dfr,h.tsz,h.tmo,fun i hi=>?_,fun i bi hb=>?_,fun i i' k x y h1 h2=>h.inj i i' k x y (Xu i h1) (Xu i' h2),fun i k x hi hk=>?_,fun i hi j hj=>(N7 j).2 (h.wfT i hi j hj),
  fun i cells hc c TV j hj=>(N7 j).2 ?_,fun k hk=>h.ownd k ((hX k).1 hk),fun i bi k x DF hli hk Cb j hj=>?_,fun i hi=>⟨(N7 _).2 (h.pin i hi).1,(h.pin i hi).2⟩,fun i c k x hc hk Cb=>?_,fun k hk x=>h.Yx k hk ((hX k).1 x),h.Ylt,?_⟩
 ·rw[hAe];exact (h.tms i hi).step F8 (fun _ _ x=>x) (fun _ _=>rfl)
 ·rw[hAe];simp only at hb;by_cases e:i=id
  ·subst e;rw[An] at hb;cases hb;exact Lj
  ·rw[Ak _ _ e] at hb;have DF:=h.box i bi hb;cases bi with
   |st c=>
    obtain⟨k,x,h1,h2,h3⟩:=DF
    have hk:k≠b:=by
     rintro rfl
     exact e (h.inj i id k x ob (by rw[hb];trivial) (by rw[h0];exact hl) h1 hβ)
    refine⟨k,x,h1,fun j c hj=>?_,fun j hj=>?_⟩
    ·obtain⟨v,hv,hc⟩:=h2 j c hj;exact⟨v,by rw[World.cell?_of_block (w:=w) (hw.other k hk)];exact hv,hc.step F8 (fun _ _ x=>x) (fun _ _=>rfl)⟩
    ·rw[World.frozen?_of_block (w:=w) (hw.other k hk)];exact h3 j hj
   |ar fz c=>
    rcases DF with hn|⟨k,x,h1,h2,h3,h4⟩
    ·exact .inl hn
    ·have hk:k≠b:=by
      rintro rfl
      cases fz with
      |true=>exact h4 rfl hAb
      |false=>exact e (h.inj i id k x ob (by rw[hb];trivial) (by rw[h0];exact hl) h1 hβ)
     refine .inr ⟨k,x,h1,fun j c hj=>?_,fun ef j hj Sd=>?_,h4⟩
     ·obtain⟨v,hv,h5,hc⟩:=h2 j c hj;exact⟨v,by rw[World.cell?_of_block (w:=w) (by rw[E1];exact hw.other k hk)];exact hv,h5,hc.step F8 (fun _ _ x=>x)⟩
     ·rw[World.frozen?_of_block (w:=w) (hw.other k hk)];refine h3 ef j hj ?_;unfold bsz at Sd ⊢;rw[hw.other k hk] at Sd;exact Sd
   |mv=>trivial
 ·rw[hw.size];exact h.blt i k x ((N7 i).1 hi) hk
 ·simp only at hc;by_cases e:i=id
  ·subst e;rw[An] at hc;injection hc with hc;exact hr cells hc c TV j hj
  ·rw[Ak _ _ e] at hc;exact h.wfB i cells hc c TV j hj
 ·simp only at DF;by_cases e:i=id
  ·subst e;rw[An] at DF;cases DF;rw[hβ] at hk;cases hk;exact h.rngB i bx b ob h0 hl hβ Cb j (hR j hj)
  ·rw[Ak _ _ e] at DF;exact h.rngB i bi k x DF hli hk Cb j hj
 ·simp only at hc;by_cases e:i=id
  ·subst e;rw[An] at hc;injection hc with hc;obtain⟨c0,rfl⟩:=hK c hc;exact h.stp i c0 k x h0 hk Cb
  ·rw[Ak _ _ e] at hc;exact h.stp i c k x hc hk Cb
 ·refine⟨hw.os.trans h.fr.os,hw.tape.trans h.fr.tape,hw.output.trans h.fr.output,?_,fun k j hk hL=>?_⟩
  ·refine⟨by rw[hw.size];exact h.fr.step.size,fun k hk hnk=>?_,fun k hk=>(h.fr.step.bs k hk).trans (F8.bs k (Nat.lt_of_lt_of_le hk h.fr.step.size))⟩
   rw[hw.other k ?_]
   ·exact h.fr.step.keep k hk hnk
   ·rintro rfl
    rcases h.ownd k ⟨id,ob,by rw[h0];exact hl,hβ⟩ with hx|hx
    ·exact hnk hx
    ·omega
  ·by_cases e:k=b
   ·subst e;rw[hO j (fun hj=>hL (h.rngB id bx k ob h0 hl hβ hk j hj)),hw.frz]
    exact h.fr.rng k j hk hL
   ·have hc:w'.cell? ⟨k,j,none⟩=w.cell? ⟨k,j,none⟩:=World.cell?_of_block (w:=w) (hw.other k e);have hf:w'.frozen? ⟨k,j,none⟩=w.frozen? ⟨k,j,none⟩:=World.frozen?_of_block (w:=w) (hw.other k e);rw[hc,hf];exact h.fr.rng k j hk hL
theorem Qv {c cs:List PV}{off j:Nat}{p:PV}(CJ:off+cs.length<=c.length)(h:(Ca c cs off)[j]?=some p):
  (off<=j∧j<off+cs.length∧cs[j-off]?=some p)∨((j<off∨off+cs.length<=j)∧c[j]?=some p):=by
 unfold Ca at h;by_cases h1:j<off
 ·rw[List.append_assoc,List.getElem?_append_left (by simp;omega),List.getElem?_take_of_lt h1] at h
  exact .inr ⟨.inl h1,h⟩
 ·by_cases h2:j<off+cs.length
  ·rw[List.getElem?_append_left (by simp;omega),List.getElem?_append_right (by simp;omega)] at h
   simp only[List.length_take,Nat.min_eq_left (by omega:off<=c.length)] at h
   exact .inl ⟨by omega,h2,h⟩
  ·rw[List.getElem?_append_right (by simp;omega)] at h
   simp only[List.length_append,List.length_take,Nat.min_eq_left (by omega:off<=c.length),List.getElem?_drop] at h
   rw[show off+cs.length+(j-(off+cs.length))=j from by omega] at h
   exact .inr ⟨.inr (by omega),h⟩
theorem Re {c cs:List PV}{off:Nat}(CJ:off+cs.length<=c.length):(Ca c cs off).length=c.length:=by
 simp[Ca];omega
theorem CS {t:TypeId}{b j:Nat}{v:Value}(My:(P.info? t).map (·.size)=some v.cells.size) (hc:∀i,i<v.cells.toList.length->(w.cell? ⟨b,j+i,none⟩).isSome=true)
  (hf:∀i,i<v.cells.toList.length->w.frozen? ⟨b,j+i,none⟩=false)(h1:∀u∈v.cells.toList,u.oneCell'=true):(Instr.storeAt t (.pointer (some ⟨b,j,none⟩)) v).run P w=.ok () (w.setCells b j v.cells.toList):=by
 have:=run_storeCells_cells (P:=P) b j v.cells.toList 0 w (fun i hi=>by simpa using hc i hi) (fun i hi=>by simpa using hf i hi) h1
 simp only[Instr.storeAt,Instr.sureAddr,storeVar,Sem.run_bind,Sem.run_pure,Result.andThen_ok,J5 My]
 simpa using this
theorem VR (h:Cw N w0 X0 Y β s a w){t:TypeId}{x y:Operand}(ho:o.op=.store t x y)(hd:o.dst=none){K:St->Option R}(hk:AR P s t (B3 s.tm x) (B3 s.tm y) K=some r):
  ∃s',K s'=some r∧∀(next:Act->World->Prop) (Q:Exit->Act->World->Prop),(∀a' w' β',Cw N w0 X0 Y β' s' a' w'->next a' w')->o.wp P a w next Q:=by
 have hx:=C4 h x;have IR:=E9 h x
 have run:∀{b j:Nat},a.eval x=.pointer (some ⟨b,j,none⟩)->(Instr.storeAt t (.pointer (some ⟨b,j,none⟩)) (a.eval y)).run P w=.ok () (w.setCells b j (a.eval y).cells.toList) ->
   ∀(next:Act->World->Prop) (Q:Exit->Act->World->Prop),next a (w.setCells b j (a.eval y).cells.toList)->o.wp P a w next Q:=by
  intro b j De hr next Q hn;unfold Oper.wp execOp;rw[ho];simp only[Sem.run_bind,De,hr,Result.andThen_ok,Sem.run_pure];show next (a.put o.dst undef) _;rw[hd];exact hn
 unfold AR at hk;split at hk
 ·rename_i id off e;rw[e] at hx IR;obtain⟨b,ob,hβ,De⟩:=hx;split at hk
  ·rename_i c h0;obtain⟨hb,hk⟩:=Al hk;simp only[Bool.and_eq_true,decide_eq_true_eq] at hb;obtain⟨⟨hok,hl⟩,CJ⟩:=hb;have hl:=Nat.eq_of_beq_eq_true hl;obtain⟨cs,hk,I7,h2,h1,hr,_⟩:=Acu (C4 h y) hl hk;obtain⟨_,At4,My⟩:=Qg hok;have hvl:=h2.len;obtain⟨b',o',E7,H8,Wg⟩:=h.box id _ h0;rw[hβ] at E7;simp at E7;obtain⟨rfl,rfl⟩:=E7
   have C3:∀i,i<(a.eval y).cells.toList.length->(w.cell? ⟨b,ob+off+i,none⟩).isSome=true:=by
    intro i hi;obtain⟨v,hv,_⟩:=H8 (off+i) _ (List.getElem?_eq_getElem (by omega))
    rw[Nat.add_assoc,hv];rfl
   have Cr:=CS (P:=P) (t:=t) (w:=w) (b:=b) (j:=ob+off) (v:=a.eval y) (by rw[My,←At4,←I7,hvl];simp) C3 (fun i hi=>by rw[Nat.add_assoc];exact Wg _ (by omega)) h1
   refine⟨_,hk,fun next Q hn=>run De Cr next Q (hn _ _ β ?_)⟩
   refine h.write h0 trivial trivial hβ (Dx.setCells b _ _ w) ?_ ?_ (fun _ _=>⟨_,rfl⟩) (fun j hj=>by
    have hj:ob<=j∧j<ob+(Ca c cs off).length:=hj;rw[Re (by omega)] at hj
    exact hj) (fun j hj=>by
    refine World.cell?_setCells_out b _ _ w ⟨b,j,none⟩ (fun _ _=>?_)
    have hj:¬(ob<=j∧j<ob+c.length):=hj;show j<ob+off∨ob+off+_<=j;omega)
   ·have F8:Cc (Db s.hp β Y) w (w.setCells b (ob+off) (a.eval y).cells.toList):=by
     have hw:=Dx.setCells b (a.eval y).cells.toList (ob+off) w;have hAb:Db s.hp β Y b:=.inl ⟨id,ob,by rw[h0];trivial,hβ⟩
     exact⟨by rw[hw.size];exact Nat.le_refl _,fun k _ hk=>hw.other k (fun e=>hk (e ▸ hAb)),fun k _=>hw.grow k⟩
    refine⟨b,ob,hβ,fun j p hj=>?_,fun j hj=>?_⟩
    ·rcases Qv (by omega) hj with⟨h3,h4,h5⟩|⟨h3,h5⟩
     ·obtain⟨u,hu,hcu⟩:=h2.get h5;have Cb:j-off<(a.eval y).cells.toList.length:=by omega
      refine⟨u,?_,hcu.step F8 (fun _ _ x=>x) (fun _ _=>rfl)⟩
      have:=World.cell?_setCells_in b (a.eval y).cells.toList (ob+off) w C3 (j-off) Cb;rw[show ob+j=ob+off+(j-off) from by omega,this]
      rw[List.getElem?_eq_getElem Cb] at hu;exact hu
     ·obtain⟨v,hv,CZ⟩:=H8 j p h5;refine⟨v,?_,CZ.step F8 (fun _ _ x=>x) (fun _ _=>rfl)⟩
      rw[World.cell?_setCells_out b _ _ w ⟨b,ob+j,none⟩ (fun _ _=>by show ob+j<ob+off∨ob+off+_<=ob+j;omega)]
      exact hv
    ·rw[Re (by omega)] at hj
     rw[(Dx.setCells b _ _ w).frz];exact Wg j hj
   ·intro cells hx c' Q6 i hi;injection hx with hx;subst hx;unfold Ca at Q6;rcases List.mem_append.1 Q6 with Q6|Q6
    ·rcases List.mem_append.1 Q6 with Q6|Q6
     ·exact h.wfB id c h0 c' (List.mem_of_mem_take Q6) i hi
     ·exact E9 h y i (hr c' Q6 i hi)
    ·exact h.wfB id c h0 c' (List.mem_of_mem_drop Q6) i hi
  ·rename_i c h0;obtain⟨hb,hk⟩:=Al hk;simp only[Bool.and_eq_true,decide_eq_true_eq] at hb;obtain⟨hok,CJ⟩:=hb;obtain⟨cs,m,hk,I7,Qu,hT,hF,hm,hv⟩:=Qn h hk;obtain⟨JI,hk⟩:=Al hk
   have JI:id ∉ m:=by
    intro hi;have:m.any (Nat.beq id)=true:=List.any_eq_true.2 ⟨id,hi,Nat.beq_refl id⟩;rw[this] at JI;cases JI
   obtain⟨_,At4,My⟩:=Qg hok
   have Anl:Bh (B2 w (Db s.hp β Y) β) (cellsOf (B3 s.tm y)) (a.eval y).cells.toList:=by
    have hyv:=C4 h y;cases hp:B3 s.tm y with
    |agg ps=>
     rw[hp] at hyv;obtain⟨vs,hay,h2⟩:=hyv;rw[hay];exact h2
    |sc v=>
     rw[hp] at hyv hF
     have Ajg:(a.eval y).oneCell'=true:=by
      have:=hv m (fun _ hi=>hi) hm [a.eval y] (by rw[hp];exact⟨hyv,trivial⟩)
      exact this.2 _ (by simp)
     rw[M0 Ajg];exact⟨hyv,trivial⟩
    |lst z es n cc=>
     rw[hp] at hyv hF
     have Ajg:(a.eval y).oneCell'=true:=by
      have:=hv m (fun _ hi=>hi) hm [a.eval y] (by rw[hp];exact⟨hyv,trivial⟩)
      exact this.2 _ (by simp)
     rw[M0 Ajg];exact⟨hyv,trivial⟩
    |view i es oo n=>
     rw[hp] at hyv hF
     have Ajg:(a.eval y).oneCell'=true:=by
      have:=hv m (fun _ hi=>hi) hm [a.eval y] (by rw[hp];exact⟨hyv,trivial⟩)
      exact this.2 _ (by simp)
     rw[M0 Ajg];exact⟨hyv,trivial⟩
    |own es n cc=>
     have hx0:=hF (B3 s.tm y) (by rw[hp];exact List.mem_singleton_self _)
     rw[hp] at hx0;exact hx0.elim
    |ptr i cc=>
     have hx0:=hF (B3 s.tm y) (by rw[hp];exact List.mem_singleton_self _)
     rw[hp] at hx0;exact hx0.elim
    |iptr i cc=>
     have hx0:=hF (B3 s.tm y) (by rw[hp];exact List.mem_singleton_self _)
     rw[hp] at hx0;exact hx0.elim
    |pbox cc=>
     have hx0:=hF (B3 s.tm y) (by rw[hp];exact List.mem_singleton_self _)
     rw[hp] at hx0;exact hx0.elim
    |tup cc=>
     have hx0:=hF (B3 s.tm y) (by rw[hp];exact List.mem_singleton_self _)
     rw[hp] at hx0;exact hx0.elim
    |ub=>
     have hx0:=hF (B3 s.tm y) (by rw[hp];exact List.mem_singleton_self _)
     rw[hp] at hx0;exact hx0.elim
    |top=>
     have hx0:=hF (B3 s.tm y) (by rw[hp];exact List.mem_singleton_self _)
     rw[hp] at hx0;exact hx0.elim
   obtain⟨h2,h1⟩:=hv m (fun _ hi=>hi) hm _ Anl
   have hvl:=h2.len;have hf:=h.freeze hm;have h0':Ag s.hp m id=some (.ar false c):=by rw[B0,if_neg JI];exact h0
   rcases hf.box id _ h0' with⟨hn,_⟩|⟨b',o',E7,H8,Wg,_⟩
   ·rw[hβ] at hn;cases hn
   rw[hβ] at E7;simp at E7;obtain⟨rfl,rfl⟩:=E7
   have C3:∀i,i<(a.eval y).cells.toList.length->(w.cell? ⟨b,ob+off+i,none⟩).isSome=true:=by
    intro i hi;obtain⟨v,hv,_⟩:=H8 (off+i) _ (List.getElem?_eq_getElem (by omega))
    rw[Er] at hv;rw[Nat.add_assoc,hv];rfl
   have Cr:=CS (P:=P) (t:=t) (w:=w) (b:=b) (j:=ob+off) (v:=a.eval y) (by rw[My,←At4,←I7,hvl];simp) C3 (fun i hi=>by
    obtain⟨u,hu⟩:=Option.isSome_iff_exists.1 (C3 i hi);exact Wg rfl _ (by omega) (GG hu)) h1
   refine⟨_,hk,fun next Q hn=>run De Cr next Q (hn _ _ β ?_)⟩
   refine hf.write h0' trivial trivial hβ (Dx.setCells b _ _ w) ?_ (fun cells hx=>by cases hx) (fun _ hx=>by cases hx) (fun j hj=>hj) (fun j hj=>by
    refine World.cell?_setCells_out b _ _ w ⟨b,j,none⟩ (fun _ _=>?_)
    have hj:¬(ob<=j):=hj;show j<ob+off∨ob+off+_<=j;omega)
   have F8:Cc (Db (Ag s.hp m) β Y) w (w.setCells b (ob+off) (a.eval y).cells.toList):=by
    have hw:=Dx.setCells b (a.eval y).cells.toList (ob+off) w;have hAb:Db (Ag s.hp m) β Y b:=.inl ⟨id,ob,by rw[h0'];trivial,hβ⟩
    exact⟨by rw[hw.size];exact Nat.le_refl _,fun k _ hk=>hw.other k (fun e=>hk (e ▸ hAb)),fun k _=>hw.grow k⟩
   refine .inr ⟨b,ob,hβ,fun j p hj=>?_,fun _ j hj Sd=>?_,(fun x=>by cases x)⟩
   ·rw[Er];rcases Qv (by omega) hj with⟨h3,h4,h5⟩|⟨h3,h5⟩
    ·obtain⟨u,hu,hcu⟩:=h2.get h5;have Cb:j-off<(a.eval y).cells.toList.length:=by omega
     refine⟨u,?_,h1 u (List.mem_of_getElem? hu),hcu.step F8 (fun _ _ x=>x)⟩
     have:=World.cell?_setCells_in b (a.eval y).cells.toList (ob+off) w C3 (j-off) Cb;rw[show ob+j=ob+off+(j-off) from by omega,this]
     rw[List.getElem?_eq_getElem Cb] at hu;exact hu
    ·obtain⟨v,hv,h6,CZ⟩:=H8 j p h5;rw[Er] at hv;refine⟨v,?_,h6,CZ.step F8 (fun _ _ x=>x)⟩
     rw[World.cell?_setCells_out b _ _ w ⟨b,ob+j,none⟩ (fun _ _=>by show ob+j<ob+off∨ob+off+_<=ob+j;omega)]
     exact hv
   ·rw[(Dx.setCells b _ _ w).bs] at Sd;rw[(Dx.setCells b _ _ w).frz];exact Wg rfl j hj Sd
  ·cases hk
 ·cases hk
end
open Go.RowKit
theorem Ii:∀{l l':List Nat},D9 (l++l')=true->D9 l=true∧D9 l'=true∧∀i∈l,i ∉ l'
 |[],l',h=>⟨rfl,h,by simp⟩
 |a::l,l',h=>by
  simp only[List.cons_append,D9,Bool.and_eq_true,Bool.not_eq_true'] at h;obtain⟨h1,h2⟩:=h;obtain⟨h3,h4,h5⟩:=Ii h2
  have hn:∀i∈l++l',a≠i:=by
   rintro i hi rfl
   have:(l++l').any (Nat.beq a)=true:=List.any_eq_true.2 ⟨a,hi,Nat.beq_refl a⟩;rw[this] at h1;cases h1
  refine⟨?_,h4,fun i hi=>?_⟩
  ·simp only[D9,Bool.and_eq_true,Bool.not_eq_true',h3,and_true];rw[List.any_eq_false];intro i hi e;exact hn i (by simp[hi]) (Nat.eq_of_beq_eq_true e)
  ·rcases List.mem_cons.1 hi with rfl|hi
   ·exact fun hm=>hn i (by simp[hm]) rfl
   ·exact h5 i hi
def Gu (β:Bt)(q:Nat × Nat):Option (Nat × Nat):=(β q.1).map fun p=>(p.1,p.2+q.2)
theorem YN (β:Bt)(id:Nat):Gu β (id,0)=β id:=by
 unfold Gu;cases β id<;>rfl
section
variable {R:Type} {r:R} {P:Program} {N:Nat} {w0:World} {X0:H0} {Y:Nat->Prop} {β β':Bt} {s:St} {a:Act} {w w':World} {o:Oper} {A:Nat->Prop}
theorem M4 {fz:List Nat}{b:Nat}(h:Db (Ag s.hp fz) β Y b):Db s.hp β Y b:=h.imp Pt id
theorem Aib (h:Cw N w0 X0 Y β s a w){mv:Bool}{t:CT}{p:PV}{K:PV->List Nat->List Nat->Option R}(hk:Aeu mv s.hp t p K=some r):
  ∃c m q,K c m (Option.toList q)=some r∧isA c∧JM p∧(∀id∈m,∃f cc,s.hp id=some (.ar f cc))∧(∀id,q=some id->∃cc,s.hp id=some (.ar false cc)) ∧
   ∀fz:List Nat,(∀id∈m,id∈fz)->(∀id∈fz,∃f cc,s.hp id=some (.ar f cc))->∀v,B2 w (Db s.hp β Y) β p v->Gd w (Db (Ag s.hp fz) β Y) (q.bind β) c v:=by
 have frz:∀{t:CT} {p:PV} {K:PV->List Nat->List Nat->Option R},(Oc (Jp s.hp) t p fun c m=>K c m [])=some r->∃c m q,K c m (Option.toList q)=some r∧isA c∧JM p∧(∀id∈m,∃f cc,s.hp id=some (.ar f cc))∧(∀id,q=some id->∃cc,s.hp id=some (.ar false cc)) ∧
   ∀fz:List Nat,(∀id∈m,id∈fz)->(∀id∈fz,∃f cc,s.hp id=some (.ar f cc))->∀v,B2 w (Db s.hp β Y) β p v->Gd w (Db (Ag s.hp fz) β Y) (q.bind β) c v:=by
  intro t p K hk;obtain⟨c,m,hk,hT,hF,hm,hv⟩:=IH h hk;exact⟨c,m,none,hk,.inl hT,hF,hm,by simp,fun fz h1 h2 v hc=>Kh hT (hv fz h1 h2 v hc).1⟩
 have tree:∀{t:CT} {p:PV} {K:PV->List Nat->List Nat->Option R},(∀es,t ≠ .sl es)->(BG t p fun c=>K c [] [])=some r->∃c m q,K c m (Option.toList q)=some r∧isA c∧JM p∧(∀id∈m,∃f cc,s.hp id=some (.ar f cc))∧(∀id,q=some id->∃cc,s.hp id=some (.ar false cc)) ∧
   ∀fz:List Nat,(∀id∈m,id∈fz)->(∀id∈fz,∃f cc,s.hp id=some (.ar f cc))->∀v,B2 w (Db s.hp β Y) β p v->Gd w (Db (Ag s.hp fz) β Y) (q.bind β) c v:=by
  intro t p K E2 hk;obtain⟨c,hk,hT,GL,hv⟩:=Mp hk;exact⟨c,[],none,hk,.inl hT,Rl GL,by simp,by simp,fun fz h1 h2 v hc=>Kh hT ((hv w _ β v hc).1.step (Cc.refl _ _) (fun b _ hb=>M4 hb))⟩
 unfold Aeu at hk;cases t with
 |sl es=>
  dsimp only at hk;cases mv<;>simp only[cond_true,cond_false] at hk
  ·exact frz hk
  ·split at hk
   ·rename_i id es' off n;split at hk
    ·rename_i c h0;cases hb:(Nat.beq es' es&&Nat.beq off 0)<;>rw[hb] at hk<;>simp only[cond_true,cond_false] at hk
     ·exact frz hk
     ·simp only[Bool.and_eq_true] at hb;have he:=Nat.eq_of_beq_eq_true hb.1;have hof:=Nat.eq_of_beq_eq_true hb.2;subst he hof;obtain⟨hl,hk⟩:=Al hk;refine⟨_,[],some id,hk,.inr ⟨_,_,_,rfl⟩,trivial,by simp,fun i hi=>by cases hi;exact⟨c,h0⟩,fun fz h1 h2 v hc=>?_⟩
      rcases hc with⟨h3,_,rfl,h4⟩|⟨b,ob,x,cap,h3,h4,hx,h5,h6,h7⟩
      ·exact .inl ⟨h3,rfl,by simp,h4⟩
      ·have hx:x=ob:=by rcases hx with e|⟨_,e⟩<;>omega
       subst hx;rcases h.box id _ h0 with⟨h8,_⟩|⟨b',o',h8,h9,h10,_⟩
       ·rw[h3] at h8;cases h8
       ·rw[h3] at h8;cases h8;refine .inr ⟨b,x,cap,h3,h4,h5,h6,h7,fun j p hj=>?_,h10 rfl⟩
        rw[List.getElem?_take] at hj;split at hj
        ·obtain⟨u,hu,h11,ht⟩:=h9 j p hj;exact⟨u,hu,h11,ht.step (Cc.refl _ _) (fun b _ hb=>M4 hb)⟩
        ·cases hj
    ·exact frz hk
   ·obtain⟨z,n,c,hk,hp⟩:=Fk hk;have hpF:JM p:=by rcases hp with e|⟨e,_⟩<;>(rw[e];trivial)
    cases z<;>simp only[cond_true,cond_false] at hk
    ·refine⟨_,[],none,hk,.inl trivial,hpF,by simp,by simp,fun fz h1 h2 v hc=>?_⟩
     exact Kh trivial ((Wz hp hc).step (Cc.refl _ _) (fun b _ hb=>M4 hb))
    ·refine⟨_,[],none,hk,.inr ⟨_,_,_,rfl⟩,hpF,by simp,by simp,fun fz h1 h2 v hc=>.inl ⟨rfl,rfl,rfl,none,?_⟩⟩
     have:=Wz hp hc;cases this;rfl
 |int k=>exact tree (by simp) hk
 |bool=>exact tree (by simp) hk
 |str=>exact tree (by simp) hk
 |any=>exact tree (by simp) hk
theorem T9 (h:Cw N w0 X0 Y β s a w){mv:Bool}:∀{ts:List CT}{ps:List PV}{K:List PV->List Nat->List Nat->Option R},CC mv s.hp ts ps K=some r ->
  ∃cs m x,∃q:Nat->Option Nat,K cs m x=some r∧cs.length=ts.length∧ps.length=ts.length∧(∀c∈cs,isA c)∧(∀p∈ps,JM p)∧(∀id∈m,∃f cc,s.hp id=some (.ar f cc))∧(∀id∈x,∃cc,s.hp id=some (.ar false cc)) ∧
   (∀j id,q j=some id->id∈x)∧(D9 x=true->∀j j' id,q j=some id->q j'=some id->j=j') ∧
   ∀fz:List Nat,(∀id∈m,id∈fz)->(∀id∈fz,∃f cc,s.hp id=some (.ar f cc))->∀vs,Bh (B2 w (Db s.hp β Y) β) ps vs->∀(own:Bt) j0,(∀j,own (j0+j)=(q j).bind β)->Ex w (Db (Ag s.hp fz) β Y) own j0 cs vs
 |[],[],K,hk=>⟨[],[],[],fun _=>none,hk,rfl,rfl,by simp,by simp,by simp,by simp,by simp,by simp,fun fz _ _ vs hv own j0 _=>by
   cases vs with
   |nil=>trivial
   |cons v vs=>exact hv.elim⟩
 |[],_::_,K,hk=>by cases hk
 |_::_,[],K,hk=>by cases hk
 |t::ts,p::ps,K,hk=>by
  unfold CC at hk;obtain⟨c,m,q,hk,hA,hF,hm,hq,hv⟩:=Aib h hk;obtain⟨cs,ms,xs,qs,hk,hl,Ke,hAs,hFs,GP,IY,hqx,hqi,Rz⟩:=T9 h hk;refine⟨c::cs,m++ms,q.toList++xs,fun j=>match j with|0=>q|j+1=>qs j,hk,by simp[hl],by simp[Ke],?_,?_,?_,?_,?_,?_,?_⟩
  ·intro x hx;rcases List.mem_cons.1 hx with rfl|hx
   ·exact hA
   ·exact hAs x hx
  ·intro x hx;rcases List.mem_cons.1 hx with rfl|hx
   ·exact hF
   ·exact hFs x hx
  ·intro i hi;rcases List.mem_append.1 hi with hi|hi
   ·exact hm i hi
   ·exact GP i hi
  ·intro i hi;rcases List.mem_append.1 hi with hi|hi
   ·exact hq i (by simpa using hi)
   ·exact IY i hi
  ·intro j id hj;cases j with
   |zero=>exact List.mem_append.2 (.inl (by simpa using hj))
   |succ j=>exact List.mem_append.2 (.inr (hqx j id hj))
  ·intro hn j j' id hj Sd;obtain⟨_,h2,h3⟩:=Ii hn;cases j with
   |zero=>
    cases j' with
    |zero=>rfl
    |succ j'=>exact absurd (hqx j' id Sd) (h3 id (by simpa using hj))
   |succ j=>
    cases j' with
    |zero=>exact absurd (hqx j id hj) (h3 id (by simpa using Sd))
    |succ j'=>rw[hqi h2 j j' id hj Sd]
  ·intro fz h1 h2 vs h3 own j0 Ga;cases vs with
   |nil=>exact h3.elim
   |cons v vs=>
    refine⟨?_,Rz fz (fun i hi=>h1 i (by simp[hi])) h2 vs h3.2 own (j0+1) fun j=>?_⟩
    ·have:=Ga 0;rw[Nat.add_zero] at this;rw[this];exact hv fz (fun i hi=>h1 i (by simp[hi])) h2 v h3.1
    ·have:=Ga (j+1);rw[show j0+1+j=j0+(j+1) by omega]
     exact this
def LOk (hp:Nat->Option Bs)(q:Option (Nat × Nat)) (p:PV)(x:Gm):Prop:=
 match x with
 |.var id off cts ws=>p=.pbox ws∧q=some (id,off)∧cts.length=ws.length∧∃c,hp id=some (.st c)∧off+ws.length<=c.length
 |.row id=>(∃ps,p=.tup ps)∧q=some (id,0)∧∃c,hp id=some (.ar false c)
 |.none=>(∃ps,p=.tup ps)∧q=none
theorem Abl {hp:Nat->Option Bs}{q:Option (Nat × Nat)} {p:PV}{x:Gm}(h:LOk hp q p x):Zp p=true:=by
 cases x with
 |var id off cts ws=>rw[h.1];rfl
 |row id=>obtain⟨⟨_,e⟩,_⟩:=h;rw[e];rfl
 |none=>obtain⟨⟨_,e⟩,_⟩:=h;rw[e];rfl
def Pd (hp:Nat->Option Bs)(src:Nat->Nat->Option (Nat × Nat)):Nat->List PV->List Gm->Prop
 |_,[],l=>l=[]
 |i,p::ps,l=>(Zp p=false∧src i 0=none∧Pd hp src (i+1) ps l)∨∃x l',l=x::l'∧LOk hp (src i 0) p x∧Pd hp src (i+1) ps l'
theorem YC (h:Cw N w0 X0 Y β s a w){C:G1}{f:FuncId}{i:Nat}{t:TypeId}{x:Operand}{K:PV->List Nat->List Nat->List Gm->Option R}(hk:AQ C P f s.hp i t (B3 s.tm x) K=some r):
  ∃v m y l,∃src:Nat->Option (Nat × Nat),K v m y l=some r∧(∀id∈m,∃f cc,s.hp id=some (.ar f cc))∧(∀id∈y,∃cc,s.hp id=some (.ar false cc)) ∧
   (∀j id off,src (j+1)=some (id,off)->off=0∧id∈y)∧(D9 y=true->∀j j' id off off',src (j+1)=some (id,off)->src (j'+1)=some (id,off')->j=j') ∧
   ((l=[]∧Zp v=false∧src 0=none)∨∃x',l=[x']∧LOk s.hp (src 0) v x') ∧
   ∀fz:List Nat,(∀id∈m,id∈fz)->(∀id∈fz,∃f cc,s.hp id=some (.ar f cc))->∀bt:Bt,(∀j,bt j=(src j).bind (Gu β))->SX w (Db (Ag s.hp fz) β Y) bt v (a.eval x):=by
 have hx:=C4 h x
 have Xn:∀(q0:Option (Nat × Nat)) (q:Nat->Option Nat),∃src:Nat->Option (Nat × Nat),src 0=q0∧(∀j,src (j+1)=(q j).map fun id=>(id,0)):=
  fun q0 q=>⟨fun j=>match j with|0=>q0|j+1=>(q j).map fun id=>(id,0),rfl,fun _=>rfl⟩
 have SD:∀{src:Nat->Option (Nat × Nat)} {q:Nat->Option Nat} {y:List Nat},(∀j,src (j+1)=(q j).map fun id=>(id,0))->(∀j id,q j=some id->id∈y)->∀j id off,src (j+1)=some (id,off)->off=0∧id∈y:=by
  intro src q y h1 h2 j id off hj;rw[h1] at hj;cases hq:q j with
  |none=>rw[hq] at hj;cases hj
  |some k=>rw[hq] at hj;cases hj;exact⟨rfl,h2 j _ hq⟩
 have WD:∀{src:Nat->Option (Nat × Nat)} {q:Nat->Option Nat} {y:List Nat},(∀j,src (j+1)=(q j).map fun id=>(id,0))->(D9 y=true->∀j j' id,q j=some id->q j'=some id->j=j') ->
   D9 y=true->∀j j' id off off',src (j+1)=some (id,off)->src (j'+1)=some (id,off')->j=j':=by
  intro src q y h1 h2 hn j j' id off off' hj Sd;rw[h1] at hj Sd;cases hq:q j with
  |none=>rw[hq] at hj;cases hj
  |some k=>
   cases Ft:q j' with
   |none=>rw[Ft] at Sd;cases Sd
   |some k'=>
    rw[hq] at hj;rw[Ft] at Sd;cases hj;cases Sd;exact h2 hn j j' _ hq Ft
 have Ga:∀{src:Nat->Option (Nat × Nat)} {q:Nat->Option Nat} {bt:Bt},(∀j,src (j+1)=(q j).map fun id=>(id,0))->(∀j,bt j=(src j).bind (Gu β))->∀j,bt (1+j)=(q j).bind β:=by
  intro src q bt h1 h2 j;rw[Nat.add_comm,h2,h1];cases q j with
  |none=>rfl
  |some id=>exact YN β id
 unfold AQ at hk;split at hk
 ·rename_i e he;split at hk
  ·rename_i id off ep;rw[ep] at hx;split at hk
   ·rename_i c h0;obtain⟨hb,hk⟩:=Al hk;simp only[Bool.and_eq_true,decide_eq_true_eq] at hb;obtain⟨cs,m,y,q,hk,hl,Ke,hA,hF,hm,hy,Se,Jm,hv⟩:=T9 h hk;obtain⟨src,WX,hs⟩:=Xn (some (id,off)) q;obtain⟨b,ob,hβ,De⟩:=hx;refine⟨_,m,y,_,src,hk,hm,hy,SD hs Se,WD hs Jm,.inr ⟨_,rfl,rfl,WX,hl.symm,c,h0,by omega⟩,fun fz h1 h2 bt Xb=>?_⟩
    obtain⟨b',o',E7,H8,Wg⟩:=h.box id _ h0;rw[hβ] at E7;cases E7;have C6:((c.drop off).take (H7 P e).length).length=(H7 P e).length:=by simp;omega
    have Al8:∀j p,((c.drop off).take (H7 P e).length)[j]?=some p->c[off+j]?=some p∧j<(H7 P e).length:=by
     intro j p hj;rw[List.getElem?_take] at hj;split at hj
     ·rw[List.getElem?_drop] at hj;exact⟨hj,by assumption⟩
     ·cases hj
    refine⟨b,ob+off,by rw[Xb,WX];simp[Gu,hβ],De,hA,((c.drop off).take (H7 P e).length).mapIdx (fun j _=>(w.cell? ⟨b,ob+off+j,none⟩).getD undef),hv fz h1 h2 _ ?_ bt 1 (Ga hs Xb),?_,fun k hk=>?_⟩
    ·refine Bh.of_at (by simp) fun j p v hp hv=>?_
     obtain⟨hc,_⟩:=Al8 j p hp;obtain⟨u,hu,NB⟩:=H8 _ _ hc;rw[List.getElem?_mapIdx,hp,Option.map_some,Nat.add_assoc,hu] at hv;simp at hv;subst hv;exact NB
    ·intro k v hkv;rw[List.getElem?_mapIdx] at hkv;cases hp:((c.drop off).take (H7 P e).length)[k]? with
     |none=>rw[hp] at hkv;cases hkv
     |some p=>
      obtain⟨hc,_⟩:=Al8 k p hp;obtain⟨u,hu,NB⟩:=H8 _ _ hc;rw[hp,Option.map_some,Nat.add_assoc,hu] at hkv;simp at hkv;subst hkv;rw[Nat.add_assoc];exact hu
    ·rw[Nat.add_assoc];exact Wg _ (by omega)
   ·cases hk
  ·cases hk
 ·cases hln:C.lnd f i<;>rw[hln] at hk<;>simp only[cond_true,cond_false] at hk
  ·cases F0:B9 P t<;>rw[F0] at hk<;>simp only[cond_true,cond_false] at hk
   ·obtain⟨cs,m,y,q,hk,hl,Ke,hA,hF,hm,hy,Se,Jm,hv⟩:=T9 h hk;obtain⟨c,t',rfl,hk⟩:=Bb hk;obtain⟨rfl,hk⟩:=Dr hk;obtain⟨src,WX,hs⟩:=Xn none q;have hAc:=hA c (by simp)
    refine⟨c,m,y,_,src,hk,hm,hy,SD hs Se,WD hs Jm,.inl ⟨rfl,Aok hAc,WX⟩,fun fz h1 h2 bt Xb=>?_⟩
    have hFx:=hF _ (List.mem_singleton_self _)
    have hxc:B2 w (Db s.hp β Y) β (B3 s.tm x) (a.eval x):=by
     cases hp:B3 s.tm x<;>rw[hp] at hx hFx<;>first|exact hx|exact hFx.elim
    have hoc:=(hv fz h1 h2 [a.eval x] ⟨hxc,trivial⟩ bt 1 (Ga hs Xb)).1;rcases hAc with hT|⟨es,n,cc,rfl⟩
    ·cases c<;>first|exact⟨.inl trivial,hoc⟩|exact hT.elim
    ·exact⟨.inr ⟨_,_,_,rfl⟩,hoc⟩
   ·obtain⟨ps,ep,hk⟩:=G2 hk;rw[ep] at hx;obtain⟨vs,De,h3⟩:=hx;obtain⟨cs,m,y,q,hk,hl,Ke,hA,hF,hm,hy,Se,Jm,hv⟩:=T9 h hk;obtain⟨src,WX,hs⟩:=Xn none q;refine⟨_,m,y,_,src,hk,hm,hy,SD hs Se,WD hs Jm,.inl ⟨rfl,rfl,WX⟩,fun fz h1 h2 bt Xb=>?_⟩
    exact⟨vs,De,hA,hv fz h1 h2 vs h3 bt 1 (Ga hs Xb)⟩
  ·obtain⟨e,he,hk⟩:=Ce hk;unfold Ah3 at hk;split at hk
   ·rename_i id es' off n ep;rw[ep] at hx;split at hk
    ·rename_i c h0;obtain⟨hb,Ep⟩:=Al hk;simp only[Bool.and_eq_true] at hb;have he:=Nat.eq_of_beq_eq_true hb.1;have hof:=Nat.eq_of_beq_eq_true hb.2;subst hof;obtain⟨src,WX,hs⟩:=Xn (some (id,0)) (fun _=>none)
     refine⟨_,[],[],_,src,Ep,by simp,by simp,SD hs (by simp),WD hs (by simp),.inr ⟨_,rfl,⟨_,rfl⟩,WX,c,h0⟩,fun fz h1 h2 bt Xb=>⟨_,_,_,rfl,?_⟩⟩
     have JS:bt 0=β id:=by rw[Xb,WX];exact YN β id
     rw[JS];rcases hx with⟨h3,_,h4,h5⟩|⟨b,ob,y,cap,h3,h4,hy,h5,h6,h7⟩
     ·refine .inl ⟨h3,h4,?_,h5⟩;rcases h.box id _ h0 with⟨_,h8⟩|⟨_,_,h8,_⟩
      ·exact h8
      ·rw[h3] at h8;cases h8
     ·have hy:y=ob:=by rcases hy with e|⟨_,e⟩<;>omega
      subst hy;rcases h.box id _ h0 with⟨h8,_⟩|⟨b',o',h8,h9,h10,_⟩
      ·rw[h3] at h8;cases h8
      ·rw[h3] at h8;cases h8;exact .inr ⟨b,y,cap,h3,h4,h5,by rw[←he];exact h6,h7,h9.weak (fun b _ hb=>M4 hb),h10 rfl⟩
    ·cases hk
   ·obtain⟨z,n,c,hk,hp⟩:=Fk hk;obtain⟨hz,hk⟩:=Al hk;subst hz;obtain⟨src,WX,hs⟩:=Xn none (fun _=>none)
    have hu:a.eval x=.slice none 0 0:=by
     have hF:B2 w (Db s.hp β Y) β (B3 s.tm x) (a.eval x):=by rcases hp with e|⟨e,_⟩<;>rw[e] at hx ⊢ <;> exact hx
     have:=Wz hp hF;generalize a.eval x=u at this;cases this;rfl
    refine⟨_,[],[],_,src,hk,by simp,by simp,SD hs (by simp),WD hs (by simp),.inr ⟨_,rfl,⟨_,rfl⟩,WX⟩,fun fz h1 h2 bt Xb=>⟨_,_,_,rfl,.inl ⟨by rw[Xb,WX];rfl,rfl,rfl,none,hu⟩⟩⟩
structure Bbj (i0 n:Nat) (src:Nat->Nat->Option (Nat × Nat)) (ids x:List Nat):Prop where
 dom:∀i j q,src i j=some q->i0<=i∧i<i0+n
 lent:∀i id off,src i 0=some (id,off)->id∈ids
 mvd:∀i j id off,src i (j+1)=some (id,off)->off=0∧id∈x
 inj0:D9 ids=true->∀i i' id off off',src i 0=some (id,off)->src i' 0=some (id,off')->i=i'
 inj1:D9 x=true->∀i i' j j' id off off',src i (j+1)=some (id,off)->src i' (j'+1)=some (id,off')->i=i'∧j=j'
theorem Wv {hp:Nat->Option Bs}{src src':Nat->Nat->Option (Nat × Nat)}:∀{ps:List PV}{i:Nat}{l:List Gm},(∀k,i<=k->src' k=src k)->Pd hp src i ps l->Pd hp src' i ps l
 |[],_,_,_,h=>h
 |p::ps,i,l,hs,h=>by
  rcases h with⟨h1,h2,h3⟩|⟨x,l',rfl,h2,h3⟩
  ·exact .inl ⟨h1,by rw[hs i (Nat.le_refl _)];exact h2,Wv (fun k hk=>hs k (by omega)) h3⟩
  ·exact .inr ⟨x,l',rfl,by rw[hs i (Nat.le_refl _)];exact h2,Wv (fun k hk=>hs k (by omega)) h3⟩
theorem BL {bt bt':Zn}:∀{ps:List PV}{us:List Value}{i:Nat},(∀k,i<=k->∀j,bt' k j=bt k j)->K0 w A bt i ps us->K0 w A bt' i ps us
 |[],[],_,_,_=>trivial
 |[],_::_,_,_,h=>h.elim
 |_::_,[],_,_,h=>h.elim
 |_::_,_::_,i,hb,h=>⟨by rw[show bt' i=bt i from funext (hb i (Nat.le_refl _))];exact h.1,BL (fun k hk=>hb k (by omega)) h.2⟩
theorem LB (h:Cw N w0 X0 Y β s a w){C:G1}{f:FuncId}:∀{ts:List TypeId}{xs:List Operand}{i:Nat}{K:List PV->List Nat->List Nat->List Gm->Option R},LT C P f s.hp i ts (xs.map (B3 s.tm)) K=some r ->
  ∃vs m y l,∃src:Nat->Nat->Option (Nat × Nat),K vs m y l=some r∧(∀id∈m,∃f cc,s.hp id=some (.ar f cc))∧(∀id∈y,∃cc,s.hp id=some (.ar false cc)) ∧
   Bbj i xs.length src (l.flatMap Gm.ids) y∧Pd s.hp src i vs l ∧
   ∀fz:List Nat,(∀id∈m,id∈fz)->(∀id∈fz,∃f cc,s.hp id=some (.ar f cc))->∀bt:Zn,(∀i j,bt i j=(src i j).bind (Gu β))->K0 w (Db (Ag s.hp fz) β Y) bt i vs (xs.map a.eval)
 |[],[],i,K,hk=>⟨[],[],[],[],fun _ _=>none,hk,by simp,by simp,⟨by simp,by simp,by simp,by simp,by simp⟩,rfl,fun _ _ _ _ _=>trivial⟩
 |[],_::_,i,K,hk=>by cases hk
 |_::_,[],i,K,hk=>by cases hk
 |t::ts,x::xs,i,K,hk=>by
  simp only[List.map_cons] at hk;unfold LT at hk;obtain⟨v,m,y,l,src,hk,hm,hy,hs1,Vm,hl,hv⟩:=YC h hk;obtain⟨vs,ms,ys,ls,srcs,hk,GP,hys,hS,hL,Rz⟩:=LB h hk;have Xn:∃sr:Nat->Nat->Option (Nat × Nat),sr i=src∧∀k,k≠i->sr k=srcs k:=⟨fun k=>if k=i then src else srcs k,by simp,fun k hk=>by simp[hk]⟩
  obtain⟨sr,hsi,hso⟩:=Xn
  have JL:∀id off,src 0=some (id,off)->id∈l.flatMap Gm.ids:=by
   intro id off e;rcases hl with⟨_,_,h3⟩|⟨x',rfl,h3⟩
   ·rw[h3] at e;cases e
   ·cases x' with
    |var id' off' cts ws=>rw[h3.2.1] at e;cases e;simp[Gm.ids]
    |row id'=>rw[h3.2.1] at e;cases e;simp[Gm.ids]
    |none=>rw[h3.2] at e;cases e
  refine⟨v::vs,m++ms,y++ys,l++ls,sr,hk,?_,?_,⟨?_,?_,?_,?_,?_⟩,?_,fun fz h1 h2 bt Xb=>⟨?_,?_⟩⟩
  ·intro i hi;rcases List.mem_append.1 hi with hi|hi
   ·exact hm i hi
   ·exact GP i hi
  ·intro i hi;rcases List.mem_append.1 hi with hi|hi
   ·exact hy i hi
   ·exact hys i hi
  ·intro k j q hq;simp only[List.length_cons];by_cases e:k=i
   ·subst e;omega
   ·rw[hso k e] at hq;have:=hS.dom k j q hq;omega
  ·intro k id off hq;rw[List.flatMap_append];by_cases e:k=i
   ·subst e;rw[hsi] at hq;exact List.mem_append.2 (.inl (JL id off hq))
   ·rw[hso k e] at hq;exact List.mem_append.2 (.inr (hS.lent k id off hq))
  ·intro k j id off hq;by_cases e:k=i
   ·subst e;rw[hsi] at hq;exact⟨(hs1 j id off hq).1,List.mem_append.2 (.inl (hs1 j id off hq).2)⟩
   ·rw[hso k e] at hq;exact⟨(hS.mvd k j id off hq).1,List.mem_append.2 (.inr (hS.mvd k j id off hq).2)⟩
  ·intro hn k k' id off off' hq Ft;rw[List.flatMap_append] at hn;obtain⟨_,h4,h5⟩:=Ii hn;by_cases e:k=i
   ·by_cases e':k'=i
    ·omega
    ·rw[hso k' e'] at Ft;subst e;rw[hsi] at hq;exact absurd (hS.lent k' id off' Ft) (h5 id (JL id off hq))
   ·rw[hso k e] at hq;by_cases e':k'=i
    ·subst e';rw[hsi] at Ft;exact absurd (hS.lent k id off hq) (h5 id (JL id off' Ft))
    ·rw[hso k' e'] at Ft;exact hS.inj0 h4 k k' id off off' hq Ft
  ·intro hn k k' j j' id off off' hq Ft;obtain⟨h3,h4,h5⟩:=Ii hn;by_cases e:k=i
   ·by_cases e':k'=i
    ·subst e;subst e';rw[hsi] at hq Ft;exact⟨rfl,Vm h3 j j' id off off' hq Ft⟩
    ·rw[hso k' e'] at Ft;subst e;rw[hsi] at hq;exact absurd (hS.mvd k' j' id off' Ft).2 (h5 id (hs1 j id off hq).2)
   ·rw[hso k e] at hq;by_cases e':k'=i
    ·subst e';rw[hsi] at Ft;exact absurd (hS.mvd k j id off hq).2 (h5 id (hs1 j' id off' Ft).2)
    ·rw[hso k' e'] at Ft;exact hS.inj1 h4 k k' j j' id off off' hq Ft
  ·have Vo:Pd s.hp sr (i+1) vs ls:=Wv (fun k hk=>hso k (by omega)) hL
   rcases hl with⟨rfl,hnp,h3⟩|⟨x',rfl,h3⟩
   ·exact .inl ⟨hnp,by rw[hsi];exact h3,Vo⟩
   ·exact .inr ⟨x',ls,rfl,by rw[hsi];exact h3,Vo⟩
  ·exact hv fz (fun i hi=>h1 i (by simp[hi])) h2 (bt i) (fun j=>by rw[Xb,hsi])
  ·refine Rz fz (fun i hi=>h1 i (by simp[hi])) h2 (fun k j=>(srcs k j).bind (Gu β)) (fun _ _=>rfl) |> BL fun k hk j=>?_
   rw[Xb,hso k (by omega)]
end
open Go.RowKit
section
variable {R:Type} {r:R} {P:Program} {N:Nat} {w0:World} {X0:H0} {Y:Nat->Prop} {β β':Bt} {s:St} {a:Act} {w w':World} {o:Oper} {A:Nat->Prop}
theorem Ahd {p:PV}{u:Value}(h:Ay w A p u):B2 w A β p u:=by
 have h0:=h;cases h<;>exact h0
theorem Ajd {t:Nat}{ct:CT}{was p:PV}{K:Nat->PV->List (Nat × Bs)->Option R} (hk:Adt N t ct was p K=some r):
  (∃c,K t c []=some r∧Vr c∧∀w A q u,Gd w A q p u->Ay w A c u)∨∃es n cc,p=.own es n cc∧K (t+1) (.view (WU N t) es 0 n) [(WU N t,.ar false cc)]=some r:=by
 have tree:∀t',(BG t' p fun c=>K t c [])=some r->∃c,K t c []=some r∧Vr c∧∀w A q u,Gd w A q p u->Ay w A c u:=by
  intro t' hk;obtain⟨c,hk,hT,GL,hv⟩:=Mp hk;refine⟨c,hk,hT,fun w A q u h=>(hv w A (fun _=>none) u ?_).1⟩
  cases p<;>first|exact h|exact GL.elim
 unfold Adt at hk;cases ct with
 |sl es=>
  dsimp only at hk;split at hk
  ·unfold IU at hk;split at hk
   ·rename_i es' n c;cases hb:Nat.beq es' es<;>rw[hb] at hk
    ·cases hk
    ·have:=Nat.eq_of_beq_eq_true hb;subst this;exact .inr ⟨_,_,_,rfl,hk⟩
   ·cases hk
  ·have h2:(BG (.sl es) p fun c=>(match c with | .lst _ es n c=>K t (.lst false es n c) []|_=>none))=some r:=hk
   obtain⟨c,hk,hT,GL,hv⟩:=Mp h2;split at hk
   ·refine .inl ⟨_,hk,hT,fun w A q u h=>Ay.unz (hv w A (fun _=>none) u ?_).1⟩
    cases p<;>first|exact h|exact GL.elim
   ·cases hk
 |int k=>exact .inl (tree _ hk)
 |bool=>exact .inl (tree _ hk)
 |str=>exact .inl (tree _ hk)
 |any=>exact .inl (tree _ hk)
theorem AM:∀{cts:List CT}{ws ps:List PV}{t:Nat}{K:Nat->List PV->List (Nat × Bs)->Option R},LY N t cts ws ps K=some r ->
  ∃t' cs bs,∃qs:List (Nat × Nat),K t' cs bs=some r∧cs.length=ps.length∧ps.length=ws.length∧bs.map (·.1)=qs.map (·.1)∧(∀q∈qs,(∃k,q.1=WU N k)∧q.2<ps.length)∧(∀q∈qs,∀q'∈qs,q.2=q'.2->q.1=q'.1) ∧
   (∀i bx,(i,bx)∈bs->∃c,bx=.ar false c)∧(∀c∈cs,∀i∈As c,∃bx,(i,bx)∈bs) ∧
   ∀(w:World) (A:Nat->Prop) (own β':Bt) (j0:Nat) (us:List Value),(∀q∈qs,β' q.1=own (j0+q.2))->Ex w A own j0 ps us->Bh (B2 w A β') cs us∧∀i bx,(i,bx)∈bs->Q4 w A β' i bx
 |[],[],ps,t,K,hk=>by
  obtain⟨rfl,hk⟩:=Dr hk;refine⟨t,[],[],[],hk,rfl,rfl,rfl,by simp,by simp,by simp,by simp,fun w A own β' j0 us _ h=>⟨?_,by simp⟩⟩
  cases us with
  |nil=>trivial
  |cons u us=>exact h.elim
 |[],_::_,_,_,_,hk=>by cases hk
 |_::_,[],_,_,_,hk=>by cases hk
 |ct::cts,x::ws,ps,t,K,hk=>by
  unfold LY at hk;obtain⟨p,ps',DC,Ea⟩:=Bb hk;subst DC;rcases Ajd Ea with⟨c,Ep,hT,hv⟩|⟨es,n,cc,rfl,Ep⟩
  ·obtain⟨t',cs,bs,qs,Lk,hl,Ke,hb,Se,Jm,E7,H8,Rz⟩:=AM Ep;refine⟨t',c::cs,bs,qs.map (fun q=>(q.1,q.2+1)),Lk,by simp[hl],by simp[Ke],by rw[hb];simp,?_,?_,E7,?_,fun w A own β' j0 us hβ ho=>?_⟩
   ·intro q hq;obtain⟨q0,U0,rfl⟩:=List.mem_map.1 hq;exact⟨(Se q0 U0).1,by have:=(Se q0 U0).2;simp only[List.length_cons];omega⟩
   ·intro q hq q' Ft e;obtain⟨q0,U0,rfl⟩:=List.mem_map.1 hq;obtain⟨q1,I8,rfl⟩:=List.mem_map.1 Ft;exact Jm q0 U0 q1 I8 (by simp only at e;omega)
   ·intro y hy i hi;rcases List.mem_cons.1 hy with rfl|hy
    ·rw[Hs hT] at hi;cases hi
    ·exact H8 y hy i hi
   ·cases us with
    |nil=>exact ho.elim
    |cons u us=>
     obtain⟨h1,h2⟩:=Rz w A own β' (j0+1) us (fun q hq=>by rw[hβ _ (List.mem_map_of_mem hq)];congr 1;simp only;omega) ho.2
     exact⟨⟨Ahd (hv w A _ u ho.1),h1⟩,h2⟩
  ·obtain⟨t',cs,bs,qs,Lk,hl,Ke,hb,Se,Jm,E7,H8,Rz⟩:=AM Ep;refine⟨t',_::cs,(WU N t,.ar false cc)::bs,(WU N t,0)::qs.map (fun q=>(q.1,q.2+1)),Lk,by simp[hl],by simp[Ke],by simp only[List.map_cons,hb];simp,?_,?_,?_,?_,fun w A own β' j0 us hβ ho=>?_⟩
   ·intro q hq;rcases List.mem_cons.1 hq with rfl|hq
    ·exact⟨⟨t,rfl⟩,by simp⟩
    ·obtain⟨q0,U0,rfl⟩:=List.mem_map.1 hq;exact⟨(Se q0 U0).1,by have:=(Se q0 U0).2;simp only[List.length_cons];omega⟩
   ·intro q hq q' Ft e;rcases List.mem_cons.1 hq with rfl|hq
    ·rcases List.mem_cons.1 Ft with rfl|Ft
     ·rfl
     ·obtain⟨q0,U0,rfl⟩:=List.mem_map.1 Ft;simp only at e;omega
    ·obtain⟨q0,U0,rfl⟩:=List.mem_map.1 hq;rcases List.mem_cons.1 Ft with rfl|Ft
     ·simp only at e;omega
     ·obtain⟨q1,I8,rfl⟩:=List.mem_map.1 Ft;exact Jm q0 U0 q1 I8 (by simp only at e;omega)
   ·intro i bx hm;rcases List.mem_cons.1 hm with e|hm
    ·cases e;exact⟨cc,rfl⟩
    ·exact E7 i bx hm
   ·intro y hy i hi;rcases List.mem_cons.1 hy with rfl|hy
    ·simp only[As,List.mem_singleton] at hi;subst hi;exact⟨_,List.mem_cons_self⟩
    ·obtain⟨bx,Lj⟩:=H8 y hy i hi;exact⟨bx,List.mem_cons_of_mem _ Lj⟩
   ·cases us with
    |nil=>exact ho.elim
    |cons u us=>
     obtain⟨h1,h2⟩:=Rz w A own β' (j0+1) us (fun q hq=>by rw[hβ _ (List.mem_cons_of_mem _ (List.mem_map_of_mem hq))];congr 1;simp only;omega) ho.2
     have h0:=hβ (WU N t,0) List.mem_cons_self;simp only[Nat.add_zero] at h0;refine⟨⟨?_,h1⟩,fun i bx hm=>?_⟩
     ·rcases ho.1 with⟨h3,rfl,_,h5⟩|⟨b,ob,cap,h3,h4,h5,h6,h7,_⟩
      ·exact .inl ⟨h0.trans h3,rfl,rfl,h5⟩
      ·exact .inr ⟨b,ob,ob,cap,h0.trans h3,h4,.inl rfl,h5,h6,h7⟩
     ·rcases List.mem_cons.1 hm with e|hm
      ·cases e;exact Xr ho.1 h0
      ·exact h2 i bx hm
def YO (hp Cy:Nat->Option Bs)(bs:List (Nat × Bs)) (x:Gm):Prop:=
 match x with
 |.var id off _ ws=>∃c cs,hp id=some (.st c)∧Cy id=some (.st (Ca c cs off))∧cs.length=ws.length∧off+cs.length<=c.length∧∀p∈cs,∀i∈As p,∃bx,(i,bx)∈bs
 |.row id=>∃c cs,hp id=some (.ar false c)∧Cy id=some (.ar false cs)
 |.none=>True
def Aiz (β β':Bt)(w':World)(A:Nat->Prop)(hp Cy:Nat->Option Bs)(x:Gm):Prop:=
 match x with
 |.var id off _ ws=>∃c cs,hp id=some (.st c)∧Cy id=some (.st (Ca c cs off))∧cs.length=ws.length∧off+cs.length<=c.length ∧
   ∀b o,β id=some (b,o)->(∀(j:Nat) p,cs[j]?=some p->∃v,w'.cell? ⟨b,o+off+j,none⟩=some v∧B2 w' A β' p v)∧∀j,j<cs.length->w'.frozen? ⟨b,o+off+j,none⟩=false
 |.row id=>∃cs,Cy id=some (.ar false cs)∧((β id=none∧cs=[])∨∃b o,β id=some (b,o)∧WY w' A ⟨b,o,none⟩ cs∧∀j,o<=j->j<bsz w' b->w'.frozen? ⟨b,j,none⟩=false)
 |.none=>True
theorem Xq {hp Cj Cy:Nat->Option Bs}{bs bs1:List (Nat × Bs)} {x:Gm}(h1:∀i∈x.ids,Cj i=hp i)(hb:∀q∈bs,q∈bs1)(h:YO Cj Cy bs x):YO hp Cy bs1 x:=by
 cases x with
 |var id off cts ws=>
  obtain⟨c,cs,h2,h3,h4,h5,h6⟩:=h;refine⟨c,cs,by rw[←h1 id (by simp[Gm.ids])];exact h2,h3,h4,h5,fun p hp i hi=>?_⟩
  obtain⟨bx,Lj⟩:=h6 p hp i hi;exact⟨bx,hb _ Lj⟩
 |row id=>
  obtain⟨c,cs,h2,h3⟩:=h;exact⟨c,cs,by rw[←h1 id (by simp[Gm.ids])];exact h2,h3⟩
 |none=>trivial
theorem BO {hp Cj Cy:Nat->Option Bs}{x:Gm}(h1:∀i∈x.ids,Cj i=hp i)(h:Aiz β β' w' A Cj Cy x):Aiz β β' w' A hp Cy x:=by
 cases x with
 |var id off cts ws=>
  obtain⟨c,cs,h2,h3⟩:=h;exact⟨c,cs,by rw[←h1 id (by simp[Gm.ids])];exact h2,h3⟩
 |row id=>exact h
 |none=>trivial
theorem Af9 {hp Cj:Nat->Option Bs}{q:Option (Nat × Nat)} {p:PV}{x:Gm}(h1:∀i∈x.ids,Cj i=hp i)(h:LOk hp q p x):LOk Cj q p x:=by
 cases x with
 |var id off cts ws'=>
  obtain⟨h2,h3,h5,c,h6,h7⟩:=h;exact⟨h2,h3,h5,c,by rw[h1 id (by simp[Gm.ids])];exact h6,h7⟩
 |row id=>
  obtain⟨h2,h3,c,h4⟩:=h;exact⟨h2,h3,c,by rw[h1 id (by simp[Gm.ids])];exact h4⟩
 |none=>exact h
theorem Yd {hp Cj:Nat->Option Bs}{src:Nat->Nat->Option (Nat × Nat)}:∀{ps:List PV}{i:Nat}{l:List Gm},(∀i∈l.flatMap Gm.ids,Cj i=hp i)->Pd hp src i ps l->Pd Cj src i ps l
 |[],_,_,_,h=>h
 |p::ps,i,l,hs,h=>by
  rcases h with⟨h1,h2,h3⟩|⟨x,l',rfl,h2,h3⟩
  ·exact .inl ⟨h1,h2,Yd hs h3⟩
  ·exact .inr ⟨x,l',rfl,Af9 (fun k hk=>hs k (by simp only[List.flatMap_cons,List.mem_append];exact .inl hk)) h2,Yd (fun k hk=>hs k (by simp only[List.flatMap_cons,List.mem_append];exact .inr hk)) h3⟩
theorem Aac {own:Bt}{bt:Zn}{j i:Nat}{p:PV}{zs:List PV}{r:List (List PV)} (hp:Zp p=false)(h:Vk w A own bt j i (p::zs) r):Vk w A own bt j (i+1) zs r:=by
 cases p<;>first|exact h|cases hp
theorem Sq {src:Nat->Nat->Option (Nat × Nat)} {β:Bt}:∀{zs:List PV}{l:List Gm}{ro:List (List PV)} {i j t:Nat}{hp:Nat->Option Bs}{K:(Nat->Option Bs)->List (Nat × Bs)->Option R},
  Wy N t l ro hp K=some r->Pd hp src i zs l->D9 (l.flatMap Gm.ids)=true ->
  ∃Cy bs,∃qs:List (Nat × Nat),K Cy bs=some r∧bs.map (·.1)=qs.map (·.1)∧(∀q∈qs,(∃k,q.1=WU N k)∧j<=q.2)∧(∀q∈qs,∀q'∈qs,q.2=q'.2->q.1=q'.1)∧(∀i bx,(i,bx)∈bs->∃c,bx=.ar false c) ∧
   (∀i,i ∉ l.flatMap Gm.ids->Cy i=hp i)∧(∀x∈l,YO hp Cy bs x) ∧
   ∀(w':World) (A:Nat->Prop) (own β':Bt) (bt:Zn),(∀q∈qs,β' q.1=own q.2)->(∀i,bt i 0=(src i 0).bind (Gu β))->Vk w' A own bt j i zs ro ->
    (∀i bx,(i,bx)∈bs->Q4 w' A β' i bx)∧∀x∈l,Aiz β β' w' A hp Cy x
 |[],l,ro,i,j,t,hp,K,hk,hL,hn=>by
  have hL:l=[]:=hL;subst hL;unfold Wy at hk;obtain⟨rfl,hk⟩:=Dr hk;exact⟨hp,[],[],hk,rfl,by simp,by simp,by simp,fun _ _=>rfl,by simp,fun w' A own β' bt _ _ _=>⟨by simp,by simp⟩⟩
 |p::zs,l0,ro,i,j,t,hp,K,hk,hL0,hn=>by
  rcases hL0 with⟨Qu,_,hL⟩|⟨x,l,rfl,hok,hL⟩
  rotate_left
  ··simp only[List.flatMap_cons] at hn;obtain⟨UH,hn2,hn3⟩:=Ii hn;cases x with
    |var id off cts ws'=>
     obtain⟨rfl,Xn,I7,c,hc,CJ⟩:=hok;unfold Wy at hk;obtain⟨cs,ro',hro,Ea⟩:=Bb hk;subst hro;obtain⟨t',cs',bs,qs,Ep,GT,Ru,hb,Se,Jm,E7,H8,hv⟩:=AM Ea;rw[hc] at Ep;simp only at Ep;change Wy N t' l ro' (Cs hp id (some (.st (Ca c cs' off)))) (fun Cy bs'=>K Cy (bs++bs'))=some r at Ep
     have XE:id ∉ l.flatMap Gm.ids:=hn3 id (by simp[Gm.ids])
     have hL':Pd (Cs hp id (some (.st (Ca c cs' off)))) src (i+1) zs l:=Yd (fun k hkm=>Ak _ _ (fun e=>XE (e ▸ hkm))) hL
     obtain⟨Cy,bs',qs',Lk,H5,I8,YY,ZN,Lg,hsh,PP⟩:=Sq (β:=β) (j:=j+cs.length) Ep hL' hn2;have Al9:Cy id=some (.st (Ca c cs' off)):=by rw[Lg id XE,An]
     have HL:∀x∈l,∀k∈x.ids,Cs hp id (some (.st (Ca c cs' off))) k=hp k:=fun x hx k hkm=>Ak _ _ (fun e=>XE (e ▸ List.mem_flatMap.2 ⟨x,hx,hkm⟩))
     refine⟨Cy,bs++bs',qs.map (fun q=>(q.1,j+q.2))++qs',Lk,by simp only[List.map_append,hb,H5];simp,?_,?_,?_,?_,?_,fun w' A own β' bt hβ Xb ho=>?_⟩
     ·intro q hq;rcases List.mem_append.1 hq with hq|hq
      ·obtain⟨q0,U0,rfl⟩:=List.mem_map.1 hq;exact⟨(Se q0 U0).1,by simp only;omega⟩
      ·exact⟨(I8 q hq).1,by have:=(I8 q hq).2;omega⟩
     ·intro q hq q' Ft e;rcases List.mem_append.1 hq with hq|hq
      ·obtain⟨q0,U0,rfl⟩:=List.mem_map.1 hq;have:=(Se q0 U0).2;rcases List.mem_append.1 Ft with Ft|Ft
       ·obtain⟨q1,I8,rfl⟩:=List.mem_map.1 Ft;exact Jm q0 U0 q1 I8 (by simp only at e;omega)
       ·have:=(I8 q' Ft).2;simp only at e;omega
      ·have h5:=(I8 q hq).2;rcases List.mem_append.1 Ft with Ft|Ft
       ·obtain⟨q1,A3k,rfl⟩:=List.mem_map.1 Ft;have:=(Se q1 A3k).2;simp only at e;omega
       ·exact YY q hq q' Ft e
     ·intro k bx hm;rcases List.mem_append.1 hm with hm|hm
      ·exact E7 k bx hm
      ·exact ZN k bx hm
     ·intro k hk;simp only[List.flatMap_cons,List.mem_append,not_or] at hk;rw[Lg k hk.2];exact Ak _ _ (by rintro rfl;exact hk.1 (by simp[Gm.ids]))
     ·intro x hx;rcases List.mem_cons.1 hx with rfl|hx
      ·refine⟨c,cs',hc,Al9,by omega,by omega,fun p hp k hk=>?_⟩
       obtain⟨bx,Lj⟩:=H8 p hp k hk;exact⟨bx,List.mem_append.2 (.inl Lj)⟩
      ·exact Xq (HL x hx) (fun q hq=>List.mem_append.2 (.inr hq)) (hsh x hx)
     ·obtain⟨⟨b,ob,JS,C6,vs,hov,C3,hfr⟩,ho⟩:=ho
      ·obtain⟨h1,h2⟩:=hv w' A own β' j vs (fun q hq=>hβ _ (List.mem_append.2 (.inl (List.mem_map_of_mem hq)))) hov
       obtain⟨h3,h4⟩:=PP w' A own β' bt (fun q hq=>hβ q (List.mem_append.2 (.inr hq))) Xb ho
       refine⟨fun k bx hm=>?_,fun x hx=>?_⟩
       ·rcases List.mem_append.1 hm with hm|hm
        ·exact h2 k bx hm
        ·exact h3 k bx hm
       ·rcases List.mem_cons.1 hx with rfl|hx
        ·refine⟨c,cs',hc,Al9,by omega,by omega,fun b1 o1 hβ1=>?_⟩
         have H8:=Xb i;rw[JS,Xn] at H8;simp only[Option.bind_some,Gu,hβ1,Option.map_some,Option.some.injEq,Prod.mk.injEq] at H8;obtain⟨rfl,rfl⟩:=H8;refine⟨fun k p hp=>?_,fun k hk=>hfr k (by omega)⟩
         obtain⟨v,hv,NB⟩:=h1.get hp;exact⟨v,C3 k v hv,NB⟩
        ·exact BO (HL x hx) (h4 x hx)
    |row id=>
     obtain⟨⟨pz,rfl⟩,Xn,c,hc⟩:=hok;unfold Wy at hk;obtain⟨cs,ro',hro,Ep⟩:=Bb hk;subst hro;have XE:id ∉ l.flatMap Gm.ids:=hn3 id (by simp[Gm.ids])
     have hL':Pd (Cs hp id (some (.ar false cs))) src (i+1) zs l:=Yd (fun k hkm=>Ak _ _ (fun e=>XE (e ▸ hkm))) hL
     obtain⟨Cy,bs',qs',Lk,H5,I8,YY,ZN,Lg,hsh,PP⟩:=Sq (β:=β) (j:=j) Ep hL' hn2;have Al9:Cy id=some (.ar false cs):=by rw[Lg id XE,An]
     have HL:∀x∈l,∀k∈x.ids,Cs hp id (some (.ar false cs)) k=hp k:=fun x hx k hkm=>Ak _ _ (fun e=>XE (e ▸ List.mem_flatMap.2 ⟨x,hx,hkm⟩))
     refine⟨Cy,bs',qs',Lk,H5,I8,YY,ZN,?_,?_,fun w' A own β' bt hβ Xb ho=>?_⟩
     ·intro k hk;simp only[List.flatMap_cons,List.mem_append,not_or] at hk;rw[Lg k hk.2];exact Ak _ _ (by rintro rfl;exact hk.1 (by simp[Gm.ids]))
     ·intro x hx;rcases List.mem_cons.1 hx with rfl|hx
      ·exact⟨c,cs,hc,Al9⟩
      ·exact Xq (HL x hx) (fun q hq=>hq) (hsh x hx)
     ·obtain⟨Ae9,ho⟩:=ho
      ·obtain⟨h3,h4⟩:=PP w' A own β' bt hβ Xb ho;refine⟨h3,fun x hx=>?_⟩
       rcases List.mem_cons.1 hx with rfl|hx
       ·refine⟨cs,Al9,?_⟩;have H8:=Xb i;rw[Xn] at H8;simp only[Option.bind_some,YN] at H8;rw[H8] at Ae9;exact Ae9
       ·exact BO (HL x hx) (h4 x hx)
    |none=>
     obtain⟨⟨pz,rfl⟩,Xn⟩:=hok;unfold Wy at hk;obtain⟨cs,ro',hro,Ep⟩:=Bb hk;subst hro;obtain⟨Cy,bs',qs',Lk,H5,I8,YY,ZN,Lg,hsh,PP⟩:=Sq (β:=β) (j:=j) Ep hL hn2;refine⟨Cy,bs',qs',Lk,H5,I8,YY,ZN,?_,?_,fun w' A own β' bt hβ Xb ho=>?_⟩
     ·intro k hk;simp only[List.flatMap_cons,List.mem_append,not_or] at hk;exact Lg k hk.2
     ·intro x hx;rcases List.mem_cons.1 hx with rfl|hx
      ·trivial
      ·exact hsh x hx
     ·obtain⟨Ae9,ho⟩:=ho
      ·obtain⟨h3,h4⟩:=PP w' A own β' bt hβ Xb ho;refine⟨h3,fun x hx=>?_⟩
       rcases List.mem_cons.1 hx with rfl|hx
       ·trivial
       ·exact h4 x hx
  ·obtain⟨Cy,bs',qs',Lk,H5,I8,YY,ZN,Lg,hsh,PP⟩:=Sq (β:=β) (j:=j) hk hL hn;exact⟨Cy,bs',qs',Lk,H5,I8,YY,ZN,Lg,hsh,fun w' A own β' bt hβ Xb ho=>PP w' A own β' bt hβ Xb (Aac Qu ho)⟩
end
open Go.RowKit
theorem F3 (hp:Nat->Option Bs)(ids:List Nat)(i:Nat):Ts hp ids i=if i∈ids then (hp i).map (fun _=>Bs.mv) else hp i:=by
 unfold Ts;by_cases hi:i∈ids
 ·have:ids.any (Nat.beq i)=true:=List.any_eq_true.2 ⟨i,hi,Nat.beq_refl i⟩;rw[this,if_pos hi];rfl
 ·have:ids.any (Nat.beq i)=false:=by
   cases hb:ids.any (Nat.beq i)
   ·rfl
   ·obtain⟨j,hj,e⟩:=List.any_eq_true.1 hb;exact absurd (Nat.eq_of_beq_eq_true e ▸ hj) hi
  rw[this,if_neg hi];rfl
theorem Rn:∀{nw:List (Nat × Bs)} {hp:Nat->Option Bs},Bw hp nw=true->(nw.map (·.1)).Nodup
 |[],_,_=>List.nodup_nil
 |(i,b)::r,hp,h=>by
  simp only[Bw,Bool.and_eq_true,Option.isNone_iff_eq_none,Bool.not_eq_true'] at h;simp only[List.map_cons,List.nodup_cons];refine⟨fun hm=>?_,Rn h.2⟩
  obtain⟨q,hq,e⟩:=List.mem_map.1 hm;have:r.any (fun q=>Nat.beq q.1 i)=true:=List.any_eq_true.2 ⟨q,hq,by rw[e];exact Nat.beq_refl i⟩
  rw[this] at h;cases h.1.2
theorem Aj5:∀{l:List (Nat × Nat)},(l.map (·.1)).Nodup->∀q∈l,Vd l q.1=some q.2
 |[],_,_,h=>by cases h
 |(j,b)::r,hn,q,hq=>by
  simp only[List.map_cons,List.nodup_cons] at hn;unfold Vd;rcases List.mem_cons.1 hq with rfl|hq
  ·simp only[Nat.beq_refl,cond_true]
  ·have:Nat.beq q.1 j=false:=by
    cases hb:Nat.beq q.1 j
    ·rfl
    ·exact absurd (Nat.eq_of_beq_eq_true hb ▸ List.mem_map_of_mem hq) hn.1
   simp only[this,cond_false];exact Aj5 hn.2 q hq
theorem VE:∀{l:List (Nat × Nat)} {i:Nat},i ∉ l.map (·.1)->Vd l i=none
 |[],_,_=>rfl
 |(j,b)::r,i,h=>by
  simp only[List.map_cons,List.mem_cons,not_or] at h;unfold Vd
  have:Nat.beq i j=false:=by
   cases hb:Nat.beq i j
   ·rfl
   ·exact absurd (Nat.eq_of_beq_eq_true hb) h.1
  simp only[this,cond_false];exact VE h.2
section
variable {R:Type} {r:R} {P:Program} {N:Nat} {w0:World} {X0:H0} {Y:Nat->Prop} {β β':Bt} {s:St} {a:Act} {w w':World} {o:Oper} {A A':Nat->Prop}
theorem Gd.weak (hA:∀b,b<w.heap.size->A' b->A b){q:Option (Nat × Nat)} {p:PV}{u:Value}(h:Gd w A q p u):Gd w A' q p u:=by
 have tr:∀{p:PV},Ay w A p u->Ay w A' p u:=fun h=>h.step (Cc.refl _ _) hA
 cases p with
 |own es n c=>
  rcases h with h|⟨b,ob,cap,h1,h2,h3,h4,h5,h6,h7⟩
  ·exact .inl h
  ·exact .inr ⟨b,ob,cap,h1,h2,h3,h4,h5,h6.weak hA,h7⟩
 |_=>exact tr h
theorem Ex.weak (hA:∀b,b<w.heap.size->A' b->A b){own:Bt}:∀{ps:List PV}{us:List Value}{j:Nat},Ex w A own j ps us->Ex w A' own j ps us
 |[],[],_,_=>trivial
 |[],_::_,_,h=>h.elim
 |_::_,[],_,h=>h.elim
 |_::_,_::_,_,h=>⟨h.1.weak hA,Ex.weak hA h.2⟩
theorem SX.weak (hA:∀b,b<w.heap.size->A' b->A b){bt:Bt}{p:PV}{u:Value}(h:SX w A bt p u):SX w A' bt p u:=by
 cases p with
 |pbox ps=>
  obtain⟨b,ob,h1,h2,h3,vs,h4,h5⟩:=h;exact⟨b,ob,h1,h2,h3,vs,h4.weak hA,h5⟩
 |tup ps=>
  obtain⟨es,n,c,h1,h2⟩:=h;exact⟨es,n,c,h1,h2.weak hA⟩
 |agg cs=>
  obtain⟨vs,h1,h2,h3⟩:=h;exact⟨vs,h1,h2,h3.weak hA⟩
 |_=>exact⟨h.1,h.2.weak hA⟩
theorem K0.weak (hA:∀b,b<w.heap.size->A' b->A b){bt:Zn}:∀{ps:List PV}{us:List Value}{i:Nat},K0 w A bt i ps us->K0 w A' bt i ps us
 |[],[],_,_=>trivial
 |[],_::_,_,h=>h.elim
 |_::_,[],_,h=>h.elim
 |_::_,_::_,_,h=>⟨h.1.weak hA,K0.weak hA h.2⟩
theorem X4 {bt:Zn}(k:Bool):∀{xs:List Operand}{ps:List PV}{i:Nat},K0 w A bt i ps (xs.map a.eval)->K0 w A bt i (Ji k xs ps) (xs.map a.eval)
 |[],[],_,h=>h
 |[],_::_,_,h=>h
 |_::_,[],_,h=>h
 |x::xs,p::ps,i,h=>by
  simp only[List.map_cons] at h ⊢;refine⟨?_,X4 k h.2⟩;split
  ·exact⟨.inl trivial,Ay.lnil _ _⟩
  ·exact h.1
theorem PU (k:Bool)(x:Operand)(xs:List Operand)(p:PV)(ps:List PV):∃p',Ji k (x::xs) (p::ps)=p'::Ji k xs ps∧Zp p'=Zp p∧(Zp p=true->p'=p):=by
 refine⟨_,rfl,?_,fun h=>?_⟩
 ·split
  ·rfl
  ·rfl
 ·split
  ·cases h
  ·rfl
theorem Rm {hp:Nat->Option Bs}{src:Nat->Nat->Option (Nat × Nat)} (k:Bool):∀{xs:List Operand}{ps:List PV}{i:Nat}{l:List Gm},Pd hp src i ps l->Pd hp src i (Ji k xs ps) l
 |[],[],_,_,h=>h
 |[],_::_,_,_,h=>h
 |_::_,[],_,_,h=>h
 |x::xs,p::ps,i,l,h=>by
  obtain⟨p',e,h1,h2⟩:=PU k x xs p ps;rw[e];rcases h with⟨h3,h4,h5⟩|⟨y,l',rfl,h4,h5⟩
  ·exact .inl ⟨by rw[h1];exact h3,h4,Rm k h5⟩
  ·exact .inr ⟨y,l',rfl,by rw[h2 (Abl h4)];exact h4,Rm k h5⟩
theorem FT {hp:Nat->Option Bs}{src:Nat->Nat->Option (Nat × Nat)}:∀{ps:List PV}{i:Nat}{l:List Gm},Pd hp src i ps l->∀id∈l.flatMap Gm.ids,Dd (hp id)∧∃k off,src k 0=some (id,off)
 |[],_,_,h,id,Bm=>by
  have h:_=[]:=h;rw[h] at Bm;cases Bm
 |p::ps,i,l,h,id,Bm=>by
  rcases h with⟨_,_,h3⟩|⟨x,l',rfl,h2,h3⟩
  ·exact FT h3 id Bm
  ·simp only[List.flatMap_cons,List.mem_append] at Bm;rcases Bm with Bm|Bm
   ·cases x with
    |var id' off cts ws=>
     simp only[Gm.ids,List.mem_singleton] at Bm;subst Bm;obtain⟨_,h4,_,c,h5,_⟩:=h2;exact⟨by rw[h5];trivial,i,_,h4⟩
    |row id'=>
     simp only[Gm.ids,List.mem_singleton] at Bm;subst Bm;obtain⟨_,h4,c,h5⟩:=h2;exact⟨by rw[h5];trivial,i,_,h4⟩
    |none=>simp[Gm.ids] at Bm
   ·exact FT h3 id Bm
theorem Ami {hp:Nat->Option Bs}{src:Nat->Nat->Option (Nat × Nat)}:∀{ps:List PV}{i:Nat}{l:List Gm},Pd hp src i ps l->∀k p id off,ps[k]?=some p->src (i+k) 0=some (id,off) ->
   (∃c ws,hp id=some (.st c)∧p=.pbox ws∧off+ws.length<=c.length)∨((∃c,hp id=some (.ar false c))∧off=0∧∃ws,p=.tup ws)
 |[],_,_,_,k,p,id,off,hp,_=>by simp at hp
 |p::ps,i,l,h,k,p',id,off,Cy,hs=>by
  have Vo:∃l',Pd hp src (i+1) ps l':=by
   rcases h with⟨_,_,h3⟩|⟨x,l',_,_,h3⟩<;>exact⟨_,h3⟩
  cases k with
  |succ k=>
   obtain⟨l',h'⟩:=Vo;exact Ami h' k p' id off (by simpa using Cy) (by rw[show i+1+k=i+(k+1) by omega];exact hs)
  |zero=>
   simp only[List.getElem?_cons_zero,Option.some.injEq] at Cy;subst Cy;rw[Nat.add_zero] at hs;rcases h with⟨_,h2,_⟩|⟨x,l',_,h2,_⟩
   ·rw[hs] at h2;cases h2
   ·cases x with
    |var id' off' cts ws=>
     obtain⟨h3,h4,_,c,h5,h6⟩:=h2;rw[hs] at h4;cases h4;exact .inl ⟨c,ws,h5,h3,h6⟩
    |row id'=>
     obtain⟨h3,h4,c,h5⟩:=h2;rw[hs] at h4;cases h4;exact .inr ⟨⟨c,h5⟩,rfl,h3⟩
    |none=>
     have:=h2.2;rw[hs] at this;cases this
theorem TG {hp : Nat -> Option Bs} {src : Nat -> Nat -> Option (Nat × Nat)} {id off : Nat} {cts : List CT} {ws : List PV} : ∀ {ps : List PV} {i : Nat} {l : List Gm}, Pd hp src i ps l -> Gm.var id off cts ws ∈ l ->
      ∃ k, ps[k]? = some (.pbox ws) ∧ src (i + k) 0 = some (id, off)
  | [], _, _, h, hm => by
    have h : _ = [] := h
    rw[h] at hm; cases hm
  | p :: ps, i, l, h, hm => by
    have next : ∀ {l'}, Pd hp src (i + 1) ps l' -> Gm.var id off cts ws ∈ l' -> ∃ k, (p :: ps)[k]? = some (.pbox ws) ∧ src (i + k) 0 = some (id, off) := by
      intro l' h' J1
      obtain⟨k, h1, h2⟩ := TG h' J1
      exact⟨k + 1, by simpa using h1, by rw[show i + (k + 1) = i + 1 + k by omega]; exact h2⟩
    rcases h with⟨_, _, h3⟩ | ⟨x, l', rfl, h2, h3⟩
    · exact next h3 hm
    · rcases List.mem_cons.1 hm with e | hm
      · subst e
        obtain⟨h1, h4, _⟩ := h2
        subst h1
        exact⟨0, rfl, h4⟩
      · exact next h3 hm
theorem VD {hp:Nat->Option Bs}{src:Nat->Nat->Option (Nat × Nat)}:∀{ps:List PV}{i:Nat}{l:List Gm},Pd hp src i ps l->∀k id off,i<=k->src k 0=some (id,off)->k<i+ps.length->∃p,ps[k-i]?=some p∧Zp p=true
 |[],i,_,_,k,id,off,h1,_,h3=>by simp at h3;omega
 |p::ps,i,l,h,k,id,off,h1,h2,h3=>by
  by_cases e:k=i
  ·subst e;rcases h with⟨_,h4,_⟩|⟨x,l',_,h4,_⟩
   ·rw[h2] at h4;cases h4
   ·exact⟨p,by simp,Abl h4⟩
  ·have Vo:∃l',Pd hp src (i+1) ps l':=by
    rcases h with⟨_,_,h3⟩|⟨x,l',_,_,h3⟩<;>exact⟨_,h3⟩
   obtain⟨l',h'⟩:=Vo;obtain⟨q,h5,h6⟩:=VD h' k id off (by omega) h2 (by simp at h3;omega)
   refine⟨q,?_,h6⟩;rw[show k-i=(k-(i+1))+1 by omega]
   simpa using h5
theorem K0.len {bt:Zn}:∀{ps:List PV}{us:List Value}{i:Nat},K0 w A bt i ps us->ps.length=us.length
 |[],[],_,_=>rfl
 |[],_::_,_,h=>h.elim
 |_::_,[],_,h=>h.elim
 |_::_,_::_,_,h=>by simp[K0.len h.2]
theorem SZ (h:Cw N w0 X0 Y β s a w){G:Xg}(Ko:RV P G w0 X0){C:G1}{call:Am}(Dz:∀f args res,call f args=some res->Dh G P f args res){c:Call}{f:FuncId}(ho:o.op=.call c)(hc:c.callee=.value (.func f))
  {K:St->Option R} (hk:Z1 C P N call s o f c K=some r):
  ∃s',K s'=some r∧∀(next:Act->World->Prop) (Q:Exit->Act->World->Prop),(∀a' w' β',Cw N w0 X0 Y β' s' a' w'->next a' w')->o.wp P a w next Q:=by
 unfold Z1 at hk;obtain⟨vs0,m,x,l,src,Ea,hm,hx,hS,hL,E3⟩:=LB h hk;obtain⟨hb,Ep⟩:=Al Ea;simp only[Bool.and_eq_true] at hb;obtain⟨⟨⟨hnd,Aun⟩,hN⟩,Ad4⟩:=hb;have hN:0<N:=Nat.lt_of_succ_le (Nat.le_of_ble_eq_true hN);obtain⟨hnl,hnx,hlx⟩:=Ii hnd
 have hml:∀i∈m,i ∉ l.flatMap Gm.ids∧i ∉ x:=by
  intro i hi;have:=List.all_eq_true.1 Aun i hi
  have hn:∀k∈l.flatMap Gm.ids++x,i≠k:=by
   rintro k hk rfl
   have h2:(l.flatMap Gm.ids++x).any (Nat.beq i)=true:=List.any_eq_true.2 ⟨i,hk,Nat.beq_refl i⟩;rw[h2] at this;cases this
  exact⟨fun hq=>hn i (by simp only[List.mem_append];exact .inl hq) rfl,fun hq=>hn i (by simp only[List.mem_append];exact .inr hq) rfl⟩
 replace hL:=Rm (C.kz f) (xs:=c.args.toList) hL
 replace E3:=fun fz h1 h2 bt Xb=>X4 (a:=a) (C.kz f) (E3 fz h1 h2 bt Xb)
 generalize Ji (C.kz f) c.args.toList vs0=vs at Ep E3 hL;obtain⟨rv,ro,I7,Lk⟩:=KS Ep;obtain⟨ws,bs,Uj,hwl,hnt,EM,hrs,XX,hws⟩:=BF (C.shr f) N Lk;obtain⟨Qi,hk5⟩:=Al Uj;obtain⟨lids,JL⟩:∃lids,l.flatMap Gm.ids=lids:=⟨_,rfl⟩;rw[JL] at hS hnl hlx hml;have A1z:∀i,i ∉ x->Ts (Ag s.hp m) x i=Ag s.hp m i:=fun i hi=>by rw[F3,if_neg hi]
 have Acl:∀i,i∈lids->Ts (Ag s.hp m) x i=s.hp i:=fun i hi=>by
  rw[A1z i (hlx i hi),B0,if_neg (fun hq=>(hml i hq).1 hi)]
 have hLM:Pd (Ts (Ag s.hp m) x) src 0 vs l:=Yd (fun i hi=>Acl i (JL ▸ hi)) hL
 obtain⟨Cy,bs',qs,hk6,hbq,Se,Jm,E7,Lg,hsh,PP⟩:=Sq (β:=β) (j:=Ls rv) hk5 hLM (by rw[JL];exact hnl)
 obtain⟨Pc,hk7⟩:=Al hk6;refine⟨_,hk7,fun next Q hn=>?_⟩
 clear hk Ea Ep Lk Uj hk5 hk6 hk7;rw[JL] at Lg;obtain⟨⟨fn,hfn,hfb⟩,EN⟩:=Dz f vs _ I7;have hf:=h.freeze hm;have Afu:=FT hL;rw[JL] at Afu
 have MW:∀i,i∈lids∨i∈x->Ag s.hp m i=s.hp i:=by
  intro i hi;rw[B0,if_neg];intro hq;rcases hi with hi|hi
  ·exact (hml i hq).1 hi
  ·exact (hml i hq).2 hi
 have Xu:∀i,i∈lids∨i∈x->Dd (s.hp i):=by
  intro i hi;rcases hi with hi|hi
  ·exact (Afu i hi).1
  ·obtain⟨cc,hcc⟩:=hx i hi;rw[hcc];trivial
 have A4l:∀i j id off,src i j=some (id,off)->id∈lids∨id∈x:=by
  intro i j id off hs;cases j with
  |zero=>exact .inl (hS.lent i id off hs)
  |succ j=>exact .inr (hS.mvd i j id off hs).2
 obtain⟨bt,Xb⟩:∃bt:Zn,∀i j,bt i j=(src i j).bind (Gu β):=⟨_,fun _ _=>rfl⟩
 have btS:∀{i j b ob},bt i j=some (b,ob)->∃id off o',src i j=some (id,off)∧β id=some (b,o')∧ob=o'+off∧(id∈lids∨id∈x):=by
  intro i j b ob hb;rw[Xb] at hb;cases hs:src i j with
  |none=>rw[hs] at hb;cases hb
  |some q=>
   rw[hs] at hb;obtain⟨id,off⟩:=q;simp only[Option.bind_some,Gu] at hb;cases hβ:β id with
   |none=>rw[hβ] at hb;cases hb
   |some p=>
    rw[hβ] at hb;obtain⟨b',o'⟩:=p;simp only[Option.map_some,Option.some.injEq,Prod.mk.injEq] at hb;obtain⟨rfl,rfl⟩:=hb;exact⟨id,off,o',rfl,hβ,rfl,A4l i j id off hs⟩
 have btX:∀{b},BtX bt b->∃id o',β id=some (b,o')∧(id∈lids∨id∈x):=by
  rintro b ⟨i,j,ob,hb⟩
  obtain⟨id,off,o',_,h2,_,h4⟩:=btS hb;exact⟨id,o',h2,h4⟩
 have hBA:∀b,BtX bt b->NZ s.hp β b:=fun b hb=>by
  obtain⟨id,o',h1,h2⟩:=btX hb;exact⟨id,o',Xu id h2,h1⟩
 obtain⟨Yc,hYc⟩:∃Yc:Nat->Prop,∀b,Yc b↔((∃id ob,Dd (Ag s.hp m id)∧β id=some (b,ob)∧id ∉ lids∧id ∉ x)∨Y b):=⟨_,fun _=>Iff.rfl⟩
 have C6:vs.length=c.args.toList.length:=by
  have:=(E3 m (fun _ hi=>hi) hm bt Xb).len
  simpa using this
 have Bb3:Ins w Yc bt vs (c.args.toList.map a.eval):=by
  refine⟨fun b hb=>?_,fun b hb hB=>?_,fun b hB=>?_,fun i j i' j' b ob ob' hb H5=>?_,fun i q hq=>?_,?_⟩
  ·rcases (hYc b).1 hb with⟨id,ob,hl,hβ,_⟩|hY
   ·exact hf.blt id b ob (Cz hl) hβ
   ·exact Nat.lt_of_lt_of_le (h.Ylt b hY) h.fr.step.size
  ·obtain⟨id',o',h1,h2⟩:=btX hB;rcases (hYc b).1 hb with⟨id,ob,hl,hβ,h3,h4⟩|hY
   ·have:=hf.inj id id' b ob o' hl (by show Dd (Ag s.hp m id');rw[MW id' h2];exact Xu id' h2) hβ h1
    subst this;rcases h2 with h2|h2
    ·exact h3 h2
    ·exact h4 h2
   ·exact h.Yx b hY ⟨id',o',Xu id' h2,h1⟩
  ·obtain⟨id',o',h1,h2⟩:=btX hB;exact h.blt id' b o' (Cz (Xu id' h2)) h1
  ·obtain⟨id,off,o1,h1,h2,_,h4⟩:=btS hb;obtain⟨id',off',o1',PB,h2',_,h4'⟩:=btS H5;have:=h.inj id id' b o1 o1' (Xu id h4) (Xu id' h4') h2 h2';subst this;cases j with
   |zero=>
    cases j' with
    |zero=>exact⟨hS.inj0 hnl i i' id off off' h1 PB,rfl⟩
    |succ j'=>exact absurd (hS.mvd i' j' id off' PB).2 (hlx id (hS.lent i id off h1))
   |succ j=>
    cases j' with
    |zero=>exact absurd (hS.mvd i j id off h1).2 (hlx id (hS.lent i' id off' PB))
    |succ j'=>
     obtain⟨h5,h6⟩:=hS.inj1 hnx i i' j j' id off off' h1 PB;exact⟨h5,by rw[h6]⟩
  ·obtain⟨b,ob⟩:=q;obtain⟨id,off,o',h1,_⟩:=btS hq;obtain⟨p,hp,h2⟩:=VD hL i id off (Nat.zero_le _) h1 (by have:=hS.dom i 0 _ h1;rw[C6];exact this.2)
   exact⟨p,by simpa using hp,h2⟩
  ·refine (E3 m (fun _ hi=>hi) hm bt Xb).weak fun b _ hb=>?_
   rcases hb with hb|hb
   ·obtain⟨id',o',h1,h2⟩:=btX hb;exact .inl ⟨id',o',by rw[MW id' h2];exact Xu id' h2,h1⟩
   ·rcases (hYc b).1 hb with⟨id,ob,hl,hβ,_⟩|hY
    ·exact .inl ⟨id,ob,hl,hβ⟩
    ·exact .inr hY
 unfold Oper.wp;rw[SH ho hc Ko.ng hfn hfb];show Calls P f _ w _;have hca:c.args.map a.eval=(c.args.toList.map a.eval).toArray:=by rw[←List.map_toArray,Array.toArray_toList]
 rw[hca];refine (EN w Yc bt _ Bb3 (Ko.fr w h.fr) (fun b x=>⟨Nat.lt_of_lt_of_le (Ko.y b x).1 h.fr.step.size,fun hB=>(h.ownd b (hBA b hB)).elim (Ko.y b x).2 (fun CJ=>absurd (Ko.y b x).1 (Nat.not_lt.2 CJ))⟩)).mono ?_
 rintro e w' ⟨us,own,rfl,out⟩
 obtain⟨ha1,Kl⟩:=Bn Pc;obtain⟨hg1,hg2⟩:=Ei (hp:=Cy) Kl;have Aab:=Rn Pc;rw[List.map_append,List.nodup_append] at Aab;obtain⟨Bgp,A5p,A7m⟩:=Aab;rw[hbq] at A5p
 obtain⟨β1,hβ1,hβ2⟩:∃β1:Bt,(∀i,(∃bx,(i,bx)∈bs)->β1 i=own ((i-o.dst.getD N) / N))∧∀i,(¬∃bx,(i,bx)∈bs)->β1 i=match Vd qs i with|some j=>own j|none=>β i:=by
  refine⟨fun i=>if (bs.any fun q=>Nat.beq q.1 i)=true then own ((i-o.dst.getD N) / N) else match Vd qs i with|some j=>own j|none=>β i,fun i hi=>?_,fun i hi=>?_⟩
  ·show (if _ then _ else _)=_
   rw[if_pos (NW.2 hi)]
  ·show (if _ then _ else _)=_
   rw[if_neg (fun hq=>hi (NW.1 hq))]
 have hβbs:∀j,(∃bx,(o.dst.getD N+N*j,bx)∈bs)->β1 (o.dst.getD N+N*j)=own (0+j):=by
  intro j hj;rw[hβ1 _ hj,Nat.add_sub_cancel_left,Nat.mul_div_cancel_left _ hN,Nat.zero_add]
 have hqb:∀q∈qs,∃bx,(q.1,bx)∈bs':=by
  intro q hq;have:q.1∈bs'.map (·.1):=by rw[hbq];exact List.mem_map_of_mem hq
  obtain⟨⟨i,bx⟩,hm,e⟩:=List.mem_map.1 this;exact⟨bx,e ▸ hm⟩
 have A7o:∀i bx,(i,bx)∈bs'->∃j,(i,j)∈qs:=by
  intro i bx hm;have:i∈qs.map (·.1):=by rw[←hbq];exact List.mem_map.2 ⟨_,hm,rfl⟩
  obtain⟨⟨i',j⟩,hm,e⟩:=List.mem_map.1 this;exact⟨j,e ▸ hm⟩
 have hbb:∀i,(∃bx,(i,bx)∈bs')->¬∃bx,(i,bx)∈bs:=by
  rintro i ⟨bx,hm⟩ ⟨bx',J1⟩
  exact A7m i (List.mem_map.2 ⟨_,J1,rfl⟩) i (List.mem_map.2 ⟨_,hm,rfl⟩) rfl
 have hβqs:∀q∈qs,β1 q.1=own q.2:=by
  intro q hq;rw[hβ2 q.1 (hbb q.1 (hqb q hq)),Aj5 A5p q hq]
 have hβold:∀i,Cy i≠none->β1 i=β i:=by
  intro i hi
  have UH:¬∃bx,(i,bx)∈bs:=by
   rintro⟨bx,hm⟩
   exact hi (ha1 i bx (List.mem_append.2 (.inl hm)))
  rw[hβ2 i UH,VE];intro hm;obtain⟨q,hq,e⟩:=List.mem_map.1 hm;obtain⟨bx,Lj⟩:=hqb q hq;exact hi (ha1 i bx (List.mem_append.2 (.inr (e ▸ Lj))))
 obtain⟨Rz,hba⟩:=hws w' _ own β1 w.heap.size 0 us hβbs out.vals;obtain⟨A95,A41⟩:=PP w' _ own β1 bt hβqs (fun i=>Xb i 0) out.outs
 have As0:∀id∈lids,∃y∈l,id∈y.ids:=by
  intro id Bm;rw[←JL] at Bm;exact List.mem_flatMap.1 Bm
 have Apf:∀id∈lids,(∃off c cs,s.hp id=some (.st c)∧Cy id=some (.st (Ca c cs off))∧off+cs.length<=c.length∧(∀p∈cs,∀i∈As p,∃bx,(i,bx)∈bs'))∨∃c cs,s.hp id=some (.ar false c)∧Cy id=some (.ar false cs):=by
  intro id Bm;obtain⟨y,hy,hyi⟩:=As0 id Bm;have h1:=hsh y hy;cases y with
  |var id' off cts ws'=>
   simp only[Gm.ids,List.mem_singleton] at hyi;subst hyi;obtain⟨c1,cs,h2,h3,h4,h5,h6⟩:=h1;rw[Acl id Bm] at h2;exact .inl ⟨off,c1,cs,h2,h3,h5,h6⟩
  |row id'=>
   simp only[Gm.ids,List.mem_singleton] at hyi;subst hyi;obtain⟨c1,cs,h2,h3⟩:=h1;rw[Acl id Bm] at h2;exact .inr ⟨c1,cs,h2,h3⟩
  |none=>simp[Gm.ids] at hyi
 have A98:∀id∈lids,Cy id≠none:=by
  intro id Bm;rcases Apf id Bm with⟨_,_,_,_,h2,_⟩|⟨_,_,_,h2⟩<;>rw[h2]<;>simp
 have hpK:∀id,id ∉ lids->Cy id=Ts (Ag s.hp m) x id:=fun id Bm=>Lg id Bm
 have N7:∀i,s.hp i≠none->Cy i≠none:=by
  intro i hi;by_cases hl:i∈lids
  ·exact A98 i hl
  ·rw[hpK i hl,F3];have h1:Ag s.hp m i≠none:=fun e=>hi (D7.1 e)
   split
   ·cases hq:Ag s.hp m i with
    |none=>exact absurd hq h1
    |some b=>simp
   ·exact h1
 have Aqm:∀i,(s.hp i≠none∨∃bx,(i,bx)∈bs++bs')->At Cy (bs++bs') i≠none:=by
  rintro i (hi|⟨bx,hm⟩)
  ·have h1:=N7 i hi;rw[hg2 i (fun bx hm=>h1 (ha1 i bx hm))]
   exact h1
  ·rw[hg1 i bx hm];simp
 have G6:∀id,(∃bx,(id,bx)∈bs++bs')∨At Cy (bs++bs') id=Cy id:=fun id=>by
  by_cases hx:∃bx,(id,bx)∈bs++bs'
  ·exact .inl hx
  ·exact .inr (hg2 id fun bx hb=>hx ⟨bx,hb⟩)
 have hold:∀id bx,Cy id=some bx->Dd (some bx)->Dd (s.hp id)∧id ∉ x∧(id∈lids∨(id ∉ lids∧Ag s.hp m id=some bx)):=by
  intro id bx hb hl;by_cases Bm:id∈lids
  ·exact⟨Xu id (.inl Bm),hlx id Bm,.inl Bm⟩
  ·rw[hpK id Bm,F3] at hb;split at hb
   ·cases hq:Ag s.hp m id with
    |none=>rw[hq] at hb;cases hb
    |some b=>rw[hq] at hb;simp at hb;subst hb;exact hl.elim
   ·rename_i hxn;exact⟨by rw[Ij hb hl];exact hl,hxn,.inr ⟨Bm,hb⟩⟩
 have Wc:∀i bx,(i,bx)∈bs++bs'->∃j,β1 i=own j∧((i=o.dst.getD N+N*j∧j<Ls rv)∨((i,j)∈qs∧Ls rv<=j)):=by
  intro i bx hm;rcases List.mem_append.1 hm with hm|hm
  ·obtain⟨⟨j,rfl,hj⟩,_⟩:=hba i bx hm;exact⟨j,by rw[hβbs j ⟨bx,hm⟩,Nat.zero_add],.inl ⟨rfl,hj⟩⟩
  ·obtain⟨j,hj⟩:=A7o i bx hm;exact⟨j,hβqs _ hj,.inr ⟨hj,(Se _ hj).2⟩⟩
 have Arp:∀i bx,(i,bx)∈bs++bs'->Dd (some bx)∧Q4 w' (GQ bt own Yc) β1 i bx∧∀cs,bx=.st cs->∀b ob,β1 i=some (b,ob)->w.heap.size<=b:=by
  intro i bx hm;rcases List.mem_append.1 hm with hm|hm
  ·exact (hba i bx hm).2
  ·obtain⟨cc,rfl⟩:=E7 i bx hm;exact⟨trivial,A95 i _ hm,fun cs e=>by cases e⟩
 have Ati:∀b,(∃i k o',bt i (k+1)=some (b,o'))->∃id o',id∈x∧β id=some (b,o'):=by
  rintro b ⟨i,k,o',hb⟩
  obtain⟨id,off,o1,h1,h2,_,_⟩:=btS hb;exact⟨id,o1,(hS.mvd i k id off h1).2,h2⟩
 have hX:∀b,b<w.heap.size->NZ (At Cy (bs++bs')) β1 b->NZ s.hp β b:=by
  rintro b hb ⟨id,ob,hl,hβ⟩
  rcases G6 id with⟨bx,hm⟩|e
  ·obtain⟨j,hj,_⟩:=Wc id bx hm;rw[hj] at hβ;obtain⟨id',o',h1,h2⟩:=Ati b ((out.fresh j b ob hβ).2 hb).1;exact⟨id',o',Xu id' (.inr h1),h2⟩
  ·rw[e] at hl;cases hq:Cy id with
   |none=>rw[hq] at hl;exact hl.elim
   |some bx=>
    rw[hq] at hl;exact⟨id,ob,(hold id bx hq hl).1,by rw[←hβold id (by rw[hq];simp)];exact hβ⟩
 have hAo:∀b,b<w.heap.size->Db (At Cy (bs++bs')) β1 Y b->Db s.hp β Y b:=fun b hb hA=>hA.imp (hX b hb) id
 have hAO:∀b,Db (At Cy (bs++bs')) β1 Y b->GQ bt own Yc b:=by
  rintro b (⟨id,ob,hl,hβ⟩|hY)
  ·rcases G6 id with⟨bx,hm⟩|e
   ·obtain⟨j,hj,_⟩:=Wc id bx hm;rw[hj] at hβ;exact .inl ⟨j,ob,hβ⟩
   ·rw[e] at hl;cases hq:Cy id with
    |none=>rw[hq] at hl;exact hl.elim
    |some bx=>
     rw[hq] at hl;rw[hβold id (by rw[hq];simp)] at hβ
     obtain⟨h1,h2,h3⟩:=hold id bx hq hl;rcases h3 with h3|⟨h3,h4⟩
     ·obtain⟨_,i,off,hs⟩:=Afu id h3;exact .inr (.inl ⟨i,ob+off,by rw[Xb,hs];simp[Gu,hβ]⟩)
     ·exact .inr (.inr ((hYc b).2 (.inl ⟨id,ob,by rw[h4];exact hl,hβ,h3,h2⟩)))
  ·exact .inr (.inr ((hYc b).2 (.inr hY)))
 have F8:Cc (Db s.hp β Y) w w':=out.ext.weaken (fun b _ hb=>.inl (hBA b hb))
 have Anh:∀i,s.hp i≠none->β1 i=β i:=fun i hi=>hβold i (N7 i hi)
 have hCL:∀b j,ES bt vs b j->∃id o' bx,s.hp id=some bx∧Dd (some bx)∧β id=some (b,o')∧BR bx o' j:=by
  rintro b j ⟨i,p,hp,⟨k,ob,hb,CJ⟩|⟨ob,ps,hb,CJ,Qu⟩⟩
  ·obtain⟨id,off,o',h1,h2,h3,_⟩:=btS hb;obtain⟨h5,h6⟩:=hS.mvd i k id off h1;obtain⟨cc,hcc⟩:=hx id h6;exact⟨id,o',_,hcc,trivial,h2,show o'<=j by omega⟩
  ·obtain⟨id,off,o',h1,h2,h3,_⟩:=btS hb;rcases Ami hL i p id off hp (by rw[Nat.zero_add];exact h1) with⟨c1,wz,h5,h6,h7⟩|⟨⟨c1,h5⟩,_⟩
   ·rcases Qu with⟨h8,h9⟩|h8
    ·rw[h6] at h8;cases h8;exact⟨id,o',_,h5,trivial,h2,show o'<=j∧j<o'+c1.length by omega⟩
    ·rw[h6] at h8;cases h8
   ·exact⟨id,o',_,h5,trivial,h2,show o'<=j by omega⟩
 have hnL:∀id off cts wz,Gm.var id off cts wz∈l->id∈lids->∀b ob,β id=some (b,ob)->∀j,(j<off∨off+wz.length<=j)->(∃c1,s.hp id=some (.st c1))->¬ES bt vs b (ob+j):=by
  rintro id off cts wz hy Bm b ob hβ j hj ⟨c1,IZ⟩ ⟨i,p,hp,⟨k,ob',hb,CJ⟩|⟨ob',ps,hb,CJ,Qu⟩⟩
  ·obtain⟨id',off',o',h1,h2,h3,h4⟩:=btS hb;have:=h.inj id id' b ob o' (Xu id (.inl Bm)) (Xu id' h4) hβ h2;subst this;exact hlx id Bm (hS.mvd i k id off' h1).2
  ·obtain⟨id',off',o',h1,h2,h3,h4⟩:=btS hb;have:=h.inj id id' b ob o' (Xu id (.inl Bm)) (Xu id' h4) hβ h2;subst this;rw[hβ] at h2;cases h2;obtain⟨k,Ea,Ep⟩:=TG hL hy;rw[Nat.zero_add] at Ep;have hik:=hS.inj0 hnl i k id off' off h1 Ep;subst hik;rw[h1] at Ep;cases Ep;rw[hp] at Ea;cases Ea;rcases Qu with⟨h8,h9⟩|h8
   ·cases h8;omega
   ·cases h8
 have hval:El w' (Db (At Cy (bs++bs')) β1 Y) β1 (Nb ws (O3 P o.type)) (H1 us):=by
  have N3:Bh (Hy w' (Db (At Cy (bs++bs')) β1 Y) β1) ws us:=Rz.mono fun v u hvu=>hvu.step (Cc.refl _ _) (fun b _=>hAO b) (fun _ _=>rfl)
  have C6:=N3.len;cases hT:O3 P o.type
  ·rw[hT] at Qi;have h1:ws.length=1:=Nat.eq_of_beq_eq_true Qi
   match ws,us,h1,C6 with
   |[v],[u],_,_=>
    exact (Ok (hnt v (by simp))).2 N3.1
  ·rw[hT] at Qi
   have h1:¬ws.length=1:=by
    intro e;rw[e] at Qi;cases Qi
   have hr:H1 us=.tuple ⟨us⟩:=by
    unfold H1;split
    ·simp at C6;omega
    ·rfl
   rw[hr];exact⟨us,rfl,N3⟩
 have hvr:∀i∈Bx (Nb ws (O3 P o.type)),∃bx,(i,bx)∈bs:=by
  intro i hi;cases hT:O3 P o.type
  ·rw[hT] at Qi hi;have h1:ws.length=1:=Nat.eq_of_beq_eq_true Qi
   match ws,h1 with
   |[v],_=>
    refine hrs v (by simp) i ?_
    have:Bx v=Cf v:=by
     have hn:=hnt v (by simp)
     cases v<;>first|rfl|exact absurd rfl (hn _)
    rw[←this];exact hi
  ·rw[hT] at hi;obtain⟨v,hv,hi⟩:=List.mem_flatMap.1 (show i∈ws.flatMap Cf from hi)
   exact hrs v hv i hi
 refine hn _ w' β1 ?_;refine⟨by rw[Ro];exact h.dfr,by rw[Ya];exact h.tsz,NT Ad4 h.tmo,?_,?_,?_,?_,?_,?_,?_,?_,?_,?_,?_,h.Ylt,?_⟩
 ·refine Oz (Q:=fun _ p u=>El w' (Db (At Cy (bs++bs')) β1 Y) β1 p u) h.tsz Ad4 (fun i hi=>?_) (fun _=>hval)
  exact (h.tms i hi).step F8 hAo fun id Bm=>Anh id (h.wfT i hi id Bm)
 ·intro id bx hb;simp only at hb;rcases G6 id with⟨bx',J1⟩|e
  ·rw[hg1 id bx' J1] at hb;cases hb;exact (Arp id _ J1).2.1.step' hAO
  ·rw[e] at hb;have hβ:=hβold id (by rw[hb];simp)
   by_cases Bm:id∈lids
   ·obtain⟨y,hy,hyi⟩:=As0 id Bm;have h1:=A41 y hy;cases y with
    |var id' off cts wz=>
     simp only[Gm.ids,List.mem_singleton] at hyi;subst hyi;obtain⟨c1,cs,h2,h3,h4,h5,h6⟩:=h1;rw[Acl id Bm] at h2;rw[h3] at hb;cases hb;obtain⟨b,ob,h7,h8,h9⟩:=h.box id _ h2;obtain⟨h10,h11⟩:=h6 b ob h7;have Cb:=h.blt id b ob (by rw[h2];simp) h7
     have BT:∀j,(j<off∨off+wz.length<=j)->w'.cell? ⟨b,ob+j,none⟩=w.cell? ⟨b,ob+j,none⟩∧w'.frozen? ⟨b,ob+j,none⟩=w.frozen? ⟨b,ob+j,none⟩:=
      fun j hj=>out.rng b (ob+j) Cb (hnL id off cts wz hy Bm b ob h7 j hj ⟨c1,h2⟩)
     refine⟨b,ob,hβ.trans h7,fun j p hj=>?_,fun j hj=>?_⟩
     ·rcases Qv (by omega) hj with⟨h12,h13,h14⟩|⟨h12,h14⟩
      ·obtain⟨v,hv,NB⟩:=h10 _ _ h14;refine⟨v,?_,NB.step (Cc.refl _ _) (fun b _=>hAO b) (fun _ _=>rfl)⟩
       rw[show ob+j=ob+off+(j-off) by omega]
       exact hv
      ·obtain⟨v,hv,NB⟩:=h8 _ _ h14;refine⟨v,by rw[(BT j (by omega)).1];exact hv,NB.step F8 hAo fun i hi=>Anh i (h.wfB id c1 h2 p (List.mem_of_getElem? h14) i hi)⟩
     ·rw[Re (by omega)] at hj
      by_cases O7:off<=j∧j<off+cs.length
      ·have:=h11 (j-off) (by omega)
       rw[show ob+off+(j-off)=ob+j by omega] at this
       exact this
      ·rw[(BT j (by omega)).2]
       exact h9 j hj
    |row id'=>
     simp only[Gm.ids,List.mem_singleton] at hyi;subst hyi;obtain⟨cs,h3,h4⟩:=h1;rw[h3] at hb;cases hb;rcases h4 with⟨h5,h6⟩|⟨b,ob,h5,h6,h7⟩
     ·exact .inl ⟨hβ.trans h5,h6⟩
     ·exact .inr ⟨b,ob,hβ.trans h5,h6.weak (fun b _=>hAO b),fun _=>h7,(fun q=>by cases q)⟩
    |none=>simp[Gm.ids] at hyi
   ·rw[hpK id Bm,F3] at hb;split at hb
    ·cases hq:Ag s.hp m id with
     |none=>rw[hq] at hb;cases hb
     |some b0=>rw[hq] at hb;simp at hb;subst hb;trivial
    ·rename_i hxn;have Lj:=hf.box id bx hb
     have Ahc:∀b ob,β id=some (b,ob)->bx ≠ .mv->b<w.heap.size∧w'.heap[b]?=w.heap[b]?:=by
      intro b ob JS hmv;have Cb:=hf.blt id b ob (by show Ag s.hp m id≠none;rw[hb];simp) JS
      refine⟨Cb,out.ext.keep b Cb fun hB=>?_⟩
      obtain⟨id',o',h1,h2⟩:=btX hB;have Ke:Dd (Ag s.hp m id'):=by rw[MW id' h2];exact Xu id' h2
      have Y2:id≠id':=by
       rintro rfl
       rcases h2 with h2|h2
       ·exact Bm h2
       ·exact hxn h2
      cases bx with
      |st cc=>exact Y2 (hf.inj id id' b ob o' (by show Dd (Ag s.hp m id);rw[hb];trivial) Ke JS h1)
      |ar fz cc=>
       cases fz with
       |false=>exact Y2 (hf.inj id id' b ob o' (by show Dd (Ag s.hp m id);rw[hb];trivial) Ke JS h1)
       |true=>
        rcases Lj with⟨h3,_⟩|⟨b2,o2,h3,_,_,h4⟩
        ·rw[JS] at h3;cases h3
        ·rw[JS] at h3;cases h3;exact h4 rfl (.inl ⟨id',o',Ke,h1⟩)
      |mv=>exact hmv rfl
     have hAoF:∀b,b<w.heap.size->Db (At Cy (bs++bs')) β1 Y b->Db (Ag s.hp m) β Y b:=by
      intro b E7 hA;rcases hA with⟨i,ob,hl,hβi⟩|hY
      ·rcases G6 i with⟨bx1,JT⟩|e1
       ·obtain⟨j,hj,_⟩:=Wc i bx1 JT;rw[hj] at hβi;obtain⟨id',o',h1,h2⟩:=Ati b ((out.fresh j b ob hβi).2 E7).1;exact .inl ⟨id',o',by rw[MW id' (.inr h1)];exact Xu id' (.inr h1),h2⟩
       ·rw[e1] at hl;cases hq:Cy i with
        |none=>rw[hq] at hl;exact hl.elim
        |some bx1=>
         rw[hq] at hl;rw[hβold i (by rw[hq];simp)] at hβi
         obtain⟨h1,h2,h3⟩:=hold i bx1 hq hl;rcases h3 with h3|⟨h3,h4⟩
         ·exact .inl ⟨i,ob,by rw[MW i (.inl h3)];exact h1,hβi⟩
         ·exact .inl ⟨i,ob,by rw[h4];exact hl,hβi⟩
      ·exact .inr hY
     have A2l:Cc (Db (Ag s.hp m) β Y) w w':=out.ext.weaken (fun b _ hB=>by
      obtain⟨id',o',h1,h2⟩:=btX hB;exact .inl ⟨id',o',by rw[MW id' h2];exact Xu id' h2,h1⟩)
     cases bx with
     |st cc=>
      obtain⟨b,ob,h1,h2,h3⟩:=Lj;obtain⟨Cb,Qt⟩:=Ahc b ob h1 (by simp)
      refine⟨b,ob,hβ.trans h1,fun j p hj=>?_,fun j hj=>?_⟩
      ·obtain⟨v,hv,NB⟩:=h2 j p hj;refine⟨v,by rw[World.cell?_of_block (w:=w) Qt];exact hv,NB.step A2l hAoF fun i hi=>?_⟩
       refine Anh i (fun e1=>?_)
       exact hf.wfB id cc hb p (List.mem_of_getElem? hj) i hi (D7.2 e1)
      ·rw[World.frozen?_of_block (w:=w) Qt];exact h3 j hj
     |ar fz cc=>
      rcases Lj with⟨h1,h2⟩|⟨b,ob,h1,h2,h3,h4⟩
      ·exact .inl ⟨hβ.trans h1,h2⟩
      ·obtain⟨Cb,Qt⟩:=Ahc b ob h1 (by simp)
       have KC:bsz w' b=bsz w b:=by unfold bsz;rw[Qt]
       refine .inr ⟨b,ob,hβ.trans h1,fun j p hj=>?_,fun e1 j hj Sd=>?_,fun e1 q=>h4 e1 (hAoF b Cb q)⟩
       ·obtain⟨v,hv,h5,IZ⟩:=h2 j p hj;exact⟨v,by rw[World.cell?_of_block (w:=w) (by rw[E1];exact Qt)];exact hv,h5,IZ.step A2l hAoF⟩
       ·rw[World.frozen?_of_block (w:=w) Qt];exact h3 e1 j hj (by rw[←KC];exact Sd)
     |mv=>trivial
 ·intro id id' b ob ob' hl Ke hb H5;simp only at hl Ke
  have mixed:∀i bx i' k z,(i,bx)∈bs++bs'->β1 i=some (k,z)->Cy i'≠none->Dd (Cy i')->∀z',β1 i'=some (k,z')->False:=by
   intro i bx i' k z JT hz UH GT z' hz';obtain⟨j,hj,_⟩:=Wc i bx JT;rw[hj] at hz;rw[hβold i' UH] at hz';cases hq:Cy i' with
   |none=>exact UH hq
   |some bx1=>
    rw[hq] at GT;obtain⟨h1,h2,h3⟩:=hold i' bx1 hq GT;have Cb:=h.blt i' k z' (Cz h1) hz';obtain⟨id2,o2,h4,h5⟩:=Ati k ((out.fresh j k z hz).2 Cb).1;have:=h.inj i' id2 k z' o2 h1 (Xu id2 (.inr h4)) hz' h5;subst this;exact h2 h4
  rcases G6 id with⟨bx,JT⟩|e1
  ·rcases G6 id' with⟨bx',hm2⟩|e2
   ·obtain⟨j,hj,Qu⟩:=Wc id bx JT;obtain⟨j',Sd,A3e⟩:=Wc id' bx' hm2;rw[hj] at hb;rw[Sd] at H5;have:=out.inj j j' b ob ob' hb H5;subst this;rcases Qu with⟨h1,h2⟩|⟨h1,h2⟩
    ·rcases A3e with⟨h3,_⟩|⟨_,h4⟩
     ·rw[h1,h3]
     ·omega
    ·rcases A3e with⟨_,h4⟩|⟨h3,_⟩
     ·omega
     ·exact Jm _ h1 _ h3 rfl
   ·rw[e2] at Ke;exact (mixed id bx id' b ob JT hb (Cz Ke) Ke ob' H5).elim
  ·rw[e1] at hl;rcases G6 id' with⟨bx',hm2⟩|e2
   ·exact (mixed id' bx' id b ob' hm2 H5 (Cz hl) hl ob hb).elim
   ·rw[e2] at Ke
    have g:∀i,Dd (Cy i)->Dd (s.hp i)∧β1 i=β i:=by
     intro i hli;cases hq:Cy i with
     |none=>rw[hq] at hli;exact hli.elim
     |some bx1=>exact⟨(hold i bx1 hq (by rw[←hq];exact hli)).1,hβold i (by rw[hq];simp)⟩
    rw[(g id hl).2] at hb;rw[(g id' Ke).2] at H5;exact h.inj id id' b ob ob' (g id hl).1 (g id' Ke).1 hb H5
 ·intro id b ob UH hb;simp only at UH;rcases G6 id with⟨bx,JT⟩|e1
  ·obtain⟨j,hj,_⟩:=Wc id bx JT;rw[hj] at hb;exact (out.fresh j b ob hb).1
  ·rw[e1] at UH;rw[hβold id UH] at hb
   have hn2:s.hp id≠none:=by
    by_cases Bm:id∈lids
    ·exact Cz (Xu id (.inl Bm))
    ·rw[hpK id Bm,F3] at UH;intro e2;have h1:Ag s.hp m id=none:=D7.2 e2;rw[h1] at UH;split at UH<;>exact UH rfl
   exact Nat.lt_of_lt_of_le (h.blt id b ob hn2 hb) out.ext.size
 ·have:=Oz (Q:=fun _ p _=>∀id∈Bx p,At Cy (bs++bs') id≠none) (val:=H1 us) (d:=o.dst) (v:=Nb ws (O3 P o.type)) h.tsz Ad4 (fun i hi id Bm=>Aqm id (.inl (h.wfT i hi id Bm))) (fun _ id Bm=>Aqm id (.inr (by
   obtain⟨bx,hb⟩:=hvr id Bm;exact⟨bx,List.mem_append.2 (.inl hb)⟩)))
  exact this
 ·intro id cells NR p hp i hi;simp only at NR;refine Aqm i ?_;rcases G6 id with⟨bx,JT⟩|e1
  ·rw[hg1 id bx JT] at NR;cases NR;rcases List.mem_append.1 JT with JT|JT
   ·obtain⟨bx1,hb⟩:=XX id cells JT p hp i hi;exact .inr ⟨bx1,List.mem_append.2 (.inl hb)⟩
   ·obtain⟨cc,e2⟩:=E7 id _ JT;cases e2
  ·rw[e1] at NR;by_cases Bm:id∈lids
   ·rcases Apf id Bm with⟨off,c1,cs,h1,h2,h3,h4⟩|⟨c1,cs,h1,h2⟩
    ·rw[h2] at NR;cases NR;unfold Ca at hp;rcases List.mem_append.1 hp with hp|hp
     ·rcases List.mem_append.1 hp with hp|hp
      ·exact .inl (h.wfB id c1 h1 p (List.mem_of_mem_take hp) i hi)
      ·obtain⟨bx1,hb⟩:=h4 p hp i hi;exact .inr ⟨bx1,List.mem_append.2 (.inr hb)⟩
     ·exact .inl (h.wfB id c1 h1 p (List.mem_of_mem_drop hp) i hi)
    ·rw[h2] at NR;cases NR
   ·obtain⟨_,_,h3⟩:=hold id _ NR trivial;rcases h3 with h3|⟨_,h3⟩
    ·exact absurd h3 Bm
    ·exact .inl (h.wfB id cells (Ij h3 trivial) p hp i hi)
 ·rintro b ⟨id,ob,hl,hβ⟩
  rcases Nat.lt_or_ge b w.heap.size with Cb|hge
  ·exact h.ownd b (hX b Cb ⟨id,ob,hl,hβ⟩)
  ·exact .inr (Nat.le_trans h.fr.step.size hge)
 ·intro id bx b ob hb hl hβ Cb j hj;simp only at hb;have hlw:=Nat.lt_of_lt_of_le Cb h.fr.step.size;rcases G6 id with⟨bx',JT⟩|e1
  ·rw[hg1 id bx' JT] at hb;cases hb;obtain⟨k,hk,_⟩:=Wc id bx JT;rw[hk] at hβ
   have CJ:ob<=j:=by
    cases bx with
    |st cc=>exact hj.1
    |ar fz cc=>exact hj
    |mv=>exact hl.elim
   obtain⟨id2,o2,bx2,h1,h2,h3,h4⟩:=hCL b j (((out.fresh k b ob hβ).2 hlw).2 j CJ);exact h.rngB id2 bx2 b o2 h1 h2 h3 Cb j h4
  ·rw[e1] at hb;rw[hβold id (by rw[hb];simp)] at hβ
   obtain⟨h1,h2,h3⟩:=hold id bx hb hl;rcases h3 with h3|⟨h3,h4⟩
   ·rcases Apf id h3 with⟨off,c1,cs,h5,h6,h7,_⟩|⟨c1,cs,h5,h6⟩
    ·rw[h6] at hb;cases hb;have hj:ob<=j∧j<ob+(Ca c1 cs off).length:=hj;rw[Re (by omega)] at hj
     exact h.rngB id _ b ob h5 trivial hβ Cb j hj
    ·rw[h6] at hb;cases hb;exact h.rngB id _ b ob h5 trivial hβ Cb j hj
   ·exact h.rngB id bx b ob (Ij h4 hl) hl hβ Cb j hj
 ·intro i hi;obtain⟨h1,h2⟩:=h.pin i hi;exact⟨Aqm _ (.inl h1),by rw[Anh _ h1];exact h2⟩
 ·intro id cc b ob hb hβ Cb;simp only at hb;have hlw:=Nat.lt_of_lt_of_le Cb h.fr.step.size;rcases G6 id with⟨bx',JT⟩|e1
  ·rw[hg1 id bx' JT] at hb;cases hb;have:=(Arp id _ JT).2.2 cc rfl b ob hβ;omega
  ·rw[e1] at hb;rw[hβold id (by rw[hb];simp)] at hβ
   obtain⟨h1,h2,h3⟩:=hold id _ hb trivial;rcases h3 with h3|⟨h3,h4⟩
   ·rcases Apf id h3 with⟨off,c1,cs,h5,h6,h7,_⟩|⟨c1,cs,h5,h6⟩
    ·exact h.stp id c1 b ob h5 hβ Cb
    ·rw[h6] at hb;cases hb
   ·exact h.stp id cc b ob (Ij h4 trivial) hβ Cb
 ·intro b hY hXb;exact h.Yx b hY (hX b (Nat.lt_of_lt_of_le (h.Ylt b hY) h.fr.step.size) hXb)
 ·refine⟨out.os.trans h.fr.os,out.tape.trans h.fr.tape,out.output.trans h.fr.output,⟨Nat.le_trans h.fr.step.size out.ext.size,fun b hb hnX=>?_,fun b hb=>(h.fr.step.bs b hb).trans (out.ext.bs b (Nat.lt_of_lt_of_le hb h.fr.step.size))⟩,fun b j hb hnL=>?_⟩
  ·rw[out.ext.keep b (Nat.lt_of_lt_of_le hb h.fr.step.size) ?_]
   ·exact h.fr.step.keep b hb hnX
   ·intro hB;rcases h.ownd b (hBA b hB) with hq|hq
    ·exact hnX hq
    ·omega
  ·have Y2:¬ES bt vs b j:=by
    intro hq;obtain⟨id2,o2,bx2,h1,h2,h3,h4⟩:=hCL b j hq;exact hnL (h.rngB id2 bx2 b o2 h1 h2 h3 hb j h4)
   obtain⟨h1,h2⟩:=out.rng b j (Nat.lt_of_lt_of_le hb h.fr.step.size) Y2;rw[h1,h2];exact h.fr.rng b j hb hnL
end
open Go.RowKit
section
variable {R:Type} {r:R} {P:Program} {N:Nat} {w0:World} {X0:H0} {Y:Nat->Prop} {β β':Bt} {s:St} {a:Act} {w w':World} {o:Oper} {A:Nat->Prop}
theorem QB (h:Cw N w0 X0 Y β s a w){c:Call}(ho:o.op=.call c)(hc:c.callee=.builtin .append){d:Nat}(Ad4:o.dst=some d){b x:Operand}(E3:c.args.toList=[b,x]) {t tx:TypeId}{ts:List TypeId}(DK:c.argTypes.toList=t::tx::ts)
  {K:St->Option R} (hk:Ov P N s d t tx (B3 s.tm b) (B3 s.tm x) K=some r):
  ∃s',K s'=some r∧∀(next:Act->World->Prop) (Q:Exit->Act->World->Prop),(∀a' w' β',Cw N w0 X0 Y β' s' a' w'->next a' w')->o.wp P a w next Q:=by
 have FP:c.args = #[b,x]:=by
  have:c.args=([b,x]:List Operand).toArray:=by rw[←E3]
  exact this
 have SA:c.argTypes=(t::tx::ts).toArray:=by rw[←DK]
 have run:∀{v:Value} {w1:World},(Builtin.append_ (t::tx::ts).toArray o.type #[a.eval b,a.eval x]).run P w=.ok v w1->∀(next:Act->World->Prop) (Q:Exit->Act->World->Prop),next (a.put (some d) v) w1->o.wp P a w next Q:=by
  intro v w1 hr next Q hn;unfold Oper.wp execOp;rw[ho];simp only[resolve,hc,invoke,builtin,Sem.run_bind,Sem.run_pure,Result.andThen_ok,FP,SA];have:(#[b,x]:Array Operand).map a.eval = #[a.eval b,a.eval x]:=by simp
  rw[this,hr];show next (a.put o.dst v) w1;rw[Ad4];exact hn
 have hbv:=C4 h b;have RD:=E9 h b;unfold Ov at hk;split at hk
 ·rename_i e hu;obtain⟨hzi,hk⟩:=Al hk;obtain⟨i,z,hi,hz,hzs,My⟩:=FW hzi;cases hit:Y5 P tx
  rotate_left
  ·rw[hit] at hk;simp only[cond_true] at hk
   obtain⟨ki,htx⟩:∃k,P.underlying tx=some (.int k):=by
    unfold Y5 at hit;split at hit
    ·exact⟨_,by assumption⟩
    ·cases hit
   unfold Tf at hk;obtain⟨kx,n,hx,hk⟩:=Dn hk;obtain⟨zz,n',c',hk,hp⟩:=Fk hk;obtain⟨hb,hk⟩:=Al hk;simp only[Bool.and_eq_true,decide_eq_true_eq] at hb;obtain⟨⟨⟨⟨⟨hzz,hdN⟩,U7⟩,Zo⟩,hby⟩,JI⟩:=hb;have hdN:d<N:=Nat.lt_of_succ_le (Nat.le_of_ble_eq_true hdN);have U7:s.hp d=none:=by simpa using U7
   have Abb:Gb N (some d)=true:=by simp[Gb,Nat.blt];omega
   have Sw:((P.info? e).map (·.bytes)).getD 0=i.bytes:=by rw[hi];rfl
   rw[Sw] at hby;rw[My] at hk;have De:=B8 h hx;rcases Gh hp hbv with⟨Pc,_⟩|⟨_,_,_,HQ,_⟩|⟨_,_,_,HQ,_⟩
   ·refine⟨_,hk,fun next Q hn=>?_⟩
    by_cases hm0:n=0
    ·subst hm0;have hr:=Zq (P:=P) (w:=w) (t:=t) (tx:=tx) (ty:=o.type) (ts:=ts) (kx:=kx) hu htx hi;rw[←Pc,←De] at hr;refine run hr next Q (hn _ _ (Cs β d none) ?_);rw[Pc];refine h.stepR (d:=some d) (nw:=[(d,.ar false [])]) (β':=Cs β d none) Abb (by simp[Bw,U7]) ⟨rfl,rfl,rfl,Cc.refl _ _,fun j hj=>Ak _ _ (by rintro rfl;exact hj U7),?_,?_,?_,?_,?_,.inl ⟨An _ _ _,rfl,rfl,none,rfl⟩,?_⟩
     ·intro j bx hm;simp at hm;rw[hm.2];trivial
     ·intro j bx hm;simp at hm;obtain⟨rfl,rfl⟩:=hm;exact .inl ⟨An _ _ _,rfl⟩
     ·intro j bx k q hm hq;simp at hm;obtain⟨rfl,rfl⟩:=hm;rw[An] at hq;cases hq
     ·intro j bx j' bx' k q q' hm J1 _ _;simp at hm J1;rw[hm.1,J1.1]
     ·intro j cells hm;simp at hm
     ·intro j hj;simp[Bx,Cf,As] at hj;subst hj;exact .inr ⟨.ar false [],by simp⟩
    ·have hr:=DB (P:=P) (w:=w) (t:=t) (tx:=tx) (ty:=o.type) (ts:=ts) (kx:=kx) hu htx hi hz (n:=n) (by omega) hby JI
     rw[←Pc,←De] at hr;refine run hr next Q (hn _ _ (Cs β d (some (w.heap.size,0))) ?_);have hge:n.toNat<=grownCap w n.toNat 0 e:=grownCap_ge w n.toNat 0 e;generalize EN:((if n.toNat*i.size=0 then #[] else Builtin.zeroCells z.cells n.toNat)++Builtin.zeroCells z.cells (grownCap w n.toNat 0 e-n.toNat))=cs
     have Wn:Gf w (w.drew.alloc (.cells cs e)) cs e:=
      ⟨rfl,rfl,rfl,fun k hk=>Below.heap_alloc w.drew _ k hk,by show (w.heap.push _).size=_;simp,(0,0),by show (w.heap.push _)[w.heap.size]?=_;simp,.inl rfl⟩
     have ZE:cs.size=grownCap w n.toNat 0 e*i.size:=by
      rw[←EN];by_cases WX:n.toNat*i.size=0
      ·rw[if_pos WX]
       have hi0:i.size=0:=by
        rcases Nat.mul_eq_zero.1 WX with h|h
        ·omega
        ·exact h
       simp[size_zeroCells,hzs,hi0]
      ·rw[if_neg WX];simp only[Array.size_append,size_zeroCells,hzs,←Nat.add_mul]
       congr 1
       omega
     refine h.stepR (d:=some d) (nw:=[(d,.ar false [])]) Abb (by simp[Bw,U7]) (P9 Wn U7 trivial ?_ (fun cells hx=>by cases hx) ?_ (by intro j hj;simp[Bx,Cf,As] at hj;exact .inr hj))
     ·refine .inr ⟨w.heap.size,0,An _ _ _,fun j p hj=>by simp at hj,fun _ j _ hj=>?_,(fun q=>by cases q)⟩
      rw[Wn.bsz] at hj;exact Wn.frozen hj
     ·refine .inr ⟨w.heap.size,0,0,grownCap w n.toNat 0 e,An _ _ _,rfl,.inl rfl,hge,?_,by rw[Wn.size];omega⟩
      exact⟨by rw[Wn.bsz,ZE];omega,.inr (Kg w.drew _ e)⟩
   ·rw[HQ] at hzz;cases hzz
   ·rw[HQ] at hzz;cases hzz
  rw[hit] at hk;simp only[cond_false] at hk;have Sw:((P.info? e).map (·.bytes)).getD 0=i.bytes:=by rw[hi];rfl
  obtain⟨⟨dx,hdx,TO⟩,m,new,news,hk,hs⟩:=IE h hk (by
   intro m new hk;split at hk
   ·split at hk
    ·obtain⟨hb,_⟩:=Al hk;simp only[Bool.and_eq_true,decide_eq_true_eq] at hb;have he:=Nat.eq_of_beq_eq_true hb.1.1.1.1.1.1.1;rw[←he];exact hb.1.1.2
    ·cases hk
   ·obtain⟨zz,n',c',hk,_⟩:=Fk hk;obtain⟨hb,_⟩:=Al hk;simp only[Bool.and_eq_true,decide_eq_true_eq] at hb;exact hb.1.1.2)
  rw[My] at hs;have hnl:new.length=news.length:=hs.rep.len;split at hk
  ·rename_i id es off n eb;rw[eb] at hbv RD;split at hk
   ·rename_i cc h0;obtain⟨hb,Ep⟩:=Al hk;simp only[Bool.and_eq_true,decide_eq_true_eq] at hb;obtain⟨⟨⟨⟨⟨⟨⟨Vf,Pj⟩,hdN⟩,U7⟩,Ba2⟩,Acq⟩,hby⟩,JI⟩:=hb;have Vf:=Nat.eq_of_beq_eq_true Vf;have Pj:=Nat.eq_of_beq_eq_true Pj;have hdN:d<N:=Nat.lt_of_succ_le (Nat.le_of_ble_eq_true hdN);have U7:s.hp d=none:=by simpa using U7
    subst Pj;rw[My] at Vf;subst Vf;rw[Sw] at hby;have CM:news.length=m*i.size:=by omega
    have Be1:s.hp id≠none:=by rw[h0];simp
    have Adp:=h.box id _ h0;refine⟨_,Ep,fun next Q hn=>?_⟩
    have grow:∀(ad:Option Addr) (cap:Nat) (olds:List Value),a.eval b=.slice ad n cap->Bh (Ay w (Db s.hp β Y)) (cc.take (n*i.size)) olds->(∀u∈olds,u.oneCell'=true)->olds.length=n*i.size ->
      ((ad=none∧olds=[])∨∃p,ad=some p∧olds.length=n*i.size∧∀(j:Nat) v,olds[j]?=some v->w.cell? (p.add j)=some v)->cap<n+m->o.wp P a w next Q:=by
     intro ad cap olds Pc holds h1 hol hold Wx;have hr:=Lp (P:=P) (w:=w) (t:=t) (tx:=tx) (ty:=o.type) (ts:=ts) hu hdx TO hi hz hs hold Wx hby JI;rw[←Pc] at hr;refine run hr next Q (hn _ _ (Cs β d (some (w.heap.size,0))) ?_);have hge:n+m<=grownCap w (n+m) cap e:=grownCap_ge w (n+m) cap e
     have Wn:Gf w (w.drew.alloc (.cells (olds.toArray++news.toArray++Builtin.zeroCells z.cells (grownCap w (n+m) cap e-(n+m))) e)) (olds.toArray++news.toArray++Builtin.zeroCells z.cells (grownCap w (n+m) cap e-(n+m))) e:=
      ⟨rfl,rfl,rfl,fun k hk=>Below.heap_alloc w.drew _ k hk,by show (w.heap.push _).size=_;simp,(0,0),by show (w.heap.push _)[w.heap.size]?=_;simp,.inl rfl⟩
     have ZE:(olds.toArray++news.toArray++Builtin.zeroCells z.cells (grownCap w (n+m) cap e-(n+m))).size=grownCap w (n+m) cap e*i.size:=by
      simp only[Array.size_append,List.size_toArray,size_zeroCells,hzs,hol,CM,←Nat.add_mul]
      congr 1
      omega
     have PD:∀k y,some (w.heap.size,0)=some (k,y)->w.heap.size<=k∨∃q,β id=some (k,q):=by
      intro k y hh;simp at hh;exact .inl (by omega)
     refine h.move h0 U7 hdN rfl rfl rfl (by rw[Wn.size];omega) (fun k hk _=>Wn.old k hk) Wn.step.bs (fun k y hh=>⟨by simp at hh;rw[Wn.size];omega,PD k y hh⟩) (fun k y hh Cb=>by simp at hh;omega)
      (fun k y _ Cb j _=>⟨World.cell?_of_block (w:=w) (Wn.old k Cb),World.frozen?_of_block (w:=w) (Wn.old k Cb)⟩) ?_ ?_ (by intro j hj;simpa [Bx,Cf,As] using hj)
     ·refine .inr ⟨w.heap.size,0,An _ _ _,FI Wn (ZC h0 U7 PD) holds hs.rep h1 hs.one,fun _ j _ hj=>?_,(fun q=>by cases q)⟩
      rw[Wn.bsz] at hj;exact Wn.frozen hj
     ·refine .inr ⟨w.heap.size,0,0,grownCap w (n+m) cap e,An _ _ _,rfl,.inl rfl,hge,?_,by rw[Wn.size];omega⟩
      exact⟨by rw[Wn.bsz,ZE];omega,.inr (Kg w.drew _ e)⟩
    rcases hbv with⟨hβ,_,rfl,ad,Pc⟩|⟨bb,ob,y,cap,hβ,Pc,hy,A2b,Wx,A24⟩
    ·rcases Adp with⟨_,rfl⟩|⟨b',o',E7,_⟩
     ·by_cases hm0:m=0
      ·subst hm0;have hr:=Lm (P:=P) (w:=w) (t:=t) (tx:=tx) (ty:=o.type) (ts:=ts) (ad:=ad) hu hdx TO hi hs (List.eq_nil_of_length_eq_zero (by omega))
       rw[←Pc] at hr;have TM:new=[]:=List.eq_nil_of_length_eq_zero (by omega)
       subst TM;refine run hr next Q (hn _ _ (Cs β d none) ?_);rw[Pc];refine h.move h0 U7 hdN rfl rfl rfl (Nat.le_refl _) (fun _ _ _=>rfl) (fun _ _=>Hh.refl _ _) (fun k q hh=>by cases hh) (fun k q hh=>by cases hh) (fun _ _ _ _ _ _=>⟨rfl,rfl⟩) ?_ ?_ (by intro j hj;simpa [Bx,Cf,As] using hj)
       ·exact .inl ⟨An _ _ _,by simp⟩
       ·exact .inl ⟨An _ _ _,rfl,rfl,ad,rfl⟩
      ·exact grow ad 0 [] Pc (by simp[Bh]) (by simp) (by simp) (by cases ad with
        |none=>exact .inl ⟨rfl,rfl⟩
        |some p=>exact .inr ⟨p,rfl,by simp,fun j v hj=>by simp at hj⟩) (by omega)
     ·rw[hβ] at E7;cases E7
    ·rcases Adp with⟨E7,_⟩|⟨b',o',E7,H8,Wg,_⟩
     ·rw[hβ] at E7;cases E7
     rw[hβ] at E7;simp at E7;obtain⟨rfl,rfl⟩:=E7;have hy:y=ob:=by rcases hy with hy|⟨_,hq⟩<;>omega
     subst hy;by_cases Aja:n+m<=cap
     ·have A39:y+n*i.size+news.length<=bsz w bb:=by
       have h5:n*i.size+m*i.size<=cap*i.size:=by rw[←Nat.add_mul];exact Nat.mul_le_mul_right _ Aja
       have:=Wx.1;omega
      have C3:∀k,k<news.length->(w.cell? ⟨bb,y+n*i.size+k,none⟩).isSome=true:=fun k hk=>Amo (by omega)
      have hr:=DU (P:=P) (w:=w) (t:=t) (tx:=tx) (ty:=o.type) (ts:=ts) (b:=bb) (ob:=y) (n:=n) (cap:=cap) hu hdx TO hi hs CM C3 (fun k hk=>Wg rfl _ (by omega) (by omega)) Aja
      rw[←Pc] at hr;have hw:=Dx.setCells bb news (y+n*i.size) w
      have PD:∀k q,some (bb,y)=some (k,q)->w.heap.size<=k∨∃q',β id=some (k,q'):=by
       intro k q hh;simp at hh;obtain⟨rfl,rfl⟩:=hh;exact .inr ⟨_,hβ⟩
      refine run hr next Q (hn _ _ (Cs β d (some (bb,y))) ?_)
      have F8:Cc (Db s.hp β Y) w (w.setCells bb (y+n*i.size) news):=by
       have hAb:Db s.hp β Y bb:=.inl ⟨id,y,by rw[h0];trivial,hβ⟩
       exact⟨by rw[hw.size];exact Nat.le_refl _,fun k _ hk=>hw.other k (fun e=>hk (e ▸ hAb)),fun k _=>hw.grow k⟩
      refine h.move h0 U7 hdN hw.os hw.tape hw.output (by rw[hw.size];exact Nat.le_refl _) (fun k _ hq=>hw.other k (by rintro rfl;exact hq _ hβ)) F8.bs (fun k q hh=>⟨by simp at hh;rw[hw.size];omega,PD k q hh⟩) (fun k q hh _=>by rw[hβ];exact hh)
       (fun k q hh _ j hj=>by
        rw[hβ] at hh;cases hh;exact⟨World.cell?_setCells_out bb _ _ w ⟨bb,j,none⟩ (fun _ _=>by show j<y+n*i.size∨y+n*i.size+_<=j;omega),hw.frz j⟩) ?_ ?_ (by intro j hj;simpa [Bx,Cf,As] using hj)
      ·refine .inr ⟨bb,y,An _ _ _,fun j p hj=>?_,fun _ j hj Sd=>?_,(fun q=>by cases q)⟩
       ·rw[Er];by_cases hjn:j<n*i.size
        ·rw[List.getElem?_append_left (by rw[List.length_take];omega),List.getElem?_take_of_lt hjn] at hj
         obtain⟨u,I3,h5,ht⟩:=H8 j p hj;rw[Er] at I3;refine⟨u,?_,h5,ht.step F8 (ZC h0 U7 PD)⟩;rw[World.cell?_setCells_out bb _ _ w ⟨bb,y+j,none⟩ (fun _ _=>by show y+j<y+n*i.size∨y+n*i.size+_<=y+j;omega)]
         exact I3
        ·rw[List.getElem?_append_right (by rw[List.length_take];omega),List.length_take,Nat.min_eq_left Ba2] at hj
         obtain⟨u,I3,ht⟩:=hs.rep.get hj
         have Cb:j-n*i.size<news.length:=by
          rcases Nat.lt_or_ge (j-n*i.size) news.length with h|h
          ·exact h
          ·rw[List.getElem?_eq_none h] at I3;cases I3
         refine⟨u,?_,hs.one u (List.mem_of_getElem? I3),ht.step F8 (ZC h0 U7 PD)⟩;have:=World.cell?_setCells_in bb news (y+n*i.size) w C3 (j-n*i.size) Cb;rw[show y+j=y+n*i.size+(j-n*i.size) from by omega,this]
         rw[List.getElem?_eq_getElem Cb] at I3;exact I3
       ·rw[hw.bs] at Sd;rw[hw.frz];exact Wg rfl j hj Sd
      ·exact .inr ⟨bb,y,y,cap,An _ _ _,rfl,.inl rfl,Aja,Wx.step (hw.grow bb),by rw[hw.size];exact A24⟩
     ·-- the old cells
      have hob:∀(j:Nat) p,(cc.take (n*i.size))[j]?=some p->∃v,w.cell? ⟨bb,y+j,none⟩=some v∧v.oneCell'=true∧Ay w (Db s.hp β Y) p v:=by
       intro j p hj;rw[List.getElem?_take] at hj;split at hj
       ·obtain⟨v,hv,h5,ht⟩:=H8 j p hj;rw[Er] at hv;exact⟨v,hv,h5,ht⟩
       ·cases hj
      have C6:(cc.take (n*i.size)).length=n*i.size:=by rw[List.length_take];omega
      refine grow _ cap ((cc.take (n*i.size)).mapIdx fun j _=>(w.cell? ⟨bb,y+j,none⟩).getD undef) Pc ?_ ?_ (by simp only[List.length_mapIdx];exact C6) (.inr ⟨_,rfl,by simp only[List.length_mapIdx];exact C6,fun j v hj=>?_⟩) (by omega)
      ·refine Bh.of_at (by simp) fun j p v hp hv=>?_
       obtain⟨u,I3,_,ht⟩:=hob j p hp;rw[List.getElem?_mapIdx,hp,Option.map_some,I3] at hv;simp at hv;subst hv;exact ht
      ·intro v hv;obtain⟨j,hj⟩:=List.mem_iff_getElem?.1 hv;rw[List.getElem?_mapIdx] at hj;cases hp:(cc.take (n*i.size))[j]? with
       |none=>rw[hp] at hj;cases hj
       |some p=>
        obtain⟨u,I3,h5,_⟩:=hob j p hp;rw[hp,Option.map_some,I3] at hj;simp at hj;subst hj;exact h5
      ·rw[List.getElem?_mapIdx] at hj;cases hp:(cc.take (n*i.size))[j]? with
       |none=>rw[hp] at hj;cases hj
       |some p=>
        obtain⟨u,I3,h5,_⟩:=hob j p hp;rw[hp,Option.map_some,I3] at hj;simp at hj;subst hj;rw[Er];exact I3
   ·cases hk
  ·obtain⟨zz,n',c',hk,hp⟩:=Fk hk;obtain⟨hb,hk⟩:=Al hk;simp only[Bool.and_eq_true,decide_eq_true_eq] at hb;obtain⟨⟨⟨⟨⟨hzz,hdN⟩,U7⟩,Acq⟩,hby⟩,JI⟩:=hb;have hdN:d<N:=Nat.lt_of_succ_le (Nat.le_of_ble_eq_true hdN);have U7:s.hp d=none:=by simpa using U7
   have Abb:Gb N (some d)=true:=by simp[Gb,Nat.blt];omega
   rw[My] at Acq hk;rw[Sw] at hby;have CM:news.length=m*i.size:=by omega
   rcases Gh hp hbv with⟨Pc,_⟩|⟨_,_,_,HQ,_⟩|⟨_,_,_,HQ,_⟩
   ·refine⟨_,hk,fun next Q hn=>?_⟩
    by_cases hm0:m=0
    ·subst hm0;have hr:=Lm (P:=P) (w:=w) (t:=t) (tx:=tx) (ty:=o.type) (ts:=ts) (ad:=none) hu hdx TO hi hs (List.eq_nil_of_length_eq_zero (by omega))
     rw[←Pc] at hr;have TM:new=[]:=List.eq_nil_of_length_eq_zero (by omega)
     subst TM;refine run hr next Q (hn _ _ (Cs β d none) ?_);rw[Pc];refine h.stepR (d:=some d) (nw:=[(d,.ar false [])]) (β':=Cs β d none) Abb (by simp[Bw,U7]) ⟨rfl,rfl,rfl,Cc.refl _ _,fun j hj=>Ak _ _ (by rintro rfl;exact hj U7),?_,?_,?_,?_,?_,.inl ⟨An _ _ _,rfl,rfl,none,rfl⟩,?_⟩
     ·intro j bx hm;simp at hm;rw[hm.2];trivial
     ·intro j bx hm;simp at hm;obtain⟨rfl,rfl⟩:=hm;exact .inl ⟨An _ _ _,rfl⟩
     ·intro j bx k q hm hq;simp at hm;obtain⟨rfl,rfl⟩:=hm;rw[An] at hq;cases hq
     ·intro j bx j' bx' k q q' hm J1 _ _;simp at hm J1;rw[hm.1,J1.1]
     ·intro j cells hm;simp at hm
     ·intro j hj;simp[Bx,Cf,As] at hj;subst hj;exact .inr ⟨.ar false [],by simp⟩
    ·have hr:=Lp (P:=P) (w:=w) (t:=t) (tx:=tx) (ty:=o.type) (ts:=ts) (ad:=none) (n:=0) (cap:=0) (olds:=[]) hu hdx TO hi hz hs (.inl ⟨rfl,rfl⟩) (by omega) (by rw[Nat.zero_add];exact hby) (by omega)
     rw[←Pc] at hr;refine run hr next Q (hn _ _ (Cs β d (some (w.heap.size,0))) ?_);have hge:0+m<=grownCap w (0+m) 0 e:=grownCap_ge w (0+m) 0 e
     have Wn:Gf w (w.drew.alloc (.cells (([]:List Value).toArray++news.toArray++Builtin.zeroCells z.cells (grownCap w (0+m) 0 e-(0+m))) e)) (([]:List Value).toArray++news.toArray++Builtin.zeroCells z.cells (grownCap w (0+m) 0 e-(0+m))) e:=
      ⟨rfl,rfl,rfl,fun k hk=>Below.heap_alloc w.drew _ k hk,by show (w.heap.push _).size=_;simp,(0,0),by show (w.heap.push _)[w.heap.size]?=_;simp,.inl rfl⟩
     have ZE:(([]:List Value).toArray++news.toArray++Builtin.zeroCells z.cells (grownCap w (0+m) 0 e-(0+m))).size=grownCap w (0+m) 0 e*i.size:=by
      simp only[Array.size_append,List.size_toArray,size_zeroCells,hzs,CM,List.length_nil,←Nat.add_mul];rw[Nat.zero_add (m*i.size),←Nat.add_mul]
      congr 1
      omega
     refine h.stepR (d:=some d) (nw:=[(d,.ar false new)]) Abb (by simp[Bw,U7]) (P9 Wn U7 trivial ?_ (fun cells hx=>by cases hx) ?_ (by intro j hj;simp[Bx,Cf,As] at hj;exact .inr hj))
     ·refine .inr ⟨w.heap.size,0,An _ _ _,?_,fun _ j _ hj=>?_,(fun q=>by cases q)⟩
      ·exact FI (pre:=[]) Wn (Acy U7) trivial hs.rep (by simp) hs.one
      ·rw[Wn.bsz] at hj;exact Wn.frozen hj
     ·refine .inr ⟨w.heap.size,0,0,grownCap w (0+m) 0 e,An _ _ _,by rw[Nat.zero_add],.inl rfl,by omega,?_,by rw[Wn.size];omega⟩
      exact⟨by rw[Wn.bsz,ZE];omega,.inr (Kg w.drew _ e)⟩
   ·rw[HQ] at hzz;cases hzz
   ·rw[HQ] at hzz;cases hzz
 ·cases hk
theorem ZY (h:Cw N w0 X0 Y β s a w){c:Call}(ho:o.op=.call c)(hc:c.callee=.builtin .copy){b x:Operand}(E3:c.args.toList=[b,x]) {t tx:TypeId}{ts:List TypeId}(DK:c.argTypes.toList=t::tx::ts)
  {K:St->Option R} (hk:LU P N s o.dst t tx (B3 s.tm b) (B3 s.tm x) K=some r):
  ∃s',K s'=some r∧∀(next:Act->World->Prop) (Q:Exit->Act->World->Prop),(∀a' w' β',Cw N w0 X0 Y β' s' a' w'->next a' w')->o.wp P a w next Q:=by
 have FP:c.args = #[b,x]:=by
  have:c.args=([b,x]:List Operand).toArray:=by rw[←E3]
  exact this
 have SA:c.argTypes=(t::tx::ts).toArray:=by rw[←DK]
 have run:∀{v:Value} {w1:World},(Builtin.copy_ (t::tx::ts).toArray o.type #[a.eval b,a.eval x]).run P w=.ok v w1->∀(next:Act->World->Prop) (Q:Exit->Act->World->Prop),next (a.put o.dst v) w1->o.wp P a w next Q:=by
  intro v w1 hr next Q hn;unfold Oper.wp execOp;rw[ho];simp only[resolve,hc,invoke,builtin,Sem.run_bind,Sem.run_pure,Result.andThen_ok,FP,SA];have:(#[b,x]:Array Operand).map a.eval = #[a.eval b,a.eval x]:=by simp
  rw[this,hr];exact hn
 have hbv:=C4 h b;unfold LU at hk;split at hk
 ·rename_i e hu;obtain⟨hzi,hk⟩:=Al hk;simp only[Bool.and_eq_true] at hzi;obtain⟨Pg,Abb⟩:=hzi;obtain⟨i,hi⟩:∃i,P.info? e=some i:=Option.isSome_iff_exists.1 Pg;have My:Bc P e=i.size:=by unfold Bc;rw[hi];rfl
  have h1c:∀(m:Nat) (new:List PV),(match B3 s.tm b with
    |.view id es off n=>
     match s.hp id with
     |some (.ar false c)=>A2 (Nat.beq es (Bc P e)&&decide (off+n*es<=c.length)&&decide (new.length=m*es))
       (Ac (min m n) fun k=>Ac (Ca c (new.take (k*es)) off) fun c=>K ⟨Bp s.tm o.dst (.sc (.int .i64 k)),Cs s.hp id (some (.ar false c))⟩)
     |_=>none
    |_=>none)=some r->new.length=m*Bc P e:=by
   intro m new hk;split at hk
   ·split at hk
    ·obtain⟨hb,_⟩:=Al hk;simp only[Bool.and_eq_true,decide_eq_true_eq] at hb;rw[←Nat.eq_of_beq_eq_true hb.1.1];exact hb.2
    ·cases hk
   ·cases hk
  obtain⟨_,m,new,news,hk,hs⟩:=IE h hk h1c;split at hk
  ·rename_i id es off n hb;rw[hb] at hbv;split at hk
   ·rename_i cc h0;obtain⟨hb,hk⟩:=Al hk;simp only[Bool.and_eq_true,decide_eq_true_eq] at hb;obtain⟨⟨Vf,CJ⟩,hnl⟩:=hb;have Vf:=Nat.eq_of_beq_eq_true Vf;subst Vf;rw[My] at hk hs CJ hnl hbv;have CM:news.length=m*i.size:=by rw[←hs.rep.len];exact hnl
    have hkm:min m n*i.size<=m*i.size:=Nat.mul_le_mul_right _ (Nat.min_le_left _ _);have hkn:min m n*i.size<=n*i.size:=Nat.mul_le_mul_right _ (Nat.min_le_right _ _);have Ll:K ⟨Bp s.tm o.dst (.sc (.int .i64 ((min m n:Nat):Int))),Cs s.hp id (some (.ar false (Ca cc (new.take (min m n*i.size)) off)))⟩=some r:=hk;refine⟨_,Ll,fun next Q hn=>?_⟩
    have Ap8:∀{β':Bt} {Cy:Nat->Option Bs} {w':World},Cw N w0 X0 Y β' ⟨s.tm,Cy⟩ a w'->Cw N w0 X0 Y β' ⟨Bp s.tm o.dst (.sc (.int .i64 ((min m n:Nat):Int))),Cy⟩ (a.put o.dst (goInt ((min m n:Nat):Int))) w':=
     fun hh=>hh.put Abb (Ay.sc _) (fun _ hx=>by cases hx)
    have Amc:new.take (min m n*i.size)=[]->Cs s.hp id (some (.ar false (Ca cc (new.take (min m n*i.size)) off)))=s.hp:=by
     intro e;rw[e];refine Za _ ?_;rw[h0];simp[Ca]
    have nothing:min m n*i.size=0->∀(ad:Option Addr) (cap:Nat),a.eval b=.slice ad n cap->o.wp P a w next Q:=by
     intro e ad cap Pc;have hr:=SU (P:=P) (w:=w) (w1:=w) (t:=t) (ty:=o.type) (ts:=tx::ts) (ad:=ad) (n:=n) (cap:=cap) hu hi hs (by rw[e];cases ad<;>simp[storeCells])
     rw[←Pc] at hr;refine run hr next Q (hn _ _ β (Ap8 ?_));rw[Amc (by rw[e,List.take_zero])]
     exact h
    rcases hbv with⟨hβ,_,rfl,ad,Pc⟩|⟨bb,ob,y,cap,hβ,Pc,hy,A2b,Wx,A24⟩
    ·exact nothing (by simp) ad 0 Pc
    ·by_cases hm0:min m n*i.size=0
     ·exact nothing hm0 _ _ Pc
     rcases h.box id _ h0 with⟨E7,_⟩|⟨b',o',E7,H8,Wg,_⟩
     ·rw[hβ] at E7;cases E7
     rw[hβ] at E7;simp at E7;obtain⟨rfl,rfl⟩:=E7;have Zo:n≠0:=by rintro rfl;simp at hm0
     have hy:y=ob+off:=by rcases hy with hy|⟨hq,_⟩<;>first|exact absurd hq Zo|exact hy
     subst hy;have Cb:(news.take (min m n*i.size)).length=min m n*i.size:=by rw[List.length_take,CM];omega
     have C3:∀k,k<(news.take (min m n*i.size)).length->(w.cell? ⟨bb,ob+off+k,none⟩).isSome=true:=by
      intro k hk;obtain⟨v,hv,_⟩:=H8 (off+k) _ (List.getElem?_eq_getElem (by omega))
      rw[Er] at hv;rw[Nat.add_assoc,hv];rfl
     have hfr:∀k,k<(news.take (min m n*i.size)).length->w.frozen? ⟨bb,ob+off+k,none⟩=false:=fun k hk=>by
      obtain⟨u,hu⟩:=Option.isSome_iff_exists.1 (C3 k hk);exact Wg rfl _ (by omega) (GG hu)
     have h1:∀u∈news.take (min m n*i.size),u.oneCell'=true:=fun u hu=>hs.one u (List.mem_of_mem_take hu)
     have h3:=run_storeCells_cells (P:=P) bb (ob+off) (news.take (min m n*i.size)) 0 w (fun k hk=>by simpa using C3 k hk) (fun k hk=>by simpa using hfr k hk) h1
     have hr:=SU (P:=P) (w:=w) (t:=t) (ty:=o.type) (ts:=tx::ts) (ad:=some ⟨bb,ob+off,none⟩) (n:=n) (cap:=cap) hu hi hs h3;rw[←Pc] at hr;simp only[Nat.add_zero] at hr;refine run hr next Q (hn _ _ β (Ap8 ?_))
     refine h.write h0 trivial trivial hβ (Dx.setCells bb _ _ w) ?_ (fun cells hx=>by cases hx) (fun _ hx=>by cases hx) (fun j hj=>hj) (fun j hj=>by
      refine World.cell?_setCells_out bb _ _ w ⟨bb,j,none⟩ (fun _ _=>?_)
      have hj:¬(ob<=j):=hj;show j<ob+off∨ob+off+_<=j;omega)
     have F8:Cc (Db s.hp β Y) w (w.setCells bb (ob+off) (news.take (min m n*i.size))):=by
      have hw:=Dx.setCells bb (news.take (min m n*i.size)) (ob+off) w;have hAb:Db s.hp β Y bb:=.inl ⟨id,ob,by rw[h0];trivial,hβ⟩
      exact⟨by rw[hw.size];exact Nat.le_refl _,fun k _ hk=>hw.other k (fun e=>hk (e ▸ hAb)),fun k _=>hw.grow k⟩
     have hll:(new.take (min m n*i.size)).length=min m n*i.size:=by rw[List.length_take,hnl];omega
     refine .inr ⟨bb,ob,hβ,fun j p hj=>?_,fun _ j hj Sd=>?_,(fun x=>by cases x)⟩
     ·rw[Er];rcases Qv (by omega) hj with⟨h3,h4,h5⟩|⟨h3,h5⟩
      ·have A4p:j-off<min m n*i.size:=by omega
       rw[List.getElem?_take_of_lt A4p] at h5;obtain⟨u,hu,hcu⟩:=hs.rep.get h5;have Al0:j-off<(news.take (min m n*i.size)).length:=by omega
       refine⟨u,?_,hs.one u (List.mem_of_getElem? hu),hcu.step F8 (fun _ _ x=>x)⟩
       have:=World.cell?_setCells_in bb (news.take (min m n*i.size)) (ob+off) w C3 (j-off) Al0;rw[show ob+j=ob+off+(j-off) from by omega,this]
       rw[←List.getElem?_eq_getElem Al0,List.getElem?_take_of_lt A4p];exact hu
      ·obtain⟨v,hv,h6,CZ⟩:=H8 j p h5;rw[Er] at hv;refine⟨v,?_,h6,CZ.step F8 (fun _ _ x=>x)⟩
       rw[World.cell?_setCells_out bb _ _ w ⟨bb,ob+j,none⟩ (fun _ _=>by show ob+j<ob+off∨ob+off+_<=ob+j;omega)]
       exact hv
     ·rw[(Dx.setCells bb _ _ w).bs] at Sd;rw[(Dx.setCells bb _ _ w).frz];exact Wg rfl j hj Sd
   ·cases hk
  ·cases hk
 ·cases hk
theorem XV (h:Cw N w0 X0 Y β s a w){G:Xg}(Ko:RV P G w0 X0){C:G1}{call:Am}(Dz:∀f args res,call f args=some res->Dh G P f args res){K:St->Option R}(hk:Uz C P N call s o K=some r):
  ∃s',K s'=some r∧∀(next:Act->World->Prop) (Q:Exit->Act->World->Prop),(∀a' w' β',Cw N w0 X0 Y β' s' a' w'->next a' w')->o.wp P a w next Q:=by
 unfold Uz at hk;split at hk
 ·rename_i t x y ho;obtain⟨hd,hk⟩:=Al hk;exact VR h ho (by simpa using hd) hk
 ·rename_i c ho;split at hk
  ·rename_i hc;obtain⟨d,hd,Ea⟩:=Ce hk;obtain⟨b,xs,IY,Ep⟩:=Bb Ea;obtain⟨x,ys,hys,Lk⟩:=Bb Ep;obtain⟨BH,Uj⟩:=Dr Lk;obtain⟨t,us,hus,hk5⟩:=Bb Uj;obtain⟨tx,vs,Rz,hk6⟩:=Bb hk5;rw[hys,BH] at IY;rw[Rz] at hus;exact QB h ho hc hd IY hus hk6
  ·rename_i hc;obtain⟨b,xs,IY,Ep⟩:=Bb hk;obtain⟨x,ys,hys,Lk⟩:=Bb Ep;obtain⟨BH,Uj⟩:=Dr Lk;obtain⟨t,us,hus,hk5⟩:=Bb Uj;obtain⟨tx,vs,Rz,hk6⟩:=Bb hk5;rw[hys,BH] at IY;rw[Rz] at hus;exact ZY h ho hc IY hus hk6
  ·rename_i f hc;exact SZ h Ko Dz ho hc hk
  ·cases hk
 ·cases hk
theorem YG (h:Cw N w0 X0 Y β s a w){G:Xg}(Ko:RV P G w0 X0){C:G1}{call:Am}(Dz:∀f args res,call f args=some res->Dh G P f args res){K:St->Option R}(hk:SP C P N call o s K=some r):
  ∃s',K s'=some r∧∀(next:Act->World->Prop) (Q:Exit->Act->World->Prop),(∀a' w' β',Cw N w0 X0 Y β' s' a' w'->next a' w')->o.wp P a w next Q:=by
 unfold SP at hk;cases hm:Rh C P o.op
 ·rw[hm] at hk;exact Aaa h Ko Dz hk
 ·rw[hm] at hk;exact XV h Ko Dz hk
end
end
end Go.Proofs.YtodnjibebeghjaaGreatDoor.Pv
