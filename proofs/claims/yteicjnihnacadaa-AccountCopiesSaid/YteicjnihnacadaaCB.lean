/-
  The proof of AccountCopies, part 2.
-/
import Derived.Test.YteicjnihnacadaaCA
import Derived.Laws.Append
import Derived.IntWalk
import Derived.Laws.AppendOwn
import Derived.Laws.IdiomCopy
set_option linter.unusedSimpArgs false
set_option linter.unusedVariables false
namespace Go.Proofs.Yteicjnihnacadaa.Pv
section
open Go.RowKit
def Ed (w:World)(A:Nat->Prop)(own:Option (Nat × Nat)) (p:PV)(u:Value):Prop:=
 match p with
 |.own es n c=>(own=none∧n=0∧c=[]∧∃ad,u=.slice ad 0 0) ∨
   ∃b o cap,own=some (b,o)∧u=.slice (some ⟨b,o,none⟩) n cap∧n<=cap∧Fit w es b (o+cap*es)∧b<w.heap.size∧BO w A ⟨b,o,none⟩ c∧∀j,o<=j->j<bsz w b->w.frozen? ⟨b,j,none⟩=false
 |p=>Ao w A p u
def Da (w:World)(A:Nat->Prop)(own:Bt):Nat->List PV->List Value->Prop
 |_,[],[]=>True
 |j,p::ps,u::us=>Ed w A (own j) p u∧Da w A own (j+1) ps us
 |_,_,_=>False
def WN (w:World)(A:Nat->Prop)(own:Bt)(j b o:Nat)(cs:List PV):Prop:=
 ∃vs,Da w A own j cs vs∧(∀(k:Nat) v,vs[k]?=some v->w.cell? ⟨b,o+k,none⟩=some v)∧∀k,k<cs.length->w.frozen? ⟨b,o+k,none⟩=false
def YV (w:World)(A:Nat->Prop)(own:Bt)(z j:Nat)(p:PV)(u:Value):Prop:=
 match p with
 |.agg cs=>∃vs,u=.agg ⟨vs⟩∧Da w A own j cs vs
 |.pbox cs=>∃b o,own j=some (b,o)∧z<=b∧u=.pointer (some ⟨b,o,none⟩)∧WN w A own (j+1) b o cs
 |p=>Ed w A (own j) p u
def NR:PV->Nat
 |.pbox cs=>1+cs.length
 |p=>(cellsOf p).length
def KU (w:World)(A:Nat->Prop)(own:Bt)(z:Nat):Nat->List PV->List Value->Prop
 |_,[],[]=>True
 |j,p::ps,u::us=>YV w A own z j p u∧KU w A own z (j+NR p) ps us
 |_,_,_=>False
abbrev Tl:=Nat->Nat->Option (Nat × Nat)
def PI (bt:Tl)(b:Nat):Prop:=∃i j o,bt i j=some (b,o)
def isA (p:PV):Prop:=Ob p∨∃es n c,p=.own es n c
def Rb (p:PV):Bool:=
 match p with
 |.pbox _=>true
 |.tup _=>true
 |_=>false
theorem XO {p:PV}(h:isA p):Rb p=false:=by
 rcases h with h|⟨_,_,_,rfl⟩
 ·cases p<;>first|rfl|exact h.elim
 ·rfl
def EW (w:World)(A:Nat->Prop)(bt:Bt)(p:PV)(u:Value):Prop:=
 match p with
 |.pbox ps=>∃b o,bt 0=some (b,o)∧u=.pointer (some ⟨b,o,none⟩)∧(∀p∈ps,isA p)∧WN w A bt 1 b o ps
 |.tup ps=>∃es n c,ps=[.own es n c]∧Ed w A (bt 0) (.own es n c) u
 |.agg cs=>∃vs,u=.agg ⟨vs⟩∧(∀p∈cs,isA p)∧Da w A bt 1 cs vs
 |p=>isA p∧Ed w A (bt 1) p u
def H7 (w:World)(A:Nat->Prop)(bt:Tl):Nat->List PV->List Value->Prop
 |_,[],[]=>True
 |i,p::ps,u::us=>EW w A (bt i) p u∧H7 w A bt (i+1) ps us
 |_,_,_=>False
def Ac0 (bt:Bt)(p:PV)(b j:Nat):Prop:=
 (∃k o,bt (k+1)=some (b,o)∧o<=j)∨∃o ps,bt 0=some (b,o)∧o<=j∧((p=.pbox ps∧j<o+ps.length)∨p=.tup ps)
def Yw (bt:Tl)(args:List PV)(b j:Nat):Prop:=∃i p,args[i]?=some p∧Ac0 (bt i) p b j
def F1 (w:World)(A:Nat->Prop)(own:Bt)(bt:Tl):Nat->Nat->List PV->List (List PV)->Prop
 |_,_,[],r=>r=[]
 |j,i,p::zs,r=>
  match p with
  |.pbox ps=>
   match r with
   |[]=>False
   |cs::r=>(∃b o,bt i 0=some (b,o)∧cs.length=ps.length∧WN w A own j b o cs)∧F1 w A own bt (j+cs.length) (i+1) zs r
  |.tup _=>
   match r with
   |[]=>False
   |cs::r=>((bt i 0=none∧cs=[])∨∃b o,bt i 0=some (b,o)∧BO w A ⟨b,o,none⟩ cs∧∀k,o<=k->k<bsz w b->w.frozen? ⟨b,k,none⟩=false)∧F1 w A own bt j (i+1) zs r
  |_=>F1 w A own bt j (i+1) zs r
def Ru (bt:Tl)(own:Bt)(Y:Nat->Prop)(b:Nat):Prop:=(∃j o,own j=some (b,o))∨(∃i o,bt i 0=some (b,o))∨Y b
def J3 (vals:List PV):Nat:=(vals.map NR).sum
structure ZZ (w w':World) (Y:Nat->Prop) (bt:Tl) (args:List PV) (own:Bt) (r:Bg) (vs:List Value):Prop where
 os:w'.os=w.os
 tape:w'.tape=w.tape
 output:w'.output=w.output
 ext:Bb (PI bt) w w'
 rng:∀b j,b<w.heap.size->¬Yw bt args b j->w'.cell? ⟨b,j,none⟩=w.cell? ⟨b,j,none⟩∧w'.frozen? ⟨b,j,none⟩=w.frozen? ⟨b,j,none⟩
 vals:KU w' (Ru bt own Y) own w.heap.size 0 r.vals vs
 outs:F1 w' (Ru bt own Y) own bt (J3 r.vals) 0 args r.outs
 fresh:∀j b o,own j=some (b,o)->b<w'.heap.size∧(b<w.heap.size->(∃i k o',bt i (k+1)=some (b,o'))∧∀x,o<=x->Yw bt args b x)
 inj:∀j j' b o o',own j=some (b,o)->own j'=some (b,o')->j=j'
def Fc (us:List Value):Value:=match us with|[u]=>u|us=>.tuple ⟨us⟩
def Lr (w:World)(Y:Nat->Prop)(p:PV)(u:Value):Prop:=
 match p with
 |.agg cs=>∃vs,u=.agg ⟨vs⟩∧Au (fun c v=>Ob c∧Ao w Y c v) cs vs
 |p=>Ob p∧Ao w Y p u
structure Ins (w:World) (Y:Nat->Prop) (bt:Tl) (args:List PV) (us:List Value):Prop where
 Ylt:∀b,Y b->b<w.heap.size
 Yx:∀b,Y b->¬PI bt b
 lt:∀b,PI bt b->b<w.heap.size
 inj:∀i j i' j' b o o',bt i j=some (b,o)->bt i' j'=some (b,o')->i=i'∧j=j'
 l0:∀i q,bt i 0=some q->∃p,args[i]?=some p∧Rb p=true
 args:H7 w (fun b=>PI bt b∨Y b) bt 0 args us
structure Glo where
 bl:Nat->Prop
 ok:World->Prop
 stable:∀w w':World,(∀b,bl b->b<w.heap.size->w'.heap[b]?=w.heap[b]?)->ok w->ok w'
def Db (G:Glo)(P:Program)(f:FuncId)(args:List PV)(r:Bg):Prop:=
 (∃fn,P.funcs[f]?=some fn∧fn.body.isSome=true)∧∀(w:World)(Y:Nat->Prop)(bt:Tl)(us:List Value),Ins w Y bt args us->G.ok w->(∀b,G.bl b->b<w.heap.size∧¬PI bt b) ->
  Calls P f us.toArray w fun e w'=>∃vs own,e=.returned (Fc vs)∧ZZ w w' Y bt args own r vs
def UU:Tl:=fun _ _=>none
theorem U5 (b:Nat):¬PI UU b:=by rintro⟨_,_,_,h⟩;cases h
theorem G5 {w:World}{A:Nat->Prop}{q:Option (Nat × Nat)} {p:PV}{u:Value}(hp:Ob p)(h:Ao w A p u):Ed w A q p u:=by
 cases p<;>first|exact h|exact hp.elim
theorem Td {w:World}{A:Nat->Prop}{own:Bt}:∀{cs:List PV}{vs:List Value}{j:Nat},Au (fun c v=>Ob c∧Ao w A c v) cs vs->Da w A own j cs vs
 |[],[],_,_=>trivial
 |_::_,_::_,_,h=>⟨G5 h.1.1 h.1.2,Td h.2⟩
 |[],_::_,_,h=>h.elim
 |_::_,[],_,h=>h.elim
theorem MW {w:World}{A:Nat->Prop}{bt:Bt}{p:PV}{u:Value}(h:Lr w A p u):EW w A bt p u:=by
 cases p with
 |agg cs=>
  obtain⟨vs,h1,h2⟩:=h;refine⟨vs,h1,fun p hp=>.inl ?_,Td h2⟩
  obtain⟨j,hj⟩:=List.mem_iff_getElem?.1 hp;obtain⟨v,_,hv⟩:=h2.get hj;exact hv.1
 |sc v=>exact⟨.inl trivial,h.2⟩
 |lst z es n c=>exact⟨.inl trivial,h.2⟩
 |_=>exact h.1.elim
theorem Uy {w:World}{A:Nat->Prop}{bt:Tl}:∀{ps:List PV}{us:List Value}{i:Nat},Au (Lr w A) ps us->H7 w A bt i ps us
 |[],[],_,_=>trivial
 |_::_,_::_,_,h=>⟨MW h.1,Uy h.2⟩
 |[],_::_,_,h=>h.elim
 |_::_,[],_,h=>h.elim
theorem MR {w:World}{A A':Nat->Prop}(hA:∀b,b<w.heap.size->A' b->A b){p:PV}{v:Value}(h:Lr w A p v):Lr w A' p v:=by
 cases p with
 |agg cs=>
  obtain⟨vs,rfl,h2⟩:=h;exact⟨vs,rfl,h2.mono fun c v hc=>⟨hc.1,hc.2.step (Bb.refl _ _) hA⟩⟩
 |sc v=>exact⟨h.1,h.2.step (Bb.refl _ _) hA⟩
 |lst z es n c=>exact⟨h.1,h.2.step (Bb.refl _ _) hA⟩
 |_=>exact h.1.elim
theorem ED {w:World}{Y:Nat->Prop}{args:List PV}{us:List Value}(hY:∀b,Y b->b<w.heap.size)(h:Au (Lr w Y) args us):Ins w Y UU args us:=
 ⟨hY,fun b _=>U5 b,fun b h=>absurd h (U5 b),(fun _ _ _ _ _ _ _ h=>by cases h),(fun _ _ h=>by cases h),Uy (h.mono fun _ _ hx=>MR (fun b _ hb=>hb.elim (fun q=>absurd q (U5 b)) id) hx)⟩
def NoNG (P:Program):Prop:=∀(f:FuncId) (fn:Func),P.funcs[f]?=some fn->(fn.name == "runtime.NumGoroutine")=false
structure FQ (P:Program) (G:Glo) (w0:World) (X0:Ev):Prop where
 ng:NoNG P
 fr:∀w,Fr X0 w0 w->G.ok w
 y:∀b,G.bl b->b<w0.heap.size∧¬X0.X b
section
variable {R:Type} {r:R} {P:Program} {N:Nat} {w0:World} {X0:Ev} {Y:Nat->Prop} {β β':Bt} {s:St} {a:Act} {w w':World} {o:Oper} {A:Nat->Prop}
def Wr (P:Program)(a:Act)(w:World)(o:Oper)(Y:Nat->Prop)(β:Bt)(s:St)(v:PV)(fz:List Nat)(nw:List (Nat × A1)):Prop:=
 (∀id∈fz,∃f c,s.hp id=some (.ar f c))∧∀(next:Act->World->Prop)(Q:Exit->Act->World->Prop),
  (∀val w',(A3 s.hp nw=true->∃β',Yd Y β ⟨s.tm,Ac s.hp fz⟩ w v nw val w' β')->next (a.put o.dst val) w')->o.wp P a w next Q
theorem Wq {v:PV}{fz:List Nat}{nw:List (Nat × A1)} (h:Co P a w o Y β s v fz nw):Wr P a w o Y β s v fz nw:=by
 obtain⟨h1,val,w',hr,hs⟩:=h;refine⟨h1,fun next Q hn=>?_⟩
 unfold Oper.wp;rw[hr];exact hn val w' hs
theorem VL (h:Bp N w0 X0 Y β s a w){t:TypeId}{x:PV}{u:Value}(hx:Cp w (Bv s.hp β Y) β x u) {K:PV->List Nat->Option R}(hk:HC P (Gb s.hp) t x K=some r):
  ∃p m,K p m=some r∧(∀id∈m,∃f cc,s.hp id=some (.ar f cc))∧(cellsOf p).length=(Ez P t).length∧∀fz:List Nat,(∀id∈m,id∈fz)->(∀id∈fz,∃f cc,s.hp id=some (.ar f cc))->Lr w (Bv (Ac s.hp fz) β Y) p u:=by
 unfold HC at hk;cases Dp:A9 P t
 ·rw[Dp] at hk;obtain⟨cs,m,hk,hl,Gc,hT,hF,hm,hv⟩:=Ku h (show Iv _ _ _ _=some r from hk)
  obtain⟨c,t',rfl,hk⟩:=Ap hk;obtain⟨rfl,hk⟩:=B1 hk;have hcT:=hT c (by simp)
  refine⟨c,m,hk,hm,?_,fun fz h1 h2=>?_⟩
  ·have:cellsOf c=[c]:=by cases c<;>first|rfl|exact hcT.elim
   rw[this];exact hl
  have hF':=hF _ (List.mem_singleton_self _)
  have hc:A6 w (Bv s.hp β Y) β x u:=by
   cases x<;>first|exact hx|exact hF'.elim
  have h3:=(hv fz h1 h2 [u] ⟨hc,trivial⟩).1.1;cases c<;>first|exact⟨trivial,h3⟩|exact hcT.elim
 ·rw[Dp] at hk;obtain⟨ps,hp,hk⟩:=Eh (show Dw _ _=some r from hk)
  rw[hp] at hx;obtain⟨cs,m,hk,hl,Gc,hT,hF,hm,hv⟩:=Ku h hk;obtain⟨vs,Bw,h2⟩:=hx;refine⟨.agg cs,m,hk,hm,hl,fun fz h1 h3=>⟨vs,Bw,?_⟩⟩
  exact (hv fz h1 h3 vs h2).1.mono_mem fun c hc v Ta=>⟨hT c hc,Ta⟩
theorem SO (h:Bp N w0 X0 Y β s a w){t:TypeId}{x:Operand}{K:PV->List Nat->Option R}(hk:HC P (Gb s.hp) t (A8 s.tm x) K=some r):
  ∃p m,K p m=some r∧(∀id∈m,∃f cc,s.hp id=some (.ar f cc))∧∀fz:List Nat,(∀id∈m,id∈fz)->(∀id∈fz,∃f cc,s.hp id=some (.ar f cc))->Lr w (Bv (Ac s.hp fz) β Y) p (a.eval x):=by
 obtain⟨p,m,h1,h2,_,h3⟩:=VL h (Bs h x) hk;exact⟨p,m,h1,h2,h3⟩
theorem X4 (h:Bp N w0 X0 Y β s a w):∀{ts:List TypeId}{xs:List Operand}{K:List PV->List Nat->Option R},Vl P (Gb s.hp) ts (xs.map (A8 s.tm)) K=some r ->
  ∃ps m,K ps m=some r∧(∀id∈m,∃f cc,s.hp id=some (.ar f cc))∧∀fz:List Nat,(∀id∈m,id∈fz)->(∀id∈fz,∃f cc,s.hp id=some (.ar f cc))->Au (Lr w (Bv (Ac s.hp fz) β Y)) ps (xs.map a.eval)
 |[],[],K,hk=>⟨[],[],hk,by simp,fun _ _ _=>trivial⟩
 |[],_::_,K,hk=>by cases hk
 |_::_,[],K,hk=>by cases hk
 |t::ts,x::xs,K,hk=>by
  simp only[List.map_cons] at hk;unfold Vl at hk;obtain⟨p,m,hk,hm,hv⟩:=SO h hk;obtain⟨ps,ms,hk,We,F7⟩:=X4 h hk;refine⟨p::ps,m++ms,hk,?_,fun fz h1 h2=>⟨hv fz (fun i hi=>h1 i (by simp[hi])) h2,F7 fz (fun i hi=>h1 i (by simp[hi])) h2⟩⟩
  intro i hi;rcases List.mem_append.1 hi with hi|hi
  ·exact hm i hi
  ·exact We i hi
theorem Lr.weaken {A':Nat->Prop}(hA:∀b,b<w.heap.size->A' b->A b){p:PV}{v:Value}(h:Lr w A p v):Lr w A' p v:=by
 have one:Ob p->Ob p∧Ao w A p v->Lr w A' p v:=by
  intro hp h;cases p<;>first|exact⟨h.1,h.2.step (Bb.refl _ _) hA⟩|exact hp.elim
 cases p with
 |agg cs=>
  obtain⟨vs,rfl,h2⟩:=h;exact⟨vs,rfl,h2.mono fun c v hc=>⟨hc.1,hc.2.step (Bb.refl _ _) hA⟩⟩
 |_=>exact one h.1 h
theorem SG {t:CT}{p:PV}{K:PV->Option R}(h:Se t p K=some r):
  ∃c,K c=some r∧Ob c∧Ob p∧(∀(w:World) (A:Nat->Prop) (β:Nat->Option (Nat × Nat)) (v:Value),A6 w A β p v->Ao w A c v∧v.oneCell'=true)∧((∀es,t ≠ .sl es)->∃v,c=.sc v):=by
 obtain⟨c,hk,hT,Up,hv⟩:=Ib h;cases t with
 |sl es=>exact⟨c,hk,hT,Up,hv,fun G6=>absurd rfl (G6 es)⟩
 |int k=>obtain⟨n,rfl,h2⟩:=Cq h;exact⟨_,h2,trivial,trivial,fun w A β v hv=>⟨hv,by have:=Ao.val (w:=w) (A:=A) hv;subst this;rfl⟩,fun _=>⟨_,rfl⟩⟩
 |bool=>obtain⟨n,rfl,h2⟩:=B8 h;exact⟨_,h2,trivial,trivial,fun w A β v hv=>⟨hv,by have:=Ao.val (w:=w) (A:=A) hv;subst this;rfl⟩,fun _=>⟨_,rfl⟩⟩
 |str=>obtain⟨n,rfl,h2⟩:=Ca h;exact⟨_,h2,trivial,trivial,fun w A β v hv=>⟨hv,by have:=Ao.val (w:=w) (A:=A) hv;subst this;rfl⟩,fun _=>⟨_,rfl⟩⟩
 |any=>
  obtain⟨f,a,b,rfl,h2⟩:=AK (show PX p (fun v=>K (.sc v))=some r from h)
  exact⟨_,h2,trivial,trivial,fun w A β v hv=>⟨hv,by have:=Ao.val (w:=w) (A:=A) hv;subst this;rfl⟩,fun _=>⟨_,rfl⟩⟩
theorem Nd (shr:Bool)(N:Nat):∀{ts:List CT}{ps:List PV}{id:Nat}{K:List PV->List (Nat × A1)->Option R},Ka shr N id ts ps K=some r ->
  ∃cs bs,K cs bs=some r∧ps.length=ts.length∧(∀p∈ps,∀x,p ≠ .agg x∧p ≠ .pbox x)∧(∀c∈cs,Xa c)∧((∀es,CT.sl es ∉ ts)->bs=[]∧∀c∈cs,∃v,c=.sc v) ∧
   (∀i bx,(i,bx)∈bs->∃j es n c,ps[j]?=some (.own es n c)∧i=id+N*j∧bx=.ar false c) ∧
   (∀c∈cs,∀i∈Ai c,∃bx,(i,bx)∈bs) ∧
   ∀(w:World) (A:Nat->Prop) (own β':Bt) (j0:Nat) (us:List Value),(∀j,(∃bx,(id+N*j,bx)∈bs)->β' (id+N*j)=own (j0+j))->Da w A own j0 ps us->Au (A6 w A β') cs us
 |[],ps,id,K,hk=>by
  obtain⟨rfl,hk⟩:=B1 hk;refine⟨[],[],hk,rfl,by simp,by simp,by simp,by simp,by simp,fun w A own β' j0 us _ h=>?_⟩
  cases us with
  |nil=>trivial
  |cons u us=>exact h.elim
 |t::ts,ps,id,K,hk=>by
  unfold Ka at hk;obtain⟨p,ps',W2,Ck⟩:=Ap hk;subst W2;clear hk
  have main:∃c b,(Ka shr N (id+N) ts ps' fun cs bs=>K (c::cs) (b++bs))=some r∧(∀x,p ≠ .agg x∧p ≠ .pbox x)∧Xa c∧((∀es,t≠CT.sl es)->b=[]∧∃v,c=.sc v)∧(∀i bx,(i,bx)∈b->∃es n cc,p=.own es n cc∧i=id∧bx=.ar false cc)∧(∀i∈Ai c,∃bx,(i,bx)∈b) ∧
    ∀(w:World) (A:Nat->Prop) (own:Option (Nat × Nat)) (β':Bt) (u:Value),((∃bx,(id,bx)∈b)->β' id=own)->Ed w A own p u->A6 w A β' c u:=by
   have tree:∀t',t'=t->(Se t' p fun c=>Ka shr N (id+N) ts ps' fun cs bs=>K (c::cs) ([]++bs))=some r->∃c b,(Ka shr N (id+N) ts ps' fun cs bs=>K (c::cs) (b++bs))=some r∧(∀x,p ≠ .agg x∧p ≠ .pbox x)∧Xa c∧((∀es,t≠CT.sl es)->b=[]∧∃v,c=.sc v)∧(∀i bx,(i,bx)∈b->∃es n cc,p=.own es n cc∧i=id∧bx=.ar false cc)∧(∀i∈Ai c,∃bx,(i,bx)∈b) ∧
     ∀(w:World) (A:Nat->Prop) (own:Option (Nat × Nat)) (β':Bt) (u:Value),((∃bx,(id,bx)∈b)->β' id=own)->Ed w A own p u->A6 w A β' c u:=by
    intro t' ht' hk;have FV:=SG hk;obtain⟨c,hk,hT,Up,hv,FV⟩:=FV;refine⟨c,[],hk,fun x=>⟨P5 Up x,by rintro rfl;exact Up⟩,Ld hT,fun G6=>⟨rfl,FV (fun es e=>G6 es (ht'.symm.trans e))⟩,by simp,by rw[Em hT];simp,fun w A own β' u _ hc=>?_⟩
    have Lh:A6 w A β' p u:=by cases p<;>first|exact hc|exact Up.elim
    exact (Hd hT).2 (hv w A β' u Lh).1
   unfold QA at Ck;cases t with
   |sl es=>
    dsimp only at Ck;cases shr
    ·unfold Ml at Ck;simp only[cond_false] at Ck;split at Ck
     ·rename_i es' n c;cases hb:Nat.beq es' es
      ·rw[hb] at Ck;cases Ck
      ·rw[hb] at Ck;have:=Nat.eq_of_beq_eq_true hb;subst this;refine⟨_,_,Ck,by simp,trivial,fun G6=>absurd rfl (G6 _),?_,?_,fun w A own β' u hβ hc=>?_⟩
       ·intro i bx hm;simp at hm;exact⟨_,_,_,rfl,hm.1,hm.2⟩
       ·intro i hi;simp[Ai] at hi;subst hi;exact⟨.ar false c,by simp⟩
       ·have hβ':=hβ ⟨.ar false c,by simp⟩
        clear hβ;rcases hc with⟨h1,rfl,rfl,h4⟩|⟨b,ob,cap,h1,h2,h3,h4,h5,_⟩
        ·exact .inl ⟨hβ'.trans h1,rfl,rfl,h4⟩
        ·exact .inr ⟨b,ob,ob,cap,hβ'.trans h1,h2,.inl rfl,h3,h4,h5⟩
     ·cases Ck
    ·obtain⟨c,hk,hT,Up,hv,_⟩:=SG (t:=.sl es) (p:=p) (K:=fun c=>Ka true N (id+N) ts ps' fun cs bs=>K (AP c::cs) ([]++bs)) Ck
     have hU:Ob (AP c):=by cases c<;>exact hT
     refine⟨AP c,[],hk,fun x=>⟨P5 Up x,by rintro rfl;exact Up⟩,Ld hU,fun G6=>absurd rfl (G6 _),by simp,by rw[Em hU];simp,fun w A own β' u _ hc=>?_⟩
     have Lh:A6 w A β' p u:=by cases p<;>first|exact hc|exact Up.elim
     refine (Hd hU).2 ?_;have:=(hv w A β' u Lh).1;cases c with
     |lst z es n c=>exact Ao.unz this
     |_=>exact this
   |int k=>exact tree (.int k) rfl Ck
   |bool=>exact tree .bool rfl Ck
   |str=>exact tree .str rfl Ck
   |any=>exact tree .any rfl Ck
  obtain⟨c,b,hk,hpa,hF,DD,Dl,Hq,Ta⟩:=main;obtain⟨cs,bs,hk,hl,Ai8,hFs,Ab4,Ak6,Ahj,Akl⟩:=Nd shr N hk;refine⟨c::cs,b++bs,hk,by simp[hl],?_,?_,?_,?_,?_,fun w A own β' j0 us hβ ZY=>?_⟩
  ·intro x hx;rcases List.mem_cons.1 hx with rfl|hx
   ·exact hpa
   ·exact Ai8 x hx
  ·intro x hx;rcases List.mem_cons.1 hx with rfl|hx
   ·exact hF
   ·exact hFs x hx
  ·intro G6;obtain⟨h1,v,h2⟩:=DD (fun es e=>G6 es (by rw[e];simp))
   obtain⟨h3,h4⟩:=Ab4 (fun es hm=>G6 es (by simp[hm]))
   refine⟨by rw[h1,h3];rfl,fun x hx=>?_⟩
   rcases List.mem_cons.1 hx with rfl|hx
   ·exact⟨v,h2⟩
   ·exact h4 x hx
  ·intro i bx hm;rcases List.mem_append.1 hm with hm|hm
   ·obtain⟨es,n,cc,rfl,rfl,rfl⟩:=Dl i bx hm;exact⟨0,es,n,cc,rfl,by simp,rfl⟩
   ·obtain⟨j,es,n,cc,h1,rfl,h3⟩:=Ak6 i bx hm;exact⟨j+1,es,n,cc,by simpa using h1,by rw[Nat.mul_add];omega,h3⟩
  ·intro x hx i hi;rcases List.mem_cons.1 hx with rfl|hx
   ·obtain⟨bx,hm⟩:=Hq i hi;exact⟨bx,by simp[hm]⟩
   ·obtain⟨bx,hm⟩:=Ahj x hx i hi;exact⟨bx,by simp[hm]⟩
  ·cases us with
   |nil=>exact ZY.elim
   |cons u us=>
    refine⟨Ta w A (own j0) β' u (fun ⟨bx,hm⟩=>by have:=hβ 0 ⟨bx,by simp[hm]⟩;simpa using this) ZY.1,?_⟩
    refine Akl w A own β' (j0+1) us (fun j ⟨bx,hm⟩=>?_) ZY.2
    have e:id+N+N*j=id+N*(j+1):=by rw[Nat.mul_add];omega
    have:=hβ (j+1) ⟨bx,by rw[←e];simp[hm]⟩
    rw[e,this]
    congr 1
    omega
end
open Go.RowKit
section
variable {R:Type} {r:R} {P:Program} {N:Nat} {w0:World} {X0:Ev} {Y:Nat->Prop} {β β':Bt} {s:St} {a:Act} {w w':World} {o:Oper} {A:Nat->Prop}
theorem Da.len:∀{j:Nat}{own:Bt}{ps:List PV}{us:List Value},Da w A own j ps us->ps.length=us.length
 |_,_,[],[],_=>rfl
 |_,_,_::_,_::_,h=>by simp[Da.len h.2]
 |_,_,[],_::_,h=>h.elim
 |_,_,_::_,[],h=>h.elim
theorem Da.at_:∀{j:Nat}{own:Bt}{ps:List PV}{us:List Value},Da w A own j ps us->∀{i:Nat} {p},ps[i]?=some p->∃u,us[i]?=some u∧Ed w A (own (j+i)) p u
 |_,_,[],[],_,i,p,h=>by simp at h
 |j,own,_::_,u::_,h,0,p,hp=>by simp at hp;subst hp;exact⟨u,rfl,h.1⟩
 |j,own,_::_,_::_,h,i+1,p,hp=>by
  simp at hp;obtain⟨u,hu,hc⟩:=Da.at_ h.2 hp;exact⟨u,by simpa using hu,by rw[show j+(i+1)=j+1+i from by omega];exact hc⟩
 |_,_,[],_::_,h,_,_,_=>h.elim
 |_,_,_::_,[],h,_,_,_=>h.elim
def UD (N id:Nat)(β':Bt)(w:World)(A:Nat->Prop)(z n:Nat)(bs:List (Nat × A1)):Prop:=
 ∀i bx,(i,bx)∈bs->(∃j,i=id+N*j∧j<n)∧Bu (some bx)∧Lb w A β' i bx∧∀cs,bx=.st cs->∀b o,β' i=some (b,o)->z<=b
def Sk (bs:List (Nat × A1)):Prop:=∀i cells,(i,.st cells)∈bs->∀c∈cells,∀i'∈Ai c,∃bx,(i',bx)∈bs
theorem P1 {q:Option (Nat × Nat)} {es n i:Nat}{c:List PV}{u:Value}(h:Ed w A q (.own es n c) u) (hβ:β' i=q):Lb w A β' i (.ar false c):=by
 rcases h with⟨h1,_,h2,_⟩|⟨b,o,cap,h1,_,_,_,_,h6,h7⟩
 ·exact .inl ⟨hβ.trans h1,h2⟩
 ·exact .inr ⟨b,o,hβ.trans h1,h6,fun _=>h7,(fun x=>by cases x)⟩
theorem Rx {t:TypeId}(h:Fv P [t]=false):P0 P t=none∧∀es,CT.sl es ∉ Ez P t:=by
 simp only[Fv,List.any_cons,List.any_nil,Bool.or_false,Bool.or_eq_false_iff] at h;refine⟨by simpa using h.1,fun es hm=>?_⟩
 have:=List.any_eq_false.1 h.2 _ hm;simp at this
theorem UP (shr:Bool)(N:Nat){t:TypeId}{p:PV}{id:Nat}{K:PV->List (Nat × A1)->Option R} (hk:MV P shr N id t p K=some r):
  ∃v bs,K v bs=some r∧NR p=EH P t∧(∀x,v ≠ .tup x)∧(Fv P [t]=false->bs=[]∧∀c∈cellsOf v,∃u,c=.sc u)∧(∀i∈Be v,∃bx,(i,bx)∈bs)∧Sk bs ∧
   ∀(w:World) (A:Nat->Prop) (own β':Bt) (z j0:Nat) (u:Value),(∀j,(∃bx,(id+N*j,bx)∈bs)->β' (id+N*j)=own (j0+j))->YV w A own z j0 p u->Eo w A β' v u∧UD N id β' w A z (NR p) bs:=by
 have boxes:∀{bs:List (Nat × A1)} {ps:List PV} {id:Nat},(∀i bx,(i,bx)∈bs->∃j es n c,ps[j]?=some (.own es n c)∧i=id+N*j∧bx=.ar false c) ->
   Sk bs∧∀(w:World) (A:Nat->Prop) (own β':Bt) (j0:Nat) (us:List Value),(∀j,(∃bx,(id+N*j,bx)∈bs)->β' (id+N*j)=own (j0+j))->Da w A own j0 ps us->∀z,UD N id β' w A z ps.length bs:=by
  intro bs ps id Dl;refine⟨fun i cells hm=>?_,fun w A own β' j0 us hβ ho z i bx hm=>?_⟩
  ·obtain⟨_,_,_,_,_,_,h3⟩:=Dl i _ hm;cases h3
  ·obtain⟨j,es,n,cc,h1,h2,h3⟩:=Dl i bx hm;obtain⟨u,hu,ZY⟩:=ho.at_ h1;subst h3;refine⟨⟨j,h2,?_⟩,trivial,P1 ZY ?_,fun _ e=>by cases e⟩
   ·rcases Nat.lt_or_ge j ps.length with h|h
    ·exact h
    ·rw[List.getElem?_eq_none h] at h1;cases h1
   ·rw[h2];exact hβ j ⟨_,h2 ▸ hm⟩
 unfold MV at hk;split at hk
 ·rename_i e he;obtain⟨ps,rfl,hk⟩:=Y7 hk;obtain⟨cs,bs,hk,hl,YD,hF,DD,Dl,Hq,Ta⟩:=Nd shr N hk;obtain⟨IH,Hy⟩:=boxes Dl;refine⟨.ptr id 0,_,hk,by simp only[NR,EH,he,hl],by simp,fun h=>?_,fun i hi=>?_,fun i cells hm c hc i' AA=>?_,fun w A own β' z j0 u hβ ho=>?_⟩
  ·have:=(Rx h).1;rw[he] at this;cases this
  ·simp only[Be,Ai,List.mem_singleton] at hi;subst hi;exact⟨_,List.mem_cons_self⟩
  ·rcases List.mem_cons.1 hm with e|hm
   ·cases e;obtain⟨bx,hb⟩:=Hq c hc i' AA;exact⟨bx,List.mem_cons_of_mem _ hb⟩
   ·obtain⟨bx,hb⟩:=IH i cells hm c hc i' AA;exact⟨bx,List.mem_cons_of_mem _ hb⟩
  ·obtain⟨b,o,h1,hz,rfl,vs,h3,h4,h5⟩:=ho;have h0:=hβ 0 ⟨_,by rw[Nat.mul_zero,Nat.add_zero];exact List.mem_cons_self⟩
   rw[Nat.mul_zero,Nat.add_zero,Nat.add_zero,h1] at h0;have Ax:∀j,id+N+N*j=id+N*(j+1):=fun j=>by rw[Nat.mul_add];omega
   have hβ1:∀j,(∃bx,(id+N+N*j,bx)∈bs)->β' (id+N+N*j)=own (j0+1+j):=fun j ⟨bx,hm⟩=>by
    rw[Ax,hβ (j+1) ⟨bx,by rw[←Ax];exact List.mem_cons_of_mem _ hm⟩]
    congr 1;omega
   have hc2:=Ta w A own β' (j0+1) vs hβ1 h3;have BJ:=Hy w A own β' (j0+1) vs hβ1 h3 z;have Cy:cs.length=ps.length:=by rw[hc2.len,←h3.len]
   refine⟨⟨b,o,h0,by simp⟩,fun i bx hm=>?_⟩
   rcases List.mem_cons.1 hm with e|hm
   ·cases e;refine⟨⟨0,by simp,by simp only[NR];omega⟩,trivial,⟨b,o,h0,fun k c hk=>?_,fun k hk=>h5 k (by omega)⟩,fun _ _ b' o' Ep=>?_⟩
    ·obtain⟨v,hv,CA⟩:=hc2.get hk;exact⟨v,h4 k v hv,CA⟩
    ·rw[h0] at Ep;cases Ep;exact hz
   ·obtain⟨⟨j,hj,hjn⟩,h6,h7⟩:=BJ i bx hm;exact⟨⟨j+1,by rw[hj,Ax],by simp only[NR];omega⟩,h6,h7⟩
 ·rename_i hnp;have Ue:EH P t=(Ez P t).length:=by simp only[EH,hnp]
  cases Dp:A9 P t
  ·rw[Dp] at hk;obtain⟨cs,bs,hk,hl,YD,hF,DD,Dl,Hq,Ta⟩:=Nd shr N (show Ka _ _ _ _ _ _=some r from hk)
   obtain⟨c,t',rfl,hk⟩:=Ap hk;obtain⟨rfl,hk⟩:=B1 hk;have hFc:=hF c (by simp)
   have Aeo:∀x,p ≠ .pbox x:=fun x=>(YD p (by simp) x).2
   have Acf:∀x,c ≠ .agg x:=by rintro x rfl;exact hFc
   have Aky:∀x,c ≠ .tup x:=by rintro x rfl;exact hFc
   have WX:Be c=Ai c:=by cases c<;>first|rfl|exact absurd rfl (Acf _)
   have hpa:∀x,p ≠ .agg x:=fun x=>(YD p (by simp) x).1
   obtain⟨IH,Hy⟩:=boxes Dl;have hcell:cellsOf p=[p]:=by cases p<;>first|rfl|exact absurd rfl (hpa _)
   have Afa:NR p=1:=by cases p<;>first|rfl|exact absurd rfl (hpa _)|exact absurd rfl (Aeo _)
   have UQ:cellsOf c=[c]:=by cases c<;>first|rfl|exact absurd rfl (Acf _)
   refine⟨c,bs,hk,by rw[Afa,Ue];exact hl,Aky,fun G6=>by rw[UQ];exact DD (Rx G6).2,fun i hi=>Hq c (by simp) i (by rw[←WX];exact hi),IH,fun w A own β' z j0 u hβ ho=>?_⟩
   have DK:Ed w A (own j0) p u:=by cases p<;>first|exact ho|exact absurd rfl (hpa _)|exact absurd rfl (Aeo _)
   exact⟨(Ql Acf).2 (Ta w A own β' j0 [u] hβ ⟨DK,trivial⟩).1,by rw[Afa];exact Hy w A own β' j0 [u] hβ ⟨DK,trivial⟩ z⟩
  ·rw[Dp] at hk;obtain⟨ps,rfl,hk⟩:=Eh (show Dw _ _=some r from hk)
   obtain⟨cs,bs,hk,hl,YD,hF,DD,Dl,Hq,Ta⟩:=Nd shr N hk;obtain⟨IH,Hy⟩:=boxes Dl;refine⟨.agg cs,bs,hk,by rw[Ue];exact hl,by simp,fun G6=>DD (Rx G6).2,fun i hi=>?_,IH,fun w A own β' z j0 u hβ ho=>?_⟩
   ·obtain⟨c,hc,hi⟩:=List.mem_flatMap.1 (show i∈cs.flatMap Ai from hi)
    exact Hq c hc i hi
   ·obtain⟨vs,rfl,ho⟩:=ho;exact⟨⟨vs,rfl,Ta w A own β' j0 vs hβ ho⟩,Hy w A own β' j0 vs hβ ho z⟩
theorem R4 (shr:Bool)(N:Nat):∀{ts:List TypeId}{ps:List PV}{id:Nat}{K:List PV->List (Nat × A1)->Option R},Tg P shr N id ts ps K=some r ->
  ∃vs bs,K vs bs=some r∧vs.length=ps.length∧(∀v∈vs,∀x,v ≠ .tup x)∧(Fv P ts=false->bs=[]∧∀v∈vs,∀c∈cellsOf v,∃u,c=.sc u)∧(∀v∈vs,∀i∈Be v,∃bx,(i,bx)∈bs)∧Sk bs ∧
   ∀(w:World) (A:Nat->Prop) (own β':Bt) (z j0:Nat) (us:List Value),(∀j,(∃bx,(id+N*j,bx)∈bs)->β' (id+N*j)=own (j0+j))->KU w A own z j0 ps us->Au (Eo w A β') vs us∧UD N id β' w A z (J3 ps) bs
 |[],ps,id,K,hk=>by
  obtain⟨rfl,hk⟩:=B1 hk;refine⟨[],[],hk,rfl,by simp,by simp,by simp,(by intro i cells hm;cases hm),fun w A own β' z j0 us _ h=>?_⟩
  cases us with
  |nil=>exact⟨trivial,by intro i bx hm;cases hm⟩
  |cons u us=>exact h.elim
 |t::ts,ps,id,K,hk=>by
  unfold Tg at hk;obtain⟨p,ps',W2,Ck⟩:=Ap hk;subst W2;clear hk;obtain⟨v,bs,hk,hl,VO,DD,WX,IH,hv⟩:=UP shr N Ck;obtain⟨vs,bs',hk,Qw,Akv,Ab4,hrs,Ahv,F7⟩:=R4 shr N hk;refine⟨v::vs,bs++bs',hk,by simp[Qw],?_,?_,?_,?_,fun w A own β' z j0 us hβ ho=>?_⟩
  ·intro x hx;rcases List.mem_cons.1 hx with rfl|hx
   ·exact VO
   ·exact Akv x hx
  ·intro G6;simp only[Fv,List.any_cons,Bool.or_eq_false_iff] at G6;obtain⟨h1,h2⟩:=DD (by simp only[Fv,List.any_cons,List.any_nil,Bool.or_false,Bool.or_eq_false_iff];exact G6.1)
   obtain⟨h3,h4⟩:=Ab4 (by simp only[Fv];exact G6.2)
   refine⟨by rw[h1,h3];rfl,fun x hx=>?_⟩
   rcases List.mem_cons.1 hx with rfl|hx
   ·exact h2
   ·exact h4 x hx
  ·intro x hx i hi;rcases List.mem_cons.1 hx with rfl|hx
   ·obtain⟨bx,hm⟩:=WX i hi;exact⟨bx,by simp[hm]⟩
   ·obtain⟨bx,hm⟩:=hrs x hx i hi;exact⟨bx,by simp[hm]⟩
  ·intro i cells hm c hc i' AA;rcases List.mem_append.1 hm with hm|hm
   ·obtain⟨bx,hb⟩:=IH i cells hm c hc i' AA;exact⟨bx,by simp[hb]⟩
   ·obtain⟨bx,hb⟩:=Ahv i cells hm c hc i' AA;exact⟨bx,by simp[hb]⟩
  ·cases us with
   |nil=>exact ho.elim
   |cons u us=>
    obtain⟨h1,Dl⟩:=hv w A own β' z j0 u (fun j ⟨bx,hm⟩=>hβ j ⟨bx,by simp[hm]⟩) ho.1
    have Ax:∀j,id+N*EH P t+N*j=id+N*(EH P t+j):=fun j=>by rw[Nat.mul_add];omega
    obtain⟨h2,Hq⟩:=F7 w A own β' z (j0+NR p) us (fun j ⟨bx,hm⟩=>by rw[Ax,hβ _ ⟨bx,by rw[←Ax];simp[hm]⟩,hl];congr 1;omega) ho.2
    refine⟨⟨h1,h2⟩,fun i bx hm=>?_⟩
    rcases List.mem_append.1 hm with hm|hm
    ·obtain⟨⟨j,hj,hjn⟩,h4,h5⟩:=Dl i bx hm;exact⟨⟨j,hj,by simp only[J3,List.map_cons,List.sum_cons];omega⟩,h4,h5⟩
    ·obtain⟨⟨j,hj,hjn⟩,h4,h5⟩:=Hq i bx hm;refine⟨⟨_,by rw[hj,Ax],?_⟩,h4,h5⟩
     simp only[J3,List.map_cons,List.sum_cons] at hjn ⊢;omega
def To (N d:Nat)(bs:List (Nat × A1)) (own β:Bt):Bt:=fun i=>if (bs.any fun q=>Nat.beq q.1 i)=true then own ((i-d) / N) else β i
theorem Zz {bs:List (Nat × A1)} {i:Nat}:(bs.any fun q=>Nat.beq q.1 i)=true↔∃bx,(i,bx)∈bs:=by
 rw[List.any_eq_true];constructor
 ·rintro⟨⟨j,bx⟩,hm,e⟩
  have:=Nat.eq_of_beq_eq_true e;subst this;exact⟨bx,hm⟩
 ·rintro⟨bx,hm⟩
  exact⟨_,hm,Nat.beq_refl i⟩
theorem KA {N d j:Nat}(hN:0<N){bs:List (Nat × A1)} {own β:Bt}(h:∃bx,(d+N*j,bx)∈bs):To N d bs own β (d+N*j)=own j:=by
 unfold To;rw[if_pos (Zz.2 h),Nat.add_sub_cancel_left,Nat.mul_div_cancel_left _ hN]
theorem EX {c:Call}{f:FuncId}(ho:o.op=.call c)(hc:c.callee=.value (.func f)) (G9:NoNG P){fn:Func}(hf:P.funcs[f]?=some fn) (hb:fn.body.isSome=true):
  (execOp a.eval o).run P w=.ok (.enter f (c.args.map a.eval)) w:=by
 unfold execOp;rw[ho]
 have hn:¬fn.body=none:=by
  intro h;rw[h] at hb;cases hb
 have G6:¬fn.name = "runtime.NumGoroutine" :=by simpa using G9 f fn hf
 simp[resolve,hc,Act.eval,Deferred.ofValue,invoke,callFunc,hf,G6,hn]
theorem NI {c:Call}{t:Nat}{f:FuncId}(ho:o.op=.call c)(hc:c.callee=.value (.tmp t)) (ht:a.eval (.tmp t)=.func (.func f) #[] #[]) (G9:NoNG P){fn:Func}(hf:P.funcs[f]?=some fn) (hb:fn.body.isSome=true):
  (execOp a.eval o).run P w=.ok (.enter f (c.args.map a.eval)) w:=by
 unfold execOp;rw[ho]
 have hn:¬fn.body=none:=by
  intro h;rw[h] at hb;cases hb
 have G6:¬fn.name = "runtime.NumGoroutine" :=by simpa using G9 f fn hf
 simp[resolve,hc,ht,Deferred.ofValue,invoke,callFunc,hf,G6,hn]
theorem Sz {A':Nat->Prop}(k:Bool):∀{xs:List Operand}{ps:List PV},Au (Lr w A') ps (xs.map a.eval)->Au (Lr w A') (F3 k xs ps) (xs.map a.eval)
 |[],[],h=>h
 |[],_::_,h=>h
 |_::_,[],h=>h
 |x::xs,p::ps,h=>by
  simp only[List.map_cons] at h ⊢;refine⟨?_,Sz k h.2⟩;split
  ·exact⟨trivial,Ao.lnil _ _⟩
  ·exact h.1
theorem Wh (h : Bp N w0 X0 Y β s a w) {G : Glo} (G9 : FQ P G w0 X0) {C : Eg} {call : Al} (Ce : ∀ f args res, call f args = some res -> Db G P f args res) {c : Call} {f : FuncId} (Bn : ∀ {fn : Func}, P.funcs[f]? = some fn -> fn.body.isSome = true -> (execOp a.eval o).run P w = .ok (.enter f (c.args.map a.eval)) w)
    {K : PV -> List Nat -> List (Nat × A1) -> Option R}
    (hk : (Vl P (Gb s.hp) (Vs P f c) (c.args.toList.map (A8 s.tm)) fun vs m =>
          Ar (call f (F3 (C.kz f) c.args.toList vs)) fun rv ro => Ah ro (As (Nat.blt 0 N) <| Tg P (C.shr f) N (o.dst.getD 0) (I3 P o.type) rv fun ws bs =>
            As (bif Jj P o.type then !Nat.beq ws.length 1 else Nat.beq ws.length 1) <| K (It ws (Jj P o.type)) (bif Fv P (I3 P o.type) then m else []) bs)) = some r) : ∃ v fz nw, K v fz nw = some r ∧ Wr P a w o Y β s v fz nw := by
  obtain⟨ps, m, hk, hm, C3⟩ := X4 h hk
  replace C3 := fun fz h1 h2 => Sz (a := a) (C.kz f) (C3 fz h1 h2)
  generalize F3 (C.kz f) c.args.toList ps = ps at hk C3
  obtain⟨rv, ro, J0, hk⟩ := Y4 hk
  obtain⟨rfl, hk⟩ := B1 hk
  obtain⟨hN, hk⟩ := Ae hk
  have hN : 0 < N := Nat.lt_of_succ_le (Nat.le_of_ble_eq_true hN)
  obtain⟨ws, bs, hk, hwl, VO, DD, hrs, IH, hws⟩ := R4 (C.shr f) N hk
  obtain⟨J7, hk⟩ := Ae hk
  obtain⟨⟨fn, hfn, hfb⟩, Oj⟩ := Ce f ps _ J0
  obtain⟨fz, Lz, hfm⟩ : ∃ fz : List Nat, fz = (bif Fv P (I3 P o.type) then m else []) ∧ ∀ id ∈ fz, ∃ f c, s.hp id = some (.ar f c) := by
    refine⟨_, rfl, fun id Ax => ?_⟩
    cases hh : Fv P (I3 P o.type) <;> rw[hh] at Ax
    · cases Ax
    · exact hm id Ax
  rw[← Lz] at hk
  refine⟨_, _, _, hk, hfm, fun next Q hn => ?_⟩
  have hf := h.freeze hfm
  have hYc : ∃ Yc : Nat -> Prop, (∀ b, Yc b -> b < w.heap.size) ∧ Au (Lr w Yc) ps (c.args.toList.map a.eval) ∧ ((∀ b, Bv (Ac s.hp fz) β Y b -> Yc b) ∨ Fv P (I3 P o.type) = false) := by
    have I7 := C3 m (fun _ hi => hi) hm
    cases hh : Fv P (I3 P o.type)
    · exact⟨fun _ => False, fun _ x => x.elim, I7.mono fun _ _ hx => hx.weaken (fun _ _ x => x.elim), .inr rfl⟩
    · rw[hh] at Lz
      have Lz : fz = m := Lz
      subst Lz
      refine⟨Bv (Ac s.hp fz) β Y, fun b hb => ?_, I7, .inl fun _ x => x⟩
      rcases hb with⟨id, ob, hl, hβ⟩ | hY
      · exact hf.blt id b ob (Br hl) hβ
      · exact Nat.lt_of_lt_of_le (h.Ylt b hY) h.fr.step.size
  obtain⟨Yc, Ajr, hYargs, hYA⟩ := hYc
  unfold Oper.wp
  rw[Bn hfn hfb]
  show Calls P f _ w _
  have hca : c.args.map a.eval = (c.args.toList.map a.eval).toArray := by rw[← List.map_toArray, Array.toArray_toList]
  rw[hca]
  refine (Oj w Yc UU _ (ED Ajr hYargs) (G9.fr w h.fr) (fun b x => ⟨Nat.lt_of_lt_of_le (G9.y b x).1 h.fr.step.size, U5 b⟩)).mono ?_
  rintro e w' ⟨vs, own, rfl, Z9⟩
  refine hn (Fc vs) w' fun J6 => ⟨To N (o.dst.getD 0) bs own β, ?_⟩
  obtain⟨XV, ha2⟩ := Aw J6
  have UX : ∀ i bx, (i, bx) ∈ bs -> Ac s.hp fz i = none := fun i bx hm => Cf.2 (XV i bx hm)
  obtain⟨VW, hg2⟩ := Cn (hp := Ac s.hp fz) ha2
  have hold : ∀ i, Ac s.hp fz i ≠ none -> To N (o.dst.getD 0) bs own β i = β i := by
    intro i hi
    unfold To
    rw[if_neg]
    intro hx
    obtain⟨bx, hm⟩ := Zz.1 hx
    exact hi (UX i bx hm)
  obtain⟨F7, hba⟩ := hws w' _ own (To N (o.dst.getD 0) bs own β) w.heap.size 0 vs (fun j hj => by rw[KA hN hj, Nat.zero_add]) Z9.vals
  have Pg : ∀ i bx, (i, bx) ∈ bs -> ∃ j, i = o.dst.getD 0 + N * j ∧ To N (o.dst.getD 0) bs own β i = own j := by
    intro i bx hm
    obtain⟨⟨j, rfl, _⟩, _, _⟩ := hba i bx hm
    exact⟨j, rfl, KA hN ⟨bx, hm⟩⟩
  have hAA : Fv P (I3 P o.type) = false ∨ ∀ b, Bv (Aj (Ac s.hp fz) bs) (To N (o.dst.getD 0) bs own β) Y b -> Ru UU own Yc b := by
    rcases hYA with hYA | hYA
    · refine .inr fun b hb => ?_
      rcases hb with⟨i, ob, hl, hβ⟩ | hY
      · by_cases hi : ∃ bx, (i, bx) ∈ bs
        · obtain⟨bx, hm⟩ := hi
          obtain⟨j, _, h3⟩ := Pg i bx hm
          rw[h3] at hβ
          exact .inl ⟨j, ob, hβ⟩
        · rw[hg2 i (fun bx hm => hi ⟨bx, hm⟩)] at hl
          rw[hold i (Br hl)] at hβ
          exact .inr (.inr (hYA b (.inl ⟨i, ob, hl, hβ⟩)))
      · exact .inr (.inr (hYA b (.inr hY)))
    · exact .inl hYA
  have hval : Cp w' (Bv (Aj (Ac s.hp fz) bs) (To N (o.dst.getD 0) bs own β) Y) (To N (o.dst.getD 0) bs own β) (It ws (Jj P o.type)) (Fc vs) := by
    have I7 : Au (Eo w' (Bv (Aj (Ac s.hp fz) bs) (To N (o.dst.getD 0) bs own β) Y) (To N (o.dst.getD 0) bs own β)) ws vs := by
      rcases hAA with CP | hAA
      · obtain⟨_, FV⟩ := DD CP
        refine F7.mono_mem fun v hv u hvu => ?_
        have FV := FV v hv
        cases v with
        | agg cs =>
          obtain⟨xs, rfl, Wv⟩ := hvu
          refine⟨xs, rfl, Wv.mono_mem fun cc UQ x hx => ?_⟩
          obtain⟨y, rfl⟩ := FV cc UQ
          have := Ao.val (w := w') hx
          subst this
          exact Ao.sc _
        | sc y =>
          have := Ao.val (w := w') hvu
          subst this
          exact Ao.sc _
        | lst z es n cc => obtain⟨y, hy⟩ := FV _ (List.mem_singleton_self _); cases hy
        | own es n cc => obtain⟨y, hy⟩ := FV _ (List.mem_singleton_self _); cases hy
        | view i es n cc => obtain⟨y, hy⟩ := FV _ (List.mem_singleton_self _); cases hy
        | ptr i cc => obtain⟨y, hy⟩ := FV _ (List.mem_singleton_self _); cases hy
        | iptr i cc => obtain⟨y, hy⟩ := FV _ (List.mem_singleton_self _); cases hy
        | pbox cc => obtain⟨y, hy⟩ := FV _ (List.mem_singleton_self _); cases hy
        | tup cc => obtain⟨y, hy⟩ := FV _ (List.mem_singleton_self _); cases hy
        | top => obtain⟨y, hy⟩ := FV _ (List.mem_singleton_self _); cases hy
        | ub => obtain⟨y, hy⟩ := FV _ (List.mem_singleton_self _); cases hy
      · exact F7.mono fun v u hvu => hvu.step (Bb.refl _ _) (fun b _ => hAA b) (fun _ _ => rfl)
    have Cy := I7.len
    cases hT : Jj P o.type
    · rw[hT] at J7
      have h1 : ws.length = 1 := Nat.eq_of_beq_eq_true J7
      match ws, vs, h1, Cy with
      | [v], [u], _, _ =>
        exact (K5 (VO v (by simp))).2 I7.1
    · rw[hT] at J7
      have h1 : ¬ ws.length = 1 := by
        intro e
        rw[e] at J7
        cases J7
      have hr : Fc vs = .tuple ⟨vs⟩ := by
        unfold Fc
        split
        · simp at Cy; omega
        · rfl
      rw[hr]
      exact⟨vs, rfl, I7⟩
  refine⟨Z9.os, Z9.tape, Z9.output, Z9.ext.weaken (fun b _ hb => U5 b hb), hold, ?_, ?_, ?_, ?_, ?_, hval, ?_⟩
  · intro i bx hm
    exact (hba i bx hm).2.1
  · intro i bx hm
    rcases hAA with CP | hAA
    · rw[(DD CP).1] at hm; cases hm
    · exact (hba i bx hm).2.2.1.step' hAA
  · intro i bx b ob hm hβ
    obtain⟨j, _, h3⟩ := Pg i bx hm
    rw[h3] at hβ
    obtain⟨h4, h5⟩ := Z9.fresh j b ob hβ
    refine⟨?_, h4⟩
    rcases Nat.lt_or_ge b w.heap.size with h | h
    · obtain⟨⟨_, _, _, h6⟩, _⟩ := h5 h
      cases h6
    · exact h
  · intro i bx i' bx' b ob ob' hm Hg hβ hβ'
    obtain⟨j, h1, h3⟩ := Pg i bx hm
    obtain⟨j', Ur, h3'⟩ := Pg i' bx' Hg
    rw[h3] at hβ
    rw[h3'] at hβ'
    rw[h1, Ur, Z9.inj j j' b ob ob' hβ hβ']
  · intro i cells hm c hc i' AA
    exact .inr (IH i cells hm c hc i' AA)
  · intro i hi
    right
    cases hT : Jj P o.type
    · rw[hT] at J7 hi
      have h1 : ws.length = 1 := Nat.eq_of_beq_eq_true J7
      match ws, h1 with
      | [v], _ =>
        refine hrs v (by simp) i ?_
        have : A5 v = Be v := by
          have hn := VO v (by simp)
          cases v <;> first | rfl | exact absurd rfl (hn _)
        rw[← this]
        exact hi
    · rw[hT] at hi
      obtain⟨v, hv, hi⟩ := List.mem_flatMap.1 (show i ∈ ws.flatMap Be from hi)
      exact hrs v hv i hi
end
open Go.RowKit
section
variable {R:Type} {r:R} {P:Program} {N:Nat} {w0:World} {X0:Ev} {Y:Nat->Prop} {β β':Bt} {s:St} {a:Act} {w w':World} {o:Oper} {A:Nat->Prop}
theorem Bp.move (h:Bp N w0 X0 Y β s a w){id d:Nat}{c cells:List PV}{bo:Option (Nat × Nat)} {v:PV}{val:Value}(h0:s.hp id=some (.ar false c)) (hd:s.hp d=none)(PJ:d<N)
  (hos:w'.os=w.os)(htp:w'.tape=w.tape)(Z9:w'.output=w.output)(DF:w.heap.size<=w'.heap.size)
  (He:∀k,k<w.heap.size->(∀x,β id≠some (k,x))->w'.heap[k]?=w.heap[k]?) (W3:∀k,k<w.heap.size->Fy w w' k)
  (BC:∀k x,bo=some (k,x)->k<w'.heap.size∧(w.heap.size<=k∨∃y,β id=some (k,y)))
  (BS:∀k x,bo=some (k,x)->k<w.heap.size->β id=some (k,x))
  (hO:∀k y,β id=some (k,y)->k<w.heap.size->∀j,j<y->w'.cell? ⟨k,j,none⟩=w.cell? ⟨k,j,none⟩∧w'.frozen? ⟨k,j,none⟩=w.frozen? ⟨k,j,none⟩)
  (Hy:Lb w' (Bv (Bh (Bh s.hp id (some .mv)) d (some (.ar false cells))) (Bh β d bo) Y) (Bh β d bo) d (.ar false cells))
  (hv:Cp w' (Bv (Bh (Bh s.hp id (some .mv)) d (some (.ar false cells))) (Bh β d bo) Y) (Bh β d bo) v val) (hr:∀i∈A5 v,i=d):
  Bp N w0 X0 Y (Bh β d bo) ⟨Bh s.tm d v,Bh (Bh s.hp id (some .mv)) d (some (.ar false cells))⟩ (a.put (some d) val) w':=by
 have G6:id≠d:=by rintro rfl;rw[h0] at hd;cases hd
 have Fz:∀i,i≠id->i≠d->Bh (Bh s.hp id (some A1.mv)) d (some (.ar false cells)) i=s.hp i:=fun i h1 h2=>by rw[Ad _ _ h2,Ad _ _ h1]
 have WU:Bh (Bh s.hp id (some A1.mv)) d (some (.ar false cells)) id=some .mv:=by rw[Ad _ _ G6,Af]
 have ZV:Bh (Bh s.hp id (some A1.mv)) d (some (.ar false cells)) d=some (.ar false cells):=Af _ _ _
 have E9:∀i,s.hp i≠none->Bh (Bh s.hp id (some A1.mv)) d (some (.ar false cells)) i≠none:=by
  intro i hi;by_cases e:i=id
  ·subst e;rw[WU];simp
  ·by_cases e':i=d
   ·subst e';rw[ZV];simp
   ·rw[Fz i e e'];exact hi
 have hβo:∀i,s.hp i≠none->Bh β d bo i=β i:=fun i hi=>Ad _ _ (by rintro rfl;exact hi hd)
 have EY:Bu (s.hp id):=by rw[h0];trivial
 have D3:∀i,Bu (Bh (Bh s.hp id (some A1.mv)) d (some (.ar false cells)) i)->i=d∨(i≠id∧i≠d∧Bu (s.hp i)):=by
  intro i hi;by_cases e':i=d
  ·exact .inl e'
  ·by_cases e:i=id
   ·subst e;rw[WU] at hi;exact hi.elim
   ·rw[Fz i e e'] at hi;exact .inr ⟨e,e',hi⟩
 have hX:∀k,k<w.heap.size->Zp (Bh (Bh s.hp id (some .mv)) d (some (.ar false cells))) (Bh β d bo) k->Zp s.hp β k:=by
  rintro k hk ⟨i,x,hl,hβ⟩
  rcases D3 i hl with rfl|⟨e,e',hl⟩
  ·rw[Af] at hβ;rcases (BC k x hβ).2 with Hp|⟨y,hy⟩
   ·omega
   ·exact⟨id,y,EY,hy⟩
  ·rw[Ad _ _ e'] at hβ;exact⟨i,x,hl,hβ⟩
 have hAo:∀k,k<w.heap.size->Bv (Bh (Bh s.hp id (some .mv)) d (some (.ar false cells))) (Bh β d bo) Y k->Bv s.hp β Y k:=fun k hk hx=>hx.imp (hX k hk) (fun y=>y)
 have I5:Bb (Bv s.hp β Y) w w':=⟨DF,fun k hk hn=>He k hk fun x hx=>hn (.inl ⟨id,x,EY,hx⟩),W3⟩
 have VC:∀i k x,i≠id->i≠d->(∃b,s.hp i=some b∧b ≠ .mv)->β i=some (k,x)->k<w.heap.size∧w'.heap[k]?=w.heap[k]?:=by
  rintro i k x e e' ⟨b,hb,hmv⟩ hβ
  have hk:=h.blt i k x (by rw[hb];simp) hβ
  refine⟨hk,He k hk fun y hy=>?_⟩
  have PH:=h.box i b hb;cases b with
  |st cc=>exact e (h.inj i id k x y (by rw[hb];trivial) EY hβ hy)
  |ar fz cc=>
   cases fz with
   |false=>exact e (h.inj i id k x y (by rw[hb];trivial) EY hβ hy)
   |true=>
    rcases PH with⟨h1,_⟩|⟨k',x',h1,_,_,h4⟩
    ·rw[hβ] at h1;cases h1
    ·rw[hβ] at h1;simp at h1;obtain⟨rfl,rfl⟩:=h1
     exact h4 rfl (.inl ⟨id,y,EY,hy⟩)
  |mv=>exact absurd rfl hmv
 refine⟨by rw[K6];exact h.dfr,by rw[Pz];exact h.tsz,?_,?_,?_,?_,?_,?_,?_,?_,?_,?_,?_,?_,h.Ylt,?_⟩
 ·intro i hi;show Bh s.tm d v i=_;rw[Ad _ _ (by omega)]
  exact h.tmo i hi
 ·refine Ji (d:=some d) (Q:=fun _ p u=>Cp w' (Bv (Bh (Bh s.hp id (some .mv)) d (some (.ar false cells))) (Bh β d bo) Y) (Bh β d bo) p u) h.tsz (by simp[Du,Nat.blt];omega) (fun i hi=>?_) (fun _=>hv)
  exact (h.tms i hi).step I5 hAo fun j hj=>hβo j (h.wfT i hi j hj)
 ·intro i bi hb;simp only at hb;by_cases e':i=d
  ·subst e';rw[ZV] at hb;cases hb;exact Hy
  ·by_cases e:i=id
   ·subst e;rw[WU] at hb;cases hb;trivial
   ·rw[Fz i e e'] at hb;have hβi:=hβo i (by rw[hb];simp)
    have Tp:=h.box i bi hb;cases bi with
    |st cc=>
     obtain⟨k,x,h1,h2,h3⟩:=Tp;obtain⟨hk,Q1⟩:=VC i k x e e' ⟨_,hb,by simp⟩ h1
     refine⟨k,x,by rw[hβi];exact h1,fun j p hj=>?_,fun j hj=>?_⟩
     ·obtain⟨u,hu,hc⟩:=h2 j p hj;exact⟨u,by rw[World.cell?_of_block (w:=w) Q1];exact hu,hc.step I5 hAo fun q hq=>hβo q (h.wfB i cc hb p (List.mem_of_getElem? hj) q hq)⟩
     ·rw[World.frozen?_of_block (w:=w) Q1];exact h3 j hj
    |ar fz cc=>
     rcases Tp with⟨h1,h2⟩|⟨k,x,h1,h2,h3,h4⟩
     ·exact .inl ⟨by rw[hβi];exact h1,h2⟩
     ·obtain⟨hk,Q1⟩:=VC i k x e e' ⟨_,hb,by simp⟩ h1
      refine .inr ⟨k,x,by rw[hβi];exact h1,fun j p hj=>?_,fun ef j hj I8=>?_,fun ef hx=>h4 ef (hAo k hk hx)⟩
      ·obtain⟨u,hu,h5,hc⟩:=h2 j p hj;exact⟨u,by rw[World.cell?_of_block (w:=w) (by rw[Dq];exact Q1)];exact hu,h5,hc.step I5 hAo⟩
      ·rw[World.frozen?_of_block (w:=w) Q1];refine h3 ef j hj ?_;unfold bsz at I8 ⊢;rw[Q1] at I8;exact I8
    |mv=>trivial
 ·intro i i' k x y hl Gc hb Ep;simp only at hl Gc
  have key:∀j z,j≠id->j≠d->Bu (s.hp j)->β j=some (k,z)->bo=some (k,y)∨bo=some (k,x)->False:=by
   intro j z e e' WE hβj WM;have hk:=h.blt j k z (Br WE) hβj;have:∃t,bo=some (k,t):=by rcases WM with q|q<;>exact⟨_,q⟩
   obtain⟨t,ht⟩:=this;rcases (BC k t ht).2 with Hp|⟨q,hq⟩
   ·omega
   ·exact e (h.inj j id k z q WE EY hβj hq)
  rcases D3 i hl with rfl|⟨e,e',TV⟩
  ·rcases D3 i' Gc with rfl|⟨e2,e2',Abm⟩
   ·rfl
   ·rw[Af] at hb;rw[Ad _ _ e2'] at Ep;exact (key i' y e2 e2' Abm Ep (.inr hb)).elim
  ·rcases D3 i' Gc with rfl|⟨e2,e2',Abm⟩
   ·rw[Af] at Ep;rw[Ad _ _ e'] at hb;exact (key i x e e' TV hb (.inl Ep)).elim
   ·rw[Ad _ _ e'] at hb;rw[Ad _ _ e2'] at Ep;exact h.inj i i' k x y TV Abm hb Ep
 ·intro i k x hi hb;simp only at hi;by_cases e':i=d
  ·subst e';rw[Af] at hb;exact (BC k x hb).1
  ·rw[Ad _ _ e'] at hb
   have AA:s.hp i≠none:=by
    by_cases e:i=id
    ·subst e;rw[h0];simp
    ·rw[Fz i e e'] at hi;exact hi
   exact Nat.lt_of_lt_of_le (h.blt i k x AA hb) DF
 ·have:=Ji (d:=some d) (Q:=fun _ p _=>∀j∈A5 p,Bh (Bh s.hp id (some A1.mv)) d (some (.ar false cells)) j≠none) (val:=val) (v:=v) h.tsz (by simp[Du,Nat.blt];omega) (fun i hi j hj=>E9 j (h.wfT i hi j hj)) (fun _ j hj=>by
   rw[hr j hj,ZV];simp)
  exact this
 ·intro i cc hc p hp j hj;simp only at hc;by_cases e':i=d
  ·subst e';rw[ZV] at hc;cases hc
  ·by_cases e:i=id
   ·subst e;rw[WU] at hc;cases hc
   ·rw[Fz i e e'] at hc;exact E9 j (h.wfB i cc hc p hp j hj)
 ·rintro k ⟨i,x,hl,hβ⟩
  rcases D3 i hl with rfl|⟨e,e',hl⟩
  ·rw[Af] at hβ;rcases (BC k x hβ).2 with Hp|⟨y,hy⟩
   ·exact .inr (Nat.le_trans h.fr.step.size Hp)
   ·exact h.ownd k ⟨id,y,EY,hy⟩
  ·rw[Ad _ _ e'] at hβ;exact h.ownd k ⟨i,x,hl,hβ⟩
 ·intro i bi k x Tp hli hβ Bk j hj;simp only at Tp;rcases D3 i (by rw[Tp];exact hli) with rfl|⟨e,e',hl⟩
  ·rw[Af] at hβ;rw[ZV] at Tp;cases Tp;have:=BS k x hβ (Nat.lt_of_lt_of_le Bk h.fr.step.size);exact h.rngB id (.ar false c) k x h0 trivial this Bk j hj
  ·rw[Fz i e e'] at Tp;rw[Ad _ _ e'] at hβ;exact h.rngB i bi k x Tp hli hβ Bk j hj
 ·intro i hi;exact⟨E9 _ (h.pin i hi).1,by rw[hβo _ (h.pin i hi).1];exact (h.pin i hi).2⟩
 ·intro i cc k x Tp hβ Bk;simp only at Tp;rcases D3 i (by rw[Tp];trivial) with rfl|⟨e,e',hl⟩
  ·rw[ZV] at Tp;cases Tp
  ·rw[Fz i e e'] at Tp;rw[Ad _ _ e'] at hβ;exact h.stp i cc k x Tp hβ Bk
 ·intro k hY hx;exact h.Yx k hY (hX k (Nat.lt_of_lt_of_le (h.Ylt k hY) h.fr.step.size) hx)
 ·refine⟨hos.trans h.fr.os,htp.trans h.fr.tape,Z9.trans h.fr.output,⟨Nat.le_trans h.fr.step.size DF,fun k hk hnk=>?_,fun k hk=>(h.fr.step.bs k hk).trans (W3 k (Nat.lt_of_lt_of_le hk h.fr.step.size))⟩,fun k j hk hL=>?_⟩
  ·rw[He k (Nat.lt_of_lt_of_le hk h.fr.step.size) ?_]
   ·exact h.fr.step.keep k hk hnk
   ·intro x hx;rcases h.ownd k ⟨id,x,EY,hx⟩ with hq|hq
    ·exact hnk hq
    ·omega
  ·have hkw:=Nat.lt_of_lt_of_le hk h.fr.step.size
   have Tc:w'.cell? ⟨k,j,none⟩=w.cell? ⟨k,j,none⟩∧w'.frozen? ⟨k,j,none⟩=w.frozen? ⟨k,j,none⟩:=by
    by_cases e:∃y,β id=some (k,y)
    ·obtain⟨y,hy⟩:=e;refine hO k y hy hkw j ?_;rcases Nat.lt_or_ge j y with q|q
     ·exact q
     ·exact absurd (h.rngB id (.ar false c) k y h0 trivial hy hk j q) hL
    ·have Q1:=He k hkw (fun x hx=>e ⟨x,hx⟩)
     exact⟨World.cell?_of_block (w:=w) Q1,World.frozen?_of_block (w:=w) Q1⟩
   rw[Tc.1,Tc.2];exact h.fr.rng k j hk hL
end
open Go.RowKit
section
variable {R:Type} {r:R} {P:Program} {N:Nat} {w0:World} {X0:Ev} {Y:Nat->Prop} {β β':Bt} {s:St} {a:Act} {w w':World} {o:Oper} {A:Nat->Prop}
structure Src (P:Program) (w:World) (A:Nat->Prop) (size:Nat) (xv:Value) (m:Nat) (new:List PV) (news:List Value):Prop where
 len:∀w':World,(Builtin.lenOf xv).run P w'=.ok m w'
 cells:∀w':World,(∀b,b<w.heap.size->w'.heap[b]?=w.heap[b]?)->(Builtin.firstCells size m xv).run P w'=.ok news.toArray w'
 part:∀k,k<=m->(Builtin.firstCells size k xv).run P w=.ok (news.take (k*size)).toArray w
 one:∀u∈news,u.oneCell'=true
 rep:Au (Ao w A) new news
theorem Uv (h:Bp N w0 X0 Y β s a w){e tx:TypeId}{x:Operand}{K:Nat->List PV->Option R}(hk:HX P s (Aq P e) tx (A8 s.tm x) K=some r)
  (h1c:∀m new,K m new=some r->new.length=m*Aq P e):
  (∃d,P.underlying tx=some d∧(∀k,d ≠ .int k))∧∃m new news,K m new=some r∧Src P w (Bv s.hp β Y) (Aq P e) (a.eval x) m new news:=by
 unfold HX IP at hk;split at hk
 ·rename_i hu;obtain⟨Py,hk⟩:=Ae hk;have Py:=Nat.eq_of_beq_eq_true Py;obtain⟨b,hx,hk⟩:=Ca hk;have Bw:=Bj h hx;refine⟨⟨_,hu,by simp⟩,b.size,D2 b,b.data.toList.map (fun y=>Value.int .u8 y.toNat),hk,?_,?_,?_,?_,?_⟩
  ·intro w';rw[Bw];rfl
  ·intro w' _;rw[Bw]
   have hx:b.data.extract 0 b.size=b.data:=by
    have:b.size=b.data.size:=rfl;rw[this,Array.extract_size]
   have hd:(b.extract 0 b.size).data=b.data:=by
    rw[ByteArray.extract_zero_size]
   simp only[Builtin.firstCells,hd];rw[←Array.toList_map,Array.toArray_toList];rfl
  ·intro k Hp;rw[Bw,Py,Nat.mul_one];have hd:(b.extract 0 k).data=b.data.extract 0 k:=ByteArray.data_extract
   have e1:(b.data.extract 0 k).map (fun y=>Value.int .u8 y.toNat)=((b.data.toList.map fun y=>Value.int .u8 y.toNat).take k).toArray:=by
    apply Array.toList_inj.1;simp[List.map_take]
   simp only[Builtin.firstCells,hd];rw[e1];rfl
  ·intro u hu;simp at hu;obtain⟨y,_,rfl⟩:=hu;rfl
  ·unfold D2;generalize b.data.toList=l
   induction l with
   |nil=>trivial
   |cons y l ih=>exact⟨Ao.sc _,ih⟩
 ·rename_i e' hu;refine⟨⟨_,hu,by simp⟩,?_⟩
  obtain⟨m,new,hk,hc⟩:=DY h hk;have Cy:=h1c m new hk;rcases hc with⟨⟨ad,Bw⟩,rfl,rfl⟩|⟨ad,cap,Bw,hn,Bk,hrd⟩
  ·have f0:∀w':World,(Builtin.firstCells (Aq P e) 0 (.slice ad 0 0)).run P w'=.ok #[] w':=fun w'=>by
    cases ad with
    |none=>rfl
    |some p=>exact run_firstCells_some (P:=P) w' (Aq P e) 0 p 0 0 [] (by simp) (fun j v hj=>by simp at hj)
   exact⟨0,[],[],hk,fun w'=>by rw[Bw];rfl,fun w' _=>by rw[Bw];exact f0 w',fun k Hp=>by rw[Bw,Nat.le_zero.1 Hp,List.take_nil];exact f0 w,by simp,trivial⟩
  ·refine⟨m,new,new.mapIdx (fun j _=>(w.cell? (ad.add j)).getD undef),hk,fun w'=>by rw[Bw];rfl,fun w' hw=>?_,fun k Hp=>?_,?_,?_⟩
   ·rw[Bw];refine run_firstCells_some (P:=P) w' (Aq P e) m ad m cap _ (by simp[Cy]) fun j v hj=>?_
    rw[List.getElem?_mapIdx] at hj;cases hc:new[j]? with
    |none=>rw[hc] at hj;cases hj
    |some c=>
     rw[hc] at hj;simp at hj;obtain⟨u,hu,_⟩:=hrd j c hc;rw[hu] at hj;simp at hj;subst hj;have Bk:ad.block<w.heap.size:=by rcases Bk with rfl|Bk<;>first|exact Bk|simp at hc
     rw[World.cell?_of_block (w:=w) (by rw[Dq];exact hw _ Bk)]
     exact hu
   ·rw[Bw];have WQ:k*Aq P e<=m*Aq P e:=Nat.mul_le_mul_right _ Hp;refine run_firstCells_some (P:=P) w (Aq P e) k ad m cap _ (by rw[List.length_take,List.length_mapIdx,Cy];omega) fun j v hj=>?_
    rw[List.getElem?_take] at hj;split at hj
    ·rw[List.getElem?_mapIdx] at hj;cases hc:new[j]? with
     |none=>rw[hc] at hj;cases hj
     |some c=>
      rw[hc] at hj;simp at hj;obtain⟨u,hu,_⟩:=hrd j c hc;rw[hu] at hj;simp at hj;subst hj;exact hu
    ·cases hj
   ·intro u hu;obtain⟨j,hj⟩:=List.mem_iff_getElem?.1 hu;rw[List.getElem?_mapIdx] at hj;cases hc:new[j]? with
    |none=>rw[hc] at hj;cases hj
    |some c=>
     rw[hc] at hj;simp at hj;obtain⟨v,hv,h2,ht⟩:=hrd j c hc;rw[hv] at hj;simp at hj;subst hj;exact h2
   ·refine Au.of_at (by simp) fun j c v hc hj=>?_
    rw[List.getElem?_mapIdx,hc] at hj;simp at hj;obtain⟨u,hu,_,ht⟩:=hrd j c hc;rw[hu] at hj;simp at hj;subst hj;exact ht
 ·cases hk
theorem Vt {e:TypeId}(h:AO P e=true):∃i z,P.info? e=some i∧i.zero=some z∧z.cells.size=i.size∧Aq P e=i.size:=by
 unfold AO at h;split at h
 ·rename_i i hi;split at h
  ·rename_i z hz;exact⟨i,z,hi,hz,Nat.eq_of_beq_eq_true h,by simp[Aq,hi]⟩
  ·cases h
 ·cases h
theorem run_first_slice {es n cap:Nat}{ad:Option Addr}{olds:List Value}(h:(ad=none∧olds=[])∨∃p,ad=some p∧olds.length=n*es∧∀(j:Nat) v,olds[j]?=some v->w.cell? (p.add j)=some v):
  (Builtin.firstCells es n (.slice ad n cap)).run P w=.ok olds.toArray w:=by
 rcases h with⟨rfl,rfl⟩|⟨p,rfl,hl,hc⟩
 ·rfl
 ·exact run_firstCells_some (P:=P) w es n p n cap olds hl hc
theorem append_grow_run {t tx ty e:TypeId}{i:TypeInfo}{z:Value}{d:TypeDesc}{ts:List TypeId}(ht:P.underlying t=some (.slice e)) (OP:P.underlying tx=some d)(hd:∀k,d ≠ .int k)(hi:P.info? e=some i)(hz:i.zero=some z)
  {ad:Option Addr} {n cap m:Nat} {xv:Value} {olds news:List Value} {A:Nat->Prop} {new:List PV} (hs:Src P w A i.size xv m new news)
  (hold:(ad=none∧olds=[])∨∃p,ad=some p∧olds.length=n*i.size∧∀(j:Nat) v,olds[j]?=some v->w.cell? (p.add j)=some v)
  (hg:cap<n+m)(hb:(n+m)*i.bytes<=1099511627776) (h63:n+m<=1099511627776):
  (Builtin.append_ (t::tx::ts).toArray ty #[.slice ad n cap,xv]).run P w =
   .ok (.slice (some ⟨w.heap.size,0,none⟩) (n+m) (grownCap w (n+m) cap e)) (w.drew.alloc (.cells (olds.toArray++news.toArray++Builtin.zeroCells z.cells (grownCap w (n+m) cap e-(n+m))) e)):=by
 have h1:=hs.len w;have h2:(Builtin.firstCells i.size m xv).run P w.drew=.ok news.toArray w.drew:=hs.cells w.drew (fun _ _=>rfl)
 have h3:(Builtin.firstCells i.size n (.slice ad n cap)).run P w.drew=.ok olds.toArray w.drew:=run_first_slice (w:=w.drew) (by
  rcases hold with hh|⟨p,hp,hl,hc⟩
  ·exact .inl hh
  ·exact .inr ⟨p,hp,hl,fun j v hj=>hc j v hj⟩)
 have Aev:=growslice_fits (need:=n+m) (old:=cap) (bytes:=i.bytes) hg (by omega)
 have hn:¬(n+m<=cap):=by omega
 have WO:¬(9223372036854775807<((n:Int)+(m:Int))):=by omega
 have XQ:¬(281474976710656<Builtin.nextslicecap (n+m) cap*i.bytes):=by omega
 have Wt:(match d with | .int _=>true|_=>false)=false:=by cases d<;>first|rfl|exact absurd rfl (hd _)
 simp[Builtin.append_,run_underlying ht,run_underlying OP,Wt,sizeOf,typeInfo,zeroValue,hi,hz,h1,hn,WO,XQ,Question.forced,h2,h3,newRow,grownCap]
 congr 2
 apply Array.ext';simp[List.append_assoc]
theorem append_room_run {t tx ty e:TypeId}{i:TypeInfo}{d:TypeDesc}{ts:List TypeId}(ht:P.underlying t=some (.slice e)) (OP:P.underlying tx=some d)(hd:∀k,d ≠ .int k)(hi:P.info? e=some i)
  {b ob n cap m:Nat} {xv:Value} {news:List Value} {A:Nat->Prop} {new:List PV} (hs:Src P w A i.size xv m new news) (hl:news.length=m*i.size)
  (hcell:∀k,k<news.length->(w.cell? ⟨b,ob+n*i.size+k,none⟩).isSome=true) (WC:∀k,k<news.length->w.frozen? ⟨b,ob+n*i.size+k,none⟩=false)(hg:n+m<=cap):
  (Builtin.append_ (t::tx::ts).toArray ty #[.slice (some ⟨b,ob,none⟩) n cap,xv]).run P w=.ok (.slice (some ⟨b,ob,none⟩) (n+m) cap) (w.setCells b (ob+n*i.size) news):=by
 have h1:=hs.len w;have h2:(Builtin.firstCells i.size m xv).run P w=.ok news.toArray w:=hs.cells w (fun _ _=>rfl)
 have h3:=run_storeCells_cells (P:=P) b (ob+n*i.size) news 0 w (fun k hk=>by simpa using hcell k hk) (fun k hk=>by simpa using WC k hk) hs.one
 have Wt:(match d with | .int _=>true|_=>false)=false:=by cases d<;>first|rfl|exact absurd rfl (hd _)
 have _:=hl;simp[Builtin.append_,run_underlying ht,run_underlying OP,Wt,sizeOf,typeInfo,hi,h1,hg,h2,B6];rw[h3];simp
theorem EN {t ty e:TypeId}{i:TypeInfo}{ts:List TypeId}(ht:P.underlying t=some (.slice e)) (hi:P.info? e=some i)
  {ad:Option Addr} {n cap m:Nat} {xv:Value} {news:List Value} {A:Nat->Prop} {new:List PV} (hs:Src P w A i.size xv m new news)
  {w1:World} (I5:(match ad with|some p=>storeCells p (news.take (min m n*i.size)) 0|none=>pure ()).run P w=.ok () w1):
  (Builtin.copy_ (t::ts).toArray ty #[.slice ad n cap,xv]).run P w=.ok (goInt ((min m n:Nat):Int)) w1:=by
 have h1:=hs.len w;have h2:=hs.part (min m n) (Nat.min_le_left _ _);have e:Nat.min m n=min m n:=rfl;generalize min m n=k at *
 cases ad with
 |none=>
  simp only at I5;simp[Builtin.copy_,run_underlying ht,sizeOf,typeInfo,hi,h1,h2,e]
  simpa using I5
 |some p=>
  simp only at I5;simp[Builtin.copy_,run_underlying ht,sizeOf,typeInfo,hi,h1,h2,e,I5]
theorem Rs {t tx ty e:TypeId}{i:TypeInfo}{k kx:IntKind}{ts:List TypeId}(ht:P.underlying t=some (.slice e)) (OP:P.underlying tx=some (.int k)) (hi:P.info? e=some i):
  (Builtin.append_ (t::tx::ts).toArray ty #[.slice none 0 0,.int kx 0]).run P w=.ok (.slice none 0 0) w:=by
 have hw:IntKind.i64.wrap 0=0:=by decide
 simp[Builtin.append_,run_underlying ht,run_underlying OP,sizeOf,typeInfo,hi,asInt,asIntOf,hw]
theorem Tt {t tx ty e:TypeId}{i:TypeInfo}{z:Value}{k kx:IntKind}{ts:List TypeId}(ht:P.underlying t=some (.slice e)) (OP:P.underlying tx=some (.int k)) (hi:P.info? e=some i)(hz:i.zero=some z)
  {n:Int} (h0:0<n) (hb:n.toNat*i.bytes<=1099511627776) (hn:n<=1099511627776):
  (Builtin.append_ (t::tx::ts).toArray ty #[.slice none 0 0,.int kx n]).run P w =
   .ok (.slice (some ⟨w.heap.size,0,none⟩) n.toNat (grownCap w n.toNat 0 e)) (w.drew.alloc (.cells ((if n.toNat*i.size=0 then #[] else Builtin.zeroCells z.cells n.toNat)++Builtin.zeroCells z.cells (grownCap w n.toNat 0 e-n.toNat)) e)):=by
 have hw:IntKind.i64.wrap n=n:=IntWalk.i64_in n (by omega)
 have Aev:=growslice_fits (need:=n.toNat) (old:=0) (bytes:=i.bytes) (by omega) (by omega)
 have GC:¬n<0:=by omega
 have E9:¬(281474976710656<n*(i.bytes:Int)):=by
  have:n*(i.bytes:Int)=((n.toNat*i.bytes:Nat):Int):=by
   rw[Int.natCast_mul,Int.toNat_of_nonneg (by omega)]
  omega
 have hz0:¬(n.toNat=0):=by omega
 have WO:¬(9223372036854775807<(n.toNat:Int)):=by omega
 have XQ:¬(281474976710656<Builtin.nextslicecap n.toNat 0*i.bytes):=by omega
 have Sy:¬n<=0:=by omega
 have hmx:¬(9223372036854775807<max n 0):=by omega
 by_cases hs:n.toNat*i.size=0
 ·simp[Builtin.append_,run_underlying ht,run_underlying OP,sizeOf,typeInfo,zeroValue,hi,hz,asInt,asIntOf,hw,GC,E9,hz0,Sy,hmx,WO,XQ,Question.forced,hs,newRow,grownCap,Builtin.firstCells]
 ·simp[Builtin.append_,run_underlying ht,run_underlying OP,sizeOf,typeInfo,zeroValue,hi,hz,asInt,asIntOf,hw,GC,E9,hz0,Sy,hmx,WO,XQ,Question.forced,hs,newRow,grownCap,Builtin.firstCells]
theorem Hw {t tx ty e:TypeId}{i:TypeInfo}{d:TypeDesc}{ts:List TypeId}(ht:P.underlying t=some (.slice e)) (OP:P.underlying tx=some d)(hd:∀k,d ≠ .int k)(hi:P.info? e=some i)
  {ad:Option Addr} {xv:Value} {news:List Value} {A:Nat->Prop} {new:List PV} (hs:Src P w A i.size xv 0 new news) (h0:news=[]):
  (Builtin.append_ (t::tx::ts).toArray ty #[.slice ad 0 0,xv]).run P w=.ok (.slice ad 0 0) w:=by
 subst h0;have h1:=hs.len w;have h2:(Builtin.firstCells i.size 0 xv).run P w=.ok ([]:List Value).toArray w:=hs.cells w (fun _ _=>rfl)
 have Wt:(match d with | .int _=>true|_=>false)=false:=by cases d<;>first|rfl|exact absurd rfl (hd _)
 cases ad<;>simp[Builtin.append_,run_underlying ht,run_underlying OP,Wt,sizeOf,typeInfo,hi,h1,h2,storeCells]
end
open Go.RowKit
section
variable {R:Type} {r:R} {P:Program} {N:Nat} {w0:World} {X0:Ev} {Y:Nat->Prop} {β β':Bt} {s:St} {a:Act} {w w':World} {o:Oper} {A:Nat->Prop}
theorem Mo {b j:Nat}(h:j<bsz w b):(w.cell? ⟨b,j,none⟩).isSome=true:=by
 unfold bsz at h;unfold World.cell?;split at h
 ·rename_i c e fz hb;simp[hb,h]
 ·omega
theorem IX {id d:Nat}{c cells:List PV}{bo:Option (Nat × Nat)} (h0:s.hp id=some (.ar false c)) (hd:s.hp d=none)
  (BC:∀k x,bo=some (k,x)->w.heap.size<=k∨∃y,β id=some (k,y)):
  ∀k,k<w.heap.size->Bv (Bh (Bh s.hp id (some .mv)) d (some (.ar false cells))) (Bh β d bo) Y k->Bv s.hp β Y k:=by
 rintro k hk (⟨i,x,hl,hβ⟩|hY)
 ·by_cases e':i=d
  ·subst e';rw[Af] at hβ;rcases BC k x hβ with h|⟨y,hy⟩
   ·omega
   ·exact .inl ⟨id,y,by rw[h0];trivial,hy⟩
  ·rw[Ad _ _ e'] at hl hβ;by_cases e:i=id
   ·subst e;rw[Af] at hl;exact hl.elim
   ·rw[Ad _ _ e] at hl;exact .inl ⟨i,x,hl,hβ⟩
 ·exact .inr hY
theorem Vg {pre new:List PV}{olds news:List Value}{zs:Array Value}{e:TypeId}{A':Nat->Prop}(hg:Dg w w' (olds.toArray++news.toArray++zs) e) (hA:∀b,b<w.heap.size->A' b->A b)
  (h1:Au (Ao w A) pre olds) (h2:Au (Ao w A) new news) (ho:∀u∈olds,u.oneCell'=true)(hn:∀u∈news,u.oneCell'=true):BO w' A' ⟨w.heap.size,0,none⟩ (pre++new):=by
 refine KN hg hA fun j p hj=>?_
 obtain⟨v,hv,ht⟩:=(h1.app h2).get hj;refine⟨v,?_,?_,ht⟩
 ·have Bk:j<(olds++news).length:=by
   rcases Nat.lt_or_ge j (olds++news).length with h|h
   ·exact h
   ·rw[List.getElem?_eq_none h] at hv;cases hv
  rw[Array.getElem?_append_left (by simpa using Bk)]
  simpa using hv
 ·rcases List.mem_append.1 (List.mem_of_getElem? hv) with hm|hm
  ·exact ho v hm
  ·exact hn v hm
theorem AB (h:Bp N w0 X0 Y β s a w){c:Call}(ho:o.op=.call c)(hc:c.callee=.builtin .append)(XH:Qo c=true){d:Nat}(LY:o.dst=some d){b x:Operand}(C3:c.args.toList=[b,x]) {t tx:TypeId}{ts:List TypeId}(Tq:c.argTypes.toList=t::tx::ts)
  {K:PV->List (Nat × A1)->Option R} (hk:Np P (Gb s.hp) d t tx (A8 s.tm x) K=some r):∃v nw,K v nw=some r∧Co P a w o Y β s v [] nw:=by
 have hb:b=.const (.slice none 0 0):=by
  unfold Qo at XH;rw[C3] at XH;split at XH
  ·rename_i e;injection e
  ·cases XH
 have V7:c.args = #[b,x]:=by
  have:c.args=([b,x]:List Operand).toArray:=by rw[←C3]
  exact this
 have DB:c.argTypes=(t::tx::ts).toArray:=by rw[←Tq]
 have J6:a.eval b=.slice none 0 0:=by rw[hb];rfl
 have run:∀{v:Value} {w1:World},(Builtin.append_ (t::tx::ts).toArray o.type #[a.eval b,a.eval x]).run P w=.ok v w1->(execOp a.eval o).run P w=.ok (.value v) w1:=by
  intro v w1 hr;unfold execOp;rw[ho];simp only[resolve,hc,invoke,builtin,Sem.run_bind,Sem.run_pure,Result.andThen_ok,V7,DB];have:(#[b,x]:Array Operand).map a.eval = #[a.eval b,a.eval x]:=by simp
  rw[this,hr];rfl
 unfold Np at hk;split at hk
 ·rename_i e hu;obtain⟨NF,hk⟩:=Ae hk;obtain⟨i,z,hi,hz,Ux,Ik⟩:=Vt NF;have M2:((P.info? e).map (·.bytes)).getD 0=i.bytes:=by rw[hi];rfl
  obtain⟨⟨dx,hdx,EM⟩,m,new,news,hk,hs⟩:=Uv (s:=s) h hk (fun m new Hp=>by
   obtain⟨hb,_⟩:=Ae Hp;simp only[Bool.and_eq_true,decide_eq_true_eq] at hb;exact hb.1.1)
  obtain⟨Ep,hk⟩:=Ae hk;simp only[Bool.and_eq_true,decide_eq_true_eq] at Ep;obtain⟨⟨LI,UY⟩,BN⟩:=Ep;have VY:new.length=news.length:=hs.rep.len;rw[Ik] at LI hk hs;rw[M2] at UY;have S7:news.length=m*i.size:=by omega
  refine⟨_,_,hk,by simp,?_⟩
  by_cases WD:m=0
  ·subst WD;have hr:=Hw (P:=P) (w:=w) (t:=t) (tx:=tx) (ty:=o.type) (ts:=ts) (ad:=none) hu hdx EM hi hs (List.eq_nil_of_length_eq_zero (by omega))
   rw[←J6] at hr;have FN:new=[]:=List.eq_nil_of_length_eq_zero (by omega)
   subst FN;refine⟨_,_,run hr,fun SU=>⟨Bh β d none,?_⟩⟩
   have Pj:s.hp d=none:=(Aw SU).1 d _ (List.mem_singleton_self _);rw[J6];refine⟨rfl,rfl,rfl,Bb.refl _ _,fun j hj=>Ad _ _ (by rintro rfl;exact hj Pj),?_,?_,?_,?_,?_,.inl ⟨Af _ _ _,rfl,rfl,none,rfl⟩,?_⟩
   ·intro j bx hm;simp at hm;rw[hm.2];trivial
   ·intro j bx hm;simp at hm;obtain⟨rfl,rfl⟩:=hm;exact .inl ⟨Af _ _ _,rfl⟩
   ·intro j bx k q hm hq;simp at hm;obtain⟨rfl,rfl⟩:=hm;rw[Af] at hq;cases hq
   ·intro j bx j' bx' k q q' hm Hg _ _;simp at hm Hg;rw[hm.1,Hg.1]
   ·intro j cells hm;simp at hm
   ·intro j hj;simp[A5,Be,Ai] at hj;subst hj;exact .inr ⟨.ar false [],by simp⟩
  ·have hr:=append_grow_run (P:=P) (w:=w) (t:=t) (tx:=tx) (ty:=o.type) (ts:=ts) (ad:=none) (n:=0) (cap:=0) (olds:=[]) hu hdx EM hi hz hs (.inl ⟨rfl,rfl⟩) (by omega) (by rw[Nat.zero_add];exact UY) (by omega)
   rw[←J6] at hr;refine⟨_,_,run hr,fun SU=>⟨Bh β d (some (w.heap.size,0)),?_⟩⟩
   have Pj:s.hp d=none:=(Aw SU).1 d _ (List.mem_singleton_self _);have PO:0+m<=grownCap w (0+m) 0 e:=grownCap_ge w (0+m) 0 e
   have Pb:Dg w (w.drew.alloc (.cells (([]:List Value).toArray++news.toArray++Builtin.zeroCells z.cells (grownCap w (0+m) 0 e-(0+m))) e)) (([]:List Value).toArray++news.toArray++Builtin.zeroCells z.cells (grownCap w (0+m) 0 e-(0+m))) e:=
    ⟨rfl,rfl,rfl,fun k hk=>Below.heap_alloc w.drew _ k hk,by show (w.heap.push _).size=_;simp,(0,0),by show (w.heap.push _)[w.heap.size]?=_;simp,.inl rfl⟩
   have GH:(([]:List Value).toArray++news.toArray++Builtin.zeroCells z.cells (grownCap w (0+m) 0 e-(0+m))).size=grownCap w (0+m) 0 e*i.size:=by
    simp only[Array.size_append,List.size_toArray,size_zeroCells,Ux,S7,List.length_nil,←Nat.add_mul];rw[Nat.zero_add (m*i.size),←Nat.add_mul]
    congr 1
    omega
   refine J8 (s:=⟨s.tm,Ac s.hp []⟩) Pb Pj trivial ?_ (fun cells hx=>by cases hx) ?_ (by intro j hj;simp[A5,Be,Ai] at hj;exact .inr hj)
   ·refine .inr ⟨w.heap.size,0,Af _ _ _,?_,fun _ j _ hj=>?_,(fun q=>by cases q)⟩
    ·exact Vg (pre:=[]) Pb (JY (s:=⟨s.tm,Ac s.hp []⟩) Pj) trivial hs.rep (by simp) hs.one
    ·rw[Pb.bsz] at hj;exact Pb.frozen hj
   ·refine .inr ⟨w.heap.size,0,0,grownCap w (0+m) 0 e,Af _ _ _,by rw[Nat.zero_add],.inl rfl,by omega,?_,by rw[Pb.size];omega⟩
    exact⟨by rw[Pb.bsz,GH];omega,.inr (Gw w.drew _ e)⟩
 ·cases hk
theorem CK {lo hi:Option Operand}{y3:Operand}{k3:IntKind}{len cap l u m:Nat}(hl:(lo=none∧l=0)∨∃y k,lo=some y∧a.eval y=.int k (l:Int))
  (hu:∃y k,hi=some y∧a.eval y=.int k (u:Int)) (hm:a.eval y3=.int k3 (m:Int)) (h1:l<=u)(h2:u<=m)(h3:m<=cap):
  (Instr.sliceBounds true len cap (lo.map a.eval) (hi.map a.eval) (some (a.eval y3))).run P w=.ok (l,u,m) w:=by
 obtain⟨y,k,rfl,hy⟩:=hu;rcases hl with⟨rfl,rfl⟩|⟨y',k',rfl,hy'⟩
 ·simp[Instr.sliceBounds,Instr.sliceBound,asIntOf,hy,hm,h2,h3]
 ·simp[Instr.sliceBounds,Instr.sliceBound,asIntOf,hy,hy',hm,h1,h2,h3]
theorem AF (h:Bp N w0 X0 Y β s a w){t:TypeId}{x m:Operand}{lo hi:Option Operand}(ho:o.op=.slice t x lo hi (some m)) {d:Nat}{K:PV->List (Nat × A1)->Option R}
  (hk:Nk P d t (A8 s.tm x) (lo.map (A8 s.tm)) (hi.map (A8 s.tm)) (some (A8 s.tm m)) K=some r):∃v nw,K v nw=some r∧Co P a w o Y β s v [] nw:=by
 have hx:=Bs h x;unfold Nk at hk;split at hk
 ·rename_i e hu;obtain⟨hb,hk⟩:=Ae hk;simp only[Bool.and_eq_true] at hb;obtain⟨Jy,hhi⟩:=hb
  obtain⟨yh,rfl⟩:∃y,hi=some y:=by
   cases hi with
   |none=>simp at hhi
   |some y=>exact⟨y,rfl⟩
  have fin:∀{ad:Option Addr} {n cap l u q:Nat},a.eval x=.slice ad n cap->n<=cap->((lo=none∧l=0)∨∃y k,lo=some y∧a.eval y=.int k (l:Int))->((some yh=none∧u=n)∨∃y k,some yh=some y∧a.eval y=.int k (u:Int))->(((some m:Option Operand)=none∧q=n)∨∃y k,(some m:Option Operand)=some y∧a.eval y=.int k (q:Int)) ->
    (Nat.beq l q&&Nat.beq u q&&decide (q<=n))=true->Co P a w o Y β s (.view d (Aq P e) 0 0) [] [(d,.ar false [])]:=by
   intro ad n cap l u q Bw hn hl Fs hq hb;simp only[Bool.and_eq_true,decide_eq_true_eq] at hb;obtain⟨⟨b1,b2⟩,b3⟩:=hb;have b1:=Nat.eq_of_beq_eq_true b1;have b2:=Nat.eq_of_beq_eq_true b2;subst b1 b2
   have hu2:∃y k,(some yh:Option Operand)=some y∧a.eval y=.int k (u:Int):=by
    rcases Fs with⟨e,_⟩|e
    ·cases e
    ·exact e
   obtain⟨k3,hm3⟩:∃k,a.eval m=.int k (u:Int):=by
    rcases hq with⟨e,_⟩|⟨y,k,e,q⟩
    ·cases e
    ·cases e;exact⟨k,q⟩
   have BS:=CK (P:=P) (w:=w) (len:=n) (cap:=cap) hl hu2 hm3 (Nat.le_refl _) (Nat.le_refl _) (by omega)
   have Bn:∃ad',(execOp a.eval o).run P w=.ok (.value (.slice ad' 0 0)) w:=by
    unfold execOp;rw[ho];cases ad with
    |none=>exact⟨none,by simp[Instr.sliceAt,Instr.slice,run_underlying hu,Bw,BS,Bo Jy] at BS ⊢⟩
    |some p=>exact⟨some p,by simp[Instr.sliceAt,Instr.slice,run_underlying hu,Bw,BS,Bo Jy] at BS ⊢⟩
   obtain⟨ad',Bn⟩:=Bn;refine⟨by simp,_,_,Bn,fun SU=>⟨Bh β d none,?_⟩⟩
   have Pj:s.hp d=none:=(Aw SU).1 d _ (List.mem_singleton_self _);refine⟨rfl,rfl,rfl,Bb.refl _ _,fun j hj=>Ad _ _ (by rintro rfl;exact hj Pj),?_,?_,?_,?_,?_,.inl ⟨Af _ _ _,rfl,rfl,ad',rfl⟩,?_⟩
   ·intro j bx hm;simp at hm;rw[hm.2];trivial
   ·intro j bx hm;simp at hm;obtain⟨rfl,rfl⟩:=hm;exact .inl ⟨Af _ _ _,rfl⟩
   ·intro j bx k q hm hq;simp at hm;obtain⟨rfl,rfl⟩:=hm;rw[Af] at hq;cases hq
   ·intro j bx j' bx' k q q' hm Hg _ _;simp at hm Hg;rw[hm.1,Hg.1]
   ·intro j cells hm;simp at hm
   ·intro j hj;simp[A5,Be,Ai] at hj;subst hj;exact .inr ⟨.ar false [],by simp⟩
  split at hk
  ·rename_i id es off n e';rw[e'] at hx;obtain⟨Py,hk⟩:=Ae hk;obtain⟨l,hk,hl⟩:=Cc h hk;obtain⟨u,hk,Fs⟩:=Cc h hk;obtain⟨q,hk,hq⟩:=Cc (x:=some m) h hk;obtain⟨hb,hk⟩:=Ae hk;refine⟨_,_,hk,?_⟩;rcases hx with⟨hβ,_,rfl,ad,Bw⟩|⟨b,ob,y,cap,hβ,Bw,hy,hn,Nv,Bk⟩
   ·exact fin Bw (Nat.le_refl _) hl Fs hq hb
   ·exact fin Bw hn hl Fs hq hb
  ·obtain⟨z,n,c,hk,hp⟩:=Dh hk;obtain⟨l,hk,hl⟩:=Cc h hk;obtain⟨u,hk,Fs⟩:=Cc h hk;obtain⟨q,hk,hq⟩:=Cc (x:=some m) h hk;obtain⟨hb,hk⟩:=Ae hk;refine⟨_,_,hk,?_⟩;rcases Dv hp hx with⟨Bw,rfl,rfl⟩|⟨ad,cap,Bw,_,hn,_⟩|⟨ad,cap,Bw,_,rfl,rfl⟩
   ·exact fin Bw (Nat.le_refl _) hl Fs hq hb
   ·exact fin Bw hn hl Fs hq hb
   ·exact fin Bw (Nat.zero_le _) hl Fs hq hb
 ·cases hk
end
open Go.RowKit
section
variable {R:Type} {r:R} {P:Program} {N:Nat} {w0:World} {X0:Ev} {Y:Nat->Prop} {β β':Bt} {s:St} {a:Act} {w w':World} {o:Oper} {A:Nat->Prop}
theorem TE (h:Bp N w0 X0 Y β s a w){G:Glo}(G9:FQ P G w0 X0){C:Eg}{call:Al}(Ce:∀f args res,call f args=some res->Db G P f args res){K:PV->List Nat->List (Nat × A1)->Option R}
  (hk:V3 C P N call s.tm (rd s.hp) (Gb s.hp) o K=some r):∃v fz nw,K v fz nw=some r∧Wr P a w o Y β s v fz nw:=by
 have one:∀{K':PV->Option R},(∀v,K' v=some r->K v [] []=some r)->(∃v,K' v=some r∧Co P a w o Y β s v [] [])->∃v fz nw,K v fz nw=some r∧Wr P a w o Y β s v fz nw:=
  fun hK ⟨v,h1,h2⟩=>⟨v,[],[],hK v h1,Wq h2⟩
 have many:(∃v fz nw,K v fz nw=some r∧Co P a w o Y β s v fz nw)->∃v fz nw,K v fz nw=some r∧Wr P a w o Y β s v fz nw:=
  fun ⟨v,fz,nw,h1,h2⟩=>⟨v,fz,nw,h1,Wq h2⟩
 unfold V3 at hk;split at hk
 ·rename_i x ho;exact one (fun _ h=>h) (Qj (K:=fun p=>K p [] []) h (MH ho) hk)
 ·rename_i x ho;exact one (fun _ h=>h) (Qj (K:=fun p=>K p [] []) h (FI ho) hk)
 ·rename_i c x y ho;exact one (fun _ h=>h) (JA (K:=fun p=>K p [] []) h ho hk)
 ·rename_i t ho;obtain⟨d,hd,hk⟩:=Bl hk;exact many (FE ho hk)
 ·rename_i t x ho;obtain⟨d,hd,hk⟩:=Bl hk;exact many (OZ h ho hk)
 ·rename_i t ps ho;exact one (fun _ h=>h) (DM (K:=fun p=>K p [] []) h ho hk)
 ·rename_i t n ps ho;obtain⟨d,hd,hk⟩:=Bl hk;exact many (R8 h ho hk)
 ·rename_i t x ho;exact one (fun _ h=>h) (JD (K:=fun p=>K p [] []) h ho hk)
 ·rename_i x ho;exact one (fun _ h=>h) (Wp (K:=fun p=>K p [] []) h ho hk)
 ·rename_i op t x y ty ho;exact one (fun _ h=>h) (DZ (K:=fun p=>K p [] []) h ho hk)
 ·rename_i op t x ho;exact one (fun _ h=>h) (JB (K:=fun p=>K p [] []) h ho hk)
 ·rename_i src dst x ho;obtain⟨v,nw,hk,hg⟩:=GU h ho hk;obtain⟨d,hd,hk⟩:=Bl hk;exact⟨v,[],nw,hk,Wq hg⟩
 ·rename_i t x y ho;obtain⟨d,hd,hk⟩:=Bl hk;exact many (ID h ho hk)
 ·rename_i t x lo hi mx ho;split at hk
  ·exact one (fun _ h=>h) (CM (K:=fun p=>K p [] []) h ho hk)
  ·obtain⟨d,hd,hk⟩:=Bl hk;obtain⟨v,nw,h1,h2⟩:=AF h ho hk;exact⟨v,[],nw,h1,Wq h2⟩
 ·rename_i t x f ho;exact one (fun _ h=>h) (Tv (K:=fun p=>K p [] []) h ho hk)
 ·rename_i t x f ho;exact one (fun _ h=>h) (DA (K:=fun p=>K p [] []) h ho hk)
 ·rename_i t x i ho;exact one (fun _ h=>h) (Tu (K:=fun p=>K p [] []) h ho hk)
 ·rename_i t x i ho;exact one (fun _ h=>h) (CQ (K:=fun p=>K p [] []) h ho hk)
 ·rename_i x i ho;exact one (fun _ h=>h) (Xk (K:=fun p=>K p [] []) h ho hk)
 ·rename_i c ho;split at hk
  ·rename_i hc;exact one (fun _ h=>h) (PD (K:=fun p=>K p [] []) h ho hc hk)
  ·rename_i hc;exact one (fun _ h=>h) (MA (K:=fun p=>K p [] []) h ho hc hk)
  ·rename_i hc;exact one (fun _ h=>h) (MK (K:=fun p=>K p [] []) h ho hc hk)
  ·rename_i hc;exact one (fun _ h=>h) (PE (K:=fun p=>K p [] []) h ho hc hk)
  ·rename_i hc;obtain⟨XH,hk⟩:=Ae hk;obtain⟨d,hd,Ck⟩:=Bl hk;obtain⟨b,xs,Wv,C9⟩:=Ap Ck;obtain⟨x,ys,hys,K2⟩:=Ap C9;obtain⟨Sh,Uo⟩:=B1 K2;obtain⟨t,us,PL,WA⟩:=Ap Uo;obtain⟨tx,vs,F7,hk6⟩:=Ap WA;rw[hys,Sh] at Wv;rw[F7] at PL;obtain⟨v,nw,h1,h2⟩:=AB h ho hc XH hd Wv PL hk6;exact⟨v,[],nw,h1,Wq h2⟩
  ·rename_i f hc;exact Wh h G9 Ce (fun hf hb=>EX ho hc G9.ng hf hb) hk
  ·rename_i t hc;obtain⟨f,hf0,Ck⟩:=XB hk;have ht:a.eval (.tmp t)=.func (.func f) #[] #[]:=Bj h (x:=.tmp t) hf0;exact Wh h G9 Ce (fun hf hb=>NI ho hc ht G9.ng hf hb) Ck
  ·cases hk
 ·cases hk
theorem GI (h:Bp N w0 X0 Y β s a w){G:Glo}(G9:FQ P G w0 X0){C:Eg}{call:Al}(Ce:∀f args res,call f args=some res->Db G P f args res){K:St->Option R}
  (hk:(V3 C P N call s.tm (rd s.hp) (Gb s.hp) o fun v fz nw=>R9 N s o.dst v fz nw K)=some r):
  ∃s',K s'=some r∧∀(next:Act->World->Prop) (Q:Exit->Act->World->Prop),(∀a' w' β',Bp N w0 X0 Y β' s' a' w'->next a' w')->o.wp P a w next Q:=by
 obtain⟨v,fz,nw,hk,Lz,hg⟩:=TE h G9 Ce hk;unfold R9 at hk;obtain⟨hb,hk⟩:=Ae hk;simp only[Bool.and_eq_true] at hb;refine⟨_,hk,fun next Q hn=>hg next Q fun val w' I5=>?_⟩
 obtain⟨β',st⟩:=I5 hb.2
 have J6:A3 (Ac s.hp fz) nw=true:=by
  have:∀nw,A3 s.hp nw=true->A3 (Ac s.hp fz) nw=true:=by
   intro nw
   induction nw with
   |nil=>intro _;rfl
   |cons q nw ih=>
    obtain⟨i,b⟩:=q;intro hq;simp only[A3,Bool.and_eq_true,Option.isNone_iff_eq_none] at hq ⊢;exact⟨⟨Cf.2 hq.1.1,hq.1.2⟩,ih hq.2⟩
  exact this nw hb.2
 exact hn _ _ β' ((h.freeze Lz).stepR hb.1 J6 st)
end
open Go.RowKit
section
variable {R:Type} {r:R} {P:Program} {N:Nat} {w0:World} {X0:Ev} {Y:Nat->Prop} {β β':Bt} {s:St} {a:Act} {w w':World} {o:Oper} {A:Nat->Prop}
structure Bc (b:Nat) (w w':World):Prop where
 os:w'.os=w.os
 tape:w'.tape=w.tape
 output:w'.output=w.output
 size:w'.heap.size=w.heap.size
 other:∀k,k≠b->w'.heap[k]?=w.heap[k]?
 bs:bsz w' b=bsz w b
 frz:∀j,w'.frozen? ⟨b,j,none⟩=w.frozen? ⟨b,j,none⟩
theorem Bc.grow {b:Nat}(h:Bc b w w')(k:Nat):Fy w w' k:=by
 by_cases e:k=b
 ·subst e;refine⟨by rw[h.bs];exact Nat.le_refl _,fun q=>?_⟩
  unfold EZ at q ⊢;rw[h.bs,h.frz];exact q
 ·exact Fy.same (h.other k e)
theorem Bc.refl (b:Nat)(w:World):Bc b w w:=⟨rfl,rfl,rfl,rfl,fun _ _=>rfl,rfl,fun _=>rfl⟩
theorem Bc.setCell (b j:Nat)(v:Value)(w:World):Bc b w (w.setCell ⟨b,j,none⟩ v):=by
 refine⟨rfl,rfl,rfl,by simp[World.setCell],fun k hk=>Below.heap_setCell w ⟨b,j,none⟩ v k hk,?_,fun i=>?_⟩
 ·simp only[bsz,World.setCell,Array.getElem?_modify];simp only[if_true];cases h:w.heap[b]? with
  |none=>simp
  |some x=>cases x<;>simp
 ·simp only[World.frozen?,World.setCell,Array.getElem?_modify,if_true];cases h:w.heap[b]? with
  |none=>simp
  |some x=>cases x<;>simp
theorem Bc.trans {b:Nat}{w'':World}(h:Bc b w w')(h':Bc b w' w''):Bc b w w'':=
 ⟨h'.os.trans h.os,h'.tape.trans h.tape,h'.output.trans h.output,h'.size.trans h.size,fun k hk=>(h'.other k hk).trans (h.other k hk),h'.bs.trans h.bs,fun j=>(h'.frz j).trans (h.frz j)⟩
theorem Bc.setCells (b:Nat):∀(vs:List Value)(j:Nat)(w:World),Bc b w (w.setCells b j vs)
 |[],_,w=>Bc.refl b w
 |v::vs,j,w=>(Bc.setCell b j v w).trans (Bc.setCells b vs (j+1) _)
theorem Aeh {hp:Nat->Option A1}{id:Nat}{bx bx':A1}(h0:hp id=some bx)(hl:Bu (some bx)) (Gc:Bu (some bx')) (b:Nat):Zp (Bh hp id (some bx')) β b↔Zp hp β b:=by
 constructor
 ·rintro⟨i,o,h1,h2⟩
  by_cases e:i=id
  ·subst e;exact⟨i,o,by rw[h0];exact hl,h2⟩
  ·rw[Ad _ _ e] at h1;exact⟨i,o,h1,h2⟩
 ·rintro⟨i,o,h1,h2⟩
  by_cases e:i=id
  ·subst e;exact⟨i,o,by rw[Af];exact Gc,h2⟩
  ·exact⟨i,o,by rw[Ad _ _ e];exact h1,h2⟩
theorem Bp.write (h:Bp N w0 X0 Y β s a w){id b ob:Nat}{bx bx':A1}(h0:s.hp id=some bx)(hl:Bu (some bx)) (Gc:Bu (some bx')) (hβ:β id=some (b,ob)) (hw:Bc b w w')
  (Hy:Lb w' (Bv s.hp β Y) β id bx') (hr:∀cells,bx'=.st cells->∀c∈cells,∀i∈Ai c,s.hp i≠none)
  (hK:∀c',bx'=.st c'->∃c,bx=.st c)(hR:∀j,BR bx' ob j->BR bx ob j)(hO:∀j,¬BR bx ob j->w'.cell? ⟨b,j,none⟩=w.cell? ⟨b,j,none⟩):Bp N w0 X0 Y β ⟨s.tm,Bh s.hp id (some bx')⟩ a w':=by
 have hX:=Aeh (β:=β) h0 hl Gc;have hA:∀k,Bv (Bh s.hp id (some bx')) β Y k↔Bv s.hp β Y k:=fun k=>⟨fun x=>x.imp (hX k).1 (fun y=>y),fun x=>x.imp (hX k).2 (fun y=>y)⟩
 have VN:Bv s.hp β Y b:=.inl ⟨id,ob,by rw[h0];exact hl,hβ⟩
 have I5:Bb (Bv s.hp β Y) w w':=⟨by rw[hw.size];exact Nat.le_refl _,fun k _ hk=>hw.other k (fun e=>hk (e ▸ VN)),fun k _=>hw.grow k⟩
 have E9:∀i,Bh s.hp id (some bx') i≠none↔s.hp i≠none:=by
  intro i;by_cases e:i=id
  ·subst e;rw[Af,h0];simp
  ·rw[Ad _ _ e]
 have hAe:Bv (Bh s.hp id (some bx')) β Y=Bv s.hp β Y:=funext fun k=>propext (hA k)
 have Qc:∀i,Bu (Bh s.hp id (some bx') i)->Bu (s.hp i):=by
  intro i hi;by_cases e:i=id
  ·subst e;rw[h0];exact hl
  ·rw[Ad _ _ e] at hi;exact hi
 refine⟨h.dfr,h.tsz,h.tmo,fun i hi=>?_,fun i bi hb=>?_,fun i i' k x y h1 h2=>h.inj i i' k x y (Qc i h1) (Qc i' h2),fun i k x hi hk=>?_,fun i hi j hj=>(E9 j).2 (h.wfT i hi j hj),
  fun i cells hc c DH j hj=>(E9 j).2 ?_,fun k hk=>h.ownd k ((hX k).1 hk),fun i bi k x Tp hli hk Bk j hj=>?_,fun i hi=>⟨(E9 _).2 (h.pin i hi).1,(h.pin i hi).2⟩,fun i c k x hc hk Bk=>?_,fun k hk x=>h.Yx k hk ((hX k).1 x),h.Ylt,?_⟩
 ·rw[hAe];exact (h.tms i hi).step I5 (fun _ _ x=>x) (fun _ _=>rfl)
 ·rw[hAe];simp only at hb;by_cases e:i=id
  ·subst e;rw[Af] at hb;cases hb;exact Hy
  ·rw[Ad _ _ e] at hb;have Tp:=h.box i bi hb;cases bi with
   |st c=>
    obtain⟨k,x,h1,h2,h3⟩:=Tp
    have hk:k≠b:=by
     rintro rfl
     exact e (h.inj i id k x ob (by rw[hb];trivial) (by rw[h0];exact hl) h1 hβ)
    refine⟨k,x,h1,fun j c hj=>?_,fun j hj=>?_⟩
    ·obtain⟨v,hv,hc⟩:=h2 j c hj;exact⟨v,by rw[World.cell?_of_block (w:=w) (hw.other k hk)];exact hv,hc.step I5 (fun _ _ x=>x) (fun _ _=>rfl)⟩
    ·rw[World.frozen?_of_block (w:=w) (hw.other k hk)];exact h3 j hj
   |ar fz c=>
    rcases Tp with hn|⟨k,x,h1,h2,h3,h4⟩
    ·exact .inl hn
    ·have hk:k≠b:=by
      rintro rfl
      cases fz with
      |true=>exact h4 rfl VN
      |false=>exact e (h.inj i id k x ob (by rw[hb];trivial) (by rw[h0];exact hl) h1 hβ)
     refine .inr ⟨k,x,h1,fun j c hj=>?_,fun ef j hj I8=>?_,h4⟩
     ·obtain⟨v,hv,h5,hc⟩:=h2 j c hj;exact⟨v,by rw[World.cell?_of_block (w:=w) (by rw[Dq];exact hw.other k hk)];exact hv,h5,hc.step I5 (fun _ _ x=>x)⟩
     ·rw[World.frozen?_of_block (w:=w) (hw.other k hk)];refine h3 ef j hj ?_;unfold bsz at I8 ⊢;rw[hw.other k hk] at I8;exact I8
   |mv=>trivial
 ·rw[hw.size];exact h.blt i k x ((E9 i).1 hi) hk
 ·simp only at hc;by_cases e:i=id
  ·subst e;rw[Af] at hc;injection hc with hc;exact hr cells hc c DH j hj
  ·rw[Ad _ _ e] at hc;exact h.wfB i cells hc c DH j hj
 ·simp only at Tp;by_cases e:i=id
  ·subst e;rw[Af] at Tp;cases Tp;rw[hβ] at hk;cases hk;exact h.rngB i bx b ob h0 hl hβ Bk j (hR j hj)
  ·rw[Ad _ _ e] at Tp;exact h.rngB i bi k x Tp hli hk Bk j hj
 ·simp only at hc;by_cases e:i=id
  ·subst e;rw[Af] at hc;injection hc with hc;obtain⟨c0,rfl⟩:=hK c hc;exact h.stp i c0 k x h0 hk Bk
  ·rw[Ad _ _ e] at hc;exact h.stp i c k x hc hk Bk
 ·refine⟨hw.os.trans h.fr.os,hw.tape.trans h.fr.tape,hw.output.trans h.fr.output,?_,fun k j hk hL=>?_⟩
  ·refine⟨by rw[hw.size];exact h.fr.step.size,fun k hk hnk=>?_,fun k hk=>(h.fr.step.bs k hk).trans (I5.bs k (Nat.lt_of_lt_of_le hk h.fr.step.size))⟩
   rw[hw.other k ?_]
   ·exact h.fr.step.keep k hk hnk
   ·rintro rfl
    rcases h.ownd k ⟨id,ob,by rw[h0];exact hl,hβ⟩ with hx|hx
    ·exact hnk hx
    ·omega
  ·by_cases e:k=b
   ·subst e;rw[hO j (fun hj=>hL (h.rngB id bx k ob h0 hl hβ hk j hj)),hw.frz]
    exact h.fr.rng k j hk hL
   ·have hc:w'.cell? ⟨k,j,none⟩=w.cell? ⟨k,j,none⟩:=World.cell?_of_block (w:=w) (hw.other k e);have hf:w'.frozen? ⟨k,j,none⟩=w.frozen? ⟨k,j,none⟩:=World.frozen?_of_block (w:=w) (hw.other k e);rw[hc,hf];exact h.fr.rng k j hk hL
theorem K3 {c cs:List PV}{off j:Nat}{p:PV}(Sy:off+cs.length<=c.length)(h:(A0 c cs off)[j]?=some p):
  (off<=j∧j<off+cs.length∧cs[j-off]?=some p)∨((j<off∨off+cs.length<=j)∧c[j]?=some p):=by
 unfold A0 at h;by_cases h1:j<off
 ·rw[List.append_assoc,List.getElem?_append_left (by simp;omega),List.getElem?_take_of_lt h1] at h
  exact .inr ⟨.inl h1,h⟩
 ·by_cases h2:j<off+cs.length
  ·rw[List.getElem?_append_left (by simp;omega),List.getElem?_append_right (by simp;omega)] at h
   simp only[List.length_take,Nat.min_eq_left (by omega:off<=c.length)] at h
   exact .inl ⟨by omega,h2,h⟩
  ·rw[List.getElem?_append_right (by simp;omega)] at h
   simp only[List.length_append,List.length_take,Nat.min_eq_left (by omega:off<=c.length),List.getElem?_drop] at h
   rw[show off+cs.length+(j-(off+cs.length))=j from by omega] at h
   exact .inr ⟨.inr (by omega),h⟩
theorem Lk {c cs:List PV}{off:Nat}(Sy:off+cs.length<=c.length):(A0 c cs off).length=c.length:=by
 simp[A0];omega
theorem S8 {t:TypeId}{b j:Nat}{v:Value}(Ik:(P.info? t).map (·.size)=some v.cells.size) (hc:∀i,i<v.cells.toList.length->(w.cell? ⟨b,j+i,none⟩).isSome=true)
  (hf:∀i,i<v.cells.toList.length->w.frozen? ⟨b,j+i,none⟩=false)(h1:∀u∈v.cells.toList,u.oneCell'=true):(Instr.storeAt t (.pointer (some ⟨b,j,none⟩)) v).run P w=.ok () (w.setCells b j v.cells.toList):=by
 have:=run_storeCells_cells (P:=P) b j v.cells.toList 0 w (fun i hi=>by simpa using hc i hi) (fun i hi=>by simpa using hf i hi) h1
 simp only[Instr.storeAt,Instr.sureAddr,storeVar,Sem.run_bind,Sem.run_pure,Result.andThen_ok,Gu Ik]
 simpa using this
theorem ER (h:Bp N w0 X0 Y β s a w){t:TypeId}{x y:Operand}(ho:o.op=.store t x y)(hd:o.dst=none){K:St->Option R}(hk:Ry P s t (A8 s.tm x) (A8 s.tm y) K=some r):
  ∃s',K s'=some r∧∀(next:Act->World->Prop) (Q:Exit->Act->World->Prop),(∀a' w' β',Bp N w0 X0 Y β' s' a' w'->next a' w')->o.wp P a w next Q:=by
 have hx:=Bs h x;have Wy:=Cz h x
 have run:∀{b j:Nat},a.eval x=.pointer (some ⟨b,j,none⟩)->(Instr.storeAt t (.pointer (some ⟨b,j,none⟩)) (a.eval y)).run P w=.ok () (w.setCells b j (a.eval y).cells.toList) ->
   ∀(next:Act->World->Prop) (Q:Exit->Act->World->Prop),next a (w.setCells b j (a.eval y).cells.toList)->o.wp P a w next Q:=by
  intro b j Bw hr next Q hn;unfold Oper.wp execOp;rw[ho];simp only[Sem.run_bind,Bw,hr,Result.andThen_ok,Sem.run_pure];show next (a.put o.dst undef) _;rw[hd];exact hn
 unfold Ry at hk;split at hk
 ·rename_i id off e;rw[e] at hx Wy;obtain⟨b,ob,hβ,Bw⟩:=hx;split at hk
  ·rename_i c h0;obtain⟨hb,hk⟩:=Ae hk;simp only[Bool.and_eq_true,decide_eq_true_eq] at hb;obtain⟨⟨Jc,hl⟩,Sy⟩:=hb;have hl:=Nat.eq_of_beq_eq_true hl;obtain⟨cs,hk,J0,h2,h1,hr,_⟩:=KP (Bs h y) hl hk;obtain⟨_,Aa6,Ik⟩:=Kl Jc;have Qw:=h2.len;obtain⟨b',o',Dl,Hq,BJ⟩:=h.box id _ h0;rw[hβ] at Dl;simp at Dl;obtain⟨rfl,rfl⟩:=Dl
   have hcell:∀i,i<(a.eval y).cells.toList.length->(w.cell? ⟨b,ob+off+i,none⟩).isSome=true:=by
    intro i hi;obtain⟨v,hv,_⟩:=Hq (off+i) _ (List.getElem?_eq_getElem (by omega))
    rw[Nat.add_assoc,hv];rfl
   have Bn:=S8 (P:=P) (t:=t) (w:=w) (b:=b) (j:=ob+off) (v:=a.eval y) (by rw[Ik,←Aa6,←J0,Qw];simp) hcell (fun i hi=>by rw[Nat.add_assoc];exact BJ _ (by omega)) h1
   refine⟨_,hk,fun next Q hn=>run Bw Bn next Q (hn _ _ β ?_)⟩
   refine h.write h0 trivial trivial hβ (Bc.setCells b _ _ w) ?_ ?_ (fun _ _=>⟨_,rfl⟩) (fun j hj=>by
    have hj:ob<=j∧j<ob+(A0 c cs off).length:=hj;rw[Lk (by omega)] at hj
    exact hj) (fun j hj=>by
    refine World.cell?_setCells_out b _ _ w ⟨b,j,none⟩ (fun _ _=>?_)
    have hj:¬(ob<=j∧j<ob+c.length):=hj;show j<ob+off∨ob+off+_<=j;omega)
   ·have I5:Bb (Bv s.hp β Y) w (w.setCells b (ob+off) (a.eval y).cells.toList):=by
     have hw:=Bc.setCells b (a.eval y).cells.toList (ob+off) w;have VN:Bv s.hp β Y b:=.inl ⟨id,ob,by rw[h0];trivial,hβ⟩
     exact⟨by rw[hw.size];exact Nat.le_refl _,fun k _ hk=>hw.other k (fun e=>hk (e ▸ VN)),fun k _=>hw.grow k⟩
    refine⟨b,ob,hβ,fun j p hj=>?_,fun j hj=>?_⟩
    ·rcases K3 (by omega) hj with⟨h3,h4,h5⟩|⟨h3,h5⟩
     ·obtain⟨u,hu,hcu⟩:=h2.get h5;have Bk:j-off<(a.eval y).cells.toList.length:=by omega
      refine⟨u,?_,hcu.step I5 (fun _ _ x=>x) (fun _ _=>rfl)⟩
      have:=World.cell?_setCells_in b (a.eval y).cells.toList (ob+off) w hcell (j-off) Bk;rw[show ob+j=ob+off+(j-off) from by omega,this]
      rw[List.getElem?_eq_getElem Bk] at hu;exact hu
     ·obtain⟨v,hv,Ta⟩:=Hq j p h5;refine⟨v,?_,Ta.step I5 (fun _ _ x=>x) (fun _ _=>rfl)⟩
      rw[World.cell?_setCells_out b _ _ w ⟨b,ob+j,none⟩ (fun _ _=>by show ob+j<ob+off∨ob+off+_<=ob+j;omega)]
      exact hv
    ·rw[Lk (by omega)] at hj
     rw[(Bc.setCells b _ _ w).frz];exact BJ j hj
   ·intro cells hx c' Lh i hi;injection hx with hx;subst hx;unfold A0 at Lh;rcases List.mem_append.1 Lh with Lh|Lh
    ·rcases List.mem_append.1 Lh with Lh|Lh
     ·exact h.wfB id c h0 c' (List.mem_of_mem_take Lh) i hi
     ·exact Cz h y i (hr c' Lh i hi)
    ·exact h.wfB id c h0 c' (List.mem_of_mem_drop Lh) i hi
  ·rename_i c h0;obtain⟨hb,hk⟩:=Ae hk;simp only[Bool.and_eq_true,decide_eq_true_eq] at hb;obtain⟨Jc,Sy⟩:=hb;obtain⟨cs,m,hk,J0,Ue,hT,hF,hm,hv⟩:=Ku h hk;obtain⟨BN,hk⟩:=Ae hk
   have BN:id ∉ m:=by
    intro hi;have:m.any (Nat.beq id)=true:=List.any_eq_true.2 ⟨id,hi,Nat.beq_refl id⟩;rw[this] at BN;cases BN
   obtain⟨_,Aa6,Ik⟩:=Kl Jc
   have YN:Au (A6 w (Bv s.hp β Y) β) (cellsOf (A8 s.tm y)) (a.eval y).cells.toList:=by
    have LB:=Bs h y;cases hp:A8 s.tm y with
    |agg ps=>
     rw[hp] at LB;obtain⟨vs,hay,h2⟩:=LB;rw[hay];exact h2
    |sc v=>
     rw[hp] at LB hF
     have HF:(a.eval y).oneCell'=true:=by
      have:=hv m (fun _ hi=>hi) hm [a.eval y] (by rw[hp];exact⟨LB,trivial⟩)
      exact this.2 _ (by simp)
     rw[Ij HF];exact⟨LB,trivial⟩
    |lst z es n cc=>
     rw[hp] at LB hF
     have HF:(a.eval y).oneCell'=true:=by
      have:=hv m (fun _ hi=>hi) hm [a.eval y] (by rw[hp];exact⟨LB,trivial⟩)
      exact this.2 _ (by simp)
     rw[Ij HF];exact⟨LB,trivial⟩
    |view i es oo n=>
     rw[hp] at LB hF
     have HF:(a.eval y).oneCell'=true:=by
      have:=hv m (fun _ hi=>hi) hm [a.eval y] (by rw[hp];exact⟨LB,trivial⟩)
      exact this.2 _ (by simp)
     rw[Ij HF];exact⟨LB,trivial⟩
    |own es n cc=>
     have hx0:=hF (A8 s.tm y) (by rw[hp];exact List.mem_singleton_self _)
     rw[hp] at hx0;exact hx0.elim
    |ptr i cc=>
     have hx0:=hF (A8 s.tm y) (by rw[hp];exact List.mem_singleton_self _)
     rw[hp] at hx0;exact hx0.elim
    |iptr i cc=>
     have hx0:=hF (A8 s.tm y) (by rw[hp];exact List.mem_singleton_self _)
     rw[hp] at hx0;exact hx0.elim
    |pbox cc=>
     have hx0:=hF (A8 s.tm y) (by rw[hp];exact List.mem_singleton_self _)
     rw[hp] at hx0;exact hx0.elim
    |tup cc=>
     have hx0:=hF (A8 s.tm y) (by rw[hp];exact List.mem_singleton_self _)
     rw[hp] at hx0;exact hx0.elim
    |ub=>
     have hx0:=hF (A8 s.tm y) (by rw[hp];exact List.mem_singleton_self _)
     rw[hp] at hx0;exact hx0.elim
    |top=>
     have hx0:=hF (A8 s.tm y) (by rw[hp];exact List.mem_singleton_self _)
     rw[hp] at hx0;exact hx0.elim
   obtain⟨h2,h1⟩:=hv m (fun _ hi=>hi) hm _ YN
   have Qw:=h2.len;have hf:=h.freeze hm;have h0':Ac s.hp m id=some (.ar false c):=by rw[A4,if_neg BN];exact h0
   rcases hf.box id _ h0' with⟨hn,_⟩|⟨b',o',Dl,Hq,BJ,_⟩
   ·rw[hβ] at hn;cases hn
   rw[hβ] at Dl;simp at Dl;obtain⟨rfl,rfl⟩:=Dl
   have hcell:∀i,i<(a.eval y).cells.toList.length->(w.cell? ⟨b,ob+off+i,none⟩).isSome=true:=by
    intro i hi;obtain⟨v,hv,_⟩:=Hq (off+i) _ (List.getElem?_eq_getElem (by omega))
    rw[B6] at hv;rw[Nat.add_assoc,hv];rfl
   have Bn:=S8 (P:=P) (t:=t) (w:=w) (b:=b) (j:=ob+off) (v:=a.eval y) (by rw[Ik,←Aa6,←J0,Qw];simp) hcell (fun i hi=>by
    obtain⟨u,hu⟩:=Option.isSome_iff_exists.1 (hcell i hi);exact BJ rfl _ (by omega) (Qd hu)) h1
   refine⟨_,hk,fun next Q hn=>run Bw Bn next Q (hn _ _ β ?_)⟩
   refine hf.write h0' trivial trivial hβ (Bc.setCells b _ _ w) ?_ (fun cells hx=>by cases hx) (fun _ hx=>by cases hx) (fun j hj=>hj) (fun j hj=>by
    refine World.cell?_setCells_out b _ _ w ⟨b,j,none⟩ (fun _ _=>?_)
    have hj:¬(ob<=j):=hj;show j<ob+off∨ob+off+_<=j;omega)
   have I5:Bb (Bv (Ac s.hp m) β Y) w (w.setCells b (ob+off) (a.eval y).cells.toList):=by
    have hw:=Bc.setCells b (a.eval y).cells.toList (ob+off) w;have VN:Bv (Ac s.hp m) β Y b:=.inl ⟨id,ob,by rw[h0'];trivial,hβ⟩
    exact⟨by rw[hw.size];exact Nat.le_refl _,fun k _ hk=>hw.other k (fun e=>hk (e ▸ VN)),fun k _=>hw.grow k⟩
   refine .inr ⟨b,ob,hβ,fun j p hj=>?_,fun _ j hj I8=>?_,(fun x=>by cases x)⟩
   ·rw[B6];rcases K3 (by omega) hj with⟨h3,h4,h5⟩|⟨h3,h5⟩
    ·obtain⟨u,hu,hcu⟩:=h2.get h5;have Bk:j-off<(a.eval y).cells.toList.length:=by omega
     refine⟨u,?_,h1 u (List.mem_of_getElem? hu),hcu.step I5 (fun _ _ x=>x)⟩
     have:=World.cell?_setCells_in b (a.eval y).cells.toList (ob+off) w hcell (j-off) Bk;rw[show ob+j=ob+off+(j-off) from by omega,this]
     rw[List.getElem?_eq_getElem Bk] at hu;exact hu
    ·obtain⟨v,hv,h6,Ta⟩:=Hq j p h5;rw[B6] at hv;refine⟨v,?_,h6,Ta.step I5 (fun _ _ x=>x)⟩
     rw[World.cell?_setCells_out b _ _ w ⟨b,ob+j,none⟩ (fun _ _=>by show ob+j<ob+off∨ob+off+_<=ob+j;omega)]
     exact hv
   ·rw[(Bc.setCells b _ _ w).bs] at I8;rw[(Bc.setCells b _ _ w).frz];exact BJ rfl j hj I8
  ·cases hk
 ·cases hk
end
open Go.RowKit
theorem Fd:∀{l l':List Nat},Cj (l++l')=true->Cj l=true∧Cj l'=true∧∀i∈l,i ∉ l'
 |[],l',h=>⟨rfl,h,by simp⟩
 |a::l,l',h=>by
  simp only[List.cons_append,Cj,Bool.and_eq_true,Bool.not_eq_true'] at h;obtain⟨h1,h2⟩:=h;obtain⟨h3,h4,h5⟩:=Fd h2
  have hn:∀i∈l++l',a≠i:=by
   rintro i hi rfl
   have:(l++l').any (Nat.beq a)=true:=List.any_eq_true.2 ⟨a,hi,Nat.beq_refl a⟩;rw[this] at h1;cases h1
  refine⟨?_,h4,fun i hi=>?_⟩
  ·simp only[Cj,Bool.and_eq_true,Bool.not_eq_true',h3,and_true];rw[List.any_eq_false];intro i hi e;exact hn i (by simp[hi]) (Nat.eq_of_beq_eq_true e)
  ·rcases List.mem_cons.1 hi with rfl|hi
   ·exact fun hm=>hn i (by simp[hm]) rfl
   ·exact h5 i hi
def D0 (β:Bt)(q:Nat × Nat):Option (Nat × Nat):=(β q.1).map fun p=>(p.1,p.2+q.2)
theorem HG (β:Bt)(id:Nat):D0 β (id,0)=β id:=by
 unfold D0;cases β id<;>rfl
section
variable {R:Type} {r:R} {P:Program} {N:Nat} {w0:World} {X0:Ev} {Y:Nat->Prop} {β β':Bt} {s:St} {a:Act} {w w':World} {o:Oper} {A:Nat->Prop}
theorem I0 {fz:List Nat}{b:Nat}(h:Bv (Ac s.hp fz) β Y b):Bv s.hp β Y b:=h.imp Kp id
theorem QP (h:Bp N w0 X0 Y β s a w){mv:Bool}{t:CT}{p:PV}{K:PV->List Nat->List Nat->Option R}(hk:LT mv s.hp t p K=some r):
  ∃c m q,K c m (Option.toList q)=some r∧isA c∧Xa p∧(∀id∈m,∃f cc,s.hp id=some (.ar f cc))∧(∀id,q=some id->∃cc,s.hp id=some (.ar false cc)) ∧
   ∀fz:List Nat,(∀id∈m,id∈fz)->(∀id∈fz,∃f cc,s.hp id=some (.ar f cc))->∀v,A6 w (Bv s.hp β Y) β p v->Ed w (Bv (Ac s.hp fz) β Y) (q.bind β) c v:=by
 have frz:∀{t:CT} {p:PV} {K:PV->List Nat->List Nat->Option R},(Ja (Gb s.hp) t p fun c m=>K c m [])=some r->∃c m q,K c m (Option.toList q)=some r∧isA c∧Xa p∧(∀id∈m,∃f cc,s.hp id=some (.ar f cc))∧(∀id,q=some id->∃cc,s.hp id=some (.ar false cc)) ∧
   ∀fz:List Nat,(∀id∈m,id∈fz)->(∀id∈fz,∃f cc,s.hp id=some (.ar f cc))->∀v,A6 w (Bv s.hp β Y) β p v->Ed w (Bv (Ac s.hp fz) β Y) (q.bind β) c v:=by
  intro t p K hk;obtain⟨c,m,hk,hT,hF,hm,hv⟩:=V8 h hk;exact⟨c,m,none,hk,.inl hT,hF,hm,by simp,fun fz h1 h2 v hc=>G5 hT (hv fz h1 h2 v hc).1⟩
 have tree:∀{t:CT} {p:PV} {K:PV->List Nat->List Nat->Option R},(∀es,t ≠ .sl es)->(Se t p fun c=>K c [] [])=some r->∃c m q,K c m (Option.toList q)=some r∧isA c∧Xa p∧(∀id∈m,∃f cc,s.hp id=some (.ar f cc))∧(∀id,q=some id->∃cc,s.hp id=some (.ar false cc)) ∧
   ∀fz:List Nat,(∀id∈m,id∈fz)->(∀id∈fz,∃f cc,s.hp id=some (.ar f cc))->∀v,A6 w (Bv s.hp β Y) β p v->Ed w (Bv (Ac s.hp fz) β Y) (q.bind β) c v:=by
  intro t p K G6 hk;obtain⟨c,hk,hT,Up,hv⟩:=Ib hk;exact⟨c,[],none,hk,.inl hT,Ld Up,by simp,by simp,fun fz h1 h2 v hc=>G5 hT ((hv w _ β v hc).1.step (Bb.refl _ _) (fun b _ hb=>I0 hb))⟩
 unfold LT at hk;cases t with
 |sl es=>
  dsimp only at hk;cases mv<;>simp only[cond_true,cond_false] at hk
  ·exact frz hk
  ·split at hk
   ·rename_i id es' off n;split at hk
    ·rename_i c h0;cases hb:(Nat.beq es' es&&Nat.beq off 0)<;>rw[hb] at hk<;>simp only[cond_true,cond_false] at hk
     ·exact frz hk
     ·simp only[Bool.and_eq_true] at hb;have he:=Nat.eq_of_beq_eq_true hb.1;have hof:=Nat.eq_of_beq_eq_true hb.2;subst he hof;obtain⟨hl,hk⟩:=Ae hk;refine⟨_,[],some id,hk,.inr ⟨_,_,_,rfl⟩,trivial,by simp,fun i hi=>by cases hi;exact⟨c,h0⟩,fun fz h1 h2 v hc=>?_⟩
      rcases hc with⟨h3,_,rfl,h4⟩|⟨b,ob,x,cap,h3,h4,hx,h5,h6,h7⟩
      ·exact .inl ⟨h3,rfl,by simp,h4⟩
      ·have hx:x=ob:=by rcases hx with e|⟨_,e⟩<;>omega
       subst hx;rcases h.box id _ h0 with⟨h8,_⟩|⟨b',o',h8,h9,h10,_⟩
       ·rw[h3] at h8;cases h8
       ·rw[h3] at h8;cases h8;refine .inr ⟨b,x,cap,h3,h4,h5,h6,h7,fun j p hj=>?_,h10 rfl⟩
        rw[List.getElem?_take] at hj;split at hj
        ·obtain⟨u,hu,h11,ht⟩:=h9 j p hj;exact⟨u,hu,h11,ht.step (Bb.refl _ _) (fun b _ hb=>I0 hb)⟩
        ·cases hj
    ·exact frz hk
   ·obtain⟨z,n,c,hk,hp⟩:=Dh hk;have hpF:Xa p:=by rcases hp with e|⟨e,_⟩<;>(rw[e];trivial)
    cases z<;>simp only[cond_true,cond_false] at hk
    ·refine⟨_,[],none,hk,.inl trivial,hpF,by simp,by simp,fun fz h1 h2 v hc=>?_⟩
     exact G5 trivial ((O2 hp hc).step (Bb.refl _ _) (fun b _ hb=>I0 hb))
    ·refine⟨_,[],none,hk,.inr ⟨_,_,_,rfl⟩,hpF,by simp,by simp,fun fz h1 h2 v hc=>.inl ⟨rfl,rfl,rfl,none,?_⟩⟩
     have:=O2 hp hc;cases this;rfl
 |int k=>exact tree (by simp) hk
 |bool=>exact tree (by simp) hk
 |str=>exact tree (by simp) hk
 |any=>exact tree (by simp) hk
theorem Nb (h:Bp N w0 X0 Y β s a w){mv:Bool}:∀{ts:List CT}{ps:List PV}{K:List PV->List Nat->List Nat->Option R},S2 mv s.hp ts ps K=some r ->
  ∃cs m x,∃q:Nat->Option Nat,K cs m x=some r∧cs.length=ts.length∧ps.length=ts.length∧(∀c∈cs,isA c)∧(∀p∈ps,Xa p)∧(∀id∈m,∃f cc,s.hp id=some (.ar f cc))∧(∀id∈x,∃cc,s.hp id=some (.ar false cc)) ∧
   (∀j id,q j=some id->id∈x)∧(Cj x=true->∀j j' id,q j=some id->q j'=some id->j=j') ∧
   ∀fz:List Nat,(∀id∈m,id∈fz)->(∀id∈fz,∃f cc,s.hp id=some (.ar f cc))->∀vs,Au (A6 w (Bv s.hp β Y) β) ps vs->∀(own:Bt) j0,(∀j,own (j0+j)=(q j).bind β)->Da w (Bv (Ac s.hp fz) β Y) own j0 cs vs
 |[],[],K,hk=>⟨[],[],[],fun _=>none,hk,rfl,rfl,by simp,by simp,by simp,by simp,by simp,by simp,fun fz _ _ vs hv own j0 _=>by
   cases vs with
   |nil=>trivial
   |cons v vs=>exact hv.elim⟩
 |[],_::_,K,hk=>by cases hk
 |_::_,[],K,hk=>by cases hk
 |t::ts,p::ps,K,hk=>by
  unfold S2 at hk;obtain⟨c,m,q,hk,hA,hF,hm,hq,hv⟩:=QP h hk;obtain⟨cs,ms,xs,qs,hk,hl,Gc,hAs,hFs,We,Wv,hqx,hqi,F7⟩:=Nb h hk;refine⟨c::cs,m++ms,q.toList++xs,fun j=>match j with|0=>q|j+1=>qs j,hk,by simp[hl],by simp[Gc],?_,?_,?_,?_,?_,?_,?_⟩
  ·intro x hx;rcases List.mem_cons.1 hx with rfl|hx
   ·exact hA
   ·exact hAs x hx
  ·intro x hx;rcases List.mem_cons.1 hx with rfl|hx
   ·exact hF
   ·exact hFs x hx
  ·intro i hi;rcases List.mem_append.1 hi with hi|hi
   ·exact hm i hi
   ·exact We i hi
  ·intro i hi;rcases List.mem_append.1 hi with hi|hi
   ·exact hq i (by simpa using hi)
   ·exact Wv i hi
  ·intro j id hj;cases j with
   |zero=>exact List.mem_append.2 (.inl (by simpa using hj))
   |succ j=>exact List.mem_append.2 (.inr (hqx j id hj))
  ·intro hn j j' id hj I8;obtain⟨_,h2,h3⟩:=Fd hn;cases j with
   |zero=>
    cases j' with
    |zero=>rfl
    |succ j'=>exact absurd (hqx j' id I8) (h3 id (by simpa using hj))
   |succ j=>
    cases j' with
    |zero=>exact absurd (hqx j id hj) (h3 id (by simpa using I8))
    |succ j'=>rw[hqi h2 j j' id hj I8]
  ·intro fz h1 h2 vs h3 own j0 Ew;cases vs with
   |nil=>exact h3.elim
   |cons v vs=>
    refine⟨?_,F7 fz (fun i hi=>h1 i (by simp[hi])) h2 vs h3.2 own (j0+1) fun j=>?_⟩
    ·have:=Ew 0;rw[Nat.add_zero] at this;rw[this];exact hv fz (fun i hi=>h1 i (by simp[hi])) h2 v h3.1
    ·have:=Ew (j+1);rw[show j0+1+j=j0+(j+1) by omega]
     exact this
def LOk (hp:Nat->Option A1)(q:Option (Nat × Nat)) (p:PV)(x:D5):Prop:=
 match x with
 |.var id off cts ws=>p=.pbox ws∧q=some (id,off)∧cts.length=ws.length∧∃c,hp id=some (.st c)∧off+ws.length<=c.length
 |.row id=>(∃ps,p=.tup ps)∧q=some (id,0)∧∃c,hp id=some (.ar false c)
 |.none=>(∃ps,p=.tup ps)∧q=none
theorem LP {hp:Nat->Option A1}{q:Option (Nat × Nat)} {p:PV}{x:D5}(h:LOk hp q p x):Rb p=true:=by
 cases x with
 |var id off cts ws=>rw[h.1];rfl
 |row id=>obtain⟨⟨_,e⟩,_⟩:=h;rw[e];rfl
 |none=>obtain⟨⟨_,e⟩,_⟩:=h;rw[e];rfl
def J1 (hp:Nat->Option A1)(src:Nat->Nat->Option (Nat × Nat)):Nat->List PV->List D5->Prop
 |_,[],l=>l=[]
 |i,p::ps,l=>(Rb p=false∧src i 0=none∧J1 hp src (i+1) ps l)∨∃x l',l=x::l'∧LOk hp (src i 0) p x∧J1 hp src (i+1) ps l'
theorem JJ (h:Bp N w0 X0 Y β s a w){C:Eg}{f:FuncId}{i:Nat}{t:TypeId}{x:Operand}{K:PV->List Nat->List Nat->List D5->Option R}(hk:Rp C P f s.hp i t (A8 s.tm x) K=some r):
  ∃v m y l,∃src:Nat->Option (Nat × Nat),K v m y l=some r∧(∀id∈m,∃f cc,s.hp id=some (.ar f cc))∧(∀id∈y,∃cc,s.hp id=some (.ar false cc)) ∧
   (∀j id off,src (j+1)=some (id,off)->off=0∧id∈y)∧(Cj y=true->∀j j' id off off',src (j+1)=some (id,off)->src (j'+1)=some (id,off')->j=j') ∧
   ((l=[]∧Rb v=false∧src 0=none)∨∃x',l=[x']∧LOk s.hp (src 0) v x') ∧
   ∀fz:List Nat,(∀id∈m,id∈fz)->(∀id∈fz,∃f cc,s.hp id=some (.ar f cc))->∀bt:Bt,(∀j,bt j=(src j).bind (D0 β))->EW w (Bv (Ac s.hp fz) β Y) bt v (a.eval x):=by
 have hx:=Bs h x
 have Ks:∀(q0:Option (Nat × Nat)) (q:Nat->Option Nat),∃src:Nat->Option (Nat × Nat),src 0=q0∧(∀j,src (j+1)=(q j).map fun id=>(id,0)):=
  fun q0 q=>⟨fun j=>match j with|0=>q0|j+1=>(q j).map fun id=>(id,0),rfl,fun _=>rfl⟩
 have EP:∀{src:Nat->Option (Nat × Nat)} {q:Nat->Option Nat} {y:List Nat},(∀j,src (j+1)=(q j).map fun id=>(id,0))->(∀j id,q j=some id->id∈y)->∀j id off,src (j+1)=some (id,off)->off=0∧id∈y:=by
  intro src q y h1 h2 j id off hj;rw[h1] at hj;cases hq:q j with
  |none=>rw[hq] at hj;cases hj
  |some k=>rw[hq] at hj;cases hj;exact⟨rfl,h2 j _ hq⟩
 have EU:∀{src:Nat->Option (Nat × Nat)} {q:Nat->Option Nat} {y:List Nat},(∀j,src (j+1)=(q j).map fun id=>(id,0))->(Cj y=true->∀j j' id,q j=some id->q j'=some id->j=j') ->
   Cj y=true->∀j j' id off off',src (j+1)=some (id,off)->src (j'+1)=some (id,off')->j=j':=by
  intro src q y h1 h2 hn j j' id off off' hj I8;rw[h1] at hj I8;cases hq:q j with
  |none=>rw[hq] at hj;cases hj
  |some k=>
   cases Dk:q j' with
   |none=>rw[Dk] at I8;cases I8
   |some k'=>
    rw[hq] at hj;rw[Dk] at I8;cases hj;cases I8;exact h2 hn j j' _ hq Dk
 have Ew:∀{src:Nat->Option (Nat × Nat)} {q:Nat->Option Nat} {bt:Bt},(∀j,src (j+1)=(q j).map fun id=>(id,0))->(∀j,bt j=(src j).bind (D0 β))->∀j,bt (1+j)=(q j).bind β:=by
  intro src q bt h1 h2 j;rw[Nat.add_comm,h2,h1];cases q j with
  |none=>rfl
  |some id=>exact HG β id
 unfold Rp at hk;split at hk
 ·rename_i e he;split at hk
  ·rename_i id off ep;rw[ep] at hx;split at hk
   ·rename_i c h0;obtain⟨hb,hk⟩:=Ae hk;simp only[Bool.and_eq_true,decide_eq_true_eq] at hb;obtain⟨cs,m,y,q,hk,hl,Gc,hA,hF,hm,hy,Y9,Ud,hv⟩:=Nb h hk;obtain⟨src,FY,hs⟩:=Ks (some (id,off)) q;obtain⟨b,ob,hβ,Bw⟩:=hx;refine⟨_,m,y,_,src,hk,hm,hy,EP hs Y9,EU hs Ud,.inr ⟨_,rfl,rfl,FY,hl.symm,c,h0,by omega⟩,fun fz h1 h2 bt Pe=>?_⟩
    obtain⟨b',o',Dl,Hq,BJ⟩:=h.box id _ h0;rw[hβ] at Dl;cases Dl;have Cy:((c.drop off).take (Ez P e).length).length=(Ez P e).length:=by simp;omega
    have UM:∀j p,((c.drop off).take (Ez P e).length)[j]?=some p->c[off+j]?=some p∧j<(Ez P e).length:=by
     intro j p hj;rw[List.getElem?_take] at hj;split at hj
     ·rw[List.getElem?_drop] at hj;exact⟨hj,by assumption⟩
     ·cases hj
    refine⟨b,ob+off,by rw[Pe,FY];simp[D0,hβ],Bw,hA,((c.drop off).take (Ez P e).length).mapIdx (fun j _=>(w.cell? ⟨b,ob+off+j,none⟩).getD undef),hv fz h1 h2 _ ?_ bt 1 (Ew hs Pe),?_,fun k hk=>?_⟩
    ·refine Au.of_at (by simp) fun j p v hp hv=>?_
     obtain⟨hc,_⟩:=UM j p hp;obtain⟨u,hu,CA⟩:=Hq _ _ hc;rw[List.getElem?_mapIdx,hp,Option.map_some,Nat.add_assoc,hu] at hv;simp at hv;subst hv;exact CA
    ·intro k v NL;rw[List.getElem?_mapIdx] at NL;cases hp:((c.drop off).take (Ez P e).length)[k]? with
     |none=>rw[hp] at NL;cases NL
     |some p=>
      obtain⟨hc,_⟩:=UM k p hp;obtain⟨u,hu,CA⟩:=Hq _ _ hc;rw[hp,Option.map_some,Nat.add_assoc,hu] at NL;simp at NL;subst NL;rw[Nat.add_assoc];exact hu
    ·rw[Nat.add_assoc];exact BJ _ (by omega)
   ·cases hk
  ·cases hk
 ·cases hln:C.lnd f i<;>rw[hln] at hk<;>simp only[cond_true,cond_false] at hk
  ·cases Dp:A9 P t<;>rw[Dp] at hk<;>simp only[cond_true,cond_false] at hk
   ·obtain⟨cs,m,y,q,hk,hl,Gc,hA,hF,hm,hy,Y9,Ud,hv⟩:=Nb h hk;obtain⟨c,t',rfl,hk⟩:=Ap hk;obtain⟨rfl,hk⟩:=B1 hk;obtain⟨src,FY,hs⟩:=Ks none q;have hAc:=hA c (by simp)
    refine⟨c,m,y,_,src,hk,hm,hy,EP hs Y9,EU hs Ud,.inl ⟨rfl,XO hAc,FY⟩,fun fz h1 h2 bt Pe=>?_⟩
    have hFx:=hF _ (List.mem_singleton_self _)
    have hxc:A6 w (Bv s.hp β Y) β (A8 s.tm x) (a.eval x):=by
     cases hp:A8 s.tm x<;>rw[hp] at hx hFx<;>first|exact hx|exact hFx.elim
    have ZY:=(hv fz h1 h2 [a.eval x] ⟨hxc,trivial⟩ bt 1 (Ew hs Pe)).1;rcases hAc with hT|⟨es,n,cc,rfl⟩
    ·cases c<;>first|exact⟨.inl trivial,ZY⟩|exact hT.elim
    ·exact⟨.inr ⟨_,_,_,rfl⟩,ZY⟩
   ·obtain⟨ps,ep,hk⟩:=Eh hk;rw[ep] at hx;obtain⟨vs,Bw,h3⟩:=hx;obtain⟨cs,m,y,q,hk,hl,Gc,hA,hF,hm,hy,Y9,Ud,hv⟩:=Nb h hk;obtain⟨src,FY,hs⟩:=Ks none q;refine⟨_,m,y,_,src,hk,hm,hy,EP hs Y9,EU hs Ud,.inl ⟨rfl,rfl,FY⟩,fun fz h1 h2 bt Pe=>?_⟩
    exact⟨vs,Bw,hA,hv fz h1 h2 vs h3 bt 1 (Ew hs Pe)⟩
  ·obtain⟨e,he,hk⟩:=Bl hk;unfold UT at hk;split at hk
   ·rename_i id es' off n ep;rw[ep] at hx;split at hk
    ·rename_i c h0;obtain⟨hb,C9⟩:=Ae hk;simp only[Bool.and_eq_true] at hb;have he:=Nat.eq_of_beq_eq_true hb.1;have hof:=Nat.eq_of_beq_eq_true hb.2;subst hof;obtain⟨src,FY,hs⟩:=Ks (some (id,0)) (fun _=>none)
     refine⟨_,[],[],_,src,C9,by simp,by simp,EP hs (by simp),EU hs (by simp),.inr ⟨_,rfl,⟨_,rfl⟩,FY,c,h0⟩,fun fz h1 h2 bt Pe=>⟨_,_,_,rfl,?_⟩⟩
     have CD:bt 0=β id:=by rw[Pe,FY];exact HG β id
     rw[CD];rcases hx with⟨h3,_,h4,h5⟩|⟨b,ob,y,cap,h3,h4,hy,h5,h6,h7⟩
     ·refine .inl ⟨h3,h4,?_,h5⟩;rcases h.box id _ h0 with⟨_,h8⟩|⟨_,_,h8,_⟩
      ·exact h8
      ·rw[h3] at h8;cases h8
     ·have hy:y=ob:=by rcases hy with e|⟨_,e⟩<;>omega
      subst hy;rcases h.box id _ h0 with⟨h8,_⟩|⟨b',o',h8,h9,h10,_⟩
      ·rw[h3] at h8;cases h8
      ·rw[h3] at h8;cases h8;exact .inr ⟨b,y,cap,h3,h4,h5,by rw[←he];exact h6,h7,h9.weak (fun b _ hb=>I0 hb),h10 rfl⟩
    ·cases hk
   ·obtain⟨z,n,c,hk,hp⟩:=Dh hk;obtain⟨hz,hk⟩:=Ae hk;subst hz;obtain⟨src,FY,hs⟩:=Ks none (fun _=>none)
    have hu:a.eval x=.slice none 0 0:=by
     have hF:A6 w (Bv s.hp β Y) β (A8 s.tm x) (a.eval x):=by rcases hp with e|⟨e,_⟩<;>rw[e] at hx ⊢ <;> exact hx
     have:=O2 hp hF;generalize a.eval x=u at this;cases this;rfl
    refine⟨_,[],[],_,src,hk,by simp,by simp,EP hs (by simp),EU hs (by simp),.inr ⟨_,rfl,⟨_,rfl⟩,FY⟩,fun fz h1 h2 bt Pe=>⟨_,_,_,rfl,.inl ⟨by rw[Pe,FY];rfl,rfl,rfl,none,hu⟩⟩⟩
structure Aim (i0 n:Nat) (src:Nat->Nat->Option (Nat × Nat)) (ids x:List Nat):Prop where
 dom:∀i j q,src i j=some q->i0<=i∧i<i0+n
 lent:∀i id off,src i 0=some (id,off)->id∈ids
 mvd:∀i j id off,src i (j+1)=some (id,off)->off=0∧id∈x
 inj0:Cj ids=true->∀i i' id off off',src i 0=some (id,off)->src i' 0=some (id,off')->i=i'
 inj1:Cj x=true->∀i i' j j' id off off',src i (j+1)=some (id,off)->src i' (j'+1)=some (id,off')->i=i'∧j=j'
theorem O8 {hp:Nat->Option A1}{src src':Nat->Nat->Option (Nat × Nat)}:∀{ps:List PV}{i:Nat}{l:List D5},(∀k,i<=k->src' k=src k)->J1 hp src i ps l->J1 hp src' i ps l
 |[],_,_,_,h=>h
 |p::ps,i,l,hs,h=>by
  rcases h with⟨h1,h2,h3⟩|⟨x,l',rfl,h2,h3⟩
  ·exact .inl ⟨h1,by rw[hs i (Nat.le_refl _)];exact h2,O8 (fun k hk=>hs k (by omega)) h3⟩
  ·exact .inr ⟨x,l',rfl,by rw[hs i (Nat.le_refl _)];exact h2,O8 (fun k hk=>hs k (by omega)) h3⟩
theorem S3 {bt bt':Tl}:∀{ps:List PV}{us:List Value}{i:Nat},(∀k,i<=k->∀j,bt' k j=bt k j)->H7 w A bt i ps us->H7 w A bt' i ps us
 |[],[],_,_,_=>trivial
 |[],_::_,_,_,h=>h.elim
 |_::_,[],_,_,h=>h.elim
 |_::_,_::_,i,hb,h=>⟨by rw[show bt' i=bt i from funext (hb i (Nat.le_refl _))];exact h.1,S3 (fun k hk=>hb k (by omega)) h.2⟩
theorem Ze (h:Bp N w0 X0 Y β s a w){C:Eg}{f:FuncId}:∀{ts:List TypeId}{xs:List Operand}{i:Nat}{K:List PV->List Nat->List Nat->List D5->Option R},Y0 C P f s.hp i ts (xs.map (A8 s.tm)) K=some r ->
  ∃vs m y l,∃src:Nat->Nat->Option (Nat × Nat),K vs m y l=some r∧(∀id∈m,∃f cc,s.hp id=some (.ar f cc))∧(∀id∈y,∃cc,s.hp id=some (.ar false cc)) ∧
   Aim i xs.length src (l.flatMap D5.ids) y∧J1 s.hp src i vs l ∧
   ∀fz:List Nat,(∀id∈m,id∈fz)->(∀id∈fz,∃f cc,s.hp id=some (.ar f cc))->∀bt:Tl,(∀i j,bt i j=(src i j).bind (D0 β))->H7 w (Bv (Ac s.hp fz) β Y) bt i vs (xs.map a.eval)
 |[],[],i,K,hk=>⟨[],[],[],[],fun _ _=>none,hk,by simp,by simp,⟨by simp,by simp,by simp,by simp,by simp⟩,rfl,fun _ _ _ _ _=>trivial⟩
 |[],_::_,i,K,hk=>by cases hk
 |_::_,[],i,K,hk=>by cases hk
 |t::ts,x::xs,i,K,hk=>by
  simp only[List.map_cons] at hk;unfold Y0 at hk;obtain⟨v,m,y,l,src,hk,hm,hy,VU,hs2,hl,hv⟩:=JJ h hk;obtain⟨vs,ms,ys,ls,srcs,hk,We,hys,hS,hL,F7⟩:=Ze h hk;have Ks:∃sr:Nat->Nat->Option (Nat × Nat),sr i=src∧∀k,k≠i->sr k=srcs k:=⟨fun k=>if k=i then src else srcs k,by simp,fun k hk=>by simp[hk]⟩
  obtain⟨sr,VV,KT⟩:=Ks
  have W8:∀id off,src 0=some (id,off)->id∈l.flatMap D5.ids:=by
   intro id off e;rcases hl with⟨_,_,h3⟩|⟨x',rfl,h3⟩
   ·rw[h3] at e;cases e
   ·cases x' with
    |var id' off' cts ws=>rw[h3.2.1] at e;cases e;simp[D5.ids]
    |row id'=>rw[h3.2.1] at e;cases e;simp[D5.ids]
    |none=>rw[h3.2] at e;cases e
  refine⟨v::vs,m++ms,y++ys,l++ls,sr,hk,?_,?_,⟨?_,?_,?_,?_,?_⟩,?_,fun fz h1 h2 bt Pe=>⟨?_,?_⟩⟩
  ·intro i hi;rcases List.mem_append.1 hi with hi|hi
   ·exact hm i hi
   ·exact We i hi
  ·intro i hi;rcases List.mem_append.1 hi with hi|hi
   ·exact hy i hi
   ·exact hys i hi
  ·intro k j q hq;simp only[List.length_cons];by_cases e:k=i
   ·subst e;omega
   ·rw[KT k e] at hq;have:=hS.dom k j q hq;omega
  ·intro k id off hq;rw[List.flatMap_append];by_cases e:k=i
   ·subst e;rw[VV] at hq;exact List.mem_append.2 (.inl (W8 id off hq))
   ·rw[KT k e] at hq;exact List.mem_append.2 (.inr (hS.lent k id off hq))
  ·intro k j id off hq;by_cases e:k=i
   ·subst e;rw[VV] at hq;exact⟨(VU j id off hq).1,List.mem_append.2 (.inl (VU j id off hq).2)⟩
   ·rw[KT k e] at hq;exact⟨(hS.mvd k j id off hq).1,List.mem_append.2 (.inr (hS.mvd k j id off hq).2)⟩
  ·intro hn k k' id off off' hq Dk;rw[List.flatMap_append] at hn;obtain⟨_,h4,h5⟩:=Fd hn;by_cases e:k=i
   ·by_cases e':k'=i
    ·omega
    ·rw[KT k' e'] at Dk;subst e;rw[VV] at hq;exact absurd (hS.lent k' id off' Dk) (h5 id (W8 id off hq))
   ·rw[KT k e] at hq;by_cases e':k'=i
    ·subst e';rw[VV] at Dk;exact absurd (hS.lent k id off hq) (h5 id (W8 id off' Dk))
    ·rw[KT k' e'] at Dk;exact hS.inj0 h4 k k' id off off' hq Dk
  ·intro hn k k' j j' id off off' hq Dk;obtain⟨h3,h4,h5⟩:=Fd hn;by_cases e:k=i
   ·by_cases e':k'=i
    ·subst e;subst e';rw[VV] at hq Dk;exact⟨rfl,hs2 h3 j j' id off off' hq Dk⟩
    ·rw[KT k' e'] at Dk;subst e;rw[VV] at hq;exact absurd (hS.mvd k' j' id off' Dk).2 (h5 id (VU j id off hq).2)
   ·rw[KT k e] at hq;by_cases e':k'=i
    ·subst e';rw[VV] at Dk;exact absurd (hS.mvd k j id off hq).2 (h5 id (VU j' id off' Dk).2)
    ·rw[KT k' e'] at Dk;exact hS.inj1 h4 k k' j j' id off off' hq Dk
  ·have On:J1 s.hp sr (i+1) vs ls:=O8 (fun k hk=>KT k (by omega)) hL
   rcases hl with⟨rfl,hnp,h3⟩|⟨x',rfl,h3⟩
   ·exact .inl ⟨hnp,by rw[VV];exact h3,On⟩
   ·exact .inr ⟨x',ls,rfl,by rw[VV];exact h3,On⟩
  ·exact hv fz (fun i hi=>h1 i (by simp[hi])) h2 (bt i) (fun j=>by rw[Pe,VV])
  ·refine F7 fz (fun i hi=>h1 i (by simp[hi])) h2 (fun k j=>(srcs k j).bind (D0 β)) (fun _ _=>rfl) |> S3 fun k hk j=>?_
   rw[Pe,KT k (by omega)]
end
open Go.RowKit
section
variable {R:Type} {r:R} {P:Program} {N:Nat} {w0:World} {X0:Ev} {Y:Nat->Prop} {β β':Bt} {s:St} {a:Act} {w w':World} {o:Oper} {A:Nat->Prop}
theorem TM {p:PV}{u:Value}(h:Ao w A p u):A6 w A β p u:=by
 have h0:=h;cases h<;>exact h0
theorem QC {t:Nat}{ct:CT}{was p:PV}{K:Nat->PV->List (Nat × A1)->Option R} (hk:ML N t ct was p K=some r):
  (∃c,K t c []=some r∧Ob c∧∀w A q u,Ed w A q p u->Ao w A c u)∨∃es n cc,p=.own es n cc∧K (t+1) (.view (FX N t) es 0 n) [(FX N t,.ar false cc)]=some r:=by
 have tree:∀t',(Se t' p fun c=>K t c [])=some r->∃c,K t c []=some r∧Ob c∧∀w A q u,Ed w A q p u->Ao w A c u:=by
  intro t' hk;obtain⟨c,hk,hT,Up,hv⟩:=Ib hk;refine⟨c,hk,hT,fun w A q u h=>(hv w A (fun _=>none) u ?_).1⟩
  cases p<;>first|exact h|exact Up.elim
 unfold ML at hk;cases ct with
 |sl es=>
  dsimp only at hk;split at hk
  ·unfold Ml at hk;split at hk
   ·rename_i es' n c;cases hb:Nat.beq es' es<;>rw[hb] at hk
    ·cases hk
    ·have:=Nat.eq_of_beq_eq_true hb;subst this;exact .inr ⟨_,_,_,rfl,hk⟩
   ·cases hk
  ·have h2:(Se (.sl es) p fun c=>(match c with | .lst _ es n c=>K t (.lst false es n c) []|_=>none))=some r:=hk
   obtain⟨c,hk,hT,Up,hv⟩:=Ib h2;split at hk
   ·refine .inl ⟨_,hk,hT,fun w A q u h=>Ao.unz (hv w A (fun _=>none) u ?_).1⟩
    cases p<;>first|exact h|exact Up.elim
   ·cases hk
 |int k=>exact .inl (tree _ hk)
 |bool=>exact .inl (tree _ hk)
 |str=>exact .inl (tree _ hk)
 |any=>exact .inl (tree _ hk)
theorem R0:∀{cts:List CT}{ws ps:List PV}{t:Nat}{K:Nat->List PV->List (Nat × A1)->Option R},Xx N t cts ws ps K=some r ->
  ∃t' cs bs,∃qs:List (Nat × Nat),K t' cs bs=some r∧cs.length=ps.length∧ps.length=ws.length∧bs.map (·.1)=qs.map (·.1)∧(∀q∈qs,(∃k,q.1=FX N k)∧q.2<ps.length)∧(∀q∈qs,∀q'∈qs,q.2=q'.2->q.1=q'.1) ∧
   (∀i bx,(i,bx)∈bs->∃c,bx=.ar false c)∧(∀c∈cs,∀i∈Ai c,∃bx,(i,bx)∈bs) ∧
   ∀(w:World) (A:Nat->Prop) (own β':Bt) (j0:Nat) (us:List Value),(∀q∈qs,β' q.1=own (j0+q.2))->Da w A own j0 ps us->Au (A6 w A β') cs us∧∀i bx,(i,bx)∈bs->Lb w A β' i bx
 |[],[],ps,t,K,hk=>by
  obtain⟨rfl,hk⟩:=B1 hk;refine⟨t,[],[],[],hk,rfl,rfl,rfl,by simp,by simp,by simp,by simp,fun w A own β' j0 us _ h=>⟨?_,by simp⟩⟩
  cases us with
  |nil=>trivial
  |cons u us=>exact h.elim
 |[],_::_,_,_,_,hk=>by cases hk
 |_::_,[],_,_,_,hk=>by cases hk
 |ct::cts,x::ws,ps,t,K,hk=>by
  unfold Xx at hk;obtain⟨p,ps',W2,Ck⟩:=Ap hk;subst W2;rcases QC Ck with⟨c,C9,hT,hv⟩|⟨es,n,cc,rfl,C9⟩
  ·obtain⟨t',cs,bs,qs,K2,hl,Gc,hb,Y9,Ud,Dl,Hq,F7⟩:=R0 C9;refine⟨t',c::cs,bs,qs.map (fun q=>(q.1,q.2+1)),K2,by simp[hl],by simp[Gc],by rw[hb];simp,?_,?_,Dl,?_,fun w A own β' j0 us hβ ho=>?_⟩
   ·intro q hq;obtain⟨q0,Oz,rfl⟩:=List.mem_map.1 hq;exact⟨(Y9 q0 Oz).1,by have:=(Y9 q0 Oz).2;simp only[List.length_cons];omega⟩
   ·intro q hq q' Dk e;obtain⟨q0,Oz,rfl⟩:=List.mem_map.1 hq;obtain⟨q1,F0,rfl⟩:=List.mem_map.1 Dk;exact Ud q0 Oz q1 F0 (by simp only at e;omega)
   ·intro y hy i hi;rcases List.mem_cons.1 hy with rfl|hy
    ·rw[Em hT] at hi;cases hi
    ·exact Hq y hy i hi
   ·cases us with
    |nil=>exact ho.elim
    |cons u us=>
     obtain⟨h1,h2⟩:=F7 w A own β' (j0+1) us (fun q hq=>by rw[hβ _ (List.mem_map_of_mem hq)];congr 1;simp only;omega) ho.2
     exact⟨⟨TM (hv w A _ u ho.1),h1⟩,h2⟩
  ·obtain⟨t',cs,bs,qs,K2,hl,Gc,hb,Y9,Ud,Dl,Hq,F7⟩:=R0 C9;refine⟨t',_::cs,(FX N t,.ar false cc)::bs,(FX N t,0)::qs.map (fun q=>(q.1,q.2+1)),K2,by simp[hl],by simp[Gc],by simp only[List.map_cons,hb];simp,?_,?_,?_,?_,fun w A own β' j0 us hβ ho=>?_⟩
   ·intro q hq;rcases List.mem_cons.1 hq with rfl|hq
    ·exact⟨⟨t,rfl⟩,by simp⟩
    ·obtain⟨q0,Oz,rfl⟩:=List.mem_map.1 hq;exact⟨(Y9 q0 Oz).1,by have:=(Y9 q0 Oz).2;simp only[List.length_cons];omega⟩
   ·intro q hq q' Dk e;rcases List.mem_cons.1 hq with rfl|hq
    ·rcases List.mem_cons.1 Dk with rfl|Dk
     ·rfl
     ·obtain⟨q0,Oz,rfl⟩:=List.mem_map.1 Dk;simp only at e;omega
    ·obtain⟨q0,Oz,rfl⟩:=List.mem_map.1 hq;rcases List.mem_cons.1 Dk with rfl|Dk
     ·simp only at e;omega
     ·obtain⟨q1,F0,rfl⟩:=List.mem_map.1 Dk;exact Ud q0 Oz q1 F0 (by simp only at e;omega)
   ·intro i bx hm;rcases List.mem_cons.1 hm with e|hm
    ·cases e;exact⟨cc,rfl⟩
    ·exact Dl i bx hm
   ·intro y hy i hi;rcases List.mem_cons.1 hy with rfl|hy
    ·simp only[Ai,List.mem_singleton] at hi;subst hi;exact⟨_,List.mem_cons_self⟩
    ·obtain⟨bx,Hy⟩:=Hq y hy i hi;exact⟨bx,List.mem_cons_of_mem _ Hy⟩
   ·cases us with
    |nil=>exact ho.elim
    |cons u us=>
     obtain⟨h1,h2⟩:=F7 w A own β' (j0+1) us (fun q hq=>by rw[hβ _ (List.mem_cons_of_mem _ (List.mem_map_of_mem hq))];congr 1;simp only;omega) ho.2
     have h0:=hβ (FX N t,0) List.mem_cons_self;simp only[Nat.add_zero] at h0;refine⟨⟨?_,h1⟩,fun i bx hm=>?_⟩
     ·rcases ho.1 with⟨h3,rfl,_,h5⟩|⟨b,ob,cap,h3,h4,h5,h6,h7,_⟩
      ·exact .inl ⟨h0.trans h3,rfl,rfl,h5⟩
      ·exact .inr ⟨b,ob,ob,cap,h0.trans h3,h4,.inl rfl,h5,h6,h7⟩
     ·rcases List.mem_cons.1 hm with e|hm
      ·cases e;exact P1 ho.1 h0
      ·exact h2 i bx hm
def GT (hp Bq:Nat->Option A1)(bs:List (Nat × A1)) (x:D5):Prop:=
 match x with
 |.var id off _ ws=>∃c cs,hp id=some (.st c)∧Bq id=some (.st (A0 c cs off))∧cs.length=ws.length∧off+cs.length<=c.length∧∀p∈cs,∀i∈Ai p,∃bx,(i,bx)∈bs
 |.row id=>∃c cs,hp id=some (.ar false c)∧Bq id=some (.ar false cs)
 |.none=>True
def RD (β β':Bt)(w':World)(A:Nat->Prop)(hp Bq:Nat->Option A1)(x:D5):Prop:=
 match x with
 |.var id off _ ws=>∃c cs,hp id=some (.st c)∧Bq id=some (.st (A0 c cs off))∧cs.length=ws.length∧off+cs.length<=c.length ∧
   ∀b o,β id=some (b,o)->(∀(j:Nat) p,cs[j]?=some p->∃v,w'.cell? ⟨b,o+off+j,none⟩=some v∧A6 w' A β' p v)∧∀j,j<cs.length->w'.frozen? ⟨b,o+off+j,none⟩=false
 |.row id=>∃cs,Bq id=some (.ar false cs)∧((β id=none∧cs=[])∨∃b o,β id=some (b,o)∧BO w' A ⟨b,o,none⟩ cs∧∀j,o<=j->j<bsz w' b->w'.frozen? ⟨b,j,none⟩=false)
 |.none=>True
theorem P7 {hp B9 Bq:Nat->Option A1}{bs bs1:List (Nat × A1)} {x:D5}(h1:∀i∈x.ids,B9 i=hp i)(hb:∀q∈bs,q∈bs1)(h:GT B9 Bq bs x):GT hp Bq bs1 x:=by
 cases x with
 |var id off cts ws=>
  obtain⟨c,cs,h2,h3,h4,h5,h6⟩:=h;refine⟨c,cs,by rw[←h1 id (by simp[D5.ids])];exact h2,h3,h4,h5,fun p hp i hi=>?_⟩
  obtain⟨bx,Hy⟩:=h6 p hp i hi;exact⟨bx,hb _ Hy⟩
 |row id=>
  obtain⟨c,cs,h2,h3⟩:=h;exact⟨c,cs,by rw[←h1 id (by simp[D5.ids])];exact h2,h3⟩
 |none=>trivial
theorem Sn {hp B9 Bq:Nat->Option A1}{x:D5}(h1:∀i∈x.ids,B9 i=hp i)(h:RD β β' w' A B9 Bq x):RD β β' w' A hp Bq x:=by
 cases x with
 |var id off cts ws=>
  obtain⟨c,cs,h2,h3⟩:=h;exact⟨c,cs,by rw[←h1 id (by simp[D5.ids])];exact h2,h3⟩
 |row id=>exact h
 |none=>trivial
theorem NM {hp B9:Nat->Option A1}{q:Option (Nat × Nat)} {p:PV}{x:D5}(h1:∀i∈x.ids,B9 i=hp i)(h:LOk hp q p x):LOk B9 q p x:=by
 cases x with
 |var id off cts ws'=>
  obtain⟨h2,h3,h5,c,h6,h7⟩:=h;exact⟨h2,h3,h5,c,by rw[h1 id (by simp[D5.ids])];exact h6,h7⟩
 |row id=>
  obtain⟨h2,h3,c,h4⟩:=h;exact⟨h2,h3,c,by rw[h1 id (by simp[D5.ids])];exact h4⟩
 |none=>exact h
theorem Q3 {hp B9:Nat->Option A1}{src:Nat->Nat->Option (Nat × Nat)}:∀{ps:List PV}{i:Nat}{l:List D5},(∀i∈l.flatMap D5.ids,B9 i=hp i)->J1 hp src i ps l->J1 B9 src i ps l
 |[],_,_,_,h=>h
 |p::ps,i,l,hs,h=>by
  rcases h with⟨h1,h2,h3⟩|⟨x,l',rfl,h2,h3⟩
  ·exact .inl ⟨h1,h2,Q3 hs h3⟩
  ·exact .inr ⟨x,l',rfl,NM (fun k hk=>hs k (by simp only[List.flatMap_cons,List.mem_append];exact .inl hk)) h2,Q3 (fun k hk=>hs k (by simp only[List.flatMap_cons,List.mem_append];exact .inr hk)) h3⟩
theorem JN {own:Bt}{bt:Tl}{j i:Nat}{p:PV}{zs:List PV}{r:List (List PV)} (hp:Rb p=false)(h:F1 w A own bt j i (p::zs) r):F1 w A own bt j (i+1) zs r:=by
 cases p<;>first|exact h|cases hp
theorem Mu {src:Nat->Nat->Option (Nat × Nat)} {β:Bt}:∀{zs:List PV}{l:List D5}{ro:List (List PV)} {i j t:Nat}{hp:Nat->Option A1}{K:(Nat->Option A1)->List (Nat × A1)->Option R},
  O0 N t l ro hp K=some r->J1 hp src i zs l->Cj (l.flatMap D5.ids)=true ->
  ∃Bq bs,∃qs:List (Nat × Nat),K Bq bs=some r∧bs.map (·.1)=qs.map (·.1)∧(∀q∈qs,(∃k,q.1=FX N k)∧j<=q.2)∧(∀q∈qs,∀q'∈qs,q.2=q'.2->q.1=q'.1)∧(∀i bx,(i,bx)∈bs->∃c,bx=.ar false c) ∧
   (∀i,i ∉ l.flatMap D5.ids->Bq i=hp i)∧(∀x∈l,GT hp Bq bs x) ∧
   ∀(w':World) (A:Nat->Prop) (own β':Bt) (bt:Tl),(∀q∈qs,β' q.1=own q.2)->(∀i,bt i 0=(src i 0).bind (D0 β))->F1 w' A own bt j i zs ro ->
    (∀i bx,(i,bx)∈bs->Lb w' A β' i bx)∧∀x∈l,RD β β' w' A hp Bq x
 |[],l,ro,i,j,t,hp,K,hk,hL,hn=>by
  have hL:l=[]:=hL;subst hL;unfold O0 at hk;obtain⟨rfl,hk⟩:=B1 hk;exact⟨hp,[],[],hk,rfl,by simp,by simp,by simp,fun _ _=>rfl,by simp,fun w' A own β' bt _ _ _=>⟨by simp,by simp⟩⟩
 |p::zs,l0,ro,i,j,t,hp,K,hk,hL0,hn=>by
  rcases hL0 with⟨Ue,_,hL⟩|⟨x,l,rfl,Jc,hL⟩
  rotate_left
  ··simp only[List.flatMap_cons] at hn;obtain⟨DS,VM,hn3⟩:=Fd hn;cases x with
    |var id off cts ws'=>
     obtain⟨rfl,Ks,J0,c,hc,Sy⟩:=Jc;unfold O0 at hk;obtain⟨cs,ro',hro,Ck⟩:=Ap hk;subst hro;obtain⟨t',cs',bs,qs,C9,Us,BP,hb,Y9,Ud,Dl,Hq,hv⟩:=R0 Ck;rw[hc] at C9;simp only at C9;change O0 N t' l ro' (Bh hp id (some (.st (A0 c cs' off)))) (fun Bq bs'=>K Bq (bs++bs'))=some r at C9
     have HD:id ∉ l.flatMap D5.ids:=hn3 id (by simp[D5.ids])
     have OV:J1 (Bh hp id (some (.st (A0 c cs' off)))) src (i+1) zs l:=Q3 (fun k WQ=>Ad _ _ (fun e=>HD (e ▸ WQ))) hL
     obtain⟨Bq,bs',qs',K2,Ep,F0,HY,HH,He,PP,Zs⟩:=Mu (β:=β) (j:=j+cs.length) C9 OV VM;have RE:Bq id=some (.st (A0 c cs' off)):=by rw[He id HD,Af]
     have Wm:∀x∈l,∀k∈x.ids,Bh hp id (some (.st (A0 c cs' off))) k=hp k:=fun x hx k WQ=>Ad _ _ (fun e=>HD (e ▸ List.mem_flatMap.2 ⟨x,hx,WQ⟩))
     refine⟨Bq,bs++bs',qs.map (fun q=>(q.1,j+q.2))++qs',K2,by simp only[List.map_append,hb,Ep];simp,?_,?_,?_,?_,?_,fun w' A own β' bt hβ Pe ho=>?_⟩
     ·intro q hq;rcases List.mem_append.1 hq with hq|hq
      ·obtain⟨q0,Oz,rfl⟩:=List.mem_map.1 hq;exact⟨(Y9 q0 Oz).1,by simp only;omega⟩
      ·exact⟨(F0 q hq).1,by have:=(F0 q hq).2;omega⟩
     ·intro q hq q' Dk e;rcases List.mem_append.1 hq with hq|hq
      ·obtain⟨q0,Oz,rfl⟩:=List.mem_map.1 hq;have:=(Y9 q0 Oz).2;rcases List.mem_append.1 Dk with Dk|Dk
       ·obtain⟨q1,F0,rfl⟩:=List.mem_map.1 Dk;exact Ud q0 Oz q1 F0 (by simp only at e;omega)
       ·have:=(F0 q' Dk).2;simp only at e;omega
      ·have h5:=(F0 q hq).2;rcases List.mem_append.1 Dk with Dk|Dk
       ·obtain⟨q1,Ae9,rfl⟩:=List.mem_map.1 Dk;have:=(Y9 q1 Ae9).2;simp only at e;omega
       ·exact HY q hq q' Dk e
     ·intro k bx hm;rcases List.mem_append.1 hm with hm|hm
      ·exact Dl k bx hm
      ·exact HH k bx hm
     ·intro k hk;simp only[List.flatMap_cons,List.mem_append,not_or] at hk;rw[He k hk.2];exact Ad _ _ (by rintro rfl;exact hk.1 (by simp[D5.ids]))
     ·intro x hx;rcases List.mem_cons.1 hx with rfl|hx
      ·refine⟨c,cs',hc,RE,by omega,by omega,fun p hp k hk=>?_⟩
       obtain⟨bx,Hy⟩:=Hq p hp k hk;exact⟨bx,List.mem_append.2 (.inl Hy)⟩
      ·exact P7 (Wm x hx) (fun q hq=>List.mem_append.2 (.inr hq)) (PP x hx)
     ·obtain⟨⟨b,ob,CD,Cy,vs,hov,hcell,WC⟩,ho⟩:=ho
      ·obtain⟨h1,h2⟩:=hv w' A own β' j vs (fun q hq=>hβ _ (List.mem_append.2 (.inl (List.mem_map_of_mem hq)))) hov
       obtain⟨h3,h4⟩:=Zs w' A own β' bt (fun q hq=>hβ q (List.mem_append.2 (.inr hq))) Pe ho
       refine⟨fun k bx hm=>?_,fun x hx=>?_⟩
       ·rcases List.mem_append.1 hm with hm|hm
        ·exact h2 k bx hm
        ·exact h3 k bx hm
       ·rcases List.mem_cons.1 hx with rfl|hx
        ·refine⟨c,cs',hc,RE,by omega,by omega,fun b1 o1 hβ1=>?_⟩
         have Hq:=Pe i;rw[CD,Ks] at Hq;simp only[Option.bind_some,D0,hβ1,Option.map_some,Option.some.injEq,Prod.mk.injEq] at Hq;obtain⟨rfl,rfl⟩:=Hq;refine⟨fun k p hp=>?_,fun k hk=>WC k (by omega)⟩
         obtain⟨v,hv,CA⟩:=h1.get hp;exact⟨v,hcell k v hv,CA⟩
        ·exact Sn (Wm x hx) (h4 x hx)
    |row id=>
     obtain⟨⟨pz,rfl⟩,Ks,c,hc⟩:=Jc;unfold O0 at hk;obtain⟨cs,ro',hro,C9⟩:=Ap hk;subst hro;have HD:id ∉ l.flatMap D5.ids:=hn3 id (by simp[D5.ids])
     have OV:J1 (Bh hp id (some (.ar false cs))) src (i+1) zs l:=Q3 (fun k WQ=>Ad _ _ (fun e=>HD (e ▸ WQ))) hL
     obtain⟨Bq,bs',qs',K2,Ep,F0,HY,HH,He,PP,Zs⟩:=Mu (β:=β) (j:=j) C9 OV VM;have RE:Bq id=some (.ar false cs):=by rw[He id HD,Af]
     have Wm:∀x∈l,∀k∈x.ids,Bh hp id (some (.ar false cs)) k=hp k:=fun x hx k WQ=>Ad _ _ (fun e=>HD (e ▸ List.mem_flatMap.2 ⟨x,hx,WQ⟩))
     refine⟨Bq,bs',qs',K2,Ep,F0,HY,HH,?_,?_,fun w' A own β' bt hβ Pe ho=>?_⟩
     ·intro k hk;simp only[List.flatMap_cons,List.mem_append,not_or] at hk;rw[He k hk.2];exact Ad _ _ (by rintro rfl;exact hk.1 (by simp[D5.ids]))
     ·intro x hx;rcases List.mem_cons.1 hx with rfl|hx
      ·exact⟨c,cs,hc,RE⟩
      ·exact P7 (Wm x hx) (fun q hq=>hq) (PP x hx)
     ·obtain⟨OI,ho⟩:=ho
      ·obtain⟨h3,h4⟩:=Zs w' A own β' bt hβ Pe ho;refine⟨h3,fun x hx=>?_⟩
       rcases List.mem_cons.1 hx with rfl|hx
       ·refine⟨cs,RE,?_⟩;have Hq:=Pe i;rw[Ks] at Hq;simp only[Option.bind_some,HG] at Hq;rw[Hq] at OI;exact OI
       ·exact Sn (Wm x hx) (h4 x hx)
    |none=>
     obtain⟨⟨pz,rfl⟩,Ks⟩:=Jc;unfold O0 at hk;obtain⟨cs,ro',hro,C9⟩:=Ap hk;subst hro;obtain⟨Bq,bs',qs',K2,Ep,F0,HY,HH,He,PP,Zs⟩:=Mu (β:=β) (j:=j) C9 hL VM;refine⟨Bq,bs',qs',K2,Ep,F0,HY,HH,?_,?_,fun w' A own β' bt hβ Pe ho=>?_⟩
     ·intro k hk;simp only[List.flatMap_cons,List.mem_append,not_or] at hk;exact He k hk.2
     ·intro x hx;rcases List.mem_cons.1 hx with rfl|hx
      ·trivial
      ·exact PP x hx
     ·obtain⟨OI,ho⟩:=ho
      ·obtain⟨h3,h4⟩:=Zs w' A own β' bt hβ Pe ho;refine⟨h3,fun x hx=>?_⟩
       rcases List.mem_cons.1 hx with rfl|hx
       ·trivial
       ·exact h4 x hx
  ·obtain⟨Bq,bs',qs',K2,Ep,F0,HY,HH,He,PP,Zs⟩:=Mu (β:=β) (j:=j) hk hL hn;exact⟨Bq,bs',qs',K2,Ep,F0,HY,HH,He,PP,fun w' A own β' bt hβ Pe ho=>Zs w' A own β' bt hβ Pe (JN Ue ho)⟩
end
open Go.RowKit
theorem Dr (hp:Nat->Option A1)(ids:List Nat)(i:Nat):Ma hp ids i=if i∈ids then (hp i).map (fun _=>A1.mv) else hp i:=by
 unfold Ma;by_cases hi:i∈ids
 ·have:ids.any (Nat.beq i)=true:=List.any_eq_true.2 ⟨i,hi,Nat.beq_refl i⟩;rw[this,if_pos hi];rfl
 ·have:ids.any (Nat.beq i)=false:=by
   cases hb:ids.any (Nat.beq i)
   ·rfl
   ·obtain⟨j,hj,e⟩:=List.any_eq_true.1 hb;exact absurd (Nat.eq_of_beq_eq_true e ▸ hj) hi
  rw[this,if_neg hi];rfl
theorem Lj:∀{nw:List (Nat × A1)} {hp:Nat->Option A1},A3 hp nw=true->(nw.map (·.1)).Nodup
 |[],_,_=>List.nodup_nil
 |(i,b)::r,hp,h=>by
  simp only[A3,Bool.and_eq_true,Option.isNone_iff_eq_none,Bool.not_eq_true'] at h;simp only[List.map_cons,List.nodup_cons];refine⟨fun hm=>?_,Lj h.2⟩
  obtain⟨q,hq,e⟩:=List.mem_map.1 hm;have:r.any (fun q=>Nat.beq q.1 i)=true:=List.any_eq_true.2 ⟨q,hq,by rw[e];exact Nat.beq_refl i⟩
  rw[this] at h;cases h.1.2
theorem RI:∀{l:List (Nat × Nat)},(l.map (·.1)).Nodup->∀q∈l,N9 l q.1=some q.2
 |[],_,_,h=>by cases h
 |(j,b)::r,hn,q,hq=>by
  simp only[List.map_cons,List.nodup_cons] at hn;unfold N9;rcases List.mem_cons.1 hq with rfl|hq
  ·simp only[Nat.beq_refl,cond_true]
  ·have:Nat.beq q.1 j=false:=by
    cases hb:Nat.beq q.1 j
    ·rfl
    ·exact absurd (Nat.eq_of_beq_eq_true hb ▸ List.mem_map_of_mem hq) hn.1
   simp only[this,cond_false];exact RI hn.2 q hq
theorem DG:∀{l:List (Nat × Nat)} {i:Nat},i ∉ l.map (·.1)->N9 l i=none
 |[],_,_=>rfl
 |(j,b)::r,i,h=>by
  simp only[List.map_cons,List.mem_cons,not_or] at h;unfold N9
  have:Nat.beq i j=false:=by
   cases hb:Nat.beq i j
   ·rfl
   ·exact absurd (Nat.eq_of_beq_eq_true hb) h.1
  simp only[this,cond_false];exact DG h.2
section
variable {R:Type} {r:R} {P:Program} {N:Nat} {w0:World} {X0:Ev} {Y:Nat->Prop} {β β':Bt} {s:St} {a:Act} {w w':World} {o:Oper} {A A':Nat->Prop}
theorem Ed.weak (hA:∀b,b<w.heap.size->A' b->A b){q:Option (Nat × Nat)} {p:PV}{u:Value}(h:Ed w A q p u):Ed w A' q p u:=by
 have tr:∀{p:PV},Ao w A p u->Ao w A' p u:=fun h=>h.step (Bb.refl _ _) hA
 cases p with
 |own es n c=>
  rcases h with h|⟨b,ob,cap,h1,h2,h3,h4,h5,h6,h7⟩
  ·exact .inl h
  ·exact .inr ⟨b,ob,cap,h1,h2,h3,h4,h5,h6.weak hA,h7⟩
 |_=>exact tr h
theorem Da.weak (hA:∀b,b<w.heap.size->A' b->A b){own:Bt}:∀{ps:List PV}{us:List Value}{j:Nat},Da w A own j ps us->Da w A' own j ps us
 |[],[],_,_=>trivial
 |[],_::_,_,h=>h.elim
 |_::_,[],_,h=>h.elim
 |_::_,_::_,_,h=>⟨h.1.weak hA,Da.weak hA h.2⟩
theorem EW.weak (hA:∀b,b<w.heap.size->A' b->A b){bt:Bt}{p:PV}{u:Value}(h:EW w A bt p u):EW w A' bt p u:=by
 cases p with
 |pbox ps=>
  obtain⟨b,ob,h1,h2,h3,vs,h4,h5⟩:=h;exact⟨b,ob,h1,h2,h3,vs,h4.weak hA,h5⟩
 |tup ps=>
  obtain⟨es,n,c,h1,h2⟩:=h;exact⟨es,n,c,h1,h2.weak hA⟩
 |agg cs=>
  obtain⟨vs,h1,h2,h3⟩:=h;exact⟨vs,h1,h2,h3.weak hA⟩
 |_=>exact⟨h.1,h.2.weak hA⟩
theorem H7.weak (hA:∀b,b<w.heap.size->A' b->A b){bt:Tl}:∀{ps:List PV}{us:List Value}{i:Nat},H7 w A bt i ps us->H7 w A' bt i ps us
 |[],[],_,_=>trivial
 |[],_::_,_,h=>h.elim
 |_::_,[],_,h=>h.elim
 |_::_,_::_,_,h=>⟨h.1.weak hA,H7.weak hA h.2⟩
theorem Q2 {bt:Tl}(k:Bool):∀{xs:List Operand}{ps:List PV}{i:Nat},H7 w A bt i ps (xs.map a.eval)->H7 w A bt i (F3 k xs ps) (xs.map a.eval)
 |[],[],_,h=>h
 |[],_::_,_,h=>h
 |_::_,[],_,h=>h
 |x::xs,p::ps,i,h=>by
  simp only[List.map_cons] at h ⊢;refine⟨?_,Q2 k h.2⟩;split
  ·exact⟨.inl trivial,Ao.lnil _ _⟩
  ·exact h.1
theorem Zr (k:Bool)(x:Operand)(xs:List Operand)(p:PV)(ps:List PV):∃p',F3 k (x::xs) (p::ps)=p'::F3 k xs ps∧Rb p'=Rb p∧(Rb p=true->p'=p):=by
 refine⟨_,rfl,?_,fun h=>?_⟩
 ·split
  ·rfl
  ·rfl
 ·split
  ·cases h
  ·rfl
theorem K7 {hp:Nat->Option A1}{src:Nat->Nat->Option (Nat × Nat)} (k:Bool):∀{xs:List Operand}{ps:List PV}{i:Nat}{l:List D5},J1 hp src i ps l->J1 hp src i (F3 k xs ps) l
 |[],[],_,_,h=>h
 |[],_::_,_,_,h=>h
 |_::_,[],_,_,h=>h
 |x::xs,p::ps,i,l,h=>by
  obtain⟨p',e,h1,h2⟩:=Zr k x xs p ps;rw[e];rcases h with⟨h3,h4,h5⟩|⟨y,l',rfl,h4,h5⟩
  ·exact .inl ⟨by rw[h1];exact h3,h4,K7 k h5⟩
  ·exact .inr ⟨y,l',rfl,by rw[h2 (LP h4)];exact h4,K7 k h5⟩
theorem Vm {hp:Nat->Option A1}{src:Nat->Nat->Option (Nat × Nat)}:∀{ps:List PV}{i:Nat}{l:List D5},J1 hp src i ps l->∀id∈l.flatMap D5.ids,Bu (hp id)∧∃k off,src k 0=some (id,off)
 |[],_,_,h,id,Ax=>by
  have h:_=[]:=h;rw[h] at Ax;cases Ax
 |p::ps,i,l,h,id,Ax=>by
  rcases h with⟨_,_,h3⟩|⟨x,l',rfl,h2,h3⟩
  ·exact Vm h3 id Ax
  ·simp only[List.flatMap_cons,List.mem_append] at Ax;rcases Ax with Ax|Ax
   ·cases x with
    |var id' off cts ws=>
     simp only[D5.ids,List.mem_singleton] at Ax;subst Ax;obtain⟨_,h4,_,c,h5,_⟩:=h2;exact⟨by rw[h5];trivial,i,_,h4⟩
    |row id'=>
     simp only[D5.ids,List.mem_singleton] at Ax;subst Ax;obtain⟨_,h4,c,h5⟩:=h2;exact⟨by rw[h5];trivial,i,_,h4⟩
    |none=>simp[D5.ids] at Ax
   ·exact Vm h3 id Ax
theorem RH {hp:Nat->Option A1}{src:Nat->Nat->Option (Nat × Nat)}:∀{ps:List PV}{i:Nat}{l:List D5},J1 hp src i ps l->∀k p id off,ps[k]?=some p->src (i+k) 0=some (id,off) ->
   (∃c ws,hp id=some (.st c)∧p=.pbox ws∧off+ws.length<=c.length)∨((∃c,hp id=some (.ar false c))∧off=0∧∃ws,p=.tup ws)
 |[],_,_,_,k,p,id,off,hp,_=>by simp at hp
 |p::ps,i,l,h,k,p',id,off,Bq,hs=>by
  have On:∃l',J1 hp src (i+1) ps l':=by
   rcases h with⟨_,_,h3⟩|⟨x,l',_,_,h3⟩<;>exact⟨_,h3⟩
  cases k with
  |succ k=>
   obtain⟨l',h'⟩:=On;exact RH h' k p' id off (by simpa using Bq) (by rw[show i+1+k=i+(k+1) by omega];exact hs)
  |zero=>
   simp only[List.getElem?_cons_zero,Option.some.injEq] at Bq;subst Bq;rw[Nat.add_zero] at hs;rcases h with⟨_,h2,_⟩|⟨x,l',_,h2,_⟩
   ·rw[hs] at h2;cases h2
   ·cases x with
    |var id' off' cts ws=>
     obtain⟨h3,h4,_,c,h5,h6⟩:=h2;rw[hs] at h4;cases h4;exact .inl ⟨c,ws,h5,h3,h6⟩
    |row id'=>
     obtain⟨h3,h4,c,h5⟩:=h2;rw[hs] at h4;cases h4;exact .inr ⟨⟨c,h5⟩,rfl,h3⟩
    |none=>
     have:=h2.2;rw[hs] at this;cases this
theorem DE {hp : Nat -> Option A1} {src : Nat -> Nat -> Option (Nat × Nat)} {id off : Nat} {cts : List CT} {ws : List PV} : ∀ {ps : List PV} {i : Nat} {l : List D5}, J1 hp src i ps l -> D5.var id off cts ws ∈ l ->
      ∃ k, ps[k]? = some (.pbox ws) ∧ src (i + k) 0 = some (id, off)
  | [], _, _, h, hm => by
    have h : _ = [] := h
    rw[h] at hm; cases hm
  | p :: ps, i, l, h, hm => by
    have next : ∀ {l'}, J1 hp src (i + 1) ps l' -> D5.var id off cts ws ∈ l' -> ∃ k, (p :: ps)[k]? = some (.pbox ws) ∧ src (i + k) 0 = some (id, off) := by
      intro l' h' Hg
      obtain⟨k, h1, h2⟩ := DE h' Hg
      exact⟨k + 1, by simpa using h1, by rw[show i + (k + 1) = i + 1 + k by omega]; exact h2⟩
    rcases h with⟨_, _, h3⟩ | ⟨x, l', rfl, h2, h3⟩
    · exact next h3 hm
    · rcases List.mem_cons.1 hm with e | hm
      · subst e
        obtain⟨h1, h4, _⟩ := h2
        subst h1
        exact⟨0, rfl, h4⟩
      · exact next h3 hm
theorem FJ {hp:Nat->Option A1}{src:Nat->Nat->Option (Nat × Nat)}:∀{ps:List PV}{i:Nat}{l:List D5},J1 hp src i ps l->∀k id off,i<=k->src k 0=some (id,off)->k<i+ps.length->∃p,ps[k-i]?=some p∧Rb p=true
 |[],i,_,_,k,id,off,h1,_,h3=>by simp at h3;omega
 |p::ps,i,l,h,k,id,off,h1,h2,h3=>by
  by_cases e:k=i
  ·subst e;rcases h with⟨_,h4,_⟩|⟨x,l',_,h4,_⟩
   ·rw[h2] at h4;cases h4
   ·exact⟨p,by simp,LP h4⟩
  ·have On:∃l',J1 hp src (i+1) ps l':=by
    rcases h with⟨_,_,h3⟩|⟨x,l',_,_,h3⟩<;>exact⟨_,h3⟩
   obtain⟨l',h'⟩:=On;obtain⟨q,h5,h6⟩:=FJ h' k id off (by omega) h2 (by simp at h3;omega)
   refine⟨q,?_,h6⟩;rw[show k-i=(k-(i+1))+1 by omega]
   simpa using h5
theorem H7.len {bt:Tl}:∀{ps:List PV}{us:List Value}{i:Nat},H7 w A bt i ps us->ps.length=us.length
 |[],[],_,_=>rfl
 |[],_::_,_,h=>h.elim
 |_::_,[],_,h=>h.elim
 |_::_,_::_,_,h=>by simp[H7.len h.2]
theorem DT (h:Bp N w0 X0 Y β s a w){G:Glo}(G9:FQ P G w0 X0){C:Eg}{call:Al}(Ce:∀f args res,call f args=some res->Db G P f args res){c:Call}{f:FuncId}(ho:o.op=.call c)(hc:c.callee=.value (.func f))
  {K:St->Option R} (hk:Sg C P N call s o f c K=some r):
  ∃s',K s'=some r∧∀(next:Act->World->Prop) (Q:Exit->Act->World->Prop),(∀a' w' β',Bp N w0 X0 Y β' s' a' w'->next a' w')->o.wp P a w next Q:=by
 unfold Sg at hk;obtain⟨vs0,m,x,l,src,Ck,hm,hx,hS,hL,C3⟩:=Ze h hk;obtain⟨hb,C9⟩:=Ae Ck;simp only[Bool.and_eq_true] at hb;obtain⟨⟨⟨hnd,Acb⟩,hN⟩,LY⟩:=hb;have hN:0<N:=Nat.lt_of_succ_le (Nat.le_of_ble_eq_true hN);obtain⟨VY,hnx,hlx⟩:=Fd hnd
 have hml:∀i∈m,i ∉ l.flatMap D5.ids∧i ∉ x:=by
  intro i hi;have:=List.all_eq_true.1 Acb i hi
  have hn:∀k∈l.flatMap D5.ids++x,i≠k:=by
   rintro k hk rfl
   have h2:(l.flatMap D5.ids++x).any (Nat.beq i)=true:=List.any_eq_true.2 ⟨i,hk,Nat.beq_refl i⟩;rw[h2] at this;cases this
  exact⟨fun hq=>hn i (by simp only[List.mem_append];exact .inl hq) rfl,fun hq=>hn i (by simp only[List.mem_append];exact .inr hq) rfl⟩
 replace hL:=K7 (C.kz f) (xs:=c.args.toList) hL
 replace C3:=fun fz h1 h2 bt Pe=>Q2 (a:=a) (C.kz f) (C3 fz h1 h2 bt Pe)
 generalize F3 (C.kz f) c.args.toList vs0=vs at C9 C3 hL;obtain⟨rv,ro,J0,K2⟩:=Y4 C9;obtain⟨ws,bs,Uo,hwl,VO,DD,hrs,IH,hws⟩:=R4 (C.shr f) N K2;obtain⟨J7,WA⟩:=Ae Uo;obtain⟨lids,W8⟩:∃lids,l.flatMap D5.ids=lids:=⟨_,rfl⟩;rw[W8] at hS VY hlx hml;have Af9:∀i,i ∉ x->Ma (Ac s.hp m) x i=Ac s.hp m i:=fun i hi=>by rw[Dr,if_neg hi]
 have KB:∀i,i∈lids->Ma (Ac s.hp m) x i=s.hp i:=fun i hi=>by
  rw[Af9 i (hlx i hi),A4,if_neg (fun hq=>(hml i hq).1 hi)]
 have hLM:J1 (Ma (Ac s.hp m) x) src 0 vs l:=Q3 (fun i hi=>KB i (W8 ▸ hi)) hL
 obtain⟨Bq,bs',qs,hk6,ZL,Y9,Ud,Dl,He,PP,Zs⟩:=Mu (β:=β) (j:=J3 rv) WA hLM (by rw[W8];exact VY)
 obtain⟨J6,hk7⟩:=Ae hk6;refine⟨_,hk7,fun next Q hn=>?_⟩
 clear hk Ck C9 K2 Uo WA hk6 hk7;rw[W8] at He;obtain⟨⟨fn,hfn,hfb⟩,Oj⟩:=Ce f vs _ J0;have hf:=h.freeze hm;have MC:=Vm hL;rw[W8] at MC
 have Yp:∀i,i∈lids∨i∈x->Ac s.hp m i=s.hp i:=by
  intro i hi;rw[A4,if_neg];intro hq;rcases hi with hi|hi
  ·exact (hml i hq).1 hi
  ·exact (hml i hq).2 hi
 have Qc:∀i,i∈lids∨i∈x->Bu (s.hp i):=by
  intro i hi;rcases hi with hi|hi
  ·exact (MC i hi).1
  ·obtain⟨cc,UQ⟩:=hx i hi;rw[UQ];trivial
 have Afl:∀i j id off,src i j=some (id,off)->id∈lids∨id∈x:=by
  intro i j id off hs;cases j with
  |zero=>exact .inl (hS.lent i id off hs)
  |succ j=>exact .inr (hS.mvd i j id off hs).2
 obtain⟨bt,Pe⟩:∃bt:Tl,∀i j,bt i j=(src i j).bind (D0 β):=⟨_,fun _ _=>rfl⟩
 have btS:∀{i j b ob},bt i j=some (b,ob)->∃id off o',src i j=some (id,off)∧β id=some (b,o')∧ob=o'+off∧(id∈lids∨id∈x):=by
  intro i j b ob hb;rw[Pe] at hb;cases hs:src i j with
  |none=>rw[hs] at hb;cases hb
  |some q=>
   rw[hs] at hb;obtain⟨id,off⟩:=q;simp only[Option.bind_some,D0] at hb;cases hβ:β id with
   |none=>rw[hβ] at hb;cases hb
   |some p=>
    rw[hβ] at hb;obtain⟨b',o'⟩:=p;simp only[Option.map_some,Option.some.injEq,Prod.mk.injEq] at hb;obtain⟨rfl,rfl⟩:=hb;exact⟨id,off,o',rfl,hβ,rfl,Afl i j id off hs⟩
 have btX:∀{b},PI bt b->∃id o',β id=some (b,o')∧(id∈lids∨id∈x):=by
  rintro b ⟨i,j,ob,hb⟩
  obtain⟨id,off,o',_,h2,_,h4⟩:=btS hb;exact⟨id,o',h2,h4⟩
 have hBA:∀b,PI bt b->Zp s.hp β b:=fun b hb=>by
  obtain⟨id,o',h1,h2⟩:=btX hb;exact⟨id,o',Qc id h2,h1⟩
 obtain⟨Yc,hYc⟩:∃Yc:Nat->Prop,∀b,Yc b↔((∃id ob,Bu (Ac s.hp m id)∧β id=some (b,ob)∧id ∉ lids∧id ∉ x)∨Y b):=⟨_,fun _=>Iff.rfl⟩
 have Cy:vs.length=c.args.toList.length:=by
  have:=(C3 m (fun _ hi=>hi) hm bt Pe).len
  simpa using this
 have WJ:Ins w Yc bt vs (c.args.toList.map a.eval):=by
  refine⟨fun b hb=>?_,fun b hb hB=>?_,fun b hB=>?_,fun i j i' j' b ob ob' hb Ep=>?_,fun i q hq=>?_,?_⟩
  ·rcases (hYc b).1 hb with⟨id,ob,hl,hβ,_⟩|hY
   ·exact hf.blt id b ob (Br hl) hβ
   ·exact Nat.lt_of_lt_of_le (h.Ylt b hY) h.fr.step.size
  ·obtain⟨id',o',h1,h2⟩:=btX hB;rcases (hYc b).1 hb with⟨id,ob,hl,hβ,h3,h4⟩|hY
   ·have:=hf.inj id id' b ob o' hl (by show Bu (Ac s.hp m id');rw[Yp id' h2];exact Qc id' h2) hβ h1
    subst this;rcases h2 with h2|h2
    ·exact h3 h2
    ·exact h4 h2
   ·exact h.Yx b hY ⟨id',o',Qc id' h2,h1⟩
  ·obtain⟨id',o',h1,h2⟩:=btX hB;exact h.blt id' b o' (Br (Qc id' h2)) h1
  ·obtain⟨id,off,o1,h1,h2,_,h4⟩:=btS hb;obtain⟨id',off',o1',Ur,h2',_,h4'⟩:=btS Ep;have:=h.inj id id' b o1 o1' (Qc id h4) (Qc id' h4') h2 h2';subst this;cases j with
   |zero=>
    cases j' with
    |zero=>exact⟨hS.inj0 VY i i' id off off' h1 Ur,rfl⟩
    |succ j'=>exact absurd (hS.mvd i' j' id off' Ur).2 (hlx id (hS.lent i id off h1))
   |succ j=>
    cases j' with
    |zero=>exact absurd (hS.mvd i j id off h1).2 (hlx id (hS.lent i' id off' Ur))
    |succ j'=>
     obtain⟨h5,h6⟩:=hS.inj1 hnx i i' j j' id off off' h1 Ur;exact⟨h5,by rw[h6]⟩
  ·obtain⟨b,ob⟩:=q;obtain⟨id,off,o',h1,_⟩:=btS hq;obtain⟨p,hp,h2⟩:=FJ hL i id off (Nat.zero_le _) h1 (by have:=hS.dom i 0 _ h1;rw[Cy];exact this.2)
   exact⟨p,by simpa using hp,h2⟩
  ·refine (C3 m (fun _ hi=>hi) hm bt Pe).weak fun b _ hb=>?_
   rcases hb with hb|hb
   ·obtain⟨id',o',h1,h2⟩:=btX hb;exact .inl ⟨id',o',by rw[Yp id' h2];exact Qc id' h2,h1⟩
   ·rcases (hYc b).1 hb with⟨id,ob,hl,hβ,_⟩|hY
    ·exact .inl ⟨id,ob,hl,hβ⟩
    ·exact .inr hY
 unfold Oper.wp;rw[EX ho hc G9.ng hfn hfb];show Calls P f _ w _;have hca:c.args.map a.eval=(c.args.toList.map a.eval).toArray:=by rw[←List.map_toArray,Array.toArray_toList]
 rw[hca];refine (Oj w Yc bt _ WJ (G9.fr w h.fr) (fun b x=>⟨Nat.lt_of_lt_of_le (G9.y b x).1 h.fr.step.size,fun hB=>(h.ownd b (hBA b hB)).elim (G9.y b x).2 (fun Sy=>absurd (G9.y b x).1 (Nat.not_lt.2 Sy))⟩)).mono ?_
 rintro e w' ⟨us,own,rfl,out⟩
 obtain⟨XV,ha2⟩:=Aw J6;obtain⟨VW,hg2⟩:=Cn (hp:=Bq) ha2;have IR:=Lj J6;rw[List.map_append,List.nodup_append] at IR;obtain⟨Anp,Aed,Aj7⟩:=IR;rw[ZL] at Aed
 obtain⟨β1,hβ1,hβ2⟩:∃β1:Bt,(∀i,(∃bx,(i,bx)∈bs)->β1 i=own ((i-o.dst.getD N) / N))∧∀i,(¬∃bx,(i,bx)∈bs)->β1 i=match N9 qs i with|some j=>own j|none=>β i:=by
  refine⟨fun i=>if (bs.any fun q=>Nat.beq q.1 i)=true then own ((i-o.dst.getD N) / N) else match N9 qs i with|some j=>own j|none=>β i,fun i hi=>?_,fun i hi=>?_⟩
  ·show (if _ then _ else _)=_
   rw[if_pos (Zz.2 hi)]
  ·show (if _ then _ else _)=_
   rw[if_neg (fun hq=>hi (Zz.1 hq))]
 have hβbs:∀j,(∃bx,(o.dst.getD N+N*j,bx)∈bs)->β1 (o.dst.getD N+N*j)=own (0+j):=by
  intro j hj;rw[hβ1 _ hj,Nat.add_sub_cancel_left,Nat.mul_div_cancel_left _ hN,Nat.zero_add]
 have hqb:∀q∈qs,∃bx,(q.1,bx)∈bs':=by
  intro q hq;have:q.1∈bs'.map (·.1):=by rw[ZL];exact List.mem_map_of_mem hq
  obtain⟨⟨i,bx⟩,hm,e⟩:=List.mem_map.1 this;exact⟨bx,e ▸ hm⟩
 have Ahm:∀i bx,(i,bx)∈bs'->∃j,(i,j)∈qs:=by
  intro i bx hm;have:i∈qs.map (·.1):=by rw[←ZL];exact List.mem_map.2 ⟨_,hm,rfl⟩
  obtain⟨⟨i',j⟩,hm,e⟩:=List.mem_map.1 this;exact⟨j,e ▸ hm⟩
 have hbb:∀i,(∃bx,(i,bx)∈bs')->¬∃bx,(i,bx)∈bs:=by
  rintro i ⟨bx,hm⟩ ⟨bx',Hg⟩
  exact Aj7 i (List.mem_map.2 ⟨_,Hg,rfl⟩) i (List.mem_map.2 ⟨_,hm,rfl⟩) rfl
 have hβqs:∀q∈qs,β1 q.1=own q.2:=by
  intro q hq;rw[hβ2 q.1 (hbb q.1 (hqb q hq)),RI Aed q hq]
 have hβold:∀i,Bq i≠none->β1 i=β i:=by
  intro i hi
  have DS:¬∃bx,(i,bx)∈bs:=by
   rintro⟨bx,hm⟩
   exact hi (XV i bx (List.mem_append.2 (.inl hm)))
  rw[hβ2 i DS,DG];intro hm;obtain⟨q,hq,e⟩:=List.mem_map.1 hm;obtain⟨bx,Hy⟩:=hqb q hq;exact hi (XV i bx (List.mem_append.2 (.inr (e ▸ Hy))))
 obtain⟨F7,hba⟩:=hws w' _ own β1 w.heap.size 0 us hβbs out.vals;obtain⟨Ak7,Ae8⟩:=Zs w' _ own β1 bt hβqs (fun i=>Pe i 0) out.outs
 have Aav:∀id∈lids,∃y∈l,id∈y.ids:=by
  intro id Ax;rw[←W8] at Ax;exact List.mem_flatMap.1 Ax
 have YE:∀id∈lids,(∃off c cs,s.hp id=some (.st c)∧Bq id=some (.st (A0 c cs off))∧off+cs.length<=c.length∧(∀p∈cs,∀i∈Ai p,∃bx,(i,bx)∈bs'))∨∃c cs,s.hp id=some (.ar false c)∧Bq id=some (.ar false cs):=by
  intro id Ax;obtain⟨y,hy,UA⟩:=Aav id Ax;have h1:=PP y hy;cases y with
  |var id' off cts ws'=>
   simp only[D5.ids,List.mem_singleton] at UA;subst UA;obtain⟨c1,cs,h2,h3,h4,h5,h6⟩:=h1;rw[KB id Ax] at h2;exact .inl ⟨off,c1,cs,h2,h3,h5,h6⟩
  |row id'=>
   simp only[D5.ids,List.mem_singleton] at UA;subst UA;obtain⟨c1,cs,h2,h3⟩:=h1;rw[KB id Ax] at h2;exact .inr ⟨c1,cs,h2,h3⟩
  |none=>simp[D5.ids] at UA
 have Ajt:∀id∈lids,Bq id≠none:=by
  intro id Ax;rcases YE id Ax with⟨_,_,_,_,h2,_⟩|⟨_,_,_,h2⟩<;>rw[h2]<;>simp
 have hpK:∀id,id ∉ lids->Bq id=Ma (Ac s.hp m) x id:=fun id Ax=>He id Ax
 have E9:∀i,s.hp i≠none->Bq i≠none:=by
  intro i hi;by_cases hl:i∈lids
  ·exact Ajt i hl
  ·rw[hpK i hl,Dr];have h1:Ac s.hp m i≠none:=fun e=>hi (Cf.1 e)
   split
   ·cases hq:Ac s.hp m i with
    |none=>exact absurd hq h1
    |some b=>simp
   ·exact h1
 have YX:∀i,(s.hp i≠none∨∃bx,(i,bx)∈bs++bs')->Aj Bq (bs++bs') i≠none:=by
  rintro i (hi|⟨bx,hm⟩)
  ·have h1:=E9 i hi;rw[hg2 i (fun bx hm=>h1 (XV i bx hm))]
   exact h1
  ·rw[VW i bx hm];simp
 have Ej:∀id,(∃bx,(id,bx)∈bs++bs')∨Aj Bq (bs++bs') id=Bq id:=fun id=>by
  by_cases hx:∃bx,(id,bx)∈bs++bs'
  ·exact .inl hx
  ·exact .inr (hg2 id fun bx hb=>hx ⟨bx,hb⟩)
 have hold:∀id bx,Bq id=some bx->Bu (some bx)->Bu (s.hp id)∧id ∉ x∧(id∈lids∨(id ∉ lids∧Ac s.hp m id=some bx)):=by
  intro id bx hb hl;by_cases Ax:id∈lids
  ·exact⟨Qc id (.inl Ax),hlx id Ax,.inl Ax⟩
  ·rw[hpK id Ax,Dr] at hb;split at hb
   ·cases hq:Ac s.hp m id with
    |none=>rw[hq] at hb;cases hb
    |some b=>rw[hq] at hb;simp at hb;subst hb;exact hl.elim
   ·rename_i hxn;exact⟨by rw[Fj hb hl];exact hl,hxn,.inr ⟨Ax,hb⟩⟩
 have Pg:∀i bx,(i,bx)∈bs++bs'->∃j,β1 i=own j∧((i=o.dst.getD N+N*j∧j<J3 rv)∨((i,j)∈qs∧J3 rv<=j)):=by
  intro i bx hm;rcases List.mem_append.1 hm with hm|hm
  ·obtain⟨⟨j,rfl,hj⟩,_⟩:=hba i bx hm;exact⟨j,by rw[hβbs j ⟨bx,hm⟩,Nat.zero_add],.inl ⟨rfl,hj⟩⟩
  ·obtain⟨j,hj⟩:=Ahm i bx hm;exact⟨j,hβqs _ hj,.inr ⟨hj,(Y9 _ hj).2⟩⟩
 have ZQ:∀i bx,(i,bx)∈bs++bs'->Bu (some bx)∧Lb w' (Ru bt own Yc) β1 i bx∧∀cs,bx=.st cs->∀b ob,β1 i=some (b,ob)->w.heap.size<=b:=by
  intro i bx hm;rcases List.mem_append.1 hm with hm|hm
  ·exact (hba i bx hm).2
  ·obtain⟨cc,rfl⟩:=Dl i bx hm;exact⟨trivial,Ak7 i _ hm,fun cs e=>by cases e⟩
 have Ade:∀b,(∃i k o',bt i (k+1)=some (b,o'))->∃id o',id∈x∧β id=some (b,o'):=by
  rintro b ⟨i,k,o',hb⟩
  obtain⟨id,off,o1,h1,h2,_,_⟩:=btS hb;exact⟨id,o1,(hS.mvd i k id off h1).2,h2⟩
 have hX:∀b,b<w.heap.size->Zp (Aj Bq (bs++bs')) β1 b->Zp s.hp β b:=by
  rintro b hb ⟨id,ob,hl,hβ⟩
  rcases Ej id with⟨bx,hm⟩|e
  ·obtain⟨j,hj,_⟩:=Pg id bx hm;rw[hj] at hβ;obtain⟨id',o',h1,h2⟩:=Ade b ((out.fresh j b ob hβ).2 hb).1;exact⟨id',o',Qc id' (.inr h1),h2⟩
  ·rw[e] at hl;cases hq:Bq id with
   |none=>rw[hq] at hl;exact hl.elim
   |some bx=>
    rw[hq] at hl;exact⟨id,ob,(hold id bx hq hl).1,by rw[←hβold id (by rw[hq];simp)];exact hβ⟩
 have hAo:∀b,b<w.heap.size->Bv (Aj Bq (bs++bs')) β1 Y b->Bv s.hp β Y b:=fun b hb hA=>hA.imp (hX b hb) id
 have hAO:∀b,Bv (Aj Bq (bs++bs')) β1 Y b->Ru bt own Yc b:=by
  rintro b (⟨id,ob,hl,hβ⟩|hY)
  ·rcases Ej id with⟨bx,hm⟩|e
   ·obtain⟨j,hj,_⟩:=Pg id bx hm;rw[hj] at hβ;exact .inl ⟨j,ob,hβ⟩
   ·rw[e] at hl;cases hq:Bq id with
    |none=>rw[hq] at hl;exact hl.elim
    |some bx=>
     rw[hq] at hl;rw[hβold id (by rw[hq];simp)] at hβ
     obtain⟨h1,h2,h3⟩:=hold id bx hq hl;rcases h3 with h3|⟨h3,h4⟩
     ·obtain⟨_,i,off,hs⟩:=MC id h3;exact .inr (.inl ⟨i,ob+off,by rw[Pe,hs];simp[D0,hβ]⟩)
     ·exact .inr (.inr ((hYc b).2 (.inl ⟨id,ob,by rw[h4];exact hl,hβ,h3,h2⟩)))
  ·exact .inr (.inr ((hYc b).2 (.inr hY)))
 have I5:Bb (Bv s.hp β Y) w w':=out.ext.weaken (fun b _ hb=>.inl (hBA b hb))
 have WI:∀i,s.hp i≠none->β1 i=β i:=fun i hi=>hβold i (E9 i hi)
 have hCL:∀b j,Yw bt vs b j->∃id o' bx,s.hp id=some bx∧Bu (some bx)∧β id=some (b,o')∧BR bx o' j:=by
  rintro b j ⟨i,p,hp,⟨k,ob,hb,Sy⟩|⟨ob,ps,hb,Sy,Ue⟩⟩
  ·obtain⟨id,off,o',h1,h2,h3,_⟩:=btS hb;obtain⟨h5,h6⟩:=hS.mvd i k id off h1;obtain⟨cc,UQ⟩:=hx id h6;exact⟨id,o',_,UQ,trivial,h2,show o'<=j by omega⟩
  ·obtain⟨id,off,o',h1,h2,h3,_⟩:=btS hb;rcases RH hL i p id off hp (by rw[Nat.zero_add];exact h1) with⟨c1,wz,h5,h6,h7⟩|⟨⟨c1,h5⟩,_⟩
   ·rcases Ue with⟨h8,h9⟩|h8
    ·rw[h6] at h8;cases h8;exact⟨id,o',_,h5,trivial,h2,show o'<=j∧j<o'+c1.length by omega⟩
    ·rw[h6] at h8;cases h8
   ·exact⟨id,o',_,h5,trivial,h2,show o'<=j by omega⟩
 have SE:∀id off cts wz,D5.var id off cts wz∈l->id∈lids->∀b ob,β id=some (b,ob)->∀j,(j<off∨off+wz.length<=j)->(∃c1,s.hp id=some (.st c1))->¬Yw bt vs b (ob+j):=by
  rintro id off cts wz hy Ax b ob hβ j hj ⟨c1,Y8⟩ ⟨i,p,hp,⟨k,ob',hb,Sy⟩|⟨ob',ps,hb,Sy,Ue⟩⟩
  ·obtain⟨id',off',o',h1,h2,h3,h4⟩:=btS hb;have:=h.inj id id' b ob o' (Qc id (.inl Ax)) (Qc id' h4) hβ h2;subst this;exact hlx id Ax (hS.mvd i k id off' h1).2
  ·obtain⟨id',off',o',h1,h2,h3,h4⟩:=btS hb;have:=h.inj id id' b ob o' (Qc id (.inl Ax)) (Qc id' h4) hβ h2;subst this;rw[hβ] at h2;cases h2;obtain⟨k,Ck,C9⟩:=DE hL hy;rw[Nat.zero_add] at C9;have hik:=hS.inj0 VY i k id off' off h1 C9;subst hik;rw[h1] at C9;cases C9;rw[hp] at Ck;cases Ck;rcases Ue with⟨h8,h9⟩|h8
   ·cases h8;omega
   ·cases h8
 have hval:Cp w' (Bv (Aj Bq (bs++bs')) β1 Y) β1 (It ws (Jj P o.type)) (Fc us):=by
  have I7:Au (Eo w' (Bv (Aj Bq (bs++bs')) β1 Y) β1) ws us:=F7.mono fun v u hvu=>hvu.step (Bb.refl _ _) (fun b _=>hAO b) (fun _ _=>rfl)
  have Cy:=I7.len;cases hT:Jj P o.type
  ·rw[hT] at J7;have h1:ws.length=1:=Nat.eq_of_beq_eq_true J7
   match ws,us,h1,Cy with
   |[v],[u],_,_=>
    exact (K5 (VO v (by simp))).2 I7.1
  ·rw[hT] at J7
   have h1:¬ws.length=1:=by
    intro e;rw[e] at J7;cases J7
   have hr:Fc us=.tuple ⟨us⟩:=by
    unfold Fc;split
    ·simp at Cy;omega
    ·rfl
   rw[hr];exact⟨us,rfl,I7⟩
 have hvr:∀i∈A5 (It ws (Jj P o.type)),∃bx,(i,bx)∈bs:=by
  intro i hi;cases hT:Jj P o.type
  ·rw[hT] at J7 hi;have h1:ws.length=1:=Nat.eq_of_beq_eq_true J7
   match ws,h1 with
   |[v],_=>
    refine hrs v (by simp) i ?_
    have:A5 v=Be v:=by
     have hn:=VO v (by simp)
     cases v<;>first|rfl|exact absurd rfl (hn _)
    rw[←this];exact hi
  ·rw[hT] at hi;obtain⟨v,hv,hi⟩:=List.mem_flatMap.1 (show i∈ws.flatMap Be from hi)
   exact hrs v hv i hi
 refine hn _ w' β1 ?_;refine⟨by rw[K6];exact h.dfr,by rw[Pz];exact h.tsz,BB LY h.tmo,?_,?_,?_,?_,?_,?_,?_,?_,?_,?_,?_,h.Ylt,?_⟩
 ·refine Ji (Q:=fun _ p u=>Cp w' (Bv (Aj Bq (bs++bs')) β1 Y) β1 p u) h.tsz LY (fun i hi=>?_) (fun _=>hval)
  exact (h.tms i hi).step I5 hAo fun id Ax=>WI id (h.wfT i hi id Ax)
 ·intro id bx hb;simp only at hb;rcases Ej id with⟨bx',Hg⟩|e
  ·rw[VW id bx' Hg] at hb;cases hb;exact (ZQ id _ Hg).2.1.step' hAO
  ·rw[e] at hb;have hβ:=hβold id (by rw[hb];simp)
   by_cases Ax:id∈lids
   ·obtain⟨y,hy,UA⟩:=Aav id Ax;have h1:=Ae8 y hy;cases y with
    |var id' off cts wz=>
     simp only[D5.ids,List.mem_singleton] at UA;subst UA;obtain⟨c1,cs,h2,h3,h4,h5,h6⟩:=h1;rw[KB id Ax] at h2;rw[h3] at hb;cases hb;obtain⟨b,ob,h7,h8,h9⟩:=h.box id _ h2;obtain⟨h10,h11⟩:=h6 b ob h7;have Bk:=h.blt id b ob (by rw[h2];simp) h7
     have Tc:∀j,(j<off∨off+wz.length<=j)->w'.cell? ⟨b,ob+j,none⟩=w.cell? ⟨b,ob+j,none⟩∧w'.frozen? ⟨b,ob+j,none⟩=w.frozen? ⟨b,ob+j,none⟩:=
      fun j hj=>out.rng b (ob+j) Bk (SE id off cts wz hy Ax b ob h7 j hj ⟨c1,h2⟩)
     refine⟨b,ob,hβ.trans h7,fun j p hj=>?_,fun j hj=>?_⟩
     ·rcases K3 (by omega) hj with⟨h12,h13,h14⟩|⟨h12,h14⟩
      ·obtain⟨v,hv,CA⟩:=h10 _ _ h14;refine⟨v,?_,CA.step (Bb.refl _ _) (fun b _=>hAO b) (fun _ _=>rfl)⟩
       rw[show ob+j=ob+off+(j-off) by omega]
       exact hv
      ·obtain⟨v,hv,CA⟩:=h8 _ _ h14;refine⟨v,by rw[(Tc j (by omega)).1];exact hv,CA.step I5 hAo fun i hi=>WI i (h.wfB id c1 h2 p (List.mem_of_getElem? h14) i hi)⟩
     ·rw[Lk (by omega)] at hj
      by_cases BT:off<=j∧j<off+cs.length
      ·have:=h11 (j-off) (by omega)
       rw[show ob+off+(j-off)=ob+j by omega] at this
       exact this
      ·rw[(Tc j (by omega)).2]
       exact h9 j hj
    |row id'=>
     simp only[D5.ids,List.mem_singleton] at UA;subst UA;obtain⟨cs,h3,h4⟩:=h1;rw[h3] at hb;cases hb;rcases h4 with⟨h5,h6⟩|⟨b,ob,h5,h6,h7⟩
     ·exact .inl ⟨hβ.trans h5,h6⟩
     ·exact .inr ⟨b,ob,hβ.trans h5,h6.weak (fun b _=>hAO b),fun _=>h7,(fun q=>by cases q)⟩
    |none=>simp[D5.ids] at UA
   ·rw[hpK id Ax,Dr] at hb;split at hb
    ·cases hq:Ac s.hp m id with
     |none=>rw[hq] at hb;cases hb
     |some b0=>rw[hq] at hb;simp at hb;subst hb;trivial
    ·rename_i hxn;have Hy:=hf.box id bx hb
     have VC:∀b ob,β id=some (b,ob)->bx ≠ .mv->b<w.heap.size∧w'.heap[b]?=w.heap[b]?:=by
      intro b ob CD hmv;have Bk:=hf.blt id b ob (by show Ac s.hp m id≠none;rw[hb];simp) CD
      refine⟨Bk,out.ext.keep b Bk fun hB=>?_⟩
      obtain⟨id',o',h1,h2⟩:=btX hB;have Gc:Bu (Ac s.hp m id'):=by rw[Yp id' h2];exact Qc id' h2
      have CP:id≠id':=by
       rintro rfl
       rcases h2 with h2|h2
       ·exact Ax h2
       ·exact hxn h2
      cases bx with
      |st cc=>exact CP (hf.inj id id' b ob o' (by show Bu (Ac s.hp m id);rw[hb];trivial) Gc CD h1)
      |ar fz cc=>
       cases fz with
       |false=>exact CP (hf.inj id id' b ob o' (by show Bu (Ac s.hp m id);rw[hb];trivial) Gc CD h1)
       |true=>
        rcases Hy with⟨h3,_⟩|⟨b2,o2,h3,_,_,h4⟩
        ·rw[CD] at h3;cases h3
        ·rw[CD] at h3;cases h3;exact h4 rfl (.inl ⟨id',o',Gc,h1⟩)
      |mv=>exact hmv rfl
     have hAoF:∀b,b<w.heap.size->Bv (Aj Bq (bs++bs')) β1 Y b->Bv (Ac s.hp m) β Y b:=by
      intro b Dl hA;rcases hA with⟨i,ob,hl,hβi⟩|hY
      ·rcases Ej i with⟨bx1,W9⟩|e1
       ·obtain⟨j,hj,_⟩:=Pg i bx1 W9;rw[hj] at hβi;obtain⟨id',o',h1,h2⟩:=Ade b ((out.fresh j b ob hβi).2 Dl).1;exact .inl ⟨id',o',by rw[Yp id' (.inr h1)];exact Qc id' (.inr h1),h2⟩
       ·rw[e1] at hl;cases hq:Bq i with
        |none=>rw[hq] at hl;exact hl.elim
        |some bx1=>
         rw[hq] at hl;rw[hβold i (by rw[hq];simp)] at hβi
         obtain⟨h1,h2,h3⟩:=hold i bx1 hq hl;rcases h3 with h3|⟨h3,h4⟩
         ·exact .inl ⟨i,ob,by rw[Yp i (.inl h3)];exact h1,hβi⟩
         ·exact .inl ⟨i,ob,by rw[h4];exact hl,hβi⟩
      ·exact .inr hY
     have Af1:Bb (Bv (Ac s.hp m) β Y) w w':=out.ext.weaken (fun b _ hB=>by
      obtain⟨id',o',h1,h2⟩:=btX hB;exact .inl ⟨id',o',by rw[Yp id' h2];exact Qc id' h2,h1⟩)
     cases bx with
     |st cc=>
      obtain⟨b,ob,h1,h2,h3⟩:=Hy;obtain⟨Bk,Q1⟩:=VC b ob h1 (by simp)
      refine⟨b,ob,hβ.trans h1,fun j p hj=>?_,fun j hj=>?_⟩
      ·obtain⟨v,hv,CA⟩:=h2 j p hj;refine⟨v,by rw[World.cell?_of_block (w:=w) Q1];exact hv,CA.step Af1 hAoF fun i hi=>?_⟩
       refine WI i (fun e1=>?_)
       exact hf.wfB id cc hb p (List.mem_of_getElem? hj) i hi (Cf.2 e1)
      ·rw[World.frozen?_of_block (w:=w) Q1];exact h3 j hj
     |ar fz cc=>
      rcases Hy with⟨h1,h2⟩|⟨b,ob,h1,h2,h3,h4⟩
      ·exact .inl ⟨hβ.trans h1,h2⟩
      ·obtain⟨Bk,Q1⟩:=VC b ob h1 (by simp)
       have W3:bsz w' b=bsz w b:=by unfold bsz;rw[Q1]
       refine .inr ⟨b,ob,hβ.trans h1,fun j p hj=>?_,fun e1 j hj I8=>?_,fun e1 q=>h4 e1 (hAoF b Bk q)⟩
       ·obtain⟨v,hv,h5,Y8⟩:=h2 j p hj;exact⟨v,by rw[World.cell?_of_block (w:=w) (by rw[Dq];exact Q1)];exact hv,h5,Y8.step Af1 hAoF⟩
       ·rw[World.frozen?_of_block (w:=w) Q1];exact h3 e1 j hj (by rw[←W3];exact I8)
     |mv=>trivial
 ·intro id id' b ob ob' hl Gc hb Ep;simp only at hl Gc
  have mixed:∀i bx i' k z,(i,bx)∈bs++bs'->β1 i=some (k,z)->Bq i'≠none->Bu (Bq i')->∀z',β1 i'=some (k,z')->False:=by
   intro i bx i' k z W9 hz DS Us z' MQ;obtain⟨j,hj,_⟩:=Pg i bx W9;rw[hj] at hz;rw[hβold i' DS] at MQ;cases hq:Bq i' with
   |none=>exact DS hq
   |some bx1=>
    rw[hq] at Us;obtain⟨h1,h2,h3⟩:=hold i' bx1 hq Us;have Bk:=h.blt i' k z' (Br h1) MQ;obtain⟨id2,o2,h4,h5⟩:=Ade k ((out.fresh j k z hz).2 Bk).1;have:=h.inj i' id2 k z' o2 h1 (Qc id2 (.inr h4)) MQ h5;subst this;exact h2 h4
  rcases Ej id with⟨bx,W9⟩|e1
  ·rcases Ej id' with⟨bx',hm2⟩|e2
   ·obtain⟨j,hj,Ue⟩:=Pg id bx W9;obtain⟨j',I8,Afv⟩:=Pg id' bx' hm2;rw[hj] at hb;rw[I8] at Ep;have:=out.inj j j' b ob ob' hb Ep;subst this;rcases Ue with⟨h1,h2⟩|⟨h1,h2⟩
    ·rcases Afv with⟨h3,_⟩|⟨_,h4⟩
     ·rw[h1,h3]
     ·omega
    ·rcases Afv with⟨_,h4⟩|⟨h3,_⟩
     ·omega
     ·exact Ud _ h1 _ h3 rfl
   ·rw[e2] at Gc;exact (mixed id bx id' b ob W9 hb (Br Gc) Gc ob' Ep).elim
  ·rw[e1] at hl;rcases Ej id' with⟨bx',hm2⟩|e2
   ·exact (mixed id' bx' id b ob' hm2 Ep (Br hl) hl ob hb).elim
   ·rw[e2] at Gc
    have g:∀i,Bu (Bq i)->Bu (s.hp i)∧β1 i=β i:=by
     intro i hli;cases hq:Bq i with
     |none=>rw[hq] at hli;exact hli.elim
     |some bx1=>exact⟨(hold i bx1 hq (by rw[←hq];exact hli)).1,hβold i (by rw[hq];simp)⟩
    rw[(g id hl).2] at hb;rw[(g id' Gc).2] at Ep;exact h.inj id id' b ob ob' (g id hl).1 (g id' Gc).1 hb Ep
 ·intro id b ob DS hb;simp only at DS;rcases Ej id with⟨bx,W9⟩|e1
  ·obtain⟨j,hj,_⟩:=Pg id bx W9;rw[hj] at hb;exact (out.fresh j b ob hb).1
  ·rw[e1] at DS;rw[hβold id DS] at hb
   have VM:s.hp id≠none:=by
    by_cases Ax:id∈lids
    ·exact Br (Qc id (.inl Ax))
    ·rw[hpK id Ax,Dr] at DS;intro e2;have h1:Ac s.hp m id=none:=Cf.2 e2;rw[h1] at DS;split at DS<;>exact DS rfl
   exact Nat.lt_of_lt_of_le (h.blt id b ob VM hb) out.ext.size
 ·have:=Ji (Q:=fun _ p _=>∀id∈A5 p,Aj Bq (bs++bs') id≠none) (val:=Fc us) (d:=o.dst) (v:=It ws (Jj P o.type)) h.tsz LY (fun i hi id Ax=>YX id (.inl (h.wfT i hi id Ax))) (fun _ id Ax=>YX id (.inr (by
   obtain⟨bx,hb⟩:=hvr id Ax;exact⟨bx,List.mem_append.2 (.inl hb)⟩)))
  exact this
 ·intro id cells Zj p hp i hi;simp only at Zj;refine YX i ?_;rcases Ej id with⟨bx,W9⟩|e1
  ·rw[VW id bx W9] at Zj;cases Zj;rcases List.mem_append.1 W9 with W9|W9
   ·obtain⟨bx1,hb⟩:=IH id cells W9 p hp i hi;exact .inr ⟨bx1,List.mem_append.2 (.inl hb)⟩
   ·obtain⟨cc,e2⟩:=Dl id _ W9;cases e2
  ·rw[e1] at Zj;by_cases Ax:id∈lids
   ·rcases YE id Ax with⟨off,c1,cs,h1,h2,h3,h4⟩|⟨c1,cs,h1,h2⟩
    ·rw[h2] at Zj;cases Zj;unfold A0 at hp;rcases List.mem_append.1 hp with hp|hp
     ·rcases List.mem_append.1 hp with hp|hp
      ·exact .inl (h.wfB id c1 h1 p (List.mem_of_mem_take hp) i hi)
      ·obtain⟨bx1,hb⟩:=h4 p hp i hi;exact .inr ⟨bx1,List.mem_append.2 (.inr hb)⟩
     ·exact .inl (h.wfB id c1 h1 p (List.mem_of_mem_drop hp) i hi)
    ·rw[h2] at Zj;cases Zj
   ·obtain⟨_,_,h3⟩:=hold id _ Zj trivial;rcases h3 with h3|⟨_,h3⟩
    ·exact absurd h3 Ax
    ·exact .inl (h.wfB id cells (Fj h3 trivial) p hp i hi)
 ·rintro b ⟨id,ob,hl,hβ⟩
  rcases Nat.lt_or_ge b w.heap.size with Bk|PO
  ·exact h.ownd b (hX b Bk ⟨id,ob,hl,hβ⟩)
  ·exact .inr (Nat.le_trans h.fr.step.size PO)
 ·intro id bx b ob hb hl hβ Bk j hj;simp only at hb;have hlw:=Nat.lt_of_lt_of_le Bk h.fr.step.size;rcases Ej id with⟨bx',W9⟩|e1
  ·rw[VW id bx' W9] at hb;cases hb;obtain⟨k,hk,_⟩:=Pg id bx W9;rw[hk] at hβ
   have Sy:ob<=j:=by
    cases bx with
    |st cc=>exact hj.1
    |ar fz cc=>exact hj
    |mv=>exact hl.elim
   obtain⟨id2,o2,bx2,h1,h2,h3,h4⟩:=hCL b j (((out.fresh k b ob hβ).2 hlw).2 j Sy);exact h.rngB id2 bx2 b o2 h1 h2 h3 Bk j h4
  ·rw[e1] at hb;rw[hβold id (by rw[hb];simp)] at hβ
   obtain⟨h1,h2,h3⟩:=hold id bx hb hl;rcases h3 with h3|⟨h3,h4⟩
   ·rcases YE id h3 with⟨off,c1,cs,h5,h6,h7,_⟩|⟨c1,cs,h5,h6⟩
    ·rw[h6] at hb;cases hb;have hj:ob<=j∧j<ob+(A0 c1 cs off).length:=hj;rw[Lk (by omega)] at hj
     exact h.rngB id _ b ob h5 trivial hβ Bk j hj
    ·rw[h6] at hb;cases hb;exact h.rngB id _ b ob h5 trivial hβ Bk j hj
   ·exact h.rngB id bx b ob (Fj h4 hl) hl hβ Bk j hj
 ·intro i hi;obtain⟨h1,h2⟩:=h.pin i hi;exact⟨YX _ (.inl h1),by rw[WI _ h1];exact h2⟩
 ·intro id cc b ob hb hβ Bk;simp only at hb;have hlw:=Nat.lt_of_lt_of_le Bk h.fr.step.size;rcases Ej id with⟨bx',W9⟩|e1
  ·rw[VW id bx' W9] at hb;cases hb;have:=(ZQ id _ W9).2.2 cc rfl b ob hβ;omega
  ·rw[e1] at hb;rw[hβold id (by rw[hb];simp)] at hβ
   obtain⟨h1,h2,h3⟩:=hold id _ hb trivial;rcases h3 with h3|⟨h3,h4⟩
   ·rcases YE id h3 with⟨off,c1,cs,h5,h6,h7,_⟩|⟨c1,cs,h5,h6⟩
    ·exact h.stp id c1 b ob h5 hβ Bk
    ·rw[h6] at hb;cases hb
   ·exact h.stp id cc b ob (Fj h4 trivial) hβ Bk
 ·intro b hY hXb;exact h.Yx b hY (hX b (Nat.lt_of_lt_of_le (h.Ylt b hY) h.fr.step.size) hXb)
 ·refine⟨out.os.trans h.fr.os,out.tape.trans h.fr.tape,out.output.trans h.fr.output,⟨Nat.le_trans h.fr.step.size out.ext.size,fun b hb hnX=>?_,fun b hb=>(h.fr.step.bs b hb).trans (out.ext.bs b (Nat.lt_of_lt_of_le hb h.fr.step.size))⟩,fun b j hb SE=>?_⟩
  ·rw[out.ext.keep b (Nat.lt_of_lt_of_le hb h.fr.step.size) ?_]
   ·exact h.fr.step.keep b hb hnX
   ·intro hB;rcases h.ownd b (hBA b hB) with hq|hq
    ·exact hnX hq
    ·omega
  ·have CP:¬Yw bt vs b j:=by
    intro hq;obtain⟨id2,o2,bx2,h1,h2,h3,h4⟩:=hCL b j hq;exact SE (h.rngB id2 bx2 b o2 h1 h2 h3 hb j h4)
   obtain⟨h1,h2⟩:=out.rng b j (Nat.lt_of_lt_of_le hb h.fr.step.size) CP;rw[h1,h2];exact h.fr.rng b j hb SE
end
open Go.RowKit
section
variable {R:Type} {r:R} {P:Program} {N:Nat} {w0:World} {X0:Ev} {Y:Nat->Prop} {β β':Bt} {s:St} {a:Act} {w w':World} {o:Oper} {A:Nat->Prop}
theorem BI (h:Bp N w0 X0 Y β s a w){c:Call}(ho:o.op=.call c)(hc:c.callee=.builtin .append){d:Nat}(LY:o.dst=some d){b x:Operand}(C3:c.args.toList=[b,x]) {t tx:TypeId}{ts:List TypeId}(Tq:c.argTypes.toList=t::tx::ts)
  {K:St->Option R} (hk:Jv P N s d t tx (A8 s.tm b) (A8 s.tm x) K=some r):
  ∃s',K s'=some r∧∀(next:Act->World->Prop) (Q:Exit->Act->World->Prop),(∀a' w' β',Bp N w0 X0 Y β' s' a' w'->next a' w')->o.wp P a w next Q:=by
 have V7:c.args = #[b,x]:=by
  have:c.args=([b,x]:List Operand).toArray:=by rw[←C3]
  exact this
 have DB:c.argTypes=(t::tx::ts).toArray:=by rw[←Tq]
 have run:∀{v:Value} {w1:World},(Builtin.append_ (t::tx::ts).toArray o.type #[a.eval b,a.eval x]).run P w=.ok v w1->∀(next:Act->World->Prop) (Q:Exit->Act->World->Prop),next (a.put (some d) v) w1->o.wp P a w next Q:=by
  intro v w1 hr next Q hn;unfold Oper.wp execOp;rw[ho];simp only[resolve,hc,invoke,builtin,Sem.run_bind,Sem.run_pure,Result.andThen_ok,V7,DB];have:(#[b,x]:Array Operand).map a.eval = #[a.eval b,a.eval x]:=by simp
  rw[this,hr];show next (a.put o.dst v) w1;rw[LY];exact hn
 have hbv:=Bs h b;have BS:=Cz h b;unfold Jv at hk;split at hk
 ·rename_i e hu;obtain⟨NF,hk⟩:=Ae hk;obtain⟨i,z,hi,hz,Ux,Ik⟩:=Vt NF;cases hit:Qp P tx
  rotate_left
  ·rw[hit] at hk;simp only[cond_true] at hk
   obtain⟨ki,OP⟩:∃k,P.underlying tx=some (.int k):=by
    unfold Qp at hit;split at hit
    ·exact⟨_,by assumption⟩
    ·cases hit
   unfold M5 at hk;obtain⟨kx,n,hx,hk⟩:=Bx hk;obtain⟨zz,n',c',hk,hp⟩:=Dh hk;obtain⟨hb,hk⟩:=Ae hk;simp only[Bool.and_eq_true,decide_eq_true_eq] at hb;obtain⟨⟨⟨⟨⟨WF,PJ⟩,Pj⟩,GC⟩,UY⟩,BN⟩:=hb;have PJ:d<N:=Nat.lt_of_succ_le (Nat.le_of_ble_eq_true PJ);have Pj:s.hp d=none:=by simpa using Pj
   have IA:Du N (some d)=true:=by simp[Du,Nat.blt];omega
   have M2:((P.info? e).map (·.bytes)).getD 0=i.bytes:=by rw[hi];rfl
   rw[M2] at UY;rw[Ik] at hk;have Bw:=Bj h hx;rcases Dv hp hbv with⟨J6,_⟩|⟨_,_,_,Wt,_⟩|⟨_,_,_,Wt,_⟩
   ·refine⟨_,hk,fun next Q hn=>?_⟩
    by_cases WD:n=0
    ·subst WD;have hr:=Rs (P:=P) (w:=w) (t:=t) (tx:=tx) (ty:=o.type) (ts:=ts) (kx:=kx) hu OP hi;rw[←J6,←Bw] at hr;refine run hr next Q (hn _ _ (Bh β d none) ?_);rw[J6];refine h.stepR (d:=some d) (nw:=[(d,.ar false [])]) (β':=Bh β d none) IA (by simp[A3,Pj]) ⟨rfl,rfl,rfl,Bb.refl _ _,fun j hj=>Ad _ _ (by rintro rfl;exact hj Pj),?_,?_,?_,?_,?_,.inl ⟨Af _ _ _,rfl,rfl,none,rfl⟩,?_⟩
     ·intro j bx hm;simp at hm;rw[hm.2];trivial
     ·intro j bx hm;simp at hm;obtain⟨rfl,rfl⟩:=hm;exact .inl ⟨Af _ _ _,rfl⟩
     ·intro j bx k q hm hq;simp at hm;obtain⟨rfl,rfl⟩:=hm;rw[Af] at hq;cases hq
     ·intro j bx j' bx' k q q' hm Hg _ _;simp at hm Hg;rw[hm.1,Hg.1]
     ·intro j cells hm;simp at hm
     ·intro j hj;simp[A5,Be,Ai] at hj;subst hj;exact .inr ⟨.ar false [],by simp⟩
    ·have hr:=Tt (P:=P) (w:=w) (t:=t) (tx:=tx) (ty:=o.type) (ts:=ts) (kx:=kx) hu OP hi hz (n:=n) (by omega) UY BN
     rw[←J6,←Bw] at hr;refine run hr next Q (hn _ _ (Bh β d (some (w.heap.size,0))) ?_);have PO:n.toNat<=grownCap w n.toNat 0 e:=grownCap_ge w n.toNat 0 e;generalize Oj:((if n.toNat*i.size=0 then #[] else Builtin.zeroCells z.cells n.toNat)++Builtin.zeroCells z.cells (grownCap w n.toNat 0 e-n.toNat))=cs
     have Pb:Dg w (w.drew.alloc (.cells cs e)) cs e:=
      ⟨rfl,rfl,rfl,fun k hk=>Below.heap_alloc w.drew _ k hk,by show (w.heap.push _).size=_;simp,(0,0),by show (w.heap.push _)[w.heap.size]?=_;simp,.inl rfl⟩
     have GH:cs.size=grownCap w n.toNat 0 e*i.size:=by
      rw[←Oj];by_cases FY:n.toNat*i.size=0
      ·rw[if_pos FY]
       have GY:i.size=0:=by
        rcases Nat.mul_eq_zero.1 FY with h|h
        ·omega
        ·exact h
       simp[size_zeroCells,Ux,GY]
      ·rw[if_neg FY];simp only[Array.size_append,size_zeroCells,Ux,←Nat.add_mul]
       congr 1
       omega
     refine h.stepR (d:=some d) (nw:=[(d,.ar false [])]) IA (by simp[A3,Pj]) (J8 Pb Pj trivial ?_ (fun cells hx=>by cases hx) ?_ (by intro j hj;simp[A5,Be,Ai] at hj;exact .inr hj))
     ·refine .inr ⟨w.heap.size,0,Af _ _ _,fun j p hj=>by simp at hj,fun _ j _ hj=>?_,(fun q=>by cases q)⟩
      rw[Pb.bsz] at hj;exact Pb.frozen hj
     ·refine .inr ⟨w.heap.size,0,0,grownCap w n.toNat 0 e,Af _ _ _,rfl,.inl rfl,PO,?_,by rw[Pb.size];omega⟩
      exact⟨by rw[Pb.bsz,GH];omega,.inr (Gw w.drew _ e)⟩
   ·rw[Wt] at WF;cases WF
   ·rw[Wt] at WF;cases WF
  rw[hit] at hk;simp only[cond_false] at hk;have M2:((P.info? e).map (·.bytes)).getD 0=i.bytes:=by rw[hi];rfl
  obtain⟨⟨dx,hdx,EM⟩,m,new,news,hk,hs⟩:=Uv h hk (by
   intro m new hk;split at hk
   ·split at hk
    ·obtain⟨hb,_⟩:=Ae hk;simp only[Bool.and_eq_true,decide_eq_true_eq] at hb;have he:=Nat.eq_of_beq_eq_true hb.1.1.1.1.1.1.1;rw[←he];exact hb.1.1.2
    ·cases hk
   ·obtain⟨zz,n',c',hk,_⟩:=Dh hk;obtain⟨hb,_⟩:=Ae hk;simp only[Bool.and_eq_true,decide_eq_true_eq] at hb;exact hb.1.1.2)
  rw[Ik] at hs;have VY:new.length=news.length:=hs.rep.len;split at hk
  ·rename_i id es off n eb;rw[eb] at hbv BS;split at hk
   ·rename_i cc h0;obtain⟨hb,C9⟩:=Ae hk;simp only[Bool.and_eq_true,decide_eq_true_eq] at hb;obtain⟨⟨⟨⟨⟨⟨⟨Py,J5⟩,PJ⟩,Pj⟩,Ak0⟩,LI⟩,UY⟩,BN⟩:=hb;have Py:=Nat.eq_of_beq_eq_true Py;have J5:=Nat.eq_of_beq_eq_true J5;have PJ:d<N:=Nat.lt_of_succ_le (Nat.le_of_ble_eq_true PJ);have Pj:s.hp d=none:=by simpa using Pj
    subst J5;rw[Ik] at Py;subst Py;rw[M2] at UY;have S7:news.length=m*i.size:=by omega
    have An3:s.hp id≠none:=by rw[h0];simp
    have PH:=h.box id _ h0;refine⟨_,C9,fun next Q hn=>?_⟩
    have grow:∀(ad:Option Addr) (cap:Nat) (olds:List Value),a.eval b=.slice ad n cap->Au (Ao w (Bv s.hp β Y)) (cc.take (n*i.size)) olds->(∀u∈olds,u.oneCell'=true)->olds.length=n*i.size ->
      ((ad=none∧olds=[])∨∃p,ad=some p∧olds.length=n*i.size∧∀(j:Nat) v,olds[j]?=some v->w.cell? (p.add j)=some v)->cap<n+m->o.wp P a w next Q:=by
     intro ad cap olds J6 holds h1 hol hold Nv;have hr:=append_grow_run (P:=P) (w:=w) (t:=t) (tx:=tx) (ty:=o.type) (ts:=ts) hu hdx EM hi hz hs hold Nv UY BN;rw[←J6] at hr;refine run hr next Q (hn _ _ (Bh β d (some (w.heap.size,0))) ?_);have PO:n+m<=grownCap w (n+m) cap e:=grownCap_ge w (n+m) cap e
     have Pb:Dg w (w.drew.alloc (.cells (olds.toArray++news.toArray++Builtin.zeroCells z.cells (grownCap w (n+m) cap e-(n+m))) e)) (olds.toArray++news.toArray++Builtin.zeroCells z.cells (grownCap w (n+m) cap e-(n+m))) e:=
      ⟨rfl,rfl,rfl,fun k hk=>Below.heap_alloc w.drew _ k hk,by show (w.heap.push _).size=_;simp,(0,0),by show (w.heap.push _)[w.heap.size]?=_;simp,.inl rfl⟩
     have GH:(olds.toArray++news.toArray++Builtin.zeroCells z.cells (grownCap w (n+m) cap e-(n+m))).size=grownCap w (n+m) cap e*i.size:=by
      simp only[Array.size_append,List.size_toArray,size_zeroCells,Ux,hol,S7,←Nat.add_mul]
      congr 1
      omega
     have BC:∀k y,some (w.heap.size,0)=some (k,y)->w.heap.size<=k∨∃q,β id=some (k,q):=by
      intro k y hh;simp at hh;exact .inl (by omega)
     refine h.move h0 Pj PJ rfl rfl rfl (by rw[Pb.size];omega) (fun k hk _=>Pb.old k hk) Pb.step.bs (fun k y hh=>⟨by simp at hh;rw[Pb.size];omega,BC k y hh⟩) (fun k y hh Bk=>by simp at hh;omega)
      (fun k y _ Bk j _=>⟨World.cell?_of_block (w:=w) (Pb.old k Bk),World.frozen?_of_block (w:=w) (Pb.old k Bk)⟩) ?_ ?_ (by intro j hj;simpa [A5,Be,Ai] using hj)
     ·refine .inr ⟨w.heap.size,0,Af _ _ _,Vg Pb (IX h0 Pj BC) holds hs.rep h1 hs.one,fun _ j _ hj=>?_,(fun q=>by cases q)⟩
      rw[Pb.bsz] at hj;exact Pb.frozen hj
     ·refine .inr ⟨w.heap.size,0,0,grownCap w (n+m) cap e,Af _ _ _,rfl,.inl rfl,PO,?_,by rw[Pb.size];omega⟩
      exact⟨by rw[Pb.bsz,GH];omega,.inr (Gw w.drew _ e)⟩
    rcases hbv with⟨hβ,_,rfl,ad,J6⟩|⟨bb,ob,y,cap,hβ,J6,hy,KG,Nv,TB⟩
    ·rcases PH with⟨_,rfl⟩|⟨b',o',Dl,_⟩
     ·by_cases WD:m=0
      ·subst WD;have hr:=Hw (P:=P) (w:=w) (t:=t) (tx:=tx) (ty:=o.type) (ts:=ts) (ad:=ad) hu hdx EM hi hs (List.eq_nil_of_length_eq_zero (by omega))
       rw[←J6] at hr;have FN:new=[]:=List.eq_nil_of_length_eq_zero (by omega)
       subst FN;refine run hr next Q (hn _ _ (Bh β d none) ?_);rw[J6];refine h.move h0 Pj PJ rfl rfl rfl (Nat.le_refl _) (fun _ _ _=>rfl) (fun _ _=>Fy.refl _ _) (fun k q hh=>by cases hh) (fun k q hh=>by cases hh) (fun _ _ _ _ _ _=>⟨rfl,rfl⟩) ?_ ?_ (by intro j hj;simpa [A5,Be,Ai] using hj)
       ·exact .inl ⟨Af _ _ _,by simp⟩
       ·exact .inl ⟨Af _ _ _,rfl,rfl,ad,rfl⟩
      ·exact grow ad 0 [] J6 (by simp[Au]) (by simp) (by simp) (by cases ad with
        |none=>exact .inl ⟨rfl,rfl⟩
        |some p=>exact .inr ⟨p,rfl,by simp,fun j v hj=>by simp at hj⟩) (by omega)
     ·rw[hβ] at Dl;cases Dl
    ·rcases PH with⟨Dl,_⟩|⟨b',o',Dl,Hq,BJ,_⟩
     ·rw[hβ] at Dl;cases Dl
     rw[hβ] at Dl;simp at Dl;obtain⟨rfl,rfl⟩:=Dl;have hy:y=ob:=by rcases hy with hy|⟨_,hq⟩<;>omega
     subst hy;by_cases Jr:n+m<=cap
     ·have Aev:y+n*i.size+news.length<=bsz w bb:=by
       have h5:n*i.size+m*i.size<=cap*i.size:=by rw[←Nat.add_mul];exact Nat.mul_le_mul_right _ Jr
       have:=Nv.1;omega
      have hcell:∀k,k<news.length->(w.cell? ⟨bb,y+n*i.size+k,none⟩).isSome=true:=fun k hk=>Mo (by omega)
      have hr:=append_room_run (P:=P) (w:=w) (t:=t) (tx:=tx) (ty:=o.type) (ts:=ts) (b:=bb) (ob:=y) (n:=n) (cap:=cap) hu hdx EM hi hs S7 hcell (fun k hk=>BJ rfl _ (by omega) (by omega)) Jr
      rw[←J6] at hr;have hw:=Bc.setCells bb news (y+n*i.size) w
      have BC:∀k q,some (bb,y)=some (k,q)->w.heap.size<=k∨∃q',β id=some (k,q'):=by
       intro k q hh;simp at hh;obtain⟨rfl,rfl⟩:=hh;exact .inr ⟨_,hβ⟩
      refine run hr next Q (hn _ _ (Bh β d (some (bb,y))) ?_)
      have I5:Bb (Bv s.hp β Y) w (w.setCells bb (y+n*i.size) news):=by
       have VN:Bv s.hp β Y bb:=.inl ⟨id,y,by rw[h0];trivial,hβ⟩
       exact⟨by rw[hw.size];exact Nat.le_refl _,fun k _ hk=>hw.other k (fun e=>hk (e ▸ VN)),fun k _=>hw.grow k⟩
      refine h.move h0 Pj PJ hw.os hw.tape hw.output (by rw[hw.size];exact Nat.le_refl _) (fun k _ hq=>hw.other k (by rintro rfl;exact hq _ hβ)) I5.bs (fun k q hh=>⟨by simp at hh;rw[hw.size];omega,BC k q hh⟩) (fun k q hh _=>by rw[hβ];exact hh)
       (fun k q hh _ j hj=>by
        rw[hβ] at hh;cases hh;exact⟨World.cell?_setCells_out bb _ _ w ⟨bb,j,none⟩ (fun _ _=>by show j<y+n*i.size∨y+n*i.size+_<=j;omega),hw.frz j⟩) ?_ ?_ (by intro j hj;simpa [A5,Be,Ai] using hj)
      ·refine .inr ⟨bb,y,Af _ _ _,fun j p hj=>?_,fun _ j hj I8=>?_,(fun q=>by cases q)⟩
       ·rw[B6];by_cases hjn:j<n*i.size
        ·rw[List.getElem?_append_left (by rw[List.length_take];omega),List.getElem?_take_of_lt hjn] at hj
         obtain⟨u,Fs,h5,ht⟩:=Hq j p hj;rw[B6] at Fs;refine⟨u,?_,h5,ht.step I5 (IX h0 Pj BC)⟩;rw[World.cell?_setCells_out bb _ _ w ⟨bb,y+j,none⟩ (fun _ _=>by show y+j<y+n*i.size∨y+n*i.size+_<=y+j;omega)]
         exact Fs
        ·rw[List.getElem?_append_right (by rw[List.length_take];omega),List.length_take,Nat.min_eq_left Ak0] at hj
         obtain⟨u,Fs,ht⟩:=hs.rep.get hj
         have Bk:j-n*i.size<news.length:=by
          rcases Nat.lt_or_ge (j-n*i.size) news.length with h|h
          ·exact h
          ·rw[List.getElem?_eq_none h] at Fs;cases Fs
         refine⟨u,?_,hs.one u (List.mem_of_getElem? Fs),ht.step I5 (IX h0 Pj BC)⟩;have:=World.cell?_setCells_in bb news (y+n*i.size) w hcell (j-n*i.size) Bk;rw[show y+j=y+n*i.size+(j-n*i.size) from by omega,this]
         rw[List.getElem?_eq_getElem Bk] at Fs;exact Fs
       ·rw[hw.bs] at I8;rw[hw.frz];exact BJ rfl j hj I8
      ·exact .inr ⟨bb,y,y,cap,Af _ _ _,rfl,.inl rfl,Jr,Nv.step (hw.grow bb),by rw[hw.size];exact TB⟩
     ·-- the old cells
      have hob:∀(j:Nat) p,(cc.take (n*i.size))[j]?=some p->∃v,w.cell? ⟨bb,y+j,none⟩=some v∧v.oneCell'=true∧Ao w (Bv s.hp β Y) p v:=by
       intro j p hj;rw[List.getElem?_take] at hj;split at hj
       ·obtain⟨v,hv,h5,ht⟩:=Hq j p hj;rw[B6] at hv;exact⟨v,hv,h5,ht⟩
       ·cases hj
      have Cy:(cc.take (n*i.size)).length=n*i.size:=by rw[List.length_take];omega
      refine grow _ cap ((cc.take (n*i.size)).mapIdx fun j _=>(w.cell? ⟨bb,y+j,none⟩).getD undef) J6 ?_ ?_ (by simp only[List.length_mapIdx];exact Cy) (.inr ⟨_,rfl,by simp only[List.length_mapIdx];exact Cy,fun j v hj=>?_⟩) (by omega)
      ·refine Au.of_at (by simp) fun j p v hp hv=>?_
       obtain⟨u,Fs,_,ht⟩:=hob j p hp;rw[List.getElem?_mapIdx,hp,Option.map_some,Fs] at hv;simp at hv;subst hv;exact ht
      ·intro v hv;obtain⟨j,hj⟩:=List.mem_iff_getElem?.1 hv;rw[List.getElem?_mapIdx] at hj;cases hp:(cc.take (n*i.size))[j]? with
       |none=>rw[hp] at hj;cases hj
       |some p=>
        obtain⟨u,Fs,h5,_⟩:=hob j p hp;rw[hp,Option.map_some,Fs] at hj;simp at hj;subst hj;exact h5
      ·rw[List.getElem?_mapIdx] at hj;cases hp:(cc.take (n*i.size))[j]? with
       |none=>rw[hp] at hj;cases hj
       |some p=>
        obtain⟨u,Fs,h5,_⟩:=hob j p hp;rw[hp,Option.map_some,Fs] at hj;simp at hj;subst hj;rw[B6];exact Fs
   ·cases hk
  ·obtain⟨zz,n',c',hk,hp⟩:=Dh hk;obtain⟨hb,hk⟩:=Ae hk;simp only[Bool.and_eq_true,decide_eq_true_eq] at hb;obtain⟨⟨⟨⟨⟨WF,PJ⟩,Pj⟩,LI⟩,UY⟩,BN⟩:=hb;have PJ:d<N:=Nat.lt_of_succ_le (Nat.le_of_ble_eq_true PJ);have Pj:s.hp d=none:=by simpa using Pj
   have IA:Du N (some d)=true:=by simp[Du,Nat.blt];omega
   rw[Ik] at LI hk;rw[M2] at UY;have S7:news.length=m*i.size:=by omega
   rcases Dv hp hbv with⟨J6,_⟩|⟨_,_,_,Wt,_⟩|⟨_,_,_,Wt,_⟩
   ·refine⟨_,hk,fun next Q hn=>?_⟩
    by_cases WD:m=0
    ·subst WD;have hr:=Hw (P:=P) (w:=w) (t:=t) (tx:=tx) (ty:=o.type) (ts:=ts) (ad:=none) hu hdx EM hi hs (List.eq_nil_of_length_eq_zero (by omega))
     rw[←J6] at hr;have FN:new=[]:=List.eq_nil_of_length_eq_zero (by omega)
     subst FN;refine run hr next Q (hn _ _ (Bh β d none) ?_);rw[J6];refine h.stepR (d:=some d) (nw:=[(d,.ar false [])]) (β':=Bh β d none) IA (by simp[A3,Pj]) ⟨rfl,rfl,rfl,Bb.refl _ _,fun j hj=>Ad _ _ (by rintro rfl;exact hj Pj),?_,?_,?_,?_,?_,.inl ⟨Af _ _ _,rfl,rfl,none,rfl⟩,?_⟩
     ·intro j bx hm;simp at hm;rw[hm.2];trivial
     ·intro j bx hm;simp at hm;obtain⟨rfl,rfl⟩:=hm;exact .inl ⟨Af _ _ _,rfl⟩
     ·intro j bx k q hm hq;simp at hm;obtain⟨rfl,rfl⟩:=hm;rw[Af] at hq;cases hq
     ·intro j bx j' bx' k q q' hm Hg _ _;simp at hm Hg;rw[hm.1,Hg.1]
     ·intro j cells hm;simp at hm
     ·intro j hj;simp[A5,Be,Ai] at hj;subst hj;exact .inr ⟨.ar false [],by simp⟩
    ·have hr:=append_grow_run (P:=P) (w:=w) (t:=t) (tx:=tx) (ty:=o.type) (ts:=ts) (ad:=none) (n:=0) (cap:=0) (olds:=[]) hu hdx EM hi hz hs (.inl ⟨rfl,rfl⟩) (by omega) (by rw[Nat.zero_add];exact UY) (by omega)
     rw[←J6] at hr;refine run hr next Q (hn _ _ (Bh β d (some (w.heap.size,0))) ?_);have PO:0+m<=grownCap w (0+m) 0 e:=grownCap_ge w (0+m) 0 e
     have Pb:Dg w (w.drew.alloc (.cells (([]:List Value).toArray++news.toArray++Builtin.zeroCells z.cells (grownCap w (0+m) 0 e-(0+m))) e)) (([]:List Value).toArray++news.toArray++Builtin.zeroCells z.cells (grownCap w (0+m) 0 e-(0+m))) e:=
      ⟨rfl,rfl,rfl,fun k hk=>Below.heap_alloc w.drew _ k hk,by show (w.heap.push _).size=_;simp,(0,0),by show (w.heap.push _)[w.heap.size]?=_;simp,.inl rfl⟩
     have GH:(([]:List Value).toArray++news.toArray++Builtin.zeroCells z.cells (grownCap w (0+m) 0 e-(0+m))).size=grownCap w (0+m) 0 e*i.size:=by
      simp only[Array.size_append,List.size_toArray,size_zeroCells,Ux,S7,List.length_nil,←Nat.add_mul];rw[Nat.zero_add (m*i.size),←Nat.add_mul]
      congr 1
      omega
     refine h.stepR (d:=some d) (nw:=[(d,.ar false new)]) IA (by simp[A3,Pj]) (J8 Pb Pj trivial ?_ (fun cells hx=>by cases hx) ?_ (by intro j hj;simp[A5,Be,Ai] at hj;exact .inr hj))
     ·refine .inr ⟨w.heap.size,0,Af _ _ _,?_,fun _ j _ hj=>?_,(fun q=>by cases q)⟩
      ·exact Vg (pre:=[]) Pb (JY Pj) trivial hs.rep (by simp) hs.one
      ·rw[Pb.bsz] at hj;exact Pb.frozen hj
     ·refine .inr ⟨w.heap.size,0,0,grownCap w (0+m) 0 e,Af _ _ _,by rw[Nat.zero_add],.inl rfl,by omega,?_,by rw[Pb.size];omega⟩
      exact⟨by rw[Pb.bsz,GH];omega,.inr (Gw w.drew _ e)⟩
   ·rw[Wt] at WF;cases WF
   ·rw[Wt] at WF;cases WF
 ·cases hk
theorem IQ (h:Bp N w0 X0 Y β s a w){c:Call}(ho:o.op=.call c)(hc:c.callee=.builtin .copy){b x:Operand}(C3:c.args.toList=[b,x]) {t tx:TypeId}{ts:List TypeId}(Tq:c.argTypes.toList=t::tx::ts)
  {K:St->Option R} (hk:Yv P N s o.dst t tx (A8 s.tm b) (A8 s.tm x) K=some r):
  ∃s',K s'=some r∧∀(next:Act->World->Prop) (Q:Exit->Act->World->Prop),(∀a' w' β',Bp N w0 X0 Y β' s' a' w'->next a' w')->o.wp P a w next Q:=by
 have V7:c.args = #[b,x]:=by
  have:c.args=([b,x]:List Operand).toArray:=by rw[←C3]
  exact this
 have DB:c.argTypes=(t::tx::ts).toArray:=by rw[←Tq]
 have run:∀{v:Value} {w1:World},(Builtin.copy_ (t::tx::ts).toArray o.type #[a.eval b,a.eval x]).run P w=.ok v w1->∀(next:Act->World->Prop) (Q:Exit->Act->World->Prop),next (a.put o.dst v) w1->o.wp P a w next Q:=by
  intro v w1 hr next Q hn;unfold Oper.wp execOp;rw[ho];simp only[resolve,hc,invoke,builtin,Sem.run_bind,Sem.run_pure,Result.andThen_ok,V7,DB];have:(#[b,x]:Array Operand).map a.eval = #[a.eval b,a.eval x]:=by simp
  rw[this,hr];exact hn
 have hbv:=Bs h b;unfold Yv at hk;split at hk
 ·rename_i e hu;obtain⟨NF,hk⟩:=Ae hk;simp only[Bool.and_eq_true] at NF;obtain⟨Jy,IA⟩:=NF;obtain⟨i,hi⟩:∃i,P.info? e=some i:=Option.isSome_iff_exists.1 Jy;have Ik:Aq P e=i.size:=by unfold Aq;rw[hi];rfl
  have h1c:∀(m:Nat) (new:List PV),(match A8 s.tm b with
    |.view id es off n=>
     match s.hp id with
     |some (.ar false c)=>As (Nat.beq es (Aq P e)&&decide (off+n*es<=c.length)&&decide (new.length=m*es))
       (Ab (min m n) fun k=>Ab (A0 c (new.take (k*es)) off) fun c=>K ⟨Az s.tm o.dst (.sc (.int .i64 k)),Bh s.hp id (some (.ar false c))⟩)
     |_=>none
    |_=>none)=some r->new.length=m*Aq P e:=by
   intro m new hk;split at hk
   ·split at hk
    ·obtain⟨hb,_⟩:=Ae hk;simp only[Bool.and_eq_true,decide_eq_true_eq] at hb;rw[←Nat.eq_of_beq_eq_true hb.1.1];exact hb.2
    ·cases hk
   ·cases hk
  obtain⟨_,m,new,news,hk,hs⟩:=Uv h hk h1c;split at hk
  ·rename_i id es off n hb;rw[hb] at hbv;split at hk
   ·rename_i cc h0;obtain⟨hb,hk⟩:=Ae hk;simp only[Bool.and_eq_true,decide_eq_true_eq] at hb;obtain⟨⟨Py,Sy⟩,VY⟩:=hb;have Py:=Nat.eq_of_beq_eq_true Py;subst Py;rw[Ik] at hk hs Sy VY hbv;have S7:news.length=m*i.size:=by rw[←hs.rep.len];exact VY
    have WQ:min m n*i.size<=m*i.size:=Nat.mul_le_mul_right _ (Nat.min_le_left _ _);have hkn:min m n*i.size<=n*i.size:=Nat.mul_le_mul_right _ (Nat.min_le_right _ _);have Hp:K ⟨Az s.tm o.dst (.sc (.int .i64 ((min m n:Nat):Int))),Bh s.hp id (some (.ar false (A0 cc (new.take (min m n*i.size)) off)))⟩=some r:=hk;refine⟨_,Hp,fun next Q hn=>?_⟩
    have YZ:∀{β':Bt} {Bq:Nat->Option A1} {w':World},Bp N w0 X0 Y β' ⟨s.tm,Bq⟩ a w'->Bp N w0 X0 Y β' ⟨Az s.tm o.dst (.sc (.int .i64 ((min m n:Nat):Int))),Bq⟩ (a.put o.dst (goInt ((min m n:Nat):Int))) w':=
     fun hh=>hh.put IA (Ao.sc _) (fun _ hx=>by cases hx)
    have UX:new.take (min m n*i.size)=[]->Bh s.hp id (some (.ar false (A0 cc (new.take (min m n*i.size)) off)))=s.hp:=by
     intro e;rw[e];refine Pr _ ?_;rw[h0];simp[A0]
    have nothing:min m n*i.size=0->∀(ad:Option Addr) (cap:Nat),a.eval b=.slice ad n cap->o.wp P a w next Q:=by
     intro e ad cap J6;have hr:=EN (P:=P) (w:=w) (w1:=w) (t:=t) (ty:=o.type) (ts:=tx::ts) (ad:=ad) (n:=n) (cap:=cap) hu hi hs (by rw[e];cases ad<;>simp[storeCells])
     rw[←J6] at hr;refine run hr next Q (hn _ _ β (YZ ?_));rw[UX (by rw[e,List.take_zero])]
     exact h
    rcases hbv with⟨hβ,_,rfl,ad,J6⟩|⟨bb,ob,y,cap,hβ,J6,hy,KG,Nv,TB⟩
    ·exact nothing (by simp) ad 0 J6
    ·by_cases WD:min m n*i.size=0
     ·exact nothing WD _ _ J6
     rcases h.box id _ h0 with⟨Dl,_⟩|⟨b',o',Dl,Hq,BJ,_⟩
     ·rw[hβ] at Dl;cases Dl
     rw[hβ] at Dl;simp at Dl;obtain⟨rfl,rfl⟩:=Dl;have GC:n≠0:=by rintro rfl;simp at WD
     have hy:y=ob+off:=by rcases hy with hy|⟨hq,_⟩<;>first|exact absurd hq GC|exact hy
     subst hy;have Bk:(news.take (min m n*i.size)).length=min m n*i.size:=by rw[List.length_take,S7];omega
     have hcell:∀k,k<(news.take (min m n*i.size)).length->(w.cell? ⟨bb,ob+off+k,none⟩).isSome=true:=by
      intro k hk;obtain⟨v,hv,_⟩:=Hq (off+k) _ (List.getElem?_eq_getElem (by omega))
      rw[B6] at hv;rw[Nat.add_assoc,hv];rfl
     have WC:∀k,k<(news.take (min m n*i.size)).length->w.frozen? ⟨bb,ob+off+k,none⟩=false:=fun k hk=>by
      obtain⟨u,hu⟩:=Option.isSome_iff_exists.1 (hcell k hk);exact BJ rfl _ (by omega) (Qd hu)
     have h1:∀u∈news.take (min m n*i.size),u.oneCell'=true:=fun u hu=>hs.one u (List.mem_of_mem_take hu)
     have h3:=run_storeCells_cells (P:=P) bb (ob+off) (news.take (min m n*i.size)) 0 w (fun k hk=>by simpa using hcell k hk) (fun k hk=>by simpa using WC k hk) h1
     have hr:=EN (P:=P) (w:=w) (t:=t) (ty:=o.type) (ts:=tx::ts) (ad:=some ⟨bb,ob+off,none⟩) (n:=n) (cap:=cap) hu hi hs h3;rw[←J6] at hr;simp only[Nat.add_zero] at hr;refine run hr next Q (hn _ _ β (YZ ?_))
     refine h.write h0 trivial trivial hβ (Bc.setCells bb _ _ w) ?_ (fun cells hx=>by cases hx) (fun _ hx=>by cases hx) (fun j hj=>hj) (fun j hj=>by
      refine World.cell?_setCells_out bb _ _ w ⟨bb,j,none⟩ (fun _ _=>?_)
      have hj:¬(ob<=j):=hj;show j<ob+off∨ob+off+_<=j;omega)
     have I5:Bb (Bv s.hp β Y) w (w.setCells bb (ob+off) (news.take (min m n*i.size))):=by
      have hw:=Bc.setCells bb (news.take (min m n*i.size)) (ob+off) w;have VN:Bv s.hp β Y bb:=.inl ⟨id,ob,by rw[h0];trivial,hβ⟩
      exact⟨by rw[hw.size];exact Nat.le_refl _,fun k _ hk=>hw.other k (fun e=>hk (e ▸ VN)),fun k _=>hw.grow k⟩
     have hll:(new.take (min m n*i.size)).length=min m n*i.size:=by rw[List.length_take,VY];omega
     refine .inr ⟨bb,ob,hβ,fun j p hj=>?_,fun _ j hj I8=>?_,(fun x=>by cases x)⟩
     ·rw[B6];rcases K3 (by omega) hj with⟨h3,h4,h5⟩|⟨h3,h5⟩
      ·have Aep:j-off<min m n*i.size:=by omega
       rw[List.getElem?_take_of_lt Aep] at h5;obtain⟨u,hu,hcu⟩:=hs.rep.get h5;have QH:j-off<(news.take (min m n*i.size)).length:=by omega
       refine⟨u,?_,hs.one u (List.mem_of_getElem? hu),hcu.step I5 (fun _ _ x=>x)⟩
       have:=World.cell?_setCells_in bb (news.take (min m n*i.size)) (ob+off) w hcell (j-off) QH;rw[show ob+j=ob+off+(j-off) from by omega,this]
       rw[←List.getElem?_eq_getElem QH,List.getElem?_take_of_lt Aep];exact hu
      ·obtain⟨v,hv,h6,Ta⟩:=Hq j p h5;rw[B6] at hv;refine⟨v,?_,h6,Ta.step I5 (fun _ _ x=>x)⟩
       rw[World.cell?_setCells_out bb _ _ w ⟨bb,ob+j,none⟩ (fun _ _=>by show ob+j<ob+off∨ob+off+_<=ob+j;omega)]
       exact hv
     ·rw[(Bc.setCells bb _ _ w).bs] at I8;rw[(Bc.setCells bb _ _ w).frz];exact BJ rfl j hj I8
   ·cases hk
  ·cases hk
 ·cases hk
theorem IW (h:Bp N w0 X0 Y β s a w){G:Glo}(G9:FQ P G w0 X0){C:Eg}{call:Al}(Ce:∀f args res,call f args=some res->Db G P f args res){K:St->Option R}(hk:Nw C P N call s o K=some r):
  ∃s',K s'=some r∧∀(next:Act->World->Prop) (Q:Exit->Act->World->Prop),(∀a' w' β',Bp N w0 X0 Y β' s' a' w'->next a' w')->o.wp P a w next Q:=by
 unfold Nw at hk;split at hk
 ·rename_i t x y ho;obtain⟨hd,hk⟩:=Ae hk;exact ER h ho (by simpa using hd) hk
 ·rename_i c ho;split at hk
  ·rename_i hc;obtain⟨d,hd,Ck⟩:=Bl hk;obtain⟨b,xs,Wv,C9⟩:=Ap Ck;obtain⟨x,ys,hys,K2⟩:=Ap C9;obtain⟨Sh,Uo⟩:=B1 K2;obtain⟨t,us,PL,WA⟩:=Ap Uo;obtain⟨tx,vs,F7,hk6⟩:=Ap WA;rw[hys,Sh] at Wv;rw[F7] at PL;exact BI h ho hc hd Wv PL hk6
  ·rename_i hc;obtain⟨b,xs,Wv,C9⟩:=Ap hk;obtain⟨x,ys,hys,K2⟩:=Ap C9;obtain⟨Sh,Uo⟩:=B1 K2;obtain⟨t,us,PL,WA⟩:=Ap Uo;obtain⟨tx,vs,F7,hk6⟩:=Ap WA;rw[hys,Sh] at Wv;rw[F7] at PL;exact IQ h ho hc Wv PL hk6
  ·rename_i f hc;exact DT h G9 Ce ho hc hk
  ·cases hk
 ·cases hk
theorem HR (h:Bp N w0 X0 Y β s a w){G:Glo}(G9:FQ P G w0 X0){C:Eg}{call:Al}(Ce:∀f args res,call f args=some res->Db G P f args res){K:St->Option R}(hk:CG C P N call o s K=some r):
  ∃s',K s'=some r∧∀(next:Act->World->Prop) (Q:Exit->Act->World->Prop),(∀a' w' β',Bp N w0 X0 Y β' s' a' w'->next a' w')->o.wp P a w next Q:=by
 unfold CG at hk;cases hm:K9 C P o.op
 ·rw[hm] at hk;exact GI h G9 Ce hk
 ·rw[hm] at hk;exact IW h G9 Ce hk
end
end
end Go.Proofs.Yteicjnihnacadaa.Pv
