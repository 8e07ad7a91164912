/-
  The proof of AccountNames, part 2.
-/
import Derived.Test.YteicjnihnacadaaNA
import Derived.Laws.Append
import Derived.IntWalk
import Derived.Laws.AppendOwn
import Derived.Laws.IdiomCopy
set_option linter.unusedSimpArgs false
set_option linter.unusedVariables false
namespace Go.Proofs.Yteicjnihnacadaa.Pv
section
open Go.RowKit
def E2 (w:World)(A:Nat->Prop)(own:Option (Nat × Nat)) (p:PV)(u:Value):Prop:=
 match p with
 |.own es n c=>(own=none∧n=0∧c=[]∧∃ad,u=.slice ad 0 0) ∨
   ∃b o cap,own=some (b,o)∧u=.slice (some ⟨b,o,none⟩) n cap∧n<=cap∧Fit w es b (o+cap*es)∧b<w.heap.size∧EC w A ⟨b,o,none⟩ c∧∀j,o<=j->j<bsz w b->w.frozen? ⟨b,j,none⟩=false
 |p=>Ap w A p u
def Ds (w:World)(A:Nat->Prop)(own:Bt):Nat->List PV->List Value->Prop
 |_,[],[]=>True
 |j,p::ps,u::us=>E2 w A (own j) p u∧Ds w A own (j+1) ps us
 |_,_,_=>False
def XW (w:World)(A:Nat->Prop)(own:Bt)(j b o:Nat)(cs:List PV):Prop:=
 ∃vs,Ds w A own j cs vs∧(∀(k:Nat) v,vs[k]?=some v->w.cell? ⟨b,o+k,none⟩=some v)∧∀k,k<cs.length->w.frozen? ⟨b,o+k,none⟩=false
def YY (w:World)(A:Nat->Prop)(own:Bt)(z j:Nat)(p:PV)(u:Value):Prop:=
 match p with
 |.agg cs=>∃vs,u=.agg ⟨vs⟩∧Ds w A own j cs vs
 |.pbox cs=>∃b o,own j=some (b,o)∧z<=b∧u=.pointer (some ⟨b,o,none⟩)∧XW w A own (j+1) b o cs
 |p=>E2 w A (own j) p u
def OV:PV->Nat
 |.pbox cs=>1+cs.length
 |p=>(cellsOf p).length
def MW (w:World)(A:Nat->Prop)(own:Bt)(z:Nat):Nat->List PV->List Value->Prop
 |_,[],[]=>True
 |j,p::ps,u::us=>YY w A own z j p u∧MW w A own z (j+OV p) ps us
 |_,_,_=>False
abbrev Vi:=Nat->Nat->Option (Nat × Nat)
def RJ (bt:Vi)(b:Nat):Prop:=∃i j o,bt i j=some (b,o)
def isA (p:PV):Prop:=P4 p∨∃es n c,p=.own es n c
def Sv (p:PV):Bool:=
 match p with
 |.pbox _=>true
 |.tup _=>true
 |_=>false
theorem XR {p:PV}(h:isA p):Sv p=false:=by
 rcases h with h|⟨_,_,_,rfl⟩
 ·cases p<;>first|rfl|exact h.elim
 ·rfl
def GM (w:World)(A:Nat->Prop)(bt:Bt)(p:PV)(u:Value):Prop:=
 match p with
 |.pbox ps=>∃b o,bt 0=some (b,o)∧u=.pointer (some ⟨b,o,none⟩)∧(∀p∈ps,isA p)∧XW w A bt 1 b o ps
 |.tup ps=>∃es n c,ps=[.own es n c]∧E2 w A (bt 0) (.own es n c) u
 |.agg cs=>∃vs,u=.agg ⟨vs⟩∧(∀p∈cs,isA p)∧Ds w A bt 1 cs vs
 |p=>isA p∧E2 w A (bt 1) p u
def Ja (w:World)(A:Nat->Prop)(bt:Vi):Nat->List PV->List Value->Prop
 |_,[],[]=>True
 |i,p::ps,u::us=>GM w A (bt i) p u∧Ja w A bt (i+1) ps us
 |_,_,_=>False
def Ad8 (bt:Bt)(p:PV)(b j:Nat):Prop:=
 (∃k o,bt (k+1)=some (b,o)∧o<=j)∨∃o ps,bt 0=some (b,o)∧o<=j∧((p=.pbox ps∧j<o+ps.length)∨p=.tup ps)
def Zy (bt:Vi)(args:List PV)(b j:Nat):Prop:=∃i p,args[i]?=some p∧Ad8 (bt i) p b j
def G1 (w:World)(A:Nat->Prop)(own:Bt)(bt:Vi):Nat->Nat->List PV->List (List PV)->Prop
 |_,_,[],r=>r=[]
 |j,i,p::zs,r=>
  match p with
  |.pbox ps=>
   match r with
   |[]=>False
   |cs::r=>(∃b o,bt i 0=some (b,o)∧cs.length=ps.length∧XW w A own j b o cs)∧G1 w A own bt (j+cs.length) (i+1) zs r
  |.tup _=>
   match r with
   |[]=>False
   |cs::r=>((bt i 0=none∧cs=[])∨∃b o,bt i 0=some (b,o)∧EC w A ⟨b,o,none⟩ cs∧∀k,o<=k->k<bsz w b->w.frozen? ⟨b,k,none⟩=false)∧G1 w A own bt j (i+1) zs r
  |_=>G1 w A own bt j (i+1) zs r
def Ti (bt:Vi)(own:Bt)(Y:Nat->Prop)(b:Nat):Prop:=(∃j o,own j=some (b,o))∨(∃i o,bt i 0=some (b,o))∨Y b
def Ld (vals:List PV):Nat:=(vals.map OV).sum
structure Out (w w':World) (Y:Nat->Prop) (bt:Vi) (args:List PV) (own:Bt) (r:Bc) (vs:List Value):Prop where
 os:w'.os=w.os
 tape:w'.tape=w.tape
 output:w'.output=w.output
 ext:Ba (RJ bt) w w'
 rng:∀b j,b<w.heap.size->¬Zy bt args b j->w'.cell? ⟨b,j,none⟩=w.cell? ⟨b,j,none⟩∧w'.frozen? ⟨b,j,none⟩=w.frozen? ⟨b,j,none⟩
 vals:MW w' (Ti bt own Y) own w.heap.size 0 r.vals vs
 outs:G1 w' (Ti bt own Y) own bt (Ld r.vals) 0 args r.outs
 fresh:∀j b o,own j=some (b,o)->b<w'.heap.size∧(b<w.heap.size->(∃i k o',bt i (k+1)=some (b,o'))∧∀x,o<=x->Zy bt args b x)
 inj:∀j j' b o o',own j=some (b,o)->own j'=some (b,o')->j=j'
def Gf (us:List Value):Value:=match us with|[u]=>u|us=>.tuple ⟨us⟩
def M3 (w:World)(Y:Nat->Prop)(p:PV)(u:Value):Prop:=
 match p with
 |.agg cs=>∃vs,u=.agg ⟨vs⟩∧Au (fun c v=>P4 c∧Ap w Y c v) cs vs
 |p=>P4 p∧Ap w Y p u
structure Ins (w:World) (Y:Nat->Prop) (bt:Vi) (args:List PV) (us:List Value):Prop where
 Ylt:∀b,Y b->b<w.heap.size
 Yx:∀b,Y b->¬RJ bt b
 lt:∀b,RJ bt b->b<w.heap.size
 inj:∀i j i' j' b o o',bt i j=some (b,o)->bt i' j'=some (b,o')->i=i'∧j=j'
 l0:∀i q,bt i 0=some q->∃p,args[i]?=some p∧Sv p=true
 args:Ja w (fun b=>RJ bt b∨Y b) bt 0 args us
structure Glo where
 bl:Nat->Prop
 ok:World->Prop
 stable:∀w w':World,(∀b,bl b->b<w.heap.size->w'.heap[b]?=w.heap[b]?)->ok w->ok w'
def Dr (G:Glo)(P:Program)(f:FuncId)(args:List PV)(r:Bc):Prop:=
 (∃fn,P.funcs[f]?=some fn∧fn.body.isSome=true)∧∀(w:World)(Y:Nat->Prop)(bt:Vi)(us:List Value),Ins w Y bt args us->G.ok w->(∀b,G.bl b->b<w.heap.size∧¬RJ bt b) ->
  Calls P f us.toArray w fun e w'=>∃vs own,e=.returned (Gf vs)∧Out w w' Y bt args own r vs
def VV:Vi:=fun _ _=>none
theorem Wz (b:Nat):¬RJ VV b:=by rintro⟨_,_,_,h⟩;cases h
theorem Ib {w:World}{A:Nat->Prop}{q:Option (Nat × Nat)} {p:PV}{u:Value}(hp:P4 p)(h:Ap w A p u):E2 w A q p u:=by
 cases p<;>first|exact h|exact hp.elim
theorem Vb {w:World}{A:Nat->Prop}{own:Bt}:∀{cs:List PV}{vs:List Value}{j:Nat},Au (fun c v=>P4 c∧Ap w A c v) cs vs->Ds w A own j cs vs
 |[],[],_,_=>trivial
 |_::_,_::_,_,h=>⟨Ib h.1.1 h.1.2,Vb h.2⟩
 |[],_::_,_,h=>h.elim
 |_::_,[],_,h=>h.elim
theorem PD {w:World}{A:Nat->Prop}{bt:Bt}{p:PV}{u:Value}(h:M3 w A p u):GM w A bt p u:=by
 cases p with
 |agg cs=>
  obtain⟨vs,h1,h2⟩:=h;refine⟨vs,h1,fun p hp=>.inl ?_,Vb h2⟩
  obtain⟨j,hj⟩:=List.mem_iff_getElem?.1 hp;obtain⟨v,_,hv⟩:=h2.get hj;exact hv.1
 |sc v=>exact⟨.inl trivial,h.2⟩
 |lst z es n c=>exact⟨.inl trivial,h.2⟩
 |_=>exact h.1.elim
theorem Wk {w:World}{A:Nat->Prop}{bt:Vi}:∀{ps:List PV}{us:List Value}{i:Nat},Au (M3 w A) ps us->Ja w A bt i ps us
 |[],[],_,_=>trivial
 |_::_,_::_,_,h=>⟨PD h.1,Wk h.2⟩
 |[],_::_,_,h=>h.elim
 |_::_,[],_,h=>h.elim
theorem QR {w:World}{A A':Nat->Prop}(hA:∀b,b<w.heap.size->A' b->A b){p:PV}{v:Value}(h:M3 w A p v):M3 w A' p v:=by
 cases p with
 |agg cs=>
  obtain⟨vs,rfl,h2⟩:=h;exact⟨vs,rfl,h2.mono fun c v hc=>⟨hc.1,hc.2.step (Ba.refl _ _) hA⟩⟩
 |sc v=>exact⟨h.1,h.2.step (Ba.refl _ _) hA⟩
 |lst z es n c=>exact⟨h.1,h.2.step (Ba.refl _ _) hA⟩
 |_=>exact h.1.elim
theorem EV {w:World}{Y:Nat->Prop}{args:List PV}{us:List Value}(hY:∀b,Y b->b<w.heap.size)(h:Au (M3 w Y) args us):Ins w Y VV args us:=
 ⟨hY,fun b _=>Wz b,fun b h=>absurd h (Wz b),(fun _ _ _ _ _ _ _ h=>by cases h),(fun _ _ h=>by cases h),Wk (h.mono fun _ _ hx=>QR (fun b _ hb=>hb.elim (fun q=>absurd q (Wz b)) id) hx)⟩
def NoNG (P:Program):Prop:=∀(f:FuncId) (fn:Func),P.funcs[f]?=some fn->(fn.name == "runtime.NumGoroutine")=false
structure FX (P:Program) (G:Glo) (w0:World) (X0:Ft):Prop where
 ng:NoNG P
 fr:∀w,Fr X0 w0 w->G.ok w
 y:∀b,G.bl b->b<w0.heap.size∧¬X0.X b
section
variable {R:Type} {r:R} {P:Program} {N:Nat} {w0:World} {X0:Ft} {Y:Nat->Prop} {β β':Bt} {s:St} {a:Act} {w w':World} {o:Oper} {A:Nat->Prop}
def Wn (P:Program)(a:Act)(w:World)(o:Oper)(Y:Nat->Prop)(β:Bt)(s:St)(v:PV)(fz:List Nat)(nw:List (Nat × A1)):Prop:=
 (∀id∈fz,∃f c,s.hp id=some (.ar f c))∧∀(next:Act->World->Prop)(Q:Exit->Act->World->Prop),
  (∀val w',(A3 s.hp nw=true->∃β',AS Y β ⟨s.tm,Ac s.hp fz⟩ w v nw val w' β')->next (a.put o.dst val) w')->o.wp P a w next Q
theorem Xc {v:PV}{fz:List Nat}{nw:List (Nat × A1)} (h:C5 P a w o Y β s v fz nw):Wn P a w o Y β s v fz nw:=by
 obtain⟨h1,val,w',hr,hs⟩:=h;refine⟨h1,fun next Q hn=>?_⟩
 unfold Oper.wp;rw[hr];exact hn val w' hs
theorem RT (h:Br N w0 X0 Y β s a w){t:TypeId}{x:PV}{u:Value}(hx:C1 w (Bz s.hp β Y) β x u) {K:PV->List Nat->Option R}(hk:JH P (Hd s.hp) t x K=some r):
  ∃p m,K p m=some r∧(∀id∈m,∃f cc,s.hp id=some (.ar f cc))∧(cellsOf p).length=(Fy P t).length∧∀fz:List Nat,(∀id∈m,id∈fz)->(∀id∈fz,∃f cc,s.hp id=some (.ar f cc))->M3 w (Bz (Ac s.hp fz) β Y) p u:=by
 unfold JH at hk;cases Ed:A7 P t
 ·rw[Ed] at hk;obtain⟨cs,m,hk,hl,He,hT,hF,hm,hv⟩:=Mj h (show Kf _ _ _ _=some r from hk)
  obtain⟨c,t',rfl,hk⟩:=Ar hk;obtain⟨rfl,hk⟩:=B7 hk;have hcT:=hT c (by simp)
  refine⟨c,m,hk,hm,?_,fun fz h1 h2=>?_⟩
  ·have:cellsOf c=[c]:=by cases c<;>first|rfl|exact hcT.elim
   rw[this];exact hl
  have hF':=hF _ (List.mem_singleton_self _)
  have hc:A6 w (Bz s.hp β Y) β x u:=by
   cases x<;>first|exact hx|exact hF'.elim
  have h3:=(hv fz h1 h2 [u] ⟨hc,trivial⟩).1.1;cases c<;>first|exact⟨trivial,h3⟩|exact hcT.elim
 ·rw[Ed] at hk;obtain⟨ps,hp,hk⟩:=Fg (show E7 _ _=some r from hk)
  rw[hp] at hx;obtain⟨cs,m,hk,hl,He,hT,hF,hm,hv⟩:=Mj h hk;obtain⟨vs,B0,h2⟩:=hx;refine⟨.agg cs,m,hk,hm,hl,fun fz h1 h3=>⟨vs,B0,?_⟩⟩
  exact (hv fz h1 h3 vs h2).1.mono_mem fun c hc v Va=>⟨hT c hc,Va⟩
theorem TS (h:Br N w0 X0 Y β s a w){t:TypeId}{x:Operand}{K:PV->List Nat->Option R}(hk:JH P (Hd s.hp) t (A8 s.tm x) K=some r):
  ∃p m,K p m=some r∧(∀id∈m,∃f cc,s.hp id=some (.ar f cc))∧∀fz:List Nat,(∀id∈m,id∈fz)->(∀id∈fz,∃f cc,s.hp id=some (.ar f cc))->M3 w (Bz (Ac s.hp fz) β Y) p (a.eval x):=by
 obtain⟨p,m,h1,h2,_,h3⟩:=RT h (Bv h x) hk;exact⟨p,m,h1,h2,h3⟩
theorem AB (h:Br N w0 X0 Y β s a w):∀{ts:List TypeId}{xs:List Operand}{K:List PV->List Nat->Option R},Xd P (Hd s.hp) ts (xs.map (A8 s.tm)) K=some r ->
  ∃ps m,K ps m=some r∧(∀id∈m,∃f cc,s.hp id=some (.ar f cc))∧∀fz:List Nat,(∀id∈m,id∈fz)->(∀id∈fz,∃f cc,s.hp id=some (.ar f cc))->Au (M3 w (Bz (Ac s.hp fz) β Y)) ps (xs.map a.eval)
 |[],[],K,hk=>⟨[],[],hk,by simp,fun _ _ _=>trivial⟩
 |[],_::_,K,hk=>by cases hk
 |_::_,[],K,hk=>by cases hk
 |t::ts,x::xs,K,hk=>by
  simp only[List.map_cons] at hk;unfold Xd at hk;obtain⟨p,m,hk,hm,hv⟩:=TS h hk;obtain⟨ps,ms,hk,W7,G8⟩:=AB h hk;refine⟨p::ps,m++ms,hk,?_,fun fz h1 h2=>⟨hv fz (fun i hi=>h1 i (by simp[hi])) h2,G8 fz (fun i hi=>h1 i (by simp[hi])) h2⟩⟩
  intro i hi;rcases List.mem_append.1 hi with hi|hi
  ·exact hm i hi
  ·exact W7 i hi
theorem M3.weaken {A':Nat->Prop}(hA:∀b,b<w.heap.size->A' b->A b){p:PV}{v:Value}(h:M3 w A p v):M3 w A' p v:=by
 have one:P4 p->P4 p∧Ap w A p v->M3 w A' p v:=by
  intro hp h;cases p<;>first|exact⟨h.1,h.2.step (Ba.refl _ _) hA⟩|exact hp.elim
 cases p with
 |agg cs=>
  obtain⟨vs,rfl,h2⟩:=h;exact⟨vs,rfl,h2.mono fun c v hc=>⟨hc.1,hc.2.step (Ba.refl _ _) hA⟩⟩
 |_=>exact one h.1 h
theorem VL {t:CT}{p:PV}{K:PV->Option R}(h:T0 t p K=some r):
  ∃c,K c=some r∧P4 c∧P4 p∧(∀(w:World) (A:Nat->Prop) (β:Nat->Option (Nat × Nat)) (v:Value),A6 w A β p v->Ap w A c v∧v.oneCell'=true)∧((∀es,t ≠ .sl es)->∃v,c=.sc v):=by
 obtain⟨c,hk,hT,Yf,hv⟩:=Jo h;cases t with
 |sl es=>exact⟨c,hk,hT,Yf,hv,fun Ie=>absurd rfl (Ie es)⟩
 |int k=>obtain⟨n,rfl,h2⟩:=C9 h;exact⟨_,h2,trivial,trivial,fun w A β v hv=>⟨hv,by have:=Ap.val (w:=w) (A:=A) hv;subst this;rfl⟩,fun _=>⟨_,rfl⟩⟩
 |bool=>obtain⟨n,rfl,h2⟩:=Cg h;exact⟨_,h2,trivial,trivial,fun w A β v hv=>⟨hv,by have:=Ap.val (w:=w) (A:=A) hv;subst this;rfl⟩,fun _=>⟨_,rfl⟩⟩
 |str=>obtain⟨n,rfl,h2⟩:=Cf h;exact⟨_,h2,trivial,trivial,fun w A β v hv=>⟨hv,by have:=Ap.val (w:=w) (A:=A) hv;subst this;rfl⟩,fun _=>⟨_,rfl⟩⟩
 |any=>
  obtain⟨f,a,b,rfl,h2⟩:=CJ (show RD p (fun v=>K (.sc v))=some r from h)
  exact⟨_,h2,trivial,trivial,fun w A β v hv=>⟨hv,by have:=Ap.val (w:=w) (A:=A) hv;subst this;rfl⟩,fun _=>⟨_,rfl⟩⟩
theorem O6 (shr:Bool)(N:Nat):∀{ts:List CT}{ps:List PV}{id:Nat}{K:List PV->List (Nat × A1)->Option R},Mf shr N id ts ps K=some r ->
  ∃cs bs,K cs bs=some r∧ps.length=ts.length∧(∀p∈ps,∀x,p ≠ .agg x∧p ≠ .pbox x)∧(∀c∈cs,Yt c)∧((∀es,CT.sl es ∉ ts)->bs=[]∧∀c∈cs,∃v,c=.sc v) ∧
   (∀i bx,(i,bx)∈bs->∃j es n c,ps[j]?=some (.own es n c)∧i=id+N*j∧bx=.ar false c) ∧
   (∀c∈cs,∀i∈Aj c,∃bx,(i,bx)∈bs) ∧
   ∀(w:World) (A:Nat->Prop) (own β':Bt) (j0:Nat) (us:List Value),(∀j,(∃bx,(id+N*j,bx)∈bs)->β' (id+N*j)=own (j0+j))->Ds w A own j0 ps us->Au (A6 w A β') cs us
 |[],ps,id,K,hk=>by
  obtain⟨rfl,hk⟩:=B7 hk;refine⟨[],[],hk,rfl,by simp,by simp,by simp,by simp,by simp,fun w A own β' j0 us _ h=>?_⟩
  cases us with
  |nil=>trivial
  |cons u us=>exact h.elim
 |t::ts,ps,id,K,hk=>by
  unfold Mf at hk;obtain⟨p,ps',Yp,Cs⟩:=Ar hk;subst Yp;clear hk
  have main:∃c b,(Mf shr N (id+N) ts ps' fun cs bs=>K (c::cs) (b++bs))=some r∧(∀x,p ≠ .agg x∧p ≠ .pbox x)∧Yt c∧((∀es,t≠CT.sl es)->b=[]∧∃v,c=.sc v)∧(∀i bx,(i,bx)∈b->∃es n cc,p=.own es n cc∧i=id∧bx=.ar false cc)∧(∀i∈Aj c,∃bx,(i,bx)∈b) ∧
    ∀(w:World) (A:Nat->Prop) (own:Option (Nat × Nat)) (β':Bt) (u:Value),((∃bx,(id,bx)∈b)->β' id=own)->E2 w A own p u->A6 w A β' c u:=by
   have tree:∀t',t'=t->(T0 t' p fun c=>Mf shr N (id+N) ts ps' fun cs bs=>K (c::cs) ([]++bs))=some r->∃c b,(Mf shr N (id+N) ts ps' fun cs bs=>K (c::cs) (b++bs))=some r∧(∀x,p ≠ .agg x∧p ≠ .pbox x)∧Yt c∧((∀es,t≠CT.sl es)->b=[]∧∃v,c=.sc v)∧(∀i bx,(i,bx)∈b->∃es n cc,p=.own es n cc∧i=id∧bx=.ar false cc)∧(∀i∈Aj c,∃bx,(i,bx)∈b) ∧
     ∀(w:World) (A:Nat->Prop) (own:Option (Nat × Nat)) (β':Bt) (u:Value),((∃bx,(id,bx)∈b)->β' id=own)->E2 w A own p u->A6 w A β' c u:=by
    intro t' ht' hk;have HV:=VL hk;obtain⟨c,hk,hT,Yf,hv,HV⟩:=HV;refine⟨c,[],hk,fun x=>⟨Rj Yf x,by rintro rfl;exact Yf⟩,Ms hT,fun Ie=>⟨rfl,HV (fun es e=>Ie es (ht'.symm.trans e))⟩,by simp,by rw[Fk hT];simp,fun w A own β' u _ hc=>?_⟩
    have M4:A6 w A β' p u:=by cases p<;>first|exact hc|exact Yf.elim
    exact (Iv hT).2 (hv w A β' u M4).1
   unfold UC at Cs;cases t with
   |sl es=>
    dsimp only at Cs;cases shr
    ·unfold Ml at Cs;simp only[cond_false] at Cs;split at Cs
     ·rename_i es' n c;cases hb:Nat.beq es' es
      ·rw[hb] at Cs;cases Cs
      ·rw[hb] at Cs;have:=Nat.eq_of_beq_eq_true hb;subst this;refine⟨_,_,Cs,by simp,trivial,fun Ie=>absurd rfl (Ie _),?_,?_,fun w A own β' u hβ hc=>?_⟩
       ·intro i bx hm;simp at hm;exact⟨_,_,_,rfl,hm.1,hm.2⟩
       ·intro i hi;simp[Aj] at hi;subst hi;exact⟨.ar false c,by simp⟩
       ·have hβ':=hβ ⟨.ar false c,by simp⟩
        clear hβ;rcases hc with⟨h1,rfl,rfl,h4⟩|⟨b,ob,cap,h1,h2,h3,h4,h5,_⟩
        ·exact .inl ⟨hβ'.trans h1,rfl,rfl,h4⟩
        ·exact .inr ⟨b,ob,ob,cap,hβ'.trans h1,h2,.inl rfl,h3,h4,h5⟩
     ·cases Cs
    ·obtain⟨c,hk,hT,Yf,hv,_⟩:=VL (t:=.sl es) (p:=p) (K:=fun c=>Mf true N (id+N) ts ps' fun cs bs=>K (BG c::cs) ([]++bs)) Cs
     have hU:P4 (BG c):=by cases c<;>exact hT
     refine⟨BG c,[],hk,fun x=>⟨Rj Yf x,by rintro rfl;exact Yf⟩,Ms hU,fun Ie=>absurd rfl (Ie _),by simp,by rw[Fk hU];simp,fun w A own β' u _ hc=>?_⟩
     have M4:A6 w A β' p u:=by cases p<;>first|exact hc|exact Yf.elim
     refine (Iv hU).2 ?_;have:=(hv w A β' u M4).1;cases c with
     |lst z es n c=>exact Ap.unz this
     |_=>exact this
   |int k=>exact tree (.int k) rfl Cs
   |bool=>exact tree .bool rfl Cs
   |str=>exact tree .str rfl Cs
   |any=>exact tree .any rfl Cs
  obtain⟨c,b,hk,hpa,hF,HK,D7,Iz,Va⟩:=main;obtain⟨cs,bs,hk,hl,Ajf,hFs,Ael,Aix,Ame,Am4⟩:=O6 shr N hk;refine⟨c::cs,b++bs,hk,by simp[hl],?_,?_,?_,?_,?_,fun w A own β' j0 us hβ hoc=>?_⟩
  ·intro x hx;rcases List.mem_cons.1 hx with rfl|hx
   ·exact hpa
   ·exact Ajf x hx
  ·intro x hx;rcases List.mem_cons.1 hx with rfl|hx
   ·exact hF
   ·exact hFs x hx
  ·intro Ie;obtain⟨h1,v,h2⟩:=HK (fun es e=>Ie es (by rw[e];simp))
   obtain⟨h3,h4⟩:=Ael (fun es hm=>Ie es (by simp[hm]))
   refine⟨by rw[h1,h3];rfl,fun x hx=>?_⟩
   rcases List.mem_cons.1 hx with rfl|hx
   ·exact⟨v,h2⟩
   ·exact h4 x hx
  ·intro i bx hm;rcases List.mem_append.1 hm with hm|hm
   ·obtain⟨es,n,cc,rfl,rfl,rfl⟩:=D7 i bx hm;exact⟨0,es,n,cc,rfl,by simp,rfl⟩
   ·obtain⟨j,es,n,cc,h1,rfl,h3⟩:=Aix i bx hm;exact⟨j+1,es,n,cc,by simpa using h1,by rw[Nat.mul_add];omega,h3⟩
  ·intro x hx i hi;rcases List.mem_cons.1 hx with rfl|hx
   ·obtain⟨bx,hm⟩:=Iz i hi;exact⟨bx,by simp[hm]⟩
   ·obtain⟨bx,hm⟩:=Ame x hx i hi;exact⟨bx,by simp[hm]⟩
  ·cases us with
   |nil=>exact hoc.elim
   |cons u us=>
    refine⟨Va w A (own j0) β' u (fun ⟨bx,hm⟩=>by have:=hβ 0 ⟨bx,by simp[hm]⟩;simpa using this) hoc.1,?_⟩
    refine Am4 w A own β' (j0+1) us (fun j ⟨bx,hm⟩=>?_) hoc.2
    have e:id+N+N*j=id+N*(j+1):=by rw[Nat.mul_add];omega
    have:=hβ (j+1) ⟨bx,by rw[←e];simp[hm]⟩
    rw[e,this]
    congr 1
    omega
end
open Go.RowKit
section
variable {R:Type} {r:R} {P:Program} {N:Nat} {w0:World} {X0:Ft} {Y:Nat->Prop} {β β':Bt} {s:St} {a:Act} {w w':World} {o:Oper} {A:Nat->Prop}
theorem Ds.len:∀{j:Nat}{own:Bt}{ps:List PV}{us:List Value},Ds w A own j ps us->ps.length=us.length
 |_,_,[],[],_=>rfl
 |_,_,_::_,_::_,h=>by simp[Ds.len h.2]
 |_,_,[],_::_,h=>h.elim
 |_,_,_::_,[],h=>h.elim
theorem Ds.at_:∀{j:Nat}{own:Bt}{ps:List PV}{us:List Value},Ds w A own j ps us->∀{i:Nat} {p},ps[i]?=some p->∃u,us[i]?=some u∧E2 w A (own (j+i)) p u
 |_,_,[],[],_,i,p,h=>by simp at h
 |j,own,_::_,u::_,h,0,p,hp=>by simp at hp;subst hp;exact⟨u,rfl,h.1⟩
 |j,own,_::_,_::_,h,i+1,p,hp=>by
  simp at hp;obtain⟨u,hu,hc⟩:=Ds.at_ h.2 hp;exact⟨u,by simpa using hu,by rw[show j+(i+1)=j+1+i from by omega];exact hc⟩
 |_,_,[],_::_,h,_,_,_=>h.elim
 |_,_,_::_,[],h,_,_,_=>h.elim
def RW (N id:Nat)(β':Bt)(w:World)(A:Nat->Prop)(z n:Nat)(bs:List (Nat × A1)):Prop:=
 ∀i bx,(i,bx)∈bs->(∃j,i=id+N*j∧j<n)∧Bx (some bx)∧Nd w A β' i bx∧∀cs,bx=.st cs->∀b o,β' i=some (b,o)->z<=b
def Ua (bs:List (Nat × A1)):Prop:=∀i cells,(i,.st cells)∈bs->∀c∈cells,∀i'∈Aj c,∃bx,(i',bx)∈bs
theorem Rw {q:Option (Nat × Nat)} {es n i:Nat}{c:List PV}{u:Value}(h:E2 w A q (.own es n c) u) (hβ:β' i=q):Nd w A β' i (.ar false c):=by
 rcases h with⟨h1,_,h2,_⟩|⟨b,o,cap,h1,_,_,_,_,h6,h7⟩
 ·exact .inl ⟨hβ.trans h1,h2⟩
 ·exact .inr ⟨b,o,hβ.trans h1,h6,fun _=>h7,(fun x=>by cases x)⟩
theorem Tu {t:TypeId}(h:Gy P [t]=false):Rs P t=none∧∀es,CT.sl es ∉ Fy P t:=by
 simp only[Gy,List.any_cons,List.any_nil,Bool.or_false,Bool.or_eq_false_iff] at h;refine⟨by simpa using h.1,fun es hm=>?_⟩
 have:=List.any_eq_false.1 h.2 _ hm;simp at this
theorem SJ (shr:Bool)(N:Nat){t:TypeId}{p:PV}{id:Nat}{K:PV->List (Nat × A1)->Option R} (hk:PK P shr N id t p K=some r):
  ∃v bs,K v bs=some r∧OV p=EU P t∧(∀x,v ≠ .tup x)∧(Gy P [t]=false->bs=[]∧∀c∈cellsOf v,∃u,c=.sc u)∧(∀i∈Bh v,∃bx,(i,bx)∈bs)∧Ua bs ∧
   ∀(w:World) (A:Nat->Prop) (own β':Bt) (z j0:Nat) (u:Value),(∀j,(∃bx,(id+N*j,bx)∈bs)->β' (id+N*j)=own (j0+j))->YY w A own z j0 p u->Fq w A β' v u∧RW N id β' w A z (OV p) bs:=by
 have boxes:∀{bs:List (Nat × A1)} {ps:List PV} {id:Nat},(∀i bx,(i,bx)∈bs->∃j es n c,ps[j]?=some (.own es n c)∧i=id+N*j∧bx=.ar false c) ->
   Ua bs∧∀(w:World) (A:Nat->Prop) (own β':Bt) (j0:Nat) (us:List Value),(∀j,(∃bx,(id+N*j,bx)∈bs)->β' (id+N*j)=own (j0+j))->Ds w A own j0 ps us->∀z,RW N id β' w A z ps.length bs:=by
  intro bs ps id D7;refine⟨fun i cells hm=>?_,fun w A own β' j0 us hβ ho z i bx hm=>?_⟩
  ·obtain⟨_,_,_,_,_,_,h3⟩:=D7 i _ hm;cases h3
  ·obtain⟨j,es,n,cc,h1,h2,h3⟩:=D7 i bx hm;obtain⟨u,hu,hoc⟩:=ho.at_ h1;subst h3;refine⟨⟨j,h2,?_⟩,trivial,Rw hoc ?_,fun _ e=>by cases e⟩
   ·rcases Nat.lt_or_ge j ps.length with h|h
    ·exact h
    ·rw[List.getElem?_eq_none h] at h1;cases h1
   ·rw[h2];exact hβ j ⟨_,h2 ▸ hm⟩
 unfold PK at hk;split at hk
 ·rename_i e he;obtain⟨ps,rfl,hk⟩:=Zw hk;obtain⟨cs,bs,hk,hl,YW,hF,HK,D7,Iz,Va⟩:=O6 shr N hk;obtain⟨IH,I2⟩:=boxes D7;refine⟨.ptr id 0,_,hk,by simp only[OV,EU,he,hl],by simp,fun h=>?_,fun i hi=>?_,fun i cells hm c hc i' Yq=>?_,fun w A own β' z j0 u hβ ho=>?_⟩
  ·have:=(Tu h).1;rw[he] at this;cases this
  ·simp only[Bh,Aj,List.mem_singleton] at hi;subst hi;exact⟨_,List.mem_cons_self⟩
  ·rcases List.mem_cons.1 hm with e|hm
   ·cases e;obtain⟨bx,hb⟩:=Iz c hc i' Yq;exact⟨bx,List.mem_cons_of_mem _ hb⟩
   ·obtain⟨bx,hb⟩:=IH i cells hm c hc i' Yq;exact⟨bx,List.mem_cons_of_mem _ hb⟩
  ·obtain⟨b,o,h1,hz,rfl,vs,h3,h4,h5⟩:=ho;have h0:=hβ 0 ⟨_,by rw[Nat.mul_zero,Nat.add_zero];exact List.mem_cons_self⟩
   rw[Nat.mul_zero,Nat.add_zero,Nat.add_zero,h1] at h0;have Ay:∀j,id+N+N*j=id+N*(j+1):=fun j=>by rw[Nat.mul_add];omega
   have hβ1:∀j,(∃bx,(id+N+N*j,bx)∈bs)->β' (id+N+N*j)=own (j0+1+j):=fun j ⟨bx,hm⟩=>by
    rw[Ay,hβ (j+1) ⟨bx,by rw[←Ay];exact List.mem_cons_of_mem _ hm⟩]
    congr 1;omega
   have hc2:=Va w A own β' (j0+1) vs hβ1 h3;have BM:=I2 w A own β' (j0+1) vs hβ1 h3 z;have Dh:cs.length=ps.length:=by rw[hc2.len,←h3.len]
   refine⟨⟨b,o,h0,by simp⟩,fun i bx hm=>?_⟩
   rcases List.mem_cons.1 hm with e|hm
   ·cases e;refine⟨⟨0,by simp,by simp only[OV];omega⟩,trivial,⟨b,o,h0,fun k c hk=>?_,fun k hk=>h5 k (by omega)⟩,fun _ _ b' o' Fp=>?_⟩
    ·obtain⟨v,hv,CI⟩:=hc2.get hk;exact⟨v,h4 k v hv,CI⟩
    ·rw[h0] at Fp;cases Fp;exact hz
   ·obtain⟨⟨j,hj,hjn⟩,h6,h7⟩:=BM i bx hm;exact⟨⟨j+1,by rw[hj,Ay],by simp only[OV];omega⟩,h6,h7⟩
 ·rename_i hnp;have Vx:EU P t=(Fy P t).length:=by simp only[EU,hnp]
  cases Ed:A7 P t
  ·rw[Ed] at hk;obtain⟨cs,bs,hk,hl,YW,hF,HK,D7,Iz,Va⟩:=O6 shr N (show Mf _ _ _ _ _ _=some r from hk)
   obtain⟨c,t',rfl,hk⟩:=Ar hk;obtain⟨rfl,hk⟩:=B7 hk;have hFc:=hF c (by simp)
   have Afk:∀x,p ≠ .pbox x:=fun x=>(YW p (by simp) x).2
   have Aem:∀x,c ≠ .agg x:=by rintro x rfl;exact hFc
   have Akw:∀x,c ≠ .tup x:=by rintro x rfl;exact hFc
   have ZL:Bh c=Aj c:=by cases c<;>first|rfl|exact absurd rfl (Aem _)
   have hpa:∀x,p ≠ .agg x:=fun x=>(YW p (by simp) x).1
   obtain⟨IH,I2⟩:=boxes D7;have hcell:cellsOf p=[p]:=by cases p<;>first|rfl|exact absurd rfl (hpa _)
   have Ag5:OV p=1:=by cases p<;>first|rfl|exact absurd rfl (hpa _)|exact absurd rfl (Afk _)
   have SE:cellsOf c=[c]:=by cases c<;>first|rfl|exact absurd rfl (Aem _)
   refine⟨c,bs,hk,by rw[Ag5,Vx];exact hl,Akw,fun Ie=>by rw[SE];exact HK (Tu Ie).2,fun i hi=>Iz c (by simp) i (by rw[←ZL];exact hi),IH,fun w A own β' z j0 u hβ ho=>?_⟩
   have GT:E2 w A (own j0) p u:=by cases p<;>first|exact ho|exact absurd rfl (hpa _)|exact absurd rfl (Afk _)
   exact⟨(So Aem).2 (Va w A own β' j0 [u] hβ ⟨GT,trivial⟩).1,by rw[Ag5];exact I2 w A own β' j0 [u] hβ ⟨GT,trivial⟩ z⟩
  ·rw[Ed] at hk;obtain⟨ps,rfl,hk⟩:=Fg (show E7 _ _=some r from hk)
   obtain⟨cs,bs,hk,hl,YW,hF,HK,D7,Iz,Va⟩:=O6 shr N hk;obtain⟨IH,I2⟩:=boxes D7;refine⟨.agg cs,bs,hk,by rw[Vx];exact hl,by simp,fun Ie=>HK (Tu Ie).2,fun i hi=>?_,IH,fun w A own β' z j0 u hβ ho=>?_⟩
   ·obtain⟨c,hc,hi⟩:=List.mem_flatMap.1 (show i∈cs.flatMap Aj from hi)
    exact Iz c hc i hi
   ·obtain⟨vs,rfl,ho⟩:=ho;exact⟨⟨vs,rfl,Va w A own β' j0 vs hβ ho⟩,I2 w A own β' j0 vs hβ ho z⟩
theorem Tc (shr:Bool)(N:Nat):∀{ts:List TypeId}{ps:List PV}{id:Nat}{K:List PV->List (Nat × A1)->Option R},U6 P shr N id ts ps K=some r ->
  ∃vs bs,K vs bs=some r∧vs.length=ps.length∧(∀v∈vs,∀x,v ≠ .tup x)∧(Gy P ts=false->bs=[]∧∀v∈vs,∀c∈cellsOf v,∃u,c=.sc u)∧(∀v∈vs,∀i∈Bh v,∃bx,(i,bx)∈bs)∧Ua bs ∧
   ∀(w:World) (A:Nat->Prop) (own β':Bt) (z j0:Nat) (us:List Value),(∀j,(∃bx,(id+N*j,bx)∈bs)->β' (id+N*j)=own (j0+j))->MW w A own z j0 ps us->Au (Fq w A β') vs us∧RW N id β' w A z (Ld ps) bs
 |[],ps,id,K,hk=>by
  obtain⟨rfl,hk⟩:=B7 hk;refine⟨[],[],hk,rfl,by simp,by simp,by simp,(by intro i cells hm;cases hm),fun w A own β' z j0 us _ h=>?_⟩
  cases us with
  |nil=>exact⟨trivial,by intro i bx hm;cases hm⟩
  |cons u us=>exact h.elim
 |t::ts,ps,id,K,hk=>by
  unfold U6 at hk;obtain⟨p,ps',Yp,Cs⟩:=Ar hk;subst Yp;clear hk;obtain⟨v,bs,hk,hl,WU,HK,ZL,IH,hv⟩:=SJ shr N Cs;obtain⟨vs,bs',hk,Rl,Aje,Ael,hrs,Ak1,G8⟩:=Tc shr N hk;refine⟨v::vs,bs++bs',hk,by simp[Rl],?_,?_,?_,?_,fun w A own β' z j0 us hβ ho=>?_⟩
  ·intro x hx;rcases List.mem_cons.1 hx with rfl|hx
   ·exact WU
   ·exact Aje x hx
  ·intro Ie;simp only[Gy,List.any_cons,Bool.or_eq_false_iff] at Ie;obtain⟨h1,h2⟩:=HK (by simp only[Gy,List.any_cons,List.any_nil,Bool.or_false,Bool.or_eq_false_iff];exact Ie.1)
   obtain⟨h3,h4⟩:=Ael (by simp only[Gy];exact Ie.2)
   refine⟨by rw[h1,h3];rfl,fun x hx=>?_⟩
   rcases List.mem_cons.1 hx with rfl|hx
   ·exact h2
   ·exact h4 x hx
  ·intro x hx i hi;rcases List.mem_cons.1 hx with rfl|hx
   ·obtain⟨bx,hm⟩:=ZL i hi;exact⟨bx,by simp[hm]⟩
   ·obtain⟨bx,hm⟩:=hrs x hx i hi;exact⟨bx,by simp[hm]⟩
  ·intro i cells hm c hc i' Yq;rcases List.mem_append.1 hm with hm|hm
   ·obtain⟨bx,hb⟩:=IH i cells hm c hc i' Yq;exact⟨bx,by simp[hb]⟩
   ·obtain⟨bx,hb⟩:=Ak1 i cells hm c hc i' Yq;exact⟨bx,by simp[hb]⟩
  ·cases us with
   |nil=>exact ho.elim
   |cons u us=>
    obtain⟨h1,D7⟩:=hv w A own β' z j0 u (fun j ⟨bx,hm⟩=>hβ j ⟨bx,by simp[hm]⟩) ho.1
    have Ay:∀j,id+N*EU P t+N*j=id+N*(EU P t+j):=fun j=>by rw[Nat.mul_add];omega
    obtain⟨h2,Iz⟩:=G8 w A own β' z (j0+OV p) us (fun j ⟨bx,hm⟩=>by rw[Ay,hβ _ ⟨bx,by rw[←Ay];simp[hm]⟩,hl];congr 1;omega) ho.2
    refine⟨⟨h1,h2⟩,fun i bx hm=>?_⟩
    rcases List.mem_append.1 hm with hm|hm
    ·obtain⟨⟨j,hj,hjn⟩,h4,h5⟩:=D7 i bx hm;exact⟨⟨j,hj,by simp only[Ld,List.map_cons,List.sum_cons];omega⟩,h4,h5⟩
    ·obtain⟨⟨j,hj,hjn⟩,h4,h5⟩:=Iz i bx hm;refine⟨⟨_,by rw[hj,Ay],?_⟩,h4,h5⟩
     simp only[Ld,List.map_cons,List.sum_cons] at hjn ⊢;omega
def Vq (N d:Nat)(bs:List (Nat × A1)) (own β:Bt):Bt:=fun i=>if (bs.any fun q=>Nat.beq q.1 i)=true then own ((i-d) / N) else β i
theorem DA {bs:List (Nat × A1)} {i:Nat}:(bs.any fun q=>Nat.beq q.1 i)=true↔∃bx,(i,bx)∈bs:=by
 rw[List.any_eq_true];constructor
 ·rintro⟨⟨j,bx⟩,hm,e⟩
  have:=Nat.eq_of_beq_eq_true e;subst this;exact⟨bx,hm⟩
 ·rintro⟨bx,hm⟩
  exact⟨_,hm,Nat.beq_refl i⟩
theorem LV {N d j:Nat}(hN:0<N){bs:List (Nat × A1)} {own β:Bt}(h:∃bx,(d+N*j,bx)∈bs):Vq N d bs own β (d+N*j)=own j:=by
 unfold Vq;rw[if_pos (DA.2 h),Nat.add_sub_cancel_left,Nat.mul_div_cancel_left _ hN]
theorem GX {c:Call}{f:FuncId}(ho:o.op=.call c)(hc:c.callee=.value (.func f)) (Ig:NoNG P){fn:Func}(hf:P.funcs[f]?=some fn) (hb:fn.body.isSome=true):
  (execOp a.eval o).run P w=.ok (.enter f (c.args.map a.eval)) w:=by
 unfold execOp;rw[ho]
 have hn:¬fn.body=none:=by
  intro h;rw[h] at hb;cases hb
 have Ie:¬fn.name = "runtime.NumGoroutine" :=by simpa using Ig f fn hf
 simp[resolve,hc,Act.eval,Deferred.ofValue,invoke,callFunc,hf,Ie,hn]
theorem QJ {c:Call}{t:Nat}{f:FuncId}(ho:o.op=.call c)(hc:c.callee=.value (.tmp t)) (ht:a.eval (.tmp t)=.func (.func f) #[] #[]) (Ig:NoNG P){fn:Func}(hf:P.funcs[f]?=some fn) (hb:fn.body.isSome=true):
  (execOp a.eval o).run P w=.ok (.enter f (c.args.map a.eval)) w:=by
 unfold execOp;rw[ho]
 have hn:¬fn.body=none:=by
  intro h;rw[h] at hb;cases hb
 have Ie:¬fn.name = "runtime.NumGoroutine" :=by simpa using Ig f fn hf
 simp[resolve,hc,ht,Deferred.ofValue,invoke,callFunc,hf,Ie,hn]
theorem Uj {A':Nat->Prop}(k:Bool):∀{xs:List Operand}{ps:List PV},Au (M3 w A') ps (xs.map a.eval)->Au (M3 w A') (G3 k xs ps) (xs.map a.eval)
 |[],[],h=>h
 |[],_::_,h=>h
 |_::_,[],h=>h
 |x::xs,p::ps,h=>by
  simp only[List.map_cons] at h ⊢;refine⟨?_,Uj k h.2⟩;split
  ·exact⟨trivial,Ap.lnil _ _⟩
  ·exact h.1
theorem Xu (h : Br N w0 X0 Y β s a w) {G : Glo} (Ig : FX P G w0 X0) {C : E9} {call : Ah} (Co : ∀ f args res, call f args = some res -> Dr G P f args res) {c : Call} {f : FuncId} (Bn : ∀ {fn : Func}, P.funcs[f]? = some fn -> fn.body.isSome = true -> (execOp a.eval o).run P w = .ok (.enter f (c.args.map a.eval)) w)
    {K : PV -> List Nat -> List (Nat × A1) -> Option R}
    (hk : (Xd P (Hd s.hp) (Wa P f c) (c.args.toList.map (A8 s.tm)) fun vs m =>
          Aq (call f (G3 (C.kz f) c.args.toList vs)) fun rv ro => Ai ro (Ao (Nat.blt 0 N) <| U6 P (C.shr f) N (o.dst.getD 0) (J9 P o.type) rv fun ws bs =>
            Ao (bif Kw P o.type then !Nat.beq ws.length 1 else Nat.beq ws.length 1) <| K (J6 ws (Kw P o.type)) (bif Gy P (J9 P o.type) then m else []) bs)) = some r) : ∃ v fz nw, K v fz nw = some r ∧ Wn P a w o Y β s v fz nw := by
  obtain⟨ps, m, hk, hm, Dl⟩ := AB h hk
  replace Dl := fun fz h1 h2 => Uj (a := a) (C.kz f) (Dl fz h1 h2)
  generalize G3 (C.kz f) c.args.toList ps = ps at hk Dl
  obtain⟨rv, ro, Le, hk⟩ := Zt hk
  obtain⟨rfl, hk⟩ := B7 hk
  obtain⟨hN, hk⟩ := Ae hk
  have hN : 0 < N := Nat.lt_of_succ_le (Nat.le_of_ble_eq_true hN)
  obtain⟨ws, bs, hk, hwl, WU, HK, hrs, IH, hws⟩ := Tc (C.shr f) N hk
  obtain⟨Lo, hk⟩ := Ae hk
  obtain⟨⟨fn, hfn, hfb⟩, P6⟩ := Co f ps _ Le
  obtain⟨fz, Ng, hfm⟩ : ∃ fz : List Nat, fz = (bif Gy P (J9 P o.type) then m else []) ∧ ∀ id ∈ fz, ∃ f c, s.hp id = some (.ar f c) := by
    refine⟨_, rfl, fun id Ay => ?_⟩
    cases hh : Gy P (J9 P o.type) <;> rw[hh] at Ay
    · cases Ay
    · exact hm id Ay
  rw[← Ng] at hk
  refine⟨_, _, _, hk, hfm, fun next Q hn => ?_⟩
  have hf := h.freeze hfm
  have hYc : ∃ Yc : Nat -> Prop, (∀ b, Yc b -> b < w.heap.size) ∧ Au (M3 w Yc) ps (c.args.toList.map a.eval) ∧ ((∀ b, Bz (Ac s.hp fz) β Y b -> Yc b) ∨ Gy P (J9 P o.type) = false) := by
    have Kq := Dl m (fun _ hi => hi) hm
    cases hh : Gy P (J9 P o.type)
    · exact⟨fun _ => False, fun _ x => x.elim, Kq.mono fun _ _ hx => hx.weaken (fun _ _ x => x.elim), .inr rfl⟩
    · rw[hh] at Ng
      have Ng : fz = m := Ng
      subst Ng
      refine⟨Bz (Ac s.hp fz) β Y, fun b hb => ?_, Kq, .inl fun _ x => x⟩
      rcases hb with⟨id, ob, hl, hβ⟩ | hY
      · exact hf.blt id b ob (Bu hl) hβ
      · exact Nat.lt_of_lt_of_le (h.Ylt b hY) h.fr.step.size
  obtain⟨Yc, Al1, hYargs, hYA⟩ := hYc
  unfold Oper.wp
  rw[Bn hfn hfb]
  show Calls P f _ w _
  have hca : c.args.map a.eval = (c.args.toList.map a.eval).toArray := by rw[← List.map_toArray, Array.toArray_toList]
  rw[hca]
  refine (P6 w Yc VV _ (EV Al1 hYargs) (Ig.fr w h.fr) (fun b x => ⟨Nat.lt_of_lt_of_le (Ig.y b x).1 h.fr.step.size, Wz b⟩)).mono ?_
  rintro e w' ⟨vs, own, rfl, DC⟩
  refine hn (Gf vs) w' fun Lk => ⟨Vq N (o.dst.getD 0) bs own β, ?_⟩
  obtain⟨ha1, ha2⟩ := Ax Lk
  have UX : ∀ i bx, (i, bx) ∈ bs -> Ac s.hp fz i = none := fun i bx hm => Cp.2 (ha1 i bx hm)
  obtain⟨XC, hg2⟩ := Cy (hp := Ac s.hp fz) ha2
  have hold : ∀ i, Ac s.hp fz i ≠ none -> Vq N (o.dst.getD 0) bs own β i = β i := by
    intro i hi
    unfold Vq
    rw[if_neg]
    intro hx
    obtain⟨bx, hm⟩ := DA.1 hx
    exact hi (UX i bx hm)
  obtain⟨G8, hba⟩ := hws w' _ own (Vq N (o.dst.getD 0) bs own β) w.heap.size 0 vs (fun j hj => by rw[LV hN hj, Nat.zero_add]) DC.vals
  have Qe : ∀ i bx, (i, bx) ∈ bs -> ∃ j, i = o.dst.getD 0 + N * j ∧ Vq N (o.dst.getD 0) bs own β i = own j := by
    intro i bx hm
    obtain⟨⟨j, rfl, _⟩, _, _⟩ := hba i bx hm
    exact⟨j, rfl, LV hN ⟨bx, hm⟩⟩
  have hAA : Gy P (J9 P o.type) = false ∨ ∀ b, Bz (Ak (Ac s.hp fz) bs) (Vq N (o.dst.getD 0) bs own β) Y b -> Ti VV own Yc b := by
    rcases hYA with hYA | hYA
    · refine .inr fun b hb => ?_
      rcases hb with⟨i, ob, hl, hβ⟩ | hY
      · by_cases hi : ∃ bx, (i, bx) ∈ bs
        · obtain⟨bx, hm⟩ := hi
          obtain⟨j, _, h3⟩ := Qe i bx hm
          rw[h3] at hβ
          exact .inl ⟨j, ob, hβ⟩
        · rw[hg2 i (fun bx hm => hi ⟨bx, hm⟩)] at hl
          rw[hold i (Bu hl)] at hβ
          exact .inr (.inr (hYA b (.inl ⟨i, ob, hl, hβ⟩)))
      · exact .inr (.inr (hYA b (.inr hY)))
    · exact .inl hYA
  have hval : C1 w' (Bz (Ak (Ac s.hp fz) bs) (Vq N (o.dst.getD 0) bs own β) Y) (Vq N (o.dst.getD 0) bs own β) (J6 ws (Kw P o.type)) (Gf vs) := by
    have Kq : Au (Fq w' (Bz (Ak (Ac s.hp fz) bs) (Vq N (o.dst.getD 0) bs own β) Y) (Vq N (o.dst.getD 0) bs own β)) ws vs := by
      rcases hAA with GB | hAA
      · obtain⟨_, HV⟩ := HK GB
        refine G8.mono_mem fun v hv u hvu => ?_
        have HV := HV v hv
        cases v with
        | agg cs =>
          obtain⟨xs, rfl, Yo⟩ := hvu
          refine⟨xs, rfl, Yo.mono_mem fun cc SE x hx => ?_⟩
          obtain⟨y, rfl⟩ := HV cc SE
          have := Ap.val (w := w') hx
          subst this
          exact Ap.sc _
        | sc y =>
          have := Ap.val (w := w') hvu
          subst this
          exact Ap.sc _
        | lst z es n cc => obtain⟨y, hy⟩ := HV _ (List.mem_singleton_self _); cases hy
        | own es n cc => obtain⟨y, hy⟩ := HV _ (List.mem_singleton_self _); cases hy
        | view i es n cc => obtain⟨y, hy⟩ := HV _ (List.mem_singleton_self _); cases hy
        | ptr i cc => obtain⟨y, hy⟩ := HV _ (List.mem_singleton_self _); cases hy
        | iptr i cc => obtain⟨y, hy⟩ := HV _ (List.mem_singleton_self _); cases hy
        | pbox cc => obtain⟨y, hy⟩ := HV _ (List.mem_singleton_self _); cases hy
        | tup cc => obtain⟨y, hy⟩ := HV _ (List.mem_singleton_self _); cases hy
        | top => obtain⟨y, hy⟩ := HV _ (List.mem_singleton_self _); cases hy
        | ub => obtain⟨y, hy⟩ := HV _ (List.mem_singleton_self _); cases hy
      · exact G8.mono fun v u hvu => hvu.step (Ba.refl _ _) (fun b _ => hAA b) (fun _ _ => rfl)
    have Dh := Kq.len
    cases hT : Kw P o.type
    · rw[hT] at Lo
      have h1 : ws.length = 1 := Nat.eq_of_beq_eq_true Lo
      match ws, vs, h1, Dh with
      | [v], [u], _, _ =>
        exact (M5 (WU v (by simp))).2 Kq.1
    · rw[hT] at Lo
      have h1 : ¬ ws.length = 1 := by
        intro e
        rw[e] at Lo
        cases Lo
      have hr : Gf vs = .tuple ⟨vs⟩ := by
        unfold Gf
        split
        · simp at Dh; omega
        · rfl
      rw[hr]
      exact⟨vs, rfl, Kq⟩
  refine⟨DC.os, DC.tape, DC.output, DC.ext.weaken (fun b _ hb => Wz b hb), hold, ?_, ?_, ?_, ?_, ?_, hval, ?_⟩
  · intro i bx hm
    exact (hba i bx hm).2.1
  · intro i bx hm
    rcases hAA with GB | hAA
    · rw[(HK GB).1] at hm; cases hm
    · exact (hba i bx hm).2.2.1.step' hAA
  · intro i bx b ob hm hβ
    obtain⟨j, _, h3⟩ := Qe i bx hm
    rw[h3] at hβ
    obtain⟨h4, h5⟩ := DC.fresh j b ob hβ
    refine⟨?_, h4⟩
    rcases Nat.lt_or_ge b w.heap.size with h | h
    · obtain⟨⟨_, _, _, h6⟩, _⟩ := h5 h
      cases h6
    · exact h
  · intro i bx i' bx' b ob ob' hm Jk hβ hβ'
    obtain⟨j, h1, h3⟩ := Qe i bx hm
    obtain⟨j', Xn, h3'⟩ := Qe i' bx' Jk
    rw[h3] at hβ
    rw[h3'] at hβ'
    rw[h1, Xn, DC.inj j j' b ob ob' hβ hβ']
  · intro i cells hm c hc i' Yq
    exact .inr (IH i cells hm c hc i' Yq)
  · intro i hi
    right
    cases hT : Kw P o.type
    · rw[hT] at Lo hi
      have h1 : ws.length = 1 := Nat.eq_of_beq_eq_true Lo
      match ws, h1 with
      | [v], _ =>
        refine hrs v (by simp) i ?_
        have : A5 v = Bh v := by
          have hn := WU v (by simp)
          cases v <;> first | rfl | exact absurd rfl (hn _)
        rw[← this]
        exact hi
    · rw[hT] at hi
      obtain⟨v, hv, hi⟩ := List.mem_flatMap.1 (show i ∈ ws.flatMap Bh from hi)
      exact hrs v hv i hi
end
open Go.RowKit
section
variable {R:Type} {r:R} {P:Program} {N:Nat} {w0:World} {X0:Ft} {Y:Nat->Prop} {β β':Bt} {s:St} {a:Act} {w w':World} {o:Oper} {A:Nat->Prop}
theorem Br.move (h:Br N w0 X0 Y β s a w){id d:Nat}{c cells:List PV}{bo:Option (Nat × Nat)} {v:PV}{val:Value}(h0:s.hp id=some (.ar false c)) (hd:s.hp d=none)(RH:d<N)
  (hos:w'.os=w.os)(htp:w'.tape=w.tape)(DC:w'.output=w.output)(HS:w.heap.size<=w'.heap.size)
  (Ik:∀k,k<w.heap.size->(∀x,β id≠some (k,x))->w'.heap[k]?=w.heap[k]?) (Yn:∀k,k<w.heap.size->Gu w w' k)
  (BI:∀k x,bo=some (k,x)->k<w'.heap.size∧(w.heap.size<=k∨∃y,β id=some (k,y)))
  (EA:∀k x,bo=some (k,x)->k<w.heap.size->β id=some (k,x))
  (hO:∀k y,β id=some (k,y)->k<w.heap.size->∀j,j<y->w'.cell? ⟨k,j,none⟩=w.cell? ⟨k,j,none⟩∧w'.frozen? ⟨k,j,none⟩=w.frozen? ⟨k,j,none⟩)
  (I2:Nd w' (Bz (Bi (Bi s.hp id (some .mv)) d (some (.ar false cells))) (Bi β d bo) Y) (Bi β d bo) d (.ar false cells))
  (hv:C1 w' (Bz (Bi (Bi s.hp id (some .mv)) d (some (.ar false cells))) (Bi β d bo) Y) (Bi β d bo) v val) (hr:∀i∈A5 v,i=d):
  Br N w0 X0 Y (Bi β d bo) ⟨Bi s.tm d v,Bi (Bi s.hp id (some .mv)) d (some (.ar false cells))⟩ (a.put (some d) val) w':=by
 have Ie:id≠d:=by rintro rfl;rw[h0] at hd;cases hd
 have C3:∀i,i≠id->i≠d->Bi (Bi s.hp id (some A1.mv)) d (some (.ar false cells)) i=s.hp i:=fun i h1 h2=>by rw[Ad _ _ h2,Ad _ _ h1]
 have ZS:Bi (Bi s.hp id (some A1.mv)) d (some (.ar false cells)) id=some .mv:=by rw[Ad _ _ Ie,Af]
 have hgd:Bi (Bi s.hp id (some A1.mv)) d (some (.ar false cells)) d=some (.ar false cells):=Af _ _ _
 have Eg:∀i,s.hp i≠none->Bi (Bi s.hp id (some A1.mv)) d (some (.ar false cells)) i≠none:=by
  intro i hi;by_cases e:i=id
  ·subst e;rw[ZS];simp
  ·by_cases e':i=d
   ·subst e';rw[hgd];simp
   ·rw[C3 i e e'];exact hi
 have hβo:∀i,s.hp i≠none->Bi β d bo i=β i:=fun i hi=>Ad _ _ (by rintro rfl;exact hi hd)
 have EN:Bx (s.hp id):=by rw[h0];trivial
 have Eu:∀i,Bx (Bi (Bi s.hp id (some A1.mv)) d (some (.ar false cells)) i)->i=d∨(i≠id∧i≠d∧Bx (s.hp i)):=by
  intro i hi;by_cases e':i=d
  ·exact .inl e'
  ·by_cases e:i=id
   ·subst e;rw[ZS] at hi;exact hi.elim
   ·rw[C3 i e e'] at hi;exact .inr ⟨e,e',hi⟩
 have hX:∀k,k<w.heap.size->BK (Bi (Bi s.hp id (some .mv)) d (some (.ar false cells))) (Bi β d bo) k->BK s.hp β k:=by
  rintro k hk ⟨i,x,hl,hβ⟩
  rcases Eu i hl with rfl|⟨e,e',hl⟩
  ·rw[Af] at hβ;rcases (BI k x hβ).2 with Iy|⟨y,hy⟩
   ·omega
   ·exact⟨id,y,EN,hy⟩
  ·rw[Ad _ _ e'] at hβ;exact⟨i,x,hl,hβ⟩
 have hAo:∀k,k<w.heap.size->Bz (Bi (Bi s.hp id (some .mv)) d (some (.ar false cells))) (Bi β d bo) Y k->Bz s.hp β Y k:=fun k hk hx=>hx.imp (hX k hk) (fun y=>y)
 have Kk:Ba (Bz s.hp β Y) w w':=⟨HS,fun k hk hn=>Ik k hk fun x hx=>hn (.inl ⟨id,x,EN,hx⟩),Yn⟩
 have SH:∀i k x,i≠id->i≠d->(∃b,s.hp i=some b∧b ≠ .mv)->β i=some (k,x)->k<w.heap.size∧w'.heap[k]?=w.heap[k]?:=by
  rintro i k x e e' ⟨b,hb,hmv⟩ hβ
  have hk:=h.blt i k x (by rw[hb];simp) hβ
  refine⟨hk,Ik k hk fun y hy=>?_⟩
  have NL:=h.box i b hb;cases b with
  |st cc=>exact e (h.inj i id k x y (by rw[hb];trivial) EN hβ hy)
  |ar fz cc=>
   cases fz with
   |false=>exact e (h.inj i id k x y (by rw[hb];trivial) EN hβ hy)
   |true=>
    rcases NL with⟨h1,_⟩|⟨k',x',h1,_,_,h4⟩
    ·rw[hβ] at h1;cases h1
    ·rw[hβ] at h1;simp at h1;obtain⟨rfl,rfl⟩:=h1
     exact h4 rfl (.inl ⟨id,y,EN,hy⟩)
  |mv=>exact absurd rfl hmv
 refine⟨by rw[Mu];exact h.dfr,by rw[Ru];exact h.tsz,?_,?_,?_,?_,?_,?_,?_,?_,?_,?_,?_,?_,h.Ylt,?_⟩
 ·intro i hi;show Bi s.tm d v i=_;rw[Ad _ _ (by omega)]
  exact h.tmo i hi
 ·refine Kx (d:=some d) (Q:=fun _ p u=>C1 w' (Bz (Bi (Bi s.hp id (some .mv)) d (some (.ar false cells))) (Bi β d bo) Y) (Bi β d bo) p u) h.tsz (by simp[Ej,Nat.blt];omega) (fun i hi=>?_) (fun _=>hv)
  exact (h.tms i hi).step Kk hAo fun j hj=>hβo j (h.wfT i hi j hj)
 ·intro i bi hb;simp only at hb;by_cases e':i=d
  ·subst e';rw[hgd] at hb;cases hb;exact I2
  ·by_cases e:i=id
   ·subst e;rw[ZS] at hb;cases hb;trivial
   ·rw[C3 i e e'] at hb;have hβi:=hβo i (by rw[hb];simp)
    have Vm:=h.box i bi hb;cases bi with
    |st cc=>
     obtain⟨k,x,h1,h2,h3⟩:=Vm;obtain⟨hk,R1⟩:=SH i k x e e' ⟨_,hb,by simp⟩ h1
     refine⟨k,x,by rw[hβi];exact h1,fun j p hj=>?_,fun j hj=>?_⟩
     ·obtain⟨u,hu,hc⟩:=h2 j p hj;exact⟨u,by rw[World.cell?_of_block (w:=w) R1];exact hu,hc.step Kk hAo fun q hq=>hβo q (h.wfB i cc hb p (List.mem_of_getElem? hj) q hq)⟩
     ·rw[World.frozen?_of_block (w:=w) R1];exact h3 j hj
    |ar fz cc=>
     rcases Vm with⟨h1,h2⟩|⟨k,x,h1,h2,h3,h4⟩
     ·exact .inl ⟨by rw[hβi];exact h1,h2⟩
     ·obtain⟨hk,R1⟩:=SH i k x e e' ⟨_,hb,by simp⟩ h1
      refine .inr ⟨k,x,by rw[hβi];exact h1,fun j p hj=>?_,fun ef j hj Kp=>?_,fun ef hx=>h4 ef (hAo k hk hx)⟩
      ·obtain⟨u,hu,h5,hc⟩:=h2 j p hj;exact⟨u,by rw[World.cell?_of_block (w:=w) (by rw[Eb];exact R1)];exact hu,h5,hc.step Kk hAo⟩
      ·rw[World.frozen?_of_block (w:=w) R1];refine h3 ef j hj ?_;unfold bsz at Kp ⊢;rw[R1] at Kp;exact Kp
    |mv=>trivial
 ·intro i i' k x y hl He hb Fp;simp only at hl He
  have key:∀j z,j≠id->j≠d->Bx (s.hp j)->β j=some (k,z)->bo=some (k,y)∨bo=some (k,x)->False:=by
   intro j z e e' WY hβj ZO;have hk:=h.blt j k z (Bu WY) hβj;have:∃t,bo=some (k,t):=by rcases ZO with q|q<;>exact⟨_,q⟩
   obtain⟨t,ht⟩:=this;rcases (BI k t ht).2 with Iy|⟨q,hq⟩
   ·omega
   ·exact e (h.inj j id k z q WY EN hβj hq)
  rcases Eu i hl with rfl|⟨e,e',VD⟩
  ·rcases Eu i' He with rfl|⟨e2,e2',Abt⟩
   ·rfl
   ·rw[Af] at hb;rw[Ad _ _ e2'] at Fp;exact (key i' y e2 e2' Abt Fp (.inr hb)).elim
  ·rcases Eu i' He with rfl|⟨e2,e2',Abt⟩
   ·rw[Af] at Fp;rw[Ad _ _ e'] at hb;exact (key i x e e' VD hb (.inl Fp)).elim
   ·rw[Ad _ _ e'] at hb;rw[Ad _ _ e2'] at Fp;exact h.inj i i' k x y VD Abt hb Fp
 ·intro i k x hi hb;simp only at hi;by_cases e':i=d
  ·subst e';rw[Af] at hb;exact (BI k x hb).1
  ·rw[Ad _ _ e'] at hb
   have Yq:s.hp i≠none:=by
    by_cases e:i=id
    ·subst e;rw[h0];simp
    ·rw[C3 i e e'] at hi;exact hi
   exact Nat.lt_of_lt_of_le (h.blt i k x Yq hb) HS
 ·have:=Kx (d:=some d) (Q:=fun _ p _=>∀j∈A5 p,Bi (Bi s.hp id (some A1.mv)) d (some (.ar false cells)) j≠none) (val:=val) (v:=v) h.tsz (by simp[Ej,Nat.blt];omega) (fun i hi j hj=>Eg j (h.wfT i hi j hj)) (fun _ j hj=>by
   rw[hr j hj,hgd];simp)
  exact this
 ·intro i cc hc p hp j hj;simp only at hc;by_cases e':i=d
  ·subst e';rw[hgd] at hc;cases hc
  ·by_cases e:i=id
   ·subst e;rw[ZS] at hc;cases hc
   ·rw[C3 i e e'] at hc;exact Eg j (h.wfB i cc hc p hp j hj)
 ·rintro k ⟨i,x,hl,hβ⟩
  rcases Eu i hl with rfl|⟨e,e',hl⟩
  ·rw[Af] at hβ;rcases (BI k x hβ).2 with Iy|⟨y,hy⟩
   ·exact .inr (Nat.le_trans h.fr.step.size Iy)
   ·exact h.ownd k ⟨id,y,EN,hy⟩
  ·rw[Ad _ _ e'] at hβ;exact h.ownd k ⟨i,x,hl,hβ⟩
 ·intro i bi k x Vm hli hβ Bk j hj;simp only at Vm;rcases Eu i (by rw[Vm];exact hli) with rfl|⟨e,e',hl⟩
  ·rw[Af] at hβ;rw[hgd] at Vm;cases Vm;have:=EA k x hβ (Nat.lt_of_lt_of_le Bk h.fr.step.size);exact h.rngB id (.ar false c) k x h0 trivial this Bk j hj
  ·rw[C3 i e e'] at Vm;rw[Ad _ _ e'] at hβ;exact h.rngB i bi k x Vm hli hβ Bk j hj
 ·intro i hi;exact⟨Eg _ (h.pin i hi).1,by rw[hβo _ (h.pin i hi).1];exact (h.pin i hi).2⟩
 ·intro i cc k x Vm hβ Bk;simp only at Vm;rcases Eu i (by rw[Vm];trivial) with rfl|⟨e,e',hl⟩
  ·rw[hgd] at Vm;cases Vm
  ·rw[C3 i e e'] at Vm;rw[Ad _ _ e'] at hβ;exact h.stp i cc k x Vm hβ Bk
 ·intro k hY hx;exact h.Yx k hY (hX k (Nat.lt_of_lt_of_le (h.Ylt k hY) h.fr.step.size) hx)
 ·refine⟨hos.trans h.fr.os,htp.trans h.fr.tape,DC.trans h.fr.output,⟨Nat.le_trans h.fr.step.size HS,fun k hk hnk=>?_,fun k hk=>(h.fr.step.bs k hk).trans (Yn k (Nat.lt_of_lt_of_le hk h.fr.step.size))⟩,fun k j hk hL=>?_⟩
  ·rw[Ik k (Nat.lt_of_lt_of_le hk h.fr.step.size) ?_]
   ·exact h.fr.step.keep k hk hnk
   ·intro x hx;rcases h.ownd k ⟨id,x,EN,hx⟩ with hq|hq
    ·exact hnk hq
    ·omega
  ·have hkw:=Nat.lt_of_lt_of_le hk h.fr.step.size
   have U0:w'.cell? ⟨k,j,none⟩=w.cell? ⟨k,j,none⟩∧w'.frozen? ⟨k,j,none⟩=w.frozen? ⟨k,j,none⟩:=by
    by_cases e:∃y,β id=some (k,y)
    ·obtain⟨y,hy⟩:=e;refine hO k y hy hkw j ?_;rcases Nat.lt_or_ge j y with q|q
     ·exact q
     ·exact absurd (h.rngB id (.ar false c) k y h0 trivial hy hk j q) hL
    ·have R1:=Ik k hkw (fun x hx=>e ⟨x,hx⟩)
     exact⟨World.cell?_of_block (w:=w) R1,World.frozen?_of_block (w:=w) R1⟩
   rw[U0.1,U0.2];exact h.fr.rng k j hk hL
end
open Go.RowKit
section
variable {R:Type} {r:R} {P:Program} {N:Nat} {w0:World} {X0:Ft} {Y:Nat->Prop} {β β':Bt} {s:St} {a:Act} {w w':World} {o:Oper} {A:Nat->Prop}
structure Src (P:Program) (w:World) (A:Nat->Prop) (size:Nat) (xv:Value) (m:Nat) (new:List PV) (news:List Value):Prop where
 len:∀w':World,(Builtin.lenOf xv).run P w'=.ok m w'
 cells:∀w':World,(∀b,b<w.heap.size->w'.heap[b]?=w.heap[b]?)->(Builtin.firstCells size m xv).run P w'=.ok news.toArray w'
 part:∀k,k<=m->(Builtin.firstCells size k xv).run P w=.ok (news.take (k*size)).toArray w
 one:∀u∈news,u.oneCell'=true
 rep:Au (Ap w A) new news
theorem Yd (h:Br N w0 X0 Y β s a w){e tx:TypeId}{x:Operand}{K:Nat->List PV->Option R}(hk:KC P s (As P e) tx (A8 s.tm x) K=some r)
  (h1c:∀m new,K m new=some r->new.length=m*As P e):
  (∃d,P.underlying tx=some d∧(∀k,d ≠ .int k))∧∃m new news,K m new=some r∧Src P w (Bz s.hp β Y) (As P e) (a.eval x) m new news:=by
 unfold KC KX at hk;split at hk
 ·rename_i hu;obtain⟨Sj,hk⟩:=Ae hk;have Sj:=Nat.eq_of_beq_eq_true Sj;obtain⟨b,hx,hk⟩:=Cf hk;have B0:=Bl h hx;refine⟨⟨_,hu,by simp⟩,b.size,B1 b,b.data.toList.map (fun y=>Value.int .u8 y.toNat),hk,?_,?_,?_,?_,?_⟩
  ·intro w';rw[B0];rfl
  ·intro w' _;rw[B0]
   have hx:b.data.extract 0 b.size=b.data:=by
    have:b.size=b.data.size:=rfl;rw[this,Array.extract_size]
   have hd:(b.extract 0 b.size).data=b.data:=by
    rw[ByteArray.extract_zero_size]
   simp only[Builtin.firstCells,hd];rw[←Array.toList_map,Array.toArray_toList];rfl
  ·intro k Iy;rw[B0,Sj,Nat.mul_one];have hd:(b.extract 0 k).data=b.data.extract 0 k:=ByteArray.data_extract
   have e1:(b.data.extract 0 k).map (fun y=>Value.int .u8 y.toNat)=((b.data.toList.map fun y=>Value.int .u8 y.toNat).take k).toArray:=by
    apply Array.toList_inj.1;simp[List.map_take]
   simp only[Builtin.firstCells,hd];rw[e1];rfl
  ·intro u hu;simp at hu;obtain⟨y,_,rfl⟩:=hu;rfl
  ·unfold B1;generalize b.data.toList=l
   induction l with
   |nil=>trivial
   |cons y l ih=>exact⟨Ap.sc _,ih⟩
 ·rename_i e' hu;refine⟨⟨_,hu,by simp⟩,?_⟩
  obtain⟨m,new,hk,hc⟩:=GK h hk;have Dh:=h1c m new hk;rcases hc with⟨⟨ad,B0⟩,rfl,rfl⟩|⟨ad,cap,B0,hn,Bk,hrd⟩
  ·have f0:∀w':World,(Builtin.firstCells (As P e) 0 (.slice ad 0 0)).run P w'=.ok #[] w':=fun w'=>by
    cases ad with
    |none=>rfl
    |some p=>exact run_firstCells_some (P:=P) w' (As P e) 0 p 0 0 [] (by simp) (fun j v hj=>by simp at hj)
   exact⟨0,[],[],hk,fun w'=>by rw[B0];rfl,fun w' _=>by rw[B0];exact f0 w',fun k Iy=>by rw[B0,Nat.le_zero.1 Iy,List.take_nil];exact f0 w,by simp,trivial⟩
  ·refine⟨m,new,new.mapIdx (fun j _=>(w.cell? (ad.add j)).getD undef),hk,fun w'=>by rw[B0];rfl,fun w' hw=>?_,fun k Iy=>?_,?_,?_⟩
   ·rw[B0];refine run_firstCells_some (P:=P) w' (As P e) m ad m cap _ (by simp[Dh]) fun j v hj=>?_
    rw[List.getElem?_mapIdx] at hj;cases hc:new[j]? with
    |none=>rw[hc] at hj;cases hj
    |some c=>
     rw[hc] at hj;simp at hj;obtain⟨u,hu,_⟩:=hrd j c hc;rw[hu] at hj;simp at hj;subst hj;have Bk:ad.block<w.heap.size:=by rcases Bk with rfl|Bk<;>first|exact Bk|simp at hc
     rw[World.cell?_of_block (w:=w) (by rw[Eb];exact hw _ Bk)]
     exact hu
   ·rw[B0];have YG:k*As P e<=m*As P e:=Nat.mul_le_mul_right _ Iy;refine run_firstCells_some (P:=P) w (As P e) k ad m cap _ (by rw[List.length_take,List.length_mapIdx,Dh];omega) fun j v hj=>?_
    rw[List.getElem?_take] at hj;split at hj
    ·rw[List.getElem?_mapIdx] at hj;cases hc:new[j]? with
     |none=>rw[hc] at hj;cases hj
     |some c=>
      rw[hc] at hj;simp at hj;obtain⟨u,hu,_⟩:=hrd j c hc;rw[hu] at hj;simp at hj;subst hj;exact hu
    ·cases hj
   ·intro u hu;obtain⟨j,hj⟩:=List.mem_iff_getElem?.1 hu;rw[List.getElem?_mapIdx] at hj;cases hc:new[j]? with
    |none=>rw[hc] at hj;cases hj
    |some c=>
     rw[hc] at hj;simp at hj;obtain⟨v,hv,h2,ht⟩:=hrd j c hc;rw[hv] at hj;simp at hj;subst hj;exact h2
   ·refine Au.of_at (by simp) fun j c v hc hj=>?_
    rw[List.getElem?_mapIdx,hc] at hj;simp at hj;obtain⟨u,hu,_,ht⟩:=hrd j c hc;rw[hu] at hj;simp at hj;subst hj;exact ht
 ·cases hk
theorem Xq {e:TypeId}(h:CD P e=true):∃i z,P.info? e=some i∧i.zero=some z∧z.cells.size=i.size∧As P e=i.size:=by
 unfold CD at h;split at h
 ·rename_i i hi;split at h
  ·rename_i z hz;exact⟨i,z,hi,hz,Nat.eq_of_beq_eq_true h,by simp[As,hi]⟩
  ·cases h
 ·cases h
theorem run_first_slice {es n cap:Nat}{ad:Option Addr}{olds:List Value}(h:(ad=none∧olds=[])∨∃p,ad=some p∧olds.length=n*es∧∀(j:Nat) v,olds[j]?=some v->w.cell? (p.add j)=some v):
  (Builtin.firstCells es n (.slice ad n cap)).run P w=.ok olds.toArray w:=by
 rcases h with⟨rfl,rfl⟩|⟨p,rfl,hl,hc⟩
 ·rfl
 ·exact run_firstCells_some (P:=P) w es n p n cap olds hl hc
theorem append_grow_run {t tx ty e:TypeId}{i:TypeInfo}{z:Value}{d:TypeDesc}{ts:List TypeId}(ht:P.underlying t=some (.slice e)) (QA:P.underlying tx=some d)(hd:∀k,d ≠ .int k)(hi:P.info? e=some i)(hz:i.zero=some z)
  {ad:Option Addr} {n cap m:Nat} {xv:Value} {olds news:List Value} {A:Nat->Prop} {new:List PV} (hs:Src P w A i.size xv m new news)
  (hold:(ad=none∧olds=[])∨∃p,ad=some p∧olds.length=n*i.size∧∀(j:Nat) v,olds[j]?=some v->w.cell? (p.add j)=some v)
  (hg:cap<n+m)(hb:(n+m)*i.bytes<=1099511627776) (h63:n+m<=1099511627776):
  (Builtin.append_ (t::tx::ts).toArray ty #[.slice ad n cap,xv]).run P w =
   .ok (.slice (some ⟨w.heap.size,0,none⟩) (n+m) (grownCap w (n+m) cap e)) (w.drew.alloc (.cells (olds.toArray++news.toArray++Builtin.zeroCells z.cells (grownCap w (n+m) cap e-(n+m))) e)):=by
 have h1:=hs.len w;have h2:(Builtin.firstCells i.size m xv).run P w.drew=.ok news.toArray w.drew:=hs.cells w.drew (fun _ _=>rfl)
 have h3:(Builtin.firstCells i.size n (.slice ad n cap)).run P w.drew=.ok olds.toArray w.drew:=run_first_slice (w:=w.drew) (by
  rcases hold with hh|⟨p,hp,hl,hc⟩
  ·exact .inl hh
  ·exact .inr ⟨p,hp,hl,fun j v hj=>hc j v hj⟩)
 have Afh:=growslice_fits (need:=n+m) (old:=cap) (bytes:=i.bytes) hg (by omega)
 have hn:¬(n+m<=cap):=by omega
 have YB:¬(9223372036854775807<((n:Int)+(m:Int))):=by omega
 have XO:¬(281474976710656<Builtin.nextslicecap (n+m) cap*i.bytes):=by omega
 have Wv:(match d with | .int _=>true|_=>false)=false:=by cases d<;>first|rfl|exact absurd rfl (hd _)
 simp[Builtin.append_,run_underlying ht,run_underlying QA,Wv,sizeOf,typeInfo,zeroValue,hi,hz,h1,hn,YB,XO,Question.forced,h2,h3,newRow,grownCap]
 congr 2
 apply Array.ext';simp[List.append_assoc]
theorem append_room_run {t tx ty e:TypeId}{i:TypeInfo}{d:TypeDesc}{ts:List TypeId}(ht:P.underlying t=some (.slice e)) (QA:P.underlying tx=some d)(hd:∀k,d ≠ .int k)(hi:P.info? e=some i)
  {b ob n cap m:Nat} {xv:Value} {news:List Value} {A:Nat->Prop} {new:List PV} (hs:Src P w A i.size xv m new news) (hl:news.length=m*i.size)
  (hcell:∀k,k<news.length->(w.cell? ⟨b,ob+n*i.size+k,none⟩).isSome=true) (WP:∀k,k<news.length->w.frozen? ⟨b,ob+n*i.size+k,none⟩=false)(hg:n+m<=cap):
  (Builtin.append_ (t::tx::ts).toArray ty #[.slice (some ⟨b,ob,none⟩) n cap,xv]).run P w=.ok (.slice (some ⟨b,ob,none⟩) (n+m) cap) (w.setCells b (ob+n*i.size) news):=by
 have h1:=hs.len w;have h2:(Builtin.firstCells i.size m xv).run P w=.ok news.toArray w:=hs.cells w (fun _ _=>rfl)
 have h3:=run_storeCells_cells (P:=P) b (ob+n*i.size) news 0 w (fun k hk=>by simpa using hcell k hk) (fun k hk=>by simpa using WP k hk) hs.one
 have Wv:(match d with | .int _=>true|_=>false)=false:=by cases d<;>first|rfl|exact absurd rfl (hd _)
 have _:=hl;simp[Builtin.append_,run_underlying ht,run_underlying QA,Wv,sizeOf,typeInfo,hi,h1,hg,h2,Cb];rw[h3];simp
theorem FH {t ty e:TypeId}{i:TypeInfo}{ts:List TypeId}(ht:P.underlying t=some (.slice e)) (hi:P.info? e=some i)
  {ad:Option Addr} {n cap m:Nat} {xv:Value} {news:List Value} {A:Nat->Prop} {new:List PV} (hs:Src P w A i.size xv m new news)
  {w1:World} (Kk:(match ad with|some p=>storeCells p (news.take (min m n*i.size)) 0|none=>pure ()).run P w=.ok () w1):
  (Builtin.copy_ (t::ts).toArray ty #[.slice ad n cap,xv]).run P w=.ok (goInt ((min m n:Nat):Int)) w1:=by
 have h1:=hs.len w;have h2:=hs.part (min m n) (Nat.min_le_left _ _);have e:Nat.min m n=min m n:=rfl;generalize min m n=k at *
 cases ad with
 |none=>
  simp only at Kk;simp[Builtin.copy_,run_underlying ht,sizeOf,typeInfo,hi,h1,h2,e]
  simpa using Kk
 |some p=>
  simp only at Kk;simp[Builtin.copy_,run_underlying ht,sizeOf,typeInfo,hi,h1,h2,e,Kk]
theorem Ud {t tx ty e:TypeId}{i:TypeInfo}{k kx:IntKind}{ts:List TypeId}(ht:P.underlying t=some (.slice e)) (QA:P.underlying tx=some (.int k)) (hi:P.info? e=some i):
  (Builtin.append_ (t::tx::ts).toArray ty #[.slice none 0 0,.int kx 0]).run P w=.ok (.slice none 0 0) w:=by
 have hw:IntKind.i64.wrap 0=0:=by decide
 simp[Builtin.append_,run_underlying ht,run_underlying QA,sizeOf,typeInfo,hi,asInt,asIntOf,hw]
theorem Vp {t tx ty e:TypeId}{i:TypeInfo}{z:Value}{k kx:IntKind}{ts:List TypeId}(ht:P.underlying t=some (.slice e)) (QA:P.underlying tx=some (.int k)) (hi:P.info? e=some i)(hz:i.zero=some z)
  {n:Int} (h0:0<n) (hb:n.toNat*i.bytes<=1099511627776) (hn:n<=1099511627776):
  (Builtin.append_ (t::tx::ts).toArray ty #[.slice none 0 0,.int kx n]).run P w =
   .ok (.slice (some ⟨w.heap.size,0,none⟩) n.toNat (grownCap w n.toNat 0 e)) (w.drew.alloc (.cells ((if n.toNat*i.size=0 then #[] else Builtin.zeroCells z.cells n.toNat)++Builtin.zeroCells z.cells (grownCap w n.toNat 0 e-n.toNat)) e)):=by
 have hw:IntKind.i64.wrap n=n:=IntWalk.i64_in n (by omega)
 have Afh:=growslice_fits (need:=n.toNat) (old:=0) (bytes:=i.bytes) (by omega) (by omega)
 have HY:¬n<0:=by omega
 have Eg:¬(281474976710656<n*(i.bytes:Int)):=by
  have:n*(i.bytes:Int)=((n.toNat*i.bytes:Nat):Int):=by
   rw[Int.natCast_mul,Int.toNat_of_nonneg (by omega)]
  omega
 have hz0:¬(n.toNat=0):=by omega
 have YB:¬(9223372036854775807<(n.toNat:Int)):=by omega
 have XO:¬(281474976710656<Builtin.nextslicecap n.toNat 0*i.bytes):=by omega
 have Tn:¬n<=0:=by omega
 have hmx:¬(9223372036854775807<max n 0):=by omega
 by_cases hs:n.toNat*i.size=0
 ·simp[Builtin.append_,run_underlying ht,run_underlying QA,sizeOf,typeInfo,zeroValue,hi,hz,asInt,asIntOf,hw,HY,Eg,hz0,Tn,hmx,YB,XO,Question.forced,hs,newRow,grownCap,Builtin.firstCells]
 ·simp[Builtin.append_,run_underlying ht,run_underlying QA,sizeOf,typeInfo,zeroValue,hi,hz,asInt,asIntOf,hw,HY,Eg,hz0,Tn,hmx,YB,XO,Question.forced,hs,newRow,grownCap,Builtin.firstCells]
theorem I7 {t tx ty e:TypeId}{i:TypeInfo}{d:TypeDesc}{ts:List TypeId}(ht:P.underlying t=some (.slice e)) (QA:P.underlying tx=some d)(hd:∀k,d ≠ .int k)(hi:P.info? e=some i)
  {ad:Option Addr} {xv:Value} {news:List Value} {A:Nat->Prop} {new:List PV} (hs:Src P w A i.size xv 0 new news) (h0:news=[]):
  (Builtin.append_ (t::tx::ts).toArray ty #[.slice ad 0 0,xv]).run P w=.ok (.slice ad 0 0) w:=by
 subst h0;have h1:=hs.len w;have h2:(Builtin.firstCells i.size 0 xv).run P w=.ok ([]:List Value).toArray w:=hs.cells w (fun _ _=>rfl)
 have Wv:(match d with | .int _=>true|_=>false)=false:=by cases d<;>first|rfl|exact absurd rfl (hd _)
 cases ad<;>simp[Builtin.append_,run_underlying ht,run_underlying QA,Wv,sizeOf,typeInfo,hi,h1,h2,storeCells]
end
open Go.RowKit
section
variable {R:Type} {r:R} {P:Program} {N:Nat} {w0:World} {X0:Ft} {Y:Nat->Prop} {β β':Bt} {s:St} {a:Act} {w w':World} {o:Oper} {A:Nat->Prop}
theorem N2 {b j:Nat}(h:j<bsz w b):(w.cell? ⟨b,j,none⟩).isSome=true:=by
 unfold bsz at h;unfold World.cell?;split at h
 ·rename_i c e fz hb;simp[hb,h]
 ·omega
theorem KE {id d:Nat}{c cells:List PV}{bo:Option (Nat × Nat)} (h0:s.hp id=some (.ar false c)) (hd:s.hp d=none)
  (BI:∀k x,bo=some (k,x)->w.heap.size<=k∨∃y,β id=some (k,y)):
  ∀k,k<w.heap.size->Bz (Bi (Bi s.hp id (some .mv)) d (some (.ar false cells))) (Bi β d bo) Y k->Bz s.hp β Y k:=by
 rintro k hk (⟨i,x,hl,hβ⟩|hY)
 ·by_cases e':i=d
  ·subst e';rw[Af] at hβ;rcases BI k x hβ with h|⟨y,hy⟩
   ·omega
   ·exact .inl ⟨id,y,by rw[h0];trivial,hy⟩
  ·rw[Ad _ _ e'] at hl hβ;by_cases e:i=id
   ·subst e;rw[Af] at hl;exact hl.elim
   ·rw[Ad _ _ e] at hl;exact .inl ⟨i,x,hl,hβ⟩
 ·exact .inr hY
theorem X5 {pre new:List PV}{olds news:List Value}{zs:Array Value}{e:TypeId}{A':Nat->Prop}(hg:D0 w w' (olds.toArray++news.toArray++zs) e) (hA:∀b,b<w.heap.size->A' b->A b)
  (h1:Au (Ap w A) pre olds) (h2:Au (Ap w A) new news) (ho:∀u∈olds,u.oneCell'=true)(hn:∀u∈news,u.oneCell'=true):EC w' A' ⟨w.heap.size,0,none⟩ (pre++new):=by
 refine NA hg hA fun j p hj=>?_
 obtain⟨v,hv,ht⟩:=(h1.app h2).get hj;refine⟨v,?_,?_,ht⟩
 ·have Bk:j<(olds++news).length:=by
   rcases Nat.lt_or_ge j (olds++news).length with h|h
   ·exact h
   ·rw[List.getElem?_eq_none h] at hv;cases hv
  rw[Array.getElem?_append_left (by simpa using Bk)]
  simpa using hv
 ·rcases List.mem_append.1 (List.mem_of_getElem? hv) with hm|hm
  ·exact ho v hm
  ·exact hn v hm
theorem DD (h:Br N w0 X0 Y β s a w){c:Call}(ho:o.op=.call c)(hc:c.callee=.builtin .append)(XS:Sr c=true){d:Nat}(OD:o.dst=some d){b x:Operand}(Dl:c.args.toList=[b,x]) {t tx:TypeId}{ts:List TypeId}(Vk:c.argTypes.toList=t::tx::ts)
  {K:PV->List (Nat × A1)->Option R} (hk:Ow P (Hd s.hp) d t tx (A8 s.tm x) K=some r):∃v nw,K v nw=some r∧C5 P a w o Y β s v [] nw:=by
 have hb:b=.const (.slice none 0 0):=by
  unfold Sr at XS;rw[Dl] at XS;split at XS
  ·rename_i e;injection e
  ·cases XS
 have Yi:c.args = #[b,x]:=by
  have:c.args=([b,x]:List Operand).toArray:=by rw[←Dl]
  exact this
 have HE:c.argTypes=(t::tx::ts).toArray:=by rw[←Vk]
 have Lk:a.eval b=.slice none 0 0:=by rw[hb];rfl
 have run:∀{v:Value} {w1:World},(Builtin.append_ (t::tx::ts).toArray o.type #[a.eval b,a.eval x]).run P w=.ok v w1->(execOp a.eval o).run P w=.ok (.value v) w1:=by
  intro v w1 hr;unfold execOp;rw[ho];simp only[resolve,hc,invoke,builtin,Sem.run_bind,Sem.run_pure,Result.andThen_ok,Yi,HE];have:(#[b,x]:Array Operand).map a.eval = #[a.eval b,a.eval x]:=by simp
  rw[this,hr];rfl
 unfold Ow at hk;split at hk
 ·rename_i e hu;obtain⟨PN,hk⟩:=Ae hk;obtain⟨i,z,hi,hz,Wt,Jx⟩:=Xq PN;have Nz:((P.info? e).map (·.bytes)).getD 0=i.bytes:=by rw[hi];rfl
  obtain⟨⟨dx,hdx,EL⟩,m,new,news,hk,hs⟩:=Yd (s:=s) h hk (fun m new Iy=>by
   obtain⟨hb,_⟩:=Ae Iy;simp only[Bool.and_eq_true,decide_eq_true_eq] at hb;exact hb.1.1)
  obtain⟨Fp,hk⟩:=Ae hk;simp only[Bool.and_eq_true,decide_eq_true_eq] at Fp;obtain⟨⟨MM,SY⟩,Xp⟩:=Fp;have XG:new.length=news.length:=hs.rep.len;rw[Jx] at MM hk hs;rw[Nz] at SY;have Uh:news.length=m*i.size:=by omega
  refine⟨_,_,hk,by simp,?_⟩
  by_cases WW:m=0
  ·subst WW;have hr:=I7 (P:=P) (w:=w) (t:=t) (tx:=tx) (ty:=o.type) (ts:=ts) (ad:=none) hu hdx EL hi hs (List.eq_nil_of_length_eq_zero (by omega))
   rw[←Lk] at hr;have GG:new=[]:=List.eq_nil_of_length_eq_zero (by omega)
   subst GG;refine⟨_,_,run hr,fun TH=>⟨Bi β d none,?_⟩⟩
   have Q8:s.hp d=none:=(Ax TH).1 d _ (List.mem_singleton_self _);rw[Lk];refine⟨rfl,rfl,rfl,Ba.refl _ _,fun j hj=>Ad _ _ (by rintro rfl;exact hj Q8),?_,?_,?_,?_,?_,.inl ⟨Af _ _ _,rfl,rfl,none,rfl⟩,?_⟩
   ·intro j bx hm;simp at hm;rw[hm.2];trivial
   ·intro j bx hm;simp at hm;obtain⟨rfl,rfl⟩:=hm;exact .inl ⟨Af _ _ _,rfl⟩
   ·intro j bx k q hm hq;simp at hm;obtain⟨rfl,rfl⟩:=hm;rw[Af] at hq;cases hq
   ·intro j bx j' bx' k q q' hm Jk _ _;simp at hm Jk;rw[hm.1,Jk.1]
   ·intro j cells hm;simp at hm
   ·intro j hj;simp[A5,Bh,Aj] at hj;subst hj;exact .inr ⟨.ar false [],by simp⟩
  ·have hr:=append_grow_run (P:=P) (w:=w) (t:=t) (tx:=tx) (ty:=o.type) (ts:=ts) (ad:=none) (n:=0) (cap:=0) (olds:=[]) hu hdx EL hi hz hs (.inl ⟨rfl,rfl⟩) (by omega) (by rw[Nat.zero_add];exact SY) (by omega)
   rw[←Lk] at hr;refine⟨_,_,run hr,fun TH=>⟨Bi β d (some (w.heap.size,0)),?_⟩⟩
   have Q8:s.hp d=none:=(Ax TH).1 d _ (List.mem_singleton_self _);have QY:0+m<=grownCap w (0+m) 0 e:=grownCap_ge w (0+m) 0 e
   have Qt:D0 w (w.drew.alloc (.cells (([]:List Value).toArray++news.toArray++Builtin.zeroCells z.cells (grownCap w (0+m) 0 e-(0+m))) e)) (([]:List Value).toArray++news.toArray++Builtin.zeroCells z.cells (grownCap w (0+m) 0 e-(0+m))) e:=
    ⟨rfl,rfl,rfl,fun k hk=>Below.heap_alloc w.drew _ k hk,by show (w.heap.push _).size=_;simp,(0,0),by show (w.heap.push _)[w.heap.size]?=_;simp,.inl rfl⟩
   have JS:(([]:List Value).toArray++news.toArray++Builtin.zeroCells z.cells (grownCap w (0+m) 0 e-(0+m))).size=grownCap w (0+m) 0 e*i.size:=by
    simp only[Array.size_append,List.size_toArray,size_zeroCells,Wt,Uh,List.length_nil,←Nat.add_mul];rw[Nat.zero_add (m*i.size),←Nat.add_mul]
    congr 1
    omega
   refine L4 (s:=⟨s.tm,Ac s.hp []⟩) Qt Q8 trivial ?_ (fun cells hx=>by cases hx) ?_ (by intro j hj;simp[A5,Bh,Aj] at hj;exact .inr hj)
   ·refine .inr ⟨w.heap.size,0,Af _ _ _,?_,fun _ j _ hj=>?_,(fun q=>by cases q)⟩
    ·exact X5 (pre:=[]) Qt (MN (s:=⟨s.tm,Ac s.hp []⟩) Q8) trivial hs.rep (by simp) hs.one
    ·rw[Qt.bsz] at hj;exact Qt.frozen hj
   ·refine .inr ⟨w.heap.size,0,0,grownCap w (0+m) 0 e,Af _ _ _,by rw[Nat.zero_add],.inl rfl,by omega,?_,by rw[Qt.size];omega⟩
    exact⟨by rw[Qt.bsz,JS];omega,.inr (H0 w.drew _ e)⟩
 ·cases hk
theorem GL {lo hi:Option Operand}{y3:Operand}{k3:IntKind}{len cap l u m:Nat}(hl:(lo=none∧l=0)∨∃y k,lo=some y∧a.eval y=.int k (l:Int))
  (hu:∃y k,hi=some y∧a.eval y=.int k (u:Int)) (hm:a.eval y3=.int k3 (m:Int)) (h1:l<=u)(h2:u<=m)(h3:m<=cap):
  (Instr.sliceBounds true len cap (lo.map a.eval) (hi.map a.eval) (some (a.eval y3))).run P w=.ok (l,u,m) w:=by
 obtain⟨y,k,rfl,hy⟩:=hu;rcases hl with⟨rfl,rfl⟩|⟨y',k',rfl,hy'⟩
 ·simp[Instr.sliceBounds,Instr.sliceBound,asIntOf,hy,hm,h2,h3]
 ·simp[Instr.sliceBounds,Instr.sliceBound,asIntOf,hy,hy',hm,h1,h2,h3]
theorem CR (h:Br N w0 X0 Y β s a w){t:TypeId}{x m:Operand}{lo hi:Option Operand}(ho:o.op=.slice t x lo hi (some m)) {d:Nat}{K:PV->List (Nat × A1)->Option R}
  (hk:Ou P d t (A8 s.tm x) (lo.map (A8 s.tm)) (hi.map (A8 s.tm)) (some (A8 s.tm m)) K=some r):∃v nw,K v nw=some r∧C5 P a w o Y β s v [] nw:=by
 have hx:=Bv h x;unfold Ou at hk;split at hk
 ·rename_i e hu;obtain⟨hb,hk⟩:=Ae hk;simp only[Bool.and_eq_true] at hb;obtain⟨Lc,hhi⟩:=hb
  obtain⟨yh,rfl⟩:∃y,hi=some y:=by
   cases hi with
   |none=>simp at hhi
   |some y=>exact⟨y,rfl⟩
  have fin:∀{ad:Option Addr} {n cap l u q:Nat},a.eval x=.slice ad n cap->n<=cap->((lo=none∧l=0)∨∃y k,lo=some y∧a.eval y=.int k (l:Int))->((some yh=none∧u=n)∨∃y k,some yh=some y∧a.eval y=.int k (u:Int))->(((some m:Option Operand)=none∧q=n)∨∃y k,(some m:Option Operand)=some y∧a.eval y=.int k (q:Int)) ->
    (Nat.beq l q&&Nat.beq u q&&decide (q<=n))=true->C5 P a w o Y β s (.view d (As P e) 0 0) [] [(d,.ar false [])]:=by
   intro ad n cap l u q B0 hn hl F5 hq hb;simp only[Bool.and_eq_true,decide_eq_true_eq] at hb;obtain⟨⟨b1,b2⟩,b3⟩:=hb;have b1:=Nat.eq_of_beq_eq_true b1;have b2:=Nat.eq_of_beq_eq_true b2;subst b1 b2
   have hu2:∃y k,(some yh:Option Operand)=some y∧a.eval y=.int k (u:Int):=by
    rcases F5 with⟨e,_⟩|e
    ·cases e
    ·exact e
   obtain⟨k3,hm3⟩:∃k,a.eval m=.int k (u:Int):=by
    rcases hq with⟨e,_⟩|⟨y,k,e,q⟩
    ·cases e
    ·cases e;exact⟨k,q⟩
   have EA:=GL (P:=P) (w:=w) (len:=n) (cap:=cap) hl hu2 hm3 (Nat.le_refl _) (Nat.le_refl _) (by omega)
   have Bn:∃ad',(execOp a.eval o).run P w=.ok (.value (.slice ad' 0 0)) w:=by
    unfold execOp;rw[ho];cases ad with
    |none=>exact⟨none,by simp[Instr.sliceAt,Instr.slice,run_underlying hu,B0,EA,Bp Lc] at EA ⊢⟩
    |some p=>exact⟨some p,by simp[Instr.sliceAt,Instr.slice,run_underlying hu,B0,EA,Bp Lc] at EA ⊢⟩
   obtain⟨ad',Bn⟩:=Bn;refine⟨by simp,_,_,Bn,fun TH=>⟨Bi β d none,?_⟩⟩
   have Q8:s.hp d=none:=(Ax TH).1 d _ (List.mem_singleton_self _);refine⟨rfl,rfl,rfl,Ba.refl _ _,fun j hj=>Ad _ _ (by rintro rfl;exact hj Q8),?_,?_,?_,?_,?_,.inl ⟨Af _ _ _,rfl,rfl,ad',rfl⟩,?_⟩
   ·intro j bx hm;simp at hm;rw[hm.2];trivial
   ·intro j bx hm;simp at hm;obtain⟨rfl,rfl⟩:=hm;exact .inl ⟨Af _ _ _,rfl⟩
   ·intro j bx k q hm hq;simp at hm;obtain⟨rfl,rfl⟩:=hm;rw[Af] at hq;cases hq
   ·intro j bx j' bx' k q q' hm Jk _ _;simp at hm Jk;rw[hm.1,Jk.1]
   ·intro j cells hm;simp at hm
   ·intro j hj;simp[A5,Bh,Aj] at hj;subst hj;exact .inr ⟨.ar false [],by simp⟩
  split at hk
  ·rename_i id es off n e';rw[e'] at hx;obtain⟨Sj,hk⟩:=Ae hk;obtain⟨l,hk,hl⟩:=Ci h hk;obtain⟨u,hk,F5⟩:=Ci h hk;obtain⟨q,hk,hq⟩:=Ci (x:=some m) h hk;obtain⟨hb,hk⟩:=Ae hk;refine⟨_,_,hk,?_⟩;rcases hx with⟨hβ,_,rfl,ad,B0⟩|⟨b,ob,y,cap,hβ,B0,hy,hn,Pg,Bk⟩
   ·exact fin B0 (Nat.le_refl _) hl F5 hq hb
   ·exact fin B0 hn hl F5 hq hb
  ·obtain⟨z,n,c,hk,hp⟩:=Dy hk;obtain⟨l,hk,hl⟩:=Ci h hk;obtain⟨u,hk,F5⟩:=Ci h hk;obtain⟨q,hk,hq⟩:=Ci (x:=some m) h hk;obtain⟨hb,hk⟩:=Ae hk;refine⟨_,_,hk,?_⟩;rcases El hp hx with⟨B0,rfl,rfl⟩|⟨ad,cap,B0,_,hn,_⟩|⟨ad,cap,B0,_,rfl,rfl⟩
   ·exact fin B0 (Nat.le_refl _) hl F5 hq hb
   ·exact fin B0 hn hl F5 hq hb
   ·exact fin B0 (Nat.zero_le _) hl F5 hq hb
 ·cases hk
end
open Go.RowKit
section
variable {R:Type} {r:R} {P:Program} {N:Nat} {w0:World} {X0:Ft} {Y:Nat->Prop} {β β':Bt} {s:St} {a:Act} {w w':World} {o:Oper} {A:Nat->Prop}
theorem WL (h:Br N w0 X0 Y β s a w){G:Glo}(Ig:FX P G w0 X0){C:E9}{call:Ah}(Co:∀f args res,call f args=some res->Dr G P f args res){K:PV->List Nat->List (Nat × A1)->Option R}
  (hk:Ws C P N call s.tm (rd s.hp) (Hd s.hp) o K=some r):∃v fz nw,K v fz nw=some r∧Wn P a w o Y β s v fz nw:=by
 have one:∀{K':PV->Option R},(∀v,K' v=some r->K v [] []=some r)->(∃v,K' v=some r∧C5 P a w o Y β s v [] [])->∃v fz nw,K v fz nw=some r∧Wn P a w o Y β s v fz nw:=
  fun hK ⟨v,h1,h2⟩=>⟨v,[],[],hK v h1,Xc h2⟩
 have many:(∃v fz nw,K v fz nw=some r∧C5 P a w o Y β s v fz nw)->∃v fz nw,K v fz nw=some r∧Wn P a w o Y β s v fz nw:=
  fun ⟨v,fz,nw,h1,h2⟩=>⟨v,fz,nw,h1,Xc h2⟩
 unfold Ws at hk;split at hk
 ·rename_i x ho;exact one (fun _ h=>h) (Si (K:=fun p=>K p [] []) h (QS ho) hk)
 ·rename_i x ho;exact one (fun _ h=>h) (Si (K:=fun p=>K p [] []) h (EO ho) hk)
 ·rename_i c x y ho;exact one (fun _ h=>h) (KO (K:=fun p=>K p [] []) h ho hk)
 ·rename_i t ho;obtain⟨d,hd,hk⟩:=Bq hk;exact many (GE ho hk)
 ·rename_i t x ho;obtain⟨d,hd,hk⟩:=Bq hk;exact many (QG h ho hk)
 ·rename_i t ps ho;exact one (fun _ h=>h) (FL (K:=fun p=>K p [] []) h ho hk)
 ·rename_i t n ps ho;obtain⟨d,hd,hk⟩:=Bq hk;exact many (Tm h ho hk)
 ·rename_i t x ho;exact one (fun _ h=>h) (LB (K:=fun p=>K p [] []) h ho hk)
 ·rename_i x ho;exact one (fun _ h=>h) (X6 (K:=fun p=>K p [] []) h ho hk)
 ·rename_i op t x y ty ho;exact one (fun _ h=>h) (GC (K:=fun p=>K p [] []) h ho hk)
 ·rename_i op t x ho;exact one (fun _ h=>h) (KM (K:=fun p=>K p [] []) h ho hk)
 ·rename_i src dst x ho;obtain⟨v,nw,hk,hg⟩:=JC h ho hk;obtain⟨d,hd,hk⟩:=Bq hk;exact⟨v,[],nw,hk,Xc hg⟩
 ·rename_i t x y ho;obtain⟨d,hd,hk⟩:=Bq hk;exact many (KL h ho hk)
 ·rename_i t x lo hi mx ho;split at hk
  ·exact one (fun _ h=>h) (FS (K:=fun p=>K p [] []) h ho hk)
  ·obtain⟨d,hd,hk⟩:=Bq hk;obtain⟨v,nw,h1,h2⟩:=CR h ho hk;exact⟨v,[],nw,h1,Xc h2⟩
 ·rename_i t x f ho;exact one (fun _ h=>h) (Vr (K:=fun p=>K p [] []) h ho hk)
 ·rename_i t x f ho;exact one (fun _ h=>h) (HG (K:=fun p=>K p [] []) h ho hk)
 ·rename_i t x i ho;exact one (fun _ h=>h) (Vc (K:=fun p=>K p [] []) h ho hk)
 ·rename_i t x i ho;exact one (fun _ h=>h) (EI (K:=fun p=>K p [] []) h ho hk)
 ·rename_i x i ho;exact one (fun _ h=>h) (Y8 (K:=fun p=>K p [] []) h ho hk)
 ·rename_i c ho;split at hk
  ·rename_i hc;exact one (fun _ h=>h) (PJ (K:=fun p=>K p [] []) h ho hc hk)
  ·rename_i hc;exact one (fun _ h=>h) (PR (K:=fun p=>K p [] []) h ho hc hk)
  ·rename_i hc;exact one (fun _ h=>h) (NI (K:=fun p=>K p [] []) h ho hc hk)
  ·rename_i hc;exact one (fun _ h=>h) (QL (K:=fun p=>K p [] []) h ho hc hk)
  ·rename_i hc;obtain⟨XS,hk⟩:=Ae hk;obtain⟨d,hd,Cs⟩:=Bq hk;obtain⟨b,xs,Yo,Dq⟩:=Ar Cs;obtain⟨x,ys,hys,Mm⟩:=Ar Dq;obtain⟨Tg,Xx⟩:=B7 Mm;obtain⟨t,us,RB,XI⟩:=Ar Xx;obtain⟨tx,vs,G8,hk6⟩:=Ar XI;rw[hys,Tg] at Yo;rw[G8] at RB;obtain⟨v,nw,h1,h2⟩:=DD h ho hc XS hd Yo RB hk6;exact⟨v,[],nw,h1,Xc h2⟩
  ·rename_i f hc;exact Xu h Ig Co (fun hf hb=>GX ho hc Ig.ng hf hb) hk
  ·rename_i t hc;obtain⟨f,hf0,Cs⟩:=ZY hk;have ht:a.eval (.tmp t)=.func (.func f) #[] #[]:=Bl h (x:=.tmp t) hf0;exact Xu h Ig Co (fun hf hb=>QJ ho hc ht Ig.ng hf hb) Cs
  ·cases hk
 ·cases hk
theorem KI (h:Br N w0 X0 Y β s a w){G:Glo}(Ig:FX P G w0 X0){C:E9}{call:Ah}(Co:∀f args res,call f args=some res->Dr G P f args res){K:St->Option R}
  (hk:(Ws C P N call s.tm (rd s.hp) (Hd s.hp) o fun v fz nw=>T7 N s o.dst v fz nw K)=some r):
  ∃s',K s'=some r∧∀(next:Act->World->Prop) (Q:Exit->Act->World->Prop),(∀a' w' β',Br N w0 X0 Y β' s' a' w'->next a' w')->o.wp P a w next Q:=by
 obtain⟨v,fz,nw,hk,Ng,hg⟩:=WL h Ig Co hk;unfold T7 at hk;obtain⟨hb,hk⟩:=Ae hk;simp only[Bool.and_eq_true] at hb;refine⟨_,hk,fun next Q hn=>hg next Q fun val w' Kk=>?_⟩
 obtain⟨β',st⟩:=Kk hb.2
 have Lk:A3 (Ac s.hp fz) nw=true:=by
  have:∀nw,A3 s.hp nw=true->A3 (Ac s.hp fz) nw=true:=by
   intro nw
   induction nw with
   |nil=>intro _;rfl
   |cons q nw ih=>
    obtain⟨i,b⟩:=q;intro hq;simp only[A3,Bool.and_eq_true,Option.isNone_iff_eq_none] at hq ⊢;exact⟨⟨Cp.2 hq.1.1,hq.1.2⟩,ih hq.2⟩
  exact this nw hb.2
 exact hn _ _ β' ((h.freeze Ng).stepR hb.1 Lk st)
end
open Go.RowKit
section
variable {R:Type} {r:R} {P:Program} {N:Nat} {w0:World} {X0:Ft} {Y:Nat->Prop} {β β':Bt} {s:St} {a:Act} {w w':World} {o:Oper} {A:Nat->Prop}
structure Bd (b:Nat) (w w':World):Prop where
 os:w'.os=w.os
 tape:w'.tape=w.tape
 output:w'.output=w.output
 size:w'.heap.size=w.heap.size
 other:∀k,k≠b->w'.heap[k]?=w.heap[k]?
 bs:bsz w' b=bsz w b
 frz:∀j,w'.frozen? ⟨b,j,none⟩=w.frozen? ⟨b,j,none⟩
theorem Bd.grow {b:Nat}(h:Bd b w w')(k:Nat):Gu w w' k:=by
 by_cases e:k=b
 ·subst e;refine⟨by rw[h.bs];exact Nat.le_refl _,fun q=>?_⟩
  unfold FW at q ⊢;rw[h.bs,h.frz];exact q
 ·exact Gu.same (h.other k e)
theorem Bd.refl (b:Nat)(w:World):Bd b w w:=⟨rfl,rfl,rfl,rfl,fun _ _=>rfl,rfl,fun _=>rfl⟩
theorem Bd.setCell (b j:Nat)(v:Value)(w:World):Bd b w (w.setCell ⟨b,j,none⟩ v):=by
 refine⟨rfl,rfl,rfl,by simp[World.setCell],fun k hk=>Below.heap_setCell w ⟨b,j,none⟩ v k hk,?_,fun i=>?_⟩
 ·simp only[bsz,World.setCell,Array.getElem?_modify];simp only[if_true];cases h:w.heap[b]? with
  |none=>simp
  |some x=>cases x<;>simp
 ·simp only[World.frozen?,World.setCell,Array.getElem?_modify,if_true];cases h:w.heap[b]? with
  |none=>simp
  |some x=>cases x<;>simp
theorem Bd.trans {b:Nat}{w'':World}(h:Bd b w w')(h':Bd b w' w''):Bd b w w'':=
 ⟨h'.os.trans h.os,h'.tape.trans h.tape,h'.output.trans h.output,h'.size.trans h.size,fun k hk=>(h'.other k hk).trans (h.other k hk),h'.bs.trans h.bs,fun j=>(h'.frz j).trans (h.frz j)⟩
theorem Bd.setCells (b:Nat):∀(vs:List Value)(j:Nat)(w:World),Bd b w (w.setCells b j vs)
 |[],_,w=>Bd.refl b w
 |v::vs,j,w=>(Bd.setCell b j v w).trans (Bd.setCells b vs (j+1) _)
theorem Ago {hp:Nat->Option A1}{id:Nat}{bx bx':A1}(h0:hp id=some bx)(hl:Bx (some bx)) (He:Bx (some bx')) (b:Nat):BK (Bi hp id (some bx')) β b↔BK hp β b:=by
 constructor
 ·rintro⟨i,o,h1,h2⟩
  by_cases e:i=id
  ·subst e;exact⟨i,o,by rw[h0];exact hl,h2⟩
  ·rw[Ad _ _ e] at h1;exact⟨i,o,h1,h2⟩
 ·rintro⟨i,o,h1,h2⟩
  by_cases e:i=id
  ·subst e;exact⟨i,o,by rw[Af];exact He,h2⟩
  ·exact⟨i,o,by rw[Ad _ _ e];exact h1,h2⟩
theorem Br.write (h:Br N w0 X0 Y β s a w){id b ob:Nat}{bx bx':A1}(h0:s.hp id=some bx)(hl:Bx (some bx)) (He:Bx (some bx')) (hβ:β id=some (b,ob)) (hw:Bd b w w')
  (I2:Nd w' (Bz s.hp β Y) β id bx') (hr:∀cells,bx'=.st cells->∀c∈cells,∀i∈Aj c,s.hp i≠none)
  (hK:∀c',bx'=.st c'->∃c,bx=.st c)(hR:∀j,BR bx' ob j->BR bx ob j)(hO:∀j,¬BR bx ob j->w'.cell? ⟨b,j,none⟩=w.cell? ⟨b,j,none⟩):Br N w0 X0 Y β ⟨s.tm,Bi s.hp id (some bx')⟩ a w':=by
 have hX:=Ago (β:=β) h0 hl He;have hA:∀k,Bz (Bi s.hp id (some bx')) β Y k↔Bz s.hp β Y k:=fun k=>⟨fun x=>x.imp (hX k).1 (fun y=>y),fun x=>x.imp (hX k).2 (fun y=>y)⟩
 have XF:Bz s.hp β Y b:=.inl ⟨id,ob,by rw[h0];exact hl,hβ⟩
 have Kk:Ba (Bz s.hp β Y) w w':=⟨by rw[hw.size];exact Nat.le_refl _,fun k _ hk=>hw.other k (fun e=>hk (e ▸ XF)),fun k _=>hw.grow k⟩
 have Eg:∀i,Bi s.hp id (some bx') i≠none↔s.hp i≠none:=by
  intro i;by_cases e:i=id
  ·subst e;rw[Af,h0];simp
  ·rw[Ad _ _ e]
 have hAe:Bz (Bi s.hp id (some bx')) β Y=Bz s.hp β Y:=funext fun k=>propext (hA k)
 have Ry:∀i,Bx (Bi s.hp id (some bx') i)->Bx (s.hp i):=by
  intro i hi;by_cases e:i=id
  ·subst e;rw[h0];exact hl
  ·rw[Ad _ _ e] at hi;exact hi
 refine⟨h.dfr,h.tsz,h.tmo,fun i hi=>?_,fun i bi hb=>?_,fun i i' k x y h1 h2=>h.inj i i' k x y (Ry i h1) (Ry i' h2),fun i k x hi hk=>?_,fun i hi j hj=>(Eg j).2 (h.wfT i hi j hj),
  fun i cells hc c FC j hj=>(Eg j).2 ?_,fun k hk=>h.ownd k ((hX k).1 hk),fun i bi k x Vm hli hk Bk j hj=>?_,fun i hi=>⟨(Eg _).2 (h.pin i hi).1,(h.pin i hi).2⟩,fun i c k x hc hk Bk=>?_,fun k hk x=>h.Yx k hk ((hX k).1 x),h.Ylt,?_⟩
 ·rw[hAe];exact (h.tms i hi).step Kk (fun _ _ x=>x) (fun _ _=>rfl)
 ·rw[hAe];simp only at hb;by_cases e:i=id
  ·subst e;rw[Af] at hb;cases hb;exact I2
  ·rw[Ad _ _ e] at hb;have Vm:=h.box i bi hb;cases bi with
   |st c=>
    obtain⟨k,x,h1,h2,h3⟩:=Vm
    have hk:k≠b:=by
     rintro rfl
     exact e (h.inj i id k x ob (by rw[hb];trivial) (by rw[h0];exact hl) h1 hβ)
    refine⟨k,x,h1,fun j c hj=>?_,fun j hj=>?_⟩
    ·obtain⟨v,hv,hc⟩:=h2 j c hj;exact⟨v,by rw[World.cell?_of_block (w:=w) (hw.other k hk)];exact hv,hc.step Kk (fun _ _ x=>x) (fun _ _=>rfl)⟩
    ·rw[World.frozen?_of_block (w:=w) (hw.other k hk)];exact h3 j hj
   |ar fz c=>
    rcases Vm with hn|⟨k,x,h1,h2,h3,h4⟩
    ·exact .inl hn
    ·have hk:k≠b:=by
      rintro rfl
      cases fz with
      |true=>exact h4 rfl XF
      |false=>exact e (h.inj i id k x ob (by rw[hb];trivial) (by rw[h0];exact hl) h1 hβ)
     refine .inr ⟨k,x,h1,fun j c hj=>?_,fun ef j hj Kp=>?_,h4⟩
     ·obtain⟨v,hv,h5,hc⟩:=h2 j c hj;exact⟨v,by rw[World.cell?_of_block (w:=w) (by rw[Eb];exact hw.other k hk)];exact hv,h5,hc.step Kk (fun _ _ x=>x)⟩
     ·rw[World.frozen?_of_block (w:=w) (hw.other k hk)];refine h3 ef j hj ?_;unfold bsz at Kp ⊢;rw[hw.other k hk] at Kp;exact Kp
   |mv=>trivial
 ·rw[hw.size];exact h.blt i k x ((Eg i).1 hi) hk
 ·simp only at hc;by_cases e:i=id
  ·subst e;rw[Af] at hc;injection hc with hc;exact hr cells hc c FC j hj
  ·rw[Ad _ _ e] at hc;exact h.wfB i cells hc c FC j hj
 ·simp only at Vm;by_cases e:i=id
  ·subst e;rw[Af] at Vm;cases Vm;rw[hβ] at hk;cases hk;exact h.rngB i bx b ob h0 hl hβ Bk j (hR j hj)
  ·rw[Ad _ _ e] at Vm;exact h.rngB i bi k x Vm hli hk Bk j hj
 ·simp only at hc;by_cases e:i=id
  ·subst e;rw[Af] at hc;injection hc with hc;obtain⟨c0,rfl⟩:=hK c hc;exact h.stp i c0 k x h0 hk Bk
  ·rw[Ad _ _ e] at hc;exact h.stp i c k x hc hk Bk
 ·refine⟨hw.os.trans h.fr.os,hw.tape.trans h.fr.tape,hw.output.trans h.fr.output,?_,fun k j hk hL=>?_⟩
  ·refine⟨by rw[hw.size];exact h.fr.step.size,fun k hk hnk=>?_,fun k hk=>(h.fr.step.bs k hk).trans (Kk.bs k (Nat.lt_of_lt_of_le hk h.fr.step.size))⟩
   rw[hw.other k ?_]
   ·exact h.fr.step.keep k hk hnk
   ·rintro rfl
    rcases h.ownd k ⟨id,ob,by rw[h0];exact hl,hβ⟩ with hx|hx
    ·exact hnk hx
    ·omega
  ·by_cases e:k=b
   ·subst e;rw[hO j (fun hj=>hL (h.rngB id bx k ob h0 hl hβ hk j hj)),hw.frz]
    exact h.fr.rng k j hk hL
   ·have hc:w'.cell? ⟨k,j,none⟩=w.cell? ⟨k,j,none⟩:=World.cell?_of_block (w:=w) (hw.other k e);have hf:w'.frozen? ⟨k,j,none⟩=w.frozen? ⟨k,j,none⟩:=World.frozen?_of_block (w:=w) (hw.other k e);rw[hc,hf];exact h.fr.rng k j hk hL
theorem M6 {c cs:List PV}{off j:Nat}{p:PV}(Tn:off+cs.length<=c.length)(h:(A2 c cs off)[j]?=some p):
  (off<=j∧j<off+cs.length∧cs[j-off]?=some p)∨((j<off∨off+cs.length<=j)∧c[j]?=some p):=by
 unfold A2 at h;by_cases h1:j<off
 ·rw[List.append_assoc,List.getElem?_append_left (by simp;omega),List.getElem?_take_of_lt h1] at h
  exact .inr ⟨.inl h1,h⟩
 ·by_cases h2:j<off+cs.length
  ·rw[List.getElem?_append_left (by simp;omega),List.getElem?_append_right (by simp;omega)] at h
   simp only[List.length_take,Nat.min_eq_left (by omega:off<=c.length)] at h
   exact .inl ⟨by omega,h2,h⟩
  ·rw[List.getElem?_append_right (by simp;omega)] at h
   simp only[List.length_append,List.length_take,Nat.min_eq_left (by omega:off<=c.length),List.getElem?_drop] at h
   rw[show off+cs.length+(j-(off+cs.length))=j from by omega] at h
   exact .inr ⟨.inr (by omega),h⟩
theorem Mq {c cs:List PV}{off:Nat}(Tn:off+cs.length<=c.length):(A2 c cs off).length=c.length:=by
 simp[A2];omega
theorem Us {t:TypeId}{b j:Nat}{v:Value}(Jx:(P.info? t).map (·.size)=some v.cells.size) (hc:∀i,i<v.cells.toList.length->(w.cell? ⟨b,j+i,none⟩).isSome=true)
  (hf:∀i,i<v.cells.toList.length->w.frozen? ⟨b,j+i,none⟩=false)(h1:∀u∈v.cells.toList,u.oneCell'=true):(Instr.storeAt t (.pointer (some ⟨b,j,none⟩)) v).run P w=.ok () (w.setCells b j v.cells.toList):=by
 have:=run_storeCells_cells (P:=P) b j v.cells.toList 0 w (fun i hi=>by simpa using hc i hi) (fun i hi=>by simpa using hf i hi) h1
 simp only[Instr.storeAt,Instr.sureAddr,storeVar,Sem.run_bind,Sem.run_pure,Result.andThen_ok,H5 Jx]
 simpa using this
theorem HH (h:Br N w0 X0 Y β s a w){t:TypeId}{x y:Operand}(ho:o.op=.store t x y)(hd:o.dst=none){K:St->Option R}(hk:Tx P s t (A8 s.tm x) (A8 s.tm y) K=some r):
  ∃s',K s'=some r∧∀(next:Act->World->Prop) (Q:Exit->Act->World->Prop),(∀a' w' β',Br N w0 X0 Y β' s' a' w'->next a' w')->o.wp P a w next Q:=by
 have hx:=Bv h x;have Yl:=Di h x
 have run:∀{b j:Nat},a.eval x=.pointer (some ⟨b,j,none⟩)->(Instr.storeAt t (.pointer (some ⟨b,j,none⟩)) (a.eval y)).run P w=.ok () (w.setCells b j (a.eval y).cells.toList) ->
   ∀(next:Act->World->Prop) (Q:Exit->Act->World->Prop),next a (w.setCells b j (a.eval y).cells.toList)->o.wp P a w next Q:=by
  intro b j B0 hr next Q hn;unfold Oper.wp execOp;rw[ho];simp only[Sem.run_bind,B0,hr,Result.andThen_ok,Sem.run_pure];show next (a.put o.dst undef) _;rw[hd];exact hn
 unfold Tx at hk;split at hk
 ·rename_i id off e;rw[e] at hx Yl;obtain⟨b,ob,hβ,B0⟩:=hx;split at hk
  ·rename_i c h0;obtain⟨hb,hk⟩:=Ae hk;simp only[Bool.and_eq_true,decide_eq_true_eq] at hb;obtain⟨⟨Js,hl⟩,Tn⟩:=hb;have hl:=Nat.eq_of_beq_eq_true hl;obtain⟨cs,hk,Le,h2,h1,hr,_⟩:=MH (Bv h y) hl hk;obtain⟨_,Adn,Jx⟩:=Mi Js;have Rl:=h2.len;obtain⟨b',o',D7,Iz,BM⟩:=h.box id _ h0;rw[hβ] at D7;simp at D7;obtain⟨rfl,rfl⟩:=D7
   have hcell:∀i,i<(a.eval y).cells.toList.length->(w.cell? ⟨b,ob+off+i,none⟩).isSome=true:=by
    intro i hi;obtain⟨v,hv,_⟩:=Iz (off+i) _ (List.getElem?_eq_getElem (by omega))
    rw[Nat.add_assoc,hv];rfl
   have Bn:=Us (P:=P) (t:=t) (w:=w) (b:=b) (j:=ob+off) (v:=a.eval y) (by rw[Jx,←Adn,←Le,Rl];simp) hcell (fun i hi=>by rw[Nat.add_assoc];exact BM _ (by omega)) h1
   refine⟨_,hk,fun next Q hn=>run B0 Bn next Q (hn _ _ β ?_)⟩
   refine h.write h0 trivial trivial hβ (Bd.setCells b _ _ w) ?_ ?_ (fun _ _=>⟨_,rfl⟩) (fun j hj=>by
    have hj:ob<=j∧j<ob+(A2 c cs off).length:=hj;rw[Mq (by omega)] at hj
    exact hj) (fun j hj=>by
    refine World.cell?_setCells_out b _ _ w ⟨b,j,none⟩ (fun _ _=>?_)
    have hj:¬(ob<=j∧j<ob+c.length):=hj;show j<ob+off∨ob+off+_<=j;omega)
   ·have Kk:Ba (Bz s.hp β Y) w (w.setCells b (ob+off) (a.eval y).cells.toList):=by
     have hw:=Bd.setCells b (a.eval y).cells.toList (ob+off) w;have XF:Bz s.hp β Y b:=.inl ⟨id,ob,by rw[h0];trivial,hβ⟩
     exact⟨by rw[hw.size];exact Nat.le_refl _,fun k _ hk=>hw.other k (fun e=>hk (e ▸ XF)),fun k _=>hw.grow k⟩
    refine⟨b,ob,hβ,fun j p hj=>?_,fun j hj=>?_⟩
    ·rcases M6 (by omega) hj with⟨h3,h4,h5⟩|⟨h3,h5⟩
     ·obtain⟨u,hu,hcu⟩:=h2.get h5;have Bk:j-off<(a.eval y).cells.toList.length:=by omega
      refine⟨u,?_,hcu.step Kk (fun _ _ x=>x) (fun _ _=>rfl)⟩
      have:=World.cell?_setCells_in b (a.eval y).cells.toList (ob+off) w hcell (j-off) Bk;rw[show ob+j=ob+off+(j-off) from by omega,this]
      rw[List.getElem?_eq_getElem Bk] at hu;exact hu
     ·obtain⟨v,hv,Va⟩:=Iz j p h5;refine⟨v,?_,Va.step Kk (fun _ _ x=>x) (fun _ _=>rfl)⟩
      rw[World.cell?_setCells_out b _ _ w ⟨b,ob+j,none⟩ (fun _ _=>by show ob+j<ob+off∨ob+off+_<=ob+j;omega)]
      exact hv
    ·rw[Mq (by omega)] at hj
     rw[(Bd.setCells b _ _ w).frz];exact BM j hj
   ·intro cells hx c' M4 i hi;injection hx with hx;subst hx;unfold A2 at M4;rcases List.mem_append.1 M4 with M4|M4
    ·rcases List.mem_append.1 M4 with M4|M4
     ·exact h.wfB id c h0 c' (List.mem_of_mem_take M4) i hi
     ·exact Di h y i (hr c' M4 i hi)
    ·exact h.wfB id c h0 c' (List.mem_of_mem_drop M4) i hi
  ·rename_i c h0;obtain⟨hb,hk⟩:=Ae hk;simp only[Bool.and_eq_true,decide_eq_true_eq] at hb;obtain⟨Js,Tn⟩:=hb;obtain⟨cs,m,hk,Le,Vx,hT,hF,hm,hv⟩:=Mj h hk;obtain⟨Xp,hk⟩:=Ae hk
   have Xp:id ∉ m:=by
    intro hi;have:m.any (Nat.beq id)=true:=List.any_eq_true.2 ⟨id,hi,Nat.beq_refl id⟩;rw[this] at Xp;cases Xp
   obtain⟨_,Adn,Jx⟩:=Mi Js
   have Aad:Au (A6 w (Bz s.hp β Y) β) (cellsOf (A8 s.tm y)) (a.eval y).cells.toList:=by
    have LM:=Bv h y;cases hp:A8 s.tm y with
    |agg ps=>
     rw[hp] at LM;obtain⟨vs,hay,h2⟩:=LM;rw[hay];exact h2
    |sc v=>
     rw[hp] at LM hF
     have JT:(a.eval y).oneCell'=true:=by
      have:=hv m (fun _ hi=>hi) hm [a.eval y] (by rw[hp];exact⟨LM,trivial⟩)
      exact this.2 _ (by simp)
     rw[Jv JT];exact⟨LM,trivial⟩
    |lst z es n cc=>
     rw[hp] at LM hF
     have JT:(a.eval y).oneCell'=true:=by
      have:=hv m (fun _ hi=>hi) hm [a.eval y] (by rw[hp];exact⟨LM,trivial⟩)
      exact this.2 _ (by simp)
     rw[Jv JT];exact⟨LM,trivial⟩
    |view i es oo n=>
     rw[hp] at LM hF
     have JT:(a.eval y).oneCell'=true:=by
      have:=hv m (fun _ hi=>hi) hm [a.eval y] (by rw[hp];exact⟨LM,trivial⟩)
      exact this.2 _ (by simp)
     rw[Jv JT];exact⟨LM,trivial⟩
    |own es n cc=>
     have hx0:=hF (A8 s.tm y) (by rw[hp];exact List.mem_singleton_self _)
     rw[hp] at hx0;exact hx0.elim
    |ptr i cc=>
     have hx0:=hF (A8 s.tm y) (by rw[hp];exact List.mem_singleton_self _)
     rw[hp] at hx0;exact hx0.elim
    |iptr i cc=>
     have hx0:=hF (A8 s.tm y) (by rw[hp];exact List.mem_singleton_self _)
     rw[hp] at hx0;exact hx0.elim
    |pbox cc=>
     have hx0:=hF (A8 s.tm y) (by rw[hp];exact List.mem_singleton_self _)
     rw[hp] at hx0;exact hx0.elim
    |tup cc=>
     have hx0:=hF (A8 s.tm y) (by rw[hp];exact List.mem_singleton_self _)
     rw[hp] at hx0;exact hx0.elim
    |ub=>
     have hx0:=hF (A8 s.tm y) (by rw[hp];exact List.mem_singleton_self _)
     rw[hp] at hx0;exact hx0.elim
    |top=>
     have hx0:=hF (A8 s.tm y) (by rw[hp];exact List.mem_singleton_self _)
     rw[hp] at hx0;exact hx0.elim
   obtain⟨h2,h1⟩:=hv m (fun _ hi=>hi) hm _ Aad
   have Rl:=h2.len;have hf:=h.freeze hm;have h0':Ac s.hp m id=some (.ar false c):=by rw[A4,if_neg Xp];exact h0
   rcases hf.box id _ h0' with⟨hn,_⟩|⟨b',o',D7,Iz,BM,_⟩
   ·rw[hβ] at hn;cases hn
   rw[hβ] at D7;simp at D7;obtain⟨rfl,rfl⟩:=D7
   have hcell:∀i,i<(a.eval y).cells.toList.length->(w.cell? ⟨b,ob+off+i,none⟩).isSome=true:=by
    intro i hi;obtain⟨v,hv,_⟩:=Iz (off+i) _ (List.getElem?_eq_getElem (by omega))
    rw[Cb] at hv;rw[Nat.add_assoc,hv];rfl
   have Bn:=Us (P:=P) (t:=t) (w:=w) (b:=b) (j:=ob+off) (v:=a.eval y) (by rw[Jx,←Adn,←Le,Rl];simp) hcell (fun i hi=>by
    obtain⟨u,hu⟩:=Option.isSome_iff_exists.1 (hcell i hi);exact BM rfl _ (by omega) (Re hu)) h1
   refine⟨_,hk,fun next Q hn=>run B0 Bn next Q (hn _ _ β ?_)⟩
   refine hf.write h0' trivial trivial hβ (Bd.setCells b _ _ w) ?_ (fun cells hx=>by cases hx) (fun _ hx=>by cases hx) (fun j hj=>hj) (fun j hj=>by
    refine World.cell?_setCells_out b _ _ w ⟨b,j,none⟩ (fun _ _=>?_)
    have hj:¬(ob<=j):=hj;show j<ob+off∨ob+off+_<=j;omega)
   have Kk:Ba (Bz (Ac s.hp m) β Y) w (w.setCells b (ob+off) (a.eval y).cells.toList):=by
    have hw:=Bd.setCells b (a.eval y).cells.toList (ob+off) w;have XF:Bz (Ac s.hp m) β Y b:=.inl ⟨id,ob,by rw[h0'];trivial,hβ⟩
    exact⟨by rw[hw.size];exact Nat.le_refl _,fun k _ hk=>hw.other k (fun e=>hk (e ▸ XF)),fun k _=>hw.grow k⟩
   refine .inr ⟨b,ob,hβ,fun j p hj=>?_,fun _ j hj Kp=>?_,(fun x=>by cases x)⟩
   ·rw[Cb];rcases M6 (by omega) hj with⟨h3,h4,h5⟩|⟨h3,h5⟩
    ·obtain⟨u,hu,hcu⟩:=h2.get h5;have Bk:j-off<(a.eval y).cells.toList.length:=by omega
     refine⟨u,?_,h1 u (List.mem_of_getElem? hu),hcu.step Kk (fun _ _ x=>x)⟩
     have:=World.cell?_setCells_in b (a.eval y).cells.toList (ob+off) w hcell (j-off) Bk;rw[show ob+j=ob+off+(j-off) from by omega,this]
     rw[List.getElem?_eq_getElem Bk] at hu;exact hu
    ·obtain⟨v,hv,h6,Va⟩:=Iz j p h5;rw[Cb] at hv;refine⟨v,?_,h6,Va.step Kk (fun _ _ x=>x)⟩
     rw[World.cell?_setCells_out b _ _ w ⟨b,ob+j,none⟩ (fun _ _=>by show ob+j<ob+off∨ob+off+_<=ob+j;omega)]
     exact hv
   ·rw[(Bd.setCells b _ _ w).bs] at Kp;rw[(Bd.setCells b _ _ w).frz];exact BM rfl j hj Kp
  ·cases hk
 ·cases hk
end
open Go.RowKit
theorem Gb:∀{l l':List Nat},Cr (l++l')=true->Cr l=true∧Cr l'=true∧∀i∈l,i ∉ l'
 |[],l',h=>⟨rfl,h,by simp⟩
 |a::l,l',h=>by
  simp only[List.cons_append,Cr,Bool.and_eq_true,Bool.not_eq_true'] at h;obtain⟨h1,h2⟩:=h;obtain⟨h3,h4,h5⟩:=Gb h2
  have hn:∀i∈l++l',a≠i:=by
   rintro i hi rfl
   have:(l++l').any (Nat.beq a)=true:=List.any_eq_true.2 ⟨a,hi,Nat.beq_refl a⟩;rw[this] at h1;cases h1
  refine⟨?_,h4,fun i hi=>?_⟩
  ·simp only[Cr,Bool.and_eq_true,Bool.not_eq_true',h3,and_true];rw[List.any_eq_false];intro i hi e;exact hn i (by simp[hi]) (Nat.eq_of_beq_eq_true e)
  ·rcases List.mem_cons.1 hi with rfl|hi
   ·exact fun hm=>hn i (by simp[hm]) rfl
   ·exact h5 i hi
def Ep (β:Bt)(q:Nat × Nat):Option (Nat × Nat):=(β q.1).map fun p=>(p.1,p.2+q.2)
theorem JK (β:Bt)(id:Nat):Ep β (id,0)=β id:=by
 unfold Ep;cases β id<;>rfl
section
variable {R:Type} {r:R} {P:Program} {N:Nat} {w0:World} {X0:Ft} {Y:Nat->Prop} {β β':Bt} {s:St} {a:Act} {w w':World} {o:Oper} {A:Nat->Prop}
theorem J3 {fz:List Nat}{b:Nat}(h:Bz (Ac s.hp fz) β Y b):Bz s.hp β Y b:=h.imp L3 id
theorem VS (h:Br N w0 X0 Y β s a w){mv:Bool}{t:CT}{p:PV}{K:PV->List Nat->List Nat->Option R}(hk:PS mv s.hp t p K=some r):
  ∃c m q,K c m (Option.toList q)=some r∧isA c∧Yt p∧(∀id∈m,∃f cc,s.hp id=some (.ar f cc))∧(∀id,q=some id->∃cc,s.hp id=some (.ar false cc)) ∧
   ∀fz:List Nat,(∀id∈m,id∈fz)->(∀id∈fz,∃f cc,s.hp id=some (.ar f cc))->∀v,A6 w (Bz s.hp β Y) β p v->E2 w (Bz (Ac s.hp fz) β Y) (q.bind β) c v:=by
 have frz:∀{t:CT} {p:PV} {K:PV->List Nat->List Nat->Option R},(Km (Hd s.hp) t p fun c m=>K c m [])=some r->∃c m q,K c m (Option.toList q)=some r∧isA c∧Yt p∧(∀id∈m,∃f cc,s.hp id=some (.ar f cc))∧(∀id,q=some id->∃cc,s.hp id=some (.ar false cc)) ∧
   ∀fz:List Nat,(∀id∈m,id∈fz)->(∀id∈fz,∃f cc,s.hp id=some (.ar f cc))->∀v,A6 w (Bz s.hp β Y) β p v->E2 w (Bz (Ac s.hp fz) β Y) (q.bind β) c v:=by
  intro t p K hk;obtain⟨c,m,hk,hT,hF,hm,hv⟩:=Wy h hk;exact⟨c,m,none,hk,.inl hT,hF,hm,by simp,fun fz h1 h2 v hc=>Ib hT (hv fz h1 h2 v hc).1⟩
 have tree:∀{t:CT} {p:PV} {K:PV->List Nat->List Nat->Option R},(∀es,t ≠ .sl es)->(T0 t p fun c=>K c [] [])=some r->∃c m q,K c m (Option.toList q)=some r∧isA c∧Yt p∧(∀id∈m,∃f cc,s.hp id=some (.ar f cc))∧(∀id,q=some id->∃cc,s.hp id=some (.ar false cc)) ∧
   ∀fz:List Nat,(∀id∈m,id∈fz)->(∀id∈fz,∃f cc,s.hp id=some (.ar f cc))->∀v,A6 w (Bz s.hp β Y) β p v->E2 w (Bz (Ac s.hp fz) β Y) (q.bind β) c v:=by
  intro t p K Ie hk;obtain⟨c,hk,hT,Yf,hv⟩:=Jo hk;exact⟨c,[],none,hk,.inl hT,Ms Yf,by simp,by simp,fun fz h1 h2 v hc=>Ib hT ((hv w _ β v hc).1.step (Ba.refl _ _) (fun b _ hb=>J3 hb))⟩
 unfold PS at hk;cases t with
 |sl es=>
  dsimp only at hk;cases mv<;>simp only[cond_true,cond_false] at hk
  ·exact frz hk
  ·split at hk
   ·rename_i id es' off n;split at hk
    ·rename_i c h0;cases hb:(Nat.beq es' es&&Nat.beq off 0)<;>rw[hb] at hk<;>simp only[cond_true,cond_false] at hk
     ·exact frz hk
     ·simp only[Bool.and_eq_true] at hb;have he:=Nat.eq_of_beq_eq_true hb.1;have hof:=Nat.eq_of_beq_eq_true hb.2;subst he hof;obtain⟨hl,hk⟩:=Ae hk;refine⟨_,[],some id,hk,.inr ⟨_,_,_,rfl⟩,trivial,by simp,fun i hi=>by cases hi;exact⟨c,h0⟩,fun fz h1 h2 v hc=>?_⟩
      rcases hc with⟨h3,_,rfl,h4⟩|⟨b,ob,x,cap,h3,h4,hx,h5,h6,h7⟩
      ·exact .inl ⟨h3,rfl,by simp,h4⟩
      ·have hx:x=ob:=by rcases hx with e|⟨_,e⟩<;>omega
       subst hx;rcases h.box id _ h0 with⟨h8,_⟩|⟨b',o',h8,h9,h10,_⟩
       ·rw[h3] at h8;cases h8
       ·rw[h3] at h8;cases h8;refine .inr ⟨b,x,cap,h3,h4,h5,h6,h7,fun j p hj=>?_,h10 rfl⟩
        rw[List.getElem?_take] at hj;split at hj
        ·obtain⟨u,hu,h11,ht⟩:=h9 j p hj;exact⟨u,hu,h11,ht.step (Ba.refl _ _) (fun b _ hb=>J3 hb)⟩
        ·cases hj
    ·exact frz hk
   ·obtain⟨z,n,c,hk,hp⟩:=Dy hk;have hpF:Yt p:=by rcases hp with e|⟨e,_⟩<;>(rw[e];trivial)
    cases z<;>simp only[cond_true,cond_false] at hk
    ·refine⟨_,[],none,hk,.inl trivial,hpF,by simp,by simp,fun fz h1 h2 v hc=>?_⟩
     exact Ib trivial ((Qn hp hc).step (Ba.refl _ _) (fun b _ hb=>J3 hb))
    ·refine⟨_,[],none,hk,.inr ⟨_,_,_,rfl⟩,hpF,by simp,by simp,fun fz h1 h2 v hc=>.inl ⟨rfl,rfl,rfl,none,?_⟩⟩
     have:=Qn hp hc;cases this;rfl
 |int k=>exact tree (by simp) hk
 |bool=>exact tree (by simp) hk
 |str=>exact tree (by simp) hk
 |any=>exact tree (by simp) hk
theorem O3 (h:Br N w0 X0 Y β s a w){mv:Bool}:∀{ts:List CT}{ps:List PV}{K:List PV->List Nat->List Nat->Option R},Ux mv s.hp ts ps K=some r ->
  ∃cs m x,∃q:Nat->Option Nat,K cs m x=some r∧cs.length=ts.length∧ps.length=ts.length∧(∀c∈cs,isA c)∧(∀p∈ps,Yt p)∧(∀id∈m,∃f cc,s.hp id=some (.ar f cc))∧(∀id∈x,∃cc,s.hp id=some (.ar false cc)) ∧
   (∀j id,q j=some id->id∈x)∧(Cr x=true->∀j j' id,q j=some id->q j'=some id->j=j') ∧
   ∀fz:List Nat,(∀id∈m,id∈fz)->(∀id∈fz,∃f cc,s.hp id=some (.ar f cc))->∀vs,Au (A6 w (Bz s.hp β Y) β) ps vs->∀(own:Bt) j0,(∀j,own (j0+j)=(q j).bind β)->Ds w (Bz (Ac s.hp fz) β Y) own j0 cs vs
 |[],[],K,hk=>⟨[],[],[],fun _=>none,hk,rfl,rfl,by simp,by simp,by simp,by simp,by simp,by simp,fun fz _ _ vs hv own j0 _=>by
   cases vs with
   |nil=>trivial
   |cons v vs=>exact hv.elim⟩
 |[],_::_,K,hk=>by cases hk
 |_::_,[],K,hk=>by cases hk
 |t::ts,p::ps,K,hk=>by
  unfold Ux at hk;obtain⟨c,m,q,hk,hA,hF,hm,hq,hv⟩:=VS h hk;obtain⟨cs,ms,xs,qs,hk,hl,He,hAs,hFs,W7,Yo,hqx,hqi,G8⟩:=O3 h hk;refine⟨c::cs,m++ms,q.toList++xs,fun j=>match j with|0=>q|j+1=>qs j,hk,by simp[hl],by simp[He],?_,?_,?_,?_,?_,?_,?_⟩
  ·intro x hx;rcases List.mem_cons.1 hx with rfl|hx
   ·exact hA
   ·exact hAs x hx
  ·intro x hx;rcases List.mem_cons.1 hx with rfl|hx
   ·exact hF
   ·exact hFs x hx
  ·intro i hi;rcases List.mem_append.1 hi with hi|hi
   ·exact hm i hi
   ·exact W7 i hi
  ·intro i hi;rcases List.mem_append.1 hi with hi|hi
   ·exact hq i (by simpa using hi)
   ·exact Yo i hi
  ·intro j id hj;cases j with
   |zero=>exact List.mem_append.2 (.inl (by simpa using hj))
   |succ j=>exact List.mem_append.2 (.inr (hqx j id hj))
  ·intro hn j j' id hj Kp;obtain⟨_,h2,h3⟩:=Gb hn;cases j with
   |zero=>
    cases j' with
    |zero=>rfl
    |succ j'=>exact absurd (hqx j' id Kp) (h3 id (by simpa using hj))
   |succ j=>
    cases j' with
    |zero=>exact absurd (hqx j id hj) (h3 id (by simpa using Kp))
    |succ j'=>rw[hqi h2 j j' id hj Kp]
  ·intro fz h1 h2 vs h3 own j0 Fw;cases vs with
   |nil=>exact h3.elim
   |cons v vs=>
    refine⟨?_,G8 fz (fun i hi=>h1 i (by simp[hi])) h2 vs h3.2 own (j0+1) fun j=>?_⟩
    ·have:=Fw 0;rw[Nat.add_zero] at this;rw[this];exact hv fz (fun i hi=>h1 i (by simp[hi])) h2 v h3.1
    ·have:=Fw (j+1);rw[show j0+1+j=j0+(j+1) by omega]
     exact this
def LOk (hp:Nat->Option A1)(q:Option (Nat × Nat)) (p:PV)(x:Ev):Prop:=
 match x with
 |.var id off cts ws=>p=.pbox ws∧q=some (id,off)∧cts.length=ws.length∧∃c,hp id=some (.st c)∧off+ws.length<=c.length
 |.row id=>(∃ps,p=.tup ps)∧q=some (id,0)∧∃c,hp id=some (.ar false c)
 |.none=>(∃ps,p=.tup ps)∧q=none
theorem MD {hp:Nat->Option A1}{q:Option (Nat × Nat)} {p:PV}{x:Ev}(h:LOk hp q p x):Sv p=true:=by
 cases x with
 |var id off cts ws=>rw[h.1];rfl
 |row id=>obtain⟨⟨_,e⟩,_⟩:=h;rw[e];rfl
 |none=>obtain⟨⟨_,e⟩,_⟩:=h;rw[e];rfl
def Lh (hp:Nat->Option A1)(src:Nat->Nat->Option (Nat × Nat)):Nat->List PV->List Ev->Prop
 |_,[],l=>l=[]
 |i,p::ps,l=>(Sv p=false∧src i 0=none∧Lh hp src (i+1) ps l)∨∃x l',l=x::l'∧LOk hp (src i 0) p x∧Lh hp src (i+1) ps l'
theorem JQ (h:Br N w0 X0 Y β s a w){C:E9}{f:FuncId}{i:Nat}{t:TypeId}{x:Operand}{K:PV->List Nat->List Nat->List Ev->Option R}(hk:Th C P f s.hp i t (A8 s.tm x) K=some r):
  ∃v m y l,∃src:Nat->Option (Nat × Nat),K v m y l=some r∧(∀id∈m,∃f cc,s.hp id=some (.ar f cc))∧(∀id∈y,∃cc,s.hp id=some (.ar false cc)) ∧
   (∀j id off,src (j+1)=some (id,off)->off=0∧id∈y)∧(Cr y=true->∀j j' id off off',src (j+1)=some (id,off)->src (j'+1)=some (id,off')->j=j') ∧
   ((l=[]∧Sv v=false∧src 0=none)∨∃x',l=[x']∧LOk s.hp (src 0) v x') ∧
   ∀fz:List Nat,(∀id∈m,id∈fz)->(∀id∈fz,∃f cc,s.hp id=some (.ar f cc))->∀bt:Bt,(∀j,bt j=(src j).bind (Ep β))->GM w (Bz (Ac s.hp fz) β Y) bt v (a.eval x):=by
 have hx:=Bv h x
 have Lm:∀(q0:Option (Nat × Nat)) (q:Nat->Option Nat),∃src:Nat->Option (Nat × Nat),src 0=q0∧(∀j,src (j+1)=(q j).map fun id=>(id,0)):=
  fun q0 q=>⟨fun j=>match j with|0=>q0|j+1=>(q j).map fun id=>(id,0),rfl,fun _=>rfl⟩
 have GJ:∀{src:Nat->Option (Nat × Nat)} {q:Nat->Option Nat} {y:List Nat},(∀j,src (j+1)=(q j).map fun id=>(id,0))->(∀j id,q j=some id->id∈y)->∀j id off,src (j+1)=some (id,off)->off=0∧id∈y:=by
  intro src q y h1 h2 j id off hj;rw[h1] at hj;cases hq:q j with
  |none=>rw[hq] at hj;cases hj
  |some k=>rw[hq] at hj;cases hj;exact⟨rfl,h2 j _ hq⟩
 have GH:∀{src:Nat->Option (Nat × Nat)} {q:Nat->Option Nat} {y:List Nat},(∀j,src (j+1)=(q j).map fun id=>(id,0))->(Cr y=true->∀j j' id,q j=some id->q j'=some id->j=j') ->
   Cr y=true->∀j j' id off off',src (j+1)=some (id,off)->src (j'+1)=some (id,off')->j=j':=by
  intro src q y h1 h2 hn j j' id off off' hj Kp;rw[h1] at hj Kp;cases hq:q j with
  |none=>rw[hq] at hj;cases hj
  |some k=>
   cases D4:q j' with
   |none=>rw[D4] at Kp;cases Kp
   |some k'=>
    rw[hq] at hj;rw[D4] at Kp;cases hj;cases Kp;exact h2 hn j j' _ hq D4
 have Fw:∀{src:Nat->Option (Nat × Nat)} {q:Nat->Option Nat} {bt:Bt},(∀j,src (j+1)=(q j).map fun id=>(id,0))->(∀j,bt j=(src j).bind (Ep β))->∀j,bt (1+j)=(q j).bind β:=by
  intro src q bt h1 h2 j;rw[Nat.add_comm,h2,h1];cases q j with
  |none=>rfl
  |some id=>exact JK β id
 unfold Th at hk;split at hk
 ·rename_i e he;split at hk
  ·rename_i id off ep;rw[ep] at hx;split at hk
   ·rename_i c h0;obtain⟨hb,hk⟩:=Ae hk;simp only[Bool.and_eq_true,decide_eq_true_eq] at hb;obtain⟨cs,m,y,q,hk,hl,He,hA,hF,hm,hy,AK,Vz,hv⟩:=O3 h hk;obtain⟨src,IA,hs⟩:=Lm (some (id,off)) q;obtain⟨b,ob,hβ,B0⟩:=hx;refine⟨_,m,y,_,src,hk,hm,hy,GJ hs AK,GH hs Vz,.inr ⟨_,rfl,rfl,IA,hl.symm,c,h0,by omega⟩,fun fz h1 h2 bt Qy=>?_⟩
    obtain⟨b',o',D7,Iz,BM⟩:=h.box id _ h0;rw[hβ] at D7;cases D7;have Dh:((c.drop off).take (Fy P e).length).length=(Fy P e).length:=by simp;omega
    have RS:∀j p,((c.drop off).take (Fy P e).length)[j]?=some p->c[off+j]?=some p∧j<(Fy P e).length:=by
     intro j p hj;rw[List.getElem?_take] at hj;split at hj
     ·rw[List.getElem?_drop] at hj;exact⟨hj,by assumption⟩
     ·cases hj
    refine⟨b,ob+off,by rw[Qy,IA];simp[Ep,hβ],B0,hA,((c.drop off).take (Fy P e).length).mapIdx (fun j _=>(w.cell? ⟨b,ob+off+j,none⟩).getD undef),hv fz h1 h2 _ ?_ bt 1 (Fw hs Qy),?_,fun k hk=>?_⟩
    ·refine Au.of_at (by simp) fun j p v hp hv=>?_
     obtain⟨hc,_⟩:=RS j p hp;obtain⟨u,hu,CI⟩:=Iz _ _ hc;rw[List.getElem?_mapIdx,hp,Option.map_some,Nat.add_assoc,hu] at hv;simp at hv;subst hv;exact CI
    ·intro k v QQ;rw[List.getElem?_mapIdx] at QQ;cases hp:((c.drop off).take (Fy P e).length)[k]? with
     |none=>rw[hp] at QQ;cases QQ
     |some p=>
      obtain⟨hc,_⟩:=RS k p hp;obtain⟨u,hu,CI⟩:=Iz _ _ hc;rw[hp,Option.map_some,Nat.add_assoc,hu] at QQ;simp at QQ;subst QQ;rw[Nat.add_assoc];exact hu
    ·rw[Nat.add_assoc];exact BM _ (by omega)
   ·cases hk
  ·cases hk
 ·cases hln:C.lnd f i<;>rw[hln] at hk<;>simp only[cond_true,cond_false] at hk
  ·cases Ed:A7 P t<;>rw[Ed] at hk<;>simp only[cond_true,cond_false] at hk
   ·obtain⟨cs,m,y,q,hk,hl,He,hA,hF,hm,hy,AK,Vz,hv⟩:=O3 h hk;obtain⟨c,t',rfl,hk⟩:=Ar hk;obtain⟨rfl,hk⟩:=B7 hk;obtain⟨src,IA,hs⟩:=Lm none q;have hAc:=hA c (by simp)
    refine⟨c,m,y,_,src,hk,hm,hy,GJ hs AK,GH hs Vz,.inl ⟨rfl,XR hAc,IA⟩,fun fz h1 h2 bt Qy=>?_⟩
    have hFx:=hF _ (List.mem_singleton_self _)
    have hxc:A6 w (Bz s.hp β Y) β (A8 s.tm x) (a.eval x):=by
     cases hp:A8 s.tm x<;>rw[hp] at hx hFx<;>first|exact hx|exact hFx.elim
    have hoc:=(hv fz h1 h2 [a.eval x] ⟨hxc,trivial⟩ bt 1 (Fw hs Qy)).1;rcases hAc with hT|⟨es,n,cc,rfl⟩
    ·cases c<;>first|exact⟨.inl trivial,hoc⟩|exact hT.elim
    ·exact⟨.inr ⟨_,_,_,rfl⟩,hoc⟩
   ·obtain⟨ps,ep,hk⟩:=Fg hk;rw[ep] at hx;obtain⟨vs,B0,h3⟩:=hx;obtain⟨cs,m,y,q,hk,hl,He,hA,hF,hm,hy,AK,Vz,hv⟩:=O3 h hk;obtain⟨src,IA,hs⟩:=Lm none q;refine⟨_,m,y,_,src,hk,hm,hy,GJ hs AK,GH hs Vz,.inl ⟨rfl,rfl,IA⟩,fun fz h1 h2 bt Qy=>?_⟩
    exact⟨vs,B0,hA,hv fz h1 h2 vs h3 bt 1 (Fw hs Qy)⟩
  ·obtain⟨e,he,hk⟩:=Bq hk;unfold VK at hk;split at hk
   ·rename_i id es' off n ep;rw[ep] at hx;split at hk
    ·rename_i c h0;obtain⟨hb,Dq⟩:=Ae hk;simp only[Bool.and_eq_true] at hb;have he:=Nat.eq_of_beq_eq_true hb.1;have hof:=Nat.eq_of_beq_eq_true hb.2;subst hof;obtain⟨src,IA,hs⟩:=Lm (some (id,0)) (fun _=>none)
     refine⟨_,[],[],_,src,Dq,by simp,by simp,GJ hs (by simp),GH hs (by simp),.inr ⟨_,rfl,⟨_,rfl⟩,IA,c,h0⟩,fun fz h1 h2 bt Qy=>⟨_,_,_,rfl,?_⟩⟩
     have GO:bt 0=β id:=by rw[Qy,IA];exact JK β id
     rw[GO];rcases hx with⟨h3,_,h4,h5⟩|⟨b,ob,y,cap,h3,h4,hy,h5,h6,h7⟩
     ·refine .inl ⟨h3,h4,?_,h5⟩;rcases h.box id _ h0 with⟨_,h8⟩|⟨_,_,h8,_⟩
      ·exact h8
      ·rw[h3] at h8;cases h8
     ·have hy:y=ob:=by rcases hy with e|⟨_,e⟩<;>omega
      subst hy;rcases h.box id _ h0 with⟨h8,_⟩|⟨b',o',h8,h9,h10,_⟩
      ·rw[h3] at h8;cases h8
      ·rw[h3] at h8;cases h8;exact .inr ⟨b,y,cap,h3,h4,h5,by rw[←he];exact h6,h7,h9.weak (fun b _ hb=>J3 hb),h10 rfl⟩
    ·cases hk
   ·obtain⟨z,n,c,hk,hp⟩:=Dy hk;obtain⟨hz,hk⟩:=Ae hk;subst hz;obtain⟨src,IA,hs⟩:=Lm none (fun _=>none)
    have hu:a.eval x=.slice none 0 0:=by
     have hF:A6 w (Bz s.hp β Y) β (A8 s.tm x) (a.eval x):=by rcases hp with e|⟨e,_⟩<;>rw[e] at hx ⊢ <;> exact hx
     have:=Qn hp hF;generalize a.eval x=u at this;cases this;rfl
    refine⟨_,[],[],_,src,hk,by simp,by simp,GJ hs (by simp),GH hs (by simp),.inr ⟨_,rfl,⟨_,rfl⟩,IA⟩,fun fz h1 h2 bt Qy=>⟨_,_,_,rfl,.inl ⟨by rw[Qy,IA];rfl,rfl,rfl,none,hu⟩⟩⟩
structure Ak3 (i0 n:Nat) (src:Nat->Nat->Option (Nat × Nat)) (ids x:List Nat):Prop where
 dom:∀i j q,src i j=some q->i0<=i∧i<i0+n
 lent:∀i id off,src i 0=some (id,off)->id∈ids
 mvd:∀i j id off,src i (j+1)=some (id,off)->off=0∧id∈x
 inj0:Cr ids=true->∀i i' id off off',src i 0=some (id,off)->src i' 0=some (id,off')->i=i'
 inj1:Cr x=true->∀i i' j j' id off off',src i (j+1)=some (id,off)->src i' (j'+1)=some (id,off')->i=i'∧j=j'
theorem Q7 {hp:Nat->Option A1}{src src':Nat->Nat->Option (Nat × Nat)}:∀{ps:List PV}{i:Nat}{l:List Ev},(∀k,i<=k->src' k=src k)->Lh hp src i ps l->Lh hp src' i ps l
 |[],_,_,_,h=>h
 |p::ps,i,l,hs,h=>by
  rcases h with⟨h1,h2,h3⟩|⟨x,l',rfl,h2,h3⟩
  ·exact .inl ⟨h1,by rw[hs i (Nat.le_refl _)];exact h2,Q7 (fun k hk=>hs k (by omega)) h3⟩
  ·exact .inr ⟨x,l',rfl,by rw[hs i (Nat.le_refl _)];exact h2,Q7 (fun k hk=>hs k (by omega)) h3⟩
theorem Ul {bt bt':Vi}:∀{ps:List PV}{us:List Value}{i:Nat},(∀k,i<=k->∀j,bt' k j=bt k j)->Ja w A bt i ps us->Ja w A bt' i ps us
 |[],[],_,_,_=>trivial
 |[],_::_,_,_,h=>h.elim
 |_::_,[],_,_,h=>h.elim
 |_::_,_::_,i,hb,h=>⟨by rw[show bt' i=bt i from funext (hb i (Nat.le_refl _))];exact h.1,Ul (fun k hk=>hb k (by omega)) h.2⟩
theorem BC (h:Br N w0 X0 Y β s a w){C:E9}{f:FuncId}:∀{ts:List TypeId}{xs:List Operand}{i:Nat}{K:List PV->List Nat->List Nat->List Ev->Option R},Zz C P f s.hp i ts (xs.map (A8 s.tm)) K=some r ->
  ∃vs m y l,∃src:Nat->Nat->Option (Nat × Nat),K vs m y l=some r∧(∀id∈m,∃f cc,s.hp id=some (.ar f cc))∧(∀id∈y,∃cc,s.hp id=some (.ar false cc)) ∧
   Ak3 i xs.length src (l.flatMap Ev.ids) y∧Lh s.hp src i vs l ∧
   ∀fz:List Nat,(∀id∈m,id∈fz)->(∀id∈fz,∃f cc,s.hp id=some (.ar f cc))->∀bt:Vi,(∀i j,bt i j=(src i j).bind (Ep β))->Ja w (Bz (Ac s.hp fz) β Y) bt i vs (xs.map a.eval)
 |[],[],i,K,hk=>⟨[],[],[],[],fun _ _=>none,hk,by simp,by simp,⟨by simp,by simp,by simp,by simp,by simp⟩,rfl,fun _ _ _ _ _=>trivial⟩
 |[],_::_,i,K,hk=>by cases hk
 |_::_,[],i,K,hk=>by cases hk
 |t::ts,x::xs,i,K,hk=>by
  simp only[List.map_cons] at hk;unfold Zz at hk;obtain⟨v,m,y,l,src,hk,hm,hy,WV,hs2,hl,hv⟩:=JQ h hk;obtain⟨vs,ms,ys,ls,srcs,hk,W7,hys,hS,hL,G8⟩:=BC h hk;have Lm:∃sr:Nat->Nat->Option (Nat × Nat),sr i=src∧∀k,k≠i->sr k=srcs k:=⟨fun k=>if k=i then src else srcs k,by simp,fun k hk=>by simp[hk]⟩
  obtain⟨sr,WS,NB⟩:=Lm
  have Yz:∀id off,src 0=some (id,off)->id∈l.flatMap Ev.ids:=by
   intro id off e;rcases hl with⟨_,_,h3⟩|⟨x',rfl,h3⟩
   ·rw[h3] at e;cases e
   ·cases x' with
    |var id' off' cts ws=>rw[h3.2.1] at e;cases e;simp[Ev.ids]
    |row id'=>rw[h3.2.1] at e;cases e;simp[Ev.ids]
    |none=>rw[h3.2] at e;cases e
  refine⟨v::vs,m++ms,y++ys,l++ls,sr,hk,?_,?_,⟨?_,?_,?_,?_,?_⟩,?_,fun fz h1 h2 bt Qy=>⟨?_,?_⟩⟩
  ·intro i hi;rcases List.mem_append.1 hi with hi|hi
   ·exact hm i hi
   ·exact W7 i hi
  ·intro i hi;rcases List.mem_append.1 hi with hi|hi
   ·exact hy i hi
   ·exact hys i hi
  ·intro k j q hq;simp only[List.length_cons];by_cases e:k=i
   ·subst e;omega
   ·rw[NB k e] at hq;have:=hS.dom k j q hq;omega
  ·intro k id off hq;rw[List.flatMap_append];by_cases e:k=i
   ·subst e;rw[WS] at hq;exact List.mem_append.2 (.inl (Yz id off hq))
   ·rw[NB k e] at hq;exact List.mem_append.2 (.inr (hS.lent k id off hq))
  ·intro k j id off hq;by_cases e:k=i
   ·subst e;rw[WS] at hq;exact⟨(WV j id off hq).1,List.mem_append.2 (.inl (WV j id off hq).2)⟩
   ·rw[NB k e] at hq;exact⟨(hS.mvd k j id off hq).1,List.mem_append.2 (.inr (hS.mvd k j id off hq).2)⟩
  ·intro hn k k' id off off' hq D4;rw[List.flatMap_append] at hn;obtain⟨_,h4,h5⟩:=Gb hn;by_cases e:k=i
   ·by_cases e':k'=i
    ·omega
    ·rw[NB k' e'] at D4;subst e;rw[WS] at hq;exact absurd (hS.lent k' id off' D4) (h5 id (Yz id off hq))
   ·rw[NB k e] at hq;by_cases e':k'=i
    ·subst e';rw[WS] at D4;exact absurd (hS.lent k id off hq) (h5 id (Yz id off' D4))
    ·rw[NB k' e'] at D4;exact hS.inj0 h4 k k' id off off' hq D4
  ·intro hn k k' j j' id off off' hq D4;obtain⟨h3,h4,h5⟩:=Gb hn;by_cases e:k=i
   ·by_cases e':k'=i
    ·subst e;subst e';rw[WS] at hq D4;exact⟨rfl,hs2 h3 j j' id off off' hq D4⟩
    ·rw[NB k' e'] at D4;subst e;rw[WS] at hq;exact absurd (hS.mvd k' j' id off' D4).2 (h5 id (WV j id off hq).2)
   ·rw[NB k e] at hq;by_cases e':k'=i
    ·subst e';rw[WS] at D4;exact absurd (hS.mvd k j id off hq).2 (h5 id (WV j' id off' D4).2)
    ·rw[NB k' e'] at D4;exact hS.inj1 h4 k k' j j' id off off' hq D4
  ·have Qc:Lh s.hp sr (i+1) vs ls:=Q7 (fun k hk=>NB k (by omega)) hL
   rcases hl with⟨rfl,hnp,h3⟩|⟨x',rfl,h3⟩
   ·exact .inl ⟨hnp,by rw[WS];exact h3,Qc⟩
   ·exact .inr ⟨x',ls,rfl,by rw[WS];exact h3,Qc⟩
  ·exact hv fz (fun i hi=>h1 i (by simp[hi])) h2 (bt i) (fun j=>by rw[Qy,WS])
  ·refine G8 fz (fun i hi=>h1 i (by simp[hi])) h2 (fun k j=>(srcs k j).bind (Ep β)) (fun _ _=>rfl) |> Ul fun k hk j=>?_
   rw[Qy,NB k (by omega)]
end
open Go.RowKit
section
variable {R:Type} {r:R} {P:Program} {N:Nat} {w0:World} {X0:Ft} {Y:Nat->Prop} {β β':Bt} {s:St} {a:Act} {w w':World} {o:Oper} {A:Nat->Prop}
theorem RZ {p:PV}{u:Value}(h:Ap w A p u):A6 w A β p u:=by
 have h0:=h;cases h<;>exact h0
theorem UL {t:Nat}{ct:CT}{was p:PV}{K:Nat->PV->List (Nat × A1)->Option R} (hk:PF N t ct was p K=some r):
  (∃c,K t c []=some r∧P4 c∧∀w A q u,E2 w A q p u->Ap w A c u)∨∃es n cc,p=.own es n cc∧K (t+1) (.view (IC N t) es 0 n) [(IC N t,.ar false cc)]=some r:=by
 have tree:∀t',(T0 t' p fun c=>K t c [])=some r->∃c,K t c []=some r∧P4 c∧∀w A q u,E2 w A q p u->Ap w A c u:=by
  intro t' hk;obtain⟨c,hk,hT,Yf,hv⟩:=Jo hk;refine⟨c,hk,hT,fun w A q u h=>(hv w A (fun _=>none) u ?_).1⟩
  cases p<;>first|exact h|exact Yf.elim
 unfold PF at hk;cases ct with
 |sl es=>
  dsimp only at hk;split at hk
  ·unfold Ml at hk;split at hk
   ·rename_i es' n c;cases hb:Nat.beq es' es<;>rw[hb] at hk
    ·cases hk
    ·have:=Nat.eq_of_beq_eq_true hb;subst this;exact .inr ⟨_,_,_,rfl,hk⟩
   ·cases hk
  ·have h2:(T0 (.sl es) p fun c=>(match c with | .lst _ es n c=>K t (.lst false es n c) []|_=>none))=some r:=hk
   obtain⟨c,hk,hT,Yf,hv⟩:=Jo h2;split at hk
   ·refine .inl ⟨_,hk,hT,fun w A q u h=>Ap.unz (hv w A (fun _=>none) u ?_).1⟩
    cases p<;>first|exact h|exact Yf.elim
   ·cases hk
 |int k=>exact .inl (tree _ hk)
 |bool=>exact .inl (tree _ hk)
 |str=>exact .inl (tree _ hk)
 |any=>exact .inl (tree _ hk)
theorem Tq:∀{cts:List CT}{ws ps:List PV}{t:Nat}{K:Nat->List PV->List (Nat × A1)->Option R},Z1 N t cts ws ps K=some r ->
  ∃t' cs bs,∃qs:List (Nat × Nat),K t' cs bs=some r∧cs.length=ps.length∧ps.length=ws.length∧bs.map (·.1)=qs.map (·.1)∧(∀q∈qs,(∃k,q.1=IC N k)∧q.2<ps.length)∧(∀q∈qs,∀q'∈qs,q.2=q'.2->q.1=q'.1) ∧
   (∀i bx,(i,bx)∈bs->∃c,bx=.ar false c)∧(∀c∈cs,∀i∈Aj c,∃bx,(i,bx)∈bs) ∧
   ∀(w:World) (A:Nat->Prop) (own β':Bt) (j0:Nat) (us:List Value),(∀q∈qs,β' q.1=own (j0+q.2))->Ds w A own j0 ps us->Au (A6 w A β') cs us∧∀i bx,(i,bx)∈bs->Nd w A β' i bx
 |[],[],ps,t,K,hk=>by
  obtain⟨rfl,hk⟩:=B7 hk;refine⟨t,[],[],[],hk,rfl,rfl,rfl,by simp,by simp,by simp,by simp,fun w A own β' j0 us _ h=>⟨?_,by simp⟩⟩
  cases us with
  |nil=>trivial
  |cons u us=>exact h.elim
 |[],_::_,_,_,_,hk=>by cases hk
 |_::_,[],_,_,_,hk=>by cases hk
 |ct::cts,x::ws,ps,t,K,hk=>by
  unfold Z1 at hk;obtain⟨p,ps',Yp,Cs⟩:=Ar hk;subst Yp;rcases UL Cs with⟨c,Dq,hT,hv⟩|⟨es,n,cc,rfl,Dq⟩
  ·obtain⟨t',cs,bs,qs,Mm,hl,He,hb,AK,Vz,D7,Iz,G8⟩:=Tq Dq;refine⟨t',c::cs,bs,qs.map (fun q=>(q.1,q.2+1)),Mm,by simp[hl],by simp[He],by rw[hb];simp,?_,?_,D7,?_,fun w A own β' j0 us hβ ho=>?_⟩
   ·intro q hq;obtain⟨q0,Q6,rfl⟩:=List.mem_map.1 hq;exact⟨(AK q0 Q6).1,by have:=(AK q0 Q6).2;simp only[List.length_cons];omega⟩
   ·intro q hq q' D4 e;obtain⟨q0,Q6,rfl⟩:=List.mem_map.1 hq;obtain⟨q1,G7,rfl⟩:=List.mem_map.1 D4;exact Vz q0 Q6 q1 G7 (by simp only at e;omega)
   ·intro y hy i hi;rcases List.mem_cons.1 hy with rfl|hy
    ·rw[Fk hT] at hi;cases hi
    ·exact Iz y hy i hi
   ·cases us with
    |nil=>exact ho.elim
    |cons u us=>
     obtain⟨h1,h2⟩:=G8 w A own β' (j0+1) us (fun q hq=>by rw[hβ _ (List.mem_map_of_mem hq)];congr 1;simp only;omega) ho.2
     exact⟨⟨RZ (hv w A _ u ho.1),h1⟩,h2⟩
  ·obtain⟨t',cs,bs,qs,Mm,hl,He,hb,AK,Vz,D7,Iz,G8⟩:=Tq Dq;refine⟨t',_::cs,(IC N t,.ar false cc)::bs,(IC N t,0)::qs.map (fun q=>(q.1,q.2+1)),Mm,by simp[hl],by simp[He],by simp only[List.map_cons,hb];simp,?_,?_,?_,?_,fun w A own β' j0 us hβ ho=>?_⟩
   ·intro q hq;rcases List.mem_cons.1 hq with rfl|hq
    ·exact⟨⟨t,rfl⟩,by simp⟩
    ·obtain⟨q0,Q6,rfl⟩:=List.mem_map.1 hq;exact⟨(AK q0 Q6).1,by have:=(AK q0 Q6).2;simp only[List.length_cons];omega⟩
   ·intro q hq q' D4 e;rcases List.mem_cons.1 hq with rfl|hq
    ·rcases List.mem_cons.1 D4 with rfl|D4
     ·rfl
     ·obtain⟨q0,Q6,rfl⟩:=List.mem_map.1 D4;simp only at e;omega
    ·obtain⟨q0,Q6,rfl⟩:=List.mem_map.1 hq;rcases List.mem_cons.1 D4 with rfl|D4
     ·simp only at e;omega
     ·obtain⟨q1,G7,rfl⟩:=List.mem_map.1 D4;exact Vz q0 Q6 q1 G7 (by simp only at e;omega)
   ·intro i bx hm;rcases List.mem_cons.1 hm with e|hm
    ·cases e;exact⟨cc,rfl⟩
    ·exact D7 i bx hm
   ·intro y hy i hi;rcases List.mem_cons.1 hy with rfl|hy
    ·simp only[Aj,List.mem_singleton] at hi;subst hi;exact⟨_,List.mem_cons_self⟩
    ·obtain⟨bx,I2⟩:=Iz y hy i hi;exact⟨bx,List.mem_cons_of_mem _ I2⟩
   ·cases us with
    |nil=>exact ho.elim
    |cons u us=>
     obtain⟨h1,h2⟩:=G8 w A own β' (j0+1) us (fun q hq=>by rw[hβ _ (List.mem_cons_of_mem _ (List.mem_map_of_mem hq))];congr 1;simp only;omega) ho.2
     have h0:=hβ (IC N t,0) List.mem_cons_self;simp only[Nat.add_zero] at h0;refine⟨⟨?_,h1⟩,fun i bx hm=>?_⟩
     ·rcases ho.1 with⟨h3,rfl,_,h5⟩|⟨b,ob,cap,h3,h4,h5,h6,h7,_⟩
      ·exact .inl ⟨h0.trans h3,rfl,rfl,h5⟩
      ·exact .inr ⟨b,ob,ob,cap,h0.trans h3,h4,.inl rfl,h5,h6,h7⟩
     ·rcases List.mem_cons.1 hm with e|hm
      ·cases e;exact Rw ho.1 h0
      ·exact h2 i bx hm
def KZ (hp Bs:Nat->Option A1)(bs:List (Nat × A1)) (x:Ev):Prop:=
 match x with
 |.var id off _ ws=>∃c cs,hp id=some (.st c)∧Bs id=some (.st (A2 c cs off))∧cs.length=ws.length∧off+cs.length<=c.length∧∀p∈cs,∀i∈Aj p,∃bx,(i,bx)∈bs
 |.row id=>∃c cs,hp id=some (.ar false c)∧Bs id=some (.ar false cs)
 |.none=>True
def TB (β β':Bt)(w':World)(A:Nat->Prop)(hp Bs:Nat->Option A1)(x:Ev):Prop:=
 match x with
 |.var id off _ ws=>∃c cs,hp id=some (.st c)∧Bs id=some (.st (A2 c cs off))∧cs.length=ws.length∧off+cs.length<=c.length ∧
   ∀b o,β id=some (b,o)->(∀(j:Nat) p,cs[j]?=some p->∃v,w'.cell? ⟨b,o+off+j,none⟩=some v∧A6 w' A β' p v)∧∀j,j<cs.length->w'.frozen? ⟨b,o+off+j,none⟩=false
 |.row id=>∃cs,Bs id=some (.ar false cs)∧((β id=none∧cs=[])∨∃b o,β id=some (b,o)∧EC w' A ⟨b,o,none⟩ cs∧∀j,o<=j->j<bsz w' b->w'.frozen? ⟨b,j,none⟩=false)
 |.none=>True
theorem Sc {hp Cd Bs:Nat->Option A1}{bs bs1:List (Nat × A1)} {x:Ev}(h1:∀i∈x.ids,Cd i=hp i)(hb:∀q∈bs,q∈bs1)(h:KZ Cd Bs bs x):KZ hp Bs bs1 x:=by
 cases x with
 |var id off cts ws=>
  obtain⟨c,cs,h2,h3,h4,h5,h6⟩:=h;refine⟨c,cs,by rw[←h1 id (by simp[Ev.ids])];exact h2,h3,h4,h5,fun p hp i hi=>?_⟩
  obtain⟨bx,I2⟩:=h6 p hp i hi;exact⟨bx,hb _ I2⟩
 |row id=>
  obtain⟨c,cs,h2,h3⟩:=h;exact⟨c,cs,by rw[←h1 id (by simp[Ev.ids])];exact h2,h3⟩
 |none=>trivial
theorem Ug {hp Cd Bs:Nat->Option A1}{x:Ev}(h1:∀i∈x.ids,Cd i=hp i)(h:TB β β' w' A Cd Bs x):TB β β' w' A hp Bs x:=by
 cases x with
 |var id off cts ws=>
  obtain⟨c,cs,h2,h3⟩:=h;exact⟨c,cs,by rw[←h1 id (by simp[Ev.ids])];exact h2,h3⟩
 |row id=>exact h
 |none=>trivial
theorem NK {hp Cd:Nat->Option A1}{q:Option (Nat × Nat)} {p:PV}{x:Ev}(h1:∀i∈x.ids,Cd i=hp i)(h:LOk hp q p x):LOk Cd q p x:=by
 cases x with
 |var id off cts ws'=>
  obtain⟨h2,h3,h5,c,h6,h7⟩:=h;exact⟨h2,h3,h5,c,by rw[h1 id (by simp[Ev.ids])];exact h6,h7⟩
 |row id=>
  obtain⟨h2,h3,c,h4⟩:=h;exact⟨h2,h3,c,by rw[h1 id (by simp[Ev.ids])];exact h4⟩
 |none=>exact h
theorem Ro {hp Cd:Nat->Option A1}{src:Nat->Nat->Option (Nat × Nat)}:∀{ps:List PV}{i:Nat}{l:List Ev},(∀i∈l.flatMap Ev.ids,Cd i=hp i)->Lh hp src i ps l->Lh Cd src i ps l
 |[],_,_,_,h=>h
 |p::ps,i,l,hs,h=>by
  rcases h with⟨h1,h2,h3⟩|⟨x,l',rfl,h2,h3⟩
  ·exact .inl ⟨h1,h2,Ro hs h3⟩
  ·exact .inr ⟨x,l',rfl,NK (fun k hk=>hs k (by simp only[List.flatMap_cons,List.mem_append];exact .inl hk)) h2,Ro (fun k hk=>hs k (by simp only[List.flatMap_cons,List.mem_append];exact .inr hk)) h3⟩
theorem JB {own:Bt}{bt:Vi}{j i:Nat}{p:PV}{zs:List PV}{r:List (List PV)} (hp:Sv p=false)(h:G1 w A own bt j i (p::zs) r):G1 w A own bt j (i+1) zs r:=by
 cases p<;>first|exact h|cases hp
theorem Og {src:Nat->Nat->Option (Nat × Nat)} {β:Bt}:∀{zs:List PV}{l:List Ev}{ro:List (List PV)} {i j t:Nat}{hp:Nat->Option A1}{K:(Nat->Option A1)->List (Nat × A1)->Option R},
  Qv N t l ro hp K=some r->Lh hp src i zs l->Cr (l.flatMap Ev.ids)=true ->
  ∃Bs bs,∃qs:List (Nat × Nat),K Bs bs=some r∧bs.map (·.1)=qs.map (·.1)∧(∀q∈qs,(∃k,q.1=IC N k)∧j<=q.2)∧(∀q∈qs,∀q'∈qs,q.2=q'.2->q.1=q'.1)∧(∀i bx,(i,bx)∈bs->∃c,bx=.ar false c) ∧
   (∀i,i ∉ l.flatMap Ev.ids->Bs i=hp i)∧(∀x∈l,KZ hp Bs bs x) ∧
   ∀(w':World) (A:Nat->Prop) (own β':Bt) (bt:Vi),(∀q∈qs,β' q.1=own q.2)->(∀i,bt i 0=(src i 0).bind (Ep β))->G1 w' A own bt j i zs ro ->
    (∀i bx,(i,bx)∈bs->Nd w' A β' i bx)∧∀x∈l,TB β β' w' A hp Bs x
 |[],l,ro,i,j,t,hp,K,hk,hL,hn=>by
  have hL:l=[]:=hL;subst hL;unfold Qv at hk;obtain⟨rfl,hk⟩:=B7 hk;exact⟨hp,[],[],hk,rfl,by simp,by simp,by simp,fun _ _=>rfl,by simp,fun w' A own β' bt _ _ _=>⟨by simp,by simp⟩⟩
 |p::zs,l0,ro,i,j,t,hp,K,hk,hL0,hn=>by
  rcases hL0 with⟨Vx,_,hL⟩|⟨x,l,rfl,Js,hL⟩
  rotate_left
  ··simp only[List.flatMap_cons] at hn;obtain⟨FT,XD,hn3⟩:=Gb hn;cases x with
    |var id off cts ws'=>
     obtain⟨rfl,Lm,Le,c,hc,Tn⟩:=Js;unfold Qv at hk;obtain⟨cs,ro',hro,Cs⟩:=Ar hk;subst hro;obtain⟨t',cs',bs,qs,Dq,We,DT,hb,AK,Vz,D7,Iz,hv⟩:=Tq Cs;rw[hc] at Dq;simp only at Dq;change Qv N t' l ro' (Bi hp id (some (.st (A2 c cs' off)))) (fun Bs bs'=>K Bs (bs++bs'))=some r at Dq
     have IV:id ∉ l.flatMap Ev.ids:=hn3 id (by simp[Ev.ids])
     have PA:Lh (Bi hp id (some (.st (A2 c cs' off)))) src (i+1) zs l:=Ro (fun k YG=>Ad _ _ (fun e=>IV (e ▸ YG))) hL
     obtain⟨Bs,bs',qs',Mm,Fp,G7,IU,KS,Ik,RF,CL⟩:=Og (β:=β) (j:=j+cs.length) Dq PA XD;have TD:Bs id=some (.st (A2 c cs' off)):=by rw[Ik id IV,Af]
     have X2:∀x∈l,∀k∈x.ids,Bi hp id (some (.st (A2 c cs' off))) k=hp k:=fun x hx k YG=>Ad _ _ (fun e=>IV (e ▸ List.mem_flatMap.2 ⟨x,hx,YG⟩))
     refine⟨Bs,bs++bs',qs.map (fun q=>(q.1,j+q.2))++qs',Mm,by simp only[List.map_append,hb,Fp];simp,?_,?_,?_,?_,?_,fun w' A own β' bt hβ Qy ho=>?_⟩
     ·intro q hq;rcases List.mem_append.1 hq with hq|hq
      ·obtain⟨q0,Q6,rfl⟩:=List.mem_map.1 hq;exact⟨(AK q0 Q6).1,by simp only;omega⟩
      ·exact⟨(G7 q hq).1,by have:=(G7 q hq).2;omega⟩
     ·intro q hq q' D4 e;rcases List.mem_append.1 hq with hq|hq
      ·obtain⟨q0,Q6,rfl⟩:=List.mem_map.1 hq;have:=(AK q0 Q6).2;rcases List.mem_append.1 D4 with D4|D4
       ·obtain⟨q1,G7,rfl⟩:=List.mem_map.1 D4;exact Vz q0 Q6 q1 G7 (by simp only at e;omega)
       ·have:=(G7 q' D4).2;simp only at e;omega
      ·have h5:=(G7 q hq).2;rcases List.mem_append.1 D4 with D4|D4
       ·obtain⟨q1,Agk,rfl⟩:=List.mem_map.1 D4;have:=(AK q1 Agk).2;simp only at e;omega
       ·exact IU q hq q' D4 e
     ·intro k bx hm;rcases List.mem_append.1 hm with hm|hm
      ·exact D7 k bx hm
      ·exact KS k bx hm
     ·intro k hk;simp only[List.flatMap_cons,List.mem_append,not_or] at hk;rw[Ik k hk.2];exact Ad _ _ (by rintro rfl;exact hk.1 (by simp[Ev.ids]))
     ·intro x hx;rcases List.mem_cons.1 hx with rfl|hx
      ·refine⟨c,cs',hc,TD,by omega,by omega,fun p hp k hk=>?_⟩
       obtain⟨bx,I2⟩:=Iz p hp k hk;exact⟨bx,List.mem_append.2 (.inl I2)⟩
      ·exact Sc (X2 x hx) (fun q hq=>List.mem_append.2 (.inr hq)) (RF x hx)
     ·obtain⟨⟨b,ob,GO,Dh,vs,hov,hcell,WP⟩,ho⟩:=ho
      ·obtain⟨h1,h2⟩:=hv w' A own β' j vs (fun q hq=>hβ _ (List.mem_append.2 (.inl (List.mem_map_of_mem hq)))) hov
       obtain⟨h3,h4⟩:=CL w' A own β' bt (fun q hq=>hβ q (List.mem_append.2 (.inr hq))) Qy ho
       refine⟨fun k bx hm=>?_,fun x hx=>?_⟩
       ·rcases List.mem_append.1 hm with hm|hm
        ·exact h2 k bx hm
        ·exact h3 k bx hm
       ·rcases List.mem_cons.1 hx with rfl|hx
        ·refine⟨c,cs',hc,TD,by omega,by omega,fun b1 o1 hβ1=>?_⟩
         have Iz:=Qy i;rw[GO,Lm] at Iz;simp only[Option.bind_some,Ep,hβ1,Option.map_some,Option.some.injEq,Prod.mk.injEq] at Iz;obtain⟨rfl,rfl⟩:=Iz;refine⟨fun k p hp=>?_,fun k hk=>WP k (by omega)⟩
         obtain⟨v,hv,CI⟩:=h1.get hp;exact⟨v,hcell k v hv,CI⟩
        ·exact Ug (X2 x hx) (h4 x hx)
    |row id=>
     obtain⟨⟨pz,rfl⟩,Lm,c,hc⟩:=Js;unfold Qv at hk;obtain⟨cs,ro',hro,Dq⟩:=Ar hk;subst hro;have IV:id ∉ l.flatMap Ev.ids:=hn3 id (by simp[Ev.ids])
     have PA:Lh (Bi hp id (some (.ar false cs))) src (i+1) zs l:=Ro (fun k YG=>Ad _ _ (fun e=>IV (e ▸ YG))) hL
     obtain⟨Bs,bs',qs',Mm,Fp,G7,IU,KS,Ik,RF,CL⟩:=Og (β:=β) (j:=j) Dq PA XD;have TD:Bs id=some (.ar false cs):=by rw[Ik id IV,Af]
     have X2:∀x∈l,∀k∈x.ids,Bi hp id (some (.ar false cs)) k=hp k:=fun x hx k YG=>Ad _ _ (fun e=>IV (e ▸ List.mem_flatMap.2 ⟨x,hx,YG⟩))
     refine⟨Bs,bs',qs',Mm,Fp,G7,IU,KS,?_,?_,fun w' A own β' bt hβ Qy ho=>?_⟩
     ·intro k hk;simp only[List.flatMap_cons,List.mem_append,not_or] at hk;rw[Ik k hk.2];exact Ad _ _ (by rintro rfl;exact hk.1 (by simp[Ev.ids]))
     ·intro x hx;rcases List.mem_cons.1 hx with rfl|hx
      ·exact⟨c,cs,hc,TD⟩
      ·exact Sc (X2 x hx) (fun q hq=>hq) (RF x hx)
     ·obtain⟨QP,ho⟩:=ho
      ·obtain⟨h3,h4⟩:=CL w' A own β' bt hβ Qy ho;refine⟨h3,fun x hx=>?_⟩
       rcases List.mem_cons.1 hx with rfl|hx
       ·refine⟨cs,TD,?_⟩;have Iz:=Qy i;rw[Lm] at Iz;simp only[Option.bind_some,JK] at Iz;rw[Iz] at QP;exact QP
       ·exact Ug (X2 x hx) (h4 x hx)
    |none=>
     obtain⟨⟨pz,rfl⟩,Lm⟩:=Js;unfold Qv at hk;obtain⟨cs,ro',hro,Dq⟩:=Ar hk;subst hro;obtain⟨Bs,bs',qs',Mm,Fp,G7,IU,KS,Ik,RF,CL⟩:=Og (β:=β) (j:=j) Dq hL XD;refine⟨Bs,bs',qs',Mm,Fp,G7,IU,KS,?_,?_,fun w' A own β' bt hβ Qy ho=>?_⟩
     ·intro k hk;simp only[List.flatMap_cons,List.mem_append,not_or] at hk;exact Ik k hk.2
     ·intro x hx;rcases List.mem_cons.1 hx with rfl|hx
      ·trivial
      ·exact RF x hx
     ·obtain⟨QP,ho⟩:=ho
      ·obtain⟨h3,h4⟩:=CL w' A own β' bt hβ Qy ho;refine⟨h3,fun x hx=>?_⟩
       rcases List.mem_cons.1 hx with rfl|hx
       ·trivial
       ·exact h4 x hx
  ·obtain⟨Bs,bs',qs',Mm,Fp,G7,IU,KS,Ik,RF,CL⟩:=Og (β:=β) (j:=j) hk hL hn;exact⟨Bs,bs',qs',Mm,Fp,G7,IU,KS,Ik,RF,fun w' A own β' bt hβ Qy ho=>CL w' A own β' bt hβ Qy (JB Vx ho)⟩
end
open Go.RowKit
theorem D9 (hp:Nat->Option A1)(ids:List Nat)(i:Nat):Ol hp ids i=if i∈ids then (hp i).map (fun _=>A1.mv) else hp i:=by
 unfold Ol;by_cases hi:i∈ids
 ·have:ids.any (Nat.beq i)=true:=List.any_eq_true.2 ⟨i,hi,Nat.beq_refl i⟩;rw[this,if_pos hi];rfl
 ·have:ids.any (Nat.beq i)=false:=by
   cases hb:ids.any (Nat.beq i)
   ·rfl
   ·obtain⟨j,hj,e⟩:=List.any_eq_true.1 hb;exact absurd (Nat.eq_of_beq_eq_true e ▸ hj) hi
  rw[this,if_neg hi];rfl
theorem M2:∀{nw:List (Nat × A1)} {hp:Nat->Option A1},A3 hp nw=true->(nw.map (·.1)).Nodup
 |[],_,_=>List.nodup_nil
 |(i,b)::r,hp,h=>by
  simp only[A3,Bool.and_eq_true,Option.isNone_iff_eq_none,Bool.not_eq_true'] at h;simp only[List.map_cons,List.nodup_cons];refine⟨fun hm=>?_,M2 h.2⟩
  obtain⟨q,hq,e⟩:=List.mem_map.1 hm;have:r.any (fun q=>Nat.beq q.1 i)=true:=List.any_eq_true.2 ⟨q,hq,by rw[e];exact Nat.beq_refl i⟩
  rw[this] at h;cases h.1.2
theorem WB:∀{l:List (Nat × Nat)},(l.map (·.1)).Nodup->∀q∈l,Pi l q.1=some q.2
 |[],_,_,h=>by cases h
 |(j,b)::r,hn,q,hq=>by
  simp only[List.map_cons,List.nodup_cons] at hn;unfold Pi;rcases List.mem_cons.1 hq with rfl|hq
  ·simp only[Nat.beq_refl,cond_true]
  ·have:Nat.beq q.1 j=false:=by
    cases hb:Nat.beq q.1 j
    ·rfl
    ·exact absurd (Nat.eq_of_beq_eq_true hb ▸ List.mem_map_of_mem hq) hn.1
   simp only[this,cond_false];exact WB hn.2 q hq
theorem GW:∀{l:List (Nat × Nat)} {i:Nat},i ∉ l.map (·.1)->Pi l i=none
 |[],_,_=>rfl
 |(j,b)::r,i,h=>by
  simp only[List.map_cons,List.mem_cons,not_or] at h;unfold Pi
  have:Nat.beq i j=false:=by
   cases hb:Nat.beq i j
   ·rfl
   ·exact absurd (Nat.eq_of_beq_eq_true hb) h.1
  simp only[this,cond_false];exact GW h.2
section
variable {R:Type} {r:R} {P:Program} {N:Nat} {w0:World} {X0:Ft} {Y:Nat->Prop} {β β':Bt} {s:St} {a:Act} {w w':World} {o:Oper} {A A':Nat->Prop}
theorem E2.weak (hA:∀b,b<w.heap.size->A' b->A b){q:Option (Nat × Nat)} {p:PV}{u:Value}(h:E2 w A q p u):E2 w A' q p u:=by
 have tr:∀{p:PV},Ap w A p u->Ap w A' p u:=fun h=>h.step (Ba.refl _ _) hA
 cases p with
 |own es n c=>
  rcases h with h|⟨b,ob,cap,h1,h2,h3,h4,h5,h6,h7⟩
  ·exact .inl h
  ·exact .inr ⟨b,ob,cap,h1,h2,h3,h4,h5,h6.weak hA,h7⟩
 |_=>exact tr h
theorem Ds.weak (hA:∀b,b<w.heap.size->A' b->A b){own:Bt}:∀{ps:List PV}{us:List Value}{j:Nat},Ds w A own j ps us->Ds w A' own j ps us
 |[],[],_,_=>trivial
 |[],_::_,_,h=>h.elim
 |_::_,[],_,h=>h.elim
 |_::_,_::_,_,h=>⟨h.1.weak hA,Ds.weak hA h.2⟩
theorem GM.weak (hA:∀b,b<w.heap.size->A' b->A b){bt:Bt}{p:PV}{u:Value}(h:GM w A bt p u):GM w A' bt p u:=by
 cases p with
 |pbox ps=>
  obtain⟨b,ob,h1,h2,h3,vs,h4,h5⟩:=h;exact⟨b,ob,h1,h2,h3,vs,h4.weak hA,h5⟩
 |tup ps=>
  obtain⟨es,n,c,h1,h2⟩:=h;exact⟨es,n,c,h1,h2.weak hA⟩
 |agg cs=>
  obtain⟨vs,h1,h2,h3⟩:=h;exact⟨vs,h1,h2,h3.weak hA⟩
 |_=>exact⟨h.1,h.2.weak hA⟩
theorem Ja.weak (hA:∀b,b<w.heap.size->A' b->A b){bt:Vi}:∀{ps:List PV}{us:List Value}{i:Nat},Ja w A bt i ps us->Ja w A' bt i ps us
 |[],[],_,_=>trivial
 |[],_::_,_,h=>h.elim
 |_::_,[],_,h=>h.elim
 |_::_,_::_,_,h=>⟨h.1.weak hA,Ja.weak hA h.2⟩
theorem R3 {bt:Vi}(k:Bool):∀{xs:List Operand}{ps:List PV}{i:Nat},Ja w A bt i ps (xs.map a.eval)->Ja w A bt i (G3 k xs ps) (xs.map a.eval)
 |[],[],_,h=>h
 |[],_::_,_,h=>h
 |_::_,[],_,h=>h
 |x::xs,p::ps,i,h=>by
  simp only[List.map_cons] at h ⊢;refine⟨?_,R3 k h.2⟩;split
  ·exact⟨.inl trivial,Ap.lnil _ _⟩
  ·exact h.1
theorem BN (k:Bool)(x:Operand)(xs:List Operand)(p:PV)(ps:List PV):∃p',G3 k (x::xs) (p::ps)=p'::G3 k xs ps∧Sv p'=Sv p∧(Sv p=true->p'=p):=by
 refine⟨_,rfl,?_,fun h=>?_⟩
 ·split
  ·rfl
  ·rfl
 ·split
  ·cases h
  ·rfl
theorem M7 {hp:Nat->Option A1}{src:Nat->Nat->Option (Nat × Nat)} (k:Bool):∀{xs:List Operand}{ps:List PV}{i:Nat}{l:List Ev},Lh hp src i ps l->Lh hp src i (G3 k xs ps) l
 |[],[],_,_,h=>h
 |[],_::_,_,_,h=>h
 |_::_,[],_,_,h=>h
 |x::xs,p::ps,i,l,h=>by
  obtain⟨p',e,h1,h2⟩:=BN k x xs p ps;rw[e];rcases h with⟨h3,h4,h5⟩|⟨y,l',rfl,h4,h5⟩
  ·exact .inl ⟨by rw[h1];exact h3,h4,M7 k h5⟩
  ·exact .inr ⟨y,l',rfl,by rw[h2 (MD h4)];exact h4,M7 k h5⟩
theorem Wp {hp:Nat->Option A1}{src:Nat->Nat->Option (Nat × Nat)}:∀{ps:List PV}{i:Nat}{l:List Ev},Lh hp src i ps l->∀id∈l.flatMap Ev.ids,Bx (hp id)∧∃k off,src k 0=some (id,off)
 |[],_,_,h,id,Ay=>by
  have h:_=[]:=h;rw[h] at Ay;cases Ay
 |p::ps,i,l,h,id,Ay=>by
  rcases h with⟨_,_,h3⟩|⟨x,l',rfl,h2,h3⟩
  ·exact Wp h3 id Ay
  ·simp only[List.flatMap_cons,List.mem_append] at Ay;rcases Ay with Ay|Ay
   ·cases x with
    |var id' off cts ws=>
     simp only[Ev.ids,List.mem_singleton] at Ay;subst Ay;obtain⟨_,h4,_,c,h5,_⟩:=h2;exact⟨by rw[h5];trivial,i,_,h4⟩
    |row id'=>
     simp only[Ev.ids,List.mem_singleton] at Ay;subst Ay;obtain⟨_,h4,c,h5⟩:=h2;exact⟨by rw[h5];trivial,i,_,h4⟩
    |none=>simp[Ev.ids] at Ay
   ·exact Wp h3 id Ay
theorem TV {hp:Nat->Option A1}{src:Nat->Nat->Option (Nat × Nat)}:∀{ps:List PV}{i:Nat}{l:List Ev},Lh hp src i ps l->∀k p id off,ps[k]?=some p->src (i+k) 0=some (id,off) ->
   (∃c ws,hp id=some (.st c)∧p=.pbox ws∧off+ws.length<=c.length)∨((∃c,hp id=some (.ar false c))∧off=0∧∃ws,p=.tup ws)
 |[],_,_,_,k,p,id,off,hp,_=>by simp at hp
 |p::ps,i,l,h,k,p',id,off,Bs,hs=>by
  have Qc:∃l',Lh hp src (i+1) ps l':=by
   rcases h with⟨_,_,h3⟩|⟨x,l',_,_,h3⟩<;>exact⟨_,h3⟩
  cases k with
  |succ k=>
   obtain⟨l',h'⟩:=Qc;exact TV h' k p' id off (by simpa using Bs) (by rw[show i+1+k=i+(k+1) by omega];exact hs)
  |zero=>
   simp only[List.getElem?_cons_zero,Option.some.injEq] at Bs;subst Bs;rw[Nat.add_zero] at hs;rcases h with⟨_,h2,_⟩|⟨x,l',_,h2,_⟩
   ·rw[hs] at h2;cases h2
   ·cases x with
    |var id' off' cts ws=>
     obtain⟨h3,h4,_,c,h5,h6⟩:=h2;rw[hs] at h4;cases h4;exact .inl ⟨c,ws,h5,h3,h6⟩
    |row id'=>
     obtain⟨h3,h4,c,h5⟩:=h2;rw[hs] at h4;cases h4;exact .inr ⟨⟨c,h5⟩,rfl,h3⟩
    |none=>
     have:=h2.2;rw[hs] at this;cases this
theorem HL {hp : Nat -> Option A1} {src : Nat -> Nat -> Option (Nat × Nat)} {id off : Nat} {cts : List CT} {ws : List PV} : ∀ {ps : List PV} {i : Nat} {l : List Ev}, Lh hp src i ps l -> Ev.var id off cts ws ∈ l ->
      ∃ k, ps[k]? = some (.pbox ws) ∧ src (i + k) 0 = some (id, off)
  | [], _, _, h, hm => by
    have h : _ = [] := h
    rw[h] at hm; cases hm
  | p :: ps, i, l, h, hm => by
    have next : ∀ {l'}, Lh hp src (i + 1) ps l' -> Ev.var id off cts ws ∈ l' -> ∃ k, (p :: ps)[k]? = some (.pbox ws) ∧ src (i + k) 0 = some (id, off) := by
      intro l' h' Jk
      obtain⟨k, h1, h2⟩ := HL h' Jk
      exact⟨k + 1, by simpa using h1, by rw[show i + (k + 1) = i + 1 + k by omega]; exact h2⟩
    rcases h with⟨_, _, h3⟩ | ⟨x, l', rfl, h2, h3⟩
    · exact next h3 hm
    · rcases List.mem_cons.1 hm with e | hm
      · subst e
        obtain⟨h1, h4, _⟩ := h2
        subst h1
        exact⟨0, rfl, h4⟩
      · exact next h3 hm
theorem HO {hp:Nat->Option A1}{src:Nat->Nat->Option (Nat × Nat)}:∀{ps:List PV}{i:Nat}{l:List Ev},Lh hp src i ps l->∀k id off,i<=k->src k 0=some (id,off)->k<i+ps.length->∃p,ps[k-i]?=some p∧Sv p=true
 |[],i,_,_,k,id,off,h1,_,h3=>by simp at h3;omega
 |p::ps,i,l,h,k,id,off,h1,h2,h3=>by
  by_cases e:k=i
  ·subst e;rcases h with⟨_,h4,_⟩|⟨x,l',_,h4,_⟩
   ·rw[h2] at h4;cases h4
   ·exact⟨p,by simp,MD h4⟩
  ·have Qc:∃l',Lh hp src (i+1) ps l':=by
    rcases h with⟨_,_,h3⟩|⟨x,l',_,_,h3⟩<;>exact⟨_,h3⟩
   obtain⟨l',h'⟩:=Qc;obtain⟨q,h5,h6⟩:=HO h' k id off (by omega) h2 (by simp at h3;omega)
   refine⟨q,?_,h6⟩;rw[show k-i=(k-(i+1))+1 by omega]
   simpa using h5
theorem Ja.len {bt:Vi}:∀{ps:List PV}{us:List Value}{i:Nat},Ja w A bt i ps us->ps.length=us.length
 |[],[],_,_=>rfl
 |[],_::_,_,h=>h.elim
 |_::_,[],_,h=>h.elim
 |_::_,_::_,_,h=>by simp[Ja.len h.2]
theorem EM (h:Br N w0 X0 Y β s a w){G:Glo}(Ig:FX P G w0 X0){C:E9}{call:Ah}(Co:∀f args res,call f args=some res->Dr G P f args res){c:Call}{f:FuncId}(ho:o.op=.call c)(hc:c.callee=.value (.func f))
  {K:St->Option R} (hk:Tk C P N call s o f c K=some r):
  ∃s',K s'=some r∧∀(next:Act->World->Prop) (Q:Exit->Act->World->Prop),(∀a' w' β',Br N w0 X0 Y β' s' a' w'->next a' w')->o.wp P a w next Q:=by
 unfold Tk at hk;obtain⟨vs0,m,x,l,src,Cs,hm,hx,hS,hL,Dl⟩:=BC h hk;obtain⟨hb,Dq⟩:=Ae Cs;simp only[Bool.and_eq_true] at hb;obtain⟨⟨⟨hnd,Ach⟩,hN⟩,OD⟩:=hb;have hN:0<N:=Nat.lt_of_succ_le (Nat.le_of_ble_eq_true hN);obtain⟨XG,hnx,hlx⟩:=Gb hnd
 have hml:∀i∈m,i ∉ l.flatMap Ev.ids∧i ∉ x:=by
  intro i hi;have:=List.all_eq_true.1 Ach i hi
  have hn:∀k∈l.flatMap Ev.ids++x,i≠k:=by
   rintro k hk rfl
   have h2:(l.flatMap Ev.ids++x).any (Nat.beq i)=true:=List.any_eq_true.2 ⟨i,hk,Nat.beq_refl i⟩;rw[h2] at this;cases this
  exact⟨fun hq=>hn i (by simp only[List.mem_append];exact .inl hq) rfl,fun hq=>hn i (by simp only[List.mem_append];exact .inr hq) rfl⟩
 replace hL:=M7 (C.kz f) (xs:=c.args.toList) hL
 replace Dl:=fun fz h1 h2 bt Qy=>R3 (a:=a) (C.kz f) (Dl fz h1 h2 bt Qy)
 generalize G3 (C.kz f) c.args.toList vs0=vs at Dq Dl hL;obtain⟨rv,ro,Le,Mm⟩:=Zt Dq;obtain⟨ws,bs,Xx,hwl,WU,HK,hrs,IH,hws⟩:=Tc (C.shr f) N Mm;obtain⟨Lo,XI⟩:=Ae Xx;obtain⟨lids,Yz⟩:∃lids,l.flatMap Ev.ids=lids:=⟨_,rfl⟩;rw[Yz] at hS XG hlx hml;have Af6:∀i,i ∉ x->Ol (Ac s.hp m) x i=Ac s.hp m i:=fun i hi=>by rw[D9,if_neg hi]
 have MB:∀i,i∈lids->Ol (Ac s.hp m) x i=s.hp i:=fun i hi=>by
  rw[Af6 i (hlx i hi),A4,if_neg (fun hq=>(hml i hq).1 hi)]
 have hLM:Lh (Ol (Ac s.hp m) x) src 0 vs l:=Ro (fun i hi=>MB i (Yz ▸ hi)) hL
 obtain⟨Bs,bs',qs,hk6,hbq,AK,Vz,D7,Ik,RF,CL⟩:=Og (β:=β) (j:=Ld rv) XI hLM (by rw[Yz];exact XG)
 obtain⟨Lk,hk7⟩:=Ae hk6;refine⟨_,hk7,fun next Q hn=>?_⟩
 clear hk Cs Dq Mm Xx XI hk6 hk7;rw[Yz] at Ik;obtain⟨⟨fn,hfn,hfb⟩,P6⟩:=Co f vs _ Le;have hf:=h.freeze hm;have OK:=Wp hL;rw[Yz] at OK
 have AC:∀i,i∈lids∨i∈x->Ac s.hp m i=s.hp i:=by
  intro i hi;rw[A4,if_neg];intro hq;rcases hi with hi|hi
  ·exact (hml i hq).1 hi
  ·exact (hml i hq).2 hi
 have Ry:∀i,i∈lids∨i∈x->Bx (s.hp i):=by
  intro i hi;rcases hi with hi|hi
  ·exact (OK i hi).1
  ·obtain⟨cc,SE⟩:=hx i hi;rw[SE];trivial
 have Ag8:∀i j id off,src i j=some (id,off)->id∈lids∨id∈x:=by
  intro i j id off hs;cases j with
  |zero=>exact .inl (hS.lent i id off hs)
  |succ j=>exact .inr (hS.mvd i j id off hs).2
 obtain⟨bt,Qy⟩:∃bt:Vi,∀i j,bt i j=(src i j).bind (Ep β):=⟨_,fun _ _=>rfl⟩
 have btS:∀{i j b ob},bt i j=some (b,ob)->∃id off o',src i j=some (id,off)∧β id=some (b,o')∧ob=o'+off∧(id∈lids∨id∈x):=by
  intro i j b ob hb;rw[Qy] at hb;cases hs:src i j with
  |none=>rw[hs] at hb;cases hb
  |some q=>
   rw[hs] at hb;obtain⟨id,off⟩:=q;simp only[Option.bind_some,Ep] at hb;cases hβ:β id with
   |none=>rw[hβ] at hb;cases hb
   |some p=>
    rw[hβ] at hb;obtain⟨b',o'⟩:=p;simp only[Option.map_some,Option.some.injEq,Prod.mk.injEq] at hb;obtain⟨rfl,rfl⟩:=hb;exact⟨id,off,o',rfl,hβ,rfl,Ag8 i j id off hs⟩
 have btX:∀{b},RJ bt b->∃id o',β id=some (b,o')∧(id∈lids∨id∈x):=by
  rintro b ⟨i,j,ob,hb⟩
  obtain⟨id,off,o',_,h2,_,h4⟩:=btS hb;exact⟨id,o',h2,h4⟩
 have hBA:∀b,RJ bt b->BK s.hp β b:=fun b hb=>by
  obtain⟨id,o',h1,h2⟩:=btX hb;exact⟨id,o',Ry id h2,h1⟩
 obtain⟨Yc,hYc⟩:∃Yc:Nat->Prop,∀b,Yc b↔((∃id ob,Bx (Ac s.hp m id)∧β id=some (b,ob)∧id ∉ lids∧id ∉ x)∨Y b):=⟨_,fun _=>Iff.rfl⟩
 have Dh:vs.length=c.args.toList.length:=by
  have:=(Dl m (fun _ hi=>hi) hm bt Qy).len
  simpa using this
 have XM:Ins w Yc bt vs (c.args.toList.map a.eval):=by
  refine⟨fun b hb=>?_,fun b hb hB=>?_,fun b hB=>?_,fun i j i' j' b ob ob' hb Fp=>?_,fun i q hq=>?_,?_⟩
  ·rcases (hYc b).1 hb with⟨id,ob,hl,hβ,_⟩|hY
   ·exact hf.blt id b ob (Bu hl) hβ
   ·exact Nat.lt_of_lt_of_le (h.Ylt b hY) h.fr.step.size
  ·obtain⟨id',o',h1,h2⟩:=btX hB;rcases (hYc b).1 hb with⟨id,ob,hl,hβ,h3,h4⟩|hY
   ·have:=hf.inj id id' b ob o' hl (by show Bx (Ac s.hp m id');rw[AC id' h2];exact Ry id' h2) hβ h1
    subst this;rcases h2 with h2|h2
    ·exact h3 h2
    ·exact h4 h2
   ·exact h.Yx b hY ⟨id',o',Ry id' h2,h1⟩
  ·obtain⟨id',o',h1,h2⟩:=btX hB;exact h.blt id' b o' (Bu (Ry id' h2)) h1
  ·obtain⟨id,off,o1,h1,h2,_,h4⟩:=btS hb;obtain⟨id',off',o1',Xn,h2',_,h4'⟩:=btS Fp;have:=h.inj id id' b o1 o1' (Ry id h4) (Ry id' h4') h2 h2';subst this;cases j with
   |zero=>
    cases j' with
    |zero=>exact⟨hS.inj0 XG i i' id off off' h1 Xn,rfl⟩
    |succ j'=>exact absurd (hS.mvd i' j' id off' Xn).2 (hlx id (hS.lent i id off h1))
   |succ j=>
    cases j' with
    |zero=>exact absurd (hS.mvd i j id off h1).2 (hlx id (hS.lent i' id off' Xn))
    |succ j'=>
     obtain⟨h5,h6⟩:=hS.inj1 hnx i i' j j' id off off' h1 Xn;exact⟨h5,by rw[h6]⟩
  ·obtain⟨b,ob⟩:=q;obtain⟨id,off,o',h1,_⟩:=btS hq;obtain⟨p,hp,h2⟩:=HO hL i id off (Nat.zero_le _) h1 (by have:=hS.dom i 0 _ h1;rw[Dh];exact this.2)
   exact⟨p,by simpa using hp,h2⟩
  ·refine (Dl m (fun _ hi=>hi) hm bt Qy).weak fun b _ hb=>?_
   rcases hb with hb|hb
   ·obtain⟨id',o',h1,h2⟩:=btX hb;exact .inl ⟨id',o',by rw[AC id' h2];exact Ry id' h2,h1⟩
   ·rcases (hYc b).1 hb with⟨id,ob,hl,hβ,_⟩|hY
    ·exact .inl ⟨id,ob,hl,hβ⟩
    ·exact .inr hY
 unfold Oper.wp;rw[GX ho hc Ig.ng hfn hfb];show Calls P f _ w _;have hca:c.args.map a.eval=(c.args.toList.map a.eval).toArray:=by rw[←List.map_toArray,Array.toArray_toList]
 rw[hca];refine (P6 w Yc bt _ XM (Ig.fr w h.fr) (fun b x=>⟨Nat.lt_of_lt_of_le (Ig.y b x).1 h.fr.step.size,fun hB=>(h.ownd b (hBA b hB)).elim (Ig.y b x).2 (fun Tn=>absurd (Ig.y b x).1 (Nat.not_lt.2 Tn))⟩)).mono ?_
 rintro e w' ⟨us,own,rfl,out⟩
 obtain⟨ha1,ha2⟩:=Ax Lk;obtain⟨XC,hg2⟩:=Cy (hp:=Bs) ha2;have JA:=M2 Lk;rw[List.map_append,List.nodup_append] at JA;obtain⟨Aqd,Aft,Aih⟩:=JA;rw[hbq] at Aft
 obtain⟨β1,hβ1,hβ2⟩:∃β1:Bt,(∀i,(∃bx,(i,bx)∈bs)->β1 i=own ((i-o.dst.getD N) / N))∧∀i,(¬∃bx,(i,bx)∈bs)->β1 i=match Pi qs i with|some j=>own j|none=>β i:=by
  refine⟨fun i=>if (bs.any fun q=>Nat.beq q.1 i)=true then own ((i-o.dst.getD N) / N) else match Pi qs i with|some j=>own j|none=>β i,fun i hi=>?_,fun i hi=>?_⟩
  ·show (if _ then _ else _)=_
   rw[if_pos (DA.2 hi)]
  ·show (if _ then _ else _)=_
   rw[if_neg (fun hq=>hi (DA.1 hq))]
 have hβbs:∀j,(∃bx,(o.dst.getD N+N*j,bx)∈bs)->β1 (o.dst.getD N+N*j)=own (0+j):=by
  intro j hj;rw[hβ1 _ hj,Nat.add_sub_cancel_left,Nat.mul_div_cancel_left _ hN,Nat.zero_add]
 have hqb:∀q∈qs,∃bx,(q.1,bx)∈bs':=by
  intro q hq;have:q.1∈bs'.map (·.1):=by rw[hbq];exact List.mem_map_of_mem hq
  obtain⟨⟨i,bx⟩,hm,e⟩:=List.mem_map.1 this;exact⟨bx,e ▸ hm⟩
 have Ain:∀i bx,(i,bx)∈bs'->∃j,(i,j)∈qs:=by
  intro i bx hm;have:i∈qs.map (·.1):=by rw[←hbq];exact List.mem_map.2 ⟨_,hm,rfl⟩
  obtain⟨⟨i',j⟩,hm,e⟩:=List.mem_map.1 this;exact⟨j,e ▸ hm⟩
 have hbb:∀i,(∃bx,(i,bx)∈bs')->¬∃bx,(i,bx)∈bs:=by
  rintro i ⟨bx,hm⟩ ⟨bx',Jk⟩
  exact Aih i (List.mem_map.2 ⟨_,Jk,rfl⟩) i (List.mem_map.2 ⟨_,hm,rfl⟩) rfl
 have hβqs:∀q∈qs,β1 q.1=own q.2:=by
  intro q hq;rw[hβ2 q.1 (hbb q.1 (hqb q hq)),WB Aft q hq]
 have hβold:∀i,Bs i≠none->β1 i=β i:=by
  intro i hi
  have FT:¬∃bx,(i,bx)∈bs:=by
   rintro⟨bx,hm⟩
   exact hi (ha1 i bx (List.mem_append.2 (.inl hm)))
  rw[hβ2 i FT,GW];intro hm;obtain⟨q,hq,e⟩:=List.mem_map.1 hm;obtain⟨bx,I2⟩:=hqb q hq;exact hi (ha1 i bx (List.mem_append.2 (.inr (e ▸ I2))))
 obtain⟨G8,hba⟩:=hws w' _ own β1 w.heap.size 0 us hβbs out.vals;obtain⟨Ajr,Agu⟩:=CL w' _ own β1 bt hβqs (fun i=>Qy i 0) out.outs
 have Aa4:∀id∈lids,∃y∈l,id∈y.ids:=by
  intro id Ay;rw[←Yz] at Ay;exact List.mem_flatMap.1 Ay
 have YE:∀id∈lids,(∃off c cs,s.hp id=some (.st c)∧Bs id=some (.st (A2 c cs off))∧off+cs.length<=c.length∧(∀p∈cs,∀i∈Aj p,∃bx,(i,bx)∈bs'))∨∃c cs,s.hp id=some (.ar false c)∧Bs id=some (.ar false cs):=by
  intro id Ay;obtain⟨y,hy,VI⟩:=Aa4 id Ay;have h1:=RF y hy;cases y with
  |var id' off cts ws'=>
   simp only[Ev.ids,List.mem_singleton] at VI;subst VI;obtain⟨c1,cs,h2,h3,h4,h5,h6⟩:=h1;rw[MB id Ay] at h2;exact .inl ⟨off,c1,cs,h2,h3,h5,h6⟩
  |row id'=>
   simp only[Ev.ids,List.mem_singleton] at VI;subst VI;obtain⟨c1,cs,h2,h3⟩:=h1;rw[MB id Ay] at h2;exact .inr ⟨c1,cs,h2,h3⟩
  |none=>simp[Ev.ids] at VI
 have Amp:∀id∈lids,Bs id≠none:=by
  intro id Ay;rcases YE id Ay with⟨_,_,_,_,h2,_⟩|⟨_,_,_,h2⟩<;>rw[h2]<;>simp
 have hpK:∀id,id ∉ lids->Bs id=Ol (Ac s.hp m) x id:=fun id Ay=>Ik id Ay
 have Eg:∀i,s.hp i≠none->Bs i≠none:=by
  intro i hi;by_cases hl:i∈lids
  ·exact Amp i hl
  ·rw[hpK i hl,D9];have h1:Ac s.hp m i≠none:=fun e=>hi (Cp.1 e)
   split
   ·cases hq:Ac s.hp m i with
    |none=>exact absurd hq h1
    |some b=>simp
   ·exact h1
 have YU:∀i,(s.hp i≠none∨∃bx,(i,bx)∈bs++bs')->Ak Bs (bs++bs') i≠none:=by
  rintro i (hi|⟨bx,hm⟩)
  ·have h1:=Eg i hi;rw[hg2 i (fun bx hm=>h1 (ha1 i bx hm))]
   exact h1
  ·rw[XC i bx hm];simp
 have Fh:∀id,(∃bx,(id,bx)∈bs++bs')∨Ak Bs (bs++bs') id=Bs id:=fun id=>by
  by_cases hx:∃bx,(id,bx)∈bs++bs'
  ·exact .inl hx
  ·exact .inr (hg2 id fun bx hb=>hx ⟨bx,hb⟩)
 have hold:∀id bx,Bs id=some bx->Bx (some bx)->Bx (s.hp id)∧id ∉ x∧(id∈lids∨(id ∉ lids∧Ac s.hp m id=some bx)):=by
  intro id bx hb hl;by_cases Ay:id∈lids
  ·exact⟨Ry id (.inl Ay),hlx id Ay,.inl Ay⟩
  ·rw[hpK id Ay,D9] at hb;split at hb
   ·cases hq:Ac s.hp m id with
    |none=>rw[hq] at hb;cases hb
    |some b=>rw[hq] at hb;simp at hb;subst hb;exact hl.elim
   ·rename_i hxn;exact⟨by rw[Gj hb hl];exact hl,hxn,.inr ⟨Ay,hb⟩⟩
 have Qe:∀i bx,(i,bx)∈bs++bs'->∃j,β1 i=own j∧((i=o.dst.getD N+N*j∧j<Ld rv)∨((i,j)∈qs∧Ld rv<=j)):=by
  intro i bx hm;rcases List.mem_append.1 hm with hm|hm
  ·obtain⟨⟨j,rfl,hj⟩,_⟩:=hba i bx hm;exact⟨j,by rw[hβbs j ⟨bx,hm⟩,Nat.zero_add],.inl ⟨rfl,hj⟩⟩
  ·obtain⟨j,hj⟩:=Ain i bx hm;exact⟨j,hβqs _ hj,.inr ⟨hj,(AK _ hj).2⟩⟩
 have Aau:∀i bx,(i,bx)∈bs++bs'->Bx (some bx)∧Nd w' (Ti bt own Yc) β1 i bx∧∀cs,bx=.st cs->∀b ob,β1 i=some (b,ob)->w.heap.size<=b:=by
  intro i bx hm;rcases List.mem_append.1 hm with hm|hm
  ·exact (hba i bx hm).2
  ·obtain⟨cc,rfl⟩:=D7 i bx hm;exact⟨trivial,Ajr i _ hm,fun cs e=>by cases e⟩
 have Ad3:∀b,(∃i k o',bt i (k+1)=some (b,o'))->∃id o',id∈x∧β id=some (b,o'):=by
  rintro b ⟨i,k,o',hb⟩
  obtain⟨id,off,o1,h1,h2,_,_⟩:=btS hb;exact⟨id,o1,(hS.mvd i k id off h1).2,h2⟩
 have hX:∀b,b<w.heap.size->BK (Ak Bs (bs++bs')) β1 b->BK s.hp β b:=by
  rintro b hb ⟨id,ob,hl,hβ⟩
  rcases Fh id with⟨bx,hm⟩|e
  ·obtain⟨j,hj,_⟩:=Qe id bx hm;rw[hj] at hβ;obtain⟨id',o',h1,h2⟩:=Ad3 b ((out.fresh j b ob hβ).2 hb).1;exact⟨id',o',Ry id' (.inr h1),h2⟩
  ·rw[e] at hl;cases hq:Bs id with
   |none=>rw[hq] at hl;exact hl.elim
   |some bx=>
    rw[hq] at hl;exact⟨id,ob,(hold id bx hq hl).1,by rw[←hβold id (by rw[hq];simp)];exact hβ⟩
 have hAo:∀b,b<w.heap.size->Bz (Ak Bs (bs++bs')) β1 Y b->Bz s.hp β Y b:=fun b hb hA=>hA.imp (hX b hb) id
 have hAO:∀b,Bz (Ak Bs (bs++bs')) β1 Y b->Ti bt own Yc b:=by
  rintro b (⟨id,ob,hl,hβ⟩|hY)
  ·rcases Fh id with⟨bx,hm⟩|e
   ·obtain⟨j,hj,_⟩:=Qe id bx hm;rw[hj] at hβ;exact .inl ⟨j,ob,hβ⟩
   ·rw[e] at hl;cases hq:Bs id with
    |none=>rw[hq] at hl;exact hl.elim
    |some bx=>
     rw[hq] at hl;rw[hβold id (by rw[hq];simp)] at hβ
     obtain⟨h1,h2,h3⟩:=hold id bx hq hl;rcases h3 with h3|⟨h3,h4⟩
     ·obtain⟨_,i,off,hs⟩:=OK id h3;exact .inr (.inl ⟨i,ob+off,by rw[Qy,hs];simp[Ep,hβ]⟩)
     ·exact .inr (.inr ((hYc b).2 (.inl ⟨id,ob,by rw[h4];exact hl,hβ,h3,h2⟩)))
  ·exact .inr (.inr ((hYc b).2 (.inr hY)))
 have Kk:Ba (Bz s.hp β Y) w w':=out.ext.weaken (fun b _ hb=>.inl (hBA b hb))
 have YP:∀i,s.hp i≠none->β1 i=β i:=fun i hi=>hβold i (Eg i hi)
 have hCL:∀b j,Zy bt vs b j->∃id o' bx,s.hp id=some bx∧Bx (some bx)∧β id=some (b,o')∧BR bx o' j:=by
  rintro b j ⟨i,p,hp,⟨k,ob,hb,Tn⟩|⟨ob,ps,hb,Tn,Vx⟩⟩
  ·obtain⟨id,off,o',h1,h2,h3,_⟩:=btS hb;obtain⟨h5,h6⟩:=hS.mvd i k id off h1;obtain⟨cc,SE⟩:=hx id h6;exact⟨id,o',_,SE,trivial,h2,show o'<=j by omega⟩
  ·obtain⟨id,off,o',h1,h2,h3,_⟩:=btS hb;rcases TV hL i p id off hp (by rw[Nat.zero_add];exact h1) with⟨c1,wz,h5,h6,h7⟩|⟨⟨c1,h5⟩,_⟩
   ·rcases Vx with⟨h8,h9⟩|h8
    ·rw[h6] at h8;cases h8;exact⟨id,o',_,h5,trivial,h2,show o'<=j∧j<o'+c1.length by omega⟩
    ·rw[h6] at h8;cases h8
   ·exact⟨id,o',_,h5,trivial,h2,show o'<=j by omega⟩
 have TP:∀id off cts wz,Ev.var id off cts wz∈l->id∈lids->∀b ob,β id=some (b,ob)->∀j,(j<off∨off+wz.length<=j)->(∃c1,s.hp id=some (.st c1))->¬Zy bt vs b (ob+j):=by
  rintro id off cts wz hy Ay b ob hβ j hj ⟨c1,Z2⟩ ⟨i,p,hp,⟨k,ob',hb,Tn⟩|⟨ob',ps,hb,Tn,Vx⟩⟩
  ·obtain⟨id',off',o',h1,h2,h3,h4⟩:=btS hb;have:=h.inj id id' b ob o' (Ry id (.inl Ay)) (Ry id' h4) hβ h2;subst this;exact hlx id Ay (hS.mvd i k id off' h1).2
  ·obtain⟨id',off',o',h1,h2,h3,h4⟩:=btS hb;have:=h.inj id id' b ob o' (Ry id (.inl Ay)) (Ry id' h4) hβ h2;subst this;rw[hβ] at h2;cases h2;obtain⟨k,Cs,Dq⟩:=HL hL hy;rw[Nat.zero_add] at Dq;have hik:=hS.inj0 XG i k id off' off h1 Dq;subst hik;rw[h1] at Dq;cases Dq;rw[hp] at Cs;cases Cs;rcases Vx with⟨h8,h9⟩|h8
   ·cases h8;omega
   ·cases h8
 have hval:C1 w' (Bz (Ak Bs (bs++bs')) β1 Y) β1 (J6 ws (Kw P o.type)) (Gf us):=by
  have Kq:Au (Fq w' (Bz (Ak Bs (bs++bs')) β1 Y) β1) ws us:=G8.mono fun v u hvu=>hvu.step (Ba.refl _ _) (fun b _=>hAO b) (fun _ _=>rfl)
  have Dh:=Kq.len;cases hT:Kw P o.type
  ·rw[hT] at Lo;have h1:ws.length=1:=Nat.eq_of_beq_eq_true Lo
   match ws,us,h1,Dh with
   |[v],[u],_,_=>
    exact (M5 (WU v (by simp))).2 Kq.1
  ·rw[hT] at Lo
   have h1:¬ws.length=1:=by
    intro e;rw[e] at Lo;cases Lo
   have hr:Gf us=.tuple ⟨us⟩:=by
    unfold Gf;split
    ·simp at Dh;omega
    ·rfl
   rw[hr];exact⟨us,rfl,Kq⟩
 have hvr:∀i∈A5 (J6 ws (Kw P o.type)),∃bx,(i,bx)∈bs:=by
  intro i hi;cases hT:Kw P o.type
  ·rw[hT] at Lo hi;have h1:ws.length=1:=Nat.eq_of_beq_eq_true Lo
   match ws,h1 with
   |[v],_=>
    refine hrs v (by simp) i ?_
    have:A5 v=Bh v:=by
     have hn:=WU v (by simp)
     cases v<;>first|rfl|exact absurd rfl (hn _)
    rw[←this];exact hi
  ·rw[hT] at hi;obtain⟨v,hv,hi⟩:=List.mem_flatMap.1 (show i∈ws.flatMap Bh from hi)
   exact hrs v hv i hi
 refine hn _ w' β1 ?_;refine⟨by rw[Mu];exact h.dfr,by rw[Ru];exact h.tsz,CW OD h.tmo,?_,?_,?_,?_,?_,?_,?_,?_,?_,?_,?_,h.Ylt,?_⟩
 ·refine Kx (Q:=fun _ p u=>C1 w' (Bz (Ak Bs (bs++bs')) β1 Y) β1 p u) h.tsz OD (fun i hi=>?_) (fun _=>hval)
  exact (h.tms i hi).step Kk hAo fun id Ay=>YP id (h.wfT i hi id Ay)
 ·intro id bx hb;simp only at hb;rcases Fh id with⟨bx',Jk⟩|e
  ·rw[XC id bx' Jk] at hb;cases hb;exact (Aau id _ Jk).2.1.step' hAO
  ·rw[e] at hb;have hβ:=hβold id (by rw[hb];simp)
   by_cases Ay:id∈lids
   ·obtain⟨y,hy,VI⟩:=Aa4 id Ay;have h1:=Agu y hy;cases y with
    |var id' off cts wz=>
     simp only[Ev.ids,List.mem_singleton] at VI;subst VI;obtain⟨c1,cs,h2,h3,h4,h5,h6⟩:=h1;rw[MB id Ay] at h2;rw[h3] at hb;cases hb;obtain⟨b,ob,h7,h8,h9⟩:=h.box id _ h2;obtain⟨h10,h11⟩:=h6 b ob h7;have Bk:=h.blt id b ob (by rw[h2];simp) h7
     have U0:∀j,(j<off∨off+wz.length<=j)->w'.cell? ⟨b,ob+j,none⟩=w.cell? ⟨b,ob+j,none⟩∧w'.frozen? ⟨b,ob+j,none⟩=w.frozen? ⟨b,ob+j,none⟩:=
      fun j hj=>out.rng b (ob+j) Bk (TP id off cts wz hy Ay b ob h7 j hj ⟨c1,h2⟩)
     refine⟨b,ob,hβ.trans h7,fun j p hj=>?_,fun j hj=>?_⟩
     ·rcases M6 (by omega) hj with⟨h12,h13,h14⟩|⟨h12,h14⟩
      ·obtain⟨v,hv,CI⟩:=h10 _ _ h14;refine⟨v,?_,CI.step (Ba.refl _ _) (fun b _=>hAO b) (fun _ _=>rfl)⟩
       rw[show ob+j=ob+off+(j-off) by omega]
       exact hv
      ·obtain⟨v,hv,CI⟩:=h8 _ _ h14;refine⟨v,by rw[(U0 j (by omega)).1];exact hv,CI.step Kk hAo fun i hi=>YP i (h.wfB id c1 h2 p (List.mem_of_getElem? h14) i hi)⟩
     ·rw[Mq (by omega)] at hj
      by_cases DX:off<=j∧j<off+cs.length
      ·have:=h11 (j-off) (by omega)
       rw[show ob+off+(j-off)=ob+j by omega] at this
       exact this
      ·rw[(U0 j (by omega)).2]
       exact h9 j hj
    |row id'=>
     simp only[Ev.ids,List.mem_singleton] at VI;subst VI;obtain⟨cs,h3,h4⟩:=h1;rw[h3] at hb;cases hb;rcases h4 with⟨h5,h6⟩|⟨b,ob,h5,h6,h7⟩
     ·exact .inl ⟨hβ.trans h5,h6⟩
     ·exact .inr ⟨b,ob,hβ.trans h5,h6.weak (fun b _=>hAO b),fun _=>h7,(fun q=>by cases q)⟩
    |none=>simp[Ev.ids] at VI
   ·rw[hpK id Ay,D9] at hb;split at hb
    ·cases hq:Ac s.hp m id with
     |none=>rw[hq] at hb;cases hb
     |some b0=>rw[hq] at hb;simp at hb;subst hb;trivial
    ·rename_i hxn;have I2:=hf.box id bx hb
     have SH:∀b ob,β id=some (b,ob)->bx ≠ .mv->b<w.heap.size∧w'.heap[b]?=w.heap[b]?:=by
      intro b ob GO hmv;have Bk:=hf.blt id b ob (by show Ac s.hp m id≠none;rw[hb];simp) GO
      refine⟨Bk,out.ext.keep b Bk fun hB=>?_⟩
      obtain⟨id',o',h1,h2⟩:=btX hB;have He:Bx (Ac s.hp m id'):=by rw[AC id' h2];exact Ry id' h2
      have GB:id≠id':=by
       rintro rfl
       rcases h2 with h2|h2
       ·exact Ay h2
       ·exact hxn h2
      cases bx with
      |st cc=>exact GB (hf.inj id id' b ob o' (by show Bx (Ac s.hp m id);rw[hb];trivial) He GO h1)
      |ar fz cc=>
       cases fz with
       |false=>exact GB (hf.inj id id' b ob o' (by show Bx (Ac s.hp m id);rw[hb];trivial) He GO h1)
       |true=>
        rcases I2 with⟨h3,_⟩|⟨b2,o2,h3,_,_,h4⟩
        ·rw[GO] at h3;cases h3
        ·rw[GO] at h3;cases h3;exact h4 rfl (.inl ⟨id',o',He,h1⟩)
      |mv=>exact hmv rfl
     have hAoF:∀b,b<w.heap.size->Bz (Ak Bs (bs++bs')) β1 Y b->Bz (Ac s.hp m) β Y b:=by
      intro b D7 hA;rcases hA with⟨i,ob,hl,hβi⟩|hY
      ·rcases Fh i with⟨bx1,Y0⟩|e1
       ·obtain⟨j,hj,_⟩:=Qe i bx1 Y0;rw[hj] at hβi;obtain⟨id',o',h1,h2⟩:=Ad3 b ((out.fresh j b ob hβi).2 D7).1;exact .inl ⟨id',o',by rw[AC id' (.inr h1)];exact Ry id' (.inr h1),h2⟩
       ·rw[e1] at hl;cases hq:Bs i with
        |none=>rw[hq] at hl;exact hl.elim
        |some bx1=>
         rw[hq] at hl;rw[hβold i (by rw[hq];simp)] at hβi
         obtain⟨h1,h2,h3⟩:=hold i bx1 hq hl;rcases h3 with h3|⟨h3,h4⟩
         ·exact .inl ⟨i,ob,by rw[AC i (.inl h3)];exact h1,hβi⟩
         ·exact .inl ⟨i,ob,by rw[h4];exact hl,hβi⟩
      ·exact .inr hY
     have Afi:Ba (Bz (Ac s.hp m) β Y) w w':=out.ext.weaken (fun b _ hB=>by
      obtain⟨id',o',h1,h2⟩:=btX hB;exact .inl ⟨id',o',by rw[AC id' h2];exact Ry id' h2,h1⟩)
     cases bx with
     |st cc=>
      obtain⟨b,ob,h1,h2,h3⟩:=I2;obtain⟨Bk,R1⟩:=SH b ob h1 (by simp)
      refine⟨b,ob,hβ.trans h1,fun j p hj=>?_,fun j hj=>?_⟩
      ·obtain⟨v,hv,CI⟩:=h2 j p hj;refine⟨v,by rw[World.cell?_of_block (w:=w) R1];exact hv,CI.step Afi hAoF fun i hi=>?_⟩
       refine YP i (fun e1=>?_)
       exact hf.wfB id cc hb p (List.mem_of_getElem? hj) i hi (Cp.2 e1)
      ·rw[World.frozen?_of_block (w:=w) R1];exact h3 j hj
     |ar fz cc=>
      rcases I2 with⟨h1,h2⟩|⟨b,ob,h1,h2,h3,h4⟩
      ·exact .inl ⟨hβ.trans h1,h2⟩
      ·obtain⟨Bk,R1⟩:=SH b ob h1 (by simp)
       have Yn:bsz w' b=bsz w b:=by unfold bsz;rw[R1]
       refine .inr ⟨b,ob,hβ.trans h1,fun j p hj=>?_,fun e1 j hj Kp=>?_,fun e1 q=>h4 e1 (hAoF b Bk q)⟩
       ·obtain⟨v,hv,h5,Z2⟩:=h2 j p hj;exact⟨v,by rw[World.cell?_of_block (w:=w) (by rw[Eb];exact R1)];exact hv,h5,Z2.step Afi hAoF⟩
       ·rw[World.frozen?_of_block (w:=w) R1];exact h3 e1 j hj (by rw[←Yn];exact Kp)
     |mv=>trivial
 ·intro id id' b ob ob' hl He hb Fp;simp only at hl He
  have mixed:∀i bx i' k z,(i,bx)∈bs++bs'->β1 i=some (k,z)->Bs i'≠none->Bx (Bs i')->∀z',β1 i'=some (k,z')->False:=by
   intro i bx i' k z Y0 hz FT We z' QI;obtain⟨j,hj,_⟩:=Qe i bx Y0;rw[hj] at hz;rw[hβold i' FT] at QI;cases hq:Bs i' with
   |none=>exact FT hq
   |some bx1=>
    rw[hq] at We;obtain⟨h1,h2,h3⟩:=hold i' bx1 hq We;have Bk:=h.blt i' k z' (Bu h1) QI;obtain⟨id2,o2,h4,h5⟩:=Ad3 k ((out.fresh j k z hz).2 Bk).1;have:=h.inj i' id2 k z' o2 h1 (Ry id2 (.inr h4)) QI h5;subst this;exact h2 h4
  rcases Fh id with⟨bx,Y0⟩|e1
  ·rcases Fh id' with⟨bx',hm2⟩|e2
   ·obtain⟨j,hj,Vx⟩:=Qe id bx Y0;obtain⟨j',Kp,Ahi⟩:=Qe id' bx' hm2;rw[hj] at hb;rw[Kp] at Fp;have:=out.inj j j' b ob ob' hb Fp;subst this;rcases Vx with⟨h1,h2⟩|⟨h1,h2⟩
    ·rcases Ahi with⟨h3,_⟩|⟨_,h4⟩
     ·rw[h1,h3]
     ·omega
    ·rcases Ahi with⟨_,h4⟩|⟨h3,_⟩
     ·omega
     ·exact Vz _ h1 _ h3 rfl
   ·rw[e2] at He;exact (mixed id bx id' b ob Y0 hb (Bu He) He ob' Fp).elim
  ·rw[e1] at hl;rcases Fh id' with⟨bx',hm2⟩|e2
   ·exact (mixed id' bx' id b ob' hm2 Fp (Bu hl) hl ob hb).elim
   ·rw[e2] at He
    have g:∀i,Bx (Bs i)->Bx (s.hp i)∧β1 i=β i:=by
     intro i hli;cases hq:Bs i with
     |none=>rw[hq] at hli;exact hli.elim
     |some bx1=>exact⟨(hold i bx1 hq (by rw[←hq];exact hli)).1,hβold i (by rw[hq];simp)⟩
    rw[(g id hl).2] at hb;rw[(g id' He).2] at Fp;exact h.inj id id' b ob ob' (g id hl).1 (g id' He).1 hb Fp
 ·intro id b ob FT hb;simp only at FT;rcases Fh id with⟨bx,Y0⟩|e1
  ·obtain⟨j,hj,_⟩:=Qe id bx Y0;rw[hj] at hb;exact (out.fresh j b ob hb).1
  ·rw[e1] at FT;rw[hβold id FT] at hb
   have XD:s.hp id≠none:=by
    by_cases Ay:id∈lids
    ·exact Bu (Ry id (.inl Ay))
    ·rw[hpK id Ay,D9] at FT;intro e2;have h1:Ac s.hp m id=none:=Cp.2 e2;rw[h1] at FT;split at FT<;>exact FT rfl
   exact Nat.lt_of_lt_of_le (h.blt id b ob XD hb) out.ext.size
 ·have:=Kx (Q:=fun _ p _=>∀id∈A5 p,Ak Bs (bs++bs') id≠none) (val:=Gf us) (d:=o.dst) (v:=J6 ws (Kw P o.type)) h.tsz OD (fun i hi id Ay=>YU id (.inl (h.wfT i hi id Ay))) (fun _ id Ay=>YU id (.inr (by
   obtain⟨bx,hb⟩:=hvr id Ay;exact⟨bx,List.mem_append.2 (.inl hb)⟩)))
  exact this
 ·intro id cells CV p hp i hi;simp only at CV;refine YU i ?_;rcases Fh id with⟨bx,Y0⟩|e1
  ·rw[XC id bx Y0] at CV;cases CV;rcases List.mem_append.1 Y0 with Y0|Y0
   ·obtain⟨bx1,hb⟩:=IH id cells Y0 p hp i hi;exact .inr ⟨bx1,List.mem_append.2 (.inl hb)⟩
   ·obtain⟨cc,e2⟩:=D7 id _ Y0;cases e2
  ·rw[e1] at CV;by_cases Ay:id∈lids
   ·rcases YE id Ay with⟨off,c1,cs,h1,h2,h3,h4⟩|⟨c1,cs,h1,h2⟩
    ·rw[h2] at CV;cases CV;unfold A2 at hp;rcases List.mem_append.1 hp with hp|hp
     ·rcases List.mem_append.1 hp with hp|hp
      ·exact .inl (h.wfB id c1 h1 p (List.mem_of_mem_take hp) i hi)
      ·obtain⟨bx1,hb⟩:=h4 p hp i hi;exact .inr ⟨bx1,List.mem_append.2 (.inr hb)⟩
     ·exact .inl (h.wfB id c1 h1 p (List.mem_of_mem_drop hp) i hi)
    ·rw[h2] at CV;cases CV
   ·obtain⟨_,_,h3⟩:=hold id _ CV trivial;rcases h3 with h3|⟨_,h3⟩
    ·exact absurd h3 Ay
    ·exact .inl (h.wfB id cells (Gj h3 trivial) p hp i hi)
 ·rintro b ⟨id,ob,hl,hβ⟩
  rcases Nat.lt_or_ge b w.heap.size with Bk|QY
  ·exact h.ownd b (hX b Bk ⟨id,ob,hl,hβ⟩)
  ·exact .inr (Nat.le_trans h.fr.step.size QY)
 ·intro id bx b ob hb hl hβ Bk j hj;simp only at hb;have hlw:=Nat.lt_of_lt_of_le Bk h.fr.step.size;rcases Fh id with⟨bx',Y0⟩|e1
  ·rw[XC id bx' Y0] at hb;cases hb;obtain⟨k,hk,_⟩:=Qe id bx Y0;rw[hk] at hβ
   have Tn:ob<=j:=by
    cases bx with
    |st cc=>exact hj.1
    |ar fz cc=>exact hj
    |mv=>exact hl.elim
   obtain⟨id2,o2,bx2,h1,h2,h3,h4⟩:=hCL b j (((out.fresh k b ob hβ).2 hlw).2 j Tn);exact h.rngB id2 bx2 b o2 h1 h2 h3 Bk j h4
  ·rw[e1] at hb;rw[hβold id (by rw[hb];simp)] at hβ
   obtain⟨h1,h2,h3⟩:=hold id bx hb hl;rcases h3 with h3|⟨h3,h4⟩
   ·rcases YE id h3 with⟨off,c1,cs,h5,h6,h7,_⟩|⟨c1,cs,h5,h6⟩
    ·rw[h6] at hb;cases hb;have hj:ob<=j∧j<ob+(A2 c1 cs off).length:=hj;rw[Mq (by omega)] at hj
     exact h.rngB id _ b ob h5 trivial hβ Bk j hj
    ·rw[h6] at hb;cases hb;exact h.rngB id _ b ob h5 trivial hβ Bk j hj
   ·exact h.rngB id bx b ob (Gj h4 hl) hl hβ Bk j hj
 ·intro i hi;obtain⟨h1,h2⟩:=h.pin i hi;exact⟨YU _ (.inl h1),by rw[YP _ h1];exact h2⟩
 ·intro id cc b ob hb hβ Bk;simp only at hb;have hlw:=Nat.lt_of_lt_of_le Bk h.fr.step.size;rcases Fh id with⟨bx',Y0⟩|e1
  ·rw[XC id bx' Y0] at hb;cases hb;have:=(Aau id _ Y0).2.2 cc rfl b ob hβ;omega
  ·rw[e1] at hb;rw[hβold id (by rw[hb];simp)] at hβ
   obtain⟨h1,h2,h3⟩:=hold id _ hb trivial;rcases h3 with h3|⟨h3,h4⟩
   ·rcases YE id h3 with⟨off,c1,cs,h5,h6,h7,_⟩|⟨c1,cs,h5,h6⟩
    ·exact h.stp id c1 b ob h5 hβ Bk
    ·rw[h6] at hb;cases hb
   ·exact h.stp id cc b ob (Gj h4 trivial) hβ Bk
 ·intro b hY hXb;exact h.Yx b hY (hX b (Nat.lt_of_lt_of_le (h.Ylt b hY) h.fr.step.size) hXb)
 ·refine⟨out.os.trans h.fr.os,out.tape.trans h.fr.tape,out.output.trans h.fr.output,⟨Nat.le_trans h.fr.step.size out.ext.size,fun b hb hnX=>?_,fun b hb=>(h.fr.step.bs b hb).trans (out.ext.bs b (Nat.lt_of_lt_of_le hb h.fr.step.size))⟩,fun b j hb TP=>?_⟩
  ·rw[out.ext.keep b (Nat.lt_of_lt_of_le hb h.fr.step.size) ?_]
   ·exact h.fr.step.keep b hb hnX
   ·intro hB;rcases h.ownd b (hBA b hB) with hq|hq
    ·exact hnX hq
    ·omega
  ·have GB:¬Zy bt vs b j:=by
    intro hq;obtain⟨id2,o2,bx2,h1,h2,h3,h4⟩:=hCL b j hq;exact TP (h.rngB id2 bx2 b o2 h1 h2 h3 hb j h4)
   obtain⟨h1,h2⟩:=out.rng b j (Nat.lt_of_lt_of_le hb h.fr.step.size) GB;rw[h1,h2];exact h.fr.rng b j hb TP
end
open Go.RowKit
section
variable {R:Type} {r:R} {P:Program} {N:Nat} {w0:World} {X0:Ft} {Y:Nat->Prop} {β β':Bt} {s:St} {a:Act} {w w':World} {o:Oper} {A:Nat->Prop}
theorem BQ (h:Br N w0 X0 Y β s a w){c:Call}(ho:o.op=.call c)(hc:c.callee=.builtin .append){d:Nat}(OD:o.dst=some d){b x:Operand}(Dl:c.args.toList=[b,x]) {t tx:TypeId}{ts:List TypeId}(Vk:c.argTypes.toList=t::tx::ts)
  {K:St->Option R} (hk:Kz P N s d t tx (A8 s.tm b) (A8 s.tm x) K=some r):
  ∃s',K s'=some r∧∀(next:Act->World->Prop) (Q:Exit->Act->World->Prop),(∀a' w' β',Br N w0 X0 Y β' s' a' w'->next a' w')->o.wp P a w next Q:=by
 have Yi:c.args = #[b,x]:=by
  have:c.args=([b,x]:List Operand).toArray:=by rw[←Dl]
  exact this
 have HE:c.argTypes=(t::tx::ts).toArray:=by rw[←Vk]
 have run:∀{v:Value} {w1:World},(Builtin.append_ (t::tx::ts).toArray o.type #[a.eval b,a.eval x]).run P w=.ok v w1->∀(next:Act->World->Prop) (Q:Exit->Act->World->Prop),next (a.put (some d) v) w1->o.wp P a w next Q:=by
  intro v w1 hr next Q hn;unfold Oper.wp execOp;rw[ho];simp only[resolve,hc,invoke,builtin,Sem.run_bind,Sem.run_pure,Result.andThen_ok,Yi,HE];have:(#[b,x]:Array Operand).map a.eval = #[a.eval b,a.eval x]:=by simp
  rw[this,hr];show next (a.put o.dst v) w1;rw[OD];exact hn
 have hbv:=Bv h b;have EA:=Di h b;unfold Kz at hk;split at hk
 ·rename_i e hu;obtain⟨PN,hk⟩:=Ae hk;obtain⟨i,z,hi,hz,Wt,Jx⟩:=Xq PN;cases hit:Rx P tx
  rotate_left
  ·rw[hit] at hk;simp only[cond_true] at hk
   obtain⟨ki,QA⟩:∃k,P.underlying tx=some (.int k):=by
    unfold Rx at hit;split at hit
    ·exact⟨_,by assumption⟩
    ·cases hit
   unfold N3 at hk;obtain⟨kx,n,hx,hk⟩:=B2 hk;obtain⟨zz,n',c',hk,hp⟩:=Dy hk;obtain⟨hb,hk⟩:=Ae hk;simp only[Bool.and_eq_true,decide_eq_true_eq] at hb;obtain⟨⟨⟨⟨⟨ZM,RH⟩,Q8⟩,HY⟩,SY⟩,Xp⟩:=hb;have RH:d<N:=Nat.lt_of_succ_le (Nat.le_of_ble_eq_true RH);have Q8:s.hp d=none:=by simpa using Q8
   have JL:Ej N (some d)=true:=by simp[Ej,Nat.blt];omega
   have Nz:((P.info? e).map (·.bytes)).getD 0=i.bytes:=by rw[hi];rfl
   rw[Nz] at SY;rw[Jx] at hk;have B0:=Bl h hx;rcases El hp hbv with⟨Lk,_⟩|⟨_,_,_,Wv,_⟩|⟨_,_,_,Wv,_⟩
   ·refine⟨_,hk,fun next Q hn=>?_⟩
    by_cases WW:n=0
    ·subst WW;have hr:=Ud (P:=P) (w:=w) (t:=t) (tx:=tx) (ty:=o.type) (ts:=ts) (kx:=kx) hu QA hi;rw[←Lk,←B0] at hr;refine run hr next Q (hn _ _ (Bi β d none) ?_);rw[Lk];refine h.stepR (d:=some d) (nw:=[(d,.ar false [])]) (β':=Bi β d none) JL (by simp[A3,Q8]) ⟨rfl,rfl,rfl,Ba.refl _ _,fun j hj=>Ad _ _ (by rintro rfl;exact hj Q8),?_,?_,?_,?_,?_,.inl ⟨Af _ _ _,rfl,rfl,none,rfl⟩,?_⟩
     ·intro j bx hm;simp at hm;rw[hm.2];trivial
     ·intro j bx hm;simp at hm;obtain⟨rfl,rfl⟩:=hm;exact .inl ⟨Af _ _ _,rfl⟩
     ·intro j bx k q hm hq;simp at hm;obtain⟨rfl,rfl⟩:=hm;rw[Af] at hq;cases hq
     ·intro j bx j' bx' k q q' hm Jk _ _;simp at hm Jk;rw[hm.1,Jk.1]
     ·intro j cells hm;simp at hm
     ·intro j hj;simp[A5,Bh,Aj] at hj;subst hj;exact .inr ⟨.ar false [],by simp⟩
    ·have hr:=Vp (P:=P) (w:=w) (t:=t) (tx:=tx) (ty:=o.type) (ts:=ts) (kx:=kx) hu QA hi hz (n:=n) (by omega) SY Xp
     rw[←Lk,←B0] at hr;refine run hr next Q (hn _ _ (Bi β d (some (w.heap.size,0))) ?_);have QY:n.toNat<=grownCap w n.toNat 0 e:=grownCap_ge w n.toNat 0 e;generalize P6:((if n.toNat*i.size=0 then #[] else Builtin.zeroCells z.cells n.toNat)++Builtin.zeroCells z.cells (grownCap w n.toNat 0 e-n.toNat))=cs
     have Qt:D0 w (w.drew.alloc (.cells cs e)) cs e:=
      ⟨rfl,rfl,rfl,fun k hk=>Below.heap_alloc w.drew _ k hk,by show (w.heap.push _).size=_;simp,(0,0),by show (w.heap.push _)[w.heap.size]?=_;simp,.inl rfl⟩
     have JS:cs.size=grownCap w n.toNat 0 e*i.size:=by
      rw[←P6];by_cases IA:n.toNat*i.size=0
      ·rw[if_pos IA]
       have KW:i.size=0:=by
        rcases Nat.mul_eq_zero.1 IA with h|h
        ·omega
        ·exact h
       simp[size_zeroCells,Wt,KW]
      ·rw[if_neg IA];simp only[Array.size_append,size_zeroCells,Wt,←Nat.add_mul]
       congr 1
       omega
     refine h.stepR (d:=some d) (nw:=[(d,.ar false [])]) JL (by simp[A3,Q8]) (L4 Qt Q8 trivial ?_ (fun cells hx=>by cases hx) ?_ (by intro j hj;simp[A5,Bh,Aj] at hj;exact .inr hj))
     ·refine .inr ⟨w.heap.size,0,Af _ _ _,fun j p hj=>by simp at hj,fun _ j _ hj=>?_,(fun q=>by cases q)⟩
      rw[Qt.bsz] at hj;exact Qt.frozen hj
     ·refine .inr ⟨w.heap.size,0,0,grownCap w n.toNat 0 e,Af _ _ _,rfl,.inl rfl,QY,?_,by rw[Qt.size];omega⟩
      exact⟨by rw[Qt.bsz,JS];omega,.inr (H0 w.drew _ e)⟩
   ·rw[Wv] at ZM;cases ZM
   ·rw[Wv] at ZM;cases ZM
  rw[hit] at hk;simp only[cond_false] at hk;have Nz:((P.info? e).map (·.bytes)).getD 0=i.bytes:=by rw[hi];rfl
  obtain⟨⟨dx,hdx,EL⟩,m,new,news,hk,hs⟩:=Yd h hk (by
   intro m new hk;split at hk
   ·split at hk
    ·obtain⟨hb,_⟩:=Ae hk;simp only[Bool.and_eq_true,decide_eq_true_eq] at hb;have he:=Nat.eq_of_beq_eq_true hb.1.1.1.1.1.1.1;rw[←he];exact hb.1.1.2
    ·cases hk
   ·obtain⟨zz,n',c',hk,_⟩:=Dy hk;obtain⟨hb,_⟩:=Ae hk;simp only[Bool.and_eq_true,decide_eq_true_eq] at hb;exact hb.1.1.2)
  rw[Jx] at hs;have XG:new.length=news.length:=hs.rep.len;split at hk
  ·rename_i id es off n eb;rw[eb] at hbv EA;split at hk
   ·rename_i cc h0;obtain⟨hb,Dq⟩:=Ae hk;simp only[Bool.and_eq_true,decide_eq_true_eq] at hb;obtain⟨⟨⟨⟨⟨⟨⟨Sj,Lf⟩,RH⟩,Q8⟩,Ajt⟩,MM⟩,SY⟩,Xp⟩:=hb;have Sj:=Nat.eq_of_beq_eq_true Sj;have Lf:=Nat.eq_of_beq_eq_true Lf;have RH:d<N:=Nat.lt_of_succ_le (Nat.le_of_ble_eq_true RH);have Q8:s.hp d=none:=by simpa using Q8
    subst Lf;rw[Jx] at Sj;subst Sj;rw[Nz] at SY;have Uh:news.length=m*i.size:=by omega
    have Aqm:s.hp id≠none:=by rw[h0];simp
    have NL:=h.box id _ h0;refine⟨_,Dq,fun next Q hn=>?_⟩
    have grow:∀(ad:Option Addr) (cap:Nat) (olds:List Value),a.eval b=.slice ad n cap->Au (Ap w (Bz s.hp β Y)) (cc.take (n*i.size)) olds->(∀u∈olds,u.oneCell'=true)->olds.length=n*i.size ->
      ((ad=none∧olds=[])∨∃p,ad=some p∧olds.length=n*i.size∧∀(j:Nat) v,olds[j]?=some v->w.cell? (p.add j)=some v)->cap<n+m->o.wp P a w next Q:=by
     intro ad cap olds Lk holds h1 hol hold Pg;have hr:=append_grow_run (P:=P) (w:=w) (t:=t) (tx:=tx) (ty:=o.type) (ts:=ts) hu hdx EL hi hz hs hold Pg SY Xp;rw[←Lk] at hr;refine run hr next Q (hn _ _ (Bi β d (some (w.heap.size,0))) ?_);have QY:n+m<=grownCap w (n+m) cap e:=grownCap_ge w (n+m) cap e
     have Qt:D0 w (w.drew.alloc (.cells (olds.toArray++news.toArray++Builtin.zeroCells z.cells (grownCap w (n+m) cap e-(n+m))) e)) (olds.toArray++news.toArray++Builtin.zeroCells z.cells (grownCap w (n+m) cap e-(n+m))) e:=
      ⟨rfl,rfl,rfl,fun k hk=>Below.heap_alloc w.drew _ k hk,by show (w.heap.push _).size=_;simp,(0,0),by show (w.heap.push _)[w.heap.size]?=_;simp,.inl rfl⟩
     have JS:(olds.toArray++news.toArray++Builtin.zeroCells z.cells (grownCap w (n+m) cap e-(n+m))).size=grownCap w (n+m) cap e*i.size:=by
      simp only[Array.size_append,List.size_toArray,size_zeroCells,Wt,hol,Uh,←Nat.add_mul]
      congr 1
      omega
     have BI:∀k y,some (w.heap.size,0)=some (k,y)->w.heap.size<=k∨∃q,β id=some (k,q):=by
      intro k y hh;simp at hh;exact .inl (by omega)
     refine h.move h0 Q8 RH rfl rfl rfl (by rw[Qt.size];omega) (fun k hk _=>Qt.old k hk) Qt.step.bs (fun k y hh=>⟨by simp at hh;rw[Qt.size];omega,BI k y hh⟩) (fun k y hh Bk=>by simp at hh;omega)
      (fun k y _ Bk j _=>⟨World.cell?_of_block (w:=w) (Qt.old k Bk),World.frozen?_of_block (w:=w) (Qt.old k Bk)⟩) ?_ ?_ (by intro j hj;simpa [A5,Bh,Aj] using hj)
     ·refine .inr ⟨w.heap.size,0,Af _ _ _,X5 Qt (KE h0 Q8 BI) holds hs.rep h1 hs.one,fun _ j _ hj=>?_,(fun q=>by cases q)⟩
      rw[Qt.bsz] at hj;exact Qt.frozen hj
     ·refine .inr ⟨w.heap.size,0,0,grownCap w (n+m) cap e,Af _ _ _,rfl,.inl rfl,QY,?_,by rw[Qt.size];omega⟩
      exact⟨by rw[Qt.bsz,JS];omega,.inr (H0 w.drew _ e)⟩
    rcases hbv with⟨hβ,_,rfl,ad,Lk⟩|⟨bb,ob,y,cap,hβ,Lk,hy,LO,Pg,TZ⟩
    ·rcases NL with⟨_,rfl⟩|⟨b',o',D7,_⟩
     ·by_cases WW:m=0
      ·subst WW;have hr:=I7 (P:=P) (w:=w) (t:=t) (tx:=tx) (ty:=o.type) (ts:=ts) (ad:=ad) hu hdx EL hi hs (List.eq_nil_of_length_eq_zero (by omega))
       rw[←Lk] at hr;have GG:new=[]:=List.eq_nil_of_length_eq_zero (by omega)
       subst GG;refine run hr next Q (hn _ _ (Bi β d none) ?_);rw[Lk];refine h.move h0 Q8 RH rfl rfl rfl (Nat.le_refl _) (fun _ _ _=>rfl) (fun _ _=>Gu.refl _ _) (fun k q hh=>by cases hh) (fun k q hh=>by cases hh) (fun _ _ _ _ _ _=>⟨rfl,rfl⟩) ?_ ?_ (by intro j hj;simpa [A5,Bh,Aj] using hj)
       ·exact .inl ⟨Af _ _ _,by simp⟩
       ·exact .inl ⟨Af _ _ _,rfl,rfl,ad,rfl⟩
      ·exact grow ad 0 [] Lk (by simp[Au]) (by simp) (by simp) (by cases ad with
        |none=>exact .inl ⟨rfl,rfl⟩
        |some p=>exact .inr ⟨p,rfl,by simp,fun j v hj=>by simp at hj⟩) (by omega)
     ·rw[hβ] at D7;cases D7
    ·rcases NL with⟨D7,_⟩|⟨b',o',D7,Iz,BM,_⟩
     ·rw[hβ] at D7;cases D7
     rw[hβ] at D7;simp at D7;obtain⟨rfl,rfl⟩:=D7;have hy:y=ob:=by rcases hy with hy|⟨_,hq⟩<;>omega
     subst hy;by_cases Kt:n+m<=cap
     ·have Afh:y+n*i.size+news.length<=bsz w bb:=by
       have h5:n*i.size+m*i.size<=cap*i.size:=by rw[←Nat.add_mul];exact Nat.mul_le_mul_right _ Kt
       have:=Pg.1;omega
      have hcell:∀k,k<news.length->(w.cell? ⟨bb,y+n*i.size+k,none⟩).isSome=true:=fun k hk=>N2 (by omega)
      have hr:=append_room_run (P:=P) (w:=w) (t:=t) (tx:=tx) (ty:=o.type) (ts:=ts) (b:=bb) (ob:=y) (n:=n) (cap:=cap) hu hdx EL hi hs Uh hcell (fun k hk=>BM rfl _ (by omega) (by omega)) Kt
      rw[←Lk] at hr;have hw:=Bd.setCells bb news (y+n*i.size) w
      have BI:∀k q,some (bb,y)=some (k,q)->w.heap.size<=k∨∃q',β id=some (k,q'):=by
       intro k q hh;simp at hh;obtain⟨rfl,rfl⟩:=hh;exact .inr ⟨_,hβ⟩
      refine run hr next Q (hn _ _ (Bi β d (some (bb,y))) ?_)
      have Kk:Ba (Bz s.hp β Y) w (w.setCells bb (y+n*i.size) news):=by
       have XF:Bz s.hp β Y bb:=.inl ⟨id,y,by rw[h0];trivial,hβ⟩
       exact⟨by rw[hw.size];exact Nat.le_refl _,fun k _ hk=>hw.other k (fun e=>hk (e ▸ XF)),fun k _=>hw.grow k⟩
      refine h.move h0 Q8 RH hw.os hw.tape hw.output (by rw[hw.size];exact Nat.le_refl _) (fun k _ hq=>hw.other k (by rintro rfl;exact hq _ hβ)) Kk.bs (fun k q hh=>⟨by simp at hh;rw[hw.size];omega,BI k q hh⟩) (fun k q hh _=>by rw[hβ];exact hh)
       (fun k q hh _ j hj=>by
        rw[hβ] at hh;cases hh;exact⟨World.cell?_setCells_out bb _ _ w ⟨bb,j,none⟩ (fun _ _=>by show j<y+n*i.size∨y+n*i.size+_<=j;omega),hw.frz j⟩) ?_ ?_ (by intro j hj;simpa [A5,Bh,Aj] using hj)
      ·refine .inr ⟨bb,y,Af _ _ _,fun j p hj=>?_,fun _ j hj Kp=>?_,(fun q=>by cases q)⟩
       ·rw[Cb];by_cases hjn:j<n*i.size
        ·rw[List.getElem?_append_left (by rw[List.length_take];omega),List.getElem?_take_of_lt hjn] at hj
         obtain⟨u,F5,h5,ht⟩:=Iz j p hj;rw[Cb] at F5;refine⟨u,?_,h5,ht.step Kk (KE h0 Q8 BI)⟩;rw[World.cell?_setCells_out bb _ _ w ⟨bb,y+j,none⟩ (fun _ _=>by show y+j<y+n*i.size∨y+n*i.size+_<=y+j;omega)]
         exact F5
        ·rw[List.getElem?_append_right (by rw[List.length_take];omega),List.length_take,Nat.min_eq_left Ajt] at hj
         obtain⟨u,F5,ht⟩:=hs.rep.get hj
         have Bk:j-n*i.size<news.length:=by
          rcases Nat.lt_or_ge (j-n*i.size) news.length with h|h
          ·exact h
          ·rw[List.getElem?_eq_none h] at F5;cases F5
         refine⟨u,?_,hs.one u (List.mem_of_getElem? F5),ht.step Kk (KE h0 Q8 BI)⟩;have:=World.cell?_setCells_in bb news (y+n*i.size) w hcell (j-n*i.size) Bk;rw[show y+j=y+n*i.size+(j-n*i.size) from by omega,this]
         rw[List.getElem?_eq_getElem Bk] at F5;exact F5
       ·rw[hw.bs] at Kp;rw[hw.frz];exact BM rfl j hj Kp
      ·exact .inr ⟨bb,y,y,cap,Af _ _ _,rfl,.inl rfl,Kt,Pg.step (hw.grow bb),by rw[hw.size];exact TZ⟩
     ·-- the old cells
      have hob:∀(j:Nat) p,(cc.take (n*i.size))[j]?=some p->∃v,w.cell? ⟨bb,y+j,none⟩=some v∧v.oneCell'=true∧Ap w (Bz s.hp β Y) p v:=by
       intro j p hj;rw[List.getElem?_take] at hj;split at hj
       ·obtain⟨v,hv,h5,ht⟩:=Iz j p hj;rw[Cb] at hv;exact⟨v,hv,h5,ht⟩
       ·cases hj
      have Dh:(cc.take (n*i.size)).length=n*i.size:=by rw[List.length_take];omega
      refine grow _ cap ((cc.take (n*i.size)).mapIdx fun j _=>(w.cell? ⟨bb,y+j,none⟩).getD undef) Lk ?_ ?_ (by simp only[List.length_mapIdx];exact Dh) (.inr ⟨_,rfl,by simp only[List.length_mapIdx];exact Dh,fun j v hj=>?_⟩) (by omega)
      ·refine Au.of_at (by simp) fun j p v hp hv=>?_
       obtain⟨u,F5,_,ht⟩:=hob j p hp;rw[List.getElem?_mapIdx,hp,Option.map_some,F5] at hv;simp at hv;subst hv;exact ht
      ·intro v hv;obtain⟨j,hj⟩:=List.mem_iff_getElem?.1 hv;rw[List.getElem?_mapIdx] at hj;cases hp:(cc.take (n*i.size))[j]? with
       |none=>rw[hp] at hj;cases hj
       |some p=>
        obtain⟨u,F5,h5,_⟩:=hob j p hp;rw[hp,Option.map_some,F5] at hj;simp at hj;subst hj;exact h5
      ·rw[List.getElem?_mapIdx] at hj;cases hp:(cc.take (n*i.size))[j]? with
       |none=>rw[hp] at hj;cases hj
       |some p=>
        obtain⟨u,F5,h5,_⟩:=hob j p hp;rw[hp,Option.map_some,F5] at hj;simp at hj;subst hj;rw[Cb];exact F5
   ·cases hk
  ·obtain⟨zz,n',c',hk,hp⟩:=Dy hk;obtain⟨hb,hk⟩:=Ae hk;simp only[Bool.and_eq_true,decide_eq_true_eq] at hb;obtain⟨⟨⟨⟨⟨ZM,RH⟩,Q8⟩,MM⟩,SY⟩,Xp⟩:=hb;have RH:d<N:=Nat.lt_of_succ_le (Nat.le_of_ble_eq_true RH);have Q8:s.hp d=none:=by simpa using Q8
   have JL:Ej N (some d)=true:=by simp[Ej,Nat.blt];omega
   rw[Jx] at MM hk;rw[Nz] at SY;have Uh:news.length=m*i.size:=by omega
   rcases El hp hbv with⟨Lk,_⟩|⟨_,_,_,Wv,_⟩|⟨_,_,_,Wv,_⟩
   ·refine⟨_,hk,fun next Q hn=>?_⟩
    by_cases WW:m=0
    ·subst WW;have hr:=I7 (P:=P) (w:=w) (t:=t) (tx:=tx) (ty:=o.type) (ts:=ts) (ad:=none) hu hdx EL hi hs (List.eq_nil_of_length_eq_zero (by omega))
     rw[←Lk] at hr;have GG:new=[]:=List.eq_nil_of_length_eq_zero (by omega)
     subst GG;refine run hr next Q (hn _ _ (Bi β d none) ?_);rw[Lk];refine h.stepR (d:=some d) (nw:=[(d,.ar false [])]) (β':=Bi β d none) JL (by simp[A3,Q8]) ⟨rfl,rfl,rfl,Ba.refl _ _,fun j hj=>Ad _ _ (by rintro rfl;exact hj Q8),?_,?_,?_,?_,?_,.inl ⟨Af _ _ _,rfl,rfl,none,rfl⟩,?_⟩
     ·intro j bx hm;simp at hm;rw[hm.2];trivial
     ·intro j bx hm;simp at hm;obtain⟨rfl,rfl⟩:=hm;exact .inl ⟨Af _ _ _,rfl⟩
     ·intro j bx k q hm hq;simp at hm;obtain⟨rfl,rfl⟩:=hm;rw[Af] at hq;cases hq
     ·intro j bx j' bx' k q q' hm Jk _ _;simp at hm Jk;rw[hm.1,Jk.1]
     ·intro j cells hm;simp at hm
     ·intro j hj;simp[A5,Bh,Aj] at hj;subst hj;exact .inr ⟨.ar false [],by simp⟩
    ·have hr:=append_grow_run (P:=P) (w:=w) (t:=t) (tx:=tx) (ty:=o.type) (ts:=ts) (ad:=none) (n:=0) (cap:=0) (olds:=[]) hu hdx EL hi hz hs (.inl ⟨rfl,rfl⟩) (by omega) (by rw[Nat.zero_add];exact SY) (by omega)
     rw[←Lk] at hr;refine run hr next Q (hn _ _ (Bi β d (some (w.heap.size,0))) ?_);have QY:0+m<=grownCap w (0+m) 0 e:=grownCap_ge w (0+m) 0 e
     have Qt:D0 w (w.drew.alloc (.cells (([]:List Value).toArray++news.toArray++Builtin.zeroCells z.cells (grownCap w (0+m) 0 e-(0+m))) e)) (([]:List Value).toArray++news.toArray++Builtin.zeroCells z.cells (grownCap w (0+m) 0 e-(0+m))) e:=
      ⟨rfl,rfl,rfl,fun k hk=>Below.heap_alloc w.drew _ k hk,by show (w.heap.push _).size=_;simp,(0,0),by show (w.heap.push _)[w.heap.size]?=_;simp,.inl rfl⟩
     have JS:(([]:List Value).toArray++news.toArray++Builtin.zeroCells z.cells (grownCap w (0+m) 0 e-(0+m))).size=grownCap w (0+m) 0 e*i.size:=by
      simp only[Array.size_append,List.size_toArray,size_zeroCells,Wt,Uh,List.length_nil,←Nat.add_mul];rw[Nat.zero_add (m*i.size),←Nat.add_mul]
      congr 1
      omega
     refine h.stepR (d:=some d) (nw:=[(d,.ar false new)]) JL (by simp[A3,Q8]) (L4 Qt Q8 trivial ?_ (fun cells hx=>by cases hx) ?_ (by intro j hj;simp[A5,Bh,Aj] at hj;exact .inr hj))
     ·refine .inr ⟨w.heap.size,0,Af _ _ _,?_,fun _ j _ hj=>?_,(fun q=>by cases q)⟩
      ·exact X5 (pre:=[]) Qt (MN Q8) trivial hs.rep (by simp) hs.one
      ·rw[Qt.bsz] at hj;exact Qt.frozen hj
     ·refine .inr ⟨w.heap.size,0,0,grownCap w (0+m) 0 e,Af _ _ _,by rw[Nat.zero_add],.inl rfl,by omega,?_,by rw[Qt.size];omega⟩
      exact⟨by rw[Qt.bsz,JS];omega,.inr (H0 w.drew _ e)⟩
   ·rw[Wv] at ZM;cases ZM
   ·rw[Wv] at ZM;cases ZM
 ·cases hk
theorem KK (h:Br N w0 X0 Y β s a w){c:Call}(ho:o.op=.call c)(hc:c.callee=.builtin .copy){b x:Operand}(Dl:c.args.toList=[b,x]) {t tx:TypeId}{ts:List TypeId}(Vk:c.argTypes.toList=t::tx::ts)
  {K:St->Option R} (hk:Zp P N s o.dst t tx (A8 s.tm b) (A8 s.tm x) K=some r):
  ∃s',K s'=some r∧∀(next:Act->World->Prop) (Q:Exit->Act->World->Prop),(∀a' w' β',Br N w0 X0 Y β' s' a' w'->next a' w')->o.wp P a w next Q:=by
 have Yi:c.args = #[b,x]:=by
  have:c.args=([b,x]:List Operand).toArray:=by rw[←Dl]
  exact this
 have HE:c.argTypes=(t::tx::ts).toArray:=by rw[←Vk]
 have run:∀{v:Value} {w1:World},(Builtin.copy_ (t::tx::ts).toArray o.type #[a.eval b,a.eval x]).run P w=.ok v w1->∀(next:Act->World->Prop) (Q:Exit->Act->World->Prop),next (a.put o.dst v) w1->o.wp P a w next Q:=by
  intro v w1 hr next Q hn;unfold Oper.wp execOp;rw[ho];simp only[resolve,hc,invoke,builtin,Sem.run_bind,Sem.run_pure,Result.andThen_ok,Yi,HE];have:(#[b,x]:Array Operand).map a.eval = #[a.eval b,a.eval x]:=by simp
  rw[this,hr];exact hn
 have hbv:=Bv h b;unfold Zp at hk;split at hk
 ·rename_i e hu;obtain⟨PN,hk⟩:=Ae hk;simp only[Bool.and_eq_true] at PN;obtain⟨Lc,JL⟩:=PN;obtain⟨i,hi⟩:∃i,P.info? e=some i:=Option.isSome_iff_exists.1 Lc;have Jx:As P e=i.size:=by unfold As;rw[hi];rfl
  have h1c:∀(m:Nat) (new:List PV),(match A8 s.tm b with
    |.view id es off n=>
     match s.hp id with
     |some (.ar false c)=>Ao (Nat.beq es (As P e)&&decide (off+n*es<=c.length)&&decide (new.length=m*es))
       (Aa (min m n) fun k=>Aa (A2 c (new.take (k*es)) off) fun c=>K ⟨A0 s.tm o.dst (.sc (.int .i64 k)),Bi s.hp id (some (.ar false c))⟩)
     |_=>none
    |_=>none)=some r->new.length=m*As P e:=by
   intro m new hk;split at hk
   ·split at hk
    ·obtain⟨hb,_⟩:=Ae hk;simp only[Bool.and_eq_true,decide_eq_true_eq] at hb;rw[←Nat.eq_of_beq_eq_true hb.1.1];exact hb.2
    ·cases hk
   ·cases hk
  obtain⟨_,m,new,news,hk,hs⟩:=Yd h hk h1c;split at hk
  ·rename_i id es off n hb;rw[hb] at hbv;split at hk
   ·rename_i cc h0;obtain⟨hb,hk⟩:=Ae hk;simp only[Bool.and_eq_true,decide_eq_true_eq] at hb;obtain⟨⟨Sj,Tn⟩,XG⟩:=hb;have Sj:=Nat.eq_of_beq_eq_true Sj;subst Sj;rw[Jx] at hk hs Tn XG hbv;have Uh:news.length=m*i.size:=by rw[←hs.rep.len];exact XG
    have YG:min m n*i.size<=m*i.size:=Nat.mul_le_mul_right _ (Nat.min_le_left _ _);have hkn:min m n*i.size<=n*i.size:=Nat.mul_le_mul_right _ (Nat.min_le_right _ _);have Iy:K ⟨A0 s.tm o.dst (.sc (.int .i64 ((min m n:Nat):Int))),Bi s.hp id (some (.ar false (A2 cc (new.take (min m n*i.size)) off)))⟩=some r:=hk;refine⟨_,Iy,fun next Q hn=>?_⟩
    have ZE:∀{β':Bt} {Bs:Nat->Option A1} {w':World},Br N w0 X0 Y β' ⟨s.tm,Bs⟩ a w'->Br N w0 X0 Y β' ⟨A0 s.tm o.dst (.sc (.int .i64 ((min m n:Nat):Int))),Bs⟩ (a.put o.dst (goInt ((min m n:Nat):Int))) w':=
     fun hh=>hh.put JL (Ap.sc _) (fun _ hx=>by cases hx)
    have UX:new.take (min m n*i.size)=[]->Bi s.hp id (some (.ar false (A2 cc (new.take (min m n*i.size)) off)))=s.hp:=by
     intro e;rw[e];refine Rt _ ?_;rw[h0];simp[A2]
    have nothing:min m n*i.size=0->∀(ad:Option Addr) (cap:Nat),a.eval b=.slice ad n cap->o.wp P a w next Q:=by
     intro e ad cap Lk;have hr:=FH (P:=P) (w:=w) (w1:=w) (t:=t) (ty:=o.type) (ts:=tx::ts) (ad:=ad) (n:=n) (cap:=cap) hu hi hs (by rw[e];cases ad<;>simp[storeCells])
     rw[←Lk] at hr;refine run hr next Q (hn _ _ β (ZE ?_));rw[UX (by rw[e,List.take_zero])]
     exact h
    rcases hbv with⟨hβ,_,rfl,ad,Lk⟩|⟨bb,ob,y,cap,hβ,Lk,hy,LO,Pg,TZ⟩
    ·exact nothing (by simp) ad 0 Lk
    ·by_cases WW:min m n*i.size=0
     ·exact nothing WW _ _ Lk
     rcases h.box id _ h0 with⟨D7,_⟩|⟨b',o',D7,Iz,BM,_⟩
     ·rw[hβ] at D7;cases D7
     rw[hβ] at D7;simp at D7;obtain⟨rfl,rfl⟩:=D7;have HY:n≠0:=by rintro rfl;simp at WW
     have hy:y=ob+off:=by rcases hy with hy|⟨hq,_⟩<;>first|exact absurd hq HY|exact hy
     subst hy;have Bk:(news.take (min m n*i.size)).length=min m n*i.size:=by rw[List.length_take,Uh];omega
     have hcell:∀k,k<(news.take (min m n*i.size)).length->(w.cell? ⟨bb,ob+off+k,none⟩).isSome=true:=by
      intro k hk;obtain⟨v,hv,_⟩:=Iz (off+k) _ (List.getElem?_eq_getElem (by omega))
      rw[Cb] at hv;rw[Nat.add_assoc,hv];rfl
     have WP:∀k,k<(news.take (min m n*i.size)).length->w.frozen? ⟨bb,ob+off+k,none⟩=false:=fun k hk=>by
      obtain⟨u,hu⟩:=Option.isSome_iff_exists.1 (hcell k hk);exact BM rfl _ (by omega) (Re hu)
     have h1:∀u∈news.take (min m n*i.size),u.oneCell'=true:=fun u hu=>hs.one u (List.mem_of_mem_take hu)
     have h3:=run_storeCells_cells (P:=P) bb (ob+off) (news.take (min m n*i.size)) 0 w (fun k hk=>by simpa using hcell k hk) (fun k hk=>by simpa using WP k hk) h1
     have hr:=FH (P:=P) (w:=w) (t:=t) (ty:=o.type) (ts:=tx::ts) (ad:=some ⟨bb,ob+off,none⟩) (n:=n) (cap:=cap) hu hi hs h3;rw[←Lk] at hr;simp only[Nat.add_zero] at hr;refine run hr next Q (hn _ _ β (ZE ?_))
     refine h.write h0 trivial trivial hβ (Bd.setCells bb _ _ w) ?_ (fun cells hx=>by cases hx) (fun _ hx=>by cases hx) (fun j hj=>hj) (fun j hj=>by
      refine World.cell?_setCells_out bb _ _ w ⟨bb,j,none⟩ (fun _ _=>?_)
      have hj:¬(ob<=j):=hj;show j<ob+off∨ob+off+_<=j;omega)
     have Kk:Ba (Bz s.hp β Y) w (w.setCells bb (ob+off) (news.take (min m n*i.size))):=by
      have hw:=Bd.setCells bb (news.take (min m n*i.size)) (ob+off) w;have XF:Bz s.hp β Y bb:=.inl ⟨id,ob,by rw[h0];trivial,hβ⟩
      exact⟨by rw[hw.size];exact Nat.le_refl _,fun k _ hk=>hw.other k (fun e=>hk (e ▸ XF)),fun k _=>hw.grow k⟩
     have hll:(new.take (min m n*i.size)).length=min m n*i.size:=by rw[List.length_take,XG];omega
     refine .inr ⟨bb,ob,hβ,fun j p hj=>?_,fun _ j hj Kp=>?_,(fun x=>by cases x)⟩
     ·rw[Cb];rcases M6 (by omega) hj with⟨h3,h4,h5⟩|⟨h3,h5⟩
      ·have Afv:j-off<min m n*i.size:=by omega
       rw[List.getElem?_take_of_lt Afv] at h5;obtain⟨u,hu,hcu⟩:=hs.rep.get h5;have VP:j-off<(news.take (min m n*i.size)).length:=by omega
       refine⟨u,?_,hs.one u (List.mem_of_getElem? hu),hcu.step Kk (fun _ _ x=>x)⟩
       have:=World.cell?_setCells_in bb (news.take (min m n*i.size)) (ob+off) w hcell (j-off) VP;rw[show ob+j=ob+off+(j-off) from by omega,this]
       rw[←List.getElem?_eq_getElem VP,List.getElem?_take_of_lt Afv];exact hu
      ·obtain⟨v,hv,h6,Va⟩:=Iz j p h5;rw[Cb] at hv;refine⟨v,?_,h6,Va.step Kk (fun _ _ x=>x)⟩
       rw[World.cell?_setCells_out bb _ _ w ⟨bb,ob+j,none⟩ (fun _ _=>by show ob+j<ob+off∨ob+off+_<=ob+j;omega)]
       exact hv
     ·rw[(Bd.setCells bb _ _ w).bs] at Kp;rw[(Bd.setCells bb _ _ w).frz];exact BM rfl j hj Kp
   ·cases hk
  ·cases hk
 ·cases hk
theorem KV (h:Br N w0 X0 Y β s a w){G:Glo}(Ig:FX P G w0 X0){C:E9}{call:Ah}(Co:∀f args res,call f args=some res->Dr G P f args res){K:St->Option R}(hk:Pw C P N call s o K=some r):
  ∃s',K s'=some r∧∀(next:Act->World->Prop) (Q:Exit->Act->World->Prop),(∀a' w' β',Br N w0 X0 Y β' s' a' w'->next a' w')->o.wp P a w next Q:=by
 unfold Pw at hk;split at hk
 ·rename_i t x y ho;obtain⟨hd,hk⟩:=Ae hk;exact HH h ho (by simpa using hd) hk
 ·rename_i c ho;split at hk
  ·rename_i hc;obtain⟨d,hd,Cs⟩:=Bq hk;obtain⟨b,xs,Yo,Dq⟩:=Ar Cs;obtain⟨x,ys,hys,Mm⟩:=Ar Dq;obtain⟨Tg,Xx⟩:=B7 Mm;obtain⟨t,us,RB,XI⟩:=Ar Xx;obtain⟨tx,vs,G8,hk6⟩:=Ar XI;rw[hys,Tg] at Yo;rw[G8] at RB;exact BQ h ho hc hd Yo RB hk6
  ·rename_i hc;obtain⟨b,xs,Yo,Dq⟩:=Ar hk;obtain⟨x,ys,hys,Mm⟩:=Ar Dq;obtain⟨Tg,Xx⟩:=B7 Mm;obtain⟨t,us,RB,XI⟩:=Ar Xx;obtain⟨tx,vs,G8,hk6⟩:=Ar XI;rw[hys,Tg] at Yo;rw[G8] at RB;exact KK h ho hc Yo RB hk6
  ·rename_i f hc;exact EM h Ig Co ho hc hk
  ·cases hk
 ·cases hk
theorem JD (h:Br N w0 X0 Y β s a w){G:Glo}(Ig:FX P G w0 X0){C:E9}{call:Ah}(Co:∀f args res,call f args=some res->Dr G P f args res){K:St->Option R}(hk:FP C P N call o s K=some r):
  ∃s',K s'=some r∧∀(next:Act->World->Prop) (Q:Exit->Act->World->Prop),(∀a' w' β',Br N w0 X0 Y β' s' a' w'->next a' w')->o.wp P a w next Q:=by
 unfold FP at hk;cases hm:Nf C P o.op
 ·rw[hm] at hk;exact KI h Ig Co hk
 ·rw[hm] at hk;exact KV h Ig Co hk
end
end
end Go.Proofs.Yteicjnihnacadaa.Pv
